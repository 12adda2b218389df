/- Two journals on one device, plainly: an operation on one leaves the rest of the device as it was. -/
import Derived.Test.YtplclpileejemaaDoorJ34Z
namespace Go.Proofs.YtplclpileejemaaDoor
open Go.RowKit
set_option linter.unusedVariables false
set_option linter.unusedSimpArgs false

/-- The sectors of both areas. -/
def inA (R : JR) (s : Nat) : Prop := R.at_ ≤ s ∧ s < R.at_ + 2 * R.half
theorem inA_in {R : JR} {s : Nat} (h : inA R s) : inR R s := ⟨h.1, by have := h.2; unfold JR.half at this; omega⟩
theorem area_room2 {R : JR} {h n : Nat} (hh : h ≤ 1) (hn : n ≤ R.half) : R.area h + n ≤ R.at_ + 2 * R.half := by
  unfold JR.area
  rcases (show h = 0 ∨ h = 1 by omega) with rfl | rfl <;> omega
/-- Outside the areas nothing changed. -/
structure Fr (R : JR) (S S' : DS) : Prop where
  len : S'.dur.length = S.dur.length
  vis : ∀ s, s < S.dur.length → ¬ inA R s → S'.visible s = S.visible s
  cand : ∀ s, s < S.dur.length → ¬ inA R s → ∀ x, Cand S' s x → Cand S s x
theorem Fr.refl (R : JR) (S : DS) : Fr R S S := ⟨rfl, fun _ _ _ => rfl, fun _ _ _ _ h => h⟩
theorem WroteL.fr {S S' : DS} {R : JR} {a : Nat} {L : List (List UInt8)} (h : WroteL S S' a L) (ha : R.at_ ≤ a) (hL : a + L.length ≤ R.at_ + 2 * R.half) : Fr R S S' := by
  refine ⟨by rw [h.dur], fun s _ hs => ?_, fun s _ hs x hx => ?_⟩
  · rw [h.visible s, dif_neg (fun h9 => hs ⟨by omega, by omega⟩)]
  · rcases h.cand hx with h1 | ⟨h1, h2⟩
    · exact h1
    · have h3 := (List.getElem?_eq_some_iff.1 h2).1
      exact absurd ⟨by omega, by omega⟩ hs
theorem WrA.fr {S S1 S' : DS} {R : JR} {a k used : Nat} {L : List (List UInt8)} {e : Int} (h : WrA S S1 S' a L k used e) (ha : R.at_ ≤ a) (hL : a + L.length ≤ R.at_ + 2 * R.half) : Fr R S S' := by
  have h1 : Fr R S S1 := h.wr.fr ha (by rw [List.length_take]; omega)
  refine ⟨h.dur, fun s hs hn => ?_, fun s hs hn x hx => ?_⟩
  · by_cases he : e = 0
    · rw [(h.done he).2.2.2.2.2 s hs]; exact h1.vis s hs hn
    · rw [(h.fail he).visible]; exact h1.vis s hs hn
  · rcases h.cand hs hx with h2 | ⟨h2, h3⟩
    · exact h2
    · have h4 := (List.getElem?_eq_some_iff.1 h3).1
      exact absurd ⟨by omega, by omega⟩ hn
theorem flush_fr {S : DS} {R : JR} (hd : S.down = false) : Fr R S S.flush.1 := by
  rcases flush_cases hd with ⟨_, h2, _, h4, h5⟩ | ⟨_, h2, _⟩
  · exact ⟨h4, fun s hs _ => h5 s hs, fun s hs _ x hx => by rw [cand_none h2 hx, h5 s hs]; exact cand_visible S s⟩
  · exact ⟨by rw [h2.dur], fun s _ _ => h2.visible s, fun s _ _ x hx => h2.cand hx⟩
theorem area_in {R : JR} {w : Nat} : R.at_ ≤ R.area w := Nat.le_add_right _ _
theorem moveJ_fr {S : DS} {R : JR} {w f : Nat} {E : List (List UInt8)} (hw : w ≤ 1) (hl : JLim (nextG w (secL S R.at_ R.cnt)) f E.length E) (hfit : sizeE E ≤ R.half) : Fr R S (moveJ S R w f E).1 := by
  have hsz := seqJ_size hl
  rw [← recsR_recsJ] at hsz
  obtain ⟨S1, k, hwr⟩ := wrA_wrote S (R.area w) hl
  have h1 := hwr.fr (R := R) area_in (by rw [hsz]; exact area_room2 hw hfit)
  unfold moveJ
  simp only
  split
  · exact Fr.refl R S
  split
  · exact h1
  · exact h1
theorem appJ_fr {S : DS} {R : JR} {J : JD} {c : Nat} {b : List UInt8} (h : JI S R J c) (hb : b.length ≤ 100000) (hn : J.next + 1 ≤ 2147483647) : Fr R S (appJ S R J b).1 := by
  have hfit := h.fit
  have hused := h.used
  have hlen := sizeE_len J.ents
  unfold JD.next at hn
  by_cases h9 : R.half - J.used < needN b.length
  · have e : (appJ S R J b).1 = S := by
      unfold appJ
      rw [if_neg (by rw [h.failed]; simp), if_neg (by omega), if_pos h9]
    rw [e]
    exact Fr.refl R S
  · have hrok : splitE (bodR J.gen (J.ents.length + 1) b) = 0 := bodR_ok h.w.lim.g (by omega) (by omega)
    have hsl' : (splitL (bodR J.gen (J.ents.length + 1) b)).length = needN b.length := splitL_length hrok
    have ha := area_room2 (R := R) (h := J.gen % 2) (n := sizeE J.ents + needN b.length) (by omega) (by omega)
    obtain ⟨k, hk, hw, _⟩ := wrL_wrote (splitL (bodR J.gen (J.ents.length + 1) b)) S (R.area (J.gen % 2) + J.used)
    have h1 := hw.fr (R := R) (Nat.le_trans area_in (Nat.le_add_right _ _)) (by rw [List.length_take]; omega)
    unfold appJ
    rw [if_neg (by rw [h.failed]; simp), if_neg (by omega), if_neg h9]
    split
    · exact h1
    · exact h1
theorem synJ_fr {S : DS} {R : JR} {J : JD} (hd : S.down = false) : Fr R S (synJ S J).1 := by
  unfold synJ
  split
  · exact Fr.refl R S
  split
  · exact flush_fr hd
  · exact flush_fr hd
theorem trnJ_fr {S : DS} {R : JR} {J : JD} {c : Nat} {t : Int} (h : JI S R J c) (hn : J.next ≤ 2147483647) (hg : J.gen + 2 ≤ 2147483647) : Fr R S (trnJ S R J t).1 := by
  unfold trnJ
  split
  · exact Fr.refl R S
  split
  · exact Fr.refl R S
  split
  · exact Fr.refl R S
  · rename_i h0 h1 h2
    unfold JD.next at h1 hn
    obtain ⟨k, rfl⟩ : ∃ k : Nat, t = ((J.first + k : Nat) : Int) := ⟨t.toNat - J.first, by omega⟩
    rw [Int.toNat_natCast, Nat.add_sub_cancel_left]
    have hm := h.mov (k := k) (by omega) (by unfold JD.next; omega) (by omega)
    have h3 := moveJ_fr (by omega) hm.lim hm.fit
    split
    · exact h3
    · exact h3
theorem Ok.step_fr {S : DS} {R : JR} {J : JD} {t : Nat} (h : Ok S R J t) (ht : t ≤ 1000) (o : JOp) : Fr R S (stepJ S R J o).1 := by
  obtain ⟨c, hc⟩ := h.ji
  have h1 := h.gen
  have h2 := h.nx
  unfold stepJ
  split
  · exact appJ_fr hc (by rw [lawB_length]; omega) (by omega)
  split
  · exact synJ_fr hc.down
  · exact trnJ_fr hc (by omega) (by omega)
theorem NoDec.fr {S S' : DS} {R R2 : JR} (h : NoDec S R2) (hf : Fr R S S') (hd : ∀ s, inR R2 s → ¬ inR R s) (hr : R2.at_ + R2.cnt ≤ S.dur.length) : NoDec S' R2 := fun s hs x hx =>
  h s hs x (hf.cand s (by have := hs.2; omega) (fun e => hd s hs (inA_in e)) x hx)
theorem JW.fr {S S' : DS} {R R2 : JR} {g f c d : Nat} {E : List (List UInt8)} (h : JW S R2 g f c E d) (hf : Fr R S S') (hd : ∀ s, inR R2 s → ¬ inR R s) (hr : R2.at_ + R2.cnt ≤ S.dur.length) : JW S' R2 g f c E d := by
  have hC : ∀ s, inR R2 s → ∀ x, Cand S' s x → Cand S s x := fun s hs x hx => hf.cand s (by have := hs.2; omega) (fun e => hd s hs (inA_in e)) x hx
  have hfit := h.fit
  have hle := (seqJ_prefix g f c E d).length_le
  exact ⟨h.lim, h.fit, h.cd, h.dn, fun s hs x hx => h.gens s hs x (hC s hs x hx), fun i hi x hx => h.dur i hi x (hC _ (inR_area (by omega) (by omega)) x hx), fun i hi x hx => h.own i hi x (hC _ (inR_area (by omega) hi) x hx)⟩
theorem JI.fr {S S' : DS} {R R2 : JR} {J : JD} {c : Nat} (h : JI S R2 J c) (hf : Fr R S S') (hd : ∀ s, inR R2 s → ¬ inR R s) (hdn : S'.down = false) : JI S' R2 J c := by
  have hfit := h.fit
  have hus := h.used
  have hr := h.rng
  refine ⟨h.w.fr hf hd h.rng, h.sy, h.used, fun i hi => ?_, h.failed, hdn, by rw [hf.len]; exact h.rng, h.short⟩
  have hin : inR R2 (R2.area (J.gen % 2) + i) := inR_area (by omega) (by omega)
  rw [hf.vis _ (by have := hin.2; omega) (fun e => hd _ hin (inA_in e))]
  exact h.vis i hi
/-- The other journal is as it was. -/
theorem Ok.fr {S S' : DS} {R R2 : JR} {J J' : JD} {t u : Nat} (h : Ok S R2 J t) (hf : Fr R S S') (hd : ∀ s, inR R2 s → ¬ inR R s) (h' : Ok S' R J' u) (hu : t ≤ u) : Ok S' R2 J u := by
  obtain ⟨c, hc⟩ := h.ji
  obtain ⟨c', hc'⟩ := h'.ji
  exact ⟨⟨c, hc.fr hf hd hc'.down⟩, h'.lim, by have := h.gen; omega, by have := h.nx; omega, h'.room⟩
/-- A sector of equal bytes is no part. -/
theorem decE_mark (b : UInt8) : decE (List.replicate 256 b) ≠ 0 := fun h => by
  by_cases hb : b = 0
  · subst hb; exact decE_zeros h
  · have h1 := (decE_ok h).2.2.1
    have h2 : szL (List.replicate 256 b) = b.toNat * 257 := by
      have h4 : seg (List.replicate 256 b) 30 2 = [b, b] := by
        unfold seg
        rw [List.drop_replicate, List.take_replicate]
        rfl
      unfold szL
      rw [h4]
      show (0 * 256 + b.toNat) * 256 + b.toNat = _
      omega
    have h3 : b.toNat ≠ 0 := fun e => hb (by rw [← UInt8.toNat_inj]; exact e)
    omega
/-- The sectors below k were written. -/
structure Fill (S : DS) (k : Nat) (b : List UInt8) : Prop where
  lim : S.limit = none
  down : S.down = false
  len : S.dur.length = 48
  room : Roomy S (999999000 - k)
  vis : ∀ s, s < k → S.visible s = b
  cand : ∀ s x, s < 48 → Cand S s x → x = zeros ∨ x = b
theorem Fill.new (b : List UInt8) : Fill (newDS 48) 0 b := by
  refine ⟨rfl, rfl, List.length_replicate .., ⟨by show 0 + _ ≤ _; omega, by show 0 + _ ≤ _; omega, by show 0 ≤ _; omega⟩, fun s hs => by omega, fun s x hs hx => ?_⟩
  have hz : ∀ n s, s < n → (newDS n).dur.getD s zeros = zeros := fun n s h => by simp [newDS, List.getD, h]
  rcases hx with hx | hx
  · exact .inl (hx.trans (hz 48 s hs))
  · cases hx
theorem Fill.write {S : DS} {k : Nat} {b : List UInt8} (h : Fill S k b) (hk : k < 48) (hb : b.length = 256) : (S.write k b).2 = 0 ∧ Fill (S.write k b).1 (k + 1) b := by
  have hl := h.len
  obtain ⟨h1, h2, h3, h4⟩ := write_nolim (s := k) h.lim h.down (by omega) hb
  rcases write_cases S k b with ⟨_, _, hw⟩ | ⟨h9, _⟩
  case inr => exact absurd h1 h9
  refine ⟨h1, h2, h3, by omega, write_room (h.room.less (by omega)) k b, fun s hs => ?_, fun s x hs hx => ?_⟩
  · rw [hw.visible s]
    by_cases e : k = s
    · rw [if_pos e]
    · rw [if_neg e]; exact h.vis s (by omega)
  · rcases hw.cand hx with h5 | ⟨_, h5⟩
    · exact h.cand s x hs h5
    · exact .inr h5
theorem Fill.nodec {S : DS} {k : Nat} {b : UInt8} {R : JR} (h : Fill S k (List.replicate 256 b)) (hR : R.at_ + R.cnt ≤ 48) : NoDec S R := fun s hs x hx => by
  rcases h.cand s x (by have := hs.2; omega) hx with rfl | rfl
  · exact decE_zeros
  · exact decE_mark b
/-- A range is formatted. -/
theorem form_ok {S : DS} {R : JR} {m : Nat} (h : NoDec S R) (hl : S.limit = none) (hd : S.down = false) (h8 : 8 ≤ R.cnt) (hR : R.at_ + R.cnt ≤ S.dur.length) (hr : Roomy S (m + 2)) :
    JLim (nextG 0 (secL S R.at_ R.cnt)) 0 0 [] ∧ ∃ S1, (moveJ S R 0 0 []).1 = S1 ∧ (moveJ S R 0 0 []).2.1 = 0 ∧ JW S1 R 0 0 0 [] 0 ∧ S1.limit = none ∧ S1.down = false ∧ S1.dur.length = S.dur.length ∧ Roomy S1 m ∧ Fr R S S1 := by
  obtain ⟨f1, f2, f3, f4, f5⟩ := format_done h hl hd h8 hR
  have hn0 := h.next (w := 0) (by omega)
  have hlim0 : JLim (nextG 0 (secL S R.at_ R.cnt)) 0 0 [] := by rw [hn0]; exact jlim_nil (by omega)
  exact ⟨hlim0, _, rfl, f1, f2, f3, f4, f5, moveJ_room hlim0 hr, moveJ_fr (Nat.zero_le _) hlim0 (by show 1 ≤ R.half; unfold JR.half; omega)⟩
/-- A formatted range is opened. -/
theorem begin_ok {S1 : DS} {R : JR} (f2 : JW S1 R 0 0 0 [] 0) (f3 : S1.limit = none) (f4 : S1.down = false) (h8 : 8 ≤ R.cnt) (hR : R.at_ + R.cnt ≤ S1.dur.length) (hr : Roomy S1 999990002) :
    currL S1 R = some ⟨0, 0, []⟩ ∧ JLim (nextG (1 - (0 : Nat) % 2) (secL S1 R.at_ R.cnt)) 0 ([] : List (List UInt8)).length [] ∧ ∃ S2, moveJ S1 R (1 - (0 : Nat) % 2) 0 [] = (S2, 0, ⟨1, 1, 0, [], 0, 0⟩) ∧ S2.dur.length = S1.dur.length ∧ Ok S2 R ⟨1, 1, 0, [], 0, 0⟩ 1 ∧ Fr R S1 S2 ∧ (∀ m, Roomy S1 (m + 2) → Roomy S2 m) := by
  have hb := f2.base
  have hnx := f2.next
  have hmov : Mov S1 R 0 (fun y => ∃ k, 0 ≤ k ∧ k ≤ ([] : List (List UInt8)).length ∧ y = ⟨0, 0, ([] : List (List UInt8)).take k⟩) 0 0 [] :=
    ⟨hb, f2.gens, by decide, by decide, (fun b hb => by cases hb), by show 1 ≤ R.half; unfold JR.half; omega, hR⟩
  obtain ⟨e0, e1⟩ := moveJ_nolim hmov f3 f4
  obtain ⟨m1, m2, m3, m4, m5, m6, _⟩ := moveJ_ok hmov e0
  rw [hnx] at m2
  obtain ⟨y, hy, hyg, k, _, hk, hyk⟩ := hb.curr (choice_visible S1 R)
  rw [List.take_nil] at hyk
  rw [← currL_F, hyk] at hy
  have hroom2 := moveJ_room hmov.lim (m := 1000000000 - 10000 * 1) (hr.less (by show 1000000000 - 10000 * 1 + 1 + 1 ≤ _; omega))
  have hroomA : ∀ m, Roomy S1 (m + 2) → Roomy (moveJ S1 R (1 - (0 : Nat) % 2) 0 []).1 m := fun m h => moveJ_room hmov.lim h
  have hfr := moveJ_fr (R := R) (by decide) hmov.lim hmov.fit
  have hlim1 := hmov.lim
  obtain ⟨z, hz⟩ : ∃ z, moveJ S1 R (1 - (0 : Nat) % 2) 0 [] = z := ⟨_, rfl⟩
  rw [hz] at e0 e1 m1 m2 m3 m4 m5 m6 hroom2 hfr hroomA
  obtain ⟨S2, ez, jg, ju, jf, je, js, jx⟩ := z
  have hf := m1.failed
  have hu := m1.used
  simp only at e0 m2 m3 m4 m5 hf hu
  subst e0 m2 m3 m4 m5 hf
  have hu1 : ju = 1 := hu
  subst hu1
  exact ⟨hy, hlim1, S2, hz, m6, ⟨⟨_, m1⟩, e1, by show 1 ≤ 1 + 1; omega, by show 0 ≤ 1; omega, hroom2⟩, hfr, hroomA⟩
/-- What lies outside both ranges. -/
def Out (R R2 : JR) (S : DS) (b : List UInt8) : Prop := ∀ s, s < S.dur.length → ¬ inA R s → ¬ inA R2 s → S.visible s = b
theorem Out.fr {R R2 : JR} {S S' : DS} {b : List UInt8} (h : Out R R2 S b) (hf : Fr R S S') : Out R R2 S' b := fun s hs h1 h2 => by
  rw [hf.len] at hs
  rw [hf.vis s hs h1]
  exact h s hs h1 h2
theorem Out.swap {R R2 : JR} {S : DS} {b : List UInt8} (h : Out R R2 S b) : Out R2 R S b := fun s hs h1 h2 => h s hs h2 h1
/-- Two journals are begun on a device that was written full. -/
theorem two_start {S : DS} {b : UInt8} {R R2 : JR} (h : Fill S 48 (List.replicate 256 b)) (h8 : 8 ≤ R.cnt) (h82 : 8 ≤ R2.cnt) (hR : R.at_ + R.cnt ≤ 48) (hR2 : R2.at_ + R2.cnt ≤ 48) (hd : ∀ s, inR R s → ¬ inR R2 s) :
    ∃ (S1 S2 S3 S4 : DS),
      (JLim (nextG 0 (secL S R.at_ R.cnt)) 0 0 [] ∧ (moveJ S R 0 0 []).1 = S1 ∧ (moveJ S R 0 0 []).2.1 = 0 ∧ Roomy S 2 ∧ S.down = false ∧ S.dur.length = 48) ∧
      (JLim (nextG 0 (secL S1 R2.at_ R2.cnt)) 0 0 [] ∧ (moveJ S1 R2 0 0 []).1 = S2 ∧ (moveJ S1 R2 0 0 []).2.1 = 0 ∧ Roomy S1 2 ∧ S1.down = false ∧ S1.dur.length = 48) ∧
      (currL S2 R = some ⟨0, 0, []⟩ ∧ JLim (nextG (1 - (0 : Nat) % 2) (secL S2 R.at_ R.cnt)) 0 ([] : List (List UInt8)).length [] ∧ moveJ S2 R (1 - (0 : Nat) % 2) 0 [] = (S3, 0, ⟨1, 1, 0, [], 0, 0⟩) ∧ Roomy S2 2 ∧ S2.down = false ∧ S2.dur.length = 48) ∧
      (currL S3 R2 = some ⟨0, 0, []⟩ ∧ JLim (nextG (1 - (0 : Nat) % 2) (secL S3 R2.at_ R2.cnt)) 0 ([] : List (List UInt8)).length [] ∧ moveJ S3 R2 (1 - (0 : Nat) % 2) 0 [] = (S4, 0, ⟨1, 1, 0, [], 0, 0⟩) ∧ Roomy S3 2 ∧ S3.down = false ∧ S3.dur.length = 48) ∧
      Ok S4 R ⟨1, 1, 0, [], 0, 0⟩ 1 ∧ Ok S4 R2 ⟨1, 1, 0, [], 0, 0⟩ 1 ∧ S4.dur.length = 48 ∧ Out R R2 S4 (List.replicate 256 b) := by
  have hd2 : ∀ s, inR R2 s → ¬ inR R s := fun s h1 h2 => hd s h2 h1
  have hl0 := h.len
  have hO0 : Out R R2 S (List.replicate 256 b) := fun s hs _ _ => h.vis s (by omega)
  obtain ⟨a1, S1, a2, a3, a4, a5, a6, a7, a8, a9⟩ := form_ok (m := 999990100) (h.nodec hR) h.lim h.down h8 (by omega) (h.room.less (by omega))
  obtain ⟨b1, S2, b2, b3, b4, b5, b6, b7, b8, b9⟩ := form_ok (m := 999990050) ((h.nodec hR2).fr a9 hd2 (by omega)) a5 a6 h82 (by omega) (a8.less (by omega))
  have c0 : JW S2 R 0 0 0 [] 0 := a4.fr b9 hd (by omega)
  obtain ⟨c1, c2, S3, c3, c4, c5, c6, c7⟩ := begin_ok c0 b5 b6 h8 (by omega) (b8.less (by omega))
  obtain ⟨cc, hcc⟩ := c5.ji
  have d0 : JW S3 R2 0 0 0 [] 0 := b4.fr c6 hd2 (by omega)
  obtain ⟨d1, d2, S4, d3, d4, d5, d6, d7⟩ := begin_ok d0 c5.lim hcc.down h82 (by omega) (c7 _ (b8.less (by omega)))
  exact ⟨S1, S2, S3, S4, ⟨a1, a2, a3, h.room.less (by omega), h.down, hl0⟩, ⟨b1, b2, b3, a8.less (by omega), a6, by omega⟩, ⟨c1, c2, c3, b8.less (by omega), b6, by omega⟩, ⟨d1, d2, d3, (c7 2 (b8.less (by omega))), hcc.down, by omega⟩,
    c5.fr d6 hd d5 (Nat.le_refl _), d5, by omega, ((((hO0.fr a9).swap.fr b9).swap.fr c6).swap.fr d6).swap⟩
/-- Two journals, after t operations. -/
structure Both (S : DS) (R R2 : JR) (J J2 : JD) (b : List UInt8) (t : Nat) : Prop where
  one : Ok S R J t
  two : Ok S R2 J2 t
  len : S.dur.length = 48
  out : Out R R2 S b
theorem Both.swap {S : DS} {R R2 : JR} {J J2 : JD} {b : List UInt8} {t : Nat} (h : Both S R R2 J J2 b t) : Both S R2 R J2 J b t := ⟨h.two, h.one, h.len, h.out.swap⟩
theorem Both.step {S : DS} {R R2 : JR} {J J2 : JD} {b : List UInt8} {t : Nat} (h : Both S R R2 J J2 b t) (hd : ∀ s, inR R2 s → ¬ inR R s) (ht : t ≤ 1000) (o : JOp) : Both (stepJ S R J o).1 R R2 (stepJ S R J o).2.1 J2 b (t + 1) := by
  have hl := h.len
  obtain ⟨h1, h2, _⟩ := h.one.step ht (by omega) o
  have hf := h.one.step_fr ht o
  exact ⟨h1, h.two.fr hf hd h1 (by omega), by omega, h.out.fr hf⟩
theorem Both.up {S : DS} {R R2 : JR} {J J2 : JD} {b : List UInt8} {t : Nat} (h : Both S R R2 J J2 b t) : Both S R R2 J J2 b (t + 1) := ⟨h.one.up, h.two.up, h.len, h.out⟩
/-- Both are opened again. -/
theorem Both.opens {S : DS} {R R2 : JR} {J J2 : JD} {b : List UInt8} {t : Nat} (h : Both S R R2 J J2 b t) (hd : ∀ s, inR R2 s → ¬ inR R s) (ht : t ≤ 900) :
    ∃ (S1 S2 : DS) (J3 J4 : JD), (currL S R = some ⟨J.gen, J.first, J.ents⟩ ∧ JLim (nextG (1 - J.gen % 2) (secL S R.at_ R.cnt)) J.first J.ents.length J.ents ∧ sizeE J.ents ≤ 5000 ∧ Roomy S 10000 ∧ S.down = false ∧ moveJ S R (1 - J.gen % 2) J.first J.ents = (S1, 0, J3) ∧ S.dur.length = 48) ∧
      (currL S1 R2 = some ⟨J2.gen, J2.first, J2.ents⟩ ∧ JLim (nextG (1 - J2.gen % 2) (secL S1 R2.at_ R2.cnt)) J2.first J2.ents.length J2.ents ∧ sizeE J2.ents ≤ 5000 ∧ Roomy S1 5500 ∧ S1.down = false ∧ moveJ S1 R2 (1 - J2.gen % 2) J2.first J2.ents = (S2, 0, J4) ∧ S1.dur.length = 48) ∧
      J3.first = J.first ∧ J3.ents = J.ents ∧ J4.first = J2.first ∧ J4.ents = J2.ents := by
  have hl := h.len
  obtain ⟨a1, a2, a3, a4, a5, a6, a7⟩ := h.one.open (by omega) (by omega)
  obtain ⟨c, hc⟩ := h.one.ji
  have g1 := h.one.gen
  have g2 := h.one.nx
  have hm := hc.mov (k := 0) (Nat.zero_le _) (by omega) (by omega)
  rw [Nat.add_zero, List.drop_zero] at hm
  obtain ⟨e0, e1⟩ := moveJ_nolim hm h.one.lim hc.down
  obtain ⟨m1, m2, m3, m4, m5, m6, _⟩ := moveJ_ok hm e0
  rw [hc.w.next] at m2
  have hfr := moveJ_fr (R := R) (by omega) hm.lim hm.fit
  have hr9 := moveJ_room hm.lim (m := 1000000000 - 10000 * (t + 1)) (h.one.room.less (by omega))
  obtain ⟨z, hz⟩ : ∃ z, moveJ S R (1 - J.gen % 2) J.first J.ents = z := ⟨_, rfl⟩
  rw [hz] at a6 e0 e1 m1 m2 m3 m4 m6 hfr hr9
  obtain ⟨S1, er, J3⟩ := z
  simp only at a6 e0 e1 m1 m2 m3 m4 m6 hfr hr9
  subst e0
  have hg3 : J3.gen ≤ t + 1 + 1 := by omega
  have hn3 : J3.next ≤ t + 1 := by
    unfold JD.next at g2 ⊢
    rw [m3, m4]
    omega
  have hok : Ok S1 R J3 (t + 1) := ⟨⟨_, m1⟩, e1, hg3, hn3, hr9⟩
  have h2 := h.two.fr hfr hd hok (by omega)
  obtain ⟨b1, b2, b3, b4, b5, b6, b7⟩ := h2.open (by omega) (by omega)
  obtain ⟨c2, hc2⟩ := h2.ji
  have k1 := h2.gen
  have k2 := h2.nx
  have hm2 := hc2.mov (k := 0) (Nat.zero_le _) (by omega) (by omega)
  rw [Nat.add_zero, List.drop_zero] at hm2
  obtain ⟨f0, _⟩ := moveJ_nolim hm2 h2.lim hc2.down
  obtain ⟨_, _, n3, n4, _⟩ := moveJ_ok hm2 f0
  obtain ⟨z, hz2⟩ : ∃ z, moveJ S1 R2 (1 - J2.gen % 2) J2.first J2.ents = z := ⟨_, rfl⟩
  rw [hz2] at f0 n3 n4
  obtain ⟨S2, er, J4⟩ := z
  simp only at f0 n3 n4
  subst f0
  exact ⟨S1, S2, J3, J4, ⟨a1, a2, a3, a4, a5, hz, hl⟩, ⟨b1, b2, b3, b4.less (by omega), b5, hz2, by omega⟩, m3, m4, n3, n4⟩
end Go.Proofs.YtplclpileejemaaDoor
