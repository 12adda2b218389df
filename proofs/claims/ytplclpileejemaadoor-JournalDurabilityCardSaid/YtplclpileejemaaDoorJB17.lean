/- Journals, plainly: formatting; without a limit nothing fails; A journal on new memory: its operations as a law calls them; Journals, plainly: a session without a limit; The example of the chapter; For every law of this seat: what holds behind the call, where the call changed nothing that was there; How an argument's reading opens; what the laid table gives the walks; the door's own heap meets the condition. -/
import Derived.Test.YtplclpileejemaaDoorJB14
import Derived.Test.YtplclpileejemaaDoorJB16
import Derived.Test.YtplclpileejemaaDoorProg
import Derived.WalkKit
import Derived.ProofKit
import Derived.OpenShut
import Derived.Deep.Slices
import Derived.Test.YtplclpileejemaaDoorRows
import Derived.Test.YtplclpileejemaaDoorJB4
import Derived.LaidMore
import Derived.Stop.Joined
import Derived.Lib.LaidTab
import Derived.SizedLaws
namespace Go.Proofs.YtplclpileejemaaDoor
open Go.RowKit
set_option linter.unusedVariables false
set_option linter.unusedSimpArgs false

theorem operate_nolim {S : DS} (h : S.limit = none) : S.operate.2 = true ∧ S.operate.1.limit = none := by
  unfold DS.operate
  rw [h]
  exact ⟨rfl, rfl⟩
theorem write_nolim {S : DS} {s : Nat} {b : List UInt8} (hl : S.limit = none) (hd : S.down = false) (hs : s < S.dur.length) (hb : b.length = 256) : (S.write s b).2 = 0 ∧ (S.write s b).1.limit = none ∧ (S.write s b).1.down = false ∧ (S.write s b).1.dur.length = S.dur.length := by
  obtain ⟨h1, h2⟩ := operate_nolim hl
  have h3 := operate_down h1
  unfold DS.write
  rw [if_neg (by rw [hd]; simp), if_pos (show S.has (s : Int) = true by simp [DS.has]; omega), if_pos hb, if_pos h1]
  exact ⟨rfl, h2, by rw [show ({ S.operate.1 with pend := S.operate.1.pend ++ [((s : Int).toNat, b)] } : DS).down = S.operate.1.down from rfl, h3]; exact hd, by show S.operate.1.dur.length = _; rw [(operate_pend S).2]⟩
theorem wrL_nolim : ∀ {L : List (List UInt8)} {S : DS} {a : Nat}, S.limit = none → S.down = false → (∀ b ∈ L, b.length = 256) → a + L.length ≤ S.dur.length → (wrL S a L).2 = 0 ∧ (wrL S a L).1.limit = none ∧ (wrL S a L).1.down = false ∧ (wrL S a L).1.dur.length = S.dur.length
  | [], _, _, h1, h2, _, _ => ⟨rfl, h1, h2, rfl⟩
  | b :: L, S, a, h1, h2, h3, h4 => by
    rw [List.length_cons] at h4
    obtain ⟨k1, k2, k3, k4⟩ := write_nolim (s := a) h1 h2 (by omega) (h3 b (List.mem_cons_self ..))
    have e : wrL S a (b :: L) = wrL (S.write a b).1 (a + 1) L := if_pos k1
    rw [e, ← k4]
    exact wrL_nolim k2 k3 (fun x hx => h3 x (List.mem_cons_of_mem _ hx)) (by rw [k4]; omega)
theorem putR_nolim : ∀ {rs : List RecD} {S : DS} {a u : Nat}, S.limit = none → S.down = false → (∀ r ∈ rs, splitE r = 0) → a + u + (seqL rs).length ≤ S.dur.length → (putR S a u rs).2.2 = 0 ∧ (putR S a u rs).1.limit = none ∧ (putR S a u rs).1.down = false ∧ (putR S a u rs).1.dur.length = S.dur.length
  | [], _, _, _, h1, h2, _, _ => ⟨rfl, h1, h2, rfl⟩
  | r :: rs, S, a, u, h1, h2, h3, h4 => by
    have hr := h3 r (List.mem_cons_self ..)
    have hl := splitL_length hr
    rw [seqL_cons, List.length_append] at h4
    obtain ⟨k1, k2, k3, k4⟩ := wrL_nolim (L := splitL r) (a := a + u) h1 h2 (splitL_256 r) (by omega)
    have e : putR S a u (r :: rs) = putR (wrL S (a + u) (splitL r)).1 a (u + needN r.load.length) rs := if_pos k1
    rw [e, ← k4]
    exact putR_nolim k2 k3 (fun q hq => h3 q (List.mem_cons_of_mem _ hq)) (by rw [k4]; omega)
theorem flush_nolim {S : DS} (hl : S.limit = none) (hd : S.down = false) : S.flush.2 = 0 ∧ S.flush.1.limit = none ∧ S.flush.1.down = false ∧ S.flush.1.dur.length = S.dur.length := by
  obtain ⟨h1, h2⟩ := operate_nolim hl
  have h3 := operate_down h1
  unfold DS.flush
  rw [if_neg (by rw [hd]; simp), if_pos h1]
  exact ⟨rfl, h2, by show S.operate.1.down = false; rw [h3]; exact hd, rdur_length _ _ _⟩
theorem wrA_nolim {S : DS} {a g f : Nat} {E : List (List UInt8)} (hl : S.limit = none) (hd : S.down = false) (hlim : JLim g f E.length E) (ha : a + (seqL (recsR g f E)).length ≤ S.dur.length) : (wrA S a g f E).2.2 = 0 ∧ (wrA S a g f E).1.limit = none := by
  obtain ⟨k1, k2, k3, k4⟩ := putR_nolim (u := 0) (a := a) hl hd hlim.recs.mem (by rw [← recsR_recsJ]; omega)
  rw [← recsR_recsJ] at k1 k2 k3 k4
  obtain ⟨f1, f2, _⟩ := flush_nolim k2 k3
  unfold wrA
  rw [if_pos k1, if_pos f1]
  exact ⟨rfl, f2⟩
/-- An area that was written holds the entries, all durable. -/
theorem area_done {S : DS} {R : JR} {h g' f : Nat} {E : List (List UInt8)} (hh : h ≤ 1) (n1 : g' % 2 = h) (hR : R.at_ + R.cnt ≤ S.dur.length) (hlim : JLim g' f E.length E) (hfit : (seqL (recsR g' f E)).length ≤ R.half)
    (hgt : ∀ s, inR R s → ∀ x, Cand S s x → decE x = 0 → (decP x).gen < (g' : Int)) (h0 : (wrA S (R.area h) g' f E).2.2 = 0) :
    JW (wrA S (R.area h) g' f E).1 R g' f E.length E E.length ∧ (wrA S (R.area h) g' f E).2.1 = (seqL (recsR g' f E)).length ∧ (wrA S (R.area h) g' f E).1.down = false ∧ (wrA S (R.area h) g' f E).1.dur.length = S.dur.length ∧
    ∀ i, i < (seqL (recsR g' f E)).length → (seqL (recsR g' f E))[i]? = some ((wrA S (R.area h) g' f E).1.visible (R.area h + i)) := by
  obtain ⟨S1, k, hw⟩ := wrA_wrote S (R.area h) hlim
  obtain ⟨rfl, hu, hp, hdn, hdl, hv⟩ := hw.done h0
  obtain ⟨S', hS'⟩ : ∃ S', (wrA S (R.area h) g' f E).1 = S' := ⟨_, rfl⟩
  rw [hS'] at hw hp hdn hdl hv ⊢
  obtain ⟨L, hL⟩ : ∃ L, seqL (recsR g' f E) = L := ⟨_, rfl⟩
  have hLg : ∀ (i : Nat) x, L[i]? = some x → decE x = 0 ∧ (decP x).gen = (g' : Int) := fun i x hx => hlim.gen i x (by rw [← recsR_recsJ, hL]; exact hx)
  rw [hL] at hw hfit hu ⊢
  have hin : ∀ s, inR R s → s < S.dur.length := fun s hs => by have := hs.2; omega
  have hvis : ∀ i, i < L.length → L[i]? = some (S'.visible (R.area h + i)) := fun i hi => by
    have h1 := hw.wr.visible (R.area h + i)
    rw [List.take_length] at h1
    rw [hv _ (hin _ (inR_area hh (by omega))), h1, dif_pos ⟨by omega, by omega⟩]
    simp [hi]
  refine ⟨⟨hlim, by rw [← recsR_recsJ, hL]; exact hfit, Nat.le_refl _, Nat.le_refl _, fun s hs x hx h1 => ?_, fun i hi x hx => ?_, fun i hi x hx h1 h2 => ?_⟩, hu, hdn, hdl, hvis⟩
  · rcases hw.cand (hin s hs) hx with h3 | ⟨_, h4⟩
    · exact Int.le_of_lt (hgt s hs x h3 h1)
    · rw [(hLg _ _ h4).2]; exact Int.le_refl _
  · rw [List.take_of_length_le (Nat.le_refl _), ← recsR_recsJ, hL] at hi
    rw [← recsR_recsJ, hL, hvis i hi]
    congr 1
    rw [n1] at hx
    exact (cand_none hp hx).symm
  · rw [n1] at hx
    rw [← recsR_recsJ, hL]
    rcases hw.cand (hin _ (inR_area hh hi)) hx with h3 | ⟨_, h4⟩
    · have := hgt _ (inR_area (h := h) hh hi) x h3 h1
      omega
    · rw [Nat.add_sub_cancel_left] at h4; exact h4
/-- No sector of the range is a record's. -/
def NoDec (S : DS) (R : JR) : Prop := ∀ s, inR R s → ∀ x, Cand S s x → decE x ≠ 0
theorem NoDec.next {S : DS} {R : JR} (h : NoDec S R) {w : Nat} (hw : w ≤ 1) : nextG w (secL S R.at_ R.cnt) = w := by
  obtain ⟨h1, _, h3⟩ := nextG_par hw (secL S R.at_ R.cnt)
  have := h3 w (by omega) (fun b hb h0 => by
    obtain ⟨s, hs, rfl⟩ := of_mem_secL hb
    exact absurd h0 (h s hs _ (cand_visible S s)))
  omega
theorem jlim_nil {g : Nat} (hg : g ≤ 2147483647) : JLim g 0 0 [] := ⟨hg, by decide, by decide, by decide, fun b hb => by cases hb⟩
/-- A range is formatted. -/
theorem format_done {S : DS} {R : JR} (h : NoDec S R) (hl : S.limit = none) (hd : S.down = false) (h8 : 8 ≤ R.cnt) (hR : R.at_ + R.cnt ≤ S.dur.length) :
    (moveJ S R 0 0 []).2.1 = 0 ∧ JW (moveJ S R 0 0 []).1 R 0 0 0 [] 0 ∧ (moveJ S R 0 0 []).1.limit = none ∧ (moveJ S R 0 0 []).1.down = false ∧ (moveJ S R 0 0 []).1.dur.length = S.dur.length := by
  have hn := h.next (w := 0) (by omega)
  have hlim : JLim 0 0 ([] : List (List UInt8)).length [] := jlim_nil (by omega)
  have hsz : (seqL (recsR 0 0 [])).length = 1 := by rw [recsR_recsJ, seqJ_size hlim]; rfl
  have hhf : 4 ≤ R.half := by unfold JR.half; omega
  have hroom := area_room (R := R) (h := 0) (n := 1) (by omega) (by omega)
  obtain ⟨e0, e1⟩ := wrA_nolim (a := R.area 0) hl hd hlim (by rw [hsz]; omega)
  obtain ⟨d1, _, d3, d4, _⟩ := area_done (h := 0) (by omega) rfl hR hlim (by rw [hsz]; omega) (fun s hs x hx h0 => absurd h0 (h s hs x hx)) e0
  unfold moveJ
  rw [hn]
  simp only
  rw [if_neg (by omega), if_pos e0]
  exact ⟨rfl, d1, e1, d3, d4⟩
theorem JW.next {S : DS} {R : JR} {g f c d : Nat} {E : List (List UInt8)} (h : JW S R g f c E d) : nextG (1 - g % 2) (secL S R.at_ R.cnt) = g + 1 := by
  obtain ⟨h1, h2, h3⟩ := nextG_par (w := 1 - g % 2) (by omega) (secL S R.at_ R.cnt)
  have h4 := h3 (g + 1) (by omega) (fun b hb h0 => by
    obtain ⟨s, hs, rfl⟩ := of_mem_secL hb
    have := h.gens s hs _ (cand_visible S s) h0
    omega)
  obtain ⟨b, hb, hb0, hbg⟩ := seqJ_head h.lim
  have h5 := h.dur 0 (seqJ_pos (h.lim.take d)) _ (cand_visible S _)
  rw [hb] at h5
  obtain rfl := Option.some.inj h5
  have hfit := h.fit
  have hpos := seqJ_pos h.lim
  have hr := inR_area (R := R) (h := g % 2) (i := 0) (by omega) (by omega)
  have := h2 _ (mem_secL hr) hb0
  omega
/-- Without a limit a move is done. -/
theorem moveJ_nolim {S : DS} {R : JR} {g M f : Nat} {P : ArD → Prop} {E : List (List UInt8)} (h : Mov S R g P M f E) (hl : S.limit = none) (hd : S.down = false) : (moveJ S R (1 - g % 2) f E).2.1 = 0 ∧ (moveJ S R (1 - g % 2) f E).1.limit = none := by
  have hlm := h.lim
  have hsz := seqJ_size hlm
  rw [← recsR_recsJ] at hsz
  have ha := area_room (R := R) (h := 1 - g % 2) (by omega) h.fit
  have hr := h.rng
  obtain ⟨e0, e1⟩ := wrA_nolim (a := R.area (1 - g % 2)) hl hd hlm (by rw [hsz]; omega)
  have hgm := hlm.g
  unfold moveJ
  simp only
  rw [if_neg (by omega), if_pos e0]
  exact ⟨rfl, e1⟩
theorem appJ_nolim {S : DS} {R : JR} {J : JD} {c : Nat} {b : List UInt8} (h : JI S R J c) (hb : b.length ≤ 100000) (hn : J.next + 1 ≤ 2147483647) (hl : S.limit = none) :
    (appJ S R J b = (S, J, 9, 0) ∧ R.half - sizeE J.ents < needN b.length) ∨
    ((∃ S', appJ S R J b = (S', { J with ents := J.ents ++ [b], used := J.used + needN b.length }, 0, J.next) ∧ JI S' R { J with ents := J.ents ++ [b], used := J.used + needN b.length } c ∧ S'.dur.length = S.dur.length ∧ S'.limit = none) ∧ needN b.length ≤ R.half - sizeE J.ents) := by
  have hfit := h.fit
  have hused := h.used
  have hr := h.rng
  have hlen := sizeE_len J.ents
  rcases appJ_any h hb hn with h1 | ⟨⟨S', h1, h2, h3⟩, h4⟩ | ⟨S', h1, h2, h3, h4⟩
  · exact .inl h1
  all_goals
    unfold JD.next at hn
    have hrok : splitE (bodR J.gen (J.ents.length + 1) b) = 0 := bodR_ok h.w.lim.g (by omega) (by omega)
    have hsl := splitL_length hrok
    have hsl' : (splitL (bodR J.gen (J.ents.length + 1) b)).length = needN b.length := hsl
  · refine .inr ⟨⟨S', h1, h2, h3, ?_⟩, h4⟩
    have ha := area_room (R := R) (h := J.gen % 2) (n := sizeE J.ents + needN b.length) (by omega) (by omega)
    obtain ⟨k1, k2, _⟩ := wrL_nolim (L := splitL (bodR J.gen (J.ents.length + 1) b)) (a := R.area (J.gen % 2) + J.used) hl h.down (splitL_256 _) (by rw [hsl', hused]; omega)
    have e : (appJ S R J b).1 = (wrL S (R.area (J.gen % 2) + J.used) (splitL (bodR J.gen (J.ents.length + 1) b))).1 := by
      unfold appJ
      rw [if_neg (by rw [h.failed]; simp), if_neg (by omega), hused, if_neg (by omega), ← hused, if_pos k1]
    rw [h1] at e
    simp only at e
    rw [e]
    exact k2
  · exfalso
    by_cases h9 : R.half - sizeE J.ents < needN b.length
    · have e : appJ S R J b = (S, J, 9, 0) := by
        unfold appJ
        rw [if_neg (by rw [h.failed]; simp), if_neg (by omega), hused, if_pos h9]
      rw [e] at h1
      have := congrArg (fun q => q.2.2.1) h1
      simp at this
    · have ha := area_room (R := R) (h := J.gen % 2) (n := sizeE J.ents + needN b.length) (by omega) (by omega)
      obtain ⟨k1, _⟩ := wrL_nolim (L := splitL (bodR J.gen (J.ents.length + 1) b)) (a := R.area (J.gen % 2) + J.used) hl h.down (splitL_256 _) (by rw [hsl', hused]; omega)
      have e : (appJ S R J b).2.2.1 = 0 := by
        unfold appJ
        rw [if_neg (by rw [h.failed]; simp), if_neg (by omega), hused, if_neg h9, ← hused, if_pos k1]
      rw [h1] at e
      simp at e
theorem synJ_nolim {S : DS} {R : JR} {J : JD} {c : Nat} (h : JI S R J c) (hl : S.limit = none) :
    ∃ S', synJ S J = (S', { J with synced := J.next }, 0) ∧ JI S' R { J with synced := J.next } c ∧ S'.dur.length = S.dur.length ∧ S'.limit = none := by
  obtain ⟨k1, k2, _⟩ := flush_nolim hl h.down
  rcases synJ_any h with ⟨S', h1, h2, h3⟩ | ⟨S', h1, _⟩
  · refine ⟨S', h1, h2, h3, ?_⟩
    have e : (synJ S J).1 = S.flush.1 := by
      unfold synJ
      rw [if_neg (by rw [h.failed]; simp), if_pos k1]
    rw [h1] at e
    simp only at e
    rw [e]
    exact k2
  · exfalso
    have e : (synJ S J).2.2 = 0 := by
      unfold synJ
      rw [if_neg (by rw [h.failed]; simp), if_pos k1]
    rw [h1] at e
    simp at e
/-- A truncation without a limit. -/
theorem trnJ_nolim {S : DS} {R : JR} {J : JD} {c : Nat} {t : Int} (h : JI S R J c) (hl : S.limit = none) (hn : J.next ≤ 2147483647) (hg : J.gen + 2 ≤ 2147483647) :
    (trnJ S R J t = (S, J, 2) ∧ (t < J.first ∨ (J.next : Int) < t)) ∨ (trnJ S R J t = (S, J, 0) ∧ t = J.first) ∨
    (∃ S' k, t = ((J.first + k : Nat) : Int) ∧ 0 < k ∧ k ≤ J.ents.length ∧ trnJ S R J t = (S', ⟨J.gen + 1, sizeE (J.ents.drop k), J.first + k, J.ents.drop k, J.next, 0⟩, 0) ∧ JI S' R ⟨J.gen + 1, sizeE (J.ents.drop k), J.first + k, J.ents.drop k, J.next, 0⟩ (J.ents.drop k).length ∧ S'.dur.length = S.dur.length ∧ S'.limit = none) := by
  unfold trnJ
  rw [if_neg (by rw [h.failed]; simp)]
  by_cases h1 : t < J.first ∨ (J.next : Int) < t
  · rw [if_pos h1]; exact .inl ⟨rfl, h1⟩
  · rw [if_neg h1]
    refine .inr ?_
    by_cases h2 : t = J.first
    · rw [if_pos h2]; exact .inl ⟨rfl, h2⟩
    · rw [if_neg h2]
      refine .inr ?_
      unfold JD.next at h1 hn
      obtain ⟨k, rfl⟩ : ∃ k : Nat, t = ((J.first + k : Nat) : Int) := ⟨t.toNat - J.first, by omega⟩
      have hk0 : 0 < k := by omega
      have hkn : k ≤ J.ents.length := by omega
      rw [Int.toNat_natCast, Nat.add_sub_cancel_left]
      have hm := h.mov hkn (by unfold JD.next; exact hn) hg
      obtain ⟨e0, e1⟩ := moveJ_nolim hm hl h.down
      obtain ⟨m1, m2, m3, m4, m5, m6, m7⟩ := moveJ_ok hm e0
      rw [if_pos e0]
      have hnx := h.w.next
      rw [hnx] at m2
      obtain ⟨S', hS'⟩ : ∃ S', (moveJ S R (1 - J.gen % 2) (J.first + k) (J.ents.drop k)).1 = S' := ⟨_, rfl⟩
      obtain ⟨J', hJ'⟩ : ∃ J', (moveJ S R (1 - J.gen % 2) (J.first + k) (J.ents.drop k)).2.2 = J' := ⟨_, rfl⟩
      rw [hS'] at m1 m6 e1 ⊢
      rw [hJ'] at m1 m2 m3 m4 m5 ⊢
      have hf := m1.failed
      have hu := m1.used
      obtain ⟨jg, ju, jf, je, js, jx⟩ := J'
      simp only at m2 m3 m4 m5 hf hu
      subst m2 m3 m4 hf
      rw [List.length_drop] at m5
      have e5 : js = J.next := by unfold JD.next; omega
      subst e5
      subst hu
      exact ⟨S', k, rfl, hk0, hkn, rfl, m1, m6, e1⟩
end Go.Proofs.YtplclpileejemaaDoor

namespace Go.Proofs.YtplclpileejemaaDoor
open Go.RowKit
set_option linter.unusedVariables false
set_option linter.unusedSimpArgs false

/-- A journal and its device in memory that is newer than w, in blocks of U. -/
structure JAll (w W : World) (U : Nat → Prop) (b g : Nat) (S : DS) (R : JR) (J : JD) : Prop where
  below : Below w.heap.size w W
  st : ∃ F G, JSt W F G b g S R J ∧ (∀ k, F k → U k) ∧ (∀ k, G k → U k)
  ug : U g
  lo : ∀ k, U k → w.heap.size ≤ k
/-- The numbers are small enough. -/
structure Num (S : DS) (R : JR) (J : JD) : Prop where
  rng : R.at_ + R.cnt ≤ S.dur.length
  us : J.used ≤ R.half
  gn : J.gen ≤ 2147483640
  nx : J.first + J.ents.length + 1 ≤ 2147483640
  sz : sizeE J.ents ≤ 5000
  sh : shortE J.ents
  room : Roomy S 10000
  down : S.down = false
  ng : nextG (1 - J.gen % 2) (secL S R.at_ R.cnt) ≤ 2147483647
section
variable {w W W' : World} {U : Nat → Prop} {b g : Nat} {S : DS} {R : JR} {J : JD}
theorem JAll.most (h : JAll w W U b g S R J) : S.dur.length ≤ 4096 := by obtain ⟨F, G, h1, _⟩ := h.st; exact h1.dev.ok.most
theorem JAll.kat (h : JAll w W U b g S R J) (hK : KAt w) : KAt W := KAt.below hK h.below hK.size
theorem JAll.k0 (h : JAll w W U b g S R J) (hK : KAt w) : ¬ U 0 := fun h1 => by have := h.lo _ h1; have := hK.size; omega
/-- The world changed elsewhere. -/
theorem JAll.chg {H : Nat → Prop} (h : JAll w W U b g S R J) (hc : Chg H W W') (hd : ∀ k, k < W.heap.size → H k → ¬ U k) (hlo : ∀ k, H k → w.heap.size ≤ k) : JAll w W' U b g S R J := by
  obtain ⟨F, G, h1, h2, h3⟩ := h.st
  exact ⟨h.below.trans (hc.below hlo h.below.size), ⟨F, G, h1.chg hc (fun k hk hh => ⟨fun h4 => hd k hk hh (h2 k h4), fun h4 => hd k hk hh (h3 k h4), fun h4 => hd k hk hh (h4 ▸ h.ug)⟩), h2, h3⟩, h.ug, h.lo⟩
theorem JAll.step (h : JAll w W U b g S R J) (hb : Below W.heap.size W W') : JAll w W' U b g S R J := h.chg (H := fun _ => False) (Chg.of_below hb) (fun _ _ h => h.elim) (fun _ h => h.elim)
theorem JAll.wide (h : JAll w W U b g S R J) {V : Nat → Prop} (hV : ∀ k, U k → V k) (hlo : ∀ k, V k → w.heap.size ≤ k) : JAll w W V b g S R J := by
  obtain ⟨F, G, h1, h2, h3⟩ := h.st
  exact ⟨h.below, ⟨F, G, h1, fun k hk => hV k (h2 k hk), fun k hk => hV k (h3 k hk)⟩, hV g h.ug, hlo⟩
theorem JAll.blk (h : JAll w W U b g S R J) : ∃ (va : Option Addr) (vc : Nat), JBlk W g b R J (.slice va J.ents.length vc) := by
  obtain ⟨F, G, h1, _⟩ := h.st
  obtain ⟨ev, h2, h3⟩ := h1.mem
  obtain ⟨va, vc, rfl⟩ := h3.form
  exact ⟨va, vc, h2⟩
/-- Behind an operation. -/
theorem JAll.post (h : JAll w W U b g S R J) {F G : Nat → Prop} (hF : ∀ k, F k → U k) (hG : ∀ k, G k → U k) {S' : DS} {J' : JD} (hp : JPost W F G b g R S' J' W') : JAll w W' (fun k => U k ∨ W.heap.size ≤ k) b g S' R J' ∧ Chg U W W' := by
  obtain ⟨⟨F', G', h1, h2, h3⟩, hc⟩ := hp
  have hcU : Chg U W W' := hc.mono (fun k hk => by
    rcases hk with hk | hk | hk
    · exact hF k hk
    · exact hG k hk
    · exact hk ▸ h.ug)
  refine ⟨⟨h.below.trans (hcU.below h.lo h.below.size), ⟨F', G', h1, fun k hk => (h2 k hk).elim (fun e => .inl (hF k e)) .inr, fun k hk => (h3 k hk).elim (fun e => .inl (hG k e)) .inr⟩, .inl h.ug, fun k hk => hk.elim (h.lo k) (fun e => Nat.le_trans h.below.size e)⟩, hcU⟩
theorem App_all (h : JAll w W U b g S R J) (hK : KAt w) (hn : Num S R J) {bv : Value} {l : List UInt8} {D : Nat → Prop} (hv : BytesN W D bv l) (hD : ∀ k, k < W.heap.size → D k → ¬ U k) (hl : l.length ≤ 100000000) :
    Calls Tryd.prog 18 #[.pointer (some ⟨g, 0, none⟩), bv] W fun e W' => e = .returned (.tuple #[.int .i64 ((appJ S R J l).2.2.2 : Int), .int .i64 (appJ S R J l).2.2.1]) ∧ JAll w W' (fun k => U k ∨ W.heap.size ≤ k) b g (appJ S R J l).1 R (appJ S R J l).2.1 ∧ Chg U W W' := by
  obtain ⟨F, G, h1, h2, h3⟩ := h.st
  have hm := h.most
  have hr := hn.rng
  have hgn := hn.gn
  have hnx := hn.nx
  have hsz := hn.sz
  refine (JAppend_any h1 (h.kat hK) (fun e => h.k0 hK (h2 _ e)) hv (fun k hk hd => ⟨fun e => hD k hk hd (h2 k e), fun e => hD k hk hd (e ▸ h.ug)⟩) (by omega) hr (by omega) (by omega) hn.us (by omega) (by omega) (by omega) (hn.room.less (by omega))).mono ?_
  rintro e W' ⟨rfl, hp⟩
  exact ⟨rfl, h.post h2 h3 hp⟩
theorem Syn_all (h : JAll w W U b g S R J) (hn : Num S R J) :
    Calls Tryd.prog 28 #[.pointer (some ⟨g, 0, none⟩)] W fun e W' => e = .returned (.int .i64 (synJ S J).2.2) ∧ JAll w W' (fun k => U k ∨ W.heap.size ≤ k) b g (synJ S J).1 R (synJ S J).2.1 ∧ Chg U W W' := by
  obtain ⟨F, G, h1, h2, h3⟩ := h.st
  have hnx := hn.nx
  refine (JSync_st h1 (by omega) (hn.room.less (by omega))).mono ?_
  rintro e W' ⟨rfl, hp⟩
  exact ⟨rfl, h.post h2 h3 hp⟩
theorem Trn_all (h : JAll w W U b g S R J) (hK : KAt w) (hn : Num S R J) (t : Int) :
    Calls Tryd.prog 20 #[.pointer (some ⟨g, 0, none⟩), .int .i64 t] W fun e W' => e = .returned (.int .i64 (trnJ S R J t).2.2) ∧ JAll w W' (fun k => U k ∨ W.heap.size ≤ k) b g (trnJ S R J t).1 R (trnJ S R J t).2.1 ∧ Chg U W W' := by
  obtain ⟨F, G, h1, h2, h3⟩ := h.st
  have hnx := hn.nx
  have hsz := hn.sz
  refine (JTruncate_any h1 (h.kat hK) (fun e => h.k0 hK (h2 _ e)) t hn.down hn.rng hn.ng (by omega) hn.sh (by omega) (hn.room.less (by omega))).mono ?_
  rintro e W' ⟨rfl, hp⟩
  exact ⟨rfl, h.post h2 h3 hp⟩
theorem First_all (h : JAll w W U b g S R J) : Calls Tryd.prog 21 #[.pointer (some ⟨g, 0, none⟩)] W fun e W' => e = .returned (.int .i64 (J.first : Int)) ∧ Below W.heap.size W W' := by
  obtain ⟨va, vc, hb⟩ := h.blk
  exact JFirst_any hb
theorem Generation_all (h : JAll w W U b g S R J) : Calls Tryd.prog 31 #[.pointer (some ⟨g, 0, none⟩)] W fun e W' => e = .returned (.int .i64 (J.gen : Int)) ∧ Below W.heap.size W W' := by
  obtain ⟨va, vc, hb⟩ := h.blk
  exact JGeneration_any hb
theorem Synced_all (h : JAll w W U b g S R J) : Calls Tryd.prog 30 #[.pointer (some ⟨g, 0, none⟩)] W fun e W' => e = .returned (.int .i64 (J.synced : Int)) ∧ Below W.heap.size W W' := by
  obtain ⟨va, vc, hb⟩ := h.blk
  exact JSynced_any hb
theorem Failed_all (h : JAll w W U b g S R J) : Calls Tryd.prog 29 #[.pointer (some ⟨g, 0, none⟩)] W fun e W' => e = .returned (.int .i64 J.failed) ∧ Below W.heap.size W W' := by
  obtain ⟨va, vc, hb⟩ := h.blk
  exact JFailed_any hb
theorem Next_all (h : JAll w W U b g S R J) (hn : J.first + J.ents.length + 1 ≤ 2147483640) : Calls Tryd.prog 19 #[.pointer (some ⟨g, 0, none⟩)] W fun e W' => e = .returned (.int .i64 ((J.next : Nat) : Int)) ∧ Below W.heap.size W W' := by
  obtain ⟨va, vc, hb⟩ := h.blk
  exact JNext_any hb (by omega)
theorem Free_all (h : JAll w W U b g S R J) (hr : R.at_ + R.cnt ≤ S.dur.length) (hu : J.used ≤ R.half) : Calls Tryd.prog 17 #[.pointer (some ⟨g, 0, none⟩)] W fun e W' => e = .returned (.int .i64 ((R.half - J.used : Nat) : Int)) ∧ Below W.heap.size W W' := by
  obtain ⟨va, vc, hb⟩ := h.blk
  have hm := h.most
  have hh : R.half ≤ R.cnt := by unfold JR.half; omega
  rw [show ((R.half - J.used : Nat) : Int) = (R.half : Int) - (J.used : Int) by omega]
  exact JFree_any hb (by omega) (by omega)
end
/-- What a journal's invariant says of its numbers. -/
theorem JI.num {S : DS} {R : JR} {J : JD} {c : Nat} (h : JI S R J c) (hm : S.dur.length ≤ 4096) (hg : J.gen ≤ 2147483600) (hn : J.first + J.ents.length ≤ 2147483600) (hr : Roomy S 10000) : Num S R J := by
  have hfit := h.fit
  have hrg := h.rng
  have hh : R.half ≤ R.cnt := by unfold JR.half; omega
  exact ⟨hrg, by rw [h.used]; exact hfit, by omega, by omega, by omega, h.short, hr, h.down, by rw [next_eq h]; omega⟩
/-- A device with a journal behind an open. -/
theorem open_all {w W W' : World} {F U : Nat → Prop} {b : Nat} {R : JR} {z : DS × Int × JD} {e : Ending} (hb : Below w.heap.size w W) (hF : ∀ k, F k → U k) (hlo : ∀ k, U k → w.heap.size ≤ k) (h : OpenPost W F b R z e W') (h0 : z.2.1 = 0) :
    ∃ g N lv, e = .returned (.tuple #[.pointer (some ⟨g, 0, none⟩), lv, .int .i64 0]) ∧ JAll w W' (fun k => U k ∨ (W.heap.size ≤ k ∧ k < W'.heap.size ∧ ¬ N k)) b g z.1 R z.2.2 ∧ NumsAt W' N lv z.2.2.first z.2.2.ents ∧ (∀ k, N k → W.heap.size ≤ k ∧ k < W'.heap.size) ∧ Chg U W W' := by
  obtain ⟨F', h1, h2, h3, _, h4⟩ := h
  obtain ⟨g, G, N, ev, lv, rfl, k1, k2, k3, k4, k5, k6, k7⟩ := h4 h0
  have hcU := h3.mono hF
  refine ⟨g, N, lv, rfl, ⟨hb.trans (hcU.below hlo hb.size), ⟨fun k => F' k ∧ True, G, ⟨h1.mono (fun k hk => ⟨hk, trivial⟩), ⟨ev, k3, k4⟩, fun hh => k2 hh.1, fun hh => (k5 g hh).2.2.2 rfl, fun k hk hh => (k5 k hk).2.2.1 hh.1, fun k hk => (h2 k hk.1).2, fun k hk => (k5 k hk).2.1⟩, fun k hk => ?_, fun k hk => ?_⟩, ?_, fun k hk => ?_⟩, k6, fun k hk => ⟨(k7 k hk).1, (k7 k hk).2.1⟩, hcU⟩
  · rcases (h2 k hk.1).1 with h5 | h5
    · exact .inl (hF k h5)
    · exact .inr ⟨h5, (h2 k hk.1).2, fun h6 => (k7 k h6).2.2.1 hk.1⟩
  · exact .inr ⟨(k5 k hk).1, (k5 k hk).2.1, fun h6 => (k7 k h6).2.2.2.1 hk⟩
  · exact .inr ⟨k1, k3.lt, fun h6 => (k7 g h6).2.2.2.2 rfl⟩
  · exact hk.elim (hlo k) (fun h5 => Nat.le_trans hb.size h5.1)
end Go.Proofs.YtplclpileejemaaDoor

namespace Go.Proofs.YtplclpileejemaaDoor
open Go.RowKit
set_option linter.unusedVariables false
set_option linter.unusedSimpArgs false

theorem flush_room {S : DS} {m : Nat} (h : Roomy S (m + 1)) : Roomy S.flush.1 m := by
  have h1 := operate_room h
  unfold DS.flush
  split
  · exact h.less (by omega)
  · split
    · exact ⟨h1.1.ops, by show ([] : List (Nat × List UInt8)).length + m ≤ _; have := h1.1.pend; simp; omega, h1.1.lim⟩
    · exact h1.1
theorem wrA_room {S : DS} {a g f m : Nat} {E : List (List UInt8)} (h : Roomy S (m + 1 + (seqL (recsR g f E)).length)) : Roomy (wrA S a g f E).1 m := by
  have h1 : Roomy (putR S a 0 (recsR g f E)).1 (m + 1) := putR_room h
  unfold wrA
  split
  · split
    · exact flush_room h1
    · exact flush_room h1
  · exact h1.less (by omega)
theorem moveJ_room {S : DS} {R : JR} {w f m : Nat} {E : List (List UInt8)} (hl : JLim (nextG w (secL S R.at_ R.cnt)) f E.length E) (h : Roomy S (m + 1 + sizeE E)) : Roomy (moveJ S R w f E).1 m := by
  have hsz := seqJ_size hl
  rw [← recsR_recsJ] at hsz
  have hg := hl.g
  unfold moveJ
  simp only
  rw [if_neg (by omega)]
  split
  · exact wrA_room (by rw [hsz]; exact h)
  · exact wrA_room (by rw [hsz]; exact h)
theorem splitL_le (r : RecD) : (splitL r).length ≤ 586 := by
  by_cases h : splitE r = 0
  · rw [splitL_length h]; exact (need_le (splitE_ok h).2).2
  · unfold splitL; rw [if_neg h]; simp
theorem appJ_room {S : DS} {R : JR} {J : JD} {b : List UInt8} {m : Nat} (h : Roomy S (m + 586)) : Roomy (appJ S R J b).1 m := by
  have h1 : ∀ a r, Roomy (wrL S a (splitL r)).1 m := fun a r => wrL_room (h.less (by have := splitL_le r; omega))
  unfold appJ
  split
  · exact h.less (by omega)
  split
  · exact h.less (by omega)
  split
  · exact h.less (by omega)
  split
  · exact h1 _ _
  · exact h1 _ _
theorem synJ_room {S : DS} {J : JD} {m : Nat} (h : Roomy S (m + 1)) : Roomy (synJ S J).1 m := by
  have h1 := flush_room h
  unfold synJ
  split
  · exact h.less (by omega)
  split
  · exact h1
  · exact h1
theorem trnJ_room {S : DS} {R : JR} {J : JD} {t : Int} {m c : Nat} (h : JI S R J c) (hn : J.next ≤ 2147483640) (hg : J.gen ≤ 2147483640) (hr : Roomy S (m + 1 + sizeE J.ents)) : Roomy (trnJ S R J t).1 m := by
  unfold trnJ
  split
  · exact hr.less (by omega)
  split
  · exact hr.less (by omega)
  split
  · exact hr.less (by omega)
  · rename_i h0 h1 h2
    unfold JD.next at h1 hn
    obtain ⟨k, rfl⟩ : ∃ k : Nat, t = ((J.first + k : Nat) : Int) := ⟨t.toNat - J.first, by omega⟩
    rw [Int.toNat_natCast, Nat.add_sub_cancel_left]
    have hm := h.mov (k := k) (by omega) (by unfold JD.next; omega) (by omega)
    have h3 := moveJ_room hm.lim (m := m) (hr.less (by have := sizeE_drop J.ents k; omega))
    split
    · exact h3
    · exact h3
/-- A journal whose device has no limit, after t operations. -/
structure Ok (S : DS) (R : JR) (J : JD) (t : Nat) : Prop where
  ji : ∃ c, JI S R J c
  lim : S.limit = none
  gen : J.gen ≤ t + 1
  nx : J.next ≤ t
  room : Roomy S (1000000000 - 10000 * t)
theorem Ok.num {S : DS} {R : JR} {J : JD} {t : Nat} (h : Ok S R J t) (hm : S.dur.length ≤ 4096) (ht : t ≤ 1000) : Num S R J := by
  obtain ⟨c, hc⟩ := h.ji
  have h1 := h.gen
  have h2 := h.nx
  unfold JD.next at h2
  exact hc.num hm (by omega) (by omega) (h.room.less (by omega))
theorem Ok.app {S : DS} {R : JR} {J : JD} {t : Nat} {b : List UInt8} (h : Ok S R J t) (ht : t ≤ 1000) (hb : b.length ≤ 100000) :
    (appJ S R J b = (S, J, 9, 0) ∧ R.half - sizeE J.ents < needN b.length) ∨
    (∃ S', appJ S R J b = (S', { J with ents := J.ents ++ [b], used := J.used + needN b.length }, 0, J.next) ∧ Ok S' R { J with ents := J.ents ++ [b], used := J.used + needN b.length } (t + 1) ∧ S'.dur.length = S.dur.length ∧ needN b.length ≤ R.half - sizeE J.ents) := by
  obtain ⟨c, hc⟩ := h.ji
  have h1 := h.gen
  have h2 := h.nx
  rcases appJ_nolim hc hb (by omega) h.lim with h3 | ⟨⟨S', k1, k2, k3, k4⟩, k5⟩
  · exact .inl h3
  · refine .inr ⟨S', k1, ⟨⟨c, k2⟩, k4, by show J.gen ≤ _; omega, ?_, ?_⟩, k3, k5⟩
    · show J.first + (J.ents ++ [b]).length ≤ t + 1
      rw [List.length_append, List.length_singleton]
      unfold JD.next at h2
      omega
    · have h6 := appJ_room (R := R) (J := J) (b := b) (m := 1000000000 - 10000 * (t + 1)) (h.room.less (by omega))
      rw [k1] at h6
      exact h6
theorem Ok.syn {S : DS} {R : JR} {J : JD} {t : Nat} (h : Ok S R J t) (ht : t ≤ 1000) :
    ∃ S', synJ S J = (S', { J with synced := J.next }, 0) ∧ Ok S' R { J with synced := J.next } (t + 1) ∧ S'.dur.length = S.dur.length := by
  obtain ⟨c, hc⟩ := h.ji
  have h1 := h.gen
  have h2 := h.nx
  obtain ⟨S', k1, k2, k3, k4⟩ := synJ_nolim hc h.lim
  refine ⟨S', k1, ⟨⟨c, k2⟩, k4, by show J.gen ≤ _; omega, by show J.next ≤ _; omega, ?_⟩, k3⟩
  have h6 := synJ_room (J := J) (m := 1000000000 - 10000 * (t + 1)) (h.room.less (by omega))
  rw [k1] at h6
  exact h6
theorem Ok.trn {S : DS} {R : JR} {J : JD} {t : Nat} (h : Ok S R J t) (ht : t ≤ 1000) (hm : S.dur.length ≤ 4096) (x : Int) :
    (trnJ S R J x = (S, J, 2) ∧ (x < J.first ∨ (J.next : Int) < x)) ∨ (trnJ S R J x = (S, J, 0) ∧ x = J.first) ∨
    (∃ S' k, x = ((J.first + k : Nat) : Int) ∧ 0 < k ∧ k ≤ J.ents.length ∧ trnJ S R J x = (S', ⟨J.gen + 1, sizeE (J.ents.drop k), J.first + k, J.ents.drop k, J.next, 0⟩, 0) ∧ Ok S' R ⟨J.gen + 1, sizeE (J.ents.drop k), J.first + k, J.ents.drop k, J.next, 0⟩ (t + 1) ∧ S'.dur.length = S.dur.length) := by
  obtain ⟨c, hc⟩ := h.ji
  have h1 := h.gen
  have h2 := h.nx
  have hfit := hc.fit
  have hrg := hc.rng
  have hh : R.half ≤ R.cnt := by unfold JR.half; omega
  rcases trnJ_nolim (t := x) hc h.lim (by omega) (by omega) with h3 | h3 | ⟨S', k, e, k0, kn, k1, k2, k3, k4⟩
  · exact .inl h3
  · exact .inr (.inl h3)
  · refine .inr (.inr ⟨S', k, e, k0, kn, k1, ⟨⟨_, k2⟩, k4, by show J.gen + 1 ≤ _; omega, ?_, ?_⟩, k3⟩)
    · show J.first + k + (J.ents.drop k).length ≤ t + 1
      rw [List.length_drop]
      unfold JD.next at h2
      omega
    · have h6 := trnJ_room (t := x) (m := 1000000000 - 10000 * (t + 1)) hc (by omega) (by omega) (h.room.less (by omega))
      rw [k1] at h6
      exact h6
theorem decE_zeros : decE zeros ≠ 0 := fun h => by
  have h1 := (decE_ok h).2.2.2.1.c0
  have h2 : (rawP zeros).cnt = 0 := by rfl
  omega
theorem newDS_blank {n : Nat} {R : JR} (hR : R.at_ + R.cnt ≤ n) : NoDec (newDS n) R := fun s hs x hx => by
  have h1 : s < n := by have := hs.2; omega
  rcases hx with hx | hx
  · rw [hx]
    have : (newDS n).dur.getD s zeros = zeros := by simp [newDS, List.getD, h1]
    rw [this]
    exact decE_zeros
  · simp [newDS] at hx
/-- A range is formatted and opened. -/
theorem start_ok {S : DS} {R : JR} (h : NoDec S R) (hl : S.limit = none) (hd : S.down = false) (h8 : 8 ≤ R.cnt) (hR : R.at_ + R.cnt ≤ S.dur.length) (hr : Roomy S 999995000) :
    JLim (nextG 0 (secL S R.at_ R.cnt)) 0 0 [] ∧ ∃ S1 S2, (moveJ S R 0 0 []).1 = S1 ∧ (moveJ S R 0 0 []).2.1 = 0 ∧ S1.dur.length = S.dur.length ∧ S1.down = false ∧ S1.limit = none ∧ Roomy S1 999994000 ∧ currL S1 R = some ⟨0, 0, []⟩ ∧ JLim (nextG (1 - (0 : Nat) % 2) (secL S1 R.at_ R.cnt)) 0 ([] : List (List UInt8)).length [] ∧
    moveJ S1 R (1 - (0 : Nat) % 2) 0 [] = (S2, 0, ⟨1, 1, 0, [], 0, 0⟩) ∧ S2.dur.length = S.dur.length ∧ Ok S2 R ⟨1, 1, 0, [], 0, 0⟩ 1 := by
  obtain ⟨f1, f2, f3, f4, f5⟩ := format_done h hl hd h8 hR
  have hn0 := h.next (w := 0) (by omega)
  have hlim0 : JLim (nextG 0 (secL S R.at_ R.cnt)) 0 0 [] := by rw [hn0]; exact jlim_nil (by omega)
  have hroom1 : Roomy (moveJ S R 0 0 []).1 999994000 := moveJ_room hlim0 (hr.less (by show 999994000 + 1 + 1 ≤ _; omega))
  obtain ⟨S1, hS1⟩ : ∃ S1, (moveJ S R 0 0 []).1 = S1 := ⟨_, rfl⟩
  rw [hS1] at f2 f3 f4 f5 hroom1
  have hb := f2.base
  have hnx := f2.next
  have hmov : Mov S1 R 0 (fun y => ∃ k, 0 ≤ k ∧ k ≤ ([] : List (List UInt8)).length ∧ y = ⟨0, 0, ([] : List (List UInt8)).take k⟩) 0 0 [] :=
    ⟨hb, f2.gens, by decide, by decide, (fun b hb => by cases hb), by show 1 ≤ R.half; unfold JR.half; omega, by rw [f5]; exact hR⟩
  obtain ⟨e0, e1⟩ := moveJ_nolim hmov f3 f4
  obtain ⟨m1, m2, m3, m4, m5, m6, _⟩ := moveJ_ok hmov e0
  rw [hnx] at m2
  obtain ⟨y, hy, hyg, k, _, hk, hyk⟩ := hb.curr (choice_visible S1 R)
  rw [List.take_nil] at hyk
  rw [← currL_F, hyk] at hy
  have hroom2 := moveJ_room hmov.lim (m := 1000000000 - 10000 * 1) (hroom1.less (by show 1000000000 - 10000 * 1 + 1 + 1 ≤ _; omega))
  have hlim1 := hmov.lim
  obtain ⟨z, hz⟩ : ∃ z, moveJ S1 R (1 - (0 : Nat) % 2) 0 [] = z := ⟨_, rfl⟩
  rw [hz] at e0 e1 m1 m2 m3 m4 m5 m6 hroom2
  obtain ⟨S2, ez, jg, ju, jf, je, js, jx⟩ := z
  have hf := m1.failed
  have hu := m1.used
  simp only at e0 m2 m3 m4 m5 hf hu
  subst e0 m2 m3 m4 m5 hf
  have hu1 : ju = 1 := hu
  subst hu1
  exact ⟨hlim0, S1, S2, hS1, f1, f5, f4, f3, hroom1, hy, hlim1, hz, by rw [m6, f5], ⟨_, m1⟩, e1, by show 1 ≤ 1 + 1; omega, by show 0 ≤ 1; omega, hroom2⟩
end Go.Proofs.YtplclpileejemaaDoor

namespace Go.Proofs.YtplclpileejemaaDoor
open Go.RowKit
set_option linter.unusedVariables false
set_option linter.unusedSimpArgs false

/-- Fresh bytes. -/
theorem jmk (n : Nat) (hn : n ≤ 281474976710656) (w : World) :
    (Instr.makeSlice 36 (.int .i64 (n : Int)) (.int .i64 (n : Int))).run Tryd.prog w = .ok (.slice (some ⟨w.heap.size, 0, none⟩) n n) (w.alloc (.cells (bvs (List.replicate n 0)).toArray 5)) := by
  obtain ⟨i0, hi, hz0, hz1, hz2⟩ := info_parts infoByte
  have h := run_make (P := Tryd.prog) w 36 5 i0 _ Tryd.underlying36 hi hz0 .i64 .i64 (n : Int) (n : Int) (by omega) (Int.le_refl _) (by rw [hz2]; omega) (by omega)
  rw [h, hz1]
  have e : madeCells (Value.int .u8 0).cells ((n : Int).toNat * 1) = (bvs (List.replicate n 0)).toArray := by
    apply Array.ext'
    unfold madeCells bvs
    rw [List.map_replicate]
    apply List.ext_getElem
    · simp
    · intro j h1 h2
      simp [Value.cells, Nat.mod_one]
      rfl
  rw [e]
  rfl
theorem fresh_bytes {w : World} (l : List UInt8) : BytesN (w.alloc (.cells (bvs l).toArray 5)) (fun k => w.heap.size ≤ k) (.slice (some ⟨w.heap.size, 0, none⟩) l.length l.length) l :=
  OwnBytes.n ⟨w.heap.size, 5, rfl, Nat.le_refl _, heap_alloc_new _ _⟩
theorem fresh_n {w : World} (n : Nat) : BytesN (w.alloc (.cells (bvs (List.replicate n 0)).toArray 5)) (fun k => w.heap.size ≤ k) (.slice (some ⟨w.heap.size, 0, none⟩) n n) (List.replicate n 0) := by
  have h := fresh_bytes (w := w) (List.replicate n 0)
  rwa [List.length_replicate] at h
theorem nil_bytes (w : World) (F : Nat → Prop) : BytesN w F (.slice none 0 0) [] := ⟨⟨none, 0, rfl, Nat.le_refl _, fun h => absurd rfl h⟩, fun k c e => by cases e; rfl⟩
set_option maxRecDepth 100000 in
set_option maxHeartbeats 2000000 in
theorem JFormat_z {w : World} {F : Nat → Prop} {b : Nat} {S : DS} (h : DiskAt w F b S) (hK : KAt w) (hK0 : ¬ F 0) (a c : Nat) (hc8 : 8 ≤ c) (hr : a + c ≤ S.dur.length) (hd : S.down = false) (hlim : JLim (nextG 0 (secL S a c)) 0 0 []) (hroom : Roomy S 2) {S1 : DS} (hz1 : (moveJ S ⟨a, c⟩ 0 0 []).1 = S1) (hz2 : (moveJ S ⟨a, c⟩ 0 0 []).2.1 = 0) : Calls Tryd.prog 12 #[.pointer (some ⟨b, 0, none⟩), .int .i64 (a : Int), .int .i64 (c : Int)] w fun e w' => e = .returned (.int .i64 0) ∧ DiskAt w' (fun k => F k ∨ w.heap.size ≤ k) b S1 ∧ Chg F w w' := by
  refine (JFormat_any h hK hK0 a c hc8 hr hd hlim hroom).mono ?_
  rintro e w' ⟨h1, h2, h3⟩
  rw [hz2] at h1
  rw [hz1] at h2
  exact ⟨h1, h2, h3⟩
/-- A new device, a format, an open: in new memory. -/
theorem JOpen_z {w W : World} {F : Nat → Prop} {b : Nat} {S S2 : DS} {J2 : JD} (hb : Below w.heap.size w W) (h : DiskAt W F b S) (hK : KAt w) (hlo : ∀ k, F k → w.heap.size ≤ k) (a c : Nat) (hc8 : 8 ≤ c) (hr : a + c ≤ S.dur.length) (hd : S.down = false) (x : ArD) (hx : currL S ⟨a, c⟩ = some x) (hlim : JLim (nextG (1 - x.gen % 2) (secL S a c)) x.first x.ents.length x.ents) (hN : sizeE x.ents ≤ 100000) (hroom : Roomy S (sizeE x.ents + 1)) (hz : moveJ S ⟨a, c⟩ (1 - x.gen % 2) x.first x.ents = (S2, 0, J2)) :
    Calls Tryd.prog 14 #[.pointer (some ⟨b, 0, none⟩), .int .i64 (a : Int), .int .i64 (c : Int)] W fun e W' => ∃ g N la lc, e = .returned (.tuple #[.pointer (some ⟨g, 0, none⟩), .slice la J2.ents.length lc, .int .i64 0]) ∧ JAll w W' (fun k => F k ∨ (W.heap.size ≤ k ∧ k < W'.heap.size ∧ ¬ N k)) b g S2 ⟨a, c⟩ J2 ∧ NumsAt W' N (.slice la J2.ents.length lc) J2.first J2.ents ∧ (∀ k, N k → W.heap.size ≤ k ∧ k < W'.heap.size) ∧ Chg F W W' := by
  refine (JOpen_any h (KAt.below hK hb hK.size) (fun e => by have h1 := hlo _ e; have h2 := hK.size; omega) a c hc8 hr hd x hx hlim hN hroom).mono ?_
  intro e W' hp
  rw [hz] at hp
  obtain ⟨g, N, lv, rfl, k1, k2, k3, k4⟩ := open_all hb (fun k hk => hk) hlo hp rfl
  obtain ⟨la, lc, rfl⟩ := k2.form
  exact ⟨g, N, la, lc, rfl, k1, k2, k3, k4⟩
theorem JAll.tight {w W : World} {U : Nat → Prop} {b g : Nat} {S : DS} {R : JR} {J : JD} (h : JAll w W U b g S R J) : JAll w W (fun k => U k ∧ k < W.heap.size) b g S R J := by
  obtain ⟨F, G, h1, h2, h3⟩ := h.st
  obtain ⟨ev, h4, _⟩ := h1.mem
  exact ⟨h.below, ⟨F, G, h1, fun k hk => ⟨h2 k hk, h1.fl k hk⟩, fun k hk => ⟨h3 k hk, h1.gl k hk⟩⟩, ⟨h.ug, h4.lt⟩, fun k hk => h.lo k hk.1⟩
/-- A journal in memory newer than w. -/
def JA (w W : World) (b g : Nat) (S : DS) (R : JR) (J : JD) : Prop := ∃ U, JAll w W U b g S R J ∧ ∀ k, U k → k < W.heap.size
section
variable {w W V : World} {U : Nat → Prop} {b g : Nat} {S : DS} {R : JR} {J : JD}
theorem JAll.ja (h : JAll w W U b g S R J) : JA w W b g S R J := ⟨_, h.tight, fun k hk => hk.2⟩
theorem JA.step (h : JA w W b g S R J) (hb : Below W.heap.size W V) : JA w V b g S R J := by
  obtain ⟨U, h1, h2⟩ := h
  exact ⟨U, h1.step hb, fun k hk => Nat.lt_of_lt_of_le (h2 k hk) hb.size⟩
theorem JA.below (h : JA w W b g S R J) : Below w.heap.size w W := h.elim fun _ h => h.1.below
theorem JA.most (h : JA w W b g S R J) : S.dur.length ≤ 4096 := h.elim fun _ h => h.1.most
theorem App_ja (h : JA w W b g S R J) (hK : KAt w) (hn : Num S R J) (hb : Below W.heap.size W V) {bv : Value} {l : List UInt8} (hv : BytesN V (fun k => W.heap.size ≤ k) bv l) (hl : l.length ≤ 100000000) {S' : DS} {J' : JD} {er : Int} {nu : Nat} (hz : appJ S R J l = (S', J', er, nu)) :
    Calls Tryd.prog 18 #[.pointer (some ⟨g, 0, none⟩), bv] V fun e W' => e = .returned (.tuple #[.int .i64 (nu : Int), .int .i64 er]) ∧ JA w W' b g S' R J' := by
  obtain ⟨U, h1, h2⟩ := h
  refine (App_all (h1.step hb) hK hn hv (fun k _ h3 h4 => by have := h2 k h4; omega) hl).mono ?_
  rintro e W' ⟨rfl, h3, _⟩
  rw [hz] at h3 ⊢
  exact ⟨rfl, h3.ja⟩
theorem Trn_ja (h : JA w W b g S R J) (hK : KAt w) (hn : Num S R J) (t : Int) {S' : DS} {J' : JD} {er : Int} (hz : trnJ S R J t = (S', J', er)) :
    Calls Tryd.prog 20 #[.pointer (some ⟨g, 0, none⟩), .int .i64 t] W fun e W' => e = .returned (.int .i64 er) ∧ JA w W' b g S' R J' := by
  obtain ⟨U, h1, h2⟩ := h
  refine (Trn_all h1 hK hn t).mono ?_
  rintro e W' ⟨rfl, h3, _⟩
  rw [hz] at h3 ⊢
  exact ⟨rfl, h3.ja⟩
theorem Syn_ja (h : JA w W b g S R J) (hn : Num S R J) {S' : DS} {J' : JD} {er : Int} (hz : synJ S J = (S', J', er)) :
    Calls Tryd.prog 28 #[.pointer (some ⟨g, 0, none⟩)] W fun e W' => e = .returned (.int .i64 er) ∧ JA w W' b g S' R J' := by
  obtain ⟨U, h1, h2⟩ := h
  refine (Syn_all h1 hn).mono ?_
  rintro e W' ⟨rfl, h3, _⟩
  rw [hz] at h3 ⊢
  exact ⟨rfl, h3.ja⟩
theorem First_ja (h : JA w W b g S R J) {x : Nat} (hx : J.first = x) : Calls Tryd.prog 21 #[.pointer (some ⟨g, 0, none⟩)] W fun e W' => e = .returned (.int .i64 (x : Int)) ∧ JA w W' b g S R J ∧ Below W.heap.size W W' := by
  subst hx
  have h0 := h
  obtain ⟨U, h1, h2⟩ := h
  refine (First_all h1).mono ?_
  rintro e W' ⟨rfl, hb⟩
  exact ⟨rfl, h0.step hb, hb⟩
theorem Generation_ja (h : JA w W b g S R J) {x : Nat} (hx : J.gen = x) : Calls Tryd.prog 31 #[.pointer (some ⟨g, 0, none⟩)] W fun e W' => e = .returned (.int .i64 (x : Int)) ∧ JA w W' b g S R J ∧ Below W.heap.size W W' := by
  subst hx
  have h0 := h
  obtain ⟨U, h1, h2⟩ := h
  refine (Generation_all h1).mono ?_
  rintro e W' ⟨rfl, hb⟩
  exact ⟨rfl, h0.step hb, hb⟩
theorem Free_ja (h : JA w W b g S R J) (hn : Num S R J) {x : Nat} (hx : R.half - J.used = x) : Calls Tryd.prog 17 #[.pointer (some ⟨g, 0, none⟩)] W fun e W' => e = .returned (.int .i64 (x : Int)) ∧ JA w W' b g S R J ∧ Below W.heap.size W W' := by
  subst hx
  have h0 := h
  obtain ⟨U, h1, h2⟩ := h
  refine (Free_all h1 hn.rng hn.us).mono ?_
  rintro e W' ⟨rfl, hb⟩
  exact ⟨rfl, h0.step hb, hb⟩
theorem Next_ja (h : JA w W b g S R J) (hn : J.first + J.ents.length + 1 ≤ 2147483640) {x : Nat} (hx : J.next = x) : Calls Tryd.prog 19 #[.pointer (some ⟨g, 0, none⟩)] W fun e W' => e = .returned (.int .i64 (x : Int)) ∧ JA w W' b g S R J ∧ Below W.heap.size W W' := by
  subst hx
  have h0 := h
  obtain ⟨U, h1, h2⟩ := h
  refine (Next_all h1 hn).mono ?_
  rintro e W' ⟨rfl, hb⟩
  exact ⟨rfl, h0.step hb, hb⟩
theorem Failed_ja (h : JA w W b g S R J) {x : Int} (hx : J.failed = x) : Calls Tryd.prog 29 #[.pointer (some ⟨g, 0, none⟩)] W fun e W' => e = .returned (.int .i64 x) ∧ JA w W' b g S R J ∧ Below W.heap.size W W' := by
  subst hx
  have h0 := h
  obtain ⟨U, h1, h2⟩ := h
  refine (Failed_all h1).mono ?_
  rintro e W' ⟨rfl, hb⟩
  exact ⟨rfl, h0.step hb, hb⟩
end
set_option maxRecDepth 100000 in
set_option maxHeartbeats 2000000 in
theorem known_plain : ∃ (S1 S2 S3 S4 S6 : DS) (J1 J2 J3 J4 : JD),
    (JLim (nextG 0 (secL (newDS 8) 0 8)) 0 0 [] ∧ (moveJ (newDS 8) ⟨0, 8⟩ 0 0 []).1 = S1 ∧ (moveJ (newDS 8) ⟨0, 8⟩ 0 0 []).2.1 = 0) ∧
    (S1.dur.length = 8 ∧ S1.down = false ∧ Roomy S1 999994000 ∧ currL S1 ⟨0, 8⟩ = some ⟨0, 0, []⟩ ∧ JLim (nextG (1 - (0 : Nat) % 2) (secL S1 0 8)) 0 ([] : List (List UInt8)).length [] ∧ moveJ S1 ⟨0, 8⟩ (1 - (0 : Nat) % 2) 0 [] = (S2, 0, J1)) ∧
    (J1.gen = 1 ∧ (⟨0, 8⟩ : JR).half - J1.used = 3 ∧ J1.ents.length = 0) ∧ (Num S2 ⟨0, 8⟩ J1 ∧ Num S3 ⟨0, 8⟩ J2 ∧ Num S4 ⟨0, 8⟩ J3 ∧ Num S6 ⟨0, 8⟩ J4) ∧
    appJ S2 ⟨0, 8⟩ J1 (List.replicate 200 0) = (S3, J2, 0, 0) ∧ appJ S3 ⟨0, 8⟩ J2 (List.replicate 300 0) = (S4, J3, 0, 1) ∧ appJ S4 ⟨0, 8⟩ J3 [] = (S4, J3, 9, 0) ∧ trnJ S4 ⟨0, 8⟩ J3 1 = (S6, J4, 0) ∧
    (J4.first = 1 ∧ J4.gen = 2 ∧ (⟨0, 8⟩ : JR).half - J4.used = 1) := by
  obtain ⟨hlim0, S1, S2, s1, s2, s3, s4, s5, s6, s7, s8, s9, s10, s11⟩ := start_ok (S := newDS 8) (R := ⟨0, 8⟩) (newDS_blank (by decide)) rfl rfl (by decide) (by decide) ⟨by show 0 + 999995000 ≤ _; omega, by show 0 + 999995000 ≤ _; omega, by show 0 ≤ _; omega⟩
  have hl8 : S2.dur.length = 8 := s10
  rcases s11.app (b := List.replicate 200 0) (by omega) (by simp) with ⟨_, hA1⟩ | ⟨S3, a1, a2, a3, _⟩
  · simp [JR.half, sizeE, needN] at hA1
  rcases a2.app (b := List.replicate 300 0) (by omega) (by simp) with ⟨_, hA2⟩ | ⟨S4, b1, b2, b3, _⟩
  · simp [JR.half, sizeE, needN] at hA2
  rcases b2.app (b := []) (by omega) (by simp) with ⟨c1, _⟩ | ⟨S5, _, _, _, hA3⟩
  case inr => simp [JR.half, sizeE, needN] at hA3
  rcases b2.trn (by omega) (by omega) 1 with ⟨_, hT⟩ | ⟨_, hT⟩ | ⟨S6, k, d0, d1, d2, d3, d4, d5⟩
  · simp [JD.next] at hT
  · simp at hT
  have hk : k = 1 := by
    have h9 : (1 : Int) = ((0 + k : Nat) : Int) := d0
    omega
  subst hk
  exact ⟨S1, S2, S3, S4, S6, _, _, _, _, ⟨hlim0, s1, s2⟩, ⟨s3, s4, s6, s7, s8, s9⟩, ⟨rfl, rfl, rfl⟩, ⟨s11.num (by omega) (by omega), a2.num (by omega) (by omega), b2.num (by omega) (by omega), d4.num (by omega) (by omega)⟩, a1, b1, c1, d3, rfl, rfl, by simp [JR.half, sizeE, needN]⟩
set_option maxRecDepth 100000 in
set_option maxHeartbeats 2000000 in
theorem known_any {w : World} (hK : KAt w) : Calls Tryd.prog 10 #[] w fun e w' => e = .returned (.bool true) ∧ Below w.heap.size w w' := by
  have hK0 := hK.size
  have HK := Lib.hid hK
  obtain ⟨S1, S2, S3, S4, S6, J1, J2, J3, J4, hst, hop, hj1, hnum, ha1, ha2, ha3, htr, hj4⟩ := known_plain
  obtain ⟨l2, hl2⟩ : ∃ l2, List.replicate 200 (0 : UInt8) = l2 := ⟨_, rfl⟩
  obtain ⟨l3, hl3⟩ : ∃ l3, List.replicate 300 (0 : UInt8) = l3 := ⟨_, rfl⟩
  have hmk2 : ∀ w, (Instr.makeSlice 36 (.int .i64 200) (.int .i64 200)).run Tryd.prog w = .ok (.slice (some ⟨w.heap.size, 0, none⟩) 200 200) (w.alloc (.cells (bvs l2).toArray 5)) := fun w => by rw [← hl2]; exact jmk 200 (by omega) w
  have hmk3 : ∀ w, (Instr.makeSlice 36 (.int .i64 300) (.int .i64 300)).run Tryd.prog w = .ok (.slice (some ⟨w.heap.size, 0, none⟩) 300 300) (w.alloc (.cells (bvs l3).toArray 5)) := fun w => by rw [← hl3]; exact jmk 300 (by omega) w
  have HF2 := Lib.hid (show ∀ w : World, BytesN (w.alloc (.cells (bvs l2).toArray 5)) (fun k => w.heap.size ≤ k) (.slice (some ⟨w.heap.size, 0, none⟩) 200 200) l2 from fun w => by rw [← hl2]; exact fresh_n 200)
  have HF3 := Lib.hid (show ∀ w : World, BytesN (w.alloc (.cells (bvs l3).toArray 5)) (fun k => w.heap.size ≤ k) (.slice (some ⟨w.heap.size, 0, none⟩) 300 300) l3 from fun w => by rw [← hl3]; exact fresh_n 300)
  have HLE := Lib.hid (show l2.length ≤ 100000000 ∧ l3.length ≤ 100000000 by rw [← hl2, ← hl3]; exact ⟨by rw [List.length_replicate]; omega, by rw [List.length_replicate]; omega⟩)
  rw [hl2] at ha1
  rw [hl3] at ha2
  obtain ⟨R, hR⟩ : ∃ R : JR, (⟨0, 8⟩ : JR) = R := ⟨_, rfl⟩
  have HRE := Lib.hid hR
  have HST := Lib.hid hst
  have HOP := Lib.hid hop
  have HJ1 := Lib.hid hj1
  have HNM := Lib.hid hnum
  have HA1 := Lib.hid ha1
  have HA2 := Lib.hid ha2
  have HA3 := Lib.hid ha3
  have HTR := Lib.hid htr
  have HJ4 := Lib.hid hj4
  clear hR hst hop hj1 hnum ha1 ha2 ha3 htr hj4 hl2 hl3 hK
  go_enter Tryd.func10, Tryd.ntmps10
  go_wp2_with fail
  refine (New_good 8 w (by omega) (by omega)).mono ?_
  rintro e W1 ⟨rfl, hd1, hb1⟩
  obtain ⟨b, hbE⟩ : ∃ b, w.heap.size + 1 = b := ⟨_, rfl⟩
  rw [hbE] at hd1 ⊢
  have HB1 := Lib.hid hb1
  have HD1 := Lib.hid hd1
  clear hbE hb1 hd1
  go_wp2_with fail
  refine (JFormat_z HD1.out (KAt.below HK.out HB1.out hK0) (by omega) 0 8 (by decide) (by decide) rfl HST.out.1 ⟨by show 0 + 2 ≤ _; omega, by show 0 + 2 ≤ _; omega, by show 0 ≤ _; omega⟩ HST.out.2.1 HST.out.2.2).mono ?_
  rintro e W2 ⟨rfl, hd2, hc2⟩
  have HB2 := Lib.hid (HB1.out.trans (hc2.below (fun k e => e) HB1.out.size))
  have HD2 := Lib.hid (hd2.mono (G := fun k => w.heap.size ≤ k) (fun k h => h.elim id (fun h2 => Nat.le_trans HB1.out.size h2)))
  clear hd2 hc2
  go_wp2_with fail
  refine (JOpen_z HB2.out HD2.out HK.out (fun k e => e) 0 8 (by decide) (by rw [HOP.out.1]; decide) HOP.out.2.1 ⟨0, 0, []⟩ HOP.out.2.2.2.1 HOP.out.2.2.2.2.1 (by decide) (HOP.out.2.2.1.less (by decide)) HOP.out.2.2.2.2.2).mono ?_
  rintro e W3 ⟨g, N, la, lc, rfl, hj, _, _, _⟩
  rw [HJ1.out.2.2, HRE.out] at *
  have HJA3 := Lib.hid hj.ja
  clear hj
  go_wp2_with fail
  refine (Generation_ja HJA3.out HJ1.out.1).mono ?_
  rintro e W4 ⟨rfl, hj, _⟩
  have HJA4 := Lib.hid hj
  clear hj
  go_wp2_with fail
  refine (Free_ja HJA4.out HNM.out.1 HJ1.out.2.1).mono ?_
  rintro e W5 ⟨rfl, hj, _⟩
  have HJA5 := Lib.hid hj
  clear hj
  go_wp2_with fail
  refine (App_ja HJA5.out HK.out HNM.out.1 ((Below.refl _ _).alloc (Nat.le_refl _) _) (HF2.out W5) HLE.out.1 HA1.out).mono ?_
  rintro e W6 ⟨rfl, hj⟩
  have HJA6 := Lib.hid hj
  clear hj
  go_wp2_with fail
  refine (App_ja HJA6.out HK.out HNM.out.2.1 ((Below.refl _ _).alloc (Nat.le_refl _) _) (HF3.out W6) HLE.out.2 HA2.out).mono ?_
  rintro e W7 ⟨rfl, hj⟩
  have HJA7 := Lib.hid hj
  clear hj
  go_wp2_with fail
  refine (App_ja HJA7.out HK.out HNM.out.2.2.1 (Below.refl _ _) (nil_bytes W7 _) (by decide) HA3.out).mono ?_
  rintro e W8 ⟨rfl, hj⟩
  have HJA8 := Lib.hid hj
  clear hj
  go_wp2_with fail
  refine (Trn_ja HJA8.out HK.out HNM.out.2.2.1 1 HTR.out).mono ?_
  rintro e W9 ⟨rfl, hj⟩
  have HJA9 := Lib.hid hj
  clear hj
  go_wp2_with fail
  refine (First_ja HJA9.out HJ4.out.1).mono ?_
  rintro e WA ⟨rfl, hj, _⟩
  have HJAA := Lib.hid hj
  clear hj
  go_wp2_with fail
  refine (Generation_ja HJAA.out HJ4.out.2.1).mono ?_
  rintro e WB ⟨rfl, hj, _⟩
  have HJAB := Lib.hid hj
  clear hj
  go_wp2_with fail
  refine (Free_ja HJAB.out HNM.out.2.2.2 HJ4.out.2.2).mono ?_
  rintro e WC ⟨rfl, hj, _⟩
  have HBC := Lib.hid hj.below
  clear hj
  go_wp2_with fail
  exact bodyPost_ret (v := .bool true) (by simp [results, Tryd.results10, go_sem]) rfl ⟨rfl, HBC.out⟩
end Go.Proofs.YtplclpileejemaaDoor

namespace Go.Proofs.YtplclpileejemaaDoor
open Go.ChangeShapes Go.WideShapes Go.ChangeAt Go.RowKit
set_option linter.unusedVariables false
set_option linter.unusedSimpArgs false

theorem own : ownKnob Tryd.prog.godebug = none := by kernel_rfl
theorem laidOut : laidOutB Tryd.prog = true := by kernel_rfl

theorem trodAll_stays {H : Type} {enc : TypeId × Value → H} {P : Program} (hl : laidOutB P = true) {W W' : World} (hb : Below W.heap.size W W') (ts : List TypeId) : ∀ {vs : List Value} {ds : List (DataW H)} {ps : List MemPlace},
    ts.all (fun t => P.readableRec t && decide (t < P.types.size)) = true → DataW.TrodAll enc P W 0 (fun _ => true) true ts vs ds ps → (∀ x ∈ ps, x.block < W.heap.size) →
    DataW.TrodAll enc P W' 0 (fun b => decide (b < W.heap.size)) true ts vs ds ps := by
  induction ts with
  | nil =>
    intro vs ds ps _ h _
    obtain ⟨rfl, rfl, rfl⟩ := trodAll_nil h
    exact trodAll_mk0
  | cons t ts ih =>
    intro vs ds ps ht h hlt
    obtain ⟨v0, vs0, d0, ds0, p0, q0, rfl, rfl, rfl, h0, r0⟩ := trodAll_cons h
    simp only [List.all_cons, Bool.and_eq_true, decide_eq_true_eq] at ht
    exact trodAll_cons_mk (Below.trod hl ht.1.1 ht.1.2 h0 hb (fun x hx => hlt x (by simp [hx]))) (ih ht.2 r0 (fun x hx => hlt x (by simp [hx])))

/-- The post of a law: it returned true, the arguments read as they did. -/
theorem law_post {H : Type} {enc : TypeId × Value → H} {f : Func} {s : ChangeSpec} {W W' : World} {args : Array Value} {ds : List (DataW H)} {before : List MemPlace}
    (hp : f.params.toList.all (fun t => Tryd.prog.readableRec t && decide (t < Tryd.prog.types.size)) = true) (hs : s.vars = []) (hr : f.resultTypes = #[4])
    (hW : DataW.Whole enc Tryd.prog f.params.toList s.vars false W args.toList ds [] before) (hfn : s.fn H (ds ++ []) = { results := [.lit (.bool true)], args := ds }) (hb : Below W.heap.size W W') :
    s.post enc Tryd.prog f false true false false W args (.bool true) W' := by
  have hW' := hW
  obtain ⟨p, q, hA, hV, hpq, hfz, hnd⟩ := hW
  rw [hs] at hV
  obtain ⟨_, rfl⟩ := trodVars_none hV
  have hpq' : before = p := by simpa using hpq
  subst hpq'
  have hlt : ∀ x ∈ before, x.block < W.heap.size := fun x hx => by simpa using hW'.lt x hx
  refine ⟨ds, [], before, [], before, [], hW', ?_, ?_, ?_, hb.frame _, fun h => by cases h⟩
  · rw [hfn, hr]; exact trodAll_cons_mk (shut_bool Tryd.underlying4 _) trodAll_mk0
  · rw [hfn]; exact trodAll_stays laidOut hb _ hp hA hlt
  · rw [hfn, hs]; rfl

end Go.Proofs.YtplclpileejemaaDoor

namespace Go.Proofs.YtplclpileejemaaDoor
open Go.RowKit Go.ChangeShapes Go.WideShapes Go.ChangeAt Go.Deep
set_option linter.unusedVariables false
set_option linter.unusedSimpArgs false

theorem cellsOf_u8 : Tryd.prog.cellsOf 5 = 1 := by kernel_rfl
theorem cellsOf_int : Tryd.prog.cellsOf 3 = 1 := by kernel_rfl
theorem cellsOf_bytes : Tryd.prog.cellsOf 36 = 1 := by kernel_rfl

section
variable {H : Type} {enc : TypeId × Value → H} {w : World} {base : Nat} {sp : Nat → Bool} {held : Bool} {fuel : Nat}

theorem trod_u8 {v : Value} {x : DataW H × List MemPlace}
    (h : DataW.trod enc Tryd.prog w base sp held fuel 5 [v] = some x) : ∃ b : UInt8, v = bv b := by
  obtain ⟨n, e, _, hw⟩ := DataW.trod_int Tryd.underlying5 h
  have hb : 0 ≤ n ∧ n ≤ 255 := bounds_u8 hw
  obtain ⟨k, rfl⟩ := Int.eq_ofNat_of_zero_le hb.1
  refine ⟨UInt8.ofNat k, ?_⟩
  have : v = .int .u8 (k : Int) := by simpa using e
  rw [this]
  unfold bv
  simp only [UInt8.toNat_ofNat']
  rw [Nat.mod_eq_of_lt (by omega)]

theorem trod_i64 {v : Value} {x : DataW H × List MemPlace}
    (h : DataW.trod enc Tryd.prog w base sp held fuel 3 [v] = some x) : ∃ n : Int, v = .int .i64 n ∧ -9223372036854775808 ≤ n ∧ n ≤ 9223372036854775807 := by
  obtain ⟨n, e, _, hw⟩ := DataW.trod_int Tryd.underlying3 h
  exact ⟨n, by simpa using e, bounds_i64 hw⟩

theorem trod_bytesN {v : Value} {x : DataW H × List MemPlace}
    (h : DataW.trod enc Tryd.prog w base sp held fuel 36 [v] = some x) : ∃ a len cap l, v = .slice a len cap ∧ l.length = len ∧ len ≤ maxLen ∧ BytesN w (fun _ => True) v l := by
  rcases open_slice1 Tryd.underlying36 cellsOf_u8 h with ⟨hcs, _⟩ | ⟨a, len, cap, m, n, V, D, Pl, hcs, _, hl, hcm, hm, _, hx⟩
  · simp only [List.cons.injEq, and_true] at hcs
    subst hcs
    exact ⟨none, 0, 0, [], rfl, rfl, Nat.zero_le _, bytesAt_nil _ _, fun k c e => by cases e; rfl⟩
  · simp only [List.cons.injEq, and_true] at hcs
    subst hcs
    have hml : len ≤ m := by rw [hm]; split <;> omega
    obtain ⟨B, hB⟩ := choose_lt (α := UInt8) (p := fun i b => V i = bv b) (n := len) (fun i hi => trod_u8 (hx i (Nat.lt_of_lt_of_le hi hml)).2)
    have hlen : ((List.range len).map B).length = len := by simp
    refine ⟨some a, len, cap, (List.range len).map B, rfl, hlen, by omega, ⟨some a, cap, by rw [hlen], by rw [hlen]; exact hl, fun hne => ?_⟩, fun k c e => by cases e⟩
    have hpos : 0 < len := by
      rcases Nat.eq_zero_or_pos len with h0 | h0
      · subst h0; exact absurd rfl hne
      · exact h0
    obtain ⟨g, off, spot⟩ := a
    have h0 := (hx 0 (by omega)).1
    have hspot : spot = none := by simpa [Addr.add] using World.cell?_spot h0
    subst hspot
    refine ⟨g, off, rfl, trivial, ?_, ?_⟩
    · have := World.block_lt_of_cell? w _ h0
      simpa [Addr.add] using this
    · intro j u hj
      have hjl : j < len := by have := (List.getElem?_eq_some_iff.1 hj).1; simpa using this
      have h1 := (hx j (Nat.lt_of_lt_of_le hjl hml)).1
      have hadd : (⟨g, off, none⟩ : Addr).add j = ⟨g, off + j, none⟩ := by unfold Addr.add; split <;> simp_all
      rw [hadd] at h1
      rw [h1, hB j hjl]
      rw [bvs_getElem?, List.getElem?_map, List.getElem?_range hjl] at hj
      simpa using hj

end
end Go.Proofs.YtplclpileejemaaDoor

namespace Go.Proofs.YtplclpileejemaaDoor
open Go.ChangeShapes Go.WideShapes Go.ChangeAt Go.RowKit
set_option linter.unusedVariables false
set_option linter.unusedSimpArgs false

def laidList : List (String × DataW Unit) := [("bulletin/sha256.constants", Rows.laid_bulletin_sha256_constants)]
set_option maxRecDepth 100000 in
theorem door_met (os : Os) (args : Array Value) : laidMetH Tryd.prog laidList ((World.doorLaid Tryd.prog 400 os).forCall (fun _ _ => 0) ⟨#[], args, []⟩).memory :=
  laidMetH_of_parts3 (fuel := 8) (laidMet_of_run' 8 (by kernel_rfl) (by kernel_rfl)) (by kernel_rfl) (by kernel_rfl)

theorem gK : Tryd.prog.globalNamed "bulletin/sha256.constants" = some 0 := by kernel_rfl
theorem tK : (Tryd.prog.globals[0]?).map (·.type) = some 155 := by kernel_rfl
theorem cU32 : Tryd.prog.cellsOf 143 = 1 := by kernel_rfl
theorem cK : Tryd.prog.cellsOf 155 = 64 := by kernel_rfl

set_option maxRecDepth 100000 in
theorem kat_of_laid {W : World} (h : laidMetH Tryd.prog laidList W) : KAt W := by
  rw [MakeChecks.laidMetH_plain _ _ _ (by kernel_rfl)] at h
  have e : laidList = [("bulletin/sha256.constants", Lib.tabData .u32 (kTab.map wN))] := by kernel_rfl
  rw [e] at h
  have ht := Lib.tabIs_of_head gK tK Tryd.underlying155 Tryd.underlying143 cU32 cK h
  have hl : kTab.length = 64 := by decide
  have hc : ∀ j, j < 64 → W.cell? ⟨0, j, none⟩ = some (.int .u32 (wN (kTab.getD j 0))) := fun j hj => by
    rw [ht.cell gK j (by simpa [hl] using hj)]
    rw [List.getD_eq_getElem?_getD, List.getElem?_map, List.getElem?_eq_getElem (by omega), List.getD_eq_getElem?_getD, List.getElem?_eq_getElem (by omega)]
    rfl
  exact ⟨World.block_lt_of_cell? W _ (hc 0 (by decide)), hc⟩
end Go.Proofs.YtplclpileejemaaDoor

namespace Go.Proofs.YtplclpileejemaaDoor
open Go.RowKit Go.ChangeShapes Go.WideShapes Go.ChangeAt Go.Deep
set_option linter.unusedVariables false
set_option linter.unusedSimpArgs false

theorem bytesOf_u8 : Tryd.prog.bytesOf 5 = 1 := by kernel_rfl

/-- No slice, string or map in it is beyond the reach. -/
def Fits {H : Type} (t : TypeId) (d : DataW H) : Prop := (d.weights Tryd.prog t).all (· ≤ reachBytes) = true
theorem fits_each {H : Type} {ts : List TypeId} {ds : List (DataW H)} (h : (DataW.weightsEach Tryd.prog ts ds).all (· ≤ reachBytes) = true) {j : Nat} {t : TypeId} {d : DataW H} (ht : ts[j]? = some t) (hd : ds[j]? = some d) : Fits t d :=
  List.all_eq_true.2 fun n hn => List.all_eq_true.1 h n (DataW.weights_mem_each ht hd n hn)
theorem fits_field {H : Type} {t : TypeId} {fs : Array Field} {parts : List (DataW H)} (hu : Tryd.prog.underlying t = some (.struct fs)) (h : Fits t (.agg parts)) {j : Nat} {f : Field} {d : DataW H} (hf : fs[j]? = some f) (hd : parts[j]? = some d) : Fits f.type d := by
  unfold Fits at h
  simp only [DataW.weights, hu] at h
  exact fits_each h (j := j) (by simp [hf]) hd
theorem weights_mem_all {H : Type} {e : TypeId} : ∀ {ds : List (DataW H)} {d : DataW H}, d ∈ ds → ∀ n ∈ d.weights Tryd.prog e, n ∈ DataW.weightsAll Tryd.prog e ds
  | d0 :: ds, d, hd, n, hn => by
    simp only [DataW.weightsAll, List.mem_append]
    rcases List.mem_cons.1 hd with rfl | h
    · exact .inl hn
    · exact .inr (weights_mem_all h n hn)
theorem fits_slice {H : Type} {t e : TypeId} {elems spare : List (DataW H)} (hu : Tryd.prog.underlying t = some (.slice e)) (h : Fits t (.slice elems spare)) :
    (elems.length + spare.length) * Tryd.prog.bytesOf e ≤ reachBytes ∧ ∀ d ∈ elems, Fits e d := by
  unfold Fits at h
  simp only [DataW.weights, hu] at h
  simp only [List.all_cons, Bool.and_eq_true, decide_eq_true_eq, List.all_append] at h
  exact ⟨h.1, fun d hd => List.all_eq_true.2 fun n hn => List.all_eq_true.1 h.2.1 n (weights_mem_all hd n hn)⟩

section
variable {H : Type} {enc : TypeId × Value → H} {w : World} {base : Nat} {sp : Nat → Bool} {held : Bool} {fuel : Nat}

theorem trod_bytesS {v : Value} {x : DataW H × List MemPlace}
    (h : DataW.trod enc Tryd.prog w base sp held fuel 36 [v] = some x) (hs : Fits 36 x.1) : ∃ a len cap l, v = .slice a len cap ∧ l.length = len ∧ len ≤ 140737488351232 ∧ BytesN w (fun _ => True) v l := by
  obtain ⟨a, len, cap, l, rfl, hl, _, hb⟩ := trod_bytesN h
  refine ⟨a, len, cap, l, rfl, hl, ?_, hb⟩
  rcases open_slice1 Tryd.underlying36 cellsOf_u8 h with ⟨hcs, _⟩ | ⟨a', len', cap', m, n, V, D, Pl, hcs, _, _, _, _, rfl, _⟩
  · simp only [List.cons.injEq, and_true, Value.slice.injEq] at hcs
    obtain ⟨_, rfl, _⟩ := hcs
    exact Nat.zero_le _
  · simp only [List.cons.injEq, and_true, Value.slice.injEq] at hcs
    obtain ⟨_, rfl, _⟩ := hcs
    have := (fits_slice Tryd.underlying36 hs).1
    rw [bytesOf_u8, Nat.mul_one, List.length_map, List.length_range] at this
    unfold reachBytes at this
    omega

end
end Go.Proofs.YtplclpileejemaaDoor
