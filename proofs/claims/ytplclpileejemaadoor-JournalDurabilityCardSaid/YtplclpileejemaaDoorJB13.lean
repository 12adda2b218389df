/- Journals, plainly: what a sector may read as behind a failure; Journals, plainly: areas behind a failure; Journals, plainly: a move. -/
import Derived.Test.YtplclpileejemaaDoorJB12
namespace Go.Proofs.YtplclpileejemaaDoor
open Go.RowKit
set_option linter.unusedVariables false
set_option linter.unusedSimpArgs false

/-- What a sector may be, if the power fails and no write is torn. -/
def Cand (S : DS) (s : Nat) (x : List UInt8) : Prop := x = S.dur.getD s zeros ∨ (s, x) ∈ S.pend
theorem visP_snoc (l : List (Nat × List UInt8)) (x : Nat × List UInt8) (s : Nat) : visP (l ++ [x]) s = if x.1 = s then some x.2 else visP l s := by
  unfold visP
  rw [List.reverse_append, List.reverse_singleton, List.singleton_append, List.find?_cons]
  by_cases h : x.1 = s
  · rw [if_pos h, beq_iff_eq.2 h]; rfl
  · rw [if_neg h, beq_false_of_ne h]
theorem cand_visible (S : DS) (s : Nat) : Cand S s (S.visible s) := by
  unfold DS.visible visP
  cases hf : S.pend.reverse.find? (fun x => x.1 == s) with
  | none => exact .inl rfl
  | some x =>
    have h1 := List.mem_of_find?_eq_some hf
    have h2 := List.find?_some hf
    rw [List.mem_reverse] at h1
    obtain rfl : x.1 = s := by simpa using h2
    exact .inr h1
theorem cand_none {S : DS} (h : S.pend = []) {s : Nat} {x : List UInt8} (hx : Cand S s x) : x = S.visible s := by
  rcases hx with hx | hx
  · rw [hx]; unfold DS.visible visP; rw [h]; rfl
  · rw [h] at hx; cases hx
/-- One more write. -/
structure Wrote (S S' : DS) (s : Nat) (b : List UInt8) : Prop where
  pend : S'.pend = S.pend ++ [(s, b)]
  dur : S'.dur = S.dur
  down : S'.down = false
/-- Nothing but counters. -/
structure Same (S S' : DS) : Prop where
  pend : S'.pend = S.pend
  dur : S'.dur = S.dur
theorem Same.refl (S : DS) : Same S S := ⟨rfl, rfl⟩
theorem Same.operate (S : DS) : Same S S.operate.1 := ⟨(operate_pend S).1, (operate_pend S).2⟩
theorem Same.trans {S S' S'' : DS} (h : Same S S') (h' : Same S' S'') : Same S S'' := ⟨h'.pend.trans h.pend, h'.dur.trans h.dur⟩
theorem Same.cand {S S' : DS} (h : Same S S') {s : Nat} {x : List UInt8} (hx : Cand S' s x) : Cand S s x := by
  unfold Cand at hx ⊢; rw [h.pend, h.dur] at hx; exact hx
theorem Same.symm {S S' : DS} (h : Same S S') : Same S' S := ⟨h.pend.symm, h.dur.symm⟩
theorem Same.visible {S S' : DS} (h : Same S S') (s : Nat) : S'.visible s = S.visible s := by unfold DS.visible; rw [h.pend, h.dur]
theorem operate_down {S : DS} (h : S.operate.2 = true) : S.operate.1.down = S.down := by
  unfold DS.operate at h ⊢
  split at h
  · cases h
  · rfl
  · rfl
theorem operate_crash {S : DS} (h : ¬ S.operate.2 = true) : S.operate.1.down = true := by
  unfold DS.operate at h ⊢
  split at h
  · rfl
  · exact absurd rfl h
  · exact absurd rfl h
theorem write_cases (S : DS) (s : Nat) (b : List UInt8) : ((S.write s b).2 = 0 ∧ S.down = false ∧ Wrote S (S.write s b).1 s b) ∨ ((S.write s b).2 ≠ 0 ∧ Same S (S.write s b).1) := by
  unfold DS.write
  by_cases h1 : S.down = true
  · rw [if_pos h1]; exact .inr ⟨show (28 : Int) ≠ 0 by decide, Same.refl S⟩
  · rw [if_neg h1]
    by_cases h2 : S.has (s : Int) = true
    · rw [if_pos h2]
      by_cases h3 : b.length = 256
      · rw [if_pos h3]
        by_cases h4 : S.operate.2 = true
        · rw [if_pos h4]
          refine .inl ⟨rfl, by simpa using h1, ?_, ?_, ?_⟩
          · show S.operate.1.pend ++ [((s : Int).toNat, b)] = _
            rw [(operate_pend S).1, Int.toNat_natCast]
          · exact (operate_pend S).2
          · show S.operate.1.down = false
            rw [operate_down h4]; simpa using h1
        · rw [if_neg h4]; exact .inr ⟨show (28 : Int) ≠ 0 by decide, Same.operate S⟩
      · rw [if_neg h3]; exact .inr ⟨show (2 : Int) ≠ 0 by decide, Same.refl S⟩
    · rw [if_neg h2]; exact .inr ⟨show (8 : Int) ≠ 0 by decide, Same.refl S⟩
/-- A write of a whole sector of the device fails only if the power does. -/
theorem write_err {S : DS} {s : Nat} {b : List UInt8} (hs : s < S.dur.length) (hb : b.length = 256) (h : (S.write s b).2 ≠ 0) : (S.write s b).2 = 28 ∧ (S.write s b).1.down = true := by
  unfold DS.write at h ⊢
  by_cases h1 : S.down = true
  · rw [if_pos h1]; exact ⟨rfl, h1⟩
  · rw [if_neg h1] at h ⊢
    rw [if_pos (show S.has (s : Int) = true by simp [DS.has]; omega), if_pos hb] at h ⊢
    by_cases h4 : S.operate.2 = true
    · rw [if_pos h4] at h; exact absurd rfl h
    · rw [if_neg h4]; exact ⟨rfl, operate_crash h4⟩
theorem Wrote.cand {S S' : DS} {s : Nat} {b : List UInt8} (h : Wrote S S' s b) {k : Nat} {x : List UInt8} (hx : Cand S' k x) : Cand S k x ∨ (k = s ∧ x = b) := by
  unfold Cand at hx ⊢
  rw [h.pend, h.dur, List.mem_append, List.mem_singleton] at hx
  rcases hx with hx | hx | hx
  · exact .inl (.inl hx)
  · exact .inl (.inr hx)
  · cases hx; exact .inr ⟨rfl, rfl⟩
theorem Wrote.visible {S S' : DS} {s : Nat} {b : List UInt8} (h : Wrote S S' s b) (k : Nat) : S'.visible k = if s = k then b else S.visible k := by
  unfold DS.visible
  rw [h.pend, h.dur, visP_snoc]
  by_cases e : s = k
  · rw [if_pos e, if_pos e]; rfl
  · rw [if_neg e, if_neg e]
/-- Pairs of sectors and contents from a sector on. -/
def stamp : Nat → List (List UInt8) → List (Nat × List UInt8)
  | _, [] => []
  | a, b :: L => (a, b) :: stamp (a + 1) L
theorem stamp_append : ∀ (L M : List (List UInt8)) (a : Nat), stamp a (L ++ M) = stamp a L ++ stamp (a + L.length) M
  | [], _, _ => rfl
  | b :: L, M, a => by
    rw [List.cons_append, stamp, stamp, stamp_append L M, List.length_cons, show a + 1 + L.length = a + (L.length + 1) by omega]
    rfl
theorem mem_stamp : ∀ {L : List (List UInt8)} {a s : Nat} {x : List UInt8}, (s, x) ∈ stamp a L → a ≤ s ∧ L[s - a]? = some x
  | [], _, _, _, h => by cases h
  | b :: L, a, s, x, h => by
    rw [stamp] at h
    rcases List.mem_cons.1 h with h | h
    · cases h; exact ⟨Nat.le_refl _, by rw [Nat.sub_self]; rfl⟩
    · obtain ⟨h1, h2⟩ := mem_stamp h
      refine ⟨by omega, ?_⟩
      rw [show s - a = (s - (a + 1)) + 1 by omega, List.getElem?_cons_succ]
      exact h2
theorem visP_stamp : ∀ (L : List (List UInt8)) (l : List (Nat × List UInt8)) (a s : Nat), visP (l ++ stamp a L) s = if a ≤ s ∧ s - a < L.length then L[s - a]? else visP l s
  | [], l, a, s => by simp [stamp]
  | b :: L, l, a, s => by
    have h := visP_stamp L (l ++ [(a, b)]) (a + 1) s
    rw [List.append_assoc] at h
    show visP (l ++ ([(a, b)] ++ stamp (a + 1) L)) s = _
    rw [h, visP_snoc]
    simp only [List.length_cons]
    by_cases h1 : a = s
    · subst h1
      rw [if_neg (by omega), if_pos rfl, if_pos ⟨Nat.le_refl _, by omega⟩, Nat.sub_self]
      rfl
    · rw [if_neg h1]
      by_cases h2 : a + 1 ≤ s ∧ s - (a + 1) < L.length
      · rw [if_pos h2, if_pos ⟨by omega, by omega⟩, show s - a = (s - (a + 1)) + 1 by omega, List.getElem?_cons_succ]
      · rw [if_neg h2, if_neg (by omega)]
/-- Sectors were written, one after another. -/
structure WroteL (S S' : DS) (a : Nat) (L : List (List UInt8)) : Prop where
  pend : S'.pend = S.pend ++ stamp a L
  dur : S'.dur = S.dur
theorem WroteL.cand {S S' : DS} {a : Nat} {L : List (List UInt8)} (h : WroteL S S' a L) {k : Nat} {x : List UInt8} (hx : Cand S' k x) : Cand S k x ∨ (a ≤ k ∧ L[k - a]? = some x) := by
  unfold Cand at hx ⊢
  rw [h.pend, h.dur, List.mem_append] at hx
  rcases hx with hx | hx | hx
  · exact .inl (.inl hx)
  · exact .inl (.inr hx)
  · exact .inr (mem_stamp hx)
theorem WroteL.visible {S S' : DS} {a : Nat} {L : List (List UInt8)} (h : WroteL S S' a L) (k : Nat) : S'.visible k = if hk : a ≤ k ∧ k - a < L.length then L[k - a]'hk.2 else S.visible k := by
  unfold DS.visible
  rw [h.pend, h.dur, visP_stamp]
  by_cases e : a ≤ k ∧ k - a < L.length
  · rw [if_pos e, dif_pos e, List.getElem?_eq_getElem e.2]; rfl
  · rw [if_neg e, dif_neg e]
theorem wrL_wrote : ∀ (L : List (List UInt8)) (S : DS) (a : Nat), ∃ k, k ≤ L.length ∧ WroteL S (wrL S a L).1 a (L.take k) ∧ ((wrL S a L).2 = 0 → k = L.length ∧ (L ≠ [] → (wrL S a L).1.down = false) ∧ (L = [] → (wrL S a L).1 = S))
  | [], S, a => ⟨0, Nat.le_refl _, ⟨by simp [wrL, stamp], rfl⟩, fun _ => ⟨rfl, fun h => absurd rfl h, fun _ => rfl⟩⟩
  | b :: L, S, a => by
    rcases write_cases S a b with ⟨h0, hd, hw⟩ | ⟨h0, hs⟩
    · obtain ⟨k, hk, h1, h2⟩ := wrL_wrote L (S.write a b).1 (a + 1)
      have e : wrL S a (b :: L) = wrL (S.write a b).1 (a + 1) L := if_pos h0
      rw [e]
      refine ⟨k + 1, by simp; omega, ⟨?_, h1.dur.trans hw.dur⟩, fun h => ⟨by rw [(h2 h).1]; simp, fun _ => ?_, fun h => by cases h⟩⟩
      · rw [h1.pend, hw.pend, List.append_assoc]; rfl
      · by_cases hL : L = []
        · rw [(h2 h).2.2 hL]; exact hw.down
        · exact (h2 h).2.1 hL
    · have e : wrL S a (b :: L) = S.write a b := if_neg h0
      rw [e]
      exact ⟨0, Nat.zero_le _, ⟨by rw [hs.pend]; simp [stamp], hs.dur⟩, fun h => absurd h h0⟩
theorem wrL_err : ∀ {L : List (List UInt8)} {S : DS} {a : Nat}, (∀ b ∈ L, b.length = 256) → a + L.length ≤ S.dur.length → (wrL S a L).2 ≠ 0 → (wrL S a L).2 = 28 ∧ (wrL S a L).1.down = true
  | [], _, _, _, _, h => absurd rfl h
  | b :: L, S, a, hL, ha, h => by
    rw [List.length_cons] at ha
    by_cases h0 : (S.write a b).2 = 0
    · have e : wrL S a (b :: L) = wrL (S.write a b).1 (a + 1) L := if_pos h0
      rw [e] at h ⊢
      rcases write_cases S a b with ⟨_, _, hw⟩ | ⟨h1, _⟩
      · exact wrL_err (fun x hx => hL x (List.mem_cons_of_mem _ hx)) (by rw [hw.dur]; omega) h
      · exact absurd h0 h1
    · have e : wrL S a (b :: L) = S.write a b := if_neg h0
      rw [e]
      exact write_err (by omega) (hL b (List.mem_cons_self ..)) h0
theorem splitL_pos {r : RecD} (h : splitE r = 0) : splitL r ≠ [] := fun e => by
  have h1 := splitL_length h
  have h2 := need_le (splitE_ok h).2
  rw [e] at h1
  simp at h1
  omega
theorem splitL_256 (r : RecD) : ∀ b ∈ splitL r, b.length = 256 := fun b hb => by
  unfold splitL at hb
  by_cases h : splitE r = 0
  · rw [if_pos h] at hb
    obtain ⟨i, _, rfl⟩ := List.mem_map.1 hb
    exact encL_length _
  · rw [if_neg h] at hb; cases hb
theorem seqL_256 (rs : List RecD) : ∀ b ∈ seqL rs, b.length = 256 := fun b hb => by
  obtain ⟨r, _, h⟩ := List.mem_flatMap.1 hb
  exact splitL_256 r b h
theorem putR_wrote : ∀ (rs : List RecD) (S : DS) (a u : Nat), (∀ r ∈ rs, splitE r = 0) → ∃ k, k ≤ (seqL rs).length ∧ WroteL S (putR S a u rs).1 (a + u) ((seqL rs).take k) ∧ ((putR S a u rs).2.2 = 0 → k = (seqL rs).length ∧ (putR S a u rs).2.1 = u + (seqL rs).length ∧ (rs ≠ [] → (putR S a u rs).1.down = false) ∧ (rs = [] → (putR S a u rs).1 = S))
  | [], S, a, u, _ => ⟨0, Nat.le_refl _, ⟨by simp [putR, stamp], rfl⟩, fun _ => ⟨rfl, rfl, fun h => absurd rfl h, fun _ => rfl⟩⟩
  | r :: rs, S, a, u, hok => by
    have hr := hok r (List.mem_cons_self ..)
    obtain ⟨j, hj, hw, h0⟩ := wrL_wrote (splitL r) S (a + u)
    by_cases h : (wrL S (a + u) (splitL r)).2 = 0
    · have e : putR S a u (r :: rs) = putR (wrL S (a + u) (splitL r)).1 a (u + needN r.load.length) rs := if_pos h
      rw [e]
      obtain ⟨k, hk, h1, h2⟩ := putR_wrote rs (wrL S (a + u) (splitL r)).1 a (u + needN r.load.length) (fun q hq => hok q (List.mem_cons_of_mem _ hq))
      have hlen := splitL_length hr
      obtain ⟨rfl, hdn, _⟩ := h0 h
      rw [List.take_length] at hw
      refine ⟨(splitL r).length + k, by rw [seqL_cons, List.length_append]; omega, ⟨?_, h1.dur.trans hw.dur⟩, fun h9 => ⟨by rw [seqL_cons, List.length_append, (h2 h9).1], by rw [(h2 h9).2.1, seqL_cons, List.length_append, hlen]; omega, fun _ => ?_, fun h => by cases h⟩⟩
      · rw [h1.pend, hw.pend, seqL_cons, List.take_length_add_append, stamp_append, List.append_assoc, hlen, Nat.add_assoc]
      · by_cases hL : rs = []
        · rw [(h2 h9).2.2.2 hL]; exact hdn (splitL_pos hr)
        · exact (h2 h9).2.2.1 hL
    · have e : putR S a u (r :: rs) = ((wrL S (a + u) (splitL r)).1, 0, (wrL S (a + u) (splitL r)).2) := if_neg h
      rw [e]
      refine ⟨j, by rw [seqL_cons, List.length_append]; omega, ?_, fun h9 => absurd h9 h⟩
      rw [seqL_cons, List.take_append_of_le_length hj]
      exact hw
theorem putR_err : ∀ {rs : List RecD} {S : DS} {a u : Nat}, (∀ r ∈ rs, splitE r = 0) → a + u + (seqL rs).length ≤ S.dur.length → (putR S a u rs).2.2 ≠ 0 → (putR S a u rs).2.2 = 28 ∧ (putR S a u rs).1.down = true
  | [], _, _, _, _, _, h => absurd rfl h
  | r :: rs, S, a, u, hok, ha, h => by
    have hr := hok r (List.mem_cons_self ..)
    have hlen := splitL_length hr
    rw [seqL_cons, List.length_append] at ha
    by_cases h0 : (wrL S (a + u) (splitL r)).2 = 0
    · have e : putR S a u (r :: rs) = putR (wrL S (a + u) (splitL r)).1 a (u + needN r.load.length) rs := if_pos h0
      rw [e] at h ⊢
      obtain ⟨j, _, hw, _⟩ := wrL_wrote (splitL r) S (a + u)
      exact putR_err (fun q hq => hok q (List.mem_cons_of_mem _ hq)) (by rw [hw.dur]; omega) h
    · have e : putR S a u (r :: rs) = ((wrL S (a + u) (splitL r)).1, 0, (wrL S (a + u) (splitL r)).2) := if_neg h0
      rw [e]
      exact wrL_err (splitL_256 r) (by omega) h0
/-- The durable contents while a failure is undone, write by write. -/
theorem rdur_getD {S : DS} {cs : List UInt8} {k : Nat} (hk : k < S.pend.length) {s : Nat} (hs : s < S.dur.length) :
    (rdur S cs (k + 1)).getD s zeros = if S.pend[k].1 = s then fate ((rdur S cs k).getD s zeros) S.pend[k].2 (cs.getD k 0).toNat else (rdur S cs k).getD s zeros := by
  have hl := rdur_length S cs k
  rw [rdur, List.getElem?_eq_getElem hk]
  simp only
  by_cases e : S.pend[k].1 = s
  · rw [if_pos e, e]
    simp [List.getD, hl, hs]
  · rw [if_neg e]
    simp [List.getD, List.getElem?_set_ne e]
theorem rdur_cand {S : DS} {cs : List UInt8} (hcs : ∀ i, (cs.getD i 0).toNat % 3 ≠ 2) {s : Nat} (hs : s < S.dur.length) : ∀ k, k ≤ S.pend.length → Cand S s ((rdur S cs k).getD s zeros)
  | 0, _ => .inl rfl
  | k + 1, hk => by
    have ih := rdur_cand hcs hs k (by omega)
    rw [rdur_getD (by omega) hs]
    by_cases e : S.pend[k].1 = s
    · rw [if_pos e]
      unfold fate
      have h2 := hcs k
      by_cases h0 : (cs.getD k 0).toNat % 3 = 0
      · rw [if_pos h0]; exact ih
      · rw [if_neg h0, if_pos (by omega)]
        refine .inr ?_
        rw [← e]
        exact List.getElem_mem (by omega)
    · rw [if_neg e]; exact ih
theorem rdur_vis {S : DS} {s : Nat} (hs : s < S.dur.length) : ∀ k, k ≤ S.pend.length → (fdur S k).getD s zeros = (visP (S.pend.take k) s).getD (S.dur.getD s zeros)
  | 0, _ => rfl
  | k + 1, hk => by
    have ih := rdur_vis hs k (by omega)
    unfold fdur at ih ⊢
    rw [rdur_getD (by omega) hs, List.take_succ_eq_append_getElem (by omega), visP_snoc]
    by_cases e : S.pend[k].1 = s
    · rw [if_pos e, if_pos e]
      have : (List.replicate S.pend.length (1 : UInt8)).getD k 0 = 1 := by simp [List.getD, show k < S.pend.length by omega]
      rw [this]
      rfl
    · rw [if_neg e, if_neg e]; exact ih
/-- What was flushed reads as before. -/
theorem flush_cases {S : DS} (hd : S.down = false) : (S.flush.2 = 0 ∧ S.flush.1.pend = [] ∧ S.flush.1.down = false ∧ S.flush.1.dur.length = S.dur.length ∧ ∀ s, s < S.dur.length → S.flush.1.visible s = S.visible s) ∨ (S.flush.2 = 28 ∧ Same S S.flush.1 ∧ S.flush.1.down = true) := by
  unfold DS.flush
  rw [if_neg (by rw [hd]; simp)]
  by_cases h : S.operate.2 = true
  · rw [if_pos h]
    refine .inl ⟨rfl, rfl, by show S.operate.1.down = false; rw [operate_down h]; exact hd, rdur_length _ _ _, fun s hs => ?_⟩
    have h1 := rdur_vis hs S.pend.length (Nat.le_refl _)
    rw [List.take_length] at h1
    exact h1
  · rw [if_neg h]
    exact .inr ⟨rfl, Same.operate S, operate_crash h⟩
/-- A restart that tears no write. -/
theorem restart_cand {S : DS} (hd : S.down = true) {cs : List UInt8} (hcs : ∀ i, (cs.getD i 0).toNat % 3 ≠ 2) : (S.restart cs).2 = 0 ∧ (S.restart cs).1.pend = [] ∧ (S.restart cs).1.down = false ∧ (S.restart cs).1.limit = none ∧ (S.restart cs).1.dur.length = S.dur.length ∧ ∀ s, s < S.dur.length → Cand S s ((S.restart cs).1.visible s) := by
  unfold DS.restart
  rw [if_pos hd]
  refine ⟨rfl, rfl, rfl, rfl, rdur_length _ _ _, fun s hs => ?_⟩
  exact rdur_cand hcs hs _ (Nat.le_refl _)
end Go.Proofs.YtplclpileejemaaDoor

namespace Go.Proofs.YtplclpileejemaaDoor
open Go.RowKit
set_option linter.unusedVariables false
set_option linter.unusedSimpArgs false

def secF (T : Nat → List UInt8) (a k : Nat) : List (List UInt8) := (List.range k).map fun i => T (a + i)
theorem secF_length (T : Nat → List UInt8) (a k : Nat) : (secF T a k).length = k := by simp [secF]
theorem secF_get {T : Nat → List UInt8} {a k i : Nat} {x : List UInt8} (h : (secF T a k)[i]? = some x) : i < k ∧ x = T (a + i) := by
  have hi : i < k := by
    have := (List.getElem?_eq_some_iff.1 h).1
    rwa [secF_length] at this
  refine ⟨hi, ?_⟩
  simp [secF, hi] at h
  exact h.symm
theorem secF_at {T : Nat → List UInt8} {a k i : Nat} (h : i < k) : (secF T a k)[i]? = some (T (a + i)) := by simp [secF, h]
theorem secF_congr {T T' : Nat → List UInt8} {a k : Nat} (h : ∀ i, i < k → T (a + i) = T' (a + i)) : secF T a k = secF T' a k := by
  unfold secF
  apply List.map_congr_left
  intro i hi
  exact h i (List.mem_range.1 hi)
def pickF (A B : Option ArD) : Option ArD := match A, B with | none, none => none | some x, none => some x | none, some y => some y | some x, some y => if x.gen < y.gen then some y else some x
theorem pickF_l {A B : Option ArD} {y : ArD} (hA : A = some y) (hB : ∀ z, B = some z → z.gen < y.gen) : pickF A B = some y := by
  subst hA
  cases B with
  | none => rfl
  | some z => exact if_neg (by have := hB z rfl; omega)
theorem pickF_r {A B : Option ArD} {y : ArD} (hB : B = some y) (hA : ∀ z, A = some z → z.gen < y.gen) : pickF A B = some y := by
  subst hB
  cases A with
  | none => rfl
  | some z => exact if_pos (hA z rfl)
def currF (T : Nat → List UInt8) (R : JR) : Option ArD := pickF (areaL (secF T (R.area 0) R.half) 0) (areaL (secF T (R.area 1) R.half) 1)
theorem currL_F (S : DS) (R : JR) : currL S R = currF S.visible R := rfl
/-- Which area wins. -/
theorem currF_win {T : Nat → List UInt8} {R : JR} {h : Nat} {y : ArD} (hh : h ≤ 1) (hA : areaL (secF T (R.area h) R.half) h = some y) (hB : ∀ z, areaL (secF T (R.area (1 - h)) R.half) (1 - h) = some z → z.gen < y.gen) : currF T R = some y := by
  rcases (show h = 0 ∨ h = 1 by omega) with rfl | rfl
  · exact pickF_l hA hB
  · exact pickF_r hA hB
def inR (R : JR) (s : Nat) : Prop := R.at_ ≤ s ∧ s < R.at_ + R.cnt
theorem inR_area {R : JR} {h i : Nat} (hh : h ≤ 1) (hi : i < R.half) : inR R (R.area h + i) := by
  unfold inR JR.area JR.half at *
  rcases (show h = 0 ∨ h = 1 by omega) with rfl | rfl <;> omega
theorem area_apart {R : JR} {h i j : Nat} (hh : h ≤ 1) (hi : i < R.half) (hj : j < R.half) : R.area h + i ≠ R.area (1 - h) + j := by
  unfold JR.area at *
  rcases (show h = 0 ∨ h = 1 by omega) with rfl | rfl <;> omega
def Choice (S : DS) (R : JR) (T : Nat → List UInt8) : Prop := ∀ s, inR R s → Cand S s (T s)
theorem choice_visible (S : DS) (R : JR) : Choice S R S.visible := fun s _ => cand_visible S s

theorem areaM_gen {g : Nat} {rs : List RecD} {z : ArD} (h : areaM g rs = some z) : z.gen = g := by
  cases rs with
  | nil => cases h
  | cons r t =>
    rw [areaM] at h
    by_cases h3 : r.kind ≠ 1
    · rw [if_pos h3] at h; cases h
    · rw [if_neg h3] at h
      cases hn : numL r.load with
      | none => rw [hn] at h; cases h
      | some p =>
        obtain ⟨a, b⟩ := p
        rw [hn] at h
        simp only at h
        by_cases h4 : b ≤ (bodyL t).length
        · rw [if_pos h4] at h; cases h; rfl
        · rw [if_neg h4] at h; cases h
theorem body_mono : ∀ {t m : List RecD}, (bodyL t).length ≤ (bodyL (t ++ m)).length
  | [], _ => Nat.zero_le _
  | r :: t, m => by
    have h := body_mono (t := t) (m := m)
    unfold bodyL at h ⊢
    simp only [List.cons_append, List.takeWhile_cons]
    by_cases h2 : r.kind = 2
    · rw [decide_eq_true h2]; simpa using h
    · rw [decide_eq_false h2]; exact Nat.zero_le _
theorem areaM_mono {g : Nat} {rs qs : List RecD} {z : ArD} (hp : rs <+: qs) (h : areaM g rs = some z) : ∃ z', areaM g qs = some z' := by
  obtain ⟨m, rfl⟩ := hp
  cases rs with
  | nil => cases h
  | cons r t =>
    rw [areaM] at h
    rw [List.cons_append, areaM]
    by_cases h3 : r.kind ≠ 1
    · rw [if_pos h3] at h; cases h
    · rw [if_neg h3] at h ⊢
      cases hn : numL r.load with
      | none => rw [hn] at h; cases h
      | some p =>
        obtain ⟨a, b⟩ := p
        rw [hn] at h
        simp only at h ⊢
        by_cases h4 : b ≤ (bodyL t).length
        · rw [if_pos (Nat.le_trans h4 body_mono)]; exact ⟨_, rfl⟩
        · rw [if_neg h4] at h; cases h
theorem areaL_of {l : List (List UInt8)} {which g : Nat} (h0 : decE (l.headD []) = 0) (hg : (decP (l.headD [])).gen = (g : Int)) (hp : g % 2 = which) : areaL l which = areaM g (scanL g 0 l).1 := by
  unfold areaL
  rw [hg, Int.toNat_natCast, if_neg (fun h => h.elim (fun h => h h0) (fun h => h hp))]
theorem areaL_head {l : List (List UInt8)} {which : Nat} {z : ArD} (h : areaL l which = some z) : decE (l.headD []) = 0 ∧ (decP (l.headD [])).gen = (z.gen : Int) ∧ z.gen % 2 = which ∧ areaM z.gen (scanL z.gen 0 l).1 = some z := by
  by_cases h1 : decE (l.headD []) ≠ 0 ∨ (decP (l.headD [])).gen.toNat % 2 ≠ which
  · unfold areaL at h; rw [if_pos h1] at h; cases h
  · have h2 : decE (l.headD []) = 0 := Classical.not_not.1 (fun e => h1 (.inl e))
    have h3 : (decP (l.headD [])).gen.toNat % 2 = which := Classical.not_not.1 (fun e => h1 (.inr e))
    obtain ⟨g, hg⟩ : ∃ g : Nat, (decP (l.headD [])).gen = (g : Int) := by
      have h4 := decE_ok h2
      have h5 := h4.2.2.2.1.g0
      rw [← h4.2.2.2.2] at h5
      exact ⟨(decP (l.headD [])).gen.toNat, by omega⟩
    rw [hg, Int.toNat_natCast] at h3
    rw [areaL_of h2 hg h3] at h
    obtain rfl := areaM_gen h
    exact ⟨h2, hg, h3, h⟩
theorem decE_nil : decE [] ≠ 0 := by decide
theorem head_get {l : List (List UInt8)} (h : decE (l.headD []) = 0) : l[0]? = some (l.headD []) := by
  cases l with
  | nil => exact absurd h decE_nil
  | cons b l => rfl
theorem get_head {l : List (List UInt8)} {x : List UInt8} (h : l[0]? = some x) : l.headD [] = x := by
  cases l with
  | nil => cases h
  | cons b l => exact Option.some.inj h
/-- Fewer sectors of the generation: no other area. -/
theorem areaL_mono {l l' : List (List UInt8)} {which : Nat} {z : ArD} (hl : l'.length = l.length) (hL : ∀ (i : Nat) x, l'[i]? = some x → decE x = 0 → (decP x).gen = (z.gen : Int) → l[i]? = some x) (h : areaL l' which = some z) : ∃ z', areaL l which = some z' ∧ z'.gen = z.gen := by
  obtain ⟨h1, h2, h3, h4⟩ := areaL_head h
  have h5 := get_head (hL 0 _ (head_get h1) h1 h2)
  obtain ⟨z', h6⟩ := areaM_mono (scan_mono hl hL) h4
  exact ⟨z', by rw [areaL_of (by rw [h5]; exact h1) (by rw [h5]; exact h2) h3]; exact h6, areaM_gen h6⟩

/-- The first sector of records. -/
theorem seqJ_head {g f c : Nat} {E : List (List UInt8)} (h : JLim g f c E) : ∃ b, (seqL (recsJ g f c E))[0]? = some b ∧ decE b = 0 ∧ (decP b).gen = (g : Int) := by
  have h0 := h.recs.ok 0 (by rw [recsJ_length]; omega)
  have hn := need_le (splitE_ok h0.1).2
  have hd := dec_enc (partOf_ok h0.1 (i := 0) (by omega))
  refine ⟨_, ?_, hd.1, by rw [hd.2]; exact h0.2.1⟩
  have e : seqL (recsJ g f c E) = splitL ⟨1, g, 0, headB f c⟩ ++ seqL (E.mapIdx fun i b => bodR g (i + 1) b) := seqL_cons _ _
  rw [e]
  exact splitL_get (r := ⟨1, g, 0, headB f c⟩) h0.1 (i := 0) (by exact Nat.lt_of_lt_of_le Nat.zero_lt_one hn.1) _
theorem seqL_gen {g n : Int} : ∀ {rs : List RecD}, (∀ r ∈ rs, splitE r = 0 ∧ r.gen = g) → ∀ (i : Nat) x, (seqL rs)[i]? = some x → decE x = 0 ∧ (decP x).gen = g := by
  intro rs h i x hx
  obtain ⟨r, hr, hm⟩ := List.mem_flatMap.1 (List.mem_of_getElem? hx)
  obtain ⟨h1, h2⟩ := h r hr
  unfold splitL at hm
  rw [if_pos h1] at hm
  obtain ⟨j, hj, rfl⟩ := List.mem_map.1 hm
  have hd := dec_enc (partOf_ok h1 (List.mem_range.1 hj))
  exact ⟨hd.1, by rw [hd.2]; exact h2⟩
theorem JLim.gen {g f c : Nat} {E : List (List UInt8)} (h : JLim g f c E) (i : Nat) (x : List UInt8) (hx : (seqL (recsJ g f c E))[i]? = some x) : decE x = 0 ∧ (decP x).gen = (g : Int) :=
  seqL_gen (n := 0) (fun r hr => by obtain ⟨j, hj, rfl⟩ := List.getElem_of_mem hr; exact ⟨(h.recs.ok j hj).1, (h.recs.ok j hj).2.1⟩) i x hx
theorem seqJ_prefix (g f c : Nat) (E : List (List UInt8)) (k : Nat) : seqL (recsJ g f c (E.take k)) <+: seqL (recsJ g f c E) := by
  rw [← recsJ_take]
  refine ⟨seqL ((recsJ g f c E).drop (k + 1)), ?_⟩
  rw [← seqL_append, List.take_append_drop]
/-- What an area with a journal's records amounts to, if some sectors may be missing. -/
theorem area_loads {g f c d : Nat} {E : List (List UInt8)} {l : List (List UInt8)} (hlim : JLim g f c E) (hfit : (seqL (recsJ g f c E)).length ≤ l.length) (hd : d ≤ E.length)
    (hdur : ∀ i, i < (seqL (recsJ g f c (E.take d))).length → l[i]? = (seqL (recsJ g f c E))[i]?) (hown : ∀ (i : Nat) x, l[i]? = some x → decE x = 0 → (decP x).gen = (g : Int) → (seqL (recsJ g f c E))[i]? = some x) :
    ∃ k, d ≤ k ∧ k ≤ E.length ∧ areaL l (g % 2) = if c ≤ k then some ⟨g, f, E.take k⟩ else none := by
  obtain ⟨b, hb, hb0, hbg⟩ := seqJ_head hlim
  have hpos : 0 < (seqL (recsJ g f c (E.take d))).length := by
    obtain ⟨b, hb, _⟩ := seqJ_head (hlim.take d)
    exact (List.getElem?_eq_some_iff.1 hb).1
  have hhd : l.headD [] = b := get_head (by rw [hdur 0 hpos]; exact hb)
  rw [areaL_of (by rw [hhd]; exact hb0) (by rw [hhd]; exact hbg) rfl]
  have hup : (scanL g 0 l).1 <+: recsJ g f c E := by
    have h1 := scan_exact (m := l.drop (seqL (recsJ g f c E)).length) hlim.recs (fun x hx h9 => by
      rw [List.head?_drop] at hx
      have := hown _ x hx h9.1 h9.2
      rw [List.getElem?_eq_none (Nat.le_refl _)] at this
      cases this)
    rw [← h1]
    refine scan_mono (by rw [List.length_append, List.length_drop]; omega) (fun i x hx h2 h3 => ?_)
    have h4 := hown i x hx h2 h3
    rw [List.getElem?_append_left (List.getElem?_eq_some_iff.1 h4).1]
    exact h4
  have hlo : recsJ g f c (E.take d) <+: (scanL g 0 l).1 := by
    have h1 : l = seqL (recsJ g f c (E.take d)) ++ l.drop (seqL (recsJ g f c (E.take d))).length := by
      have hle := (seqJ_prefix g f c E d).length_le
      apply List.ext_getElem?
      intro i
      by_cases hi : i < (seqL (recsJ g f c (E.take d))).length
      · rw [List.getElem?_append_left hi, hdur i hi]
        obtain ⟨m, hm⟩ := seqJ_prefix g f c E d
        rw [← hm, List.getElem?_append_left hi]
      · rw [List.getElem?_append_right (by omega), List.getElem?_drop]
        congr 1
        omega
    rw [h1]
    exact scan_finds (hlim.take d).recs _
  obtain ⟨k, hk, hrs, hlen⟩ := recsJ_prefix hup (fun e => by
    rw [e] at hlo
    have := hlo.length_le
    rw [recsJ_length] at this
    simp at this)
  have h5 := hlo.length_le
  rw [recsJ_length, hlen, List.length_take] at h5
  refine ⟨k, by omega, hk, ?_⟩
  rw [hrs, areaM_recs hlim.f hlim.c, List.length_take, Nat.min_eq_left hk]

/-- A journal's area, as far as a failure may undo it: entries E, of which d are durable, c of them carried. -/
structure JW (S : DS) (R : JR) (g f c : Nat) (E : List (List UInt8)) (d : Nat) : Prop where
  lim : JLim g f c E
  fit : (seqL (recsJ g f c E)).length ≤ R.half
  cd : c ≤ d
  dn : d ≤ E.length
  gens : ∀ s, inR R s → ∀ x, Cand S s x → decE x = 0 → (decP x).gen ≤ (g : Int)
  dur : ∀ i, i < (seqL (recsJ g f c (E.take d))).length → ∀ x, Cand S (R.area (g % 2) + i) x → (seqL (recsJ g f c E))[i]? = some x
  own : ∀ i, i < R.half → ∀ x, Cand S (R.area (g % 2) + i) x → decE x = 0 → (decP x).gen = (g : Int) → (seqL (recsJ g f c E))[i]? = some x
/-- A device from which an area is chosen, whatever a failure does. -/
structure JBase (S : DS) (R : JR) (g : Nat) (P : ArD → Prop) : Prop where
  top : ∀ s, inR R s → ∀ x, Cand S s x → decE x = 0 → ∃ s', inR R s' ∧ decE (S.visible s') = 0 ∧ (decP x).gen ≤ (decP (S.visible s')).gen
  cur : ∀ T, Choice S R T → ∃ y, areaL (secF T (R.area (g % 2)) R.half) (g % 2) = some y ∧ y.gen = g ∧ P y
  oth : ∀ T, Choice S R T → ∀ z, areaL (secF T (R.area (1 - g % 2)) R.half) (1 - g % 2) = some z → z.gen < g
theorem JBase.curr {S : DS} {R : JR} {g : Nat} {P : ArD → Prop} (h : JBase S R g P) {T : Nat → List UInt8} (hT : Choice S R T) : ∃ y, currF T R = some y ∧ y.gen = g ∧ P y := by
  obtain ⟨y, h1, h2, h3⟩ := h.cur T hT
  exact ⟨y, currF_win (by omega) h1 (fun z hz => by rw [h2]; exact h.oth T hT z hz), h2, h3⟩
theorem seqJ_pos {g f c : Nat} {E : List (List UInt8)} (h : JLim g f c E) : 0 < (seqL (recsJ g f c E)).length := by
  obtain ⟨b, hb, _⟩ := seqJ_head h
  exact (List.getElem?_eq_some_iff.1 hb).1
theorem JW.load {S : DS} {R : JR} {g f c d : Nat} {E : List (List UInt8)} (h : JW S R g f c E d) {T : Nat → List UInt8} (hT : Choice S R T) : ∃ k, d ≤ k ∧ k ≤ E.length ∧ areaL (secF T (R.area (g % 2)) R.half) (g % 2) = some ⟨g, f, E.take k⟩ := by
  have hfit := h.fit
  obtain ⟨k, h1, h2, h3⟩ := area_loads (d := d) (l := secF T (R.area (g % 2)) R.half) h.lim (by rw [secF_length]; exact hfit) h.dn (fun i hi => by
    have hle := (seqJ_prefix g f c E d).length_le
    rw [secF_at (by omega), h.dur i hi _ (hT _ (inR_area (by omega) (by omega)))]) (fun i x hx h4 h5 => by
    obtain ⟨hi, rfl⟩ := secF_get hx
    exact h.own i hi _ (hT _ (inR_area (by omega) hi)) h4 h5)
  rw [if_pos (Nat.le_trans h.cd h1)] at h3
  exact ⟨k, h1, h2, h3⟩
theorem JW.base {S : DS} {R : JR} {g f c d : Nat} {E : List (List UInt8)} (h : JW S R g f c E d) : JBase S R g (fun y => ∃ k, d ≤ k ∧ k ≤ E.length ∧ y = ⟨g, f, E.take k⟩) := by
  have hpos := seqJ_pos h.lim
  have hfit := h.fit
  refine ⟨fun s hs x hx h0 => ?_, fun T hT => ?_, fun T hT z hz => ?_⟩
  · obtain ⟨b, hb, hb0, hbg⟩ := seqJ_head h.lim
    have h1 := h.dur 0 (seqJ_pos (h.lim.take d)) _ (cand_visible S _)
    rw [hb] at h1
    obtain rfl := Option.some.inj h1
    exact ⟨_, inR_area (i := 0) (by omega) (by omega), hb0, by rw [hbg]; exact h.gens s hs x hx h0⟩
  · obtain ⟨k, h1, h2, h3⟩ := h.load hT
    exact ⟨_, h3, rfl, k, h1, h2, rfl⟩
  · obtain ⟨h1, h2, h3, _⟩ := areaL_head hz
    obtain ⟨hi, hx⟩ := secF_get (head_get h1)
    have hr := inR_area (R := R) (h := 1 - g % 2) (i := 0) (by omega) hi
    have h4 := h.gens _ hr _ (hT _ hr) (by rw [← hx]; exact h1)
    rw [← hx, h2] at h4
    have : z.gen ≠ g := fun e => by rw [e] at h3; omega
    omega
/-- A device without pending writes. -/
theorem JBase.rest {S : DS} {R : JR} (hp : S.pend = []) {y : ArD} (h : currF S.visible R = some y) : JBase S R y.gen (fun x => x = y) := by
  have key : ∀ T, Choice S R T → ∀ w, w ≤ 1 → secF T (R.area w) R.half = secF S.visible (R.area w) R.half := fun T hT w hw => secF_congr fun i hi => cand_none hp (hT _ (inR_area hw hi))
  have two : areaL (secF S.visible (R.area (y.gen % 2)) R.half) (y.gen % 2) = some y ∧ ∀ z, areaL (secF S.visible (R.area (1 - y.gen % 2)) R.half) (1 - y.gen % 2) = some z → z.gen < y.gen := by
    unfold currF at h
    cases hA : areaL (secF S.visible (R.area 0) R.half) 0 with
    | none =>
      cases hB : areaL (secF S.visible (R.area 1) R.half) 1 with
      | none => rw [hA, hB] at h; cases h
      | some b =>
        rw [hA, hB] at h
        obtain rfl : b = y := Option.some.inj h
        have h1 := (areaL_head hB).2.2.1
        rw [h1]
        refine ⟨hB, fun z hz => ?_⟩
        rw [show 1 - 1 = 0 from rfl, hA] at hz
        cases hz
    | some a =>
      have h0 := (areaL_head hA).2.2.1
      cases hB : areaL (secF S.visible (R.area 1) R.half) 1 with
      | none =>
        rw [hA, hB] at h
        obtain rfl : a = y := Option.some.inj h
        rw [h0]
        refine ⟨hA, fun z hz => ?_⟩
        rw [show 1 - 0 = 1 from rfl, hB] at hz
        cases hz
      | some b =>
        have h1 := (areaL_head hB).2.2.1
        rw [hA, hB] at h
        simp only [pickF] at h
        by_cases hlt : a.gen < b.gen
        · rw [if_pos hlt] at h
          obtain rfl : b = y := Option.some.inj h
          rw [h1]
          refine ⟨hB, fun z hz => ?_⟩
          rw [show 1 - 1 = 0 from rfl, hA] at hz
          obtain rfl := Option.some.inj hz
          exact hlt
        · rw [if_neg hlt] at h
          obtain rfl : a = y := Option.some.inj h
          rw [h0]
          refine ⟨hA, fun z hz => ?_⟩
          rw [show 1 - 0 = 1 from rfl, hB] at hz
          obtain rfl := Option.some.inj hz
          have : b.gen ≠ a.gen := fun e => by rw [e] at h1; omega
          omega
  refine ⟨fun s hs x hx h0 => ?_, fun T hT => ?_, fun T hT z hz => ?_⟩
  · obtain rfl := cand_none hp hx
    exact ⟨s, hs, h0, Int.le_refl _⟩
  · rw [key T hT _ (by omega)]
    exact ⟨y, two.1, rfl, rfl⟩
  · rw [key T hT _ (by omega)] at hz
    exact two.2 z hz

/-- The next generation is above all others, and of its parity. -/
theorem upG_par {w n : Nat} (hw : w ≤ 1) : upG w n % 2 = w ∧ n ≤ upG w n ∧ ∀ M, M % 2 = w → n ≤ M → upG w n ≤ M := by
  unfold upG
  by_cases h : n % 2 ≠ w
  · rw [if_pos h]; exact ⟨by omega, by omega, fun M h1 h2 => by rcases Nat.lt_or_ge n M with h3 | h3; exact h3; exact absurd (show n % 2 = w by rw [show n = M by omega]; exact h1) h⟩
  · rw [if_neg h]; exact ⟨Classical.not_not.1 h, Nat.le_refl _, fun M _ h2 => h2⟩
theorem genS_par {w g : Nat} (hw : w ≤ 1) (hg : g % 2 = w) (b : List UInt8) : genS w g b % 2 = w ∧ g ≤ genS w g b ∧ (decE b = 0 → (decP b).gen < (genS w g b : Int)) ∧ ∀ M, M % 2 = w → g ≤ M → (decE b = 0 → (decP b).gen < (M : Int)) → genS w g b ≤ M := by
  unfold genS
  by_cases h : decE b = 0 ∧ (g : Int) ≤ (decP b).gen
  · rw [if_pos h]
    have h1 := upG_par (n := (decP b).gen.toNat + 1) hw
    refine ⟨h1.1, by omega, fun _ => by omega, fun M h2 h3 h4 => h1.2.2 M h2 ?_⟩
    have := h4 h.1
    omega
  · rw [if_neg h]
    exact ⟨hg, Nat.le_refl _, fun h1 => by have : ¬ (g : Int) ≤ (decP b).gen := fun h2 => h ⟨h1, h2⟩; omega, fun M _ h3 _ => h3⟩
theorem nextG_fold {w : Nat} (hw : w ≤ 1) : ∀ (L : List (List UInt8)) (g : Nat), g % 2 = w → (L.foldl (genS w) g) % 2 = w ∧ g ≤ L.foldl (genS w) g ∧ (∀ b ∈ L, decE b = 0 → (decP b).gen < ((L.foldl (genS w) g : Nat) : Int)) ∧ ∀ M, M % 2 = w → g ≤ M → (∀ b ∈ L, decE b = 0 → (decP b).gen < (M : Int)) → L.foldl (genS w) g ≤ M
  | [], g, hg => ⟨hg, Nat.le_refl _, (fun b hb => by cases hb), fun M _ h _ => h⟩
  | b :: L, g, hg => by
    obtain ⟨h1, h2, h3, h4⟩ := genS_par hw hg b
    obtain ⟨k1, k2, k3, k4⟩ := nextG_fold hw L (genS w g b) h1
    rw [List.foldl_cons]
    refine ⟨k1, Nat.le_trans h2 k2, fun x hx h0 => ?_, fun M m1 m2 m3 => k4 M m1 (h4 M m1 m2 (m3 b (List.mem_cons_self ..))) (fun x hx => m3 x (List.mem_cons_of_mem _ hx))⟩
    rcases List.mem_cons.1 hx with rfl | hx
    · have := h3 h0; omega
    · exact k3 x hx h0
theorem nextG_par {w : Nat} (hw : w ≤ 1) (L : List (List UInt8)) : nextG w L % 2 = w ∧ (∀ b ∈ L, decE b = 0 → (decP b).gen < (nextG w L : Int)) ∧ ∀ M, M % 2 = w → (∀ b ∈ L, decE b = 0 → (decP b).gen < (M : Int)) → nextG w L ≤ M := by
  obtain ⟨h1, _, h3, h4⟩ := nextG_fold hw L w (by omega)
  exact ⟨h1, h3, fun M m1 m2 => h4 M m1 (by omega) m2⟩
theorem mem_secL {S : DS} {R : JR} {s : Nat} (hs : inR R s) : S.visible s ∈ secL S R.at_ R.cnt := by
  unfold secL
  refine List.mem_map.2 ⟨s - R.at_, List.mem_range.2 (by have := hs.2; have := hs.1; omega), ?_⟩
  rw [show R.at_ + (s - R.at_) = s by have := hs.1; omega]
theorem of_mem_secL {S : DS} {R : JR} {x : List UInt8} (hx : x ∈ secL S R.at_ R.cnt) : ∃ s, inR R s ∧ x = S.visible s := by
  obtain ⟨i, hi, rfl⟩ := List.mem_map.1 hx
  exact ⟨R.at_ + i, ⟨by omega, by have := List.mem_range.1 hi; omega⟩, rfl⟩
end Go.Proofs.YtplclpileejemaaDoor

namespace Go.Proofs.YtplclpileejemaaDoor
open Go.RowKit
set_option linter.unusedVariables false
set_option linter.unusedSimpArgs false

theorem putR_wrote0 {rs : List RecD} {S : DS} {a : Nat} (hok : ∀ r ∈ rs, splitE r = 0) (hne : rs ≠ []) : ∃ k, k ≤ (seqL rs).length ∧ WroteL S (putR S a 0 rs).1 a ((seqL rs).take k) ∧ ((putR S a 0 rs).2.2 = 0 → k = (seqL rs).length ∧ (putR S a 0 rs).2.1 = (seqL rs).length ∧ (putR S a 0 rs).1.down = false) := by
  obtain ⟨k, h1, h2, h3⟩ := putR_wrote rs S a 0 hok
  exact ⟨k, h1, h2, fun h => ⟨(h3 h).1, by have := (h3 h).2.1; omega, (h3 h).2.2.1 hne⟩⟩
/-- What the writing of an area comes to. -/
structure WrA (S S1 S' : DS) (a : Nat) (L : List (List UInt8)) (k used : Nat) (e : Int) : Prop where
  le : k ≤ L.length
  wr : WroteL S S1 a (L.take k)
  done : e = 0 → k = L.length ∧ used = L.length ∧ S'.pend = [] ∧ S'.down = false ∧ S'.dur.length = S.dur.length ∧ ∀ s, s < S.dur.length → S'.visible s = S1.visible s
  fail : e ≠ 0 → Same S1 S'
theorem wrA_wrote (S : DS) (a : Nat) {g f : Nat} {E : List (List UInt8)} (hlim : JLim g f E.length E) : ∃ (S1 : DS) (k : Nat), WrA S S1 (wrA S a g f E).1 a (seqL (recsR g f E)) k (wrA S a g f E).2.1 (wrA S a g f E).2.2 := by
  obtain ⟨k, h1, h2, h3⟩ := putR_wrote0 (S := S) (a := a) (rs := recsR g f E) hlim.recs.mem (by unfold recsR; simp)
  refine ⟨(putR S a 0 (recsR g f E)).1, k, ?_⟩
  unfold wrA
  by_cases h0 : (putR S a 0 (recsR g f E)).2.2 = 0
  · rw [if_pos h0]
    obtain ⟨e1, e2, e3⟩ := h3 h0
    rcases flush_cases e3 with ⟨f1, f2, f3, f4, f5⟩ | ⟨f1, f2, f3⟩
    · rw [if_pos f1]
      exact ⟨h1, h2, fun _ => ⟨e1, e2, f2, f3, by rw [f4, h2.dur], fun s hs => f5 s (by rw [h2.dur]; exact hs)⟩, fun h => absurd rfl h⟩
    · rw [if_neg (by rw [f1]; decide)]
      exact ⟨h1, h2, fun h => absurd (f1.symm.trans h) (by decide), fun _ => f2⟩
  · rw [if_neg h0]
    exact ⟨h1, h2, fun h => absurd h h0, fun _ => Same.refl _⟩
theorem wrA_err {S : DS} {a g f : Nat} {E : List (List UInt8)} (hlim : JLim g f E.length E) (ha : a + (seqL (recsR g f E)).length ≤ S.dur.length) (h : (wrA S a g f E).2.2 ≠ 0) : (wrA S a g f E).2.2 = 28 ∧ (wrA S a g f E).1.down = true := by
  obtain ⟨k, h1, h2, h3⟩ := putR_wrote0 (S := S) (a := a) (rs := recsR g f E) hlim.recs.mem (by unfold recsR; simp)
  unfold wrA at h ⊢
  by_cases h0 : (putR S a 0 (recsR g f E)).2.2 = 0
  · rw [if_pos h0] at h ⊢
    rcases flush_cases (h3 h0).2.2 with ⟨f1, _⟩ | ⟨f1, _, f3⟩
    · rw [if_pos f1] at h; exact absurd rfl h
    · rw [if_neg (by rw [f1]; decide)]; exact ⟨f1, f3⟩
  · rw [if_neg h0]
    exact putR_err hlim.recs.mem (by omega) h0
theorem WrA.cand {S S1 S' : DS} {a k used : Nat} {L : List (List UInt8)} {e : Int} (h : WrA S S1 S' a L k used e) {s : Nat} (hs : s < S.dur.length) {x : List UInt8} (hx : Cand S' s x) : Cand S s x ∨ (a ≤ s ∧ L[s - a]? = some x) := by
  have h1 : Cand S1 s x := by
    by_cases he : e = 0
    · obtain ⟨_, _, h3, _, _, h6⟩ := h.done he
      rw [cand_none h3 hx, h6 s hs]
      exact cand_visible S1 s
    · exact (h.fail he).cand hx
  rcases h.wr.cand h1 with h2 | ⟨h2, h3⟩
  · exact .inl h2
  · refine .inr ⟨h2, ?_⟩
    rw [List.getElem?_take] at h3
    split at h3
    · exact h3
    · cases h3
theorem WrA.dur {S S1 S' : DS} {a k used : Nat} {L : List (List UInt8)} {e : Int} (h : WrA S S1 S' a L k used e) : S'.dur.length = S.dur.length := by
  by_cases he : e = 0
  · exact (h.done he).2.2.2.2.1
  · rw [(h.fail he).dur, h.wr.dur]
/-- Behind a move that was cut short the old area or the new one is chosen. -/
theorem move_choice {S : DS} {R : JR} {g g' f : Nat} {P : ArD → Prop} {E : List (List UInt8)} (hB : JBase S R g P) (hg : g' = nextG (1 - g % 2) (secL S R.at_ R.cnt)) (hlim : JLim g' f E.length E)
    (hfit : (seqL (recsR g' f E)).length ≤ R.half) {T : Nat → List UInt8} (hT : ∀ s, inR R s → Cand S s (T s) ∨ (R.area (1 - g % 2) ≤ s ∧ (seqL (recsR g' f E))[s - R.area (1 - g % 2)]? = some (T s))) :
    ∃ y, currF T R = some y ∧ ((y.gen = g ∧ P y) ∨ y = ⟨g', f, E⟩) := by
  classical
  obtain ⟨n1, n2, _⟩ := nextG_par (w := 1 - g % 2) (by omega) (secL S R.at_ R.cnt)
  rw [← hg] at n1 n2
  have hgt : ∀ s, inR R s → ∀ x, Cand S s x → decE x = 0 → (decP x).gen < (g' : Int) := fun s hs x hx h0 => by
    obtain ⟨s', hs', h1, h2⟩ := hB.top s hs x hx h0
    have := n2 _ (mem_secL hs') h1
    omega
  obtain ⟨L, hL⟩ : ∃ L, seqL (recsR g' f E) = L := ⟨_, rfl⟩
  rw [hL] at hfit hT
  have hLg : ∀ (i : Nat) x, L[i]? = some x → decE x = 0 ∧ (decP x).gen = (g' : Int) := fun i x hx => hlim.gen i x (by rw [← recsR_recsJ, hL]; exact hx)
  obtain ⟨T0, hT0⟩ : ∃ T0 : Nat → List UInt8, ∀ s, T0 s = if Cand S s (T s) then T s else S.visible s := ⟨fun s => if Cand S s (T s) then T s else S.visible s, fun _ => rfl⟩
  have hC0 : Choice S R T0 := fun s _ => by
    rw [hT0]
    by_cases h : Cand S s (T s)
    · rw [if_pos h]; exact h
    · rw [if_neg h]; exact cand_visible S s
  have hsame : ∀ s, Cand S s (T s) → T0 s = T s := fun s h => by rw [hT0, if_pos h]
  -- the old area is as it was
  have hold : ∀ i, i < R.half → Cand S (R.area (g % 2) + i) (T (R.area (g % 2) + i)) := fun i hi => by
    rcases hT _ (inR_area (h := g % 2) (by omega) hi) with h | ⟨h1, h2⟩
    · exact h
    · exfalso
      have h3 := (List.getElem?_eq_some_iff.1 h2).1
      have h4 := area_apart (R := R) (h := g % 2) (i := i) (j := R.area (g % 2) + i - R.area (1 - g % 2)) (by omega) hi (by omega)
      omega
  obtain ⟨y, hy, hyg, hyP⟩ := hB.cur T0 hC0
  rw [secF_congr (fun i hi => hsame _ (hold i hi))] at hy
  have hnew : ∀ z, areaL (secF T (R.area (1 - g % 2)) R.half) (1 - g % 2) = some z → z.gen < g ∨ z = ⟨g', f, E⟩ := fun z hz => by
    obtain ⟨z1, z2, z3, z4⟩ := areaL_head hz
    by_cases hzg : z.gen = g'
    · -- the new generation: all its records, or the area is incomplete
      refine .inr ?_
      have hown : ∀ (i : Nat) x, (secF T (R.area (1 - g % 2)) R.half)[i]? = some x → decE x = 0 → (decP x).gen = (g' : Int) → L[i]? = some x := fun i x hx h4 h5 => by
        obtain ⟨hi, rfl⟩ := secF_get hx
        rcases hT _ (inR_area (h := 1 - g % 2) (by omega) hi) with h | ⟨_, h7⟩
        · have := hgt _ (inR_area (h := 1 - g % 2) (by omega) hi) _ h h4
          omega
        · rw [Nat.add_sub_cancel_left] at h7
          exact h7
      rw [areaL_of z1 z2 z3, hzg] at hz
      have hup : (scanL g' 0 (secF T (R.area (1 - g % 2)) R.half)).1 <+: recsJ g' f E.length E := by
        have h1 := scan_exact (m := (secF T (R.area (1 - g % 2)) R.half).drop L.length) hlim.recs (fun x hx h9 => by
          rw [List.head?_drop] at hx
          have := hown _ x hx h9.1 h9.2
          rw [List.getElem?_eq_none (Nat.le_refl _)] at this
          cases this)
        rw [← h1]
        refine scan_mono (by rw [← recsR_recsJ, hL, List.length_append, List.length_drop, secF_length]; omega) (fun i x hx h2 h3 => ?_)
        have h4 := hown i x hx h2 h3
        rw [← recsR_recsJ, hL, List.getElem?_append_left (List.getElem?_eq_some_iff.1 h4).1]
        exact h4
      have hne : (scanL g' 0 (secF T (R.area (1 - g % 2)) R.half)).1 ≠ [] := fun e => by rw [e] at hz; cases hz
      obtain ⟨k, hk, hrs, _⟩ := recsJ_prefix hup hne
      rw [hrs, areaM_recs hlim.f hlim.c, List.length_take] at hz
      by_cases hke : E.length ≤ min k E.length
      · rw [if_pos hke, List.take_of_length_le (by omega)] at hz
        exact (Option.some.inj hz).symm
      · rw [if_neg hke] at hz; cases hz
    · refine .inl ?_
      have hmo : ∀ (i : Nat) x, (secF T (R.area (1 - g % 2)) R.half)[i]? = some x → decE x = 0 → (decP x).gen = (z.gen : Int) → (secF T0 (R.area (1 - g % 2)) R.half)[i]? = some x := fun i x hx h4 h5 => by
        obtain ⟨hi, rfl⟩ := secF_get hx
        have hc : Cand S (R.area (1 - g % 2) + i) (T (R.area (1 - g % 2) + i)) := by
          rcases hT _ (inR_area (h := 1 - g % 2) (by omega) hi) with h | ⟨_, h7⟩
          · exact h
          · have := (hLg _ _ h7).2
            rw [h5] at this
            omega
        rw [secF_at hi, hsame _ hc]
      obtain ⟨z', h1, h2⟩ := areaL_mono (l := secF T0 (R.area (1 - g % 2)) R.half) (by rw [secF_length, secF_length]) hmo hz
      rw [← h2]
      exact hB.oth T0 hC0 z' h1
  by_cases hz : ∃ z, areaL (secF T (R.area (1 - g % 2)) R.half) (1 - g % 2) = some z ∧ z = ⟨g', f, E⟩
  · obtain ⟨z, hz1, rfl⟩ := hz
    refine ⟨_, currF_win (h := 1 - g % 2) (by omega) hz1 (fun z2 hz2 => ?_), .inr rfl⟩
    rw [show 1 - (1 - g % 2) = g % 2 by omega, hy] at hz2
    obtain rfl := Option.some.inj hz2
    rw [hyg]
    show g < g'
    obtain ⟨y1, y2, _⟩ := areaL_head hy
    obtain ⟨hi, hx⟩ := secF_get (head_get y1)
    have := hgt _ (inR_area (h := g % 2) (by omega) hi) _ (hold 0 hi) (by rw [← hx]; exact y1)
    rw [← hx, y2, hyg] at this
    omega
  · refine ⟨y, currF_win (h := g % 2) (by omega) hy (fun z hz1 => ?_), .inl ⟨hyg, hyP⟩⟩
    rcases hnew z hz1 with h | h
    · rw [hyg]; exact h
    · exact absurd ⟨z, hz1, h⟩ hz
/-- Behind a move that was done the new area holds the entries, all durable. -/
theorem move_done {S : DS} {R : JR} {g g' f : Nat} {P : ArD → Prop} {E : List (List UInt8)} (hB : JBase S R g P) (hR : R.at_ + R.cnt ≤ S.dur.length) (hg : g' = nextG (1 - g % 2) (secL S R.at_ R.cnt)) (hlim : JLim g' f E.length E)
    (hfit : (seqL (recsR g' f E)).length ≤ R.half) (h0 : (wrA S (R.area (1 - g % 2)) g' f E).2.2 = 0) :
    g' % 2 = 1 - g % 2 ∧ g < g' ∧ JW (wrA S (R.area (1 - g % 2)) g' f E).1 R g' f E.length E E.length ∧ (wrA S (R.area (1 - g % 2)) g' f E).2.1 = (seqL (recsR g' f E)).length ∧ (wrA S (R.area (1 - g % 2)) g' f E).1.down = false ∧ (wrA S (R.area (1 - g % 2)) g' f E).1.dur.length = S.dur.length ∧
    ∀ i, i < (seqL (recsR g' f E)).length → (seqL (recsR g' f E))[i]? = some ((wrA S (R.area (1 - g % 2)) g' f E).1.visible (R.area (1 - g % 2) + i)) := by
  obtain ⟨n1, n2, _⟩ := nextG_par (w := 1 - g % 2) (by omega) (secL S R.at_ R.cnt)
  rw [← hg] at n1 n2
  have hgt : ∀ s, inR R s → ∀ x, Cand S s x → decE x = 0 → (decP x).gen < (g' : Int) := fun s hs x hx h0 => by
    obtain ⟨s', hs', h1, h2⟩ := hB.top s hs x hx h0
    have := n2 _ (mem_secL hs') h1
    omega
  have hlt : g < g' := by
    obtain ⟨y, hy, hyg, _⟩ := hB.cur _ (choice_visible S R)
    obtain ⟨y1, y2, _⟩ := areaL_head hy
    obtain ⟨hi, hx⟩ := secF_get (head_get y1)
    have hr := inR_area (R := R) (h := g % 2) (i := 0) (by omega) hi
    have := hgt _ hr _ (cand_visible S _) (by rw [← hx]; exact y1)
    rw [← hx, y2, hyg] at this
    omega
  obtain ⟨S1, k, hw⟩ := wrA_wrote S (R.area (1 - g % 2)) hlim
  obtain ⟨rfl, hu, hp, hdn, hdl, hv⟩ := hw.done h0
  obtain ⟨S', hS'⟩ : ∃ S', (wrA S (R.area (1 - g % 2)) g' f E).1 = S' := ⟨_, rfl⟩
  rw [hS'] at hw hp hdn hdl hv ⊢
  obtain ⟨L, hL⟩ : ∃ L, seqL (recsR g' f E) = L := ⟨_, rfl⟩
  have hLg : ∀ (i : Nat) x, L[i]? = some x → decE x = 0 ∧ (decP x).gen = (g' : Int) := fun i x hx => hlim.gen i x (by rw [← recsR_recsJ, hL]; exact hx)
  rw [hL] at hw hfit hu ⊢
  have hin : ∀ s, inR R s → s < S.dur.length := fun s hs => by have := hs.2; omega
  have hvis : ∀ i, i < L.length → L[i]? = some (S'.visible (R.area (1 - g % 2) + i)) := fun i hi => by
    have h1 := hw.wr.visible (R.area (1 - g % 2) + i)
    rw [List.take_length] at h1
    rw [hv _ (hin _ (inR_area (by omega) (by omega))), h1, dif_pos ⟨by omega, by omega⟩]
    simp [hi]
  refine ⟨n1, hlt, ⟨hlim, by rw [← recsR_recsJ, hL]; exact hfit, Nat.le_refl _, Nat.le_refl _, fun s hs x hx h1 => ?_, fun i hi x hx => ?_, fun i hi x hx h1 h2 => ?_⟩, hu, hdn, hdl, hvis⟩
  · rcases hw.cand (hin s hs) hx with h3 | ⟨_, h4⟩
    · exact Int.le_of_lt (hgt s hs x h3 h1)
    · rw [(hLg _ _ h4).2]; exact Int.le_refl _
  · rw [List.take_of_length_le (Nat.le_refl _), ← recsR_recsJ, hL] at hi
    rw [← recsR_recsJ, hL, hvis i hi]
    congr 1
    rw [n1] at hx
    exact (cand_none hp hx).symm
  · rw [n1] at hx
    rw [← recsR_recsJ, hL]
    rcases hw.cand (hin _ (inR_area (by omega) hi)) hx with h3 | ⟨_, h4⟩
    · have := hgt _ (inR_area (h := 1 - g % 2) (by omega) hi) x h3 h1
      omega
    · rw [Nat.add_sub_cancel_left] at h4; exact h4
end Go.Proofs.YtplclpileejemaaDoor
