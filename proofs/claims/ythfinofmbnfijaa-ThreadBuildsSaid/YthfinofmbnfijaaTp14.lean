/- The model's parents, plainly: the first article of a cycle. -/
import Derived.Test.YthfinofmbnfijaaTp13
namespace Go.Proofs.Ythfinofmbnfijaa
open Go.RowKit
set_option linter.unusedVariables false
set_option linter.unusedSimpArgs false

theorem id_inj {L : List RowV} (hn : (L.map (·.id)).Nodup) {i j : Nat} (hi : i < L.length) (hj : j < L.length) (h : L[i].id = L[j].id) : i = j := by
  have h1 := idxL_at hn hi
  rw [h, idxL_at hn hj] at h1
  exact (Option.some.inj h1).symm
theorem cycAcc_lt {L : List RowV} {p : Par} {x : IdB} {i0 : Nat} (hi0 : i0 < L.length) {s k : Nat} (h : k ∈ cycAcc L p x i0 s) : k < L.length := by
  rcases cycAcc_mem.1 h with rfl | ⟨m, y, _, _, _, e⟩
  · exact hi0
  · obtain ⟨j, hj, e2, _⟩ := isArt_idx.idxL_pos (L := L) (x := y) (by omega)
    omega
theorem CycR.lt {L : List RowV} {x : IdB} {i0 : Nat} {C : List Nat} (h : CycR L x i0 C) (hi0 : i0 < L.length) : ∀ k ∈ C, k < L.length := fun k hk => by
  rcases h with ⟨h1, _⟩ | ⟨n, _, _, h2⟩
  · rw [h1] at hk; cases hk
  · rw [h2] at hk; exact cycAcc_lt hi0 hk
theorem CycR.len {L : List RowV} {x : IdB} {i0 : Nat} {C : List Nat} (h : CycR L x i0 C) : C.length ≤ 3 * L.length + 3 := by
  rcases h with ⟨h1, _⟩ | ⟨n, h2, _, h3⟩
  · rw [h1]; exact Nat.zero_le _
  · rw [h3]
    have := cycAcc_len L (parP L) x i0 n
    omega
/-- Where an article stands in the order. -/
theorem rk_row {L : List RowV} (hn : (L.map (·.id)).Nodup) {i : Nat} (hi : i < L.length) : ∃ (k : Nat) (hk : k < (arrS L).length), rk (arrS L) L[i].id = some k ∧ (arrS L)[k] = L[i].tw := by
  obtain ⟨k, hk, e⟩ := List.mem_iff_getElem.1 (mem_arrS.2 ⟨i, hi, rfl⟩)
  refine ⟨k, hk, ?_, e⟩
  have h := rk_at (arrS_nodup hn) hk
  rw [e] at h
  exact h
theorem rk_le {L : List RowV} (hn : (L.map (·.id)).Nodup) {i j k m : Nat} (hi : i < L.length) (hj : j < L.length) (h1 : rk (arrS L) L[i].id = some k) (h2 : rk (arrS L) L[j].id = some m) : k ≤ m ↔ cmpT L[i].tw L[j].tw ≤ 0 := by
  obtain ⟨k', hk, e1, e2⟩ := rk_row hn hi
  obtain ⟨m', hm, e3, e4⟩ := rk_row hn hj
  rw [h1] at e1
  rw [h2] at e3
  cases e1
  cases e3
  have hS := List.pairwise_iff_getElem.1 (arrS_asc hn)
  have hsw := cmpT_swap L[i].tw L[j].tw
  constructor
  · intro h
    by_cases e : k = m
    · subst e
      rw [← e2, ← e4, cmpT_self]
      decide
    · have := hS k m hk hm (by omega)
      rw [e2, e4] at this
      omega
  · intro h
    refine Classical.byContradiction fun hlt => ?_
    have := hS m k hm hk (by omega)
    rw [e2, e4] at this
    omega
/-- The first k of the articles C of the cycle lie not ahead of the i-th article. -/
def LeastP (L : List RowV) (i : Nat) (C : List Nat) (k : Nat) : Prop := C ≠ [] ∧ ∀ j ∈ C.take k, ∀ (hi : i < L.length) (hj : j < L.length), cmpT L[i].tw L[j].tw ≤ 0
theorem LeastP.zero {L : List RowV} {i : Nat} {C : List Nat} : LeastP L i C 0 ↔ C ≠ [] := ⟨fun h => h.1, fun h => ⟨h, fun j hj => by cases hj⟩⟩
theorem LeastP.next {L : List RowV} {i : Nat} {C : List Nat} {k : Nat} (hi : i < L.length) (hk : k < C.length) (hj : C[k] < L.length) : LeastP L i C (k + 1) ↔ LeastP L i C k ∧ cmpT L[i].tw L[C[k]].tw ≤ 0 := by
  unfold LeastP
  rw [List.take_succ_eq_append_getElem hk]
  constructor
  · rintro ⟨h1, h2⟩
    exact ⟨⟨h1, fun j hj => h2 j (List.mem_append_left _ hj)⟩, h2 _ (List.mem_append_right _ (List.mem_singleton.2 rfl)) hi hj⟩
  · rintro ⟨⟨h1, h2⟩, h3⟩
    refine ⟨h1, fun j hj => ?_⟩
    rcases List.mem_append.1 hj with h | h
    · exact h2 j h
    · obtain rfl := List.mem_singleton.1 h
      exact fun _ _ => h3
theorem LeastP.lst {L : List RowV} (hn : (L.map (·.id)).Nodup) {i : Nat} (hi : i < L.length) {C : List Nat} (h : CycR L L[i].id i C) : LeastP L i C C.length ↔ Lst (parP L) (arrS L) L[i].id := by
  obtain ⟨k, hk, hrk, _⟩ := rk_row hn hi
  unfold LeastP
  rw [List.take_of_length_le (Nat.le_refl _)]
  constructor
  · rintro ⟨hC, hle⟩
    have hon : onC (parP L) L[i].id := Classical.byContradiction fun hc => hC ((h.nil hn).2 hc)
    refine ⟨hon, k, hrk, fun y m hr hm => ?_⟩
    rcases h with ⟨h1, _⟩ | ⟨n, _, h1, h2⟩
    · exact absurd h1 hC
    obtain ⟨hm2, ey⟩ := rk_some hm
    obtain ⟨j, hj, ej⟩ := mem_arrS.1 (List.getElem_mem hm2)
    have hjy : L[j].id = y := by rw [← ey, ← ej]; rfl
    have hjC : j ∈ C := by
      rw [h2, cycAcc_mem]
      obtain ⟨q, hq, hqy⟩ := period_reach h1 hr
      by_cases hq0 : q = 0
      · subst hq0
        left
        exact (id_inj hn hi hj ((Option.some.inj hqy).trans hjy.symm)).symm
      · exact .inr ⟨q, y, by omega, hq, hqy, by rw [← hjy, idx_at hn hj]⟩
    exact (rk_le hn hi hj hrk (hjy ▸ hm)).2 (hle j hjC hi hj)
  · rintro ⟨hon, k', hk', hle⟩
    rw [hrk] at hk'
    cases hk'
    refine ⟨fun e => absurd hon ((h.nil hn).1 e), fun j hjC _ hj => ?_⟩
    rcases h with ⟨h1, _⟩ | ⟨n, _, h1, h2⟩
    · rw [h1] at hjC; cases hjC
    obtain ⟨m, _, hrm, _⟩ := rk_row hn hj
    refine (rk_le hn hi hj hrk hrm).1 (hle L[j].id m ?_ hrm)
    rw [h2] at hjC
    rcases cycAcc_mem.1 hjC with e | ⟨q, y, _, _, hqy, e⟩
    · have : L[j].id = L[i].id := by simp only [e]
      rw [this]
      exact Reach.refl _ _
    · obtain ⟨j2, hj2, e2, e3⟩ := isArt_idx.idxL_pos (L := L) (x := y) (by omega)
      have : j = j2 := by omega
      subst this
      rw [e3]
      exact ⟨q, hqy⟩
/-- The parents in the forest, article by article. -/
def cutL (c : Par) (L : List RowV) : List (Option IdB) := L.map fun r => c r.id
theorem isCut_ex (p : Par) (S : List Tw) : ∃ c, IsCut p S c :=
  ⟨fun x => @ite _ (Lst p S x) (Classical.propDecidable _) none (p x), fun x => ⟨fun h => if_pos h, fun h => if_neg h⟩⟩
/-- The first i are those of the forest. -/
def mixL (c : Par) (L : List RowV) (i : Nat) : List (Option IdB) := (cutL c L).take i ++ (dirL L).drop i
theorem mixL_zero (c : Par) (L : List RowV) : mixL c L 0 = dirL L := by unfold mixL; simp
theorem mixL_all (c : Par) (L : List RowV) : mixL c L L.length = cutL c L := by
  unfold mixL
  rw [List.take_of_length_le (by unfold cutL; rw [List.length_map]; exact Nat.le_refl _), List.drop_of_length_le (by unfold dirL; rw [List.length_map]; exact Nat.le_refl _), List.append_nil]
theorem mixL_len (c : Par) (L : List RowV) {i : Nat} (hi : i ≤ L.length) : (mixL c L i).length = L.length := by
  unfold mixL cutL dirL
  rw [List.length_append, List.length_take, List.length_drop, List.length_map, List.length_map]
  omega
theorem mixL_next {c : Par} {L : List RowV} (hn : (L.map (·.id)).Nodup) (hc : IsCut (parP L) (arrS L) c) {i : Nat} (hi : i < L.length) :
    (Lst (parP L) (arrS L) L[i].id → mixL c L (i + 1) = (mixL c L i).set i none) ∧ (¬ Lst (parP L) (arrS L) L[i].id → mixL c L (i + 1) = mixL c L i) := by
  have h1 : (cutL c L).take (i + 1) = (cutL c L).take i ++ [c L[i].id] := by
    unfold cutL
    rw [List.take_succ_eq_append_getElem (by rw [List.length_map]; exact hi), List.getElem_map]
  have h2 : (dirL L).drop i = L[i].refs.getLast? :: (dirL L).drop (i + 1) := by
    unfold dirL
    rw [List.drop_eq_getElem_cons (by rw [List.length_map]; exact hi), List.getElem_map]
  have h3 : ((cutL c L).take i).length = i := by unfold cutL; rw [List.length_take, List.length_map]; omega
  unfold mixL
  rw [h1, h2]
  constructor
  · intro hl
    rw [(hc _).1 hl, List.set_append_right _ _ (by omega), h3, Nat.sub_self, List.set_cons_zero]
    simp
  · intro hl
    rw [(hc _).2 hl, parP_art hn hi]
    simp
end Go.Proofs.Ythfinofmbnfijaa
