/- The latest article of each tree, plainly. -/
import Derived.Test.YthfinofmbnfijaaTp17
namespace Go.Proofs.Ythfinofmbnfijaa
open Go.RowKit
set_option linter.unusedVariables false
set_option linter.unusedSimpArgs false

theorem popL_suf (p : Int) : ∀ P : List Nat, ∃ X, P = X ++ popL p P
  | [] => ⟨[], rfl⟩
  | q :: P => by
    rw [popL_cons]
    by_cases e : (q : Int) = p
    · rw [if_pos e]; exact ⟨[], rfl⟩
    · rw [if_neg e]
      obtain ⟨X, hX⟩ := popL_suf p P
      exact ⟨q :: X, by rw [List.cons_append, ← hX]⟩
/-- The last root at i or ahead of it. -/
def rtL (F : List NodeV) : Nat → Nat
  | 0 => 0
  | i + 1 => if parA F (i + 1) = -1 then i + 1 else rtL F i
theorem par_zero {F : List NodeV} (h : checkP F = 0) (hl : 0 < F.length) : parA F 0 = -1 := by
  have hc := chk_all h 0 hl
  rw [parA_at hl]
  have := hc.par
  have := hc.lt
  omega
theorem rt_le (F : List NodeV) : ∀ i, rtL F i ≤ i
  | 0 => Nat.le_refl _
  | i + 1 => by
    unfold rtL
    have := rt_le F i
    split <;> omega
theorem rt_root {F : List NodeV} (h : checkP F = 0) : ∀ i, i < F.length → parA F (rtL F i) = -1
  | 0, hi => par_zero h hi
  | i + 1, hi => by
    unfold rtL
    by_cases hp : parA F (i + 1) = -1
    · rw [if_pos hp]; exact hp
    · rw [if_neg hp]; exact rt_root h i (by omega)
theorem rt_self {F : List NodeV} {i : Nat} (h : parA F i = -1) : rtL F i = i := by
  cases i with
  | zero => rfl
  | succ i => unfold rtL; rw [if_pos h]
theorem rt_below {F : List NodeV} (h : checkP F = 0) : ∀ i, i < F.length → (belowL F (-1) (i + 1)).getLast? = some (rtL F i)
  | 0, hi => by rw [belowL_next, if_pos (par_zero h hi), List.getLast?_concat]; rfl
  | i + 1, hi => by
    rw [belowL_next]
    unfold rtL
    by_cases hp : parA F (i + 1) = -1
    · rw [if_pos hp, if_pos hp, List.getLast?_concat]
    · rw [if_neg hp, if_neg hp]; exact rt_below h i (by omega)
theorem rt_path {F : List NodeV} (h : checkP F = 0) : ∀ i, i < F.length → (chn F i).getLast? = some (rtL F i)
  | 0, hi => by
    rw [chn_root h hi (by rw [← parA_at hi]; exact par_zero h hi)]; rfl
  | i + 1, hi => by
    unfold rtL
    by_cases hp : parA F (i + 1) = -1
    · rw [if_pos hp, chn_root h hi (by rw [← parA_at hi]; exact hp)]; rfl
    · rw [if_neg hp]
      have hne := (chk_all h (i + 1) hi).path (by rw [← parA_at hi]; exact hp)
      rw [← parA_at hi] at hne
      obtain ⟨X, hX⟩ := popL_suf (parA F (i + 1)) (pathTo F (i + 1))
      have ih := rt_path h i (by omega)
      have ih : (pathTo F (i + 1)).getLast? = some (rtL F i) := ih
      rw [hX, List.getLast?_append, List.getLast?_eq_some_getLast hne, Option.some_or, ← List.getLast?_eq_some_getLast hne] at ih
      show ((i + 1) :: popL (parA F (i + 1)) (pathTo F (i + 1))).getLast? = _
      rw [List.getLast?_cons, ih]
      rfl
/-- A root is above a node exactly if it is the node's root. -/
theorem chn_rt {F : List NodeV} (h : checkP F = 0) {i t : Nat} (hi : i < F.length) (ht : t < F.length) (hp : parA F t = -1) : t ∈ chn F i ↔ rtL F i = t := by
  have hl := rt_path h i hi
  constructor
  · intro hm
    obtain ⟨X, hX⟩ := chn_suf h i hi t hm
    rw [chn_root h ht (by rw [← parA_at ht]; exact hp)] at hX
    rw [hX, List.getLast?_concat] at hl
    exact (Option.some.inj hl).symm
  · intro e
    rw [← e]
    exact List.mem_of_getLast? hl
def rowA (F : List NodeV) (j : Nat) : Int := ((F[j]?).map (·.row)).getD (-1)
theorem rowA_at {F : List NodeV} {j : Nat} (hj : j < F.length) : rowA F j = F[j].row := by
  unfold rowA
  rw [List.getElem?_eq_getElem hj]
  rfl
/-- The later of two articles. -/
def betL (L : List RowV) (o : Option (Fin L.length)) (k : Fin L.length) : Option (Fin L.length) := match o with
  | none => some k
  | some j => if cmpT L[j].tw L[k].tw < 0 then some k else some j
/-- The latest article of the tree at t among the first n nodes. -/
def bsL (F : List NodeV) (L : List RowV) (t : Nat) : Nat → Option (Fin L.length)
  | 0 => none
  | n + 1 => if rtL F n = t ∧ 0 ≤ rowA F n then (if h : (rowA F n).toNat < L.length then betL L (bsL F L t n) ⟨(rowA F n).toNat, h⟩ else bsL F L t n) else bsL F L t n
theorem bs_row {F : List NodeV} {L : List RowV} {t : Nat} {k : Fin L.length} : ∀ {n}, bsL F L t n = some k → ∃ j, j < n ∧ rtL F j = t ∧ rowA F j = (k.val : Int)
  | 0, h => by cases h
  | n + 1, h => by
    unfold bsL at h
    by_cases hc : rtL F n = t ∧ 0 ≤ rowA F n
    · rw [if_pos hc] at h
      by_cases hk : (rowA F n).toNat < L.length
      · rw [dif_pos hk] at h
        cases hb : bsL F L t n with
        | none =>
          rw [hb] at h
          have e := Option.some.inj h
          refine ⟨n, Nat.lt_succ_self n, hc.1, ?_⟩
          have := congrArg Fin.val e
          simp only at this
          omega
        | some q =>
          rw [hb] at h
          unfold betL at h
          dsimp only at h
          by_cases hlt : cmpT L[q].tw L[(⟨(rowA F n).toNat, hk⟩ : Fin L.length)].tw < 0
          · rw [if_pos hlt] at h
            have e := Option.some.inj h
            refine ⟨n, Nat.lt_succ_self n, hc.1, ?_⟩
            have := congrArg Fin.val e
            simp only at this
            omega
          · rw [if_neg hlt] at h
            rw [h] at hb
            obtain ⟨j, hj, h1, h2⟩ := bs_row hb
            exact ⟨j, by omega, h1, h2⟩
      · rw [dif_neg hk] at h
        obtain ⟨j, hj, h1, h2⟩ := bs_row h
        exact ⟨j, by omega, h1, h2⟩
    · rw [if_neg hc] at h
      obtain ⟨j, hj, h1, h2⟩ := bs_row h
      exact ⟨j, by omega, h1, h2⟩
theorem bet_some (L : List RowV) (o : Option (Fin L.length)) (k : Fin L.length) : (betL L o k).isSome = true := by
  unfold betL
  cases o with
  | none => rfl
  | some j => dsimp only; split <;> rfl
theorem bs_some {F : List NodeV} {L : List RowV} {t j : Nat} (hr : ∀ i, rowA F i < (L.length : Int)) (hj : rtL F j = t) (h0 : 0 ≤ rowA F j) : ∀ {n}, j < n → (bsL F L t n).isSome = true
  | 0, h => absurd h (Nat.not_lt_zero _)
  | n + 1, h => by
    unfold bsL
    by_cases e : j = n
    · subst e
      rw [if_pos ⟨hj, h0⟩, dif_pos (by have := hr j; omega)]
      exact bet_some _ _ _
    · have ih := bs_some hr hj h0 (n := n) (by omega)
      split
      · split
        · exact bet_some _ _ _
        · exact ih
      · exact ih
/-- Each tree of a good forest has an article. -/
theorem good_bs {R : List RowV} {c : Par} {F : List NodeV} (h : Good R c F) {L : List RowV} (hr : ∀ i, rowA F i < (L.length : Int)) {t : Nat} (ht : t < F.length) (hp : parA F t = -1) : (bsL F L t F.length).isSome = true := by
  by_cases h0 : 0 ≤ rowA F t
  · exact bs_some hr (rt_self hp) h0 ht
  · rw [rowA_at ht] at h0
    obtain ⟨m, hm, hmp, hmr⟩ := h.first t F[t] (List.getElem?_eq_getElem ht) (by omega)
    obtain ⟨h1, rfl⟩ := List.getElem?_eq_some_iff.1 hm
    refine bs_some hr (j := t + 1) ?_ (by rw [rowA_at h1]; exact hmr) h1
    show (if parA F (t + 1) = -1 then t + 1 else rtL F t) = t
    rw [if_neg (by rw [parA_at h1, hmp]; omega)]
    exact rt_self hp
/-- A row stands at one node alone. -/
theorem good_row {R : List RowV} {c : Par} {F : List NodeV} (h : Good R c F) {i j : Nat} (hi : i < F.length) (hj : j < F.length) (e : rowA F i = rowA F j) (h0 : 0 ≤ rowA F i) : i = j := by
  rw [rowA_at hi] at e h0
  rw [rowA_at hj] at e
  rw [h.row _ (List.getElem_mem hi)] at e h0
  rw [h.row _ (List.getElem_mem hj)] at e
  obtain ⟨k, hk, ek, hkid⟩ := idxL_pos h0
  obtain ⟨k2, hk2, ek2, hkid2⟩ := idxL_pos (e ▸ h0)
  obtain rfl : k = k2 := by omega
  have hid : F[i].id = F[j].id := hkid.symm.trans hkid2
  have hn := h.nodup
  rw [List.nodup_iff_pairwise_ne, List.pairwise_map, List.pairwise_iff_getElem] at hn
  rcases Nat.lt_trichotomy i j with hlt | heq | hgt
  · exact absurd hid (hn i j hi hj hlt)
  · exact heq
  · exact absurd hid.symm (hn j i hj hi hgt)
end Go.Proofs.Ythfinofmbnfijaa
