/- Forests that are checked, plainly. -/
import Derived.Test.YtjjanjhoaiannaaTp12
import Derived.Test.YtjjanjhoaiannaaTh13
namespace Go.Proofs.Ytjjanjhoaiannaa
open Go.Shelf Go.RowKit Go.Lib Go.Sort
set_option linter.unusedVariables false
set_option linter.unusedSimpArgs false

theorem idxL_pos {L : List RowV} {x : IdB} (h : 0 ≤ idxL L x) : ∃ (k : Nat) (hk : k < L.length), idxL L x = (k : Int) ∧ L[k].id = x := by
  unfold idxL at h ⊢
  cases hf : L.findIdx? (fun r => decide (r.id = x)) with
  | none => rw [hf] at h; exact absurd h (by decide)
  | some i =>
    obtain ⟨hi, e⟩ := idxL_some hf
    exact ⟨i, hi, rfl, e⟩
def parA (L : List NodeV) (j : Nat) : Int := ((L[j]?).map (·.parent)).getD (-1)
/-- The path that the check holds ahead of the j-th node. -/
def pathTo (L : List NodeV) : Nat → List Nat
  | 0 => []
  | j + 1 => j :: popL (parA L j) (pathTo L j)
theorem parA_at {L : List NodeV} {j : Nat} (hj : j < L.length) : parA L j = L[j].parent := by
  unfold parA
  rw [List.getElem?_eq_getElem hj]
  rfl
structure ChkN (L : List NodeV) (j : Nat) (n : NodeV) : Prop where
  row : -1 ≤ n.row
  par : -1 ≤ n.parent
  lt : n.parent < (j : Int)
  path : n.parent ≠ -1 → popL n.parent (pathTo L j) ≠ []
  dep : n.depth = depOf L n.parent
  new : ∀ m ∈ L.take j, m.id ≠ n.id
theorem chk_from {L : List NodeV} : ∀ (f i : Nat), i + f = L.length → chkGo L f i (pathTo L i) = 0 → ∀ j (hj : j < L.length), i ≤ j → ChkN L j L[j]
  | 0, i, hi, _, j, hj, hij => absurd hj (by omega)
  | f + 1, i, hi, h, j, hj, hij => by
    have hiL : i < L.length := by omega
    unfold chkGo at h
    rw [List.getElem?_eq_getElem hiL] at h
    dsimp only at h
    by_cases h1 : L[i].row < -1 ∨ L[i].parent < -1 ∨ (i : Int) ≤ L[i].parent
    · rw [if_pos h1] at h; exact absurd h (by decide)
    rw [if_neg h1] at h
    by_cases h2 : L[i].parent ≠ -1 ∧ popL L[i].parent (pathTo L i) = []
    · rw [if_pos h2] at h; exact absurd h (by decide)
    rw [if_neg h2] at h
    by_cases h3 : L[i].depth ≠ depOf L L[i].parent
    · rw [if_pos h3] at h; exact absurd h (by decide)
    rw [if_neg h3] at h
    by_cases h4 : (L.take i).any (fun m => decide (m.id = L[i].id)) = true
    · rw [if_pos h4] at h; exact absurd h (by decide)
    rw [if_neg h4] at h
    by_cases e : i = j
    · subst e
      refine ⟨by omega, by omega, by omega, fun hp hpp => h2 ⟨hp, hpp⟩, Classical.byContradiction h3, fun m hm em => h4 (List.any_eq_true.2 ⟨m, hm, decide_eq_true em⟩)⟩
    · refine chk_from f (i + 1) (by omega) ?_ j hj (by omega)
      have hp : pathTo L (i + 1) = i :: popL L[i].parent (pathTo L i) := by
        show i :: popL (parA L i) (pathTo L i) = _
        rw [parA_at hiL]
      rw [hp]
      exact h
theorem chk_all {L : List NodeV} (h : checkP L = 0) (j : Nat) (hj : j < L.length) : ChkN L j L[j] := chk_from L.length 0 (by omega) h j hj (Nat.zero_le _)
theorem chk_dep {L : List NodeV} (h : checkP L = 0) : ∀ j (hj : j < L.length), 0 ≤ L[j].depth ∧ L[j].depth ≤ (j : Int) := fun j => by
  induction j using Nat.strongRecOn with
  | _ j ih =>
    intro hj
    have hc := chk_all h j hj
    have hd := hc.dep
    unfold depOf at hd
    by_cases hp : L[j].parent = -1
    · rw [if_pos hp] at hd
      omega
    · rw [if_neg hp] at hd
      have h1 := hc.par
      have h2 := hc.lt
      have hq : L[j].parent.toNat < L.length := by omega
      rw [List.getElem?_eq_getElem hq] at hd
      have h3 := ih L[j].parent.toNat (by omega) hq
      have h4 : L[j].depth = L[L[j].parent.toNat].depth + 1 := hd
      omega
theorem Good.nsm {L : List RowV} {c : Par} {F : List NodeV} (h : Good L c F) (hL : L.length < 100000) (hF : F.length < 1000000) : ∀ n ∈ F, NSm n := fun n hn => by
  obtain ⟨j, hj, rfl⟩ := List.mem_iff_getElem.1 hn
  have h1 := chk_all h.check j hj
  have h2 := chk_dep h.check j hj
  have h3 := h.row _ hn
  have h4 : F[j].row < 100000 := by
    by_cases hp : 0 ≤ idxL L F[j].id
    · obtain ⟨k, hk, e, _⟩ := idxL_pos hp
      omega
    · omega
  have h5 := h1.row
  have h6 := h1.par
  have h7 := h1.lt
  exact ⟨by omega, by omega, by omega⟩
end Go.Proofs.Ytjjanjhoaiannaa
