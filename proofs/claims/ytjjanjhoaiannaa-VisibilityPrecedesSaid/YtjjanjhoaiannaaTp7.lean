/- Threads, plainly: the order is one; the row of an identity; no cycles. -/
import Derived.Test.YtjjanjhoaiannaaTh11
namespace Go.Proofs.Ytjjanjhoaiannaa
open Go.Shelf Go.RowKit Go.Lib Go.Sort
set_option linter.unusedVariables false
set_option linter.unusedSimpArgs false

theorem asc_unique : ∀ {A B : List Tw}, A.Perm B → Asc A → Asc B → A = B
  | [], B, h, _, _ => (List.nil_perm.1 h).symm
  | a :: A, [], h, _, _ => absurd h.length_eq (by simp)
  | a :: A, b :: B, h, hA, hB => by
    have hab : a = b := by
      have h1 : a ∈ b :: B := h.subset (by simp)
      have h2 : b ∈ a :: A := h.symm.subset (by simp)
      rcases List.mem_cons.1 h1 with e | h1
      · exact e
      · rcases List.mem_cons.1 h2 with e | h2
        · exact e.symm
        · have e1 := List.rel_of_pairwise_cons hA h2
          have e2 := List.rel_of_pairwise_cons hB h1
          have e3 := cmpT_swap a b
          omega
    subst hab
    rw [asc_unique (h.cons_inv) (List.Pairwise.of_cons hA) (List.Pairwise.of_cons hB)]
/-- Where an identity lies in the list of articles. -/
def idxL (L : List RowV) (x : IdB) : Int := match L.findIdx? (fun r => decide (r.id = x)) with
  | some i => (i : Int)
  | none => -1
theorem idxL_some {L : List RowV} {x : IdB} {i : Nat} (h : L.findIdx? (fun r => decide (r.id = x)) = some i) : ∃ hi : i < L.length, L[i].id = x := by
  rw [List.findIdx?_eq_some_iff_getElem] at h
  obtain ⟨hi, h1, _⟩ := h
  exact ⟨hi, of_decide_eq_true h1⟩
theorem idxL_at {L : List RowV} (hn : (L.map (·.id)).Nodup) {i : Nat} (hi : i < L.length) : L.findIdx? (fun r => decide (r.id = L[i].id)) = some i := by
  rw [List.findIdx?_eq_some_iff_getElem]
  refine ⟨hi, decide_eq_true rfl, fun j hj => ?_⟩
  rw [decide_eq_true_eq]
  intro e
  rw [List.nodup_iff_pairwise_ne, List.pairwise_map, List.pairwise_iff_getElem] at hn
  exact hn j i (by omega) hi hj e
theorem rowF_idx {L : List RowV} (hn : (L.map (·.id)).Nodup) (x : IdB) : rowF (arrO L) (rk (arrS L)) x = idxL L x := by
  unfold rowF idxL
  cases hr : rk (arrS L) x with
  | none =>
    have h1 := rk_none.1 hr
    rw [isArt_arrS] at h1
    have h2 : L.findIdx? (fun r => decide (r.id = x)) = none := by
      rw [List.findIdx?_eq_none_iff]
      intro r hr
      have h3 := List.any_eq_false.1 h1 r.tw (List.mem_map_of_mem hr)
      exact decide_eq_false (fun e => h3 (decide_eq_true e))
    rw [h2]
  | some k =>
    obtain ⟨hk, e⟩ := rk_some hr
    have hO : k < (arrO L).length := by rw [arrO_len, ← arrS_len]; exact hk
    obtain ⟨ho, h2⟩ := arr_at L k hO hk
    have h3 : L[(arrO L)[k]].id = x := by rw [← e, ← h2]; rfl
    have h4 := idxL_at hn ho
    rw [h3] at h4
    rw [h4]
    dsimp only
    rw [List.getD_eq_getElem?_getD, List.getElem?_eq_getElem hO]
    rfl
theorem onC_inf {p : Par} {x : IdB} (h : onC p x) : ∀ m, ∃ y, it p m x = some y := by
  intro m
  induction m with
  | zero => exact ⟨x, rfl⟩
  | succ m ih =>
    obtain ⟨y, hy⟩ := ih
    obtain ⟨z, hz⟩ := (h.of_reach ⟨m, hy⟩).has
    exact ⟨z, by rw [it_succ, hy]; exact hz⟩
theorem acyclic_of {A : IdB → Bool} {S : List Tw} (n : Nat) (h : ∀ y ∈ univ S, it (pM A S) n y = none) : ∀ x, ¬ onC (pM A S) x := fun x hx => by
  obtain ⟨y, hy⟩ := hx.has
  obtain ⟨z, hz⟩ := onC_inf hx (n + 1)
  have h1 : (pM A S x).bind (it (pM A S) n) = some z := hz
  rw [hy] at h1
  have h2 := h y (pM_univ hy)
  have h3 : it (pM A S) n y = some z := h1
  rw [h2] at h3
  cases h3
theorem cut_none {p c : Par} {S : List Tw} (h : IsCut p S c) (ha : ∀ x, ¬ onC p x) : c = p := by
  funext x
  exact (h x).2 (fun hl => ha x hl.1)
/-- The forest by the order of the articles and their places in the list. -/
def forestS (S : List Tw) (c : Par) (row : IdB → Int) : List NodeV := forL c (place (isArt S) c S).pl row ((place (isArt S) c S).pl.length + 1)
theorem forestV_eq {L : List RowV} (hn : (L.map (·.id)).Nodup) (c : Par) : forestV L c = forestS (arrS L) c (idxL L) := by
  unfold forestV forestS pls
  congr 1
  funext x
  exact rowF_idx hn x
end Go.Proofs.Ytjjanjhoaiannaa
