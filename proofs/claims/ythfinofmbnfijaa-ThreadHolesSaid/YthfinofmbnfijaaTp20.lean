/- A hole in a thread, plainly. -/
import Derived.Test.YthfinofmbnfijaaTp17
namespace Go.Proofs.Ythfinofmbnfijaa
open Go.RowKit
set_option linter.unusedVariables false
set_option linter.unusedSimpArgs false

theorem hole_ids {R : List RowV} {c : Par} {F : List NodeV} (h : Good R c F) (hn : (R.map (·.id)).Nodup) (hc : c = parP R) {y : IdB} (hy : idxL R y < 0) : (∃ n ∈ F, n.id = y) ↔ ∃ r ∈ R, r.refs.getLast? = some y := by
  constructor
  · rintro ⟨n, hnF, rfl⟩
    obtain ⟨j, hj, rfl⟩ := List.mem_iff_getElem.1 hnF
    obtain ⟨m, hm, hmp, hmr⟩ := h.first j F[j] (List.getElem?_eq_getElem hj) (by rw [h.row _ hnF]; exact hy)
    have hmF : m ∈ F := List.mem_iff_getElem?.2 ⟨j + 1, hm⟩
    rw [h.row _ hmF] at hmr
    obtain ⟨k, hk, _, hkid⟩ := idxL_pos hmr
    refine ⟨R[k], List.getElem_mem hk, h.last R[k] (List.getElem_mem hk) _ ?_⟩
    rw [hkid]
    rcases h.ok (j + 1) m hm with ⟨h1, _⟩ | ⟨q, u, _, h2, h3, h4⟩
    · omega
    · obtain rfl : q = j := by omega
      rw [List.getElem?_eq_getElem hj] at h2
      cases h2
      exact h4
  · rintro ⟨r, hr, hl⟩
    obtain ⟨k, hk, rfl⟩ := List.mem_iff_getElem.1 hr
    have hcr : c R[k].id = some y := by rw [hc, parP_art hn hk]; exact hl
    obtain ⟨n, hnF, e⟩ := List.mem_map.1 (h.all _ hr)
    obtain ⟨j, hj, rfl⟩ := List.mem_iff_getElem.1 hnF
    rcases h.ok j F[j] (List.getElem?_eq_getElem hj) with ⟨_, h1⟩ | ⟨q, m, _, h2, _, h4⟩
    · rw [e, hcr] at h1; cases h1
    · rw [e, hcr] at h4
      exact ⟨m, List.mem_iff_getElem?.2 ⟨q, h2⟩, (Option.some.inj h4).symm⟩
/-- All but the k-th. -/
def restL (M : List RowV) (k : Nat) : List RowV := M.take k ++ M.drop (k + 1)
theorem rest_perm {M : List RowV} {k : Nat} (hk : k < M.length) : (restL M k ++ [M[k]]).Perm M := by
  unfold restL
  have h1 : M = M.take k ++ (M[k] :: M.drop (k + 1)) := by rw [← List.drop_eq_getElem_cons hk, List.take_append_drop]
  have h2 : (M.take k ++ M.drop (k + 1) ++ [M[k]]).Perm (M.take k ++ (M[k] :: M.drop (k + 1))) := by
    rw [List.append_assoc]
    refine List.Perm.append_left _ ?_
    exact List.perm_append_comm
  rw [← h1] at h2
  exact h2
theorem rest_len {M : List RowV} {k : Nat} (hk : k < M.length) : (restL M k).length = M.length - 1 := by
  unfold restL
  rw [List.length_append, List.length_take, List.length_drop]
  omega
theorem restS_nodup {M : List RowV} (hn : (M.map (·.id)).Nodup) {k : Nat} (hk : k < M.length) : ((restL M k ++ [M[k]]).map (·.id)).Nodup := ((rest_perm hk).map _).nodup_iff.2 hn
theorem rest_nodup {M : List RowV} (hn : (M.map (·.id)).Nodup) {k : Nat} (hk : k < M.length) : ((restL M k).map (·.id)).Nodup := by
  have h := restS_nodup hn hk
  rw [List.map_append, List.nodup_append] at h
  exact h.1
theorem rest_no {M : List RowV} (hn : (M.map (·.id)).Nodup) {k : Nat} (hk : k < M.length) : idxL (restL M k) M[k].id < 0 := by
  have h := restS_nodup hn hk
  rw [List.map_append, List.nodup_append] at h
  refine idxL_nonneg.2 fun r hr e => ?_
  exact h.2.2 _ (List.mem_map.2 ⟨r, hr, rfl⟩) _ (by simp) e
theorem acyc_perm {M Y : List RowV} (hp : Y.Perm M) (hn : (M.map (·.id)).Nodup) (h : ∀ x, ¬ onC (parP M) x) : ∀ x, ¬ onC (parP Y) x := by
  unfold parP at h ⊢
  rw [arrS_of_perm hp hn]
  exact h
theorem restS_idx {M : List RowV} (hn : (M.map (·.id)).Nodup) {k : Nat} (hk : k < M.length) : idxL (restL M k ++ [M[k]]) M[k].id = ((restL M k).length : Int) := by
  have h := idx_at (restS_nodup hn hk) (i := (restL M k).length) (by rw [List.length_append]; exact Nat.lt_succ_self _)
  rw [List.getElem_append_right (Nat.le_refl _)] at h
  simpa using h
theorem mem_rest {M : List RowV} {k : Nat} {r : RowV} (h : r ∈ restL M k) : r ∈ M := by
  unfold restL at h
  rcases List.mem_append.1 h with h | h
  · exact List.mem_of_mem_take h
  · exact List.mem_of_mem_drop h
/-- What answers to y lies below it. -/
theorem below_hole {R : List RowV} {c : Par} {F : List NodeV} (h : Good R c F) (hn : (R.map (·.id)).Nodup) (hc : c = parP R) {y : IdB} {j : Nat} (hj : j < F.length) (hy : F[j].id = y) {i k : Nat} (hi : i < F.length) (hk : k < R.length) (hid : F[i].id = R[k].id) (hl : R[k].refs.getLast? = some y) : F[i].parent = (j : Int) := by
  have hcr : c F[i].id = some y := by rw [hid, hc, parP_art hn hk]; exact hl
  rcases h.ok i F[i] (List.getElem?_eq_getElem hi) with ⟨_, h1⟩ | ⟨q, m, _, h2, h3, h4⟩
  · rw [hcr] at h1; cases h1
  · rw [hcr] at h4
    obtain ⟨hq, e⟩ := List.getElem?_eq_some_iff.1 h2
    have he : F[q].id = F[j].id := by rw [e, hy]; exact (Option.some.inj h4).symm
    have hnd := h.nodup
    rw [List.nodup_iff_pairwise_ne, List.pairwise_map, List.pairwise_iff_getElem] at hnd
    have : q = j := by
      rcases Nat.lt_trichotomy q j with h5 | h5 | h5
      · exact absurd he (hnd q j hq hj h5)
      · exact h5
      · exact absurd he.symm (hnd j q hj hq h5)
    rw [h3, this]
end Go.Proofs.Ythfinofmbnfijaa
