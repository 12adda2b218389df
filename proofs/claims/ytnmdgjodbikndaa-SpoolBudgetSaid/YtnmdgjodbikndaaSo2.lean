/- The reference's Oldest, plainly: the order of the indices; The reference's Oldest: marks; the search for the oldest. -/
import Derived.Test.YtnmdgjodbikndaaS15
namespace Go.Proofs.Ytnmdgjodbikndaa
open Go.RowKit
set_option linter.unusedVariables false
set_option linter.unusedSimpArgs false

def stabR (L : List RefA) : List RefA := L.mergeSort (fun a b => decide (a.min ≤ b.min))
def oldGoR (need : Int) : Int → List RefA → List IdB
  | _, [] => []
  | free, a :: l => if need ≤ free then [] else a.id :: oldGoR need (free + (a.text.size : Int)) l
def rOldC (B : Int) (need : Int) : Int := if need < 0 then 2 else if B < need then 9 else 0
def rOldL (B : Int) (L : List RefA) (need : Int) : List IdB := if rOldC B need = 0 then oldGoR need (B - (rSize L : Int)) (stabR L) else []
def IdxOrd (L : List RefA) (σ : List Nat) : Prop := σ.length = L.length ∧ (∀ i, i ∈ σ ↔ i < L.length) ∧ σ.Pairwise (oldB L) ∧ σ.map (fun i => L.getD i zR) = stabR L
theorem oldB_trans {L : List RefA} {i j k : Nat} (h1 : oldB L i j) (h2 : oldB L j k) : oldB L i k := by unfold oldB at *; omega
theorem oldB_irrefl {L : List RefA} {i : Nat} (h1 : oldB L i i) : False := by unfold oldB at *; omega
theorem tag_sorted (le : RefA → RefA → Bool) (ht : ∀ a b c, le a b → le b c → le a c) (hc : ∀ a b, le a b || le b a) (L : List RefA) :
    ∃ Z : List (RefA × Nat), Z.Perm L.zipIdx ∧ Z.Pairwise (fun a b => List.zipIdxLE le a b = true) ∧ Z.map (·.1) = L.mergeSort le :=
  ⟨L.zipIdx.mergeSort (List.zipIdxLE le), List.mergeSort_perm _ _, List.pairwise_mergeSort (List.zipIdxLE_trans ht) (List.zipIdxLE_total hc) _, List.mergeSort_zipIdx⟩
theorem ord_ex (L : List RefA) : ∃ σ, IdxOrd L σ := by
  obtain ⟨Z, hp, hs, hm⟩ := tag_sorted (fun a b => decide (a.min ≤ b.min)) (fun a b c h1 h2 => by simp only [decide_eq_true_eq] at *; omega) (fun a b => by simp only [Bool.or_eq_true, decide_eq_true_eq]; omega) L
  have hat : ∀ z ∈ Z, L[z.2]? = some z.1 := fun z hz => List.mem_zipIdx_iff_getElem?.1 (hp.mem_iff.1 hz)
  have hsn : (Z.map (·.2)).Perm (List.range' 0 L.length) := by
    have := hp.map (·.2)
    rwa [List.zipIdx_map_snd] at this
  have hnd : (Z.map (·.2)).Nodup := hsn.nodup_iff.2 List.nodup_range'
  have hge : ∀ z ∈ Z, L.getD z.2 zR = z.1 := fun z hz => by simp [List.getD, hat z hz]
  refine ⟨Z.map (·.2), by rw [hsn.length_eq, List.length_range'], fun i => by rw [hsn.mem_iff, List.mem_range'_1]; omega, ?_, ?_⟩
  · rw [List.pairwise_map]
    have hnd2 : Z.Pairwise (fun a b => a.2 ≠ b.2) := List.pairwise_map.1 hnd
    refine (hs.and hnd2).imp_of_mem ?_
    rintro a b ha hb ⟨h1, h2⟩
    unfold oldB
    rw [hge a ha, hge b hb]
    unfold List.zipIdxLE at h1
    simp only [decide_eq_true_eq] at h1
    split at h1
    · split at h1
      · have := of_decide_eq_true h1; omega
      · omega
    · cases h1
  · unfold stabR
    rw [← hm, List.map_map]
    exact List.map_congr_left (fun z hz => hge z hz)
end Go.Proofs.Ytnmdgjodbikndaa

namespace Go.Proofs.Ytnmdgjodbikndaa
open Go.RowKit
set_option linter.unusedVariables false
set_option linter.unusedSimpArgs false

def arE : ElemTy Try.prog 96 29 IdB where
  enc a := bvs a.1
  k := 32
  hu := Try.underlying96
  hi := ⟨idv z32, 32, by kernel_rfl, by kernel_rfl, by decide⟩
  hk := by decide
  len a := by rw [bvs_length]; exact a.2
  one _ := bvs_oneCell
def boolE : ElemTy Try.prog 113 4 Bool where
  enc b := [.bool b]
  k := 1
  hu := Try.underlying113
  hi := ⟨.bool false, 1, by kernel_rfl, rfl, by decide⟩
  hk := by decide
  len _ := rfl
  one b v hv := by rw [List.mem_singleton.1 hv]; rfl
theorem getD_map_bool {M : List Bool} {i : Nat} (hi : i < M.length) : (M.map Value.bool)[i]? = some (.bool (M.getD i true)) := by
  rw [List.getElem?_map, List.getElem?_eq_getElem hi, List.getD_eq_getElem?_getD, List.getElem?_eq_getElem hi]
  rfl
theorem cell_mark {w : World} {g : Nat} {M : List Bool} (h : w.heap[g]? = some (.cells (M.map Value.bool).toArray 4 (0, 0))) {i : Nat} (hi : i < M.length) : w.cell? ⟨g, i, none⟩ = some (.bool (M.getD i true)) := by
  rw [cell_of_row _ _ _ _ _ _ h]
  simpa using getD_map_bool hi
theorem set_mark {w : World} {g : Nat} {M : List Bool} (h : w.heap[g]? = some (.cells (M.map Value.bool).toArray 4 (0, 0))) {i : Nat} (b : Bool) : (w.setCell ⟨g, i, none⟩ (.bool b)).heap[g]? = some (.cells ((M.set i b).map Value.bool).toArray 4 (0, 0)) := by
  rw [heap_setCell_same _ _ _ _ _ _ h]
  simp
theorem make_marks (n : Nat) (hn : n ≤ 1000000000) : ∀ w, (Instr.makeSlice 113 (.int .i64 (n : Int)) (.int .i64 (n : Int))).run Try.prog w = .ok (.slice (some ⟨w.heap.size, 0, none⟩) n n) (w.alloc (.cells ((List.replicate n false).map Value.bool).toArray 4)) := by
  intro w
  obtain ⟨z, bytes, hinfo, hz, hb⟩ := boolE.hi
  obtain ⟨i0, hi, hz0, hz1, hz2⟩ := info_parts (show (Try.prog.info? 4).map (fun i => (i.zero, i.size, i.bytes)) = some (some (.bool false), 1, 1) by kernel_rfl)
  have h := run_make (P := Try.prog) w 113 4 i0 _ Try.underlying113 hi hz0 .i64 .i64 (n : Int) (n : Int) (by omega) (Int.le_refl _) (by rw [hz2]; omega) (by omega)
  rw [h, hz1]
  have e : madeCells (Value.bool false).cells ((n : Int).toNat * 1) = ((List.replicate n false).map Value.bool).toArray := by
    apply Array.ext'
    unfold madeCells
    rw [List.map_replicate]
    apply List.ext_getElem
    · simp
    · intro j h1 h2
      simp [Value.cells, Nat.mod_one]
  rw [e]
  rfl
/-- What the search has found among the first i articles. -/
def BestI (L : List RefA) (G : List Bool) (i : Nat) : Option Nat → Prop
  | none => ∀ j, j < i → G.getD j true = true
  | some k => k < i ∧ G.getD k true = false ∧ ∀ j, j < i → G.getD j true = false → j = k ∨ oldB L k j
def bestV : Option Nat → Int
  | none => -1
  | some k => (k : Int)
variable {L : List RefA} {G : List Bool} {i : Nat}
theorem best_gone {b : Option Nat} (h : BestI L G i b) (hg : G.getD i true = true) : BestI L G (i + 1) b := by
  cases b with
  | none =>
    intro j hj
    by_cases e : j = i
    · rw [e]; exact hg
    · exact h j (by omega)
  | some k =>
    refine ⟨by have := h.1; omega, h.2.1, fun j hj hf => ?_⟩
    by_cases e : j = i
    · rw [e, hg] at hf; cases hf
    · exact h.2.2 j (by omega) hf
theorem best_first (h : BestI L G i none) (hg : G.getD i true = false) : BestI L G (i + 1) (some i) := by
  refine ⟨by omega, hg, fun j hj hf => ?_⟩
  by_cases e : j = i
  · exact .inl e
  · rw [h j (by omega)] at hf; cases hf
theorem best_older {k : Nat} (h : BestI L G i (some k)) (hg : G.getD i true = false) (ho : oldB L i k) : BestI L G (i + 1) (some i) := by
  refine ⟨by omega, hg, fun j hj hf => ?_⟩
  by_cases e : j = i
  · exact .inl e
  · rcases h.2.2 j (by omega) hf with rfl | h2
    · exact .inr ho
    · exact .inr (oldB_trans ho h2)
theorem best_keep {k : Nat} (h : BestI L G i (some k)) (ho : ¬ oldB L i k) : BestI L G (i + 1) (some k) := by
  refine ⟨by have := h.1; omega, h.2.1, fun j hj hf => ?_⟩
  by_cases e : j = i
  · have := h.1
    subst e
    refine .inr ?_
    unfold oldB at *
    omega
  · exact h.2.2 j (by omega) hf
/-- The marks of the first r in the order. -/
def Marks (σ : List Nat) (G : List Bool) (N r : Nat) : Prop := ∀ i, i < N → (G.getD i true = true ↔ i ∈ σ.take r)
theorem best_end {σ : List Nat} {N r : Nat} {b : Option Nat} (hσ : IdxOrd L σ) (hN : L.length = N) (hr : r < N) (hm : Marks σ G N r) (hb : BestI L G N b) : ∃ k, b = some k ∧ σ[r]? = some k ∧ k < N := by
  obtain ⟨hl, hmem, hp, _⟩ := hσ
  have hr' : r < σ.length := by omega
  have hkN : ∀ q, (hq : q < σ.length) → σ[q] < N := fun q hq => by have := (hmem σ[q]).1 (List.getElem_mem hq); omega
  have hnd : ∀ p q, (hpq : p < q) → (hq : q < σ.length) → oldB L σ[p] σ[q] := fun p q hpq hq => List.pairwise_iff_getElem.1 hp p q (by omega) hq hpq
  have hfree : G.getD σ[r] true = false := by
    rw [Bool.eq_false_iff]
    intro h
    obtain ⟨q, hq, e⟩ := List.mem_take_iff_getElem.1 ((hm _ (hkN r hr')).1 h)
    have := hnd q r (by omega) hr'
    rw [e] at this
    exact oldB_irrefl this
  cases b with
  | none => rw [hb _ (hkN r hr')] at hfree; cases hfree
  | some k =>
    refine ⟨k, rfl, ?_, hb.1⟩
    rcases hb.2.2 _ (hkN r hr') hfree with e | h
    · rw [List.getElem?_eq_getElem hr', e]
    · exfalso
      have hk := (hmem k).2 (by have := hb.1; omega)
      obtain ⟨q, hq, e⟩ := List.getElem_of_mem hk
      rcases Nat.lt_trichotomy q r with h1 | h1 | h1
      · have : G.getD k true = true := (hm k hb.1).2 (List.mem_take_iff_getElem.2 ⟨q, by omega, e⟩)
        rw [hb.2.1] at this
        cases this
      · subst h1
        rw [e] at h
        exact oldB_irrefl h
      · have := hnd r q h1 hq
        rw [e] at this
        exact oldB_irrefl (oldB_trans h this)
theorem marks_next {σ : List Nat} {N r k : Nat} (hG : G.length = N) (hm : Marks σ G N r) (hk : σ[r]? = some k) : Marks σ (G.set k true) N (r + 1) := by
  intro i hi
  obtain ⟨hr, e⟩ := List.getElem?_eq_some_iff.1 hk
  rw [List.take_succ_eq_append_getElem hr, List.mem_append, List.mem_singleton, e]
  by_cases h : i = k
  · subst h
    simp [List.getD, List.getElem?_set, hG, hi]
  · have : (G.set k true).getD i true = G.getD i true := by simp [List.getD, List.getElem?_set, Ne.symm h]
    rw [this, hm i hi]
    simp [h]
theorem stab_at {σ : List Nat} {r k : Nat} (hσ : IdxOrd L σ) (hk : σ[r]? = some k) (hr : k < L.length) : (stabR L).drop r = L[k] :: (stabR L).drop (r + 1) := by
  obtain ⟨hl, _, _, hm⟩ := hσ
  obtain ⟨hr2, e⟩ := List.getElem?_eq_some_iff.1 hk
  have h2 : r < (stabR L).length := by rw [← hm, List.length_map]; exact hr2
  rw [List.drop_eq_getElem_cons h2]
  congr 1
  have : (stabR L)[r]? = some L[k] := by
    rw [← hm, List.getElem?_map, hk]
    simp [List.getD, List.getElem?_eq_getElem hr]
  rw [List.getElem?_eq_getElem h2] at this
  exact Option.some.inj this
theorem stabR_perm (L : List RefA) : (stabR L).Perm L := List.mergeSort_perm _ _
theorem rSize_perm {L M : List RefA} (h : L.Perm M) : rSize L = rSize M := (h.map _).sum_nat
end Go.Proofs.Ytnmdgjodbikndaa
