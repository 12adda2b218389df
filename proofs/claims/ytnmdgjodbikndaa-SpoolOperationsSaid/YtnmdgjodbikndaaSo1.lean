/- The reference's Oldest, plainly: the order of the indices. -/
import Derived.Test.YtnmdgjodbikndaaS15
namespace Go.Proofs.Ytnmdgjodbikndaa
open Go.RowKit
set_option linter.unusedVariables false
set_option linter.unusedSimpArgs false

def stabR (L : List RefA) : List RefA := L.mergeSort (fun a b => decide (a.min ≤ b.min))
def oldGoR (need : Int) : Int → List RefA → List IdB
  | _, [] => []
  | free, a :: l => if need ≤ free then [] else a.id :: oldGoR need (free + (a.text.size : Int)) l
def rOldC (B : Int) (need : Int) : Int := if need < 0 then 2 else if B < need then 9 else 0
def rOldL (B : Int) (L : List RefA) (need : Int) : List IdB := if rOldC B need = 0 then oldGoR need (B - (rSize L : Int)) (stabR L) else []
def IdxOrd (L : List RefA) (σ : List Nat) : Prop := σ.length = L.length ∧ (∀ i, i ∈ σ ↔ i < L.length) ∧ σ.Pairwise (oldB L) ∧ σ.map (fun i => L.getD i zR) = stabR L
theorem oldB_trans {L : List RefA} {i j k : Nat} (h1 : oldB L i j) (h2 : oldB L j k) : oldB L i k := by unfold oldB at *; omega
theorem oldB_irrefl {L : List RefA} {i : Nat} (h1 : oldB L i i) : False := by unfold oldB at *; omega
theorem tag_sorted (le : RefA → RefA → Bool) (ht : ∀ a b c, le a b → le b c → le a c) (hc : ∀ a b, le a b || le b a) (L : List RefA) :
    ∃ Z : List (RefA × Nat), Z.Perm L.zipIdx ∧ Z.Pairwise (fun a b => List.zipIdxLE le a b = true) ∧ Z.map (·.1) = L.mergeSort le :=
  ⟨L.zipIdx.mergeSort (List.zipIdxLE le), List.mergeSort_perm _ _, List.pairwise_mergeSort (List.zipIdxLE_trans ht) (List.zipIdxLE_total hc) _, List.mergeSort_zipIdx⟩
theorem ord_ex (L : List RefA) : ∃ σ, IdxOrd L σ := by
  obtain ⟨Z, hp, hs, hm⟩ := tag_sorted (fun a b => decide (a.min ≤ b.min)) (fun a b c h1 h2 => by simp only [decide_eq_true_eq] at *; omega) (fun a b => by simp only [Bool.or_eq_true, decide_eq_true_eq]; omega) L
  have hat : ∀ z ∈ Z, L[z.2]? = some z.1 := fun z hz => List.mem_zipIdx_iff_getElem?.1 (hp.mem_iff.1 hz)
  have hsn : (Z.map (·.2)).Perm (List.range' 0 L.length) := by
    have := hp.map (·.2)
    rwa [List.zipIdx_map_snd] at this
  have hnd : (Z.map (·.2)).Nodup := hsn.nodup_iff.2 List.nodup_range'
  have hge : ∀ z ∈ Z, L.getD z.2 zR = z.1 := fun z hz => by simp [List.getD, hat z hz]
  refine ⟨Z.map (·.2), by rw [hsn.length_eq, List.length_range'], fun i => by rw [hsn.mem_iff, List.mem_range'_1]; omega, ?_, ?_⟩
  · rw [List.pairwise_map]
    have hnd2 : Z.Pairwise (fun a b => a.2 ≠ b.2) := List.pairwise_map.1 hnd
    refine (hs.and hnd2).imp_of_mem ?_
    rintro a b ha hb ⟨h1, h2⟩
    unfold oldB
    rw [hge a ha, hge b hb]
    unfold List.zipIdxLE at h1
    simp only [decide_eq_true_eq] at h1
    split at h1
    · split at h1
      · have := of_decide_eq_true h1; omega
      · omega
    · cases h1
  · unfold stabR
    rw [← hm, List.map_map]
    exact List.map_congr_left (fun z hz => hge z hz)
end Go.Proofs.Ytnmdgjodbikndaa
