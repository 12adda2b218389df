/- Visibility: sorted lists of identities. No walk. -/
import Derived.Test.YtjjanjhoaiannaaSrt
namespace Go.Proofs.Ytjjanjhoaiannaa
open Go.RowKit Go.Lib Go.Sort
set_option linter.unusedVariables false
set_option linter.unusedSimpArgs false

def leB (x y : IdB) : Bool := !(ltOf cmpB y x)
theorem leB_trans (a b c : IdB) (h1 : leB a b = true) (h2 : leB b c = true) : leB a c = true := by
  unfold leB at *
  simp only [Bool.not_eq_true'] at *
  exact swoB.ntrans c b a h2 h1
theorem lt_asymm {x y : IdB} (h : ltOf cmpB x y = true) : ltOf cmpB y x = false := by
  cases h2 : ltOf cmpB y x with
  | false => rfl
  | true => have := swoB.trans x y x h h2; rw [swoB.irrefl] at this; cases this
theorem leB_total (a b : IdB) : (leB a b || leB b a) = true := by
  unfold leB
  cases h : ltOf cmpB b a with
  | false => rfl
  | true => rw [lt_asymm h]; rfl
theorem leB_of_lt {x y : IdB} (h : ltOf cmpB x y = true) : leB x y = true := by unfold leB; rw [lt_asymm h]; rfl
theorem leB_antisymm {x y : IdB} (h1 : leB x y = true) (h2 : leB y x = true) : x = y := by
  unfold leB at *
  simp only [Bool.not_eq_true'] at *
  exact cmpB_total x y h2 h1
theorem sortB_sorted (X : List IdB) : (sortB X).Pairwise (fun x y => leB x y = true) := List.pairwise_mergeSort leB_trans leB_total X
theorem sortB_perm (X : List IdB) : (sortB X).Perm X := List.mergeSort_perm X _
theorem sorted_unique : ∀ {A B : List IdB}, A.Perm B → A.Pairwise (fun x y => leB x y = true) → B.Pairwise (fun x y => leB x y = true) → A = B
  | [], B, h, _, _ => (List.nil_perm.1 h).symm
  | a :: A, [], h, _, _ => absurd h.length_eq (by simp)
  | a :: A, b :: B, h, hA, hB => by
    have hab : a = b := by
      have h1 : a ∈ b :: B := h.subset (by simp)
      have h2 : b ∈ a :: A := h.symm.subset (by simp)
      rcases List.mem_cons.1 h1 with e | h1
      · exact e
      · rcases List.mem_cons.1 h2 with e | h2
        · exact e.symm
        · exact leB_antisymm (List.rel_of_pairwise_cons hA h2) (List.rel_of_pairwise_cons hB h1)
    subst hab
    rw [sorted_unique (h.cons_inv) hA.of_cons hB.of_cons]
theorem sortB_of {X Y : List IdB} (h : X.Perm Y) : sortB X = sortB Y := sorted_unique ((sortB_perm X).trans (h.trans (sortB_perm Y).symm)) (sortB_sorted X) (sortB_sorted Y)
/-- An identity put in its place. -/
theorem insert_sorted {X O : List IdB} {a : IdB} {k : Nat} (hO : O = sortB X) (h1 : ∀ x ∈ O.take k, ltOf cmpB x a = true) (h2 : ∀ h : k < O.length, ltOf cmpB O[k] a = false) : O.take k ++ [a] ++ O.drop k = sortB (X ++ [a]) := by
  have hs : O.Pairwise (fun x y => leB x y = true) := hO ▸ sortB_sorted X
  have hp : O.Perm X := hO ▸ sortB_perm X
  have hsplit : O = O.take k ++ O.drop k := (List.take_append_drop k O).symm
  have hs2 := hs
  rw [hsplit, List.pairwise_append] at hs2
  obtain ⟨p1, p2, p3⟩ := hs2
  have hge : ∀ y ∈ O.drop k, leB a y = true := by
    intro y hy
    by_cases hk : k < O.length
    · rw [List.drop_eq_getElem_cons hk] at hy p2
      have h0 : leB a O[k] = true := by unfold leB; rw [h2 hk]; rfl
      rcases List.mem_cons.1 hy with rfl | hy
      · exact h0
      · exact leB_trans _ _ _ h0 (List.rel_of_pairwise_cons p2 hy)
    · rw [List.drop_of_length_le (by omega)] at hy
      cases hy
  refine sorted_unique ?_ ?_ (sortB_sorted _)
  · refine List.Perm.trans ?_ (sortB_perm _).symm
    refine List.Perm.trans ?_ (List.Perm.append_right [a] hp)
    rw [List.append_assoc]
    conv => rhs; rw [hsplit]
    rw [List.append_assoc]
    exact List.Perm.append_left _ (List.perm_append_comm)
  · rw [List.append_assoc, List.pairwise_append]
    refine ⟨p1, ?_, ?_⟩
    · rw [List.singleton_append, List.pairwise_cons]
      exact ⟨hge, p2⟩
    · intro x hx y hy
      rcases List.mem_append.1 hy with hy | hy
      · rw [List.mem_singleton.1 hy]
        exact leB_of_lt (h1 x hx)
      · exact p3 x hx y hy

end Go.Proofs.Ytjjanjhoaiannaa
