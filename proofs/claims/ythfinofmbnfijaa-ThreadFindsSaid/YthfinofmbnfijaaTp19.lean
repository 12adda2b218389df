/- Identities in ascending order, plainly. -/
import Derived.Test.YthfinofmbnfijaaTp17
namespace Go.Proofs.Ythfinofmbnfijaa
open Go.Shelf Go.RowKit Go.Lib Go.Sort
set_option linter.unusedVariables false
set_option linter.unusedSimpArgs false

def AscB (M : List IdB) : Prop := M.Pairwise fun a b => cmpB a b < 0
theorem ascB_unique : ∀ {A B : List IdB}, A.Perm B → AscB A → AscB B → A = B
  | [], B, h, _, _ => (List.nil_perm.1 h).symm
  | a :: A, [], h, _, _ => absurd h.length_eq (by simp)
  | a :: A, b :: B, h, hA, hB => by
    have hab : a = b := by
      have h1 : a ∈ b :: B := h.subset (by simp)
      have h2 : b ∈ a :: A := h.symm.subset (by simp)
      rcases List.mem_cons.1 h1 with e | h1
      · exact e
      · rcases List.mem_cons.1 h2 with e | h2
        · exact e.symm
        · have e1 := List.rel_of_pairwise_cons hA h2
          have e2 := List.rel_of_pairwise_cons hB h1
          have e3 := cmpB_swap a b
          omega
    subst hab
    rw [ascB_unique (h.cons_inv) (List.Pairwise.of_cons hA) (List.Pairwise.of_cons hB)]
theorem sortB_asc {M : List IdB} (hn : M.Nodup) : AscB (sortB M) := by
  have hp : (sortB M).Perm M := List.mergeSort_perm M _
  have hnd : (sortB M).Nodup := hp.nodup_iff.2 hn
  have hs : (sortB M).Pairwise fun a b => (!(ltOf cmpB b a)) = true := List.pairwise_mergeSort (le := fun x y => !(ltOf cmpB y x)) (fun a b c h1 h2 => by
    simp only [ltOf, Bool.not_eq_true', decide_eq_false_iff_not] at h1 h2 ⊢
    intro h3
    by_cases e : cmpB a b = 0
    · rw [cmpB_eq e] at h3
      exact h2 h3
    · have e1 : cmpB a b < 0 := by have := cmpB_swap a b; omega
      have e2 := cmpB_trans h3 e1
      exact h2 e2) (fun a b => by
    simp only [ltOf, Bool.or_eq_true, Bool.not_eq_true', decide_eq_false_iff_not]
    have := cmpB_swap a b
    omega) M
  refine List.Pairwise.imp_of_mem (fun {a b} ha hb h => ?_) (hs.and hnd)
  obtain ⟨h1, h2⟩ := h
  simp only [ltOf, Bool.not_eq_true', decide_eq_false_iff_not] at h1
  have h3 := cmpB_swap a b
  have h4 : cmpB a b ≠ 0 := fun e => h2 (cmpB_eq e)
  omega
/-- x put where it belongs. -/
def insB (M : List IdB) (x : IdB) (k : Nat) : List IdB := M.take k ++ [x] ++ M.drop k
theorem insB_perm (M : List IdB) (x : IdB) (k : Nat) : (insB M x k).Perm (M ++ [x]) := by
  unfold insB
  have h1 : (M.take k ++ [x] ++ M.drop k).Perm (M.take k ++ (M.drop k ++ [x])) := by
    rw [List.append_assoc]
    exact List.Perm.append_left _ List.perm_append_comm
  refine h1.trans ?_
  rw [← List.append_assoc, List.take_append_drop]
theorem insB_asc {M : List IdB} (hM : AscB M) {x : IdB} {k : Nat} (hk : k ≤ M.length) (h1 : ∀ j (hj : j < M.length), j < k → cmpB M[j] x < 0) (h2 : ∀ hk : k < M.length, cmpB x M[k] < 0) : AscB (insB M x k) := by
  unfold insB AscB
  have hxd : ∀ b ∈ M.drop k, cmpB x b < 0 := fun b hb => by
    obtain ⟨j, hj, rfl⟩ := List.mem_iff_getElem.1 hb
    rw [List.length_drop] at hj
    rw [List.getElem_drop]
    have h3 := h2 (by omega)
    by_cases e : j = 0
    · subst e; exact h3
    · exact cmpB_trans h3 (List.pairwise_iff_getElem.1 hM k (k + j) (by omega) (by omega) (by omega))
  have htx : ∀ a ∈ M.take k, cmpB a x < 0 := fun a ha => by
    obtain ⟨j, hj, rfl⟩ := List.mem_iff_getElem.1 ha
    rw [List.length_take] at hj
    rw [List.getElem_take]
    exact h1 j (by omega) (by omega)
  rw [List.append_assoc, List.pairwise_append]
  refine ⟨hM.sublist (List.take_sublist _ _), List.pairwise_cons.2 ⟨hxd, hM.sublist (List.drop_sublist _ _)⟩, fun a ha b hb => ?_⟩
  rcases List.mem_cons.1 hb with rfl | hb
  · exact htx a ha
  · exact cmpB_trans (htx a ha) (hxd b hb)
/-- The missing ones among the first i nodes. -/
def misL (F : List NodeV) (i : Nat) : List IdB := ((F.take i).filter fun n => decide (n.row = -1)).map (·.id)
theorem misL_next {F : List NodeV} {i : Nat} (hi : i < F.length) : misL F (i + 1) = if F[i].row = -1 then misL F i ++ [F[i].id] else misL F i := by
  unfold misL
  rw [List.take_succ_eq_append_getElem hi, List.filter_append, List.map_append]
  by_cases h : F[i].row = -1 <;> simp [h]
theorem misL_nodup {F : List NodeV} (h : (F.map (·.id)).Nodup) (i : Nat) : (misL F i).Nodup := by
  unfold misL
  refine h.sublist ?_
  exact (List.filter_sublist.trans (List.take_sublist _ _)).map _
theorem misL_len (F : List NodeV) (i : Nat) : (misL F i).length ≤ i := by
  unfold misL
  rw [List.length_map]
  refine Nat.le_trans (List.length_filter_le _ _) ?_
  rw [List.length_take]
  omega
/-- The list of missing ones, put in place one by one. -/
structure MisI (F : List NodeV) (i : Nat) (M : List IdB) : Prop where
  perm : M.Perm (misL F i)
  asc : AscB M
theorem MisI.next {F : List NodeV} {i k : Nat} {M : List IdB} (h : MisI F i M) (hF : (F.map (·.id)).Nodup) (hi : i < F.length) (hr : F[i].row = -1) (hk : k ≤ M.length) (h1 : ∀ j (hj : j < M.length), j < k → cmpB M[j] F[i].id < 0) (h2 : ∀ hk : k < M.length, ¬ cmpB M[k] F[i].id < 0) : MisI F (i + 1) (insB M F[i].id k) := by
  have hnx := misL_next hi
  rw [if_pos hr] at hnx
  have hnd := misL_nodup hF (i + 1)
  rw [hnx] at hnd
  have hp2 : (insB M F[i].id k).Perm (misL F (i + 1)) := by
    rw [hnx]
    exact (insB_perm M F[i].id k).trans (List.Perm.append_right _ h.perm)
  refine ⟨hp2, insB_asc h.asc hk h1 fun hk2 => ?_⟩
  have h3 := h2 hk2
  have h4 := cmpB_swap M[k] F[i].id
  have hne : M[k] ≠ F[i].id := fun e => by
    have hm : M[k] ∈ misL F i := h.perm.mem_iff.1 (List.getElem_mem hk2)
    rw [List.nodup_append] at hnd
    exact hnd.2.2 _ hm _ (List.mem_singleton.2 rfl) e
  have h5 : cmpB M[k] F[i].id ≠ 0 := fun e => hne (cmpB_eq e)
  omega
theorem MisI.skip {F : List NodeV} {i : Nat} {M : List IdB} (h : MisI F i M) (hi : i < F.length) (hr : F[i].row ≠ -1) : MisI F (i + 1) M := by
  refine ⟨?_, h.asc⟩
  rw [misL_next hi, if_neg hr]
  exact h.perm
theorem MisI.done {F : List NodeV} {i : Nat} {M : List IdB} (h : MisI F i M) (hF : (F.map (·.id)).Nodup) : M = sortB (misL F i) :=
  ascB_unique (h.perm.trans (List.mergeSort_perm _ _).symm) h.asc (sortB_asc (misL_nodup hF i))
/-- The index of an identity among the first i nodes. -/
structure FndI (F : List NodeV) (x : IdB) (i : Nat) (want : Nat) (is : Bool) : Prop where
  no : is = false → want = 0 ∧ ∀ j (hj : j < F.length), j < i → F[j].id ≠ x
  yes : is = true → ∃ h : want < F.length, F[want].id = x
theorem FndI.zero (F : List NodeV) (x : IdB) : FndI F x 0 0 false := ⟨fun _ => ⟨rfl, fun j _ h => absurd h (Nat.not_lt_zero j)⟩, (fun h => by cases h)⟩
theorem FndI.hit {F : List NodeV} {x : IdB} {i : Nat} (hi : i < F.length) (h : F[i].id = x) : FndI F x (i + 1) i true := ⟨(fun h => by cases h), fun _ => ⟨hi, h⟩⟩
theorem FndI.miss {F : List NodeV} {x : IdB} {i want : Nat} {is : Bool} (h : FndI F x i want is) (hi : i < F.length) (hne : F[i].id ≠ x) : FndI F x (i + 1) want is :=
  ⟨fun e => ⟨(h.no e).1, fun j hj hji => by
    by_cases e2 : j = i
    · subst e2; exact hne
    · exact (h.no e).2 j hj (by omega)⟩, h.yes⟩
end Go.Proofs.Ythfinofmbnfijaa
