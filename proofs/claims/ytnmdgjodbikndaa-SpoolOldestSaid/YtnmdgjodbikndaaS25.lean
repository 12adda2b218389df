/- The law Oldest, plainly: what Oldest returns, and what is left when it is removed. -/
import Derived.Test.YtnmdgjodbikndaaS7
namespace Go.Proofs.Ytnmdgjodbikndaa
open Go.RowKit
set_option linter.unusedVariables false
set_option linter.unusedSimpArgs false

def szs (T : List ArtD) : Nat := (T.map (·.text.size)).sum
theorem szs_cons (a : ArtD) (T : List ArtD) : szs (a :: T) = a.text.size + szs T := by unfold szs; simp
theorem szs_split (T : List ArtD) (n : Nat) : szs (T.take n) + szs (T.drop n) = szs T := by
  unfold szs
  rw [← List.sum_append_nat, ← List.map_append, List.take_append_drop]
theorem szs_perm {T U : List ArtD} (h : T.Perm U) : szs T = szs U := by
  unfold szs
  exact (h.map _).sum_nat
theorem oldGo_spec (need : Int) : ∀ (T : List ArtD) (f : Int), ∃ n, n ≤ T.length ∧ oldGo need f T = (T.take n).map (·.id) ∧ (∀ i, i < n → f + (szs (T.take i) : Int) < need) ∧ (n = T.length ∨ need ≤ f + (szs (T.take n) : Int))
  | [], f => ⟨0, Nat.le_refl _, rfl, fun i hi => absurd hi (Nat.not_lt_zero _), .inl rfl⟩
  | a :: l, f => by
    unfold oldGo
    by_cases h : need ≤ f
    · rw [if_pos h]
      exact ⟨0, Nat.zero_le _, rfl, fun i hi => absurd hi (Nat.not_lt_zero _), .inr (by unfold szs; simpa using h)⟩
    · rw [if_neg h]
      obtain ⟨n, h1, h2, h3, h4⟩ := oldGo_spec need l (f + (a.text.size : Int))
      refine ⟨n + 1, by rw [List.length_cons]; omega, by rw [List.take_succ_cons, List.map_cons, h2], fun i hi => ?_, ?_⟩
      · cases i with
        | zero => rw [List.take_zero, show szs [] = 0 from rfl]; omega
        | succ i =>
          have := h3 i (by omega)
          rw [List.take_succ_cons, szs_cons]
          omega
      · rcases h4 with h4 | h4
        · exact .inl (by rw [List.length_cons]; omega)
        · right
          rw [List.take_succ_cons, szs_cons]
          omega
def delT (S : SpD) (T : List ArtD) : Nat → SpD
  | 0 => S
  | i + 1 => (delT S T i).del (T.getD i zA).id
theorem kl_ids (S : SpD) : S.kl.map (·.1) = S.list.map (·.id) := by
  unfold SpD.kl
  rw [List.map_map]
  rfl
theorem cons_eraseIdx {α : Type} : ∀ (l : List α) {j : Nat} {a : α}, l[j]? = some a → (a :: l.eraseIdx j).Perm l
  | [], _, _, h => by simp at h
  | x :: l, 0, a, h => by
    simp only [List.getElem?_cons_zero, Option.some.injEq] at h
    subst h
    exact List.Perm.refl _
  | x :: l, j + 1, a, h => by
    simp only [List.getElem?_cons_succ] at h
    rw [List.eraseIdx_cons_succ]
    exact (List.Perm.swap x a _).trans ((cons_eraseIdx l h).cons x)
theorem delT_spec {S : SpD} {T : List ArtD} (hok : S.Ok) (hn : (S.list.map (·.id)).Nodup) (hp : T.Perm S.list) : ∀ i, i ≤ T.length → (delT S T i).list.Perm (T.drop i) ∧ (delT S T i).budget = S.budget ∧ (delT S T i).next = S.next ∧ (delT S T i).Ok ∧ ∀ h : i < T.length, (delT S T i).find T[i].id = some T[i]
  | 0, _ => by
    have hf : ∀ h : 0 < T.length, S.find T[0].id = some T[0] := fun h => find_mem (by rw [kl_ids]; exact hn) (hp.mem_iff.1 (List.getElem_mem h))
    exact ⟨hp.symm, rfl, rfl, hok, hf⟩
  | i + 1, hi => by
    obtain ⟨h1, h2, h3, h4, h5⟩ := delT_spec hok hn hp i (by omega)
    have hlt : i < T.length := by omega
    have hgd : T.getD i zA = T[i] := by rw [List.getD_eq_getElem?_getD, List.getElem?_eq_getElem hlt]; rfl
    obtain ⟨j, hj, he⟩ := erase_at (h5 hlt)
    have hl : (delT S T (i + 1)).list = (delT S T i).list.eraseIdx j := by
      show ((delT S T i).list.eraseP _) = _
      rw [hgd]
      exact he
    have hjl := (List.getElem?_eq_some_iff.1 hj).1
    have hpe : (T[i] :: (delT S T i).list.eraseIdx j).Perm (delT S T i).list := cons_eraseIdx _ hj
    have hpn : (delT S T (i + 1)).list.Perm (T.drop (i + 1)) := by
      rw [hl]
      refine (List.perm_cons T[i]).1 (hpe.trans (h1.trans ?_))
      rw [List.drop_eq_getElem_cons hlt]
    refine ⟨hpn, h2, h3, Ok.del h4, fun h => ?_⟩
    refine find_mem ?_ (hpn.mem_iff.2 ?_)
    · rw [kl_ids]
      have hn2 : (T.map (·.id)).Nodup := ((hp.map _).nodup_iff).2 hn
      refine ((hpn.map _).nodup_iff).2 ?_
      rw [List.map_drop]
      exact hn2.sublist (List.drop_sublist _ _)
    · rw [List.drop_eq_getElem_cons h]
      exact List.mem_cons_self
theorem delT_size {S : SpD} {T : List ArtD} (hok : S.Ok) (hn : (S.list.map (·.id)).Nodup) (hp : T.Perm S.list) {i : Nat} (hi : i ≤ T.length) : ((delT S T i).size : Int) = (S.size : Int) - (szs (T.take i) : Int) := by
  have h1 := szs_perm (delT_spec hok hn hp i hi).1
  have h2 := szs_split T i
  have h3 := szs_perm hp
  have e1 : (delT S T i).size = szs (delT S T i).list := rfl
  have e2 : S.size = szs S.list := rfl
  omega
theorem stab_sorted (M : List ArtD) {i j : Nat} (hij : i ≤ j) (hj : j < (stab M).length) : (stab M)[i].arr ≤ (stab M)[j].arr := by
  rcases Nat.lt_or_eq_of_le hij with h | h
  · have := List.pairwise_iff_getElem.1 (List.pairwise_mergeSort (le := fun a b : ArtD => decide (a.arr ≤ b.arr)) (fun a b c => by simp only [decide_eq_true_eq]; omega) (fun a b => by simp only [decide_eq_true_eq, Bool.or_eq_true]; omega) M) i j (by unfold stab at hj; omega) hj h
    exact of_decide_eq_true this
  · subst h
    exact Int.le_refl _
end Go.Proofs.Ytnmdgjodbikndaa
