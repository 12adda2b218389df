/- Every placed identity stands in the forest. -/
import Derived.Test.YthfinofmbnfijaaTp9
namespace Go.Proofs.Ythfinofmbnfijaa
set_option linter.unusedVariables false
set_option linter.unusedSimpArgs false

theorem desc_self {ch : Kid} : ∀ {n : Nat} {x : IdB}, FinK ch n x → x ∈ descL ch n x
  | 0, _, h => h.elim
  | n + 1, _, _ => by unfold descL; exact List.mem_cons_self ..
/-- Below a node stands what answers to what is below it. -/
theorem desc_step {c : Par} {pl : List IdB} : ∀ {n : Nat} {x z y : IdB}, FinK (kidsOf c pl) n x → z ∈ descL (kidsOf c pl) n x → c y = some z → y ∈ pl → y ∈ descL (kidsOf c pl) n x
  | 0, _, _, _, h, _, _, _ => h.elim
  | n + 1, x, z, y, h, hz, hc, hy => by
    unfold descL at hz ⊢
    rcases List.mem_cons.1 hz with rfl | hz
    · have hk := mem_kidsOf.2 ⟨hy, hc⟩
      exact List.mem_cons_of_mem _ (List.mem_flatMap.2 ⟨y, hk, desc_self (h y hk)⟩)
    · obtain ⟨u, hu, hzu⟩ := List.mem_flatMap.1 hz
      exact List.mem_cons_of_mem _ (List.mem_flatMap.2 ⟨u, hu, desc_step (h u hu) hzu hc hy⟩)
theorem up_ends {c : Par} {pl : List IdB} (hac : ∀ x, ¬ onC c x) (hcl : ∀ y ∈ pl, ∀ z, c y = some z → z ∈ pl) {y : IdB} (hy : y ∈ pl) : ∃ m, it c m y = none := by
  refine Classical.byContradiction fun hno => ?_
  have hall : ∀ m, ∃ z, it c m y = some z ∧ z ∈ pl := by
    intro m
    induction m with
    | zero => exact ⟨y, rfl, hy⟩
    | succ m ih =>
      obtain ⟨z, hz, hzp⟩ := ih
      have h1 : it c (m + 1) y = c z := by rw [it_succ, hz]; rfl
      cases hcz : c z with
      | none => exact absurd ⟨m + 1, h1.trans hcz⟩ hno
      | some u => exact ⟨u, h1.trans hcz, hcl z hzp u hcz⟩
  have key : ∀ i, ((it c i y).getD z32) ∈ pl ∧ it c i y = some ((it c i y).getD z32) := fun i => by
    obtain ⟨z, hz, hp⟩ := hall i
    rw [hz]
    exact ⟨hp, rfl⟩
  have hnd : ((List.range (pl.length + 1)).map fun i => (it c i y).getD z32).Nodup := by
    rw [List.nodup_iff_pairwise_ne, List.pairwise_map, List.pairwise_iff_getElem]
    intro i j hi hj hij e
    simp only [List.getElem_range] at e
    have h1 := (key i).2
    have h2 := (key j).2
    rw [← e] at h2
    exact hac _ (it_cyc hij h1 h2)
  have hlen := nodup_len _ pl hnd (fun z hz => by
    obtain ⟨i, hi, rfl⟩ := List.mem_map.1 hz
    exact (key i).1)
  rw [List.length_map, List.length_range] at hlen
  omega
theorem all_mem {c : Par} {pl : List IdB} (hac : ∀ x, ¬ onC c x) (hcl : ∀ y ∈ pl, ∀ z, c y = some z → z ∈ pl) {y : IdB} (hy : y ∈ pl) : y ∈ allL c pl (pl.length + 1) := by
  obtain ⟨m, hm⟩ := up_ends hac hcl hy
  induction m generalizing y with
  | zero => cases hm
  | succ m ih =>
    cases hc : c y with
    | none => exact List.mem_flatMap.2 ⟨y, mem_rootsOf.2 ⟨hy, hc⟩, desc_self (fin_all hac y)⟩
    | some z =>
      have h1 : it c m z = none := by
        have h2 : it c (m + 1) y = (c y).bind (it c m) := rfl
        rw [h2, hc] at hm
        exact hm
      obtain ⟨u, hu, hzu⟩ := List.mem_flatMap.1 (ih (hcl y hy z hc) h1)
      exact List.mem_flatMap.2 ⟨u, hu, desc_step (fin_all hac u) hzu hc hy⟩
end Go.Proofs.Ythfinofmbnfijaa
