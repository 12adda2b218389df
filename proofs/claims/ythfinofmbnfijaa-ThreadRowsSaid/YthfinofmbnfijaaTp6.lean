/- Threads, plainly: the nodes below a node; every node is met once. -/
import Derived.Test.YthfinofmbnfijaaTh10
namespace Go.Proofs.Ythfinofmbnfijaa
open Go.Shelf Go.RowKit Go.Lib Go.Sort
set_option linter.unusedVariables false
set_option linter.unusedSimpArgs false

/-! ### lists without repetition -/
theorem nodup_len {α : Type} [DecidableEq α] : ∀ (l D : List α), l.Nodup → (∀ x ∈ l, x ∈ D) → l.length ≤ D.length
  | [], _, _, _ => Nat.zero_le _
  | a :: l, D, hn, hD => by
    have ha := hD a (List.mem_cons_self ..)
    rw [List.nodup_cons] at hn
    have h1 := nodup_len l (D.erase a) hn.2 (fun x hx => (List.mem_erase_of_ne (fun e => hn.1 (by rw [← e]; exact hx))).2 (hD x (List.mem_cons_of_mem _ hx)))
    rw [List.length_erase_of_mem ha] at h1
    have h2 : 0 < D.length := List.length_pos_of_mem ha
    rw [List.length_cons]
    omega
instance : DecidableEq IdB := fun a b => decidable_of_iff (a.1 = b.1) ⟨Subtype.ext, fun h => by rw [h]⟩

/-! ### children and roots out of the list of places -/
def kidsOf (c : Par) (pl : List IdB) : Kid := fun x => pl.filter fun y => decide (c y = some x)
def rootsOf (c : Par) (pl : List IdB) : List IdB := pl.filter fun y => decide (c y = none)
theorem putK_snoc (c : Par) (pl : List IdB) (x : IdB) : putK c (kidsOf c pl, rootsOf c pl) x = (kidsOf c (pl ++ [x]), rootsOf c (pl ++ [x])) := by
  unfold putK
  cases hc : c x with
  | none =>
    dsimp only
    congr 1
    · funext y
      unfold kidsOf
      rw [List.filter_append]
      simp [hc]
    · unfold rootsOf
      rw [List.filter_append]
      simp [hc]
  | some p =>
    dsimp only
    congr 1
    · funext y
      unfold upd kidsOf
      rw [List.filter_append]
      by_cases hy : y = p
      · subst hy
        rw [if_pos rfl]
        simp [hc]
      · rw [if_neg hy]
        have : ¬ p = y := fun e => hy e.symm
        simp [hc, this]
    · unfold rootsOf
      rw [List.filter_append]
      simp [hc]
theorem mem_kidsOf {c : Par} {pl : List IdB} {x y : IdB} : y ∈ kidsOf c pl x ↔ y ∈ pl ∧ c y = some x := by
  unfold kidsOf
  rw [List.mem_filter, decide_eq_true_eq]
theorem mem_rootsOf {c : Par} {pl : List IdB} {y : IdB} : y ∈ rootsOf c pl ↔ y ∈ pl ∧ c y = none := by
  unfold rootsOf
  rw [List.mem_filter, decide_eq_true_eq]
theorem kidsOf_len (c : Par) (pl : List IdB) (x : IdB) : (kidsOf c pl x).length ≤ pl.length := List.length_filter_le _ _
theorem rootsOf_len (c : Par) (pl : List IdB) : (rootsOf c pl).length ≤ pl.length := List.length_filter_le _ _
/-- What is not finished within n levels has a chain of n below it. -/
theorem not_fin {c : Par} {pl : List IdB} : ∀ (n : Nat) (x : IdB), ¬ FinK (kidsOf c pl) n x → ∃ z, it c n z = some x ∧ ∀ i, i < n → ∃ y, it c i z = some y ∧ y ∈ pl
  | 0, x, _ => ⟨x, rfl, fun i hi => absurd hi (Nat.not_lt_zero i)⟩
  | n + 1, x, h => by
    unfold FinK at h
    have ⟨y, hy⟩ := Classical.not_forall.1 h
    have ⟨hym, hyf⟩ := Classical.not_imp.1 hy
    obtain ⟨z, hz, hall⟩ := not_fin n y hyf
    obtain ⟨hp, hc⟩ := mem_kidsOf.1 hym
    refine ⟨z, by rw [it_succ, hz]; exact hc, fun i hi => ?_⟩
    by_cases hin : i < n
    · exact hall i hin
    · obtain rfl : i = n := by omega
      exact ⟨y, hz, hp⟩
theorem it_cyc {c : Par} {z y : IdB} {i j : Nat} (hij : i < j) (hi : it c i z = some y) (hj : it c j z = some y) : onC c y := by
  refine ⟨j - i - 1, ?_⟩
  have h := it_add c i (j - i) z
  rw [show i + (j - i) = j by omega, hj, hi] at h
  rw [show j - i - 1 + 1 = j - i by omega]
  exact h.symm
theorem fin_all {c : Par} {pl : List IdB} (hac : ∀ x, ¬ onC c x) (x : IdB) : FinK (kidsOf c pl) (pl.length + 1) x := by
  refine Classical.byContradiction fun h => ?_
  obtain ⟨z, _, hall⟩ := not_fin (pl.length + 1) x h
  have key : ∀ i, i < pl.length + 1 → ((it c i z).getD z32) ∈ pl ∧ it c i z = some ((it c i z).getD z32) := fun i hi => by
    obtain ⟨y, hy, hp⟩ := hall i hi
    rw [hy]
    exact ⟨hp, rfl⟩
  have hnd : ((List.range (pl.length + 1)).map fun i => (it c i z).getD z32).Nodup := by
    rw [List.nodup_iff_pairwise_ne, List.pairwise_map, List.pairwise_iff_getElem]
    intro i j hi hj hij e
    simp only [List.length_range] at hi hj
    simp only [List.getElem_range] at e
    have h1 := (key i hi).2
    have h2 := (key j hj).2
    rw [← e] at h2
    exact hac _ (it_cyc hij h1 h2)
  have hlen := nodup_len _ pl hnd (fun y hy => by
    obtain ⟨i, hi, rfl⟩ := List.mem_map.1 hy
    exact (key i (List.mem_range.1 hi)).1)
  rw [List.length_map, List.length_range] at hlen
  omega

/-! ### the identities of a list of nodes -/
def descL (ch : Kid) : Nat → IdB → List IdB
  | 0, _ => []
  | n + 1, x => x :: (ch x).flatMap (descL ch n)
theorem fold_ids {f : List NodeV → IdB → List NodeV} {g : IdB → List IdB} (h : ∀ o y, (f o y).map (·.id) = o.map (·.id) ++ g y) : ∀ (M : List IdB) (o : List NodeV), (M.foldl f o).map (·.id) = o.map (·.id) ++ M.flatMap g
  | [], o => by simp
  | y :: M, o => by
    rw [List.foldl_cons, fold_ids h M, h, List.flatMap_cons, List.append_assoc]
theorem visL_ids (ch : Kid) (row : IdB → Int) : ∀ (n : Nat) (out : List NodeV) (x : IdB) (p d : Int), (visL ch row n out x p d).map (·.id) = out.map (·.id) ++ descL ch n x
  | 0, out, _, _, _ => by simp [visL, descL]
  | n + 1, out, x, p, d => by
    unfold visL descL
    rw [fold_ids (g := descL ch n) (fun o y => visL_ids ch row n o y _ _), List.map_append]
    simp
theorem desc_reach {c : Par} {pl : List IdB} : ∀ {n : Nat} {x y : IdB}, y ∈ descL (kidsOf c pl) n x → Reach c y x
  | 0, _, _, h => by cases h
  | n + 1, x, y, h => by
    unfold descL at h
    rcases List.mem_cons.1 h with rfl | h
    · exact Reach.refl c _
    · obtain ⟨z, hz, hy⟩ := List.mem_flatMap.1 h
      exact (desc_reach hy).trans (Reach.step (mem_kidsOf.1 hz).2)
/-- From one place two ways up: one of them is a part of the other. -/
theorem reach_two {c : Par} {y a b : IdB} (ha : Reach c y a) (hb : Reach c y b) : Reach c a b ∨ Reach c b a := by
  obtain ⟨n, hn⟩ := ha
  obtain ⟨m, hm⟩ := hb
  rcases Nat.le_total n m with h | h
  · left
    have h1 := it_add c n (m - n) y
    rw [show n + (m - n) = m by omega, hm, hn] at h1
    exact ⟨m - n, h1.symm⟩
  · right
    have h1 := it_add c m (n - m) y
    rw [show m + (n - m) = n by omega, hn, hm] at h1
    exact ⟨n - m, h1.symm⟩
theorem flat_nodup {c : Par} {pl : List IdB} {M : List IdB} (g : IdB → List IdB) (hM : M.Nodup) (hg : ∀ x ∈ M, (g x).Nodup) (hd : ∀ x ∈ M, ∀ y ∈ M, x ≠ y → ∀ z, z ∈ g x → z ∉ g y) : (M.flatMap g).Nodup := by
  induction M with
  | nil => simp
  | cons x M ih =>
    rw [List.nodup_cons] at hM
    rw [List.flatMap_cons, List.nodup_append]
    refine ⟨hg x (List.mem_cons_self ..), ih hM.2 (fun y hy => hg y (List.mem_cons_of_mem _ hy)) (fun a ha b hb => hd a (List.mem_cons_of_mem _ ha) b (List.mem_cons_of_mem _ hb)), fun a ha b hb e => ?_⟩
    subst e
    obtain ⟨y, hy, hb⟩ := List.mem_flatMap.1 hb
    exact hd x (List.mem_cons_self ..) y (List.mem_cons_of_mem _ hy) (fun e => hM.1 (e ▸ hy)) a ha hb
theorem desc_nodup {c : Par} {pl : List IdB} (hac : ∀ x, ¬ onC c x) (hpl : pl.Nodup) : ∀ (n : Nat) (x : IdB), (descL (kidsOf c pl) n x).Nodup
  | 0, _ => List.nodup_nil
  | n + 1, x => by
    unfold descL
    rw [List.nodup_cons]
    refine ⟨fun h => ?_, flat_nodup (c := c) (pl := pl) _ (hpl.sublist List.filter_sublist) (fun y _ => desc_nodup hac hpl n y) (fun a ha b hb hab z hza hzb => ?_)⟩
    · obtain ⟨z, hz, hx⟩ := List.mem_flatMap.1 h
      exact hac z (onC_iff.2 ⟨x, (mem_kidsOf.1 hz).2, desc_reach hx⟩)
    · have hca := (mem_kidsOf.1 ha).2
      have hcb := (mem_kidsOf.1 hb).2
      rcases reach_two (desc_reach hza) (desc_reach hzb) with h | h
      · rcases h.head with e | ⟨u, hu, hr⟩
        · exact hab e
        · rw [hca] at hu
          cases hu
          exact hac b (onC_iff.2 ⟨x, hcb, hr⟩)
      · rcases h.head with e | ⟨u, hu, hr⟩
        · exact hab e.symm
        · rw [hcb] at hu
          cases hu
          exact hac a (onC_iff.2 ⟨x, hca, hr⟩)
theorem desc_pl {c : Par} {pl : List IdB} : ∀ {n : Nat} {x y : IdB}, x ∈ pl → y ∈ descL (kidsOf c pl) n x → y ∈ pl
  | 0, _, _, _, h => by cases h
  | n + 1, x, y, hx, h => by
    unfold descL at h
    rcases List.mem_cons.1 h with rfl | h
    · exact hx
    · obtain ⟨z, hz, hy⟩ := List.mem_flatMap.1 h
      exact desc_pl (mem_kidsOf.1 hz).1 hy
/-- All nodes of the forest. -/
def allL (c : Par) (pl : List IdB) (n : Nat) : List IdB := (rootsOf c pl).flatMap (descL (kidsOf c pl) n)
theorem all_nodup {c : Par} {pl : List IdB} (hac : ∀ x, ¬ onC c x) (hpl : pl.Nodup) (n : Nat) : (allL c pl n).Nodup := by
  refine flat_nodup (c := c) (pl := pl) _ (hpl.sublist List.filter_sublist) (fun y _ => desc_nodup hac hpl n y) (fun a ha b hb hab z hza hzb => ?_)
  have hca := (mem_rootsOf.1 ha).2
  have hcb := (mem_rootsOf.1 hb).2
  rcases reach_two (desc_reach hza) (desc_reach hzb) with h | h
  · rcases h.head with e | ⟨u, hu, _⟩
    · exact hab e
    · rw [hca] at hu; cases hu
  · rcases h.head with e | ⟨u, hu, _⟩
    · exact hab e.symm
    · rw [hcb] at hu; cases hu
theorem all_pl {c : Par} {pl : List IdB} {n : Nat} {y : IdB} (h : y ∈ allL c pl n) : y ∈ pl := by
  obtain ⟨x, hx, hy⟩ := List.mem_flatMap.1 h
  exact desc_pl (mem_rootsOf.1 hx).1 hy
theorem all_len {c : Par} {pl : List IdB} (hac : ∀ x, ¬ onC c x) (hpl : pl.Nodup) (n : Nat) : (allL c pl n).length ≤ pl.length := nodup_len _ _ (all_nodup hac hpl n) (fun _ h => all_pl h)
/-- The forest: nodes in order, what is below each behind it. -/
def forL (c : Par) (pl : List IdB) (row : IdB → Int) (n : Nat) : List NodeV := (rootsOf c pl).foldl (fun o x => visL (kidsOf c pl) row n o x (-1) 0) []
theorem forL_ids (c : Par) (pl : List IdB) (row : IdB → Int) (n : Nat) : (forL c pl row n).map (·.id) = allL c pl n := by
  unfold forL allL
  rw [fold_ids (g := descL (kidsOf c pl) n) (fun o y => visL_ids _ row n o y _ _)]
  rfl
theorem forL_len {c : Par} {pl : List IdB} (hac : ∀ x, ¬ onC c x) (hpl : pl.Nodup) (row : IdB → Int) (n : Nat) : (forL c pl row n).length ≤ pl.length := by
  have h := congrArg List.length (forL_ids c pl row n)
  rw [List.length_map] at h
  rw [h]
  exact all_len hac hpl n
theorem place_len (A : IdB → Bool) (c : Par) : ∀ (S : List Tw) (st : PS), (S.foldl (plStep A c) st).pl.length ≤ st.pl.length + 2 * S.length
  | [], st => Nat.le_refl _
  | r :: S, st => by
    rw [List.foldl_cons]
    refine Nat.le_trans (place_len A c S _) ?_
    have : (plStep A c st r).pl.length ≤ st.pl.length + 2 := by
      unfold plStep
      split
      · split <;> simp
      · simp
    rw [List.length_cons]
    omega
end Go.Proofs.Ythfinofmbnfijaa
