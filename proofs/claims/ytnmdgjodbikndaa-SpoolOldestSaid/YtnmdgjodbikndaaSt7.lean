/- The stable sort, plainly: the insertion sort of tagged entries; what is sorted by arrival and tag is the stable order. -/
import Derived.Test.YtnmdgjodbikndaaSt6
namespace Go.Proofs.Ytnmdgjodbikndaa
open Go.RowKit Go.Sort
set_option linter.unusedVariables false
set_option linter.unusedSimpArgs false

theorem swoT : SWO (ltOf cfT) where
  irrefl x := by
    rw [Bool.eq_false_iff]; intro h
    have := (cfT_neg x x).1 (of_decide_eq_true h)
    omega
  trans x y z h1 h2 := by
    have a := (cfT_neg x y).1 (of_decide_eq_true h1)
    have b := (cfT_neg y z).1 (of_decide_eq_true h2)
    exact decide_eq_true ((cfT_neg x z).2 (by omega))
  ntrans x y z h1 h2 := by
    have a : ¬ x.1.arr < y.1.arr := fun h => (Bool.eq_false_iff.1 h1) (decide_eq_true ((cfT_neg x y).2 h))
    have b : ¬ y.1.arr < z.1.arr := fun h => (Bool.eq_false_iff.1 h2) (decide_eq_true ((cfT_neg y z).2 h))
    rw [Bool.eq_false_iff]; intro h
    have := (cfT_neg x z).1 (of_decide_eq_true h)
    omega
theorem lt_iff (x y : TA) : ltOf cfT x y = true ↔ x.1.arr < y.1.arr := by
  unfold ltOf
  rw [decide_eq_true_eq]
  exact cfT_neg x y
theorem insSrt_in (a i : Nat) : ∀ (j : Nat) (d : Array TA), a ≤ j → j ≤ i → i + 1 ≤ d.size → (∀ p q, a ≤ p → p < q → q ≤ i → p ≠ j → q ≠ j → TT d[p]! d[q]!) → (∀ q, j < q → q ≤ i → TT d[j]! d[q]!) → (∀ p, a ≤ p → p < j → d[p]!.2 < d[j]!.2) →
    PermIn a (i + 1) d (insInner (ltOf cfT) a j d) ∧ Srt (insInner (ltOf cfT) a j d) a (i + 1)
  | 0, d, haj, hji, hb, A, R, T => by
    unfold insInner
    refine ⟨permIn_refl _ _ _, fun p q h1 h2 h3 => ?_⟩
    by_cases hp : p = 0
    · subst hp; exact R q h2 (by omega)
    · exact A p q h1 h2 (by omega) hp (by omega)
  | j + 1, d, haj, hji, hb, A, R, T => by
    unfold insInner
    split
    · rename_i hc
      simp only [Bool.and_eq_true, decide_eq_true_eq] at hc
      have hl := (lt_iff _ _).1 hc.2
      have g := swp_get d (show j + 1 < d.size by omega) (show j < d.size by omega)
      have ih := insSrt_in a i j (swp d (j + 1) j) (by omega) (by omega) (by rw [swp_size]; exact hb) (fun p q h1 h2 h3 h4 h5 => by
          rw [g, g, if_neg h5, if_neg h4]
          by_cases e1 : q = j + 1
          · rw [if_pos e1, if_neg (by omega)]
            exact A p j h1 (by omega) (by omega) (by omega) (by omega)
          · rw [if_neg e1]
            by_cases e2 : p = j + 1
            · rw [if_pos e2]
              exact A j q (by omega) (by omega) h3 (by omega) e1
            · rw [if_neg e2]
              exact A p q h1 h2 h3 e2 e1) (fun q h1 h2 => by
          rw [g, g, if_pos rfl]
          by_cases e1 : q = j + 1
          · subst e1
            rw [if_neg (by omega), if_pos rfl]
            exact .inl hl
          · rw [if_neg (by omega), if_neg e1]
            exact R q (by omega) h2) (fun p h1 h2 => by
          rw [g, g, if_pos rfl, if_neg (by omega), if_neg (by omega)]
          exact T p h1 (by omega))
      exact ⟨permIn_trans _ _ _ a (i + 1) (swp_permIn d a (i + 1) (j + 1) j haj (by omega) (by omega) (by omega) hb) ih.1, ih.2⟩
    · rename_i hc
      simp only [Bool.and_eq_true, decide_eq_true_eq, not_and] at hc
      refine ⟨permIn_refl _ _ _, ?_⟩
      have hs : ∀ p, a ≤ p → p < j + 1 → TT d[p]! d[j + 1]! := by
        intro p h1 h2
        have h3 : ¬ d[j + 1]!.1.arr < d[j]!.1.arr := fun h => hc (by omega) ((lt_iff _ _).2 h)
        by_cases e : p = j
        · subst e; exact TT.of_le (by omega) (T p h1 h2)
        · have := (A p j h1 (by omega) (by omega) (by omega) (by omega)).le
          exact TT.of_le (by omega) (T p h1 h2)
      intro p q h1 h2 h3
      by_cases e1 : q = j + 1
      · subst e1; exact hs p h1 h2
      · by_cases e2 : p = j + 1
        · subst e2; exact R q h2 (by omega)
        · exact A p q h1 h2 (by omega) e2 e1
theorem insSrt_out (a b : Nat) : ∀ (n i : Nat) (d : Array TA), b - i = n → a < i → i ≤ b → b ≤ d.size → Srt d a i → (∀ p q, a ≤ p → p < q → i ≤ q → q < b → d[p]!.2 < d[q]!.2) → Srt (insOuter (ltOf cfT) a b i d) a b
  | 0, i, d, hn, _, hib, _, hs, _ => by
    obtain rfl : i = b := by omega
    rw [insOuter, if_neg (by omega)]
    exact hs
  | n + 1, i, d, hn, hai, hib, hb, hs, ht => by
    have hlt : i < b := by omega
    rw [insOuter, if_pos hlt]
    have h1 := insSrt_in a i i d (by omega) (Nat.le_refl _) (by omega) (fun p q hap hpq hqi _ hq => hs p q hap hpq (by omega)) (fun q h1 h2 => by omega) (fun p h1 h2 => ht p i h1 h2 (Nat.le_refl _) hlt)
    have hz := h1.1.1
    refine insSrt_out a b n (i + 1) _ (by omega) (by omega) (by omega) (by omega) h1.2 (fun p q h2 h3 h4 h5 => ?_)
    rw [h1.1.2.1 q (.inr h4)]
    by_cases e : i + 1 ≤ p
    · rw [h1.1.2.1 p (.inr e)]
      exact ht p q h2 h3 (by omega) h5
    · exact permIn_all d _ a (i + 1) (fun x => x.2 < d[q]!.2) (by omega) h1.1 (fun k h6 h7 => ht k q h6 (by omega) (by omega) h5) p h2 (by omega)
theorem insSrt (d : Array TA) (a b : Nat) (hab : a ≤ b) (hb : b ≤ d.size) (ht : ∀ p q, a ≤ p → p < q → q < b → d[p]!.2 < d[q]!.2) : Srt (insertionSort (ltOf cfT) d a b) a b := by
  unfold insertionSort
  by_cases h : a = b
  · subst h
    rw [insOuter, if_neg (by omega)]
    exact srt_empty (Nat.le_refl _)
  · exact insSrt_out a b (b - (a + 1)) (a + 1) d rfl (by omega) (by omega) hb (fun i j h1 h2 h3 => by omega) (fun p q h1 h2 _ h3 => ht p q h1 h2 h3)
/-- d holds the entries of M with their places as tags, sorted. -/
theorem stab_of_srt (M : List ArtD) (d0 d : Array TA) (h0 : d0.toList = M.zipIdx) (hp : PermIn 0 d.size d0 d) (hs : Srt d 0 d.size) : d.toList.map (·.1) = stab M := by
  have hz := hp.1
  have hpm : d.toList.Perm M.zipIdx := by
    have h := hp.2.2
    have e1 : d.extract 0 d.size = d := Array.extract_size
    have e2 : d0.extract 0 d.size = d0 := by rw [hz]; exact Array.extract_size
    rw [e1, e2] at h
    rw [← h0]
    exact h
  have hpw : d.toList.Pairwise TT := by
    rw [List.pairwise_iff_getElem]
    intro i j hi hj hij
    have := hs i j (Nat.zero_le _) hij (by simpa using hj)
    simpa [getElem!_pos d i (by simpa using hi), getElem!_pos d j (by simpa using hj)] using this
  unfold stab
  rw [← List.mergeSort_zipIdx]
  congr 1
  have hq : (M.zipIdx.mergeSort (List.zipIdxLE fun a b => decide (a.arr ≤ b.arr))).Pairwise (fun a b => List.zipIdxLE (fun a b => decide (a.arr ≤ b.arr)) a b = true) := List.pairwise_mergeSort (fun a b c => by
    unfold List.zipIdxLE
    simp only [decide_eq_true_eq]
    repeat' split
    all_goals simp_all
    all_goals omega) (fun a b => by
    unfold List.zipIdxLE
    simp only [decide_eq_true_eq, Bool.or_eq_true]
    repeat' split
    all_goals simp_all
    all_goals omega) _
  refine List.Perm.eq_of_pairwise (le := fun a b => List.zipIdxLE (fun a b => decide (a.arr ≤ b.arr)) a b = true) ?_ (hpw.imp fun {a b} h => ?_) hq (hpm.trans (List.mergeSort_perm _ _).symm)
  · intro a b ha hb h1 h2
    have ha' := hpm.mem_iff.1 ha
    have hb' := (List.mergeSort_perm _ _).mem_iff.1 hb
    have e : a.2 = b.2 := by
      unfold List.zipIdxLE at h1 h2
      simp only [decide_eq_true_eq] at h1 h2
      split at h1 <;> split at h2 <;> simp_all <;> omega
    rw [List.mem_zipIdx_iff_getElem?] at ha' hb'
    rw [e, hb'] at ha'
    exact Prod.ext (Option.some.inj ha').symm e
  · unfold TT at h
    unfold List.zipIdxLE
    simp only [decide_eq_true_eq]
    repeat' split
    all_goals simp_all
    all_goals omega
end Go.Proofs.Ytnmdgjodbikndaa
