/- Parents in the forest; the first child follows. -/
import Derived.Test.YthfinofmbnfijaaTp10
namespace Go.Proofs.Ythfinofmbnfijaa
set_option linter.unusedVariables false
set_option linter.unusedSimpArgs false

/-- Each node's parent stands before it, and is what c says. -/
def OkF (c : Par) (F : List NodeV) : Prop := ∀ (j : Nat) (n : NodeV), F[j]? = some n → (n.parent = -1 ∧ c n.id = none) ∨ ∃ (q : Nat) (m : NodeV), q < j ∧ F[q]? = some m ∧ n.parent = (q : Int) ∧ c n.id = some m.id
theorem OkF.snoc {c : Par} {F : List NodeV} (h : OkF c F) {n : NodeV} (hn : (n.parent = -1 ∧ c n.id = none) ∨ ∃ (q : Nat) (m : NodeV), F[q]? = some m ∧ n.parent = (q : Int) ∧ c n.id = some m.id) : OkF c (F ++ [n]) := by
  intro j n' hj
  by_cases hjl : j < F.length
  · rw [List.getElem?_append_left hjl] at hj
    rcases h j n' hj with h1 | ⟨q, m, h1, h2, h3⟩
    · exact .inl h1
    · exact .inr ⟨q, m, h1, by rw [List.getElem?_append_left (by omega)]; exact h2, h3⟩
  · rw [List.getElem?_append_right (by omega)] at hj
    obtain rfl : j = F.length := by
      by_cases e : j = F.length
      · exact e
      · rw [List.getElem?_eq_none (by simp; omega)] at hj
        cases hj
    rw [Nat.sub_self] at hj
    obtain rfl : n = n' := Option.some.inj hj
    rcases hn with h1 | ⟨q, m, h2, h3⟩
    · exact .inl h1
    · have hq : q < F.length := (List.getElem?_eq_some_iff.1 h2).1
      exact .inr ⟨q, m, hq, by rw [List.getElem?_append_left hq]; exact h2, h3⟩
theorem pre_get {A B : List NodeV} (h : A <+: B) {j : Nat} {n : NodeV} (hj : A[j]? = some n) : B[j]? = some n := by
  obtain ⟨s, rfl⟩ := h
  rw [List.getElem?_append_left (List.getElem?_eq_some_iff.1 hj).1]
  exact hj
theorem vis_ok {c : Par} {pl : List IdB} (row : IdB → Int) : ∀ (n : Nat) (out : List NodeV) (x : IdB) (p d : Int), OkF c out → ((p = -1 ∧ c x = none) ∨ ∃ (q : Nat) (m : NodeV), out[q]? = some m ∧ p = (q : Int) ∧ c x = some m.id) → OkF c (visL (kidsOf c pl) row n out x p d)
  | 0, _, _, _, _, h, _ => h
  | n + 1, out, x, p, d, h, hp => by
    have h1 : OkF c (out ++ [⟨x, row x, p, d⟩]) := h.snoc hp
    have hfold : ∀ (M : List IdB) (o : List NodeV), (∀ y ∈ M, c y = some x) → (out ++ [⟨x, row x, p, d⟩]) <+: o → OkF c o → OkF c (M.foldl (fun o y => visL (kidsOf c pl) row n o y out.length (d + 1)) o) := by
      intro M
      induction M with
      | nil => intro o _ _ h2; exact h2
      | cons y M ih =>
        intro o hM hpre h2
        rw [List.foldl_cons]
        have hk : o[out.length]? = some (⟨x, row x, p, d⟩ : NodeV) := pre_get hpre (by rw [List.getElem?_append_right (Nat.le_refl _), Nat.sub_self]; rfl)
        exact ih _ (fun z hz => hM z (List.mem_cons_of_mem _ hz)) (hpre.trans (visL_pre _ row n o y _ _)) (vis_ok row n o y _ _ h2 (.inr ⟨out.length, _, hk, rfl, hM y (List.mem_cons_self ..)⟩))
    exact hfold _ _ (fun y hy => (mem_kidsOf.1 hy).2) (List.prefix_refl _) h1
theorem for_ok (c : Par) (pl : List IdB) (row : IdB → Int) (n : Nat) : OkF c (forL c pl row n) := by
  have hfold : ∀ (M : List IdB) (o : List NodeV), (∀ y ∈ M, c y = none) → OkF c o → OkF c (M.foldl (fun o x => visL (kidsOf c pl) row n o x (-1) 0) o) := by
    intro M
    induction M with
    | nil => intro o _ h; exact h
    | cons y M ih =>
      intro o hM h
      rw [List.foldl_cons]
      exact ih _ (fun z hz => hM z (List.mem_cons_of_mem _ hz)) (vis_ok row n o y (-1) 0 h (.inl ⟨rfl, hM y (List.mem_cons_self ..)⟩))
  exact hfold _ _ (fun y hy => (mem_rootsOf.1 hy).2) (fun j n hj => by cases hj)
/-- The node at j has a child at once behind it, if it has any. -/
def FirstAt (ch : Kid) (F : List NodeV) (j : Nat) : Prop := ∀ n, F[j]? = some n → ch n.id ≠ [] → ∃ m, F[j + 1]? = some m ∧ m.parent = (j : Int)
theorem FirstAt.pre {ch : Kid} {A B : List NodeV} (h : A <+: B) {j : Nat} (hj : j < A.length) (k : FirstAt ch A j) : FirstAt ch B j := fun n hn hne => by
  obtain ⟨n', hn'⟩ : ∃ n', A[j]? = some n' := ⟨_, List.getElem?_eq_getElem hj⟩
  have e := pre_get h hn'
  rw [hn] at e
  cases e
  obtain ⟨m, h1, h2⟩ := k n hn' hne
  exact ⟨m, pre_get h h1, h2⟩
theorem vis_first {ch : Kid} (row : IdB → Int) : ∀ (n : Nat) (out : List NodeV) (x : IdB) (p d : Int), FinK ch n x → (∃ s, visL ch row n out x p d = out ++ ⟨x, row x, p, d⟩ :: s) ∧ ∀ j, out.length ≤ j → FirstAt ch (visL ch row n out x p d) j
  | 0, _, _, _, _, h => h.elim
  | n + 1, out, x, p, d, hfin => by
    have hpre : ∀ (M : List IdB) (o : List NodeV), o <+: M.foldl (fun o y => visL ch row n o y out.length (d + 1)) o := by
      intro M
      induction M with
      | nil => intro o; exact List.prefix_refl _
      | cons y M ih => intro o; rw [List.foldl_cons]; exact (visL_pre ch row n o y _ _).trans (ih _)
    have hfold : ∀ (M : List IdB) (o : List NodeV) (a : Nat), (∀ y ∈ M, FinK ch n y) → (∀ j, a ≤ j → j < o.length → FirstAt ch o j) → ∀ j, a ≤ j → j < (M.foldl (fun o y => visL ch row n o y out.length (d + 1)) o).length → o.length ≤ j ∨ a ≤ j → FirstAt ch (M.foldl (fun o y => visL ch row n o y out.length (d + 1)) o) j := by
      intro M
      induction M with
      | nil => intro o a _ h j h1 h2 _; exact h j h1 h2
      | cons y M ih =>
        intro o a hM h j h1 h2 _
        rw [List.foldl_cons] at h2 ⊢
        refine ih _ a (fun z hz => hM z (List.mem_cons_of_mem _ hz)) (fun i hi1 hi2 => ?_) j h1 h2 (.inr h1)
        by_cases hio : i < o.length
        · exact (h i hi1 hio).pre (visL_pre ch row n o y _ _) hio
        · exact (vis_first row n o y _ _ (hM y (List.mem_cons_self ..))).2 i (by omega)
    have hv : visL ch row (n + 1) out x p d = (ch x).foldl (fun o y => visL ch row n o y out.length (d + 1)) (out ++ [⟨x, row x, p, d⟩]) := rfl
    refine ⟨?_, fun j hj => ?_⟩
    · obtain ⟨s, hs⟩ := hpre (ch x) (out ++ [⟨x, row x, p, d⟩])
      exact ⟨s, by rw [hv, ← hs, List.append_assoc]; rfl⟩
    · by_cases hjl : j < (visL ch row (n + 1) out x p d).length
      · by_cases hjk : j = out.length
        · subst hjk
          intro m hm hne
          have hx : (visL ch row (n + 1) out x p d)[out.length]? = some (⟨x, row x, p, d⟩ : NodeV) := by
            rw [hv]
            exact pre_get (hpre _ _) (by rw [List.getElem?_append_right (Nat.le_refl _), Nat.sub_self]; rfl)
          rw [hx] at hm
          obtain rfl := Option.some.inj hm
          dsimp only at hne
          cases hch : ch x with
          | nil => exact absurd hch hne
          | cons y M =>
            obtain ⟨s, hs⟩ := (vis_first row n (out ++ [⟨x, row x, p, d⟩]) y out.length (d + 1) (hfin y (by rw [hch]; exact List.mem_cons_self ..))).1
            refine ⟨⟨y, row y, out.length, d + 1⟩, ?_, rfl⟩
            rw [hv, hch, List.foldl_cons]
            refine pre_get (hpre M _) ?_
            rw [hs, List.getElem?_append_right (by simp)]
            simp
        · rw [hv] at hjl ⊢
          exact hfold (ch x) _ (out.length + 1) hfin (fun i h1 h2 => by simp at h2; omega) j (by omega) hjl (.inr (by omega))
      · intro m hm
        rw [List.getElem?_eq_none (by omega)] at hm
        cases hm
theorem for_first {c : Par} {pl : List IdB} (hac : ∀ x, ¬ onC c x) (row : IdB → Int) (j : Nat) : FirstAt (kidsOf c pl) (forL c pl row (pl.length + 1)) j := by
  have hfold : ∀ (M : List IdB) (o : List NodeV), (∀ i, i < o.length → FirstAt (kidsOf c pl) o i) → ∀ i, i < (M.foldl (fun o x => visL (kidsOf c pl) row (pl.length + 1) o x (-1) 0) o).length → FirstAt (kidsOf c pl) (M.foldl (fun o x => visL (kidsOf c pl) row (pl.length + 1) o x (-1) 0) o) i := by
    intro M
    induction M with
    | nil => intro o h; exact h
    | cons y M ih =>
      intro o h
      rw [List.foldl_cons]
      refine ih _ fun i hi => ?_
      by_cases hio : i < o.length
      · exact (h i hio).pre (visL_pre _ row _ o y _ _) hio
      · exact (vis_first row _ o y _ _ (fin_all hac y)).2 i (by omega)
  by_cases hj : j < (forL c pl row (pl.length + 1)).length
  · exact hfold _ [] (fun i hi => absurd hi (Nat.not_lt_zero i)) j hj
  · intro m hm
    rw [List.getElem?_eq_none (by omega)] at hm
    cases hm
end Go.Proofs.Ythfinofmbnfijaa
