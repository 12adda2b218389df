/- Identities in order, plainly. -/
import Derived.Test.YtjjanjhoaiannaaIdv
import Derived.Shelf.SlSortCmp.NoneTotal
import Derived.Lib.BytesEntry
namespace Go.Proofs.Ytjjanjhoaiannaa
open Go.Shelf Go.RowKit Go.Lib Go.Sort
set_option linter.unusedVariables false
set_option linter.unusedSimpArgs false

theorem cb_self : ∀ a : List UInt8, compareBytes a a = 0
  | [] => rfl
  | a :: xs => by simp [compareBytes, UInt8.lt_irrefl, cb_self xs]
theorem cb_eq : ∀ {a b : List UInt8}, compareBytes a b = 0 → a = b
  | [], [], _ => rfl
  | [], _ :: _, h => by simp [compareBytes] at h
  | _ :: _, [], h => by simp [compareBytes] at h
  | a :: xs, b :: bs, h => by
    unfold compareBytes at h
    split at h
    · simp at h
    · split at h
      · simp at h
      · rename_i h1 h2
        rw [UInt8.le_antisymm (UInt8.not_lt.1 h2) (UInt8.not_lt.1 h1), cb_eq h]
theorem cb_swap : ∀ a b : List UInt8, compareBytes b a = - compareBytes a b
  | [], [] => rfl
  | [], _ :: _ => rfl
  | _ :: _, [] => rfl
  | a :: xs, b :: bs => by
    unfold compareBytes
    by_cases h1 : a < b
    · have h2 : ¬ b < a := fun h => UInt8.lt_irrefl a (UInt8.lt_trans h1 h)
      simp [h1, h2]
    · by_cases h2 : b < a
      · simp [h1, h2]
      · simp [h1, h2, cb_swap xs bs]
theorem cb_trans : ∀ {a b c : List UInt8}, compareBytes a b < 0 → compareBytes b c < 0 → compareBytes a c < 0
  | [], [], _, h, _ => by simp [compareBytes] at h
  | [], _ :: _, [], _, h => by simp [compareBytes] at h
  | [], _ :: _, _ :: _, _, _ => by simp [compareBytes]
  | _ :: _, [], _, h, _ => by simp [compareBytes] at h
  | _ :: _, _ :: _, [], _, h => by simp [compareBytes] at h
  | a :: xs, b :: bs, c :: cs, h1, h2 => by
    have ih := @cb_trans xs bs cs
    unfold compareBytes at h1 h2 ⊢
    by_cases hab : a < b
    · by_cases hbc : b < c
      · rw [if_pos (UInt8.lt_trans hab hbc)]; decide
      · rw [if_neg hbc] at h2
        by_cases hcb : c < b
        · rw [if_pos hcb] at h2; simp at h2
        · have : b = c := UInt8.le_antisymm (UInt8.not_lt.1 hcb) (UInt8.not_lt.1 hbc)
          subst this
          rw [if_pos hab]; decide
    · rw [if_neg hab] at h1
      by_cases hba : b < a
      · rw [if_pos hba] at h1; simp at h1
      · have : a = b := UInt8.le_antisymm (UInt8.not_lt.1 hba) (UInt8.not_lt.1 hab)
        subst this
        rw [if_neg (UInt8.lt_irrefl a)] at h1
        by_cases hbc : a < c
        · rw [if_pos hbc]; decide
        · rw [if_neg hbc] at h2 ⊢
          by_cases hcb : c < a
          · rw [if_pos hcb] at h2; simp at h2
          · rw [if_neg hcb] at h2 ⊢
            exact ih h1 h2

def cmpB (a b : IdB) : Int := compareBytes a.1 b.1
theorem swoB : SWO (ltOf cmpB) where
  irrefl x := by unfold ltOf cmpB; rw [cb_self]; rfl
  trans x y z h1 h2 := by
    unfold ltOf cmpB at *
    simp only [decide_eq_true_eq] at *
    exact cb_trans h1 h2
  ntrans x y z h1 h2 := by
    unfold ltOf cmpB at *
    simp only [decide_eq_false_iff_not] at *
    intro h3
    have hyx := cb_swap x.1 y.1
    have hzy := cb_swap y.1 z.1
    by_cases e1 : compareBytes x.1 y.1 = 0
    · rw [cb_eq e1] at h3; exact h2 h3
    · by_cases e2 : compareBytes y.1 z.1 = 0
      · rw [← cb_eq e2] at h3; exact h1 h3
      · exact h2 (by
          have := cb_trans (a := y.1) (b := x.1) (c := z.1) (by omega) h3
          omega)
theorem cmpB_total (x y : IdB) (h1 : ltOf cmpB x y = false) (h2 : ltOf cmpB y x = false) : x = y := by
  unfold ltOf cmpB at *
  simp only [decide_eq_false_iff_not] at *
  have := cb_swap x.1 y.1
  exact Subtype.ext (cb_eq (by omega))

end Go.Proofs.Ytjjanjhoaiannaa
