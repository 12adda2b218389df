/- Cutting lists of rows. -/
import Derived.Test.YthfinofmbnfijaaTs3
namespace Go.Proofs.Ythfinofmbnfijaa
open Go.RowKit
set_option linter.unusedVariables false
set_option linter.unusedSimpArgs false

theorem cut_R (a : Option Addr) (n c m : Nat) (hm : m ≤ c) (hz : a = none → c = 0) (w : World) :
    (Instr.sliceAt 23 (.slice a n c) none (some (.int .i64 (m : Int))) none).run Try.prog w = .ok (.slice a m c) w := by
  cases a with
  | none =>
    obtain rfl := hz rfl
    obtain rfl : m = 0 := by omega
    have h0 : ∀ w, (Instr.sliceAt 23 (.slice none n 0) none (some (.int .i64 0)) none).run Try.prog w = .ok (.slice none 0 0) w := fun w => by go_simp
    exact h0 w
  | some ad =>
    have h1 : (m : Int) ≤ (c : Int) := by omega
    go_simp
theorem from_R {w0 : World} {a : Option Addr} {n c k : Nat} {L : List RowV} (h : ListAt rowE w0 (.slice a n c) L) (hk : k ≤ n) :
    ∃ v, (∀ w, (Instr.sliceAt 23 (.slice a n c) (some (.int .i64 (k : Int))) none none).run Try.prog w = .ok v w) ∧ ListAt rowE w0 v (L.drop k) := by
  obtain ⟨hn, hc, hm, hz⟩ := h.len
  cases a with
  | none =>
    obtain rfl := hz rfl
    obtain rfl : n = 0 := by omega
    obtain rfl : k = 0 := by omega
    refine ⟨.slice none 0 0, fun w => ?_, by simpa using h⟩
    have h0 : ∀ w, (Instr.sliceAt 23 (.slice none 0 0) (some (.int .i64 0)) none none).run Try.prog w = .ok (.slice none 0 0) w := fun w => by go_simp
    exact h0 w
  | some ad =>
    have h1 : (k : Int) ≤ (n : Int) := by omega
    have h2 : (n : Int) ≤ (c : Int) := by omega
    have hnil : ∀ (x : Addr) (cc : Nat), cc ≤ maxLen → ListAt rowE w0 (.slice (some x) 0 cc) [] := fun x cc hcc => ⟨_, _, rfl, Nat.zero_le _, hcc, (fun e => by cases e), fun e => absurd rfl e⟩
    by_cases he : c = k
    · subst he
      obtain rfl : n = c := by omega
      refine ⟨.slice (some ad) 0 0, fun w => by clear hn h hnil hm hz; go_simp, ?_⟩
      rw [List.drop_of_length_le (by omega)]
      exact hnil _ _ (Nat.zero_le _)
    · refine ⟨.slice (some (ad.add (k * 83))) (n - k) (c - k), fun w => by clear hn h hnil hm hz; go_simp, ?_⟩
      by_cases hL : L = []
      · subst hL
        obtain rfl : n = 0 := hn
        obtain rfl : k = 0 := by omega
        exact hnil _ _ (by omega)
      · obtain ⟨a', cap', e, h3, h4, h5, h6⟩ := h.ex
        cases e
        obtain ⟨g, off, e, hg, hr⟩ := h6 hL
        cases e
        have := h.drop hk
        rw [Addr.add_mid]
        exact this
end Go.Proofs.Ythfinofmbnfijaa
