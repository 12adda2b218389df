/- Records: the checks of labels, both sides. -/
import Derived.Test.YtloaenknhkfaeaaDoorRp2
namespace Go.Proofs.YtloaenknhkfaeaaDoor
open Go.RowKit
set_option linter.unusedVariables false
set_option linter.unusedSimpArgs false

set_option maxHeartbeats 1000000 in
theorem fine_any (k g n : Int) (w : World) :
    Calls Tryd.prog 50 #[.int .i64 k, .int .i64 g, .int .i64 n] w fun e w' => e = .returned (.bool (fineB k g n)) ∧ w = w' := by
  by_cases h1 : 0 ≤ k
  · by_cases h2 : k ≤ 65535
    · by_cases h3 : 0 ≤ g
      · by_cases h4 : g ≤ 2147483647
        · by_cases h5 : 0 ≤ n
          · by_cases h6 : n ≤ 2147483647
            · have hb : fineB k g n = true := by simp [fineB, h1, h2, h3, h4, h5, h6]
              rw [hb]
              clear hb
              go_enter Tryd.func50, Tryd.ntmps50
              go_wp2
              exact bodyPost_ret (v := .bool true) (by simp [results, Tryd.results50, go_sem]) rfl ⟨rfl, rfl⟩
            · have hb : fineB k g n = false := by simp [fineB, h1, h2, h3, h4, h5, h6]
              rw [hb]
              clear hb
              go_enter Tryd.func50, Tryd.ntmps50
              go_wp2
              exact bodyPost_ret (v := .bool false) (by simp [results, Tryd.results50, go_sem]) rfl ⟨rfl, rfl⟩
          · have hb : fineB k g n = false := by simp [fineB, h1, h2, h3, h4, h5]
            rw [hb]
            clear hb
            go_enter Tryd.func50, Tryd.ntmps50
            go_wp2
            exact bodyPost_ret (v := .bool false) (by simp [results, Tryd.results50, go_sem]) rfl ⟨rfl, rfl⟩
        · have hb : fineB k g n = false := by simp [fineB, h1, h2, h3, h4]
          rw [hb]
          clear hb
          go_enter Tryd.func50, Tryd.ntmps50
          go_wp2
          exact bodyPost_ret (v := .bool false) (by simp [results, Tryd.results50, go_sem]) rfl ⟨rfl, rfl⟩
      · have hb : fineB k g n = false := by simp [fineB, h1, h2, h3]
        rw [hb]
        clear hb
        go_enter Tryd.func50, Tryd.ntmps50
        go_wp2
        exact bodyPost_ret (v := .bool false) (by simp [results, Tryd.results50, go_sem]) rfl ⟨rfl, rfl⟩
    · have hb : fineB k g n = false := by simp [fineB, h1, h2]
      rw [hb]
      clear hb
      go_enter Tryd.func50, Tryd.ntmps50
      go_wp2
      exact bodyPost_ret (v := .bool false) (by simp [results, Tryd.results50, go_sem]) rfl ⟨rfl, rfl⟩
  · have hb : fineB k g n = false := by simp [fineB, h1]
    rw [hb]
    clear hb
    go_enter Tryd.func50, Tryd.ntmps50
    go_wp2
    exact bodyPost_ret (v := .bool false) (by simp [results, Tryd.results50, go_sem]) rfl ⟨rfl, rfl⟩

set_option maxHeartbeats 1000000 in
theorem valid_any (k g n : Int) (w : World) :
    Calls Tryd.prog 49 #[.agg #[.int .i64 k, .int .i64 g, .int .i64 n]] w fun e w' => e = .returned (.bool (fineB k g n)) ∧ Below w.heap.size w w' := by
  by_cases h1 : 0 ≤ k
  · by_cases h2 : k ≤ 65535
    · by_cases h3 : 0 ≤ g
      · by_cases h4 : g ≤ 2147483647
        · by_cases h5 : 0 ≤ n
          · by_cases h6 : n ≤ 2147483647
            · have hb : fineB k g n = true := by simp [fineB, h1, h2, h3, h4, h5, h6]
              rw [hb]
              clear hb
              go_enter Tryd.func49, Tryd.ntmps49
              go_wp2
              exact bodyPost_ret (v := .bool true) (by simp [results, Tryd.results49, go_sem]) rfl ⟨rfl, (Below.refl _ w).alloc (Nat.le_refl _) _⟩
            · have hb : fineB k g n = false := by simp [fineB, h1, h2, h3, h4, h5, h6]
              rw [hb]
              clear hb
              go_enter Tryd.func49, Tryd.ntmps49
              go_wp2
              exact bodyPost_ret (v := .bool false) (by simp [results, Tryd.results49, go_sem]) rfl ⟨rfl, (Below.refl _ w).alloc (Nat.le_refl _) _⟩
          · have hb : fineB k g n = false := by simp [fineB, h1, h2, h3, h4, h5]
            rw [hb]
            clear hb
            go_enter Tryd.func49, Tryd.ntmps49
            go_wp2
            exact bodyPost_ret (v := .bool false) (by simp [results, Tryd.results49, go_sem]) rfl ⟨rfl, (Below.refl _ w).alloc (Nat.le_refl _) _⟩
        · have hb : fineB k g n = false := by simp [fineB, h1, h2, h3, h4]
          rw [hb]
          clear hb
          go_enter Tryd.func49, Tryd.ntmps49
          go_wp2
          exact bodyPost_ret (v := .bool false) (by simp [results, Tryd.results49, go_sem]) rfl ⟨rfl, (Below.refl _ w).alloc (Nat.le_refl _) _⟩
      · have hb : fineB k g n = false := by simp [fineB, h1, h2, h3]
        rw [hb]
        clear hb
        go_enter Tryd.func49, Tryd.ntmps49
        go_wp2
        exact bodyPost_ret (v := .bool false) (by simp [results, Tryd.results49, go_sem]) rfl ⟨rfl, (Below.refl _ w).alloc (Nat.le_refl _) _⟩
    · have hb : fineB k g n = false := by simp [fineB, h1, h2]
      rw [hb]
      clear hb
      go_enter Tryd.func49, Tryd.ntmps49
      go_wp2
      exact bodyPost_ret (v := .bool false) (by simp [results, Tryd.results49, go_sem]) rfl ⟨rfl, (Below.refl _ w).alloc (Nat.le_refl _) _⟩
  · have hb : fineB k g n = false := by simp [fineB, h1]
    rw [hb]
    clear hb
    go_enter Tryd.func49, Tryd.ntmps49
    go_wp2
    exact bodyPost_ret (v := .bool false) (by simp [results, Tryd.results49, go_sem]) rfl ⟨rfl, (Below.refl _ w).alloc (Nat.le_refl _) _⟩

set_option maxHeartbeats 1000000 in
theorem place_any (k g n i c : Int) (a : Option Addr) (len cap : Nat) (w : World) :
    Calls Tryd.prog 48 #[.agg #[.int .i64 k, .int .i64 g, .int .i64 n, .int .i64 i, .int .i64 c, .slice a len cap]] w fun e w' => e = .returned (.agg #[.int .i64 k, .int .i64 g, .int .i64 n, .int .i64 i, .int .i64 c]) ∧ Below w.heap.size w w' := by
  go_enter Tryd.func48, Tryd.ntmps48
  go_wp2
  refine bodyPost_ret (v := .agg #[.int .i64 k, .int .i64 g, .int .i64 n, .int .i64 i, .int .i64 c]) (by simp [results, Tryd.results48, go_sem]) rfl ⟨rfl, ?_⟩
  exact ((Below.refl _ w).alloc (Nat.le_refl _) _).alloc (by simp) _

end Go.Proofs.YtloaenknhkfaeaaDoor
