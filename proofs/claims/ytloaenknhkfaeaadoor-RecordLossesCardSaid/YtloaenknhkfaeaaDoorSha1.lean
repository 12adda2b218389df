/- sha256: rotate, plus, round. -/
import Derived.Test.YtloaenknhkfaeaaDoorProg
import Derived.Test.YtloaenknhkfaeaaDoorU32
import Derived.Test.YtloaenknhkfaeaaDoorGen
namespace Go.Proofs.YtloaenknhkfaeaaDoor
open Go.RowKit
set_option linter.unusedVariables false
set_option linter.unusedSimpArgs false

theorem rot_amount (n : Nat) (h1 : 0 < n) (h2 : n < 32) : bits .and .u64 (IntKind.u64.wrap (-(n : Int))) 31 = ((32 - n : Nat) : Int) := by
  have : ∀ n : Nat, n < 32 → 0 < n → bits .and .u64 (IntKind.u64.wrap (-(n : Int))) 31 = ((32 - n : Nat) : Int) := by decide
  exact this n h2 h1

set_option maxHeartbeats 1000000 in
theorem RotateLeft32_any (x : UInt32) (n : Nat) (h1 : 0 < n) (h2 : n < 32) (w : World) :
    Calls Tryd.prog 73 #[wv x, .int .i64 (-(n : Int))] w fun e w' => e = .returned (wv (rotr x n)) ∧ w = w' := by
  have hr := rot_amount n h1 h2
  unfold wv
  go_enter Tryd.func73, Tryd.ntmps73
  go_wp2
  go_ret
  refine ⟨?_, rfl⟩
  have e : 32 - (32 - n) = n := by omega
  rw [e]
  show Ending.returned (.int .u32 _) = _
  rw [rotr_int x n h1 h2]

set_option maxHeartbeats 1000000 in
theorem rotate_any (x : UInt32) (n : Nat) (h1 : 0 < n) (h2 : n < 32) (w : World) :
    Calls Tryd.prog 70 #[wv x, .int .i64 (n : Int)] w fun e w' => e = .returned (wv (rotr x n)) ∧ w = w' := by
  unfold wv
  go_enter Tryd.func70, Tryd.ntmps70
  go_wp2_with fail
  refine (RotateLeft32_any x n h1 h2 w).mono ?_
  rintro e w' ⟨rfl, rfl⟩
  unfold wv
  go_wp2_with fail
  go_ret
  exact ⟨rfl, rfl⟩

theorem rot_q (x : UInt32) (k : Int) (h1 : 0 < k) (h2 : k < 32) (w : World) :
    Calls Tryd.prog 70 #[.int .u32 (wN x), .int .i64 k] w fun e w' => e = .returned (.int .u32 (wN (rotr x k.toNat))) ∧ w' = w := by
  obtain ⟨n, rfl⟩ := Int.eq_ofNat_of_zero_le (show 0 ≤ k by omega)
  exact (rotate_any x n (by omega) (by omega) w).mono fun _ _ h => ⟨h.1, h.2.symm⟩

set_option maxRecDepth 100000 in
set_option maxHeartbeats 400000 in
theorem plus_any (x y : W8) (w : World) : Calls Tryd.prog 72 #[x.val, y.val] w fun e w' => e = .returned (x.plus y).val ∧ Below w.heap.size w w' := by
  have hadd := n_add
  unfold W8.val W8.cells wv
  go_enter Tryd.func72, Tryd.ntmps72
  go_wp2
  exact bodyPost_ret (v := .agg #[.int .u32 (wN (x.a + y.a)), .int .u32 (wN (x.b + y.b)), .int .u32 (wN (x.c + y.c)), .int .u32 (wN (x.d + y.d)), .int .u32 (wN (x.e + y.e)), .int .u32 (wN (x.f + y.f)), .int .u32 (wN (x.g + y.g)), .int .u32 (wN (x.i + y.i))])
    (by simp [results, Tryd.results72, go_sem]) rfl ⟨rfl, (((Below.refl _ w).alloc (Nat.le_refl _) _).alloc (by simp) _).alloc (by simp; omega) _⟩

theorem W8.size_cells (v : W8) : v.cells.toArray.size = 8 := rfl
theorem sizeWords : (Tryd.prog.info? 122).map (·.size) = some 8 := by kernel_rfl

set_option maxRecDepth 100000 in
set_option maxHeartbeats 1000000 in
theorem round_any (v : W8) (k x : UInt32) (w : World) : Calls Tryd.prog 71 #[v.val, wv k, wv x] w fun e w' => e = .returned (v.round k x).val ∧ Below w.heap.size w w' := by
  have hadd := n_add
  have hx := n_xor
  have ha := n_and
  have hn := n_not1
  unfold W8.val W8.cells wv
  go_enter Tryd.func71, Tryd.ntmps71
  go_wp2
  go_quiet ((go_at_call 70; (with_reducible exact Calls.quiet_of_same (rot_q _ _ (by decide) (by decide) _))))
  go_wp2
  go_quiet ((go_at_call 70; (with_reducible exact quiet_add_same (rot_q _ _ (by decide) (by decide) _))))
  go_wp2
  refine bodyPost_ret (v := (v.round k x).val) ?h1 rfl ?h2
  case h1 => simp [results, Tryd.results71, go_sem, W8.val, W8.cells, W8.round, W8.t, W8.u, bs0, bs1, wv]
  case h2 =>
    refine ⟨rfl, ?_⟩
    iterate 8 refine Below.setCell ?_ (by simp) _
    exact below_drewN (((Below.refl _ w).alloc (Nat.le_refl _) _).alloc (by simp) _) _

end Go.Proofs.YtloaenknhkfaeaaDoor
