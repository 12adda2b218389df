/- The reference's SHA-256: rotate, the constants, the padding. -/
import Derived.Test.YtloaenknhkfaeaaDoorSha7
import Derived.Deep.Cut
namespace Go.Proofs.YtloaenknhkfaeaaDoor
open Go.RowKit
set_option linter.unusedVariables false
set_option linter.unusedSimpArgs false

set_option maxRecDepth 100000 in
set_option maxHeartbeats 1000000 in
theorem rrot_any (x : UInt32) (n : Nat) (h1 : 0 < n) (h2 : n < 32) (w : World) :
    Calls Tryd.prog 62 #[.int .u32 (wN x), .int .i64 (n : Int)] w fun e w' => e = .returned (.int .u32 (wN (rotr x n))) ∧ ∃ m, w' = w.drewN m := by
  have hb1 : (0 : Int) < (n : Int) := by omega
  have hb2 : (n : Int) < 32 := by omega
  have hw : IntKind.i64.wrap (32 - (n : Int)) = 32 - (n : Int) := IntWalk.i64_in _ (by omega)
  go_enter Tryd.func62, Tryd.ntmps62
  go_wp2_with fail
  go_quiet (fail)
  go_wp2_with fail
  go_ret
  refine ⟨?_, _, rfl⟩
  show Ending.returned (.int .u32 _) = _
  rw [rotr_int' x n h1 h2]

theorem sizeT64 (l : List UInt32) (h : l.length = 64) : (Tryd.prog.info? 112).map (·.size) = some (wvs l).toArray.size := by
  have : (Tryd.prog.info? 112).map (·.size) = some 64 := by kernel_rfl
  rw [this, List.size_toArray, wvs_length, h]
/-- An operation whose run is known. -/
theorem wpList_known {P : Program} {ops : Array Oper} {rest : List Oper} {o : Oper} {a : Act} {w : World} {Q : Exit → Act → World → Prop} (hgd : o.guard = none) (v : Value) (hr : (execOp a.eval o).run P w = .ok (.value v) w)
    (h : wpList P ops Q rest (a.put o.dst v) w) : wpList P ops Q (o :: rest) a w := by
  refine wpList_plain hgd fun _ hK => ?_
  unfold Oper.wp
  rw [hr]
  exact hK _ _ h

set_option maxRecDepth 100000 in
set_option maxHeartbeats 1000000 in
theorem rconst_any (w : World) : Calls Tryd.prog 59 #[] w fun e w' => e = .returned (.agg (wvs kTab).toArray) ∧ Below w.heap.size w w' := by
  go_enter Tryd.func59, Tryd.ntmps59
  go_upto_region 1 with (fail)
  go_step
  refine wpList_known rfl (.agg (wvs kTab).toArray) (by kernel_rfl) ?_
  have hsz := sizeT64 kTab rfl
  have hzs : (#[.int .u32 0, .int .u32 0, .int .u32 0, .int .u32 0, .int .u32 0, .int .u32 0, .int .u32 0, .int .u32 0, .int .u32 0, .int .u32 0, .int .u32 0, .int .u32 0, .int .u32 0, .int .u32 0, .int .u32 0, .int .u32 0, .int .u32 0, .int .u32 0, .int .u32 0, .int .u32 0, .int .u32 0, .int .u32 0, .int .u32 0, .int .u32 0, .int .u32 0, .int .u32 0, .int .u32 0, .int .u32 0, .int .u32 0, .int .u32 0, .int .u32 0, .int .u32 0, .int .u32 0, .int .u32 0, .int .u32 0, .int .u32 0, .int .u32 0, .int .u32 0, .int .u32 0, .int .u32 0, .int .u32 0, .int .u32 0, .int .u32 0, .int .u32 0, .int .u32 0, .int .u32 0, .int .u32 0, .int .u32 0, .int .u32 0, .int .u32 0, .int .u32 0, .int .u32 0, .int .u32 0, .int .u32 0, .int .u32 0, .int .u32 0, .int .u32 0, .int .u32 0, .int .u32 0, .int .u32 0, .int .u32 0, .int .u32 0, .int .u32 0, .int .u32 0] : Array Value).size = (wvs kTab).toArray.size := rfl
  refine wpList_store_row rfl 112 _ _ rfl w.heap.size (wvs kTab).toArray rfl rfl 112 _ (heap_alloc_new _ _) hsz hzs (oneCell_wvs _) ?_
  rw [World.setRow_alloc_new]
  have hn := heap_alloc_new w (.cells (wvs kTab).toArray 112)
  obtain ⟨W, hW⟩ : ∃ W, w.alloc (.cells (wvs kTab).toArray 112) = W := ⟨_, rfl⟩
  have hb : Below w.heap.size w W := hW ▸ (Below.refl _ _).alloc (Nat.le_refl _) _
  rw [hW] at hn ⊢
  clear hW
  go_wp2
  refine bodyPost_ret (v := .agg (wvs kTab).toArray) ?r1 rfl ?r2
  case r1 => exact results_cell_row (g := w.heap.size) rfl _ _ _ _ _ _ rfl hn Tryd.underlying112 rfl hsz
  case r2 => exact ⟨rfl, hb⟩

end Go.Proofs.YtloaenknhkfaeaaDoor
