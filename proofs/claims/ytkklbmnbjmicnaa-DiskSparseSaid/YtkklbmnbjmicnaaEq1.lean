/- How arrays of bytes and pending writes compare (==, !=). -/
import Derived.Test.YtkklbmnbjmicnaaDisk15
import Derived.DeepKeys
import Derived.ChangeSlices
import Derived.Laws.StructEq
namespace Go.Proofs.Ytkklbmnbjmicnaa
open Go.RowKit Go.ChangeShapes
set_option linter.unusedVariables false
set_option linter.unusedSimpArgs false

def bl (x : UInt8) : Lit := .int .u8 (x.toNat : Int)
theorem bl_inj {a b : List UInt8} (h : a.map bl = b.map bl) : a = b := by
  induction a generalizing b with
  | nil => cases b <;> simp_all
  | cons x a ih =>
    cases b with
    | nil => simp at h
    | cons y b =>
      simp only [List.map_cons, List.cons.injEq] at h
      have : x = y := by
        have h1 := h.1
        simp [bl] at h1
        exact UInt8.toNat_inj.1 (by omega)
      rw [this, ih h.2]

theorem cellsOf_u8' : Try.prog.cellsOf 5 = 1 := by kernel_rfl
theorem cellsOf_int' : Try.prog.cellsOf 3 = 1 := by kernel_rfl
theorem cellsOf_contents : Try.prog.cellsOf 80 = 256 := by kernel_rfl
theorem cellsOf_write : Try.prog.cellsOf 82 = 257 := by kernel_rfl

theorem keyLits_byte (x : UInt8) : Try.prog.keyLits 1 5 [bv x] = some [bl x] := by
  have hw : (Lit.int .u8 (x.toNat : Int)).wf = true := by
    have := x.toNat_lt
    simp [Lit.wf, IntKind.min, IntKind.max, IntKind.signed, IntKind.bits]
    omega
  unfold bv
  simp [Program.keyLits, Try.underlying5, hw, bl]

theorem keyLits_contents {a : List UInt8} (h : a.length = 256) : Try.prog.keyLits 2 80 (bvs a) = some (a.map bl) := by
  unfold Program.keyLits
  rw [Try.underlying80]
  simp only [bvs_length, h, cellsOf_contents, if_true, cellsOf_u8', Nat.mul_one]
  have hm : (List.range 256).mapM (fun i => Try.prog.keyLits 1 5 (((bvs a).drop i).take 1)) = some ((List.range 256).map (fun i => [bl (a.getD i 0)])) := by
    refine mapM_range_of 256 (fun i hi => ?_)
    have e : ((bvs a).drop i).take 1 = [bv (a.getD i 0)] := by
      rw [List.drop_eq_getElem_cons (by rw [bvs_length]; omega)]
      simp [bvs, List.getD, List.getElem?_eq_getElem (show i < a.length by omega)]
    rw [e, keyLits_byte]
  rw [hm]
  simp only [Option.map_some, Option.some.injEq]
  apply List.ext_getElem?
  intro i
  have e1 : ((List.range 256).map (fun i => [bl (a.getD i 0)])).flatten = (List.range 256).map (fun i => bl (a.getD i 0)) := by
    generalize List.range 256 = l
    induction l with
    | nil => rfl
    | cons x l ih => rw [List.map_cons, List.flatten_cons, ih]; rfl
  rw [e1]
  by_cases hi : i < 256
  · simp [hi, List.getD, List.getElem?_eq_getElem (show i < a.length by omega)]
  · rw [List.getElem?_eq_none (by simp; omega), List.getElem?_eq_none (by simp; omega)]

theorem formed_contents {a : List UInt8} (h : a.length = 256) : (cval a).formed Try.prog 80 = true := by
  unfold cval Value.formed
  rw [Try.underlying80]
  simp [cellsOf_contents, h]
theorem keyType_contents : Try.prog.keyTypeAt 5 80 = true := by kernel_rfl
theorem keyType_write : Try.prog.keyTypeAt 5 82 = true := by kernel_rfl

theorem deep_contents : EqAt Try.prog 10000 80 := by
  have := run_equalIn_deep 9995 5 80 keyType_contents
  simpa only [Nat.reduceAdd] using this
theorem deep_write : EqAt Try.prog 10000 82 := by
  have := run_equalIn_deep 9995 5 82 keyType_write
  simpa only [Nat.reduceAdd] using this
theorem eq_contents {a b : List UInt8} (ha : a.length = 256) (hb : b.length = 256) (w : World) : (Op.equalIn 10000 80 (cval a) (cval b)).run Try.prog w = .ok (decide (a = b)) w := by
  obtain ⟨r, h1, h2⟩ := deep_contents w 2 2 (cval a) (cval b) _ _ (formed_contents ha) (formed_contents hb) (keyLits_contents ha) (keyLits_contents hb)
  have e : r = decide (a = b) := by
    rw [Bool.eq_iff_iff, h2, decide_eq_true_iff]
    exact ⟨bl_inj, fun h => by rw [h]⟩
  rw [h1, e]
theorem neq_contents {a b : List UInt8} (ha : a.length = 256) (hb : b.length = 256) (w : World) : (binOp .neq 80 (cval a) (cval b)).run Try.prog w = .ok (.bool (!decide (a = b))) w := by
  have := run_neq_struct (P := Try.prog) w 80 (bvs a).toArray (bvs b).toArray
  unfold cval
  rw [this]
  have h := eq_contents ha hb w
  unfold cval at h
  rw [h]
  rfl

theorem keyLits_int {n : Nat} (hn : n < 1000000) : Try.prog.keyLits 2 3 [.int .i64 (n : Int)] = some [.int .i64 (n : Int)] := by
  have hw : (Lit.int .i64 (n : Int)).wf = true := by
    simp [Lit.wf, IntKind.min, IntKind.max, IntKind.signed, IntKind.bits]
    omega
  simp [Program.keyLits, Try.underlying3, hw]
theorem keyLits_write {x : Nat × List UInt8} (h1 : x.1 < 1000000) (h2 : x.2.length = 256) : Try.prog.keyLits 3 82 (wcells x) = some (.int .i64 (x.1 : Int) :: x.2.map bl) := by
  have hl : (wcells x).length = 257 := wcells_length h2
  have t0 : ((wcells x).drop 0).take 1 = [.int .i64 (x.1 : Int)] := rfl
  have t1 : ((wcells x).drop 1).take 256 = bvs x.2 := by
    show (bvs x.2).take 256 = _
    rw [List.take_of_length_le (by rw [bvs_length]; omega)]
  unfold Program.keyLits
  rw [Try.underlying82]
  simp only [hl, cellsOf_write, true_and]
  simp only [List.mapM_cons, List.mapM_nil, cellsOf_int', cellsOf_contents, t0, t1, keyLits_int h1, keyLits_contents h2]
  simp
theorem formed_write {x : Nat × List UInt8} (h : x.2.length = 256) : (Value.agg (wcells x).toArray).formed Try.prog 82 = true := by
  unfold Value.formed
  rw [Try.underlying82]
  simp [cellsOf_write, wcells_length h]
theorem neq_write {x y : Nat × List UInt8} (hx1 : x.1 < 1000000) (hx : x.2.length = 256) (hy1 : y.1 < 1000000) (hy : y.2.length = 256) (w : World) :
    (binOp .neq 82 (.agg (wcells x).toArray) (.agg (wcells y).toArray)).run Try.prog w = .ok (.bool (!decide (x = y))) w := by
  rw [run_neq_struct (P := Try.prog) w 82 (wcells x).toArray (wcells y).toArray]
  obtain ⟨r, h1, h2⟩ := deep_write w 3 3 _ _ _ _ (formed_write hx) (formed_write hy) (keyLits_write hx1 hx) (keyLits_write hy1 hy)
  rw [h1]
  have e : r = decide (x = y) := by
    rw [Bool.eq_iff_iff, h2, decide_eq_true_iff]
    constructor
    · intro h
      simp only [List.cons.injEq, Lit.int.injEq, true_and] at h
      have h3 := bl_inj h.2
      exact Prod.ext (by omega) h3
    · intro h; rw [h]
  rw [e]
  rfl
theorem guard_contents : Try.prog.eqGuardType Try.prog.depth 80 = false := by kernel_rfl
theorem guard_write : Try.prog.eqGuardType Try.prog.depth 82 = false := by kernel_rfl

end Go.Proofs.Ytkklbmnbjmicnaa
