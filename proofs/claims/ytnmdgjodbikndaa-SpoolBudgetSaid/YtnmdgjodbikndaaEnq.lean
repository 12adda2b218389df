/- Entries and the reference's articles compared. -/
import Derived.Test.YtnmdgjodbikndaaSArgs
import Derived.Test.YtnmdgjodbikndaaS7
namespace Go.Proofs.Ytnmdgjodbikndaa
open Go.RowKit Go.ChangeShapes Go.Maps
set_option linter.unusedVariables false
set_option linter.unusedSimpArgs false

theorem cellsOf_Ent : Try.prog.cellsOf 44 = 34 := by kernel_rfl
theorem keyLits_i64 (d : Nat) {n : Int} (h : -9223372036854775808 ≤ n ∧ n ≤ 9223372036854775807) : Try.prog.keyLits (d + 1) 3 [.int .i64 n] = some [.int .i64 n] := by
  have hw : (Lit.int .i64 n).wf = true := by
    simp [Lit.wf, IntKind.min, IntKind.max, IntKind.signed, IntKind.bits]
    omega
  simp [Program.keyLits, Try.underlying3, hw]
theorem keyLits_str (d : Nat) {s : ByteArray} (h : s.size ≤ maxLen) : Try.prog.keyLits (d + 1) 9 [.string s] = some [.string s.data.toList] := by
  simp [Program.keyLits, Try.underlying9, h]
theorem keyLits_arr (d : Nat) {a : List UInt8} (h : a.length = 32) : Try.prog.keyLits (d + 2) 29 (bvs a) = some (a.map bl) := by
  unfold Program.keyLits
  rw [Try.underlying29]
  simp only [bvs_length, h, cellsOf_arr, if_true, cellsOf_u8', Nat.mul_one]
  have hm : (List.range 32).mapM (fun i => Try.prog.keyLits (d + 1) 5 (((bvs a).drop i).take 1)) = some ((List.range 32).map (fun i => [bl (a.getD i 0)])) := by
    refine mapM_range_of 32 (fun i hi => ?_)
    have e : ((bvs a).drop i).take 1 = [bv (a.getD i 0)] := by
      rw [List.drop_eq_getElem_cons (by rw [bvs_length]; omega)]
      simp [bvs, List.getD, List.getElem?_eq_getElem (show i < a.length by omega)]
    rw [e, keyLits_byte]
  rw [hm]
  simp only [Option.map_some, Option.some.injEq]
  apply List.ext_getElem?
  intro i
  have e1 : ((List.range 32).map (fun i => [bl (a.getD i 0)])).flatten = (List.range 32).map (fun i => bl (a.getD i 0)) := by
    generalize List.range 32 = l
    induction l with
    | nil => rfl
    | cons x l ih => rw [List.map_cons, List.flatten_cons, ih]; rfl
  rw [e1]
  by_cases hi : i < 32
  · simp [hi, List.getD, List.getElem?_eq_getElem (show i < a.length by omega)]
  · rw [List.getElem?_eq_none (by simp; omega), List.getElem?_eq_none (by simp; omega)]
theorem keyLits_Ent {x : ArtD} (ha : -9223372036854775808 ≤ x.arr ∧ x.arr ≤ 9223372036854775807) (ht : x.text.size ≤ 65536) : Try.prog.keyLits 3 44 (entC x) = some (x.id.1.map bl ++ [.int .i64 x.arr, .int .i64 (x.text.size : Int)]) := by
  have h0 : (bvs x.id.1).length = 32 := by rw [bvs_length, x.id.2]
  have e0 : ((entC x).drop 0).take 32 = bvs x.id.1 := by unfold entC; rw [List.drop_zero, List.take_left' h0]
  have e1 : ((entC x).drop 32).take 1 = [.int .i64 x.arr] := by unfold entC; rw [List.drop_left' h0]; rfl
  have e2 : ((entC x).drop 33).take 1 = [.int .i64 (x.text.size : Int)] := by
    unfold entC
    rw [show 33 = 32 + 1 from rfl, ← List.drop_drop, List.drop_left' h0]
    rfl
  unfold Program.keyLits
  rw [Try.underlying44]
  simp only [entC_length, cellsOf_Ent]
  rw [if_pos ⟨trivial, by decide +kernel⟩]
  simp only [List.mapM_cons, List.mapM_nil, cellsOf_Id, cellsOf_int, e0, e1, e2, keyLits_Id 0 x.id.2, keyLits_i64 1 ha, keyLits_i64 1 (n := (x.text.size : Int)) (by omega)]
  rfl
theorem keyLits_RefA {x : RefA} (ha : -9223372036854775808 ≤ x.min ∧ x.min ≤ 9223372036854775807) (ht : x.text.size ≤ maxLen) : Try.prog.keyLits 3 37 x.cells = some (x.id.1.map bl ++ [.string x.text.data.toList, .int .i64 x.min]) := by
  have h0 : (bvs x.id.1).length = 32 := by rw [bvs_length, x.id.2]
  have e0 : (x.cells.drop 0).take 32 = bvs x.id.1 := by unfold RefA.cells; rw [List.drop_zero, List.take_left' h0]
  have e1 : (x.cells.drop 32).take 1 = [.string x.text] := by unfold RefA.cells; rw [List.drop_left' h0]; rfl
  have e2 : (x.cells.drop 33).take 1 = [.int .i64 x.min] := by
    unfold RefA.cells
    rw [show 33 = 32 + 1 from rfl, ← List.drop_drop, List.drop_left' h0]
    rfl
  unfold Program.keyLits
  rw [Try.underlying37]
  simp only [RefA.cells_length, cellsOf_A]
  rw [if_pos ⟨trivial, by decide +kernel⟩]
  simp only [List.mapM_cons, List.mapM_nil, cellsOf_arr, cellsOf_int, cellsOf_str, e0, e1, e2, keyLits_arr 0 x.id.2, keyLits_i64 1 ha, keyLits_str 1 ht]
  rfl
theorem formed_of {cs : List Value} {T : TypeId} {fs : Array Field} (hu : Try.prog.underlying T = some (.struct fs)) (hc : Try.prog.cellsOf T = cs.length) : (Value.agg cs.toArray).formed Try.prog T = true := by
  unfold Value.formed
  rw [hu]
  simp [hc]
theorem deep_Ent : EqAt Try.prog 10000 44 := by
  have := run_equalIn_deep (P := Try.prog) 9995 5 44 (by kernel_rfl)
  simpa only [Nat.reduceAdd] using this
theorem deep_RefA : EqAt Try.prog 10000 37 := by
  have := run_equalIn_deep (P := Try.prog) 9995 5 37 (by kernel_rfl)
  simpa only [Nat.reduceAdd] using this
theorem app_inj2 {a b : List UInt8} (ha : a.length = 32) (hb : b.length = 32) {p q : List Lit} (h : a.map bl ++ p = b.map bl ++ q) : a = b ∧ p = q := by
  have h2 := List.append_inj h (by rw [List.length_map, List.length_map, ha, hb])
  exact ⟨bl_inj h2.1, h2.2⟩
/-- An entry of an article, as its cells tell it. -/
def entK (x : ArtD) : IdB × Int × Nat := (x.id, x.arr, x.text.size)
theorem neq_Ent {x y : ArtD} (ha : -9223372036854775808 ≤ x.arr ∧ x.arr ≤ 9223372036854775807) (ht : x.text.size ≤ 65536) (hb : -9223372036854775808 ≤ y.arr ∧ y.arr ≤ 9223372036854775807) (hs : y.text.size ≤ 65536) (w : World) :
    (binOp .neq 44 (.agg (entC x).toArray) (.agg (entC y).toArray)).run Try.prog w = .ok (.bool (!decide (entK x = entK y))) w := by
  rw [run_neq_struct (P := Try.prog) w 44 (entC x).toArray (entC y).toArray]
  obtain ⟨r, h1, h2⟩ := deep_Ent w 3 3 (.agg (entC x).toArray) (.agg (entC y).toArray) _ _ (formed_of Try.underlying44 (by rw [entC_length]; exact cellsOf_Ent)) (formed_of Try.underlying44 (by rw [entC_length]; exact cellsOf_Ent)) (keyLits_Ent ha ht) (keyLits_Ent hb hs)
  have e : r = decide (entK x = entK y) := by
    rw [Bool.eq_iff_iff, h2, decide_eq_true_iff]
    constructor
    · intro h
      obtain ⟨h3, h4⟩ := app_inj2 x.id.2 y.id.2 h
      simp only [List.cons.injEq, Lit.int.injEq, true_and, and_true] at h4
      unfold entK
      rw [Subtype.ext h3, h4.1, show x.text.size = y.text.size by have := h4.2; omega]
    · intro h
      unfold entK at h
      simp only [Prod.mk.injEq] at h
      rw [h.1, h.2.1, h.2.2]
  rw [h1, e]
  rfl
instance : DecidableEq RefA := fun a b => if h : a.id = b.id ∧ a.text = b.text ∧ a.min = b.min then isTrue (by
    obtain ⟨h1, h2, h3⟩ := h
    cases a
    cases b
    simp only at h1 h2 h3
    rw [h1, h2, h3]) else isFalse (fun e => h (by rw [e]; exact ⟨rfl, rfl, rfl⟩))
theorem neq_RefA {x y : RefA} (ha : -9223372036854775808 ≤ x.min ∧ x.min ≤ 9223372036854775807) (ht : x.text.size ≤ maxLen) (hb : -9223372036854775808 ≤ y.min ∧ y.min ≤ 9223372036854775807) (hs : y.text.size ≤ maxLen) (w : World) :
    (binOp .neq 37 (.agg x.cells.toArray) (.agg y.cells.toArray)).run Try.prog w = .ok (.bool (!decide (x = y))) w := by
  rw [run_neq_struct (P := Try.prog) w 37 x.cells.toArray y.cells.toArray]
  obtain ⟨r, h1, h2⟩ := deep_RefA w 3 3 (.agg x.cells.toArray) (.agg y.cells.toArray) _ _ (formed_of Try.underlying37 (by rw [RefA.cells_length]; exact cellsOf_A)) (formed_of Try.underlying37 (by rw [RefA.cells_length]; exact cellsOf_A)) (keyLits_RefA ha ht) (keyLits_RefA hb hs)
  have e : r = decide (x = y) := by
    rw [Bool.eq_iff_iff, h2, decide_eq_true_iff]
    constructor
    · intro h
      obtain ⟨h3, h4⟩ := app_inj2 x.id.2 y.id.2 h
      simp only [List.cons.injEq, Lit.int.injEq, Lit.string.injEq, true_and, and_true] at h4
      obtain ⟨xi, xt, xm⟩ := x
      obtain ⟨yi, yt, ym⟩ := y
      simp only at h3 h4
      obtain rfl := Subtype.ext h3
      obtain rfl := h4.2
      obtain rfl : xt = yt := ByteArray.ext (Array.ext' h4.1)
      rfl
    · intro h
      rw [h]
  rw [h1, e]
  rfl
end Go.Proofs.Ytnmdgjodbikndaa
