/- Identities ([32]byte): as values, as keys of maps, compared. -/
import Derived.Test.YtjjanjhoaiannaaProg
import Derived.Test.YtjjanjhoaiannaaKmap
import Derived.Laws.StructEq
import Derived.ChangeSlices
namespace Go.Proofs.Ytjjanjhoaiannaa
open Go.RowKit Go.ChangeShapes Go.Maps
set_option linter.unusedVariables false
set_option linter.unusedSimpArgs false

abbrev IdB := { l : List UInt8 // l.length = 32 }
def idv (a : IdB) : Value := .agg (bvs a.1).toArray
theorem idv_inj {a b : IdB} (h : idv a = idv b) : a = b := by
  unfold idv at h
  simp only [Value.agg.injEq] at h
  exact Subtype.ext (bvs_inj (by simpa using h))

def bl (x : UInt8) : Lit := .int .u8 (x.toNat : Int)
theorem bl_inj {a b : List UInt8} (h : a.map bl = b.map bl) : a = b := by
  induction a generalizing b with
  | nil => cases b <;> simp_all
  | cons x a ih =>
    cases b with
    | nil => simp at h
    | cons y b =>
      simp only [List.map_cons, List.cons.injEq] at h
      have : x = y := by
        have h1 := h.1
        simp [bl] at h1
        exact UInt8.toNat_inj.1 (by omega)
      rw [this, ih h.2]

theorem cellsOf_u8' : Try.prog.cellsOf 5 = 1 := by kernel_rfl
theorem cellsOf_Id : Try.prog.cellsOf 31 = 32 := by kernel_rfl
theorem keyLits_byte (d : Nat) (x : UInt8) : Try.prog.keyLits (d + 1) 5 [bv x] = some [bl x] := by
  have hw : (Lit.int .u8 (x.toNat : Int)).wf = true := by
    have := x.toNat_lt
    simp [Lit.wf, IntKind.min, IntKind.max, IntKind.signed, IntKind.bits]
    omega
  unfold bv
  simp [Program.keyLits, Try.underlying5, hw, bl]
theorem keyLits_Id (d : Nat) {a : List UInt8} (h : a.length = 32) : Try.prog.keyLits (d + 2) 31 (bvs a) = some (a.map bl) := by
  unfold Program.keyLits
  rw [Try.underlying31]
  simp only [bvs_length, h, cellsOf_Id, if_true, cellsOf_u8', Nat.mul_one]
  have hm : (List.range 32).mapM (fun i => Try.prog.keyLits (d + 1) 5 (((bvs a).drop i).take 1)) = some ((List.range 32).map (fun i => [bl (a.getD i 0)])) := by
    refine mapM_range_of 32 (fun i hi => ?_)
    have e : ((bvs a).drop i).take 1 = [bv (a.getD i 0)] := by
      rw [List.drop_eq_getElem_cons (by rw [bvs_length]; omega)]
      simp [bvs, List.getD, List.getElem?_eq_getElem (show i < a.length by omega)]
    rw [e, keyLits_byte]
  rw [hm]
  simp only [Option.map_some, Option.some.injEq]
  apply List.ext_getElem?
  intro i
  have e1 : ((List.range 32).map (fun i => [bl (a.getD i 0)])).flatten = (List.range 32).map (fun i => bl (a.getD i 0)) := by
    generalize List.range 32 = l
    induction l with
    | nil => rfl
    | cons x l ih => rw [List.map_cons, List.flatten_cons, ih]; rfl
  rw [e1]
  by_cases hi : i < 32
  · simp [hi, List.getD, List.getElem?_eq_getElem (show i < a.length by omega)]
  · rw [List.getElem?_eq_none (by simp; omega), List.getElem?_eq_none (by simp; omega)]
theorem formed_Id (a : IdB) : (idv a).formed Try.prog 31 = true := by
  unfold idv Value.formed
  rw [Try.underlying31]
  simp [cellsOf_Id, a.2]
theorem keyType_Id : Try.prog.keyTypeAt 5 31 = true := by kernel_rfl
theorem keyTypeT_Id : Try.prog.keyType 31 = true := by kernel_rfl
theorem tiled_Id : Try.prog.tiled 5 31 = true := by kernel_rfl
theorem deep_Id : EqAt Try.prog 10000 31 := by
  have := run_equalIn_deep 9995 5 31 keyType_Id
  simpa only [Nat.reduceAdd] using this
theorem eqIn_Id (a b : IdB) (w : World) : (Op.equalIn 10000 31 (idv a) (idv b)).run Try.prog w = .ok (decide (a = b)) w := by
  obtain ⟨r, h1, h2⟩ := deep_Id w 2 2 (idv a) (idv b) _ _ (formed_Id a) (formed_Id b) (keyLits_Id 0 a.2) (keyLits_Id 0 b.2)
  have e : r = decide (a = b) := by
    rw [Bool.eq_iff_iff, h2, decide_eq_true_iff]
    exact ⟨fun h => Subtype.ext (bl_inj h), fun h => by rw [h]⟩
  rw [h1, e]
theorem eql_Id (a b : IdB) (w : World) : (binOp .eql 31 (idv a) (idv b)).run Try.prog w = .ok (.bool (decide (a = b))) w := by
  have := run_eql_struct (P := Try.prog) w 31 (bvs a.1).toArray (bvs b.1).toArray
  unfold idv
  rw [this]
  have h := eqIn_Id a b w
  unfold idv at h
  rw [h]
  rfl
theorem neq_Id (a b : IdB) (w : World) : (binOp .neq 31 (idv a) (idv b)).run Try.prog w = .ok (.bool (!decide (a = b))) w := by
  have := run_neq_struct (P := Try.prog) w 31 (bvs a.1).toArray (bvs b.1).toArray
  unfold idv
  rw [this]
  have h := eqIn_Id a b w
  unfold idv at h
  rw [h]
  rfl
theorem guard_Id : Try.prog.eqGuardType Try.prog.depth 31 = false := by kernel_rfl

/-- Identities as the keys of maps. -/
def idKey : KeyEnc Try.prog 31 IdB where
  kv := idv
  K := Keyed.of_law (deep_law (m := 5) (by decide) keyType_Id tiled_Id (by kernel_rfl))
  inj := idv_inj
  lit a := by
    unfold keyOf
    rw [Try.underlying31]
    simp only [keyTypeT_Id, formed_Id a, Bool.and_self, if_true]
    have h2 : 2 ≤ Try.prog.types.size := by decide +kernel
    obtain ⟨d, hd⟩ : ∃ d, Try.prog.types.size + 1 = d + 2 := ⟨Try.prog.types.size - 1, by omega⟩
    rw [hd]
    unfold idv
    simp only [Value.cells, List.size_toArray]
    rw [keyLits_Id d a.2]
    exact ⟨_, rfl⟩

end Go.Proofs.Ytjjanjhoaiannaa
