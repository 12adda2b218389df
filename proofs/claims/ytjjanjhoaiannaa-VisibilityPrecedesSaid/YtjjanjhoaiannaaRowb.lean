/- Articles' rows and identities in memory. -/
import Derived.Test.YtjjanjhoaiannaaIdv
import Derived.Test.YtjjanjhoaiannaaElems
import Derived.Laws.ResultCell
import Derived.Deep.WholeRow
namespace Go.Proofs.Ytjjanjhoaiannaa
open Go.RowKit
set_option linter.unusedVariables false
set_option linter.unusedSimpArgs false

def z32 : IdB := ⟨List.replicate 32 0, by simp⟩
instance : Inhabited IdB := ⟨z32⟩
theorem idv_zero : idv z32 = .agg #[.int .u8 0, .int .u8 0, .int .u8 0, .int .u8 0, .int .u8 0, .int .u8 0, .int .u8 0, .int .u8 0, .int .u8 0, .int .u8 0, .int .u8 0, .int .u8 0, .int .u8 0, .int .u8 0, .int .u8 0, .int .u8 0, .int .u8 0, .int .u8 0, .int .u8 0, .int .u8 0, .int .u8 0, .int .u8 0, .int .u8 0, .int .u8 0, .int .u8 0, .int .u8 0, .int .u8 0, .int .u8 0, .int .u8 0, .int .u8 0, .int .u8 0, .int .u8 0] := rfl

/-- Lists of identities. -/
def idE : ElemTy Try.prog 23 31 IdB where
  enc a := bvs a.1
  k := 32
  hu := Try.underlying23
  hi := ⟨.agg #[.int .u8 0, .int .u8 0, .int .u8 0, .int .u8 0, .int .u8 0, .int .u8 0, .int .u8 0, .int .u8 0, .int .u8 0, .int .u8 0, .int .u8 0, .int .u8 0, .int .u8 0, .int .u8 0, .int .u8 0, .int .u8 0, .int .u8 0, .int .u8 0, .int .u8 0, .int .u8 0, .int .u8 0, .int .u8 0, .int .u8 0, .int .u8 0, .int .u8 0, .int .u8 0, .int .u8 0, .int .u8 0, .int .u8 0, .int .u8 0, .int .u8 0, .int .u8 0], 32, by kernel_rfl, rfl, by decide⟩
  hk := by decide
  len a := by rw [bvs_length]; exact a.2
  one _ := bvs_oneCell

/-- A row: its cells, and the identities to which its references lead. -/
structure RowV where
  id : IdB
  au : List UInt8
  hau : au.length = 16
  date : Int
  gv : Value
  hgv : gv.oneCell' = true
  rv : Value
  hrv : rv.oneCell' = true
  sup : IdB
  refs : List IdB
def RowV.cells (R : RowV) : List Value := bvs R.id.1 ++ (bvs R.au ++ ([.int .i64 R.date, R.gv, R.rv] ++ bvs R.sup.1))
theorem RowV.cells_length (R : RowV) : R.cells.length = 83 := by
  have h1 := R.id.2
  have h2 := R.sup.2
  simp [RowV.cells, R.hau, h1, h2]
theorem RowV.cells_one (R : RowV) : ∀ v ∈ R.cells, v.oneCell' = true := by
  intro v hv
  unfold RowV.cells at hv
  simp only [List.mem_append, List.mem_cons, List.not_mem_nil, or_false] at hv
  rcases hv with hv | hv | (rfl | rfl | rfl) | hv
  · exact bvs_oneCell v hv
  · exact bvs_oneCell v hv
  · rfl
  · exact R.hgv
  · exact R.hrv
  · exact bvs_oneCell v hv
def rowE : ElemTy Try.prog 22 36 RowV where
  enc := RowV.cells
  k := 83
  hu := Try.underlying22
  hi := ⟨.agg Try.zeroCells36, 136, by kernel_rfl, by kernel_rfl, by decide⟩
  hk := by decide
  len := RowV.cells_length
  one := RowV.cells_one
def rowv (R : RowV) : Value := .agg R.cells.toArray
/-- The slice value v reads as the rows L, whose references read as theirs. -/
structure RowsAt (w : World) (v : Value) (L : List RowV) : Prop where
  l : ListAt rowE w v L
  r : ∀ R ∈ L, ListAt idE w R.rv R.refs
theorem RowsAt.below {w w' : World} {v : Value} {L : List RowV} (h : RowsAt w v L) (hb : Below w.heap.size w w') : RowsAt w' v L := ⟨h.l.below hb, fun R hR => (h.r R hR).below hb⟩

section
variable {w w' : World} {g off : Nat} {R : RowV}
theorem row_id (h : w.rangeAt g off R.cells) : w.rangeAt g off (bvs R.id.1) := fun j u hu => h j u (by
  unfold RowV.cells
  rw [List.getElem?_append_left (List.getElem?_eq_some_iff.1 hu).1]
  exact hu)
theorem row_sup (h : w.rangeAt g off R.cells) : w.rangeAt g (off + 51) (bvs R.sup.1) := fun j u hu => by
  rw [Nat.add_assoc]
  refine h (51 + j) u ?_
  unfold RowV.cells
  rw [List.getElem?_append_right (by rw [bvs_length, R.id.2]; omega), bvs_length, R.id.2, List.getElem?_append_right (by rw [bvs_length, R.hau]; omega), bvs_length, R.hau, List.getElem?_append_right (by simp; omega)]
  have e : 51 + j - 32 - 16 - [Value.int .i64 R.date, R.gv, R.rv].length = j := by simp; omega
  rw [e]
  exact hu
theorem row_mid (h : w.rangeAt g off R.cells) : w.cell? ⟨g, off + 48, none⟩ = some (.int .i64 R.date) ∧ w.cell? ⟨g, off + 49, none⟩ = some R.gv ∧ w.cell? ⟨g, off + 50, none⟩ = some R.rv := by
  have key : ∀ j u, [Value.int .i64 R.date, R.gv, R.rv][j]? = some u → w.cell? ⟨g, off + (48 + j), none⟩ = some u := fun j u hu => by
    refine h (48 + j) u ?_
    unfold RowV.cells
    rw [List.getElem?_append_right (by rw [bvs_length, R.id.2]; omega), bvs_length, R.id.2, List.getElem?_append_right (by rw [bvs_length, R.hau]; omega), bvs_length, R.hau]
    have e : 48 + j - 32 - 16 = j := by omega
    rw [e, List.getElem?_append_left (List.getElem?_eq_some_iff.1 hu).1]
    exact hu
  exact ⟨key 0 _ rfl, key 1 _ rfl, key 2 _ rfl⟩
theorem sizeRow (R : RowV) : (Try.prog.info? 36).map (·.size) = some R.cells.length := by rw [R.cells_length]; kernel_rfl
theorem sizeId (a : IdB) : (Try.prog.info? 31).map (·.size) = some (bvs a.1).length := by rw [bvs_length, a.2]; kernel_rfl
/-- A row is read. -/
theorem load_row (h : w.rangeAt g off R.cells) : (Instr.loadAt 36 (.pointer (some ⟨g, off, none⟩))).run Try.prog w = .ok (rowv R) w :=
  run_loadAt_mid w g off 36 R.cells _ h Try.underlying36 rfl (sizeRow R)
/-- An identity is read. -/
theorem load_id {a : IdB} (h : w.rangeAt g off (bvs a.1)) : (Instr.loadAt 31 (.pointer (some ⟨g, off, none⟩))).run Try.prog w = .ok (idv a) w :=
  run_loadAt_mid w g off 31 (bvs a.1) _ h Try.underlying31 rfl (sizeId a)
theorem range_below {cs : List Value} (h : w.rangeAt g off cs) (hg : g < w.heap.size) (hb : Below w.heap.size w w') : w'.rangeAt g off cs := fun j u hu => (hb.cell (p := ⟨g, off + j, none⟩) hg).trans (h j u hu)
theorem range_block {cs : List Value} {T : TypeId} (h : w.heap[g]? = some (.cells cs.toArray T (0, 0))) : w.rangeAt g 0 cs := fun j u hu => by
  rw [cell_of_row _ _ _ _ _ _ h, Nat.zero_add]
  simpa using hu
end

/-- A variable of its own for a row: a new block of zero cells, and the row stored there. -/
theorem newRow (w : World) (R : RowV) : ∃ wz w1, w.alloc (.cells Try.zeroCells36 36) = wz ∧ wz.heap[w.heap.size]? = some (.cells Try.zeroCells36 36 (0, 0)) ∧ wz.setRow w.heap.size R.cells.toArray = w1 ∧
    w1.heap[w.heap.size]? = some (.cells R.cells.toArray 36 (0, 0)) ∧ Below w.heap.size w w1 ∧ w1.heap.size = w.heap.size + 1 ∧ Below w.heap.size w wz :=
  ⟨_, _, rfl, heap_alloc_new _ _, World.setRow_alloc_new _ _ _ _, heap_alloc_new _ _, (Below.refl _ _).alloc (Nat.le_refl _) _, by simp, (Below.refl _ _).alloc (Nat.le_refl _) _⟩
theorem newId (w : World) (a : IdB) : ∃ wz w1, w.alloc (.cells #[.int .u8 0, .int .u8 0, .int .u8 0, .int .u8 0, .int .u8 0, .int .u8 0, .int .u8 0, .int .u8 0, .int .u8 0, .int .u8 0, .int .u8 0, .int .u8 0, .int .u8 0, .int .u8 0, .int .u8 0, .int .u8 0, .int .u8 0, .int .u8 0, .int .u8 0, .int .u8 0, .int .u8 0, .int .u8 0, .int .u8 0, .int .u8 0, .int .u8 0, .int .u8 0, .int .u8 0, .int .u8 0, .int .u8 0, .int .u8 0, .int .u8 0, .int .u8 0] 31) = wz ∧ wz.heap[w.heap.size]? = some (.cells #[.int .u8 0, .int .u8 0, .int .u8 0, .int .u8 0, .int .u8 0, .int .u8 0, .int .u8 0, .int .u8 0, .int .u8 0, .int .u8 0, .int .u8 0, .int .u8 0, .int .u8 0, .int .u8 0, .int .u8 0, .int .u8 0, .int .u8 0, .int .u8 0, .int .u8 0, .int .u8 0, .int .u8 0, .int .u8 0, .int .u8 0, .int .u8 0, .int .u8 0, .int .u8 0, .int .u8 0, .int .u8 0, .int .u8 0, .int .u8 0, .int .u8 0, .int .u8 0] 31 (0, 0)) ∧ wz.setRow w.heap.size (bvs a.1).toArray = w1 ∧
    w1.heap[w.heap.size]? = some (.cells (bvs a.1).toArray 31 (0, 0)) ∧ Below w.heap.size w w1 ∧ w1.heap.size = w.heap.size + 1 ∧ Below w.heap.size w wz :=
  ⟨_, _, rfl, heap_alloc_new _ _, World.setRow_alloc_new _ _ _ _, heap_alloc_new _ _, (Below.refl _ _).alloc (Nat.le_refl _) _, by simp, (Below.refl _ _).alloc (Nat.le_refl _) _⟩
theorem sizeRowA (R : RowV) : (Try.prog.info? 36).map (·.size) = some R.cells.toArray.size := by rw [List.size_toArray]; exact sizeRow R
theorem sizeIdA (a : IdB) : (Try.prog.info? 31).map (·.size) = some (bvs a.1).toArray.size := by rw [List.size_toArray]; exact sizeId a
theorem zsRow (R : RowV) : Try.zeroCells36.size = R.cells.toArray.size := (show Try.zeroCells36.size = 83 by kernel_rfl).trans (by rw [List.size_toArray, R.cells_length])
theorem zsId (a : IdB) : (#[.int .u8 0, .int .u8 0, .int .u8 0, .int .u8 0, .int .u8 0, .int .u8 0, .int .u8 0, .int .u8 0, .int .u8 0, .int .u8 0, .int .u8 0, .int .u8 0, .int .u8 0, .int .u8 0, .int .u8 0, .int .u8 0, .int .u8 0, .int .u8 0, .int .u8 0, .int .u8 0, .int .u8 0, .int .u8 0, .int .u8 0, .int .u8 0, .int .u8 0, .int .u8 0, .int .u8 0, .int .u8 0, .int .u8 0, .int .u8 0, .int .u8 0, .int .u8 0] : Array Value).size = (bvs a.1).toArray.size := (show 32 = (bvs a.1).toArray.size by rw [List.size_toArray, bvs_length, a.2])
theorem oneRow (R : RowV) : R.cells.toArray.all (·.oneCell') = true := all_oneCell_toArray R.cells_one

theorem results_cell_tmp_row {P : Program} {fn : Func} {p u : Tmp} {ty : TypeId} (h : fn.results = #[.cell p ty, .tmp u]) (tmps : Array Value) (w : World) (g : Nat) (t : TypeId) (cs : Array Value) (fr : Nat × Nat) (d : TypeDesc)
    (hp : tmps.getD p undef = .pointer (some ⟨g, 0, none⟩)) (hg : w.heap[g]? = some (.cells cs t fr)) (hu : P.underlying ty = some d) (hd : (match d with | .struct _ | .array _ _ => true | _ => false) = true) (hi : (P.info? ty).map (·.size) = some cs.size) :
    (results fn tmps).run P w = .ok (.tuple #[.agg cs, tmps.getD u undef]) w := by
  rw [results_cell_tmp h]
  have hp' : tmps[p]?.getD undef = .pointer (some ⟨g, 0, none⟩) := by simpa using hp
  simp [hp', asAddr, run_loadVar_row w g t ty cs fr d hg hu hd hi]
end Go.Proofs.Ytjjanjhoaiannaa
