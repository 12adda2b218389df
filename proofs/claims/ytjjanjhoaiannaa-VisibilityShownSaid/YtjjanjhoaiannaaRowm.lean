/- Articles' rows and identities in memory. -/
import Derived.Test.YtjjanjhoaiannaaIdv
import Derived.Test.YtjjanjhoaiannaaElems
import Derived.Laws.ResultCell
import Derived.Deep.WholeRow
namespace Go.Proofs.Ytjjanjhoaiannaa
open Go.RowKit
set_option linter.unusedVariables false
set_option linter.unusedSimpArgs false

def z32 : IdB := ⟨List.replicate 32 0, by simp⟩
instance : Inhabited IdB := ⟨z32⟩
theorem idv_zero : idv z32 = .agg #[.int .u8 0, .int .u8 0, .int .u8 0, .int .u8 0, .int .u8 0, .int .u8 0, .int .u8 0, .int .u8 0, .int .u8 0, .int .u8 0, .int .u8 0, .int .u8 0, .int .u8 0, .int .u8 0, .int .u8 0, .int .u8 0, .int .u8 0, .int .u8 0, .int .u8 0, .int .u8 0, .int .u8 0, .int .u8 0, .int .u8 0, .int .u8 0, .int .u8 0, .int .u8 0, .int .u8 0, .int .u8 0, .int .u8 0, .int .u8 0, .int .u8 0, .int .u8 0] := rfl

/-- Lists of identities. -/
def idE : ElemTy Try.prog 23 31 IdB where
  enc a := bvs a.1
  k := 32
  hu := Try.underlying23
  hi := ⟨.agg #[.int .u8 0, .int .u8 0, .int .u8 0, .int .u8 0, .int .u8 0, .int .u8 0, .int .u8 0, .int .u8 0, .int .u8 0, .int .u8 0, .int .u8 0, .int .u8 0, .int .u8 0, .int .u8 0, .int .u8 0, .int .u8 0, .int .u8 0, .int .u8 0, .int .u8 0, .int .u8 0, .int .u8 0, .int .u8 0, .int .u8 0, .int .u8 0, .int .u8 0, .int .u8 0, .int .u8 0, .int .u8 0, .int .u8 0, .int .u8 0, .int .u8 0, .int .u8 0], 32, by kernel_rfl, rfl, by decide⟩
  hk := by decide
  len a := by rw [bvs_length]; exact a.2
  one _ := bvs_oneCell

/-- A row: its cells, and the identities to which its references lead. -/
structure RowV where
  id : IdB
  au : List UInt8
  hau : au.length = 16
  date : Int
  gv : Value
  hgv : gv.oneCell' = true
  rv : Value
  hrv : rv.oneCell' = true
  sup : IdB
  refs : List IdB
def RowV.cells (R : RowV) : List Value := bvs R.id.1 ++ (bvs R.au ++ ([.int .i64 R.date, R.gv, R.rv] ++ bvs R.sup.1))
theorem RowV.cells_length (R : RowV) : R.cells.length = 83 := by
  have h1 := R.id.2
  have h2 := R.sup.2
  simp [RowV.cells, R.hau, h1, h2]
theorem RowV.cells_one (R : RowV) : ∀ v ∈ R.cells, v.oneCell' = true := by
  intro v hv
  unfold RowV.cells at hv
  simp only [List.mem_append, List.mem_cons, List.not_mem_nil, or_false] at hv
  rcases hv with hv | hv | (rfl | rfl | rfl) | hv
  · exact bvs_oneCell v hv
  · exact bvs_oneCell v hv
  · rfl
  · exact R.hgv
  · exact R.hrv
  · exact bvs_oneCell v hv
def rowE : ElemTy Try.prog 22 36 RowV where
  enc := RowV.cells
  k := 83
  hu := Try.underlying22
  hi := ⟨.agg Try.zeroCells36, 136, by kernel_rfl, by kernel_rfl, by decide⟩
  hk := by decide
  len := RowV.cells_length
  one := RowV.cells_one
def rowv (R : RowV) : Value := .agg R.cells.toArray
/-- The slice value v reads as the rows L, whose references read as theirs. -/
structure RowsAt (w : World) (v : Value) (L : List RowV) : Prop where
  l : ListAt rowE w v L
  r : ∀ R ∈ L, ListAt idE w R.rv R.refs
theorem RowsAt.below {w w' : World} {v : Value} {L : List RowV} (h : RowsAt w v L) (hb : Below w.heap.size w w') : RowsAt w' v L := ⟨h.l.below hb, fun R hR => (h.r R hR).below hb⟩

section
variable {w w' : World} {g off : Nat} {R : RowV}
theorem row_id (h : w.rangeAt g off R.cells) : w.rangeAt g off (bvs R.id.1) := fun j u hu => h j u (by
  unfold RowV.cells
  rw [List.getElem?_append_left (List.getElem?_eq_some_iff.1 hu).1]
  exact hu)
theorem row_sup (h : w.rangeAt g off R.cells) : w.rangeAt g (off + 51) (bvs R.sup.1) := fun j u hu => by
  rw [Nat.add_assoc]
  refine h (51 + j) u ?_
  unfold RowV.cells
  rw [List.getElem?_append_right (by rw [bvs_length, R.id.2]; omega), bvs_length, R.id.2, List.getElem?_append_right (by rw [bvs_length, R.hau]; omega), bvs_length, R.hau, List.getElem?_append_right (by simp; omega)]
  have e : 51 + j - 32 - 16 - [Value.int .i64 R.date, R.gv, R.rv].length = j := by simp; omega
  rw [e]
  exact hu
theorem row_mid (h : w.rangeAt g off R.cells) : w.cell? ⟨g, off + 48, none⟩ = some (.int .i64 R.date) ∧ w.cell? ⟨g, off + 49, none⟩ = some R.gv ∧ w.cell? ⟨g, off + 50, none⟩ = some R.rv := by
  have key : ∀ j u, [Value.int .i64 R.date, R.gv, R.rv][j]? = some u → w.cell? ⟨g, off + (48 + j), none⟩ = some u := fun j u hu => by
    refine h (48 + j) u ?_
    unfold RowV.cells
    rw [List.getElem?_append_right (by rw [bvs_length, R.id.2]; omega), bvs_length, R.id.2, List.getElem?_append_right (by rw [bvs_length, R.hau]; omega), bvs_length, R.hau]
    have e : 48 + j - 32 - 16 = j := by omega
    rw [e, List.getElem?_append_left (List.getElem?_eq_some_iff.1 hu).1]
    exact hu
  exact ⟨key 0 _ rfl, key 1 _ rfl, key 2 _ rfl⟩
theorem sizeRow (R : RowV) : (Try.prog.info? 36).map (·.size) = some R.cells.length := by rw [R.cells_length]; kernel_rfl
theorem sizeId (a : IdB) : (Try.prog.info? 31).map (·.size) = some (bvs a.1).length := by rw [bvs_length, a.2]; kernel_rfl
/-- A row is read. -/
theorem load_row (h : w.rangeAt g off R.cells) : (Instr.loadAt 36 (.pointer (some ⟨g, off, none⟩))).run Try.prog w = .ok (rowv R) w :=
  run_loadAt_mid w g off 36 R.cells _ h Try.underlying36 rfl (sizeRow R)
/-- An identity is read. -/
theorem load_id {a : IdB} (h : w.rangeAt g off (bvs a.1)) : (Instr.loadAt 31 (.pointer (some ⟨g, off, none⟩))).run Try.prog w = .ok (idv a) w :=
  run_loadAt_mid w g off 31 (bvs a.1) _ h Try.underlying31 rfl (sizeId a)
theorem range_below {cs : List Value} (h : w.rangeAt g off cs) (hg : g < w.heap.size) (hb : Below w.heap.size w w') : w'.rangeAt g off cs := fun j u hu => (hb.cell (p := ⟨g, off + j, none⟩) hg).trans (h j u hu)
theorem range_block {cs : List Value} {T : TypeId} (h : w.heap[g]? = some (.cells cs.toArray T (0, 0))) : w.rangeAt g 0 cs := fun j u hu => by
  rw [cell_of_row _ _ _ _ _ _ h, Nat.zero_add]
  simpa using hu
end

/-- A variable of its own for a row: a new block of zero cells, and the row stored there. -/
theorem newRow (w : World) (R : RowV) : ∃ wz w1, w.alloc (.cells Try.zeroCells36 36) = wz ∧ wz.heap[w.heap.size]? = some (.cells Try.zeroCells36 36 (0, 0)) ∧ wz.setRow w.heap.size R.cells.toArray = w1 ∧
    w1.heap[w.heap.size]? = some (.cells R.cells.toArray 36 (0, 0)) ∧ Below w.heap.size w w1 ∧ w1.heap.size = w.heap.size + 1 ∧ Below w.heap.size w wz :=
  ⟨_, _, rfl, heap_alloc_new _ _, World.setRow_alloc_new _ _ _ _, heap_alloc_new _ _, (Below.refl _ _).alloc (Nat.le_refl _) _, by simp, (Below.refl _ _).alloc (Nat.le_refl _) _⟩
theorem newId (w : World) (a : IdB) : ∃ wz w1, w.alloc (.cells #[.int .u8 0, .int .u8 0, .int .u8 0, .int .u8 0, .int .u8 0, .int .u8 0, .int .u8 0, .int .u8 0, .int .u8 0, .int .u8 0, .int .u8 0, .int .u8 0, .int .u8 0, .int .u8 0, .int .u8 0, .int .u8 0, .int .u8 0, .int .u8 0, .int .u8 0, .int .u8 0, .int .u8 0, .int .u8 0, .int .u8 0, .int .u8 0, .int .u8 0, .int .u8 0, .int .u8 0, .int .u8 0, .int .u8 0, .int .u8 0, .int .u8 0, .int .u8 0] 31) = wz ∧ wz.heap[w.heap.size]? = some (.cells #[.int .u8 0, .int .u8 0, .int .u8 0, .int .u8 0, .int .u8 0, .int .u8 0, .int .u8 0, .int .u8 0, .int .u8 0, .int .u8 0, .int .u8 0, .int .u8 0, .int .u8 0, .int .u8 0, .int .u8 0, .int .u8 0, .int .u8 0, .int .u8 0, .int .u8 0, .int .u8 0, .int .u8 0, .int .u8 0, .int .u8 0, .int .u8 0, .int .u8 0, .int .u8 0, .int .u8 0, .int .u8 0, .int .u8 0, .int .u8 0, .int .u8 0, .int .u8 0] 31 (0, 0)) ∧ wz.setRow w.heap.size (bvs a.1).toArray = w1 ∧
    w1.heap[w.heap.size]? = some (.cells (bvs a.1).toArray 31 (0, 0)) ∧ Below w.heap.size w w1 ∧ w1.heap.size = w.heap.size + 1 ∧ Below w.heap.size w wz :=
  ⟨_, _, rfl, heap_alloc_new _ _, World.setRow_alloc_new _ _ _ _, heap_alloc_new _ _, (Below.refl _ _).alloc (Nat.le_refl _) _, by simp, (Below.refl _ _).alloc (Nat.le_refl _) _⟩
theorem sizeRowA (R : RowV) : (Try.prog.info? 36).map (·.size) = some R.cells.toArray.size := by rw [List.size_toArray]; exact sizeRow R
theorem sizeIdA (a : IdB) : (Try.prog.info? 31).map (·.size) = some (bvs a.1).toArray.size := by rw [List.size_toArray]; exact sizeId a
theorem zsRow (R : RowV) : Try.zeroCells36.size = R.cells.toArray.size := (show Try.zeroCells36.size = 83 by kernel_rfl).trans (by rw [List.size_toArray, R.cells_length])
theorem zsId (a : IdB) : (#[.int .u8 0, .int .u8 0, .int .u8 0, .int .u8 0, .int .u8 0, .int .u8 0, .int .u8 0, .int .u8 0, .int .u8 0, .int .u8 0, .int .u8 0, .int .u8 0, .int .u8 0, .int .u8 0, .int .u8 0, .int .u8 0, .int .u8 0, .int .u8 0, .int .u8 0, .int .u8 0, .int .u8 0, .int .u8 0, .int .u8 0, .int .u8 0, .int .u8 0, .int .u8 0, .int .u8 0, .int .u8 0, .int .u8 0, .int .u8 0, .int .u8 0, .int .u8 0] : Array Value).size = (bvs a.1).toArray.size := (show 32 = (bvs a.1).toArray.size by rw [List.size_toArray, bvs_length, a.2])
theorem oneRow (R : RowV) : R.cells.toArray.all (·.oneCell') = true := all_oneCell_toArray R.cells_one

theorem results_cell_tmp_row {P : Program} {fn : Func} {p u : Tmp} {ty : TypeId} (h : fn.results = #[.cell p ty, .tmp u]) (tmps : Array Value) (w : World) (g : Nat) (t : TypeId) (cs : Array Value) (fr : Nat × Nat) (d : TypeDesc)
    (hp : tmps.getD p undef = .pointer (some ⟨g, 0, none⟩)) (hg : w.heap[g]? = some (.cells cs t fr)) (hu : P.underlying ty = some d) (hd : (match d with | .struct _ | .array _ _ => true | _ => false) = true) (hi : (P.info? ty).map (·.size) = some cs.size) :
    (results fn tmps).run P w = .ok (.tuple #[.agg cs, tmps.getD u undef]) w := by
  rw [results_cell_tmp h]
  have hp' : tmps[p]?.getD undef = .pointer (some ⟨g, 0, none⟩) := by simpa using hp
  simp [hp', asAddr, run_loadVar_row w g t ty cs fr d hg hu hd hi]

set_option maxRecDepth 100000 in
set_option maxHeartbeats 1000000 in
theorem question_any {w : World} (R : RowV) (hR : ListAt idE w R.rv R.refs) (hl : R.refs.length < 1000000000) :
    Calls Try.prog 30 #[rowv R] w fun e w' => e = .returned (.tuple #[idv (R.refs.getLast?.getD z32), .bool R.refs.getLast?.isSome]) ∧ Below w.heap.size w w' := by
  obtain ⟨w1, hw1⟩ : ∃ w1, w.alloc (.cells R.cells.toArray 36) = w1 := ⟨_, rfl⟩
  have hb1 : Below w.heap.size w w1 := hw1 ▸ (Below.refl _ w).alloc (Nat.le_refl _) _
  have hx1 : w1.heap[w.heap.size]? = some (.cells R.cells.toArray 36 (0, 0)) := by rw [← hw1]; exact heap_alloc_new _ _
  have hs1 : w1.heap.size = w.heap.size + 1 := by rw [← hw1]; simp
  obtain ⟨Q, hQ⟩ : ∃ Q, R.refs.getLast? = Q := ⟨_, rfl⟩
  rw [hQ]
  obtain ⟨q, hq⟩ : ∃ q, Q.getD z32 = q := ⟨_, rfl⟩
  obtain ⟨b, hbq⟩ : ∃ b, Q.isSome = b := ⟨_, rfl⟩
  rw [hq, hbq]
  obtain ⟨w2, w3, hw2, hn2, hst, hx3, hb3, hs3, hb2⟩ := newId w1 q
  have hx2 := (hb2.block _ (Array.getElem?_eq_some_iff.1 hx1).1).trans hx1
  have hrv := (row_mid (range_block hx2)).2.2
  rw [Nat.zero_add] at hrv
  have hr2 := (hR.below hb1).below hb2
  obtain ⟨ra, rc, hre⟩ := hR.form
  rw [hre] at hrv hr2
  obtain ⟨N, hN⟩ : ∃ N, R.refs.length = N := ⟨_, rfl⟩
  rw [hN] at hrv hr2 hl
  unfold rowv
  have HW1 := Lib.hid hw1
  have HB := Lib.hid (hb1.trans (hb3.mono hb1.size))
  have HX3 := Lib.hid hx3
  have HN2 := Lib.hid hn2
  have HST := Lib.hid hst
  have HSZ := Lib.hid (sizeIdA q)
  have HZS := Lib.hid (zsId q)
  by_cases h0 : N = 0
  · obtain rfl : Q = none := by rw [← hQ, List.getLast?_eq_none_iff]; exact List.eq_nil_of_length_eq_zero (hN.trans h0)
    obtain rfl : z32 = q := hq
    obtain rfl : false = b := hbq
    have hN0 : ((N : Int) == 0) = true := by simp [h0]
    have HR2 := Lib.hid hr2
    clear h0 hN hQ hre hx1 hb1 hb2 hx2 hb3 hx3 hr2 hR hs1 hn2 hst hs3
    go_enter Try.func30, Try.ntmps30
    go_wp2_with (with_reducible refine wpList_store_row rfl 31 _ _ rfl w1.heap.size (bvs z32.1).toArray rfl rfl 31 _ HN2.out HSZ.out HZS.out (oneCell_bvs _) ?_; rw [HST.out])
    exact bodyPost_ret (results_cell_tmp_row (g := w1.heap.size) rfl _ _ _ _ _ _ rfl HX3.out Try.underlying31 rfl HSZ.out) rfl ⟨rfl, HB.out⟩
  · have hlast : N - 1 < R.refs.length := by omega
    obtain rfl : Q = some (R.refs[N - 1]) := by rw [← hQ, List.getLast?_eq_getElem?, hN, List.getElem?_eq_getElem hlast]
    obtain rfl : true = b := hbq
    have hq2 : R.refs[N - 1] = q := hq
    obtain ⟨g, off, rfl, hg, hr⟩ := hr2.get hlast
    rw [hq2] at hr
    have hN0 : ((N : Int) == 0) = false := by simp [h0]
    obtain ⟨m, hm⟩ : ∃ m, N - 1 = m := ⟨_, rfl⟩
    rw [hm] at hr
    have hr' : w2.rangeAt g (off + m * 32) (bvs q.1) := hr
    have HLD := Lib.hid hr'
    clear hr'
    have HSL := Lib.hid (sizeId q)
    have hNl : (N : Int) - 1 = (m : Int) := by omega
    have hm0 : (0 : Int) ≤ (m : Int) := by omega
    have hNI : (1 : Int) ≤ (N : Int) := by omega
    have hlt1 : (m : Int) < (N : Int) := by omega
    have HR2 := Lib.hid hr2
    clear h0 hN hQ hre hx1 hb1 hb2 hx2 hb3 hx3 hr2 hR hs1 hq hq2 hr hm hn2 hst hlast
    go_enter Try.func30, Try.ntmps30
    go_wp2_with (first | (with_reducible refine wpList_load_mid rfl 31 _ rfl g (off + m * 32) rfl (bvs q.1) _ HLD.out Try.underlying31 rfl HSL.out ?_) | (with_reducible refine wpList_store_row rfl 31 _ _ rfl w1.heap.size (bvs q.1).toArray rfl rfl 31 _ HN2.out HSZ.out HZS.out (oneCell_bvs _) ?_; rw [HST.out]))
    exact bodyPost_ret (results_cell_tmp_row (g := w1.heap.size) rfl _ _ _ _ _ _ rfl HX3.out Try.underlying31 rfl HSZ.out) rfl ⟨rfl, HB.out⟩
end Go.Proofs.Ytjjanjhoaiannaa
