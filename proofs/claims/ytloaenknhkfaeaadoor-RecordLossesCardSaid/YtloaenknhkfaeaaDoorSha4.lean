/- sha256: a hash in memory, what it has absorbed. Plain law; no walk. -/
import Derived.Test.YtloaenknhkfaeaaDoorSha3
namespace Go.Proofs.YtloaenknhkfaeaaDoor
open Go.RowKit
set_option linter.unusedVariables false
set_option linter.unusedSimpArgs false

/-- The state behind the first k blocks of a message. -/
def blkW (v : W8) (ms : List UInt8) : Nat → W8
  | 0 => v
  | k + 1 => procW (blkW v ms k) (loadW ((ms.drop (64 * k)).take 64))
theorem blkW_append (v : W8) (ms l : List UInt8) : ∀ k, 64 * k ≤ ms.length → blkW v (ms ++ l) k = blkW v ms k
  | 0, _ => rfl
  | k + 1, h => by
    rw [blkW, blkW, blkW_append v ms l k (by omega)]
    congr 2
    rw [List.drop_append_of_le_length (by omega), List.take_append_of_le_length (by simp; omega)]

/-- A hash that has absorbed the message M. -/
structure HS (v : W8) (buf M : List UInt8) : Prop where
  len : buf.length = 64
  st : v = blkW w8init M (M.length / 64)
  buf : buf.take (M.length % 64) = M.drop (64 * (M.length / 64))

/-- The buffer when k more bytes have been copied into it at r. -/
def bufP (buf : List UInt8) (r : Nat) (c : List UInt8) : List UInt8 := buf.take r ++ c ++ buf.drop (r + c.length)
theorem bufP_length {buf c : List UInt8} {r : Nat} (h : buf.length = 64) (hr : r + c.length ≤ 64) : (bufP buf r c).length = 64 := by
  simp [bufP]; omega

theorem HS.part {v : W8} {buf M c : List UInt8} (h : HS v buf M) (hc : M.length % 64 + c.length < 64) : HS v (bufP buf (M.length % 64) c) (M ++ c) := by
  have e1 : (M ++ c).length / 64 = M.length / 64 := by rw [List.length_append]; omega
  have e2 : (M ++ c).length % 64 = M.length % 64 + c.length := by rw [List.length_append]; omega
  refine ⟨bufP_length h.len (by omega), ?_, ?_⟩
  · rw [e1, blkW_append _ _ _ _ (by omega)]; exact h.st
  · rw [e1, e2, List.drop_append_of_le_length (by omega), ← h.buf, bufP]
    have hl : (buf.take (M.length % 64) ++ c).length = M.length % 64 + c.length := by simp [h.len]; omega
    rw [List.take_append_of_le_length (by omega), ← hl, List.take_length]
theorem HS.full {v : W8} {buf M c : List UInt8} (h : HS v buf M) (hc : M.length % 64 + c.length = 64) : HS (procW v (loadW (bufP buf (M.length % 64) c))) (bufP buf (M.length % 64) c) (M ++ c) := by
  have e1 : (M ++ c).length / 64 = M.length / 64 + 1 := by rw [List.length_append]; omega
  have e2 : (M ++ c).length % 64 = 0 := by rw [List.length_append]; omega
  have hb : bufP buf (M.length % 64) c = (M ++ c).drop (64 * (M.length / 64)) := by
    rw [List.drop_append_of_le_length (by omega), ← h.buf, bufP, List.drop_of_length_le (by rw [h.len]; omega), List.append_nil]
  refine ⟨bufP_length h.len (by omega), ?_, ?_⟩
  · rw [e1, blkW, blkW_append _ _ _ _ (by omega), ← h.st]
    congr 2
    rw [hb, List.take_of_length_le]
    simp; omega
  · rw [e1, e2, List.drop_of_length_le (by simp; omega)]; rfl

def hcells (v : W8) (buf : List UInt8) (n : Nat) : List Value := v.cells ++ (bvs buf ++ [.int .i64 (n : Int)])
theorem hcells_length {v : W8} {buf : List UInt8} {n : Nat} (h : buf.length = 64) : (hcells v buf n).length = 73 := by simp [hcells, W8.cells, h]

/-- Block b is a hash with that state. -/
structure HashAt (w : World) (b : Nat) (v : W8) (buf : List UInt8) (n : Nat) : Prop where
  len : buf.length = 64
  hb : w.heap[b]? = some (.cells (hcells v buf n).toArray 125 (0, 0))

section
variable {w w' : World} {b : Nat} {v v' : W8} {buf : List UInt8} {n : Nat}
theorem HashAt.lt (h : HashAt w b v buf n) : b < w.heap.size := (Array.getElem?_eq_some_iff.1 h.hb).1
theorem HashAt.kept (h : HashAt w b v buf n) (hk : w'.heap[b]? = w.heap[b]?) : HashAt w' b v buf n := ⟨h.len, hk.trans h.hb⟩
theorem HashAt.frozen (h : HashAt w b v buf n) (i : Nat) : w.frozen? ⟨b, i, none⟩ = false := frozen_of_row w b i _ _ h.hb
theorem HashAt.state (h : HashAt w b v buf n) :
    w.cell? ⟨b, 0, none⟩ = some (.int .u32 (wN v.a)) ∧ w.cell? ⟨b, 1, none⟩ = some (.int .u32 (wN v.b)) ∧ w.cell? ⟨b, 2, none⟩ = some (.int .u32 (wN v.c)) ∧ w.cell? ⟨b, 3, none⟩ = some (.int .u32 (wN v.d)) ∧
      w.cell? ⟨b, 4, none⟩ = some (.int .u32 (wN v.e)) ∧ w.cell? ⟨b, 5, none⟩ = some (.int .u32 (wN v.f)) ∧ w.cell? ⟨b, 6, none⟩ = some (.int .u32 (wN v.g)) ∧ w.cell? ⟨b, 7, none⟩ = some (.int .u32 (wN v.i)) := by
  have h0 := fun i => cell_of_row w b i _ _ _ h.hb
  refine ⟨?_, ?_, ?_, ?_, ?_, ?_, ?_, ?_⟩ <;> rw [h0] <;> rfl
theorem HashAt.length (h : HashAt w b v buf n) : w.cell? ⟨b, 72, none⟩ = some (.int .i64 (n : Int)) := by
  rw [cell_of_row w b 72 _ _ _ h.hb, List.getElem?_toArray]
  unfold hcells
  rw [List.getElem?_append_right (by simp [W8.cells]), List.getElem?_append_right (by simp [W8.cells, h.len])]
  simp [W8.cells, h.len]
theorem HashAt.range (h : HashAt w b v buf n) : w.rangeAt b 8 (bvs buf) := fun j u hu => by
  rw [cell_of_row w b (8 + j) _ _ _ h.hb, List.getElem?_toArray]
  unfold hcells
  rw [List.getElem?_append_right (by simp [W8.cells])]
  have e : 8 + j - v.cells.length = j := by simp [W8.cells]
  rw [e, List.getElem?_append_left (List.getElem?_eq_some_iff.1 hu).1]
  exact hu

/-- The state is written. -/
theorem HashAt.setState (h : HashAt w b v buf n) (v' : W8) :
    HashAt ((((((((w.setCell ⟨b, 0, none⟩ (.int .u32 (wN v'.a))).setCell ⟨b, 1, none⟩ (.int .u32 (wN v'.b))).setCell ⟨b, 2, none⟩ (.int .u32 (wN v'.c))).setCell ⟨b, 3, none⟩ (.int .u32 (wN v'.d))).setCell ⟨b, 4, none⟩ (.int .u32 (wN v'.e))).setCell
      ⟨b, 5, none⟩ (.int .u32 (wN v'.f))).setCell ⟨b, 6, none⟩ (.int .u32 (wN v'.g))).setCell ⟨b, 7, none⟩ (.int .u32 (wN v'.i))) b v' buf n := by
  refine ⟨h.len, ?_⟩
  have h0 := heap_setCell_same _ b 0 _ _ (.int .u32 (wN v'.a)) h.hb
  have h1 := heap_setCell_same _ b 1 _ _ (.int .u32 (wN v'.b)) h0
  have h2 := heap_setCell_same _ b 2 _ _ (.int .u32 (wN v'.c)) h1
  have h3 := heap_setCell_same _ b 3 _ _ (.int .u32 (wN v'.d)) h2
  have h4 := heap_setCell_same _ b 4 _ _ (.int .u32 (wN v'.e)) h3
  have h5 := heap_setCell_same _ b 5 _ _ (.int .u32 (wN v'.f)) h4
  have h6 := heap_setCell_same _ b 6 _ _ (.int .u32 (wN v'.g)) h5
  have h7 := heap_setCell_same _ b 7 _ _ (.int .u32 (wN v'.i)) h6
  refine h7.trans ?_
  simp [hcells, W8.cells, wv]
/-- The length is written. -/
theorem HashAt.setLength (h : HashAt w b v buf n) (m : Nat) : HashAt (w.setCell ⟨b, 72, none⟩ (.int .i64 (m : Int))) b v buf m := by
  refine ⟨h.len, (heap_setCell_same _ b 72 _ _ _ h.hb).trans ?_⟩
  have e : ((hcells v buf n).toArray.setIfInBounds 72 (.int .i64 (m : Int))) = (hcells v buf m).toArray := by
    rw [List.setIfInBounds_toArray]
    unfold hcells
    rw [List.set_append_right _ _ (by simp [W8.cells]), List.set_append_right _ _ (by simp [W8.cells, h.len])]
    simp [W8.cells, h.len]
  rw [e]
theorem grown_states (w : World) (b : Nat) (x0 x1 x2 x3 x4 x5 x6 x7 : Value) : w.grownBy ((((((((w.setCell ⟨b, 0, none⟩ x0).setCell ⟨b, 1, none⟩ x1).setCell ⟨b, 2, none⟩ x2).setCell ⟨b, 3, none⟩ x3).setCell ⟨b, 4, none⟩ x4).setCell ⟨b, 5, none⟩ x5).setCell ⟨b, 6, none⟩ x6).setCell ⟨b, 7, none⟩ x7) (some b) := by
  have h := grownBy_setCell
  exact grownBy_trans (grownBy_trans (grownBy_trans (grownBy_trans (grownBy_trans (grownBy_trans (grownBy_trans (h w b 0 x0) (h _ b 1 x1)) (h _ b 2 x2)) (h _ b 3 x3)) (h _ b 4 x4)) (h _ b 5 x5)) (h _ b 6 x6)) (h _ b 7 x7)
end

end Go.Proofs.YtloaenknhkfaeaaDoor
