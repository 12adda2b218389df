/- sha256: a block's words; a digest's bytes; the initial state. -/
import Derived.Test.YtloaenknhkfaeaaDoorSha2
namespace Go.Proofs.YtloaenknhkfaeaaDoor
open Go.RowKit
set_option linter.unusedVariables false
set_option linter.unusedSimpArgs false

/-- An array of one-cell elements at an index. -/
theorem run_index_arr {P : Program} {T E : TypeId} {n : Nat} (hT : P.underlying T = some (.array n E)) (hs : ∀ w, (sizeOf E).run P w = .ok 1 w) (ha : ∀ w, (isAgg E).run P w = .ok false w) {cs : Array Value} {v : Value} (k : Nat) (hk : k < n) (hv : cs[k]? = some v) (w : World) :
    (Instr.index T (.agg cs) (.int .i64 (k : Int))).run P w = .ok v w := by
  have hc : (0 : Int) ≤ (k : Int) ∧ (k : Int) < (n : Int) := by omega
  simp [Instr.index, asIntOf, run_underlying hT, hs, hc, Sem.run_bind, part, ha, hv]
  omega
theorem size_u8 (w : World) : (sizeOf 5).run Tryd.prog w = .ok 1 w := by kernel_rfl
theorem agg_u8 (w : World) : (isAgg 5).run Tryd.prog w = .ok false w := by kernel_rfl
theorem size_u32 (w : World) : (sizeOf 110).run Tryd.prog w = .ok 1 w := by kernel_rfl
theorem agg_u32 (w : World) : (isAgg 110).run Tryd.prog w = .ok false w := by kernel_rfl

theorem oneCell_wvs (l : List UInt32) : (wvs l).toArray.all (·.oneCell') = true := by simp [wvs, wv, Value.oneCell']
theorem run_index_block {l : List UInt8} (hl : l.length = 64) (k : Nat) (hk : k < 64) (w : World) :
    (Instr.index 123 (.agg (bvs l).toArray) (.int .i64 (k : Int))).run Tryd.prog w = .ok (.int .u8 ((l.getD k 0).toNat : Int)) w :=
  run_index_arr Tryd.underlying123 size_u8 agg_u8 k hk (by simp [bvs, bv, hl, hk]) w

/-- The words of a block, when the first k bytes have been taken. -/
def ldAt (l : List UInt8) : Nat → List UInt32
  | 0 => List.replicate 16 0
  | k + 1 => (ldAt l k).set (k / 4) (((ldAt l k).getD (k / 4) 0 <<< 8) ||| (l.getD k 0).toUInt32)
theorem ldAt_length (l : List UInt8) : ∀ k, (ldAt l k).length = 16
  | 0 => by simp [ldAt]
  | k + 1 => by simp [ldAt, ldAt_length l k]
def loadW (l : List UInt8) : List UInt32 := ldAt l 64
theorem wN_byte (b : UInt8) : ((b.toNat : Nat) : Int) = wN b.toUInt32 := by unfold wN; simp
theorem n_shl8 (a : UInt32) (yk : IntKind) : Op.shift .shl .u32 (wN a) yk 8 = (pure (.int .u32 (wN (a <<< 8))) : Sem Value) := by
  rw [shift_shl_any _ _ _ _ (by omega)]
  have := n_shl a 8 (by decide)
  rw [← IntKind.wrap_u32'] at this
  exact congrArg _ (congrArg _ this)

set_option maxRecDepth 100000 in
set_option maxHeartbeats 2000000 in
theorem load_any (l : List UInt8) (hl : l.length = 64) (w : World) :
    Calls Tryd.prog 68 #[.agg (bvs l).toArray] w fun e w' => e = .returned (.agg (wvs (loadW l)).toArray) ∧ Below w.heap.size w w' := by
  obtain ⟨w1, hw1⟩ : ∃ w1, ((w.alloc (.cells (bvs l).toArray 123)).alloc (.cells #[.int .u32 0, .int .u32 0, .int .u32 0, .int .u32 0, .int .u32 0, .int .u32 0, .int .u32 0, .int .u32 0, .int .u32 0, .int .u32 0, .int .u32 0, .int .u32 0, .int .u32 0, .int .u32 0, .int .u32 0, .int .u32 0] 128)).alloc (.cells #[.int .u32 0, .int .u32 0, .int .u32 0, .int .u32 0, .int .u32 0, .int .u32 0, .int .u32 0, .int .u32 0, .int .u32 0, .int .u32 0, .int .u32 0, .int .u32 0, .int .u32 0, .int .u32 0, .int .u32 0, .int .u32 0] 128) = w1 := ⟨_, rfl⟩
  have hb1 : Below w.heap.size w w1 := hw1 ▸ (((Below.refl _ w).alloc (Nat.le_refl _) _).alloc (by simp) _).alloc (by simp; omega) _
  have hs1 : w1.heap.size = w.heap.size + 3 := by rw [← hw1]; simp
  have h3 := heap3 w (.cells (bvs l).toArray 123) (.cells #[.int .u32 0, .int .u32 0, .int .u32 0, .int .u32 0, .int .u32 0, .int .u32 0, .int .u32 0, .int .u32 0, .int .u32 0, .int .u32 0, .int .u32 0, .int .u32 0, .int .u32 0, .int .u32 0, .int .u32 0, .int .u32 0] 128) (.cells #[.int .u32 0, .int .u32 0, .int .u32 0, .int .u32 0, .int .u32 0, .int .u32 0, .int .u32 0, .int .u32 0, .int .u32 0, .int .u32 0, .int .u32 0, .int .u32 0, .int .u32 0, .int .u32 0, .int .u32 0, .int .u32 0] 128)
  have hsz : (Tryd.prog.info? 123).map (·.size) = some (bvs l).toArray.size := by
    have : (Tryd.prog.info? 123).map (·.size) = some 64 := by kernel_rfl
    rw [this, List.size_toArray, bvs_length, hl]
  have H3 := Lib.hid h3
  have HB1 := Lib.hid hb1
  have HSZ := Lib.hid hsz
  have HW1 := Lib.hid hw1
  have HS1 := Lib.hid hs1
  have HL := Lib.hid hl
  clear h3 hb1 hsz hw1 hs1 hl
  go_enter Tryd.func68, Tryd.ntmps68
  go_wp2_with (with_reducible refine wpList_load_row rfl 123 _ rfl w.heap.size rfl 123 (bvs l).toArray (0, 0) _ H3.out.1 Tryd.underlying123 rfl HSZ.out ?_)
  rw [HW1.out] at H3 ⊢
  go_loopw [7] (fun i wr => ∃ k : Nat, k ≤ 64 ∧ i = .int .i64 (k : Int) ∧ wr.heap[w.heap.size + 1 + 1]? = some (.cells (wvs (ldAt l k)).toArray 128 (0, 0)) ∧
      wr.heap[w.heap.size + 1]? = some (.cells #[.int .u32 0, .int .u32 0, .int .u32 0, .int .u32 0, .int .u32 0, .int .u32 0, .int .u32 0, .int .u32 0, .int .u32 0, .int .u32 0, .int .u32 0, .int .u32 0, .int .u32 0, .int .u32 0, .int .u32 0, .int .u32 0] 128 (0, 0)) ∧ Below w.heap.size w wr)
    (fun i _ => 64 - (intOf i).toNat)
  case atStart => exact ⟨0, Nat.zero_le _, rfl, H3.out.2.2, H3.out.2.1, HB1.out⟩
  case round =>
    obtain ⟨k, hk, rfl, hW, hR, hB⟩ := hrel
    by_cases hlt : k < 64
    · have hix := fun w => run_index_block HL.out k hlt w
      have hwl := ldAt_length l k
      obtain ⟨x, hx⟩ : ∃ x, (ldAt l k).getD (k / 4) 0 = x := ⟨_, rfl⟩
      obtain ⟨c, hc⟩ : ∃ c : Int, ((l.getD k 0).toNat : Int) = c := ⟨_, rfl⟩
      have hc0 : 0 ≤ c := by omega
      have hc1 : c < 256 := by have := (l.getD k 0).toNat_lt; omega
      rw [hc] at hix
      have hor : ∀ a, bits .or .u32 (wN a) c = wN (a ||| (l.getD k 0).toUInt32) := fun a => by rw [← hc, wN_byte, n_or]
      have hsh := fun a => n_shl8 a .u64
      have hcell : wr.cell? ⟨w.heap.size + 1 + 1, k / 4, none⟩ = some (.int .u32 (wN x)) := by rw [cell_of_row wr _ _ _ _ _ hW, wvs_at _ _ (by omega), hx]
      have hfr := frozen_of_row wr _ (k / 4) _ _ hW
      obtain ⟨y, hy⟩ : ∃ y, x <<< 8 ||| (l.getD k 0).toUInt32 = y := ⟨_, rfl⟩
      have hor2 : bits .or .u32 (wN (x <<< 8)) c = wN y := by rw [hor, hy]
      have hst : ldAt l (k + 1) = (ldAt l k).set (k / 4) y := by rw [ldAt, hx, hy]
      have hW2 : ∀ w2, w2 = wr.setCell ⟨w.heap.size + 1 + 1, k / 4, none⟩ (.int .u32 (wN y)) → w2.heap[w.heap.size + 1 + 1]? = some (.cells (wvs (ldAt l (k + 1))).toArray 128 (0, 0)) := by
        rintro _ rfl
        refine (heap_setCell_same wr _ _ _ _ _ hW).trans ?_
        rw [hst]; simp [wvs, wv]
      have hR2 : (wr.setCell ⟨w.heap.size + 1 + 1, k / 4, none⟩ (.int .u32 (wN y))).heap[w.heap.size + 1]? = _ := (heap_setCell_other wr _ _ _ (by show w.heap.size + 1 ≠ w.heap.size + 1 + 1; omega)).trans hR
      have HW2 := Lib.hid hW2
      have HR2 := Lib.hid hR2
      have HB := Lib.hid hB
      clear hor hwl hx hc hy hst hW2 hR2 hB hW hR
      go_wp2_with fail
      go_roundw
      case rel => exact ⟨k + 1, by omega, by go_num, HW2.out _ rfl, HR2.out, HB.out.setCell (by show w.heap.size ≤ w.heap.size + 1 + 1; omega) _⟩
      case measure => simp [intOf]; omega
    · obtain rfl : k = 64 := by omega
      have hsz : (Tryd.prog.info? 128).map (·.size) = some (wvs (loadW l)).toArray.size := by
        have : (Tryd.prog.info? 128).map (·.size) = some 16 := by kernel_rfl
        rw [this, List.size_toArray, wvs_length]; unfold loadW; rw [ldAt_length]
      have hzs : (#[.int .u32 0, .int .u32 0, .int .u32 0, .int .u32 0, .int .u32 0, .int .u32 0, .int .u32 0, .int .u32 0, .int .u32 0, .int .u32 0, .int .u32 0, .int .u32 0, .int .u32 0, .int .u32 0, .int .u32 0, .int .u32 0] : Array Value).size = (wvs (loadW l)).toArray.size := by
        show 16 = _
        rw [List.size_toArray, wvs_length]; unfold loadW; rw [ldAt_length]
      have hWl : wr.heap[w.heap.size + 1 + 1]? = some (.cells (wvs (loadW l)).toArray 128 (0, 0)) := hW
      have HSZ := Lib.hid hsz
      have HZS := Lib.hid hzs
      have HWl := Lib.hid hWl
      have HR := Lib.hid hR
      have HB := Lib.hid hB
      clear hsz hzs hWl hW hR hB
      go_wp2_with (first | (with_reducible refine wpList_load_row rfl 128 _ rfl (w.heap.size + 1 + 1) rfl 128 (wvs (loadW l)).toArray (0, 0) _ HWl.out Tryd.underlying128 rfl HSZ.out ?_) | (with_reducible refine wpList_store_row rfl 128 _ _ rfl (w.heap.size + 1) (wvs (loadW l)).toArray rfl rfl 128 _ HR.out HSZ.out HZS.out (oneCell_wvs _) ?_))
      refine bodyPost_ret (v := .agg (wvs (loadW l)).toArray) ?r1 rfl ?r2
      case r1 => exact results_cell_row (g := w.heap.size + 1) rfl _ _ _ _ _ _ rfl (setRow_heap _ _ _ _ _ _ HR.out) Tryd.underlying128 rfl HSZ.out
      case r2 => exact ⟨rfl, below_setRow HB.out (by omega) _⟩

/-! ### the initial state, the digest -/
def w8init : W8 := ⟨0x6a09e667, 0xbb67ae85, 0x3c6ef372, 0xa54ff53a, 0x510e527f, 0x9b05688c, 0x1f83d9ab, 0x5be0cd19⟩
set_option maxHeartbeats 400000 in
theorem initial_any (w : World) : Calls Tryd.prog 66 #[] w fun e w' => e = .returned w8init.val ∧ Below w.heap.size w w' := by
  go_enter Tryd.func66, Tryd.ntmps66
  go_wp2
  refine bodyPost_ret (v := .agg #[.int .u32 1779033703, .int .u32 3144134277, .int .u32 1013904242, .int .u32 2773480762, .int .u32 1359893119, .int .u32 2600822924, .int .u32 528734635, .int .u32 1541459225]) ?r1 rfl ?r2
  case r1 => simp [results, Tryd.results66, go_sem]
  case r2 => exact ⟨rfl, (Below.refl _ w).alloc (Nat.le_refl _) _⟩

def W8.list (v : W8) : List UInt32 := [v.a, v.b, v.c, v.d, v.e, v.f, v.g, v.i]
/-- The byte j of a state. -/
def dgB (v : W8) (j : Nat) : UInt8 := (v.list.getD (j / 4) 0 >>> (UInt32.ofNat (24 - 8 * (j % 4)))).toUInt8
def digestL (v : W8) : List UInt8 := (List.range 32).map (dgB v)
@[simp] theorem digestL_length (v : W8) : (digestL v).length = 32 := by simp [digestL]
def dgAt (v : W8) (n : Nat) : List UInt8 := (List.range 32).map (fun j => if j < n then dgB v j else 0)
theorem dgAt_set (v : W8) (n : Nat) (h : n < 32) : (dgAt v n).set n (dgB v n) = dgAt v (n + 1) := by
  apply List.ext_getElem?
  intro i
  simp only [dgAt, List.getElem?_set, List.length_map, List.length_range, List.getElem?_map]
  by_cases hi : n = i
  · subst hi
    simp [h]
  · by_cases h2 : i < 32
    · simp [hi, h2]
      have e : (i < n + 1) ↔ (i < n) := by omega
      simp [e]
    · simp [hi, h2]
theorem dgAt_end (v : W8) : dgAt v 32 = digestL v := by
  unfold dgAt digestL
  refine List.map_congr_left fun j hj => ?_
  rw [if_pos (List.mem_range.1 hj)]
theorem dgAt_zero (v : W8) : (bvs (dgAt v 0)).toArray = #[.int .u8 0, .int .u8 0, .int .u8 0, .int .u8 0, .int .u8 0, .int .u8 0, .int .u8 0, .int .u8 0, .int .u8 0, .int .u8 0, .int .u8 0, .int .u8 0, .int .u8 0, .int .u8 0, .int .u8 0, .int .u8 0, .int .u8 0, .int .u8 0, .int .u8 0, .int .u8 0, .int .u8 0, .int .u8 0, .int .u8 0, .int .u8 0, .int .u8 0, .int .u8 0, .int .u8 0, .int .u8 0, .int .u8 0, .int .u8 0, .int .u8 0, .int .u8 0] := rfl
theorem dgAt_length (v : W8) (n : Nat) : (dgAt v n).length = 32 := by simp [dgAt]
theorem run_index_w8 (v : W8) (k : Nat) (hk : k < 8) (w : World) :
    (Instr.index 111 (.agg #[.int .u32 (wN v.a), .int .u32 (wN v.b), .int .u32 (wN v.c), .int .u32 (wN v.d), .int .u32 (wN v.e), .int .u32 (wN v.f), .int .u32 (wN v.g), .int .u32 (wN v.i)]) (.int .i64 (k : Int))).run Tryd.prog w = .ok (.int .u32 (wN (v.list.getD k 0))) w :=
  run_index_arr Tryd.underlying111 size_u32 agg_u32 k hk (by rcases k with _ | _ | _ | _ | _ | _ | _ | _ | k <;> first | rfl | omega) w

set_option maxRecDepth 100000 in
set_option maxHeartbeats 2000000 in
theorem digest_any (v : W8) (w : World) : Calls Tryd.prog 69 #[v.val] w fun e w' => e = .returned (cval (digestL v)) ∧ Below w.heap.size w w' := by
  obtain ⟨w1, hw1⟩ : ∃ w1, ((w.alloc (.cells #[.int .u32 (wN v.a), .int .u32 (wN v.b), .int .u32 (wN v.c), .int .u32 (wN v.d), .int .u32 (wN v.e), .int .u32 (wN v.f), .int .u32 (wN v.g), .int .u32 (wN v.i)] 122)).alloc (.cells #[.int .u8 0, .int .u8 0, .int .u8 0, .int .u8 0, .int .u8 0, .int .u8 0, .int .u8 0, .int .u8 0, .int .u8 0, .int .u8 0, .int .u8 0, .int .u8 0, .int .u8 0, .int .u8 0, .int .u8 0, .int .u8 0, .int .u8 0, .int .u8 0, .int .u8 0, .int .u8 0, .int .u8 0, .int .u8 0, .int .u8 0, .int .u8 0, .int .u8 0, .int .u8 0, .int .u8 0, .int .u8 0, .int .u8 0, .int .u8 0, .int .u8 0, .int .u8 0] 108)).alloc (.cells #[.int .u8 0, .int .u8 0, .int .u8 0, .int .u8 0, .int .u8 0, .int .u8 0, .int .u8 0, .int .u8 0, .int .u8 0, .int .u8 0, .int .u8 0, .int .u8 0, .int .u8 0, .int .u8 0, .int .u8 0, .int .u8 0, .int .u8 0, .int .u8 0, .int .u8 0, .int .u8 0, .int .u8 0, .int .u8 0, .int .u8 0, .int .u8 0, .int .u8 0, .int .u8 0, .int .u8 0, .int .u8 0, .int .u8 0, .int .u8 0, .int .u8 0, .int .u8 0] 108) = w1 := ⟨_, rfl⟩
  have hb1 : Below w.heap.size w w1 := hw1 ▸ (((Below.refl _ w).alloc (Nat.le_refl _) _).alloc (by simp) _).alloc (by simp; omega) _
  have h3 := heap3 w (.cells #[.int .u32 (wN v.a), .int .u32 (wN v.b), .int .u32 (wN v.c), .int .u32 (wN v.d), .int .u32 (wN v.e), .int .u32 (wN v.f), .int .u32 (wN v.g), .int .u32 (wN v.i)] 122) (.cells #[.int .u8 0, .int .u8 0, .int .u8 0, .int .u8 0, .int .u8 0, .int .u8 0, .int .u8 0, .int .u8 0, .int .u8 0, .int .u8 0, .int .u8 0, .int .u8 0, .int .u8 0, .int .u8 0, .int .u8 0, .int .u8 0, .int .u8 0, .int .u8 0, .int .u8 0, .int .u8 0, .int .u8 0, .int .u8 0, .int .u8 0, .int .u8 0, .int .u8 0, .int .u8 0, .int .u8 0, .int .u8 0, .int .u8 0, .int .u8 0, .int .u8 0, .int .u8 0] 108) (.cells #[.int .u8 0, .int .u8 0, .int .u8 0, .int .u8 0, .int .u8 0, .int .u8 0, .int .u8 0, .int .u8 0, .int .u8 0, .int .u8 0, .int .u8 0, .int .u8 0, .int .u8 0, .int .u8 0, .int .u8 0, .int .u8 0, .int .u8 0, .int .u8 0, .int .u8 0, .int .u8 0, .int .u8 0, .int .u8 0, .int .u8 0, .int .u8 0, .int .u8 0, .int .u8 0, .int .u8 0, .int .u8 0, .int .u8 0, .int .u8 0, .int .u8 0, .int .u8 0] 108)
  rw [hw1] at h3
  have H3 := Lib.hid h3
  have HB1 := Lib.hid hb1
  have HW1 := Lib.hid hw1
  clear h3 hb1 hw1
  unfold W8.val W8.cells wv
  go_enter Tryd.func69, Tryd.ntmps69
  go_wp2
  rw [HW1.out]
  clear HW1
  go_loopw [24] (fun i wr => ∃ k : Nat, k ≤ 8 ∧ i = .int .i64 (k : Int) ∧ wr.heap[w.heap.size + 1 + 1]? = some (.cells (bvs (dgAt v (4 * k))).toArray 108 (0, 0)) ∧
      wr.heap[w.heap.size + 1]? = some (.cells #[.int .u8 0, .int .u8 0, .int .u8 0, .int .u8 0, .int .u8 0, .int .u8 0, .int .u8 0, .int .u8 0, .int .u8 0, .int .u8 0, .int .u8 0, .int .u8 0, .int .u8 0, .int .u8 0, .int .u8 0, .int .u8 0, .int .u8 0, .int .u8 0, .int .u8 0, .int .u8 0, .int .u8 0, .int .u8 0, .int .u8 0, .int .u8 0, .int .u8 0, .int .u8 0, .int .u8 0, .int .u8 0, .int .u8 0, .int .u8 0, .int .u8 0, .int .u8 0] 108 (0, 0)) ∧ Below w.heap.size w wr)
    (fun i _ => 8 - (intOf i).toNat)
  case atStart => exact ⟨0, Nat.zero_le _, rfl, H3.out.2.2, H3.out.2.1, HB1.out⟩
  case round =>
    obtain ⟨k, hk, rfl, hW, hR, hB⟩ := hrel
    by_cases hlt : k < 8
    · obtain ⟨wo, rfl⟩ : ∃ wo : World, wo = wr := ⟨_, rfl⟩
      have hix := fun w => run_index_w8 v k hlt w
      obtain ⟨x, hx⟩ : ∃ x, v.list.getD k 0 = x := ⟨_, rfl⟩
      rw [hx] at hix
      have HX := Lib.hid hx
      have HW := Lib.hid hW
      have HR := Lib.hid hR
      have HB := Lib.hid hB
      clear hx hW hR hB
      go_wp2_with fail
      clear hix
      go_loopw [28] (fun i wr => ∃ j : Nat, j ≤ 4 ∧ i = .int .i64 (j : Int) ∧ wr.heap[w.heap.size + 1 + 1]? = some (.cells (bvs (dgAt v (4 * k + j))).toArray 108 (0, 0)) ∧
          wr.heap[w.heap.size + 1]? = some (.cells #[.int .u8 0, .int .u8 0, .int .u8 0, .int .u8 0, .int .u8 0, .int .u8 0, .int .u8 0, .int .u8 0, .int .u8 0, .int .u8 0, .int .u8 0, .int .u8 0, .int .u8 0, .int .u8 0, .int .u8 0, .int .u8 0, .int .u8 0, .int .u8 0, .int .u8 0, .int .u8 0, .int .u8 0, .int .u8 0, .int .u8 0, .int .u8 0, .int .u8 0, .int .u8 0, .int .u8 0, .int .u8 0, .int .u8 0, .int .u8 0, .int .u8 0, .int .u8 0] 108 (0, 0)) ∧ Below w.heap.size w wr)
        (fun i _ => 4 - (intOf i).toNat)
      case atStart => exact ⟨0, Nat.zero_le _, rfl, HW.out, HR.out, HB.out⟩
      case round =>
        obtain ⟨j, hj, rfl, hW, hR, hB⟩ := hrel
        by_cases hj4 : j < 4
        · obtain ⟨y, hy⟩ : ∃ y, x >>> (UInt32.ofNat (24 - 8 * j)) = y := ⟨_, rfl⟩
          obtain ⟨c, hc⟩ : ∃ c : Int, ((dgB v (4 * k + j)).toNat : Int) = c := ⟨_, rfl⟩
          have hby : wN x / 2 ^ (24 - 8 * j) % 256 = c := by
            rw [n_shr x (24 - 8 * j) (by omega), ← hc]
            unfold dgB wN
            rw [show (4 * k + j) / 4 = k by omega, show (4 * k + j) % 4 = j by omega, HX.out]
            simp
          have hcell : wr.cell? ⟨w.heap.size + 1 + 1, 4 * k + j, none⟩ = some (.int .u8 0) := by
            rw [cell_of_row wr _ _ _ _ _ hW]
            simp [bvs, bv, dgAt, show 4 * k + j < 32 by omega]
          have hfr := frozen_of_row wr _ (4 * k + j) _ _ hW
          have hW2 : (wr.setCell ⟨w.heap.size + 1 + 1, 4 * k + j, none⟩ (.int .u8 c)).heap[w.heap.size + 1 + 1]? = some (.cells (bvs (dgAt v (4 * k + (j + 1)))).toArray 108 (0, 0)) := by
            refine (heap_setCell_same wr _ _ _ _ _ hW).trans ?_
            rw [show 4 * k + (j + 1) = 4 * k + j + 1 by omega, ← dgAt_set v _ (by omega), ← hc]
            simp [bvs, bv]
          have hR2 : (wr.setCell ⟨w.heap.size + 1 + 1, 4 * k + j, none⟩ (.int .u8 c)).heap[w.heap.size + 1]? = _ := (heap_setCell_other wr _ _ _ (by show w.heap.size + 1 ≠ w.heap.size + 1 + 1; omega)).trans hR
          have HW2 := Lib.hid hW2
          have HR2 := Lib.hid hR2
          have HBr := Lib.hid hB
          have HBY := Lib.hid hby
          clear hW2 hR2 hB hW hR hc hby
          go_wp2_with fail
          go_roundw
          case rel => exact ⟨j + 1, by omega, by go_num, by rw [HBY.out]; exact HW2.out, by rw [HBY.out]; exact HR2.out, HBr.out.setCell (by show w.heap.size ≤ w.heap.size + 1 + 1; omega) _⟩
          case measure => simp [intOf]; omega
        · obtain rfl : j = 4 := by omega
          have HW2 := Lib.hid hW
          have HR2 := Lib.hid hR
          have HBr := Lib.hid hB
          clear hB hW hR
          go_wp2_with fail
          go_roundw
          case rel => exact ⟨k + 1, by omega, by go_num, HW2.out, HR2.out, HBr.out⟩
          case measure => simp [intOf]; omega
    · obtain rfl : k = 8 := by omega
      have e32 := dgAt_end v
      have hWl : wr.heap[w.heap.size + 1 + 1]? = some (.cells (bvs (digestL v)).toArray 108 (0, 0)) := by rw [← e32]; exact hW
      have hsz : (Tryd.prog.info? 108).map (·.size) = some (bvs (digestL v)).toArray.size := by
        have : (Tryd.prog.info? 108).map (·.size) = some 32 := by kernel_rfl
        rw [this, List.size_toArray, bvs_length, digestL_length]
      have hzs : (#[.int .u8 0, .int .u8 0, .int .u8 0, .int .u8 0, .int .u8 0, .int .u8 0, .int .u8 0, .int .u8 0, .int .u8 0, .int .u8 0, .int .u8 0, .int .u8 0, .int .u8 0, .int .u8 0, .int .u8 0, .int .u8 0, .int .u8 0, .int .u8 0, .int .u8 0, .int .u8 0, .int .u8 0, .int .u8 0, .int .u8 0, .int .u8 0, .int .u8 0, .int .u8 0, .int .u8 0, .int .u8 0, .int .u8 0, .int .u8 0, .int .u8 0, .int .u8 0] : Array Value).size = (bvs (digestL v)).toArray.size := by
        show 32 = _
        rw [List.size_toArray, bvs_length, digestL_length]
      have HSZ := Lib.hid hsz
      have HZS := Lib.hid hzs
      have HWl := Lib.hid hWl
      have HR := Lib.hid hR
      have HB := Lib.hid hB
      clear hsz hzs hWl hW hR hB e32
      go_wp2_with (first | (with_reducible refine wpList_load_row rfl 108 _ rfl (w.heap.size + 1 + 1) rfl 108 (bvs (digestL v)).toArray (0, 0) _ HWl.out Tryd.underlying108 rfl HSZ.out ?_) | (with_reducible refine wpList_store_row rfl 108 _ _ rfl (w.heap.size + 1) (bvs (digestL v)).toArray rfl rfl 108 _ HR.out HSZ.out HZS.out (oneCell_bvs _) ?_))
      refine bodyPost_ret (v := .agg (bvs (digestL v)).toArray) ?r1 rfl ?r2
      case r1 => exact results_cell_row (g := w.heap.size + 1) rfl _ _ _ _ _ _ rfl (setRow_heap _ _ _ _ _ _ HR.out) Tryd.underlying108 rfl HSZ.out
      case r2 => exact ⟨rfl, below_setRow HB.out (by omega) _⟩

end Go.Proofs.YtloaenknhkfaeaaDoor
