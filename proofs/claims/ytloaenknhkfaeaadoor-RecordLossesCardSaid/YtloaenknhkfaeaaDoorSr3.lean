/- The reference's SHA-256: the schedule of a block. -/
import Derived.Test.YtloaenknhkfaeaaDoorSr2
namespace Go.Proofs.YtloaenknhkfaeaaDoor
open Go.RowKit
set_option linter.unusedVariables false
set_option linter.unusedSimpArgs false

theorem rrot_q (x : UInt32) (k : Int) (h1 : 0 < k) (h2 : k < 32) (w : World) :
    Calls Tryd.prog 62 #[.int .u32 (wN x), .int .i64 k] w fun e w' => e = .returned (.int .u32 (wN (rotr x k.toNat))) ∧ ∃ m, w' = w.drewN m := by
  obtain ⟨n, rfl⟩ := Int.eq_ofNat_of_zero_le (show 0 ≤ k by omega)
  exact rrot_any x n (by omega) (by omega) w

def word4 (l : List UInt8) (t : Nat) : UInt32 :=
  ((l.getD (4 * t) 0).toUInt32 <<< 24) ||| ((l.getD (4 * t + 1) 0).toUInt32 <<< 16) ||| ((l.getD (4 * t + 2) 0).toUInt32 <<< 8) ||| (l.getD (4 * t + 3) 0).toUInt32
/-- The schedule when the first t words are there. -/
def rsAt (l : List UInt8) : Nat → List UInt32
  | 0 => List.replicate 64 0
  | t + 1 => (rsAt l t).set t (if t < 16 then word4 l t else ss1 ((rsAt l t).getD (t - 2) 0) + (rsAt l t).getD (t - 7) 0 + ss0 ((rsAt l t).getD (t - 15) 0) + (rsAt l t).getD (t - 16) 0)
theorem rsAt_length (l : List UInt8) : ∀ t, (rsAt l t).length = 64
  | 0 => by simp [rsAt]
  | t + 1 => by simp [rsAt, rsAt_length l t]
theorem rsAt_zero (l : List UInt8) : ∀ t j, t ≤ j → (rsAt l t).getD j 0 = 0
  | 0, j, _ => by
    simp only [rsAt, List.getD_eq_getElem?_getD, List.getElem?_replicate]
    split <;> rfl
  | t + 1, j, h => by
    have ih := rsAt_zero l t j (by omega)
    simp only [rsAt, List.getD_eq_getElem?_getD] at ih ⊢
    rw [List.getElem?_set_ne (by omega)]
    exact ih
def rsch (l : List UInt8) : List UInt32 := rsAt l 64

theorem n_wrap (a : UInt32) : IntKind.u32.wrap (wN a) = wN a := IntWalk.u32_in _ ⟨wN_nonneg a, by have := wN_lt a; omega⟩
theorem n_shlk (a : UInt32) (yk : IntKind) (n : Nat) (h : n < 32) : Op.shift .shl .u32 (wN a) yk (n : Int) = (pure (.int .u32 (wN (a <<< (UInt32.ofNat n)))) : Sem Value) := by
  rw [shift_shl_any _ _ _ _ (by omega)]
  have e : min (n : Int).toNat IntKind.u32.bits = n := by simp [IntKind.bits]; omega
  rw [e]
  have := n_shl a n h
  rw [← IntKind.wrap_u32'] at this
  exact congrArg _ (congrArg _ this)

theorem shl_24 (a : UInt32) : wN a * (16777216 : Int) % (4294967296 : Int) = wN (a <<< 24) := n_shl a 24 (by decide)
theorem shl_16 (a : UInt32) : wN a * (65536 : Int) % (4294967296 : Int) = wN (a <<< 16) := n_shl a 16 (by decide)
theorem shl_8 (a : UInt32) : wN a * (256 : Int) % (4294967296 : Int) = wN (a <<< 8) := n_shl a 8 (by decide)
theorem word_int (a b c d : UInt32) : bits .or .u32 (bits .or .u32 (bits .or .u32 (wN a * 16777216 % 4294967296) (wN b * 65536 % 4294967296)) (wN c * 256 % 4294967296)) (wN d) = wN (a <<< 24 ||| b <<< 16 ||| c <<< 8 ||| d) := by
  rw [shl_24, shl_16, shl_8, n_or, n_or, n_or]

set_option maxRecDepth 100000 in
set_option maxHeartbeats 2000000 in
theorem rsch_any {w : World} {F : Nat → Prop} (l : List UInt8) (bv0 : Value) (hv : BytesAt w F bv0 l) (hl : l.length = 64) :
    Calls Tryd.prog 61 #[bv0] w fun e w' => e = .returned (.agg (wvs (rsch l)).toArray) ∧ Below w.heap.size w w' := by
  obtain ⟨ba, bc, rfl, hbc, hbr⟩ := hv
  obtain ⟨g, off, rfl, hF, hg, hr⟩ := hbr (by intro e; rw [e] at hl; simp at hl)
  obtain ⟨w1, hw1⟩ : ∃ w1, (w.alloc (.cells #[.int .u32 0, .int .u32 0, .int .u32 0, .int .u32 0, .int .u32 0, .int .u32 0, .int .u32 0, .int .u32 0, .int .u32 0, .int .u32 0, .int .u32 0, .int .u32 0, .int .u32 0, .int .u32 0, .int .u32 0, .int .u32 0, .int .u32 0, .int .u32 0, .int .u32 0, .int .u32 0, .int .u32 0, .int .u32 0, .int .u32 0, .int .u32 0, .int .u32 0, .int .u32 0, .int .u32 0, .int .u32 0, .int .u32 0, .int .u32 0, .int .u32 0, .int .u32 0, .int .u32 0, .int .u32 0, .int .u32 0, .int .u32 0, .int .u32 0, .int .u32 0, .int .u32 0, .int .u32 0, .int .u32 0, .int .u32 0, .int .u32 0, .int .u32 0, .int .u32 0, .int .u32 0, .int .u32 0, .int .u32 0, .int .u32 0, .int .u32 0, .int .u32 0, .int .u32 0, .int .u32 0, .int .u32 0, .int .u32 0, .int .u32 0, .int .u32 0, .int .u32 0, .int .u32 0, .int .u32 0, .int .u32 0, .int .u32 0, .int .u32 0, .int .u32 0] 112)).alloc (.cells #[.int .u32 0, .int .u32 0, .int .u32 0, .int .u32 0, .int .u32 0, .int .u32 0, .int .u32 0, .int .u32 0, .int .u32 0, .int .u32 0, .int .u32 0, .int .u32 0, .int .u32 0, .int .u32 0, .int .u32 0, .int .u32 0, .int .u32 0, .int .u32 0, .int .u32 0, .int .u32 0, .int .u32 0, .int .u32 0, .int .u32 0, .int .u32 0, .int .u32 0, .int .u32 0, .int .u32 0, .int .u32 0, .int .u32 0, .int .u32 0, .int .u32 0, .int .u32 0, .int .u32 0, .int .u32 0, .int .u32 0, .int .u32 0, .int .u32 0, .int .u32 0, .int .u32 0, .int .u32 0, .int .u32 0, .int .u32 0, .int .u32 0, .int .u32 0, .int .u32 0, .int .u32 0, .int .u32 0, .int .u32 0, .int .u32 0, .int .u32 0, .int .u32 0, .int .u32 0, .int .u32 0, .int .u32 0, .int .u32 0, .int .u32 0, .int .u32 0, .int .u32 0, .int .u32 0, .int .u32 0, .int .u32 0, .int .u32 0, .int .u32 0, .int .u32 0] 112) = w1 := ⟨_, rfl⟩
  have hb1 : Below w.heap.size w w1 := hw1 ▸ ((Below.refl _ w).alloc (Nat.le_refl _) _).alloc (by simp) _
  have n1 : w1.heap[w.heap.size]? = some (.cells #[.int .u32 0, .int .u32 0, .int .u32 0, .int .u32 0, .int .u32 0, .int .u32 0, .int .u32 0, .int .u32 0, .int .u32 0, .int .u32 0, .int .u32 0, .int .u32 0, .int .u32 0, .int .u32 0, .int .u32 0, .int .u32 0, .int .u32 0, .int .u32 0, .int .u32 0, .int .u32 0, .int .u32 0, .int .u32 0, .int .u32 0, .int .u32 0, .int .u32 0, .int .u32 0, .int .u32 0, .int .u32 0, .int .u32 0, .int .u32 0, .int .u32 0, .int .u32 0, .int .u32 0, .int .u32 0, .int .u32 0, .int .u32 0, .int .u32 0, .int .u32 0, .int .u32 0, .int .u32 0, .int .u32 0, .int .u32 0, .int .u32 0, .int .u32 0, .int .u32 0, .int .u32 0, .int .u32 0, .int .u32 0, .int .u32 0, .int .u32 0, .int .u32 0, .int .u32 0, .int .u32 0, .int .u32 0, .int .u32 0, .int .u32 0, .int .u32 0, .int .u32 0, .int .u32 0, .int .u32 0, .int .u32 0, .int .u32 0, .int .u32 0, .int .u32 0] 112 (0, 0)) := by rw [← hw1, Below.heap_alloc _ _ _ (by simp)]; exact heap_alloc_new w _
  have n2 : w1.heap[w.heap.size + 1]? = some (.cells #[.int .u32 0, .int .u32 0, .int .u32 0, .int .u32 0, .int .u32 0, .int .u32 0, .int .u32 0, .int .u32 0, .int .u32 0, .int .u32 0, .int .u32 0, .int .u32 0, .int .u32 0, .int .u32 0, .int .u32 0, .int .u32 0, .int .u32 0, .int .u32 0, .int .u32 0, .int .u32 0, .int .u32 0, .int .u32 0, .int .u32 0, .int .u32 0, .int .u32 0, .int .u32 0, .int .u32 0, .int .u32 0, .int .u32 0, .int .u32 0, .int .u32 0, .int .u32 0, .int .u32 0, .int .u32 0, .int .u32 0, .int .u32 0, .int .u32 0, .int .u32 0, .int .u32 0, .int .u32 0, .int .u32 0, .int .u32 0, .int .u32 0, .int .u32 0, .int .u32 0, .int .u32 0, .int .u32 0, .int .u32 0, .int .u32 0, .int .u32 0, .int .u32 0, .int .u32 0, .int .u32 0, .int .u32 0, .int .u32 0, .int .u32 0, .int .u32 0, .int .u32 0, .int .u32 0, .int .u32 0, .int .u32 0, .int .u32 0, .int .u32 0, .int .u32 0] 112 (0, 0)) := by
    have := heap_alloc_new (w.alloc (.cells #[.int .u32 0, .int .u32 0, .int .u32 0, .int .u32 0, .int .u32 0, .int .u32 0, .int .u32 0, .int .u32 0, .int .u32 0, .int .u32 0, .int .u32 0, .int .u32 0, .int .u32 0, .int .u32 0, .int .u32 0, .int .u32 0, .int .u32 0, .int .u32 0, .int .u32 0, .int .u32 0, .int .u32 0, .int .u32 0, .int .u32 0, .int .u32 0, .int .u32 0, .int .u32 0, .int .u32 0, .int .u32 0, .int .u32 0, .int .u32 0, .int .u32 0, .int .u32 0, .int .u32 0, .int .u32 0, .int .u32 0, .int .u32 0, .int .u32 0, .int .u32 0, .int .u32 0, .int .u32 0, .int .u32 0, .int .u32 0, .int .u32 0, .int .u32 0, .int .u32 0, .int .u32 0, .int .u32 0, .int .u32 0, .int .u32 0, .int .u32 0, .int .u32 0, .int .u32 0, .int .u32 0, .int .u32 0, .int .u32 0, .int .u32 0, .int .u32 0, .int .u32 0, .int .u32 0, .int .u32 0, .int .u32 0, .int .u32 0, .int .u32 0, .int .u32 0] 112)) (.cells #[.int .u32 0, .int .u32 0, .int .u32 0, .int .u32 0, .int .u32 0, .int .u32 0, .int .u32 0, .int .u32 0, .int .u32 0, .int .u32 0, .int .u32 0, .int .u32 0, .int .u32 0, .int .u32 0, .int .u32 0, .int .u32 0, .int .u32 0, .int .u32 0, .int .u32 0, .int .u32 0, .int .u32 0, .int .u32 0, .int .u32 0, .int .u32 0, .int .u32 0, .int .u32 0, .int .u32 0, .int .u32 0, .int .u32 0, .int .u32 0, .int .u32 0, .int .u32 0, .int .u32 0, .int .u32 0, .int .u32 0, .int .u32 0, .int .u32 0, .int .u32 0, .int .u32 0, .int .u32 0, .int .u32 0, .int .u32 0, .int .u32 0, .int .u32 0, .int .u32 0, .int .u32 0, .int .u32 0, .int .u32 0, .int .u32 0, .int .u32 0, .int .u32 0, .int .u32 0, .int .u32 0, .int .u32 0, .int .u32 0, .int .u32 0, .int .u32 0, .int .u32 0, .int .u32 0, .int .u32 0, .int .u32 0, .int .u32 0, .int .u32 0, .int .u32 0] 112)
    rw [World.size_alloc] at this
    rw [← hw1]; exact this
  have HR := Lib.hid hr
  have HL := Lib.hid hl
  have HW1 := Lib.hid hw1
  have HB1 := Lib.hid hb1
  have HN1 := Lib.hid n1
  have HN2 := Lib.hid n2
  have e64 : (.slice (some ⟨g, off, none⟩) l.length bc : Value) = .slice (some ⟨g, off, none⟩) 64 bc := by rw [hl]
  rw [e64]
  clear hr hl hw1 hb1 n1 n2 hbc hbr hF e64
  go_enter Tryd.func61, Tryd.ntmps61
  go_wp2_with fail
  rw [HW1.out]
  go_loopw [4] (fun i wr => ∃ k : Nat, k ≤ 64 ∧ i = .int .i64 (k : Int) ∧ wr.heap[w.heap.size + 1]? = some (.cells (wvs (rsAt l k)).toArray 112 (0, 0)) ∧
      wr.heap[w.heap.size]? = some (.cells #[.int .u32 0, .int .u32 0, .int .u32 0, .int .u32 0, .int .u32 0, .int .u32 0, .int .u32 0, .int .u32 0, .int .u32 0, .int .u32 0, .int .u32 0, .int .u32 0, .int .u32 0, .int .u32 0, .int .u32 0, .int .u32 0, .int .u32 0, .int .u32 0, .int .u32 0, .int .u32 0, .int .u32 0, .int .u32 0, .int .u32 0, .int .u32 0, .int .u32 0, .int .u32 0, .int .u32 0, .int .u32 0, .int .u32 0, .int .u32 0, .int .u32 0, .int .u32 0, .int .u32 0, .int .u32 0, .int .u32 0, .int .u32 0, .int .u32 0, .int .u32 0, .int .u32 0, .int .u32 0, .int .u32 0, .int .u32 0, .int .u32 0, .int .u32 0, .int .u32 0, .int .u32 0, .int .u32 0, .int .u32 0, .int .u32 0, .int .u32 0, .int .u32 0, .int .u32 0, .int .u32 0, .int .u32 0, .int .u32 0, .int .u32 0, .int .u32 0, .int .u32 0, .int .u32 0, .int .u32 0, .int .u32 0, .int .u32 0, .int .u32 0, .int .u32 0] 112 (0, 0)) ∧ Below w.heap.size w wr)
    (fun i _ => 64 - (intOf i).toNat)
  case atStart => exact ⟨0, Nat.zero_le _, rfl, HN2.out, HN1.out, HB1.out⟩
  case round =>
    obtain ⟨k, hk, rfl, hW, hR, hB⟩ := hrel
    by_cases hlt : k < 64
    · have hwl := rsAt_length l k
      have hz := rsAt_zero l k k (Nat.le_refl _)
      by_cases h16 : k < 16
      · obtain ⟨x0, hx0⟩ : ∃ x, (l.getD (4 * k) 0).toUInt32 = x := ⟨_, rfl⟩
        obtain ⟨x1, hx1⟩ : ∃ x, (l.getD (4 * k + 1) 0).toUInt32 = x := ⟨_, rfl⟩
        obtain ⟨x2, hx2⟩ : ∃ x, (l.getD (4 * k + 2) 0).toUInt32 = x := ⟨_, rfl⟩
        obtain ⟨x3, hx3⟩ : ∃ x, (l.getD (4 * k + 3) 0).toUInt32 = x := ⟨_, rfl⟩
        have cb : ∀ j (hj : j < 64) x, (l.getD j 0).toUInt32 = x → wr.drew.cell? ⟨g, off + j, none⟩ = some (.int .u8 (wN x)) := by
          intro j hj x hx
          have h1 := HR.out j (.int .u8 ((l.getD j 0).toNat : Int)) (by rw [bvs_getElem?, List.getElem?_eq_getElem (by rw [HL.out]; exact hj)]; simp [bv, List.getD, HL.out, hj])
          rw [← hx, ← wN_byte]
          exact (hB.cell (p := ⟨g, off + j, none⟩) hg).trans h1
        have c0 := cb (4 * k) (by omega) x0 hx0
        have c1 := cb (4 * k + 1) (by omega) x1 hx1
        have c2 := cb (4 * k + 2) (by omega) x2 hx2
        have c3 := cb (4 * k + 3) (by omega) x3 hx3
        have cw : wr.drew.cell? ⟨w.heap.size + 1, k, none⟩ = some (.int .u32 0) := by
          have := cell_of_row wr (w.heap.size + 1) k _ _ _ hW
          rw [wvs_at _ _ (by omega), hz] at this
          exact this
        have fw : wr.drew.frozen? ⟨w.heap.size + 1, k, none⟩ = false := frozen_of_row wr.drew _ k _ _ hW
        have m0 : IntKind.i64.wrap (4 * (k : Int)) = 4 * (k : Int) := IntWalk.i64_in _ (by omega)
        have m1 : IntKind.i64.wrap (4 * (k : Int) + 1) = 4 * (k : Int) + 1 := IntWalk.i64_in _ (by omega)
        have m2 : IntKind.i64.wrap (4 * (k : Int) + 2) = 4 * (k : Int) + 2 := IntWalk.i64_in _ (by omega)
        have m3 : IntKind.i64.wrap (4 * (k : Int) + 3) = 4 * (k : Int) + 3 := IntWalk.i64_in _ (by omega)
        have hwr := n_wrap
        have HX0 := Lib.hid hx0
        have HX1 := Lib.hid hx1
        have HX2 := Lib.hid hx2
        have HX3 := Lib.hid hx3
        have HW := Lib.hid hW
        have HRR := Lib.hid hR
        have HB := Lib.hid hB
        clear hx0 hx1 hx2 hx3 hW hR hB cb hz hwl
        go_wp2_with fail
        go_region
        rw [word_int x0 x1 x2 x3]
        obtain ⟨y, hy⟩ : ∃ y, x0 <<< 24 ||| x1 <<< 16 ||| x2 <<< 8 ||| x3 = y := ⟨_, rfl⟩
        have hst : rsAt l (k + 1) = (rsAt l k).set k y := by
          rw [rsAt, if_pos h16, word4, HX0.out, HX1.out, HX2.out, HX3.out, hy]
        obtain ⟨W3, hW3⟩ : ∃ W3, (wr.setCell ⟨w.heap.size + 1, k, none⟩ (.int .u32 (wN y))).drew = W3 := ⟨_, rfl⟩
        have q1 : W3.heap[w.heap.size + 1]? = some (.cells (wvs (rsAt l (k + 1))).toArray 112 (0, 0)) := by
          rw [← hW3, hst]
          refine (heap_setCell_same wr (w.heap.size + 1) k _ _ (.int .u32 (wN y)) HW.out).trans ?_
          simp [wvs, wv]
        have q2 : W3.heap[w.heap.size]? = wr.heap[w.heap.size]? := by rw [← hW3]; exact (heap_setCell_other wr ⟨w.heap.size + 1, k, none⟩ _ _ (by show w.heap.size ≠ w.heap.size + 1; omega))
        have q3 : Below w.heap.size w W3 := by rw [← hW3]; exact (HB.out.setCell (Nat.le_succ _) _).drew
        rw [hy, hW3]
        have Q1 := Lib.hid q1
        have Q2 := Lib.hid (q2.trans HRR.out)
        have Q3 := Lib.hid q3
        clear q1 q2 q3 hW3 hy hst c0 c1 c2 c3 cw fw m0 m1 m2 m3 hwr
        go_wp2_with fail
        go_roundw
        case rel => exact ⟨k + 1, by omega, by go_num, Q1.out, Q2.out, Q3.out⟩
        case measure => simp [intOf]; omega
      · obtain ⟨xb, hxb⟩ : ∃ x, (rsAt l k).getD (k - 2) 0 = x := ⟨_, rfl⟩
        obtain ⟨xa, hxa⟩ : ∃ x, (rsAt l k).getD (k - 15) 0 = x := ⟨_, rfl⟩
        obtain ⟨xc, hxc⟩ : ∃ x, (rsAt l k).getD (k - 7) 0 = x := ⟨_, rfl⟩
        obtain ⟨xo, hxo⟩ : ∃ x, (rsAt l k).getD (k - 16) 0 = x := ⟨_, rfl⟩
        have cb : wr.cell? ⟨w.heap.size + 1, k - 2, none⟩ = some (.int .u32 (wN xb)) := by rw [cell_of_row wr _ _ _ _ _ hW, wvs_at _ _ (by omega), hxb]
        have ca : wr.cell? ⟨w.heap.size + 1, k - 15, none⟩ = some (.int .u32 (wN xa)) := by rw [cell_of_row wr _ _ _ _ _ hW, wvs_at _ _ (by omega), hxa]
        have cc : wr.cell? ⟨w.heap.size + 1, k - 7, none⟩ = some (.int .u32 (wN xc)) := by rw [cell_of_row wr _ _ _ _ _ hW, wvs_at _ _ (by omega), hxc]
        have co : wr.cell? ⟨w.heap.size + 1, k - 16, none⟩ = some (.int .u32 (wN xo)) := by rw [cell_of_row wr _ _ _ _ _ hW, wvs_at _ _ (by omega), hxo]
        have h16' : (16 : Int) ≤ (k : Int) := by omega
        have eb : IntKind.i64.wrap ((k : Int) - 2) = ((k - 2 : Nat) : Int) := by rw [IntWalk.i64_in _ (by omega)]; omega
        have ea : IntKind.i64.wrap ((k : Int) - 15) = ((k - 15 : Nat) : Int) := by rw [IntWalk.i64_in _ (by omega)]; omega
        have ec : IntKind.i64.wrap ((k : Int) - 7) = ((k - 7 : Nat) : Int) := by rw [IntWalk.i64_in _ (by omega)]; omega
        have eo : IntKind.i64.wrap ((k : Int) - 16) = ((k - 16 : Nat) : Int) := by rw [IntWalk.i64_in _ (by omega)]; omega
        have lb : ((k - 2 : Nat) : Int) < 64 := by omega
        have la : ((k - 15 : Nat) : Int) < 64 := by omega
        have lc : ((k - 7 : Nat) : Int) < 64 := by omega
        have lo : ((k - 16 : Nat) : Int) < 64 := by omega
        have HXB := Lib.hid hxb
        have HXA := Lib.hid hxa
        have HXC := Lib.hid hxc
        have HXO := Lib.hid hxo
        have HW := Lib.hid hW
        have HRR := Lib.hid hR
        have HB := Lib.hid hB
        have HZ := Lib.hid hz
        have hlr := (Array.getElem?_eq_some_iff.1 hW).1
        clear hxb hxa hxc hxo hW hR hB hwl hz
        go_wp2_with fail
        go_quiet (fail)
        obtain ⟨W2, hW2⟩ : ∃ W2, wr.drewN nq = W2 := ⟨_, rfl⟩
        have hq : ∀ j : Nat, W2.heap[j]? = wr.heap[j]? := fun j => by rw [← hW2]; rfl
        have HC7 := Lib.hid ((World.cell?_of_block (hq _)).trans cc)
        have HC16 := Lib.hid ((World.cell?_of_block (hq _)).trans co)
        have hlt2 : w.heap.size + 1 < W2.heap.size := by rw [← hW2]; exact hlr
        have HLT := Lib.hid hlt2
        have HW2 := Lib.hid ((hq _).trans HW.out)
        have HR2 := Lib.hid ((hq _).trans HRR.out)
        have hb2 : Below w.heap.size w W2 := by rw [← hW2]; exact below_drewN HB.out _
        have HB2 := Lib.hid hb2
        have hadd := n_add
        have hx := n_xor
        have hsa : ∀ a : UInt32, Op.shift .shr .u32 (wN a) .u64 3 = (pure (.int .u32 (wN (a >>> 3))) : Sem Value) := fun a => n_shift a .u64 3 (by decide)
        have hsb : ∀ a : UInt32, Op.shift .shr .u32 (wN a) .u64 10 = (pure (.int .u32 (wN (a >>> 10))) : Sem Value) := fun a => n_shift a .u64 10 (by decide)
        rw [hW2]
        clear hW2 hq hlt2 hb2 ca cb cc co hlr
        go_wp2_with fail
        refine wp_region_noPanic ?_
        refine wp_region_G [29] (fun w' => Below W2.heap.size W2 w') (by kernel_rfl) ?_
        have hS0 : (fun w' => Below W2.heap.size W2 w') W2.drew := (Below.refl _ _).drew
        refine wpAnyG_pure (i := 0) (v := ?v1) rfl (by kernel_rfl) (by kernel_rfl) (by kernel_rfl) (by kernel_rfl) (fun _ _ _ h => h) (yieldsIf_run rfl (fun w' hw' => ?y1)) (fun _ => hS0) ?_
        case y1 => first | (go_simp; rfl) | (go_simp; done) | rfl
        simp only [Act.put, List.setIfInBounds_toArray, List.set_cons_zero, List.set_cons_succ]
        refine wpAnyG_pure (i := 1) (v := ?v2) rfl (by kernel_rfl) (by kernel_rfl) (by kernel_rfl) (by kernel_rfl) (fun _ _ _ h => h) (yieldsIf_run rfl (fun w' hw' => ?y2)) (fun _ => hS0) ?_
        case y2 => first | (go_simp; rfl) | (go_simp; done) | rfl
        simp only [Act.put, List.setIfInBounds_toArray, List.set_cons_zero, List.set_cons_succ]
        refine wpAnyG_pure (i := 3) (v := ?v3) rfl (by kernel_rfl) (by kernel_rfl) (by kernel_rfl) (by kernel_rfl) (fun _ _ _ h => h) (yieldsIf_run rfl (fun w' hw' => ?y3)) (fun _ => hS0) ?_
        case y3 => first | (go_simp; rfl) | (go_simp; done) | rfl
        simp only [Act.put, List.setIfInBounds_toArray, List.set_cons_zero, List.set_cons_succ]
        refine wpAnyG_pure (i := 6) (v := ?v4) rfl (by kernel_rfl) (by kernel_rfl) (by kernel_rfl) (by kernel_rfl) (fun _ _ _ h => h) (yieldsIf_run rfl (fun w' hw' => ?y4)) (fun _ => hS0) ?_
        case y4 => first | (go_simp; rfl) | (go_simp; done) | rfl
        simp only [Act.put, List.setIfInBounds_toArray, List.set_cons_zero, List.set_cons_succ]
        refine wpAnyG_pure (i := 7) (v := ?v5) rfl (by kernel_rfl) (by kernel_rfl) (by kernel_rfl) (by kernel_rfl) (fun _ _ _ h => h) (yieldsIf_run rfl (fun w' hw' => ?y5)) (fun _ => hS0) ?_
        case y5 => first | (go_simp; rfl) | (go_simp; done) | rfl
        simp only [Act.put, List.setIfInBounds_toArray, List.set_cons_zero, List.set_cons_succ]
        refine wpAnyG_pure (i := 9) (v := ?v6) rfl (by kernel_rfl) (by kernel_rfl) (by kernel_rfl) (by kernel_rfl) (fun _ _ _ h => h) (yieldsIf_run rfl (fun w' hw' => ?y6)) (fun _ => hS0) ?_
        case y6 => first | (go_simp; rfl) | (go_simp; done) | rfl
        simp only [Act.put, List.setIfInBounds_toArray, List.set_cons_zero, List.set_cons_succ]
        refine wpAnyG_pure (i := 10) (v := ?v7) rfl (by kernel_rfl) (by kernel_rfl) (by kernel_rfl) (by kernel_rfl) (fun _ _ _ h => h) (yieldsIf_run rfl (fun w' hw' => ?y7)) (fun _ => hS0) ?_
        case y7 => first | (go_simp; rfl) | (go_simp; done) | rfl
        simp only [Act.put, List.setIfInBounds_toArray, List.set_cons_zero, List.set_cons_succ]
        refine wpAnyG_pure (i := 11) (v := ?v8) rfl (by kernel_rfl) (by kernel_rfl) (by kernel_rfl) (by kernel_rfl) (fun _ _ _ h => h) (yieldsIf_run rfl (fun w' hw' => ?y8)) (fun _ => hS0) ?_
        case y8 => first | (go_simp; rfl) | (go_simp; done) | rfl
        simp only [Act.put, List.setIfInBounds_toArray, List.set_cons_zero, List.set_cons_succ]
        refine wpAnyG_take (i := 12) (v := ?v9) rfl (by kernel_rfl) (by kernel_rfl) (by kernel_rfl) (by kernel_rfl) (fun _ _ _ h => h) (yieldsIf_run rfl (fun w' hw' => ?y9)) hS0 ?_
        case y9 => (have hk := (World.cell?_of_block (hw'.block _ HLT.out)).trans HC7.out; clear hw'; first | (go_simp; rfl) | (go_simp; done))
        simp only [Act.put, List.setIfInBounds_toArray, List.set_cons_zero, List.set_cons_succ]
        refine wpAnyG_pure (i := 14) (v := ?v10) rfl (by kernel_rfl) (by kernel_rfl) (by kernel_rfl) (by kernel_rfl) (fun _ _ _ h => h) (yieldsIf_run rfl (fun w' hw' => ?y10)) (fun _ => hS0) ?_
        case y10 => first | (go_simp; rfl) | (go_simp; done) | rfl
        simp only [Act.put, List.setIfInBounds_toArray, List.set_cons_zero, List.set_cons_succ]
        refine wpAnyG_pure (i := 16) (v := ?v11) rfl (by kernel_rfl) (by kernel_rfl) (by kernel_rfl) (by kernel_rfl) (fun _ _ _ h => h) (yieldsIf_run rfl (fun w' hw' => ?y11)) (fun _ => hS0) ?_
        case y11 => first | (go_simp; rfl) | (go_simp; done) | rfl
        simp only [Act.put, List.setIfInBounds_toArray, List.set_cons_zero, List.set_cons_succ]
        refine wpAnyG_pure (i := 19) (v := ?v12) rfl (by kernel_rfl) (by kernel_rfl) (by kernel_rfl) (by kernel_rfl) (fun _ _ _ h => h) (yieldsIf_run rfl (fun w' hw' => ?y12)) (fun _ => hS0) ?_
        case y12 => first | (go_simp; rfl) | (go_simp; done) | rfl
        simp only [Act.put, List.setIfInBounds_toArray, List.set_cons_zero, List.set_cons_succ]
        refine wpAnyG_pure (i := 20) (v := ?v13) rfl (by kernel_rfl) (by kernel_rfl) (by kernel_rfl) (by kernel_rfl) (fun _ _ _ h => h) (yieldsIf_run rfl (fun w' hw' => ?y13)) (fun _ => hS0) ?_
        case y13 => first | (go_simp; rfl) | (go_simp; done) | rfl
        simp only [Act.put, List.setIfInBounds_toArray, List.set_cons_zero, List.set_cons_succ]
        refine wpAnyG_pure (i := 23) (v := ?v14) rfl (by kernel_rfl) (by kernel_rfl) (by kernel_rfl) (by kernel_rfl) (fun _ _ _ h => h) (yieldsIf_run rfl (fun w' hw' => ?y14)) (fun _ => hS0) ?_
        case y14 => first | (go_simp; rfl) | (go_simp; done) | rfl
        simp only [Act.put, List.setIfInBounds_toArray, List.set_cons_zero, List.set_cons_succ]
        refine wpAnyG_pure (i := 24) (v := ?v15) rfl (by kernel_rfl) (by kernel_rfl) (by kernel_rfl) (by kernel_rfl) (fun _ _ _ h => h) (yieldsIf_run rfl (fun w' hw' => ?y15)) (fun _ => hS0) ?_
        case y15 => first | (go_simp; rfl) | (go_simp; done) | rfl
        simp only [Act.put, List.setIfInBounds_toArray, List.set_cons_zero, List.set_cons_succ]
        refine wpAnyG_pure (i := 25) (v := ?v16) rfl (by kernel_rfl) (by kernel_rfl) (by kernel_rfl) (by kernel_rfl) (fun _ _ _ h => h) (yieldsIf_run rfl (fun w' hw' => ?y16)) (fun _ => hS0) ?_
        case y16 => first | (go_simp; rfl) | (go_simp; done) | rfl
        simp only [Act.put, List.setIfInBounds_toArray, List.set_cons_zero, List.set_cons_succ]
        refine wpAnyG_take (i := 26) (v := ?v17) rfl (by kernel_rfl) (by kernel_rfl) (by kernel_rfl) (by kernel_rfl) (fun _ _ _ h => h) (yieldsIf_run rfl (fun w' hw' => ?y17)) hS0 ?_
        case y17 => (have hk := (World.cell?_of_block (hw'.block _ HLT.out)).trans HC16.out; clear hw'; first | (go_simp; rfl) | (go_simp; done))
        simp only [Act.put, List.setIfInBounds_toArray, List.set_cons_zero, List.set_cons_succ]
        refine wpAnyG_do (i := 2) (by kernel_rfl) rfl rfl (fun K hK => ?_)
        go_simp
        refine (rrot_q xb 17 (by decide) (by decide) _).mono ?_
        rintro e w3 ⟨rfl, mw3, hw3⟩
        have kw3 : Below W2.heap.size W2 w3 := by rw [hw3]; exact below_drewN (Below.refl _ W2).drew _
        clear hw3
        refine hK _ _ kw3 ?_
        clear hK K
        try simp only [Act.put, List.setIfInBounds_toArray, List.set_cons_zero, List.set_cons_succ]
        refine wpAnyG_do (i := 4) (by kernel_rfl) rfl rfl (fun K hK => ?_)
        go_simp
        refine (rrot_q xb 19 (by decide) (by decide) _).mono ?_
        rintro e w4 ⟨rfl, mw4, hw4⟩
        have kw4 : Below W2.heap.size W2 w4 := by rw [hw4]; exact below_drewN kw3 _
        clear hw4
        refine hK _ _ kw4 ?_
        clear hK K
        try simp only [Act.put, List.setIfInBounds_toArray, List.set_cons_zero, List.set_cons_succ]
        refine wpAnyG_pure (i := 5) (v := ?v18) rfl (by kernel_rfl) (by kernel_rfl) (by kernel_rfl) (by kernel_rfl) (fun _ _ _ h => h) (yieldsIf_run rfl (fun w' hw' => ?y18)) (fun _ => kw4) ?_
        case y18 => first | (go_simp; rfl) | (go_simp; done) | rfl
        simp only [Act.put, List.setIfInBounds_toArray, List.set_cons_zero, List.set_cons_succ]
        refine wpAnyG_pure (i := 8) (v := ?v19) rfl (by kernel_rfl) (by kernel_rfl) (by kernel_rfl) (by kernel_rfl) (fun _ _ _ h => h) (yieldsIf_run rfl (fun w' hw' => ?y19)) (fun _ => kw4) ?_
        case y19 => first | (go_simp; rfl) | (go_simp; done) | rfl
        simp only [Act.put, List.setIfInBounds_toArray, List.set_cons_zero, List.set_cons_succ]
        refine wpAnyG_pure (i := 13) (v := ?v20) rfl (by kernel_rfl) (by kernel_rfl) (by kernel_rfl) (by kernel_rfl) (fun _ _ _ h => h) (yieldsIf_run rfl (fun w' hw' => ?y20)) (fun _ => kw4) ?_
        case y20 => first | (go_simp; rfl) | (go_simp; done) | rfl
        simp only [Act.put, List.setIfInBounds_toArray, List.set_cons_zero, List.set_cons_succ]
        refine wpAnyG_do (i := 15) (by kernel_rfl) rfl rfl (fun K hK => ?_)
        go_simp
        refine (rrot_q xa 7 (by decide) (by decide) _).mono ?_
        rintro e w5 ⟨rfl, mw5, hw5⟩
        have kw5 : Below W2.heap.size W2 w5 := by rw [hw5]; exact below_drewN kw4 _
        clear hw5
        refine hK _ _ kw5 ?_
        clear hK K
        try simp only [Act.put, List.setIfInBounds_toArray, List.set_cons_zero, List.set_cons_succ]
        refine wpAnyG_do (i := 17) (by kernel_rfl) rfl rfl (fun K hK => ?_)
        go_simp
        refine (rrot_q xa 18 (by decide) (by decide) _).mono ?_
        rintro e w6 ⟨rfl, mw6, hw6⟩
        have kw6 : Below W2.heap.size W2 w6 := by rw [hw6]; exact below_drewN kw5 _
        clear hw6
        refine hK _ _ kw6 ?_
        clear hK K
        try simp only [Act.put, List.setIfInBounds_toArray, List.set_cons_zero, List.set_cons_succ]
        refine wpAnyG_pure (i := 18) (v := ?v21) rfl (by kernel_rfl) (by kernel_rfl) (by kernel_rfl) (by kernel_rfl) (fun _ _ _ h => h) (yieldsIf_run rfl (fun w' hw' => ?y21)) (fun _ => kw6) ?_
        case y21 => first | (go_simp; rfl) | (go_simp; done) | rfl
        simp only [Act.put, List.setIfInBounds_toArray, List.set_cons_zero, List.set_cons_succ]
        refine wpAnyG_pure (i := 21) (v := ?v22) rfl (by kernel_rfl) (by kernel_rfl) (by kernel_rfl) (by kernel_rfl) (fun _ _ _ h => h) (yieldsIf_run rfl (fun w' hw' => ?y22)) (fun _ => kw6) ?_
        case y22 => first | (go_simp; rfl) | (go_simp; done) | rfl
        simp only [Act.put, List.setIfInBounds_toArray, List.set_cons_zero, List.set_cons_succ]
        refine wpAnyG_pure (i := 22) (v := ?v23) rfl (by kernel_rfl) (by kernel_rfl) (by kernel_rfl) (by kernel_rfl) (fun _ _ _ h => h) (yieldsIf_run rfl (fun w' hw' => ?y23)) (fun _ => kw6) ?_
        case y23 => first | (go_simp; rfl) | (go_simp; done) | rfl
        simp only [Act.put, List.setIfInBounds_toArray, List.set_cons_zero, List.set_cons_succ]
        refine wpAnyG_pure (i := 27) (v := ?v24) rfl (by kernel_rfl) (by kernel_rfl) (by kernel_rfl) (by kernel_rfl) (fun _ _ _ h => h) (yieldsIf_run rfl (fun w' hw' => ?y24)) (fun _ => kw6) ?_
        case y24 => first | (go_simp; rfl) | (go_simp; done) | rfl
        simp only [Act.put, List.setIfInBounds_toArray, List.set_cons_zero, List.set_cons_succ]
        refine wpAnyG_pure (i := 28) (v := ?v25) rfl (by kernel_rfl) (by kernel_rfl) (by kernel_rfl) (by kernel_rfl) (fun _ _ _ h => h) (yieldsIf_run rfl (fun w' hw' => ?y25)) (fun _ => kw6) ?_
        case y25 => first | (go_simp; rfl) | (go_simp; done) | rfl
        simp only [Act.put, List.setIfInBounds_toArray, List.set_cons_zero, List.set_cons_succ]
        refine wpAnyG_fin (i := 29) (by kernel_rfl) rfl rfl (by kernel_rfl) (fun K hK => ?_)
        have hh6 := (kw6.block _ HLT.out).trans HW2.out
        have ef := frozen_of_row w6 _ k _ _ hh6
        have ec_ : w6.cell? ⟨w.heap.size + 1, k, none⟩ = some (.int .u32 0) := by rw [cell_of_row w6 _ _ _ _ _ hh6, wvs_at _ _ (by rw [rsAt_length]; omega), HZ.out]; rfl
        go_simp
        refine hK _ _ ?_
        clear hK K
        try simp only [Act.put, List.setIfInBounds_toArray, List.set_cons_zero, List.set_cons_succ]
        refine wpAnyG_done (by kernel_rfl) ?_ _
        refine NoPanic.normal ?_

        obtain ⟨y, hy⟩ : ∃ y, (rotr xb 17 ^^^ rotr xb 19 ^^^ xb >>> 10) + xc + (rotr xa 7 ^^^ rotr xa 18 ^^^ xa >>> 3) + xo = y := ⟨_, rfl⟩
        have hst : rsAt l (k + 1) = (rsAt l k).set k y := by
          rw [rsAt, if_neg h16, HXB.out, HXA.out, HXC.out, HXO.out, ← hy]
          rfl
        obtain ⟨W3, hW3⟩ : ∃ W3, w6.setCell ⟨w.heap.size + 1, k, none⟩ (.int .u32 (wN y)) = W3 := ⟨_, rfl⟩
        have q1 : W3.heap[w.heap.size + 1]? = some (.cells (wvs (rsAt l (k + 1))).toArray 112 (0, 0)) := by
          rw [← hW3, hst]
          refine (heap_setCell_same w6 (w.heap.size + 1) k _ _ (.int .u32 (wN y)) hh6).trans ?_
          simp [wvs, wv]
        have q2 : W3.heap[w.heap.size]? = w6.heap[w.heap.size]? := by rw [← hW3]; exact (heap_setCell_other w6 ⟨w.heap.size + 1, k, none⟩ _ _ (by show w.heap.size ≠ w.heap.size + 1; omega))
        have q3 : Below w.heap.size w W3 := by rw [← hW3]; exact (HB2.out.trans (kw6.mono HB2.out.size)).setCell (Nat.le_succ _) _
        rw [hy, hW3]
        have Q1 := Lib.hid q1
        have Q2 := Lib.hid ((q2.trans (kw6.block _ (by have := HLT.out; omega))).trans HR2.out)
        have Q3 := Lib.hid q3
        clear q1 q2 q3 hW3 hy hst hadd hx hsa hsb eb ea ec eo hh6 ef ec_ kw3 kw4 kw5 kw6 hS0
        go_wp2_with fail
        go_roundw
        case rel => exact ⟨k + 1, by omega, by go_num, Q1.out, Q2.out, Q3.out⟩
        case measure => simp [intOf]; omega
    · obtain rfl : k = 64 := by omega
      have hsz := sizeT64 (rsch l) (rsAt_length l 64)
      have hzs : (#[.int .u32 0, .int .u32 0, .int .u32 0, .int .u32 0, .int .u32 0, .int .u32 0, .int .u32 0, .int .u32 0, .int .u32 0, .int .u32 0, .int .u32 0, .int .u32 0, .int .u32 0, .int .u32 0, .int .u32 0, .int .u32 0, .int .u32 0, .int .u32 0, .int .u32 0, .int .u32 0, .int .u32 0, .int .u32 0, .int .u32 0, .int .u32 0, .int .u32 0, .int .u32 0, .int .u32 0, .int .u32 0, .int .u32 0, .int .u32 0, .int .u32 0, .int .u32 0, .int .u32 0, .int .u32 0, .int .u32 0, .int .u32 0, .int .u32 0, .int .u32 0, .int .u32 0, .int .u32 0, .int .u32 0, .int .u32 0, .int .u32 0, .int .u32 0, .int .u32 0, .int .u32 0, .int .u32 0, .int .u32 0, .int .u32 0, .int .u32 0, .int .u32 0, .int .u32 0, .int .u32 0, .int .u32 0, .int .u32 0, .int .u32 0, .int .u32 0, .int .u32 0, .int .u32 0, .int .u32 0, .int .u32 0, .int .u32 0, .int .u32 0, .int .u32 0] : Array Value).size = (wvs (rsch l)).toArray.size := by
        show 64 = _
        rw [List.size_toArray, wvs_length]; exact (rsAt_length l 64).symm
      have hWl : wr.heap[w.heap.size + 1]? = some (.cells (wvs (rsch l)).toArray 112 (0, 0)) := hW
      have HSZ := Lib.hid hsz
      have HZS := Lib.hid hzs
      have HWl := Lib.hid hWl
      have HR2 := Lib.hid hR
      have HB := Lib.hid hB
      clear hsz hzs hWl hW hR hB
      go_wp2_with (first | (with_reducible refine wpList_load_row rfl 112 _ rfl (w.heap.size + 1) rfl 112 (wvs (rsch l)).toArray (0, 0) _ HWl.out Tryd.underlying112 rfl HSZ.out ?_) | (with_reducible refine wpList_store_row rfl 112 _ _ rfl w.heap.size (wvs (rsch l)).toArray rfl rfl 112 _ HR2.out HSZ.out HZS.out (oneCell_wvs _) ?_))
      refine bodyPost_ret (v := .agg (wvs (rsch l)).toArray) ?r1 rfl ?r2
      case r1 => exact results_cell_row (g := w.heap.size) rfl _ _ _ _ _ _ rfl (setRow_heap _ _ _ _ _ _ HR2.out) Tryd.underlying112 rfl HSZ.out
      case r2 => exact ⟨rfl, below_setRow HB.out (Nat.le_refl _) _⟩

end Go.Proofs.YtloaenknhkfaeaaDoor
