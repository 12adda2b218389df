/- sha256: the rounds of a block, as they run (the words in a ring of sixteen). -/
import Derived.Test.YtloaenknhkfaeaaDoorSha1
import Derived.Test.YtloaenknhkfaeaaDoorRegion2
import Derived.Deep.RegionHeld3
namespace Go.Proofs.YtloaenknhkfaeaaDoor
open Go.RowKit
set_option linter.unusedVariables false
set_option linter.unusedSimpArgs false

def kTab : List UInt32 := [
  0x428a2f98, 0x71374491, 0xb5c0fbcf, 0xe9b5dba5, 0x3956c25b, 0x59f111f1, 0x923f82a4, 0xab1c5ed5,
  0xd807aa98, 0x12835b01, 0x243185be, 0x550c7dc3, 0x72be5d74, 0x80deb1fe, 0x9bdc06a7, 0xc19bf174,
  0xe49b69c1, 0xefbe4786, 0x0fc19dc6, 0x240ca1cc, 0x2de92c6f, 0x4a7484aa, 0x5cb0a9dc, 0x76f988da,
  0x983e5152, 0xa831c66d, 0xb00327c8, 0xbf597fc7, 0xc6e00bf3, 0xd5a79147, 0x06ca6351, 0x14292967,
  0x27b70a85, 0x2e1b2138, 0x4d2c6dfc, 0x53380d13, 0x650a7354, 0x766a0abb, 0x81c2c92e, 0x92722c85,
  0xa2bfe8a1, 0xa81a664b, 0xc24b8b70, 0xc76c51a3, 0xd192e819, 0xd6990624, 0xf40e3585, 0x106aa070,
  0x19a4c116, 0x1e376c08, 0x2748774c, 0x34b0bcb5, 0x391c0cb3, 0x4ed8aa4a, 0x5b9cca4f, 0x682e6ff3,
  0x748f82ee, 0x78a5636f, 0x84c87814, 0x8cc70208, 0x90befffa, 0xa4506ceb, 0xbef9a3f7, 0xc67178f2]

/-- The table of the constants, where the program keeps it. -/
structure KAt (w : World) : Prop where
  size : 0 < w.heap.size
  cell : ∀ j, j < 64 → w.cell? ⟨0, j, none⟩ = some (.int .u32 (wN (kTab.getD j 0)))

/-- The words in a ring, behind the step t. -/
def ringStep (ws : List UInt32) (t : Nat) : List UInt32 :=
  if t < 16 then ws else ws.set (t % 16) (ws.getD (t % 16) 0 + (ss0 (ws.getD ((t - 15) % 16) 0) + ss1 (ws.getD ((t - 2) % 16) 0) + ws.getD ((t - 7) % 16) 0))
def ringAt (h : W8) (m : List UInt32) : Nat → W8 × List UInt32
  | 0 => (h, m)
  | t + 1 => ((ringAt h m t).1.round (kTab.getD t 0) ((ringStep (ringAt h m t).2 t).getD (t % 16) 0), ringStep (ringAt h m t).2 t)
theorem ringStep_length (ws : List UInt32) (t : Nat) : (ringStep ws t).length = ws.length := by
  unfold ringStep; split <;> simp
theorem ringAt_length (h : W8) (m : List UInt32) : ∀ t, (ringAt h m t).2.length = m.length
  | 0 => rfl
  | t + 1 => by rw [ringAt, ringStep_length]; exact ringAt_length h m t
def procW (h : W8) (m : List UInt32) : W8 := h.plus (ringAt h m 64).1

theorem wvs_at (ws : List UInt32) (i : Nat) (h : i < ws.length) : (wvs ws).toArray[i]? = some (.int .u32 (wN (ws.getD i 0))) := by
  simp [wvs, h, wv, List.getD]
theorem heap_four {w : World} {A B C D : Obj} : ((((w.alloc A).alloc B).alloc C).alloc D).heap[w.heap.size]? = some A ∧ ((((w.alloc A).alloc B).alloc C).alloc D).heap[w.heap.size + 1]? = some B ∧
    ((((w.alloc A).alloc B).alloc C).alloc D).heap[w.heap.size + 2]? = some C ∧ ((((w.alloc A).alloc B).alloc C).alloc D).heap[w.heap.size + 3]? = some D := by
  have h1 := heap_alloc_new w A
  have h2 := heap_alloc_new (w.alloc A) B
  have h3 := heap_alloc_new ((w.alloc A).alloc B) C
  have h4 := heap_alloc_new (((w.alloc A).alloc B).alloc C) D
  simp only [World.size_alloc] at h2 h3 h4
  refine ⟨?_, ?_, ?_, h4⟩
  · rw [Below.heap_alloc _ _ _ (by simp; omega), Below.heap_alloc _ _ _ (by simp; omega), Below.heap_alloc _ _ _ (by simp)]; exact h1
  · rw [Below.heap_alloc _ _ _ (by simp), Below.heap_alloc _ _ _ (by simp)]; exact h2
  · rw [Below.heap_alloc _ _ _ (by simp)]; exact h3

theorem oneCell_w8 (v : W8) : v.cells.toArray.all (·.oneCell') = true := by simp [W8.cells, wv, Value.oneCell']
theorem cells8 {w : World} {b : Nat} {v : W8} {T : TypeId} (h : w.heap[b]? = some (.cells v.cells.toArray T (0, 0))) :
    w.cell? ⟨b, 0, none⟩ = some (.int .u32 (wN v.a)) ∧ w.cell? ⟨b, 1, none⟩ = some (.int .u32 (wN v.b)) ∧ w.cell? ⟨b, 2, none⟩ = some (.int .u32 (wN v.c)) ∧ w.cell? ⟨b, 3, none⟩ = some (.int .u32 (wN v.d)) ∧
      w.cell? ⟨b, 4, none⟩ = some (.int .u32 (wN v.e)) ∧ w.cell? ⟨b, 5, none⟩ = some (.int .u32 (wN v.f)) ∧ w.cell? ⟨b, 6, none⟩ = some (.int .u32 (wN v.g)) ∧ w.cell? ⟨b, 7, none⟩ = some (.int .u32 (wN v.i)) := by
  simp [World.cell?, h, W8.cells, wv]

set_option maxRecDepth 100000 in
set_option maxHeartbeats 2000000 in
theorem process_any (h : W8) (m : List UInt32) (hm : m.length = 16) (w : World) (hK : KAt w) :
    Calls Tryd.prog 67 #[h.val, .agg (wvs m).toArray] w fun e w' => e = .returned (procW h m).val ∧ Below w.heap.size w w' := by
  have h4 := heap_four (w := w) (A := .cells h.cells.toArray 122) (B := .cells (wvs m).toArray 128) (C := .cells #[.int .u32 0, .int .u32 0, .int .u32 0, .int .u32 0, .int .u32 0, .int .u32 0, .int .u32 0, .int .u32 0] 122) (D := .cells h.cells.toArray 122)
  have hb4 : Below w.heap.size w ((((w.alloc (.cells h.cells.toArray 122)).alloc (.cells (wvs m).toArray 128)).alloc (.cells #[.int .u32 0, .int .u32 0, .int .u32 0, .int .u32 0, .int .u32 0, .int .u32 0, .int .u32 0, .int .u32 0] 122)).alloc (.cells h.cells.toArray 122)) := ((((Below.refl _ w).alloc (Nat.le_refl _) _).alloc (by simp) _).alloc (by simp; omega) _).alloc (by simp; omega) _
  have H4 := Lib.hid h4
  have HB4 := Lib.hid hb4
  clear h4 hb4
  unfold W8.val W8.cells wv
  go_enter Tryd.func67, Tryd.ntmps67
  go_wp2
  obtain ⟨w1, hw1⟩ : ∃ w1, _ = w1 := ⟨(((w.alloc (.cells h.cells.toArray 122)).alloc (.cells (wvs m).toArray 128)).alloc (.cells #[.int .u32 0, .int .u32 0, .int .u32 0, .int .u32 0, .int .u32 0, .int .u32 0, .int .u32 0, .int .u32 0] 122)).alloc (.cells h.cells.toArray 122), rfl⟩
  rw [hw1] at H4 HB4
  unfold W8.cells wv at hw1
  rw [hw1]
  clear hw1
  go_loopw [12] (fun i wr => ∃ k : Nat, k ≤ 64 ∧ i = .int .i64 (k : Int) ∧ wr.heap[w.heap.size + 1]? = some (.cells (wvs (ringAt h m k).2).toArray 128 (0, 0)) ∧
      wr.heap[w.heap.size + 3]? = some (.cells (ringAt h m k).1.cells.toArray 122 (0, 0)) ∧ Below w.heap.size w wr ∧ wr.heap[w.heap.size]? = w1.heap[w.heap.size]? ∧ wr.heap[w.heap.size + 2]? = w1.heap[w.heap.size + 2]?)
    (fun i _ => 64 - (intOf i).toNat)
  case atStart => exact ⟨0, Nat.zero_le _, rfl, H4.out.2.1, H4.out.2.2.2, HB4.out, rfl, rfl⟩
  case round =>
    obtain ⟨k, hk, rfl, hW, hV, hB, h0, h2⟩ := hrel
    obtain ⟨v, hv⟩ : ∃ v, (ringAt h m k).1 = v := ⟨_, rfl⟩
    obtain ⟨ws, hws⟩ : ∃ ws, (ringAt h m k).2 = ws := ⟨_, rfl⟩
    have hwl : ws.length = 16 := by rw [← hws, ringAt_length, hm]
    rw [hws] at hW
    rw [hv] at hV
    by_cases hlt : k < 64
    · obtain ⟨kk, hkk⟩ : ∃ kk, kTab.getD k 0 = kk := ⟨_, rfl⟩
      have hkc := hK.cell k hlt
      rw [hkk] at hkc
      have hk1 := (hB.cell (p := ⟨0, k, none⟩) hK.size).trans hkc
      by_cases h16 : 16 ≤ k
      · obtain ⟨i0, hi0⟩ : ∃ i0, i0 = k % 16 := ⟨_, rfl⟩
        obtain ⟨ia, hia⟩ : ∃ i, i = (k - 15) % 16 := ⟨_, rfl⟩
        obtain ⟨ib, hib⟩ : ∃ i, i = (k - 2) % 16 := ⟨_, rfl⟩
        obtain ⟨ic, hic⟩ : ∃ i, i = (k - 7) % 16 := ⟨_, rfl⟩
        have hi16 : i0 < 16 := by omega
        obtain ⟨xo, hxo⟩ : ∃ x, ws.getD i0 0 = x := ⟨_, rfl⟩
        obtain ⟨xa, hxa⟩ : ∃ x, ws.getD ia 0 = x := ⟨_, rfl⟩
        obtain ⟨xb, hxb⟩ : ∃ x, ws.getD ib 0 = x := ⟨_, rfl⟩
        obtain ⟨xc, hxc⟩ : ∃ x, ws.getD ic 0 = x := ⟨_, rfl⟩
        have co : wr.cell? ⟨w.heap.size + 1, i0, none⟩ = some (.int .u32 (wN xo)) := by rw [cell_of_row wr _ _ _ _ _ hW, wvs_at ws i0 (by omega), hxo]
        have ca : wr.cell? ⟨w.heap.size + 1, ia, none⟩ = some (.int .u32 (wN xa)) := by rw [cell_of_row wr _ _ _ _ _ hW, wvs_at ws ia (by omega), hxa]
        have cb : wr.cell? ⟨w.heap.size + 1, ib, none⟩ = some (.int .u32 (wN xb)) := by rw [cell_of_row wr _ _ _ _ _ hW, wvs_at ws ib (by omega), hxb]
        have cc : wr.cell? ⟨w.heap.size + 1, ic, none⟩ = some (.int .u32 (wN xc)) := by rw [cell_of_row wr _ _ _ _ _ hW, wvs_at ws ic (by omega), hxc]
        have fo := frozen_of_row wr _ i0 _ _ hW
        have ea1 : IntKind.i64.wrap ((k : Int) - 15) = (k : Int) - 15 := IntWalk.i64_in _ (by omega)
        have eb1 : IntKind.i64.wrap ((k : Int) - 2) = (k : Int) - 2 := IntWalk.i64_in _ (by omega)
        have ec1 : IntKind.i64.wrap ((k : Int) - 7) = (k : Int) - 7 := IntWalk.i64_in _ (by omega)
        have ea2 : ((k : Int) - 15).tmod 16 = (ia : Int) := by rw [Int.tmod_eq_emod_of_nonneg (by omega)]; omega
        have eb2 : ((k : Int) - 2).tmod 16 = (ib : Int) := by rw [Int.tmod_eq_emod_of_nonneg (by omega)]; omega
        have ec2 : ((k : Int) - 7).tmod 16 = (ic : Int) := by rw [Int.tmod_eq_emod_of_nonneg (by omega)]; omega
        have eo2 : ((k : Int)).tmod 16 = (i0 : Int) := by rw [Int.tmod_eq_emod_of_nonneg (by omega)]; omega
        have hi3 : (i0 : Int) < 16 := by omega
        have ha3 : (ia : Int) < 16 := by omega
        have hb3 : (ib : Int) < 16 := by omega
        have hc3 : (ic : Int) < 16 := by omega
        have hadd := n_add
        have hx := n_xor
        have hsa : ∀ a : UInt32, Op.shift .shr .u32 (wN a) .u64 3 = (pure (.int .u32 (wN (a >>> 3))) : Sem Value) := fun a => n_shift a .u64 3 (by decide)
        have hsb : ∀ a : UInt32, Op.shift .shr .u32 (wN a) .u64 10 = (pure (.int .u32 (wN (a >>> 10))) : Sem Value) := fun a => n_shift a .u64 10 (by decide)
        have h16' : (16 : Int) ≤ (k : Int) := by omega
        have HI0 := Lib.hid hi0
        have HIA := Lib.hid hia
        have HIB := Lib.hid hib
        have HIC := Lib.hid hic
        have HXO := Lib.hid hxo
        have HXA := Lib.hid hxa
        have HXB := Lib.hid hxb
        have HXC := Lib.hid hxc
        have HVE := Lib.hid hv
        have HWE := Lib.hid hws
        have HWL := Lib.hid hwl
        have HKE := Lib.hid hkk
        have HW := Lib.hid hW
        have HV := Lib.hid hV
        have HB := Lib.hid hB
        have H0 := Lib.hid h0
        have H2 := Lib.hid h2
        have HK1 := Lib.hid hk1
        clear hi0 hia hib hic hxo hxa hxb hxc hv hws hwl hkk hkc hW hV hB h0 h2 hk1 h16
        go_wp2_with fail
        go_quiet (fail)
        go_wp2_with (first | (go_at_call 70; (with_reducible refine (rot_q _ _ (by decide) (by decide) _).mono ?_); rintro e w' ⟨rfl, rfl⟩))
        obtain ⟨Wq, hWq⟩ : ∃ Wq, wr.drewN nq = Wq := ⟨_, rfl⟩
        have hq : ∀ j : Nat, Wq.heap[j]? = wr.heap[j]? := fun j => by rw [← hWq]; rfl
        have co1 : Wq.drew.cell? ⟨w.heap.size + 1, i0, none⟩ = some (.int .u32 (wN xo)) := (World.cell?_of_block (hq _)).trans co
        have cc1 : Wq.drew.cell? ⟨w.heap.size + 1, ic, none⟩ = some (.int .u32 (wN xc)) := (World.cell?_of_block (hq _)).trans cc
        have hWQ : Wq.heap[w.heap.size + 1]? = _ := (hq _).trans HW.out
        have fo1 : Wq.drew.frozen? ⟨w.heap.size + 1, i0, none⟩ = false := frozen_of_row Wq.drew _ i0 _ _ hWQ
        have hVQ : Wq.heap[w.heap.size + 3]? = _ := (hq _).trans HV.out
        have h0Q : Wq.heap[w.heap.size]? = _ := (hq _).trans H0.out
        have h2Q : Wq.heap[w.heap.size + 2]? = _ := (hq _).trans H2.out
        have hBQ : Below w.heap.size w Wq := by rw [← hWq]; exact below_drewN HB.out _
        rw [hWq]
        have HWQ := Lib.hid hWQ
        have HVQ := Lib.hid hVQ
        have H0Q := Lib.hid h0Q
        have H2Q := Lib.hid h2Q
        have HBQ := Lib.hid hBQ
        clear hWq hq hWQ hVQ h0Q h2Q hBQ co ca cb cc fo
        go_region
        obtain ⟨W1, hW1e⟩ : ∃ W1, (Wq.setCell ⟨w.heap.size + 1, i0, none⟩ (.int .u32 (wN (xo + ((rotr xa 7 ^^^ rotr xa 18 ^^^ xa >>> 3) + (rotr xb 17 ^^^ rotr xb 19 ^^^ xb >>> 10) + xc))))).drew = W1 := ⟨_, rfl⟩
        obtain ⟨x0, hx0e⟩ : ∃ x0, xo + ((rotr xa 7 ^^^ rotr xa 18 ^^^ xa >>> 3) + (rotr xb 17 ^^^ rotr xb 19 ^^^ xb >>> 10) + xc) = x0 := ⟨_, rfl⟩
        have hws := HWE.out
        have hwl := HWL.out
        have hv := HVE.out
        have hkk := HKE.out
        have hws2 : ringStep ws k = ws.set i0 x0 := by
          unfold ringStep
          rw [if_neg (by omega), ← HI0.out, ← HIA.out, ← HIB.out, ← HIC.out, HXO.out, HXA.out, HXB.out, HXC.out, ← hx0e]
          rfl
        rw [hx0e] at hW1e
        have hW : W1.heap[w.heap.size + 1]? = some (.cells (wvs (ws.set i0 x0)).toArray 128 (0, 0)) := by
          rw [← hW1e]
          have := heap_setCell_same Wq (w.heap.size + 1) i0 _ _ (.int .u32 (wN x0)) HWQ.out
          refine this.trans ?_
          simp [wvs, wv]
        have hot : ∀ j : Nat, j ≠ w.heap.size + 1 → W1.heap[j]? = Wq.heap[j]? := fun j hj => by rw [← hW1e]; exact heap_setCell_other Wq ⟨w.heap.size + 1, i0, none⟩ j _ hj
        have hV : W1.heap[w.heap.size + 3]? = _ := (hot _ (by omega)).trans HVQ.out
        have h0 : W1.heap[w.heap.size]? = _ := (hot _ (by omega)).trans H0Q.out
        have h2 : W1.heap[w.heap.size + 2]? = _ := (hot _ (by omega)).trans H2Q.out
        have hB : Below w.heap.size w W1 := by rw [← hW1e]; exact (HBQ.out.setCell (Nat.le_succ _) _).drew
        have hk1 := (hB.cell (p := ⟨0, k, none⟩) hK.size).trans (hkk ▸ hK.cell k hlt)
        have hx0 : W1.cell? ⟨w.heap.size + 1, i0, none⟩ = some (.int .u32 (wN x0)) := by rw [cell_of_row W1 _ _ _ _ _ hW, wvs_at _ i0 (by simp; omega)]; simp [show i0 < ws.length by omega]
        have hst : ringAt h m (k + 1) = (v.round kk x0, ws.set i0 x0) := by
          rw [ringAt, hv, hws, hws2, hkk, ← HI0.out]
          simp [show i0 < ws.length by omega]
        rw [hx0e, hW1e]
        have hm1 := eo2
        have hm2 : ((k : Int)) % 16 = (i0 : Int) := by have := HI0.out; omega
        have hlt3 : (0 < W1.heap.size ∧ w.heap.size + 1 < W1.heap.size) ∧ w.heap.size + 3 < W1.heap.size := ⟨⟨Nat.lt_of_lt_of_le hK.size hB.size, (Array.getElem?_eq_some_iff.1 hW).1⟩, (Array.getElem?_eq_some_iff.1 hV).1⟩
        have HLT := Lib.hid hlt3
        have HKK := Lib.hid hk1
        have HX0 := Lib.hid hx0
        have HV1 := Lib.hid hV
        have HW1 := Lib.hid hW
        have HB1 := Lib.hid hB
        have HST := Lib.hid hst
        have H01 := Lib.hid h0
        have H21 := Lib.hid h2

        clear hlt3 hk1 hx0 hV hW hst h0 h2 hB hv hws hwl hkk hot hws2 hW1e hx0e co1 cc1 fo1 HWQ HVQ H0Q H2Q HBQ ea1 eb1 ec1 ea2 eb2 ec2 hadd hx hsa hsb eo2
        go_wp2_with fail
        refine wp_region_noPanic ?_
        refine wp_region_G [8, 9] (fun w' => Below W1.heap.size W1 w') (by kernel_rfl) ?_
        have hS0 : (fun w' => Below W1.heap.size W1 w') W1.drew := (Below.refl _ _).drew
        refine wpAnyG_take (i := 0) (v := ?v1) rfl (by kernel_rfl) (by kernel_rfl) (by kernel_rfl) (by kernel_rfl) (fun _ _ _ h => h) (yieldsIf_run rfl (fun w' hw' => ?y1)) hS0 ?_
        case y1 => (obtain ⟨e0, e1, e2, e3, e4, e5, e6, e7⟩ := cells8 ((hw'.block _ HLT.out.2).trans HV1.out); clear hw'; first | (go_simp; rfl) | (go_simp; done))
        simp only [Act.put, List.setIfInBounds_toArray, List.set_cons_zero, List.set_cons_succ]
        refine wpAnyG_pure (i := 1) (v := ?v2) rfl (by kernel_rfl) (by kernel_rfl) (by kernel_rfl) (by kernel_rfl) (fun _ _ _ h => h) (yieldsIf_run rfl (fun w' hw' => ?y2)) (fun _ => hS0) ?_
        case y2 => first | (go_simp; rfl) | (go_simp; done) | rfl
        simp only [Act.put, List.setIfInBounds_toArray, List.set_cons_zero, List.set_cons_succ]
        refine wpAnyG_pure (i := 2) (v := ?v3) rfl (by kernel_rfl) (by kernel_rfl) (by kernel_rfl) (by kernel_rfl) (fun _ _ _ h => h) (yieldsIf_run rfl (fun w' hw' => ?y3)) (fun _ => hS0) ?_
        case y3 => first | (go_simp; rfl) | (go_simp; done) | rfl
        simp only [Act.put, List.setIfInBounds_toArray, List.set_cons_zero, List.set_cons_succ]
        refine wpAnyG_take (i := 3) (v := ?v4) rfl (by kernel_rfl) (by kernel_rfl) (by kernel_rfl) (by kernel_rfl) (fun _ _ _ h => h) (yieldsIf_run rfl (fun w' hw' => ?y4)) hS0 ?_
        case y4 => (have hk := (hw'.cell (p := ⟨0, k, none⟩) HLT.out.1.1).trans HKK.out; clear hw'; first | (go_simp; rfl) | (go_simp; done))
        simp only [Act.put, List.setIfInBounds_toArray, List.set_cons_zero, List.set_cons_succ]
        refine wpAnyG_pure (i := 4) (v := ?v5) rfl (by kernel_rfl) (by kernel_rfl) (by kernel_rfl) (by kernel_rfl) (fun _ _ _ h => h) (yieldsIf_run rfl (fun w' hw' => ?y5)) (fun _ => hS0) ?_
        case y5 => first | (go_simp; rfl) | (go_simp; done) | rfl
        simp only [Act.put, List.setIfInBounds_toArray, List.set_cons_zero, List.set_cons_succ]
        refine wpAnyG_pure (i := 5) (v := ?v6) rfl (by kernel_rfl) (by kernel_rfl) (by kernel_rfl) (by kernel_rfl) (fun _ _ _ h => h) (yieldsIf_run rfl (fun w' hw' => ?y6)) (fun _ => hS0) ?_
        case y6 => first | (go_simp; rfl) | (go_simp; done) | rfl
        simp only [Act.put, List.setIfInBounds_toArray, List.set_cons_zero, List.set_cons_succ]
        refine wpAnyG_pure (i := 6) (v := ?v7) rfl (by kernel_rfl) (by kernel_rfl) (by kernel_rfl) (by kernel_rfl) (fun _ _ _ h => h) (yieldsIf_run rfl (fun w' hw' => ?y7)) (fun _ => hS0) ?_
        case y7 => first | (go_simp; rfl) | (go_simp; done) | rfl
        simp only [Act.put, List.setIfInBounds_toArray, List.set_cons_zero, List.set_cons_succ]
        refine wpAnyG_take (i := 7) (v := ?v8) rfl (by kernel_rfl) (by kernel_rfl) (by kernel_rfl) (by kernel_rfl) (fun _ _ _ h => h) (yieldsIf_run rfl (fun w' hw' => ?y8)) hS0 ?_
        case y8 => (have hk := (hw'.cell (p := ⟨w.heap.size + 1, i0, none⟩) HLT.out.1.2).trans HX0.out; clear hw'; first | (go_simp; rfl) | (go_simp; done))
        simp only [Act.put, List.setIfInBounds_toArray, List.set_cons_zero, List.set_cons_succ]
        refine wpAnyG_do (i := 8) (by kernel_rfl) rfl rfl (fun K hK => ?_)
        go_simp
        have hrd : Calls Tryd.prog 71 #[Value.agg #[.int .u32 (wN v.a), .int .u32 (wN v.b), .int .u32 (wN v.c), .int .u32 (wN v.d), .int .u32 (wN v.e), .int .u32 (wN v.f), .int .u32 (wN v.g), .int .u32 (wN v.i)], .int .u32 (wN kk), .int .u32 (wN x0)] W1.drew _ := round_any v kk x0 W1.drew
        refine hrd.mono ?_
        rintro e w2 ⟨rfl, hb2⟩
        have k2 : Below W1.heap.size W1 w2 := (Below.refl _ W1).drew.trans hb2
        have hv2 := (k2.block _ HLT.out.2).trans HV1.out
        refine hK _ _ k2 ?_
        clear hK K
        try simp only [Act.put, List.setIfInBounds_toArray, List.set_cons_zero, List.set_cons_succ]
        refine wpAnyG_fin (i := 9) (by kernel_rfl) rfl rfl (by kernel_rfl) (fun K hK => ?_)
        refine wp_store_row 122 _ _ rfl (w.heap.size + 3) (v.round kk x0).cells.toArray rfl rfl 122 v.cells.toArray hv2 sizeWords rfl (oneCell_w8 _) ?_
        refine hK _ _ ?_
        clear hK K
        try simp only [Act.put, List.setIfInBounds_toArray, List.set_cons_zero, List.set_cons_succ]
        refine wpAnyG_done (by kernel_rfl) ?_ _
        refine NoPanic.normal ?_
        have hv3 := setRow_heap w2 (w.heap.size + 3) _ (v.round kk x0).cells.toArray _ _ hv2
        have ho3 := fun j => setRow_other w2 (w.heap.size + 3) j (v.round kk x0).cells.toArray
        have hb3 : Below w.heap.size w (w2.setRow (w.heap.size + 3) (v.round kk x0).cells.toArray) := below_setRow (HB1.out.trans (k2.mono HB1.out.size)) (by omega) _
        obtain ⟨w3, hw3⟩ : ∃ w3, w2.setRow (w.heap.size + 3) (v.round kk x0).cells.toArray = w3 := ⟨_, rfl⟩
        rw [hw3] at hv3 hb3 ⊢
        have hn3 : ∀ j, j < W1.heap.size → j ≠ w.heap.size + 3 → w3.heap[j]? = W1.heap[j]? := fun j hj hne => by rw [← hw3]; exact (ho3 j hne).trans (k2.block j hj)
        have HN3 := Lib.hid hn3
        have HV3 := Lib.hid hv3
        have HB3 := Lib.hid hb3
        clear hn3 hv3 hb3 ho3 hw3 hv2 hb2 k2 hS0
        go_wp2_with fail
        go_roundw
        case rel =>
          have hl := HLT.out
          have hl0 : w.heap.size < W1.heap.size := by omega
          refine ⟨k + 1, by omega, by go_num, ?_, ?_, HB3.out, (HN3.out _ hl0 (by omega)).trans H01.out, (HN3.out _ (by omega) (by omega)).trans H21.out⟩
          · rw [HST.out]; exact (HN3.out _ hl.1.2 (by omega)).trans HW1.out
          · rw [HST.out]; exact HV3.out
        case measure => simp [intOf]; omega

      · obtain ⟨W1, rfl⟩ : ∃ W1, W1 = wr := ⟨_, rfl⟩
        obtain ⟨i0, hi0⟩ : ∃ i0, i0 = k % 16 := ⟨_, rfl⟩
        have hi16 : i0 < 16 := by omega
        obtain ⟨x0, hx0e⟩ : ∃ x0, ws.getD i0 0 = x0 := ⟨_, rfl⟩
        have hx0 : W1.cell? ⟨w.heap.size + 1, i0, none⟩ = some (.int .u32 (wN x0)) := by rw [cell_of_row W1 _ _ _ _ _ hW, wvs_at ws i0 (by omega), hx0e]
        have hst : ringAt h m (k + 1) = (v.round kk x0, ws) := by
          have e1 : ringStep ws k = ws := by unfold ringStep; rw [if_pos (by omega)]
          rw [ringAt, hv, hws, e1, hkk, ← hi0, hx0e]
        have hlt3 : (0 < W1.heap.size ∧ w.heap.size + 1 < W1.heap.size) ∧ w.heap.size + 3 < W1.heap.size := ⟨⟨Nat.lt_of_lt_of_le hK.size hB.size, (Array.getElem?_eq_some_iff.1 hW).1⟩, (Array.getElem?_eq_some_iff.1 hV).1⟩
        have HLT := Lib.hid hlt3
        have HKK := Lib.hid hk1
        have HX0 := Lib.hid hx0
        have HV1 := Lib.hid hV
        have HW1 := Lib.hid hW
        have HB1 := Lib.hid hB
        have HST := Lib.hid hst
        have H01 := Lib.hid h0
        have H21 := Lib.hid h2

        have hm1 : ((k : Int)).tmod 16 = (i0 : Int) := by rw [Int.tmod_eq_emod_of_nonneg (by omega)]; omega
        have hm2 : ((k : Int)) % 16 = (i0 : Int) := by omega
        have hi3 : (i0 : Int) < 16 := by omega
        clear hlt3 hk1 hx0 hV hW hst h0 h2 hB hv hws hwl hkk hkc hi0 hx0e
        go_wp2_with fail
        refine wp_region_noPanic ?_
        refine wp_region_G [8, 9] (fun w' => Below W1.heap.size W1 w') (by kernel_rfl) ?_
        have hS0 : (fun w' => Below W1.heap.size W1 w') W1.drew := (Below.refl _ _).drew
        refine wpAnyG_take (i := 0) (v := ?v9) rfl (by kernel_rfl) (by kernel_rfl) (by kernel_rfl) (by kernel_rfl) (fun _ _ _ h => h) (yieldsIf_run rfl (fun w' hw' => ?y9)) hS0 ?_
        case y9 => (obtain ⟨e0, e1, e2, e3, e4, e5, e6, e7⟩ := cells8 ((hw'.block _ HLT.out.2).trans HV1.out); clear hw'; first | (go_simp; rfl) | (go_simp; done))
        simp only [Act.put, List.setIfInBounds_toArray, List.set_cons_zero, List.set_cons_succ]
        refine wpAnyG_pure (i := 1) (v := ?v10) rfl (by kernel_rfl) (by kernel_rfl) (by kernel_rfl) (by kernel_rfl) (fun _ _ _ h => h) (yieldsIf_run rfl (fun w' hw' => ?y10)) (fun _ => hS0) ?_
        case y10 => first | (go_simp; rfl) | (go_simp; done) | rfl
        simp only [Act.put, List.setIfInBounds_toArray, List.set_cons_zero, List.set_cons_succ]
        refine wpAnyG_pure (i := 2) (v := ?v11) rfl (by kernel_rfl) (by kernel_rfl) (by kernel_rfl) (by kernel_rfl) (fun _ _ _ h => h) (yieldsIf_run rfl (fun w' hw' => ?y11)) (fun _ => hS0) ?_
        case y11 => first | (go_simp; rfl) | (go_simp; done) | rfl
        simp only [Act.put, List.setIfInBounds_toArray, List.set_cons_zero, List.set_cons_succ]
        refine wpAnyG_take (i := 3) (v := ?v12) rfl (by kernel_rfl) (by kernel_rfl) (by kernel_rfl) (by kernel_rfl) (fun _ _ _ h => h) (yieldsIf_run rfl (fun w' hw' => ?y12)) hS0 ?_
        case y12 => (have hk := (hw'.cell (p := ⟨0, k, none⟩) HLT.out.1.1).trans HKK.out; clear hw'; first | (go_simp; rfl) | (go_simp; done))
        simp only [Act.put, List.setIfInBounds_toArray, List.set_cons_zero, List.set_cons_succ]
        refine wpAnyG_pure (i := 4) (v := ?v13) rfl (by kernel_rfl) (by kernel_rfl) (by kernel_rfl) (by kernel_rfl) (fun _ _ _ h => h) (yieldsIf_run rfl (fun w' hw' => ?y13)) (fun _ => hS0) ?_
        case y13 => first | (go_simp; rfl) | (go_simp; done) | rfl
        simp only [Act.put, List.setIfInBounds_toArray, List.set_cons_zero, List.set_cons_succ]
        refine wpAnyG_pure (i := 5) (v := ?v14) rfl (by kernel_rfl) (by kernel_rfl) (by kernel_rfl) (by kernel_rfl) (fun _ _ _ h => h) (yieldsIf_run rfl (fun w' hw' => ?y14)) (fun _ => hS0) ?_
        case y14 => first | (go_simp; rfl) | (go_simp; done) | rfl
        simp only [Act.put, List.setIfInBounds_toArray, List.set_cons_zero, List.set_cons_succ]
        refine wpAnyG_pure (i := 6) (v := ?v15) rfl (by kernel_rfl) (by kernel_rfl) (by kernel_rfl) (by kernel_rfl) (fun _ _ _ h => h) (yieldsIf_run rfl (fun w' hw' => ?y15)) (fun _ => hS0) ?_
        case y15 => first | (go_simp; rfl) | (go_simp; done) | rfl
        simp only [Act.put, List.setIfInBounds_toArray, List.set_cons_zero, List.set_cons_succ]
        refine wpAnyG_take (i := 7) (v := ?v16) rfl (by kernel_rfl) (by kernel_rfl) (by kernel_rfl) (by kernel_rfl) (fun _ _ _ h => h) (yieldsIf_run rfl (fun w' hw' => ?y16)) hS0 ?_
        case y16 => (have hk := (hw'.cell (p := ⟨w.heap.size + 1, i0, none⟩) HLT.out.1.2).trans HX0.out; clear hw'; first | (go_simp; rfl) | (go_simp; done))
        simp only [Act.put, List.setIfInBounds_toArray, List.set_cons_zero, List.set_cons_succ]
        refine wpAnyG_do (i := 8) (by kernel_rfl) rfl rfl (fun K hK => ?_)
        go_simp
        have hrd : Calls Tryd.prog 71 #[Value.agg #[.int .u32 (wN v.a), .int .u32 (wN v.b), .int .u32 (wN v.c), .int .u32 (wN v.d), .int .u32 (wN v.e), .int .u32 (wN v.f), .int .u32 (wN v.g), .int .u32 (wN v.i)], .int .u32 (wN kk), .int .u32 (wN x0)] W1.drew _ := round_any v kk x0 W1.drew
        refine hrd.mono ?_
        rintro e w2 ⟨rfl, hb2⟩
        have k2 : Below W1.heap.size W1 w2 := (Below.refl _ W1).drew.trans hb2
        have hv2 := (k2.block _ HLT.out.2).trans HV1.out
        refine hK _ _ k2 ?_
        clear hK K
        try simp only [Act.put, List.setIfInBounds_toArray, List.set_cons_zero, List.set_cons_succ]
        refine wpAnyG_fin (i := 9) (by kernel_rfl) rfl rfl (by kernel_rfl) (fun K hK => ?_)
        refine wp_store_row 122 _ _ rfl (w.heap.size + 3) (v.round kk x0).cells.toArray rfl rfl 122 v.cells.toArray hv2 sizeWords rfl (oneCell_w8 _) ?_
        refine hK _ _ ?_
        clear hK K
        try simp only [Act.put, List.setIfInBounds_toArray, List.set_cons_zero, List.set_cons_succ]
        refine wpAnyG_done (by kernel_rfl) ?_ _
        refine NoPanic.normal ?_

        have hv3 := setRow_heap w2 (w.heap.size + 3) _ (v.round kk x0).cells.toArray _ _ hv2
        have ho3 := fun j => setRow_other w2 (w.heap.size + 3) j (v.round kk x0).cells.toArray
        have hb3 : Below w.heap.size w (w2.setRow (w.heap.size + 3) (v.round kk x0).cells.toArray) := below_setRow (HB1.out.trans (k2.mono HB1.out.size)) (by omega) _
        obtain ⟨w3, hw3⟩ : ∃ w3, w2.setRow (w.heap.size + 3) (v.round kk x0).cells.toArray = w3 := ⟨_, rfl⟩
        rw [hw3] at hv3 hb3 ⊢
        have hn3 : ∀ j, j < W1.heap.size → j ≠ w.heap.size + 3 → w3.heap[j]? = W1.heap[j]? := fun j hj hne => by rw [← hw3]; exact (ho3 j hne).trans (k2.block j hj)
        have HN3 := Lib.hid hn3
        have HV3 := Lib.hid hv3
        have HB3 := Lib.hid hb3
        clear hn3 hv3 hb3 ho3 hw3 hv2 hb2 k2 hS0
        go_wp2_with fail
        go_roundw
        case rel =>
          have hl := HLT.out
          have hl0 : w.heap.size < W1.heap.size := by omega
          refine ⟨k + 1, by omega, by go_num, ?_, ?_, HB3.out, (HN3.out _ hl0 (by omega)).trans H01.out, (HN3.out _ (by omega) (by omega)).trans H21.out⟩
          · rw [HST.out]; exact (HN3.out _ hl.1.2 (by omega)).trans HW1.out
          · rw [HST.out]; exact HV3.out
        case measure => simp [intOf]; omega

    · obtain rfl : k = 64 := by omega
      have n0 := h0.trans H4.out.1
      have n2 := h2.trans H4.out.2.2.1
      obtain ⟨a0, a1, a2, a3, a4, a5, a6, a7⟩ := cells8 n0
      obtain ⟨b0, b1, b2, b3, b4, b5, b6, b7⟩ := cells8 hV
      have hl2 := (Array.getElem?_eq_some_iff.1 n2).1
      have hpl : Calls Tryd.prog 72 #[Value.agg #[.int .u32 (wN h.a), .int .u32 (wN h.b), .int .u32 (wN h.c), .int .u32 (wN h.d), .int .u32 (wN h.e), .int .u32 (wN h.f), .int .u32 (wN h.g), .int .u32 (wN h.i)], Value.agg #[.int .u32 (wN v.a), .int .u32 (wN v.b), .int .u32 (wN v.c), .int .u32 (wN v.d), .int .u32 (wN v.e), .int .u32 (wN v.f), .int .u32 (wN v.g), .int .u32 (wN v.i)]] wr (fun e w' => e = .returned (.agg (h.plus v).cells.toArray) ∧ Below wr.heap.size wr w') := plus_any h v wr
      have HPL := Lib.hid hpl
      have HN2 := Lib.hid n2
      have HB := Lib.hid hB
      have HVE := Lib.hid hv
      clear hpl n0 n2 hB hv hws hW hV h0 h2 hwl
      go_wp2_with fail
      refine HPL.out.mono ?_
      rintro e w2 ⟨rfl, hb2⟩
      have m2 : w2.heap[w.heap.size + 1 + 1]? = _ := (hb2.block _ hl2).trans HN2.out
      have hb := HB.out.trans (hb2.mono HB.out.size)
      have hsz : (Tryd.prog.info? 122).map (·.size) = some (h.plus v).cells.toArray.size := sizeWords
      have hzs : (#[.int .u32 0, .int .u32 0, .int .u32 0, .int .u32 0, .int .u32 0, .int .u32 0, .int .u32 0, .int .u32 0] : Array Value).size = (h.plus v).cells.toArray.size := rfl
      have HSZ := Lib.hid hsz
      have HZS := Lib.hid hzs
      have HM2 := Lib.hid m2
      clear hsz hzs
      have HB2 := Lib.hid hb
      clear m2 hb hb2 a0 a1 a2 a3 a4 a5 a6 a7 b0 b1 b2 b3 b4 b5 b6 b7
      go_wp2_with (with_reducible refine wpList_store_row rfl 122 _ _ rfl (w.heap.size + 1 + 1) (h.plus v).cells.toArray rfl rfl 122 _ HM2.out HSZ.out HZS.out (oneCell_w8 _) ?_)
      refine bodyPost_ret (v := .agg (h.plus v).cells.toArray) ?r1 rfl ?r2
      case r1 => exact results_cell_row (g := w.heap.size + 1 + 1) rfl _ _ _ _ _ _ rfl (setRow_heap _ _ _ _ _ _ HM2.out) Tryd.underlying122 rfl sizeWords
      case r2 =>
        refine ⟨?_, below_setRow HB2.out (by omega) _⟩
        rw [procW, HVE.out]
        rfl

end Go.Proofs.YtloaenknhkfaeaaDoor
