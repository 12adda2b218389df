/- Records: the sectors of a run of records. -/
import Derived.Test.YtloaenknhkfaeaaDoorRec31
namespace Go.Proofs.YtloaenknhkfaeaaDoor
open Go.RowKit
set_option linter.unusedVariables false
set_option linter.unusedSimpArgs false

theorem min_nn (k N : Nat) (w : World) : (Builtin.min_ #[3, 3] 3 #[.int .i64 (k : Int), .int .i64 (N : Int)]).run Tryd.prog w = .ok (.int .i64 ((min k N : Nat) : Int)) w := by
  by_cases h : N < k
  · have h1 : (N : Int) < (k : Int) := by omega
    have h2 : min k N = N := by omega
    rw [h2]
    go_simp
    try omega
  · have h1 : ¬ (N : Int) < (k : Int) := by omega
    have h2 : min k N = k := by omega
    rw [h2]
    go_simp
    try omega
theorem min_600 (n : Nat) (w : World) : (Builtin.min_ #[3, 3] 3 #[.int .i64 (n : Int), .int .i64 600]).run Tryd.prog w = .ok (.int .i64 ((min n 600 : Nat) : Int)) w := min_nn n 600 w

def recAt (g n : Int) (L : List (List UInt8)) (i : Nat) : RecD := ⟨0, g, IntKind.i64.wrap (n + i), (L.getD i []).take 600⟩
def baseL (g n : Int) (L : List (List UInt8)) : Nat → List (List UInt8)
  | 0 => []
  | i + 1 => baseL g n L i ++ splitL (recAt g n L i)
theorem splitL_256 (r : RecD) : ∀ l ∈ splitL r, l.length = 256 := by
  intro l hl
  unfold splitL at hl
  split at hl
  · obtain ⟨i, _, rfl⟩ := List.mem_map.1 hl
    exact encL_length _
  · cases hl
theorem splitL_few (r : RecD) (h : r.load.length ≤ 600) : (splitL r).length ≤ 3 := by
  unfold splitL
  split
  · rw [List.length_map, List.length_range]; unfold needN; omega
  · simp
theorem recAt_few (g n : Int) (L : List (List UInt8)) (i : Nat) : (recAt g n L i).load.length ≤ 600 := by
  unfold recAt
  rw [List.length_take]
  omega
theorem baseL_256 (g n : Int) (L : List (List UInt8)) : ∀ k, ∀ l ∈ baseL g n L k, l.length = 256
  | 0, l, h => by cases h
  | k + 1, l, h => by
    rw [baseL] at h
    rcases List.mem_append.1 h with h | h
    · exact baseL_256 g n L k l h
    · exact splitL_256 _ l h
theorem baseL_few (g n : Int) (L : List (List UInt8)) : ∀ k, (baseL g n L k).length ≤ 3 * k
  | 0 => Nat.le_refl _
  | k + 1 => by
    rw [baseL, List.length_append]
    have := baseL_few g n L k
    have := splitL_few _ (recAt_few g n L k)
    omega
/-- Records with changes: the struct Run. -/
structure RunV where
  g : Int
  n : Int
  pv : Value
  loads : List (List UInt8)
  ov : Value
  others : List SecV
  qa : Option Addr
  qc : Nat
  places : List UInt8
  cut : UInt8
def RunV.cells (R : RunV) : List Value := [.int .i64 R.g, .int .i64 R.n, R.pv, R.ov, .slice R.qa R.places.length R.qc, .int .u8 (R.cut.toNat : Int)]
structure RunV.At (R : RunV) (w : World) : Prop where
  l : SecsAt w R.pv R.loads
  o : DescsAt w R.ov R.others
  q : BytesN w (fun _ => True) (.slice R.qa R.places.length R.qc) R.places
theorem RunV.At.below {R : RunV} {w w' : World} (h : R.At w) (hb : Below w.heap.size w w') : R.At w' := ⟨h.l.below hb, h.o.below hb, h.q.below hb⟩
def RunPost (R : RunV) (w : World) : Ending → World → Prop := fun e w' => ∃ u M, e = .returned u ∧ OwnSecs w' w.heap.size u M ∧ (∀ l ∈ M, l.length = 256) ∧ M.length ≤ 18 ∧ (R.others = [] → R.cut = 0 → M = baseL R.g R.n R.loads (min R.loads.length 6)) ∧ Below w.heap.size w w'
theorem all256_set {M : List (List UInt8)} (h : ∀ l ∈ M, l.length = 256) (i : Nat) {x : List UInt8} (hx : x.length = 256) : ∀ l ∈ M.set i x, l.length = 256 := by
  intro l hl
  rcases List.mem_or_eq_of_mem_set hl with h1 | h1
  · exact h l h1
  · rw [h1]; exact hx
theorem ownSecs_addr {w : World} {B : Nat} {a : Option Addr} {n c : Nat} {M : List (List UInt8)} (h : OwnSecs w B (.slice a n c) M) (hn : 0 < M.length) : ∃ g, a = some ⟨g, 0, none⟩ ∧ B ≤ g ∧ g < w.heap.size := by
  obtain ⟨vs, hr, _⟩ := h.ex
  obtain ⟨g, e, _, h1, h2⟩ := own_addr hr hn
  exact ⟨g, e, h1, h2⟩

theorem ownSecs_lt {w : World} {B k : Nat} {v : Value} {M : List (List UInt8)} (h : OwnSecs w B v M) (hk : v.ownBlock = some k) : B ≤ k ∧ k < w.heap.size := by
  obtain ⟨vs, hr, _⟩ := h.ex
  exact ownsRow_lt hr k hk

theorem ownSecs_cell {w : World} {B g n c kk : Nat} {M : List (List UInt8)} (h : OwnSecs w B (.slice (some ⟨g, 0, none⟩) n c) M) (hk : kk < n) : (∃ u, w.cell? ⟨g, kk, none⟩ = some u) ∧ w.frozen? ⟨g, kk, none⟩ = false := by
  have hn := h.cap.2.1
  obtain ⟨vs, hr, _⟩ := h.ex
  rw [← hn] at hr
  obtain ⟨cur, h1, h2, h3, _⟩ := own_row hr
  refine ⟨?_, frozen_of_row _ _ _ _ _ h1⟩
  rw [cell_of_row _ _ _ _ _ _ h1]
  exact ⟨_, Array.getElem?_eq_getElem (by have := hr.1; have := congrArg List.length h2; simp at this; omega)⟩
theorem drop_none {w : World} {a : Option Addr} {n c : Nat} {D : List SecV} (h : DescsAt w (.slice a n c) D) {i : Nat} (hi : i < D.length) : ∃ g off, a = some ⟨g, off, none⟩ ∧ g < w.heap.size ∧ w.rangeAt g (off + i * 16) D[i].cells ∧ D[i].At w := by
  obtain ⟨a', c', e, _, _, hx⟩ := h.ex
  cases e
  obtain ⟨g, off, e, hg, hr⟩ := hx (by intro e; rw [e] at hi; simp at hi)
  obtain ⟨h1, h2⟩ := hr i hi
  exact ⟨g, off, e, hg, h1, h2⟩

set_option maxRecDepth 100000 in
set_option maxHeartbeats 2000000 in
theorem run_any {w : World} (R : RunV) (hR : R.At w) : Calls Tryd.prog 38 #[.agg R.cells.toArray] w (RunPost R w) := by
  obtain ⟨g, n, pv, L, ov, D, qa, qc, Q, cut⟩ := R
  obtain ⟨hl, ho, hq⟩ := hR
  simp only at hl ho hq
  obtain ⟨pa, pc, rfl⟩ := hl.form
  obtain ⟨va, vc, rfl, hvx, hvy, _⟩ := ho.ex
  unfold RunV.cells
  simp only
  obtain ⟨N, hN⟩ : ∃ N, L.length = N := ⟨_, rfl⟩
  obtain ⟨No, hNo⟩ : ∃ No, D.length = No := ⟨_, rfl⟩
  obtain ⟨Nq, hNq⟩ : ∃ Nq, Q.length = Nq := ⟨_, rfl⟩
  obtain ⟨cu, hcu⟩ : ∃ cu, cut.toNat = cu := ⟨_, rfl⟩
  rw [hN] at hl ⊢
  rw [hNo] at ho hvx ⊢
  rw [hNq] at hq ⊢
  rw [hcu]
  have hcu2 : cu < 256 := by rw [← hcu]; exact cut.toNat_lt
  obtain ⟨w1, hw1⟩ : ∃ w1, w.alloc (.cells #[.int .i64 g, .int .i64 n, .slice pa N pc, .slice va No vc, .slice qa Nq qc, .int .u8 (cu : Int)] 75) = w1 := ⟨_, rfl⟩
  have hb1 : Below w.heap.size w w1 := hw1 ▸ (Below.refl _ w).alloc (Nat.le_refl _) _
  have hX1 : w1.heap[w.heap.size]? = some (.cells #[.int .i64 g, .int .i64 n, .slice pa N pc, .slice va No vc, .slice qa Nq qc, .int .u8 (cu : Int)] 75 (0, 0)) := by rw [← hw1]; exact heap_alloc_new _ _
  have hbox : ∀ w' : World, Below w1.heap.size w1 w' → w'.cell? ⟨w.heap.size, 0, none⟩ = some (.int .i64 g) ∧ w'.cell? ⟨w.heap.size, 1, none⟩ = some (.int .i64 n) ∧ w'.cell? ⟨w.heap.size, 2, none⟩ = some (.slice pa N pc) ∧ w'.cell? ⟨w.heap.size, 3, none⟩ = some (.slice va No vc) ∧ w'.cell? ⟨w.heap.size, 4, none⟩ = some (.slice qa Nq qc) ∧ w'.cell? ⟨w.heap.size, 5, none⟩ = some (.int .u8 (cu : Int)) := by
    intro w' hb
    have h0 := (hb.block w.heap.size (Array.getElem?_eq_some_iff.1 hX1).1).trans hX1
    refine ⟨?_, ?_, ?_, ?_, ?_, ?_⟩ <;> (rw [cell_of_row _ _ _ _ _ _ h0]; rfl)
  have HBOX := Lib.hid hbox
  have HW1 := Lib.hid hw1
  have HB1 := Lib.hid hb1
  have HL := Lib.hid (hl.below hb1)
  have HO := Lib.hid (ho.below hb1)
  have HQ := Lib.hid (hq.below hb1)
  have HN := Lib.hid hN
  have HNo := Lib.hid hNo
  have HNq := Lib.hid hNq
  have HCU := Lib.hid hcu
  have hNom : No ≤ maxLen := by omega
  unfold maxLen at hNom
  clear hl ho hq hvx hvy hw1 hb1 hX1 hbox hN hNo hNq hcu
  go_enter Tryd.func38, Tryd.ntmps38
  go_wp2_with fail
  rw [HW1.out]
  go_loopw [3, 4] (fun ov iv wr => ∃ i : Nat, i ≤ N ∧ i ≤ 6 ∧ iv = .int .i64 (i : Int) ∧ OwnSecs wr w1.heap.size ov (baseL g n L i) ∧ Below w1.heap.size w1 wr) (fun _ iv _ => 6 - (intOf iv).toNat)
  case atStart => exact ⟨0, Nat.zero_le _, Nat.zero_le _, rfl, ownSecs_nil _ _, Below.refl _ _⟩
  case round =>
    obtain ⟨i, hi, hi6, rfl, hO, hB⟩ := hrel
    obtain ⟨oa, oc, rfl⟩ := hO.form
    obtain ⟨m, hm⟩ : ∃ m, (baseL g n L i).length = m := ⟨_, rfl⟩
    have hmb := baseL_few g n L i
    rw [hm] at hO hmb ⊢
    obtain ⟨z0, z1, z2, z3, z4, z5⟩ := HBOX.out wr hB
    have HOO := Lib.hid hO
    have HB := Lib.hid hB
    have HM := Lib.hid hm
    clear hO hB hm
    by_cases hlt : i < N ∧ i < 6
    · obtain ⟨hlt, hlt6⟩ := hlt
      have hiI : (i : Int) < (N : Int) := by omega
      have hiI6 : (i : Int) < 6 := by omega
      have hiI0 : (0 : Int) ≤ (i : Int) := by omega
      obtain ⟨pg, po, x, k, c, rfl, hx, hxb⟩ := (HL.out.below HB.out).get (i := i) (by rw [HN.out]; exact hlt)
      obtain ⟨l, hl⟩ : ∃ l, L[i]'(by rw [HN.out]; exact hlt) = l := ⟨_, rfl⟩
      rw [hl] at hxb
      have hxl := hxb.at_.len
      have hpg := World.block_lt_of_cell? _ _ hx
      obtain ⟨k6, hk6⟩ : ∃ k6, min k 600 = k6 := ⟨_, rfl⟩
      have hmin := min_600 k
      rw [hk6] at hmin
      have hsl := slice_cut x k c k6 (by omega) (fun e => hxb.nil k c (by rw [e]))
      have hrr : recAt g n L i = ⟨0, g, IntKind.i64.wrap (n + i), l.take 600⟩ := by unfold recAt; rw [List.getD_eq_getElem?_getD, List.getElem?_eq_getElem (by rw [HN.out]; exact hlt), hl]; rfl
      have hcell : ∀ w' : World, Below wr.heap.size wr w' → w'.cell? ⟨w.heap.size, 0, none⟩ = some (.int .i64 g) ∧ w'.cell? ⟨w.heap.size, 1, none⟩ = some (.int .i64 n) ∧ w'.cell? ⟨w.heap.size, 2, none⟩ = some (.slice (some ⟨pg, po, none⟩) N pc) ∧ w'.cell? ⟨pg, po + i, none⟩ = some (.slice x k c) := by
        intro w' hb
        obtain ⟨y0, y1, y2, _⟩ := HBOX.out w' (HB.out.trans (hb.mono HB.out.size))
        exact ⟨y0, y1, y2, (hb.cell (p := ⟨pg, po + i, none⟩) hpg).trans hx⟩
      have hl6 : l.take 600 = l.take k6 := by
        rw [← hk6]
        by_cases h : k ≤ 600
        · rw [Nat.min_eq_left h, List.take_of_length_le (by omega), List.take_of_length_le (by omega)]
        · rw [Nat.min_eq_right (by omega)]
      rw [hl6] at hrr
      obtain ⟨nn, hnn⟩ : ∃ nn, IntKind.i64.wrap (n + (i : Int)) = nn := ⟨_, rfl⟩
      rw [hnn] at hrr
      have hsp : ∀ w', Below wr.heap.size wr w' → Calls Tryd.prog 29 #[.agg #[.int .i64 0, .int .i64 g, .int .i64 nn, .slice x k6 c]] w' (SplitPost w' ⟨0, g, nn, l.take k6⟩) := fun w' hb =>
        rSplit_any ⟨0, g, nn, l.take k6⟩ x k6 c ((hxb.below hb).take k6 (by omega))
      have HSP := Lib.hid hsp
      have HRR := Lib.hid hrr
      have HCELL := Lib.hid hcell
      have HNN := Lib.hid hnn
      clear hxl hk6 hl hx hxb hrr hcell hl6 hnn hsp
      go_wp2_with fail
      refine wp_region_noPanic ?_
      refine wp_region_H (Below wr.heap.size wr) (by kernel_rfl) ?_
      have hS0 : (Below wr.heap.size wr) wr.drew := (Below.refl _ _).drew
      obtain ⟨wd, hwd⟩ : ∃ wd, wr.drew = wd := ⟨_, rfl⟩
      rw [hwd] at hS0 ⊢
      clear hwd
      refine wpAnyH_takeI (i := 0) (v := ?v1) rfl (by kernel_rfl) (by kernel_rfl) (by kernel_rfl) (fun _ _ _ h => h) (yieldsIf_run rfl (fun w' hw' => ?y1)) hS0 ?_
      case y1 => first | (go_simp; rfl) | (go_simp; done) | rfl
      simp only [Act.put, List.setIfInBounds_toArray, List.set_cons_zero, List.set_cons_succ]
      refine wpAnyH_takeI (i := 1) (v := ?v2) rfl (by kernel_rfl) (by kernel_rfl) (by kernel_rfl) (fun _ _ _ h => h) (yieldsIf_run rfl (fun w' hw' => ?y2)) hS0 ?_
      case y2 => (obtain ⟨y0, y1, y2, y3⟩ := HCELL.out w' hw'; clear hw'; first | (go_simp; rfl) | (go_simp; done))
      simp only [Act.put, List.setIfInBounds_toArray, List.set_cons_zero, List.set_cons_succ]
      refine wpAnyH_takeI (i := 2) (v := ?v3) rfl (by kernel_rfl) (by kernel_rfl) (by kernel_rfl) (fun _ _ _ h => h) (yieldsIf_run rfl (fun w' hw' => ?y3)) hS0 ?_
      case y3 => first | (go_simp; rfl) | (go_simp; done) | rfl
      simp only [Act.put, List.setIfInBounds_toArray, List.set_cons_zero, List.set_cons_succ]
      refine wpAnyH_takeI (i := 3) (v := ?v4) rfl (by kernel_rfl) (by kernel_rfl) (by kernel_rfl) (fun _ _ _ h => h) (yieldsIf_run rfl (fun w' hw' => ?y4)) hS0 ?_
      case y4 => (obtain ⟨y0, y1, y2, y3⟩ := HCELL.out w' hw'; clear hw'; first | (go_simp; rfl) | (go_simp; done))
      simp only [Act.put, List.setIfInBounds_toArray, List.set_cons_zero, List.set_cons_succ]
      refine wpAnyH_takeI (i := 4) (v := ?v5) rfl (by kernel_rfl) (by kernel_rfl) (by kernel_rfl) (fun _ _ _ h => h) (yieldsIf_run rfl (fun w' hw' => ?y5)) hS0 ?_
      case y5 => first | (go_simp; rfl) | (go_simp; done) | rfl
      simp only [Act.put, List.setIfInBounds_toArray, List.set_cons_zero, List.set_cons_succ]
      refine wpAnyH_takeI (i := 5) (v := .int .i64 nn) rfl (by kernel_rfl) (by kernel_rfl) (by kernel_rfl) (fun _ _ _ h => h) (yieldsIf_run rfl (fun w' hw' => ?y6)) hS0 ?_
      case y6 => (have HNN := HNN.out; clear hw'; first | (go_simp; rfl) | (go_simp; done))
      simp only [Act.put, List.setIfInBounds_toArray, List.set_cons_zero, List.set_cons_succ]
      refine wpAnyH_takeI (i := 6) (v := ?v7) rfl (by kernel_rfl) (by kernel_rfl) (by kernel_rfl) (fun _ _ _ h => h) (yieldsIf_run rfl (fun w' hw' => ?y7)) hS0 ?_
      case y7 => first | (go_simp; rfl) | (go_simp; done) | rfl
      simp only [Act.put, List.setIfInBounds_toArray, List.set_cons_zero, List.set_cons_succ]
      refine wpAnyH_takeI (i := 7) (v := ?v8) rfl (by kernel_rfl) (by kernel_rfl) (by kernel_rfl) (fun _ _ _ h => h) (yieldsIf_run rfl (fun w' hw' => ?y8)) hS0 ?_
      case y8 => (obtain ⟨y0, y1, y2, y3⟩ := HCELL.out w' hw'; clear hw'; first | (go_simp; rfl) | (go_simp; done))
      simp only [Act.put, List.setIfInBounds_toArray, List.set_cons_zero, List.set_cons_succ]
      refine wpAnyH_takeI (i := 8) (v := ?v9) rfl (by kernel_rfl) (by kernel_rfl) (by kernel_rfl) (fun _ _ _ h => h) (yieldsIf_run rfl (fun w' hw' => ?y9)) hS0 ?_
      case y9 => first | (go_simp; rfl) | (go_simp; done) | rfl
      simp only [Act.put, List.setIfInBounds_toArray, List.set_cons_zero, List.set_cons_succ]
      refine wpAnyH_takeI (i := 9) (v := ?v10) rfl (by kernel_rfl) (by kernel_rfl) (by kernel_rfl) (fun _ _ _ h => h) (yieldsIf_run rfl (fun w' hw' => ?y10)) hS0 ?_
      case y10 => first | (go_simp; rfl) | (go_simp; done) | rfl
      simp only [Act.put, List.setIfInBounds_toArray, List.set_cons_zero, List.set_cons_succ]
      refine wpAnyH_takeI (i := 10) (v := ?v11) rfl (by kernel_rfl) (by kernel_rfl) (by kernel_rfl) (fun _ _ _ h => h) (yieldsIf_run rfl (fun w' hw' => ?y11)) hS0 ?_
      case y11 => (obtain ⟨y0, y1, y2, y3⟩ := HCELL.out w' hw'; clear hw'; first | (go_simp; rfl) | (go_simp; done))
      simp only [Act.put, List.setIfInBounds_toArray, List.set_cons_zero, List.set_cons_succ]
      refine wpAnyH_takeI (i := 11) (v := ?v12) rfl (by kernel_rfl) (by kernel_rfl) (by kernel_rfl) (fun _ _ _ h => h) (yieldsIf_run rfl (fun w' hw' => ?y12)) hS0 ?_
      case y12 => first | (go_simp; rfl) | (go_simp; done) | rfl
      simp only [Act.put, List.setIfInBounds_toArray, List.set_cons_zero, List.set_cons_succ]
      refine wpAnyH_takeI (i := 12) (v := ?v13) rfl (by kernel_rfl) (by kernel_rfl) (by kernel_rfl) (fun _ _ _ h => h) (yieldsIf_run rfl (fun w' hw' => ?y13)) hS0 ?_
      case y13 => (obtain ⟨y0, y1, y2, y3⟩ := HCELL.out w' hw'; clear hw'; first | (go_simp; rfl) | (go_simp; done))
      simp only [Act.put, List.setIfInBounds_toArray, List.set_cons_zero, List.set_cons_succ]
      refine wpAnyH_takeI (i := 13) (v := ?v14) rfl (by kernel_rfl) (by kernel_rfl) (by kernel_rfl) (fun _ _ _ h => h) (yieldsIf_run rfl (fun w' hw' => ?y14)) hS0 ?_
      case y14 => first | (go_simp; rfl) | (go_simp; done) | rfl
      simp only [Act.put, List.setIfInBounds_toArray, List.set_cons_zero, List.set_cons_succ]
      refine wpAnyH_takeI (i := 14) (v := ?v15) rfl (by kernel_rfl) (by kernel_rfl) (by kernel_rfl) (fun _ _ _ h => h) (yieldsIf_run rfl (fun w' hw' => ?y15)) hS0 ?_
      case y15 => first | (go_simp; rfl) | (go_simp; done) | rfl
      simp only [Act.put, List.setIfInBounds_toArray, List.set_cons_zero, List.set_cons_succ]
      refine wpAnyH_takeI (i := 15) (v := ?v16) rfl (by kernel_rfl) (by kernel_rfl) (by kernel_rfl) (fun _ _ _ h => h) (yieldsIf_run rfl (fun w' hw' => ?y16)) hS0 ?_
      case y16 => (obtain ⟨y0, y1, y2, y3⟩ := HCELL.out w' hw'; clear hw'; first | (go_simp; rfl) | (go_simp; done))
      simp only [Act.put, List.setIfInBounds_toArray, List.set_cons_zero, List.set_cons_succ]
      refine wpAnyH_takeI (i := 16) (v := ?v17) rfl (by kernel_rfl) (by kernel_rfl) (by kernel_rfl) (fun _ _ _ h => h) (yieldsIf_run rfl (fun w' hw' => ?y17)) hS0 ?_
      case y17 => first | (go_simp; rfl) | (go_simp; done) | rfl
      simp only [Act.put, List.setIfInBounds_toArray, List.set_cons_zero, List.set_cons_succ]
      refine wpAnyH_takeI (i := 17) (v := .int .i64 (k6 : Int)) rfl (by kernel_rfl) (by kernel_rfl) (by kernel_rfl) (fun _ _ _ h => h) (yieldsIf_run rfl (fun w' hw' => ?y18)) hS0 ?_
      case y18 => first | (go_simp; rfl) | (go_simp; done) | rfl
      simp only [Act.put, List.setIfInBounds_toArray, List.set_cons_zero, List.set_cons_succ]
      refine wpAnyH_takeI (i := 18) (v := .slice x k6 c) rfl (by kernel_rfl) (by kernel_rfl) (by kernel_rfl) (fun _ _ _ h => h) (yieldsIf_run rfl (fun w' hw' => ?y19)) hS0 ?_
      case y19 => first | (go_simp; rfl) | (go_simp; done) | rfl
      simp only [Act.put, List.setIfInBounds_toArray, List.set_cons_zero, List.set_cons_succ]
      refine wpAnyH_takeI (i := 19) (v := ?v20) rfl (by kernel_rfl) (by kernel_rfl) (by kernel_rfl) (fun _ _ _ h => h) (yieldsIf_run rfl (fun w' hw' => ?y20)) hS0 ?_
      case y20 => first | (go_simp; rfl) | (go_simp; done) | rfl
      simp only [Act.put, List.setIfInBounds_toArray, List.set_cons_zero, List.set_cons_succ]
      refine wpAnyH_do (i := 20) (by kernel_rfl) rfl rfl (fun K hK => ?_)
      go_simp
      go_at_call 29
      refine (HSP.out _ hS0).mono ?_
      rintro e wx ⟨sv, rfl, hox, hbwx⟩
      obtain ⟨sa, sc, rfl⟩ := hox.form
      have hSwx := hS0.trans (hbwx.mono hS0.size)
      refine hK _ _ (hSwx) ?_
      clear hK K
      try simp only [Act.put, List.setIfInBounds_toArray, List.set_cons_zero, List.set_cons_succ]
      refine wpAnyH_takeI (i := 21) (v := ?v21) rfl (by kernel_rfl) (by kernel_rfl) (by kernel_rfl) (fun _ _ _ h => h) (yieldsIf_run rfl (fun w' hw' => ?y21)) hSwx ?_
      case y21 => first | (go_simp; rfl) | (go_simp; done) | rfl
      simp only [Act.put, List.setIfInBounds_toArray, List.set_cons_zero, List.set_cons_succ]
      refine wpAnyH_takeI (i := 22) (v := ?v22) rfl (by kernel_rfl) (by kernel_rfl) (by kernel_rfl) (fun _ _ _ h => h) (yieldsIf_run rfl (fun w' hw' => ?y22)) hSwx ?_
      case y22 => first | (go_simp; rfl) | (go_simp; done) | rfl
      simp only [Act.put, List.setIfInBounds_toArray, List.set_cons_zero, List.set_cons_succ]
      refine wpAnyH_takeI (i := 23) (v := ?v23) rfl (by kernel_rfl) (by kernel_rfl) (by kernel_rfl) (fun _ _ _ h => h) (yieldsIf_run rfl (fun w' hw' => ?y23)) hSwx ?_
      case y23 => first | (go_simp; rfl) | (go_simp; done) | rfl
      simp only [Act.put, List.setIfInBounds_toArray, List.set_cons_zero, List.set_cons_succ]
      refine wpAnyH_takeI (i := 24) (v := ?v24) rfl (by kernel_rfl) (by kernel_rfl) (by kernel_rfl) (fun _ _ _ h => h) (yieldsIf_run rfl (fun w' hw' => ?y24)) hSwx ?_
      case y24 => first | (go_simp; rfl) | (go_simp; done) | rfl
      simp only [Act.put, List.setIfInBounds_toArray, List.set_cons_zero, List.set_cons_succ]
      refine wpAnyH_takeI (i := 25) (v := ?v25) rfl (by kernel_rfl) (by kernel_rfl) (by kernel_rfl) (fun _ _ _ h => h) (yieldsIf_run rfl (fun w' hw' => ?y25)) hSwx ?_
      case y25 => first | (go_simp; rfl) | (go_simp; done) | rfl
      simp only [Act.put, List.setIfInBounds_toArray, List.set_cons_zero, List.set_cons_succ]
      refine wpAnyH_done (by kernel_rfl) ?_ _
      refine NoPanic.normal ?_
      have hSx := hSwx
      obtain ⟨e, he⟩ : ∃ e, splitE ⟨0, g, nn, l.take k6⟩ = e := ⟨_, rfl⟩
      obtain ⟨S, hS⟩ : ∃ S, splitL ⟨0, g, nn, l.take k6⟩ = S := ⟨_, rfl⟩
      obtain ⟨ns, hns⟩ : ∃ ns, S.length = ns := ⟨_, rfl⟩
      rw [hS, hns] at hox ⊢
      rw [he]
      have hbase : baseL g n L (i + 1) = baseL g n L i ++ S := by rw [baseL, HRR.out, hS]
      have hS3 : S.length ≤ 3 := by
        have h := splitL_few _ (recAt_few g n L i)
        rw [HRR.out, hS] at h
        exact h
      have HBX := Lib.hid (HB.out.trans (hSx.mono HB.out.size))
      have HOX := Lib.hid (hox.base (Nat.le_trans HB.out.size hS0.size))
      have HOO2 := Lib.hid (HOO.out.below hSx)
      have HBASE := Lib.hid hbase
      have HSE := Lib.hid (show e ≠ 0 → S = [] from fun h => by rw [← hS]; unfold splitL; rw [if_neg (by rw [he]; exact h)])
      clear hox hbwx hSwx hSx hbase hS he hS0 HSP HCELL HRR
      by_cases h0 : e = 0
      · subst h0
        clear HSE
        rw [hns] at hS3
        have HNS := Lib.hid hns
        clear hns
        go_wp2_with (at_builtin; refine wpList_appSecs (n := m) (m := ns) rfl (.tmp 45) (.tmp 46) rfl rfl HOO2.out rfl HOX.out HM.out HNS.out (by omega) HBX.out.size w1.heap.size (fun k hk => (ownSecs_lt HOO2.out hk).1) HBX.out.size ?_)
        intro a7 c7 w7 ho7 hk7 hb7
        have HO7 := Lib.hid ho7
        have HB7 := Lib.hid (HBX.out.trans hb7)
        clear ho7 hk7 hb7
        go_wp2_with fail
        go_roundw
        case rel => exact ⟨i + 1, by omega, by omega, by go_num, by rw [HBASE.out]; exact HO7.out, HB7.out⟩
        case measure => simp [intOf]; omega
      · have HS0 := Lib.hid (HSE.out h0)
        clear hns HSE
        go_wp2_with fail
        go_roundw
        case rel => exact ⟨i + 1, by omega, by omega, by go_num, by rw [HBASE.out, HS0.out, List.append_nil]; exact HOO2.out, HBX.out⟩
        case measure => simp [intOf]; omega
    · have hmin6 : min N 6 = i := by omega
      have HMIN := Lib.hid hmin6
      have hown1 : OwnSecs wr w1.heap.size (.slice oa m oc) (baseL g n L i) := HOO.out
      have hall1 := baseL_256 g n L i
      obtain ⟨M1, hM1⟩ : ∃ M1, baseL g n L i = M1 := ⟨_, rfl⟩
      have hm1 := HM.out
      rw [hM1] at hown1 hall1 hm1
      have HM1 := Lib.hid hM1
      have HOWN := Lib.hid hown1
      have HALL := Lib.hid hall1
      have HMM := Lib.hid hm1
      have hm18 : m ≤ 18 := by omega
      have hmI : (m : Int) ≤ 18 := by omega
      have hmI0 : (0 : Int) ≤ (m : Int) := by omega
      clear hmin6 hown1 hall1 hm1 hM1 HOO HM hmb
      have hcase : (¬ (i : Int) < (N : Int)) ∨ ((i : Int) < (N : Int) ∧ ¬ (i : Int) < 6) := by omega
      clear hlt
      rcases hcase with hcase | ⟨hc1, hc2⟩
      · go_wp2_with fail
        try clear hcase
        try clear hc1 hc2
        clear z0 z1 z2 z3 z4 z5
        go_loopw [7] (fun jv wr => ∃ (j : Nat) (M : List (List UInt8)), j ≤ No ∧ j ≤ Nq ∧ j ≤ 4 ∧ jv = .int .i64 (j : Int) ∧ M.length = m ∧ OwnSecs wr w1.heap.size (.slice oa m oc) M ∧ (∀ l ∈ M, l.length = 256) ∧ (D = [] → M = M1) ∧ Below w1.heap.size w1 wr) (fun jv _ => 4 - (intOf jv).toNat)
        case atStart => exact ⟨0, M1, Nat.zero_le _, Nat.zero_le _, Nat.zero_le _, rfl, HMM.out, HOWN.out, HALL.out, fun _ => rfl, HB.out⟩
        case round =>
          obtain ⟨j, M, hj, hjq, hj4, rfl, hMl, hO, hA, hD, hB⟩ := hrel
          obtain ⟨z0, z1, z2, z3, z4, z5⟩ := HBOX.out wr hB
          have HOJ := Lib.hid hO
          have HA := Lib.hid hA
          have HD := Lib.hid hD
          have HBJ := Lib.hid hB
          have HML := Lib.hid hMl
          clear hO hA hD hB hMl
          by_cases hlt : j < No ∧ j < Nq ∧ j < 4
          · obtain ⟨hl1, hl2, hl3⟩ := hlt
            have hI1 : (j : Int) < (No : Int) := by omega
            have hI2 : (j : Int) < (Nq : Int) := by omega
            have hI3 : (j : Int) < 4 := by omega
            have hI0 : (0 : Int) ≤ (j : Int) := by omega
            by_cases hm0 : m = 0
            · have hmz : ¬ (0 : Int) < (m : Int) := by omega
              go_wp2_with fail
              go_roundw
              case rel => exact ⟨j + 1, M, by omega, by omega, by omega, by go_num, HML.out, HOJ.out, HA.out, HD.out, HBJ.out⟩
              case measure => simp [intOf]; omega
            · have hmp : (0 : Int) < (m : Int) := by omega
              have hpos : 0 < m := by omega
              obtain ⟨og, rfl, hog1, hog2⟩ := ownSecs_addr HOJ.out (by rw [HML.out]; exact hpos)
              obtain ⟨qg, qo, rfl, hqb⟩ := (HQ.out.below HBJ.out).at_.get (i := j) (by rw [HNq.out]; exact hl2)
              obtain ⟨pl, hpl⟩ : ∃ pl, (Q[j]'(by rw [HNq.out]; exact hl2)).toNat = pl := ⟨_, rfl⟩
              have hpl2 : pl < 256 := by rw [← hpl]; exact UInt8.toNat_lt _
              rw [hpl] at hqb
              obtain ⟨vg, vo, rfl, hvg, hvr, hva⟩ := drop_none (HO.out.below HBJ.out) (i := j) (by rw [HNo.out]; exact hl1)
              obtain ⟨S, hS⟩ : ∃ S, D[j]'(by rw [HNo.out]; exact hl1) = S := ⟨_, rfl⟩
              rw [hS] at hvr hva
              obtain ⟨kk, hkk⟩ : ∃ kk, pl % m = kk := ⟨_, rfl⟩
              have hkk2 : kk < m := by rw [← hkk]; exact Nat.mod_lt _ hpos
              have hkI : (pl : Int) % (m : Int) = (kk : Int) := by rw [← hkk]; rfl
              have hkm : (kk : Int) < (m : Int) := by omega
              have hk0 : (0 : Int) ≤ (kk : Int) := by omega
              have hplI : (pl : Int) < 256 := by omega
              have hpl0 : (0 : Int) ≤ (pl : Int) := by omega
              have hwrap : IntKind.i64.wrap (pl : Int) = (pl : Int) := IntWalk.i64_in _ (by omega)
              have htm : (pl : Int).tmod (m : Int) = (kk : Int) := by rw [← hkI]; exact Int.tmod_eq_emod_of_nonneg hpl0
              have hmne : ¬ (m : Int) = 0 := by omega
              have hqg := World.block_lt_of_cell? _ _ hqb
              have hcell : ∀ w' : World, Below wr.heap.size wr w' → w'.cell? ⟨w.heap.size, 3, none⟩ = some (.slice (some ⟨vg, vo, none⟩) No vc) ∧ w'.cell? ⟨w.heap.size, 4, none⟩ = some (.slice (some ⟨qg, qo, none⟩) Nq qc) ∧ w'.cell? ⟨qg, qo + j, none⟩ = some (.int .u8 (pl : Int)) ∧ w'.rangeAt vg (vo + j * 16) S.cells := by
                intro w' hb
                obtain ⟨_, _, _, y3, y4, _⟩ := HBOX.out w' (HBJ.out.trans (hb.mono HBJ.out.size))
                exact ⟨y3, y4, (hb.cell (p := ⟨qg, qo + j, none⟩) hqg).trans hqb, fun t u hu => (hb.cell (p := ⟨vg, vo + j * 16 + t, none⟩) hvg).trans (hvr t u hu)⟩
              have hsc : ∀ w', Below wr.heap.size wr w' → Calls Tryd.prog 24 #[.agg S.cells.toArray] w' (SecPost w') := fun w' hb => sector_at S (hva.below hb)
              have HSC := Lib.hid hsc
              have HCELL := Lib.hid hcell
              have HHD := Lib.hid hm18
              have HDne := Lib.hid (show D ≠ [] from fun e => by have := HNo.out; rw [e] at this; simp at this; omega)
              clear hpl hqb hvr hva hS hkk hcell hsc hvg hqg
              go_wp2_with fail
              clear z0 z1 z2 z3 z4 z5
              refine wp_region_noPanic ?_
              refine wp_region_F 17 (Below wr.heap.size wr) (by kernel_rfl) ?_
              have hS0 : (Below wr.heap.size wr) wr.drew := (Below.refl _ _).drew
              obtain ⟨wd, hwd⟩ : ∃ wd, wr.drew = wd := ⟨_, rfl⟩
              rw [hwd] at hS0 ⊢
              clear hwd
              refine wpAnyF_take (i := 0) (fin := 17) (v := ?v26) rfl (by kernel_rfl) (by kernel_rfl) (by kernel_rfl) (by kernel_rfl) (fun _ _ _ h => h) (yieldsIf_run rfl (fun w' hw' => ?y26)) hS0 ?_
              case y26 => first | (go_simp; rfl) | (go_simp; done) | rfl
              simp only [Act.put, List.setIfInBounds_toArray, List.set_cons_zero, List.set_cons_succ]
              refine wpAnyF_take (i := 1) (fin := 17) (v := ?v27) rfl (by kernel_rfl) (by kernel_rfl) (by kernel_rfl) (by kernel_rfl) (fun _ _ _ h => h) (yieldsIf_run rfl (fun w' hw' => ?y27)) hS0 ?_
              case y27 => first | (go_simp; rfl) | (go_simp; done) | rfl
              simp only [Act.put, List.setIfInBounds_toArray, List.set_cons_zero, List.set_cons_succ]
              refine wpAnyF_take (i := 2) (fin := 17) (v := ?v28) rfl (by kernel_rfl) (by kernel_rfl) (by kernel_rfl) (by kernel_rfl) (fun _ _ _ h => h) (yieldsIf_run rfl (fun w' hw' => ?y28)) hS0 ?_
              case y28 => (obtain ⟨y3, y4, yq, yr⟩ := HCELL.out w' hw'; obtain ⟨r0, r1, r2, r3, r4, r5, r6, r7, r8, r9, r10, r11, r12, r13, r14, r15⟩ := range16 yr; clear yr; clear hw'; first | (go_simp; rfl) | (go_simp; done))
              simp only [Act.put, List.setIfInBounds_toArray, List.set_cons_zero, List.set_cons_succ]
              refine wpAnyF_take (i := 3) (fin := 17) (v := ?v29) rfl (by kernel_rfl) (by kernel_rfl) (by kernel_rfl) (by kernel_rfl) (fun _ _ _ h => h) (yieldsIf_run rfl (fun w' hw' => ?y29)) hS0 ?_
              case y29 => first | (go_simp; rfl) | (go_simp; done) | rfl
              simp only [Act.put, List.setIfInBounds_toArray, List.set_cons_zero, List.set_cons_succ]
              refine wpAnyF_take (i := 4) (fin := 17) (v := ?v30) rfl (by kernel_rfl) (by kernel_rfl) (by kernel_rfl) (by kernel_rfl) (fun _ _ _ h => h) (yieldsIf_run rfl (fun w' hw' => ?y30)) hS0 ?_
              case y30 => first | (go_simp; rfl) | (go_simp; done) | rfl
              simp only [Act.put, List.setIfInBounds_toArray, List.set_cons_zero, List.set_cons_succ]
              refine wpAnyF_take (i := 5) (fin := 17) (v := ?v31) rfl (by kernel_rfl) (by kernel_rfl) (by kernel_rfl) (by kernel_rfl) (fun _ _ _ h => h) (yieldsIf_run rfl (fun w' hw' => ?y31)) hS0 ?_
              case y31 => (obtain ⟨y3, y4, yq, yr⟩ := HCELL.out w' hw'; obtain ⟨r0, r1, r2, r3, r4, r5, r6, r7, r8, r9, r10, r11, r12, r13, r14, r15⟩ := range16 yr; clear yr; clear hw'; first | (go_simp; rfl) | (go_simp; done))
              simp only [Act.put, List.setIfInBounds_toArray, List.set_cons_zero, List.set_cons_succ]
              refine wpAnyF_take (i := 6) (fin := 17) (v := .int .i64 (pl : Int)) rfl (by kernel_rfl) (by kernel_rfl) (by kernel_rfl) (by kernel_rfl) (fun _ _ _ h => h) (yieldsIf_run rfl (fun w' hw' => ?y32)) hS0 ?_
              case y32 => first | (go_simp; rfl) | (go_simp; done) | rfl
              simp only [Act.put, List.setIfInBounds_toArray, List.set_cons_zero, List.set_cons_succ]
              refine wpAnyF_take (i := 7) (fin := 17) (v := ?v33) rfl (by kernel_rfl) (by kernel_rfl) (by kernel_rfl) (by kernel_rfl) (fun _ _ _ h => h) (yieldsIf_run rfl (fun w' hw' => ?y33)) hS0 ?_
              case y33 => first | (go_simp; rfl) | (go_simp; done) | rfl
              simp only [Act.put, List.setIfInBounds_toArray, List.set_cons_zero, List.set_cons_succ]
              refine wpAnyF_take (i := 8) (fin := 17) (v := ?v34) rfl (by kernel_rfl) (by kernel_rfl) (by kernel_rfl) (by kernel_rfl) (fun _ _ _ h => h) (yieldsIf_run rfl (fun w' hw' => ?y34)) hS0 ?_
              case y34 => first | (go_simp; rfl) | (go_simp; done) | rfl
              simp only [Act.put, List.setIfInBounds_toArray, List.set_cons_zero, List.set_cons_succ]
              refine wpAnyF_take (i := 9) (fin := 17) (v := .int .i64 (kk : Int)) rfl (by kernel_rfl) (by kernel_rfl) (by kernel_rfl) (by kernel_rfl) (fun _ _ _ h => h) (yieldsIf_run rfl (fun w' hw' => ?y35)) hS0 ?_
              case y35 => (skip; clear hw'; first | (go_simp; rfl) | (go_simp; done))
              simp only [Act.put, List.setIfInBounds_toArray, List.set_cons_zero, List.set_cons_succ]
              refine wpAnyF_take (i := 10) (fin := 17) (v := ?v36) rfl (by kernel_rfl) (by kernel_rfl) (by kernel_rfl) (by kernel_rfl) (fun _ _ _ h => h) (yieldsIf_run rfl (fun w' hw' => ?y36)) hS0 ?_
              case y36 => first | (go_simp; rfl) | (go_simp; done) | rfl
              simp only [Act.put, List.setIfInBounds_toArray, List.set_cons_zero, List.set_cons_succ]
              refine wpAnyF_take (i := 11) (fin := 17) (v := ?v37) rfl (by kernel_rfl) (by kernel_rfl) (by kernel_rfl) (by kernel_rfl) (fun _ _ _ h => h) (yieldsIf_run rfl (fun w' hw' => ?y37)) hS0 ?_
              case y37 => (obtain ⟨y3, y4, yq, yr⟩ := HCELL.out w' hw'; obtain ⟨r0, r1, r2, r3, r4, r5, r6, r7, r8, r9, r10, r11, r12, r13, r14, r15⟩ := range16 yr; clear yr; clear hw'; first | (go_simp; rfl) | (go_simp; done))
              simp only [Act.put, List.setIfInBounds_toArray, List.set_cons_zero, List.set_cons_succ]
              refine wpAnyF_take (i := 12) (fin := 17) (v := ?v38) rfl (by kernel_rfl) (by kernel_rfl) (by kernel_rfl) (by kernel_rfl) (fun _ _ _ h => h) (yieldsIf_run rfl (fun w' hw' => ?y38)) hS0 ?_
              case y38 => first | (go_simp; rfl) | (go_simp; done) | rfl
              simp only [Act.put, List.setIfInBounds_toArray, List.set_cons_zero, List.set_cons_succ]
              refine wpAnyF_take (i := 13) (fin := 17) (v := ?v39) rfl (by kernel_rfl) (by kernel_rfl) (by kernel_rfl) (by kernel_rfl) (fun _ _ _ h => h) (yieldsIf_run rfl (fun w' hw' => ?y39)) hS0 ?_
              case y39 => first | (go_simp; rfl) | (go_simp; done) | rfl
              simp only [Act.put, List.setIfInBounds_toArray, List.set_cons_zero, List.set_cons_succ]
              refine wpAnyF_take (i := 14) (fin := 17) (v := ?v40) rfl (by kernel_rfl) (by kernel_rfl) (by kernel_rfl) (by kernel_rfl) (fun _ _ _ h => h) (yieldsIf_run rfl (fun w' hw' => ?y40)) hS0 ?_
              case y40 => (obtain ⟨y3, y4, yq, yr⟩ := HCELL.out w' hw'; obtain ⟨r0, r1, r2, r3, r4, r5, r6, r7, r8, r9, r10, r11, r12, r13, r14, r15⟩ := range16 yr; clear yr; clear hw'; first | (go_simp; rfl) | (go_simp; done))
              simp only [Act.put, List.setIfInBounds_toArray, List.set_cons_zero, List.set_cons_succ]
              refine wpAnyF_do (i := 15) (by kernel_rfl) rfl rfl (fun K hK => ?_)
              go_simp
              go_at_call 24
              refine (HSC.out _ hS0).mono ?_
              rintro e wx ⟨u, l, rfl, hl, hu, hbx⟩
              have hSx := hS0.trans (hbx.mono hS0.size)
              obtain ⟨ua, uc, rfl⟩ := ownsRow_form hu
              refine hK _ _ (fun _ => hSx) ?_
              clear hK K
              try simp only [Act.put, List.setIfInBounds_toArray, List.set_cons_zero, List.set_cons_succ]
              refine wpAnyF_take (i := 16) (fin := 17) (v := .pointer (some ⟨og, kk, none⟩)) rfl (by kernel_rfl) (by kernel_rfl) (by kernel_rfl) (by kernel_rfl) (fun _ _ _ h => h) (yieldsIf_run rfl (fun w' hw' => ?y41)) hSx ?_
              case y41 => first | (go_simp; rfl) | (go_simp; done) | rfl
              simp only [Act.put, List.setIfInBounds_toArray, List.set_cons_zero, List.set_cons_succ]
              refine wpAnyF_do (i := 17) (by kernel_rfl) rfl rfl (fun K hK => ?_)
              have hOx := HOJ.out.below hSx
              obtain ⟨⟨u0, hu0⟩, hfz⟩ := ownSecs_cell hOx hkk2
              go_simp
              refine hK _ _ (fun h => absurd rfl h) ?_
              clear hK K
              refine wpAnyF_done (by kernel_rfl) ?_ _
              refine NoPanic.normal ?_
              have hu3 : wx.ownsRow w1.heap.size 5 1 (.slice ua 256 uc) l.length (bvs l) := by rw [hl]; exact ownsRow_base hu (Nat.le_trans HBJ.out.size hS0.size)
              have HSET := Lib.hid (hOx.set (i := kk) hu3)
              have HALL2 := Lib.hid (all256_set HA.out kk hl)
              have HBS := Lib.hid ((HBJ.out.trans (hSx.mono HBJ.out.size)).setCell (p := ⟨og, kk, none⟩) hog1 (.slice ua 256 uc))
              clear hu hu3 hl hOx hSx hbx hu0 hfz hS0 htm hmne hwrap hkI
              go_wp2_with fail
              go_roundw
              case rel => exact ⟨j + 1, M.set kk l, by omega, by omega, by omega, by go_num, by rw [List.length_set]; exact HML.out, HSET.out, HALL2.out, fun hd => absurd hd HDne.out, HBS.out⟩
              case measure => simp [intOf]; omega
          · have hcut : (¬ (j : Int) < (No : Int)) ∨ ((j : Int) < (No : Int) ∧ ¬ (j : Int) < (Nq : Int)) ∨ ((j : Int) < (No : Int) ∧ (j : Int) < (Nq : Int) ∧ ¬ (j : Int) < 4) := by omega
            have hc8 : (cu : Int) % 8 = ((cu % 8 : Nat) : Int) := by omega
            obtain ⟨c8, hc8e⟩ : ∃ c8, cu % 8 = c8 := ⟨_, rfl⟩
            rw [hc8e] at hc8
            have hmin := min_nn c8 m
            obtain ⟨mm, hmm⟩ : ∃ mm, min c8 m = mm := ⟨_, rfl⟩
            rw [hmm] at hmin
            obtain ⟨kk, hkk⟩ : ∃ kk, m - mm = kk := ⟨_, rfl⟩
            have hkI : (m : Int) - (mm : Int) = (kk : Int) := by omega
            have hcap := HOJ.out.cap
            have hsl := slice_cutS oa m oc kk (by omega) hcap.2.2
            have hcuI : (cu : Int) < 256 := by omega
            have hfin : ∀ wz, Below wr.heap.size wr wz → RunPost ⟨g, n, .slice pa N pc, L, .slice va No vc, D, qa, qc, Q, cut⟩ w (.returned (.slice oa kk oc)) wz := by
              intro wz hb
              refine ⟨_, M.take kk, rfl, ((HOJ.out.below hb).take (by omega)).base HB1.out.size, fun l hl => HA.out l (List.mem_of_mem_take hl), by rw [List.length_take, HML.out]; omega, fun hd hc => ?_, HB1.out.trans ((HBJ.out.trans (hb.mono HBJ.out.size)).mono HB1.out.size)⟩
              have hc' : cut = 0 := hc
              have h0 : cu = 0 := by rw [← HCU.out, hc']; rfl
              have hk : kk = m := by omega
              rw [hk, List.take_of_length_le (by rw [HML.out]; omega), HD.out hd, ← HM1.out, HN.out, HMIN.out]
            have HFIN := Lib.hid hfin
            clear hc8e hmm hkk hcap hfin hlt
            rcases hcut with h1 | ⟨h1, h2⟩ | ⟨h1, h2, h3⟩
            all_goals
              go_wp2_with fail
              go_ret
              exact HFIN.out _ (Below.refl _ _)
      · go_wp2_with fail
        try clear hcase
        try clear hc1 hc2
        clear z0 z1 z2 z3 z4 z5
        go_loopw [7] (fun jv wr => ∃ (j : Nat) (M : List (List UInt8)), j ≤ No ∧ j ≤ Nq ∧ j ≤ 4 ∧ jv = .int .i64 (j : Int) ∧ M.length = m ∧ OwnSecs wr w1.heap.size (.slice oa m oc) M ∧ (∀ l ∈ M, l.length = 256) ∧ (D = [] → M = M1) ∧ Below w1.heap.size w1 wr) (fun jv _ => 4 - (intOf jv).toNat)
        case atStart => exact ⟨0, M1, Nat.zero_le _, Nat.zero_le _, Nat.zero_le _, rfl, HMM.out, HOWN.out, HALL.out, fun _ => rfl, HB.out⟩
        case round =>
          obtain ⟨j, M, hj, hjq, hj4, rfl, hMl, hO, hA, hD, hB⟩ := hrel
          obtain ⟨z0, z1, z2, z3, z4, z5⟩ := HBOX.out wr hB
          have HOJ := Lib.hid hO
          have HA := Lib.hid hA
          have HD := Lib.hid hD
          have HBJ := Lib.hid hB
          have HML := Lib.hid hMl
          clear hO hA hD hB hMl
          by_cases hlt : j < No ∧ j < Nq ∧ j < 4
          · obtain ⟨hl1, hl2, hl3⟩ := hlt
            have hI1 : (j : Int) < (No : Int) := by omega
            have hI2 : (j : Int) < (Nq : Int) := by omega
            have hI3 : (j : Int) < 4 := by omega
            have hI0 : (0 : Int) ≤ (j : Int) := by omega
            by_cases hm0 : m = 0
            · have hmz : ¬ (0 : Int) < (m : Int) := by omega
              go_wp2_with fail
              go_roundw
              case rel => exact ⟨j + 1, M, by omega, by omega, by omega, by go_num, HML.out, HOJ.out, HA.out, HD.out, HBJ.out⟩
              case measure => simp [intOf]; omega
            · have hmp : (0 : Int) < (m : Int) := by omega
              have hpos : 0 < m := by omega
              obtain ⟨og, rfl, hog1, hog2⟩ := ownSecs_addr HOJ.out (by rw [HML.out]; exact hpos)
              obtain ⟨qg, qo, rfl, hqb⟩ := (HQ.out.below HBJ.out).at_.get (i := j) (by rw [HNq.out]; exact hl2)
              obtain ⟨pl, hpl⟩ : ∃ pl, (Q[j]'(by rw [HNq.out]; exact hl2)).toNat = pl := ⟨_, rfl⟩
              have hpl2 : pl < 256 := by rw [← hpl]; exact UInt8.toNat_lt _
              rw [hpl] at hqb
              obtain ⟨vg, vo, rfl, hvg, hvr, hva⟩ := drop_none (HO.out.below HBJ.out) (i := j) (by rw [HNo.out]; exact hl1)
              obtain ⟨S, hS⟩ : ∃ S, D[j]'(by rw [HNo.out]; exact hl1) = S := ⟨_, rfl⟩
              rw [hS] at hvr hva
              obtain ⟨kk, hkk⟩ : ∃ kk, pl % m = kk := ⟨_, rfl⟩
              have hkk2 : kk < m := by rw [← hkk]; exact Nat.mod_lt _ hpos
              have hkI : (pl : Int) % (m : Int) = (kk : Int) := by rw [← hkk]; rfl
              have hkm : (kk : Int) < (m : Int) := by omega
              have hk0 : (0 : Int) ≤ (kk : Int) := by omega
              have hplI : (pl : Int) < 256 := by omega
              have hpl0 : (0 : Int) ≤ (pl : Int) := by omega
              have hwrap : IntKind.i64.wrap (pl : Int) = (pl : Int) := IntWalk.i64_in _ (by omega)
              have htm : (pl : Int).tmod (m : Int) = (kk : Int) := by rw [← hkI]; exact Int.tmod_eq_emod_of_nonneg hpl0
              have hmne : ¬ (m : Int) = 0 := by omega
              have hqg := World.block_lt_of_cell? _ _ hqb
              have hcell : ∀ w' : World, Below wr.heap.size wr w' → w'.cell? ⟨w.heap.size, 3, none⟩ = some (.slice (some ⟨vg, vo, none⟩) No vc) ∧ w'.cell? ⟨w.heap.size, 4, none⟩ = some (.slice (some ⟨qg, qo, none⟩) Nq qc) ∧ w'.cell? ⟨qg, qo + j, none⟩ = some (.int .u8 (pl : Int)) ∧ w'.rangeAt vg (vo + j * 16) S.cells := by
                intro w' hb
                obtain ⟨_, _, _, y3, y4, _⟩ := HBOX.out w' (HBJ.out.trans (hb.mono HBJ.out.size))
                exact ⟨y3, y4, (hb.cell (p := ⟨qg, qo + j, none⟩) hqg).trans hqb, fun t u hu => (hb.cell (p := ⟨vg, vo + j * 16 + t, none⟩) hvg).trans (hvr t u hu)⟩
              have hsc : ∀ w', Below wr.heap.size wr w' → Calls Tryd.prog 24 #[.agg S.cells.toArray] w' (SecPost w') := fun w' hb => sector_at S (hva.below hb)
              have HSC := Lib.hid hsc
              have HCELL := Lib.hid hcell
              have HHD := Lib.hid hm18
              have HDne := Lib.hid (show D ≠ [] from fun e => by have := HNo.out; rw [e] at this; simp at this; omega)
              clear hpl hqb hvr hva hS hkk hcell hsc hvg hqg
              go_wp2_with fail
              clear z0 z1 z2 z3 z4 z5
              refine wp_region_noPanic ?_
              refine wp_region_F 17 (Below wr.heap.size wr) (by kernel_rfl) ?_
              have hS0 : (Below wr.heap.size wr) wr.drew := (Below.refl _ _).drew
              obtain ⟨wd, hwd⟩ : ∃ wd, wr.drew = wd := ⟨_, rfl⟩
              rw [hwd] at hS0 ⊢
              clear hwd
              refine wpAnyF_take (i := 0) (fin := 17) (v := ?v42) rfl (by kernel_rfl) (by kernel_rfl) (by kernel_rfl) (by kernel_rfl) (fun _ _ _ h => h) (yieldsIf_run rfl (fun w' hw' => ?y42)) hS0 ?_
              case y42 => first | (go_simp; rfl) | (go_simp; done) | rfl
              simp only [Act.put, List.setIfInBounds_toArray, List.set_cons_zero, List.set_cons_succ]
              refine wpAnyF_take (i := 1) (fin := 17) (v := ?v43) rfl (by kernel_rfl) (by kernel_rfl) (by kernel_rfl) (by kernel_rfl) (fun _ _ _ h => h) (yieldsIf_run rfl (fun w' hw' => ?y43)) hS0 ?_
              case y43 => first | (go_simp; rfl) | (go_simp; done) | rfl
              simp only [Act.put, List.setIfInBounds_toArray, List.set_cons_zero, List.set_cons_succ]
              refine wpAnyF_take (i := 2) (fin := 17) (v := ?v44) rfl (by kernel_rfl) (by kernel_rfl) (by kernel_rfl) (by kernel_rfl) (fun _ _ _ h => h) (yieldsIf_run rfl (fun w' hw' => ?y44)) hS0 ?_
              case y44 => (obtain ⟨y3, y4, yq, yr⟩ := HCELL.out w' hw'; obtain ⟨r0, r1, r2, r3, r4, r5, r6, r7, r8, r9, r10, r11, r12, r13, r14, r15⟩ := range16 yr; clear yr; clear hw'; first | (go_simp; rfl) | (go_simp; done))
              simp only [Act.put, List.setIfInBounds_toArray, List.set_cons_zero, List.set_cons_succ]
              refine wpAnyF_take (i := 3) (fin := 17) (v := ?v45) rfl (by kernel_rfl) (by kernel_rfl) (by kernel_rfl) (by kernel_rfl) (fun _ _ _ h => h) (yieldsIf_run rfl (fun w' hw' => ?y45)) hS0 ?_
              case y45 => first | (go_simp; rfl) | (go_simp; done) | rfl
              simp only [Act.put, List.setIfInBounds_toArray, List.set_cons_zero, List.set_cons_succ]
              refine wpAnyF_take (i := 4) (fin := 17) (v := ?v46) rfl (by kernel_rfl) (by kernel_rfl) (by kernel_rfl) (by kernel_rfl) (fun _ _ _ h => h) (yieldsIf_run rfl (fun w' hw' => ?y46)) hS0 ?_
              case y46 => first | (go_simp; rfl) | (go_simp; done) | rfl
              simp only [Act.put, List.setIfInBounds_toArray, List.set_cons_zero, List.set_cons_succ]
              refine wpAnyF_take (i := 5) (fin := 17) (v := ?v47) rfl (by kernel_rfl) (by kernel_rfl) (by kernel_rfl) (by kernel_rfl) (fun _ _ _ h => h) (yieldsIf_run rfl (fun w' hw' => ?y47)) hS0 ?_
              case y47 => (obtain ⟨y3, y4, yq, yr⟩ := HCELL.out w' hw'; obtain ⟨r0, r1, r2, r3, r4, r5, r6, r7, r8, r9, r10, r11, r12, r13, r14, r15⟩ := range16 yr; clear yr; clear hw'; first | (go_simp; rfl) | (go_simp; done))
              simp only [Act.put, List.setIfInBounds_toArray, List.set_cons_zero, List.set_cons_succ]
              refine wpAnyF_take (i := 6) (fin := 17) (v := .int .i64 (pl : Int)) rfl (by kernel_rfl) (by kernel_rfl) (by kernel_rfl) (by kernel_rfl) (fun _ _ _ h => h) (yieldsIf_run rfl (fun w' hw' => ?y48)) hS0 ?_
              case y48 => first | (go_simp; rfl) | (go_simp; done) | rfl
              simp only [Act.put, List.setIfInBounds_toArray, List.set_cons_zero, List.set_cons_succ]
              refine wpAnyF_take (i := 7) (fin := 17) (v := ?v49) rfl (by kernel_rfl) (by kernel_rfl) (by kernel_rfl) (by kernel_rfl) (fun _ _ _ h => h) (yieldsIf_run rfl (fun w' hw' => ?y49)) hS0 ?_
              case y49 => first | (go_simp; rfl) | (go_simp; done) | rfl
              simp only [Act.put, List.setIfInBounds_toArray, List.set_cons_zero, List.set_cons_succ]
              refine wpAnyF_take (i := 8) (fin := 17) (v := ?v50) rfl (by kernel_rfl) (by kernel_rfl) (by kernel_rfl) (by kernel_rfl) (fun _ _ _ h => h) (yieldsIf_run rfl (fun w' hw' => ?y50)) hS0 ?_
              case y50 => first | (go_simp; rfl) | (go_simp; done) | rfl
              simp only [Act.put, List.setIfInBounds_toArray, List.set_cons_zero, List.set_cons_succ]
              refine wpAnyF_take (i := 9) (fin := 17) (v := .int .i64 (kk : Int)) rfl (by kernel_rfl) (by kernel_rfl) (by kernel_rfl) (by kernel_rfl) (fun _ _ _ h => h) (yieldsIf_run rfl (fun w' hw' => ?y51)) hS0 ?_
              case y51 => (skip; clear hw'; first | (go_simp; rfl) | (go_simp; done))
              simp only [Act.put, List.setIfInBounds_toArray, List.set_cons_zero, List.set_cons_succ]
              refine wpAnyF_take (i := 10) (fin := 17) (v := ?v52) rfl (by kernel_rfl) (by kernel_rfl) (by kernel_rfl) (by kernel_rfl) (fun _ _ _ h => h) (yieldsIf_run rfl (fun w' hw' => ?y52)) hS0 ?_
              case y52 => first | (go_simp; rfl) | (go_simp; done) | rfl
              simp only [Act.put, List.setIfInBounds_toArray, List.set_cons_zero, List.set_cons_succ]
              refine wpAnyF_take (i := 11) (fin := 17) (v := ?v53) rfl (by kernel_rfl) (by kernel_rfl) (by kernel_rfl) (by kernel_rfl) (fun _ _ _ h => h) (yieldsIf_run rfl (fun w' hw' => ?y53)) hS0 ?_
              case y53 => (obtain ⟨y3, y4, yq, yr⟩ := HCELL.out w' hw'; obtain ⟨r0, r1, r2, r3, r4, r5, r6, r7, r8, r9, r10, r11, r12, r13, r14, r15⟩ := range16 yr; clear yr; clear hw'; first | (go_simp; rfl) | (go_simp; done))
              simp only [Act.put, List.setIfInBounds_toArray, List.set_cons_zero, List.set_cons_succ]
              refine wpAnyF_take (i := 12) (fin := 17) (v := ?v54) rfl (by kernel_rfl) (by kernel_rfl) (by kernel_rfl) (by kernel_rfl) (fun _ _ _ h => h) (yieldsIf_run rfl (fun w' hw' => ?y54)) hS0 ?_
              case y54 => first | (go_simp; rfl) | (go_simp; done) | rfl
              simp only [Act.put, List.setIfInBounds_toArray, List.set_cons_zero, List.set_cons_succ]
              refine wpAnyF_take (i := 13) (fin := 17) (v := ?v55) rfl (by kernel_rfl) (by kernel_rfl) (by kernel_rfl) (by kernel_rfl) (fun _ _ _ h => h) (yieldsIf_run rfl (fun w' hw' => ?y55)) hS0 ?_
              case y55 => first | (go_simp; rfl) | (go_simp; done) | rfl
              simp only [Act.put, List.setIfInBounds_toArray, List.set_cons_zero, List.set_cons_succ]
              refine wpAnyF_take (i := 14) (fin := 17) (v := ?v56) rfl (by kernel_rfl) (by kernel_rfl) (by kernel_rfl) (by kernel_rfl) (fun _ _ _ h => h) (yieldsIf_run rfl (fun w' hw' => ?y56)) hS0 ?_
              case y56 => (obtain ⟨y3, y4, yq, yr⟩ := HCELL.out w' hw'; obtain ⟨r0, r1, r2, r3, r4, r5, r6, r7, r8, r9, r10, r11, r12, r13, r14, r15⟩ := range16 yr; clear yr; clear hw'; first | (go_simp; rfl) | (go_simp; done))
              simp only [Act.put, List.setIfInBounds_toArray, List.set_cons_zero, List.set_cons_succ]
              refine wpAnyF_do (i := 15) (by kernel_rfl) rfl rfl (fun K hK => ?_)
              go_simp
              go_at_call 24
              refine (HSC.out _ hS0).mono ?_
              rintro e wx ⟨u, l, rfl, hl, hu, hbx⟩
              have hSx := hS0.trans (hbx.mono hS0.size)
              obtain ⟨ua, uc, rfl⟩ := ownsRow_form hu
              refine hK _ _ (fun _ => hSx) ?_
              clear hK K
              try simp only [Act.put, List.setIfInBounds_toArray, List.set_cons_zero, List.set_cons_succ]
              refine wpAnyF_take (i := 16) (fin := 17) (v := .pointer (some ⟨og, kk, none⟩)) rfl (by kernel_rfl) (by kernel_rfl) (by kernel_rfl) (by kernel_rfl) (fun _ _ _ h => h) (yieldsIf_run rfl (fun w' hw' => ?y57)) hSx ?_
              case y57 => first | (go_simp; rfl) | (go_simp; done) | rfl
              simp only [Act.put, List.setIfInBounds_toArray, List.set_cons_zero, List.set_cons_succ]
              refine wpAnyF_do (i := 17) (by kernel_rfl) rfl rfl (fun K hK => ?_)
              have hOx := HOJ.out.below hSx
              obtain ⟨⟨u0, hu0⟩, hfz⟩ := ownSecs_cell hOx hkk2
              go_simp
              refine hK _ _ (fun h => absurd rfl h) ?_
              clear hK K
              refine wpAnyF_done (by kernel_rfl) ?_ _
              refine NoPanic.normal ?_
              have hu3 : wx.ownsRow w1.heap.size 5 1 (.slice ua 256 uc) l.length (bvs l) := by rw [hl]; exact ownsRow_base hu (Nat.le_trans HBJ.out.size hS0.size)
              have HSET := Lib.hid (hOx.set (i := kk) hu3)
              have HALL2 := Lib.hid (all256_set HA.out kk hl)
              have HBS := Lib.hid ((HBJ.out.trans (hSx.mono HBJ.out.size)).setCell (p := ⟨og, kk, none⟩) hog1 (.slice ua 256 uc))
              clear hu hu3 hl hOx hSx hbx hu0 hfz hS0 htm hmne hwrap hkI
              go_wp2_with fail
              go_roundw
              case rel => exact ⟨j + 1, M.set kk l, by omega, by omega, by omega, by go_num, by rw [List.length_set]; exact HML.out, HSET.out, HALL2.out, fun hd => absurd hd HDne.out, HBS.out⟩
              case measure => simp [intOf]; omega
          · have hcut : (¬ (j : Int) < (No : Int)) ∨ ((j : Int) < (No : Int) ∧ ¬ (j : Int) < (Nq : Int)) ∨ ((j : Int) < (No : Int) ∧ (j : Int) < (Nq : Int) ∧ ¬ (j : Int) < 4) := by omega
            have hc8 : (cu : Int) % 8 = ((cu % 8 : Nat) : Int) := by omega
            obtain ⟨c8, hc8e⟩ : ∃ c8, cu % 8 = c8 := ⟨_, rfl⟩
            rw [hc8e] at hc8
            have hmin := min_nn c8 m
            obtain ⟨mm, hmm⟩ : ∃ mm, min c8 m = mm := ⟨_, rfl⟩
            rw [hmm] at hmin
            obtain ⟨kk, hkk⟩ : ∃ kk, m - mm = kk := ⟨_, rfl⟩
            have hkI : (m : Int) - (mm : Int) = (kk : Int) := by omega
            have hcap := HOJ.out.cap
            have hsl := slice_cutS oa m oc kk (by omega) hcap.2.2
            have hcuI : (cu : Int) < 256 := by omega
            have hfin : ∀ wz, Below wr.heap.size wr wz → RunPost ⟨g, n, .slice pa N pc, L, .slice va No vc, D, qa, qc, Q, cut⟩ w (.returned (.slice oa kk oc)) wz := by
              intro wz hb
              refine ⟨_, M.take kk, rfl, ((HOJ.out.below hb).take (by omega)).base HB1.out.size, fun l hl => HA.out l (List.mem_of_mem_take hl), by rw [List.length_take, HML.out]; omega, fun hd hc => ?_, HB1.out.trans ((HBJ.out.trans (hb.mono HBJ.out.size)).mono HB1.out.size)⟩
              have hc' : cut = 0 := hc
              have h0 : cu = 0 := by rw [← HCU.out, hc']; rfl
              have hk : kk = m := by omega
              rw [hk, List.take_of_length_le (by rw [HML.out]; omega), HD.out hd, ← HM1.out, HN.out, HMIN.out]
            have HFIN := Lib.hid hfin
            clear hc8e hmm hkk hcap hfin hlt
            rcases hcut with h1 | ⟨h1, h2⟩ | ⟨h1, h2, h3⟩
            all_goals
              go_wp2_with fail
              go_ret
              exact HFIN.out _ (Below.refl _ _)

end Go.Proofs.YtloaenknhkfaeaaDoor
