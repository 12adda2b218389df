/- arrange's comparison; the order of the articles. -/
import Derived.Test.YthfinofmbnfijaaTh3
import Derived.Lib.OwnBridge
import Derived.Sort.OwnSortedInts
namespace Go.Proofs.Ythfinofmbnfijaa
open Go.Shelf Go.RowKit Go.Lib Go.Sort
set_option linter.unusedVariables false
set_option linter.unusedSimpArgs false
def Try.sortInt_ren : Go.Shelf.Ren := ⟨fun | 6 => 55 | 15 => 64 | 14 => 66 | 28 => 77 | 29 => 78 | 20 => 79 | 21 => 81 | 22 => 82 | 23 => 83 | 24 => 84 | 25 => 85 | 26 => 86 | 27 => 87 | 46 => 94 | 47 => 89 | 48 => 90 | 49 => 95 | 50 => 96 | 57 => 99 | n => n, fun | 22 => 71 | 24 => 3 | 25 => 100 | 3 => 3 | 39 => 109 | 0 => 0 | 53 => 120 | 55 => 122 | 4 => 4 | 46 => 114 | 45 => 113 | 50 => 54 | 5 => 5 | 9 => 9 | 66 => 128 | 70 => 132 | 76 => 136 | 77 => 137 | n => n, fun | n => n⟩
theorem Try.sortInt : Go.Proofs.SlLaysF.n6 Try.prog Try.sortInt_ren := {
  mixed := by kernel_rfl
  f6 := ⟨Try.f55.name, by decide, Try.func55.trans (congrArg some (by kernel_rfl))⟩
  f14 := ⟨Try.f66.name, by decide, Try.func66.trans (congrArg some (by kernel_rfl))⟩
  f15 := Try.func64.trans (congrArg some (by kernel_rfl))
  f20 := ⟨Try.f79.name, by decide, Try.func79.trans (congrArg some (by kernel_rfl))⟩
  f21 := ⟨Try.f81.name, by decide, Try.func81.trans (congrArg some (by kernel_rfl))⟩
  f22 := ⟨Try.f82.name, by decide, Try.func82.trans (congrArg some (by kernel_rfl))⟩
  f23 := ⟨Try.f83.name, by decide, Try.func83.trans (congrArg some (by kernel_rfl))⟩
  f24 := ⟨Try.f84.name, by decide, Try.func84.trans (congrArg some (by kernel_rfl))⟩
  f25 := ⟨Try.f85.name, by decide, Try.func85.trans (congrArg some (by kernel_rfl))⟩
  f26 := ⟨Try.f86.name, by decide, Try.func86.trans (congrArg some (by kernel_rfl))⟩
  f27 := ⟨Try.f87.name, by decide, Try.func87.trans (congrArg some (by kernel_rfl))⟩
  f28 := Try.func77.trans (congrArg some (by kernel_rfl))
  f29 := Try.func78.trans (congrArg some (by kernel_rfl))
  f46 := ⟨Try.f94.name, by decide, Try.func94.trans (congrArg some (by kernel_rfl))⟩
  f47 := Try.func89.trans (congrArg some (by kernel_rfl))
  f48 := Try.func90.trans (congrArg some (by kernel_rfl))
  f49 := ⟨Try.f95.name, by decide, Try.func95.trans (congrArg some (by kernel_rfl))⟩
  f50 := ⟨Try.f96.name, by decide, Try.func96.trans (congrArg some (by kernel_rfl))⟩
  f57 := ⟨Try.f99.name, by decide, Try.func99.trans (congrArg some (by kernel_rfl))⟩
  t0 := Try.underlying0
  a0 := Try.isAgg0
  z0 := Try.sizeOf0
  v0 := Try.zeroValue0
  t3 := Try.underlying3
  a3 := Try.isAgg3
  z3 := Try.sizeOf3
  v3 := Try.zeroValue3
  t4 := Try.underlying4
  a4 := Try.isAgg4
  z4 := Try.sizeOf4
  v4 := Try.zeroValue4
  t5 := Try.underlying5
  a5 := Try.isAgg5
  z5 := Try.sizeOf5
  v5 := Try.zeroValue5
  t9 := Try.underlying9
  a9 := Try.isAgg9
  z9 := Try.sizeOf9
  v9 := Try.zeroValue9
  t22 := Try.underlying71
  a22 := Try.isAgg71
  z22 := Try.sizeOf71
  v22 := Try.zeroValue71
  a24 := Try.isAgg3
  z24 := Try.sizeOf3
  t25 := Try.underlying100
  a25 := Try.isAgg100
  z25 := Try.sizeOf100
  v25 := Try.zeroValue100
  t39 := Try.underlying109
  a39 := Try.isAgg109
  z39 := Try.sizeOf109
  v39 := Try.zeroValue109
  t45 := Try.underlying113
  a45 := Try.isAgg113
  z45 := Try.sizeOf113
  v45 := Try.zeroValue113
  t46 := Try.underlying114
  a46 := Try.isAgg114
  z46 := Try.sizeOf114
  v46 := Try.zeroValue114
  t50 := Try.underlying54
  a50 := Try.isAgg54
  z50 := Try.sizeOf54
  v50 := Try.zeroValue54
  t53 := Try.underlying120
  a53 := Try.isAgg120
  z53 := Try.sizeOf120
  v53 := Try.zeroValue120
  t55 := Try.underlying122
  a55 := Try.isAgg122
  z55 := Try.sizeOf122
  v55 := Try.zeroValue122
  t66 := Try.underlying128
  a66 := Try.isAgg128
  z66 := Try.sizeOf128
  v66 := Try.zeroValue128
  t70 := Try.underlying132
  a70 := Try.isAgg132
  z70 := Try.sizeOf132
  v70 := Try.zeroValue132
  t76 := Try.underlying136
  a76 := Try.isAgg136
  z76 := Try.sizeOf136
  v76 := Try.zeroValue136
  t77 := Try.underlying137
  a77 := Try.isAgg137
  z77 := Try.sizeOf137
  v77 := Try.zeroValue137 }
def Try.sortInt0_ren : Go.Shelf.Ren := ⟨fun | 6 => 55 | 15 => 64 | 14 => 66 | 28 => 77 | 29 => 78 | 20 => 79 | 21 => 81 | 22 => 82 | 23 => 83 | 24 => 84 | 25 => 85 | 26 => 86 | 27 => 87 | 46 => 94 | 47 => 89 | 48 => 90 | 49 => 95 | 50 => 96 | 57 => 99 | n => n, fun | 22 => 71 | 24 => 3 | 25 => 100 | 3 => 3 | 39 => 109 | 0 => 0 | 53 => 120 | 55 => 122 | 4 => 4 | 46 => 114 | 45 => 113 | 50 => 54 | 5 => 5 | 9 => 9 | 66 => 128 | 70 => 132 | 76 => 136 | 77 => 137 | n => n, fun | n => n⟩
theorem Try.sortInt0 : Go.Proofs.SlLaysF0.n6 Try.prog Try.sortInt0_ren := {
  mixed := by kernel_rfl
  f6 := ⟨Try.f55.name, by decide, Try.func55.trans (congrArg some (by kernel_rfl))⟩
  f14 := ⟨Try.f66.name, by decide, Try.func66.trans (congrArg some (by kernel_rfl))⟩
  f15 := Try.func64.trans (congrArg some (by kernel_rfl))
  f20 := ⟨Try.f79.name, by decide, Try.func79.trans (congrArg some (by kernel_rfl))⟩
  f21 := ⟨Try.f81.name, by decide, Try.func81.trans (congrArg some (by kernel_rfl))⟩
  f22 := ⟨Try.f82.name, by decide, Try.func82.trans (congrArg some (by kernel_rfl))⟩
  f23 := ⟨Try.f83.name, by decide, Try.func83.trans (congrArg some (by kernel_rfl))⟩
  f24 := ⟨Try.f84.name, by decide, Try.func84.trans (congrArg some (by kernel_rfl))⟩
  f25 := ⟨Try.f85.name, by decide, Try.func85.trans (congrArg some (by kernel_rfl))⟩
  f26 := ⟨Try.f86.name, by decide, Try.func86.trans (congrArg some (by kernel_rfl))⟩
  f27 := ⟨Try.f87.name, by decide, Try.func87.trans (congrArg some (by kernel_rfl))⟩
  f28 := Try.func77.trans (congrArg some (by kernel_rfl))
  f29 := Try.func78.trans (congrArg some (by kernel_rfl))
  f46 := ⟨Try.f94.name, by decide, Try.func94.trans (congrArg some (by kernel_rfl))⟩
  f47 := Try.func89.trans (congrArg some (by kernel_rfl))
  f48 := Try.func90.trans (congrArg some (by kernel_rfl))
  f49 := ⟨Try.f95.name, by decide, Try.func95.trans (congrArg some (by kernel_rfl))⟩
  f50 := ⟨Try.f96.name, by decide, Try.func96.trans (congrArg some (by kernel_rfl))⟩
  f57 := ⟨Try.f99.name, by decide, Try.func99.trans (congrArg some (by kernel_rfl))⟩
  t0 := Try.underlying0
  a0 := Try.isAgg0
  z0 := Try.sizeOf0
  v0 := Try.zeroValue0
  t3 := Try.underlying3
  a3 := Try.isAgg3
  z3 := Try.sizeOf3
  v3 := Try.zeroValue3
  t4 := Try.underlying4
  a4 := Try.isAgg4
  z4 := Try.sizeOf4
  v4 := Try.zeroValue4
  t5 := Try.underlying5
  a5 := Try.isAgg5
  z5 := Try.sizeOf5
  v5 := Try.zeroValue5
  t9 := Try.underlying9
  a9 := Try.isAgg9
  z9 := Try.sizeOf9
  v9 := Try.zeroValue9
  t22 := Try.underlying71
  a22 := Try.isAgg71
  z22 := Try.sizeOf71
  v22 := Try.zeroValue71
  t25 := Try.underlying100
  a25 := Try.isAgg100
  z25 := Try.sizeOf100
  v25 := Try.zeroValue100
  t39 := Try.underlying109
  a39 := Try.isAgg109
  z39 := Try.sizeOf109
  v39 := Try.zeroValue109
  t45 := Try.underlying113
  a45 := Try.isAgg113
  z45 := Try.sizeOf113
  v45 := Try.zeroValue113
  t46 := Try.underlying114
  a46 := Try.isAgg114
  z46 := Try.sizeOf114
  v46 := Try.zeroValue114
  t50 := Try.underlying54
  a50 := Try.isAgg54
  z50 := Try.sizeOf54
  v50 := Try.zeroValue54
  t53 := Try.underlying120
  a53 := Try.isAgg120
  z53 := Try.sizeOf120
  v53 := Try.zeroValue120
  t55 := Try.underlying122
  a55 := Try.isAgg122
  z55 := Try.sizeOf122
  v55 := Try.zeroValue122
  t66 := Try.underlying128
  a66 := Try.isAgg128
  z66 := Try.sizeOf128
  v66 := Try.zeroValue128
  t70 := Try.underlying132
  a70 := Try.isAgg132
  z70 := Try.sizeOf132
  v70 := Try.zeroValue132
  t76 := Try.underlying136
  a76 := Try.isAgg136
  z76 := Try.sizeOf136
  v76 := Try.zeroValue136
  t77 := Try.underlying137
  a77 := Try.isAgg137
  z77 := Try.sizeOf137
  v77 := Try.zeroValue137 }

theorem grow_below (w : World) (q : Nat) (os : Array Obj) : Below w.heap.size w (grow (w.drewN q) os) := by
  refine ⟨rfl, rfl, rfl, ?_, fun k hk => ?_⟩
  · show w.heap.size ≤ (w.heap ++ os).size
    rw [Array.size_append]; omega
  · show (w.heap ++ os)[k]? = _
    rw [Array.getElem?_append_left hk]
set_option maxRecDepth 100000 in
set_option maxHeartbeats 2000000 in
theorem cmpArr {w : World} {bx : Nat} {v : Value} {L : List RowV} (hbx : w.heap[bx]? = some (.cells #[v] 23 (0, 0))) (hv : RowsAt w v L) (hl : L.length < 1000000) (x y : Fin L.length) :
    Calls Try.prog 56 #[.int .i64 (x.val : Int), .int .i64 (y.val : Int), .pointer (some ⟨bx, 0, none⟩)] w fun e w' => e = .returned (.int .i64 (cmpT L[x].tw L[y].tw)) ∧ ∃ q os', w' = grow (w.drewN q) os' := by
  obtain ⟨va, vc, rfl⟩ := hv.l.form
  obtain ⟨g, off, rfl, hg, _⟩ := hv.l.get x.isLt
  have HC := Lib.hid (show ∀ w', (∃ q os, w' = grow (w.drewN q) os) → w'.cell? ⟨bx, 0, none⟩ = some (.slice (some ⟨g, off, none⟩) L.length vc) from fun w' ⟨q, os, hw⟩ => by
    have hb := grow_below w q os
    rw [← hw] at hb
    rw [cell_of_row _ _ _ _ _ _ ((hb.block _ (Array.getElem?_eq_some_iff.1 hbx).1).trans hbx)]
    rfl)
  have HR := Lib.hid (show ∀ w', (∃ q os, w' = grow (w.drewN q) os) → ∀ z : Fin L.length, w'.rangeAt g (off + z.val * 83) L[z].cells from fun w' ⟨q, os, hw⟩ z => by
    have hb := grow_below w q os
    rw [← hw] at hb
    obtain ⟨g', off', e, hg', hr⟩ := hv.l.get z.isLt
    cases e
    exact range_below hr hg hb)
  obtain ⟨N, hN⟩ : ∃ N, L.length = N := ⟨_, rfl⟩
  have hxI : (x.val : Int) < (L.length : Int) := by have := x.isLt; omega
  have hyI : (y.val : Int) < (L.length : Int) := by have := y.isLt; omega
  have hx0 : (0 : Int) ≤ (x.val : Int) := by omega
  have hy0 : (0 : Int) ≤ (y.val : Int) := by omega
  clear hbx hv hg hN
  go_enter Try.func56, Try.ntmps56
  go_wp2_with fail
  refine wp_region_noPanic ?_
  refine wp_region_H (fun wx => ∃ q os, wx = grow (w.drewN q) os) (by kernel_rfl) ?_
  have hS0 : (fun wx => ∃ q os, wx = grow (w.drewN q) os) w.drew := ⟨1, #[], by rw [grow_empty]; rfl⟩
  refine wpAnyH_takeI (i := 0) (v := ?v1) rfl (by kernel_rfl) (by kernel_rfl) (by kernel_rfl) (fun _ _ _ h => h) (yieldsIf_run rfl (fun w' hw' => ?y1)) hS0 ?_
  case y1 => (have hc0 := HC.out w' hw'; clear hw'; first | (go_simp; rfl) | (go_simp; done))
  simp only [Act.put, List.setIfInBounds_toArray, List.set_cons_zero, List.set_cons_succ]
  refine wpAnyH_takeI (i := 1) (v := ?v2) rfl (by kernel_rfl) (by kernel_rfl) (by kernel_rfl) (fun _ _ _ h => h) (yieldsIf_run rfl (fun w' hw' => ?y2)) hS0 ?_
  case y2 => first | (go_simp; rfl) | (go_simp; done) | rfl
  simp only [Act.put, List.setIfInBounds_toArray, List.set_cons_zero, List.set_cons_succ]
  refine wpAnyH_takeI (i := 2) (v := ?v3) rfl (by kernel_rfl) (by kernel_rfl) (by kernel_rfl) (fun _ _ _ h => h) (yieldsIf_run rfl (fun w' hw' => ?y3)) hS0 ?_
  case y3 => first | (go_simp; rfl) | (go_simp; done) | rfl
  simp only [Act.put, List.setIfInBounds_toArray, List.set_cons_zero, List.set_cons_succ]
  refine wpAnyH_takeI (i := 3) (v := .agg L[x].cells.toArray) rfl (by kernel_rfl) (by kernel_rfl) (by kernel_rfl) (fun _ _ _ h => h) (yieldsIf_load_mid rfl 43 (.tmp 8) rfl g (off + x.val * 83) rfl L[x].cells _ (fun w' hw' => HR.out w' hw' x) Try.underlying43 rfl (sizeRow L[x])) hS0 ?_
  simp only [Act.put, List.setIfInBounds_toArray, List.set_cons_zero, List.set_cons_succ]
  refine wpAnyH_takeI (i := 4) (v := ?v4) rfl (by kernel_rfl) (by kernel_rfl) (by kernel_rfl) (fun _ _ _ h => h) (yieldsIf_run rfl (fun w' hw' => ?y4)) hS0 ?_
  case y4 => (have hc0 := HC.out w' hw'; clear hw'; first | (go_simp; rfl) | (go_simp; done))
  simp only [Act.put, List.setIfInBounds_toArray, List.set_cons_zero, List.set_cons_succ]
  refine wpAnyH_takeI (i := 5) (v := ?v5) rfl (by kernel_rfl) (by kernel_rfl) (by kernel_rfl) (fun _ _ _ h => h) (yieldsIf_run rfl (fun w' hw' => ?y5)) hS0 ?_
  case y5 => first | (go_simp; rfl) | (go_simp; done) | rfl
  simp only [Act.put, List.setIfInBounds_toArray, List.set_cons_zero, List.set_cons_succ]
  refine wpAnyH_takeI (i := 6) (v := ?v6) rfl (by kernel_rfl) (by kernel_rfl) (by kernel_rfl) (fun _ _ _ h => h) (yieldsIf_run rfl (fun w' hw' => ?y6)) hS0 ?_
  case y6 => first | (go_simp; rfl) | (go_simp; done) | rfl
  simp only [Act.put, List.setIfInBounds_toArray, List.set_cons_zero, List.set_cons_succ]
  refine wpAnyH_takeI (i := 7) (v := .agg L[y].cells.toArray) rfl (by kernel_rfl) (by kernel_rfl) (by kernel_rfl) (fun _ _ _ h => h) (yieldsIf_load_mid rfl 43 (.tmp 12) rfl g (off + y.val * 83) rfl L[y].cells _ (fun w' hw' => HR.out w' hw' y) Try.underlying43 rfl (sizeRow L[y])) hS0 ?_
  simp only [Act.put, List.setIfInBounds_toArray, List.set_cons_zero, List.set_cons_succ]
  refine wpAnyH_do (i := 8) (by kernel_rfl) rfl rfl (fun K hK => ?_)
  go_simp
  go_at_call 25
  refine (cmpRow L[x] L[y] _).mono ?_
  rintro e wc ⟨rfl, q', os', rfl⟩
  have hS8 : (fun wx => ∃ q os, wx = grow (w.drewN q) os) (grow (w.drew.drewN q') os') := by
    obtain ⟨q0, os0, hq0⟩ := hS0
    exact ⟨q0 + q', os0 ++ os', by rw [hq0, grow_drewN', World.drewN_drewN, grow_grow]⟩
  refine hK _ _ (hS8) ?_
  clear hK K
  try simp only [Act.put, List.setIfInBounds_toArray, List.set_cons_zero, List.set_cons_succ]
  refine wpAnyH_takeI (i := 9) (v := ?v7) rfl (by kernel_rfl) (by kernel_rfl) (by kernel_rfl) (fun _ _ _ h => h) (yieldsIf_run rfl (fun w' hw' => ?y7)) hS8 ?_
  case y7 => first | (go_simp; rfl) | (go_simp; done) | rfl
  simp only [Act.put, List.setIfInBounds_toArray, List.set_cons_zero, List.set_cons_succ]
  refine wpAnyH_done (by kernel_rfl) ?_ _
  refine NoPanic.normal ?_
  go_wp2_with fail
  exact bodyPost_ret (v := .int .i64 (cmpT L[x].tw L[y].tw)) (by simp [results, Try.results56, go_sem]) rfl ⟨rfl, _, _, rfl⟩
/-- Lists of numbers. -/
def natE : ElemTy Try.prog 71 3 Nat where
  enc n := [.int .i64 (n : Int)]
  k := 1
  hu := Try.underlying71
  hi := ⟨.int .i64 0, 8, by kernel_rfl, by kernel_rfl, by decide⟩
  hk := by decide
  len _ := rfl
  one n := fun v hv => by obtain rfl := List.mem_singleton.1 hv; rfl
theorem natE_flat : ∀ M : List Nat, M.flatMap natE.enc = M.map (fun n : Nat => Value.int .i64 (n : Int))
  | [] => rfl
  | n :: M => by rw [List.flatMap_cons, natE_flat M]; rfl
theorem sw1_below {α : Type} [Inhabited α] {enc : α → Value} {w : World} {B g m : Nat} {dk : Array α} {os : Array Obj} (hg : B ≤ g) (hB : B ≤ w.heap.size) : Below B w (sortWorld enc w g 0 m dk os) := by
  have hbp := Lib.below_putRow (B := B) (q := m) (d := dk) (enc := enc) (Below.refl B w) hg
  have hsz : (putRow enc (Sort.ahead w m) g 0 dk).heap.size = w.heap.size := by rw [size_putRow]; rfl
  refine ⟨hbp.os, hbp.tape, hbp.output, ?_, fun k hk => ?_⟩
  · show w.heap.size ≤ ((putRow enc (Sort.ahead w m) g 0 dk).heap ++ os).size
    rw [Array.size_append, hsz]; omega
  · show ((putRow enc (Sort.ahead w m) g 0 dk).heap ++ os)[k]? = _
    rw [Array.getElem?_append_left (by rw [hsz]; omega)]
    exact hbp.block k hk
theorem sw1_chg {α : Type} [Inhabited α] {enc : α → Value} {w : World} {g m n cap : Nat} {dk : Array α} {os : Array Obj} : Chg (fun k => (Value.slice (some ⟨g, 0, none⟩) n cap).ownBlock = some k) w (sortWorld enc w g 0 m dk os) := by
  have hsz : (putRow enc (Sort.ahead w m) g 0 dk).heap.size = w.heap.size := by rw [size_putRow]; rfl
  refine ⟨rfl, rfl, rfl, ?_, fun k hk hne => ?_⟩
  · show w.heap.size ≤ ((putRow enc (Sort.ahead w m) g 0 dk).heap ++ os).size
    rw [Array.size_append, hsz]; omega
  · show ((putRow enc (Sort.ahead w m) g 0 dk).heap ++ os)[k]? = _
    rw [Array.getElem?_append_left (by rw [hsz]; omega)]
    have hkg : g ≠ k := fun e => hne (by rw [e]; rfl)
    simp [putRow, mapBlock, Sort.ahead, Array.getElem?_modify, hkg]
/-- The articles' comparison by their indices. -/
def cfF (L : List RowV) (x y : Fin L.length) : Int := cmpT L[x].tw L[y].tw
theorem swoF (L : List RowV) : SWO (ltOf (cfF L)) where
  irrefl x := swoT'.irrefl L[x].tw
  trans x y z h1 h2 := swoT'.trans L[x].tw L[y].tw L[z].tw h1 h2
  ntrans x y z h1 h2 := swoT'.ntrans L[x].tw L[y].tw L[z].tw h1 h2
def srtF (L : List RowV) (M : List (Fin L.length)) : List (Fin L.length) := M.mergeSort fun x y => !(ltOf (cfF L) y x)
theorem fin_eq {L : List RowV} (hn : (L.map (·.id)).Nodup) (x y : Fin L.length) (h1 : ltOf (cfF L) x y = false) (h2 : ltOf (cfF L) y x = false) : x = y := by
  unfold ltOf cfF at h1 h2
  simp only [decide_eq_false_iff_not] at h1 h2
  have hs := cmpT_swap L[x].tw L[y].tw
  have he := (cmpT_eq (a := L[x].tw) (b := L[y].tw) (by omega)).2
  rw [List.nodup_iff_pairwise_ne, List.pairwise_map, List.pairwise_iff_getElem] at hn
  rcases Nat.lt_trichotomy x.val y.val with h | h | h
  · exact absurd he (hn x.val y.val x.isLt y.isLt h)
  · exact Fin.ext h
  · exact absurd he.symm (hn y.val x.val y.isLt x.isLt h)
theorem sortOrd_any {w0 w : World} {B bx : Nat} {rv v : Value} {L : List RowV} (hbx : w0.heap[bx]? = some (.cells #[rv] 23 (0, 0))) (hv : RowsAt w0 rv L) (hb : Below w0.heap.size w0 w) (h0 : w0.heap.size ≤ B) (hB : B ≤ w.heap.size) (hl : L.length < 1000000) (hn : (L.map (·.id)).Nodup) (M : List (Fin L.length)) (h : OwnL natE w B v (M.map (·.val))) (hM : M.length < 1000000) :
    Calls Try.prog 55 #[v, .func (.func 56) #[] #[.pointer (some ⟨bx, 0, none⟩)]] w fun e w' => e = .returned (.tuple #[]) ∧ OwnL natE w' B v ((srtF L M).map (·.val)) ∧ Below B w w' ∧ Chg (fun k => v.ownBlock = some k) w w' := by
  have hh : w.ownsRow B 3 1 v (M.map (·.val)).length ((M.map (·.val)).flatMap natE.enc) := h
  by_cases hne : M = []
  · subst hne
    rcases hh.2 with ⟨rfl, _⟩ | ⟨g, cap, cur, rfl, _⟩
    · exact (AnyF.slices_SortFunc_none Try.sortInt0 none 0 _ w).mono fun e w' ⟨he, hw⟩ => ⟨he, by rw [hw, show srtF L [] = [] from by simp [srtF]]; exact h, hw ▸ Below.refl _ _, hw ▸ Chg.refl _ _⟩
    · exact (AnyF.slices_SortFunc_none Try.sortInt0 (some ⟨g, 0, none⟩) cap _ w).mono fun e w' ⟨he, hw⟩ => ⟨he, by rw [hw, show srtF L [] = [] from by simp [srtF]]; exact h, hw ▸ Below.refl _ _, hw ▸ Chg.refl _ _⟩
  · haveI : Inhabited (Fin L.length) := ⟨M.head hne⟩
    have hmap : (M.map (·.val)).flatMap natE.enc = M.map (fun i : Fin L.length => Value.int .i64 (i.val : Int)) := by rw [natE_flat, List.map_map]; rfl
    have hlen : (M.map (·.val)).length = M.length := List.length_map _
    rw [hmap, hlen] at hh
    have hv0 : v ≠ .slice none 0 0 := fun e => by
      rcases hh.2 with ⟨_, h1⟩ | ⟨g, cap, cur, e1, _⟩
      · exact hne (List.eq_nil_of_length_eq_zero h1)
      · rw [e1] at e; cases e
    obtain ⟨g, cap, rfl, hgB, hgw, hnc, hcm, _, hH⟩ := Lib.holds_of_ownsRow hh hv0
    have hcmp : CmpLays1 Try.prog 56 #[.pointer (some ⟨bx, 0, none⟩)] (fun i : Fin L.length => Value.int .i64 (i.val : Int)) (cfF L) g 0 M.toArray.size w := fun m os dk _ x y => by
      have hbw : Below w0.heap.size w0 (sortWorld (fun i : Fin L.length => Value.int .i64 (i.val : Int)) w g 0 m dk os) := hb.trans ((sw1_below (m := m) (dk := dk) (os := os) hgB hB).mono h0)
      exact cmpArr ((hbw.block _ (Array.getElem?_eq_some_iff.1 hbx).1).trans hbx) (hv.below hbw) hl x y
    have eg : ∀ args w, (callFunc 56 args).run Try.prog w = .ok (.enter 56 args) w := enters_of Try.func56 (by kernel_rfl) rfl
    have hcon := Any.slices_SortFunc_total Try.sortInt (fun i : Fin L.length => Value.int .i64 (i.val : Int)) (fun _ => rfl) (cfF L) (swoF L) 56 #[.pointer (some ⟨bx, 0, none⟩)] g 0 cap M.toArray w eg hcmp hH hgw (by rw [List.size_toArray]; omega) (fin_eq hn)
    rw [List.size_toArray] at hcon
    refine hcon.mono ?_
    rintro e w' ⟨rfl, m, os, rfl⟩
    have hsl : (srtF L M).length = M.length := List.length_mergeSort _
    refine ⟨rfl, ?_, sw1_below hgB hB, sw1_chg⟩
    have hown := Lib.ownsRow_putRow (q := m) (k := M.length) (ys := srtF L M) hh hsl (Nat.le_refl _)
    rw [List.take_of_length_le (by rw [hsl]; exact Nat.le_refl _)] at hown
    have hmap2 : ((srtF L M).map (·.val)).flatMap natE.enc = (srtF L M).map (fun i : Fin L.length => Value.int .i64 (i.val : Int)) := by rw [natE_flat, List.map_map]; rfl
    show World.ownsRow _ B 3 1 _ ((srtF L M).map (·.val)).length _
    rw [hmap2, List.length_map, hsl]
    exact own_kept hown (grow_below _ 0 os)
end Go.Proofs.Ythfinofmbnfijaa
