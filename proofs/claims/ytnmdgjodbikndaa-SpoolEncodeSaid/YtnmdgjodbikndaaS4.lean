/- The spool: the order of entries, and sorting them. -/
import Derived.Test.YtnmdgjodbikndaaS3
import Derived.Shelf.SlSortCmp.NoneTotal
import Derived.Shelf.SlGeneric
import Derived.Ground.SlsfProg
import Derived.Laws.Externs
namespace Go.Proofs.Ytnmdgjodbikndaa
open Go.Shelf Go.RowKit Go.Lib Go.Sort
set_option linter.unusedVariables false
set_option linter.unusedSimpArgs false
def Try.sortEnt_ren : Go.Shelf.Ren := ⟨fun | 6 => 58 | 15 => 65 | 14 => 64 | 28 => 75 | 29 => 76 | 20 => 66 | 21 => 68 | 22 => 69 | 23 => 70 | 24 => 71 | 25 => 72 | 26 => 73 | 27 => 74 | 46 => 78 | 47 => 79 | 48 => 80 | 49 => 81 | 50 => 82 | 57 => 84 | n => n, fun | 22 => 82 | 24 => 44 | 25 => 88 | 3 => 3 | 39 => 115 | 0 => 0 | 53 => 127 | 55 => 104 | 4 => 4 | 46 => 120 | 45 => 119 | 50 => 124 | 5 => 5 | 9 => 9 | 66 => 129 | 70 => 132 | 76 => 134 | 77 => 135 | n => n, fun | n => n⟩
theorem Try.sortEnt : Go.Proofs.SlLaysF0.n6 Try.prog Try.sortEnt_ren := {
  mixed := by kernel_rfl
  f6 := ⟨Try.f58.name, by decide, Try.func58.trans (congrArg some (by kernel_rfl))⟩
  f14 := ⟨Try.f64.name, by decide, Try.func64.trans (congrArg some (by kernel_rfl))⟩
  f15 := Try.func65.trans (congrArg some (by kernel_rfl))
  f20 := ⟨Try.f66.name, by decide, Try.func66.trans (congrArg some (by kernel_rfl))⟩
  f21 := ⟨Try.f68.name, by decide, Try.func68.trans (congrArg some (by kernel_rfl))⟩
  f22 := ⟨Try.f69.name, by decide, Try.func69.trans (congrArg some (by kernel_rfl))⟩
  f23 := ⟨Try.f70.name, by decide, Try.func70.trans (congrArg some (by kernel_rfl))⟩
  f24 := ⟨Try.f71.name, by decide, Try.func71.trans (congrArg some (by kernel_rfl))⟩
  f25 := ⟨Try.f72.name, by decide, Try.func72.trans (congrArg some (by kernel_rfl))⟩
  f26 := ⟨Try.f73.name, by decide, Try.func73.trans (congrArg some (by kernel_rfl))⟩
  f27 := ⟨Try.f74.name, by decide, Try.func74.trans (congrArg some (by kernel_rfl))⟩
  f28 := Try.func75.trans (congrArg some (by kernel_rfl))
  f29 := Try.func76.trans (congrArg some (by kernel_rfl))
  f46 := ⟨Try.f78.name, by decide, Try.func78.trans (congrArg some (by kernel_rfl))⟩
  f47 := Try.func79.trans (congrArg some (by kernel_rfl))
  f48 := Try.func80.trans (congrArg some (by kernel_rfl))
  f49 := ⟨Try.f81.name, by decide, Try.func81.trans (congrArg some (by kernel_rfl))⟩
  f50 := ⟨Try.f82.name, by decide, Try.func82.trans (congrArg some (by kernel_rfl))⟩
  f57 := ⟨Try.f84.name, by decide, Try.func84.trans (congrArg some (by kernel_rfl))⟩
  t0 := Try.underlying0
  a0 := Try.isAgg0
  z0 := Try.sizeOf0
  v0 := Try.zeroValue0
  t3 := Try.underlying3
  a3 := Try.isAgg3
  z3 := Try.sizeOf3
  v3 := Try.zeroValue3
  t4 := Try.underlying4
  a4 := Try.isAgg4
  z4 := Try.sizeOf4
  v4 := Try.zeroValue4
  t5 := Try.underlying5
  a5 := Try.isAgg5
  z5 := Try.sizeOf5
  v5 := Try.zeroValue5
  t9 := Try.underlying9
  a9 := Try.isAgg9
  z9 := Try.sizeOf9
  v9 := Try.zeroValue9
  t22 := Try.underlying82
  a22 := Try.isAgg82
  z22 := Try.sizeOf82
  v22 := Try.zeroValue82
  t25 := Try.underlying88
  a25 := Try.isAgg88
  z25 := Try.sizeOf88
  v25 := Try.zeroValue88
  t39 := Try.underlying115
  a39 := Try.isAgg115
  z39 := Try.sizeOf115
  v39 := Try.zeroValue115
  t45 := Try.underlying119
  a45 := Try.isAgg119
  z45 := Try.sizeOf119
  v45 := Try.zeroValue119
  t46 := Try.underlying120
  a46 := Try.isAgg120
  z46 := Try.sizeOf120
  v46 := Try.zeroValue120
  t50 := Try.underlying124
  a50 := Try.isAgg124
  z50 := Try.sizeOf124
  v50 := Try.zeroValue124
  t53 := Try.underlying127
  a53 := Try.isAgg127
  z53 := Try.sizeOf127
  v53 := Try.zeroValue127
  t55 := Try.underlying104
  a55 := Try.isAgg104
  z55 := Try.sizeOf104
  v55 := Try.zeroValue104
  t66 := Try.underlying129
  a66 := Try.isAgg129
  z66 := Try.sizeOf129
  v66 := Try.zeroValue129
  t70 := Try.underlying132
  a70 := Try.isAgg132
  z70 := Try.sizeOf132
  v70 := Try.zeroValue132
  t76 := Try.underlying134
  a76 := Try.isAgg134
  z76 := Try.sizeOf134
  v76 := Try.zeroValue134
  t77 := Try.underlying135
  a77 := Try.isAgg135
  z77 := Try.sizeOf135
  v77 := Try.zeroValue135 }

def cmpI (x y : Int) : Int := if x < y then -1 else if y < x then 1 else 0
set_option maxHeartbeats 1000000 in
theorem isNaN_int (x : Int) (w : World) : Calls Try.prog 60 #[.int .i64 x] w fun e w' => e = .returned (.bool false) ∧ w' = w := by
  have h1 : (x == x) = true := by simp
  have h2 : (x != x) = false := by simp
  go_enter Try.func60, Try.ntmps60
  go_wp2_with fail
  exact bodyPost_ret (v := .bool false) (by simp [results, Try.results60, go_sem]) rfl ⟨rfl, rfl⟩
set_option maxHeartbeats 1000000 in
theorem compare_int (x y : Int) (w : World) : Calls Try.prog 41 #[.int .i64 x, .int .i64 y] w fun e w' => e = .returned (.int .i64 (cmpI x y)) ∧ w' = w := by
  obtain ⟨c, hc⟩ : ∃ c, cmpI x y = c := ⟨_, rfl⟩
  rw [hc]
  unfold cmpI at hc
  have HC := Lib.hid hc
  clear hc
  go_enter Try.func41, Try.ntmps41
  go_wp2_with fail
  refine (isNaN_int x w).mono ?_
  rintro e w1 ⟨rfl, rfl⟩
  go_wp2_with fail
  refine (isNaN_int y _).mono ?_
  rintro e w2 ⟨rfl, rfl⟩
  by_cases h1 : x < y
  · obtain rfl : -1 = c := by rw [← HC.out, if_pos h1]
    clear HC
    go_wp2_with fail
    exact bodyPost_ret (v := .int .i64 (-1)) (by simp [results, Try.results41, go_sem]) rfl ⟨rfl, rfl⟩
  by_cases h2 : y < x
  · obtain rfl : 1 = c := by rw [← HC.out, if_neg h1, if_pos h2]
    clear HC
    go_wp2_with fail
    exact bodyPost_ret (v := .int .i64 1) (by simp [results, Try.results41, go_sem]) rfl ⟨rfl, rfl⟩
  obtain rfl : 0 = c := by rw [← HC.out, if_neg h1, if_neg h2]
  clear HC
  go_wp2_with fail
  exact bodyPost_ret (v := .int .i64 0) (by simp [results, Try.results41, go_sem]) rfl ⟨rfl, rfl⟩

def entC (a : ArtD) : List Value := bvs a.id.1 ++ [.int .i64 a.arr, .int .i64 (a.text.size : Int)]
theorem entC_length (a : ArtD) : (entC a).length = 34 := by unfold entC; rw [List.length_append, bvs_length, a.id.2]; rfl
theorem entC_one (a : ArtD) : ∀ v ∈ entC a, v.oneCell' = true := by
  intro v hv
  unfold entC at hv
  rcases List.mem_append.1 hv with hv | hv
  · exact bvs_oneCell v hv
  · simp only [List.mem_cons, List.not_mem_nil, or_false] at hv
    rcases hv with rfl | rfl <;> rfl
/-- Entries as elements of slices. -/
def entE : ElemTy Try.prog 82 44 ArtD where
  enc := entC
  k := 34
  hu := Try.underlying82
  hi := ⟨.agg (entC zA).toArray, 48, by kernel_rfl, by kernel_rfl, by decide⟩
  hk := by decide
  len := entC_length
  one := entC_one
def plk (S : SpD) (k : IdB) : Int := ((S.find k).getD zA).place
def cmpE (S : SpD) (x y : ArtD) : Int := cmpI (plk S x.id) (plk S y.id)
set_option maxRecDepth 100000 in
set_option maxHeartbeats 2000000 in
theorem entCmp {w : World} {b m bx : Nat} {S : SpD} (h : SpAt w b m S) (hbx : w.heap[bx]? = some (.cells #[.pointer (some ⟨b, 0, none⟩)] 24 (0, 0))) (X Y : ArtD) :
    Calls Try.prog 59 #[.agg (entC X).toArray, .agg (entC Y).toArray, .pointer (some ⟨bx, 0, none⟩)] w fun e w' => e = .returned (.int .i64 (cmpE S X Y)) ∧ ∃ q os', w' = grow (w.drewN q) os' := by
  obtain ⟨w1, hw1⟩ : ∃ w1, w.alloc (.cells (entC X).toArray 44) = w1 := ⟨_, rfl⟩
  obtain ⟨w2, hw2⟩ : ∃ w2, w1.alloc (.cells (entC Y).toArray 44) = w2 := ⟨_, rfl⟩
  have hx1 : w1.heap[w.heap.size]? = some (.cells (entC X).toArray 44 (0, 0)) := by rw [← hw1]; exact heap_alloc_new _ _
  have hx2 : w2.heap[w1.heap.size]? = some (.cells (entC Y).toArray 44 (0, 0)) := by rw [← hw2]; exact heap_alloc_new _ _
  have hb1 : Below w.heap.size w w1 := hw1 ▸ (Below.refl _ _).alloc (Nat.le_refl _) _
  have hb2 : Below w1.heap.size w1 w2 := hw2 ▸ (Below.refl _ _).alloc (Nat.le_refl _) _
  have hb12 := hb1.trans (hb2.mono hb1.size)
  have hx1 := (hb2.block _ (Array.getElem?_eq_some_iff.1 hx1).1).trans hx1
  have hid : ∀ {wx : World} {g : Nat} {Z : ArtD}, wx.rangeAt g 0 (entC Z) → wx.rangeAt g 0 (bvs Z.id.1) := fun h j u hu => h j u (by
    unfold entC
    rw [List.getElem?_append_left (List.getElem?_eq_some_iff.1 hu).1]
    exact hu)
  have h2 := h.below hb12
  have hbx2 := (hb12.block bx (Array.getElem?_eq_some_iff.1 hbx).1).trans hbx
  have HC := Lib.hid (show w2.drew.cell? ⟨bx, 0, none⟩ = some (.pointer (some ⟨b, 0, none⟩)) ∧ w2.drew.cell? ⟨b, 3, none⟩ = some (.map (some m)) from ⟨by rw [cell_of_row w2.drew _ _ _ _ _ hbx2]; rfl, (h2.kept (w' := w2.drew) rfl rfl).cells.2.2.2⟩)
  have HC3 := Lib.hid (show w2.drew.rangeAt w.heap.size 0 (bvs X.id.1) ∧ w2.drew.rangeAt w1.heap.size 0 (bvs Y.id.1) from ⟨hid (range_block (w := w2.drew) hx1), hid (range_block (w := w2.drew) hx2)⟩)
  have hl : ∀ k : IdB, (Instr.lookup 76 (.map (some m)) (.agg (bvs k.1).toArray) false).run Try.prog w2.drew = .ok (artv ((S.find k).getD zA)) w2.drew := fun k => (h2.kept (w' := w2.drew) rfl rfl).look k false
  have hfin : ∃ q os', w2.drew = grow (w.drewN q) os' := ⟨1, #[.cells (entC X).toArray 44, .cells (entC Y).toArray 44], by
    rw [← hw2, ← hw1, alloc_eq_grow, alloc_eq_grow, grow_grow]
    rfl⟩
  have hlX := hl X.id
  have hlY := hl Y.id
  obtain ⟨A, hA⟩ : ∃ A, (S.find X.id).getD zA = A := ⟨_, rfl⟩
  obtain ⟨B, hB⟩ : ∃ B, (S.find Y.id).getD zA = B := ⟨_, rfl⟩
  rw [hA] at hlX
  rw [hB] at hlY
  have hcm : cmpE S X Y = cmpI A.place B.place := by unfold cmpE plk; rw [hA, hB]
  rw [hcm]
  unfold artv at hlX hlY
  have HL := Lib.hid (And.intro hlX hlY)
  have HF := Lib.hid hfin
  clear hfin hl hlX hlY hA hB hcm hx1 hx2 hb1 hb2 hb12 h2 hbx2 hbx h
  go_enter Try.func59, Try.ntmps59
  go_wp2_with fail
  refine wp_region_noPanic ?_
  refine wp_region_H ((fun wx => wx = w2.drew)) (by kernel_rfl) ?_
  have hS0 : ((fun wx => wx = w2.drew)) w2.drew := rfl
  refine wpAnyH_takeI (i := 0) (v := .pointer (some ⟨b, 0, none⟩)) rfl (by kernel_rfl) (by kernel_rfl) (by kernel_rfl) (fun _ _ _ h => h) (yieldsIf_run rfl (fun w' hw' => ?y1)) hS0 ?_
  case y1 => (have hc := HC.out.1; subst hw'; first | (go_simp; rfl) | (go_simp; done))
  simp only [Act.put, List.setIfInBounds_toArray, List.set_cons_zero, List.set_cons_succ]
  refine wpAnyH_takeI (i := 1) (v := ?v2) rfl (by kernel_rfl) (by kernel_rfl) (by kernel_rfl) (fun _ _ _ h => h) (yieldsIf_run rfl (fun w' hw' => ?y2)) hS0 ?_
  case y2 => first | (go_simp; rfl) | (go_simp; done) | rfl
  simp only [Act.put, List.setIfInBounds_toArray, List.set_cons_zero, List.set_cons_succ]
  refine wpAnyH_takeI (i := 2) (v := ?v3) rfl (by kernel_rfl) (by kernel_rfl) (by kernel_rfl) (fun _ _ _ h => h) (yieldsIf_run rfl (fun w' hw' => ?y3)) hS0 ?_
  case y3 => first | (go_simp; rfl) | (go_simp; done) | rfl
  simp only [Act.put, List.setIfInBounds_toArray, List.set_cons_zero, List.set_cons_succ]
  refine wpAnyH_takeI (i := 3) (v := .map (some m)) rfl (by kernel_rfl) (by kernel_rfl) (by kernel_rfl) (fun _ _ _ h => h) (yieldsIf_run rfl (fun w' hw' => ?y4)) hS0 ?_
  case y4 => (have hc := HC.out.2; subst hw'; first | (go_simp; rfl) | (go_simp; done))
  simp only [Act.put, List.setIfInBounds_toArray, List.set_cons_zero, List.set_cons_succ]
  refine wpAnyH_takeI (i := 4) (v := ?v5) rfl (by kernel_rfl) (by kernel_rfl) (by kernel_rfl) (fun _ _ _ h => h) (yieldsIf_run rfl (fun w' hw' => ?y5)) hS0 ?_
  case y5 => first | (go_simp; rfl) | (go_simp; done) | rfl
  simp only [Act.put, List.setIfInBounds_toArray, List.set_cons_zero, List.set_cons_succ]
  refine wpAnyH_takeI (i := 5) (v := .agg (bvs X.id.1).toArray) rfl (by kernel_rfl) (by kernel_rfl) (by kernel_rfl) (fun _ _ _ h => h) (yieldsIf_load_mid rfl 30 (.tmp 10) rfl w.heap.size 0 rfl (bvs X.id.1) _ (fun w' hw' => by subst hw'; exact HC3.out.1) Try.underlying30 rfl (sizeId X.id)) hS0 ?_
  simp only [Act.put, List.setIfInBounds_toArray, List.set_cons_zero, List.set_cons_succ]
  refine wpAnyH_takeI (i := 6) (v := .agg #[.string A.text, .int .i64 A.arr, .int .i64 A.place]) rfl (by kernel_rfl) (by kernel_rfl) (by kernel_rfl) (fun _ _ _ h => h) (yieldsIf_run rfl (fun w' hw' => ?y6)) hS0 ?_
  case y6 => (have hl := HL.out.1; subst hw'; first | (go_simp; rfl) | (go_simp; done))
  simp only [Act.put, List.setIfInBounds_toArray, List.set_cons_zero, List.set_cons_succ]
  refine wpAnyH_takeI (i := 7) (v := .int .i64 A.place) rfl (by kernel_rfl) (by kernel_rfl) (by kernel_rfl) (fun _ _ _ h => h) (yieldsIf_run rfl (fun w' hw' => ?y7)) hS0 ?_
  case y7 => first | (go_simp; rfl) | (go_simp; done) | rfl
  simp only [Act.put, List.setIfInBounds_toArray, List.set_cons_zero, List.set_cons_succ]
  refine wpAnyH_takeI (i := 8) (v := .pointer (some ⟨b, 0, none⟩)) rfl (by kernel_rfl) (by kernel_rfl) (by kernel_rfl) (fun _ _ _ h => h) (yieldsIf_run rfl (fun w' hw' => ?y8)) hS0 ?_
  case y8 => (have hc := HC.out.1; subst hw'; first | (go_simp; rfl) | (go_simp; done))
  simp only [Act.put, List.setIfInBounds_toArray, List.set_cons_zero, List.set_cons_succ]
  refine wpAnyH_takeI (i := 9) (v := ?v9) rfl (by kernel_rfl) (by kernel_rfl) (by kernel_rfl) (fun _ _ _ h => h) (yieldsIf_run rfl (fun w' hw' => ?y9)) hS0 ?_
  case y9 => first | (go_simp; rfl) | (go_simp; done) | rfl
  simp only [Act.put, List.setIfInBounds_toArray, List.set_cons_zero, List.set_cons_succ]
  refine wpAnyH_takeI (i := 10) (v := ?v10) rfl (by kernel_rfl) (by kernel_rfl) (by kernel_rfl) (fun _ _ _ h => h) (yieldsIf_run rfl (fun w' hw' => ?y10)) hS0 ?_
  case y10 => first | (go_simp; rfl) | (go_simp; done) | rfl
  simp only [Act.put, List.setIfInBounds_toArray, List.set_cons_zero, List.set_cons_succ]
  refine wpAnyH_takeI (i := 11) (v := .map (some m)) rfl (by kernel_rfl) (by kernel_rfl) (by kernel_rfl) (fun _ _ _ h => h) (yieldsIf_run rfl (fun w' hw' => ?y11)) hS0 ?_
  case y11 => (have hc := HC.out.2; subst hw'; first | (go_simp; rfl) | (go_simp; done))
  simp only [Act.put, List.setIfInBounds_toArray, List.set_cons_zero, List.set_cons_succ]
  refine wpAnyH_takeI (i := 12) (v := ?v12) rfl (by kernel_rfl) (by kernel_rfl) (by kernel_rfl) (fun _ _ _ h => h) (yieldsIf_run rfl (fun w' hw' => ?y12)) hS0 ?_
  case y12 => first | (go_simp; rfl) | (go_simp; done) | rfl
  simp only [Act.put, List.setIfInBounds_toArray, List.set_cons_zero, List.set_cons_succ]
  refine wpAnyH_takeI (i := 13) (v := .agg (bvs Y.id.1).toArray) rfl (by kernel_rfl) (by kernel_rfl) (by kernel_rfl) (fun _ _ _ h => h) (yieldsIf_load_mid rfl 30 (.tmp 18) rfl w1.heap.size 0 rfl (bvs Y.id.1) _ (fun w' hw' => by subst hw'; exact HC3.out.2) Try.underlying30 rfl (sizeId Y.id)) hS0 ?_
  simp only [Act.put, List.setIfInBounds_toArray, List.set_cons_zero, List.set_cons_succ]
  refine wpAnyH_takeI (i := 14) (v := .agg #[.string B.text, .int .i64 B.arr, .int .i64 B.place]) rfl (by kernel_rfl) (by kernel_rfl) (by kernel_rfl) (fun _ _ _ h => h) (yieldsIf_run rfl (fun w' hw' => ?y13)) hS0 ?_
  case y13 => (have hl := HL.out.2; subst hw'; first | (go_simp; rfl) | (go_simp; done))
  simp only [Act.put, List.setIfInBounds_toArray, List.set_cons_zero, List.set_cons_succ]
  refine wpAnyH_takeI (i := 15) (v := .int .i64 B.place) rfl (by kernel_rfl) (by kernel_rfl) (by kernel_rfl) (fun _ _ _ h => h) (yieldsIf_run rfl (fun w' hw' => ?y14)) hS0 ?_
  case y14 => first | (go_simp; rfl) | (go_simp; done) | rfl
  simp only [Act.put, List.setIfInBounds_toArray, List.set_cons_zero, List.set_cons_succ]
  refine wpAnyH_do (i := 16) (by kernel_rfl) rfl rfl (fun K hK => ?_)
  go_simp
  go_at_call 41
  refine (compare_int A.place B.place _).mono ?_
  rintro e wc ⟨rfl, rfl⟩
  refine hK _ _ (hS0) ?_
  clear hK K
  try simp only [Act.put, List.setIfInBounds_toArray, List.set_cons_zero, List.set_cons_succ]
  refine wpAnyH_takeI (i := 17) (v := ?v15) rfl (by kernel_rfl) (by kernel_rfl) (by kernel_rfl) (fun _ _ _ h => h) (yieldsIf_run rfl (fun w' hw' => ?y15)) hS0 ?_
  case y15 => first | (go_simp; rfl) | (go_simp; done) | rfl
  simp only [Act.put, List.setIfInBounds_toArray, List.set_cons_zero, List.set_cons_succ]
  refine wpAnyH_done (by kernel_rfl) ?_ _
  refine NoPanic.normal ?_
  go_wp2_with fail
  exact bodyPost_ret (v := .int .i64 (cmpI A.place B.place)) (by simp [results, Try.results59, go_sem]) rfl ⟨rfl, HF.out⟩
end Go.Proofs.Ytnmdgjodbikndaa
