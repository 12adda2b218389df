/- Visibility: the check on which the laws insist. -/
import Derived.Test.YtjjanjhoaiannaaV12b
import Derived.Test.YtjjanjhoaiannaaV5
import Derived.Test.YtjjanjhoaiannaaV8
import Derived.Test.YtjjanjhoaiannaaVp3
import Derived.Test.YtjjanjhoaiannaaV11
import Derived.Test.YtjjanjhoaiannaaRegion6
namespace Go.Proofs.Ytjjanjhoaiannaa
open Go.RowKit
set_option linter.unusedVariables false
set_option linter.unusedSimpArgs false

theorem vwpList_loadV {P : Program} {ops : Array Oper} {rest : List Oper} {o : Oper} {a : Act} {w : World} {Q : Exit → Act → World → Prop} (hgd : o.guard = none) (dst : Option Tmp) (hdst : o.dst = dst) (ty : TypeId) (x : Operand) (ho : o.op = .load ty x)
    (g : Nat) (hx : a.eval x = .pointer (some ⟨g, 0, none⟩)) (t : TypeId) (cs : Array Value) (fr : Nat × Nat) (d : TypeDesc) (hg : w.heap[g]? = some (.cells cs t fr))
    (hu : P.underlying ty = some d) (hd : (match d with | .struct _ | .array _ _ => true | _ => false) = true) (hi : (P.info? ty).map (·.size) = some cs.size)
    (h : wpList P ops Q rest (a.put dst (.agg cs)) w) : wpList P ops Q (o :: rest) a w := by
  subst hdst
  exact wpList_load_row hgd ty x ho g hx t cs fr d hg hu hd hi h
def vStop (p : Prop) : Prop := p
theorem vStop.on {p : Prop} (h : vStop p) : p := h
theorem vStop.go {p : Prop} (h : p) : vStop p := h
theorem vle_max4 {n : Nat} (h : n ≤ 4) : n ≤ maxLen := Nat.le_trans h (by unfold maxLen; omega)
def vidN (n : UInt8) : IdB := ⟨n :: List.replicate 31 0, by simp⟩
def vkRow (a : IdB) (d : Int) (v : Value) (h : v.oneCell' = true) (M : List IdB) : RowV := ⟨a, List.replicate 16 0, by simp, d, .slice none 0 0, rfl, v, h, z32, M⟩
def kr2 (b : Nat) : RowV := vkRow (vidN 2) 100 (.slice (some ⟨b, 0, none⟩) 1 1) rfl [vidN 1]
def kr3 (b : Nat) : RowV := vkRow (vidN 3) 130 (.slice (some ⟨b, 0, none⟩) 2 2) rfl [vidN 1, vidN 2]
set_option maxRecDepth 100000 in
theorem vbuild_id (n : UInt8) (w : World) : (Instr.build 31 #[(0, .int .u8 (n.toNat : Int))]).run Try.prog w = .ok (idv (vidN n)) w := by
  kernel_rfl
set_option maxRecDepth 100000 in
theorem build_r2 (b : Nat) (w : World) : (Instr.build 36 #[(0, .agg (bvs (vidN 2).1).toArray), (2, .int .i64 100), (4, .slice (some ⟨b, 0, none⟩) 1 1)]).run Try.prog w = .ok (rowv (kr2 b)) w := by
  kernel_rfl
set_option maxRecDepth 100000 in
theorem build_r3 (b : Nat) (w : World) : (Instr.build 36 #[(0, .agg (bvs (vidN 3).1).toArray), (2, .int .i64 130), (4, .slice (some ⟨b, 0, none⟩) 2 2)]).run Try.prog w = .ok (rowv (kr3 b)) w := by
  kernel_rfl
theorem sortB_23 : sortB [vidN 2, vidN 3] = [vidN 2, vidN 3] :=
  sorted_unique (sortB_perm _) (sortB_sorted _) (List.pairwise_cons.2 ⟨fun x hx => by obtain rfl := List.mem_singleton.1 hx; kernel_rfl, List.pairwise_singleton _ _⟩)
theorem sortB_1 (x : IdB) : sortB [x] = [x] := sorted_unique (sortB_perm _) (sortB_sorted _) (List.pairwise_singleton _ _)
theorem known_facts (b c : Nat) : chkL [kr2 b, kr3 c] = 0 ∧ chkL [kr3 c] = 0 ∧ sortB (([kr2 b, kr3 c].filter fun r => !shB [kr2 b, kr3 c] [] 2979 r).map (·.id)) = [vidN 2, vidN 3] ∧
    sortB (([kr2 b, kr3 c].filter fun r => shB [kr2 b, kr3 c] [] 2980 r).map (·.id)) = [vidN 2, vidN 3] ∧ sortB (([kr3 c].filter fun r => shB [kr3 c] [vidN 2] 130 r).map (·.id)) = [vidN 3] :=
  ⟨by kernel_rfl, by kernel_rfl, (congrArg sortB (by kernel_rfl)).trans sortB_23, (congrArg sortB (by kernel_rfl)).trans sortB_23, (congrArg sortB (by kernel_rfl)).trans (sortB_1 _)⟩

set_option maxRecDepth 100000 in
set_option maxHeartbeats 2000000 in
theorem vknown_any {w : World} :
    Calls Try.prog 11 #[] w (fun e w' => e = .returned (.bool true) ∧ Below w.heap.size w w') := by
  have hkf := known_facts
  have hr2 := build_r2
  have hr3 := build_r3
  obtain ⟨i1, hi1⟩ : ∃ i1, vidN 1 = i1 := ⟨_, rfl⟩
  obtain ⟨i2, hi2⟩ : ∃ i1, vidN 2 = i1 := ⟨_, rfl⟩
  obtain ⟨i3, hi3⟩ : ∃ i1, vidN 3 = i1 := ⟨_, rfl⟩
  have HI1 := Lib.hid (fun w => hi1 ▸ vbuild_id 1 w)
  have HI2 := Lib.hid (fun w => hi2 ▸ vbuild_id 2 w)
  have HI3 := Lib.hid (fun w => hi3 ▸ vbuild_id 3 w)
  have hk2 : ∀ b, (kr2 b).refs = [i1] ∧ (kr2 b).rv = .slice (some ⟨b, 0, none⟩) 1 1 := fun b => ⟨hi1 ▸ rfl, rfl⟩
  have hk3 : ∀ b, (kr3 b).refs = [i1, i2] ∧ (kr3 b).rv = .slice (some ⟨b, 0, none⟩) 2 2 := fun b => ⟨hi1 ▸ hi2 ▸ rfl, rfl⟩
  rw [hi2, hi3] at hkf
  rw [hi2] at hr2
  rw [hi3] at hr3
  have HR2 := Lib.hid hr2
  have HR3 := Lib.hid hr3
  have HKF := Lib.hid hkf
  have HK2 := Lib.hid hk2
  have HK3 := Lib.hid hk3
  have HZ := Lib.hid (show (Try.prog.info? 31).map (fun i => (i.zero, i.size)) = some (some (.agg (bvs z32.1).toArray), 32) by kernel_rfl)
  clear hi1 hi2 hi3 hkf hr2 hr3 hk2 hk3
  go_enter Try.func11, Try.ntmps11
  go_wp2_with (refine vwpList_buildV rfl (some 11) rfl 31 _ rfl [(0, .int .u8 1)] rfl (.agg (bvs i1.1).toArray) (HI1.out _) ?_; refine vStop.on ?_)
  refine vStop.go ?_
  try simp only [Act.put, List.setIfInBounds_toArray, List.set_cons_zero, List.set_cons_succ]
  refine vwpList_buildV rfl (some 12) rfl 31 _ rfl [(0, .int .u8 2)] rfl (.agg (bvs i2.1).toArray) (HI2.out _) ?_
  try simp only [Act.put, List.setIfInBounds_toArray, List.set_cons_zero, List.set_cons_succ]
  refine vwpList_buildV rfl (some 13) rfl 31 _ rfl [(0, .int .u8 3)] rfl (.agg (bvs i3.1).toArray) (HI3.out _) ?_
  try simp only [Act.put, List.setIfInBounds_toArray, List.set_cons_zero, List.set_cons_succ]
  refine vwpList_newV rfl (some 1) rfl 31 rfl (bvs z32.1).toArray 32 HZ.out ?_; intro w1 x1 b1 s1; have HN1 := Lib.hid (And.intro x1 (And.intro b1 s1)); clear x1 b1 s1
  try simp only [Act.put, List.setIfInBounds_toArray, List.set_cons_zero, List.set_cons_succ]
  refine vwpList_newV rfl (some 2) rfl 31 rfl (bvs z32.1).toArray 32 HZ.out ?_; intro w2 x2 b2 s2; have HN2 := Lib.hid (And.intro x2 (And.intro b2 s2)); clear x2 b2 s2
  try simp only [Act.put, List.setIfInBounds_toArray, List.set_cons_zero, List.set_cons_succ]
  refine vwpList_newV rfl (some 3) rfl 31 rfl (bvs z32.1).toArray 32 HZ.out ?_; intro w3 x3 b3 s3; have HN3 := Lib.hid (And.intro x3 (And.intro b3 s3)); clear x3 b3 s3
  try simp only [Act.put, List.setIfInBounds_toArray, List.set_cons_zero, List.set_cons_succ]
  have HG1 := Lib.hid ((HN3.out.2.1.block _ (by have := HN2.out.2.2; have := HN1.out.2.2; omega)).trans ((HN2.out.2.1.block _ (by have := HN1.out.2.2; omega)).trans HN1.out.1)); refine vwpList_putV rfl rfl 31 (.tmp 1) (.tmp 11) rfl _ (bvs i1.1).toArray rfl rfl 31 (bvs z32.1).toArray (HG1.out) (sizeIdA i1) (by rw [List.size_toArray, List.size_toArray, bvs_length, bvs_length, z32.2, i1.2]) (vall_oneCell_cells idE i1) ?_; intro w4 x1 b1 s1; have HC4 := Lib.hid (And.intro x1 (And.intro b1 s1)); clear x1 b1 s1
  try simp only [Act.put, List.setIfInBounds_toArray, List.set_cons_zero, List.set_cons_succ]
  have HG2 := Lib.hid ((HC4.out.2.1.block _ (by have := HN3.out.2.2; have := HN2.out.2.2; have := HN1.out.2.2; omega) (by have := HN1.out.2.2; omega)).trans ((HN3.out.2.1.block _ (by have := HN2.out.2.2; omega)).trans HN2.out.1)); refine vwpList_putV rfl rfl 31 (.tmp 2) (.tmp 12) rfl _ (bvs i2.1).toArray rfl rfl 31 (bvs z32.1).toArray (HG2.out) (sizeIdA i2) (by rw [List.size_toArray, List.size_toArray, bvs_length, bvs_length, z32.2, i2.2]) (vall_oneCell_cells idE i2) ?_; intro w5 x2 b2 s2; have HC5 := Lib.hid (And.intro x2 (And.intro b2 s2)); clear x2 b2 s2
  try simp only [Act.put, List.setIfInBounds_toArray, List.set_cons_zero, List.set_cons_succ]
  have HG3 := Lib.hid ((HC5.out.2.1.block _ (by have := HC4.out.2.2; have := HN3.out.2.2; have := HN2.out.2.2; omega) (by have := HN2.out.2.2; omega)).trans ((HC4.out.2.1.block _ (by have := HN3.out.2.2; omega) (by have := HN2.out.2.2; have := HN1.out.2.2; omega)).trans HN3.out.1)); refine vwpList_putV rfl rfl 31 (.tmp 3) (.tmp 13) rfl _ (bvs i3.1).toArray rfl rfl 31 (bvs z32.1).toArray (HG3.out) (sizeIdA i3) (by rw [List.size_toArray, List.size_toArray, bvs_length, bvs_length, z32.2, i3.2]) (vall_oneCell_cells idE i3) ?_; intro w6 x3 b3 s3; have HC6 := Lib.hid (And.intro x3 (And.intro b3 s3)); clear x3 b3 s3; have HS6 := Lib.hid (show w.heap.size < w1.heap.size ∧ w1.heap.size < w2.heap.size ∧ w2.heap.size < w6.heap.size from ⟨by have := HN1.out.2.2; omega, by have := HN2.out.2.2; omega, by have := HN3.out.2.2; have := HC4.out.2.2; have := HC5.out.2.2; have := HC6.out.2.2; omega⟩); have HBLK := Lib.hid (show ∀ w', Below w6.heap.size w6 w' → w'.heap[w.heap.size]? = some (.cells (bvs i1.1).toArray 31 (0, 0)) ∧ w'.heap[w1.heap.size]? = some (.cells (bvs i2.1).toArray 31 (0, 0)) ∧ w'.heap[w2.heap.size]? = some (.cells (bvs i3.1).toArray 31 (0, 0)) from fun w' hw' => ⟨(hw'.block _ (by have := HS6.out; omega)).trans ((HC6.out.2.1.block _ (by have := HS6.out; have := HC6.out.2.2; omega) (by have := HS6.out; omega)).trans ((HC5.out.2.1.block _ (by have := HS6.out; have := HC6.out.2.2; have := HC5.out.2.2; omega) (by have := HS6.out; omega)).trans HC4.out.1)), (hw'.block _ (by have := HS6.out; omega)).trans ((HC6.out.2.1.block _ (by have := HS6.out; have := HC6.out.2.2; omega) (by have := HS6.out; omega)).trans HC5.out.1), (hw'.block _ (by have := HS6.out; omega)).trans HC6.out.1⟩); have HB6 := Lib.hid (show Below w.heap.size w w6 from by have l1 := HS6.out; have c6 := HC6.out.2.2; have c5 := HC5.out.2.2; have c4 := HC4.out.2.2; exact (HN1.out.2.1.trans ((HN2.out.2.1.mono (by omega)).trans ((HN3.out.2.1.mono (by omega)).trans ((HC4.out.2.1.below (B := w.heap.size) (fun k e => by omega) (by omega)).trans ((HC5.out.2.1.below (B := w.heap.size) (fun k e => by omega) (by omega)).trans (HC6.out.2.1.below (B := w.heap.size) (fun k e => by omega) (by omega)))))))); clear HN1 HN2 HN3 HC4 HC5 HC6 HG1 HG2 HG3
  try simp only [Act.put, List.setIfInBounds_toArray, List.set_cons_zero, List.set_cons_succ]
  go_wp2_with (refine vwpList_loadV rfl (some 14) rfl 31 (.tmp 2) rfl _ rfl 31 (bvs i2.1).toArray (0, 0) _ (HBLK.out _ (Below.refl _ _)).2.1 Try.underlying31 rfl (sizeIdA i2) ?_; refine vStop.on ?_)
  refine vStop.go ?_
  try simp only [Act.put, List.setIfInBounds_toArray, List.set_cons_zero, List.set_cons_succ]
  refine vwpList_loadV rfl (some 15) rfl 31 (.tmp 1) rfl _ rfl 31 (bvs i1.1).toArray (0, 0) _ (HBLK.out _ (Below.refl _ _)).1 Try.underlying31 rfl (sizeIdA i1) ?_
  try simp only [Act.put, List.setIfInBounds_toArray, List.set_cons_zero, List.set_cons_succ]
  refine vwpList_litsV idE rfl (some 16) rfl 1 #[(0, .tmp 15)] rfl [i1] rfl rfl (by decide) (by decide) ?_; intro w7 x y z; have HX7 := Lib.hid x; have HB7 := Lib.hid y; have HS7 := Lib.hid z; clear x y z
  try simp only [Act.put, List.setIfInBounds_toArray, List.set_cons_zero, List.set_cons_succ]
  refine vwpList_buildV rfl (some 17) rfl 36 _ rfl [(0, .agg (bvs i2.1).toArray), (2, .int .i64 100), (4, .slice (some ⟨w6.heap.size, 0, none⟩) 1 1)] rfl (rowv (kr2 w6.heap.size)) (HR2.out _ _) ?_; (obtain ⟨R2, hR2⟩ : ∃ R2, kr2 w6.heap.size = R2 := ⟨_, rfl⟩); rw [hR2]; have HE2 := Lib.hid hR2; clear hR2
  try simp only [Act.put, List.setIfInBounds_toArray, List.set_cons_zero, List.set_cons_succ]
  refine vwpList_loadV rfl (some 18) rfl 31 (.tmp 3) rfl _ rfl 31 (bvs i3.1).toArray (0, 0) _ (HBLK.out _ HB7.out).2.2 Try.underlying31 rfl (sizeIdA i3) ?_
  try simp only [Act.put, List.setIfInBounds_toArray, List.set_cons_zero, List.set_cons_succ]
  refine vwpList_loadV rfl (some 19) rfl 31 (.tmp 1) rfl _ rfl 31 (bvs i1.1).toArray (0, 0) _ (HBLK.out _ HB7.out).1 Try.underlying31 rfl (sizeIdA i1) ?_
  try simp only [Act.put, List.setIfInBounds_toArray, List.set_cons_zero, List.set_cons_succ]
  refine vwpList_loadV rfl (some 20) rfl 31 (.tmp 2) rfl _ rfl 31 (bvs i2.1).toArray (0, 0) _ (HBLK.out _ HB7.out).2.1 Try.underlying31 rfl (sizeIdA i2) ?_
  try simp only [Act.put, List.setIfInBounds_toArray, List.set_cons_zero, List.set_cons_succ]
  refine vwpList_litsV idE rfl (some 21) rfl 2 #[(0, .tmp 19), (1, .tmp 20)] rfl [i1, i2] rfl rfl (by decide) (by decide) ?_; intro w8 x y z; have HX8 := Lib.hid x; have HB8 := Lib.hid y; have HS8 := Lib.hid z; clear x y z
  try simp only [Act.put, List.setIfInBounds_toArray, List.set_cons_zero, List.set_cons_succ]
  refine vwpList_buildV rfl (some 22) rfl 36 _ rfl [(0, .agg (bvs i3.1).toArray), (2, .int .i64 130), (4, .slice (some ⟨w7.heap.size, 0, none⟩) 2 2)] rfl (rowv (kr3 w7.heap.size)) (HR3.out _ _) ?_; (obtain ⟨R3, hR3⟩ : ∃ R3, kr3 w7.heap.size = R3 := ⟨_, rfl⟩); rw [hR3]; have HE3 := Lib.hid hR3; clear hR3
  try simp only [Act.put, List.setIfInBounds_toArray, List.set_cons_zero, List.set_cons_succ]
  refine vwpList_litsV rowE rfl (some 23) rfl 2 #[(0, .tmp 17), (1, .tmp 22)] rfl [R2, R3] rfl rfl (by decide) (by decide) ?_; intro w9 x y z; have HX9 := Lib.hid x; have HB9 := Lib.hid y; have HS9 := Lib.hid z; clear x y z
  try simp only [Act.put, List.setIfInBounds_toArray, List.set_cons_zero, List.set_cons_succ]
  have hk := HKF.out w6.heap.size w7.heap.size
  rw [HE2.out, HE3.out] at hk
  have HKE := Lib.hid hk
  have HRV := Lib.hid (show RowsAt w9 (.slice (some ⟨w8.heap.size, 0, none⟩) 2 2) [R2, R3] from ⟨vlist_of_block rowE HX9.out (vle_max4 (by simp)), fun R hR => by
    rcases List.mem_cons.1 hR with rfl | hR
    · rw [← HE2.out, (HK2.out _).1, (HK2.out _).2]
      exact (vlist_of_block idE HX7.out (vle_max4 (by simp))).below (HB8.out.trans (HB9.out.mono HB8.out.size))
    · obtain rfl := List.mem_singleton.1 hR
      rw [← HE3.out, (HK3.out _).1, (HK3.out _).2]
      exact (vlist_of_block idE HX8.out (vle_max4 (by simp))).below HB9.out⟩)
  have HB09 := Lib.hid (HB7.out.trans ((HB8.out.trans (HB9.out.mono HB8.out.size)).mono HB7.out.size))
  clear hk
  go_wp2_with fail
  refine (by have h := Held_any _ _ [R2, R3] [] 2979 HRV.out (listAt_nil _ _) (by simp) (by simp); rw [HKE.out.1, HKE.out.2.2.1] at h; exact h : Calls Try.prog 24 _ w9 (ListPost w9 0 [i2, i3])).mono ?_
  rintro e w10 ⟨x, rfl, hox, hb10⟩
  have HOX := Lib.hid hox
  have HB10 := Lib.hid hb10
  clear hox hb10
  go_wp2_with fail
  refine (by have h := Shown_any _ _ [R2, R3] [] 2980 (HRV.out.below HB10.out) (listAt_nil _ _) (by simp) (by simp); rw [HKE.out.1, HKE.out.2.2.2.1] at h; exact h : Calls Try.prog 14 _ w10 (ListPost w10 0 [i2, i3])).mono ?_
  rintro e w11 ⟨y, rfl, hoy, hb11⟩
  have HOY := Lib.hid hoy
  have HB9B := Lib.hid (HB10.out.trans (hb11.mono HB10.out.size))
  have HB1011 := Lib.hid hb11
  have HB11 := Lib.hid (HB09.out.trans (HB9B.out.mono HB09.out.size))
  have HRT := Lib.hid (show RowsAt w11 (.slice (some ⟨w8.heap.size, 83, none⟩) 1 1) [R3] from ⟨by have h := (HRV.out.l.below HB9B.out).drop (k := 1) (by decide); exact h, fun R hR => (HRV.out.r R (List.mem_cons_of_mem _ hR)).below HB9B.out⟩)
  clear hoy hb11
  go_wp2_with fail
  refine wp_region_noPanic ?_
  refine wp_region_H (Below w11.heap.size w11) (by kernel_rfl) ?_
  have hS0 : (Below w11.heap.size w11) w11.drew := (Below.refl _ _).drew
  obtain ⟨wd, hwd⟩ : ∃ wd, w11.drew = wd := ⟨_, rfl⟩
  rw [hwd] at hS0 ⊢
  clear hwd
  refine wpAnyH_takeI (i := 0) (v := ?v1) rfl (by kernel_rfl) (by kernel_rfl) (by kernel_rfl) (fun _ _ _ h => h) (yieldsIf_run rfl (fun w' hw' => ?y1)) hS0 ?_
  case y1 => first | (go_simp; rfl) | (go_simp; done) | rfl
  simp only [Act.put, List.setIfInBounds_toArray, List.set_cons_zero, List.set_cons_succ]
  refine wpAnyH_takeI (i := 1) (v := .slice (some ⟨w8.heap.size, 83, none⟩) 1 1) rfl (by kernel_rfl) (by kernel_rfl) (by kernel_rfl) (fun _ _ _ h => h) (yieldsIf_run rfl (fun w' hw' => ?y2)) hS0 ?_
  case y2 => first | (go_simp; rfl) | (go_simp; done) | rfl
  simp only [Act.put, List.setIfInBounds_toArray, List.set_cons_zero, List.set_cons_succ]
  refine wpAnyH_takeI (i := 2) (v := .agg (bvs i2.1).toArray) rfl (by kernel_rfl) (by kernel_rfl) (by kernel_rfl) (fun _ _ _ h => h) (yieldsIf_load_mid rfl 31 (.tmp 2) rfl w1.heap.size 0 rfl (bvs i2.1) _ (fun w' hw' => range_block (HBLK.out w' (HB11.out.trans (hw'.mono HB11.out.size))).2.1) Try.underlying31 rfl (sizeId i2)) hS0 ?_
  simp only [Act.put, List.setIfInBounds_toArray, List.set_cons_zero, List.set_cons_succ]
  refine wpAnyH_do (i := 3) (by kernel_rfl) rfl rfl (fun K hK => ?_)
  refine vwp_lit1 23 31 (.tmp 37) rfl (bvs i2.1).toArray rfl Try.underlying23 (sizeIdA i2) zOkId (by rw [List.size_toArray, bvs_length, i2.2]; decide) (by rw [List.size_toArray, bvs_length, i2.2]; decide) ?_
  obtain ⟨we, hwn⟩ : ∃ we, wd.alloc (.cells (bvs i2.1).toArray 31) = we := ⟨_, rfl⟩
  have hb : Below wd.heap.size wd we := hwn ▸ one_below idE wd i2
  have hL : we.heap[wd.heap.size]? = some (.cells (bvs i2.1).toArray 31 (0, 0)) := by rw [← hwn]; exact heap_alloc_new _ _
  rw [hwn]
  have hS1 := hS0.trans (hb.mono hS0.size)
  obtain ⟨b10, hb10⟩ : ∃ b10, wd.heap.size = b10 := ⟨_, rfl⟩
  rw [hb10] at hL ⊢
  clear hb hwn hb10
  refine hK _ _ hS1 ?_
  clear hK K
  try simp only [Act.put, List.setIfInBounds_toArray, List.set_cons_zero, List.set_cons_succ]
  refine wpAnyH_do (i := 4) (by kernel_rfl) rfl rfl (fun K hK => ?_)
  go_simp
  go_at_call 14
  refine ((by have h := Shown_any (.slice (some ⟨w8.heap.size, 83, none⟩) 1 1) _ [R3] [i2] 130 ((HRT.out).below hS1) (list_block hL) (by simp) (by simp); rw [HKE.out.2.1, HKE.out.2.2.2.2] at h; exact h : Calls Try.prog 14 _ we (ListPost we 0 [i3]))).mono ?_
  rintro e w13 ⟨z, rfl, hoz, hbw13⟩
  have hSw13 := hS1.trans (hbw13.mono hS1.size)
  refine hK _ _ (hSw13) ?_
  clear hK K
  try simp only [Act.put, List.setIfInBounds_toArray, List.set_cons_zero, List.set_cons_succ]
  refine wpAnyH_takeI (i := 5) (v := ?v4) rfl (by kernel_rfl) (by kernel_rfl) (by kernel_rfl) (fun _ _ _ h => h) (yieldsIf_run rfl (fun w' hw' => ?y4)) hSw13 ?_
  case y4 => first | (go_simp; rfl) | (go_simp; done) | rfl
  simp only [Act.put, List.setIfInBounds_toArray, List.set_cons_zero, List.set_cons_succ]
  refine wpAnyH_takeI (i := 6) (v := ?v5) rfl (by kernel_rfl) (by kernel_rfl) (by kernel_rfl) (fun _ _ _ h => h) (yieldsIf_run rfl (fun w' hw' => ?y5)) hSw13 ?_
  case y5 => first | (go_simp; rfl) | (go_simp; done) | rfl
  simp only [Act.put, List.setIfInBounds_toArray, List.set_cons_zero, List.set_cons_succ]
  refine wpAnyH_takeI (i := 7) (v := ?v6) rfl (by kernel_rfl) (by kernel_rfl) (by kernel_rfl) (fun _ _ _ h => h) (yieldsIf_run rfl (fun w' hw' => ?y6)) hSw13 ?_
  case y6 => first | (go_simp; rfl) | (go_simp; done) | rfl
  simp only [Act.put, List.setIfInBounds_toArray, List.set_cons_zero, List.set_cons_succ]
  refine wpAnyH_takeI (i := 8) (v := ?v7) rfl (by kernel_rfl) (by kernel_rfl) (by kernel_rfl) (fun _ _ _ h => h) (yieldsIf_run rfl (fun w' hw' => ?y7)) hSw13 ?_
  case y7 => first | (go_simp; rfl) | (go_simp; done) | rfl
  simp only [Act.put, List.setIfInBounds_toArray, List.set_cons_zero, List.set_cons_succ]
  refine wpAnyH_takeI (i := 9) (v := ?v8) rfl (by kernel_rfl) (by kernel_rfl) (by kernel_rfl) (fun _ _ _ h => h) (yieldsIf_run rfl (fun w' hw' => ?y8)) hSw13 ?_
  case y8 => first | (go_simp; rfl) | (go_simp; done) | rfl
  simp only [Act.put, List.setIfInBounds_toArray, List.set_cons_zero, List.set_cons_succ]
  refine wpAnyH_done (by kernel_rfl) ?_ _
  refine NoPanic.normal ?_
  have HOZ := Lib.hid hoz
  have HBC := Lib.hid hSw13
  go_wp2_with (refine vwpList_met (by kernel_rfl) ?_; refine vwpList_loadV rfl (some 46) rfl 31 (.tmp 2) rfl _ rfl 31 (bvs i2.1).toArray (0, 0) _ (HBLK.out _ (HB11.out.trans ((HBC.out).mono HB11.out.size))).2.1 Try.underlying31 rfl (sizeIdA i2) ?_; refine vStop.on ?_)
  refine vStop.go ?_
  try simp only [Act.put, List.setIfInBounds_toArray, List.set_cons_zero, List.set_cons_succ]
  refine vwpList_met (by kernel_rfl) ?_; refine vwpList_loadV rfl (some 47) rfl 31 (.tmp 3) rfl _ rfl 31 (bvs i3.1).toArray (0, 0) _ (HBLK.out _ (HB11.out.trans ((HBC.out).mono HB11.out.size))).2.2 Try.underlying31 rfl (sizeIdA i3) ?_
  try simp only [Act.put, List.setIfInBounds_toArray, List.set_cons_zero, List.set_cons_succ]
  refine vwpList_met (by kernel_rfl) ?_; refine vwpList_litsV idE rfl (some 48) rfl 2 #[(0, .tmp 46), (1, .tmp 47)] rfl [i2, i3] rfl rfl (by decide) (by decide) ?_; intro wl1 x y z; have HX := Lib.hid x; have HBL := Lib.hid y; clear x y z
  try simp only [Act.put, List.setIfInBounds_toArray, List.set_cons_zero, List.set_cons_succ]
  go_wp2_with fail
  refine (equal_any x _ [i2, i3] [i2, i3] ((show ListAt idE w10 x [i2, i3] from HOX.out.at_).below (HB1011.out.trans ((HBC.out.trans (HBL.out.mono HBC.out.size)).mono HB1011.out.size))) (vlist_of_block idE HX.out (vle_max4 (by simp))) (by simp) (by simp)).mono ?_
  rintro e wk1 ⟨rfl, hbn⟩
  rw [decide_eq_true rfl]
  have HBN1 := Lib.hid (HBL.out.trans (hbn.mono HBL.out.size))
  clear hbn HX HBL
  go_wp2_with (refine vwpList_met (by kernel_rfl) ?_; refine vwpList_loadV rfl (some 57) rfl 31 (.tmp 2) rfl _ rfl 31 (bvs i2.1).toArray (0, 0) _ (HBLK.out _ (HB11.out.trans ((HBC.out.trans (HBN1.out.mono HBC.out.size)).mono HB11.out.size))).2.1 Try.underlying31 rfl (sizeIdA i2) ?_; refine vStop.on ?_)
  refine vStop.go ?_
  try simp only [Act.put, List.setIfInBounds_toArray, List.set_cons_zero, List.set_cons_succ]
  refine vwpList_met (by kernel_rfl) ?_; refine vwpList_loadV rfl (some 58) rfl 31 (.tmp 3) rfl _ rfl 31 (bvs i3.1).toArray (0, 0) _ (HBLK.out _ (HB11.out.trans ((HBC.out.trans (HBN1.out.mono HBC.out.size)).mono HB11.out.size))).2.2 Try.underlying31 rfl (sizeIdA i3) ?_
  try simp only [Act.put, List.setIfInBounds_toArray, List.set_cons_zero, List.set_cons_succ]
  refine vwpList_met (by kernel_rfl) ?_; refine vwpList_litsV idE rfl (some 59) rfl 2 #[(0, .tmp 57), (1, .tmp 58)] rfl [i2, i3] rfl rfl (by decide) (by decide) ?_; intro wl2 x y z; have HX := Lib.hid x; have HBL := Lib.hid y; clear x y z
  try simp only [Act.put, List.setIfInBounds_toArray, List.set_cons_zero, List.set_cons_succ]
  go_wp2_with fail
  refine (equal_any y _ [i2, i3] [i2, i3] ((show ListAt idE w11 y [i2, i3] from HOY.out.at_).below ((HBC.out.trans (HBN1.out.mono HBC.out.size)).trans (HBL.out.mono (HBC.out.trans (HBN1.out.mono HBC.out.size)).size))) (vlist_of_block idE HX.out (vle_max4 (by simp))) (by simp) (by simp)).mono ?_
  rintro e wk2 ⟨rfl, hbn⟩
  rw [decide_eq_true rfl]
  have HBN2 := Lib.hid (HBN1.out.trans ((HBL.out.trans (hbn.mono HBL.out.size)).mono HBN1.out.size))
  clear hbn HX HBL
  go_wp2_with (refine vwpList_met (by kernel_rfl) ?_; refine vwpList_loadV rfl (some 68) rfl 31 (.tmp 3) rfl _ rfl 31 (bvs i3.1).toArray (0, 0) _ (HBLK.out _ (HB11.out.trans ((HBC.out.trans (HBN2.out.mono HBC.out.size)).mono HB11.out.size))).2.2 Try.underlying31 rfl (sizeIdA i3) ?_; refine vStop.on ?_)
  refine vStop.go ?_
  try simp only [Act.put, List.setIfInBounds_toArray, List.set_cons_zero, List.set_cons_succ]
  refine vwpList_met (by kernel_rfl) ?_; refine vwpList_litsV idE rfl (some 69) rfl 1 #[(0, .tmp 68)] rfl [i3] rfl rfl (by decide) (by decide) ?_; intro wl3 x y z; have HX := Lib.hid x; have HBL := Lib.hid y; clear x y z
  try simp only [Act.put, List.setIfInBounds_toArray, List.set_cons_zero, List.set_cons_succ]
  go_wp2_with fail
  refine (equal_any z _ [i3] [i3] ((show ListAt idE w13 z [i3] from HOZ.out.at_).below (HBN2.out.trans (HBL.out.mono HBN2.out.size))) (vlist_of_block idE HX.out (vle_max4 (by simp))) (by simp) (by simp)).mono ?_
  rintro e wk3 ⟨rfl, hbn⟩
  rw [decide_eq_true rfl]
  have HBN3 := Lib.hid (HBN2.out.trans ((HBL.out.trans (hbn.mono HBL.out.size)).mono HBN2.out.size))
  clear hbn HX HBL
  go_wp2_with fail
  exact bodyPost_ret (v := .bool true) (by simp [results, Try.results11, go_sem]) rfl ⟨rfl, HB6.out.trans ((HB11.out.trans ((HBC.out.trans (HBN3.out.mono HBC.out.size)).mono HB11.out.size)).mono HB6.out.size)⟩

end Go.Proofs.Ytjjanjhoaiannaa
