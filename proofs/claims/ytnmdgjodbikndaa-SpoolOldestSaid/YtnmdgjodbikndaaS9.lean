/- The spool: the methods at a nil spool. -/
import Derived.Test.YtnmdgjodbikndaaS7
import Derived.RangeFuncNested
import Derived.RangeFuncBound
import Derived.RangeFuncCalls
import Derived.RangeFuncLeaves
import Derived.RangeFuncBox
namespace Go.Proofs.Ytnmdgjodbikndaa
open Go.RowKit
set_option linter.unusedVariables false
set_option linter.unusedSimpArgs false

theorem results_cell_tmp_row {P : Program} {fn : Func} {p u : Tmp} {ty : TypeId} (h : fn.results = #[.cell p ty, .tmp u]) (tmps : Array Value) (w : World) (g : Nat) (t : TypeId) (cs : Array Value) (fr : Nat × Nat) (d : TypeDesc)
    (hp : tmps.getD p undef = .pointer (some ⟨g, 0, none⟩)) (hg : w.heap[g]? = some (.cells cs t fr)) (hu : P.underlying ty = some d) (hd : (match d with | .struct _ | .array _ _ => true | _ => false) = true) (hi : (P.info? ty).map (·.size) = some cs.size) :
    (results fn tmps).run P w = .ok (.tuple #[.agg cs, tmps.getD u undef]) w := by
  rw [results_cell_tmp h]
  have hp' : tmps[p]?.getD undef = .pointer (some ⟨g, 0, none⟩) := by simpa using hp
  simp [hp', asAddr, run_loadVar_row w g t ty cs fr d hg hu hd hi]
theorem zeroEntV (w : World) : (Instr.build 44 #[]).run Try.prog w = .ok (.agg (entC zA).toArray) w := by kernel_rfl
set_option maxRecDepth 100000 in
set_option maxHeartbeats 2000000 in
theorem Put_nil {w : World} (k : IdB) (t : ByteArray) (d : Int) : Calls Try.prog 14 #[.pointer none, .agg (bvs k.1).toArray, .string t, .int .i64 d] w fun e w' => e = .returned (.int .i64 1) ∧ Below w.heap.size w w' := by
  obtain ⟨w1, hw1⟩ : ∃ w1, w.alloc (.cells (bvs k.1).toArray 30) = w1 := ⟨_, rfl⟩
  have hb1 : Below w.heap.size w w1 := hw1 ▸ (Below.refl _ _).alloc (Nat.le_refl _) _
  have hx1 : w1.heap[w.heap.size]? = some (.cells (bvs k.1).toArray 30 (0, 0)) := by rw [← hw1]; exact heap_alloc_new _ _
  have HB1 := Lib.hid hb1
  clear hb1 hx1
  go_enter Try.func14, Try.ntmps14
  go_wp2_with fail
  exact bodyPost_ret (v := .int .i64 1) (by simp [results, Try.results14, go_sem]) rfl ⟨rfl, HB1.out⟩

set_option maxRecDepth 100000 in
set_option maxHeartbeats 2000000 in
theorem Remove_nil {w : World} (k : IdB) : Calls Try.prog 17 #[.pointer none, .agg (bvs k.1).toArray] w fun e w' => e = .returned (.int .i64 1) ∧ Below w.heap.size w w' := by
  obtain ⟨w1, hw1⟩ : ∃ w1, w.alloc (.cells (bvs k.1).toArray 30) = w1 := ⟨_, rfl⟩
  have hb1 : Below w.heap.size w w1 := hw1 ▸ (Below.refl _ _).alloc (Nat.le_refl _) _
  have hx1 : w1.heap[w.heap.size]? = some (.cells (bvs k.1).toArray 30 (0, 0)) := by rw [← hw1]; exact heap_alloc_new _ _
  have HG := Lib.hid (Get_nil (w := w1) k)
  have HB1 := Lib.hid hb1
  have HX := Lib.hid (range_block hx1)
  have HSI := Lib.hid (sizeId k)
  clear hb1 hx1
  go_enter Try.func17, Try.ntmps17
  go_wp2_with (with_reducible refine wpList_load_mid rfl 30 _ rfl w.heap.size (0) rfl (bvs k.1) _ HX.out Try.underlying30 rfl HSI.out ?_)
  refine HG.out.mono ?_
  rintro e w2 ⟨rfl, hb2⟩
  have HB2 := Lib.hid (HB1.out.trans (hb2.mono HB1.out.size))
  clear hb2
  go_wp2_with fail
  exact bodyPost_ret (v := .int .i64 1) (by simp [results, Try.results17, go_sem]) rfl ⟨rfl, HB2.out⟩

set_option maxRecDepth 100000 in
set_option maxHeartbeats 2000000 in
theorem Entry_nil {w : World} (k : IdB) : Calls Try.prog 26 #[.pointer none, .agg (bvs k.1).toArray] w fun e w' => e = .returned (.tuple #[.agg (entC zA).toArray, .bool false]) ∧ Below w.heap.size w w' := by
  obtain ⟨w1, hw1⟩ : ∃ w1, w.alloc (.cells (bvs k.1).toArray 30) = w1 := ⟨_, rfl⟩
  have hb1 : Below w.heap.size w w1 := hw1 ▸ (Below.refl _ _).alloc (Nat.le_refl _) _
  have hx1 : w1.heap[w.heap.size]? = some (.cells (bvs k.1).toArray 30 (0, 0)) := by rw [← hw1]; exact heap_alloc_new _ _
  have HB1 := Lib.hid hb1
  have HX1 := Lib.hid hx1
  have HSI := Lib.hid (sizeId k)
  clear hb1 hx1
  go_enter Try.func26, Try.ntmps26
  go_wp2_with (refine wpList_newV rfl (some 4) rfl 44 rfl (entC zA).toArray 34 (by kernel_rfl) ?_; refine Stop.on ?_)
  refine Stop.go ?_
  intro w2 x2 b2 s2
  try simp only [Act.put, List.setIfInBounds_toArray, List.set_cons_zero, List.set_cons_succ]
  have HX := Lib.hid (range_block ((b2.block _ (Array.getElem?_eq_some_iff.1 HX1.out).1).trans HX1.out))
  have HX2 := Lib.hid x2
  have HB2 := Lib.hid (HB1.out.trans (b2.mono HB1.out.size))
  clear x2 b2 s2
  go_wp2_with (with_reducible refine wpList_load_mid rfl 30 _ rfl w.heap.size (0) rfl (bvs k.1) _ HX.out Try.underlying30 rfl HSI.out ?_)
  refine (Has_nil (w := w2) k).mono ?_
  rintro e w3 ⟨rfl, hb3⟩
  have HB3 := Lib.hid (HB2.out.trans (hb3.mono HB2.out.size))
  have HX3 := Lib.hid ((hb3.block _ (Array.getElem?_eq_some_iff.1 HX2.out).1).trans HX2.out)
  clear hb3
  go_wp2_with (refine wpList_buildV rfl (some 11) rfl 44 #[] rfl [] rfl (.agg (entC zA).toArray) (zeroEntV _) ?_; refine Stop.on ?_)
  refine Stop.go ?_
  try simp only [Act.put, List.setIfInBounds_toArray, List.set_cons_zero, List.set_cons_succ]
  refine wpList_putV rfl rfl 44 (.tmp 4) (.tmp 11) rfl _ (entC zA).toArray rfl rfl 44 _ HX3.out (by rw [List.size_toArray, entC_length]; kernel_rfl) rfl (all_oneCell_toArray (entC_one zA)) ?_
  intro w4 x4 c4 s4
  try simp only [Act.put, List.setIfInBounds_toArray, List.set_cons_zero, List.set_cons_succ]
  have HX4 := Lib.hid x4
  have HB4 := Lib.hid (HB3.out.trans (c4.below (B := w.heap.size) (fun k e => by rw [e]; exact HB1.out.size) HB3.out.size))
  clear x4 c4 s4
  go_wp2_with fail
  exact bodyPost_ret (results_cell_tmp_row (g := w1.heap.size) rfl _ _ _ _ _ _ rfl HX4.out Try.underlying44 rfl (by rw [List.size_toArray, entC_length]; kernel_rfl)) rfl ⟨rfl, HB4.out⟩
theorem Clone_nil {w : World} : Calls Try.prog 27 #[.pointer none] w fun e w' => e = .returned (.pointer none) ∧ Below w.heap.size w w' := by
  go_enter Try.func27, Try.ntmps27
  go_wp2_with fail
  exact bodyPost_ret (v := .pointer none) (by simp [results, Try.results27, go_sem]) rfl ⟨rfl, Below.refl _ _⟩

theorem Encode_nil {w : World} : Calls Try.prog 33 #[.pointer none] w fun e w' => e = .returned (.slice none 0 0) ∧ Below w.heap.size w w' := by
  go_enter Try.func33, Try.ntmps33
  go_wp2_with fail
  exact bodyPost_ret (v := .slice none 0 0) (by simp [results, Try.results33, go_sem]) rfl ⟨rfl, (Below.refl _ _).alloc (Nat.le_refl _) _⟩
theorem Equal_nn {w : World} : Calls Try.prog 29 #[.pointer none, .pointer none] w fun e w' => e = .returned (.bool true) ∧ Below w.heap.size w w' := by
  go_enter Try.func29, Try.ntmps29
  go_wp2_with fail
  exact bodyPost_ret (v := .bool true) (by simp [results, Try.results29, go_sem]) rfl ⟨rfl, Below.refl _ _⟩
theorem Equal_ns {w : World} (b : Addr) : Calls Try.prog 29 #[.pointer none, .pointer (some b)] w fun e w' => e = .returned (.bool false) ∧ Below w.heap.size w w' := by
  go_enter Try.func29, Try.ntmps29
  go_wp2_with fail
  exact bodyPost_ret (v := .bool false) (by simp [results, Try.results29, go_sem]) rfl ⟨rfl, Below.refl _ _⟩
theorem Equal_sn {w : World} (b : Addr) : Calls Try.prog 29 #[.pointer (some b), .pointer none] w fun e w' => e = .returned (.bool false) ∧ Below w.heap.size w w' := by
  go_enter Try.func29, Try.ntmps29
  go_wp2_with fail
  exact bodyPost_ret (v := .bool false) (by simp [results, Try.results29, go_sem]) rfl ⟨rfl, Below.refl _ _⟩

set_option maxRecDepth 100000 in
set_option maxHeartbeats 2000000 in
theorem All_any {w : World} (b : Option Addr) : Calls Try.prog 18 #[.pointer b] w fun e w' => e = .returned (.func (.func 36) #[] #[.pointer (some ⟨w.heap.size, 0, none⟩)]) ∧ w' = w.alloc (.cells #[.pointer b] 24) := by
  go_enter Try.func18, Try.ntmps18
  go_wp2_with fail
  go_ret
  exact ⟨rfl, rfl⟩
set_option maxRecDepth 100000 in
set_option maxHeartbeats 2000000 in
theorem all1_nil {w : World} (fr : Value) (g : Nat) (h : w.cell? ⟨g, 0, none⟩ = some (.pointer none)) : Calls Try.prog 36 #[fr, .pointer (some ⟨g, 0, none⟩)] w fun e w' => (∃ v, e = .returned v) ∧ Below w.heap.size w w' := by
  go_enter Try.func36, Try.ntmps36
  go_wp2_with fail
  refine entries_nil.mono ?_
  rintro e w1 ⟨rfl, hb1⟩
  have HB1 := Lib.hid hb1
  clear hb1
  go_wp2_with fail
  refine wp_loop_rounds 1 ?_
  rw [rounds_succ]
  go_wp2_with fail
  go_end0
  exact ⟨⟨_, rfl⟩, HB1.out⟩
end Go.Proofs.Ytnmdgjodbikndaa
