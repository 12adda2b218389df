/- The spool: the methods at a nil spool; The spool: the law Nil. -/
import Derived.Test.YtnmdgjodbikndaaS7
import Derived.RangeFuncNested
import Derived.RangeFuncBound
import Derived.RangeFuncCalls
import Derived.RangeFuncLeaves
import Derived.RangeFuncBox
import Derived.Test.YtnmdgjodbikndaaSArgs
namespace Go.Proofs.Ytnmdgjodbikndaa
open Go.RowKit
set_option linter.unusedVariables false
set_option linter.unusedSimpArgs false

theorem results_cell_tmp_row {P : Program} {fn : Func} {p u : Tmp} {ty : TypeId} (h : fn.results = #[.cell p ty, .tmp u]) (tmps : Array Value) (w : World) (g : Nat) (t : TypeId) (cs : Array Value) (fr : Nat × Nat) (d : TypeDesc)
    (hp : tmps.getD p undef = .pointer (some ⟨g, 0, none⟩)) (hg : w.heap[g]? = some (.cells cs t fr)) (hu : P.underlying ty = some d) (hd : (match d with | .struct _ | .array _ _ => true | _ => false) = true) (hi : (P.info? ty).map (·.size) = some cs.size) :
    (results fn tmps).run P w = .ok (.tuple #[.agg cs, tmps.getD u undef]) w := by
  rw [results_cell_tmp h]
  have hp' : tmps[p]?.getD undef = .pointer (some ⟨g, 0, none⟩) := by simpa using hp
  simp [hp', asAddr, run_loadVar_row w g t ty cs fr d hg hu hd hi]
theorem zeroEntV (w : World) : (Instr.build 44 #[]).run Try.prog w = .ok (.agg (entC zA).toArray) w := by kernel_rfl
set_option maxRecDepth 100000 in
set_option maxHeartbeats 2000000 in
theorem Put_nil {w : World} (k : IdB) (t : ByteArray) (d : Int) : Calls Try.prog 14 #[.pointer none, .agg (bvs k.1).toArray, .string t, .int .i64 d] w fun e w' => e = .returned (.int .i64 1) ∧ Below w.heap.size w w' := by
  obtain ⟨w1, hw1⟩ : ∃ w1, w.alloc (.cells (bvs k.1).toArray 30) = w1 := ⟨_, rfl⟩
  have hb1 : Below w.heap.size w w1 := hw1 ▸ (Below.refl _ _).alloc (Nat.le_refl _) _
  have hx1 : w1.heap[w.heap.size]? = some (.cells (bvs k.1).toArray 30 (0, 0)) := by rw [← hw1]; exact heap_alloc_new _ _
  have HB1 := Lib.hid hb1
  clear hb1 hx1
  go_enter Try.func14, Try.ntmps14
  go_wp2_with fail
  exact bodyPost_ret (v := .int .i64 1) (by simp [results, Try.results14, go_sem]) rfl ⟨rfl, HB1.out⟩

set_option maxRecDepth 100000 in
set_option maxHeartbeats 2000000 in
theorem Remove_nil {w : World} (k : IdB) : Calls Try.prog 17 #[.pointer none, .agg (bvs k.1).toArray] w fun e w' => e = .returned (.int .i64 1) ∧ Below w.heap.size w w' := by
  obtain ⟨w1, hw1⟩ : ∃ w1, w.alloc (.cells (bvs k.1).toArray 30) = w1 := ⟨_, rfl⟩
  have hb1 : Below w.heap.size w w1 := hw1 ▸ (Below.refl _ _).alloc (Nat.le_refl _) _
  have hx1 : w1.heap[w.heap.size]? = some (.cells (bvs k.1).toArray 30 (0, 0)) := by rw [← hw1]; exact heap_alloc_new _ _
  have HG := Lib.hid (Get_nil (w := w1) k)
  have HB1 := Lib.hid hb1
  have HX := Lib.hid (range_block hx1)
  have HSI := Lib.hid (sizeId k)
  clear hb1 hx1
  go_enter Try.func17, Try.ntmps17
  go_wp2_with (with_reducible refine wpList_load_mid rfl 30 _ rfl w.heap.size (0) rfl (bvs k.1) _ HX.out Try.underlying30 rfl HSI.out ?_)
  refine HG.out.mono ?_
  rintro e w2 ⟨rfl, hb2⟩
  have HB2 := Lib.hid (HB1.out.trans (hb2.mono HB1.out.size))
  clear hb2
  go_wp2_with fail
  exact bodyPost_ret (v := .int .i64 1) (by simp [results, Try.results17, go_sem]) rfl ⟨rfl, HB2.out⟩

set_option maxRecDepth 100000 in
set_option maxHeartbeats 2000000 in
theorem Entry_nil {w : World} (k : IdB) : Calls Try.prog 26 #[.pointer none, .agg (bvs k.1).toArray] w fun e w' => e = .returned (.tuple #[.agg (entC zA).toArray, .bool false]) ∧ Below w.heap.size w w' := by
  obtain ⟨w1, hw1⟩ : ∃ w1, w.alloc (.cells (bvs k.1).toArray 30) = w1 := ⟨_, rfl⟩
  have hb1 : Below w.heap.size w w1 := hw1 ▸ (Below.refl _ _).alloc (Nat.le_refl _) _
  have hx1 : w1.heap[w.heap.size]? = some (.cells (bvs k.1).toArray 30 (0, 0)) := by rw [← hw1]; exact heap_alloc_new _ _
  have HB1 := Lib.hid hb1
  have HX1 := Lib.hid hx1
  have HSI := Lib.hid (sizeId k)
  clear hb1 hx1
  go_enter Try.func26, Try.ntmps26
  go_wp2_with (refine wpList_newV rfl (some 4) rfl 44 rfl (entC zA).toArray 34 (by kernel_rfl) ?_; refine Stop.on ?_)
  refine Stop.go ?_
  intro w2 x2 b2 s2
  try simp only [Act.put, List.setIfInBounds_toArray, List.set_cons_zero, List.set_cons_succ]
  have HX := Lib.hid (range_block ((b2.block _ (Array.getElem?_eq_some_iff.1 HX1.out).1).trans HX1.out))
  have HX2 := Lib.hid x2
  have HB2 := Lib.hid (HB1.out.trans (b2.mono HB1.out.size))
  clear x2 b2 s2
  go_wp2_with (with_reducible refine wpList_load_mid rfl 30 _ rfl w.heap.size (0) rfl (bvs k.1) _ HX.out Try.underlying30 rfl HSI.out ?_)
  refine (Has_nil (w := w2) k).mono ?_
  rintro e w3 ⟨rfl, hb3⟩
  have HB3 := Lib.hid (HB2.out.trans (hb3.mono HB2.out.size))
  have HX3 := Lib.hid ((hb3.block _ (Array.getElem?_eq_some_iff.1 HX2.out).1).trans HX2.out)
  clear hb3
  go_wp2_with (refine wpList_buildV rfl (some 11) rfl 44 #[] rfl [] rfl (.agg (entC zA).toArray) (zeroEntV _) ?_; refine Stop.on ?_)
  refine Stop.go ?_
  try simp only [Act.put, List.setIfInBounds_toArray, List.set_cons_zero, List.set_cons_succ]
  refine wpList_putV rfl rfl 44 (.tmp 4) (.tmp 11) rfl _ (entC zA).toArray rfl rfl 44 _ HX3.out (by rw [List.size_toArray, entC_length]; kernel_rfl) rfl (all_oneCell_toArray (entC_one zA)) ?_
  intro w4 x4 c4 s4
  try simp only [Act.put, List.setIfInBounds_toArray, List.set_cons_zero, List.set_cons_succ]
  have HX4 := Lib.hid x4
  have HB4 := Lib.hid (HB3.out.trans (c4.below (B := w.heap.size) (fun k e => by rw [e]; exact HB1.out.size) HB3.out.size))
  clear x4 c4 s4
  go_wp2_with fail
  exact bodyPost_ret (results_cell_tmp_row (g := w1.heap.size) rfl _ _ _ _ _ _ rfl HX4.out Try.underlying44 rfl (by rw [List.size_toArray, entC_length]; kernel_rfl)) rfl ⟨rfl, HB4.out⟩
theorem Clone_nil {w : World} : Calls Try.prog 27 #[.pointer none] w fun e w' => e = .returned (.pointer none) ∧ Below w.heap.size w w' := by
  go_enter Try.func27, Try.ntmps27
  go_wp2_with fail
  exact bodyPost_ret (v := .pointer none) (by simp [results, Try.results27, go_sem]) rfl ⟨rfl, Below.refl _ _⟩

theorem Encode_nil {w : World} : Calls Try.prog 33 #[.pointer none] w fun e w' => e = .returned (.slice none 0 0) ∧ Below w.heap.size w w' := by
  go_enter Try.func33, Try.ntmps33
  go_wp2_with fail
  exact bodyPost_ret (v := .slice none 0 0) (by simp [results, Try.results33, go_sem]) rfl ⟨rfl, (Below.refl _ _).alloc (Nat.le_refl _) _⟩
theorem Equal_nn {w : World} : Calls Try.prog 29 #[.pointer none, .pointer none] w fun e w' => e = .returned (.bool true) ∧ Below w.heap.size w w' := by
  go_enter Try.func29, Try.ntmps29
  go_wp2_with fail
  exact bodyPost_ret (v := .bool true) (by simp [results, Try.results29, go_sem]) rfl ⟨rfl, Below.refl _ _⟩
theorem Equal_ns {w : World} (b : Addr) : Calls Try.prog 29 #[.pointer none, .pointer (some b)] w fun e w' => e = .returned (.bool false) ∧ Below w.heap.size w w' := by
  go_enter Try.func29, Try.ntmps29
  go_wp2_with fail
  exact bodyPost_ret (v := .bool false) (by simp [results, Try.results29, go_sem]) rfl ⟨rfl, Below.refl _ _⟩
theorem Equal_sn {w : World} (b : Addr) : Calls Try.prog 29 #[.pointer (some b), .pointer none] w fun e w' => e = .returned (.bool false) ∧ Below w.heap.size w w' := by
  go_enter Try.func29, Try.ntmps29
  go_wp2_with fail
  exact bodyPost_ret (v := .bool false) (by simp [results, Try.results29, go_sem]) rfl ⟨rfl, Below.refl _ _⟩

set_option maxRecDepth 100000 in
set_option maxHeartbeats 2000000 in
theorem All_any {w : World} (b : Option Addr) : Calls Try.prog 18 #[.pointer b] w fun e w' => e = .returned (.func (.func 36) #[] #[.pointer (some ⟨w.heap.size, 0, none⟩)]) ∧ w' = w.alloc (.cells #[.pointer b] 24) := by
  go_enter Try.func18, Try.ntmps18
  go_wp2_with fail
  go_ret
  exact ⟨rfl, rfl⟩
set_option maxRecDepth 100000 in
set_option maxHeartbeats 2000000 in
theorem all1_nil {w : World} (fr : Value) (g : Nat) (h : w.cell? ⟨g, 0, none⟩ = some (.pointer none)) : Calls Try.prog 36 #[fr, .pointer (some ⟨g, 0, none⟩)] w fun e w' => (∃ v, e = .returned v) ∧ Below w.heap.size w w' := by
  go_enter Try.func36, Try.ntmps36
  go_wp2_with fail
  refine entries_nil.mono ?_
  rintro e w1 ⟨rfl, hb1⟩
  have HB1 := Lib.hid hb1
  clear hb1
  go_wp2_with fail
  refine wp_loop_rounds 1 ?_
  rw [rounds_succ]
  go_wp2_with fail
  go_end0
  exact ⟨⟨_, rfl⟩, HB1.out⟩
end Go.Proofs.Ytnmdgjodbikndaa

namespace Go.Proofs.Ytnmdgjodbikndaa
open Go.RowKit
set_option linter.unusedVariables false
set_option linter.unusedSimpArgs false

theorem cat_nil : ((⟨#[]⟩ : ByteArray) ++ ⟨#[]⟩).toList = [] := by
  rw [show ((⟨#[]⟩ : ByteArray) ++ ⟨#[]⟩) = ⟨#[]⟩ from rfl]
  exact ByteArray.toList_mk []
def encNo (x : Empty) : Array Value := nomatch x
theorem nil_stops (g n₀ : Nat) (w : World) (hg : g < w.heap.size) (hc : w.cell? ⟨g, 0, none⟩ = some (.pointer none)) :
    SeqStopsK Fence.wide 3 Try.prog 36 #[.pointer (some ⟨g, 0, none⟩)] encNo (Below n₀) (fun ys => ys = []) (fun _ => False) 0 w := fun lp J Jx W hW hJ _ hY h0 => by
  refine (callsIn_wide (n := 3)).2 ((all1_nil (w := W) (.func (.yield lp) #[] #[]) g ((hW.cell (p := ⟨g, 0, none⟩) hg).trans hc)).mono ?_)
  rintro e W' ⟨he, hw⟩
  exact ⟨he, .inl ⟨[], rfl, hJ [] W W' none h0 (grownBy_below hw) (fun r e => by cases e)⟩⟩
theorem neqEnt (w : World) : (binOp .neq 44 (.agg (entC zA).toArray) (.agg (entC zA).toArray)).run Try.prog w = .ok (.bool false) w := by kernel_rfl
theorem guardEnt : Try.prog.eqGuardType Try.prog.depth 44 = false := by kernel_rfl
theorem sizeEntA : (Try.prog.info? 44).map (·.size) = some (entC zA).toArray.size := by rw [List.size_toArray, entC_length]; kernel_rfl
theorem sizeArr (a : IdB) : (Try.prog.info? 29).map (·.size) = some (bvs a.1).length := by rw [bvs_length, a.2]; kernel_rfl

set_option maxRecDepth 100000 in
set_option maxHeartbeats 2000000 in
theorem Nil_law {w : World} (O : OpD) :
    Calls Try.prog 10 #[.agg O.cells.toArray] w fun e w' => e = .returned (.bool true) ∧ Below w.heap.size w w' := by
  obtain ⟨w1, hw1⟩ : ∃ w1, w.alloc (.cells O.cells.toArray 39) = w1 := ⟨_, rfl⟩
  have n1 : w1.heap[w.heap.size]? = some (.cells O.cells.toArray 39 (0, 0)) := by rw [← hw1]; exact heap_alloc_new w _
  have hb1 : Below w.heap.size w w1 := hw1 ▸ (Below.refl _ _).alloc (Nat.le_refl _) _
  have hs1 : w1.heap.size = w.heap.size + 1 := by rw [← hw1, World.size_alloc]
  obtain ⟨w2, hw2⟩ : ∃ w2, w1.alloc (.cells #[.bool false] 4) = w2 := ⟨_, rfl⟩
  have n2 : w2.heap[w1.heap.size]? = some (.cells #[.bool false] 4 (0, 0)) := by rw [← hw2]; exact heap_alloc_new w1 _
  have hb12 : Below w1.heap.size w1 w2 := hw2 ▸ (Below.refl _ _).alloc (Nat.le_refl _) _
  have n1' : w2.heap[w.heap.size]? = _ := (hb12.block _ (by omega)).trans n1
  have hs2 : w2.heap.size = w1.heap.size + 1 := by rw [← hw2, World.size_alloc]
  have hb2 : Below w.heap.size w w2 := hb1.trans (hb12.mono (by omega))
  have HN1 := Lib.hid n1'
  have HN2 := Lib.hid n2
  have HB2 := Lib.hid hb2
  have HS := Lib.hid (And.intro hs1 hs2)
  clear n1 n1' n2 hb1 hb12 hb2
  refine (callsIn_wide (n := 4)).1 ?_
  refine callsIn_of_wp_marks Try.func10 rfl trivial ?_ rfl
  simp only [Try.ntmps10, List.size_toArray, List.length_cons, List.length_nil, Nat.reduceAdd, Nat.reduceSub, Array.replicate_succ, Array.replicate_zero, List.push_toArray, List.append_toArray, List.nil_append, List.cons_append]
  refine wpIn_wide.2 ?_
  go_wp2_with (rw [hw1, hw2])
  clear hw1 hw2 hs1 hs2
  refine known_any.mono ?_
  rintro e w3 ⟨rfl, hb3⟩
  have HB3 := Lib.hid hb3
  have hop := (hb3.block _ (by have := HS.out; omega)).trans HN1.out
  have HOP := Lib.hid hop
  have hrg : w3.rangeAt w.heap.size 1 (bvs O.a.id.1) := fun j u hu => by
    rw [cell_of_row _ _ _ _ _ _ hop, List.getElem?_toArray]
    unfold OpD.cells RefA.cells
    rw [List.getElem?_append_right (by simp), List.append_assoc, List.getElem?_append_left (by have h9 := (List.getElem?_eq_some_iff.1 hu).1; rw [bvs_length] at h9 ⊢; simp; omega)]
    simpa [Nat.add_sub_cancel_left] using hu
  have HRG := Lib.hid hrg
  clear hb3 hop hrg
  go_wp2_with (with_reducible refine wpList_load_mid rfl 29 _ rfl w.heap.size 1 rfl (bvs O.a.id.1) _ HRG.out Try.underlying29 rfl (sizeArr O.a.id) ?_; refine Stop.on ?_)
  refine Stop.go ?_
  try simp only [Act.put, List.setIfInBounds_toArray, List.set_cons_zero, List.set_cons_succ]
  refine wpList_newV rfl (some 4) rfl 30 rfl (bvs z32.1).toArray 32 (by kernel_rfl) ?_
  intro w4a x4 b4 s4
  try simp only [Act.put, List.setIfInBounds_toArray, List.set_cons_zero, List.set_cons_succ]
  refine wpList_putV rfl rfl 30 (.tmp 4) (.tmp 19) rfl _ (bvs O.a.id.1).toArray rfl rfl 30 _ x4 (sizeIdA O.a.id) (by rw [List.size_toArray, List.size_toArray, bvs_length, bvs_length, z32.2, O.a.id.2]) (all_oneCell_toArray bvs_oneCell) ?_
  intro w5 x5 c5 s5
  try simp only [Act.put, List.setIfInBounds_toArray, List.set_cons_zero, List.set_cons_succ]
  have hb5 : Below w3.heap.size w3 w5 := b4.trans (c5.below (B := w3.heap.size) (fun k e => by rw [e]; exact Nat.le_refl _) b4.size)
  have hg5 : w3.heap.size < w5.heap.size := (Array.getElem?_eq_some_iff.1 x5).1
  have h2l : w1.heap.size < w3.heap.size := by have := HS.out; have := HB3.out.size; omega
  have h1l : w.heap.size < w1.heap.size := by have := HS.out; omega
  have hop5 := (hb5.block _ (by omega)).trans HOP.out
  have hr5 := (hb5.block _ h2l).trans ((HB3.out.block _ (by have := HS.out; omega)).trans HN2.out)
  have HO := Lib.hid (show ∀ w', Below w5.heap.size w5 w' → w'.heap[w3.heap.size]? = some (.cells (bvs O.a.id.1).toArray 30 (0, 0)) ∧ w'.cell? ⟨w.heap.size, 35, none⟩ = some (.int .i64 O.from') ∧ w'.cell? ⟨w.heap.size, 36, none⟩ = some (.int .i64 O.count) ∧ w'.cell? ⟨w.heap.size, 33, none⟩ = some (.string O.a.text) ∧ w'.cell? ⟨w.heap.size, 34, none⟩ = some (.int .i64 O.a.min) ∧ w'.heap[w1.heap.size]? = some (.cells #[.bool false] 4 (0, 0)) from fun w' hw' => by
    have h1 := (hw'.block _ (by omega)).trans hop5
    have hi : ∀ k, O.cells.toArray[33 + k]? = [Value.string O.a.text, .int .i64 O.a.min, .int .i64 O.from', .int .i64 O.count][k]? := fun k => by
      rw [List.getElem?_toArray]
      unfold OpD.cells RefA.cells
      rw [List.getElem?_append_right (show 1 ≤ 33 + k by omega), List.append_assoc, List.getElem?_append_right (by rw [bvs_length, O.a.id.2]; show 32 ≤ 33 + k - 1; omega), bvs_length, O.a.id.2, show 33 + k - [Value.int .i64 O.kind].length - 32 = k from (by show 33 + k - 1 - 32 = k; omega)]
      rfl
    refine ⟨(hw'.block _ hg5).trans x5, ?_, ?_, ?_, ?_, (hw'.block _ (by omega)).trans hr5⟩
    · rw [cell_of_row _ _ _ _ _ _ h1]; exact hi 2
    · rw [cell_of_row _ _ _ _ _ _ h1]; exact hi 3
    · rw [cell_of_row _ _ _ _ _ _ h1]; exact hi 0
    · rw [cell_of_row _ _ _ _ _ _ h1]; exact hi 1)
  have HB05 := Lib.hid (HB2.out.trans ((HB3.out.trans (hb5.mono HB3.out.size)).mono HB2.out.size))
  have HLT := Lib.hid (show w.heap.size < w1.heap.size ∧ w1.heap.size < w3.heap.size ∧ w3.heap.size < w5.heap.size from ⟨h1l, h2l, hg5⟩)
  clear x4 b4 s4 x5 c5 s5 hb5 hg5 h2l h1l hop5 hr5
  go_wp2_with (refine wpList_loadV rfl (some 22) rfl 30 (.tmp 4) rfl _ rfl 30 (bvs O.a.id.1).toArray (0, 0) _ (HO.out _ (Below.refl _ _)).1 Try.underlying30 rfl (sizeIdA O.a.id) ?_; refine Stop.on ?_)
  refine Stop.go ?_
  try simp only [Act.put, List.setIfInBounds_toArray, List.set_cons_zero, List.set_cons_succ]
  go_wp2_with fail
  refine (Get_nil O.a.id).mono ?_
  rintro e w6 ⟨rfl, hbw6⟩
  have HBw6 := Lib.hid hbw6
  clear hbw6
  obtain ⟨_, hc35, hc36, hc33, hc34, _⟩ := HO.out _ HBw6.out
  go_wp2_with (refine wpList_loadV rfl (some 28) rfl 30 (.tmp 4) rfl _ rfl 30 (bvs O.a.id.1).toArray (0, 0) _ (HO.out _ HBw6.out).1 Try.underlying30 rfl (sizeIdA O.a.id) ?_; refine Stop.on ?_)
  refine Stop.go ?_
  try simp only [Act.put, List.setIfInBounds_toArray, List.set_cons_zero, List.set_cons_succ]
  go_wp2_with fail
  refine (Read_nil O.a.id O.from' O.count).mono ?_
  rintro e w7 ⟨rfl, hbw7⟩
  have HBw7 := Lib.hid (HBw6.out.trans (hbw7.mono HBw6.out.size))
  clear hbw7 hc35 hc36 hc33 hc34
  obtain ⟨_, hc35, hc36, hc33, hc34, _⟩ := HO.out _ HBw7.out
  go_wp2_with fail
  refine (Oldest_nil O.from').mono ?_
  rintro e w8 ⟨v8, rfl, ho8, hbw8⟩
  obtain ⟨a8, c8, rfl⟩ := ho8.form
  rw [List.length_nil]
  clear ho8
  have HBw8 := Lib.hid (HBw7.out.trans (hbw8.mono HBw7.out.size))
  clear hbw8 hc35 hc36 hc33 hc34
  go_wp2_with (refine wpList_loadV rfl (some 45) rfl 30 (.tmp 4) rfl _ rfl 30 (bvs O.a.id.1).toArray (0, 0) _ (HO.out _ HBw8.out).1 Try.underlying30 rfl (sizeIdA O.a.id) ?_; refine Stop.on ?_)
  refine Stop.go ?_
  try simp only [Act.put, List.setIfInBounds_toArray, List.set_cons_zero, List.set_cons_succ]
  go_wp2_with fail
  refine (Entry_nil O.a.id).mono ?_
  rintro e w9 ⟨rfl, hbw9⟩
  have HBw9 := Lib.hid (HBw8.out.trans (hbw9.mono HBw8.out.size))
  clear hbw9
  go_wp2_with (refine wpList_newV rfl (some 11) rfl 44 rfl (entC zA).toArray 34 (by kernel_rfl) ?_; refine Stop.on ?_)
  refine Stop.go ?_
  intro w10 x10 b10 s10
  try simp only [Act.put, List.setIfInBounds_toArray, List.set_cons_zero, List.set_cons_succ]
  refine wpList_putV rfl rfl 44 (.tmp 11) (.tmp 47) rfl _ (entC zA).toArray rfl rfl 44 _ x10 sizeEntA rfl (all_oneCell_toArray (entC_one zA)) ?_
  intro w11 x11 c11 s11
  try simp only [Act.put, List.setIfInBounds_toArray, List.set_cons_zero, List.set_cons_succ]
  have HX11 := Lib.hid x11
  have HB11 := Lib.hid (HBw9.out.trans ((b10.trans (c11.below (B := w9.heap.size) (fun k e => by rw [e]; exact Nat.le_refl _) b10.size)).mono HBw9.out.size))
  clear x10 b10 s10 x11 c11 s11
  go_wp2_with fail
  refine (All_any none).mono ?_
  rintro e w12 ⟨rfl, hw12⟩
  have c12 : w12.cell? ⟨w11.heap.size, 0, none⟩ = some (.pointer none) := by rw [cell_of_row w12 _ _ _ _ _ (hw12 ▸ heap_alloc_new w11 _)]; rfl
  have hb12 : Below w11.heap.size w11 w12 := hw12 ▸ (Below.refl _ _).alloc (Nat.le_refl _) _
  have hs12 : w11.heap.size < w12.heap.size := by rw [hw12, World.size_alloc]; omega
  have HB12 := Lib.hid (HB11.out.trans (hb12.mono HB11.out.size))
  have HX12 := Lib.hid ((hb12.block _ (Array.getElem?_eq_some_iff.1 HX11.out).1).trans HX11.out)
  clear hw12 hb12
  go_wp2_with fail
  refine (wpIn_wide (n := 4)).1 ?_
  refine wpIn_rangeFunc_ownH (α := Empty) rfl (by decide) (gf := 36) (lb := #[.pointer (some ⟨w11.heap.size, 0, none⟩)]) rfl trivial (enters_of Try.func36 (by kernel_rfl) rfl)
    (nil_stops w11.heap.size w12.heap.size w12 hs12 c12) belowK_t (belowK_b (Nat.le_refl _)) (Below.refl _ _) (fun x => nomatch x)
    (fun _ W => Below w12.heap.size w12 W) (fun _ _ _ => False) (ownFrom_below (Nat.le_refl _) (Nat.le_refl _)) (fun _ _ _ _ _ h => h.elim) (Below.refl _ _) (fun _ _ _ => True) (fun x => nomatch x) ?assign ?body ?done ?stop
  case assign => exact fun l pre x => nomatch x
  case body => exact fun l pre x => nomatch x
  case stop => exact fun D c pre W _ h => h.elim
  case done =>
  rintro D xs w13 hD rfl hb13 hK13
  have HB13 := Lib.hid (HB12.out.trans (hb13.mono HB12.out.size))
  have HX13 := Lib.hid ((hb13.block _ (Array.getElem?_eq_some_iff.1 HX12.out).1).trans HX12.out)
  have HK13 := Lib.hid hK13
  have HD := Lib.hid (show w3.heap.size < D from by have := HB12.out.size; have := HLT.out; omega)
  clear hb13 hK13 hD c12 hs12
  go_wp2_with fail
  refine (New_any 5).mono ?_
  rintro e w14 ⟨hb14, ⟨_, _, b, m, rfl, hb, hm, hs⟩ | ⟨h, _⟩⟩
  case inr => exact absurd ⟨by decide, by decide⟩ h
  have HB14 := Lib.hid (HB13.out.trans (hb14.mono HB13.out.size))
  have HX14 := Lib.hid ((hb14.block _ (Array.getElem?_eq_some_iff.1 HX13.out).1).trans HX13.out)
  have HK14 := Lib.hid ((hb14.block _ (Array.getElem?_eq_some_iff.1 HK13.out).1).trans HK13.out)
  clear hb14 hb hm hs
  have hcat : ((⟨#[]⟩ : ByteArray) ++ ⟨#[]⟩).toList = [] := cat_nil
  go_wp2_with (refine wpList_met rfl ?_; refine wpList_loadV rfl (some 78) rfl 44 (.tmp 11) rfl _ rfl 44 (entC zA).toArray (0, 0) _ HX14.out Try.underlying44 rfl sizeEntA ?_; refine Stop.on ?_)
  refine Stop.go ?_
  try simp only [Act.put, List.setIfInBounds_toArray, List.set_cons_zero, List.set_cons_succ]
  refine wpList_met rfl ?_
  refine wpList_buildV rfl (some 79) rfl 44 #[] rfl [] rfl (.agg (entC zA).toArray) (zeroEntV _) ?_
  try simp only [Act.put, List.setIfInBounds_toArray, List.set_cons_zero, List.set_cons_succ]
  refine wpList_met rfl ?_
  refine wpList_runI rfl (some 80) rfl (.bool false) _ (op_neq 44 (.tmp 78) (.tmp 79) 44 rfl rfl rfl guardEnt (neqEnt _)) ?_
  try simp only [Act.put, List.setIfInBounds_toArray, List.set_cons_zero, List.set_cons_succ]
  obtain ⟨_, hc35, hc36, hc33, hc34, _⟩ := HO.out _ HB14.out
  go_wp2_with (refine wpList_loadV rfl (some 90) rfl 30 (.tmp 4) rfl _ rfl 30 (bvs O.a.id.1).toArray (0, 0) _ (HO.out _ HB14.out).1 Try.underlying30 rfl (sizeIdA O.a.id) ?_; refine Stop.on ?_)
  refine Stop.go ?_
  try simp only [Act.put, List.setIfInBounds_toArray, List.set_cons_zero, List.set_cons_succ]
  go_wp2_with fail
  refine (Put_nil O.a.id O.a.text O.a.min).mono ?_
  rintro e w15 ⟨rfl, hbw15⟩
  have HCw15 := Lib.hid hbw15
  have HBw15 := Lib.hid (HB14.out.trans (hbw15.mono HB14.out.size))
  clear hbw15 hc35 hc36 hc33 hc34
  go_wp2_with (refine wpList_met rfl ?_; refine wpList_loadV rfl (some 101) rfl 30 (.tmp 4) rfl _ rfl 30 (bvs O.a.id.1).toArray (0, 0) _ (HO.out _ HBw15.out).1 Try.underlying30 rfl (sizeIdA O.a.id) ?_; refine Stop.on ?_)
  refine Stop.go ?_
  try simp only [Act.put, List.setIfInBounds_toArray, List.set_cons_zero, List.set_cons_succ]
  go_wp2_with fail
  refine (Remove_nil O.a.id).mono ?_
  rintro e w16 ⟨rfl, hbw16⟩
  have HCw16 := Lib.hid (HCw15.out.trans (hbw16.mono HCw15.out.size))
  have HBw16 := Lib.hid (HBw15.out.trans (hbw16.mono HBw15.out.size))
  clear hbw16
  go_wp2_with (refine wpList_met rfl ?_; refine wpList_loadV rfl (some 107) rfl 30 (.tmp 4) rfl _ rfl 30 (bvs O.a.id.1).toArray (0, 0) _ (HO.out _ HBw16.out).1 Try.underlying30 rfl (sizeIdA O.a.id) ?_; refine Stop.on ?_)
  refine Stop.go ?_
  try simp only [Act.put, List.setIfInBounds_toArray, List.set_cons_zero, List.set_cons_succ]
  go_wp2_with fail
  refine (Has_nil O.a.id).mono ?_
  rintro e w17 ⟨rfl, hbw17⟩
  have HCw17 := Lib.hid (HCw16.out.trans (hbw17.mono HCw16.out.size))
  have HBw17 := Lib.hid (HBw16.out.trans (hbw17.mono HBw16.out.size))
  clear hbw17
  go_wp2_with fail
  refine (Bytes_nil).mono ?_
  rintro e w18 ⟨rfl, hbw18⟩
  have HCw18 := Lib.hid (HCw17.out.trans (hbw18.mono HCw17.out.size))
  have HBw18 := Lib.hid (HBw17.out.trans (hbw18.mono HBw17.out.size))
  clear hbw18
  go_wp2_with fail
  refine (Free_nil).mono ?_
  rintro e w19 ⟨rfl, hbw19⟩
  have HCw19 := Lib.hid (HCw18.out.trans (hbw19.mono HCw18.out.size))
  have HBw19 := Lib.hid (HBw18.out.trans (hbw19.mono HBw18.out.size))
  clear hbw19
  go_wp2_with fail
  refine (Len_nil).mono ?_
  rintro e w20 ⟨rfl, hbw20⟩
  have HCw20 := Lib.hid (HCw19.out.trans (hbw20.mono HCw19.out.size))
  have HBw20 := Lib.hid (HBw19.out.trans (hbw20.mono HBw19.out.size))
  clear hbw20
  go_wp2_with fail
  refine (Encode_nil).mono ?_
  rintro e w21 ⟨rfl, hbw21⟩
  have HCw21 := Lib.hid (HCw20.out.trans (hbw21.mono HCw20.out.size))
  have HBw21 := Lib.hid (HBw20.out.trans (hbw21.mono HBw20.out.size))
  clear hbw21
  go_wp2_with fail
  refine (Clone_nil).mono ?_
  rintro e w22 ⟨rfl, hbw22⟩
  have HCw22 := Lib.hid (HCw21.out.trans (hbw22.mono HCw21.out.size))
  have HBw22 := Lib.hid (HBw21.out.trans (hbw22.mono HBw21.out.size))
  clear hbw22
  go_wp2_with fail
  refine (Equal_nn).mono ?_
  rintro e w23 ⟨rfl, hbw23⟩
  have HCw23 := Lib.hid (HCw22.out.trans (hbw23.mono HCw22.out.size))
  have HBw23 := Lib.hid (HBw22.out.trans (hbw23.mono HBw22.out.size))
  clear hbw23
  go_wp2_with fail
  refine (Equal_ns _).mono ?_
  rintro e w24 ⟨rfl, hbw24⟩
  have HCw24 := Lib.hid (HCw23.out.trans (hbw24.mono HCw23.out.size))
  have HBw24 := Lib.hid (HBw23.out.trans (hbw24.mono HBw23.out.size))
  clear hbw24
  go_wp2_with fail
  refine (Equal_sn _).mono ?_
  rintro e w25 ⟨rfl, hbw25⟩
  have HCw25 := Lib.hid (HCw24.out.trans (hbw25.mono HCw24.out.size))
  have HBw25 := Lib.hid (HBw24.out.trans (hbw25.mono HBw24.out.size))
  clear hbw25
  have hR := (HO.out _ HBw25.out).2.2.2.2.2
  rw [HS.out.1] at hR
  have hcR : w25.cell? ⟨w.heap.size + 1, 0, none⟩ = some (.bool false) := by rw [cell_of_row _ _ _ _ _ _ hR]; rfl
  have hfR : w25.frozen? ⟨w.heap.size + 1, 0, none⟩ = false := frozen_of_row _ _ _ _ _ hR
  have HR := Lib.hid hR
  have HKz := Lib.hid (show w25.heap[D]? = some (.deferred (some [])) from by
    have h1 := HK14.out
    have h2 : Below w14.heap.size w14 w25 := HCw25.out
    exact (h2.block _ (Array.getElem?_eq_some_iff.1 h1).1).trans h1)
  have HBz := Lib.hid (HB05.out.trans (HBw25.out.mono HB05.out.size))
  have HDN := Lib.hid (show w.heap.size + 1 < D from by have := HD.out; have := HLT.out; omega)
  clear hR
  go_wp2_with fail
  have n89 := HR.out
  obtain ⟨wz, hwz⟩ : ∃ wz, w25.setCell ⟨w.heap.size + 1, 0, none⟩ (.bool true) = wz := ⟨_, rfl⟩
  have hKz : wz.heap[D]? = some (.deferred (some [])) := by rw [← hwz]; exact (heap_setCell_other w25 ⟨w.heap.size + 1, 0, none⟩ _ _ (by show D ≠ w.heap.size + 1; have := HDN.out; omega)).trans HKz.out
  have hRz : wz.heap[w.heap.size + 1]? = some (.cells #[.bool true] 4 (0, 0)) := by rw [← hwz]; exact heap_setCell_same _ _ _ _ _ _ n89
  have hBz : Below w.heap.size w wz := by rw [← hwz]; exact (HBz.out).setCell (Nat.le_succ _) _
  rw [hwz]
  clear hwz
  refine ⟨by simp, .inl ⟨_, _, rfl, run_takeDeferred hKz, ?_⟩⟩
  have hcz : (wz.putObj D (.deferred none)).cell? ⟨w.heap.size + 1, 0, none⟩ = some (.bool true) := by
    have h9 : (wz.putObj D (.deferred none)).heap[w.heap.size + 1]? = _ := (World.putObj_heap_other (by have := HDN.out; omega)).trans hRz
    simp [World.cell?, h9]
  have hBf : Below w.heap.size w (wz.putObj D (.deferred none)) := hBz.trans (belowK_b (w := w) (Nat.le_refl _) wz D _ _ (by have := HDN.out; omega) hKz rfl rfl)
  refine ⟨_, ?_, rfl, hBf⟩
  simp only [results, show Try.f10.results = #[.cell 2 4] from rfl]
  go_simp
end Go.Proofs.Ytnmdgjodbikndaa
