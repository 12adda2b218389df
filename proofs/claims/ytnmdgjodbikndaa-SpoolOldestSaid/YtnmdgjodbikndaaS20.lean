/- The spool: Entry. -/
import Derived.Test.YtnmdgjodbikndaaS19
namespace Go.Proofs.Ytnmdgjodbikndaa
open Go.RowKit
set_option linter.unusedVariables false
set_option linter.unusedSimpArgs false

theorem sizeEnt (a : ArtD) : (Try.prog.info? 44).map (·.size) = some (entC a).toArray.size := by rw [List.size_toArray, entC_length]; kernel_rfl
theorem zeroEntB (w : World) : (Instr.build 44 #[]).run Try.prog w = .ok (.agg (entC zA).toArray) w := by kernel_rfl
set_option maxRecDepth 100000 in
set_option maxHeartbeats 2000000 in
theorem Entry_any {w : World} {b m : Nat} {S : SpD} (h : SpAt w b m S) (hok : S.Ok) (k : IdB) :
    Calls Try.prog 26 #[.pointer (some ⟨b, 0, none⟩), .agg (bvs k.1).toArray] w fun e w' => e = .returned (.tuple #[.agg (entC ((S.find k).getD zA)).toArray, .bool (S.find k).isSome]) ∧ Below w.heap.size w w' := by
  obtain ⟨w1, hw1⟩ : ∃ w1, w.alloc (.cells (bvs k.1).toArray 30) = w1 := ⟨_, rfl⟩
  have hb1 : Below w.heap.size w w1 := hw1 ▸ (Below.refl _ _).alloc (Nat.le_refl _) _
  have hx1 : w1.heap[w.heap.size]? = some (.cells (bvs k.1).toArray 30 (0, 0)) := by rw [← hw1]; exact heap_alloc_new _ _
  obtain ⟨A, hA⟩ : ∃ A, (S.find k).getD zA = A := ⟨_, rfl⟩
  obtain ⟨r, hr⟩ : ∃ r, (S.find k).isSome = r := ⟨_, rfl⟩
  have hAk : r = true → A.id = k := fun e => by
    cases hf : S.find k with
    | none => rw [hf] at hr; rw [e] at hr; cases hr
    | some x => rw [hf] at hA; have := (find_spec.1 hf).2; rw [← hA]; exact this
  have hA0 : r = false → A = zA := fun e => by
    cases hf : S.find k with
    | none => rw [hf] at hA; exact hA.symm
    | some x => rw [hf] at hr; rw [e] at hr; cases hr
  have htx : A.text.size ≤ 65536 := by
    cases hf : S.find k with
    | none => rw [hf] at hA; rw [← hA]; decide
    | some x => rw [hf] at hA; rw [← hA]; exact (hok.tx x (find_spec.1 hf).1).2
  rw [hA, hr]
  have hlk := fun w' (hw' : Below w.heap.size w w') => (h.below hw').look k false
  have hhas := fun w' (hw' : Below w.heap.size w w') => Has_any (h.below hw') k
  rw [hA] at hlk
  rw [hr] at hhas
  have HH := Lib.hid h
  have HAK := Lib.hid hAk
  have HA0 := Lib.hid hA0
  have HHAS := Lib.hid hhas
  have HLKA := Lib.hid hlk
  have HX := Lib.hid hx1
  have HB1 := Lib.hid hb1
  have HTX := Lib.hid htx
  clear h hok hA hr hAk hA0 hlk hhas hx1 hb1 htx
  go_enter Try.func26, Try.ntmps26
  go_wp2_with (refine wpList_newV rfl (some 4) rfl 44 rfl (entC zA).toArray 34 (by kernel_rfl) ?_; refine Stop.on ?_)
  refine Stop.go ?_
  try simp only [Act.put, List.setIfInBounds_toArray, List.set_cons_zero, List.set_cons_succ]
  intro wi xi bi si
  try simp only [Act.put, List.setIfInBounds_toArray, List.set_cons_zero, List.set_cons_succ]
  have HXI := Lib.hid xi
  have HBI := Lib.hid (HB1.out.trans (bi.mono HB1.out.size))
  have HX3 := Lib.hid ((bi.block _ (Array.getElem?_eq_some_iff.1 HX.out).1).trans HX.out)
  have HLT := Lib.hid (show w.heap.size < w1.heap.size from (Array.getElem?_eq_some_iff.1 HX.out).1)
  clear xi bi si
  go_wp2_with (refine wpList_loadV rfl (some 8) rfl 30 (.tmp 3) rfl _ rfl 30 (bvs k.1).toArray (0, 0) _ HX3.out Try.underlying30 rfl (sizeIdA k) ?_; refine Stop.on ?_)
  refine Stop.go ?_
  try simp only [Act.put, List.setIfInBounds_toArray, List.set_cons_zero, List.set_cons_succ]
  go_wp2_with fail
  refine (HHAS.out wi HBI.out).mono ?_
  rintro e wh ⟨rfl, hbh⟩
  have HXH := Lib.hid ((hbh.block _ (Array.getElem?_eq_some_iff.1 HXI.out).1).trans HXI.out)
  have HX3H := Lib.hid ((hbh.block _ (Array.getElem?_eq_some_iff.1 HX3.out).1).trans HX3.out)
  have HBH := Lib.hid (HBI.out.trans (hbh.mono HBI.out.size))
  clear hbh
  cases r with
  | false =>
    obtain rfl := HA0.out rfl
    go_wp2_with (refine wpList_buildV rfl (some 11) rfl 44 _ rfl [] rfl (.agg (entC zA).toArray) (zeroEntB _) ?_; refine Stop.on ?_)
    refine Stop.go ?_
    try simp only [Act.put, List.setIfInBounds_toArray, List.set_cons_zero, List.set_cons_succ]
    go_wp2_with (refine wpList_putV rfl rfl 44 (.tmp 4) (.tmp 11) rfl _ (entC zA).toArray rfl rfl 44 _ HXH.out (sizeEnt zA) (by simp only [List.size_toArray, entC_length]) (all_oneCell_cells entE zA) ?_; refine Stop.on ?_)
    refine Stop.go ?_
    try simp only [Act.put, List.setIfInBounds_toArray, List.set_cons_zero, List.set_cons_succ]
    intro wq xq cq sq
    try simp only [Act.put, List.setIfInBounds_toArray, List.set_cons_zero, List.set_cons_succ]
    have HXQ := Lib.hid xq
    have HBQ := Lib.hid (HBH.out.trans (cq.below (B := w.heap.size) (fun k e => by have := HLT.out; omega) HBH.out.size))
    clear xq cq sq
    go_wp2_with fail
    exact bodyPost_ret (results_cell_tmp_row (g := w1.heap.size) rfl _ _ _ _ _ _ rfl HXQ.out Try.underlying44 rfl (sizeEnt zA)) rfl ⟨rfl, HBQ.out⟩
  | true =>
  obtain rfl := HAK.out rfl
  obtain ⟨k, hk⟩ : ∃ k, A.id = k := ⟨_, rfl⟩
  rw [hk] at HX3H HLKA
  have HK := Lib.hid hk
  clear hk HA0 HAK HHAS
  have HC := Lib.hid (show ∀ w', Below wh.heap.size wh w' → w'.rangeAt w.heap.size 0 (bvs k.1) ∧ w'.cell? ⟨b, 3, none⟩ = some (.map (some m)) from fun w' hw' => ⟨range_block ((hw'.block _ (Array.getElem?_eq_some_iff.1 HX3H.out).1).trans HX3H.out), ((HH.out.below HBH.out).below hw').cells.2.2.2⟩)
  have HLK := Lib.hid (show ∀ w', Below wh.heap.size wh w' → (Instr.lookup 76 (.map (some m)) (.agg (bvs k.1).toArray) false).run Try.prog w' = .ok (.agg #[.string A.text, .int .i64 A.arr, .int .i64 A.place]) w' from fun w' hw' => HLKA.out w' (HBH.out.trans (hw'.mono HBH.out.size)))
  go_wp2_with fail
  refine wp_region_noPanic ?_
  refine wp_region_H (Below wh.heap.size wh) (by kernel_rfl) ?_
  have hS0 : (Below wh.heap.size wh) wh.drew := (Below.refl _ _).drew
  obtain ⟨wd, hwd⟩ : ∃ wd, wh.drew = wd := ⟨_, rfl⟩
  rw [hwd] at hS0 ⊢
  clear hwd
  refine wpAnyH_takeI (i := 0) (v := ?v1) rfl (by kernel_rfl) (by kernel_rfl) (by kernel_rfl) (fun _ _ _ h => h) (yieldsIf_run rfl (fun w' hw' => ?y1)) hS0 ?_
  case y1 => first | (go_simp; rfl) | (go_simp; done) | rfl
  simp only [Act.put, List.setIfInBounds_toArray, List.set_cons_zero, List.set_cons_succ]
  refine wpAnyH_takeI (i := 1) (v := ?v2) rfl (by kernel_rfl) (by kernel_rfl) (by kernel_rfl) (fun _ _ _ h => h) (yieldsIf_run rfl (fun w' hw' => ?y2)) hS0 ?_
  case y2 => first | (go_simp; rfl) | (go_simp; done) | rfl
  simp only [Act.put, List.setIfInBounds_toArray, List.set_cons_zero, List.set_cons_succ]
  refine wpAnyH_takeI (i := 2) (v := ?v3) rfl (by kernel_rfl) (by kernel_rfl) (by kernel_rfl) (fun _ _ _ h => h) (yieldsIf_run rfl (fun w' hw' => ?y3)) hS0 ?_
  case y3 => first | (go_simp; rfl) | (go_simp; done) | rfl
  simp only [Act.put, List.setIfInBounds_toArray, List.set_cons_zero, List.set_cons_succ]
  refine wpAnyH_takeI (i := 3) (v := .map (some m)) rfl (by kernel_rfl) (by kernel_rfl) (by kernel_rfl) (fun _ _ _ h => h) (yieldsIf_run rfl (fun w' hw' => ?y4)) hS0 ?_
  case y4 => (have hc := (HC.out w' hw').2; clear hw'; first | (go_simp; rfl) | (go_simp; done))
  simp only [Act.put, List.setIfInBounds_toArray, List.set_cons_zero, List.set_cons_succ]
  refine wpAnyH_takeI (i := 4) (v := .agg (bvs k.1).toArray) rfl (by kernel_rfl) (by kernel_rfl) (by kernel_rfl) (fun _ _ _ h => h) (yieldsIf_load_mid rfl 30 (.tmp 3) rfl w.heap.size 0 rfl (bvs k.1) _ (fun w' hw' => (HC.out w' hw').1) Try.underlying30 rfl (sizeId k)) hS0 ?_
  simp only [Act.put, List.setIfInBounds_toArray, List.set_cons_zero, List.set_cons_succ]
  refine wpAnyH_takeI (i := 5) (v := .agg #[.string A.text, .int .i64 A.arr, .int .i64 A.place]) rfl (by kernel_rfl) (by kernel_rfl) (by kernel_rfl) (fun _ _ _ h => h) (yieldsIf_run rfl (fun w' hw' => ?y5)) hS0 ?_
  case y5 => (have hl := HLK.out w' hw'; clear hw'; first | (go_simp; rfl) | (go_simp; done))
  simp only [Act.put, List.setIfInBounds_toArray, List.set_cons_zero, List.set_cons_succ]
  refine wpAnyH_do (i := 6) (by kernel_rfl) rfl rfl (fun K hK => ?_)
  go_simp
  obtain ⟨wa, hwa⟩ : ∃ wa, wd.alloc (.cells #[.string ⟨#[]⟩, .int .i64 0, .int .i64 0] 80) = wa := ⟨_, rfl⟩
  have hba : Below wd.heap.size wd wa := hwa ▸ (Below.refl _ _).alloc (Nat.le_refl _) _
  have hxa : wa.heap[wd.heap.size]? = some (.cells #[.string ⟨#[]⟩, .int .i64 0, .int .i64 0] 80 (0, 0)) := by rw [← hwa]; exact heap_alloc_new _ _
  rw [hwa]
  have hSa := hS0.trans (hba.mono hS0.size)
  refine hK _ _ hSa ?_
  clear hK K
  try simp only [Act.put, List.setIfInBounds_toArray, List.set_cons_zero, List.set_cons_succ]
  refine wpAnyH_do (i := 7) (by kernel_rfl) rfl rfl (fun K hK => ?_)
  refine wp_store_row 80 (.tmp 6) (.tmp 17) rfl wd.heap.size #[.string A.text, .int .i64 A.arr, .int .i64 A.place] rfl rfl 80 _ hxa sizeArt rfl oneArt ?_
  have hxb := setRow_heap _ _ _ #[.string A.text, .int .i64 A.arr, .int .i64 A.place] _ _ hxa
  have hbb : Below wh.heap.size wh (wa.setRow wd.heap.size #[.string A.text, .int .i64 A.arr, .int .i64 A.place]) := below_setRow hSa hS0.size _
  obtain ⟨wb, hwb⟩ : ∃ wb, wa.setRow wd.heap.size #[.string A.text, .int .i64 A.arr, .int .i64 A.place] = wb := ⟨_, rfl⟩
  rw [hwb] at hxb hbb ⊢
  clear hwb hwa hxa hSa hba
  refine hK _ _ hbb ?_
  clear hK K
  try simp only [Act.put, List.setIfInBounds_toArray, List.set_cons_zero, List.set_cons_succ]
  refine wpAnyH_done (by kernel_rfl) ?_ _
  refine NoPanic.normal ?_
  have HXB := Lib.hid hxb
  have HBB := Lib.hid hbb
  have HLD := Lib.hid (show w.heap.size ≤ wd.heap.size from Nat.le_trans HBH.out.size hS0.size)
  clear hxb hbb hS0
  have HX3B := Lib.hid ((HBB.out.block _ (Array.getElem?_eq_some_iff.1 HX3H.out).1).trans HX3H.out)
  have HXHB := Lib.hid ((HBB.out.block _ (Array.getElem?_eq_some_iff.1 HXH.out).1).trans HXH.out)
  have HBW := Lib.hid (HBH.out.trans (HBB.out.mono HBH.out.size))
  have hca : wb.cell? ⟨wd.heap.size, 1, none⟩ = some (.int .i64 A.arr) := by rw [cell_of_row _ _ _ _ _ _ HXB.out]; rfl
  have hct : wb.cell? ⟨wd.heap.size, 0, none⟩ = some (.string A.text) := by rw [cell_of_row _ _ _ _ _ _ HXB.out]; rfl
  have htx := HTX.out
  go_wp2_with (refine wpList_loadV rfl (some 18) rfl 30 (.tmp 3) rfl _ rfl 30 (bvs k.1).toArray (0, 0) _ HX3B.out Try.underlying30 rfl (sizeIdA k) ?_; refine Stop.on ?_)
  refine Stop.go ?_
  try simp only [Act.put, List.setIfInBounds_toArray, List.set_cons_zero, List.set_cons_succ]
  go_wp2_with (refine wpList_buildV rfl (some 24) rfl 44 _ rfl [(0, .agg (bvs k.1).toArray), (1, .int .i64 A.arr), (2, .int .i64 (A.text.size : Int))] rfl (.agg (entC A).toArray) (by have h := build_ent k A.arr (A.text.size : Int) wb; rw [← HK.out] at h ⊢; exact h) ?_; refine Stop.on ?_)
  refine Stop.go ?_
  try simp only [Act.put, List.setIfInBounds_toArray, List.set_cons_zero, List.set_cons_succ]
  go_wp2_with (refine wpList_putV rfl rfl 44 (.tmp 4) (.tmp 24) rfl _ (entC A).toArray rfl rfl 44 _ HXHB.out (sizeEnt A) (by simp only [List.size_toArray, entC_length]) (all_oneCell_cells entE A) ?_; refine Stop.on ?_)
  refine Stop.go ?_
  try simp only [Act.put, List.setIfInBounds_toArray, List.set_cons_zero, List.set_cons_succ]
  intro wq xq cq sq
  try simp only [Act.put, List.setIfInBounds_toArray, List.set_cons_zero, List.set_cons_succ]
  have HXQ := Lib.hid xq
  have HBQ := Lib.hid (HBW.out.trans (cq.below (B := w.heap.size) (fun k e => by have := HLT.out; omega) HBW.out.size))
  clear xq cq sq
  go_wp2_with fail
  exact bodyPost_ret (results_cell_tmp_row (g := w1.heap.size) rfl _ _ _ _ _ _ rfl HXQ.out Try.underlying44 rfl (sizeEnt A)) rfl ⟨rfl, HBQ.out⟩
end Go.Proofs.Ytnmdgjodbikndaa
