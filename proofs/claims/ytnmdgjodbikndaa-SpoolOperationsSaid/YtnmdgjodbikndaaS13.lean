/- The reference: Remove. -/
import Derived.Test.YtnmdgjodbikndaaS12
namespace Go.Proofs.Ytnmdgjodbikndaa
open Go.RowKit
set_option linter.unusedVariables false
set_option linter.unusedSimpArgs false

theorem cut_A (a : Option Addr) (n c m : Nat) (hm : m ≤ c) (hz : a = none → c = 0) (w : World) :
    (Instr.sliceAt 48 (.slice a n c) none (some (.int .i64 (m : Int))) none).run Try.prog w = .ok (.slice a m c) w := by
  cases a with
  | none =>
    obtain rfl := hz rfl
    obtain rfl : m = 0 := by omega
    have h0 : ∀ w, (Instr.sliceAt 48 (.slice none n 0) none (some (.int .i64 0)) none).run Try.prog w = .ok (.slice none 0 0) w := fun w => by go_simp
    exact h0 w
  | some ad =>
    have h1 : (m : Int) ≤ (c : Int) := by omega
    go_simp
theorem from_A {w0 : World} {g off n c k : Nat} {L : List RefA} (h : ListAt refE w0 (.slice (some ⟨g, off, none⟩) n c) L) (hk : k ≤ n) :
    ∃ v, (∀ w, (Instr.sliceAt 48 (.slice (some ⟨g, off, none⟩) n c) (some (.int .i64 (k : Int))) none none).run Try.prog w = .ok v w) ∧ ListAt refE w0 v (L.drop k) := by
  obtain ⟨hn, hc, hm, hz⟩ := h.len
  have h1 : (k : Int) ≤ (n : Int) := by omega
  have h2 : (n : Int) ≤ (c : Int) := by omega
  by_cases he : c = k
  · subst he
    obtain rfl : n = c := by omega
    refine ⟨.slice (some ⟨g, off, none⟩) 0 0, fun w => by clear hn h hm hz; go_simp, ?_⟩
    rw [List.drop_of_length_le (by omega)]
    exact ⟨_, _, rfl, Nat.zero_le _, Nat.zero_le _, (fun e => by cases e), fun e => absurd rfl e⟩
  · refine ⟨.slice (some ((⟨g, off, none⟩ : Addr).add (k * 34))) (n - k) (c - k), fun w => by clear hn h hm hz; go_simp, ?_⟩
    have h3 := h.drop hk
    have e2 : (⟨g, off, none⟩ : Addr).add (k * 34) = ⟨g, off + k * 34, none⟩ := by unfold Addr.add; split <;> simp_all
    rw [e2]
    exact h3
def rmC (L : List RefA) (k : IdB) : Int := if fIx L k < 0 then 8 else 0
def rmL (L : List RefA) (k : IdB) : List RefA := L.eraseP (fun a => decide (a.id = k))
theorem fIx_cases (L : List RefA) (k : IdB) : (fIx L k = -1 ∧ rmL L k = L ∧ ∀ a ∈ L, a.id ≠ k) ∨ ∃ i, ∃ h : i < L.length, fIx L k = (i : Int) ∧ rmL L k = L.take i ++ L.drop (i + 1) ∧ L[i].id = k := by
  unfold fIx rmL
  rw [List.eraseP_eq_eraseIdx]
  cases h : L.findIdx? (fun a => decide (a.id = k)) with
  | none => exact .inl ⟨rfl, rfl, fun a ha e => by rw [List.findIdx?_eq_none_iff] at h; have := h a ha; rw [e] at this; simp at this⟩
  | some i =>
    rw [List.findIdx?_eq_some_iff_getElem] at h
    obtain ⟨hi, he, _⟩ := h
    exact .inr ⟨i, hi, rfl, List.eraseIdx_eq_take_drop_succ _ _, of_decide_eq_true he⟩
set_option maxRecDepth 100000 in
set_option maxHeartbeats 2000000 in
theorem rRemove_any {w : World} (B : Int) (v : Value) (L : List RefA) (k : IdB) (hv : ListAt refE w v L) (hl : L.length < 1000000) :
    Calls Try.prog 45 #[.agg #[.int .i64 B, v], .agg (bvs k.1).toArray] w (RPost w B (rmC L k) (rmL L k)) := by
  obtain ⟨va, vc, rfl⟩ := hv.form
  obtain ⟨N, hN⟩ : ∃ N, L.length = N := ⟨_, rfl⟩
  obtain ⟨c, hc⟩ : ∃ c, rmC L k = c := ⟨_, rfl⟩
  obtain ⟨L', hL'⟩ : ∃ L', rmL L k = L' := ⟨_, rfl⟩
  rw [hN] at hv hl ⊢
  rw [hc, hL']
  unfold rmC at hc
  obtain ⟨w1, hw1⟩ : ∃ w1, w.alloc (.cells #[.int .i64 B, .slice va N vc] 50) = w1 := ⟨_, rfl⟩
  obtain ⟨w2, hw2⟩ : ∃ w2, w1.alloc (.cells (bvs k.1).toArray 29) = w2 := ⟨_, rfl⟩
  have hx1 : w1.heap[w.heap.size]? = some (.cells #[.int .i64 B, .slice va N vc] 50 (0, 0)) := by rw [← hw1]; exact heap_alloc_new _ _
  have hx2 : w2.heap[w1.heap.size]? = some (.cells (bvs k.1).toArray 29 (0, 0)) := by rw [← hw2]; exact heap_alloc_new _ _
  have hb1 : Below w.heap.size w w1 := hw1 ▸ (Below.refl _ _).alloc (Nat.le_refl _) _
  have hb2 : Below w1.heap.size w1 w2 := hw2 ▸ (Below.refl _ _).alloc (Nat.le_refl _) _
  have hb12 := hb1.trans (hb2.mono hb1.size)
  have hx1' := (hb2.block _ (Array.getElem?_eq_some_iff.1 hx1).1).trans hx1
  have HLZ := Lib.hid (show w.heap.size < w1.heap.size ∧ w1.heap.size < w2.heap.size from ⟨(Array.getElem?_eq_some_iff.1 hx1).1, (Array.getElem?_eq_some_iff.1 hx2).1⟩)
  have HV0 := Lib.hid hv
  have HV := Lib.hid (hv.below hb12)
  have HX1 := Lib.hid hx1'
  have HX2 := Lib.hid (range_block hx2)
  have HX2b := Lib.hid hx2
  have HB12 := Lib.hid hb12
  have HN := Lib.hid hN
  have HC := Lib.hid hc
  have HL' := Lib.hid hL'
  clear hx1 hx1' hx2 hb1 hb2 hb12 hv hN hc hL'
  go_enter Try.func45, Try.ntmps45
  go_wp2_with (refine wpList_newV rfl (some 4) rfl 50 rfl #[.int .i64 0, .slice none 0 0] 2 (by kernel_rfl) ?_; refine Stop.on ?_)
  refine Stop.go ?_
  intro wi xi bi si
  try simp only [Act.put, List.setIfInBounds_toArray, List.set_cons_zero, List.set_cons_succ]
  have HBI := Lib.hid (HB12.out.trans (bi.mono HB12.out.size))
  have HVI := Lib.hid (HV.out.below bi)
  have HLT := Lib.hid (show w.heap.size < w1.heap.size ∧ w1.heap.size < w2.heap.size ∧ w2.heap.size < wi.heap.size from ⟨HLZ.out.1, HLZ.out.2, (Array.getElem?_eq_some_iff.1 xi).1⟩)
  have HXK := Lib.hid ((bi.block _ HLZ.out.2).trans HX2b.out)
  have HO := Lib.hid (show ∀ w', Below wi.heap.size wi w' → w'.heap[w.heap.size]? = some (.cells #[.int .i64 B, .slice va N vc] 50 (0, 0)) ∧ True ∧ w'.heap[w2.heap.size]? = some (.cells #[.int .i64 0, .slice none 0 0] 50 (0, 0)) from fun w' hw' =>
    ⟨(hw'.block _ (by have := HLT.out; omega)).trans ((bi.block _ (by have := HLT.out; omega)).trans HX1.out), trivial, (hw'.block _ (by have := HLT.out; omega)).trans xi⟩)
  clear xi bi si
  go_wp2_with (refine wpList_loadV rfl (some 7) rfl 50 (.tmp 2) rfl _ rfl 50 #[.int .i64 B, .slice va N vc] (0, 0) _ (HO.out _ (Below.refl _ _)).1 Try.underlying50 rfl sizeS ?_; refine Stop.on ?_)
  refine Stop.go ?_
  try simp only [Act.put, List.setIfInBounds_toArray, List.set_cons_zero, List.set_cons_succ]
  refine wpList_loadV rfl (some 8) rfl 29 (.tmp 3) rfl _ rfl 29 (bvs k.1).toArray (0, 0) _ HXK.out Try.underlying29 rfl (by rw [List.size_toArray]; exact sizeArr k) ?_
  try simp only [Act.put, List.setIfInBounds_toArray, List.set_cons_zero, List.set_cons_succ]
  go_wp2_with fail
  refine (rFind_any B _ L k HVI.out (by rw [HN.out]; omega)).mono ?_
  rintro e wf ⟨rfl, hbf⟩
  have HBF := Lib.hid hbf
  have HBIF := Lib.hid (HBI.out.trans (hbf.mono HBI.out.size))
  clear hbf
  rcases fIx_cases L k with ⟨h1, h2, _⟩ | ⟨i, hi, h1, h2, _⟩
  · rw [h1]
    obtain rfl : 8 = c := by rw [← HC.out, h1, if_pos (by decide)]
    obtain rfl : L = L' := by rw [← HL'.out, h2]
    clear HL' HC h1 h2
    go_wp2_with (refine wpList_loadV rfl (some 12) rfl 50 (.tmp 2) rfl _ rfl 50 #[.int .i64 B, .slice va N vc] (0, 0) _ (HO.out _ HBF.out).1 Try.underlying50 rfl sizeS ?_; refine Stop.on ?_)
    refine Stop.go ?_
    try simp only [Act.put, List.setIfInBounds_toArray, List.set_cons_zero, List.set_cons_succ]
    refine wpList_putV rfl rfl 50 (.tmp 4) (.tmp 12) rfl _ #[.int .i64 B, .slice va N vc] rfl rfl 50 _ (HO.out _ HBF.out).2.2 sizeS rfl oneS ?_
    intro wq xq cq sq
    try simp only [Act.put, List.setIfInBounds_toArray, List.set_cons_zero, List.set_cons_succ]
    have HXQ := Lib.hid xq
    have HBQ := Lib.hid ((HBIF.out).trans (cq.below (B := w.heap.size) (fun k e => by rw [e]; have := HLT.out; omega) (HBIF.out).size))
    have HLQ := Lib.hid (HV0.out.later (HVI.out.below (HBF.out)) cq (by have := HLT.out; omega))
    clear xq cq sq
    go_wp2_with fail
    exact bodyPost_ret (results_cell_tmp_row (g := w2.heap.size) rfl _ _ _ _ _ _ rfl HXQ.out Try.underlying50 rfl sizeS) rfl ⟨_, rfl, HLQ.out, HBQ.out⟩
  rw [h1]
  obtain rfl : 0 = c := by rw [← HC.out, h1, if_neg (by omega)]
  obtain rfl : L.take i ++ L.drop (i + 1) = L' := by rw [← HL'.out, h2]
  clear HL' HC h1 h2
  rw [HN.out] at hi
  have hiI : ¬ ((i : Int) < 0) := by omega
  have hVF := HVI.out.below HBF.out
  obtain ⟨g, off, rfl, _⟩ := hVF.get (i := i) (by rw [HN.out]; exact hi)
  have hcut := cut_A (some ⟨g, off, none⟩) N vc i (by have := hVF.len; omega) (fun e => by cases e)
  obtain ⟨vd, hfrom, hld⟩ := from_A hVF (show i + 1 ≤ N by omega)
  have hwr : IntKind.i64.wrap ((i : Int) + 1) = (i : Int) + 1 := IntWalk.i64_in _ (by omega)
  rw [show ((i + 1 : Nat) : Int) = (i : Int) + 1 from by omega] at hfrom
  have HTK := Lib.hid (hVF.take (k := i) (by omega))
  have HDR := Lib.hid hld
  have HLT1 := Lib.hid (show (L.take i).length = i by rw [List.length_take, HN.out]; omega)
  have HLD1 := Lib.hid (show (L.drop (i + 1)).length = N - (i + 1) by rw [List.length_drop, HN.out])
  have HFO := Lib.hid (show ∀ w', Below wf.heap.size wf w' → w'.heap[w.heap.size]? = some (.cells #[.int .i64 B, .slice (some ⟨g, off, none⟩) N vc] 50 (0, 0)) ∧ w'.heap[w2.heap.size]? = some (.cells #[.int .i64 0, .slice none 0 0] 50 (0, 0)) ∧ w'.cell? ⟨w.heap.size, 1, none⟩ = some (.slice (some ⟨g, off, none⟩) N vc) from fun w' hw' => by
    have h := HO.out w' (HBF.out.trans (hw'.mono HBF.out.size))
    refine ⟨h.1, h.2.2, ?_⟩
    rw [cell_of_row _ _ _ _ _ _ h.1]
    rfl)
  have HLA := Lib.hid (show w.heap.size < w2.heap.size ∧ w2.heap.size < wf.heap.size from ⟨by have := HLT.out; omega, by have := HLT.out; have := HBF.out.size; omega⟩)
  clear hVF hld
  go_wp2_with fail
  refine cut_region (fun a0 a' w' => ∃ v13 v14 v15 v16 v17 v18 v19 v20 v21 v22 v23 v25 al cl, a' = (((((((((((((a0.put (some 13) v13).put (some 14) v14).put (some 15) v15).put (some 16) v16).put (some 17) v17).put (some 18) v18).put (some 19) v19).put (some 20) v20).put (some 21) v21).put (some 22) v22).put (some 23) v23).put (some 24) (.slice al (i + (N - (i + 1))) cl)).put (some 25) v25) ∧ (∀ w'', Chg (fun k => k = w2.heap.size) w' w'' → ListAt refE w'' (.slice al (i + (N - (i + 1))) cl) (L.take i ++ L.drop (i + 1))) ∧ w'.heap[w.heap.size]? = some (.cells #[.int .i64 B, .slice al (i + (N - (i + 1))) cl] 50 (0, 0)) ∧ w'.heap[w2.heap.size]? = some (.cells #[.int .i64 0, .slice none 0 0] 50 (0, 0)) ∧ Below w.heap.size w w') ?_ ?_
  ·
    refine wp_region_noPanic ?_
    refine wp_region_F 13 (Below wf.heap.size wf) (by kernel_rfl) ?_
    have hS0 : (Below wf.heap.size wf) wf.drew := (Below.refl _ _).drew
    obtain ⟨wd, hwd⟩ : ∃ wd, wf.drew = wd := ⟨_, rfl⟩
    rw [hwd] at hS0 ⊢
    clear hwd
    refine wpAnyF_take (i := 1) (fin := 13) (v := ?v1) rfl (by kernel_rfl) (by kernel_rfl) (by kernel_rfl) (by kernel_rfl) (fun _ _ _ h => h) (yieldsIf_run rfl (fun w' hw' => ?y1)) hS0 ?_
    case y1 => first | (go_simp; rfl) | (go_simp; done) | rfl
    simp only [Act.put, List.setIfInBounds_toArray, List.set_cons_zero, List.set_cons_succ]
    refine wpAnyF_take (i := 2) (fin := 13) (v := .slice (some ⟨g, off, none⟩) N vc) rfl (by kernel_rfl) (by kernel_rfl) (by kernel_rfl) (by kernel_rfl) (fun _ _ _ h => h) (yieldsIf_run rfl (fun w' hw' => ?y2)) hS0 ?_
    case y2 => (have hc := (HFO.out w' hw').2.2; clear hw'; first | (go_simp; rfl) | (go_simp; done))
    simp only [Act.put, List.setIfInBounds_toArray, List.set_cons_zero, List.set_cons_succ]
    refine wpAnyF_take (i := 3) (fin := 13) (v := ?v3) rfl (by kernel_rfl) (by kernel_rfl) (by kernel_rfl) (by kernel_rfl) (fun _ _ _ h => h) (yieldsIf_run rfl (fun w' hw' => ?y3)) hS0 ?_
    case y3 => first | (go_simp; rfl) | (go_simp; done) | rfl
    simp only [Act.put, List.setIfInBounds_toArray, List.set_cons_zero, List.set_cons_succ]
    refine wpAnyF_take (i := 4) (fin := 13) (v := .slice (some ⟨g, off, none⟩) i vc) rfl (by kernel_rfl) (by kernel_rfl) (by kernel_rfl) (by kernel_rfl) (fun _ _ _ h => h) (yieldsIf_run rfl (fun w' hw' => ?y4)) hS0 ?_
    case y4 => (have h99 := hcut; clear hw'; first | (go_simp; rfl) | (go_simp; done))
    simp only [Act.put, List.setIfInBounds_toArray, List.set_cons_zero, List.set_cons_succ]
    refine wpAnyF_take (i := 6) (fin := 13) (v := ?v5) rfl (by kernel_rfl) (by kernel_rfl) (by kernel_rfl) (by kernel_rfl) (fun _ _ _ h => h) (yieldsIf_run rfl (fun w' hw' => ?y5)) hS0 ?_
    case y5 => first | (go_simp; rfl) | (go_simp; done) | rfl
    simp only [Act.put, List.setIfInBounds_toArray, List.set_cons_zero, List.set_cons_succ]
    refine wpAnyF_take (i := 7) (fin := 13) (v := .slice (some ⟨g, off, none⟩) N vc) rfl (by kernel_rfl) (by kernel_rfl) (by kernel_rfl) (by kernel_rfl) (fun _ _ _ h => h) (yieldsIf_run rfl (fun w' hw' => ?y6)) hS0 ?_
    case y6 => (have hc := (HFO.out w' hw').2.2; clear hw'; first | (go_simp; rfl) | (go_simp; done))
    simp only [Act.put, List.setIfInBounds_toArray, List.set_cons_zero, List.set_cons_succ]
    refine wpAnyF_take (i := 8) (fin := 13) (v := ?v7) rfl (by kernel_rfl) (by kernel_rfl) (by kernel_rfl) (by kernel_rfl) (fun _ _ _ h => h) (yieldsIf_run rfl (fun w' hw' => ?y7)) hS0 ?_
    case y7 => first | (go_simp; rfl) | (go_simp; done) | rfl
    simp only [Act.put, List.setIfInBounds_toArray, List.set_cons_zero, List.set_cons_succ]
    refine wpAnyF_take (i := 9) (fin := 13) (v := .int .i64 ((i : Int) + 1)) rfl (by kernel_rfl) (by kernel_rfl) (by kernel_rfl) (by kernel_rfl) (fun _ _ _ h => h) (yieldsIf_run rfl (fun w' hw' => ?y8)) hS0 ?_
    case y8 => (have h99 := hwr; clear hw'; first | (go_simp; rfl) | (go_simp; done))
    simp only [Act.put, List.setIfInBounds_toArray, List.set_cons_zero, List.set_cons_succ]
    refine wpAnyF_take (i := 10) (fin := 13) (v := vd) rfl (by kernel_rfl) (by kernel_rfl) (by kernel_rfl) (by kernel_rfl) (fun _ _ _ h => h) (yieldsIf_run rfl (fun w' hw' => ?y9)) hS0 ?_
    case y9 => (have h99 := hfrom; clear hw'; first | (go_simp; rfl) | (go_simp; done))
    simp only [Act.put, List.setIfInBounds_toArray, List.set_cons_zero, List.set_cons_succ]
    have hS := hS0
    clear hS0 hcut hfrom hwr
    refine wpAnyF_do (i := 0) (by kernel_rfl) rfl rfl (fun K hK => ?_)
    go_simp
    obtain ⟨wdn, hwn⟩ : ∃ wdn, wd.alloc (.cells #[] 37) = wdn := ⟨_, rfl⟩
    have hb : Below wd.heap.size wd wdn := hwn ▸ (Below.refl _ _).alloc (Nat.le_refl _) _
    have hE : OwnL refE wdn wf.heap.size (Value.slice (some ⟨wd.heap.size, 0, none⟩) 0 0) [] := hwn ▸ ownL_zero refE hS.size
    rw [hwn]
    clear hwn
    replace hS := hS.trans (hb.mono hS.size)
    clear hb
    refine hK _ _ (fun _ => hS) ?_
    clear hK K
    try simp only [Act.put, List.setIfInBounds_toArray, List.set_cons_zero, List.set_cons_succ]
    refine wpAnyF_do (i := 5) (by kernel_rfl) rfl rfl (fun K hK => ?_)
    refine wp_appL refE (.tmp 13) (.tmp 17) rfl rfl hE rfl ((HTK.out.below hS)) (n := 0) (m := i) rfl HLT1.out (by omega) hS.size ?_
    intro aA cA wdnn ho9 hgr hat
    have hb := hE.grown_below hgr hS.size
    rw [Nat.zero_add] at ho9 ⊢
    rw [List.nil_append] at ho9
    clear hE hgr hat
    have hE := ho9
    clear ho9
    replace hS := hS.trans hb
    clear hb
    refine hK _ _ (fun _ => hS) ?_
    clear hK K
    try simp only [Act.put, List.setIfInBounds_toArray, List.set_cons_zero, List.set_cons_succ]
    refine wpAnyF_do (i := 11) (by kernel_rfl) rfl rfl (fun K hK => ?_)
    refine wp_appL refE (.tmp 18) (.tmp 23) rfl rfl hE rfl ((HDR.out.below hS)) (n := i) (m := N - (i + 1)) HLT1.out HLD1.out (by omega) hS.size ?_
    intro aB cB wdnnn ho9 hgr hat
    have hb := hE.grown_below hgr hS.size
    clear hE hgr hat
    have hE := ho9
    clear ho9
    replace hS := hS.trans hb
    clear hb
    refine hK _ _ (fun _ => hS) ?_
    clear hK K
    try simp only [Act.put, List.setIfInBounds_toArray, List.set_cons_zero, List.set_cons_succ]
    refine wpAnyF_take (i := 12) (fin := 13) (v := ?v10) rfl (by kernel_rfl) (by kernel_rfl) (by kernel_rfl) (by kernel_rfl) (fun _ _ _ h => h) (yieldsIf_run rfl (fun w' hw' => ?y10)) hS ?_
    case y10 => first | (go_simp; rfl) | (go_simp; done) | rfl
    simp only [Act.put, List.setIfInBounds_toArray, List.set_cons_zero, List.set_cons_succ]
    obtain ⟨hq1, hq3, hq4⟩ := HFO.out _ hS
    have hfz := frozen_of_row _ w.heap.size 1 _ _ hq1
    refine wpAnyF_do (i := 13) (by kernel_rfl) rfl rfl (fun K hK => ?_)
    go_simp
    refine hK _ _ (fun h => absurd rfl h) ?_
    clear hK K
    refine wpAnyF_done (by kernel_rfl) ?_ _
    refine NoPanic.normal ?_
    have hset := heap_setCell_same wdnnn w.heap.size 1 _ _ (.slice aB (i + (N - (i + 1))) cB) hq1
    have hcs : Chg (fun k => k = w.heap.size) wdnnn (wdnnn.setCell ⟨w.heap.size, 1, none⟩ (.slice aB (i + (N - (i + 1))) cB)) := Chg.setCell wdnnn (a := ⟨w.heap.size, 1, none⟩) _ rfl
    have hown := hE.chg hcs (fun k hk e => by have h1 := (hE.lt hk).1; have h2 := HLA.out; omega)
    refine ⟨rfl, _, _, _, _, _, _, _, _, _, _, _, _, aB, cB, (by first | rfl | (simp only [Act.put, List.setIfInBounds_toArray, List.set_cons_zero, List.set_cons_succ]; rfl)), fun w'' hw'' => (hown.chg hw'' (fun k hk e => by have h1 := (hE.lt hk).1; have h2 := HLA.out; omega)).at_, hset, (hcs.block _ (Array.getElem?_eq_some_iff.1 hq3).1 (fun e => by have h2 := HLA.out; omega)).trans hq3, ?_⟩
    exact HBIF.out.trans ((hS.mono HBIF.out.size).setCell (Nat.le_refl _) _)

  rintro a' wz ⟨v13, v14, v15, v16, v17, v18, v19, v20, v21, v22, v23, v25, al, cl, rfl, hlz, hsz, h4z, hbz⟩
  simp only [Act.put, List.setIfInBounds_toArray, List.set_cons_zero, List.set_cons_succ]
  have HLZ2 := Lib.hid hlz
  have HSZ2 := Lib.hid hsz
  have H4Z := Lib.hid h4z
  have HBZ := Lib.hid hbz
  have HLEN := Lib.hid (show i + (N - (i + 1)) = (L.take i ++ L.drop (i + 1)).length by rw [List.length_append, HLT1.out, HLD1.out])
  clear hlz hsz h4z hbz hcut hfrom hwr
  go_wp2_with (refine wpList_loadV rfl (some 26) rfl 50 (.tmp 2) rfl _ rfl 50 #[.int .i64 B, .slice al (i + (N - (i + 1))) cl] (0, 0) _ HSZ2.out Try.underlying50 rfl sizeS ?_; refine Stop.on ?_)
  refine Stop.go ?_
  try simp only [Act.put, List.setIfInBounds_toArray, List.set_cons_zero, List.set_cons_succ]
  refine wpList_putV rfl rfl 50 (.tmp 4) (.tmp 26) rfl _ #[.int .i64 B, .slice al (i + (N - (i + 1))) cl] rfl rfl 50 _ H4Z.out sizeS rfl oneS ?_
  intro wq xq cq sq
  try simp only [Act.put, List.setIfInBounds_toArray, List.set_cons_zero, List.set_cons_succ]
  have HXQ := Lib.hid xq
  have HBQ := Lib.hid (HBZ.out.trans (cq.below (B := w.heap.size) (fun k e => by rw [e]; have := HLA.out; omega) HBZ.out.size))
  have HLQ := Lib.hid (HLZ2.out wq cq)
  clear xq cq sq
  go_wp2_with fail
  exact bodyPost_ret (results_cell_tmp_row (g := w2.heap.size) rfl _ _ _ _ _ _ rfl HXQ.out Try.underlying50 rfl sizeS) rfl ⟨_, rfl, HLQ.out, HBQ.out⟩
end Go.Proofs.Ytnmdgjodbikndaa
