/- The reference: Put, Remove. -/
import Derived.Test.YtnmdgjodbikndaaS11
namespace Go.Proofs.Ytnmdgjodbikndaa
open Go.RowKit
set_option linter.unusedVariables false
set_option linter.unusedSimpArgs false

theorem sizeSL {x : Int} {v : Value} : (Try.prog.info? 50).map (·.size) = some [Value.int .i64 x, v].length := by kernel_rfl
theorem sizeA {a : RefA} : (Try.prog.info? 37).map (·.size) = some a.cells.length := by rw [RefA.cells_length]; kernel_rfl
theorem sizeAA {a : RefA} : (Try.prog.info? 37).map (·.size) = some a.cells.toArray.size := by rw [List.size_toArray]; exact sizeA
theorem zOkA : ((Try.prog.info? 37).bind (·.zero)).isSome = true := by kernel_rfl
theorem ListAt.later {P : Program} {sT T : TypeId} {α : Type} {E : ElemTy P sT T α} {w0 w w' : World} {v : Value} {L : List α} {g : Nat} (h0 : ListAt E w0 v L) (h : ListAt E w v L) (hc : Chg (fun k => k = g) w w') (hn : w0.heap.size ≤ g) : ListAt E w' v L := by
  obtain ⟨a0, cap0, e0, _, _, _, h40⟩ := h0.ex
  obtain ⟨a, cap, e, h1, h2, h3, h4⟩ := h.ex
  refine ⟨a, cap, e, h1, h2, h3, fun hne => ?_⟩
  obtain ⟨g0, off0, e0', hl0, _⟩ := h40 hne
  obtain ⟨g', off, e', hl, hr⟩ := h4 hne
  have hg : g' < w0.heap.size := by
    rw [e, e', e0'] at e0
    simp only [Value.slice.injEq, Option.some.injEq, Addr.mk.injEq] at e0
    omega
  exact ⟨g', off, e', Nat.lt_of_lt_of_le hl hc.size, fun i hi j u hu => hc.cell (p := ⟨g', off + i * E.k + j, none⟩) (by show ¬ g' = g; omega) (hr i hi j u hu)⟩
theorem ba_em {t : ByteArray} (h : t.size = 0) : t.toList.isEmpty = true := by
  obtain rfl : t = ⟨#[]⟩ := ByteArray.ext (Array.eq_empty_of_size_eq_zero h)
  rw [ByteArray.toList_mk (l := [])]
  rfl
theorem rSize_le {L : List RefA} (h : ∀ x ∈ L, x.text.size ≤ 65536) : rSize L ≤ 65536 * L.length := by
  unfold rSize
  induction L with
  | nil => simp
  | cons x L ih =>
    have h1 := h x List.mem_cons_self
    have h2 := ih (fun y hy => h y (List.mem_cons_of_mem _ hy))
    rw [List.map_cons, List.sum_cons, List.length_cons]
    omega
def putRC (B : Int) (L : List RefA) (a : RefA) : Int :=
  if a.id = z32 ∨ a.text.size = 0 then 1 else if 65536 < a.text.size then 5 else if a.min < 0 ∨ 105190559 < a.min then 2 else if 0 ≤ fIx L a.id then 7 else if B < (rSize L : Int) + (a.text.size : Int) then 9 else 0
def RPost (w : World) (B : Int) (c : Int) (L : List RefA) (e : Ending) (w' : World) : Prop := ∃ v, e = .returned (.tuple #[.agg #[.int .i64 B, v], .int .i64 c]) ∧ ListAt refE w' v L ∧ Below w.heap.size w w'
set_option maxRecDepth 100000 in
set_option maxHeartbeats 2000000 in
theorem rPut_any {w : World} (B : Int) (v : Value) (L : List RefA) (a : RefA) (hv : ListAt refE w v L) (hl : L.length < 1000000) (ht : ∀ x ∈ L, x.text.size ≤ 65536) :
    Calls Try.prog 44 #[.agg #[.int .i64 B, v], .agg a.cells.toArray] w (RPost w B (putRC B L a) (if putRC B L a = 0 then L ++ [a] else L)) := by
  obtain ⟨va, vc, rfl⟩ := hv.form
  obtain ⟨N, hN⟩ : ∃ N, L.length = N := ⟨_, rfl⟩
  obtain ⟨c, hc⟩ : ∃ c, putRC B L a = c := ⟨_, rfl⟩
  obtain ⟨L', hL'⟩ : ∃ L', (if c = 0 then L ++ [a] else L) = L' := ⟨_, rfl⟩
  rw [hN] at hv hl ⊢
  rw [hc, hL']
  unfold putRC at hc
  obtain ⟨w1, hw1⟩ : ∃ w1, w.alloc (.cells #[.int .i64 B, .slice va N vc] 50) = w1 := ⟨_, rfl⟩
  obtain ⟨w2, hw2⟩ : ∃ w2, w1.alloc (.cells a.cells.toArray 37) = w2 := ⟨_, rfl⟩
  have hx1 : w1.heap[w.heap.size]? = some (.cells #[.int .i64 B, .slice va N vc] 50 (0, 0)) := by rw [← hw1]; exact heap_alloc_new _ _
  have hx2 : w2.heap[w1.heap.size]? = some (.cells a.cells.toArray 37 (0, 0)) := by rw [← hw2]; exact heap_alloc_new _ _
  have hb1 : Below w.heap.size w w1 := hw1 ▸ (Below.refl _ _).alloc (Nat.le_refl _) _
  have hb2 : Below w1.heap.size w1 w2 := hw2 ▸ (Below.refl _ _).alloc (Nat.le_refl _) _
  have hb12 := hb1.trans (hb2.mono hb1.size)
  have hx1' := (hb2.block _ (Array.getElem?_eq_some_iff.1 hx1).1).trans hx1
  have hl1 : w.heap.size < w1.heap.size := (Array.getElem?_eq_some_iff.1 hx1).1
  have hl2 : w1.heap.size < w2.heap.size := (Array.getElem?_eq_some_iff.1 hx2).1
  have HV0 := Lib.hid hv
  have HV := Lib.hid (hv.below hb12)
  have HX1 := Lib.hid hx1'
  have HX2 := Lib.hid hx2
  have HB12 := Lib.hid hb12
  have HN := Lib.hid hN
  have HT := Lib.hid ht
  have HL' := Lib.hid hL'
  have HLZ := Lib.hid (And.intro hl1 hl2)
  clear hx1 hx1' hx2 hb1 hb2 hb12 hv hN ht hL' hl1 hl2
  go_enter Try.func44, Try.ntmps44
  go_wp2_with (refine wpList_newV rfl (some 4) rfl 50 rfl #[.int .i64 0, .slice none 0 0] 2 (by kernel_rfl) ?_; refine Stop.on ?_)
  refine Stop.go ?_
  intro wi xi bi si
  try simp only [Act.put, List.setIfInBounds_toArray, List.set_cons_zero, List.set_cons_succ]
  have HBI := Lib.hid (HB12.out.trans (bi.mono HB12.out.size))
  have HVI := Lib.hid (HV.out.below bi)
  have HLT := Lib.hid (show w.heap.size < w1.heap.size ∧ w1.heap.size < w2.heap.size ∧ w2.heap.size < wi.heap.size from ⟨HLZ.out.1, HLZ.out.2, (Array.getElem?_eq_some_iff.1 xi).1⟩)
  have HO := Lib.hid (show ∀ w', Below wi.heap.size wi w' → w'.heap[w.heap.size]? = some (.cells #[.int .i64 B, .slice va N vc] 50 (0, 0)) ∧ w'.heap[w1.heap.size]? = some (.cells a.cells.toArray 37 (0, 0)) ∧ w'.heap[w2.heap.size]? = some (.cells #[.int .i64 0, .slice none 0 0] 50 (0, 0)) from fun w' hw' =>
    ⟨(hw'.block _ (by have := HLT.out; omega)).trans ((bi.block _ (by have := HLT.out; omega)).trans HX1.out), (hw'.block _ (by have := HLT.out; omega)).trans ((bi.block _ (by have := HLT.out; omega)).trans HX2.out), (hw'.block _ (by have := HLT.out; omega)).trans xi⟩)
  have hid : ∀ {w' : World}, w'.heap[w1.heap.size]? = some (.cells a.cells.toArray 37 (0, 0)) → w'.rangeAt w1.heap.size 0 (bvs a.id.1) ∧ w'.cell? ⟨w1.heap.size, 32, none⟩ = some (.string a.text) ∧ w'.cell? ⟨w1.heap.size, 33, none⟩ = some (.int .i64 a.min) := fun {w'} h1 => by
    have hl : (bvs a.id.1).length = 32 := by rw [bvs_length, a.id.2]
    refine ⟨fun j u hu => range_block h1 j u ?_, ?_, ?_⟩
    · unfold RefA.cells
      rw [List.getElem?_append_left (List.getElem?_eq_some_iff.1 hu).1]
      exact hu
    · rw [cell_of_row _ _ _ _ _ _ h1, List.getElem?_toArray]
      unfold RefA.cells
      rw [List.getElem?_append_right (by omega), hl]
      rfl
    · rw [cell_of_row _ _ _ _ _ _ h1, List.getElem?_toArray]
      unfold RefA.cells
      rw [List.getElem?_append_right (by omega), hl]
      rfl
  have HID := Lib.hid (show ∀ w', Below wi.heap.size wi w' → w'.rangeAt w1.heap.size 0 (bvs a.id.1) ∧ w'.cell? ⟨w1.heap.size, 32, none⟩ = some (.string a.text) ∧ w'.cell? ⟨w1.heap.size, 33, none⟩ = some (.int .i64 a.min) from fun w' hw' => hid (HO.out w' hw').2.1)
  clear xi bi si hid
  obtain ⟨hri, hct, hcm⟩ := HID.out wi (Below.refl _ _)
  have HRI := Lib.hid hri
  clear hri
  obtain ⟨t, hte⟩ : ∃ t, a.text = t := ⟨_, rfl⟩
  obtain ⟨d, hde⟩ : ∃ d, a.min = d := ⟨_, rfl⟩
  rw [hte] at hct hc
  rw [hde] at hcm hc
  have HTE := Lib.hid hte
  have HDE := Lib.hid hde
  clear hte hde
  go_wp2_with (with_reducible refine wpList_load_mid rfl 29 _ rfl w1.heap.size 0 rfl (bvs a.id.1) _ HRI.out Try.underlying29 rfl (sizeArr a.id) ?_; refine Stop.on ?_)
  refine Stop.go ?_
  try simp only [Act.put, List.setIfInBounds_toArray, List.set_cons_zero, List.set_cons_succ]
  refine wpList_buildV rfl (some 8) rfl 29 #[] rfl [] rfl (.agg (bvs z32.1).toArray) (zeroArrV _) ?_
  try simp only [Act.put, List.setIfInBounds_toArray, List.set_cons_zero, List.set_cons_succ]
  refine wpList_runI rfl (some 9) rfl (.bool (decide (a.id = z32))) _ (op_eql 29 (.tmp 7) (.tmp 8) 29 rfl rfl rfl guard_Arr (eql_Arr a.id z32 _)) ?_
  try simp only [Act.put, List.setIfInBounds_toArray, List.set_cons_zero, List.set_cons_succ]
  have HH0 := Lib.hid (show ∀ x : Int, x ≠ 0 → c = x → L = L' from fun x hx e => by rw [← HL'.out, if_neg (by rw [e]; exact hx)])
  by_cases hk0 : a.id = z32
  · obtain rfl : 1 = c := by rw [← hc, if_pos (.inl hk0)]
    obtain rfl := HH0.out 1 (by decide) rfl
    clear HL' HH0 hc
    rw [decide_eq_true hk0]
    go_wp2_with (refine wpList_loadV rfl (some 15) rfl 50 (.tmp 2) rfl _ rfl 50 #[.int .i64 B, .slice va N vc] (0, 0) _ (HO.out _ (Below.refl _ _)).1 Try.underlying50 rfl sizeS ?_; refine Stop.on ?_)
    refine Stop.go ?_
    try simp only [Act.put, List.setIfInBounds_toArray, List.set_cons_zero, List.set_cons_succ]
    refine wpList_putV rfl rfl 50 (.tmp 4) (.tmp 15) rfl _ #[.int .i64 B, .slice va N vc] rfl rfl 50 _ (HO.out _ (Below.refl _ _)).2.2 sizeS rfl oneS ?_
    intro wq xq cq sq
    try simp only [Act.put, List.setIfInBounds_toArray, List.set_cons_zero, List.set_cons_succ]
    have HXQ := Lib.hid xq
    have HBQ := Lib.hid ((HBI.out).trans (cq.below (B := w.heap.size) (fun k e => by rw [e]; have := HLT.out; omega) (HBI.out).size))
    have HLQ := Lib.hid (HV0.out.later (HVI.out.below ((Below.refl _ _))) cq (by have := HLT.out; omega))
    clear xq cq sq
    go_wp2_with fail
    exact bodyPost_ret (results_cell_tmp_row (g := w2.heap.size) rfl _ _ _ _ _ _ rfl HXQ.out Try.underlying50 rfl sizeS) rfl ⟨_, rfl, HLQ.out, HBQ.out⟩
  rw [decide_eq_false hk0]
  by_cases ht0 : t.size = 0
  · obtain rfl : 1 = c := by rw [← hc, if_pos (.inr ht0)]
    obtain rfl := HH0.out 1 (by decide) rfl
    clear HL' HH0 hc
    have htl : t.toList.isEmpty = true := ba_em ht0
    go_wp2_with (refine wpList_loadV rfl (some 15) rfl 50 (.tmp 2) rfl _ rfl 50 #[.int .i64 B, .slice va N vc] (0, 0) _ (HO.out _ (Below.refl _ _)).1 Try.underlying50 rfl sizeS ?_; refine Stop.on ?_)
    refine Stop.go ?_
    try simp only [Act.put, List.setIfInBounds_toArray, List.set_cons_zero, List.set_cons_succ]
    refine wpList_putV rfl rfl 50 (.tmp 4) (.tmp 15) rfl _ #[.int .i64 B, .slice va N vc] rfl rfl 50 _ (HO.out _ (Below.refl _ _)).2.2 sizeS rfl oneS ?_
    intro wq xq cq sq
    try simp only [Act.put, List.setIfInBounds_toArray, List.set_cons_zero, List.set_cons_succ]
    have HXQ := Lib.hid xq
    have HBQ := Lib.hid ((HBI.out).trans (cq.below (B := w.heap.size) (fun k e => by rw [e]; have := HLT.out; omega) (HBI.out).size))
    have HLQ := Lib.hid (HV0.out.later (HVI.out.below ((Below.refl _ _))) cq (by have := HLT.out; omega))
    clear xq cq sq
    go_wp2_with fail
    exact bodyPost_ret (results_cell_tmp_row (g := w2.heap.size) rfl _ _ _ _ _ _ rfl HXQ.out Try.underlying50 rfl sizeS) rfl ⟨_, rfl, HLQ.out, HBQ.out⟩
  have htl : t.toList.isEmpty = false := ba_ne ht0
  rw [if_neg (by rintro (h | h); exact hk0 h; exact ht0 h)] at hc
  by_cases ht1 : 65536 < t.size
  · obtain rfl : 5 = c := by rw [← hc, if_pos ht1]
    obtain rfl := HH0.out 5 (by decide) rfl
    have htI : (65536 : Int) < (t.size : Int) := by omega
    clear HL' HH0 hc
    go_wp2_with (refine wpList_loadV rfl (some 20) rfl 50 (.tmp 2) rfl _ rfl 50 #[.int .i64 B, .slice va N vc] (0, 0) _ (HO.out _ (Below.refl _ _)).1 Try.underlying50 rfl sizeS ?_; refine Stop.on ?_)
    refine Stop.go ?_
    try simp only [Act.put, List.setIfInBounds_toArray, List.set_cons_zero, List.set_cons_succ]
    refine wpList_putV rfl rfl 50 (.tmp 4) (.tmp 20) rfl _ #[.int .i64 B, .slice va N vc] rfl rfl 50 _ (HO.out _ (Below.refl _ _)).2.2 sizeS rfl oneS ?_
    intro wq xq cq sq
    try simp only [Act.put, List.setIfInBounds_toArray, List.set_cons_zero, List.set_cons_succ]
    have HXQ := Lib.hid xq
    have HBQ := Lib.hid ((HBI.out).trans (cq.below (B := w.heap.size) (fun k e => by rw [e]; have := HLT.out; omega) (HBI.out).size))
    have HLQ := Lib.hid (HV0.out.later (HVI.out.below ((Below.refl _ _))) cq (by have := HLT.out; omega))
    clear xq cq sq
    go_wp2_with fail
    exact bodyPost_ret (results_cell_tmp_row (g := w2.heap.size) rfl _ _ _ _ _ _ rfl HXQ.out Try.underlying50 rfl sizeS) rfl ⟨_, rfl, HLQ.out, HBQ.out⟩
  have htI : ¬ (65536 : Int) < (t.size : Int) := by omega
  rw [if_neg ht1] at hc
  by_cases hd0 : d < 0
  · obtain rfl : 2 = c := by rw [← hc, if_pos (.inl hd0)]
    obtain rfl := HH0.out 2 (by decide) rfl
    clear HL' HH0 hc
    go_wp2_with (refine wpList_loadV rfl (some 29) rfl 50 (.tmp 2) rfl _ rfl 50 #[.int .i64 B, .slice va N vc] (0, 0) _ (HO.out _ (Below.refl _ _)).1 Try.underlying50 rfl sizeS ?_; refine Stop.on ?_)
    refine Stop.go ?_
    try simp only [Act.put, List.setIfInBounds_toArray, List.set_cons_zero, List.set_cons_succ]
    refine wpList_putV rfl rfl 50 (.tmp 4) (.tmp 29) rfl _ #[.int .i64 B, .slice va N vc] rfl rfl 50 _ (HO.out _ (Below.refl _ _)).2.2 sizeS rfl oneS ?_
    intro wq xq cq sq
    try simp only [Act.put, List.setIfInBounds_toArray, List.set_cons_zero, List.set_cons_succ]
    have HXQ := Lib.hid xq
    have HBQ := Lib.hid ((HBI.out).trans (cq.below (B := w.heap.size) (fun k e => by rw [e]; have := HLT.out; omega) (HBI.out).size))
    have HLQ := Lib.hid (HV0.out.later (HVI.out.below ((Below.refl _ _))) cq (by have := HLT.out; omega))
    clear xq cq sq
    go_wp2_with fail
    exact bodyPost_ret (results_cell_tmp_row (g := w2.heap.size) rfl _ _ _ _ _ _ rfl HXQ.out Try.underlying50 rfl sizeS) rfl ⟨_, rfl, HLQ.out, HBQ.out⟩
  by_cases hd1 : 105190559 < d
  · obtain rfl : 2 = c := by rw [← hc, if_pos (.inr hd1)]
    obtain rfl := HH0.out 2 (by decide) rfl
    clear HL' HH0 hc
    go_wp2_with (refine wpList_loadV rfl (some 29) rfl 50 (.tmp 2) rfl _ rfl 50 #[.int .i64 B, .slice va N vc] (0, 0) _ (HO.out _ (Below.refl _ _)).1 Try.underlying50 rfl sizeS ?_; refine Stop.on ?_)
    refine Stop.go ?_
    try simp only [Act.put, List.setIfInBounds_toArray, List.set_cons_zero, List.set_cons_succ]
    refine wpList_putV rfl rfl 50 (.tmp 4) (.tmp 29) rfl _ #[.int .i64 B, .slice va N vc] rfl rfl 50 _ (HO.out _ (Below.refl _ _)).2.2 sizeS rfl oneS ?_
    intro wq xq cq sq
    try simp only [Act.put, List.setIfInBounds_toArray, List.set_cons_zero, List.set_cons_succ]
    have HXQ := Lib.hid xq
    have HBQ := Lib.hid ((HBI.out).trans (cq.below (B := w.heap.size) (fun k e => by rw [e]; have := HLT.out; omega) (HBI.out).size))
    have HLQ := Lib.hid (HV0.out.later (HVI.out.below ((Below.refl _ _))) cq (by have := HLT.out; omega))
    clear xq cq sq
    go_wp2_with fail
    exact bodyPost_ret (results_cell_tmp_row (g := w2.heap.size) rfl _ _ _ _ _ _ rfl HXQ.out Try.underlying50 rfl sizeS) rfl ⟨_, rfl, HLQ.out, HBQ.out⟩
  rw [if_neg (by rintro (h | h); exact hd0 h; exact hd1 h)] at hc
  obtain ⟨fx, hfx⟩ : ∃ fx, fIx L a.id = fx := ⟨_, rfl⟩
  rw [hfx] at hc
  have HFX := Lib.hid hfx
  have HCC := Lib.hid hc
  clear hfx hc
  go_wp2_with (refine wpList_loadV rfl (some 30) rfl 50 (.tmp 2) rfl _ rfl 50 #[.int .i64 B, .slice va N vc] (0, 0) _ (HO.out _ (Below.refl _ _)).1 Try.underlying50 rfl sizeS ?_; refine Stop.on ?_)
  refine Stop.go ?_
  try simp only [Act.put, List.setIfInBounds_toArray, List.set_cons_zero, List.set_cons_succ]
  go_wp2_with (with_reducible refine wpList_load_mid rfl 29 _ rfl w1.heap.size 0 rfl (bvs a.id.1) _ HRI.out Try.underlying29 rfl (sizeArr a.id) ?_; refine Stop.on ?_)
  refine Stop.go ?_
  try simp only [Act.put, List.setIfInBounds_toArray, List.set_cons_zero, List.set_cons_succ]
  go_wp2_with fail
  refine (rFind_any B _ L a.id HVI.out (by rw [HN.out]; omega)).mono ?_
  rintro e wf ⟨rfl, hbf⟩
  rw [HFX.out]
  have HBF := Lib.hid hbf
  have HBIF := Lib.hid (HBI.out.trans (hbf.mono HBI.out.size))
  clear hbf hct hcm
  by_cases hf0 : 0 ≤ fx
  · obtain rfl : 7 = c := by rw [← HCC.out, if_pos hf0]
    obtain rfl := HH0.out 7 (by decide) rfl
    clear HL' HH0 HCC
    go_wp2_with (refine wpList_loadV rfl (some 35) rfl 50 (.tmp 2) rfl _ rfl 50 #[.int .i64 B, .slice va N vc] (0, 0) _ (HO.out _ HBF.out).1 Try.underlying50 rfl sizeS ?_; refine Stop.on ?_)
    refine Stop.go ?_
    try simp only [Act.put, List.setIfInBounds_toArray, List.set_cons_zero, List.set_cons_succ]
    refine wpList_putV rfl rfl 50 (.tmp 4) (.tmp 35) rfl _ #[.int .i64 B, .slice va N vc] rfl rfl 50 _ (HO.out _ HBF.out).2.2 sizeS rfl oneS ?_
    intro wq xq cq sq
    try simp only [Act.put, List.setIfInBounds_toArray, List.set_cons_zero, List.set_cons_succ]
    have HXQ := Lib.hid xq
    have HBQ := Lib.hid ((HBIF.out).trans (cq.below (B := w.heap.size) (fun k e => by rw [e]; have := HLT.out; omega) (HBIF.out).size))
    have HLQ := Lib.hid (HV0.out.later (HVI.out.below (HBF.out)) cq (by have := HLT.out; omega))
    clear xq cq sq
    go_wp2_with fail
    exact bodyPost_ret (results_cell_tmp_row (g := w2.heap.size) rfl _ _ _ _ _ _ rfl HXQ.out Try.underlying50 rfl sizeS) rfl ⟨_, rfl, HLQ.out, HBQ.out⟩
  have hfI : ¬ 0 ≤ fx := hf0
  have HFO := Lib.hid (show ∀ w', Below wf.heap.size wf w' → w'.heap[w.heap.size]? = some (.cells #[.int .i64 B, .slice va N vc] 50 (0, 0)) ∧ w'.heap[w1.heap.size]? = some (.cells a.cells.toArray 37 (0, 0)) ∧ w'.heap[w2.heap.size]? = some (.cells #[.int .i64 0, .slice none 0 0] 50 (0, 0)) ∧ w'.cell? ⟨w1.heap.size, 32, none⟩ = some (.string t) ∧ w'.cell? ⟨w.heap.size, 0, none⟩ = some (.int .i64 B) ∧ w'.cell? ⟨w.heap.size, 1, none⟩ = some (.slice va N vc) from fun w' hw' => by
    have h := HO.out w' (HBF.out.trans (hw'.mono HBF.out.size))
    have h2 := HID.out w' (HBF.out.trans (hw'.mono HBF.out.size))
    rw [HTE.out] at h2
    refine ⟨h.1, h.2.1, h.2.2, h2.2.1, ?_, ?_⟩ <;> rw [cell_of_row _ _ _ _ _ _ h.1] <;> rfl)
  have HVF := Lib.hid (HVI.out.below HBF.out)
  have hrs : rSize L ≤ 65536 * N := by rw [← HN.out]; exact rSize_le HT.out
  obtain ⟨RZ, hRZ⟩ : ∃ RZ, rSize L = RZ := ⟨_, rfl⟩
  have HRZ := Lib.hid hRZ
  rw [hRZ] at hrs
  have hwr9 : IntKind.i64.wrap ((RZ : Int) + (t.size : Int)) = (RZ : Int) + (t.size : Int) := IntWalk.i64_in _ (by omega)
  have hcc := HCC.out
  rw [if_neg hf0, hRZ] at hcc
  have HCC2 := Lib.hid hcc
  clear hRZ hcc HCC
  go_wp2_with fail
  refine wp_region_noPanic ?_
  refine wp_region_H (Below wf.heap.size wf) (by kernel_rfl) ?_
  have hS0 : (Below wf.heap.size wf) wf.drew := (Below.refl _ _).drew
  obtain ⟨wd, hwd⟩ : ∃ wd, wf.drew = wd := ⟨_, rfl⟩
  rw [hwd] at hS0 ⊢
  clear hwd
  refine wpAnyH_takeI (i := 0) (v := .agg ([Value.int .i64 B, .slice va N vc]).toArray) rfl (by kernel_rfl) (by kernel_rfl) (by kernel_rfl) (fun _ _ _ h => h) (yieldsIf_load_mid rfl 50 (.tmp 2) rfl w.heap.size (0) rfl ([Value.int .i64 B, .slice va N vc]) _ (fun w' hw' => range_block (HFO.out w' hw').1) Try.underlying50 rfl sizeSL) hS0 ?_
  simp only [Act.put, List.setIfInBounds_toArray, List.set_cons_zero, List.set_cons_succ]
  refine wpAnyH_takeI (i := 2) (v := ?v1) rfl (by kernel_rfl) (by kernel_rfl) (by kernel_rfl) (fun _ _ _ h => h) (yieldsIf_run rfl (fun w' hw' => ?y1)) hS0 ?_
  case y1 => first | (go_simp; rfl) | (go_simp; done) | rfl
  simp only [Act.put, List.setIfInBounds_toArray, List.set_cons_zero, List.set_cons_succ]
  refine wpAnyH_takeI (i := 3) (v := .string t) rfl (by kernel_rfl) (by kernel_rfl) (by kernel_rfl) (fun _ _ _ h => h) (yieldsIf_run rfl (fun w' hw' => ?y2)) hS0 ?_
  case y2 => (have hc := (HFO.out w' hw').2.2.2.1; clear hw'; first | (go_simp; rfl) | (go_simp; done))
  simp only [Act.put, List.setIfInBounds_toArray, List.set_cons_zero, List.set_cons_succ]
  refine wpAnyH_takeI (i := 4) (v := ?v3) rfl (by kernel_rfl) (by kernel_rfl) (by kernel_rfl) (fun _ _ _ h => h) (yieldsIf_run rfl (fun w' hw' => ?y3)) hS0 ?_
  case y3 => first | (go_simp; rfl) | (go_simp; done) | rfl
  simp only [Act.put, List.setIfInBounds_toArray, List.set_cons_zero, List.set_cons_succ]
  refine wpAnyH_takeI (i := 6) (v := ?v4) rfl (by kernel_rfl) (by kernel_rfl) (by kernel_rfl) (fun _ _ _ h => h) (yieldsIf_run rfl (fun w' hw' => ?y4)) hS0 ?_
  case y4 => first | (go_simp; rfl) | (go_simp; done) | rfl
  simp only [Act.put, List.setIfInBounds_toArray, List.set_cons_zero, List.set_cons_succ]
  refine wpAnyH_takeI (i := 7) (v := .int .i64 B) rfl (by kernel_rfl) (by kernel_rfl) (by kernel_rfl) (fun _ _ _ h => h) (yieldsIf_run rfl (fun w' hw' => ?y5)) hS0 ?_
  case y5 => (have hc := (HFO.out w' hw').2.2.2.2.1; clear hw'; first | (go_simp; rfl) | (go_simp; done))
  simp only [Act.put, List.setIfInBounds_toArray, List.set_cons_zero, List.set_cons_succ]
  refine wpAnyH_do (i := 1) (by kernel_rfl) rfl rfl (fun K hK => ?_)
  go_simp
  go_at_call 39
  refine (rBytes_any B _ L (HVF.out.below hS0) (by rw [HN.out]; exact hl) HT.out).mono ?_
  rintro e w9 ⟨rfl, hbw9⟩
  rw [HRZ.out]
  have hSw9 := hS0.trans (hbw9.mono hS0.size)
  refine hK _ _ (hSw9) ?_
  clear hK K
  try simp only [Act.put, List.setIfInBounds_toArray, List.set_cons_zero, List.set_cons_succ]
  refine wpAnyH_takeI (i := 5) (v := .int .i64 ((RZ : Int) + (t.size : Int))) rfl (by kernel_rfl) (by kernel_rfl) (by kernel_rfl) (fun _ _ _ h => h) (yieldsIf_run rfl (fun w' hw' => ?y6)) hSw9 ?_
  case y6 => (have h99 := hwr9; clear hw'; first | (go_simp; rfl) | (go_simp; done))
  simp only [Act.put, List.setIfInBounds_toArray, List.set_cons_zero, List.set_cons_succ]
  refine wpAnyH_takeI (i := 8) (v := ?v7) rfl (by kernel_rfl) (by kernel_rfl) (by kernel_rfl) (fun _ _ _ h => h) (yieldsIf_run rfl (fun w' hw' => ?y7)) hSw9 ?_
  case y7 => first | (go_simp; rfl) | (go_simp; done) | rfl
  simp only [Act.put, List.setIfInBounds_toArray, List.set_cons_zero, List.set_cons_succ]
  refine wpAnyH_done (by kernel_rfl) ?_ _
  refine NoPanic.normal ?_
  have HB9 := Lib.hid hSw9
  have HLF := Lib.hid (show w2.heap.size < wf.heap.size from by have := HLT.out; have := HBF.out.size; omega)
  by_cases hgt : B < (RZ : Int) + (t.size : Int)
  · obtain rfl : 9 = c := by rw [← HCC2.out, if_pos hgt]
    obtain rfl := HH0.out 9 (by decide) rfl
    clear HL' HH0 HCC2
    go_wp2_with (refine wpList_loadV rfl (some 45) rfl 50 (.tmp 2) rfl _ rfl 50 #[.int .i64 B, .slice va N vc] (0, 0) _ (HO.out _ (HBF.out.trans (HB9.out.mono HBF.out.size))).1 Try.underlying50 rfl sizeS ?_; refine Stop.on ?_)
    refine Stop.go ?_
    try simp only [Act.put, List.setIfInBounds_toArray, List.set_cons_zero, List.set_cons_succ]
    refine wpList_putV rfl rfl 50 (.tmp 4) (.tmp 45) rfl _ #[.int .i64 B, .slice va N vc] rfl rfl 50 _ (HO.out _ (HBF.out.trans (HB9.out.mono HBF.out.size))).2.2 sizeS rfl oneS ?_
    intro wq xq cq sq
    try simp only [Act.put, List.setIfInBounds_toArray, List.set_cons_zero, List.set_cons_succ]
    have HXQ := Lib.hid xq
    have HBQ := Lib.hid (((HBIF.out.trans (HB9.out.mono HBIF.out.size))).trans (cq.below (B := w.heap.size) (fun k e => by rw [e]; have := HLT.out; omega) ((HBIF.out.trans (HB9.out.mono HBIF.out.size))).size))
    have HLQ := Lib.hid (HV0.out.later (HVI.out.below ((HBF.out.trans (HB9.out.mono HBF.out.size)))) cq (by have := HLT.out; omega))
    clear xq cq sq
    go_wp2_with fail
    exact bodyPost_ret (results_cell_tmp_row (g := w2.heap.size) rfl _ _ _ _ _ _ rfl HXQ.out Try.underlying50 rfl sizeS) rfl ⟨_, rfl, HLQ.out, HBQ.out⟩
  obtain rfl : 0 = c := by rw [← HCC2.out, if_neg hgt]
  obtain rfl : L ++ [a] = L' := by rw [← HL'.out, if_pos rfl]
  clear HL' HH0 HCC2
  have HAO := Lib.hid (show ∀ w', Below w9.heap.size w9 w' → w'.heap[w.heap.size]? = some (.cells #[.int .i64 B, .slice va N vc] 50 (0, 0)) ∧ w'.heap[w1.heap.size]? = some (.cells a.cells.toArray 37 (0, 0)) ∧ w'.heap[w2.heap.size]? = some (.cells #[.int .i64 0, .slice none 0 0] 50 (0, 0)) ∧ w'.cell? ⟨w.heap.size, 1, none⟩ = some (.slice va N vc) from fun w' hw' => ⟨(HFO.out w' (HB9.out.trans (hw'.mono HB9.out.size))).1, (HFO.out w' (HB9.out.trans (hw'.mono HB9.out.size))).2.1, (HFO.out w' (HB9.out.trans (hw'.mono HB9.out.size))).2.2.1, (HFO.out w' (HB9.out.trans (hw'.mono HB9.out.size))).2.2.2.2.2⟩)
  have HV9 := Lib.hid (HVF.out.below HB9.out)
  have HLA := Lib.hid (show w.heap.size < w2.heap.size ∧ w2.heap.size < w9.heap.size from ⟨by have := HLT.out; omega, by have := HLF.out; have := HB9.out.size; omega⟩)
  clear hS0 hbw9
  go_wp2_with fail
  refine cut_region (fun a0 a' w' => ∃ v46 v47 v48 v49 v50 v51 v53 al cl, a' = ((((((((a0.put (some 46) v46).put (some 47) v47).put (some 48) v48).put (some 49) v49).put (some 50) v50).put (some 51) v51).put (some 52) (.slice al (N + 1) cl)).put (some 53) v53) ∧ (∀ w'', Chg (fun k => k = w2.heap.size) w' w'' → ListAt refE w'' (.slice al (N + 1) cl) (L ++ [a])) ∧ w'.heap[w.heap.size]? = some (.cells #[.int .i64 B, .slice al (N + 1) cl] 50 (0, 0)) ∧ w'.heap[w2.heap.size]? = some (.cells #[.int .i64 0, .slice none 0 0] 50 (0, 0)) ∧ Below w.heap.size w w') ?_ ?_
  ·
    refine wp_region_noPanic ?_
    refine wp_region_F 8 (Below w9.heap.size w9) (by kernel_rfl) ?_
    have hS0 : (Below w9.heap.size w9) w9.drew := (Below.refl _ _).drew
    obtain ⟨wd, hwd⟩ : ∃ wd, w9.drew = wd := ⟨_, rfl⟩
    rw [hwd] at hS0 ⊢
    clear hwd
    refine wpAnyF_take (i := 1) (fin := 8) (v := ?v8) rfl (by kernel_rfl) (by kernel_rfl) (by kernel_rfl) (by kernel_rfl) (fun _ _ _ h => h) (yieldsIf_run rfl (fun w' hw' => ?y8)) hS0 ?_
    case y8 => first | (go_simp; rfl) | (go_simp; done) | rfl
    simp only [Act.put, List.setIfInBounds_toArray, List.set_cons_zero, List.set_cons_succ]
    refine wpAnyF_take (i := 2) (fin := 8) (v := .slice va N vc) rfl (by kernel_rfl) (by kernel_rfl) (by kernel_rfl) (by kernel_rfl) (fun _ _ _ h => h) (yieldsIf_run rfl (fun w' hw' => ?y9)) hS0 ?_
    case y9 => (have hc := (HAO.out w' hw').2.2.2; clear hw'; first | (go_simp; rfl) | (go_simp; done))
    simp only [Act.put, List.setIfInBounds_toArray, List.set_cons_zero, List.set_cons_succ]
    refine wpAnyF_take (i := 4) (fin := 8) (v := .agg (a.cells).toArray) rfl (by kernel_rfl) (by kernel_rfl) (by kernel_rfl) (by kernel_rfl) (fun _ _ _ h => h) (yieldsIf_load_mid rfl 37 (.tmp 3) rfl w1.heap.size (0) rfl (a.cells) _ (fun w' hw' => range_block (HAO.out w' hw').2.1) Try.underlying37 rfl sizeA) hS0 ?_
    simp only [Act.put, List.setIfInBounds_toArray, List.set_cons_zero, List.set_cons_succ]
    have hS := hS0
    clear hS0
    refine wpAnyF_two (i := 0) (j := 5) (by kernel_rfl) rfl rfl rfl rfl (fun K hK => ?_) (fun K hK => ?_)
    · go_simp
      obtain ⟨wdn, hwn⟩ : ∃ wdn, wd.alloc (.cells #[] 37) = wdn := ⟨_, rfl⟩
      have hb : Below wd.heap.size wd wdn := hwn ▸ (Below.refl _ _).alloc (Nat.le_refl _) _
      have hE : OwnL refE wdn w9.heap.size (Value.slice (some ⟨wd.heap.size, 0, none⟩) 0 0) [] := hwn ▸ ownL_zero refE hS.size
      rw [hwn]
      clear hwn
      replace hS := hS.trans (hb.mono hS.size)
      clear hb
      refine hK _ _ (fun _ => hS) ?_
      clear hK K
      try simp only [Act.put, List.setIfInBounds_toArray, List.set_cons_zero, List.set_cons_succ]
      refine wpAnyF_two (i := 3) (j := 5) (by kernel_rfl) rfl rfl rfl rfl (fun K hK => ?_) (fun K hK => ?_)
      · refine wp_appL refE (.tmp 46) (.tmp 48) rfl rfl hE rfl ((HV9.out).below hS) (n := 0) (m := N) rfl HN.out (by omega) hS.size ?_
        intro aA cA wdnn ho9 hgr hat
        have hb := hE.grown_below hgr hS.size
        rw [Nat.zero_add] at ho9 hat ⊢
        rw [List.nil_append] at ho9
        clear hE hgr hat
        have hE := ho9
        clear ho9
        replace hS := hS.trans hb
        clear hb
        refine hK _ _ (fun _ => hS) ?_
        clear hK K
        try simp only [Act.put, List.setIfInBounds_toArray, List.set_cons_zero, List.set_cons_succ]
        refine wpAnyF_do (i := 5) (by kernel_rfl) rfl rfl (fun K hK => ?_)
        refine wp_lit1 48 37 (.tmp 50) rfl (a.cells).toArray rfl Try.underlying48 sizeAA zOkA (by rw [(show a.cells.toArray.size = 34 by rw [List.size_toArray, RefA.cells_length])]; decide) (by rw [(show a.cells.toArray.size = 34 by rw [List.size_toArray, RefA.cells_length])]; decide) ?_
        obtain ⟨wdnnn, hwn⟩ : ∃ wdnnn, wdnn.alloc (.cells (a.cells).toArray 37) = wdnnn := ⟨_, rfl⟩
        have hb : Below wdnn.heap.size wdnn wdnnn := hwn ▸ (Below.refl _ _).alloc (Nat.le_refl _) _
        have hL : wdnnn.heap[wdnn.heap.size]? = some (.cells (a.cells).toArray 37 (0, 0)) := by rw [← hwn]; exact heap_alloc_new _ _
        rw [hwn]
        have hD0 : ∀ x, (Value.slice aA N cA).ownBlock = some x → wdnn.heap.size ≠ x := fun x hx e => by have h1 := (hE.lt hx).2; omega
        replace hE := hE.below hb
        obtain ⟨b10, hb10⟩ : ∃ b10, wdnn.heap.size = b10 := ⟨_, rfl⟩
        rw [hb10] at hL ⊢
        have hD : ∀ x, (Value.slice aA N cA).ownBlock = some x → b10 ≠ x := fun x hx => hb10 ▸ hD0 x hx
        clear hD0
        replace hS := hS.trans (hb.mono hS.size)
        clear hb hwn hb10
        refine hK _ _ (fun _ => hS) ?_
        clear hK K
        try simp only [Act.put, List.setIfInBounds_toArray, List.set_cons_zero, List.set_cons_succ]
        refine wpAnyF_do (i := 6) (by kernel_rfl) rfl rfl (fun K hK => ?_)
        refine wp_appL refE (.tmp 49) (.tmp 51) rfl rfl hE rfl (list_block1 refE hL) (n := N) (m := 1) HN.out rfl (by omega) hS.size ?_
        intro aB cB wdnnnn ho9 hgr hat
        have hb := hE.grown_below hgr hS.size
        clear hE hgr hat
        have hE := ho9
        clear ho9
        replace hS := hS.trans hb
        clear hb
        clear hL hD
        refine hK _ _ (fun _ => hS) ?_
        clear hK K
        try simp only [Act.put, List.setIfInBounds_toArray, List.set_cons_zero, List.set_cons_succ]
        refine wpAnyF_take (i := 7) (fin := 8) (v := ?v10) rfl (by kernel_rfl) (by kernel_rfl) (by kernel_rfl) (by kernel_rfl) (fun _ _ _ h => h) (yieldsIf_run rfl (fun w' hw' => ?y10)) hS ?_
        case y10 => first | (go_simp; rfl) | (go_simp; done) | rfl
        simp only [Act.put, List.setIfInBounds_toArray, List.set_cons_zero, List.set_cons_succ]
        obtain ⟨hq1, _, hq3, hq4⟩ := HAO.out _ hS
        have hfz := frozen_of_row _ w.heap.size 1 _ _ hq1
        refine wpAnyF_do (i := 8) (by kernel_rfl) rfl rfl (fun K hK => ?_)
        go_simp
        refine hK _ _ (fun h => absurd rfl h) ?_
        clear hK K
        refine wpAnyF_done (by kernel_rfl) ?_ _
        refine NoPanic.normal ?_
        have hset := heap_setCell_same wdnnnn w.heap.size 1 _ _ (.slice aB (N + 1) cB) hq1
        have hcs : Chg (fun k => k = w.heap.size) wdnnnn (wdnnnn.setCell ⟨w.heap.size, 1, none⟩ (.slice aB (N + 1) cB)) := Chg.setCell wdnnnn (a := ⟨w.heap.size, 1, none⟩) _ rfl
        have hown := hE.chg hcs (fun k hk e => by have h1 := (hE.lt hk).1; have h2 := HLA.out; omega)
        refine ⟨rfl, _, _, _, _, _, _, _, aB, cB, (by first | rfl | (simp only [Act.put, List.setIfInBounds_toArray, List.set_cons_zero, List.set_cons_succ]; rfl)), fun w'' hw'' => (hown.chg hw'' (fun k hk e => by have h1 := (hE.lt hk).1; have h2 := HLA.out; omega)).at_, hset, (hcs.block _ (Array.getElem?_eq_some_iff.1 hq3).1 (fun e => by have h2 := HLA.out; omega)).trans hq3, ?_⟩
        exact (HBIF.out.trans (HB9.out.mono HBIF.out.size)).trans ((hS.mono (HBIF.out.trans (HB9.out.mono HBIF.out.size)).size).setCell (Nat.le_refl _) _)
      · refine wp_lit1 48 37 (.tmp 50) rfl (a.cells).toArray rfl Try.underlying48 sizeAA zOkA (by rw [(show a.cells.toArray.size = 34 by rw [List.size_toArray, RefA.cells_length])]; decide) (by rw [(show a.cells.toArray.size = 34 by rw [List.size_toArray, RefA.cells_length])]; decide) ?_
        obtain ⟨wdnn, hwn⟩ : ∃ wdnn, wdn.alloc (.cells (a.cells).toArray 37) = wdnn := ⟨_, rfl⟩
        have hb : Below wdn.heap.size wdn wdnn := hwn ▸ (Below.refl _ _).alloc (Nat.le_refl _) _
        have hL : wdnn.heap[wdn.heap.size]? = some (.cells (a.cells).toArray 37 (0, 0)) := by rw [← hwn]; exact heap_alloc_new _ _
        rw [hwn]
        have hD0 : ∀ x, (Value.slice (some ⟨wd.heap.size, 0, none⟩) 0 0).ownBlock = some x → wdn.heap.size ≠ x := fun x hx e => by have h1 := (hE.lt hx).2; omega
        replace hE := hE.below hb
        obtain ⟨b10, hb10⟩ : ∃ b10, wdn.heap.size = b10 := ⟨_, rfl⟩
        rw [hb10] at hL ⊢
        have hD : ∀ x, (Value.slice (some ⟨wd.heap.size, 0, none⟩) 0 0).ownBlock = some x → b10 ≠ x := fun x hx => hb10 ▸ hD0 x hx
        clear hD0
        replace hS := hS.trans (hb.mono hS.size)
        clear hb hwn hb10
        refine hK _ _ (fun _ => hS) ?_
        clear hK K
        try simp only [Act.put, List.setIfInBounds_toArray, List.set_cons_zero, List.set_cons_succ]
        refine wpAnyF_do (i := 3) (by kernel_rfl) rfl rfl (fun K hK => ?_)
        refine wp_appL refE (.tmp 46) (.tmp 48) rfl rfl hE rfl ((HV9.out).below hS) (n := 0) (m := N) rfl HN.out (by omega) hS.size ?_
        intro aA cA wdnnn ho9 hgr hat
        have hb := hE.grown_below hgr hS.size
        rw [Nat.zero_add] at ho9 hat ⊢
        rw [List.nil_append] at ho9
        have hlb := (Array.getElem?_eq_some_iff.1 hL).1
        replace hL := (hgr.block b10 hlb (fun e => hD _ e.symm rfl)).trans hL
        replace hD : ∀ x, (Value.slice aA N cA).ownBlock = some x → b10 ≠ x := fun x hx e => (hat x hx).elim (fun h => hD x h e) (fun h => by omega)
        clear hlb
        clear hE hgr hat
        have hE := ho9
        clear ho9
        replace hS := hS.trans hb
        clear hb
        refine hK _ _ (fun _ => hS) ?_
        clear hK K
        try simp only [Act.put, List.setIfInBounds_toArray, List.set_cons_zero, List.set_cons_succ]
        refine wpAnyF_do (i := 6) (by kernel_rfl) rfl rfl (fun K hK => ?_)
        refine wp_appL refE (.tmp 49) (.tmp 51) rfl rfl hE rfl (list_block1 refE hL) (n := N) (m := 1) HN.out rfl (by omega) hS.size ?_
        intro aB cB wdnnnn ho9 hgr hat
        have hb := hE.grown_below hgr hS.size
        clear hE hgr hat
        have hE := ho9
        clear ho9
        replace hS := hS.trans hb
        clear hb
        clear hL hD
        refine hK _ _ (fun _ => hS) ?_
        clear hK K
        try simp only [Act.put, List.setIfInBounds_toArray, List.set_cons_zero, List.set_cons_succ]
        refine wpAnyF_take (i := 7) (fin := 8) (v := ?v11) rfl (by kernel_rfl) (by kernel_rfl) (by kernel_rfl) (by kernel_rfl) (fun _ _ _ h => h) (yieldsIf_run rfl (fun w' hw' => ?y11)) hS ?_
        case y11 => first | (go_simp; rfl) | (go_simp; done) | rfl
        simp only [Act.put, List.setIfInBounds_toArray, List.set_cons_zero, List.set_cons_succ]
        obtain ⟨hq1, _, hq3, hq4⟩ := HAO.out _ hS
        have hfz := frozen_of_row _ w.heap.size 1 _ _ hq1
        refine wpAnyF_do (i := 8) (by kernel_rfl) rfl rfl (fun K hK => ?_)
        go_simp
        refine hK _ _ (fun h => absurd rfl h) ?_
        clear hK K
        refine wpAnyF_done (by kernel_rfl) ?_ _
        refine NoPanic.normal ?_
        have hset := heap_setCell_same wdnnnn w.heap.size 1 _ _ (.slice aB (N + 1) cB) hq1
        have hcs : Chg (fun k => k = w.heap.size) wdnnnn (wdnnnn.setCell ⟨w.heap.size, 1, none⟩ (.slice aB (N + 1) cB)) := Chg.setCell wdnnnn (a := ⟨w.heap.size, 1, none⟩) _ rfl
        have hown := hE.chg hcs (fun k hk e => by have h1 := (hE.lt hk).1; have h2 := HLA.out; omega)
        refine ⟨rfl, _, _, _, _, _, _, _, aB, cB, (by first | rfl | (simp only [Act.put, List.setIfInBounds_toArray, List.set_cons_zero, List.set_cons_succ]; rfl)), fun w'' hw'' => (hown.chg hw'' (fun k hk e => by have h1 := (hE.lt hk).1; have h2 := HLA.out; omega)).at_, hset, (hcs.block _ (Array.getElem?_eq_some_iff.1 hq3).1 (fun e => by have h2 := HLA.out; omega)).trans hq3, ?_⟩
        exact (HBIF.out.trans (HB9.out.mono HBIF.out.size)).trans ((hS.mono (HBIF.out.trans (HB9.out.mono HBIF.out.size)).size).setCell (Nat.le_refl _) _)
    · refine wp_lit1 48 37 (.tmp 50) rfl (a.cells).toArray rfl Try.underlying48 sizeAA zOkA (by rw [(show a.cells.toArray.size = 34 by rw [List.size_toArray, RefA.cells_length])]; decide) (by rw [(show a.cells.toArray.size = 34 by rw [List.size_toArray, RefA.cells_length])]; decide) ?_
      obtain ⟨wdn, hwn⟩ : ∃ wdn, wd.alloc (.cells (a.cells).toArray 37) = wdn := ⟨_, rfl⟩
      have hb : Below wd.heap.size wd wdn := hwn ▸ (Below.refl _ _).alloc (Nat.le_refl _) _
      have hL : wdn.heap[wd.heap.size]? = some (.cells (a.cells).toArray 37 (0, 0)) := by rw [← hwn]; exact heap_alloc_new _ _
      rw [hwn]
      obtain ⟨b10, hb10⟩ : ∃ b10, wd.heap.size = b10 := ⟨_, rfl⟩
      rw [hb10] at hL ⊢
      replace hS := hS.trans (hb.mono hS.size)
      clear hb hwn hb10
      refine hK _ _ (fun _ => hS) ?_
      clear hK K
      try simp only [Act.put, List.setIfInBounds_toArray, List.set_cons_zero, List.set_cons_succ]
      refine wpAnyF_do (i := 0) (by kernel_rfl) rfl rfl (fun K hK => ?_)
      go_simp
      obtain ⟨wdnn, hwn⟩ : ∃ wdnn, wdn.alloc (.cells #[] 37) = wdnn := ⟨_, rfl⟩
      have hb : Below wdn.heap.size wdn wdnn := hwn ▸ (Below.refl _ _).alloc (Nat.le_refl _) _
      have hE : OwnL refE wdnn w9.heap.size (Value.slice (some ⟨wdn.heap.size, 0, none⟩) 0 0) [] := hwn ▸ ownL_zero refE hS.size
      rw [hwn]
      clear hwn
      have hD : ∀ x, (Value.slice (some ⟨wdn.heap.size, 0, none⟩) 0 0).ownBlock = some x → b10 ≠ x := fun x hx e => by have h1 := (Array.getElem?_eq_some_iff.1 hL).1; have e2 : wdn.heap.size = x := Option.some.inj hx; omega
      replace hL := (hb.block _ (Array.getElem?_eq_some_iff.1 hL).1).trans hL
      replace hS := hS.trans (hb.mono hS.size)
      clear hb
      refine hK _ _ (fun _ => hS) ?_
      clear hK K
      try simp only [Act.put, List.setIfInBounds_toArray, List.set_cons_zero, List.set_cons_succ]
      refine wpAnyF_do (i := 3) (by kernel_rfl) rfl rfl (fun K hK => ?_)
      refine wp_appL refE (.tmp 46) (.tmp 48) rfl rfl hE rfl ((HV9.out).below hS) (n := 0) (m := N) rfl HN.out (by omega) hS.size ?_
      intro aA cA wdnnn ho9 hgr hat
      have hb := hE.grown_below hgr hS.size
      rw [Nat.zero_add] at ho9 hat ⊢
      rw [List.nil_append] at ho9
      have hlb := (Array.getElem?_eq_some_iff.1 hL).1
      replace hL := (hgr.block b10 hlb (fun e => hD _ e.symm rfl)).trans hL
      replace hD : ∀ x, (Value.slice aA N cA).ownBlock = some x → b10 ≠ x := fun x hx e => (hat x hx).elim (fun h => hD x h e) (fun h => by omega)
      clear hlb
      clear hE hgr hat
      have hE := ho9
      clear ho9
      replace hS := hS.trans hb
      clear hb
      refine hK _ _ (fun _ => hS) ?_
      clear hK K
      try simp only [Act.put, List.setIfInBounds_toArray, List.set_cons_zero, List.set_cons_succ]
      refine wpAnyF_do (i := 6) (by kernel_rfl) rfl rfl (fun K hK => ?_)
      refine wp_appL refE (.tmp 49) (.tmp 51) rfl rfl hE rfl (list_block1 refE hL) (n := N) (m := 1) HN.out rfl (by omega) hS.size ?_
      intro aB cB wdnnnn ho9 hgr hat
      have hb := hE.grown_below hgr hS.size
      clear hE hgr hat
      have hE := ho9
      clear ho9
      replace hS := hS.trans hb
      clear hb
      clear hL hD
      refine hK _ _ (fun _ => hS) ?_
      clear hK K
      try simp only [Act.put, List.setIfInBounds_toArray, List.set_cons_zero, List.set_cons_succ]
      refine wpAnyF_take (i := 7) (fin := 8) (v := ?v12) rfl (by kernel_rfl) (by kernel_rfl) (by kernel_rfl) (by kernel_rfl) (fun _ _ _ h => h) (yieldsIf_run rfl (fun w' hw' => ?y12)) hS ?_
      case y12 => first | (go_simp; rfl) | (go_simp; done) | rfl
      simp only [Act.put, List.setIfInBounds_toArray, List.set_cons_zero, List.set_cons_succ]
      obtain ⟨hq1, _, hq3, hq4⟩ := HAO.out _ hS
      have hfz := frozen_of_row _ w.heap.size 1 _ _ hq1
      refine wpAnyF_do (i := 8) (by kernel_rfl) rfl rfl (fun K hK => ?_)
      go_simp
      refine hK _ _ (fun h => absurd rfl h) ?_
      clear hK K
      refine wpAnyF_done (by kernel_rfl) ?_ _
      refine NoPanic.normal ?_
      have hset := heap_setCell_same wdnnnn w.heap.size 1 _ _ (.slice aB (N + 1) cB) hq1
      have hcs : Chg (fun k => k = w.heap.size) wdnnnn (wdnnnn.setCell ⟨w.heap.size, 1, none⟩ (.slice aB (N + 1) cB)) := Chg.setCell wdnnnn (a := ⟨w.heap.size, 1, none⟩) _ rfl
      have hown := hE.chg hcs (fun k hk e => by have h1 := (hE.lt hk).1; have h2 := HLA.out; omega)
      refine ⟨rfl, _, _, _, _, _, _, _, aB, cB, (by first | rfl | (simp only [Act.put, List.setIfInBounds_toArray, List.set_cons_zero, List.set_cons_succ]; rfl)), fun w'' hw'' => (hown.chg hw'' (fun k hk e => by have h1 := (hE.lt hk).1; have h2 := HLA.out; omega)).at_, hset, (hcs.block _ (Array.getElem?_eq_some_iff.1 hq3).1 (fun e => by have h2 := HLA.out; omega)).trans hq3, ?_⟩
      exact (HBIF.out.trans (HB9.out.mono HBIF.out.size)).trans ((hS.mono (HBIF.out.trans (HB9.out.mono HBIF.out.size)).size).setCell (Nat.le_refl _) _)

  rintro a' wz ⟨v46, v47, v48, v49, v50, v51, v53, al, cl, rfl, hlz, hsz, h4z, hbz⟩
  simp only [Act.put, List.setIfInBounds_toArray, List.set_cons_zero, List.set_cons_succ]
  have HLZ2 := Lib.hid hlz
  have HSZ2 := Lib.hid hsz
  have H4Z := Lib.hid h4z
  have HBZ := Lib.hid hbz
  clear hlz hsz h4z hbz
  go_wp2_with (refine wpList_loadV rfl (some 54) rfl 50 (.tmp 2) rfl _ rfl 50 #[.int .i64 B, .slice al (N + 1) cl] (0, 0) _ HSZ2.out Try.underlying50 rfl sizeS ?_; refine Stop.on ?_)
  refine Stop.go ?_
  try simp only [Act.put, List.setIfInBounds_toArray, List.set_cons_zero, List.set_cons_succ]
  refine wpList_putV rfl rfl 50 (.tmp 4) (.tmp 54) rfl _ #[.int .i64 B, .slice al (N + 1) cl] rfl rfl 50 _ H4Z.out sizeS rfl oneS ?_
  intro wq xq cq sq
  try simp only [Act.put, List.setIfInBounds_toArray, List.set_cons_zero, List.set_cons_succ]
  have HXQ := Lib.hid xq
  have HBQ := Lib.hid (HBZ.out.trans (cq.below (B := w.heap.size) (fun k e => by rw [e]; have := HLA.out; omega) HBZ.out.size))
  have HLQ := Lib.hid (HLZ2.out wq cq)
  clear xq cq sq
  go_wp2_with fail
  exact bodyPost_ret (results_cell_tmp_row (g := w2.heap.size) rfl _ _ _ _ _ _ rfl HXQ.out Try.underlying50 rfl sizeS) rfl ⟨_, rfl, HLQ.out, HBQ.out⟩
end Go.Proofs.Ytnmdgjodbikndaa
