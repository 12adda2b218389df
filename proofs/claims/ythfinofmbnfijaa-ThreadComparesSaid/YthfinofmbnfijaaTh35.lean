/- ThreadCompares. -/
import Derived.Test.YthfinofmbnfijaaTh19
namespace Go.Proofs.Ythfinofmbnfijaa
open Go.Shelf Go.RowKit Go.Lib Go.Sort
set_option linter.unusedVariables false
set_option linter.unusedSimpArgs false

theorem with_goalS {α β γ δ ε : Type} (p : ε → α → β → γ → δ → Prop) (s : ε) (n : α) (l : β) (a : γ) (w : δ) (h : ∀ G : ε → α → β → γ → δ → Prop, G = p → G s n l a w) : p s n l a w := h p rfl
section
variable {P : Program} {md : Region.Mode} {ops : Array Oper} {Q : Exit → Act → World → Prop}
theorem wpAnyH_mono {S S' : World → Prop} (h : ∀ w, S' w → S w) : ∀ (fuel : Nat) (listed : Array Bool) (a : Act) (w : World), wpAnyH P md ops Q S' fuel listed a w → wpAnyH P md ops Q S fuel listed a w
  | 0, _, _, _, k => k
  | fuel + 1, listed, a, w, k => ⟨k.1, fun i hi => wpOp_mono (fun a' w' h' => ⟨h _ h'.1, wpAnyH_mono h fuel _ a' w' h'.2⟩) (k.2 i hi)⟩
theorem wpAnyH_four {S : World → Prop} {i j l m : Nat} {oi oj ol om : Oper} {fuel : Nat} {listed : Array Bool} {a : Act} {w : World} (hr : Region.ready md ops listed = [i, j, l, m]) (hi' : ops.toList[i]? = some oi) (hj' : ops.toList[j]? = some oj) (hl' : ops.toList[l]? = some ol) (hm' : ops.toList[m]? = some om) (hg : oi.guard = none) (hg2 : oj.guard = none) (hg3 : ol.guard = none) (hg4 : om.guard = none)
    (h1 : ∀ K : Act → World → Prop, (∀ a' w', S w' → wpAnyH P md ops Q S fuel (listed.setIfInBounds i true) a' w' → K a' w') → oi.wp P a w K Q)
    (h2 : ∀ K : Act → World → Prop, (∀ a' w', S w' → wpAnyH P md ops Q S fuel (listed.setIfInBounds j true) a' w' → K a' w') → oj.wp P a w K Q)
    (h3 : ∀ K : Act → World → Prop, (∀ a' w', S w' → wpAnyH P md ops Q S fuel (listed.setIfInBounds l true) a' w' → K a' w') → ol.wp P a w K Q)
    (h4 : ∀ K : Act → World → Prop, (∀ a' w', S w' → wpAnyH P md ops Q S fuel (listed.setIfInBounds m true) a' w' → K a' w') → om.wp P a w K Q) :
    wpAnyH P md ops Q S (fuel + 1) listed a w :=
  wpAnyH_some hr (by simp) fun x hx => by
    rcases List.mem_cons.1 hx with rfl | hx
    · exact ⟨oi, hi', hg, h1⟩
    · rcases List.mem_cons.1 hx with rfl | hx
      · exact ⟨oj, hj', hg2, h2⟩
      · rcases List.mem_cons.1 hx with rfl | hx
        · exact ⟨ol, hl', hg3, h3⟩
        · obtain rfl := List.mem_singleton.1 hx
          exact ⟨om, hm', hg4, h4⟩
end
theorem range_block' {F : Nat → Prop} {W w' : World} {g : Nat} {cs : List Value} (h : W.rangeAt g 0 cs) (hc : Chg F W w') (hg : g < W.heap.size) (hf : ¬ F g) : w'.rangeAt g 0 cs := fun j u hu => by
  have h1 := h j u hu
  rw [← h1]
  unfold World.cell?
  simp only [hc.block g hg hf]
theorem OwnL.addr1 {P : Program} {sT T : TypeId} {α : Type} {E : ElemTy P sT T α} {w : World} {B c : Nat} {a : Option Addr} {x : α} (h : OwnL E w B (.slice a 1 c) [x]) : ∃ g, a = some ⟨g, 0, none⟩ := by
  have hh : w.ownsRow B T E.k (.slice a 1 c) [x].length ([x].flatMap E.enc) := h
  rcases hh.2 with ⟨e, h0⟩ | ⟨g, cap, cur, e, _⟩
  · cases h0
  · cases e
    exact ⟨g, rfl⟩
theorem cb_rng : ∀ (a b : List UInt8), -1 ≤ compareBytes a b ∧ compareBytes a b ≤ 1
  | [], [] => by decide
  | [], _ :: _ => by unfold compareBytes; decide
  | _ :: _, [] => by unfold compareBytes; decide
  | x :: a, y :: b => by
    unfold compareBytes
    split
    · decide
    · split
      · decide
      · exact cb_rng a b
theorem cmpT_rng (a b : Tw) : -1 ≤ cmpT a b ∧ cmpT a b ≤ 1 := by
  unfold cmpT
  split
  · exact cb_rng _ _
  · split <;> decide
theorem rowsT_one' (R : RawV) : rowsT [R] = [rawTw R] := rfl
theorem row_of_one {M : List RowV} {A : RawV} (h : M.map RowV.tw = rowsT [A]) : ∃ r, M = [r] ∧ r.tw = rawTw A := by
  rw [rowsT_one'] at h
  cases M with
  | nil => cases h
  | cons r M =>
    cases M with
    | nil => exact ⟨r, rfl, by simpa using h⟩
    | cons s M => simp at h
theorem lit_raw {W Wn : World} {b : Nat} {A : RawV} (hL : Wn.heap[b]? = some (.cells (rawE.enc A).toArray 51 (0, 0))) (hA : ListAt u8E Wn A.rv A.refs) : RawsAt Wn (.slice (some ⟨b, 0, none⟩) 1 1) [A] :=
  ⟨list_block1 rawE hL, fun R hR => by rw [List.mem_singleton.1 hR]; exact hA⟩
theorem sizeRawE (R : RawV) : (Try.prog.info? 51).map (·.size) = some (rawE.enc R).toArray.size := sizeRaw R
theorem sizeRaw3 {R : RawV} : (rawE.enc R).toArray.size = 3 := rfl
set_option maxRecDepth 100000 in
set_option maxHeartbeats 2000000 in
theorem Compares_law {w : World} (A B : RawV) (hA : ListAt u8E w A.rv A.refs) (hB : ListAt u8E w B.rv B.refs) : Calls Try.prog 8 #[.agg A.cells.toArray, .agg B.cells.toArray] w fun e w' => e = .returned (.bool true) ∧ Below w.heap.size w w' := by
  obtain ⟨w1, hw1⟩ : ∃ w1, w.alloc (.cells A.cells.toArray 51) = w1 := ⟨_, rfl⟩
  obtain ⟨w2, hw2⟩ : ∃ w2, w1.alloc (.cells B.cells.toArray 51) = w2 := ⟨_, rfl⟩
  have hb1 : Below w.heap.size w w1 := hw1 ▸ (Below.refl _ w).alloc (Nat.le_refl _) _
  have hx1 : w1.heap[w.heap.size]? = some (.cells A.cells.toArray 51 (0, 0)) := by rw [← hw1]; exact heap_alloc_new _ _
  have hb2 : Below w1.heap.size w1 w2 := hw2 ▸ (Below.refl _ w1).alloc (Nat.le_refl _) _
  have hx2 : w2.heap[w1.heap.size]? = some (.cells B.cells.toArray 51 (0, 0)) := by rw [← hw2]; exact heap_alloc_new _ _
  have hx1' := (hb2.block _ (Array.getElem?_eq_some_iff.1 hx1).1).trans hx1
  obtain ⟨B0, hB0⟩ : ∃ B0, w.heap.size = B0 := ⟨_, rfl⟩
  obtain ⟨B1, hB1⟩ : ∃ B1, w1.heap.size = B1 := ⟨_, rfl⟩
  rw [hB0] at hx1'
  rw [hB1] at hx2
  have HBL := Lib.hid (hb1.trans (hb2.mono hb1.size))
  have HE0 := Lib.hid hB0
  have HE1 := Lib.hid hB1
  have HX1 := Lib.hid hx1'
  have HX2 := Lib.hid hx2
  have HA := Lib.hid ((hA.below hb1).below hb2)
  have HB := Lib.hid ((hB.below hb1).below hb2)
  clear hA hB hb1 hx1 hb2 hx2 hx1' hB0 hB1
  go_enter Try.func8, Try.ntmps8
  go_wp2_with fail
  rw [HE0.out, HE1.out]
  clear hw1 hw2
  refine wp_region_noPanic ?_
  refine wp_region_H (Chg (fun _ => False) w2) (by kernel_rfl) ?_
  have hS0 : (Chg (fun _ => False) w2) w2.drew := Chg.of_below (Below.refl _ _).drew
  have hd0 := (Below.refl w2.heap.size w2).drew
  refine wpAnyH_takeI (i := 0) (v := .agg (A.cells).toArray) rfl (by kernel_rfl) (by kernel_rfl) (by kernel_rfl) (fun _ _ _ h => h) (yieldsIf_load_mid rfl 51 (.tmp 2) rfl B0 0 rfl (A.cells) _ (fun w' hw' => range_block ((Chg.block hw' B0 (Array.getElem?_eq_some_iff.1 HX1.out).1 (fun h => h)).trans HX1.out)) Try.underlying51 rfl (by rw [show (A.cells).length = 3 from rfl]; kernel_rfl)) hS0 ?_
  simp only [Act.put, List.setIfInBounds_toArray, List.set_cons_zero, List.set_cons_succ]
  refine wpAnyH_takeI (i := 5) (v := .agg (B.cells).toArray) rfl (by kernel_rfl) (by kernel_rfl) (by kernel_rfl) (fun _ _ _ h => h) (yieldsIf_load_mid rfl 51 (.tmp 3) rfl B1 0 rfl (B.cells) _ (fun w' hw' => range_block ((Chg.block hw' B1 (Array.getElem?_eq_some_iff.1 HX2.out).1 (fun h => h)).trans HX2.out)) Try.underlying51 rfl (by rw [show (B.cells).length = 3 from rfl]; kernel_rfl)) hS0 ?_
  simp only [Act.put, List.setIfInBounds_toArray, List.set_cons_zero, List.set_cons_succ]
  have HAd := Lib.hid (HA.out.below hd0)
  have HBd := Lib.hid (HB.out.below hd0)
  have HLd := Lib.hid (HBL.out.trans (hd0.mono HBL.out.size))
  obtain ⟨wd, hwd⟩ : ∃ wd, w2.drew = wd := ⟨_, rfl⟩
  rw [hwd] at hd0 HAd HBd HLd hS0 ⊢
  clear hwd
  refine wpAnyH_mono (S' := Chg (fun _ => False) wd) (fun x hx => (Chg.of_below hd0).trans hx (fun j hj => hj.elim)) _ _ _ _ ?_
  clear hS0 hd0 HA HB HBL HX1 HX2
  refine with_goalS (wpAnyH Try.prog .any _ _) _ _ _ _ _ ?_
  intro G hG
  have st_1_2_6_7_10_11 : ∀ (W : World) (v8 : Value) (x9 : Value) (x10 : Value) (r : RowV) (v13 : Value) (x14 : Value) (x15 : Value) (q : RowV) (b5 : Nat) (b6 : Nat), ListAt u8E W A.rv A.refs → ListAt u8E W B.rv B.refs → Below w.heap.size w W → r.tw = rawTw A → q.tw = rawTw B → W.heap[b5]? = some (.cells Try.zeroCells43 43 (0, 0)) ∧ w.heap.size ≤ b5 → W.heap[b6]? = some (.cells Try.zeroCells43 43 (0, 0)) ∧ w.heap.size ≤ b6 → b5 ≠ b6 → G (Chg (fun k => k = b5 ∨ k = b6) W) 2 #[true, true, true, true, true, true, true, true, true, true, true, true, false, false] ⟨#[.agg A.cells.toArray, .agg B.cells.toArray, .pointer (some ⟨B0, 0, none⟩), .pointer (some ⟨B1, 0, none⟩), .bool false, .pointer (some ⟨b5, 0, none⟩), .pointer (some ⟨b6, 0, none⟩), .agg A.cells.toArray, v8, x9, x10, .agg r.cells.toArray, .agg B.cells.toArray, v13, x14, x15, .agg q.cells.toArray, undef, undef, undef, undef, undef, undef, undef, undef, undef, undef, undef, undef, undef, undef, undef, undef, undef, undef, undef, undef, undef, undef, undef, undef, undef, undef], []⟩ W := by
    intro W v8 x9 x10 r v13 x14 x15 q b5 b6 hA hB hW hr hq h5 h6 hne
    rw [hG]
    have hS9 : Chg (fun k => k = b5 ∨ k = b6) W W := Chg.refl _ _
    refine wpAnyH_do (i := 12) (by kernel_rfl) rfl rfl (fun K hK => ?_)
    refine wp_putV rfl 43 (.tmp 5) (.tmp 11) rfl _ r.cells.toArray rfl rfl 43 _ h5.1 (sizeRowA r) (zsRow r) (oneRow r) ?_
    intro W5 y5 c5 s5
    have hS5 : Chg (fun k => k = b5 ∨ k = b6) W W5 := c5.mono (fun k e => .inl e)
    refine hK _ _ hS5 ?_
    clear hK K
    try simp only [Act.put, List.setIfInBounds_toArray, List.set_cons_zero, List.set_cons_succ]
    have h6' := (c5.block b6 (Array.getElem?_eq_some_iff.1 h6.1).1 (fun e => hne e.symm)).trans h6.1
    refine wpAnyH_do (i := 13) (by kernel_rfl) rfl rfl (fun K hK => ?_)
    refine wp_putV rfl 43 (.tmp 6) (.tmp 16) rfl _ q.cells.toArray rfl rfl 43 _ h6' (sizeRowA q) (zsRow q) (oneRow q) ?_
    intro W6 y6 c6 s6
    have hS6 : Chg (fun k => k = b5 ∨ k = b6) W W6 := hS5.trans c6 (fun k e => .inl (.inr e))
    refine hK _ _ hS6 ?_
    clear hK K
    try simp only [Act.put, List.setIfInBounds_toArray, List.set_cons_zero, List.set_cons_succ]
    refine wpAnyH_done (by kernel_rfl) ?_ _
    refine NoPanic.normal ?_
    have HX5 := Lib.hid ((c6.block b5 (Array.getElem?_eq_some_iff.1 y5).1 (fun e => hne e)).trans y5)
    have HX6 := Lib.hid y6
    have HBW := Lib.hid (hW.trans (hS6.below (B := w.heap.size) (fun k e => by rcases e with rfl | rfl; exact h5.2; exact h6.2) hW.size))
    clear hA hB hW hr hq h5 h6 hne y5 y6 c5 c6 s5 s6 hS5 hS6 hS9 h6' HAd HBd HLd HE0 HE1 hG G
    go_wp2_with fail
    obtain ⟨cv, hcv⟩ : ∃ cv, cmpT r.tw q.tw = cv := ⟨_, rfl⟩
    have HSW := Lib.hid (show cmpT q.tw r.tw = -cv by rw [← hcv]; exact cmpT_swap _ _)
    have HSF := Lib.hid (cmpT_self r.tw)
    have hrng : -1 ≤ cv ∧ cv ≤ 1 := by rw [← hcv]; exact cmpT_rng _ _
    have HCV := Lib.hid hcv
    have hneg : IntKind.i64.wrap (-cv) = -cv := IntWalk.i64_in _ (by omega)
    clear hcv
    refine wp_region_noPanic ?_
    refine wp_region_H (Below W6.heap.size W6) (by kernel_rfl) ?_
    have hS0 : (Below W6.heap.size W6) W6.drew := (Below.refl _ _).drew
    obtain ⟨wd, hwd⟩ : ∃ wd, W6.drew = wd := ⟨_, rfl⟩
    rw [hwd] at hS0  ⊢
    clear hwd
    refine wpAnyH_do (i := 0) (by kernel_rfl) rfl rfl (fun K hK => ?_)
    go_simp
    go_at_call 18
    refine known_any.mono ?_
    rintro e Wk ⟨rfl, hb⟩
    have hsWk := hS0.trans (hb.mono hS0.size)
    clear hb
    refine hK _ _ (hsWk) ?_
    clear hK K
    try simp only [Act.put, List.setIfInBounds_toArray, List.set_cons_zero, List.set_cons_succ]
    refine wpAnyH_takeI (i := 1) (v := .bool true) rfl (by kernel_rfl) (by kernel_rfl) (by kernel_rfl) (fun _ _ _ h => h) (yieldsIf_run rfl (fun w' hw' => ?y1)) hsWk ?_
    case y1 => first | (go_simp; rfl) | (go_simp; done) | rfl
    simp only [Act.put, List.setIfInBounds_toArray, List.set_cons_zero, List.set_cons_succ]
    refine wpAnyH_takeI (i := 2) (v := .agg (r.cells).toArray) rfl (by kernel_rfl) (by kernel_rfl) (by kernel_rfl) (fun _ _ _ h => h) (yieldsIf_load_mid rfl 43 (.tmp 5) rfl b5 (0) rfl (r.cells) _ (fun w' hw' => range_block ((hw'.block _ (Array.getElem?_eq_some_iff.1 HX5.out).1).trans HX5.out)) Try.underlying43 rfl (sizeRow r)) hsWk ?_
    simp only [Act.put, List.setIfInBounds_toArray, List.set_cons_zero, List.set_cons_succ]
    refine wpAnyH_takeI (i := 3) (v := .agg (q.cells).toArray) rfl (by kernel_rfl) (by kernel_rfl) (by kernel_rfl) (fun _ _ _ h => h) (yieldsIf_load_mid rfl 43 (.tmp 6) rfl b6 (0) rfl (q.cells) _ (fun w' hw' => range_block ((hw'.block _ (Array.getElem?_eq_some_iff.1 HX6.out).1).trans HX6.out)) Try.underlying43 rfl (sizeRow q)) hsWk ?_
    simp only [Act.put, List.setIfInBounds_toArray, List.set_cons_zero, List.set_cons_succ]
    refine wpAnyH_takeI (i := 5) (v := .agg (r.cells).toArray) rfl (by kernel_rfl) (by kernel_rfl) (by kernel_rfl) (fun _ _ _ h => h) (yieldsIf_load_mid rfl 43 (.tmp 5) rfl b5 (0) rfl (r.cells) _ (fun w' hw' => range_block ((hw'.block _ (Array.getElem?_eq_some_iff.1 HX5.out).1).trans HX5.out)) Try.underlying43 rfl (sizeRow r)) hsWk ?_
    simp only [Act.put, List.setIfInBounds_toArray, List.set_cons_zero, List.set_cons_succ]
    refine wpAnyH_takeI (i := 6) (v := .agg (q.cells).toArray) rfl (by kernel_rfl) (by kernel_rfl) (by kernel_rfl) (fun _ _ _ h => h) (yieldsIf_load_mid rfl 43 (.tmp 6) rfl b6 (0) rfl (q.cells) _ (fun w' hw' => range_block ((hw'.block _ (Array.getElem?_eq_some_iff.1 HX6.out).1).trans HX6.out)) Try.underlying43 rfl (sizeRow q)) hsWk ?_
    simp only [Act.put, List.setIfInBounds_toArray, List.set_cons_zero, List.set_cons_succ]
    refine wpAnyH_want (i := 4) (by kernel_rfl) rfl rfl (fun K hK => ?_)
    go_simp
    go_at_call 25
    refine (cmpRow r q _).mono ?_
    rintro e we ⟨rfl, q9, os9, hwe⟩
    obtain ⟨V4, hWn⟩ : ∃ V4, we = V4 := ⟨_, rfl⟩
    have hb9 := grow_below Wk q9 os9
    rw [← hwe, hWn] at hb9
    rw [hWn, HCV.out]
    have hsV4 := hsWk.trans (hb9.mono hsWk.size)
    clear hb9 hWn hwe
    refine hK _ _ (hsV4) ?_
    clear hK K
    try simp only [Act.put, List.setIfInBounds_toArray, List.set_cons_zero, List.set_cons_succ]
    refine wpAnyH_want (i := 7) (by kernel_rfl) rfl rfl (fun K hK => ?_)
    go_simp
    go_at_call 26
    refine (ordRow r q _).mono ?_
    rintro e we ⟨rfl, q9, os9, hwe⟩
    obtain ⟨V7, hWn⟩ : ∃ V7, we = V7 := ⟨_, rfl⟩
    have hb9 := grow_below V4 q9 os9
    rw [← hwe, hWn] at hb9
    rw [hWn, HCV.out]
    have hsV7 := hsV4.trans (hb9.mono hsV4.size)
    clear hb9 hWn hwe
    refine hK _ _ (hsV7) ?_
    clear hK K
    try simp only [Act.put, List.setIfInBounds_toArray, List.set_cons_zero, List.set_cons_succ]
    refine wpAnyH_takeI (i := 8) (v := .bool true) rfl (by kernel_rfl) (by kernel_rfl) (by kernel_rfl) (fun _ _ _ h => h) (yieldsIf_want rfl (fun w' hw' => ?y2)) hsV7 ?_
    case y2 => first | (go_simp; rfl) | (go_simp; done) | rfl
    simp only [Act.put, List.setIfInBounds_toArray, List.set_cons_zero, List.set_cons_succ]
    refine wpAnyH_takeI (i := 9) (v := .bool true) rfl (by kernel_rfl) (by kernel_rfl) (by kernel_rfl) (fun _ _ _ h => h) (yieldsIf_run rfl (fun w' hw' => ?y3)) hsV7 ?_
    case y3 => first | (go_simp; rfl) | (go_simp; done) | rfl
    simp only [Act.put, List.setIfInBounds_toArray, List.set_cons_zero, List.set_cons_succ]
    refine wpAnyH_takeI (i := 10) (v := .bool true) rfl (by kernel_rfl) (by kernel_rfl) (by kernel_rfl) (fun _ _ _ h => h) (yieldsIf_run rfl (fun w' hw' => ?y4)) hsV7 ?_
    case y4 => first | (go_simp; rfl) | (go_simp; done) | rfl
    simp only [Act.put, List.setIfInBounds_toArray, List.set_cons_zero, List.set_cons_succ]
    refine wpAnyH_takeI (i := 11) (v := .agg (q.cells).toArray) rfl (by kernel_rfl) (by kernel_rfl) (by kernel_rfl) (fun _ _ _ h => h) (yieldsIf_load_mid rfl 43 (.tmp 6) rfl b6 (0) rfl (q.cells) _ (fun w' hw' => range_block ((hw'.block _ (Array.getElem?_eq_some_iff.1 HX6.out).1).trans HX6.out)) Try.underlying43 rfl (sizeRow q)) hsV7 ?_
    simp only [Act.put, List.setIfInBounds_toArray, List.set_cons_zero, List.set_cons_succ]
    refine wpAnyH_takeI (i := 12) (v := .agg (r.cells).toArray) rfl (by kernel_rfl) (by kernel_rfl) (by kernel_rfl) (fun _ _ _ h => h) (yieldsIf_load_mid rfl 43 (.tmp 5) rfl b5 (0) rfl (r.cells) _ (fun w' hw' => range_block ((hw'.block _ (Array.getElem?_eq_some_iff.1 HX5.out).1).trans HX5.out)) Try.underlying43 rfl (sizeRow r)) hsV7 ?_
    simp only [Act.put, List.setIfInBounds_toArray, List.set_cons_zero, List.set_cons_succ]
    refine wpAnyH_takeI (i := 14) (v := .agg (r.cells).toArray) rfl (by kernel_rfl) (by kernel_rfl) (by kernel_rfl) (fun _ _ _ h => h) (yieldsIf_load_mid rfl 43 (.tmp 5) rfl b5 (0) rfl (r.cells) _ (fun w' hw' => range_block ((hw'.block _ (Array.getElem?_eq_some_iff.1 HX5.out).1).trans HX5.out)) Try.underlying43 rfl (sizeRow r)) hsV7 ?_
    simp only [Act.put, List.setIfInBounds_toArray, List.set_cons_zero, List.set_cons_succ]
    refine wpAnyH_takeI (i := 15) (v := .agg (q.cells).toArray) rfl (by kernel_rfl) (by kernel_rfl) (by kernel_rfl) (fun _ _ _ h => h) (yieldsIf_load_mid rfl 43 (.tmp 6) rfl b6 (0) rfl (q.cells) _ (fun w' hw' => range_block ((hw'.block _ (Array.getElem?_eq_some_iff.1 HX6.out).1).trans HX6.out)) Try.underlying43 rfl (sizeRow q)) hsV7 ?_
    simp only [Act.put, List.setIfInBounds_toArray, List.set_cons_zero, List.set_cons_succ]
    refine wpAnyH_want (i := 13) (by kernel_rfl) rfl rfl (fun K hK => ?_)
    go_simp
    go_at_call 25
    refine (cmpRow q r _).mono ?_
    rintro e we ⟨rfl, q9, os9, hwe⟩
    obtain ⟨V13, hWn⟩ : ∃ V13, we = V13 := ⟨_, rfl⟩
    have hb9 := grow_below V7 q9 os9
    rw [← hwe, hWn] at hb9
    rw [hWn, HSW.out]
    have hsV13 := hsV7.trans (hb9.mono hsV7.size)
    clear hb9 hWn hwe
    refine hK _ _ (hsV13) ?_
    clear hK K
    try simp only [Act.put, List.setIfInBounds_toArray, List.set_cons_zero, List.set_cons_succ]
    refine wpAnyH_want (i := 16) (by kernel_rfl) rfl rfl (fun K hK => ?_)
    go_simp
    go_at_call 26
    refine (ordRow r q _).mono ?_
    rintro e we ⟨rfl, q9, os9, hwe⟩
    obtain ⟨V16, hWn⟩ : ∃ V16, we = V16 := ⟨_, rfl⟩
    have hb9 := grow_below V13 q9 os9
    rw [← hwe, hWn] at hb9
    rw [hWn, HCV.out]
    have hsV16 := hsV13.trans (hb9.mono hsV13.size)
    clear hb9 hWn hwe
    refine hK _ _ (hsV16) ?_
    clear hK K
    try simp only [Act.put, List.setIfInBounds_toArray, List.set_cons_zero, List.set_cons_succ]
    refine wpAnyH_takeI (i := 17) (v := .int .i64 (-cv)) rfl (by kernel_rfl) (by kernel_rfl) (by kernel_rfl) (fun _ _ _ h => h) (yieldsIf_want rfl (fun w' hw' => ?y5)) hsV16 ?_
    case y5 => first | (go_simp; rfl) | (go_simp; done) | rfl
    simp only [Act.put, List.setIfInBounds_toArray, List.set_cons_zero, List.set_cons_succ]
    refine wpAnyH_takeI (i := 18) (v := .bool true) rfl (by kernel_rfl) (by kernel_rfl) (by kernel_rfl) (fun _ _ _ h => h) (yieldsIf_want rfl (fun w' hw' => ?y6)) hsV16 ?_
    case y6 => first | (go_simp; rfl) | (go_simp; done) | rfl
    simp only [Act.put, List.setIfInBounds_toArray, List.set_cons_zero, List.set_cons_succ]
    refine wpAnyH_takeI (i := 19) (v := .bool true) rfl (by kernel_rfl) (by kernel_rfl) (by kernel_rfl) (fun _ _ _ h => h) (yieldsIf_run rfl (fun w' hw' => ?y7)) hsV16 ?_
    case y7 => first | (go_simp; rfl) | (go_simp; done) | rfl
    simp only [Act.put, List.setIfInBounds_toArray, List.set_cons_zero, List.set_cons_succ]
    refine wpAnyH_takeI (i := 20) (v := .bool true) rfl (by kernel_rfl) (by kernel_rfl) (by kernel_rfl) (fun _ _ _ h => h) (yieldsIf_run rfl (fun w' hw' => ?y8)) hsV16 ?_
    case y8 => first | (go_simp; rfl) | (go_simp; done) | rfl
    simp only [Act.put, List.setIfInBounds_toArray, List.set_cons_zero, List.set_cons_succ]
    refine wpAnyH_takeI (i := 21) (v := .agg (r.cells).toArray) rfl (by kernel_rfl) (by kernel_rfl) (by kernel_rfl) (fun _ _ _ h => h) (yieldsIf_load_mid rfl 43 (.tmp 5) rfl b5 (0) rfl (r.cells) _ (fun w' hw' => range_block ((hw'.block _ (Array.getElem?_eq_some_iff.1 HX5.out).1).trans HX5.out)) Try.underlying43 rfl (sizeRow r)) hsV16 ?_
    simp only [Act.put, List.setIfInBounds_toArray, List.set_cons_zero, List.set_cons_succ]
    refine wpAnyH_takeI (i := 22) (v := .agg (r.cells).toArray) rfl (by kernel_rfl) (by kernel_rfl) (by kernel_rfl) (fun _ _ _ h => h) (yieldsIf_load_mid rfl 43 (.tmp 5) rfl b5 (0) rfl (r.cells) _ (fun w' hw' => range_block ((hw'.block _ (Array.getElem?_eq_some_iff.1 HX5.out).1).trans HX5.out)) Try.underlying43 rfl (sizeRow r)) hsV16 ?_
    simp only [Act.put, List.setIfInBounds_toArray, List.set_cons_zero, List.set_cons_succ]
    refine wpAnyH_want (i := 23) (by kernel_rfl) rfl rfl (fun K hK => ?_)
    go_simp
    go_at_call 25
    refine (cmpRow r r _).mono ?_
    rintro e we ⟨rfl, q9, os9, hwe⟩
    obtain ⟨V23, hWn⟩ : ∃ V23, we = V23 := ⟨_, rfl⟩
    have hb9 := grow_below V16 q9 os9
    rw [← hwe, hWn] at hb9
    rw [hWn, HSF.out]
    have hsV23 := hsV16.trans (hb9.mono hsV16.size)
    clear hb9 hWn hwe
    refine hK _ _ (hsV23) ?_
    clear hK K
    try simp only [Act.put, List.setIfInBounds_toArray, List.set_cons_zero, List.set_cons_succ]
    refine wpAnyH_takeI (i := 24) (v := .bool true) rfl (by kernel_rfl) (by kernel_rfl) (by kernel_rfl) (fun _ _ _ h => h) (yieldsIf_want rfl (fun w' hw' => ?y9)) hsV23 ?_
    case y9 => first | (go_simp; rfl) | (go_simp; done) | rfl
    simp only [Act.put, List.setIfInBounds_toArray, List.set_cons_zero, List.set_cons_succ]
    refine wpAnyH_takeI (i := 25) (v := .bool true) rfl (by kernel_rfl) (by kernel_rfl) (by kernel_rfl) (fun _ _ _ h => h) (yieldsIf_run rfl (fun w' hw' => ?y10)) hsV23 ?_
    case y10 => first | (go_simp; rfl) | (go_simp; done) | rfl
    simp only [Act.put, List.setIfInBounds_toArray, List.set_cons_zero, List.set_cons_succ]
    refine wpAnyH_takeI (i := 26) (v := ?v11) rfl (by kernel_rfl) (by kernel_rfl) (by kernel_rfl) (fun _ _ _ h => h) (yieldsIf_run rfl (fun w' hw' => ?y11)) hsV23 ?_
    case y11 => first | (go_simp; rfl) | (go_simp; done) | rfl
    simp only [Act.put, List.setIfInBounds_toArray, List.set_cons_zero, List.set_cons_succ]
    refine wpAnyH_done (by kernel_rfl) ?_ _
    refine NoPanic.normal ?_
    have HBZ := Lib.hid (HBW.out.trans (hsV23.mono HBW.out.size))
    clear hneg
    go_wp2_with fail
    exact bodyPost_ret (v := .bool true) (by simp [results, Try.results8, go_sem]) rfl ⟨rfl, HBZ.out⟩
  have st_1_2_6_7_10 : ∀ (W : World) (v8 : Value) (x9 : Value) (x10 : Value) (r : RowV) (v13 : Value) (x14 : Value) (x15 : Value) (q : RowV) (b5 : Nat), ListAt u8E W A.rv A.refs → ListAt u8E W B.rv B.refs → Below w.heap.size w W → r.tw = rawTw A → q.tw = rawTw B → W.heap[b5]? = some (.cells Try.zeroCells43 43 (0, 0)) ∧ w.heap.size ≤ b5 → G (Chg (fun k => k = b5) W) 3 #[true, true, true, true, true, true, true, true, true, true, true, false, false, false] ⟨#[.agg A.cells.toArray, .agg B.cells.toArray, .pointer (some ⟨B0, 0, none⟩), .pointer (some ⟨B1, 0, none⟩), .bool false, .pointer (some ⟨b5, 0, none⟩), undef, .agg A.cells.toArray, v8, x9, x10, .agg r.cells.toArray, .agg B.cells.toArray, v13, x14, x15, .agg q.cells.toArray, undef, undef, undef, undef, undef, undef, undef, undef, undef, undef, undef, undef, undef, undef, undef, undef, undef, undef, undef, undef, undef, undef, undef, undef, undef, undef], []⟩ W := by
    intro W v8 x9 x10 r v13 x14 x15 q b5 hA hB hW hr hq h5
    rw [hG]
    refine wpAnyH_do (i := 11) (by kernel_rfl) rfl rfl (fun K hK => ?_)
    refine wp_newV (some 6) rfl 43 rfl Try.zeroCells43 83 (by kernel_rfl) ?_
    intro Wn xn hb sn
    refine hK _ _ (Chg.of_below hb) ?_
    clear hK K
    try simp only [Act.put, List.setIfInBounds_toArray, List.set_cons_zero, List.set_cons_succ]
    have hnew := hW.size
    have hlt := (Array.getElem?_eq_some_iff.1 h5.1).1
    have hn := st_1_2_6_7_10_11 Wn v8 x9 x10 r v13 x14 x15 q b5 _ (hA.below hb) (hB.below hb) (hW.trans (hb.mono hW.size)) hr hq ⟨(hb.block _ (Array.getElem?_eq_some_iff.1 h5.1).1).trans h5.1, h5.2⟩ ⟨xn, hW.size⟩ (by omega)
    rw [hG] at hn
    exact wpAnyH_mono (fun x hx => (Chg.of_below hb).trans hx (fun j hj => by first | exact .inl hj | (rcases hj with rfl | rfl <;> first | exact .inr (by omega) | exact .inl rfl | exact .inl (.inl rfl) | exact .inl (.inr rfl)) | (subst hj; exact .inr (by omega)) | exact hj.elim)) _ _ _ _ hn
  have st_1_2_6_7_11 : ∀ (W : World) (v8 : Value) (x9 : Value) (x10 : Value) (r : RowV) (v13 : Value) (x14 : Value) (x15 : Value) (q : RowV) (b6 : Nat), ListAt u8E W A.rv A.refs → ListAt u8E W B.rv B.refs → Below w.heap.size w W → r.tw = rawTw A → q.tw = rawTw B → W.heap[b6]? = some (.cells Try.zeroCells43 43 (0, 0)) ∧ w.heap.size ≤ b6 → G (Chg (fun k => k = b6) W) 3 #[true, true, true, true, true, true, true, true, true, true, false, true, false, false] ⟨#[.agg A.cells.toArray, .agg B.cells.toArray, .pointer (some ⟨B0, 0, none⟩), .pointer (some ⟨B1, 0, none⟩), .bool false, undef, .pointer (some ⟨b6, 0, none⟩), .agg A.cells.toArray, v8, x9, x10, .agg r.cells.toArray, .agg B.cells.toArray, v13, x14, x15, .agg q.cells.toArray, undef, undef, undef, undef, undef, undef, undef, undef, undef, undef, undef, undef, undef, undef, undef, undef, undef, undef, undef, undef, undef, undef, undef, undef, undef, undef], []⟩ W := by
    intro W v8 x9 x10 r v13 x14 x15 q b6 hA hB hW hr hq h6
    rw [hG]
    refine wpAnyH_do (i := 10) (by kernel_rfl) rfl rfl (fun K hK => ?_)
    refine wp_newV (some 5) rfl 43 rfl Try.zeroCells43 83 (by kernel_rfl) ?_
    intro Wn xn hb sn
    refine hK _ _ (Chg.of_below hb) ?_
    clear hK K
    try simp only [Act.put, List.setIfInBounds_toArray, List.set_cons_zero, List.set_cons_succ]
    have hnew := hW.size
    have hlt := (Array.getElem?_eq_some_iff.1 h6.1).1
    have hn := st_1_2_6_7_10_11 Wn v8 x9 x10 r v13 x14 x15 q _ b6 (hA.below hb) (hB.below hb) (hW.trans (hb.mono hW.size)) hr hq ⟨xn, hW.size⟩ ⟨(hb.block _ (Array.getElem?_eq_some_iff.1 h6.1).1).trans h6.1, h6.2⟩ (by omega)
    rw [hG] at hn
    exact wpAnyH_mono (fun x hx => (Chg.of_below hb).trans hx (fun j hj => by first | exact .inl hj | (rcases hj with rfl | rfl <;> first | exact .inr (by omega) | exact .inl rfl | exact .inl (.inl rfl) | exact .inl (.inr rfl)) | (subst hj; exact .inr (by omega)) | exact hj.elim)) _ _ _ _ hn
  have st_1_2_6_10_11 : ∀ (W : World) (v8 : Value) (x9 : Value) (x10 : Value) (r : RowV) (v13 : Value) (b5 : Nat) (b6 : Nat), ListAt u8E W A.rv A.refs → ListAt u8E W B.rv B.refs → Below w.heap.size w W → r.tw = rawTw A → RawsAt W v13 [B] → W.heap[b5]? = some (.cells Try.zeroCells43 43 (0, 0)) ∧ w.heap.size ≤ b5 → W.heap[b6]? = some (.cells Try.zeroCells43 43 (0, 0)) ∧ w.heap.size ≤ b6 → b5 ≠ b6 → G (Chg (fun k => k = b5 ∨ k = b6) W) 5 #[true, true, true, true, true, true, true, false, false, false, true, true, false, false] ⟨#[.agg A.cells.toArray, .agg B.cells.toArray, .pointer (some ⟨B0, 0, none⟩), .pointer (some ⟨B1, 0, none⟩), .bool false, .pointer (some ⟨b5, 0, none⟩), .pointer (some ⟨b6, 0, none⟩), .agg A.cells.toArray, v8, x9, x10, .agg r.cells.toArray, .agg B.cells.toArray, v13, undef, undef, undef, undef, undef, undef, undef, undef, undef, undef, undef, undef, undef, undef, undef, undef, undef, undef, undef, undef, undef, undef, undef, undef, undef, undef, undef, undef, undef], []⟩ W := by
    intro W v8 x9 x10 r v13 b5 b6 hA hB hW hr h13 h5 h6 hne
    rw [hG]
    refine wpAnyH_do (i := 7) (by kernel_rfl) rfl rfl (fun K hK => ?_)
    go_simp
    go_at_call 16
    refine (rows_any _ [B] h13).mono ?_
    rintro e Wn ⟨xv, M, rfl, ho, ht, hb⟩
    obtain ⟨q, rfl, hq⟩ := row_of_one ht
    obtain ⟨xa, xc, rfl⟩ := ho.own.form
    obtain ⟨xg, rfl⟩ := ho.own.addr1
    have hxg := (ho.own.lt (k := xg) rfl)
    obtain ⟨g', o', e', _, hrr⟩ := ho.at_.l.get (i := 0) (by simp)
    cases e'
    have hxr : Wn.rangeAt xg 0 q.cells := by
      have h1 : Wn.rangeAt xg (0 + 0 * 83) q.cells := hrr
      simpa using h1
    clear ho hrr ht
    have hlb5 := (Array.getElem?_eq_some_iff.1 h5.1).1
    have hlb6 := (Array.getElem?_eq_some_iff.1 h6.1).1
    refine hK _ _ (Chg.of_below hb) ?_
    clear hK K
    try simp only [Act.put, List.setIfInBounds_toArray, List.set_cons_zero, List.set_cons_succ]
    refine wpAnyH_mono (S' := Chg (fun k => k = b5 ∨ k = b6) Wn) (fun x hx => (Chg.of_below hb).trans hx (fun j hj => .inl hj)) _ _ _ _ ?_
    have hS9 : Chg (fun k => k = b5 ∨ k = b6) Wn Wn := Chg.refl _ _
    refine wpAnyH_takeI (i := 8) (v := .pointer (some ⟨xg, 0, none⟩)) rfl (by kernel_rfl) (by kernel_rfl) (by kernel_rfl) (fun _ _ _ h => h) (yieldsIf_run rfl (fun w' hw' => ?y8)) hS9 ?_
    case y8 => first | (go_simp; rfl) | (go_simp; done) | rfl
    simp only [Act.put, List.setIfInBounds_toArray, List.set_cons_zero, List.set_cons_succ]
    refine wpAnyH_takeI (i := 9) (v := .agg q.cells.toArray) rfl (by kernel_rfl) (by kernel_rfl) (by kernel_rfl) (fun _ _ _ h => h) (yieldsIf_load_mid rfl 43 (.tmp 15) rfl xg 0 rfl q.cells _ (fun w' hw' => range_block' hxr hw' hxg.2 (fun h => by first | exact h.elim | (rcases h with h | h <;> omega) | omega)) Try.underlying43 rfl (sizeRow q)) hS9 ?_
    simp only [Act.put, List.setIfInBounds_toArray, List.set_cons_zero, List.set_cons_succ]
    have hn := st_1_2_6_7_10_11 Wn v8 x9 x10 r v13 (.slice (some ⟨xg, 0, none⟩) 1 xc) (.pointer (some ⟨xg, 0, none⟩)) q b5 b6 (hA.below hb) (hB.below hb) (hW.trans (hb.mono hW.size)) hr hq ⟨(hb.block _ (Array.getElem?_eq_some_iff.1 h5.1).1).trans h5.1, h5.2⟩ ⟨(hb.block _ (Array.getElem?_eq_some_iff.1 h6.1).1).trans h6.1, h6.2⟩ hne
    rw [hG] at hn
    exact hn
  have st_1_2_6_7 : ∀ (W : World) (v8 : Value) (x9 : Value) (x10 : Value) (r : RowV) (v13 : Value) (x14 : Value) (x15 : Value) (q : RowV), ListAt u8E W A.rv A.refs → ListAt u8E W B.rv B.refs → Below w.heap.size w W → r.tw = rawTw A → q.tw = rawTw B → G (Chg (fun _ => False) W) 4 #[true, true, true, true, true, true, true, true, true, true, false, false, false, false] ⟨#[.agg A.cells.toArray, .agg B.cells.toArray, .pointer (some ⟨B0, 0, none⟩), .pointer (some ⟨B1, 0, none⟩), .bool false, undef, undef, .agg A.cells.toArray, v8, x9, x10, .agg r.cells.toArray, .agg B.cells.toArray, v13, x14, x15, .agg q.cells.toArray, undef, undef, undef, undef, undef, undef, undef, undef, undef, undef, undef, undef, undef, undef, undef, undef, undef, undef, undef, undef, undef, undef, undef, undef, undef, undef], []⟩ W := by
    intro W v8 x9 x10 r v13 x14 x15 q hA hB hW hr hq
    rw [hG]
    refine wpAnyH_two (i := 10) (j := 11) (by kernel_rfl) rfl rfl rfl rfl (fun K hK => ?_) (fun K hK => ?_)
    · refine wp_newV (some 5) rfl 43 rfl Try.zeroCells43 83 (by kernel_rfl) ?_
      intro Wn xn hb sn
      refine hK _ _ (Chg.of_below hb) ?_
      clear hK K
      try simp only [Act.put, List.setIfInBounds_toArray, List.set_cons_zero, List.set_cons_succ]
      have hnew := hW.size
      have hn := st_1_2_6_7_10 Wn v8 x9 x10 r v13 x14 x15 q _ (hA.below hb) (hB.below hb) (hW.trans (hb.mono hW.size)) hr hq ⟨xn, hW.size⟩
      rw [hG] at hn
      exact wpAnyH_mono (fun x hx => (Chg.of_below hb).trans hx (fun j hj => by first | exact .inl hj | (rcases hj with rfl | rfl <;> first | exact .inr (by omega) | exact .inl rfl | exact .inl (.inl rfl) | exact .inl (.inr rfl)) | (subst hj; exact .inr (by omega)) | exact hj.elim)) _ _ _ _ hn
    · refine wp_newV (some 6) rfl 43 rfl Try.zeroCells43 83 (by kernel_rfl) ?_
      intro Wn xn hb sn
      refine hK _ _ (Chg.of_below hb) ?_
      clear hK K
      try simp only [Act.put, List.setIfInBounds_toArray, List.set_cons_zero, List.set_cons_succ]
      have hnew := hW.size
      have hn := st_1_2_6_7_11 Wn v8 x9 x10 r v13 x14 x15 q _ (hA.below hb) (hB.below hb) (hW.trans (hb.mono hW.size)) hr hq ⟨xn, hW.size⟩
      rw [hG] at hn
      exact wpAnyH_mono (fun x hx => (Chg.of_below hb).trans hx (fun j hj => by first | exact .inl hj | (rcases hj with rfl | rfl <;> first | exact .inr (by omega) | exact .inl rfl | exact .inl (.inl rfl) | exact .inl (.inr rfl)) | (subst hj; exact .inr (by omega)) | exact hj.elim)) _ _ _ _ hn
  have st_1_2_6_10 : ∀ (W : World) (v8 : Value) (x9 : Value) (x10 : Value) (r : RowV) (v13 : Value) (b5 : Nat), ListAt u8E W A.rv A.refs → ListAt u8E W B.rv B.refs → Below w.heap.size w W → r.tw = rawTw A → RawsAt W v13 [B] → W.heap[b5]? = some (.cells Try.zeroCells43 43 (0, 0)) ∧ w.heap.size ≤ b5 → G (Chg (fun k => k = b5) W) 6 #[true, true, true, true, true, true, true, false, false, false, true, false, false, false] ⟨#[.agg A.cells.toArray, .agg B.cells.toArray, .pointer (some ⟨B0, 0, none⟩), .pointer (some ⟨B1, 0, none⟩), .bool false, .pointer (some ⟨b5, 0, none⟩), undef, .agg A.cells.toArray, v8, x9, x10, .agg r.cells.toArray, .agg B.cells.toArray, v13, undef, undef, undef, undef, undef, undef, undef, undef, undef, undef, undef, undef, undef, undef, undef, undef, undef, undef, undef, undef, undef, undef, undef, undef, undef, undef, undef, undef, undef], []⟩ W := by
    intro W v8 x9 x10 r v13 b5 hA hB hW hr h13 h5
    rw [hG]
    refine wpAnyH_two (i := 7) (j := 11) (by kernel_rfl) rfl rfl rfl rfl (fun K hK => ?_) (fun K hK => ?_)
    · go_simp
      go_at_call 16
      refine (rows_any _ [B] h13).mono ?_
      rintro e Wn ⟨xv, M, rfl, ho, ht, hb⟩
      obtain ⟨q, rfl, hq⟩ := row_of_one ht
      obtain ⟨xa, xc, rfl⟩ := ho.own.form
      obtain ⟨xg, rfl⟩ := ho.own.addr1
      have hxg := (ho.own.lt (k := xg) rfl)
      obtain ⟨g', o', e', _, hrr⟩ := ho.at_.l.get (i := 0) (by simp)
      cases e'
      have hxr : Wn.rangeAt xg 0 q.cells := by
        have h1 : Wn.rangeAt xg (0 + 0 * 83) q.cells := hrr
        simpa using h1
      clear ho hrr ht
      have hlb5 := (Array.getElem?_eq_some_iff.1 h5.1).1
      refine hK _ _ (Chg.of_below hb) ?_
      clear hK K
      try simp only [Act.put, List.setIfInBounds_toArray, List.set_cons_zero, List.set_cons_succ]
      refine wpAnyH_mono (S' := Chg (fun k => k = b5) Wn) (fun x hx => (Chg.of_below hb).trans hx (fun j hj => .inl hj)) _ _ _ _ ?_
      have hS9 : Chg (fun k => k = b5) Wn Wn := Chg.refl _ _
      refine wpAnyH_takeI (i := 8) (v := .pointer (some ⟨xg, 0, none⟩)) rfl (by kernel_rfl) (by kernel_rfl) (by kernel_rfl) (fun _ _ _ h => h) (yieldsIf_run rfl (fun w' hw' => ?y8)) hS9 ?_
      case y8 => first | (go_simp; rfl) | (go_simp; done) | rfl
      simp only [Act.put, List.setIfInBounds_toArray, List.set_cons_zero, List.set_cons_succ]
      refine wpAnyH_takeI (i := 9) (v := .agg q.cells.toArray) rfl (by kernel_rfl) (by kernel_rfl) (by kernel_rfl) (fun _ _ _ h => h) (yieldsIf_load_mid rfl 43 (.tmp 15) rfl xg 0 rfl q.cells _ (fun w' hw' => range_block' hxr hw' hxg.2 (fun h => by first | exact h.elim | (rcases h with h | h <;> omega) | omega)) Try.underlying43 rfl (sizeRow q)) hS9 ?_
      simp only [Act.put, List.setIfInBounds_toArray, List.set_cons_zero, List.set_cons_succ]
      have hn := st_1_2_6_7_10 Wn v8 x9 x10 r v13 (.slice (some ⟨xg, 0, none⟩) 1 xc) (.pointer (some ⟨xg, 0, none⟩)) q b5 (hA.below hb) (hB.below hb) (hW.trans (hb.mono hW.size)) hr hq ⟨(hb.block _ (Array.getElem?_eq_some_iff.1 h5.1).1).trans h5.1, h5.2⟩
      rw [hG] at hn
      exact hn
    · refine wp_newV (some 6) rfl 43 rfl Try.zeroCells43 83 (by kernel_rfl) ?_
      intro Wn xn hb sn
      refine hK _ _ (Chg.of_below hb) ?_
      clear hK K
      try simp only [Act.put, List.setIfInBounds_toArray, List.set_cons_zero, List.set_cons_succ]
      have hnew := hW.size
      have hlt := (Array.getElem?_eq_some_iff.1 h5.1).1
      have hn := st_1_2_6_10_11 Wn v8 x9 x10 r v13 b5 _ (hA.below hb) (hB.below hb) (hW.trans (hb.mono hW.size)) hr (h13.below hb) ⟨(hb.block _ (Array.getElem?_eq_some_iff.1 h5.1).1).trans h5.1, h5.2⟩ ⟨xn, hW.size⟩ (by omega)
      rw [hG] at hn
      exact wpAnyH_mono (fun x hx => (Chg.of_below hb).trans hx (fun j hj => by first | exact .inl hj | (rcases hj with rfl | rfl <;> first | exact .inr (by omega) | exact .inl rfl | exact .inl (.inl rfl) | exact .inl (.inr rfl)) | (subst hj; exact .inr (by omega)) | exact hj.elim)) _ _ _ _ hn
  have st_1_2_6_11 : ∀ (W : World) (v8 : Value) (x9 : Value) (x10 : Value) (r : RowV) (v13 : Value) (b6 : Nat), ListAt u8E W A.rv A.refs → ListAt u8E W B.rv B.refs → Below w.heap.size w W → r.tw = rawTw A → RawsAt W v13 [B] → W.heap[b6]? = some (.cells Try.zeroCells43 43 (0, 0)) ∧ w.heap.size ≤ b6 → G (Chg (fun k => k = b6) W) 6 #[true, true, true, true, true, true, true, false, false, false, false, true, false, false] ⟨#[.agg A.cells.toArray, .agg B.cells.toArray, .pointer (some ⟨B0, 0, none⟩), .pointer (some ⟨B1, 0, none⟩), .bool false, undef, .pointer (some ⟨b6, 0, none⟩), .agg A.cells.toArray, v8, x9, x10, .agg r.cells.toArray, .agg B.cells.toArray, v13, undef, undef, undef, undef, undef, undef, undef, undef, undef, undef, undef, undef, undef, undef, undef, undef, undef, undef, undef, undef, undef, undef, undef, undef, undef, undef, undef, undef, undef], []⟩ W := by
    intro W v8 x9 x10 r v13 b6 hA hB hW hr h13 h6
    rw [hG]
    refine wpAnyH_two (i := 7) (j := 10) (by kernel_rfl) rfl rfl rfl rfl (fun K hK => ?_) (fun K hK => ?_)
    · go_simp
      go_at_call 16
      refine (rows_any _ [B] h13).mono ?_
      rintro e Wn ⟨xv, M, rfl, ho, ht, hb⟩
      obtain ⟨q, rfl, hq⟩ := row_of_one ht
      obtain ⟨xa, xc, rfl⟩ := ho.own.form
      obtain ⟨xg, rfl⟩ := ho.own.addr1
      have hxg := (ho.own.lt (k := xg) rfl)
      obtain ⟨g', o', e', _, hrr⟩ := ho.at_.l.get (i := 0) (by simp)
      cases e'
      have hxr : Wn.rangeAt xg 0 q.cells := by
        have h1 : Wn.rangeAt xg (0 + 0 * 83) q.cells := hrr
        simpa using h1
      clear ho hrr ht
      have hlb6 := (Array.getElem?_eq_some_iff.1 h6.1).1
      refine hK _ _ (Chg.of_below hb) ?_
      clear hK K
      try simp only [Act.put, List.setIfInBounds_toArray, List.set_cons_zero, List.set_cons_succ]
      refine wpAnyH_mono (S' := Chg (fun k => k = b6) Wn) (fun x hx => (Chg.of_below hb).trans hx (fun j hj => .inl hj)) _ _ _ _ ?_
      have hS9 : Chg (fun k => k = b6) Wn Wn := Chg.refl _ _
      refine wpAnyH_takeI (i := 8) (v := .pointer (some ⟨xg, 0, none⟩)) rfl (by kernel_rfl) (by kernel_rfl) (by kernel_rfl) (fun _ _ _ h => h) (yieldsIf_run rfl (fun w' hw' => ?y8)) hS9 ?_
      case y8 => first | (go_simp; rfl) | (go_simp; done) | rfl
      simp only [Act.put, List.setIfInBounds_toArray, List.set_cons_zero, List.set_cons_succ]
      refine wpAnyH_takeI (i := 9) (v := .agg q.cells.toArray) rfl (by kernel_rfl) (by kernel_rfl) (by kernel_rfl) (fun _ _ _ h => h) (yieldsIf_load_mid rfl 43 (.tmp 15) rfl xg 0 rfl q.cells _ (fun w' hw' => range_block' hxr hw' hxg.2 (fun h => by first | exact h.elim | (rcases h with h | h <;> omega) | omega)) Try.underlying43 rfl (sizeRow q)) hS9 ?_
      simp only [Act.put, List.setIfInBounds_toArray, List.set_cons_zero, List.set_cons_succ]
      have hn := st_1_2_6_7_11 Wn v8 x9 x10 r v13 (.slice (some ⟨xg, 0, none⟩) 1 xc) (.pointer (some ⟨xg, 0, none⟩)) q b6 (hA.below hb) (hB.below hb) (hW.trans (hb.mono hW.size)) hr hq ⟨(hb.block _ (Array.getElem?_eq_some_iff.1 h6.1).1).trans h6.1, h6.2⟩
      rw [hG] at hn
      exact hn
    · refine wp_newV (some 5) rfl 43 rfl Try.zeroCells43 83 (by kernel_rfl) ?_
      intro Wn xn hb sn
      refine hK _ _ (Chg.of_below hb) ?_
      clear hK K
      try simp only [Act.put, List.setIfInBounds_toArray, List.set_cons_zero, List.set_cons_succ]
      have hnew := hW.size
      have hlt := (Array.getElem?_eq_some_iff.1 h6.1).1
      have hn := st_1_2_6_10_11 Wn v8 x9 x10 r v13 _ b6 (hA.below hb) (hB.below hb) (hW.trans (hb.mono hW.size)) hr (h13.below hb) ⟨xn, hW.size⟩ ⟨(hb.block _ (Array.getElem?_eq_some_iff.1 h6.1).1).trans h6.1, h6.2⟩ (by omega)
      rw [hG] at hn
      exact wpAnyH_mono (fun x hx => (Chg.of_below hb).trans hx (fun j hj => by first | exact .inl hj | (rcases hj with rfl | rfl <;> first | exact .inr (by omega) | exact .inl rfl | exact .inl (.inl rfl) | exact .inl (.inr rfl)) | (subst hj; exact .inr (by omega)) | exact hj.elim)) _ _ _ _ hn
  have st_1_2_10_11 : ∀ (W : World) (v8 : Value) (x9 : Value) (x10 : Value) (r : RowV) (b5 : Nat) (b6 : Nat), ListAt u8E W A.rv A.refs → ListAt u8E W B.rv B.refs → Below w.heap.size w W → r.tw = rawTw A → W.heap[b5]? = some (.cells Try.zeroCells43 43 (0, 0)) ∧ w.heap.size ≤ b5 → W.heap[b6]? = some (.cells Try.zeroCells43 43 (0, 0)) ∧ w.heap.size ≤ b6 → b5 ≠ b6 → G (Chg (fun k => k = b5 ∨ k = b6) W) 6 #[true, true, true, true, true, true, false, false, false, false, true, true, false, false] ⟨#[.agg A.cells.toArray, .agg B.cells.toArray, .pointer (some ⟨B0, 0, none⟩), .pointer (some ⟨B1, 0, none⟩), .bool false, .pointer (some ⟨b5, 0, none⟩), .pointer (some ⟨b6, 0, none⟩), .agg A.cells.toArray, v8, x9, x10, .agg r.cells.toArray, .agg B.cells.toArray, undef, undef, undef, undef, undef, undef, undef, undef, undef, undef, undef, undef, undef, undef, undef, undef, undef, undef, undef, undef, undef, undef, undef, undef, undef, undef, undef, undef, undef, undef], []⟩ W := by
    intro W v8 x9 x10 r b5 b6 hA hB hW hr h5 h6 hne
    rw [hG]
    refine wpAnyH_do (i := 6) (by kernel_rfl) rfl rfl (fun K hK => ?_)
    refine wp_lit1 22 51 (.tmp 12) rfl (rawE.enc B).toArray rfl Try.underlying22 (sizeRawE B) (by kernel_rfl) (by rw [sizeRaw3]; decide) (by rw [sizeRaw3]; decide) ?_
    obtain ⟨Wn, hwn⟩ : ∃ Wn, W.alloc (.cells (rawE.enc B).toArray 51) = Wn := ⟨_, rfl⟩
    have hb : Below W.heap.size W Wn := hwn ▸ one_below rawE W B
    have hL : Wn.heap[W.heap.size]? = some (.cells (rawE.enc B).toArray 51 (0, 0)) := by rw [← hwn]; exact heap_alloc_new _ _
    rw [hwn]
    clear hwn
    refine hK _ _ (Chg.of_below hb) ?_
    clear hK K
    try simp only [Act.put, List.setIfInBounds_toArray, List.set_cons_zero, List.set_cons_succ]
    have hn := st_1_2_6_10_11 Wn v8 x9 x10 r _ b5 b6 (hA.below hb) (hB.below hb) (hW.trans (hb.mono hW.size)) hr (lit_raw (W := W) hL (hB.below hb)) ⟨(hb.block _ (Array.getElem?_eq_some_iff.1 h5.1).1).trans h5.1, h5.2⟩ ⟨(hb.block _ (Array.getElem?_eq_some_iff.1 h6.1).1).trans h6.1, h6.2⟩ hne
    rw [hG] at hn
    exact wpAnyH_mono (fun x hx => (Chg.of_below hb).trans hx (fun j hj => by first | exact .inl hj | (rcases hj with rfl | rfl <;> first | exact .inr (by omega) | exact .inl rfl | exact .inl (.inl rfl) | exact .inl (.inr rfl)) | (subst hj; exact .inr (by omega)) | exact hj.elim)) _ _ _ _ hn
  have st_1_6_10_11 : ∀ (W : World) (v8 : Value) (v13 : Value) (b5 : Nat) (b6 : Nat), ListAt u8E W A.rv A.refs → ListAt u8E W B.rv B.refs → Below w.heap.size w W → RawsAt W v8 [A] → RawsAt W v13 [B] → W.heap[b5]? = some (.cells Try.zeroCells43 43 (0, 0)) ∧ w.heap.size ≤ b5 → W.heap[b6]? = some (.cells Try.zeroCells43 43 (0, 0)) ∧ w.heap.size ≤ b6 → b5 ≠ b6 → G (Chg (fun k => k = b5 ∨ k = b6) W) 8 #[true, true, false, false, false, true, true, false, false, false, true, true, false, false] ⟨#[.agg A.cells.toArray, .agg B.cells.toArray, .pointer (some ⟨B0, 0, none⟩), .pointer (some ⟨B1, 0, none⟩), .bool false, .pointer (some ⟨b5, 0, none⟩), .pointer (some ⟨b6, 0, none⟩), .agg A.cells.toArray, v8, undef, undef, undef, .agg B.cells.toArray, v13, undef, undef, undef, undef, undef, undef, undef, undef, undef, undef, undef, undef, undef, undef, undef, undef, undef, undef, undef, undef, undef, undef, undef, undef, undef, undef, undef, undef, undef], []⟩ W := by
    intro W v8 v13 b5 b6 hA hB hW h8 h13 h5 h6 hne
    rw [hG]
    refine wpAnyH_do (i := 2) (by kernel_rfl) rfl rfl (fun K hK => ?_)
    go_simp
    go_at_call 16
    refine (rows_any _ [A] h8).mono ?_
    rintro e Wn ⟨xv, M, rfl, ho, ht, hb⟩
    obtain ⟨r, rfl, hr⟩ := row_of_one ht
    obtain ⟨xa, xc, rfl⟩ := ho.own.form
    obtain ⟨xg, rfl⟩ := ho.own.addr1
    have hxg := (ho.own.lt (k := xg) rfl)
    obtain ⟨g', o', e', _, hrr⟩ := ho.at_.l.get (i := 0) (by simp)
    cases e'
    have hxr : Wn.rangeAt xg 0 r.cells := by
      have h1 : Wn.rangeAt xg (0 + 0 * 83) r.cells := hrr
      simpa using h1
    clear ho hrr ht
    have hlb5 := (Array.getElem?_eq_some_iff.1 h5.1).1
    have hlb6 := (Array.getElem?_eq_some_iff.1 h6.1).1
    refine hK _ _ (Chg.of_below hb) ?_
    clear hK K
    try simp only [Act.put, List.setIfInBounds_toArray, List.set_cons_zero, List.set_cons_succ]
    refine wpAnyH_mono (S' := Chg (fun k => k = b5 ∨ k = b6) Wn) (fun x hx => (Chg.of_below hb).trans hx (fun j hj => .inl hj)) _ _ _ _ ?_
    have hS9 : Chg (fun k => k = b5 ∨ k = b6) Wn Wn := Chg.refl _ _
    refine wpAnyH_takeI (i := 3) (v := .pointer (some ⟨xg, 0, none⟩)) rfl (by kernel_rfl) (by kernel_rfl) (by kernel_rfl) (fun _ _ _ h => h) (yieldsIf_run rfl (fun w' hw' => ?y3)) hS9 ?_
    case y3 => first | (go_simp; rfl) | (go_simp; done) | rfl
    simp only [Act.put, List.setIfInBounds_toArray, List.set_cons_zero, List.set_cons_succ]
    refine wpAnyH_takeI (i := 4) (v := .agg r.cells.toArray) rfl (by kernel_rfl) (by kernel_rfl) (by kernel_rfl) (fun _ _ _ h => h) (yieldsIf_load_mid rfl 43 (.tmp 10) rfl xg 0 rfl r.cells _ (fun w' hw' => range_block' hxr hw' hxg.2 (fun h => by first | exact h.elim | (rcases h with h | h <;> omega) | omega)) Try.underlying43 rfl (sizeRow r)) hS9 ?_
    simp only [Act.put, List.setIfInBounds_toArray, List.set_cons_zero, List.set_cons_succ]
    have hn := st_1_2_6_10_11 Wn v8 (.slice (some ⟨xg, 0, none⟩) 1 xc) (.pointer (some ⟨xg, 0, none⟩)) r v13 b5 b6 (hA.below hb) (hB.below hb) (hW.trans (hb.mono hW.size)) hr (h13.below hb) ⟨(hb.block _ (Array.getElem?_eq_some_iff.1 h5.1).1).trans h5.1, h5.2⟩ ⟨(hb.block _ (Array.getElem?_eq_some_iff.1 h6.1).1).trans h6.1, h6.2⟩ hne
    rw [hG] at hn
    exact hn
  have st_1_2_6 : ∀ (W : World) (v8 : Value) (x9 : Value) (x10 : Value) (r : RowV) (v13 : Value), ListAt u8E W A.rv A.refs → ListAt u8E W B.rv B.refs → Below w.heap.size w W → r.tw = rawTw A → RawsAt W v13 [B] → G (Chg (fun _ => False) W) 7 #[true, true, true, true, true, true, true, false, false, false, false, false, false, false] ⟨#[.agg A.cells.toArray, .agg B.cells.toArray, .pointer (some ⟨B0, 0, none⟩), .pointer (some ⟨B1, 0, none⟩), .bool false, undef, undef, .agg A.cells.toArray, v8, x9, x10, .agg r.cells.toArray, .agg B.cells.toArray, v13, undef, undef, undef, undef, undef, undef, undef, undef, undef, undef, undef, undef, undef, undef, undef, undef, undef, undef, undef, undef, undef, undef, undef, undef, undef, undef, undef, undef, undef], []⟩ W := by
    intro W v8 x9 x10 r v13 hA hB hW hr h13
    rw [hG]
    refine wpAnyH_three (i := 7) (j := 10) (l := 11) (by kernel_rfl) rfl rfl rfl rfl rfl rfl (fun K hK => ?_) (fun K hK => ?_) (fun K hK => ?_)
    · go_simp
      go_at_call 16
      refine (rows_any _ [B] h13).mono ?_
      rintro e Wn ⟨xv, M, rfl, ho, ht, hb⟩
      obtain ⟨q, rfl, hq⟩ := row_of_one ht
      obtain ⟨xa, xc, rfl⟩ := ho.own.form
      obtain ⟨xg, rfl⟩ := ho.own.addr1
      have hxg := (ho.own.lt (k := xg) rfl)
      obtain ⟨g', o', e', _, hrr⟩ := ho.at_.l.get (i := 0) (by simp)
      cases e'
      have hxr : Wn.rangeAt xg 0 q.cells := by
        have h1 : Wn.rangeAt xg (0 + 0 * 83) q.cells := hrr
        simpa using h1
      clear ho hrr ht
      refine hK _ _ (Chg.of_below hb) ?_
      clear hK K
      try simp only [Act.put, List.setIfInBounds_toArray, List.set_cons_zero, List.set_cons_succ]
      refine wpAnyH_mono (S' := Chg (fun _ => False) Wn) (fun x hx => (Chg.of_below hb).trans hx (fun j hj => .inl hj)) _ _ _ _ ?_
      have hS9 : Chg (fun _ => False) Wn Wn := Chg.refl _ _
      refine wpAnyH_takeI (i := 8) (v := .pointer (some ⟨xg, 0, none⟩)) rfl (by kernel_rfl) (by kernel_rfl) (by kernel_rfl) (fun _ _ _ h => h) (yieldsIf_run rfl (fun w' hw' => ?y8)) hS9 ?_
      case y8 => first | (go_simp; rfl) | (go_simp; done) | rfl
      simp only [Act.put, List.setIfInBounds_toArray, List.set_cons_zero, List.set_cons_succ]
      refine wpAnyH_takeI (i := 9) (v := .agg q.cells.toArray) rfl (by kernel_rfl) (by kernel_rfl) (by kernel_rfl) (fun _ _ _ h => h) (yieldsIf_load_mid rfl 43 (.tmp 15) rfl xg 0 rfl q.cells _ (fun w' hw' => range_block' hxr hw' hxg.2 (fun h => by first | exact h.elim | (rcases h with h | h <;> omega) | omega)) Try.underlying43 rfl (sizeRow q)) hS9 ?_
      simp only [Act.put, List.setIfInBounds_toArray, List.set_cons_zero, List.set_cons_succ]
      have hn := st_1_2_6_7 Wn v8 x9 x10 r v13 (.slice (some ⟨xg, 0, none⟩) 1 xc) (.pointer (some ⟨xg, 0, none⟩)) q (hA.below hb) (hB.below hb) (hW.trans (hb.mono hW.size)) hr hq
      rw [hG] at hn
      exact hn
    · refine wp_newV (some 5) rfl 43 rfl Try.zeroCells43 83 (by kernel_rfl) ?_
      intro Wn xn hb sn
      refine hK _ _ (Chg.of_below hb) ?_
      clear hK K
      try simp only [Act.put, List.setIfInBounds_toArray, List.set_cons_zero, List.set_cons_succ]
      have hnew := hW.size
      have hn := st_1_2_6_10 Wn v8 x9 x10 r v13 _ (hA.below hb) (hB.below hb) (hW.trans (hb.mono hW.size)) hr (h13.below hb) ⟨xn, hW.size⟩
      rw [hG] at hn
      exact wpAnyH_mono (fun x hx => (Chg.of_below hb).trans hx (fun j hj => by first | exact .inl hj | (rcases hj with rfl | rfl <;> first | exact .inr (by omega) | exact .inl rfl | exact .inl (.inl rfl) | exact .inl (.inr rfl)) | (subst hj; exact .inr (by omega)) | exact hj.elim)) _ _ _ _ hn
    · refine wp_newV (some 6) rfl 43 rfl Try.zeroCells43 83 (by kernel_rfl) ?_
      intro Wn xn hb sn
      refine hK _ _ (Chg.of_below hb) ?_
      clear hK K
      try simp only [Act.put, List.setIfInBounds_toArray, List.set_cons_zero, List.set_cons_succ]
      have hnew := hW.size
      have hn := st_1_2_6_11 Wn v8 x9 x10 r v13 _ (hA.below hb) (hB.below hb) (hW.trans (hb.mono hW.size)) hr (h13.below hb) ⟨xn, hW.size⟩
      rw [hG] at hn
      exact wpAnyH_mono (fun x hx => (Chg.of_below hb).trans hx (fun j hj => by first | exact .inl hj | (rcases hj with rfl | rfl <;> first | exact .inr (by omega) | exact .inl rfl | exact .inl (.inl rfl) | exact .inl (.inr rfl)) | (subst hj; exact .inr (by omega)) | exact hj.elim)) _ _ _ _ hn
  have st_1_2_10 : ∀ (W : World) (v8 : Value) (x9 : Value) (x10 : Value) (r : RowV) (b5 : Nat), ListAt u8E W A.rv A.refs → ListAt u8E W B.rv B.refs → Below w.heap.size w W → r.tw = rawTw A → W.heap[b5]? = some (.cells Try.zeroCells43 43 (0, 0)) ∧ w.heap.size ≤ b5 → G (Chg (fun k => k = b5) W) 7 #[true, true, true, true, true, true, false, false, false, false, true, false, false, false] ⟨#[.agg A.cells.toArray, .agg B.cells.toArray, .pointer (some ⟨B0, 0, none⟩), .pointer (some ⟨B1, 0, none⟩), .bool false, .pointer (some ⟨b5, 0, none⟩), undef, .agg A.cells.toArray, v8, x9, x10, .agg r.cells.toArray, .agg B.cells.toArray, undef, undef, undef, undef, undef, undef, undef, undef, undef, undef, undef, undef, undef, undef, undef, undef, undef, undef, undef, undef, undef, undef, undef, undef, undef, undef, undef, undef, undef, undef], []⟩ W := by
    intro W v8 x9 x10 r b5 hA hB hW hr h5
    rw [hG]
    refine wpAnyH_two (i := 6) (j := 11) (by kernel_rfl) rfl rfl rfl rfl (fun K hK => ?_) (fun K hK => ?_)
    · refine wp_lit1 22 51 (.tmp 12) rfl (rawE.enc B).toArray rfl Try.underlying22 (sizeRawE B) (by kernel_rfl) (by rw [sizeRaw3]; decide) (by rw [sizeRaw3]; decide) ?_
      obtain ⟨Wn, hwn⟩ : ∃ Wn, W.alloc (.cells (rawE.enc B).toArray 51) = Wn := ⟨_, rfl⟩
      have hb : Below W.heap.size W Wn := hwn ▸ one_below rawE W B
      have hL : Wn.heap[W.heap.size]? = some (.cells (rawE.enc B).toArray 51 (0, 0)) := by rw [← hwn]; exact heap_alloc_new _ _
      rw [hwn]
      clear hwn
      refine hK _ _ (Chg.of_below hb) ?_
      clear hK K
      try simp only [Act.put, List.setIfInBounds_toArray, List.set_cons_zero, List.set_cons_succ]
      have hn := st_1_2_6_10 Wn v8 x9 x10 r _ b5 (hA.below hb) (hB.below hb) (hW.trans (hb.mono hW.size)) hr (lit_raw (W := W) hL (hB.below hb)) ⟨(hb.block _ (Array.getElem?_eq_some_iff.1 h5.1).1).trans h5.1, h5.2⟩
      rw [hG] at hn
      exact wpAnyH_mono (fun x hx => (Chg.of_below hb).trans hx (fun j hj => by first | exact .inl hj | (rcases hj with rfl | rfl <;> first | exact .inr (by omega) | exact .inl rfl | exact .inl (.inl rfl) | exact .inl (.inr rfl)) | (subst hj; exact .inr (by omega)) | exact hj.elim)) _ _ _ _ hn
    · refine wp_newV (some 6) rfl 43 rfl Try.zeroCells43 83 (by kernel_rfl) ?_
      intro Wn xn hb sn
      refine hK _ _ (Chg.of_below hb) ?_
      clear hK K
      try simp only [Act.put, List.setIfInBounds_toArray, List.set_cons_zero, List.set_cons_succ]
      have hnew := hW.size
      have hlt := (Array.getElem?_eq_some_iff.1 h5.1).1
      have hn := st_1_2_10_11 Wn v8 x9 x10 r b5 _ (hA.below hb) (hB.below hb) (hW.trans (hb.mono hW.size)) hr ⟨(hb.block _ (Array.getElem?_eq_some_iff.1 h5.1).1).trans h5.1, h5.2⟩ ⟨xn, hW.size⟩ (by omega)
      rw [hG] at hn
      exact wpAnyH_mono (fun x hx => (Chg.of_below hb).trans hx (fun j hj => by first | exact .inl hj | (rcases hj with rfl | rfl <;> first | exact .inr (by omega) | exact .inl rfl | exact .inl (.inl rfl) | exact .inl (.inr rfl)) | (subst hj; exact .inr (by omega)) | exact hj.elim)) _ _ _ _ hn
  have st_1_2_11 : ∀ (W : World) (v8 : Value) (x9 : Value) (x10 : Value) (r : RowV) (b6 : Nat), ListAt u8E W A.rv A.refs → ListAt u8E W B.rv B.refs → Below w.heap.size w W → r.tw = rawTw A → W.heap[b6]? = some (.cells Try.zeroCells43 43 (0, 0)) ∧ w.heap.size ≤ b6 → G (Chg (fun k => k = b6) W) 7 #[true, true, true, true, true, true, false, false, false, false, false, true, false, false] ⟨#[.agg A.cells.toArray, .agg B.cells.toArray, .pointer (some ⟨B0, 0, none⟩), .pointer (some ⟨B1, 0, none⟩), .bool false, undef, .pointer (some ⟨b6, 0, none⟩), .agg A.cells.toArray, v8, x9, x10, .agg r.cells.toArray, .agg B.cells.toArray, undef, undef, undef, undef, undef, undef, undef, undef, undef, undef, undef, undef, undef, undef, undef, undef, undef, undef, undef, undef, undef, undef, undef, undef, undef, undef, undef, undef, undef, undef], []⟩ W := by
    intro W v8 x9 x10 r b6 hA hB hW hr h6
    rw [hG]
    refine wpAnyH_two (i := 6) (j := 10) (by kernel_rfl) rfl rfl rfl rfl (fun K hK => ?_) (fun K hK => ?_)
    · refine wp_lit1 22 51 (.tmp 12) rfl (rawE.enc B).toArray rfl Try.underlying22 (sizeRawE B) (by kernel_rfl) (by rw [sizeRaw3]; decide) (by rw [sizeRaw3]; decide) ?_
      obtain ⟨Wn, hwn⟩ : ∃ Wn, W.alloc (.cells (rawE.enc B).toArray 51) = Wn := ⟨_, rfl⟩
      have hb : Below W.heap.size W Wn := hwn ▸ one_below rawE W B
      have hL : Wn.heap[W.heap.size]? = some (.cells (rawE.enc B).toArray 51 (0, 0)) := by rw [← hwn]; exact heap_alloc_new _ _
      rw [hwn]
      clear hwn
      refine hK _ _ (Chg.of_below hb) ?_
      clear hK K
      try simp only [Act.put, List.setIfInBounds_toArray, List.set_cons_zero, List.set_cons_succ]
      have hn := st_1_2_6_11 Wn v8 x9 x10 r _ b6 (hA.below hb) (hB.below hb) (hW.trans (hb.mono hW.size)) hr (lit_raw (W := W) hL (hB.below hb)) ⟨(hb.block _ (Array.getElem?_eq_some_iff.1 h6.1).1).trans h6.1, h6.2⟩
      rw [hG] at hn
      exact wpAnyH_mono (fun x hx => (Chg.of_below hb).trans hx (fun j hj => by first | exact .inl hj | (rcases hj with rfl | rfl <;> first | exact .inr (by omega) | exact .inl rfl | exact .inl (.inl rfl) | exact .inl (.inr rfl)) | (subst hj; exact .inr (by omega)) | exact hj.elim)) _ _ _ _ hn
    · refine wp_newV (some 5) rfl 43 rfl Try.zeroCells43 83 (by kernel_rfl) ?_
      intro Wn xn hb sn
      refine hK _ _ (Chg.of_below hb) ?_
      clear hK K
      try simp only [Act.put, List.setIfInBounds_toArray, List.set_cons_zero, List.set_cons_succ]
      have hnew := hW.size
      have hlt := (Array.getElem?_eq_some_iff.1 h6.1).1
      have hn := st_1_2_10_11 Wn v8 x9 x10 r _ b6 (hA.below hb) (hB.below hb) (hW.trans (hb.mono hW.size)) hr ⟨xn, hW.size⟩ ⟨(hb.block _ (Array.getElem?_eq_some_iff.1 h6.1).1).trans h6.1, h6.2⟩ (by omega)
      rw [hG] at hn
      exact wpAnyH_mono (fun x hx => (Chg.of_below hb).trans hx (fun j hj => by first | exact .inl hj | (rcases hj with rfl | rfl <;> first | exact .inr (by omega) | exact .inl rfl | exact .inl (.inl rfl) | exact .inl (.inr rfl)) | (subst hj; exact .inr (by omega)) | exact hj.elim)) _ _ _ _ hn
  have st_1_6_10 : ∀ (W : World) (v8 : Value) (v13 : Value) (b5 : Nat), ListAt u8E W A.rv A.refs → ListAt u8E W B.rv B.refs → Below w.heap.size w W → RawsAt W v8 [A] → RawsAt W v13 [B] → W.heap[b5]? = some (.cells Try.zeroCells43 43 (0, 0)) ∧ w.heap.size ≤ b5 → G (Chg (fun k => k = b5) W) 9 #[true, true, false, false, false, true, true, false, false, false, true, false, false, false] ⟨#[.agg A.cells.toArray, .agg B.cells.toArray, .pointer (some ⟨B0, 0, none⟩), .pointer (some ⟨B1, 0, none⟩), .bool false, .pointer (some ⟨b5, 0, none⟩), undef, .agg A.cells.toArray, v8, undef, undef, undef, .agg B.cells.toArray, v13, undef, undef, undef, undef, undef, undef, undef, undef, undef, undef, undef, undef, undef, undef, undef, undef, undef, undef, undef, undef, undef, undef, undef, undef, undef, undef, undef, undef, undef], []⟩ W := by
    intro W v8 v13 b5 hA hB hW h8 h13 h5
    rw [hG]
    refine wpAnyH_two (i := 2) (j := 11) (by kernel_rfl) rfl rfl rfl rfl (fun K hK => ?_) (fun K hK => ?_)
    · go_simp
      go_at_call 16
      refine (rows_any _ [A] h8).mono ?_
      rintro e Wn ⟨xv, M, rfl, ho, ht, hb⟩
      obtain ⟨r, rfl, hr⟩ := row_of_one ht
      obtain ⟨xa, xc, rfl⟩ := ho.own.form
      obtain ⟨xg, rfl⟩ := ho.own.addr1
      have hxg := (ho.own.lt (k := xg) rfl)
      obtain ⟨g', o', e', _, hrr⟩ := ho.at_.l.get (i := 0) (by simp)
      cases e'
      have hxr : Wn.rangeAt xg 0 r.cells := by
        have h1 : Wn.rangeAt xg (0 + 0 * 83) r.cells := hrr
        simpa using h1
      clear ho hrr ht
      have hlb5 := (Array.getElem?_eq_some_iff.1 h5.1).1
      refine hK _ _ (Chg.of_below hb) ?_
      clear hK K
      try simp only [Act.put, List.setIfInBounds_toArray, List.set_cons_zero, List.set_cons_succ]
      refine wpAnyH_mono (S' := Chg (fun k => k = b5) Wn) (fun x hx => (Chg.of_below hb).trans hx (fun j hj => .inl hj)) _ _ _ _ ?_
      have hS9 : Chg (fun k => k = b5) Wn Wn := Chg.refl _ _
      refine wpAnyH_takeI (i := 3) (v := .pointer (some ⟨xg, 0, none⟩)) rfl (by kernel_rfl) (by kernel_rfl) (by kernel_rfl) (fun _ _ _ h => h) (yieldsIf_run rfl (fun w' hw' => ?y3)) hS9 ?_
      case y3 => first | (go_simp; rfl) | (go_simp; done) | rfl
      simp only [Act.put, List.setIfInBounds_toArray, List.set_cons_zero, List.set_cons_succ]
      refine wpAnyH_takeI (i := 4) (v := .agg r.cells.toArray) rfl (by kernel_rfl) (by kernel_rfl) (by kernel_rfl) (fun _ _ _ h => h) (yieldsIf_load_mid rfl 43 (.tmp 10) rfl xg 0 rfl r.cells _ (fun w' hw' => range_block' hxr hw' hxg.2 (fun h => by first | exact h.elim | (rcases h with h | h <;> omega) | omega)) Try.underlying43 rfl (sizeRow r)) hS9 ?_
      simp only [Act.put, List.setIfInBounds_toArray, List.set_cons_zero, List.set_cons_succ]
      have hn := st_1_2_6_10 Wn v8 (.slice (some ⟨xg, 0, none⟩) 1 xc) (.pointer (some ⟨xg, 0, none⟩)) r v13 b5 (hA.below hb) (hB.below hb) (hW.trans (hb.mono hW.size)) hr (h13.below hb) ⟨(hb.block _ (Array.getElem?_eq_some_iff.1 h5.1).1).trans h5.1, h5.2⟩
      rw [hG] at hn
      exact hn
    · refine wp_newV (some 6) rfl 43 rfl Try.zeroCells43 83 (by kernel_rfl) ?_
      intro Wn xn hb sn
      refine hK _ _ (Chg.of_below hb) ?_
      clear hK K
      try simp only [Act.put, List.setIfInBounds_toArray, List.set_cons_zero, List.set_cons_succ]
      have hnew := hW.size
      have hlt := (Array.getElem?_eq_some_iff.1 h5.1).1
      have hn := st_1_6_10_11 Wn v8 v13 b5 _ (hA.below hb) (hB.below hb) (hW.trans (hb.mono hW.size)) (h8.below hb) (h13.below hb) ⟨(hb.block _ (Array.getElem?_eq_some_iff.1 h5.1).1).trans h5.1, h5.2⟩ ⟨xn, hW.size⟩ (by omega)
      rw [hG] at hn
      exact wpAnyH_mono (fun x hx => (Chg.of_below hb).trans hx (fun j hj => by first | exact .inl hj | (rcases hj with rfl | rfl <;> first | exact .inr (by omega) | exact .inl rfl | exact .inl (.inl rfl) | exact .inl (.inr rfl)) | (subst hj; exact .inr (by omega)) | exact hj.elim)) _ _ _ _ hn
  have st_1_6_11 : ∀ (W : World) (v8 : Value) (v13 : Value) (b6 : Nat), ListAt u8E W A.rv A.refs → ListAt u8E W B.rv B.refs → Below w.heap.size w W → RawsAt W v8 [A] → RawsAt W v13 [B] → W.heap[b6]? = some (.cells Try.zeroCells43 43 (0, 0)) ∧ w.heap.size ≤ b6 → G (Chg (fun k => k = b6) W) 9 #[true, true, false, false, false, true, true, false, false, false, false, true, false, false] ⟨#[.agg A.cells.toArray, .agg B.cells.toArray, .pointer (some ⟨B0, 0, none⟩), .pointer (some ⟨B1, 0, none⟩), .bool false, undef, .pointer (some ⟨b6, 0, none⟩), .agg A.cells.toArray, v8, undef, undef, undef, .agg B.cells.toArray, v13, undef, undef, undef, undef, undef, undef, undef, undef, undef, undef, undef, undef, undef, undef, undef, undef, undef, undef, undef, undef, undef, undef, undef, undef, undef, undef, undef, undef, undef], []⟩ W := by
    intro W v8 v13 b6 hA hB hW h8 h13 h6
    rw [hG]
    refine wpAnyH_two (i := 2) (j := 10) (by kernel_rfl) rfl rfl rfl rfl (fun K hK => ?_) (fun K hK => ?_)
    · go_simp
      go_at_call 16
      refine (rows_any _ [A] h8).mono ?_
      rintro e Wn ⟨xv, M, rfl, ho, ht, hb⟩
      obtain ⟨r, rfl, hr⟩ := row_of_one ht
      obtain ⟨xa, xc, rfl⟩ := ho.own.form
      obtain ⟨xg, rfl⟩ := ho.own.addr1
      have hxg := (ho.own.lt (k := xg) rfl)
      obtain ⟨g', o', e', _, hrr⟩ := ho.at_.l.get (i := 0) (by simp)
      cases e'
      have hxr : Wn.rangeAt xg 0 r.cells := by
        have h1 : Wn.rangeAt xg (0 + 0 * 83) r.cells := hrr
        simpa using h1
      clear ho hrr ht
      have hlb6 := (Array.getElem?_eq_some_iff.1 h6.1).1
      refine hK _ _ (Chg.of_below hb) ?_
      clear hK K
      try simp only [Act.put, List.setIfInBounds_toArray, List.set_cons_zero, List.set_cons_succ]
      refine wpAnyH_mono (S' := Chg (fun k => k = b6) Wn) (fun x hx => (Chg.of_below hb).trans hx (fun j hj => .inl hj)) _ _ _ _ ?_
      have hS9 : Chg (fun k => k = b6) Wn Wn := Chg.refl _ _
      refine wpAnyH_takeI (i := 3) (v := .pointer (some ⟨xg, 0, none⟩)) rfl (by kernel_rfl) (by kernel_rfl) (by kernel_rfl) (fun _ _ _ h => h) (yieldsIf_run rfl (fun w' hw' => ?y3)) hS9 ?_
      case y3 => first | (go_simp; rfl) | (go_simp; done) | rfl
      simp only [Act.put, List.setIfInBounds_toArray, List.set_cons_zero, List.set_cons_succ]
      refine wpAnyH_takeI (i := 4) (v := .agg r.cells.toArray) rfl (by kernel_rfl) (by kernel_rfl) (by kernel_rfl) (fun _ _ _ h => h) (yieldsIf_load_mid rfl 43 (.tmp 10) rfl xg 0 rfl r.cells _ (fun w' hw' => range_block' hxr hw' hxg.2 (fun h => by first | exact h.elim | (rcases h with h | h <;> omega) | omega)) Try.underlying43 rfl (sizeRow r)) hS9 ?_
      simp only [Act.put, List.setIfInBounds_toArray, List.set_cons_zero, List.set_cons_succ]
      have hn := st_1_2_6_11 Wn v8 (.slice (some ⟨xg, 0, none⟩) 1 xc) (.pointer (some ⟨xg, 0, none⟩)) r v13 b6 (hA.below hb) (hB.below hb) (hW.trans (hb.mono hW.size)) hr (h13.below hb) ⟨(hb.block _ (Array.getElem?_eq_some_iff.1 h6.1).1).trans h6.1, h6.2⟩
      rw [hG] at hn
      exact hn
    · refine wp_newV (some 5) rfl 43 rfl Try.zeroCells43 83 (by kernel_rfl) ?_
      intro Wn xn hb sn
      refine hK _ _ (Chg.of_below hb) ?_
      clear hK K
      try simp only [Act.put, List.setIfInBounds_toArray, List.set_cons_zero, List.set_cons_succ]
      have hnew := hW.size
      have hlt := (Array.getElem?_eq_some_iff.1 h6.1).1
      have hn := st_1_6_10_11 Wn v8 v13 _ b6 (hA.below hb) (hB.below hb) (hW.trans (hb.mono hW.size)) (h8.below hb) (h13.below hb) ⟨xn, hW.size⟩ ⟨(hb.block _ (Array.getElem?_eq_some_iff.1 h6.1).1).trans h6.1, h6.2⟩ (by omega)
      rw [hG] at hn
      exact wpAnyH_mono (fun x hx => (Chg.of_below hb).trans hx (fun j hj => by first | exact .inl hj | (rcases hj with rfl | rfl <;> first | exact .inr (by omega) | exact .inl rfl | exact .inl (.inl rfl) | exact .inl (.inr rfl)) | (subst hj; exact .inr (by omega)) | exact hj.elim)) _ _ _ _ hn
  have st_1_10_11 : ∀ (W : World) (v8 : Value) (b5 : Nat) (b6 : Nat), ListAt u8E W A.rv A.refs → ListAt u8E W B.rv B.refs → Below w.heap.size w W → RawsAt W v8 [A] → W.heap[b5]? = some (.cells Try.zeroCells43 43 (0, 0)) ∧ w.heap.size ≤ b5 → W.heap[b6]? = some (.cells Try.zeroCells43 43 (0, 0)) ∧ w.heap.size ≤ b6 → b5 ≠ b6 → G (Chg (fun k => k = b5 ∨ k = b6) W) 9 #[true, true, false, false, false, true, false, false, false, false, true, true, false, false] ⟨#[.agg A.cells.toArray, .agg B.cells.toArray, .pointer (some ⟨B0, 0, none⟩), .pointer (some ⟨B1, 0, none⟩), .bool false, .pointer (some ⟨b5, 0, none⟩), .pointer (some ⟨b6, 0, none⟩), .agg A.cells.toArray, v8, undef, undef, undef, .agg B.cells.toArray, undef, undef, undef, undef, undef, undef, undef, undef, undef, undef, undef, undef, undef, undef, undef, undef, undef, undef, undef, undef, undef, undef, undef, undef, undef, undef, undef, undef, undef, undef], []⟩ W := by
    intro W v8 b5 b6 hA hB hW h8 h5 h6 hne
    rw [hG]
    refine wpAnyH_two (i := 2) (j := 6) (by kernel_rfl) rfl rfl rfl rfl (fun K hK => ?_) (fun K hK => ?_)
    · go_simp
      go_at_call 16
      refine (rows_any _ [A] h8).mono ?_
      rintro e Wn ⟨xv, M, rfl, ho, ht, hb⟩
      obtain ⟨r, rfl, hr⟩ := row_of_one ht
      obtain ⟨xa, xc, rfl⟩ := ho.own.form
      obtain ⟨xg, rfl⟩ := ho.own.addr1
      have hxg := (ho.own.lt (k := xg) rfl)
      obtain ⟨g', o', e', _, hrr⟩ := ho.at_.l.get (i := 0) (by simp)
      cases e'
      have hxr : Wn.rangeAt xg 0 r.cells := by
        have h1 : Wn.rangeAt xg (0 + 0 * 83) r.cells := hrr
        simpa using h1
      clear ho hrr ht
      have hlb5 := (Array.getElem?_eq_some_iff.1 h5.1).1
      have hlb6 := (Array.getElem?_eq_some_iff.1 h6.1).1
      refine hK _ _ (Chg.of_below hb) ?_
      clear hK K
      try simp only [Act.put, List.setIfInBounds_toArray, List.set_cons_zero, List.set_cons_succ]
      refine wpAnyH_mono (S' := Chg (fun k => k = b5 ∨ k = b6) Wn) (fun x hx => (Chg.of_below hb).trans hx (fun j hj => .inl hj)) _ _ _ _ ?_
      have hS9 : Chg (fun k => k = b5 ∨ k = b6) Wn Wn := Chg.refl _ _
      refine wpAnyH_takeI (i := 3) (v := .pointer (some ⟨xg, 0, none⟩)) rfl (by kernel_rfl) (by kernel_rfl) (by kernel_rfl) (fun _ _ _ h => h) (yieldsIf_run rfl (fun w' hw' => ?y3)) hS9 ?_
      case y3 => first | (go_simp; rfl) | (go_simp; done) | rfl
      simp only [Act.put, List.setIfInBounds_toArray, List.set_cons_zero, List.set_cons_succ]
      refine wpAnyH_takeI (i := 4) (v := .agg r.cells.toArray) rfl (by kernel_rfl) (by kernel_rfl) (by kernel_rfl) (fun _ _ _ h => h) (yieldsIf_load_mid rfl 43 (.tmp 10) rfl xg 0 rfl r.cells _ (fun w' hw' => range_block' hxr hw' hxg.2 (fun h => by first | exact h.elim | (rcases h with h | h <;> omega) | omega)) Try.underlying43 rfl (sizeRow r)) hS9 ?_
      simp only [Act.put, List.setIfInBounds_toArray, List.set_cons_zero, List.set_cons_succ]
      have hn := st_1_2_10_11 Wn v8 (.slice (some ⟨xg, 0, none⟩) 1 xc) (.pointer (some ⟨xg, 0, none⟩)) r b5 b6 (hA.below hb) (hB.below hb) (hW.trans (hb.mono hW.size)) hr ⟨(hb.block _ (Array.getElem?_eq_some_iff.1 h5.1).1).trans h5.1, h5.2⟩ ⟨(hb.block _ (Array.getElem?_eq_some_iff.1 h6.1).1).trans h6.1, h6.2⟩ hne
      rw [hG] at hn
      exact hn
    · refine wp_lit1 22 51 (.tmp 12) rfl (rawE.enc B).toArray rfl Try.underlying22 (sizeRawE B) (by kernel_rfl) (by rw [sizeRaw3]; decide) (by rw [sizeRaw3]; decide) ?_
      obtain ⟨Wn, hwn⟩ : ∃ Wn, W.alloc (.cells (rawE.enc B).toArray 51) = Wn := ⟨_, rfl⟩
      have hb : Below W.heap.size W Wn := hwn ▸ one_below rawE W B
      have hL : Wn.heap[W.heap.size]? = some (.cells (rawE.enc B).toArray 51 (0, 0)) := by rw [← hwn]; exact heap_alloc_new _ _
      rw [hwn]
      clear hwn
      refine hK _ _ (Chg.of_below hb) ?_
      clear hK K
      try simp only [Act.put, List.setIfInBounds_toArray, List.set_cons_zero, List.set_cons_succ]
      have hn := st_1_6_10_11 Wn v8 _ b5 b6 (hA.below hb) (hB.below hb) (hW.trans (hb.mono hW.size)) (h8.below hb) (lit_raw (W := W) hL (hB.below hb)) ⟨(hb.block _ (Array.getElem?_eq_some_iff.1 h5.1).1).trans h5.1, h5.2⟩ ⟨(hb.block _ (Array.getElem?_eq_some_iff.1 h6.1).1).trans h6.1, h6.2⟩ hne
      rw [hG] at hn
      exact wpAnyH_mono (fun x hx => (Chg.of_below hb).trans hx (fun j hj => by first | exact .inl hj | (rcases hj with rfl | rfl <;> first | exact .inr (by omega) | exact .inl rfl | exact .inl (.inl rfl) | exact .inl (.inr rfl)) | (subst hj; exact .inr (by omega)) | exact hj.elim)) _ _ _ _ hn
  have st_6_10_11 : ∀ (W : World) (v13 : Value) (b5 : Nat) (b6 : Nat), ListAt u8E W A.rv A.refs → ListAt u8E W B.rv B.refs → Below w.heap.size w W → RawsAt W v13 [B] → W.heap[b5]? = some (.cells Try.zeroCells43 43 (0, 0)) ∧ w.heap.size ≤ b5 → W.heap[b6]? = some (.cells Try.zeroCells43 43 (0, 0)) ∧ w.heap.size ≤ b6 → b5 ≠ b6 → G (Chg (fun k => k = b5 ∨ k = b6) W) 9 #[true, false, false, false, false, true, true, false, false, false, true, true, false, false] ⟨#[.agg A.cells.toArray, .agg B.cells.toArray, .pointer (some ⟨B0, 0, none⟩), .pointer (some ⟨B1, 0, none⟩), .bool false, .pointer (some ⟨b5, 0, none⟩), .pointer (some ⟨b6, 0, none⟩), .agg A.cells.toArray, undef, undef, undef, undef, .agg B.cells.toArray, v13, undef, undef, undef, undef, undef, undef, undef, undef, undef, undef, undef, undef, undef, undef, undef, undef, undef, undef, undef, undef, undef, undef, undef, undef, undef, undef, undef, undef, undef], []⟩ W := by
    intro W v13 b5 b6 hA hB hW h13 h5 h6 hne
    rw [hG]
    refine wpAnyH_do (i := 1) (by kernel_rfl) rfl rfl (fun K hK => ?_)
    refine wp_lit1 22 51 (.tmp 7) rfl (rawE.enc A).toArray rfl Try.underlying22 (sizeRawE A) (by kernel_rfl) (by rw [sizeRaw3]; decide) (by rw [sizeRaw3]; decide) ?_
    obtain ⟨Wn, hwn⟩ : ∃ Wn, W.alloc (.cells (rawE.enc A).toArray 51) = Wn := ⟨_, rfl⟩
    have hb : Below W.heap.size W Wn := hwn ▸ one_below rawE W A
    have hL : Wn.heap[W.heap.size]? = some (.cells (rawE.enc A).toArray 51 (0, 0)) := by rw [← hwn]; exact heap_alloc_new _ _
    rw [hwn]
    clear hwn
    refine hK _ _ (Chg.of_below hb) ?_
    clear hK K
    try simp only [Act.put, List.setIfInBounds_toArray, List.set_cons_zero, List.set_cons_succ]
    have hn := st_1_6_10_11 Wn _ v13 b5 b6 (hA.below hb) (hB.below hb) (hW.trans (hb.mono hW.size)) (lit_raw (W := W) hL (hA.below hb)) (h13.below hb) ⟨(hb.block _ (Array.getElem?_eq_some_iff.1 h5.1).1).trans h5.1, h5.2⟩ ⟨(hb.block _ (Array.getElem?_eq_some_iff.1 h6.1).1).trans h6.1, h6.2⟩ hne
    rw [hG] at hn
    exact wpAnyH_mono (fun x hx => (Chg.of_below hb).trans hx (fun j hj => by first | exact .inl hj | (rcases hj with rfl | rfl <;> first | exact .inr (by omega) | exact .inl rfl | exact .inl (.inl rfl) | exact .inl (.inr rfl)) | (subst hj; exact .inr (by omega)) | exact hj.elim)) _ _ _ _ hn
  have st_1_2 : ∀ (W : World) (v8 : Value) (x9 : Value) (x10 : Value) (r : RowV), ListAt u8E W A.rv A.refs → ListAt u8E W B.rv B.refs → Below w.heap.size w W → r.tw = rawTw A → G (Chg (fun _ => False) W) 8 #[true, true, true, true, true, true, false, false, false, false, false, false, false, false] ⟨#[.agg A.cells.toArray, .agg B.cells.toArray, .pointer (some ⟨B0, 0, none⟩), .pointer (some ⟨B1, 0, none⟩), .bool false, undef, undef, .agg A.cells.toArray, v8, x9, x10, .agg r.cells.toArray, .agg B.cells.toArray, undef, undef, undef, undef, undef, undef, undef, undef, undef, undef, undef, undef, undef, undef, undef, undef, undef, undef, undef, undef, undef, undef, undef, undef, undef, undef, undef, undef, undef, undef], []⟩ W := by
    intro W v8 x9 x10 r hA hB hW hr
    rw [hG]
    refine wpAnyH_three (i := 6) (j := 10) (l := 11) (by kernel_rfl) rfl rfl rfl rfl rfl rfl (fun K hK => ?_) (fun K hK => ?_) (fun K hK => ?_)
    · refine wp_lit1 22 51 (.tmp 12) rfl (rawE.enc B).toArray rfl Try.underlying22 (sizeRawE B) (by kernel_rfl) (by rw [sizeRaw3]; decide) (by rw [sizeRaw3]; decide) ?_
      obtain ⟨Wn, hwn⟩ : ∃ Wn, W.alloc (.cells (rawE.enc B).toArray 51) = Wn := ⟨_, rfl⟩
      have hb : Below W.heap.size W Wn := hwn ▸ one_below rawE W B
      have hL : Wn.heap[W.heap.size]? = some (.cells (rawE.enc B).toArray 51 (0, 0)) := by rw [← hwn]; exact heap_alloc_new _ _
      rw [hwn]
      clear hwn
      refine hK _ _ (Chg.of_below hb) ?_
      clear hK K
      try simp only [Act.put, List.setIfInBounds_toArray, List.set_cons_zero, List.set_cons_succ]
      have hn := st_1_2_6 Wn v8 x9 x10 r _ (hA.below hb) (hB.below hb) (hW.trans (hb.mono hW.size)) hr (lit_raw (W := W) hL (hB.below hb))
      rw [hG] at hn
      exact wpAnyH_mono (fun x hx => (Chg.of_below hb).trans hx (fun j hj => by first | exact .inl hj | (rcases hj with rfl | rfl <;> first | exact .inr (by omega) | exact .inl rfl | exact .inl (.inl rfl) | exact .inl (.inr rfl)) | (subst hj; exact .inr (by omega)) | exact hj.elim)) _ _ _ _ hn
    · refine wp_newV (some 5) rfl 43 rfl Try.zeroCells43 83 (by kernel_rfl) ?_
      intro Wn xn hb sn
      refine hK _ _ (Chg.of_below hb) ?_
      clear hK K
      try simp only [Act.put, List.setIfInBounds_toArray, List.set_cons_zero, List.set_cons_succ]
      have hnew := hW.size
      have hn := st_1_2_10 Wn v8 x9 x10 r _ (hA.below hb) (hB.below hb) (hW.trans (hb.mono hW.size)) hr ⟨xn, hW.size⟩
      rw [hG] at hn
      exact wpAnyH_mono (fun x hx => (Chg.of_below hb).trans hx (fun j hj => by first | exact .inl hj | (rcases hj with rfl | rfl <;> first | exact .inr (by omega) | exact .inl rfl | exact .inl (.inl rfl) | exact .inl (.inr rfl)) | (subst hj; exact .inr (by omega)) | exact hj.elim)) _ _ _ _ hn
    · refine wp_newV (some 6) rfl 43 rfl Try.zeroCells43 83 (by kernel_rfl) ?_
      intro Wn xn hb sn
      refine hK _ _ (Chg.of_below hb) ?_
      clear hK K
      try simp only [Act.put, List.setIfInBounds_toArray, List.set_cons_zero, List.set_cons_succ]
      have hnew := hW.size
      have hn := st_1_2_11 Wn v8 x9 x10 r _ (hA.below hb) (hB.below hb) (hW.trans (hb.mono hW.size)) hr ⟨xn, hW.size⟩
      rw [hG] at hn
      exact wpAnyH_mono (fun x hx => (Chg.of_below hb).trans hx (fun j hj => by first | exact .inl hj | (rcases hj with rfl | rfl <;> first | exact .inr (by omega) | exact .inl rfl | exact .inl (.inl rfl) | exact .inl (.inr rfl)) | (subst hj; exact .inr (by omega)) | exact hj.elim)) _ _ _ _ hn
  have st_1_6 : ∀ (W : World) (v8 : Value) (v13 : Value), ListAt u8E W A.rv A.refs → ListAt u8E W B.rv B.refs → Below w.heap.size w W → RawsAt W v8 [A] → RawsAt W v13 [B] → G (Chg (fun _ => False) W) 10 #[true, true, false, false, false, true, true, false, false, false, false, false, false, false] ⟨#[.agg A.cells.toArray, .agg B.cells.toArray, .pointer (some ⟨B0, 0, none⟩), .pointer (some ⟨B1, 0, none⟩), .bool false, undef, undef, .agg A.cells.toArray, v8, undef, undef, undef, .agg B.cells.toArray, v13, undef, undef, undef, undef, undef, undef, undef, undef, undef, undef, undef, undef, undef, undef, undef, undef, undef, undef, undef, undef, undef, undef, undef, undef, undef, undef, undef, undef, undef], []⟩ W := by
    intro W v8 v13 hA hB hW h8 h13
    rw [hG]
    refine wpAnyH_three (i := 2) (j := 10) (l := 11) (by kernel_rfl) rfl rfl rfl rfl rfl rfl (fun K hK => ?_) (fun K hK => ?_) (fun K hK => ?_)
    · go_simp
      go_at_call 16
      refine (rows_any _ [A] h8).mono ?_
      rintro e Wn ⟨xv, M, rfl, ho, ht, hb⟩
      obtain ⟨r, rfl, hr⟩ := row_of_one ht
      obtain ⟨xa, xc, rfl⟩ := ho.own.form
      obtain ⟨xg, rfl⟩ := ho.own.addr1
      have hxg := (ho.own.lt (k := xg) rfl)
      obtain ⟨g', o', e', _, hrr⟩ := ho.at_.l.get (i := 0) (by simp)
      cases e'
      have hxr : Wn.rangeAt xg 0 r.cells := by
        have h1 : Wn.rangeAt xg (0 + 0 * 83) r.cells := hrr
        simpa using h1
      clear ho hrr ht
      refine hK _ _ (Chg.of_below hb) ?_
      clear hK K
      try simp only [Act.put, List.setIfInBounds_toArray, List.set_cons_zero, List.set_cons_succ]
      refine wpAnyH_mono (S' := Chg (fun _ => False) Wn) (fun x hx => (Chg.of_below hb).trans hx (fun j hj => .inl hj)) _ _ _ _ ?_
      have hS9 : Chg (fun _ => False) Wn Wn := Chg.refl _ _
      refine wpAnyH_takeI (i := 3) (v := .pointer (some ⟨xg, 0, none⟩)) rfl (by kernel_rfl) (by kernel_rfl) (by kernel_rfl) (fun _ _ _ h => h) (yieldsIf_run rfl (fun w' hw' => ?y3)) hS9 ?_
      case y3 => first | (go_simp; rfl) | (go_simp; done) | rfl
      simp only [Act.put, List.setIfInBounds_toArray, List.set_cons_zero, List.set_cons_succ]
      refine wpAnyH_takeI (i := 4) (v := .agg r.cells.toArray) rfl (by kernel_rfl) (by kernel_rfl) (by kernel_rfl) (fun _ _ _ h => h) (yieldsIf_load_mid rfl 43 (.tmp 10) rfl xg 0 rfl r.cells _ (fun w' hw' => range_block' hxr hw' hxg.2 (fun h => by first | exact h.elim | (rcases h with h | h <;> omega) | omega)) Try.underlying43 rfl (sizeRow r)) hS9 ?_
      simp only [Act.put, List.setIfInBounds_toArray, List.set_cons_zero, List.set_cons_succ]
      have hn := st_1_2_6 Wn v8 (.slice (some ⟨xg, 0, none⟩) 1 xc) (.pointer (some ⟨xg, 0, none⟩)) r v13 (hA.below hb) (hB.below hb) (hW.trans (hb.mono hW.size)) hr (h13.below hb)
      rw [hG] at hn
      exact hn
    · refine wp_newV (some 5) rfl 43 rfl Try.zeroCells43 83 (by kernel_rfl) ?_
      intro Wn xn hb sn
      refine hK _ _ (Chg.of_below hb) ?_
      clear hK K
      try simp only [Act.put, List.setIfInBounds_toArray, List.set_cons_zero, List.set_cons_succ]
      have hnew := hW.size
      have hn := st_1_6_10 Wn v8 v13 _ (hA.below hb) (hB.below hb) (hW.trans (hb.mono hW.size)) (h8.below hb) (h13.below hb) ⟨xn, hW.size⟩
      rw [hG] at hn
      exact wpAnyH_mono (fun x hx => (Chg.of_below hb).trans hx (fun j hj => by first | exact .inl hj | (rcases hj with rfl | rfl <;> first | exact .inr (by omega) | exact .inl rfl | exact .inl (.inl rfl) | exact .inl (.inr rfl)) | (subst hj; exact .inr (by omega)) | exact hj.elim)) _ _ _ _ hn
    · refine wp_newV (some 6) rfl 43 rfl Try.zeroCells43 83 (by kernel_rfl) ?_
      intro Wn xn hb sn
      refine hK _ _ (Chg.of_below hb) ?_
      clear hK K
      try simp only [Act.put, List.setIfInBounds_toArray, List.set_cons_zero, List.set_cons_succ]
      have hnew := hW.size
      have hn := st_1_6_11 Wn v8 v13 _ (hA.below hb) (hB.below hb) (hW.trans (hb.mono hW.size)) (h8.below hb) (h13.below hb) ⟨xn, hW.size⟩
      rw [hG] at hn
      exact wpAnyH_mono (fun x hx => (Chg.of_below hb).trans hx (fun j hj => by first | exact .inl hj | (rcases hj with rfl | rfl <;> first | exact .inr (by omega) | exact .inl rfl | exact .inl (.inl rfl) | exact .inl (.inr rfl)) | (subst hj; exact .inr (by omega)) | exact hj.elim)) _ _ _ _ hn
  have st_1_10 : ∀ (W : World) (v8 : Value) (b5 : Nat), ListAt u8E W A.rv A.refs → ListAt u8E W B.rv B.refs → Below w.heap.size w W → RawsAt W v8 [A] → W.heap[b5]? = some (.cells Try.zeroCells43 43 (0, 0)) ∧ w.heap.size ≤ b5 → G (Chg (fun k => k = b5) W) 10 #[true, true, false, false, false, true, false, false, false, false, true, false, false, false] ⟨#[.agg A.cells.toArray, .agg B.cells.toArray, .pointer (some ⟨B0, 0, none⟩), .pointer (some ⟨B1, 0, none⟩), .bool false, .pointer (some ⟨b5, 0, none⟩), undef, .agg A.cells.toArray, v8, undef, undef, undef, .agg B.cells.toArray, undef, undef, undef, undef, undef, undef, undef, undef, undef, undef, undef, undef, undef, undef, undef, undef, undef, undef, undef, undef, undef, undef, undef, undef, undef, undef, undef, undef, undef, undef], []⟩ W := by
    intro W v8 b5 hA hB hW h8 h5
    rw [hG]
    refine wpAnyH_three (i := 2) (j := 6) (l := 11) (by kernel_rfl) rfl rfl rfl rfl rfl rfl (fun K hK => ?_) (fun K hK => ?_) (fun K hK => ?_)
    · go_simp
      go_at_call 16
      refine (rows_any _ [A] h8).mono ?_
      rintro e Wn ⟨xv, M, rfl, ho, ht, hb⟩
      obtain ⟨r, rfl, hr⟩ := row_of_one ht
      obtain ⟨xa, xc, rfl⟩ := ho.own.form
      obtain ⟨xg, rfl⟩ := ho.own.addr1
      have hxg := (ho.own.lt (k := xg) rfl)
      obtain ⟨g', o', e', _, hrr⟩ := ho.at_.l.get (i := 0) (by simp)
      cases e'
      have hxr : Wn.rangeAt xg 0 r.cells := by
        have h1 : Wn.rangeAt xg (0 + 0 * 83) r.cells := hrr
        simpa using h1
      clear ho hrr ht
      have hlb5 := (Array.getElem?_eq_some_iff.1 h5.1).1
      refine hK _ _ (Chg.of_below hb) ?_
      clear hK K
      try simp only [Act.put, List.setIfInBounds_toArray, List.set_cons_zero, List.set_cons_succ]
      refine wpAnyH_mono (S' := Chg (fun k => k = b5) Wn) (fun x hx => (Chg.of_below hb).trans hx (fun j hj => .inl hj)) _ _ _ _ ?_
      have hS9 : Chg (fun k => k = b5) Wn Wn := Chg.refl _ _
      refine wpAnyH_takeI (i := 3) (v := .pointer (some ⟨xg, 0, none⟩)) rfl (by kernel_rfl) (by kernel_rfl) (by kernel_rfl) (fun _ _ _ h => h) (yieldsIf_run rfl (fun w' hw' => ?y3)) hS9 ?_
      case y3 => first | (go_simp; rfl) | (go_simp; done) | rfl
      simp only [Act.put, List.setIfInBounds_toArray, List.set_cons_zero, List.set_cons_succ]
      refine wpAnyH_takeI (i := 4) (v := .agg r.cells.toArray) rfl (by kernel_rfl) (by kernel_rfl) (by kernel_rfl) (fun _ _ _ h => h) (yieldsIf_load_mid rfl 43 (.tmp 10) rfl xg 0 rfl r.cells _ (fun w' hw' => range_block' hxr hw' hxg.2 (fun h => by first | exact h.elim | (rcases h with h | h <;> omega) | omega)) Try.underlying43 rfl (sizeRow r)) hS9 ?_
      simp only [Act.put, List.setIfInBounds_toArray, List.set_cons_zero, List.set_cons_succ]
      have hn := st_1_2_10 Wn v8 (.slice (some ⟨xg, 0, none⟩) 1 xc) (.pointer (some ⟨xg, 0, none⟩)) r b5 (hA.below hb) (hB.below hb) (hW.trans (hb.mono hW.size)) hr ⟨(hb.block _ (Array.getElem?_eq_some_iff.1 h5.1).1).trans h5.1, h5.2⟩
      rw [hG] at hn
      exact hn
    · refine wp_lit1 22 51 (.tmp 12) rfl (rawE.enc B).toArray rfl Try.underlying22 (sizeRawE B) (by kernel_rfl) (by rw [sizeRaw3]; decide) (by rw [sizeRaw3]; decide) ?_
      obtain ⟨Wn, hwn⟩ : ∃ Wn, W.alloc (.cells (rawE.enc B).toArray 51) = Wn := ⟨_, rfl⟩
      have hb : Below W.heap.size W Wn := hwn ▸ one_below rawE W B
      have hL : Wn.heap[W.heap.size]? = some (.cells (rawE.enc B).toArray 51 (0, 0)) := by rw [← hwn]; exact heap_alloc_new _ _
      rw [hwn]
      clear hwn
      refine hK _ _ (Chg.of_below hb) ?_
      clear hK K
      try simp only [Act.put, List.setIfInBounds_toArray, List.set_cons_zero, List.set_cons_succ]
      have hn := st_1_6_10 Wn v8 _ b5 (hA.below hb) (hB.below hb) (hW.trans (hb.mono hW.size)) (h8.below hb) (lit_raw (W := W) hL (hB.below hb)) ⟨(hb.block _ (Array.getElem?_eq_some_iff.1 h5.1).1).trans h5.1, h5.2⟩
      rw [hG] at hn
      exact wpAnyH_mono (fun x hx => (Chg.of_below hb).trans hx (fun j hj => by first | exact .inl hj | (rcases hj with rfl | rfl <;> first | exact .inr (by omega) | exact .inl rfl | exact .inl (.inl rfl) | exact .inl (.inr rfl)) | (subst hj; exact .inr (by omega)) | exact hj.elim)) _ _ _ _ hn
    · refine wp_newV (some 6) rfl 43 rfl Try.zeroCells43 83 (by kernel_rfl) ?_
      intro Wn xn hb sn
      refine hK _ _ (Chg.of_below hb) ?_
      clear hK K
      try simp only [Act.put, List.setIfInBounds_toArray, List.set_cons_zero, List.set_cons_succ]
      have hnew := hW.size
      have hlt := (Array.getElem?_eq_some_iff.1 h5.1).1
      have hn := st_1_10_11 Wn v8 b5 _ (hA.below hb) (hB.below hb) (hW.trans (hb.mono hW.size)) (h8.below hb) ⟨(hb.block _ (Array.getElem?_eq_some_iff.1 h5.1).1).trans h5.1, h5.2⟩ ⟨xn, hW.size⟩ (by omega)
      rw [hG] at hn
      exact wpAnyH_mono (fun x hx => (Chg.of_below hb).trans hx (fun j hj => by first | exact .inl hj | (rcases hj with rfl | rfl <;> first | exact .inr (by omega) | exact .inl rfl | exact .inl (.inl rfl) | exact .inl (.inr rfl)) | (subst hj; exact .inr (by omega)) | exact hj.elim)) _ _ _ _ hn
  have st_1_11 : ∀ (W : World) (v8 : Value) (b6 : Nat), ListAt u8E W A.rv A.refs → ListAt u8E W B.rv B.refs → Below w.heap.size w W → RawsAt W v8 [A] → W.heap[b6]? = some (.cells Try.zeroCells43 43 (0, 0)) ∧ w.heap.size ≤ b6 → G (Chg (fun k => k = b6) W) 10 #[true, true, false, false, false, true, false, false, false, false, false, true, false, false] ⟨#[.agg A.cells.toArray, .agg B.cells.toArray, .pointer (some ⟨B0, 0, none⟩), .pointer (some ⟨B1, 0, none⟩), .bool false, undef, .pointer (some ⟨b6, 0, none⟩), .agg A.cells.toArray, v8, undef, undef, undef, .agg B.cells.toArray, undef, undef, undef, undef, undef, undef, undef, undef, undef, undef, undef, undef, undef, undef, undef, undef, undef, undef, undef, undef, undef, undef, undef, undef, undef, undef, undef, undef, undef, undef], []⟩ W := by
    intro W v8 b6 hA hB hW h8 h6
    rw [hG]
    refine wpAnyH_three (i := 2) (j := 6) (l := 10) (by kernel_rfl) rfl rfl rfl rfl rfl rfl (fun K hK => ?_) (fun K hK => ?_) (fun K hK => ?_)
    · go_simp
      go_at_call 16
      refine (rows_any _ [A] h8).mono ?_
      rintro e Wn ⟨xv, M, rfl, ho, ht, hb⟩
      obtain ⟨r, rfl, hr⟩ := row_of_one ht
      obtain ⟨xa, xc, rfl⟩ := ho.own.form
      obtain ⟨xg, rfl⟩ := ho.own.addr1
      have hxg := (ho.own.lt (k := xg) rfl)
      obtain ⟨g', o', e', _, hrr⟩ := ho.at_.l.get (i := 0) (by simp)
      cases e'
      have hxr : Wn.rangeAt xg 0 r.cells := by
        have h1 : Wn.rangeAt xg (0 + 0 * 83) r.cells := hrr
        simpa using h1
      clear ho hrr ht
      have hlb6 := (Array.getElem?_eq_some_iff.1 h6.1).1
      refine hK _ _ (Chg.of_below hb) ?_
      clear hK K
      try simp only [Act.put, List.setIfInBounds_toArray, List.set_cons_zero, List.set_cons_succ]
      refine wpAnyH_mono (S' := Chg (fun k => k = b6) Wn) (fun x hx => (Chg.of_below hb).trans hx (fun j hj => .inl hj)) _ _ _ _ ?_
      have hS9 : Chg (fun k => k = b6) Wn Wn := Chg.refl _ _
      refine wpAnyH_takeI (i := 3) (v := .pointer (some ⟨xg, 0, none⟩)) rfl (by kernel_rfl) (by kernel_rfl) (by kernel_rfl) (fun _ _ _ h => h) (yieldsIf_run rfl (fun w' hw' => ?y3)) hS9 ?_
      case y3 => first | (go_simp; rfl) | (go_simp; done) | rfl
      simp only [Act.put, List.setIfInBounds_toArray, List.set_cons_zero, List.set_cons_succ]
      refine wpAnyH_takeI (i := 4) (v := .agg r.cells.toArray) rfl (by kernel_rfl) (by kernel_rfl) (by kernel_rfl) (fun _ _ _ h => h) (yieldsIf_load_mid rfl 43 (.tmp 10) rfl xg 0 rfl r.cells _ (fun w' hw' => range_block' hxr hw' hxg.2 (fun h => by first | exact h.elim | (rcases h with h | h <;> omega) | omega)) Try.underlying43 rfl (sizeRow r)) hS9 ?_
      simp only [Act.put, List.setIfInBounds_toArray, List.set_cons_zero, List.set_cons_succ]
      have hn := st_1_2_11 Wn v8 (.slice (some ⟨xg, 0, none⟩) 1 xc) (.pointer (some ⟨xg, 0, none⟩)) r b6 (hA.below hb) (hB.below hb) (hW.trans (hb.mono hW.size)) hr ⟨(hb.block _ (Array.getElem?_eq_some_iff.1 h6.1).1).trans h6.1, h6.2⟩
      rw [hG] at hn
      exact hn
    · refine wp_lit1 22 51 (.tmp 12) rfl (rawE.enc B).toArray rfl Try.underlying22 (sizeRawE B) (by kernel_rfl) (by rw [sizeRaw3]; decide) (by rw [sizeRaw3]; decide) ?_
      obtain ⟨Wn, hwn⟩ : ∃ Wn, W.alloc (.cells (rawE.enc B).toArray 51) = Wn := ⟨_, rfl⟩
      have hb : Below W.heap.size W Wn := hwn ▸ one_below rawE W B
      have hL : Wn.heap[W.heap.size]? = some (.cells (rawE.enc B).toArray 51 (0, 0)) := by rw [← hwn]; exact heap_alloc_new _ _
      rw [hwn]
      clear hwn
      refine hK _ _ (Chg.of_below hb) ?_
      clear hK K
      try simp only [Act.put, List.setIfInBounds_toArray, List.set_cons_zero, List.set_cons_succ]
      have hn := st_1_6_11 Wn v8 _ b6 (hA.below hb) (hB.below hb) (hW.trans (hb.mono hW.size)) (h8.below hb) (lit_raw (W := W) hL (hB.below hb)) ⟨(hb.block _ (Array.getElem?_eq_some_iff.1 h6.1).1).trans h6.1, h6.2⟩
      rw [hG] at hn
      exact wpAnyH_mono (fun x hx => (Chg.of_below hb).trans hx (fun j hj => by first | exact .inl hj | (rcases hj with rfl | rfl <;> first | exact .inr (by omega) | exact .inl rfl | exact .inl (.inl rfl) | exact .inl (.inr rfl)) | (subst hj; exact .inr (by omega)) | exact hj.elim)) _ _ _ _ hn
    · refine wp_newV (some 5) rfl 43 rfl Try.zeroCells43 83 (by kernel_rfl) ?_
      intro Wn xn hb sn
      refine hK _ _ (Chg.of_below hb) ?_
      clear hK K
      try simp only [Act.put, List.setIfInBounds_toArray, List.set_cons_zero, List.set_cons_succ]
      have hnew := hW.size
      have hlt := (Array.getElem?_eq_some_iff.1 h6.1).1
      have hn := st_1_10_11 Wn v8 _ b6 (hA.below hb) (hB.below hb) (hW.trans (hb.mono hW.size)) (h8.below hb) ⟨xn, hW.size⟩ ⟨(hb.block _ (Array.getElem?_eq_some_iff.1 h6.1).1).trans h6.1, h6.2⟩ (by omega)
      rw [hG] at hn
      exact wpAnyH_mono (fun x hx => (Chg.of_below hb).trans hx (fun j hj => by first | exact .inl hj | (rcases hj with rfl | rfl <;> first | exact .inr (by omega) | exact .inl rfl | exact .inl (.inl rfl) | exact .inl (.inr rfl)) | (subst hj; exact .inr (by omega)) | exact hj.elim)) _ _ _ _ hn
  have st_6_10 : ∀ (W : World) (v13 : Value) (b5 : Nat), ListAt u8E W A.rv A.refs → ListAt u8E W B.rv B.refs → Below w.heap.size w W → RawsAt W v13 [B] → W.heap[b5]? = some (.cells Try.zeroCells43 43 (0, 0)) ∧ w.heap.size ≤ b5 → G (Chg (fun k => k = b5) W) 10 #[true, false, false, false, false, true, true, false, false, false, true, false, false, false] ⟨#[.agg A.cells.toArray, .agg B.cells.toArray, .pointer (some ⟨B0, 0, none⟩), .pointer (some ⟨B1, 0, none⟩), .bool false, .pointer (some ⟨b5, 0, none⟩), undef, .agg A.cells.toArray, undef, undef, undef, undef, .agg B.cells.toArray, v13, undef, undef, undef, undef, undef, undef, undef, undef, undef, undef, undef, undef, undef, undef, undef, undef, undef, undef, undef, undef, undef, undef, undef, undef, undef, undef, undef, undef, undef], []⟩ W := by
    intro W v13 b5 hA hB hW h13 h5
    rw [hG]
    refine wpAnyH_two (i := 1) (j := 11) (by kernel_rfl) rfl rfl rfl rfl (fun K hK => ?_) (fun K hK => ?_)
    · refine wp_lit1 22 51 (.tmp 7) rfl (rawE.enc A).toArray rfl Try.underlying22 (sizeRawE A) (by kernel_rfl) (by rw [sizeRaw3]; decide) (by rw [sizeRaw3]; decide) ?_
      obtain ⟨Wn, hwn⟩ : ∃ Wn, W.alloc (.cells (rawE.enc A).toArray 51) = Wn := ⟨_, rfl⟩
      have hb : Below W.heap.size W Wn := hwn ▸ one_below rawE W A
      have hL : Wn.heap[W.heap.size]? = some (.cells (rawE.enc A).toArray 51 (0, 0)) := by rw [← hwn]; exact heap_alloc_new _ _
      rw [hwn]
      clear hwn
      refine hK _ _ (Chg.of_below hb) ?_
      clear hK K
      try simp only [Act.put, List.setIfInBounds_toArray, List.set_cons_zero, List.set_cons_succ]
      have hn := st_1_6_10 Wn _ v13 b5 (hA.below hb) (hB.below hb) (hW.trans (hb.mono hW.size)) (lit_raw (W := W) hL (hA.below hb)) (h13.below hb) ⟨(hb.block _ (Array.getElem?_eq_some_iff.1 h5.1).1).trans h5.1, h5.2⟩
      rw [hG] at hn
      exact wpAnyH_mono (fun x hx => (Chg.of_below hb).trans hx (fun j hj => by first | exact .inl hj | (rcases hj with rfl | rfl <;> first | exact .inr (by omega) | exact .inl rfl | exact .inl (.inl rfl) | exact .inl (.inr rfl)) | (subst hj; exact .inr (by omega)) | exact hj.elim)) _ _ _ _ hn
    · refine wp_newV (some 6) rfl 43 rfl Try.zeroCells43 83 (by kernel_rfl) ?_
      intro Wn xn hb sn
      refine hK _ _ (Chg.of_below hb) ?_
      clear hK K
      try simp only [Act.put, List.setIfInBounds_toArray, List.set_cons_zero, List.set_cons_succ]
      have hnew := hW.size
      have hlt := (Array.getElem?_eq_some_iff.1 h5.1).1
      have hn := st_6_10_11 Wn v13 b5 _ (hA.below hb) (hB.below hb) (hW.trans (hb.mono hW.size)) (h13.below hb) ⟨(hb.block _ (Array.getElem?_eq_some_iff.1 h5.1).1).trans h5.1, h5.2⟩ ⟨xn, hW.size⟩ (by omega)
      rw [hG] at hn
      exact wpAnyH_mono (fun x hx => (Chg.of_below hb).trans hx (fun j hj => by first | exact .inl hj | (rcases hj with rfl | rfl <;> first | exact .inr (by omega) | exact .inl rfl | exact .inl (.inl rfl) | exact .inl (.inr rfl)) | (subst hj; exact .inr (by omega)) | exact hj.elim)) _ _ _ _ hn
  have st_6_11 : ∀ (W : World) (v13 : Value) (b6 : Nat), ListAt u8E W A.rv A.refs → ListAt u8E W B.rv B.refs → Below w.heap.size w W → RawsAt W v13 [B] → W.heap[b6]? = some (.cells Try.zeroCells43 43 (0, 0)) ∧ w.heap.size ≤ b6 → G (Chg (fun k => k = b6) W) 10 #[true, false, false, false, false, true, true, false, false, false, false, true, false, false] ⟨#[.agg A.cells.toArray, .agg B.cells.toArray, .pointer (some ⟨B0, 0, none⟩), .pointer (some ⟨B1, 0, none⟩), .bool false, undef, .pointer (some ⟨b6, 0, none⟩), .agg A.cells.toArray, undef, undef, undef, undef, .agg B.cells.toArray, v13, undef, undef, undef, undef, undef, undef, undef, undef, undef, undef, undef, undef, undef, undef, undef, undef, undef, undef, undef, undef, undef, undef, undef, undef, undef, undef, undef, undef, undef], []⟩ W := by
    intro W v13 b6 hA hB hW h13 h6
    rw [hG]
    refine wpAnyH_two (i := 1) (j := 10) (by kernel_rfl) rfl rfl rfl rfl (fun K hK => ?_) (fun K hK => ?_)
    · refine wp_lit1 22 51 (.tmp 7) rfl (rawE.enc A).toArray rfl Try.underlying22 (sizeRawE A) (by kernel_rfl) (by rw [sizeRaw3]; decide) (by rw [sizeRaw3]; decide) ?_
      obtain ⟨Wn, hwn⟩ : ∃ Wn, W.alloc (.cells (rawE.enc A).toArray 51) = Wn := ⟨_, rfl⟩
      have hb : Below W.heap.size W Wn := hwn ▸ one_below rawE W A
      have hL : Wn.heap[W.heap.size]? = some (.cells (rawE.enc A).toArray 51 (0, 0)) := by rw [← hwn]; exact heap_alloc_new _ _
      rw [hwn]
      clear hwn
      refine hK _ _ (Chg.of_below hb) ?_
      clear hK K
      try simp only [Act.put, List.setIfInBounds_toArray, List.set_cons_zero, List.set_cons_succ]
      have hn := st_1_6_11 Wn _ v13 b6 (hA.below hb) (hB.below hb) (hW.trans (hb.mono hW.size)) (lit_raw (W := W) hL (hA.below hb)) (h13.below hb) ⟨(hb.block _ (Array.getElem?_eq_some_iff.1 h6.1).1).trans h6.1, h6.2⟩
      rw [hG] at hn
      exact wpAnyH_mono (fun x hx => (Chg.of_below hb).trans hx (fun j hj => by first | exact .inl hj | (rcases hj with rfl | rfl <;> first | exact .inr (by omega) | exact .inl rfl | exact .inl (.inl rfl) | exact .inl (.inr rfl)) | (subst hj; exact .inr (by omega)) | exact hj.elim)) _ _ _ _ hn
    · refine wp_newV (some 5) rfl 43 rfl Try.zeroCells43 83 (by kernel_rfl) ?_
      intro Wn xn hb sn
      refine hK _ _ (Chg.of_below hb) ?_
      clear hK K
      try simp only [Act.put, List.setIfInBounds_toArray, List.set_cons_zero, List.set_cons_succ]
      have hnew := hW.size
      have hlt := (Array.getElem?_eq_some_iff.1 h6.1).1
      have hn := st_6_10_11 Wn v13 _ b6 (hA.below hb) (hB.below hb) (hW.trans (hb.mono hW.size)) (h13.below hb) ⟨xn, hW.size⟩ ⟨(hb.block _ (Array.getElem?_eq_some_iff.1 h6.1).1).trans h6.1, h6.2⟩ (by omega)
      rw [hG] at hn
      exact wpAnyH_mono (fun x hx => (Chg.of_below hb).trans hx (fun j hj => by first | exact .inl hj | (rcases hj with rfl | rfl <;> first | exact .inr (by omega) | exact .inl rfl | exact .inl (.inl rfl) | exact .inl (.inr rfl)) | (subst hj; exact .inr (by omega)) | exact hj.elim)) _ _ _ _ hn
  have st_10_11 : ∀ (W : World) (b5 : Nat) (b6 : Nat), ListAt u8E W A.rv A.refs → ListAt u8E W B.rv B.refs → Below w.heap.size w W → W.heap[b5]? = some (.cells Try.zeroCells43 43 (0, 0)) ∧ w.heap.size ≤ b5 → W.heap[b6]? = some (.cells Try.zeroCells43 43 (0, 0)) ∧ w.heap.size ≤ b6 → b5 ≠ b6 → G (Chg (fun k => k = b5 ∨ k = b6) W) 10 #[true, false, false, false, false, true, false, false, false, false, true, true, false, false] ⟨#[.agg A.cells.toArray, .agg B.cells.toArray, .pointer (some ⟨B0, 0, none⟩), .pointer (some ⟨B1, 0, none⟩), .bool false, .pointer (some ⟨b5, 0, none⟩), .pointer (some ⟨b6, 0, none⟩), .agg A.cells.toArray, undef, undef, undef, undef, .agg B.cells.toArray, undef, undef, undef, undef, undef, undef, undef, undef, undef, undef, undef, undef, undef, undef, undef, undef, undef, undef, undef, undef, undef, undef, undef, undef, undef, undef, undef, undef, undef, undef], []⟩ W := by
    intro W b5 b6 hA hB hW h5 h6 hne
    rw [hG]
    refine wpAnyH_two (i := 1) (j := 6) (by kernel_rfl) rfl rfl rfl rfl (fun K hK => ?_) (fun K hK => ?_)
    · refine wp_lit1 22 51 (.tmp 7) rfl (rawE.enc A).toArray rfl Try.underlying22 (sizeRawE A) (by kernel_rfl) (by rw [sizeRaw3]; decide) (by rw [sizeRaw3]; decide) ?_
      obtain ⟨Wn, hwn⟩ : ∃ Wn, W.alloc (.cells (rawE.enc A).toArray 51) = Wn := ⟨_, rfl⟩
      have hb : Below W.heap.size W Wn := hwn ▸ one_below rawE W A
      have hL : Wn.heap[W.heap.size]? = some (.cells (rawE.enc A).toArray 51 (0, 0)) := by rw [← hwn]; exact heap_alloc_new _ _
      rw [hwn]
      clear hwn
      refine hK _ _ (Chg.of_below hb) ?_
      clear hK K
      try simp only [Act.put, List.setIfInBounds_toArray, List.set_cons_zero, List.set_cons_succ]
      have hn := st_1_10_11 Wn _ b5 b6 (hA.below hb) (hB.below hb) (hW.trans (hb.mono hW.size)) (lit_raw (W := W) hL (hA.below hb)) ⟨(hb.block _ (Array.getElem?_eq_some_iff.1 h5.1).1).trans h5.1, h5.2⟩ ⟨(hb.block _ (Array.getElem?_eq_some_iff.1 h6.1).1).trans h6.1, h6.2⟩ hne
      rw [hG] at hn
      exact wpAnyH_mono (fun x hx => (Chg.of_below hb).trans hx (fun j hj => by first | exact .inl hj | (rcases hj with rfl | rfl <;> first | exact .inr (by omega) | exact .inl rfl | exact .inl (.inl rfl) | exact .inl (.inr rfl)) | (subst hj; exact .inr (by omega)) | exact hj.elim)) _ _ _ _ hn
    · refine wp_lit1 22 51 (.tmp 12) rfl (rawE.enc B).toArray rfl Try.underlying22 (sizeRawE B) (by kernel_rfl) (by rw [sizeRaw3]; decide) (by rw [sizeRaw3]; decide) ?_
      obtain ⟨Wn, hwn⟩ : ∃ Wn, W.alloc (.cells (rawE.enc B).toArray 51) = Wn := ⟨_, rfl⟩
      have hb : Below W.heap.size W Wn := hwn ▸ one_below rawE W B
      have hL : Wn.heap[W.heap.size]? = some (.cells (rawE.enc B).toArray 51 (0, 0)) := by rw [← hwn]; exact heap_alloc_new _ _
      rw [hwn]
      clear hwn
      refine hK _ _ (Chg.of_below hb) ?_
      clear hK K
      try simp only [Act.put, List.setIfInBounds_toArray, List.set_cons_zero, List.set_cons_succ]
      have hn := st_6_10_11 Wn _ b5 b6 (hA.below hb) (hB.below hb) (hW.trans (hb.mono hW.size)) (lit_raw (W := W) hL (hB.below hb)) ⟨(hb.block _ (Array.getElem?_eq_some_iff.1 h5.1).1).trans h5.1, h5.2⟩ ⟨(hb.block _ (Array.getElem?_eq_some_iff.1 h6.1).1).trans h6.1, h6.2⟩ hne
      rw [hG] at hn
      exact wpAnyH_mono (fun x hx => (Chg.of_below hb).trans hx (fun j hj => by first | exact .inl hj | (rcases hj with rfl | rfl <;> first | exact .inr (by omega) | exact .inl rfl | exact .inl (.inl rfl) | exact .inl (.inr rfl)) | (subst hj; exact .inr (by omega)) | exact hj.elim)) _ _ _ _ hn
  have st_1 : ∀ (W : World) (v8 : Value), ListAt u8E W A.rv A.refs → ListAt u8E W B.rv B.refs → Below w.heap.size w W → RawsAt W v8 [A] → G (Chg (fun _ => False) W) 11 #[true, true, false, false, false, true, false, false, false, false, false, false, false, false] ⟨#[.agg A.cells.toArray, .agg B.cells.toArray, .pointer (some ⟨B0, 0, none⟩), .pointer (some ⟨B1, 0, none⟩), .bool false, undef, undef, .agg A.cells.toArray, v8, undef, undef, undef, .agg B.cells.toArray, undef, undef, undef, undef, undef, undef, undef, undef, undef, undef, undef, undef, undef, undef, undef, undef, undef, undef, undef, undef, undef, undef, undef, undef, undef, undef, undef, undef, undef, undef], []⟩ W := by
    intro W v8 hA hB hW h8
    rw [hG]
    refine wpAnyH_four (i := 2) (j := 6) (l := 10) (m := 11) (by kernel_rfl) rfl rfl rfl rfl rfl rfl rfl rfl (fun K hK => ?_) (fun K hK => ?_) (fun K hK => ?_) (fun K hK => ?_)
    · go_simp
      go_at_call 16
      refine (rows_any _ [A] h8).mono ?_
      rintro e Wn ⟨xv, M, rfl, ho, ht, hb⟩
      obtain ⟨r, rfl, hr⟩ := row_of_one ht
      obtain ⟨xa, xc, rfl⟩ := ho.own.form
      obtain ⟨xg, rfl⟩ := ho.own.addr1
      have hxg := (ho.own.lt (k := xg) rfl)
      obtain ⟨g', o', e', _, hrr⟩ := ho.at_.l.get (i := 0) (by simp)
      cases e'
      have hxr : Wn.rangeAt xg 0 r.cells := by
        have h1 : Wn.rangeAt xg (0 + 0 * 83) r.cells := hrr
        simpa using h1
      clear ho hrr ht
      refine hK _ _ (Chg.of_below hb) ?_
      clear hK K
      try simp only [Act.put, List.setIfInBounds_toArray, List.set_cons_zero, List.set_cons_succ]
      refine wpAnyH_mono (S' := Chg (fun _ => False) Wn) (fun x hx => (Chg.of_below hb).trans hx (fun j hj => .inl hj)) _ _ _ _ ?_
      have hS9 : Chg (fun _ => False) Wn Wn := Chg.refl _ _
      refine wpAnyH_takeI (i := 3) (v := .pointer (some ⟨xg, 0, none⟩)) rfl (by kernel_rfl) (by kernel_rfl) (by kernel_rfl) (fun _ _ _ h => h) (yieldsIf_run rfl (fun w' hw' => ?y3)) hS9 ?_
      case y3 => first | (go_simp; rfl) | (go_simp; done) | rfl
      simp only [Act.put, List.setIfInBounds_toArray, List.set_cons_zero, List.set_cons_succ]
      refine wpAnyH_takeI (i := 4) (v := .agg r.cells.toArray) rfl (by kernel_rfl) (by kernel_rfl) (by kernel_rfl) (fun _ _ _ h => h) (yieldsIf_load_mid rfl 43 (.tmp 10) rfl xg 0 rfl r.cells _ (fun w' hw' => range_block' hxr hw' hxg.2 (fun h => by first | exact h.elim | (rcases h with h | h <;> omega) | omega)) Try.underlying43 rfl (sizeRow r)) hS9 ?_
      simp only [Act.put, List.setIfInBounds_toArray, List.set_cons_zero, List.set_cons_succ]
      have hn := st_1_2 Wn v8 (.slice (some ⟨xg, 0, none⟩) 1 xc) (.pointer (some ⟨xg, 0, none⟩)) r (hA.below hb) (hB.below hb) (hW.trans (hb.mono hW.size)) hr
      rw [hG] at hn
      exact hn
    · refine wp_lit1 22 51 (.tmp 12) rfl (rawE.enc B).toArray rfl Try.underlying22 (sizeRawE B) (by kernel_rfl) (by rw [sizeRaw3]; decide) (by rw [sizeRaw3]; decide) ?_
      obtain ⟨Wn, hwn⟩ : ∃ Wn, W.alloc (.cells (rawE.enc B).toArray 51) = Wn := ⟨_, rfl⟩
      have hb : Below W.heap.size W Wn := hwn ▸ one_below rawE W B
      have hL : Wn.heap[W.heap.size]? = some (.cells (rawE.enc B).toArray 51 (0, 0)) := by rw [← hwn]; exact heap_alloc_new _ _
      rw [hwn]
      clear hwn
      refine hK _ _ (Chg.of_below hb) ?_
      clear hK K
      try simp only [Act.put, List.setIfInBounds_toArray, List.set_cons_zero, List.set_cons_succ]
      have hn := st_1_6 Wn v8 _ (hA.below hb) (hB.below hb) (hW.trans (hb.mono hW.size)) (h8.below hb) (lit_raw (W := W) hL (hB.below hb))
      rw [hG] at hn
      exact wpAnyH_mono (fun x hx => (Chg.of_below hb).trans hx (fun j hj => by first | exact .inl hj | (rcases hj with rfl | rfl <;> first | exact .inr (by omega) | exact .inl rfl | exact .inl (.inl rfl) | exact .inl (.inr rfl)) | (subst hj; exact .inr (by omega)) | exact hj.elim)) _ _ _ _ hn
    · refine wp_newV (some 5) rfl 43 rfl Try.zeroCells43 83 (by kernel_rfl) ?_
      intro Wn xn hb sn
      refine hK _ _ (Chg.of_below hb) ?_
      clear hK K
      try simp only [Act.put, List.setIfInBounds_toArray, List.set_cons_zero, List.set_cons_succ]
      have hnew := hW.size
      have hn := st_1_10 Wn v8 _ (hA.below hb) (hB.below hb) (hW.trans (hb.mono hW.size)) (h8.below hb) ⟨xn, hW.size⟩
      rw [hG] at hn
      exact wpAnyH_mono (fun x hx => (Chg.of_below hb).trans hx (fun j hj => by first | exact .inl hj | (rcases hj with rfl | rfl <;> first | exact .inr (by omega) | exact .inl rfl | exact .inl (.inl rfl) | exact .inl (.inr rfl)) | (subst hj; exact .inr (by omega)) | exact hj.elim)) _ _ _ _ hn
    · refine wp_newV (some 6) rfl 43 rfl Try.zeroCells43 83 (by kernel_rfl) ?_
      intro Wn xn hb sn
      refine hK _ _ (Chg.of_below hb) ?_
      clear hK K
      try simp only [Act.put, List.setIfInBounds_toArray, List.set_cons_zero, List.set_cons_succ]
      have hnew := hW.size
      have hn := st_1_11 Wn v8 _ (hA.below hb) (hB.below hb) (hW.trans (hb.mono hW.size)) (h8.below hb) ⟨xn, hW.size⟩
      rw [hG] at hn
      exact wpAnyH_mono (fun x hx => (Chg.of_below hb).trans hx (fun j hj => by first | exact .inl hj | (rcases hj with rfl | rfl <;> first | exact .inr (by omega) | exact .inl rfl | exact .inl (.inl rfl) | exact .inl (.inr rfl)) | (subst hj; exact .inr (by omega)) | exact hj.elim)) _ _ _ _ hn
  have st_6 : ∀ (W : World) (v13 : Value), ListAt u8E W A.rv A.refs → ListAt u8E W B.rv B.refs → Below w.heap.size w W → RawsAt W v13 [B] → G (Chg (fun _ => False) W) 11 #[true, false, false, false, false, true, true, false, false, false, false, false, false, false] ⟨#[.agg A.cells.toArray, .agg B.cells.toArray, .pointer (some ⟨B0, 0, none⟩), .pointer (some ⟨B1, 0, none⟩), .bool false, undef, undef, .agg A.cells.toArray, undef, undef, undef, undef, .agg B.cells.toArray, v13, undef, undef, undef, undef, undef, undef, undef, undef, undef, undef, undef, undef, undef, undef, undef, undef, undef, undef, undef, undef, undef, undef, undef, undef, undef, undef, undef, undef, undef], []⟩ W := by
    intro W v13 hA hB hW h13
    rw [hG]
    refine wpAnyH_three (i := 1) (j := 10) (l := 11) (by kernel_rfl) rfl rfl rfl rfl rfl rfl (fun K hK => ?_) (fun K hK => ?_) (fun K hK => ?_)
    · refine wp_lit1 22 51 (.tmp 7) rfl (rawE.enc A).toArray rfl Try.underlying22 (sizeRawE A) (by kernel_rfl) (by rw [sizeRaw3]; decide) (by rw [sizeRaw3]; decide) ?_
      obtain ⟨Wn, hwn⟩ : ∃ Wn, W.alloc (.cells (rawE.enc A).toArray 51) = Wn := ⟨_, rfl⟩
      have hb : Below W.heap.size W Wn := hwn ▸ one_below rawE W A
      have hL : Wn.heap[W.heap.size]? = some (.cells (rawE.enc A).toArray 51 (0, 0)) := by rw [← hwn]; exact heap_alloc_new _ _
      rw [hwn]
      clear hwn
      refine hK _ _ (Chg.of_below hb) ?_
      clear hK K
      try simp only [Act.put, List.setIfInBounds_toArray, List.set_cons_zero, List.set_cons_succ]
      have hn := st_1_6 Wn _ v13 (hA.below hb) (hB.below hb) (hW.trans (hb.mono hW.size)) (lit_raw (W := W) hL (hA.below hb)) (h13.below hb)
      rw [hG] at hn
      exact wpAnyH_mono (fun x hx => (Chg.of_below hb).trans hx (fun j hj => by first | exact .inl hj | (rcases hj with rfl | rfl <;> first | exact .inr (by omega) | exact .inl rfl | exact .inl (.inl rfl) | exact .inl (.inr rfl)) | (subst hj; exact .inr (by omega)) | exact hj.elim)) _ _ _ _ hn
    · refine wp_newV (some 5) rfl 43 rfl Try.zeroCells43 83 (by kernel_rfl) ?_
      intro Wn xn hb sn
      refine hK _ _ (Chg.of_below hb) ?_
      clear hK K
      try simp only [Act.put, List.setIfInBounds_toArray, List.set_cons_zero, List.set_cons_succ]
      have hnew := hW.size
      have hn := st_6_10 Wn v13 _ (hA.below hb) (hB.below hb) (hW.trans (hb.mono hW.size)) (h13.below hb) ⟨xn, hW.size⟩
      rw [hG] at hn
      exact wpAnyH_mono (fun x hx => (Chg.of_below hb).trans hx (fun j hj => by first | exact .inl hj | (rcases hj with rfl | rfl <;> first | exact .inr (by omega) | exact .inl rfl | exact .inl (.inl rfl) | exact .inl (.inr rfl)) | (subst hj; exact .inr (by omega)) | exact hj.elim)) _ _ _ _ hn
    · refine wp_newV (some 6) rfl 43 rfl Try.zeroCells43 83 (by kernel_rfl) ?_
      intro Wn xn hb sn
      refine hK _ _ (Chg.of_below hb) ?_
      clear hK K
      try simp only [Act.put, List.setIfInBounds_toArray, List.set_cons_zero, List.set_cons_succ]
      have hnew := hW.size
      have hn := st_6_11 Wn v13 _ (hA.below hb) (hB.below hb) (hW.trans (hb.mono hW.size)) (h13.below hb) ⟨xn, hW.size⟩
      rw [hG] at hn
      exact wpAnyH_mono (fun x hx => (Chg.of_below hb).trans hx (fun j hj => by first | exact .inl hj | (rcases hj with rfl | rfl <;> first | exact .inr (by omega) | exact .inl rfl | exact .inl (.inl rfl) | exact .inl (.inr rfl)) | (subst hj; exact .inr (by omega)) | exact hj.elim)) _ _ _ _ hn
  have st_10 : ∀ (W : World) (b5 : Nat), ListAt u8E W A.rv A.refs → ListAt u8E W B.rv B.refs → Below w.heap.size w W → W.heap[b5]? = some (.cells Try.zeroCells43 43 (0, 0)) ∧ w.heap.size ≤ b5 → G (Chg (fun k => k = b5) W) 11 #[true, false, false, false, false, true, false, false, false, false, true, false, false, false] ⟨#[.agg A.cells.toArray, .agg B.cells.toArray, .pointer (some ⟨B0, 0, none⟩), .pointer (some ⟨B1, 0, none⟩), .bool false, .pointer (some ⟨b5, 0, none⟩), undef, .agg A.cells.toArray, undef, undef, undef, undef, .agg B.cells.toArray, undef, undef, undef, undef, undef, undef, undef, undef, undef, undef, undef, undef, undef, undef, undef, undef, undef, undef, undef, undef, undef, undef, undef, undef, undef, undef, undef, undef, undef, undef], []⟩ W := by
    intro W b5 hA hB hW h5
    rw [hG]
    refine wpAnyH_three (i := 1) (j := 6) (l := 11) (by kernel_rfl) rfl rfl rfl rfl rfl rfl (fun K hK => ?_) (fun K hK => ?_) (fun K hK => ?_)
    · refine wp_lit1 22 51 (.tmp 7) rfl (rawE.enc A).toArray rfl Try.underlying22 (sizeRawE A) (by kernel_rfl) (by rw [sizeRaw3]; decide) (by rw [sizeRaw3]; decide) ?_
      obtain ⟨Wn, hwn⟩ : ∃ Wn, W.alloc (.cells (rawE.enc A).toArray 51) = Wn := ⟨_, rfl⟩
      have hb : Below W.heap.size W Wn := hwn ▸ one_below rawE W A
      have hL : Wn.heap[W.heap.size]? = some (.cells (rawE.enc A).toArray 51 (0, 0)) := by rw [← hwn]; exact heap_alloc_new _ _
      rw [hwn]
      clear hwn
      refine hK _ _ (Chg.of_below hb) ?_
      clear hK K
      try simp only [Act.put, List.setIfInBounds_toArray, List.set_cons_zero, List.set_cons_succ]
      have hn := st_1_10 Wn _ b5 (hA.below hb) (hB.below hb) (hW.trans (hb.mono hW.size)) (lit_raw (W := W) hL (hA.below hb)) ⟨(hb.block _ (Array.getElem?_eq_some_iff.1 h5.1).1).trans h5.1, h5.2⟩
      rw [hG] at hn
      exact wpAnyH_mono (fun x hx => (Chg.of_below hb).trans hx (fun j hj => by first | exact .inl hj | (rcases hj with rfl | rfl <;> first | exact .inr (by omega) | exact .inl rfl | exact .inl (.inl rfl) | exact .inl (.inr rfl)) | (subst hj; exact .inr (by omega)) | exact hj.elim)) _ _ _ _ hn
    · refine wp_lit1 22 51 (.tmp 12) rfl (rawE.enc B).toArray rfl Try.underlying22 (sizeRawE B) (by kernel_rfl) (by rw [sizeRaw3]; decide) (by rw [sizeRaw3]; decide) ?_
      obtain ⟨Wn, hwn⟩ : ∃ Wn, W.alloc (.cells (rawE.enc B).toArray 51) = Wn := ⟨_, rfl⟩
      have hb : Below W.heap.size W Wn := hwn ▸ one_below rawE W B
      have hL : Wn.heap[W.heap.size]? = some (.cells (rawE.enc B).toArray 51 (0, 0)) := by rw [← hwn]; exact heap_alloc_new _ _
      rw [hwn]
      clear hwn
      refine hK _ _ (Chg.of_below hb) ?_
      clear hK K
      try simp only [Act.put, List.setIfInBounds_toArray, List.set_cons_zero, List.set_cons_succ]
      have hn := st_6_10 Wn _ b5 (hA.below hb) (hB.below hb) (hW.trans (hb.mono hW.size)) (lit_raw (W := W) hL (hB.below hb)) ⟨(hb.block _ (Array.getElem?_eq_some_iff.1 h5.1).1).trans h5.1, h5.2⟩
      rw [hG] at hn
      exact wpAnyH_mono (fun x hx => (Chg.of_below hb).trans hx (fun j hj => by first | exact .inl hj | (rcases hj with rfl | rfl <;> first | exact .inr (by omega) | exact .inl rfl | exact .inl (.inl rfl) | exact .inl (.inr rfl)) | (subst hj; exact .inr (by omega)) | exact hj.elim)) _ _ _ _ hn
    · refine wp_newV (some 6) rfl 43 rfl Try.zeroCells43 83 (by kernel_rfl) ?_
      intro Wn xn hb sn
      refine hK _ _ (Chg.of_below hb) ?_
      clear hK K
      try simp only [Act.put, List.setIfInBounds_toArray, List.set_cons_zero, List.set_cons_succ]
      have hnew := hW.size
      have hlt := (Array.getElem?_eq_some_iff.1 h5.1).1
      have hn := st_10_11 Wn b5 _ (hA.below hb) (hB.below hb) (hW.trans (hb.mono hW.size)) ⟨(hb.block _ (Array.getElem?_eq_some_iff.1 h5.1).1).trans h5.1, h5.2⟩ ⟨xn, hW.size⟩ (by omega)
      rw [hG] at hn
      exact wpAnyH_mono (fun x hx => (Chg.of_below hb).trans hx (fun j hj => by first | exact .inl hj | (rcases hj with rfl | rfl <;> first | exact .inr (by omega) | exact .inl rfl | exact .inl (.inl rfl) | exact .inl (.inr rfl)) | (subst hj; exact .inr (by omega)) | exact hj.elim)) _ _ _ _ hn
  have st_11 : ∀ (W : World) (b6 : Nat), ListAt u8E W A.rv A.refs → ListAt u8E W B.rv B.refs → Below w.heap.size w W → W.heap[b6]? = some (.cells Try.zeroCells43 43 (0, 0)) ∧ w.heap.size ≤ b6 → G (Chg (fun k => k = b6) W) 11 #[true, false, false, false, false, true, false, false, false, false, false, true, false, false] ⟨#[.agg A.cells.toArray, .agg B.cells.toArray, .pointer (some ⟨B0, 0, none⟩), .pointer (some ⟨B1, 0, none⟩), .bool false, undef, .pointer (some ⟨b6, 0, none⟩), .agg A.cells.toArray, undef, undef, undef, undef, .agg B.cells.toArray, undef, undef, undef, undef, undef, undef, undef, undef, undef, undef, undef, undef, undef, undef, undef, undef, undef, undef, undef, undef, undef, undef, undef, undef, undef, undef, undef, undef, undef, undef], []⟩ W := by
    intro W b6 hA hB hW h6
    rw [hG]
    refine wpAnyH_three (i := 1) (j := 6) (l := 10) (by kernel_rfl) rfl rfl rfl rfl rfl rfl (fun K hK => ?_) (fun K hK => ?_) (fun K hK => ?_)
    · refine wp_lit1 22 51 (.tmp 7) rfl (rawE.enc A).toArray rfl Try.underlying22 (sizeRawE A) (by kernel_rfl) (by rw [sizeRaw3]; decide) (by rw [sizeRaw3]; decide) ?_
      obtain ⟨Wn, hwn⟩ : ∃ Wn, W.alloc (.cells (rawE.enc A).toArray 51) = Wn := ⟨_, rfl⟩
      have hb : Below W.heap.size W Wn := hwn ▸ one_below rawE W A
      have hL : Wn.heap[W.heap.size]? = some (.cells (rawE.enc A).toArray 51 (0, 0)) := by rw [← hwn]; exact heap_alloc_new _ _
      rw [hwn]
      clear hwn
      refine hK _ _ (Chg.of_below hb) ?_
      clear hK K
      try simp only [Act.put, List.setIfInBounds_toArray, List.set_cons_zero, List.set_cons_succ]
      have hn := st_1_11 Wn _ b6 (hA.below hb) (hB.below hb) (hW.trans (hb.mono hW.size)) (lit_raw (W := W) hL (hA.below hb)) ⟨(hb.block _ (Array.getElem?_eq_some_iff.1 h6.1).1).trans h6.1, h6.2⟩
      rw [hG] at hn
      exact wpAnyH_mono (fun x hx => (Chg.of_below hb).trans hx (fun j hj => by first | exact .inl hj | (rcases hj with rfl | rfl <;> first | exact .inr (by omega) | exact .inl rfl | exact .inl (.inl rfl) | exact .inl (.inr rfl)) | (subst hj; exact .inr (by omega)) | exact hj.elim)) _ _ _ _ hn
    · refine wp_lit1 22 51 (.tmp 12) rfl (rawE.enc B).toArray rfl Try.underlying22 (sizeRawE B) (by kernel_rfl) (by rw [sizeRaw3]; decide) (by rw [sizeRaw3]; decide) ?_
      obtain ⟨Wn, hwn⟩ : ∃ Wn, W.alloc (.cells (rawE.enc B).toArray 51) = Wn := ⟨_, rfl⟩
      have hb : Below W.heap.size W Wn := hwn ▸ one_below rawE W B
      have hL : Wn.heap[W.heap.size]? = some (.cells (rawE.enc B).toArray 51 (0, 0)) := by rw [← hwn]; exact heap_alloc_new _ _
      rw [hwn]
      clear hwn
      refine hK _ _ (Chg.of_below hb) ?_
      clear hK K
      try simp only [Act.put, List.setIfInBounds_toArray, List.set_cons_zero, List.set_cons_succ]
      have hn := st_6_11 Wn _ b6 (hA.below hb) (hB.below hb) (hW.trans (hb.mono hW.size)) (lit_raw (W := W) hL (hB.below hb)) ⟨(hb.block _ (Array.getElem?_eq_some_iff.1 h6.1).1).trans h6.1, h6.2⟩
      rw [hG] at hn
      exact wpAnyH_mono (fun x hx => (Chg.of_below hb).trans hx (fun j hj => by first | exact .inl hj | (rcases hj with rfl | rfl <;> first | exact .inr (by omega) | exact .inl rfl | exact .inl (.inl rfl) | exact .inl (.inr rfl)) | (subst hj; exact .inr (by omega)) | exact hj.elim)) _ _ _ _ hn
    · refine wp_newV (some 5) rfl 43 rfl Try.zeroCells43 83 (by kernel_rfl) ?_
      intro Wn xn hb sn
      refine hK _ _ (Chg.of_below hb) ?_
      clear hK K
      try simp only [Act.put, List.setIfInBounds_toArray, List.set_cons_zero, List.set_cons_succ]
      have hnew := hW.size
      have hlt := (Array.getElem?_eq_some_iff.1 h6.1).1
      have hn := st_10_11 Wn _ b6 (hA.below hb) (hB.below hb) (hW.trans (hb.mono hW.size)) ⟨xn, hW.size⟩ ⟨(hb.block _ (Array.getElem?_eq_some_iff.1 h6.1).1).trans h6.1, h6.2⟩ (by omega)
      rw [hG] at hn
      exact wpAnyH_mono (fun x hx => (Chg.of_below hb).trans hx (fun j hj => by first | exact .inl hj | (rcases hj with rfl | rfl <;> first | exact .inr (by omega) | exact .inl rfl | exact .inl (.inl rfl) | exact .inl (.inr rfl)) | (subst hj; exact .inr (by omega)) | exact hj.elim)) _ _ _ _ hn
  have st_ : ∀ (W : World) , ListAt u8E W A.rv A.refs → ListAt u8E W B.rv B.refs → Below w.heap.size w W → G (Chg (fun _ => False) W) 12 #[true, false, false, false, false, true, false, false, false, false, false, false, false, false] ⟨#[.agg A.cells.toArray, .agg B.cells.toArray, .pointer (some ⟨B0, 0, none⟩), .pointer (some ⟨B1, 0, none⟩), .bool false, undef, undef, .agg A.cells.toArray, undef, undef, undef, undef, .agg B.cells.toArray, undef, undef, undef, undef, undef, undef, undef, undef, undef, undef, undef, undef, undef, undef, undef, undef, undef, undef, undef, undef, undef, undef, undef, undef, undef, undef, undef, undef, undef, undef], []⟩ W := by
    intro W  hA hB hW
    rw [hG]
    refine wpAnyH_four (i := 1) (j := 6) (l := 10) (m := 11) (by kernel_rfl) rfl rfl rfl rfl rfl rfl rfl rfl (fun K hK => ?_) (fun K hK => ?_) (fun K hK => ?_) (fun K hK => ?_)
    · refine wp_lit1 22 51 (.tmp 7) rfl (rawE.enc A).toArray rfl Try.underlying22 (sizeRawE A) (by kernel_rfl) (by rw [sizeRaw3]; decide) (by rw [sizeRaw3]; decide) ?_
      obtain ⟨Wn, hwn⟩ : ∃ Wn, W.alloc (.cells (rawE.enc A).toArray 51) = Wn := ⟨_, rfl⟩
      have hb : Below W.heap.size W Wn := hwn ▸ one_below rawE W A
      have hL : Wn.heap[W.heap.size]? = some (.cells (rawE.enc A).toArray 51 (0, 0)) := by rw [← hwn]; exact heap_alloc_new _ _
      rw [hwn]
      clear hwn
      refine hK _ _ (Chg.of_below hb) ?_
      clear hK K
      try simp only [Act.put, List.setIfInBounds_toArray, List.set_cons_zero, List.set_cons_succ]
      have hn := st_1 Wn _ (hA.below hb) (hB.below hb) (hW.trans (hb.mono hW.size)) (lit_raw (W := W) hL (hA.below hb))
      rw [hG] at hn
      exact wpAnyH_mono (fun x hx => (Chg.of_below hb).trans hx (fun j hj => by first | exact .inl hj | (rcases hj with rfl | rfl <;> first | exact .inr (by omega) | exact .inl rfl | exact .inl (.inl rfl) | exact .inl (.inr rfl)) | (subst hj; exact .inr (by omega)) | exact hj.elim)) _ _ _ _ hn
    · refine wp_lit1 22 51 (.tmp 12) rfl (rawE.enc B).toArray rfl Try.underlying22 (sizeRawE B) (by kernel_rfl) (by rw [sizeRaw3]; decide) (by rw [sizeRaw3]; decide) ?_
      obtain ⟨Wn, hwn⟩ : ∃ Wn, W.alloc (.cells (rawE.enc B).toArray 51) = Wn := ⟨_, rfl⟩
      have hb : Below W.heap.size W Wn := hwn ▸ one_below rawE W B
      have hL : Wn.heap[W.heap.size]? = some (.cells (rawE.enc B).toArray 51 (0, 0)) := by rw [← hwn]; exact heap_alloc_new _ _
      rw [hwn]
      clear hwn
      refine hK _ _ (Chg.of_below hb) ?_
      clear hK K
      try simp only [Act.put, List.setIfInBounds_toArray, List.set_cons_zero, List.set_cons_succ]
      have hn := st_6 Wn _ (hA.below hb) (hB.below hb) (hW.trans (hb.mono hW.size)) (lit_raw (W := W) hL (hB.below hb))
      rw [hG] at hn
      exact wpAnyH_mono (fun x hx => (Chg.of_below hb).trans hx (fun j hj => by first | exact .inl hj | (rcases hj with rfl | rfl <;> first | exact .inr (by omega) | exact .inl rfl | exact .inl (.inl rfl) | exact .inl (.inr rfl)) | (subst hj; exact .inr (by omega)) | exact hj.elim)) _ _ _ _ hn
    · refine wp_newV (some 5) rfl 43 rfl Try.zeroCells43 83 (by kernel_rfl) ?_
      intro Wn xn hb sn
      refine hK _ _ (Chg.of_below hb) ?_
      clear hK K
      try simp only [Act.put, List.setIfInBounds_toArray, List.set_cons_zero, List.set_cons_succ]
      have hnew := hW.size
      have hn := st_10 Wn _ (hA.below hb) (hB.below hb) (hW.trans (hb.mono hW.size)) ⟨xn, hW.size⟩
      rw [hG] at hn
      exact wpAnyH_mono (fun x hx => (Chg.of_below hb).trans hx (fun j hj => by first | exact .inl hj | (rcases hj with rfl | rfl <;> first | exact .inr (by omega) | exact .inl rfl | exact .inl (.inl rfl) | exact .inl (.inr rfl)) | (subst hj; exact .inr (by omega)) | exact hj.elim)) _ _ _ _ hn
    · refine wp_newV (some 6) rfl 43 rfl Try.zeroCells43 83 (by kernel_rfl) ?_
      intro Wn xn hb sn
      refine hK _ _ (Chg.of_below hb) ?_
      clear hK K
      try simp only [Act.put, List.setIfInBounds_toArray, List.set_cons_zero, List.set_cons_succ]
      have hnew := hW.size
      have hn := st_11 Wn _ (hA.below hb) (hB.below hb) (hW.trans (hb.mono hW.size)) ⟨xn, hW.size⟩
      rw [hG] at hn
      exact wpAnyH_mono (fun x hx => (Chg.of_below hb).trans hx (fun j hj => by first | exact .inl hj | (rcases hj with rfl | rfl <;> first | exact .inr (by omega) | exact .inl rfl | exact .inl (.inl rfl) | exact .inl (.inr rfl)) | (subst hj; exact .inr (by omega)) | exact hj.elim)) _ _ _ _ hn
  exact st_ wd HAd.out HBd.out HLd.out
end Go.Proofs.Ythfinofmbnfijaa
