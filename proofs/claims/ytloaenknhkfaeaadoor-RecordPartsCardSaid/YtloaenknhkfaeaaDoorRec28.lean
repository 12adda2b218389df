/- Records: the law Parts. -/
import Derived.Test.YtloaenknhkfaeaaDoorRec26
namespace Go.Proofs.YtloaenknhkfaeaaDoor
open Go.RowKit
set_option linter.unusedVariables false
set_option linter.unusedSimpArgs false

theorem row6_set {w : World} {b : Nat} {T : TypeId} {c0 c1 c2 c3 c4 c5 : Value} (v0 v1 v2 v3 v4 v5 : Value) (h : w.heap[b]? = some (.cells #[c0, c1, c2, c3, c4, c5] T (0, 0))) :
    ((((((w.setCell ⟨b, 0, none⟩ v0).setCell ⟨b, 1, none⟩ v1).setCell ⟨b, 2, none⟩ v2).setCell ⟨b, 3, none⟩ v3).setCell ⟨b, 4, none⟩ v4).setCell ⟨b, 5, none⟩ v5).heap[b]? = some (.cells #[v0, v1, v2, v3, v4, v5] T (0, 0)) := by
  have h1 : (w.setCell ⟨b, 0, none⟩ v0).heap[b]? = some (.cells #[v0, c1, c2, c3, c4, c5] T (0, 0)) := by rw [heap_setCell_same _ _ _ _ _ _ h]; rfl
  have h2 : ((w.setCell ⟨b, 0, none⟩ v0).setCell ⟨b, 1, none⟩ v1).heap[b]? = some (.cells #[v0, v1, c2, c3, c4, c5] T (0, 0)) := by rw [heap_setCell_same _ _ _ _ _ _ h1]; rfl
  have h3 : (((w.setCell ⟨b, 0, none⟩ v0).setCell ⟨b, 1, none⟩ v1).setCell ⟨b, 2, none⟩ v2).heap[b]? = some (.cells #[v0, v1, v2, c3, c4, c5] T (0, 0)) := by rw [heap_setCell_same _ _ _ _ _ _ h2]; rfl
  have h4 : ((((w.setCell ⟨b, 0, none⟩ v0).setCell ⟨b, 1, none⟩ v1).setCell ⟨b, 2, none⟩ v2).setCell ⟨b, 3, none⟩ v3).heap[b]? = some (.cells #[v0, v1, v2, v3, c4, c5] T (0, 0)) := by rw [heap_setCell_same _ _ _ _ _ _ h3]; rfl
  have h5 : (((((w.setCell ⟨b, 0, none⟩ v0).setCell ⟨b, 1, none⟩ v1).setCell ⟨b, 2, none⟩ v2).setCell ⟨b, 3, none⟩ v3).setCell ⟨b, 4, none⟩ v4).heap[b]? = some (.cells #[v0, v1, v2, v3, v4, c5] T (0, 0)) := by rw [heap_setCell_same _ _ _ _ _ _ h4]; rfl
  have h6 : ((((((w.setCell ⟨b, 0, none⟩ v0).setCell ⟨b, 1, none⟩ v1).setCell ⟨b, 2, none⟩ v2).setCell ⟨b, 3, none⟩ v3).setCell ⟨b, 4, none⟩ v4).setCell ⟨b, 5, none⟩ v5).heap[b]? = some (.cells #[v0, v1, v2, v3, v4, v5] T (0, 0)) := by rw [heap_setCell_same _ _ _ _ _ _ h5]; rfl
  exact h6

set_option maxRecDepth 100000 in
set_option maxHeartbeats 2000000 in
theorem RecordParts_any {w : World} {F : Nat → Prop} (x0 x1 x2 x3 x4 : Int) (a : Option Addr) (n c : Nat) (l : List UInt8) (hv : BytesN w F (.slice a n c) l) (hl : l.length = n) (hn : n ≤ 9223372036854775807) (hK : KAt w) :
    Calls Tryd.prog 3 #[.agg #[.int .i64 x0, .int .i64 x1, .int .i64 x2, .int .i64 x3, .int .i64 x4, .slice a n c]] w fun e w' => e = .returned (.bool true) ∧ Below w.heap.size w w' := by
  obtain ⟨w1, hw1⟩ : ∃ w1, w.alloc (.cells #[.int .i64 x0, .int .i64 x1, .int .i64 x2, .int .i64 x3, .int .i64 x4, .slice a n c] 24) = w1 := ⟨_, rfl⟩
  have hb1 : Below w.heap.size w w1 := hw1 ▸ (Below.refl _ w).alloc (Nat.le_refl _) _
  have hx1 : w1.heap[w.heap.size]? = some (.cells #[.int .i64 x0, .int .i64 x1, .int .i64 x2, .int .i64 x3, .int .i64 x4, .slice a n c] 24 (0, 0)) := by rw [← hw1]; exact heap_alloc_new _ _
  have hpa := part_any x0 x1 x2 x3 x4 a n c l (hv.below hb1) hl hn
  have HPA := Lib.hid hpa
  have HW1 := Lib.hid hw1
  have HB1 := Lib.hid hb1
  have HX1 := Lib.hid hx1
  have HK := Lib.hid hK
  clear hpa hw1 hb1 hx1 hK hv
  go_enter Tryd.func3, Tryd.ntmps3
  go_wp2_with fail
  rw [HW1.out]
  refine HPA.out.mono ?_
  rintro e w2 ⟨a2, m, c2, rfl, hm, ho2, hb2⟩
  obtain ⟨w3, hw3⟩ : ∃ w3, w2.alloc (.cells #[.int .i64 x0, .int .i64 x1, .int .i64 x2, .int .i64 x3, .int .i64 x4, .slice a2 m c2] 25) = w3 := ⟨_, rfl⟩
  have hb3 : Below w2.heap.size w2 w3 := hw3 ▸ (Below.refl _ _).alloc (Nat.le_refl _) _
  have hx3 : w3.heap[w2.heap.size]? = some (.cells #[.int .i64 x0, .int .i64 x1, .int .i64 x2, .int .i64 x3, .int .i64 x4, .slice a2 m c2] 25 (0, 0)) := by rw [← hw3]; exact heap_alloc_new _ _
  have hlt0 := (Array.getElem?_eq_some_iff.1 HX1.out).1
  have hx13 := ((hb2.trans (hb3.mono hb2.size)).block _ hlt0).trans HX1.out
  have HW3 := Lib.hid hw3
  have HX3 := Lib.hid hx3
  have HX13 := Lib.hid hx13
  have HO3 := Lib.hid (own_kept ho2 hb3)
  have HB3 := Lib.hid (HB1.out.trans ((hb2.trans (hb3.mono hb2.size)).mono HB1.out.size))
  have HS2 := Lib.hid (Nat.lt_of_lt_of_le hlt0 hb2.size)
  have HML := Lib.hid (show (l.take m).length = m by rw [List.length_take]; omega)
  clear hw3 hb3 hx3 hlt0 hx13 ho2 hb2 hm
  go_wp2_with fail
  rw [HW3.out]
  refine (back_any x0 x1 x2 x3 x4 a2 m c2 w3).mono ?_
  rintro e w4 ⟨rfl, hb4⟩
  have hx4 := (hb4.block _ (Array.getElem?_eq_some_iff.1 HX13.out).1).trans HX13.out
  have hy4 := (hb4.block _ (Array.getElem?_eq_some_iff.1 HX3.out).1).trans HX3.out
  have hrf : ∀ j : Nat, w4.frozen? ⟨w.heap.size, j, none⟩ = false := fun j => frozen_of_row _ _ _ _ _ hx4
  have y0 : w4.cell? ⟨w.heap.size, 0, none⟩ = some (.int .i64 x0) := by rw [cell_of_row _ _ _ _ _ _ hx4]; rfl
  have y1 : w4.cell? ⟨w.heap.size, 1, none⟩ = some (.int .i64 x1) := by rw [cell_of_row _ _ _ _ _ _ hx4]; rfl
  have y2 : w4.cell? ⟨w.heap.size, 2, none⟩ = some (.int .i64 x2) := by rw [cell_of_row _ _ _ _ _ _ hx4]; rfl
  have y3 : w4.cell? ⟨w.heap.size, 3, none⟩ = some (.int .i64 x3) := by rw [cell_of_row _ _ _ _ _ _ hx4]; rfl
  have y4 : w4.cell? ⟨w.heap.size, 4, none⟩ = some (.int .i64 x4) := by rw [cell_of_row _ _ _ _ _ _ hx4]; rfl
  have y5 : w4.cell? ⟨w.heap.size, 5, none⟩ = some (.slice a n c) := by rw [cell_of_row _ _ _ _ _ _ hx4]; rfl
  have hcz := chg6 w4 (w.heap.size) (.int .i64 x0) (.int .i64 x1) (.int .i64 x2) (.int .i64 x3) (.int .i64 x4) (.slice a2 m c2)
  obtain ⟨w5, hw5⟩ : ∃ w5, ((((((w4.setCell ⟨w.heap.size, 0, none⟩ (.int .i64 x0)).setCell ⟨w.heap.size, 1, none⟩ (.int .i64 x1)).setCell ⟨w.heap.size, 2, none⟩ (.int .i64 x2)).setCell ⟨w.heap.size, 3, none⟩ (.int .i64 x3)).setCell ⟨w.heap.size, 4, none⟩ (.int .i64 x4)).setCell ⟨w.heap.size, 5, none⟩ (.slice a2 m c2)) = w5 := ⟨_, rfl⟩
  rw [hw5] at hcz
  have hx5 : w5.heap[w.heap.size]? = some (.cells #[.int .i64 x0, .int .i64 x1, .int .i64 x2, .int .i64 x3, .int .i64 x4, .slice a2 m c2] 24 (0, 0)) := by
    rw [← hw5]
    exact row6_set _ _ _ _ _ _ hx4
  have hy5 := (hcz.block _ (Array.getElem?_eq_some_iff.1 hy4).1 (fun h => by have : w2.heap.size = w.heap.size := h; have := HS2.out; omega)).trans hy4
  have ho5 := ownsRow_chg' (own_kept HO3.out hb4) hcz (fun k hk h => own_ne (own_kept HO3.out hb4) hx4 (by decide) k hk h)
  have hb35 := HB3.out.trans (hb4.mono HB3.out.size)
  have hb5 : Below w.heap.size w w5 := below_chg hb35 hcz (Nat.le_refl _) (Nat.le_refl _)
  have hlx := (Array.getElem?_eq_some_iff.1 hx5).1
  have hly := (Array.getElem?_eq_some_iff.1 hy5).1
  have hcell : ∀ w' : World, Below w5.heap.size w5 w' → w'.cell? ⟨w.heap.size, 0, none⟩ = some (.int .i64 x0) ∧ w'.cell? ⟨w.heap.size, 1, none⟩ = some (.int .i64 x1) ∧ w'.cell? ⟨w.heap.size, 2, none⟩ = some (.int .i64 x2) ∧ w'.cell? ⟨w.heap.size, 3, none⟩ = some (.int .i64 x3) ∧ w'.cell? ⟨w.heap.size, 4, none⟩ = some (.int .i64 x4) ∧ w'.cell? ⟨w.heap.size, 5, none⟩ = some (.slice a2 m c2) ∧ w'.cell? ⟨w2.heap.size, 0, none⟩ = some (.int .i64 x0) ∧ w'.cell? ⟨w2.heap.size, 1, none⟩ = some (.int .i64 x1) ∧ w'.cell? ⟨w2.heap.size, 2, none⟩ = some (.int .i64 x2) ∧ w'.cell? ⟨w2.heap.size, 3, none⟩ = some (.int .i64 x3) ∧ w'.cell? ⟨w2.heap.size, 4, none⟩ = some (.int .i64 x4) ∧ w'.cell? ⟨w2.heap.size, 5, none⟩ = some (.slice a2 m c2) := by
    intro w' hb
    have h0 := (hb.block w.heap.size hlx).trans hx5
    have h1 := (hb.block w2.heap.size hly).trans hy5
    refine ⟨?_, ?_, ?_, ?_, ?_, ?_, ?_, ?_, ?_, ?_, ?_, ?_⟩ <;> first | (rw [cell_of_row _ _ _ _ _ _ h0]; rfl) | (rw [cell_of_row _ _ _ _ _ _ h1]; rfl)
  have HCELL := Lib.hid hcell
  have HO5 := Lib.hid ho5
  have HB5 := Lib.hid hb5
  have HW5 := Lib.hid hw5
  obtain ⟨z0, z1, z2, z3, z4, z5, z6, z7, z8, z9, z10, z11⟩ := HCELL.out w5 (Below.refl _ _)
  have hne1 : ¬ w2.heap.size = w.heap.size := by have := HS2.out; omega
  have hne2 : ¬ w.heap.size = w2.heap.size := by have := HS2.out; omega
  clear hx4 hy4 hcz hx5 hy5 ho5 hb35 hb5 hlx hly hcell hb4
  go_wp2_with fail
  try rw [HW5.out]
  clear hw5 hne1 hne2
  clear y0 y1 y2 y3 y4 y5 hrf
  by_cases hE : chkP ⟨x0, x1, x2, x3, x4, l.take m⟩ = 0
  case neg =>
    have hen := EncodePart_no (w := w5) ⟨x0, x1, x2, x3, x4, l.take m⟩ a2 m c2 HML.out hE
    have HEN := Lib.hid hen
    have HC1 := Lib.hid (fun w => check_at ⟨x0, x1, x2, x3, x4, l.take m⟩ a2 m c2 HML.out w)
    have HC2 := Lib.hid (fun w => rcheck_at ⟨x0, x1, x2, x3, x4, l.take m⟩ a2 m c2 HML.out w)
    obtain ⟨E, hE2⟩ : ∃ E, chkP ⟨x0, x1, x2, x3, x4, l.take m⟩ = E := ⟨_, rfl⟩
    rw [hE2] at HEN HC1 HC2 hE
    have hEb : (E != 0) = true := by simpa using hE
    clear hen hE2
    refine HEN.out.mono ?_
    rintro e w6 ⟨rfl, hb6⟩
    have hcl6 := HCELL.out w6 hb6
    have HB6 := Lib.hid hb6
    clear hb6 z0 z1 z2 z3 z4 z5 z6 z7 z8 z9 z10 z11 HEN
    go_wp2_with fail
    refine wp_region_noPanic ?_
    refine wp_region_H (Below w5.heap.size w5) (by kernel_rfl) ?_
    have hS0 : (Below w5.heap.size w5) w6.drew := HB6.out.drew
    obtain ⟨wd, hwd⟩ : ∃ wd, w6.drew = wd := ⟨_, rfl⟩
    have hSd : Below w6.heap.size w6 w6.drew := (Below.refl _ _).drew
    rw [hwd] at hS0 hSd ⊢
    clear hwd
    refine wpAnyH_do (i := 0) (by kernel_rfl) rfl rfl (fun K hK => ?_)
    go_simp
    go_at_call 18
    refine (known_any (HK.out.below (HB5.out.trans (hS0.mono HB5.out.size)) HK.out.size)).mono ?_
    rintro e w7 ⟨rfl, hb7⟩
    have hS1 := hS0.trans (hb7.mono hS0.size)
    refine hK _ _ (hS1) ?_
    clear hK K
    try simp only [Act.put, List.setIfInBounds_toArray, List.set_cons_zero, List.set_cons_succ]
    refine wpAnyH_takeI (i := 1) (v := ?v25) rfl (by kernel_rfl) (by kernel_rfl) (by kernel_rfl) (fun _ _ _ h => h) (yieldsIf_run rfl (fun w' hw' => ?y25)) hS1 ?_
    case y25 => first | (go_simp; rfl) | (go_simp; done) | rfl
    simp only [Act.put, List.setIfInBounds_toArray, List.set_cons_zero, List.set_cons_succ]
    refine wpAnyH_takeI (i := 2) (v := ?v26) rfl (by kernel_rfl) (by kernel_rfl) (by kernel_rfl) (fun _ _ _ h => h) (yieldsIf_run rfl (fun w' hw' => ?y26)) hS1 ?_
    case y26 => first | (go_simp; rfl) | (go_simp; done) | rfl
    simp only [Act.put, List.setIfInBounds_toArray, List.set_cons_zero, List.set_cons_succ]
    refine wpAnyH_takeI (i := 3) (v := ?v27) rfl (by kernel_rfl) (by kernel_rfl) (by kernel_rfl) (fun _ _ _ h => h) (yieldsIf_want rfl (fun w' hw' => ?y27)) hS1 ?_
    case y27 => (obtain ⟨z0, z1, z2, z3, z4, z5, z6, z7, z8, z9, z10, z11⟩ := HCELL.out w' hw'; clear hw'; first | (go_simp; rfl) | (go_simp; done))
    simp only [Act.put, List.setIfInBounds_toArray, List.set_cons_zero, List.set_cons_succ]
    refine wpAnyH_takeI (i := 5) (v := ?v28) rfl (by kernel_rfl) (by kernel_rfl) (by kernel_rfl) (fun _ _ _ h => h) (yieldsIf_want rfl (fun w' hw' => ?y28)) hS1 ?_
    case y28 => (obtain ⟨z0, z1, z2, z3, z4, z5, z6, z7, z8, z9, z10, z11⟩ := HCELL.out w' hw'; clear hw'; first | (go_simp; rfl) | (go_simp; done))
    simp only [Act.put, List.setIfInBounds_toArray, List.set_cons_zero, List.set_cons_succ]
    refine wpAnyH_want (i := 4) (by kernel_rfl) rfl rfl (fun K hK => ?_)
    go_simp
    go_at_call 19
    refine (HC1.out w7).mono ?_
    rintro e w8 ⟨rfl, hb8⟩
    have hS2 := hS1.trans (hb8.mono hS1.size)
    refine hK _ _ (hS2) ?_
    clear hK K
    try simp only [Act.put, List.setIfInBounds_toArray, List.set_cons_zero, List.set_cons_succ]
    refine wpAnyH_want (i := 6) (by kernel_rfl) rfl rfl (fun K hK => ?_)
    go_simp
    go_at_call 20
    refine (HC2.out w8).mono ?_
    rintro e w9 ⟨rfl, hb9⟩
    have hS3a := hS2.trans (hb9.mono hS2.size)
    refine hK _ _ (hS3a) ?_
    clear hK K
    try simp only [Act.put, List.setIfInBounds_toArray, List.set_cons_zero, List.set_cons_succ]
    refine wpAnyH_takeI (i := 7) (v := ?v29) rfl (by kernel_rfl) (by kernel_rfl) (by kernel_rfl) (fun _ _ _ h => h) (yieldsIf_want rfl (fun w' hw' => ?y29)) hS3a ?_
    case y29 => first | (go_simp; rfl) | (go_simp; done) | rfl
    simp only [Act.put, List.setIfInBounds_toArray, List.set_cons_zero, List.set_cons_succ]
    refine wpAnyH_takeI (i := 8) (v := ?v30) rfl (by kernel_rfl) (by kernel_rfl) (by kernel_rfl) (fun _ _ _ h => h) (yieldsIf_run rfl (fun w' hw' => ?y30)) hS3a ?_
    case y30 => first | (go_simp; rfl) | (go_simp; done) | rfl
    simp only [Act.put, List.setIfInBounds_toArray, List.set_cons_zero, List.set_cons_succ]
    refine wpAnyH_takeI (i := 9) (v := ?v31) rfl (by kernel_rfl) (by kernel_rfl) (by kernel_rfl) (fun _ _ _ h => h) (yieldsIf_run rfl (fun w' hw' => ?y31)) hS3a ?_
    case y31 => first | (go_simp; rfl) | (go_simp; done) | rfl
    simp only [Act.put, List.setIfInBounds_toArray, List.set_cons_zero, List.set_cons_succ]
    refine wpAnyH_takeI (i := 10) (v := ?v32) rfl (by kernel_rfl) (by kernel_rfl) (by kernel_rfl) (fun _ _ _ h => h) (yieldsIf_want rfl (fun w' hw' => ?y32)) hS3a ?_
    case y32 => first | (go_simp; rfl) | (go_simp; done) | rfl
    simp only [Act.put, List.setIfInBounds_toArray, List.set_cons_zero, List.set_cons_succ]
    refine wpAnyH_takeI (i := 11) (v := ?v33) rfl (by kernel_rfl) (by kernel_rfl) (by kernel_rfl) (fun _ _ _ h => h) (yieldsIf_want rfl (fun w' hw' => ?y33)) hS3a ?_
    case y33 => (obtain ⟨z0, z1, z2, z3, z4, z5, z6, z7, z8, z9, z10, z11⟩ := HCELL.out w' hw'; clear hw'; first | (go_simp; rfl) | (go_simp; done))
    simp only [Act.put, List.setIfInBounds_toArray, List.set_cons_zero, List.set_cons_succ]
    refine wpAnyH_want (i := 12) (by kernel_rfl) rfl rfl (fun K hK => ?_)
    go_simp
    go_at_call 20
    refine (HC2.out w9).mono ?_
    rintro e wa ⟨rfl, hba⟩
    have hS3 := hS3a.trans (hba.mono hS3a.size)
    refine hK _ _ (hS3) ?_
    clear hK K
    try simp only [Act.put, List.setIfInBounds_toArray, List.set_cons_zero, List.set_cons_succ]
    refine wpAnyH_takeI (i := 13) (v := ?v34) rfl (by kernel_rfl) (by kernel_rfl) (by kernel_rfl) (fun _ _ _ h => h) (yieldsIf_want rfl (fun w' hw' => ?y34)) hS3 ?_
    case y34 => first | (go_simp; rfl) | (go_simp; done) | rfl
    simp only [Act.put, List.setIfInBounds_toArray, List.set_cons_zero, List.set_cons_succ]
    refine wpAnyH_takeI (i := 14) (v := ?v35) rfl (by kernel_rfl) (by kernel_rfl) (by kernel_rfl) (fun _ _ _ h => h) (yieldsIf_run rfl (fun w' hw' => ?y35)) hS3 ?_
    case y35 => first | (go_simp; rfl) | (go_simp; done) | rfl
    simp only [Act.put, List.setIfInBounds_toArray, List.set_cons_zero, List.set_cons_succ]
    refine wpAnyH_done (by kernel_rfl) ?_ _
    refine NoPanic.normal ?_
    go_wp2_with fail
    go_ret
    exact ⟨rfl, HB5.out.trans (hS3.mono HB5.out.size)⟩
  have hen := EncodePart_ok (w := w5) ⟨x0, x1, x2, x3, x4, l.take m⟩ a2 m c2 (own_bytes HO5.out) HML.out (HK.out.below HB5.out HK.out.size) hE
  have HEN := Lib.hid hen
  have HC1 := Lib.hid (fun w => check_at ⟨x0, x1, x2, x3, x4, l.take m⟩ a2 m c2 HML.out w)
  have HC2 := Lib.hid (fun w => rcheck_at ⟨x0, x1, x2, x3, x4, l.take m⟩ a2 m c2 HML.out w)
  rw [hE] at HC1 HC2
  have HOK := Lib.hid (chkP_ok hE)
  clear hen hE
  refine HEN.out.mono ?_
  rintro e w6 ⟨u, rfl, hu6, hb6⟩
  have hde := dec_enc HOK.out
  obtain ⟨L6, hL6⟩ : ∃ L6, encL ⟨x0, x1, x2, x3, x4, l.take m⟩ = L6 := ⟨_, rfl⟩
  rw [hL6] at hu6 hde
  obtain ⟨ua, uc, rfl⟩ := ownsRow_form hu6
  have HU := Lib.hid hu6
  have HDE := Lib.hid hde
  have HL6 := Lib.hid hL6
  have HB6 := Lib.hid hb6
  clear hb6 hu6 hde hL6 z0 z1 z2 z3 z4 z5 z6 z7 z8 z9 z10 z11 HEN
  go_wp2_with fail
  refine wp_region_noPanic ?_
  refine wp_region_H (Below w5.heap.size w5) (by kernel_rfl) ?_
  have hS0 : (Below w5.heap.size w5) w6.drew := HB6.out.drew
  obtain ⟨wd, hwd⟩ : ∃ wd, w6.drew = wd := ⟨_, rfl⟩
  have hSd : Below w6.heap.size w6 w6.drew := (Below.refl _ _).drew
  rw [hwd] at hS0 hSd ⊢
  clear hwd
  refine wpAnyH_do (i := 0) (by kernel_rfl) rfl rfl (fun K hK => ?_)
  go_simp
  go_at_call 18
  refine (known_any (HK.out.below (HB5.out.trans (hS0.mono HB5.out.size)) HK.out.size)).mono ?_
  rintro e w7 ⟨rfl, hb7⟩
  have hS1 := hS0.trans (hb7.mono hS0.size)
  refine hK _ _ (hS1) ?_
  clear hK K
  try simp only [Act.put, List.setIfInBounds_toArray, List.set_cons_zero, List.set_cons_succ]
  refine wpAnyH_takeI (i := 1) (v := ?v1) rfl (by kernel_rfl) (by kernel_rfl) (by kernel_rfl) (fun _ _ _ h => h) (yieldsIf_run rfl (fun w' hw' => ?y1)) hS1 ?_
  case y1 => first | (go_simp; rfl) | (go_simp; done) | rfl
  simp only [Act.put, List.setIfInBounds_toArray, List.set_cons_zero, List.set_cons_succ]
  refine wpAnyH_takeI (i := 2) (v := ?v2) rfl (by kernel_rfl) (by kernel_rfl) (by kernel_rfl) (fun _ _ _ h => h) (yieldsIf_run rfl (fun w' hw' => ?y2)) hS1 ?_
  case y2 => first | (go_simp; rfl) | (go_simp; done) | rfl
  simp only [Act.put, List.setIfInBounds_toArray, List.set_cons_zero, List.set_cons_succ]
  refine wpAnyH_takeI (i := 3) (v := ?v3) rfl (by kernel_rfl) (by kernel_rfl) (by kernel_rfl) (fun _ _ _ h => h) (yieldsIf_want rfl (fun w' hw' => ?y3)) hS1 ?_
  case y3 => (obtain ⟨z0, z1, z2, z3, z4, z5, z6, z7, z8, z9, z10, z11⟩ := HCELL.out w' hw'; clear hw'; first | (go_simp; rfl) | (go_simp; done))
  simp only [Act.put, List.setIfInBounds_toArray, List.set_cons_zero, List.set_cons_succ]
  refine wpAnyH_takeI (i := 5) (v := ?v4) rfl (by kernel_rfl) (by kernel_rfl) (by kernel_rfl) (fun _ _ _ h => h) (yieldsIf_want rfl (fun w' hw' => ?y4)) hS1 ?_
  case y4 => (obtain ⟨z0, z1, z2, z3, z4, z5, z6, z7, z8, z9, z10, z11⟩ := HCELL.out w' hw'; clear hw'; first | (go_simp; rfl) | (go_simp; done))
  simp only [Act.put, List.setIfInBounds_toArray, List.set_cons_zero, List.set_cons_succ]
  refine wpAnyH_want (i := 4) (by kernel_rfl) rfl rfl (fun K hK => ?_)
  go_simp
  go_at_call 19
  refine (HC1.out w7).mono ?_
  rintro e w8 ⟨rfl, hb8⟩
  have hS2 := hS1.trans (hb8.mono hS1.size)
  refine hK _ _ (hS2) ?_
  clear hK K
  try simp only [Act.put, List.setIfInBounds_toArray, List.set_cons_zero, List.set_cons_succ]
  refine wpAnyH_want (i := 6) (by kernel_rfl) rfl rfl (fun K hK => ?_)
  go_simp
  go_at_call 20
  refine (HC2.out w8).mono ?_
  rintro e w9 ⟨rfl, hb9⟩
  have hS3a := hS2.trans (hb9.mono hS2.size)
  refine hK _ _ (hS3a) ?_
  clear hK K
  try simp only [Act.put, List.setIfInBounds_toArray, List.set_cons_zero, List.set_cons_succ]
  refine wpAnyH_takeI (i := 7) (v := ?v5) rfl (by kernel_rfl) (by kernel_rfl) (by kernel_rfl) (fun _ _ _ h => h) (yieldsIf_want rfl (fun w' hw' => ?y5)) hS3a ?_
  case y5 => first | (go_simp; rfl) | (go_simp; done) | rfl
  simp only [Act.put, List.setIfInBounds_toArray, List.set_cons_zero, List.set_cons_succ]
  refine wpAnyH_takeI (i := 8) (v := ?v6) rfl (by kernel_rfl) (by kernel_rfl) (by kernel_rfl) (fun _ _ _ h => h) (yieldsIf_run rfl (fun w' hw' => ?y6)) hS3a ?_
  case y6 => first | (go_simp; rfl) | (go_simp; done) | rfl
  simp only [Act.put, List.setIfInBounds_toArray, List.set_cons_zero, List.set_cons_succ]
  refine wpAnyH_takeI (i := 9) (v := ?v7) rfl (by kernel_rfl) (by kernel_rfl) (by kernel_rfl) (fun _ _ _ h => h) (yieldsIf_run rfl (fun w' hw' => ?y7)) hS3a ?_
  case y7 => first | (go_simp; rfl) | (go_simp; done) | rfl
  simp only [Act.put, List.setIfInBounds_toArray, List.set_cons_zero, List.set_cons_succ]
  refine wpAnyH_takeI (i := 10) (v := ?v8) rfl (by kernel_rfl) (by kernel_rfl) (by kernel_rfl) (fun _ _ _ h => h) (yieldsIf_want rfl (fun w' hw' => ?y8)) hS3a ?_
  case y8 => first | (go_simp; rfl) | (go_simp; done) | rfl
  simp only [Act.put, List.setIfInBounds_toArray, List.set_cons_zero, List.set_cons_succ]
  refine wpAnyH_takeI (i := 11) (v := ?v9) rfl (by kernel_rfl) (by kernel_rfl) (by kernel_rfl) (fun _ _ _ h => h) (yieldsIf_want rfl (fun w' hw' => ?y9)) hS3a ?_
  case y9 => (obtain ⟨z0, z1, z2, z3, z4, z5, z6, z7, z8, z9, z10, z11⟩ := HCELL.out w' hw'; clear hw'; first | (go_simp; rfl) | (go_simp; done))
  simp only [Act.put, List.setIfInBounds_toArray, List.set_cons_zero, List.set_cons_succ]
  refine wpAnyH_want (i := 12) (by kernel_rfl) rfl rfl (fun K hK => ?_)
  go_simp
  go_at_call 20
  refine (HC2.out w9).mono ?_
  rintro e wa ⟨rfl, hba⟩
  have hS3 := hS3a.trans (hba.mono hS3a.size)
  refine hK _ _ (hS3) ?_
  clear hK K
  try simp only [Act.put, List.setIfInBounds_toArray, List.set_cons_zero, List.set_cons_succ]
  refine wpAnyH_takeI (i := 13) (v := ?v10) rfl (by kernel_rfl) (by kernel_rfl) (by kernel_rfl) (fun _ _ _ h => h) (yieldsIf_want rfl (fun w' hw' => ?y10)) hS3 ?_
  case y10 => first | (go_simp; rfl) | (go_simp; done) | rfl
  simp only [Act.put, List.setIfInBounds_toArray, List.set_cons_zero, List.set_cons_succ]
  refine wpAnyH_takeI (i := 14) (v := ?v11) rfl (by kernel_rfl) (by kernel_rfl) (by kernel_rfl) (fun _ _ _ h => h) (yieldsIf_run rfl (fun w' hw' => ?y11)) hS3 ?_
  case y11 => first | (go_simp; rfl) | (go_simp; done) | rfl
  simp only [Act.put, List.setIfInBounds_toArray, List.set_cons_zero, List.set_cons_succ]
  refine wpAnyH_done (by kernel_rfl) ?_ _
  refine NoPanic.normal ?_
  have hbw : Below w6.heap.size w6 wa := hSd.trans ((hb7.trans ((hb8.trans ((hb9.trans (hba.mono hb9.size)).mono hb8.size)).mono hb7.size)).mono hSd.size)
  have hu := own_kept HU.out hbw
  have hbd := HB5.out.trans (hS3.mono HB5.out.size)
  have hdec := DecodePart_any L6 _ (own_bytes hu) (HK.out.below hbd HK.out.size)
  have HDEC := Lib.hid hdec
  have HUA := Lib.hid hu
  have HBA := Lib.hid hbd
  have HS3 := Lib.hid hS3
  clear hbw hu hbd hdec hb7 hb8 hb9 hba hS0 hSd hS1 hS2 hS3a hS3
  go_wp2_with fail
  refine HDEC.out.mono ?_
  intro e wb hd
  obtain ⟨a9, c9, rfl, ho9, hbb⟩ := hd.parts
  rw [HDE.out.1, HDE.out.2]
  rw [HDE.out.2] at ho9
  simp only [HML.out] at ho9 ⊢
  obtain ⟨wc, hwc⟩ : ∃ wc, wb.alloc (.cells #[.int .i64 x0, .int .i64 x1, .int .i64 x2, .int .i64 x3, .int .i64 x4, .slice a9 m c9] 25) = wc := ⟨_, rfl⟩
  have hbc : Below wb.heap.size wb wc := hwc ▸ (Below.refl _ _).alloc (Nat.le_refl _) _
  have hxc : wc.heap[wb.heap.size]? = some (.cells #[.int .i64 x0, .int .i64 x1, .int .i64 x2, .int .i64 x3, .int .i64 x4, .slice a9 m c9] 25 (0, 0)) := by rw [← hwc]; exact heap_alloc_new _ _
  have hac := hbb.trans (hbc.mono hbb.size)
  have h5c := HS3.out.trans (hac.mono HS3.out.size)
  have HO9 := Lib.hid (own_bytes (own_kept ho9 hbc))
  have HUC := Lib.hid (own_bytes (own_kept HUA.out hac))
  have HO5C := Lib.hid (own_bytes (own_kept HO5.out h5c))
  have HWC := Lib.hid hwc
  have HXC := Lib.hid hxc
  have HBC := Lib.hid (HB5.out.trans (h5c.mono HB5.out.size))
  have H5C := Lib.hid h5c
  clear hd ho9 hbb hwc hbc hxc hac h5c HDEC
  go_wp2_with fail
  rw [HWC.out]
  have HXQ := Lib.hid (show ∀ w' : World, Below wc.heap.size wc w' → w'.cell? ⟨wb.heap.size, 0, none⟩ = some (.int .i64 x0) ∧ w'.cell? ⟨wb.heap.size, 1, none⟩ = some (.int .i64 x1) ∧ w'.cell? ⟨wb.heap.size, 2, none⟩ = some (.int .i64 x2) ∧ w'.cell? ⟨wb.heap.size, 3, none⟩ = some (.int .i64 x3) ∧ w'.cell? ⟨wb.heap.size, 4, none⟩ = some (.int .i64 x4) ∧ w'.cell? ⟨wb.heap.size, 5, none⟩ = some (.slice a9 m c9) from by
    intro w' hb
    have h0 := (hb.block wb.heap.size (Array.getElem?_eq_some_iff.1 HXC.out).1).trans HXC.out
    refine ⟨?_, ?_, ?_, ?_, ?_, ?_⟩ <;> (rw [cell_of_row _ _ _ _ _ _ h0]; rfl))
  refine wp_region_noPanic ?_
  refine wp_region_H (Below wc.heap.size wc) (by kernel_rfl) ?_
  have hS0 : (Below wc.heap.size wc) wc.drew := (Below.refl _ _).drew
  obtain ⟨wd', hwd⟩ : ∃ wd', wc.drew = wd' := ⟨_, rfl⟩
  rw [hwd] at hS0 ⊢
  clear hwd
  refine wpAnyH_takeI (i := 0) (v := ?v12) rfl (by kernel_rfl) (by kernel_rfl) (by kernel_rfl) (fun _ _ _ h => h) (yieldsIf_run rfl (fun w' hw' => ?y12)) hS0 ?_
  case y12 => first | (go_simp; rfl) | (go_simp; done) | rfl
  simp only [Act.put, List.setIfInBounds_toArray, List.set_cons_zero, List.set_cons_succ]
  refine wpAnyH_takeI (i := 1) (v := ?v13) rfl (by kernel_rfl) (by kernel_rfl) (by kernel_rfl) (fun _ _ _ h => h) (yieldsIf_run rfl (fun w' hw' => ?y13)) hS0 ?_
  case y13 => (have s1 := (HUC.out.below hw').str; clear hw'; first | (go_simp; rfl) | (go_simp; done))
  simp only [Act.put, List.setIfInBounds_toArray, List.set_cons_zero, List.set_cons_succ]
  refine wpAnyH_takeI (i := 2) (v := ?v14) rfl (by kernel_rfl) (by kernel_rfl) (by kernel_rfl) (fun _ _ _ h => h) (yieldsIf_run rfl (fun w' hw' => ?y14)) hS0 ?_
  case y14 => (obtain ⟨z0, z1, z2, z3, z4, z5, z6, z7, z8, z9, z10, z11⟩ := HCELL.out w' (H5C.out.trans (hw'.mono H5C.out.size)); clear hw'; first | (go_simp; rfl) | (go_simp; done))
  simp only [Act.put, List.setIfInBounds_toArray, List.set_cons_zero, List.set_cons_succ]
  refine wpAnyH_do (i := 3) (by kernel_rfl) rfl rfl (fun K hK => ?_)
  go_simp
  go_at_call 22
  refine (Encode_part ⟨x0, x1, x2, x3, x4, l.take m⟩ HOK.out a2 m c2 (own_bytesN (own_kept HO5.out (H5C.out.trans (hS0.mono H5C.out.size))))).mono ?_
  rintro e wx ⟨ux, rfl, hux, hbx⟩
  have hS1 := hS0.trans (hbx.mono hS0.size)
  rw [HL6.out] at hux
  obtain ⟨xa, xc, rfl⟩ := ownsRow_form hux
  refine hK _ _ (hS1) ?_
  clear hK K
  try simp only [Act.put, List.setIfInBounds_toArray, List.set_cons_zero, List.set_cons_succ]
  refine wpAnyH_do (i := 4) (by kernel_rfl) rfl rfl (fun K hK => ?_)
  have s4 := (own_bytes hux).str
  go_simp
  refine hK _ _ (hS1) ?_
  clear hK K
  try simp only [Act.put, List.setIfInBounds_toArray, List.set_cons_zero, List.set_cons_succ]
  refine wpAnyH_takeI (i := 5) (v := ?v15) rfl (by kernel_rfl) (by kernel_rfl) (by kernel_rfl) (fun _ _ _ h => h) (yieldsIf_run rfl (fun w' hw' => ?y15)) hS1 ?_
  case y15 => first | (go_simp; rfl) | (go_simp; done) | rfl
  simp only [Act.put, List.setIfInBounds_toArray, List.set_cons_zero, List.set_cons_succ]
  refine wpAnyH_takeI (i := 6) (v := ?v16) rfl (by kernel_rfl) (by kernel_rfl) (by kernel_rfl) (fun _ _ _ h => h) (yieldsIf_run rfl (fun w' hw' => ?y16)) hS1 ?_
  case y16 => first | (go_simp; rfl) | (go_simp; done) | rfl
  simp only [Act.put, List.setIfInBounds_toArray, List.set_cons_zero, List.set_cons_succ]
  refine wpAnyH_takeI (i := 7) (v := ?v17) rfl (by kernel_rfl) (by kernel_rfl) (by kernel_rfl) (fun _ _ _ h => h) (yieldsIf_want rfl (fun w' hw' => ?y17)) hS1 ?_
  case y17 => first | (go_simp; rfl) | (go_simp; done) | rfl
  simp only [Act.put, List.setIfInBounds_toArray, List.set_cons_zero, List.set_cons_succ]
  refine wpAnyH_takeI (i := 8) (v := ?v18) rfl (by kernel_rfl) (by kernel_rfl) (by kernel_rfl) (fun _ _ _ h => h) (yieldsIf_want rfl (fun w' hw' => ?y18)) hS1 ?_
  case y18 => first | (go_simp; rfl) | (go_simp; done) | rfl
  simp only [Act.put, List.setIfInBounds_toArray, List.set_cons_zero, List.set_cons_succ]
  refine wpAnyH_takeI (i := 9) (v := ?v19) rfl (by kernel_rfl) (by kernel_rfl) (by kernel_rfl) (fun _ _ _ h => h) (yieldsIf_run rfl (fun w' hw' => ?y19)) hS1 ?_
  case y19 => first | (go_simp; rfl) | (go_simp; done) | rfl
  simp only [Act.put, List.setIfInBounds_toArray, List.set_cons_zero, List.set_cons_succ]
  refine wpAnyH_takeI (i := 10) (v := ?v20) rfl (by kernel_rfl) (by kernel_rfl) (by kernel_rfl) (fun _ _ _ h => h) (yieldsIf_run rfl (fun w' hw' => ?y20)) hS1 ?_
  case y20 => first | (go_simp; rfl) | (go_simp; done) | rfl
  simp only [Act.put, List.setIfInBounds_toArray, List.set_cons_zero, List.set_cons_succ]
  refine wpAnyH_takeI (i := 11) (v := ?v21) rfl (by kernel_rfl) (by kernel_rfl) (by kernel_rfl) (fun _ _ _ h => h) (yieldsIf_want rfl (fun w' hw' => ?y21)) hS1 ?_
  case y21 => (obtain ⟨q0, q1, q2, q3, q4, q5⟩ := HXQ.out w' hw'; clear hw'; first | (go_simp; rfl) | (go_simp; done))
  simp only [Act.put, List.setIfInBounds_toArray, List.set_cons_zero, List.set_cons_succ]
  refine wpAnyH_takeI (i := 13) (v := ?v22) rfl (by kernel_rfl) (by kernel_rfl) (by kernel_rfl) (fun _ _ _ h => h) (yieldsIf_want rfl (fun w' hw' => ?y22)) hS1 ?_
  case y22 => (obtain ⟨z0, z1, z2, z3, z4, z5, z6, z7, z8, z9, z10, z11⟩ := HCELL.out w' (H5C.out.trans (hw'.mono H5C.out.size)); clear hw'; first | (go_simp; rfl) | (go_simp; done))
  simp only [Act.put, List.setIfInBounds_toArray, List.set_cons_zero, List.set_cons_succ]
  refine wpAnyH_want (i := 12) (by kernel_rfl) rfl rfl (fun K hK => ?_)
  go_simp
  go_at_call 16
  refine (back_any x0 x1 x2 x3 x4 a9 m c9 wx).mono ?_
  rintro e wy ⟨rfl, hby⟩
  have hS2 := hS1.trans (hby.mono hS1.size)
  refine hK _ _ (hS2) ?_
  clear hK K
  try simp only [Act.put, List.setIfInBounds_toArray, List.set_cons_zero, List.set_cons_succ]
  refine wpAnyH_want (i := 14) (by kernel_rfl) rfl rfl (fun K hK => ?_)
  go_simp
  go_at_call 23
  refine (same_any x0 x1 x2 x3 x4 a9 a2 m c9 m c2 (l.take m) (HO9.out.below hS2) (HO5C.out.below hS2)).mono ?_
  rintro e wz ⟨rfl, hbz⟩
  have hS3 := hS2.trans (hbz.mono hS2.size)
  refine hK _ _ (hS3) ?_
  clear hK K
  try simp only [Act.put, List.setIfInBounds_toArray, List.set_cons_zero, List.set_cons_succ]
  refine wpAnyH_takeI (i := 15) (v := ?v23) rfl (by kernel_rfl) (by kernel_rfl) (by kernel_rfl) (fun _ _ _ h => h) (yieldsIf_run rfl (fun w' hw' => ?y23)) hS3 ?_
  case y23 => first | (go_simp; rfl) | (go_simp; done) | rfl
  simp only [Act.put, List.setIfInBounds_toArray, List.set_cons_zero, List.set_cons_succ]
  refine wpAnyH_takeI (i := 16) (v := ?v24) rfl (by kernel_rfl) (by kernel_rfl) (by kernel_rfl) (fun _ _ _ h => h) (yieldsIf_run rfl (fun w' hw' => ?y24)) hS3 ?_
  case y24 => first | (go_simp; rfl) | (go_simp; done) | rfl
  simp only [Act.put, List.setIfInBounds_toArray, List.set_cons_zero, List.set_cons_succ]
  refine wpAnyH_done (by kernel_rfl) ?_ _
  refine NoPanic.normal ?_
  go_wp2_with fail
  go_ret
  exact ⟨rfl, HBC.out.trans (hS3.mono HBC.out.size)⟩

end Go.Proofs.YtloaenknhkfaeaaDoor
