/- The reference's new device: that there is one. -/
import Derived.Test.YtplclpileejemaaDoorJ25Z
namespace Go.Proofs.YtplclpileejemaaDoor
open Go.RowKit
set_option linter.unusedVariables false
set_option linter.unusedSimpArgs false

def rDev (va : Option Addr) (n vc : Nat) : Array Value := #[.slice va n vc, .slice none 0 0, .int .i64 (-1), .bool false, .int .i64 0]
set_option maxRecDepth 100000 in
set_option maxHeartbeats 2000000 in
theorem rNew_any {w : World} (n : Nat) (h1 : 1 ≤ n) (h2 : n ≤ 4096) : Calls Tryd.prog 26 #[.int .i64 (n : Int)] w fun e w' => ∃ va vc, e = .returned (.tuple #[.agg (rDev va n vc), .int .i64 0]) ∧ Below w.heap.size w w' := by
  have hmk := jmk 256 (by omega)
  have hmk2 : ∀ w, (Instr.makeSlice 36 (.int .i64 256) (.int .i64 256)).run Tryd.prog w = .ok (.slice (some ⟨w.heap.size, 0, none⟩) 256 256) (w.alloc (.cells (bvs (List.replicate 256 0)).toArray 5)) := fun w => hmk w
  obtain ⟨l0, hl0⟩ : ∃ l0, List.replicate 256 (0 : UInt8) = l0 := ⟨_, rfl⟩
  have HFR := Lib.hid (show ∀ w : World, BytesN (w.alloc (.cells (bvs l0).toArray 5)) (fun k => w.heap.size ≤ k) (.slice (some ⟨w.heap.size, 0, none⟩) 256 256) l0 from fun w => by rw [← hl0]; exact fresh_n 256)
  rw [hl0] at hmk2
  have h1' : ¬ (n : Int) < 1 := by omega
  have h2' : ¬ (4096 : Int) < (n : Int) := by omega
  obtain ⟨w1, hw1⟩ : ∃ w1, w.alloc (.cells (rDev none 0 0 |>.setIfInBounds 2 (.int .i64 0)) 59) = w1 := ⟨_, rfl⟩
  have hb1 : Below w.heap.size w w1 := hw1 ▸ (Below.refl _ _).alloc (Nat.le_refl _) _
  have s1 : w1.heap.size = w.heap.size + 1 := by rw [← hw1]; simp
  have x1 : w1.heap[w.heap.size]? = some (.cells #[.slice none 0 0, .slice none 0 0, .int .i64 0, .bool false, .int .i64 0] 59 (0, 0)) := by rw [← hw1]; exact heap_alloc_new _ _
  obtain ⟨w2, hw2⟩ : ∃ w2, w1.alloc (.cells #[.slice none 0 0, .slice none 0 0, .int .i64 0, .bool false, .int .i64 0] 59) = w2 := ⟨_, rfl⟩
  have hb2 : Below w1.heap.size w1 w2 := hw2 ▸ (Below.refl _ _).alloc (Nat.le_refl _) _
  have s2 : w2.heap.size = w1.heap.size + 1 := by rw [← hw2]; simp
  have x2 : w2.heap[w1.heap.size]? = some (.cells #[.slice none 0 0, .slice none 0 0, .int .i64 0, .bool false, .int .i64 0] 59 (0, 0)) := by rw [← hw2]; exact heap_alloc_new _ _
  have hw1' : w.alloc (.cells #[.slice none 0 0, .slice none 0 0, .int .i64 0, .bool false, .int .i64 0] 59) = w1 := hw1
  have HX2 := Lib.hid (show ((w.alloc (.cells #[.slice none 0 0, .slice none 0 0, .int .i64 0, .bool false, .int .i64 0] 59)).alloc (.cells #[.slice none 0 0, .slice none 0 0, .int .i64 0, .bool false, .int .i64 0] 59)).heap[w.heap.size + 1]? = some (.cells #[.slice none 0 0, .slice none 0 0, .int .i64 0, .bool false, .int .i64 0] 59 (0, 0)) by
    rw [hw1', hw2, ← s1]; exact x2)
  have HX1 := Lib.hid ((hb2.block _ (by omega)).trans x1)
  have HW := Lib.hid (show ((w.alloc (.cells #[.slice none 0 0, .slice none 0 0, .int .i64 0, .bool false, .int .i64 0] 59)).alloc (.cells #[.slice none 0 0, .slice none 0 0, .int .i64 0, .bool false, .int .i64 0] 59)) = w2 by rw [hw1', hw2])
  have HB2 := Lib.hid (hb1.trans (hb2.mono (by omega)))
  have HS2 := Lib.hid (show w2.heap.size = w.heap.size + 2 by omega)
  clear hw1 hw2 hw1' hb1 hb2 s1 s2 x1 x2 hmk hl0
  go_enter Tryd.func26, Tryd.ntmps26
  go_wp2_with (refine wpList_putV rfl rfl 59 (.tmp 4) (.tmp 13) rfl _ (rDev none 0 0) rfl rfl 59 _ HX2.out (by kernel_rfl) rfl (by kernel_rfl) ?_; refine Stop.on ?_)
  refine Stop.go ?_
  try simp only [Act.put, List.setIfInBounds_toArray, List.set_cons_zero, List.set_cons_succ]
  intro W0 x0 c0 s0
  try simp only [Act.put, List.setIfInBounds_toArray, List.set_cons_zero, List.set_cons_succ]
  rw [HW.out] at c0
  have HC0 := Lib.hid c0
  have HX0 := Lib.hid x0
  have hsz0 : W0.heap.size = w.heap.size + 2 := by omega
  have HB0 := Lib.hid (HB2.out.trans (c0.below (fun k e => by omega) HB2.out.size))
  have HX1' := Lib.hid ((c0.block w.heap.size (Array.getElem?_eq_some_iff.1 HX1.out).1 (by omega)).trans HX1.out)
  obtain ⟨q, hq⟩ : ∃ q, w.heap.size + 1 = q := ⟨_, rfl⟩
  rw [hq] at HX0 ⊢
  have HQ := Lib.hid (show w.heap.size + 1 = q ∧ W0.heap.size = q + 1 by omega)
  have HE0 := Lib.hid (entsAt_nil W0 (fun k => q + 1 ≤ k))
  have HCC := Lib.hid (Chg.refl (fun k => q ≤ k) W0)
  clear x0 c0 s0 hq HX1 HX2 HW HC0 hsz0
  go_wp2_with fail
  go_loopw [5] (fun iv wr => ∃ (i : Nat) (L : List (List UInt8)) (va : Option Addr) (vc : Nat), i ≤ n ∧ iv = .int .i64 (i : Int) ∧ L.length = i ∧ Hid (wr.heap[q]? = some (.cells (rDev va i vc) 59 (0, 0))) ∧ Hid (EntsAt wr (fun k => q + 1 ≤ k) (.slice va i vc) L) ∧ Hid (Chg (fun k => q ≤ k) W0 wr)) (fun iv _ => n - (intOf iv).toNat)
  case atStart => exact ⟨0, [], none, 0, Nat.zero_le _, rfl, rfl, HX0, HE0, HCC⟩
  case round =>
    obtain ⟨i, L, va, vc, hi, rfl, hL, HXR, HER, HCR⟩ := hrel
    obtain ⟨W1, rfl⟩ : ∃ W1, W1 = wr := ⟨_, rfl⟩
    clear HX0 HE0 HCC
    by_cases hlt : i < n
    case neg =>
      obtain rfl : n = i := by omega
      have HX2 := Lib.hid ((HCR.out.block w.heap.size (Array.getElem?_eq_some_iff.1 HX1'.out).1 (by have := HQ.out; omega)).trans HX1'.out)
      have y0 : W1.cell? ⟨q, 0, none⟩ = some (.slice va n vc) := by rw [cell_of_row _ _ _ _ _ _ HXR.out]; rfl
      have y1 : W1.cell? ⟨q, 1, none⟩ = some (.slice none 0 0) := by rw [cell_of_row _ _ _ _ _ _ HXR.out]; rfl
      have y2 : W1.cell? ⟨q, 2, none⟩ = some (.int .i64 (-1)) := by rw [cell_of_row _ _ _ _ _ _ HXR.out]; rfl
      have y3 : W1.cell? ⟨q, 3, none⟩ = some (.bool false) := by rw [cell_of_row _ _ _ _ _ _ HXR.out]; rfl
      have y4 : W1.cell? ⟨q, 4, none⟩ = some (.int .i64 0) := by rw [cell_of_row _ _ _ _ _ _ HXR.out]; rfl
      have HBF := Lib.hid (HB0.out.trans (HCR.out.below (B := w.heap.size) (fun k e => by have := HQ.out; omega) HB0.out.size))
      go_wp2_with (refine wpList_putV rfl rfl 59 (.tmp 2) (.tmp 25) rfl _ (rDev va n vc) rfl rfl 59 _ HX2.out (by kernel_rfl) rfl (by kernel_rfl) ?_; refine Stop.on ?_)
      refine Stop.go ?_
      try simp only [Act.put, List.setIfInBounds_toArray, List.set_cons_zero, List.set_cons_succ]
      intro W3 x3 c3 s3
      try simp only [Act.put, List.setIfInBounds_toArray, List.set_cons_zero, List.set_cons_succ]
      have k0 : W3.cell? ⟨w.heap.size, 0, none⟩ = some (.slice va n vc) := by rw [cell_of_row _ _ _ _ _ _ x3]; rfl
      have k1 : W3.cell? ⟨w.heap.size, 1, none⟩ = some (.slice none 0 0) := by rw [cell_of_row _ _ _ _ _ _ x3]; rfl
      have k2 : W3.cell? ⟨w.heap.size, 2, none⟩ = some (.int .i64 (-1)) := by rw [cell_of_row _ _ _ _ _ _ x3]; rfl
      have k3 : W3.cell? ⟨w.heap.size, 3, none⟩ = some (.bool false) := by rw [cell_of_row _ _ _ _ _ _ x3]; rfl
      have k4 : W3.cell? ⟨w.heap.size, 4, none⟩ = some (.int .i64 0) := by rw [cell_of_row _ _ _ _ _ _ x3]; rfl
      have HBG := Lib.hid (HBF.out.trans (c3.below (fun k e => by omega) HBF.out.size))
      clear x3 c3 s3
      go_wp2_with fail
      exact bodyPost_ret (v := .tuple #[.agg (rDev va n vc), .int .i64 0]) (by simp [results, Tryd.results26, go_sem, k0, k1, k2, k3, k4, rDev]) rfl ⟨va, vc, rfl, HBG.out⟩
    have hiI : (i : Int) < (n : Int) := by omega
    have HQS := Lib.hid (show q + 1 ≤ W1.heap.size by have := HCR.out.size; have := HQ.out; omega)
    have HOW := Lib.hid (show ∀ k, (Value.slice va i vc).ownBlock = some k → q + 1 ≤ k ∧ k < W1.heap.size from fun k e => ents_own HER.out k e)
    have HLC := Lib.hid (show ∀ w', Chg (fun k => (Value.slice va i vc).ownBlock = some k) W1 w' → w'.cell? ⟨q, 0, none⟩ = some (.slice va i vc) from fun w' hw' => by
      rw [cell_of_row _ _ _ _ _ _ ((hw'.block q (Array.getElem?_eq_some_iff.1 HXR.out).1 (fun e => by have := HOW.out q e; omega)).trans HXR.out)]; rfl)
    go_wp2_with fail
    refine wp_region_noPanic ?_
    refine wp_region_G [6] (Chg (fun k => (Value.slice va i vc).ownBlock = some k) W1) (by kernel_rfl) ?_
    have hS0 : (Chg (fun k => (Value.slice va i vc).ownBlock = some k) W1) W1.drew := Chg.of_below ((Below.refl _ _).drew)
    obtain ⟨wd, hwd⟩ : ∃ wd, W1.drew = wd := ⟨_, rfl⟩
    rw [hwd] at hS0 ⊢
    have hd0 : Below W1.heap.size W1 wd := hwd ▸ (Below.refl _ _).drew
    clear hwd
    refine wpAnyG_pure (i := 0) (v := ?v1) rfl (by kernel_rfl) (by kernel_rfl) (by kernel_rfl) (by kernel_rfl) (fun _ _ _ h => h) (yieldsIf_run rfl (fun w' hw' => ?y1)) (fun _ => hS0) ?_
    case y1 => first | (go_simp; rfl) | (go_simp; done) | rfl
    simp only [Act.put, List.setIfInBounds_toArray, List.set_cons_zero, List.set_cons_succ]
    refine wpAnyG_takeZ (i := 1) (v := ?v2) rfl (by kernel_rfl) (by kernel_rfl) (by kernel_rfl) (by kernel_rfl) (fun _ _ _ h => h) (yieldsIf_run rfl (fun w' hw' => ?y2)) hS0 ?_
    case y2 => (have h1 := HLC.out w' hw'; clear hw'; first | (go_simp; rfl) | (go_simp; done))
    simp only [Act.put, List.setIfInBounds_toArray, List.set_cons_zero, List.set_cons_succ]
    refine wpAnyG_do (i := 2) (by kernel_rfl) rfl rfl (fun K hK => ?_)
    go_simp
    have hba : Below wd.heap.size wd (wd.alloc (.cells (bvs l0).toArray 5)) := (Below.refl _ _).alloc (Nat.le_refl _) _
    have hfr := HFR.out wd
    obtain ⟨V1, hV1⟩ : ∃ V1, wd.alloc (.cells (bvs l0).toArray 5) = V1 := ⟨_, rfl⟩
    rw [hV1] at hba hfr ⊢
    have hb01 := hd0.trans (hba.mono hd0.size)
    have hs1 := Chg.of_below (F := fun k => (Value.slice va i vc).ownBlock = some k) hb01
    clear hV1
    refine hK _ _ hs1 ?_
    clear hK K
    try simp only [Act.put, List.setIfInBounds_toArray, List.set_cons_zero, List.set_cons_succ]
    refine wpAnyG_do (i := 3) (by kernel_rfl) rfl rfl (fun K hK => ?_)
    go_simp
    have hba8 : Below V1.heap.size V1 (V1.alloc (.cells #[.slice (some ⟨wd.heap.size, 0, none⟩) 256 256] 36)) := (Below.refl _ _).alloc (Nat.le_refl _) _
    have hs12 := hs1.trans (Chg.of_below (F := fun k => (Value.slice va i vc).ownBlock = some k) hba8) (fun k e => .inl e)
    refine hK _ _ hs12 ?_
    clear hK K
    try simp only [Act.put, List.setIfInBounds_toArray, List.set_cons_zero, List.set_cons_succ]
    refine wpAnyG_do (i := 4) (by kernel_rfl) rfl rfl (fun K hK => ?_)
    refine wp_appEntB (.tmp 20) (.tmp 22) rfl rfl (HER.out.below hb01) (l := l0) (hfr.weak (fun k h1 h2 => ⟨Nat.le_trans HQS.out (Nat.le_trans hd0.size h2), fun e => by have h3 := (HOW.out k e).2; have h4 := hd0.size; omega⟩)) rfl hL (by omega) ?_
    intro a5 c5 V3 he3 hc3 ho3
    have hs13 := hs1.trans hc3 (fun k e => .inl e)
    refine hK _ _ hs13 ?_
    clear hK K
    try simp only [Act.put, List.setIfInBounds_toArray, List.set_cons_zero, List.set_cons_succ]
    refine wpAnyG_pure (i := 5) (v := ?v3) rfl (by kernel_rfl) (by kernel_rfl) (by kernel_rfl) (by kernel_rfl) (fun _ _ _ h => h) (yieldsIf_run rfl (fun w' hw' => ?y3)) (fun _ => hs13) ?_
    case y3 => first | (go_simp; rfl) | (go_simp; done) | rfl
    simp only [Act.put, List.setIfInBounds_toArray, List.set_cons_zero, List.set_cons_succ]
    refine wpAnyG_fin (i := 6) (by kernel_rfl) rfl rfl (by kernel_rfl) (fun K hK => ?_)
    refine wp_putC rfl 56 (.tmp 24) (.tmp 23) rfl q 0 (.slice a5 (i + 1) c5) rfl rfl ((hs13.block q (Array.getElem?_eq_some_iff.1 HXR.out).1 (fun e => by have := HOW.out q e; omega)).trans HXR.out) (by show 0 < 5; decide) rfl (by kernel_rfl) ?_
    intro V4 x4 c4 s4
    refine hK _ _ ?_
    clear hK K
    try simp only [Act.put, List.setIfInBounds_toArray, List.set_cons_zero, List.set_cons_succ]
    refine wpAnyG_done (by kernel_rfl) ?_ _
    refine NoPanic.normal ?_
    have HX4 := Lib.hid (show V4.heap[q]? = some (.cells (rDev a5 (i + 1) c5) 59 (0, 0)) from x4)
    have HE4 := Lib.hid ((he3.weak (G := fun k => q + 1 ≤ k) (fun k _ h1 => h1.elim id (fun h2 => Nat.le_trans HQS.out (Nat.le_trans hb01.size h2)))).chg c4 (fun k _ h1 e => by omega))
    have HC4 := Lib.hid (HCR.out.trans ((hs13.mono (G := fun k => q ≤ k) (fun k e => by have := HOW.out k e; omega)).trans c4 (fun k e => .inl (by omega))) (fun k e => .inl e))
    have hL' : (L ++ [l0]).length = i + 1 := by rw [List.length_append, hL]; rfl
    clear x4 c4 s4 he3 hc3 ho3 hs13 hs12 hs1 hba8 hba hfr hb01 hd0 hS0
    go_wp2_with fail
    go_roundw
    case rel => exact ⟨i + 1, L ++ [l0], a5, c5, by omega, by go_num, hL', HX4, HE4, HC4⟩
    case measure => simp [intOf] <;> omega
end Go.Proofs.YtplclpileejemaaDoor
