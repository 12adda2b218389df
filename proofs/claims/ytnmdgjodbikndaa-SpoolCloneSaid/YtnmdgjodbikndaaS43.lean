/- The law Clone. -/
import Derived.Test.YtnmdgjodbikndaaSt9
import Derived.Test.YtnmdgjodbikndaaS30
import Derived.Test.YtnmdgjodbikndaaS22
namespace Go.Proofs.Ytnmdgjodbikndaa
open Go.RowKit
set_option linter.unusedVariables false
set_option linter.unusedSimpArgs false

set_option maxRecDepth 100000 in
set_option maxHeartbeats 2000000 in
theorem Clone_law {w : World} (v1 v2 : Value) (L1 L2 : List OpD) (hv1 : ListAt opE w v1 L1) (hv2 : ListAt opE w v2 L2) :
    Calls Try.prog 8 #[v1, v2] w fun e w' => e = .returned (.bool true) ∧ Below w.heap.size w w' := by
  obtain ⟨r1, hr1⟩ : ∃ r, smallB L1 = r := ⟨_, rfl⟩
  obtain ⟨r2, hr2⟩ : ∃ r, smallB L2 = r := ⟨_, rfl⟩
  have HSM1 := Lib.hid (show ∀ w', Below w.heap.size w w' → Calls Try.prog 16 #[v1] w' fun e w'' => e = .returned (.bool r1) ∧ Below w'.heap.size w' w'' from fun w' hb => by
    have h := small_any v1 L1 (hv1.below hb)
    rw [hr1] at h
    exact h)
  have HSM2 := Lib.hid (show ∀ w', Below w.heap.size w w' → Calls Try.prog 16 #[v2] w' fun e w'' => e = .returned (.bool r2) ∧ Below w'.heap.size w' w'' from fun w' hb => by
    have h := small_any v2 L2 (hv2.below hb)
    rw [hr2] at h
    exact h)
  have HRUN := Lib.hid (show r1 = true → ∀ w', Below w.heap.size w w' → Calls Try.prog 23 #[.int .i64 300, v1] w' (RunPost w' 300 L1) from fun h w' hb => run_any (stableOk_any 100 (by decide)) 300 v1 L1 (hv1.below hb) (by have := small_len (hr1.trans h); omega) (by decide))
  have HL1 := Lib.hid (show r1 = true → L1.length ≤ 40 from fun h => small_len (hr1.trans h))
  have HL2 := Lib.hid (show r2 = true → L2.length ≤ 40 from fun h => small_len (hr2.trans h))
  obtain ⟨va, vc, rfl⟩ := hv1.form
  obtain ⟨ua, uc, rfl⟩ := hv2.form
  obtain ⟨N1, hN1⟩ : ∃ N, L1.length = N := ⟨_, rfl⟩
  obtain ⟨N2, hN2⟩ : ∃ N, L2.length = N := ⟨_, rfl⟩
  rw [hN1] at HSM1 HRUN HL1 ⊢
  rw [hN2] at HSM2 HL2 hv2 ⊢
  have HV2 := Lib.hid hv2
  have HN1 := Lib.hid hN1
  have HN2 := Lib.hid hN2
  clear hr1 hr2 hv1 hv2 hN1 hN2
  go_enter Try.func8, Try.ntmps8
  go_wp2_with fail
  refine known_any.mono ?_
  rintro e w1 ⟨rfl, hb⟩
  have HB1 := Lib.hid (hb)
  clear hb
  go_wp2_with fail
  refine (HSM1.out w1 HB1.out).mono ?_
  rintro e w2 ⟨rfl, hb⟩
  have HB2 := Lib.hid (HB1.out.trans (hb.mono HB1.out.size))
  clear hb
  cases r1
  case false =>
    go_wp2_with fail
    refine known_any.mono ?_
    rintro e w3 ⟨rfl, hb⟩
    have HB3 := Lib.hid (HB2.out.trans (hb.mono HB2.out.size))
    clear hb
    go_wp2_with fail
    exact bodyPost_ret (v := .bool true) (by simp [results, Try.results8, go_sem]) rfl ⟨rfl, HB3.out⟩
  case true =>
  go_wp2_with fail
  refine (HSM2.out w2 HB2.out).mono ?_
  rintro e w3 ⟨rfl, hb⟩
  have HB3 := Lib.hid (HB2.out.trans (hb.mono HB2.out.size))
  clear hb
  cases r2
  case false =>
    go_wp2_with fail
    refine known_any.mono ?_
    rintro e w4 ⟨rfl, hb⟩
    have HB4 := Lib.hid (HB3.out.trans (hb.mono HB3.out.size))
    clear hb
    go_wp2_with fail
    exact bodyPost_ret (v := .bool true) (by simp [results, Try.results8, go_sem]) rfl ⟨rfl, HB4.out⟩
  case true =>
  have hl1 : N1 ≤ 40 := by first | exact HL1.out trivial | exact HL1.out rfl
  have hl2 : N2 ≤ 40 := by first | exact HL2.out trivial | exact HL2.out rfl
  clear HL1 HL2
  go_wp2_with fail
  refine (HRUN.out trivial w3 HB3.out).mono ?_
  rintro e w4 ⟨hb, ⟨h1, h2, b, m, v', rfl, hb1, hm1, hs, hl⟩ | ⟨h, _⟩⟩
  case inr => exact absurd ⟨by omega, by omega⟩ h
  have HB4 := Lib.hid (HB3.out.trans (hb.mono HB3.out.size))
  have hro := run_ok L1 ⟨300, 0, []⟩ (ok_new h1 h2)
  obtain ⟨S, hS⟩ : ∃ S, runS ⟨300, 0, []⟩ L1 = S := ⟨_, rfl⟩
  rw [hS] at hs hl hro
  obtain ⟨oa, oc, rfl⟩ := hl.form
  obtain ⟨M0, hM0⟩ : ∃ M, S.ref.length = M := ⟨_, rfl⟩
  have HRO := Lib.hid (show S.Ok ∧ S.budget = 300 ∧ S.next ≤ 40 ∧ S.list.length ≤ 40 from by
    have h1 := hro.2.2.1
    have h2 := hro.2.2.2
    have h3 := HN1.out
    simp only [List.length_nil, Nat.zero_add, Int.zero_add] at h1 h2
    exact ⟨hro.1, hro.2.1, by omega, by omega⟩)
  rw [hM0] at hl ⊢
  have HSP := Lib.hid hs
  have HL := Lib.hid hl
  have HBM := Lib.hid (show w.heap.size ≤ b ∧ w.heap.size ≤ m ∧ b < w4.heap.size ∧ m < w4.heap.size from ⟨Nat.le_trans HB3.out.size hb1, Nat.le_trans HB3.out.size hm1, hs.lt, hs.hm.lt⟩)
  clear hb hs hl hro hS hM0 hb1 hm1 h1 h2
  go_wp2_with (refine wpList_newV rfl (some 6) rfl 50 rfl #[.int .i64 0, .slice none 0 0] 2 (by kernel_rfl) ?_; refine Stop.on ?_)
  refine Stop.go ?_
  try simp only [Act.put, List.setIfInBounds_toArray, List.set_cons_zero, List.set_cons_succ]
  intro wi xi bi si
  try simp only [Act.put, List.setIfInBounds_toArray, List.set_cons_zero, List.set_cons_succ]
  go_wp2_with (refine wpList_putV rfl rfl 50 (.tmp 6) (.tmp 28) rfl _ #[.int .i64 300, .slice oa M0 oc] rfl rfl 50 _ xi sizeS rfl oneS ?_; refine Stop.on ?_)
  refine Stop.go ?_
  try simp only [Act.put, List.setIfInBounds_toArray, List.set_cons_zero, List.set_cons_succ]
  intro wm xm cm sm
  try simp only [Act.put, List.setIfInBounds_toArray, List.set_cons_zero, List.set_cons_succ]
  have hbm : Below w4.heap.size w4 wm := bi.trans (cm.below (B := w4.heap.size) (fun k e => by omega) (by omega))
  obtain ⟨A6, hA6⟩ : ∃ A6, w4.heap.size = A6 := ⟨_, rfl⟩
  rw [hA6] at xm ⊢
  have HBW := Lib.hid (HB4.out.trans (hbm.mono HB4.out.size))
  have HX6 := Lib.hid xm
  have HSPM := Lib.hid (HSP.out.below hbm)
  have HLM := Lib.hid (HL.out.below hbm)
  have HZ1 := Lib.hid (show b < A6 ∧ m < A6 ∧ A6 < wm.heap.size ∧ w.heap.size ≤ b ∧ w.heap.size ≤ m from by have := HBM.out; have := (Array.getElem?_eq_some_iff.1 xm).1; omega)
  clear xi bi si xm cm sm hbm hA6 HSP HL HBM HB4
  go_wp2_with fail
  refine (Clone_any HSPM.out).mono ?_
  rintro e wc ⟨b2, m2, rfl, hsc, hb2, hm2, hbc⟩
  have HBC := Lib.hid (HBW.out.trans (hbc.mono HBW.out.size))
  have HX6C := Lib.hid ((hbc.block _ (Array.getElem?_eq_some_iff.1 HX6.out).1).trans HX6.out)
  have HSPC := Lib.hid (HSPM.out.below hbc)
  have HLC := Lib.hid (HLM.out.below hbc)
  have HSC := Lib.hid hsc
  have HZ2 := Lib.hid (show A6 < b2 ∧ A6 < m2 ∧ b2 < wc.heap.size ∧ m2 < wc.heap.size from by have := HZ1.out; exact ⟨by omega, by omega, hsc.lt, hsc.hm.lt⟩)
  clear hsc hb2 hm2 hbc HX6 HSPM HLM HBW
  go_wp2_with (refine wpList_loadV rfl (some 34) rfl 50 (.tmp 6) rfl _ rfl 50 #[.int .i64 300, .slice oa M0 oc] (0, 0) _ HX6C.out Try.underlying50 rfl sizeS ?_; refine Stop.on ?_)
  refine Stop.go ?_
  try simp only [Act.put, List.setIfInBounds_toArray, List.set_cons_zero, List.set_cons_succ]
  refine wpList_newV rfl (some 9) rfl 50 rfl #[.int .i64 0, .slice none 0 0] 2 (by kernel_rfl) ?_
  intro wi xi bi si
  try simp only [Act.put, List.setIfInBounds_toArray, List.set_cons_zero, List.set_cons_succ]
  refine wpList_putV rfl rfl 50 (.tmp 9) (.tmp 34) rfl _ #[.int .i64 300, .slice oa M0 oc] rfl rfl 50 _ xi sizeS rfl oneS ?_
  intro we xe ce se
  try simp only [Act.put, List.setIfInBounds_toArray, List.set_cons_zero, List.set_cons_succ]
  have hbe : Below wc.heap.size wc we := bi.trans (ce.below (B := wc.heap.size) (fun k e => by omega) (by omega))
  obtain ⟨A9, hA9⟩ : ∃ A9, wc.heap.size = A9 := ⟨_, rfl⟩
  rw [hA9] at xe ⊢
  have HNE := Lib.hid (show b < A6 ∧ m < A6 ∧ A6 < b2 ∧ A6 < m2 ∧ b2 < A9 ∧ m2 < A9 ∧ w.heap.size ≤ b ∧ w.heap.size ≤ m ∧ A9 < we.heap.size from by have := HZ1.out; have := HZ2.out; have := (Array.getElem?_eq_some_iff.1 xe).1; omega)
  have HBE := Lib.hid (HBC.out.trans (hbe.mono HBC.out.size))
  have HX9 := Lib.hid xe
  have HX6E := Lib.hid ((hbe.block _ (Array.getElem?_eq_some_iff.1 HX6C.out).1).trans HX6C.out)
  have HSPE := Lib.hid (HSPC.out.below hbe)
  have HLE := Lib.hid (HLC.out.below hbe)
  have HSE := Lib.hid (HSC.out.below hbe)
  clear xi bi si xe ce se hbe hA9 HX6C HSPC HLC HSC HBC HZ1 HZ2
  go_wp2_with fail
  go_loopw [7, 10] (fun ov iv wr => ∃ (i : Nat) (v' : Value), i ≤ N2 ∧ ov = .bool true ∧ iv = .int .i64 (i : Int) ∧ SpAt wr b m (runS S (L2.take i)) ∧ ListAt refE wr v' (runS S (L2.take i)).ref ∧ wr.heap[A9]? = some (.cells #[.int .i64 300, v'] 50 (0, 0)) ∧ wr.heap[A6]? = some (.cells #[.int .i64 300, .slice oa M0 oc] 50 (0, 0)) ∧ ListAt refE wr (.slice oa M0 oc) S.ref ∧ SpAt wr b2 m2 S ∧ Below w.heap.size w wr) (fun _ iv _ => N2 - (intOf iv).toNat)
  case atStart => exact ⟨0, _, Nat.zero_le _, rfl, rfl, HSPE.out, HLE.out, HX9.out, HX6E.out, HLE.out, HSE.out, HBE.out⟩
  case round =>
    obtain ⟨i, v', hi, rfl, rfl, hsr, hlr, hxr, hx6, hl6, hs2, hbr⟩ := hrel
    clear HSPE HLE HX9 HX6E HSE HBE
    obtain ⟨pa, pc, rfl⟩ := hlr.form
    have hro := run_ok (L2.take i) S HRO.out.1
    have hrl : (L2.take i).length = i := by rw [List.length_take, HN2.out]; omega
    rw [hrl] at hro
    by_cases hlt : i < N2
    · have hiI : (i : Int) < (N2 : Int) := by omega
      have hiI0 : (0 : Int) ≤ (i : Int) := by omega
      have hwi : IntKind.i64.wrap ((i : Int) + 1) = (i : Int) + 1 := IntWalk.i64_in _ (by omega)
      have hlt' : i < L2.length := by rw [HN2.out]; exact hlt
      have hnx := run_next S L2 hlt'
      obtain ⟨X, hX⟩ : ∃ X, runS S (L2.take i) = X := ⟨_, rfl⟩
      rw [hX] at hsr hlr hxr hro hnx
      obtain ⟨N', hN'⟩ : ∃ N', X.ref.length = N' := ⟨_, rfl⟩
      rw [hN'] at hlr hxr
      have hn0 : X.next < 1000000000000 := by have h := hro.2.2.1; have h2 := HRO.out.2.2.1; omega
      have hl0 : X.list.length ≤ 100 := by have h := hro.2.2.2; have h2 := HRO.out.2.2.2; omega
      obtain ⟨g, off, rfl, hg, hr, _⟩ := op_at (HV2.out.below hbr) hlt'
      obtain ⟨o, ho⟩ : ∃ o, L2[i] = o := ⟨_, rfl⟩
      rw [ho] at hr hnx
      have hdo : ∀ w', Below wr.heap.size wr w' → Calls Try.prog 28 #[.pointer (some ⟨b, 0, none⟩), .agg #[.int .i64 300, .slice pa N' pc], .agg o.cells.toArray] w' (DoPost w' b m 300 (stepS X o)) := fun w' hw' => by
        have h := do_any (stableOk_any 100 (by decide)) (hsr.below hw') hro.1 hl0 (by decide) hn0 (.slice pa N' pc) (hlr.below hw') o
        rw [hro.2.1, HRO.out.2.1] at h
        exact h
      have HDO := Lib.hid hdo
      have HX := Lib.hid hxr
      have HNX := Lib.hid hnx
      have HBR := Lib.hid hbr
      have HX6 := Lib.hid hx6
      have HL6 := Lib.hid hl6
      have HS2 := Lib.hid hs2
      have HSR := Lib.hid hsr
      clear hsr hlr hxr hro hnx hdo hbr hX hN' hn0 hl0 hrl ho hx6 hl6 hs2
      go_wp2_with fail
      refine wp_region_noPanic ?_
      refine wp_region_G [6, 10, 11] (Below wr.heap.size wr) (by kernel_rfl) ?_
      have hS0 : (Below wr.heap.size wr) wr.drew := (Below.refl _ _).drew
      obtain ⟨wd, hwd⟩ : ∃ wd, wr.drew = wd := ⟨_, rfl⟩
      rw [hwd] at hS0 ⊢
      clear hwd
      refine wpAnyG_pure (i := 0) (v := ?v10) rfl (by kernel_rfl) (by kernel_rfl) (by kernel_rfl) (by kernel_rfl) (fun _ _ _ h => h) (yieldsIf_run rfl (fun w' hw' => ?y10)) (fun _ => hS0) ?_
      case y10 => first | (go_simp; rfl) | (go_simp; done) | rfl
      simp only [Act.put, List.setIfInBounds_toArray, List.set_cons_zero, List.set_cons_succ]
      refine wpAnyG_takeZ (i := 1) (v := .agg ([Value.int .i64 300, .slice pa N' pc]).toArray) rfl (by kernel_rfl) (by kernel_rfl) (by kernel_rfl) (by kernel_rfl) (fun _ _ _ h => h) (yieldsIf_load_mid rfl 50 (.tmp 9) rfl A9 (0) rfl ([Value.int .i64 300, .slice pa N' pc]) _ (fun w' hw' => range_block ((hw'.block _ (Array.getElem?_eq_some_iff.1 HX.out).1).trans HX.out)) Try.underlying50 rfl sizeSL) hS0 ?_
      simp only [Act.put, List.setIfInBounds_toArray, List.set_cons_zero, List.set_cons_succ]
      refine wpAnyG_pure (i := 2) (v := ?v11) rfl (by kernel_rfl) (by kernel_rfl) (by kernel_rfl) (by kernel_rfl) (fun _ _ _ h => h) (yieldsIf_run rfl (fun w' hw' => ?y11)) (fun _ => hS0) ?_
      case y11 => first | (go_simp; rfl) | (go_simp; done) | rfl
      simp only [Act.put, List.setIfInBounds_toArray, List.set_cons_zero, List.set_cons_succ]
      refine wpAnyG_pure (i := 3) (v := ?v12) rfl (by kernel_rfl) (by kernel_rfl) (by kernel_rfl) (by kernel_rfl) (fun _ _ _ h => h) (yieldsIf_run rfl (fun w' hw' => ?y12)) (fun _ => hS0) ?_
      case y12 => first | (go_simp; rfl) | (go_simp; done) | rfl
      simp only [Act.put, List.setIfInBounds_toArray, List.set_cons_zero, List.set_cons_succ]
      refine wpAnyG_pure (i := 4) (v := ?v13) rfl (by kernel_rfl) (by kernel_rfl) (by kernel_rfl) (by kernel_rfl) (fun _ _ _ h => h) (yieldsIf_run rfl (fun w' hw' => ?y13)) (fun _ => hS0) ?_
      case y13 => first | (go_simp; rfl) | (go_simp; done) | rfl
      simp only [Act.put, List.setIfInBounds_toArray, List.set_cons_zero, List.set_cons_succ]
      refine wpAnyG_takeZ (i := 5) (v := .agg (o.cells).toArray) rfl (by kernel_rfl) (by kernel_rfl) (by kernel_rfl) (by kernel_rfl) (fun _ _ _ h => h) (yieldsIf_load_mid rfl 39 (.tmp 46) rfl g (off + i * 37) rfl (o.cells) _ (fun w' hw' => (fun j u hu => (hw'.cell (p := ⟨g, off + i * 37 + j, none⟩) hg).trans (hr j u hu))) Try.underlying39 rfl sizeOp) hS0 ?_
      simp only [Act.put, List.setIfInBounds_toArray, List.set_cons_zero, List.set_cons_succ]
      refine wpAnyG_fin (i := 6) (by kernel_rfl) rfl rfl (by kernel_rfl) (fun K hK => ?_)
      go_simp
      go_at_call 28
      refine (HDO.out wd hS0).mono ?_
      rintro e wx ⟨v2, rfl, hsx, hlx, hcx⟩
      obtain ⟨qa, qc, rfl⟩ := hlx.form
      obtain ⟨M', hM'⟩ : ∃ M', (stepS X o).ref.length = M' := ⟨_, rfl⟩
      rw [hM'] at hlx ⊢
      clear hM'
      have hcx2 : Chg (fun k => k = b ∨ k = m) wr wx := (Chg.of_below hS0).trans hcx (fun _ h => .inl h)
      have HYtnmdgjodbikndaa := Lib.hid ((hcx2.block _ (Array.getElem?_eq_some_iff.1 HX.out).1 (by have := HNE.out; omega)).trans HX.out)
      refine hK _ _ ?_
      clear hK K
      try simp only [Act.put, List.setIfInBounds_toArray, List.set_cons_zero, List.set_cons_succ]
      refine wpAnyG_fin (i := 7) (by kernel_rfl) rfl rfl (by kernel_rfl) (fun K hK => ?_)
      go_simp
      refine hK _ _ ?_
      clear hK K
      try simp only [Act.put, List.setIfInBounds_toArray, List.set_cons_zero, List.set_cons_succ]
      refine wpAnyG_late (i := 8) (v := .agg #[.int .i64 300, .slice qa M' qc]) rfl (by kernel_rfl) (by kernel_rfl) (by kernel_rfl) (by kernel_rfl) (by kernel_rfl) (fun _ _ _ h => h) (yieldsIf_run rfl (fun w' hw' => ?y14)) ?_
      case y14 => first | (go_simp; rfl) | (go_simp; done) | rfl
      simp only [Act.put, List.setIfInBounds_toArray, List.set_cons_zero, List.set_cons_succ]
      refine wpAnyG_late (i := 9) (v := .bool true) rfl (by kernel_rfl) (by kernel_rfl) (by kernel_rfl) (by kernel_rfl) (by kernel_rfl) (fun _ _ _ h => h) (yieldsIf_run rfl (fun w' hw' => ?y15)) ?_
      case y15 => first | (go_simp; rfl) | (go_simp; done) | rfl
      simp only [Act.put, List.setIfInBounds_toArray, List.set_cons_zero, List.set_cons_succ]
      refine wpAnyG_fin (i := 10) (by kernel_rfl) rfl rfl (by kernel_rfl) (fun K hK => ?_)
      refine wp_store_row 50 (.tmp 9) (.tmp 49) rfl A9 #[.int .i64 300, .slice qa M' qc] rfl rfl 50 _ HYtnmdgjodbikndaa.out sizeS rfl oneS ?_
      have xq := setRow_heap _ _ _ #[.int .i64 300, .slice qa M' qc] _ _ HYtnmdgjodbikndaa.out
      have cq : Chg (fun k => k = A9) _ _ := setRow_chg (F := fun k => k = A9) (w := wx) A9 #[.int .i64 300, .slice qa M' qc] rfl
      obtain ⟨wq, hwq⟩ : ∃ wq, World.setRow wx A9 #[.int .i64 300, .slice qa M' qc] = wq := ⟨_, rfl⟩
      rw [hwq] at xq cq ⊢
      clear hwq
      refine hK _ _ ?_
      clear hK K
      try simp only [Act.put, List.setIfInBounds_toArray, List.set_cons_zero, List.set_cons_succ]
      refine wpAnyG_fin (i := 11) (by kernel_rfl) rfl rfl (by kernel_rfl) (fun K hK => ?_)
      go_simp
      refine hK _ _ ?_
      clear hK K
      try simp only [Act.put, List.setIfInBounds_toArray, List.set_cons_zero, List.set_cons_succ]
      refine wpAnyG_done (by kernel_rfl) ?_ _
      refine NoPanic.normal ?_
      have hsq := hsx.chg cq (by have := HNE.out; omega) (by have := HNE.out; omega)
      have hlq := hlx.kept_row HYtnmdgjodbikndaa.out (by simp) cq
      have hbq := (HBR.out.trans (hcx2.below (B := w.heap.size) (fun k e => by have := HNE.out; omega) HBR.out.size)).trans (cq.below (B := w.heap.size) (fun k e => by have := HNE.out; omega) (by have := hcx2.size; have := HBR.out.size; omega))
      have h6a := (hcx2.block _ (Array.getElem?_eq_some_iff.1 HX6.out).1 (by have := HNE.out; omega)).trans HX6.out
      have h6q := (cq.block _ (Array.getElem?_eq_some_iff.1 h6a).1 (by have := HNE.out; omega)).trans h6a
      have hl6q := ((HL6.out.kept_sp HSR.out hcx2).kept_row HYtnmdgjodbikndaa.out (by simp) cq)
      have hs2q := (HS2.out.chg hcx2 (by have := HNE.out; omega) (by have := HNE.out; omega)).chg cq (by have := HNE.out; omega) (by have := HNE.out; omega)
      have HSQ := Lib.hid hsq
      have HLQ := Lib.hid hlq
      have HXQ := Lib.hid xq
      have HBQ := Lib.hid hbq
      have H6Q := Lib.hid h6q
      have HL6Q := Lib.hid hl6q
      have HS2Q := Lib.hid hs2q
      clear hsq hlq xq cq hbq hsx hlx hcx hcx2 hr h6a h6q hl6q hs2q
      go_wp2_with fail
      go_roundw
      case rel => exact ⟨i + 1, _, by omega, rfl, by go_num, by rw [HNX.out]; exact HSQ.out, by rw [HNX.out]; exact HLQ.out, HXQ.out, H6Q.out, HL6Q.out, HS2Q.out, HBQ.out⟩
      case measure => simp [intOf]; omega
    · obtain rfl : N2 = i := by omega
      have htk : L2.take N2 = L2 := List.take_of_length_le (by rw [HN2.out]; exact Nat.le_refl _)
      rw [htk] at hsr hlr hxr hro
      obtain ⟨X, hX⟩ : ∃ X, runS S L2 = X := ⟨_, rfl⟩
      rw [hX] at hsr hlr hxr hro
      obtain ⟨N', hN'⟩ : ∃ N', X.ref.length = N' := ⟨_, rfl⟩
      have hll : X.list.length ≤ 100 := by have h := hro.2.2.2; have h2 := HRO.out.2.2.2; omega
      have hXb : X.budget = 300 := hro.2.1.trans HRO.out.2.1
      rw [hN'] at hlr hxr
      obtain ⟨q, hq⟩ : ∃ q, decide (S.ref = X.ref) = q := ⟨_, rfl⟩
      have HQQ := Lib.hid (show (q == q) = true by simp)
      have HRW := Lib.hid (show ∀ w', Below wr.heap.size wr w' → w'.rangeAt A6 0 [.int .i64 300, .slice oa M0 oc] ∧ w'.rangeAt A9 0 [.int .i64 300, .slice pa N' pc] from fun w' hw' =>
        ⟨range_block ((hw'.block _ (Array.getElem?_eq_some_iff.1 hx6).1).trans hx6), range_block ((hw'.block _ (Array.getElem?_eq_some_iff.1 hxr).1).trans hxr)⟩)
      have HV1 := Lib.hid (show ∀ w', Below wr.heap.size wr w' → Calls Try.prog 24 #[.pointer (some ⟨b2, 0, none⟩), .agg #[.int .i64 300, .slice oa M0 oc]] w' fun e w'' => e = .returned (.bool true) ∧ Below w'.heap.size w' w'' from fun w' hw' => by
        have h := view_any (hs2.below hw') HRO.out.1 (by have := HRO.out.2.2.2; omega) _ (hl6.below hw')
        rw [HRO.out.2.1] at h
        exact h)
      have HV2' := Lib.hid (show ∀ w', Below wr.heap.size wr w' → Calls Try.prog 24 #[.pointer (some ⟨b, 0, none⟩), .agg #[.int .i64 300, .slice pa N' pc]] w' fun e w'' => e = .returned (.bool true) ∧ Below w'.heap.size w' w'' from fun w' hw' => by
        have h := view_any (hsr.below hw') hro.1 (by omega) _ (hlr.below hw')
        rw [hXb] at h
        exact h)
      have HE1 := Lib.hid (show ∀ w', Below wr.heap.size wr w' → Calls Try.prog 29 #[.pointer (some ⟨b2, 0, none⟩), .pointer (some ⟨b, 0, none⟩)] w' fun e w'' => e = .returned (.bool q) ∧ Below w'.heap.size w' w'' from fun w' hw' => by
        have h := Equal_any (hs2.below hw') (hsr.below hw') HRO.out.1 hro.1 (by have := HRO.out.2.2.2; omega) (by omega)
        rw [show decide (S.budget = X.budget ∧ S.ref = X.ref) = q by rw [← hq, hXb, HRO.out.2.1]; simp] at h
        exact h)
      have HE2 := Lib.hid (show ∀ w', Below wr.heap.size wr w' → Calls Try.prog 29 #[.pointer (some ⟨b, 0, none⟩), .pointer (some ⟨b2, 0, none⟩)] w' fun e w'' => e = .returned (.bool q) ∧ Below w'.heap.size w' w'' from fun w' hw' => by
        have h := Equal_any (hsr.below hw') (hs2.below hw') hro.1 HRO.out.1 (by omega) (by have := HRO.out.2.2.2; omega)
        rw [show decide (X.budget = S.budget ∧ X.ref = S.ref) = q by rw [← hq, hXb, HRO.out.2.1]; simp [eq_comm]] at h
        exact h)
      have hbd : ∀ (Y : SpD), Y.Ok → ∀ x ∈ Y.ref, (-9223372036854775808 ≤ x.min ∧ x.min ≤ 9223372036854775807) ∧ x.text.size ≤ maxLen := fun Y hY x hx => by
        obtain ⟨y, hy, rfl⟩ := List.mem_map.1 hx
        have h1 := hY.ar y hy
        have h2 := (hY.tx y hy).2
        have h3 : (toR y).min = y.arr := rfl
        have h4 : (toR y).text.size = y.text.size := rfl
        rw [h3, h4]
        exact ⟨by omega, by unfold maxLen; omega⟩
      have HSA := Lib.hid (show ∀ w', Below wr.heap.size wr w' → Calls Try.prog 30 #[.agg #[.int .i64 300, .slice oa M0 oc], .agg #[.int .i64 300, .slice pa N' pc]] w' fun e w'' => e = .returned (.bool q) ∧ Below w'.heap.size w' w'' from fun w' hw' => by
        have h := Same_any 300 300 _ _ S.ref X.ref (hl6.below hw') (hlr.below hw') (by rw [ref_length]; have := HRO.out.2.2.2; omega) (hbd S HRO.out.1) (hbd X hro.1)
        rw [show decide ((300 : Int) = 300 ∧ S.ref = X.ref) = q by rw [← hq]; simp] at h
        exact h)
      have HE3 := Lib.hid (show ∀ w', Below wr.heap.size wr w' → Calls Try.prog 29 #[.pointer (some ⟨b, 0, none⟩), .pointer none] w' fun e w'' => e = .returned (.bool false) ∧ Below w'.heap.size w' w'' from fun w' _ => Equal_sn ⟨b, 0, none⟩)
      have HBR := Lib.hid hbr
      clear hsr hlr hxr hro hbr hX hN' hrl htk hx6 hl6 hs2 hll hXb hq hbd HV2
      have HV2 := HV2'
      clear HV2'
      go_wp2_with fail
      refine wp_region_noPanic ?_
      refine wp_region_H (Below wr.heap.size wr) (by kernel_rfl) ?_
      have hS0 : (Below wr.heap.size wr) wr.drew := (Below.refl _ _).drew
      obtain ⟨wd, hwd⟩ : ∃ wd, wr.drew = wd := ⟨_, rfl⟩
      rw [hwd] at hS0 ⊢
      clear hwd
      refine wpAnyH_takeI (i := 0) (v := ?v16) rfl (by kernel_rfl) (by kernel_rfl) (by kernel_rfl) (fun _ _ _ h => h) (yieldsIf_run rfl (fun w' hw' => ?y16)) hS0 ?_
      case y16 => first | (go_simp; rfl) | (go_simp; done) | rfl
      simp only [Act.put, List.setIfInBounds_toArray, List.set_cons_zero, List.set_cons_succ]
      refine wpAnyH_takeI (i := 1) (v := .agg ([.int .i64 300, .slice oa M0 oc]).toArray) rfl (by kernel_rfl) (by kernel_rfl) (by kernel_rfl) (fun _ _ _ h => h) (yieldsIf_load_mid rfl 50 (.tmp 6) rfl A6 0 rfl ([.int .i64 300, .slice oa M0 oc]) _ (fun w' hw' => (HRW.out w' hw').1) Try.underlying50 rfl sizeSL) hS0 ?_
      simp only [Act.put, List.setIfInBounds_toArray, List.set_cons_zero, List.set_cons_succ]
      refine wpAnyH_do (i := 2) (by kernel_rfl) rfl rfl (fun K hK => ?_)
      go_simp
      go_at_call 24
      refine (HV1.out _ hS0).mono ?_
      rintro e wa ⟨rfl, hbwa⟩
      have hSwa := hS0.trans (hbwa.mono hS0.size)
      refine hK _ _ (hSwa) ?_
      clear hK K
      try simp only [Act.put, List.setIfInBounds_toArray, List.set_cons_zero, List.set_cons_succ]
      refine wpAnyH_takeI (i := 3) (v := ?v17) rfl (by kernel_rfl) (by kernel_rfl) (by kernel_rfl) (fun _ _ _ h => h) (yieldsIf_run rfl (fun w' hw' => ?y17)) hSwa ?_
      case y17 => first | (go_simp; rfl) | (go_simp; done) | rfl
      simp only [Act.put, List.setIfInBounds_toArray, List.set_cons_zero, List.set_cons_succ]
      refine wpAnyH_takeI (i := 4) (v := ?v18) rfl (by kernel_rfl) (by kernel_rfl) (by kernel_rfl) (fun _ _ _ h => h) (yieldsIf_want rfl (fun w' hw' => ?y18)) hSwa ?_
      case y18 => first | (go_simp; rfl) | (go_simp; done) | rfl
      simp only [Act.put, List.setIfInBounds_toArray, List.set_cons_zero, List.set_cons_succ]
      refine wpAnyH_takeI (i := 5) (v := .agg ([.int .i64 300, .slice pa N' pc]).toArray) rfl (by kernel_rfl) (by kernel_rfl) (by kernel_rfl) (fun _ _ _ h => h) (yieldsIf_load_mid rfl 50 (.tmp 9) rfl A9 0 rfl ([.int .i64 300, .slice pa N' pc]) _ (fun w' hw' => (HRW.out w' hw').2) Try.underlying50 rfl sizeSL) hSwa ?_
      simp only [Act.put, List.setIfInBounds_toArray, List.set_cons_zero, List.set_cons_succ]
      refine wpAnyH_want (i := 6) (by kernel_rfl) rfl rfl (fun K hK => ?_)
      go_simp
      go_at_call 24
      refine (HV2.out _ hSwa).mono ?_
      rintro e wb ⟨rfl, hbwb⟩
      have hSwb := hSwa.trans (hbwb.mono hSwa.size)
      refine hK _ _ (hSwb) ?_
      clear hK K
      try simp only [Act.put, List.setIfInBounds_toArray, List.set_cons_zero, List.set_cons_succ]
      refine wpAnyH_takeI (i := 7) (v := ?v19) rfl (by kernel_rfl) (by kernel_rfl) (by kernel_rfl) (fun _ _ _ h => h) (yieldsIf_run rfl (fun w' hw' => ?y19)) hSwb ?_
      case y19 => first | (go_simp; rfl) | (go_simp; done) | rfl
      simp only [Act.put, List.setIfInBounds_toArray, List.set_cons_zero, List.set_cons_succ]
      refine wpAnyH_takeI (i := 8) (v := ?v20) rfl (by kernel_rfl) (by kernel_rfl) (by kernel_rfl) (fun _ _ _ h => h) (yieldsIf_run rfl (fun w' hw' => ?y20)) hSwb ?_
      case y20 => first | (go_simp; rfl) | (go_simp; done) | rfl
      simp only [Act.put, List.setIfInBounds_toArray, List.set_cons_zero, List.set_cons_succ]
      refine wpAnyH_takeI (i := 9) (v := ?v21) rfl (by kernel_rfl) (by kernel_rfl) (by kernel_rfl) (fun _ _ _ h => h) (yieldsIf_want rfl (fun w' hw' => ?y21)) hSwb ?_
      case y21 => first | (go_simp; rfl) | (go_simp; done) | rfl
      simp only [Act.put, List.setIfInBounds_toArray, List.set_cons_zero, List.set_cons_succ]
      refine wpAnyH_takeI (i := 10) (v := ?v22) rfl (by kernel_rfl) (by kernel_rfl) (by kernel_rfl) (fun _ _ _ h => h) (yieldsIf_want rfl (fun w' hw' => ?y22)) hSwb ?_
      case y22 => first | (go_simp; rfl) | (go_simp; done) | rfl
      simp only [Act.put, List.setIfInBounds_toArray, List.set_cons_zero, List.set_cons_succ]
      refine wpAnyH_takeI (i := 12) (v := .agg ([.int .i64 300, .slice oa M0 oc]).toArray) rfl (by kernel_rfl) (by kernel_rfl) (by kernel_rfl) (fun _ _ _ h => h) (yieldsIf_load_mid rfl 50 (.tmp 6) rfl A6 0 rfl ([.int .i64 300, .slice oa M0 oc]) _ (fun w' hw' => (HRW.out w' hw').1) Try.underlying50 rfl sizeSL) hSwb ?_
      simp only [Act.put, List.setIfInBounds_toArray, List.set_cons_zero, List.set_cons_succ]
      refine wpAnyH_takeI (i := 13) (v := .agg ([.int .i64 300, .slice pa N' pc]).toArray) rfl (by kernel_rfl) (by kernel_rfl) (by kernel_rfl) (fun _ _ _ h => h) (yieldsIf_load_mid rfl 50 (.tmp 9) rfl A9 0 rfl ([.int .i64 300, .slice pa N' pc]) _ (fun w' hw' => (HRW.out w' hw').2) Try.underlying50 rfl sizeSL) hSwb ?_
      simp only [Act.put, List.setIfInBounds_toArray, List.set_cons_zero, List.set_cons_succ]
      refine wpAnyH_want (i := 11) (by kernel_rfl) rfl rfl (fun K hK => ?_)
      go_simp
      go_at_call 29
      refine (HE1.out _ hSwb).mono ?_
      rintro e wc1 ⟨rfl, hbwc1⟩
      have hSwc1 := hSwb.trans (hbwc1.mono hSwb.size)
      refine hK _ _ (hSwc1) ?_
      clear hK K
      try simp only [Act.put, List.setIfInBounds_toArray, List.set_cons_zero, List.set_cons_succ]
      refine wpAnyH_want (i := 14) (by kernel_rfl) rfl rfl (fun K hK => ?_)
      go_simp
      go_at_call 30
      refine (HSA.out _ hSwc1).mono ?_
      rintro e wd1 ⟨rfl, hbwd1⟩
      have hSwd1 := hSwc1.trans (hbwd1.mono hSwc1.size)
      refine hK _ _ (hSwd1) ?_
      clear hK K
      try simp only [Act.put, List.setIfInBounds_toArray, List.set_cons_zero, List.set_cons_succ]
      refine wpAnyH_takeI (i := 15) (v := .bool true) rfl (by kernel_rfl) (by kernel_rfl) (by kernel_rfl) (fun _ _ _ h => h) (yieldsIf_want rfl (fun w' hw' => ?y23)) hSwd1 ?_
      case y23 => (have hqq := HQQ.out; clear hw'; first | (go_simp; rfl) | (go_simp; done))
      simp only [Act.put, List.setIfInBounds_toArray, List.set_cons_zero, List.set_cons_succ]
      refine wpAnyH_takeI (i := 16) (v := ?v24) rfl (by kernel_rfl) (by kernel_rfl) (by kernel_rfl) (fun _ _ _ h => h) (yieldsIf_run rfl (fun w' hw' => ?y24)) hSwd1 ?_
      case y24 => first | (go_simp; rfl) | (go_simp; done) | rfl
      simp only [Act.put, List.setIfInBounds_toArray, List.set_cons_zero, List.set_cons_succ]
      refine wpAnyH_takeI (i := 17) (v := ?v25) rfl (by kernel_rfl) (by kernel_rfl) (by kernel_rfl) (fun _ _ _ h => h) (yieldsIf_run rfl (fun w' hw' => ?y25)) hSwd1 ?_
      case y25 => first | (go_simp; rfl) | (go_simp; done) | rfl
      simp only [Act.put, List.setIfInBounds_toArray, List.set_cons_zero, List.set_cons_succ]
      refine wpAnyH_takeI (i := 18) (v := ?v26) rfl (by kernel_rfl) (by kernel_rfl) (by kernel_rfl) (fun _ _ _ h => h) (yieldsIf_want rfl (fun w' hw' => ?y26)) hSwd1 ?_
      case y26 => first | (go_simp; rfl) | (go_simp; done) | rfl
      simp only [Act.put, List.setIfInBounds_toArray, List.set_cons_zero, List.set_cons_succ]
      refine wpAnyH_takeI (i := 19) (v := ?v27) rfl (by kernel_rfl) (by kernel_rfl) (by kernel_rfl) (fun _ _ _ h => h) (yieldsIf_want rfl (fun w' hw' => ?y27)) hSwd1 ?_
      case y27 => first | (go_simp; rfl) | (go_simp; done) | rfl
      simp only [Act.put, List.setIfInBounds_toArray, List.set_cons_zero, List.set_cons_succ]
      refine wpAnyH_takeI (i := 21) (v := .agg ([.int .i64 300, .slice oa M0 oc]).toArray) rfl (by kernel_rfl) (by kernel_rfl) (by kernel_rfl) (fun _ _ _ h => h) (yieldsIf_load_mid rfl 50 (.tmp 6) rfl A6 0 rfl ([.int .i64 300, .slice oa M0 oc]) _ (fun w' hw' => (HRW.out w' hw').1) Try.underlying50 rfl sizeSL) hSwd1 ?_
      simp only [Act.put, List.setIfInBounds_toArray, List.set_cons_zero, List.set_cons_succ]
      refine wpAnyH_takeI (i := 22) (v := .agg ([.int .i64 300, .slice pa N' pc]).toArray) rfl (by kernel_rfl) (by kernel_rfl) (by kernel_rfl) (fun _ _ _ h => h) (yieldsIf_load_mid rfl 50 (.tmp 9) rfl A9 0 rfl ([.int .i64 300, .slice pa N' pc]) _ (fun w' hw' => (HRW.out w' hw').2) Try.underlying50 rfl sizeSL) hSwd1 ?_
      simp only [Act.put, List.setIfInBounds_toArray, List.set_cons_zero, List.set_cons_succ]
      refine wpAnyH_want (i := 20) (by kernel_rfl) rfl rfl (fun K hK => ?_)
      go_simp
      go_at_call 29
      refine (HE2.out _ hSwd1).mono ?_
      rintro e we1 ⟨rfl, hbwe1⟩
      have hSwe1 := hSwd1.trans (hbwe1.mono hSwd1.size)
      refine hK _ _ (hSwe1) ?_
      clear hK K
      try simp only [Act.put, List.setIfInBounds_toArray, List.set_cons_zero, List.set_cons_succ]
      refine wpAnyH_want (i := 23) (by kernel_rfl) rfl rfl (fun K hK => ?_)
      go_simp
      go_at_call 30
      refine (HSA.out _ hSwe1).mono ?_
      rintro e wf1 ⟨rfl, hbwf1⟩
      have hSwf1 := hSwe1.trans (hbwf1.mono hSwe1.size)
      refine hK _ _ (hSwf1) ?_
      clear hK K
      try simp only [Act.put, List.setIfInBounds_toArray, List.set_cons_zero, List.set_cons_succ]
      refine wpAnyH_takeI (i := 24) (v := .bool true) rfl (by kernel_rfl) (by kernel_rfl) (by kernel_rfl) (fun _ _ _ h => h) (yieldsIf_want rfl (fun w' hw' => ?y28)) hSwf1 ?_
      case y28 => (have hqq := HQQ.out; clear hw'; first | (go_simp; rfl) | (go_simp; done))
      simp only [Act.put, List.setIfInBounds_toArray, List.set_cons_zero, List.set_cons_succ]
      refine wpAnyH_takeI (i := 25) (v := ?v29) rfl (by kernel_rfl) (by kernel_rfl) (by kernel_rfl) (fun _ _ _ h => h) (yieldsIf_run rfl (fun w' hw' => ?y29)) hSwf1 ?_
      case y29 => first | (go_simp; rfl) | (go_simp; done) | rfl
      simp only [Act.put, List.setIfInBounds_toArray, List.set_cons_zero, List.set_cons_succ]
      refine wpAnyH_takeI (i := 26) (v := ?v30) rfl (by kernel_rfl) (by kernel_rfl) (by kernel_rfl) (fun _ _ _ h => h) (yieldsIf_run rfl (fun w' hw' => ?y30)) hSwf1 ?_
      case y30 => first | (go_simp; rfl) | (go_simp; done) | rfl
      simp only [Act.put, List.setIfInBounds_toArray, List.set_cons_zero, List.set_cons_succ]
      refine wpAnyH_takeI (i := 27) (v := ?v31) rfl (by kernel_rfl) (by kernel_rfl) (by kernel_rfl) (fun _ _ _ h => h) (yieldsIf_want rfl (fun w' hw' => ?y31)) hSwf1 ?_
      case y31 => first | (go_simp; rfl) | (go_simp; done) | rfl
      simp only [Act.put, List.setIfInBounds_toArray, List.set_cons_zero, List.set_cons_succ]
      refine wpAnyH_want (i := 28) (by kernel_rfl) rfl rfl (fun K hK => ?_)
      go_simp
      go_at_call 29
      refine (HE3.out _ hSwf1).mono ?_
      rintro e wg1 ⟨rfl, hbwg1⟩
      have hSwg1 := hSwf1.trans (hbwg1.mono hSwf1.size)
      refine hK _ _ (hSwg1) ?_
      clear hK K
      try simp only [Act.put, List.setIfInBounds_toArray, List.set_cons_zero, List.set_cons_succ]
      refine wpAnyH_takeI (i := 29) (v := ?v32) rfl (by kernel_rfl) (by kernel_rfl) (by kernel_rfl) (fun _ _ _ h => h) (yieldsIf_want rfl (fun w' hw' => ?y32)) hSwg1 ?_
      case y32 => first | (go_simp; rfl) | (go_simp; done) | rfl
      simp only [Act.put, List.setIfInBounds_toArray, List.set_cons_zero, List.set_cons_succ]
      refine wpAnyH_takeI (i := 30) (v := ?v33) rfl (by kernel_rfl) (by kernel_rfl) (by kernel_rfl) (fun _ _ _ h => h) (yieldsIf_run rfl (fun w' hw' => ?y33)) hSwg1 ?_
      case y33 => first | (go_simp; rfl) | (go_simp; done) | rfl
      simp only [Act.put, List.setIfInBounds_toArray, List.set_cons_zero, List.set_cons_succ]
      refine wpAnyH_takeI (i := 31) (v := ?v34) rfl (by kernel_rfl) (by kernel_rfl) (by kernel_rfl) (fun _ _ _ h => h) (yieldsIf_run rfl (fun w' hw' => ?y34)) hSwg1 ?_
      case y34 => first | (go_simp; rfl) | (go_simp; done) | rfl
      simp only [Act.put, List.setIfInBounds_toArray, List.set_cons_zero, List.set_cons_succ]
      refine wpAnyH_done (by kernel_rfl) ?_ _
      refine NoPanic.normal ?_
      go_wp2_with fail
      exact bodyPost_ret (v := .bool true) (by simp [results, Try.results8, go_sem]) rfl ⟨rfl, HBR.out.trans (hSwg1.mono HBR.out.size)⟩
end Go.Proofs.Ytnmdgjodbikndaa
