/- Visibility: Listing refuses what Check refuses; the law Shown. -/
import Derived.Test.YtjjanjhoaiannaaVp5
import Derived.Test.YtjjanjhoaiannaaV10
namespace Go.Proofs.Ytjjanjhoaiannaa
open Go.RowKit
set_option linter.unusedVariables false
set_option linter.unusedSimpArgs false

set_option maxRecDepth 100000 in
set_option maxHeartbeats 2000000 in
theorem Listing_no {w : World} (v u : Value) (L : List RowV) (G : List IdB) (now : Int) (hv : RowsAt w v L) (hu : ListAt idE w u G) (hl : L.length < 1000000000) (h0 : chkL L ≠ 0) :
    Calls Try.prog 22 #[v, u, .int .i64 now] w fun e w' => e = .returned (.tuple #[.slice none 0 0, .int .i64 (chkL L)]) ∧ Below w.heap.size w w' := by
  have hck := Check_any v L hv hl
  obtain ⟨va, vc, rfl⟩ := hv.l.form
  obtain ⟨ua, uc, rfl⟩ := hu.form
  obtain ⟨N, hN⟩ : ∃ N, L.length = N := ⟨_, rfl⟩
  obtain ⟨c, hc⟩ : ∃ c, chkL L = c := ⟨_, rfl⟩
  rw [hN] at hv hck ⊢
  rw [hc] at hck h0 ⊢
  have HCK := Lib.hid hck
  clear hv hu hck hc hN
  have hb : (c == 0) = false := by simpa using h0
  have hb2 : (c != 0) = true := by simp [bne, hb]
  go_enter Try.func22, Try.ntmps22
  go_wp2_with fail
  refine HCK.out.mono ?_
  rintro e w1 ⟨rfl, hb1⟩
  have HB1 := Lib.hid hb1
  clear hb1
  go_wp2_with fail
  exact bodyPost_ret (v := .tuple #[.slice none 0 0, .int .i64 c]) (by simp [results, Try.results22, go_sem]) rfl ⟨rfl, HB1.out⟩

set_option maxRecDepth 100000 in
set_option maxHeartbeats 2000000 in
theorem Shown_law {w : World} (v u : Value) (L : List RowV) (G : List IdB) (now : Int) (hv : RowsAt w v L) (hu : ListAt idE w u G) :
    Calls Try.prog 10 #[v, u, .int .i64 now] w (fun e w' => e = .returned (.bool true) ∧ Below w.heap.size w w') := by
  obtain ⟨va, vc, rfl⟩ := hv.l.form
  obtain ⟨ua, uc, rfl⟩ := hu.form
  obtain ⟨N, hN⟩ : ∃ N, L.length = N := ⟨_, rfl⟩
  have hlm : L.length ≤ 9223372036854775807 := by
    obtain ⟨a, c, e, h1, h2, _⟩ := hv.l.ex
    unfold maxLen at h2
    omega
  have HLM := Lib.hid hlm
  rw [hN] at hv ⊢
  have HV := Lib.hid hv
  have HU := Lib.hid hu
  have HN := Lib.hid hN
  clear hv hu hN hlm
  go_enter Try.func10, Try.ntmps10
  go_wp2_with fail
  refine known_any.mono ?_
  rintro e wa ⟨rfl, hba⟩
  have HBA := Lib.hid hba
  clear hba
  go_wp2_with fail
  refine (few_any _ _ L G (HN.out.symm ▸ HV.out.below HBA.out) (HU.out.below HBA.out) HLM.out).mono ?_
  rintro e wb ⟨rfl, hbb⟩
  have HBB := Lib.hid (HBA.out.trans (hbb.mono HBA.out.size))
  clear hbb
  obtain ⟨bf, hbf⟩ : ∃ bf, fewB L G = bf := ⟨_, rfl⟩
  rw [hbf]
  have HFEW := Lib.hid hbf
  clear hbf
  cases bf with
  | false =>
    go_wp2_with fail
    refine known_any.mono ?_
    rintro e wz ⟨rfl, hbz⟩
    have HBZ := Lib.hid hbz
    clear hbz
    go_wp2_with fail
    exact bodyPost_ret (v := .bool true) (by simp [results, Try.results10, go_sem]) rfl ⟨rfl, (HBB.out).trans (HBZ.out.mono (HBB.out).size)⟩
  | true =>
  obtain ⟨hf1, hf2, hf3⟩ := few_iff.1 HFEW.out
  have HF1 := Lib.hid hf1
  have HF2 := Lib.hid hf2
  have HF3 := Lib.hid hf3
  have HLN := Lib.hid (show L.length < 1000000000 by omega)
  have HGN := Lib.hid (show G.length < 1000000000 by omega)
  clear hf1 hf2 hf3
  have hN30 : N ≤ 30 := by have := HF2.out; have := HN.out; omega
  go_wp2_with fail
  refine (check_any _ L (HN.out.symm ▸ HV.out.below HBB.out) HLN.out).mono ?_
  rintro e wc ⟨rfl, hbc⟩
  have HBC := Lib.hid (HBB.out.trans (hbc.mono HBB.out.size))
  clear hbc
  obtain ⟨ck, hck⟩ : ∃ ck, chkL L = ck := ⟨_, rfl⟩
  rw [hck]
  have HCHK := Lib.hid hck
  clear hck
  rcases Decidable.em (¬ ck = 0) with hc0 | hc0
  · have hcb : (ck == 0) = false := by simpa using hc0
    have hcb2 : (ck != 0) = true := by simp [bne, hcb]
    have hcc : (ck == ck) = true := by simp
    have hcc2 : (ck != ck) = false := by simp
    have HC0 := Lib.hid hc0
    clear hc0
    go_wp2_with fail
    refine (Shown_any _ _ L G now (HN.out.symm ▸ HV.out.below HBC.out) (HU.out.below HBC.out) HLN.out HGN.out).mono ?_
    rintro e w5 ⟨x, rfl, hox, hb5⟩
    rw [HCHK.out, if_neg HC0.out] at hox
    rw [HCHK.out]
    obtain ⟨xa, xc, rfl⟩ := hox.form
    have HB5 := Lib.hid (HBC.out.trans (hb5.mono HBC.out.size))
    clear hox hb5
    rw [List.length_nil]
    go_wp2_with fail
    refine (Held_any _ _ L G now (HN.out.symm ▸ HV.out.below HB5.out) (HU.out.below HB5.out) HLN.out HGN.out).mono ?_
    rintro e w6 ⟨y, rfl, hoy, hb6⟩
    rw [HCHK.out, if_neg HC0.out] at hoy
    rw [HCHK.out]
    obtain ⟨ya, yc, rfl⟩ := hoy.form
    have HB6 := Lib.hid (HB5.out.trans (hb6.mono HB5.out.size))
    clear hoy hb6
    rw [List.length_nil]
    go_wp2_with fail
    refine (Check_any _ L (HN.out.symm ▸ HV.out.below HB6.out) HLN.out).mono ?_
    rintro e w7 ⟨rfl, hb7⟩
    rw [HCHK.out]
    have HB7 := Lib.hid (HB6.out.trans (hb7.mono HB6.out.size))
    clear hb7
    go_wp2_with fail
    refine (Listing_no _ _ L G now (HN.out.symm ▸ HV.out.below HB7.out) (HU.out.below HB7.out) HLN.out (by rw [HCHK.out]; exact HC0.out)).mono ?_
    rintro e w8 ⟨rfl, hb8⟩
    rw [HCHK.out]
    have HB8 := Lib.hid (HB7.out.trans (hb8.mono HB7.out.size))
    clear hb8
    go_wp2_with fail
    refine (Next_any _ _ L G now (HN.out.symm ▸ HV.out.below HB8.out) (HU.out.below HB8.out) HLN.out HGN.out).mono ?_
    rintro e w9 ⟨rfl, hb9⟩
    rw [HCHK.out, if_neg HC0.out, if_neg HC0.out]
    have HB9 := Lib.hid (HB8.out.trans (hb9.mono HB8.out.size))
    clear hb9
    go_wp2_with fail
    exact bodyPost_ret (v := .bool true) (by simp [results, Try.results10, go_sem]) rfl ⟨rfl, HB9.out⟩
  obtain rfl : ck = 0 := Decidable.of_not_not hc0
  clear hc0
  obtain ⟨hlen, hdt, hrf, hnd⟩ := chk_zero HCHK.out
  have HDT := Lib.hid hdt
  have HRF := Lib.hid hrf
  have HND := Lib.hid hnd
  have HL4 := Lib.hid hlen
  clear hlen hdt hrf hnd
  go_wp2_with fail
  refine (Shown_any _ _ L G now (HN.out.symm ▸ HV.out.below HBC.out) (HU.out.below HBC.out) HLN.out HGN.out).mono ?_
  rintro e w5 ⟨x, rfl, hox, hb5⟩
  rw [HCHK.out, if_pos rfl] at hox
  rw [HCHK.out]
  obtain ⟨X, hX⟩ : ∃ X, sortB ((L.filter fun r => shB L G now r).map (·.id)) = X := ⟨_, rfl⟩
  rw [hX] at hox
  have HX := Lib.hid hX
  have HXL := Lib.hid (show X.length ≤ L.length from hX ▸ shown_len _ _)
  have HOX5 := Lib.hid hox.at_
  have HB5 := Lib.hid (HBC.out.trans (hb5.mono HBC.out.size))
  clear hox hb5 hX
  go_wp2_with fail
  refine (Held_any _ _ L G now (HN.out.symm ▸ HV.out.below HB5.out) (HU.out.below HB5.out) HLN.out HGN.out).mono ?_
  rintro e w6 ⟨y, rfl, hoy, hb6⟩
  rw [HCHK.out, if_pos rfl] at hoy
  rw [HCHK.out]
  obtain ⟨Y, hY⟩ : ∃ Y, sortB ((L.filter fun r => !shB L G now r).map (·.id)) = Y := ⟨_, rfl⟩
  rw [hY] at hoy
  have HY := Lib.hid hY
  have HYL := Lib.hid (show Y.length ≤ L.length from hY ▸ shown_len _ _)
  have HOY6 := Lib.hid hoy.at_
  have HOX6 := Lib.hid (HOX5.out.below hb6)
  have HB6 := Lib.hid (HB5.out.trans (hb6.mono HB5.out.size))
  clear hoy hb6 hY
  go_wp2_with fail
  refine (Check_any _ L (HN.out.symm ▸ HV.out.below HB6.out) HLN.out).mono ?_
  rintro e w7 ⟨rfl, hb7⟩
  rw [HCHK.out]
  have HB7 := Lib.hid (HB6.out.trans (hb7.mono HB6.out.size))
  have HOX7 := Lib.hid (HOX6.out.below hb7)
  have HOY7 := Lib.hid (HOY6.out.below hb7)
  clear hb7
  go_wp2_with fail
  refine (shown_any _ _ L G now (HN.out.symm ▸ HV.out.below HB7.out) (HU.out.below HB7.out) HL4.out HGN.out HND.out HDT.out HRF.out).mono ?_
  rintro e w8 ⟨mh, rfl, hmh, hb8⟩
  have HMH := Lib.hid hmh.at_
  have HB8 := Lib.hid (HB7.out.trans (hb8.mono HB7.out.size))
  have HOX := Lib.hid (HOX7.out.below hb8)
  have HOY := Lib.hid (HOY7.out.below hb8)
  clear hmh hb8
  go_wp2_with fail
  go_loopw [18] (fun iv wr => ∃ i : Nat, i ≤ N ∧ iv = .int .i64 (i : Int) ∧ Below w8.heap.size w8 wr) (fun iv _ => N - (intOf iv).toNat)
  case atStart => exact ⟨0, Nat.zero_le _, rfl, Below.refl _ _⟩
  case round =>
    obtain ⟨i, hi, rfl, hB⟩ := hrel
    have HB := Lib.hid hB
    have HBW := Lib.hid (HB8.out.trans (hB.mono HB8.out.size))
    clear hB
    by_cases hlt : i < N
    · have hiI : (i : Int) < (N : Int) := by omega
      have hiI0 : (0 : Int) ≤ (i : Int) := by omega
      have hlt' : i < L.length := by rw [HN.out]; exact hlt
      obtain ⟨g, off, n9, c9, e9, hr, hrl⟩ := row_at (HV.out.below HBW.out) hlt'
      cases e9
      have hmem : L[i] ∈ L := List.getElem_mem hlt'
      have hdd := HDT.out _ hmem
      obtain ⟨R, hR⟩ : ∃ R, L[i] = R := ⟨_, rfl⟩
      rw [hR] at hr hdd
      have hrc : ∀ w', Below wr.heap.size wr w' → w'.rangeAt g (off + i * 83) R.cells ∧ w'.cell? ⟨g, off + i * 83 + 48, none⟩ = some (.int .i64 R.date) := fun w' hw' => by
        have h := range_below hr (World.block_lt_of_cell? _ _ (row_mid hr).1) hw'
        exact ⟨h, (row_mid h).1⟩
      obtain ⟨d, hdq⟩ : ∃ d, R.date = d := ⟨_, rfl⟩
      rw [hdq] at hdd hrc
      obtain ⟨hd1, hd2⟩ := hdd
      have hwr : IntKind.i64.wrap (d + 2880) = d + 2880 := IntWalk.i64_in _ (by omega)
      have HRC := Lib.hid hrc
      have HDQ := Lib.hid hdq
      clear hr hrl hmem hR hrc hdq
      go_wp2_with fail
      refine wp_region_noPanic ?_
      refine wp_region_H (Below wr.heap.size wr) (by kernel_rfl) ?_
      have hS0 : (Below wr.heap.size wr) wr.drew := (Below.refl _ _).drew
      obtain ⟨wd, hwd⟩ : ∃ wd, wr.drew = wd := ⟨_, rfl⟩
      rw [hwd] at hS0 ⊢
      clear hwd
      refine wpAnyH_takeI (i := 0) (v := ?v1) rfl (by kernel_rfl) (by kernel_rfl) (by kernel_rfl) (fun _ _ _ h => h) (yieldsIf_run rfl (fun w' hw' => ?y1)) hS0 ?_
      case y1 => first | (go_simp; rfl) | (go_simp; done) | rfl
      simp only [Act.put, List.setIfInBounds_toArray, List.set_cons_zero, List.set_cons_succ]
      refine wpAnyH_takeI (i := 1) (v := ?v2) rfl (by kernel_rfl) (by kernel_rfl) (by kernel_rfl) (fun _ _ _ h => h) (yieldsIf_run rfl (fun w' hw' => ?y2)) hS0 ?_
      case y2 => first | (go_simp; rfl) | (go_simp; done) | rfl
      simp only [Act.put, List.setIfInBounds_toArray, List.set_cons_zero, List.set_cons_succ]
      refine wpAnyH_takeI (i := 2) (v := ?v3) rfl (by kernel_rfl) (by kernel_rfl) (by kernel_rfl) (fun _ _ _ h => h) (yieldsIf_run rfl (fun w' hw' => ?y3)) hS0 ?_
      case y3 => first | (go_simp; rfl) | (go_simp; done) | rfl
      simp only [Act.put, List.setIfInBounds_toArray, List.set_cons_zero, List.set_cons_succ]
      refine wpAnyH_takeI (i := 3) (v := .agg R.cells.toArray) rfl (by kernel_rfl) (by kernel_rfl) (by kernel_rfl) (fun _ _ _ h => h) (yieldsIf_load_mid rfl 36 (.tmp 113) rfl g (off + i * 83) rfl R.cells _ (fun w' hw' => (HRC.out w' hw').1) Try.underlying36 rfl (sizeRow R)) hS0 ?_
      simp only [Act.put, List.setIfInBounds_toArray, List.set_cons_zero, List.set_cons_succ]
      refine wpAnyH_takeI (i := 5) (v := ?v4) rfl (by kernel_rfl) (by kernel_rfl) (by kernel_rfl) (fun _ _ _ h => h) (yieldsIf_run rfl (fun w' hw' => ?y4)) hS0 ?_
      case y4 => first | (go_simp; rfl) | (go_simp; done) | rfl
      simp only [Act.put, List.setIfInBounds_toArray, List.set_cons_zero, List.set_cons_succ]
      refine wpAnyH_takeI (i := 6) (v := ?v5) rfl (by kernel_rfl) (by kernel_rfl) (by kernel_rfl) (fun _ _ _ h => h) (yieldsIf_run rfl (fun w' hw' => ?y5)) hS0 ?_
      case y5 => first | (go_simp; rfl) | (go_simp; done) | rfl
      simp only [Act.put, List.setIfInBounds_toArray, List.set_cons_zero, List.set_cons_succ]
      refine wpAnyH_takeI (i := 7) (v := ?v6) rfl (by kernel_rfl) (by kernel_rfl) (by kernel_rfl) (fun _ _ _ h => h) (yieldsIf_run rfl (fun w' hw' => ?y6)) hS0 ?_
      case y6 => first | (go_simp; rfl) | (go_simp; done) | rfl
      simp only [Act.put, List.setIfInBounds_toArray, List.set_cons_zero, List.set_cons_succ]
      refine wpAnyH_takeI (i := 8) (v := ?v7) rfl (by kernel_rfl) (by kernel_rfl) (by kernel_rfl) (fun _ _ _ h => h) (yieldsIf_run rfl (fun w' hw' => ?y7)) hS0 ?_
      case y7 => first | (go_simp; rfl) | (go_simp; done) | rfl
      simp only [Act.put, List.setIfInBounds_toArray, List.set_cons_zero, List.set_cons_succ]
      refine wpAnyH_takeI (i := 9) (v := .int .i64 d) rfl (by kernel_rfl) (by kernel_rfl) (by kernel_rfl) (fun _ _ _ h => h) (yieldsIf_run rfl (fun w' hw' => ?y8)) hS0 ?_
      case y8 => (have hdc := (HRC.out w' hw').2; clear hw'; first | (go_simp; rfl) | (go_simp; done))
      simp only [Act.put, List.setIfInBounds_toArray, List.set_cons_zero, List.set_cons_succ]
      refine wpAnyH_takeI (i := 10) (v := .int .i64 (d + 2880)) rfl (by kernel_rfl) (by kernel_rfl) (by kernel_rfl) (fun _ _ _ h => h) (yieldsIf_run rfl (fun w' hw' => ?y9)) hS0 ?_
      case y9 => first | (go_simp; rfl) | (go_simp; done) | rfl
      simp only [Act.put, List.setIfInBounds_toArray, List.set_cons_zero, List.set_cons_succ]
      refine wpAnyH_do (i := 4) (by kernel_rfl) rfl rfl (fun K hK => ?_)
      go_simp
      go_at_call 26
      refine (Until_any R (by rw [HDQ.out]; exact hd1) (by rw [HDQ.out]; exact hd2)).mono ?_
      rintro e wq ⟨rfl, hbwq⟩
      rw [HDQ.out]
      have hSwq := hS0.trans (hbwq.mono hS0.size)
      refine hK _ _ (hSwq) ?_
      clear hK K
      try simp only [Act.put, List.setIfInBounds_toArray, List.set_cons_zero, List.set_cons_succ]
      refine wpAnyH_takeI (i := 11) (v := .bool false) rfl (by kernel_rfl) (by kernel_rfl) (by kernel_rfl) (fun _ _ _ h => h) (yieldsIf_run rfl (fun w' hw' => ?y10)) hSwq ?_
      case y10 => first | (go_simp; rfl) | (go_simp; done) | rfl
      simp only [Act.put, List.setIfInBounds_toArray, List.set_cons_zero, List.set_cons_succ]
      refine wpAnyH_done (by kernel_rfl) ?_ _
      refine NoPanic.normal ?_
      have HBQ := Lib.hid hSwq
      go_wp2_with fail
      go_roundw
      case rel => exact ⟨i + 1, by omega, by go_num, HB.out.trans (HBQ.out.mono HB.out.size)⟩
      case measure => simp [intOf]; omega
    · obtain rfl : N = i := by omega
      go_wp2_with fail
      refine (pick_any _ _ L (L.map (shB L G now)) true (HN.out.symm ▸ HV.out.below HBW.out) (HMH.out.below HB.out) (List.length_map _) HL4.out).mono ?_
      rintro e w9 ⟨pa, rfl, hpa, hb9⟩
      rw [(pick_marks _ L).1, HX.out] at hpa
      have HPA := Lib.hid hpa.at_
      have HB9 := Lib.hid (HB.out.trans (hb9.mono HB.out.size))
      have HBW9 := Lib.hid (HBW.out.trans (hb9.mono HBW.out.size))
      clear hpa hb9
      go_wp2_with fail
      refine (equal_any _ _ X X (HOX.out.below HB9.out) HPA.out (by have := HXL.out; have := HLN.out; omega) (by have := HXL.out; have := HLN.out; omega)).mono ?_
      rintro e w10 ⟨rfl, hb10⟩
      rw [decide_eq_true rfl]
      have HB10 := Lib.hid (HB9.out.trans (hb10.mono HB9.out.size))
      have HBW10 := Lib.hid (HBW9.out.trans (hb10.mono HBW9.out.size))
      clear hb10
      go_wp2_with fail
      refine (pick_any _ _ L (L.map (shB L G now)) false (HN.out.symm ▸ HV.out.below HBW10.out) (HMH.out.below HB10.out) (List.length_map _) HL4.out).mono ?_
      rintro e w11 ⟨pb, rfl, hpb, hb11⟩
      rw [(pick_marks _ L).2, HY.out] at hpb
      have HPB := Lib.hid hpb.at_
      have HB11 := Lib.hid (HB10.out.trans (hb11.mono HB10.out.size))
      have HBW11 := Lib.hid (HBW10.out.trans (hb11.mono HBW10.out.size))
      clear hpb hb11
      go_wp2_with fail
      refine (equal_any _ _ Y Y (HOY.out.below HB11.out) HPB.out (by have := HYL.out; have := HLN.out; omega) (by have := HYL.out; have := HLN.out; omega)).mono ?_
      rintro e w12 ⟨rfl, hb12⟩
      rw [decide_eq_true rfl]
      have HBW12 := Lib.hid (HBW11.out.trans (hb12.mono HBW11.out.size))
      clear hb12
      go_wp2_with fail
      exact bodyPost_ret (v := .bool true) (by simp [results, Try.results10, go_sem]) rfl ⟨rfl, HBW12.out⟩

end Go.Proofs.Ytjjanjhoaiannaa
