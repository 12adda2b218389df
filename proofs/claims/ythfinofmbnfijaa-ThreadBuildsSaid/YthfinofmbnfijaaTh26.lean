/- ThreadAnswers. -/
import Derived.Test.YthfinofmbnfijaaTh25
import Derived.Test.YthfinofmbnfijaaTh21
namespace Go.Proofs.Ythfinofmbnfijaa
open Go.Shelf Go.RowKit Go.Lib Go.Sort
set_option linter.unusedVariables false
set_option linter.unusedSimpArgs false

set_option maxRecDepth 100000 in
set_option maxHeartbeats 2000000 in
theorem Answers_law {w : World} (v : Value) (L : List RawV) (hv : RawsAt w v L) : Calls Try.prog 6 #[v] w fun e w' => e = .returned (.bool true) ∧ Below w.heap.size w w' := by
  have HV := Lib.hid hv
  clear hv
  go_enter Try.func6, Try.ntmps6
  go_wp2_with fail
  refine (rows_any _ L HV.out).mono ?_
  rintro e Wa ⟨xv, M, rfl, ho, ht, hb⟩
  obtain ⟨hN14, hnd⟩ := rows_facts ht
  obtain ⟨xa, xc, rfl⟩ := ho.own.form
  obtain ⟨N, hN⟩ : ∃ N, M.length = N := ⟨_, rfl⟩
  rw [hN] at ho hN14 ⊢
  have HM := Lib.hid ho
  have HN := Lib.hid hN
  have HND := Lib.hid hnd
  have HBA := Lib.hid hb
  clear ho ht hN hb hnd
  go_wp2_with fail
  refine (acyclic_any _ M HM.out.at_ HND.out (by rw [HN.out]; omega)).mono ?_
  rintro e Wy ⟨b, rfl, hac, hb⟩
  have HM := Lib.hid (HM.out.below hb)
  have HBA := Lib.hid (HBA.out.trans (hb.mono HBA.out.size))
  have HAC := Lib.hid hac
  clear hac hb
  cases b with
  | false =>
    have HB0 := HBA
    go_wp2_with fail
    refine known_any.mono ?_
    rintro e Wk ⟨rfl, hb⟩
    have HB0 := Lib.hid (HB0.out.trans (hb.mono HB0.out.size))
    clear hb
    go_wp2_with fail
    exact bodyPost_ret (v := .bool true) (by simp [results, Try.results6, go_sem]) rfl ⟨rfl, HB0.out⟩
  | true =>
    go_wp2_with fail
    refine (Build_any _ M HM.out.at_ (by rw [HN.out]; omega)).mono ?_
    rintro e Wf (⟨hno, _⟩ | ⟨hnd2, fv, c, rfl, hc1, hof, hb⟩)
    case inl => exact absurd HND.out hno
    have hgood := good hnd2 hc1
    obtain ⟨F, hF⟩ : ∃ F, forestV M c = F := ⟨_, rfl⟩
    rw [hF] at hof hgood
    have hFl : F.length ≤ 28 := by
      rw [← hF, forestV_eq hnd2]
      unfold forestS
      refine Nat.le_trans (forL_len (cut_acyclic hc1) (pls_nodup hnd2 c) _ _) ?_
      have := pls_len M c
      have h2 := HN.out
      omega
    obtain ⟨fa, fc, rfl⟩ := hof.form
    obtain ⟨n, hn⟩ : ∃ n, F.length = n := ⟨_, rfl⟩
    rw [hn] at hof hFl ⊢
    obtain ⟨hz1, hnfc, hfcm, hz2⟩ := hof.at_.len
    unfold maxLen at hfcm
    have HG := Lib.hid hgood
    have HC1 := Lib.hid hc1
    have HFE := Lib.hid hF
    have HFN := Lib.hid hn
    have HF0 := Lib.hid hof.at_
    have HM0 := Lib.hid (HM.out.below hb)
    have HB0 := Lib.hid (HBA.out.trans (hb.mono HBA.out.size))
    clear hc1 hof hb hnd2 hgood hF hn hz1 hz2 HM HBA
    have HCP := Lib.hid (show c = parP M from cut_none HC1.out (HAC.out.1 (by simp)))
    clear HAC
    go_wp2_with fail
    refine known_any.mono ?_
    rintro e Wk ⟨rfl, hb⟩
    have HF0 := Lib.hid (HF0.out.below hb)
    have HM0 := Lib.hid (HM0.out.below hb)
    have HB0 := Lib.hid (HB0.out.trans (hb.mono HB0.out.size))
    clear hb
    go_wp2_with fail
    refine (check_any _ F HF0.out (by rw [HFN.out]; omega)).mono ?_
    rintro e Wc ⟨rfl, hb⟩
    rw [HG.out.check]
    have HF0 := Lib.hid (HF0.out.below hb)
    have HM0 := Lib.hid (HM0.out.below hb)
    have HB0 := Lib.hid (HB0.out.trans (hb.mono HB0.out.size))
    clear hb
    go_wp2_with fail
    have HK0 := Lib.hid (Below.refl Wc.heap.size Wc)
    go_loopw [6, 7] (fun iv rv wr => ∃ j : Nat, j ≤ n ∧ iv = .int .i64 (j : Int) ∧ Hid (Below Wc.heap.size Wc wr)) (fun iv _ _ => n - (intOf iv).toNat)
    case atStart => exact ⟨0, Nat.zero_le _, rfl, HK0⟩
    case round =>
      obtain ⟨j, hj, rfl, HB6⟩ := hrel
      obtain ⟨W0, rfl⟩ : ∃ W0, W0 = wr := ⟨_, rfl⟩
      clear HK0
      have HBE := Lib.hid (HB0.out.trans (HB6.out.mono HB0.out.size))
      by_cases hlt : j < n
      case neg =>
        obtain rfl : j = n := by omega
        go_wp2_with fail
        exact bodyPost_ret (v := .bool true) (by simp [results, Try.results6, go_sem]) rfl ⟨rfl, HBE.out⟩
      have hjI : (j : Int) < (n : Int) := by omega
      have hjF : j < F.length := by rw [HFN.out]; exact hlt
      obtain ⟨fg, fo, ef, hfg, hfr⟩ := (HF0.out.below HB6.out).get hjF
      subst ef
      obtain ⟨nd, hnd⟩ : ∃ nd, F[j] = nd := ⟨_, rfl⟩
      have hndq : F[j]? = some nd := by rw [List.getElem?_eq_getElem hjF, hnd]
      have hnF : nd ∈ F := hnd ▸ List.getElem_mem hjF
      have hrow := HG.out.row nd hnF
      rw [hnd] at hfr
      have HFR := Lib.hid (show ∀ w', Below W0.heap.size W0 w' → w'.rangeAt fg (fo + j * 35) nd.cells from fun w' hw' => range_below hfr hfg hw')
      have HNQ := Lib.hid hndq
      obtain ⟨m1, m2, _⟩ := node_mid (HFR.out W0 (Below.refl _ _))
      obtain ⟨r1, hr1⟩ : ∃ r, nd.row = r := ⟨_, rfl⟩
      obtain ⟨p1, hp1⟩ : ∃ p, nd.parent = p := ⟨_, rfl⟩
      rw [hr1] at hrow m1
      rw [hp1] at m2
      have HP1 := Lib.hid hp1
      have HROW := Lib.hid hrow
      have HMW := Lib.hid (HM0.out.below HB6.out)
      have HFG := Lib.hid hfg
      clear hfr hnd hnF hr1 hp1 hndq hfg hrow
      by_cases hpos : r1 < 0
      case pos =>
        have hrd : decide (r1 < 0) = true := decide_eq_true hpos
        go_wp2_with fail
        go_roundw
        case rel => exact ⟨j + 1, by omega, by go_num, HB6⟩
        case measure => simp [intOf] <;> omega
      have hrd : decide (r1 < 0) = false := decide_eq_false hpos
      obtain ⟨k, hk, hke, hkid⟩ := idxL_pos (L := M) (x := nd.id) (by rw [← HROW.out]; omega)
      obtain rfl : r1 = (k : Int) := by rw [HROW.out, hke]
      have hkN : (k : Int) < (N : Int) := by have := HN.out; omega
      obtain ⟨xg, xo, ex, hxg, hxr⟩ := HMW.out.own.at_.get hk
      subst ex
      have hcid : c nd.id = M[k].refs.getLast? := by rw [HCP.out, ← hkid, parP_art HND.out hk]
      have hro := (HMW.out.refs M[k] (List.getElem_mem hk)).at_
      obtain ⟨ra, rc, hrv⟩ := hro.form
      have hxm := (row_mid (show W0.rangeAt xg (xo + k * 83) M[k].cells from hxr)).2.2
      rw [hrv] at hro hxm
      obtain ⟨K, hK⟩ : ∃ K, M[k].refs.length = K := ⟨_, rfl⟩
      rw [hK] at hro hxm
      obtain ⟨hz1, hrc1, hrc2, hz2⟩ := hro.len
      unfold maxLen at hrc2
      have HOK := Lib.hid (HG.out.ok j nd HNQ.out)
      clear hz1 hz2 hxr hxg hke hkid hrv
      cases K with
      | zero =>
        have hcn : c nd.id = none := by rw [hcid, List.getLast?_eq_none_iff]; exact List.eq_nil_of_length_eq_zero hK
        have hpv : p1 = -1 := by
          rcases HOK.out with ⟨h1, _⟩ | ⟨q, m, _, _, _, h4⟩
          · rw [← HP1.out, h1]
          · rw [hcn] at h4; cases h4
        subst hpv
        clear hcn hcid hK hro
        go_wp2_with fail
        go_roundw
        case rel => exact ⟨j + 1, by omega, by go_num, HB6⟩
        case measure => simp [intOf] <;> omega
      | succ K =>
        have hKR : K < M[k].refs.length := by omega
        obtain ⟨rg, roff, era, hrg, hrr⟩ := hro.get hKR
        subst era
        obtain ⟨x, hx⟩ : ∃ x, M[k].refs[K] = x := ⟨_, rfl⟩
        rw [hx] at hrr
        have hcs : c nd.id = some x := by rw [hcid, List.getLast?_eq_getElem?, hK, Nat.add_sub_cancel, List.getElem?_eq_getElem hKR, hx]
        obtain ⟨q, m, hqj, hqm, hpq, hqc⟩ : ∃ (q : Nat) (m : NodeV), q < j ∧ F[q]? = some m ∧ p1 = (q : Int) ∧ m.id = x := by
          rcases HOK.out with ⟨_, h1⟩ | ⟨q, m, h1, h2, h3, h4⟩
          · rw [hcs] at h1; cases h1
          · exact ⟨q, m, h1, h2, HP1.out ▸ h3, Option.some.inj (h4.symm.trans hcs)⟩
        subst hpq
        have hqF : q < F.length := (List.getElem?_eq_some_iff.1 hqm).1
        have hqn : (q : Int) < (n : Int) := by have := HFN.out; omega
        obtain ⟨fg', fo', ef, hfg2, hfr2⟩ := (HF0.out.below HB6.out).get hqF
        cases ef
        have hq2 : F[q] = m := by rw [List.getElem?_eq_getElem hqF] at hqm; exact Option.some.inj hqm
        rw [hq2] at hfr2
        have hq3 := node_id (show W0.rangeAt fg (fo + q * 35) m.cells from hfr2)
        rw [hqc] at hq3
        have HQR := Lib.hid (show ∀ w', Below W0.heap.size W0 w' → w'.rangeAt fg (fo + q * 35) (bvs x.1) from fun w' hw' => range_below hq3 hfg2 hw')
        have HRR := Lib.hid (show ∀ w', Below W0.heap.size W0 w' → w'.rangeAt rg (roff + K * 32) (bvs x.1) from fun w' hw' => range_below hrr hrg hw')
        clear hq3 hq2 hfr2 hfg2 hqc hqm hqF hrr hrg hx hcs hcid hK hKR hro
        go_wp2_with fail
        refine wp_region_seq 23 (by kernel_rfl) (by kernel_rfl) ?_
        simp only [List.take_succ_cons, List.take_zero, List.drop_succ_cons, List.drop_zero]
        obtain ⟨wd, hwd⟩ : ∃ wd, W0.drew = wd := ⟨_, rfl⟩
        have hd_wd : Below W0.heap.size W0 wd ∧ wd.heap.size = W0.heap.size := hwd ▸ ⟨(Below.refl _ _).drew, rfl⟩
        rw [hwd]
        clear hwd
        obtain ⟨_, m2, _⟩ := node_mid (HFR.out wd hd_wd.1)
        rw [HP1.out] at m2
        have HQd := Lib.hid (HQR.out wd hd_wd.1)
        have HRd := Lib.hid (HRR.out wd hd_wd.1)
        have HBd := Lib.hid (HB6.out.trans (hd_wd.1.mono HB6.out.size))
        clear hd_wd
        go_wp2_with (refine wpList_met rfl ?_; with_reducible refine wpList_load_mid rfl 35 (.tmp 74) rfl fg (fo + q * 35) rfl (bvs x.1) _ HQd.out Try.underlying35 rfl (sizeId x) ?_; refine Stop.on ?_)
        refine Stop.go ?_
        try simp only [Act.put, List.setIfInBounds_toArray, List.set_cons_zero, List.set_cons_succ]
        go_wp2_with (refine wpList_met rfl ?_; with_reducible refine wpList_load_mid rfl 35 (.tmp 80) rfl rg (roff + K * 32) rfl (bvs x.1) _ HRd.out Try.underlying35 rfl (sizeId x) ?_; refine Stop.on ?_)
        refine Stop.go ?_
        try simp only [Act.put, List.setIfInBounds_toArray, List.set_cons_zero, List.set_cons_succ]
        refine wpList_met rfl ?_
        refine wpList_runI rfl (some 82) rfl (.bool false) _ (op_neq 35 (.tmp 75) (.tmp 81) 35 rfl rfl rfl guard_Id (by have h1 := neq_Id x x wd; rw [decide_eq_true rfl] at h1; exact h1)) ?_
        try simp only [Act.put, List.setIfInBounds_toArray, List.set_cons_zero, List.set_cons_succ]
        go_wp2_with fail
        refine HeadPost.mk ?_
        go_wp2_with fail
        go_roundw
        case rel => exact ⟨j + 1, by omega, by go_num, HBd⟩
        case measure => simp [intOf] <;> omega
end Go.Proofs.Ythfinofmbnfijaa
