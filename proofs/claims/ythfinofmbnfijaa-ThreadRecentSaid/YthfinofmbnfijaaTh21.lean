/- ThreadRows. -/
import Derived.Test.YthfinofmbnfijaaTh19
import Derived.Test.YthfinofmbnfijaaTh20
import Derived.Test.YthfinofmbnfijaaTp12
namespace Go.Proofs.Ythfinofmbnfijaa
open Go.Shelf Go.RowKit Go.Lib Go.Sort
set_option linter.unusedVariables false
set_option linter.unusedSimpArgs false

def cntR (F : List NodeV) (i : Nat) : Nat := (F.take i).countP fun n => decide (0 ≤ n.row)
theorem cntR_next {F : List NodeV} {i : Nat} {n : NodeV} (h : F[i]? = some n) : cntR F (i + 1) = cntR F i + if 0 ≤ n.row then 1 else 0 := by
  obtain ⟨hi, e⟩ := List.getElem?_eq_some_iff.1 h
  unfold cntR
  rw [List.take_succ_eq_append_getElem hi, List.countP_append, e, List.countP_singleton]
  by_cases h : 0 ≤ n.row <;> simp [h]
theorem cntR_all {L : List RowV} {c : Par} {F : List NodeV} (h : Good L c F) (hn : (L.map (·.id)).Nodup) : cntR F F.length = L.length := by
  unfold cntR
  rw [List.take_of_length_le (Nat.le_refl _), List.countP_eq_length_filter]
  have hp : ((F.filter fun n => decide (0 ≤ n.row)).map (·.id)).Perm (L.map (·.id)) := by
    refine (List.perm_ext_iff_of_nodup (h.nodup.sublist (List.filter_sublist.map _)) hn).2 fun x => ?_
    constructor
    · intro hx
      obtain ⟨n, hnm, rfl⟩ := List.mem_map.1 hx
      obtain ⟨hF, hr⟩ := List.mem_filter.1 hnm
      have hr := of_decide_eq_true hr
      rw [h.row n hF] at hr
      refine Classical.byContradiction fun hno => ?_
      have : idxL L n.id < 0 := idxL_nonneg.2 fun r hr e => hno (List.mem_map.2 ⟨r, hr, e⟩)
      omega
    · intro hx
      obtain ⟨r, hr, rfl⟩ := List.mem_map.1 hx
      obtain ⟨n, hF, e⟩ := List.mem_map.1 (h.all r hr)
      refine List.mem_map.2 ⟨n, List.mem_filter.2 ⟨hF, decide_eq_true ?_⟩, e⟩
      rw [h.row n hF]
      refine Classical.byContradiction fun hno => ?_
      exact idxL_nonneg.1 (show idxL L n.id < 0 by omega) r hr e.symm
  have := hp.length_eq
  rw [List.length_map, List.length_map] at this
  exact this
theorem idxL_pos {L : List RowV} {x : IdB} (h : 0 ≤ idxL L x) : ∃ (k : Nat) (hk : k < L.length), idxL L x = (k : Int) ∧ L[k].id = x := by
  unfold idxL at h ⊢
  cases hf : L.findIdx? (fun r => decide (r.id = x)) with
  | none => rw [hf] at h; exact absurd h (by decide)
  | some i =>
    obtain ⟨hi, e⟩ := idxL_some hf
    exact ⟨i, hi, rfl, e⟩
set_option maxRecDepth 100000 in
set_option maxHeartbeats 2000000 in
theorem Rows_law {w : World} (v : Value) (L : List RawV) (hv : RawsAt w v L) : Calls Try.prog 4 #[v] w fun e w' => e = .returned (.bool true) ∧ Below w.heap.size w w' := by
  have HV := Lib.hid hv
  clear hv
  go_enter Try.func4, Try.ntmps4
  go_wp2_with fail
  refine (rows_any _ L HV.out).mono ?_
  rintro e Wa ⟨xv, M, rfl, ho, ht, hb⟩
  obtain ⟨hN14, hnd⟩ := rows_facts ht
  obtain ⟨xa, xc, rfl⟩ := ho.own.form
  obtain ⟨N, hN⟩ : ∃ N, M.length = N := ⟨_, rfl⟩
  rw [hN] at ho hN14 ⊢
  have HM := Lib.hid ho
  have HN := Lib.hid hN
  have HND := Lib.hid hnd
  have HBA := Lib.hid hb
  clear ho ht hN hb hnd
  go_wp2_with fail
  refine (Build_any _ M HM.out.at_ (by rw [HN.out]; omega)).mono ?_
  rintro e Wf (⟨hno, _⟩ | ⟨hnd2, fv, c, rfl, hc1, hof, hb⟩)
  case inl => exact absurd HND.out hno
  have hgood := good hnd2 hc1
  obtain ⟨F, hF⟩ : ∃ F, forestV M c = F := ⟨_, rfl⟩
  rw [hF] at hof hgood
  have hFl : F.length ≤ 28 := by
    rw [← hF, forestV_eq hnd2]
    unfold forestS
    refine Nat.le_trans (forL_len (cut_acyclic hc1) (pls_nodup hnd2 c) _ _) ?_
    have := pls_len M c
    have h2 := HN.out
    omega
  obtain ⟨fa, fc, rfl⟩ := hof.form
  obtain ⟨n, hn⟩ : ∃ n, F.length = n := ⟨_, rfl⟩
  rw [hn] at hof hFl ⊢
  have hcnt := cntR_all hgood hnd2
  rw [hn, HN.out] at hcnt
  obtain ⟨hz1, hnfc, hfcm, hz2⟩ := hof.at_.len
  unfold maxLen at hfcm
  have HCNT := Lib.hid hcnt
  have HG := Lib.hid hgood
  have HFN := Lib.hid hn
  have HF0 := Lib.hid hof.at_
  have HM0 := Lib.hid (HM.out.below hb)
  have HB0 := Lib.hid (HBA.out.trans (hb.mono HBA.out.size))
  clear hc1 hof hb hnd2 hgood hF hn hz1 hz2 HM HBA hcnt
  go_wp2_with fail
  refine known_any.mono ?_
  rintro e Wk ⟨rfl, hb⟩
  have HFk := Lib.hid (HF0.out.below hb)
  have HMk := Lib.hid (HM0.out.below hb)
  have HBk := Lib.hid (HB0.out.trans (hb.mono HB0.out.size))
  clear hb HF0 HM0 HB0
  go_wp2_with fail
  refine (check_any _ F HFk.out (by rw [HFN.out]; omega)).mono ?_
  rintro e Wc ⟨rfl, hb⟩
  rw [HG.out.check]
  have HF0 := Lib.hid (HFk.out.below hb)
  have HM0 := Lib.hid (HMk.out.below hb)
  have HB0 := Lib.hid (HBk.out.trans (hb.mono HBk.out.size))
  clear hb HFk HMk HBk
  go_wp2_with fail
  have HK0 := Lib.hid (Below.refl Wc.heap.size Wc)
  go_loopw [6, 7, 8] (fun sv iv rv wr => ∃ j : Nat, j ≤ n ∧ iv = .int .i64 (j : Int) ∧ sv = .int .i64 ((cntR F j : Nat) : Int) ∧ Hid (Below Wc.heap.size Wc wr)) (fun _ iv _ _ => n - (intOf iv).toNat)
  case atStart => exact ⟨0, Nat.zero_le _, rfl, rfl, HK0⟩
  case round =>
    obtain ⟨j, hj, rfl, rfl, HB6⟩ := hrel
    obtain ⟨W0, rfl⟩ : ∃ W0, W0 = wr := ⟨_, rfl⟩
    clear HK0
    have hcl : cntR F j ≤ 28 := by
      unfold cntR
      have h1 : (F.take j).countP (fun n => decide (0 ≤ n.row)) ≤ (F.take j).length := List.countP_le_length
      rw [List.length_take] at h1
      omega
    by_cases hlt : j < n
    case neg =>
      obtain rfl : j = n := by omega
      rw [HCNT.out]
      have HBE := Lib.hid (HB0.out.trans (HB6.out.mono HB0.out.size))
      clear hcl
      go_wp2_with fail
      exact bodyPost_ret (v := .bool true) (by simp [results, Try.results4, go_sem]) rfl ⟨rfl, HBE.out⟩
    have hjI : (j : Int) < (n : Int) := by omega
    have hjF : j < F.length := by rw [HFN.out]; exact hlt
    obtain ⟨fg, fo, ef, hfg, hfr⟩ := (HF0.out.below HB6.out).get hjF
    subst ef
    obtain ⟨nd, hnd⟩ : ∃ nd, F[j] = nd := ⟨_, rfl⟩
    have hndq : F[j]? = some nd := by rw [List.getElem?_eq_getElem hjF, hnd]
    have hnF : nd ∈ F := hnd ▸ List.getElem_mem hjF
    have hrow := HG.out.row nd hnF
    rw [hnd] at hfr
    have hcn := cntR_next hndq
    have HFR := Lib.hid (show ∀ w', Below W0.heap.size W0 w' → w'.rangeAt fg (fo + j * 35) nd.cells from fun w' hw' => range_below hfr hfg hw')
    have HNQ := Lib.hid hndq
    obtain ⟨m1, _, _⟩ := node_mid (HFR.out W0 (Below.refl _ _))
    have hidr := node_id (HFR.out W0 (Below.refl _ _))
    obtain ⟨r1, hr1⟩ : ∃ r, nd.row = r := ⟨_, rfl⟩
    obtain ⟨x, hx⟩ : ∃ x, nd.id = x := ⟨_, rfl⟩
    rw [hr1, hx] at hrow
    rw [hr1] at hcn m1
    rw [hx] at hidr
    have HR1 := Lib.hid hr1
    have HX := Lib.hid hx
    have HID := Lib.hid hidr
    have HROW := Lib.hid hrow
    have HCN := Lib.hid hcn
    have HMW := Lib.hid (HM0.out.below HB6.out)
    clear hfr hnd hnF hr1 hx hidr hndq hfg hcn hrow
    refine hide_postT ?_
    intro Q3 HQ3
    by_cases hpos : 0 ≤ r1
    case pos =>
      obtain ⟨k, hk, hke, hkid⟩ := idxL_pos (L := M) (x := x) (by rw [← HROW.out]; exact hpos)
      obtain rfl : r1 = (k : Int) := by rw [HROW.out, hke]
      have hkN : (k : Int) < (N : Int) := by have := HN.out; omega
      have hcn := HCN.out
      rw [if_pos hpos] at hcn
      have HCN2 := Lib.hid hcn
      obtain ⟨xg, xo, ex, hxg, hxr⟩ := HMW.out.own.at_.get hk
      subst ex
      have hxi := row_id hxr
      rw [hkid] at hxi
      have HXR := Lib.hid (show ∀ w', Below W0.heap.size W0 w' → w'.rangeAt xg (xo + k * 83) (bvs x.1) from fun w' hw' => range_below hxi hxg hw')
      clear hxr hxi hxg hk hke hkid hcn
      go_wp2_with fail
      refine wp_region_seq 14 (by kernel_rfl) (by kernel_rfl) ?_
      simp only [List.take_succ_cons, List.take_zero, List.drop_succ_cons, List.drop_zero]
      obtain ⟨wd, hwd⟩ : ∃ wd, W0.drew = wd := ⟨_, rfl⟩
      have hd_wd : Below W0.heap.size W0 wd ∧ wd.heap.size = W0.heap.size := hwd ▸ ⟨(Below.refl _ _).drew, rfl⟩
      rw [hwd]
      clear hwd
      have HBd := Lib.hid (HB6.out.trans (hd_wd.1.mono HB6.out.size))
      have HXd := Lib.hid (HXR.out wd hd_wd.1)
      obtain ⟨m1, _, _⟩ := node_mid (HFR.out wd hd_wd.1)
      rw [HR1.out] at m1
      have hidd := node_id (HFR.out wd hd_wd.1)
      rw [HX.out] at hidd
      have HIDd := Lib.hid hidd
      clear hd_wd hidd
      go_wp2_with (with_reducible refine wpList_load_mid rfl 35 (.tmp 54) rfl xg (xo + k * 83) rfl (bvs x.1) _ HXd.out Try.underlying35 rfl (sizeId x) ?_; refine Stop.on ?_)
      refine Stop.go ?_
      try simp only [Act.put, List.setIfInBounds_toArray, List.set_cons_zero, List.set_cons_succ]
      go_wp2_with (with_reducible refine wpList_load_mid rfl 35 (.tmp 59) rfl fg (fo + j * 35) rfl (bvs x.1) _ HIDd.out Try.underlying35 rfl (sizeId x) ?_; refine Stop.on ?_)
      refine Stop.go ?_
      try simp only [Act.put, List.setIfInBounds_toArray, List.set_cons_zero, List.set_cons_succ]
      refine HeadPost.mk ?_
      refine wpList_runI rfl (some 61) rfl (.bool false) _ (op_neq 35 (.tmp 55) (.tmp 60) 35 rfl rfl rfl guard_Id (by have h1 := neq_Id x x wd; rw [decide_eq_true rfl] at h1; exact h1)) ?_
      try simp only [Act.put, List.setIfInBounds_toArray, List.set_cons_zero, List.set_cons_succ]
      go_wp2_with fail
      rw [HQ3.out]
      try simp only [Exit.inBlock, Exit.then]
      go_roundw
      case rel => exact ⟨j + 1, by omega, by go_num, by rw [HCN2.out]; simp, HBd⟩
      case measure => simp [intOf] <;> omega
    case neg =>
      obtain ⟨m, hm, hmp, hmr⟩ := HG.out.first j nd HNQ.out (by rw [HR1.out]; omega)
      have hjF1 : j + 1 < F.length := (List.getElem?_eq_some_iff.1 hm).1
      have hjn1 : (j : Int) + 1 < (n : Int) := by have := HFN.out; omega
      have hjne : ((j : Int) + 1 == (n : Int)) = false := by simp; omega
      have hmF : m ∈ F := List.mem_iff_getElem?.2 ⟨j + 1, hm⟩
      have hmrow := HG.out.row m hmF
      obtain ⟨k, hk, hke, hkid⟩ := idxL_pos (L := M) (x := m.id) (by rw [← hmrow]; exact hmr)
      have hkN : (k : Int) < (N : Int) := by have := HN.out; omega
      have hmk : m.row = (k : Int) := hmrow.trans hke
      have hcm : c m.id = some x := by
        rcases HG.out.ok (j + 1) m hm with ⟨h1, _⟩ | ⟨q, u, _, h2, h3, h4⟩
        · omega
        · obtain rfl : q = j := by omega
          rw [HNQ.out] at h2
          cases h2
          rw [h4, HX.out]
      have hlast := HG.out.last M[k] (List.getElem_mem hk) x (by rw [hkid]; exact hcm)
      obtain ⟨K, hK⟩ : ∃ K, M[k].refs.length = K + 1 := ⟨M[k].refs.length - 1, by
        have h1 : M[k].refs ≠ [] := fun e => by rw [e] at hlast; cases hlast
        have := List.length_pos_iff.2 h1
        omega⟩
      have hKR : K < M[k].refs.length := by omega
      have hKx : M[k].refs[K] = x := by
        rw [List.getLast?_eq_getElem?, hK, Nat.add_sub_cancel, List.getElem?_eq_getElem hKR] at hlast
        exact Option.some.inj hlast
      have hro := (HMW.out.refs M[k] (List.getElem_mem hk)).at_
      obtain ⟨ra, rc, hrv⟩ := hro.form
      rw [hrv] at hro
      obtain ⟨rg, roff, era, hrg, hrr⟩ := hro.get hKR
      subst era
      rw [hKx] at hrr
      rw [hK] at hrv hro
      obtain ⟨hz1, hrc1, hrc2, hz2⟩ := hro.len
      unfold maxLen at hrc2
      clear hz1 hz2
      obtain ⟨xg, xo, ex, hxg, hxr⟩ := HMW.out.own.at_.get hk
      subst ex
      obtain ⟨fg', fo', ef, hfg2, hfr2⟩ := (HF0.out.below HB6.out).get hjF1
      cases ef
      have hm2 : F[j + 1] = m := by rw [List.getElem?_eq_getElem hjF1] at hm; exact Option.some.inj hm
      rw [hm2] at hfr2
      have HFACT := Lib.hid (show ∀ w', Below W0.heap.size W0 w' → w'.cell? ⟨fg, fo + (j + 1) * 35 + 32, none⟩ = some (.int .i64 (k : Int)) ∧ w'.cell? ⟨fg, fo + (j + 1) * 35 + 33, none⟩ = some (.int .i64 (j : Int)) ∧ w'.cell? ⟨xg, xo + k * 83 + 50, none⟩ = some (.slice (some ⟨rg, roff, none⟩) (K + 1) rc) ∧ w'.rangeAt rg (roff + K * 32) (bvs x.1) from fun w' hw' => by
        have h1 := node_mid (show w'.rangeAt fg (fo + (j + 1) * 35) m.cells from range_below hfr2 hfg2 hw')
        have h2 := row_mid (show w'.rangeAt xg (xo + k * 83) M[k].cells from range_below hxr hxg hw')
        rw [hmk, hmp] at h1
        rw [hrv] at h2
        exact ⟨h1.1, h1.2.1, h2.2.2, range_below hrr hrg hw'⟩)
      have hcn := HCN.out
      rw [if_neg hpos, Nat.add_zero] at hcn
      have HCN2 := Lib.hid hcn
      have hr1n : r1 < 0 := by omega
      have hdge : decide (0 ≤ r1) = false := decide_eq_false hpos
      have hNr : ¬ ((N : Int) ≤ r1) := by omega
      clear hm hmp hmr hmF hmrow hke hkid hmk hcm hlast hKR hKx hro hrv hrg hrr hxg hxr hfg2 hfr2 hm2 hcn hk hK hjF1
      go_wp2_with (with_reducible refine wpList_load_mid rfl 35 (.tmp 68) rfl fg (fo + j * 35) rfl (bvs x.1) _ HID.out Try.underlying35 rfl (sizeId x) ?_; refine Stop.on ?_)
      refine Stop.go ?_
      try simp only [Act.put, List.setIfInBounds_toArray, List.set_cons_zero, List.set_cons_succ]
      go_wp2_with fail
      refine (index_any _ M x HMW.out.at_ (by rw [HN.out]; omega)).mono ?_
      rintro e Wi ⟨rfl, hbi⟩
      rw [← HROW.out]
      obtain ⟨q1, q2, q3, _⟩ := HFACT.out Wi hbi
      have HBI := Lib.hid hbi
      clear hbi
      go_wp2_with fail
      refine wp_region_seq 16 (by kernel_rfl) (by kernel_rfl) ?_
      simp only [List.take_succ_cons, List.take_zero, List.drop_succ_cons, List.drop_zero]
      obtain ⟨wd, hwd⟩ : ∃ wd, Wi.drew = wd := ⟨_, rfl⟩
      have hd_wd : Below Wi.heap.size Wi wd ∧ wd.heap.size = Wi.heap.size := hwd ▸ ⟨(Below.refl _ _).drew, rfl⟩
      rw [hwd]
      clear hwd
      have hb9 := HBI.out.trans (hd_wd.1.mono HBI.out.size)
      have HBd := Lib.hid (HB6.out.trans (hb9.mono HB6.out.size))
      have HRd := Lib.hid (HFACT.out wd hb9).2.2.2
      have hidd := node_id (HFR.out wd hb9)
      rw [HX.out] at hidd
      have HIDd := Lib.hid hidd
      clear hd_wd hidd hb9
      go_wp2_with (refine wpList_met rfl ?_; with_reducible refine wpList_load_mid rfl 35 (.tmp 116) rfl rg (roff + K * 32) rfl (bvs x.1) _ HRd.out Try.underlying35 rfl (sizeId x) ?_; refine Stop.on ?_)
      refine Stop.go ?_
      try simp only [Act.put, List.setIfInBounds_toArray, List.set_cons_zero, List.set_cons_succ]
      go_wp2_with (refine wpList_met rfl ?_; with_reducible refine wpList_load_mid rfl 35 (.tmp 121) rfl fg (fo + j * 35) rfl (bvs x.1) _ HIDd.out Try.underlying35 rfl (sizeId x) ?_; refine Stop.on ?_)
      refine Stop.go ?_
      try simp only [Act.put, List.setIfInBounds_toArray, List.set_cons_zero, List.set_cons_succ]
      refine wpList_met rfl ?_
      refine wpList_runI rfl (some 123) rfl (.bool false) _ (op_neq 35 (.tmp 117) (.tmp 122) 35 rfl rfl rfl guard_Id (by have h1 := neq_Id x x wd; rw [decide_eq_true rfl] at h1; exact h1)) ?_
      try simp only [Act.put, List.setIfInBounds_toArray, List.set_cons_zero, List.set_cons_succ]
      go_wp2_with fail
      refine HeadPost.mk ?_
      go_wp2_with fail
      rw [HQ3.out]
      change _ ∧ _
      go_roundw
      case rel => exact ⟨j + 1, by omega, by go_num, by rw [HCN2.out]; simp, HBd⟩
      case measure => simp [intOf] <;> omega
end Go.Proofs.Ythfinofmbnfijaa
