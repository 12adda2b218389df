/- ThreadAnswers; The model's parents; ThreadParents; The model's knots; The model's grow, forest; What the check says of each node; small numbers; an element of a list of one's own is changed; Walks in a forest, plainly: chains of parents; what lies below a node. -/
import Derived.Test.YthfinofmbnfijaaTh25
import Derived.Test.YthfinofmbnfijaaTh21
import Derived.Test.YthfinofmbnfijaaTp15
namespace Go.Proofs.Ythfinofmbnfijaa
open Go.Shelf Go.RowKit Go.Lib Go.Sort
set_option linter.unusedVariables false
set_option linter.unusedSimpArgs false

set_option maxRecDepth 100000 in
set_option maxHeartbeats 2000000 in
theorem Answers_law {w : World} (v : Value) (L : List RawV) (hv : RawsAt w v L) : Calls Try.prog 6 #[v] w fun e w' => e = .returned (.bool true) ∧ Below w.heap.size w w' := by
  have HV := Lib.hid hv
  clear hv
  go_enter Try.func6, Try.ntmps6
  go_wp2_with fail
  refine (rows_any _ L HV.out).mono ?_
  rintro e Wa ⟨xv, M, rfl, ho, ht, hb⟩
  obtain ⟨hN14, hnd⟩ := rows_facts ht
  obtain ⟨xa, xc, rfl⟩ := ho.own.form
  obtain ⟨N, hN⟩ : ∃ N, M.length = N := ⟨_, rfl⟩
  rw [hN] at ho hN14 ⊢
  have HM := Lib.hid ho
  have HN := Lib.hid hN
  have HND := Lib.hid hnd
  have HBA := Lib.hid hb
  clear ho ht hN hb hnd
  go_wp2_with fail
  refine (acyclic_any _ M HM.out.at_ HND.out (by rw [HN.out]; omega)).mono ?_
  rintro e Wy ⟨b, rfl, hac, hb⟩
  have HM := Lib.hid (HM.out.below hb)
  have HBA := Lib.hid (HBA.out.trans (hb.mono HBA.out.size))
  have HAC := Lib.hid hac
  clear hac hb
  cases b with
  | false =>
    have HB0 := HBA
    go_wp2_with fail
    refine known_any.mono ?_
    rintro e Wk ⟨rfl, hb⟩
    have HB0 := Lib.hid (HB0.out.trans (hb.mono HB0.out.size))
    clear hb
    go_wp2_with fail
    exact bodyPost_ret (v := .bool true) (by simp [results, Try.results6, go_sem]) rfl ⟨rfl, HB0.out⟩
  | true =>
    go_wp2_with fail
    refine (Build_any _ M HM.out.at_ (by rw [HN.out]; omega)).mono ?_
    rintro e Wf (⟨hno, _⟩ | ⟨hnd2, fv, c, rfl, hc1, hof, hb⟩)
    case inl => exact absurd HND.out hno
    have hgood := good hnd2 hc1
    obtain ⟨F, hF⟩ : ∃ F, forestV M c = F := ⟨_, rfl⟩
    rw [hF] at hof hgood
    have hFl : F.length ≤ 28 := by
      rw [← hF, forestV_eq hnd2]
      unfold forestS
      refine Nat.le_trans (forL_len (cut_acyclic hc1) (pls_nodup hnd2 c) _ _) ?_
      have := pls_len M c
      have h2 := HN.out
      omega
    obtain ⟨fa, fc, rfl⟩ := hof.form
    obtain ⟨n, hn⟩ : ∃ n, F.length = n := ⟨_, rfl⟩
    rw [hn] at hof hFl ⊢
    obtain ⟨hz1, hnfc, hfcm, hz2⟩ := hof.at_.len
    unfold maxLen at hfcm
    have HG := Lib.hid hgood
    have HC1 := Lib.hid hc1
    have HFE := Lib.hid hF
    have HFN := Lib.hid hn
    have HF0 := Lib.hid hof.at_
    have HM0 := Lib.hid (HM.out.below hb)
    have HB0 := Lib.hid (HBA.out.trans (hb.mono HBA.out.size))
    clear hc1 hof hb hnd2 hgood hF hn hz1 hz2 HM HBA
    have HCP := Lib.hid (show c = parP M from cut_none HC1.out (HAC.out.1 (by simp)))
    clear HAC
    go_wp2_with fail
    refine known_any.mono ?_
    rintro e Wk ⟨rfl, hb⟩
    have HF0 := Lib.hid (HF0.out.below hb)
    have HM0 := Lib.hid (HM0.out.below hb)
    have HB0 := Lib.hid (HB0.out.trans (hb.mono HB0.out.size))
    clear hb
    go_wp2_with fail
    refine (check_any _ F HF0.out (by rw [HFN.out]; omega)).mono ?_
    rintro e Wc ⟨rfl, hb⟩
    rw [HG.out.check]
    have HF0 := Lib.hid (HF0.out.below hb)
    have HM0 := Lib.hid (HM0.out.below hb)
    have HB0 := Lib.hid (HB0.out.trans (hb.mono HB0.out.size))
    clear hb
    go_wp2_with fail
    have HK0 := Lib.hid (Below.refl Wc.heap.size Wc)
    go_loopw [6, 7] (fun iv rv wr => ∃ j : Nat, j ≤ n ∧ iv = .int .i64 (j : Int) ∧ Hid (Below Wc.heap.size Wc wr)) (fun iv _ _ => n - (intOf iv).toNat)
    case atStart => exact ⟨0, Nat.zero_le _, rfl, HK0⟩
    case round =>
      obtain ⟨j, hj, rfl, HB6⟩ := hrel
      obtain ⟨W0, rfl⟩ : ∃ W0, W0 = wr := ⟨_, rfl⟩
      clear HK0
      have HBE := Lib.hid (HB0.out.trans (HB6.out.mono HB0.out.size))
      by_cases hlt : j < n
      case neg =>
        obtain rfl : j = n := by omega
        go_wp2_with fail
        exact bodyPost_ret (v := .bool true) (by simp [results, Try.results6, go_sem]) rfl ⟨rfl, HBE.out⟩
      have hjI : (j : Int) < (n : Int) := by omega
      have hjF : j < F.length := by rw [HFN.out]; exact hlt
      obtain ⟨fg, fo, ef, hfg, hfr⟩ := (HF0.out.below HB6.out).get hjF
      subst ef
      obtain ⟨nd, hnd⟩ : ∃ nd, F[j] = nd := ⟨_, rfl⟩
      have hndq : F[j]? = some nd := by rw [List.getElem?_eq_getElem hjF, hnd]
      have hnF : nd ∈ F := hnd ▸ List.getElem_mem hjF
      have hrow := HG.out.row nd hnF
      rw [hnd] at hfr
      have HFR := Lib.hid (show ∀ w', Below W0.heap.size W0 w' → w'.rangeAt fg (fo + j * 35) nd.cells from fun w' hw' => range_below hfr hfg hw')
      have HNQ := Lib.hid hndq
      obtain ⟨m1, m2, _⟩ := node_mid (HFR.out W0 (Below.refl _ _))
      obtain ⟨r1, hr1⟩ : ∃ r, nd.row = r := ⟨_, rfl⟩
      obtain ⟨p1, hp1⟩ : ∃ p, nd.parent = p := ⟨_, rfl⟩
      rw [hr1] at hrow m1
      rw [hp1] at m2
      have HP1 := Lib.hid hp1
      have HROW := Lib.hid hrow
      have HMW := Lib.hid (HM0.out.below HB6.out)
      have HFG := Lib.hid hfg
      clear hfr hnd hnF hr1 hp1 hndq hfg hrow
      by_cases hpos : r1 < 0
      case pos =>
        have hrd : decide (r1 < 0) = true := decide_eq_true hpos
        go_wp2_with fail
        go_roundw
        case rel => exact ⟨j + 1, by omega, by go_num, HB6⟩
        case measure => simp [intOf] <;> omega
      have hrd : decide (r1 < 0) = false := decide_eq_false hpos
      obtain ⟨k, hk, hke, hkid⟩ := idxL_pos (L := M) (x := nd.id) (by rw [← HROW.out]; omega)
      obtain rfl : r1 = (k : Int) := by rw [HROW.out, hke]
      have hkN : (k : Int) < (N : Int) := by have := HN.out; omega
      obtain ⟨xg, xo, ex, hxg, hxr⟩ := HMW.out.own.at_.get hk
      subst ex
      have hcid : c nd.id = M[k].refs.getLast? := by rw [HCP.out, ← hkid, parP_art HND.out hk]
      have hro := (HMW.out.refs M[k] (List.getElem_mem hk)).at_
      obtain ⟨ra, rc, hrv⟩ := hro.form
      have hxm := (row_mid (show W0.rangeAt xg (xo + k * 83) M[k].cells from hxr)).2.2
      rw [hrv] at hro hxm
      obtain ⟨K, hK⟩ : ∃ K, M[k].refs.length = K := ⟨_, rfl⟩
      rw [hK] at hro hxm
      obtain ⟨hz1, hrc1, hrc2, hz2⟩ := hro.len
      unfold maxLen at hrc2
      have HOK := Lib.hid (HG.out.ok j nd HNQ.out)
      clear hz1 hz2 hxr hxg hke hkid hrv
      cases K with
      | zero =>
        have hcn : c nd.id = none := by rw [hcid, List.getLast?_eq_none_iff]; exact List.eq_nil_of_length_eq_zero hK
        have hpv : p1 = -1 := by
          rcases HOK.out with ⟨h1, _⟩ | ⟨q, m, _, _, _, h4⟩
          · rw [← HP1.out, h1]
          · rw [hcn] at h4; cases h4
        subst hpv
        clear hcn hcid hK hro
        go_wp2_with fail
        go_roundw
        case rel => exact ⟨j + 1, by omega, by go_num, HB6⟩
        case measure => simp [intOf] <;> omega
      | succ K =>
        have hKR : K < M[k].refs.length := by omega
        obtain ⟨rg, roff, era, hrg, hrr⟩ := hro.get hKR
        subst era
        obtain ⟨x, hx⟩ : ∃ x, M[k].refs[K] = x := ⟨_, rfl⟩
        rw [hx] at hrr
        have hcs : c nd.id = some x := by rw [hcid, List.getLast?_eq_getElem?, hK, Nat.add_sub_cancel, List.getElem?_eq_getElem hKR, hx]
        obtain ⟨q, m, hqj, hqm, hpq, hqc⟩ : ∃ (q : Nat) (m : NodeV), q < j ∧ F[q]? = some m ∧ p1 = (q : Int) ∧ m.id = x := by
          rcases HOK.out with ⟨_, h1⟩ | ⟨q, m, h1, h2, h3, h4⟩
          · rw [hcs] at h1; cases h1
          · exact ⟨q, m, h1, h2, HP1.out ▸ h3, Option.some.inj (h4.symm.trans hcs)⟩
        subst hpq
        have hqF : q < F.length := (List.getElem?_eq_some_iff.1 hqm).1
        have hqn : (q : Int) < (n : Int) := by have := HFN.out; omega
        obtain ⟨fg', fo', ef, hfg2, hfr2⟩ := (HF0.out.below HB6.out).get hqF
        cases ef
        have hq2 : F[q] = m := by rw [List.getElem?_eq_getElem hqF] at hqm; exact Option.some.inj hqm
        rw [hq2] at hfr2
        have hq3 := node_id (show W0.rangeAt fg (fo + q * 35) m.cells from hfr2)
        rw [hqc] at hq3
        have HQR := Lib.hid (show ∀ w', Below W0.heap.size W0 w' → w'.rangeAt fg (fo + q * 35) (bvs x.1) from fun w' hw' => range_below hq3 hfg2 hw')
        have HRR := Lib.hid (show ∀ w', Below W0.heap.size W0 w' → w'.rangeAt rg (roff + K * 32) (bvs x.1) from fun w' hw' => range_below hrr hrg hw')
        clear hq3 hq2 hfr2 hfg2 hqc hqm hqF hrr hrg hx hcs hcid hK hKR hro
        go_wp2_with fail
        refine wp_region_seq 23 (by kernel_rfl) (by kernel_rfl) ?_
        simp only [List.take_succ_cons, List.take_zero, List.drop_succ_cons, List.drop_zero]
        obtain ⟨wd, hwd⟩ : ∃ wd, W0.drew = wd := ⟨_, rfl⟩
        have hd_wd : Below W0.heap.size W0 wd ∧ wd.heap.size = W0.heap.size := hwd ▸ ⟨(Below.refl _ _).drew, rfl⟩
        rw [hwd]
        clear hwd
        obtain ⟨_, m2, _⟩ := node_mid (HFR.out wd hd_wd.1)
        rw [HP1.out] at m2
        have HQd := Lib.hid (HQR.out wd hd_wd.1)
        have HRd := Lib.hid (HRR.out wd hd_wd.1)
        have HBd := Lib.hid (HB6.out.trans (hd_wd.1.mono HB6.out.size))
        clear hd_wd
        go_wp2_with (refine wpList_met rfl ?_; with_reducible refine wpList_load_mid rfl 35 (.tmp 74) rfl fg (fo + q * 35) rfl (bvs x.1) _ HQd.out Try.underlying35 rfl (sizeId x) ?_; refine Stop.on ?_)
        refine Stop.go ?_
        try simp only [Act.put, List.setIfInBounds_toArray, List.set_cons_zero, List.set_cons_succ]
        go_wp2_with (refine wpList_met rfl ?_; with_reducible refine wpList_load_mid rfl 35 (.tmp 80) rfl rg (roff + K * 32) rfl (bvs x.1) _ HRd.out Try.underlying35 rfl (sizeId x) ?_; refine Stop.on ?_)
        refine Stop.go ?_
        try simp only [Act.put, List.setIfInBounds_toArray, List.set_cons_zero, List.set_cons_succ]
        refine wpList_met rfl ?_
        refine wpList_runI rfl (some 82) rfl (.bool false) _ (op_neq 35 (.tmp 75) (.tmp 81) 35 rfl rfl rfl guard_Id (by have h1 := neq_Id x x wd; rw [decide_eq_true rfl] at h1; exact h1)) ?_
        try simp only [Act.put, List.setIfInBounds_toArray, List.set_cons_zero, List.set_cons_succ]
        go_wp2_with fail
        refine HeadPost.mk ?_
        go_wp2_with fail
        go_roundw
        case rel => exact ⟨j + 1, by omega, by go_num, HBd⟩
        case measure => simp [intOf] <;> omega
end Go.Proofs.Ythfinofmbnfijaa

namespace Go.Proofs.Ythfinofmbnfijaa
open Go.Shelf Go.RowKit Go.Lib Go.Sort
set_option linter.unusedVariables false
set_option linter.unusedSimpArgs false

theorem OwnL.addr {P : Program} {sT T : TypeId} {α : Type} {E : ElemTy P sT T α} {w : World} {B n c : Nat} {a : Option Addr} {L : List α} (h : OwnL E w B (.slice a n c) L) (hn : 0 < n) : ∃ g, a = some ⟨g, 0, none⟩ := by
  have hh : w.ownsRow B T E.k (.slice a n c) L.length (L.flatMap E.enc) := h
  rcases hh.2 with ⟨e, h0⟩ | ⟨g, cap, cur, e, _⟩
  · cases e
    omega
  · cases e
    exact ⟨g, rfl⟩
theorem sizeParK : (Try.prog.info? 63).map (·.size) = some parE.k := by kernel_rfl
def ParsPost (w : World) (c : Par) (L : List RowV) (e : Ending) (w' : World) : Prop := ∃ v', e = .returned v' ∧ OwnL parE w' w.heap.size v' (cutL c L) ∧ Below w.heap.size w w'
set_option maxRecDepth 100000 in
set_option maxHeartbeats 2000000 in
theorem parents_any {w : World} (v : Value) (L : List RowV) (c : Par) (hc : IsCut (parP L) (arrS L) c) (hv : RowsAt w v L) (hn : (L.map (·.id)).Nodup) (hl : L.length < 1000000) :
    Calls Try.prog 29 #[v] w (ParsPost w c L) := by
  obtain ⟨va, vc, rfl⟩ := hv.l.form
  have HLL := Lib.hid hl
  obtain ⟨N, hN⟩ : ∃ N, L.length = N := ⟨_, rfl⟩
  rw [hN] at hv hl ⊢
  have HN := Lib.hid hN
  have HND := Lib.hid hn
  have HV := Lib.hid hv
  have HC := Lib.hid hc
  clear hv hN hn hc
  go_enter Try.func29, Try.ntmps29
  go_wp2_with fail
  refine (direct_any _ L HV.out HLL.out).mono ?_
  rintro e Wd ⟨dv, rfl, hod, hbd⟩
  have hdl : (dirL L).length = N := by unfold dirL; rw [List.length_map, HN.out]
  obtain ⟨da, dc, rfl⟩ := hod.form
  rw [hdl] at hod ⊢
  obtain ⟨B, hB⟩ : ∃ B, Wd.heap.size = B := ⟨_, rfl⟩
  have HDL := Lib.hid hdl
  have HU := Lib.hid hod.at_
  have HVd := Lib.hid (HV.out.below hbd)
  have HBd := Lib.hid hbd
  have HBB := Lib.hid hB
  clear hod hbd hdl hB
  go_wp2_with (refine wpList_lit0 parE rfl (some 11) rfl rfl ?_; refine Stop.on ?_)
  refine Stop.go ?_
  try simp only [Act.put, List.setIfInBounds_toArray, List.set_cons_zero, List.set_cons_succ]
  intro Wl xl bl
  try simp only [Act.put, List.setIfInBounds_toArray, List.set_cons_zero, List.set_cons_succ]
  rw [HBB.out] at xl bl ⊢
  have HOl := Lib.hid xl
  have HUl := Lib.hid (HU.out.below (by rw [HBB.out]; exact bl))
  have HBl := Lib.hid bl
  have HBs := Lib.hid (show B ≤ Wl.heap.size by have := bl.size; have := HBB.out; omega)
  clear xl bl
  go_wp2_with (refine wpList_appL parE rfl (.tmp 11) (.tmp 12) rfl rfl HOl.out rfl HUl.out (n := 0) (m := N) rfl HDL.out (by omega) HBs.out ?_; refine Stop.on ?_)
  refine Stop.go ?_
  try simp only [Act.put, List.setIfInBounds_toArray, List.set_cons_zero, List.set_cons_succ]
  intro a5 c5 W5 ho5 hg5 hat5
  try simp only [Act.put, List.setIfInBounds_toArray, List.set_cons_zero, List.set_cons_succ]
  try rw [Nat.zero_add] at ho5 ⊢
  have HO0 := Lib.hid (show OwnL parE W5 B (.slice a5 N c5) (mixL c L 0) by rw [mixL_zero]; exact ho5)
  have HB0 := Lib.hid (HBl.out.trans (HOl.out.grown_below hg5 HBs.out))
  clear ho5 hg5 hat5 HOl HUl HBl HBs
  go_wp2_with fail
  go_loopw [5, 6, 7, 8] (fun iv cv lv kv wr => ∃ i : Nat, i ≤ N ∧ iv = .int .i64 (i : Int) ∧ Hid (OwnL parE wr B (.slice a5 N c5) (mixL c L i)) ∧ Hid (Below B Wd wr)) (fun iv _ _ _ _ => N - (intOf iv).toNat)
  case atStart => exact ⟨0, Nat.zero_le _, rfl, HO0, HB0⟩
  case round =>
    obtain ⟨i, hi, rfl, HO, HB⟩ := hrel
    obtain ⟨W0, rfl⟩ : ∃ W0, W0 = wr := ⟨_, rfl⟩
    clear HO0 HB0
    have HB' := Lib.hid (show Below Wd.heap.size Wd W0 by rw [HBB.out]; exact HB.out)
    by_cases hlt : i < N
    case neg =>
      obtain rfl : i = N := by omega
      have HF := Lib.hid (show OwnL parE W0 w.heap.size (.slice a5 i c5) (cutL c L) by
        have h1 := HO.out
        rw [← HN.out, mixL_all, HN.out] at h1
        exact h1.base (by have := HBd.out.size; have := HBB.out; omega))
      have HBE := Lib.hid (HBd.out.trans (HB'.out.mono HBd.out.size))
      go_wp2_with fail
      exact bodyPost_ret (v := .slice a5 i c5) (by simp [results, Try.results29, go_sem]) rfl ⟨_, rfl, HF.out, HBE.out⟩
    have hiL : i < L.length := by rw [HN.out]; exact hlt
    have hiN : (i : Int) < (N : Int) := by omega
    go_wp2_with fail
    refine (cycle_any _ _ L (HVd.out.below HB'.out) (HU.out.below HB'.out) HND.out HLL.out i hiL).mono ?_
    rintro e Wc ⟨cv, C, rfl, hoc, hcy, hbc⟩
    obtain ⟨ca, cc, rfl⟩ := hoc.form
    obtain ⟨cn, hcn⟩ : ∃ cn, C.length = cn := ⟨_, rfl⟩
    rw [hcn] at hoc ⊢
    have hcl : cn ≤ 3 * N + 3 := by have := hcy.len; have := HN.out; omega
    have HCA := Lib.hid hoc.at_
    have HCN := Lib.hid hcn
    have HCY := Lib.hid hcy
    have HOc := Lib.hid (HO.out.below hbc)
    have HBc := Lib.hid (HB'.out.trans (hbc.mono HB'.out.size))
    have HVc := Lib.hid ((HVd.out.below HB'.out).below hbc)
    clear hoc hcn hcy hbc HB' HB HO
    obtain ⟨lb0, hlb0⟩ : ∃ lb0, decide (0 < cn) = lb0 := ⟨_, rfl⟩
    have HL0 := Lib.hid (show lb0 = true ↔ LeastP L i C 0 by
      rw [LeastP.zero, ← hlb0, decide_eq_true_eq, ← List.length_pos_iff, HCN.out])
    go_wp2_with fail
    have HK0 := Lib.hid (Below.refl Wc.heap.size Wc)
    go_loopw [7, 8] (fun lv kv wr => ∃ (k : Nat) (lb : Bool), k ≤ cn ∧ kv = .int .i64 (k : Int) ∧ lv = .bool lb ∧ Hid (lb = true ↔ LeastP L i C k) ∧ Hid (Below Wc.heap.size Wc wr)) (fun _ kv _ => cn - (intOf kv).toNat)
    case atStart => exact ⟨0, lb0, Nat.zero_le _, rfl, rfl, HL0, HK0⟩
    case round =>
      obtain ⟨k, lb, hk, rfl, rfl, HL, HK⟩ := hrel
      obtain ⟨W1, rfl⟩ : ∃ W1, W1 = wr := ⟨_, rfl⟩
      clear HK0 HL0 hlb0
      by_cases hkc : k < cn
      case neg =>
        obtain rfl : k = cn := by omega
        have hnx := mixL_next HND.out HC.out hiL
        have hll : LeastP L i C k ↔ Lst (parP L) (arrS L) L[i].id := by have h := LeastP.lst HND.out hiL HCY.out; rw [HCN.out] at h; exact h
        have HO1 := Lib.hid (HOc.out.below HK.out)
        have HB1 := Lib.hid (HBc.out.trans (HK.out.mono HBc.out.size))
        cases lb with
        | false =>
          have hno : ¬ LeastP L i C k := fun h => by have h1 := HL.out.2 h; simp at h1
          have hmx := hnx.2 (fun h => hno (hll.2 h))
          have HON := Lib.hid (show OwnL parE W1 B (.slice a5 N c5) (mixL c L (i + 1)) by rw [hmx]; exact HO1.out)
          have HBN := Lib.hid (show Below B Wd W1 by have := HB1.out; rw [HBB.out] at this; exact this)
          clear hnx hll hno hmx
          go_wp2_with fail
          go_roundw
          case rel => exact ⟨i + 1, by omega, by go_num, HON, HBN⟩
          case measure => simp [intOf] <;> omega
        | true =>
          have hmx := hnx.1 (hll.1 (HL.out.1 rfl))
          obtain ⟨g5, rfl⟩ := HO1.out.addr (by omega)
          have HMX := Lib.hid hmx
          have HIM := Lib.hid (show i < (mixL c L i).length by rw [mixL_len c L (by omega)]; exact hiL)
          have hB5 : B ≤ g5 := (HO1.out.lt (k := g5) rfl).1
          clear hnx hll hmx
          go_wp2_with (refine wpList_buildV rfl (some 52) rfl 63 _ rfl [] rfl (.agg (pvC none).toArray) (build_par0 _) ?_; refine Stop.on ?_)
          refine Stop.go ?_
          try simp only [Act.put, List.setIfInBounds_toArray, List.set_cons_zero, List.set_cons_succ]
          go_wp2_with (refine wpList_setL rfl rfl (.tmp 53) (.tmp 52) rfl HO1.out i HIM.out none rfl rfl sizeParK ?_; refine Stop.on ?_)
          refine Stop.go ?_
          try simp only [Act.put, List.setIfInBounds_toArray, List.set_cons_zero, List.set_cons_succ]
          intro W9 x9 c9 s9
          try simp only [Act.put, List.setIfInBounds_toArray, List.set_cons_zero, List.set_cons_succ]
          have HON := Lib.hid (show OwnL parE W9 B (.slice (some ⟨g5, 0, none⟩) N c5) (mixL c L (i + 1)) by rw [HMX.out]; exact x9)
          have HBN := Lib.hid (show Below B Wd W9 by
            have h1 := HB1.out.trans (c9.below (B := Wd.heap.size) (fun k e => by have := HBB.out; omega) HB1.out.size)
            rw [HBB.out] at h1
            exact h1)
          clear x9 c9 s9
          go_wp2_with fail
          go_roundw
          case rel => exact ⟨i + 1, by omega, by go_num, HON, HBN⟩
          case measure => simp [intOf] <;> omega
      have hkC : k < C.length := by rw [HCN.out]; exact hkc
      have hkcI : (k : Int) < (cn : Int) := by omega
      obtain ⟨j, hj⟩ : ∃ j, C[k] = j := ⟨_, rfl⟩
      have hjL : j < L.length := by rw [← hj]; exact HCY.out.lt hiL _ (List.getElem_mem hkC)
      have hjN : (j : Int) < (N : Int) := by have := HN.out; omega
      have HNX := Lib.hid (show LeastP L i C (k + 1) ↔ LeastP L i C k ∧ cmpT L[i].tw L[j].tw ≤ 0 by
        have h := LeastP.next (L := L) (C := C) hiL hkC (by rw [hj]; exact hjL)
        simp only [hj] at h
        exact h)
      obtain ⟨gc, oc, ec, hgc, hrc⟩ := (HCA.out.below HK.out).get hkC
      subst ec
      have hcell : W1.cell? ⟨gc, oc + k * 1 + 0, none⟩ = some (.int .i64 ((C[k] : Nat) : Int)) := hrc 0 _ rfl
      rw [hj, Nat.mul_one, Nat.add_zero] at hcell
      have HCE := Lib.hid (show ∀ w', Below W1.heap.size W1 w' → w'.cell? ⟨gc, oc + k, none⟩ = some (.int .i64 (j : Int)) from fun w' hw' => (hw'.cell (p := ⟨gc, oc + k, none⟩) hgc).trans hcell)
      have hvk := HVc.out.below HK.out
      obtain ⟨g1, o1, e1, hg1, hr1⟩ := hvk.l.get hiL
      subst e1
      obtain ⟨g1', o1', e1', _, hr2⟩ := hvk.l.get hjL
      cases e1'
      have HR1 := Lib.hid (show ∀ w', Below W1.heap.size W1 w' → w'.rangeAt g1 (o1 + i * 83) L[i].cells ∧ w'.rangeAt g1 (o1 + j * 83) L[j].cells from fun w' hw' => ⟨range_below hr1 hg1 hw', range_below hr2 hg1 hw'⟩)
      clear hj hrc hgc hcell hvk hg1 hr1 hr2 hkC
      go_wp2_with fail
      refine wp_region_seq 13 (by kernel_rfl) (by kernel_rfl) ?_
      simp only [List.take_succ_cons, List.take_zero, List.drop_succ_cons, List.drop_zero]
      obtain ⟨wd, hwd⟩ : ∃ wd, W1.drew = wd := ⟨_, rfl⟩
      have hd_wd : Below W1.heap.size W1 wd ∧ wd.heap.size = W1.heap.size := hwd ▸ ⟨(Below.refl _ _).drew, rfl⟩
      rw [hwd]
      clear hwd
      have hcell := HCE.out wd hd_wd.1
      have HRI := Lib.hid (HR1.out wd hd_wd.1).1
      have HRJ := Lib.hid (HR1.out wd hd_wd.1).2
      have HKd := Lib.hid (HK.out.trans (hd_wd.1.mono HK.out.size))
      clear hd_wd
      cases lb with
      | false =>
        have HLN := Lib.hid (show false = true ↔ LeastP L i C (k + 1) by rw [HNX.out, ← HL.out]; simp)
        go_wp2_with fail
        refine HeadPost.mk ?_
        go_wp2_with fail
        go_roundw
        case rel => exact ⟨k + 1, false, by omega, by go_num, rfl, HLN, HKd⟩
        case measure => simp [intOf] <;> omega
      | true =>
        go_wp2_with (refine wpList_met rfl ?_; with_reducible refine wpList_load_mid rfl 43 (.tmp 37) rfl g1 (o1 + i * 83) rfl L[i].cells _ HRI.out Try.underlying43 rfl (sizeRow L[i]) ?_; refine Stop.on ?_)
        refine Stop.go ?_
        try simp only [Act.put, List.setIfInBounds_toArray, List.set_cons_zero, List.set_cons_succ]
        go_wp2_with (refine wpList_met rfl ?_; with_reducible refine wpList_load_mid rfl 43 (.tmp 44) rfl g1 (o1 + j * 83) rfl L[j].cells _ HRJ.out Try.underlying43 rfl (sizeRow L[j]) ?_; refine Stop.on ?_)
        refine Stop.go ?_
        try simp only [Act.put, List.setIfInBounds_toArray, List.set_cons_zero, List.set_cons_succ]
        refine HeadPost.mk ?_
        obtain ⟨cv, hcv⟩ : ∃ cv, cmpT L[i].tw L[j].tw = cv := ⟨_, rfl⟩
        go_wp2_with fail
        refine (ordRow L[i] L[j] _).mono ?_
        rintro e We ⟨rfl, q9, os9, rfl⟩
        obtain ⟨W9, hW9⟩ : ∃ W9, grow (wd.drewN q9) os9 = W9 := ⟨_, rfl⟩
        have hb9 := grow_below wd q9 os9
        rw [hW9] at hb9 ⊢
        rw [hcv]
        have HKe := Lib.hid (HKd.out.trans (hb9.mono HKd.out.size))
        obtain ⟨lb2, hlb2⟩ : ∃ lb2, decide (cv ≤ 0) = lb2 := ⟨_, rfl⟩
        have HLN := Lib.hid (show lb2 = true ↔ LeastP L i C (k + 1) by
          rw [HNX.out, ← HL.out, ← hlb2, decide_eq_true_eq, hcv]
          simp)
        clear hb9 hW9 hcv
        go_wp2_with fail
        go_roundw
        case rel => exact ⟨k + 1, lb2, by omega, by go_num, rfl, HLN, HKe⟩
        case measure => simp [intOf] <;> omega
set_option maxRecDepth 100000 in
set_option maxHeartbeats 2000000 in
theorem Parents_law {w : World} (v : Value) (L : List RawV) (hv : RawsAt w v L) : Calls Try.prog 11 #[v] w fun e w' => e = .returned (.bool true) ∧ Below w.heap.size w w' := by
  have HV := Lib.hid hv
  clear hv
  go_enter Try.func11, Try.ntmps11
  go_wp2_with fail
  refine (rows_any _ L HV.out).mono ?_
  rintro e Wa ⟨xv, M, rfl, ho, ht, hb⟩
  obtain ⟨hN14, hnd⟩ := rows_facts ht
  obtain ⟨xa, xc, rfl⟩ := ho.own.form
  obtain ⟨N, hN⟩ : ∃ N, M.length = N := ⟨_, rfl⟩
  rw [hN] at ho hN14 ⊢
  have HM := Lib.hid ho
  have HN := Lib.hid hN
  have HND := Lib.hid hnd
  have HBA := Lib.hid hb
  clear ho ht hN hb hnd
  go_wp2_with fail
  refine (Parents_any _ M HM.out.at_ (by rw [HN.out]; omega)).mono ?_
  rintro e Wp hpp
  rcases hpp with ⟨hno, _⟩ | ⟨hnd2, pv, c, rfl, hc1, hop, hb⟩
  case inl => exact absurd HND.out hno
  have hpl : (parL c M).length = N := by unfold parL; rw [List.length_map, HN.out]
  obtain ⟨pa, pc, rfl⟩ := hop.form
  rw [hpl] at hop ⊢
  obtain ⟨hz1, hpc, hpm, hz2⟩ := hop.at_.len
  unfold maxLen at hpm
  have HPL := Lib.hid hpl
  have HP0 := Lib.hid hop.at_
  have HC1 := Lib.hid hc1
  have HM0 := Lib.hid (HM.out.below hb)
  have HB0 := Lib.hid (HBA.out.trans (hb.mono HBA.out.size))
  clear hc1 hop hb hnd2 hpl hz1 hz2 HM HBA
  go_wp2_with fail
  refine known_any.mono ?_
  rintro e Wk ⟨rfl, hb⟩
  have HP0 := Lib.hid (HP0.out.below hb)
  have HM0 := Lib.hid (HM0.out.below hb)
  have HB0 := Lib.hid (HB0.out.trans (hb.mono HB0.out.size))
  clear hb
  have hNN : ((N : Int) != (N : Int)) = false := by simp
  go_wp2_with fail
  refine (parents_any _ M c HC1.out HM0.out.at_ HND.out (by rw [HN.out]; omega)).mono ?_
  rintro e Wu ⟨uv, rfl, hou, hb⟩
  have hul : (cutL c M).length = N := by unfold cutL; rw [List.length_map, HN.out]
  obtain ⟨ua, uc, rfl⟩ := hou.form
  rw [hul] at hou ⊢
  have HUL := Lib.hid hul
  have HU0 := Lib.hid hou.at_
  have HP0 := Lib.hid (HP0.out.below hb)
  have HB0 := Lib.hid (HB0.out.trans (hb.mono HB0.out.size))
  have HK0 := Lib.hid (Below.refl Wu.heap.size Wu)
  clear hou hb hul
  go_wp2_with fail
  go_loopw [7] (fun iv wr => ∃ j : Nat, j ≤ N ∧ iv = .int .i64 (j : Int) ∧ Hid (Below Wu.heap.size Wu wr)) (fun iv _ => N - (intOf iv).toNat)
  case atStart => exact ⟨0, Nat.zero_le _, rfl, HK0⟩
  case round =>
    obtain ⟨j, hj, rfl, HB6⟩ := hrel
    obtain ⟨W0, rfl⟩ : ∃ W0, W0 = wr := ⟨_, rfl⟩
    clear HK0
    have HBE := Lib.hid (HB0.out.trans (HB6.out.mono HB0.out.size))
    by_cases hlt : j < N
    case neg =>
      obtain rfl : j = N := by omega
      go_wp2_with fail
      exact bodyPost_ret (v := .bool true) (by simp [results, Try.results11, go_sem]) rfl ⟨rfl, HBE.out⟩
    have hjI : (j : Int) < (N : Int) := by omega
    obtain ⟨g1, o1, e1, hg1, hr1⟩ := (HP0.out.below HB6.out).get (i := j) (by rw [HPL.out]; exact hlt)
    subst e1
    obtain ⟨g2, o2, e2, hg2, hr2⟩ := (HU0.out.below HB6.out).get (i := j) (by rw [HUL.out]; exact hlt)
    subst e2
    have hjM : j < M.length := by rw [HN.out]; exact hlt
    obtain ⟨x, hx⟩ : ∃ x, (c M[j].id).getD z32 = x := ⟨_, rfl⟩
    have ha : (parL c M)[j]'(by rw [HPL.out]; exact hlt) = x := by unfold parL; rw [List.getElem_map, hx]
    have hb : (cutL c M)[j]'(by rw [HUL.out]; exact hlt) = c M[j].id := by unfold cutL; rw [List.getElem_map]
    rw [ha] at hr1
    rw [hb] at hr2
    have HQ := Lib.hid (show ∀ w', Below W0.heap.size W0 w' → w'.rangeAt g1 (o1 + j * 32) (bvs x.1) ∧ w'.rangeAt g2 (o2 + j * 33 + 1) (bvs x.1) from fun w' hw' => ⟨range_below hr1 hg1 hw', by
      rw [← hx]
      exact (par_cells (range_below (show W0.rangeAt g2 (o2 + j * 33) (pvC (c M[j].id)) from hr2) hg2 hw')).2⟩)
    clear hr1 hr2 hg1 hg2 hx ha hb hjM
    go_wp2_with fail
    refine wp_region_seq 9 (by kernel_rfl) (by kernel_rfl) ?_
    simp only [List.take_succ_cons, List.take_zero, List.drop_succ_cons, List.drop_zero]
    obtain ⟨wd, hwd⟩ : ∃ wd, W0.drew = wd := ⟨_, rfl⟩
    have hd_wd : Below W0.heap.size W0 wd ∧ wd.heap.size = W0.heap.size := hwd ▸ ⟨(Below.refl _ _).drew, rfl⟩
    rw [hwd]
    clear hwd
    have HQ1 := Lib.hid (HQ.out wd hd_wd.1).1
    have HQ2 := Lib.hid (HQ.out wd hd_wd.1).2
    have HBd := Lib.hid (HB6.out.trans (hd_wd.1.mono HB6.out.size))
    clear hd_wd
    go_wp2_with (with_reducible refine wpList_load_mid rfl 35 (.tmp 38) rfl g1 (o1 + j * 32) rfl (bvs x.1) _ HQ1.out Try.underlying35 rfl (sizeId x) ?_; refine Stop.on ?_)
    refine Stop.go ?_
    try simp only [Act.put, List.setIfInBounds_toArray, List.set_cons_zero, List.set_cons_succ]
    go_wp2_with (with_reducible refine wpList_load_mid rfl 35 (.tmp 43) rfl g2 (o2 + j * 33 + 1) rfl (bvs x.1) _ HQ2.out Try.underlying35 rfl (sizeId x) ?_; refine Stop.on ?_)
    refine Stop.go ?_
    try simp only [Act.put, List.setIfInBounds_toArray, List.set_cons_zero, List.set_cons_succ]
    refine HeadPost.mk ?_
    refine wpList_runI rfl (some 45) rfl (.bool false) _ (op_neq 35 (.tmp 39) (.tmp 44) 35 rfl rfl rfl guard_Id (by have h1 := neq_Id x x wd; rw [decide_eq_true rfl] at h1; exact h1)) ?_
    try simp only [Act.put, List.setIfInBounds_toArray, List.set_cons_zero, List.set_cons_succ]
    go_wp2_with fail
    go_roundw
    case rel => exact ⟨j + 1, by omega, by go_num, HBd⟩
    case measure => simp [intOf] <;> omega
end Go.Proofs.Ythfinofmbnfijaa

namespace Go.Proofs.Ythfinofmbnfijaa
open Go.Shelf Go.RowKit Go.Lib Go.Sort
set_option linter.unusedVariables false
set_option linter.unusedSimpArgs false

def KnV.cells (k : KnV) : List Value := bvs k.id.1 ++ (Value.int .i64 k.row :: (k.place.cells ++ pvC k.up))
theorem pvC_len (u : Option IdB) : (pvC u).length = 33 := parE.len u
theorem KnV.cells_length (k : KnV) : k.cells.length = 149 := by
  unfold KnV.cells
  rw [List.length_append, bvs_length, k.id.2, List.length_cons, List.length_append, k.place.cells_length, pvC_len]
theorem KnV.cells_one (k : KnV) : ∀ v ∈ k.cells, v.oneCell' = true := by
  intro v hv
  unfold KnV.cells at hv
  rcases List.mem_append.1 hv with h | h
  · exact bvs_oneCell v h
  · rcases List.mem_cons.1 h with rfl | h
    · rfl
    · rcases List.mem_append.1 h with h | h
      · exact k.place.cells_one v h
      · exact parE.one k.up v h
def row00 : RowV := ⟨z32, List.replicate 16 0, by simp, 0, .slice none 0 0, rfl, .slice none 0 0, rfl, z32, []⟩
def knE : ElemTy Try.prog 91 102 KnV where
  enc := KnV.cells
  k := 149
  hu := Try.underlying91
  hi := ⟨.agg (KnV.cells ⟨z32, 0, row00, none⟩).toArray, 216, by kernel_rfl, by kernel_rfl, by decide⟩
  hk := by decide
  len := KnV.cells_length
  one := KnV.cells_one
section
variable {w : World} {g off : Nat} {n : KnV}
theorem kn_sub (h : w.rangeAt g off n.cells) {o : Nat} {cs : List Value} (hs : ∀ j u, cs[j]? = some u → n.cells[o + j]? = some u) : w.rangeAt g (off + o) cs := fun j u hu => by
  have := h (o + j) u (hs j u hu)
  rwa [← Nat.add_assoc] at this
theorem kn_id (h : w.rangeAt g off n.cells) : w.rangeAt g off (bvs n.id.1) := fun j u hu => h j u (by
  unfold KnV.cells
  rw [List.getElem?_append_left (List.getElem?_eq_some_iff.1 hu).1]
  exact hu)
theorem kn_row (h : w.rangeAt g off n.cells) : w.cell? ⟨g, off + 32, none⟩ = some (.int .i64 n.row) := h 32 _ (by
  unfold KnV.cells
  rw [List.getElem?_append_right (by rw [bvs_length, n.id.2]; omega), bvs_length, n.id.2]
  rfl)
theorem kn_place (h : w.rangeAt g off n.cells) : w.rangeAt g (off + 33) n.place.cells := kn_sub h fun j u hu => by
  unfold KnV.cells
  rw [List.getElem?_append_right (by rw [bvs_length, n.id.2]; omega), bvs_length, n.id.2, show 33 + j - 32 = j + 1 by omega, List.getElem?_cons_succ, List.getElem?_append_left (List.getElem?_eq_some_iff.1 hu).1]
  exact hu
theorem kn_up (h : w.rangeAt g off n.cells) : w.rangeAt g (off + 116) (pvC n.up) := kn_sub h fun j u hu => by
  unfold KnV.cells
  rw [List.getElem?_append_right (by rw [bvs_length, n.id.2]; omega), bvs_length, n.id.2, show 116 + j - 32 = (83 + j) + 1 by omega, List.getElem?_cons_succ, List.getElem?_append_right (by rw [n.place.cells_length]; omega), n.place.cells_length, Nat.add_sub_cancel_left]
  exact hu
end
theorem list16 {l : List UInt8} (h : l.length = 16) : ∃ x0 x1 x2 x3 x4 x5 x6 x7 x8 x9 x10 x11 x12 x13 x14 x15, l = [x0, x1, x2, x3, x4, x5, x6, x7, x8, x9, x10, x11, x12, x13, x14, x15] := by
  match l, h with
  | [x0, x1, x2, x3, x4, x5, x6, x7, x8, x9, x10, x11, x12, x13, x14, x15], _ => exact ⟨x0, x1, x2, x3, x4, x5, x6, x7, x8, x9, x10, x11, x12, x13, x14, x15, rfl⟩
set_option maxRecDepth 100000 in
theorem build_kn (a : IdB) (r : Int) (R : RowV) (u : Option IdB) (w : World) : (Instr.build 102 #[(0, .agg (bvs a.1).toArray), (1, .int .i64 r), (2, .agg R.cells.toArray), (3, .agg (pvC u).toArray)]).run Try.prog w = .ok (.agg (KnV.cells ⟨a, r, R, u⟩).toArray) w := by
  obtain ⟨⟨l1, h1⟩, au, hau, d, gv, hgv, rv, hrv, ⟨l2, h2⟩, M⟩ := R
  obtain ⟨l3, h3⟩ := a
  obtain ⟨a0, a1, a2, a3, a4, a5, a6, a7, a8, a9, a10, a11, a12, a13, a14, a15, a16, a17, a18, a19, a20, a21, a22, a23, a24, a25, a26, a27, a28, a29, a30, a31, rfl⟩ := list32 h1
  obtain ⟨b0, b1, b2, b3, b4, b5, b6, b7, b8, b9, b10, b11, b12, b13, b14, b15, b16, b17, b18, b19, b20, b21, b22, b23, b24, b25, b26, b27, b28, b29, b30, b31, rfl⟩ := list32 h2
  obtain ⟨c0, c1, c2, c3, c4, c5, c6, c7, c8, c9, c10, c11, c12, c13, c14, c15, c16, c17, c18, c19, c20, c21, c22, c23, c24, c25, c26, c27, c28, c29, c30, c31, rfl⟩ := list32 h3
  obtain ⟨d0, d1, d2, d3, d4, d5, d6, d7, d8, d9, d10, d11, d12, d13, d14, d15, rfl⟩ := list16 hau
  cases u with
  | none => kernel_rfl
  | some y =>
    obtain ⟨l4, h4⟩ := y
    obtain ⟨e0, e1, e2, e3, e4, e5, e6, e7, e8, e9, e10, e11, e12, e13, e14, e15, e16, e17, e18, e19, e20, e21, e22, e23, e24, e25, e26, e27, e28, e29, e30, e31, rfl⟩ := list32 h4
    kernel_rfl
theorem sizeKnA (k : KnV) : (Try.prog.info? 102).map (·.size) = some (knE.enc k).toArray.size := by rw [List.size_toArray, show (knE.enc k).length = 149 from k.cells_length]; kernel_rfl
theorem sizeKn149 {k : KnV} : (knE.enc k).toArray.size = 149 := by rw [List.size_toArray]; exact k.cells_length
def KnotsPost (w : World) (L : List RowV) (c : Par) (e : Ending) (w' : World) : Prop := ∃ v' K, e = .returned v' ∧ OwnL knE w' w.heap.size v' K ∧ KnI L c L.length K ∧ Below w.heap.size w w'
set_option maxRecDepth 100000 in
set_option maxHeartbeats 2000000 in
theorem knots_any {w : World} (v : Value) (L : List RowV) (c : Par) (hc : IsCut (parP L) (arrS L) c) (hv : RowsAt w v L) (hn : (L.map (·.id)).Nodup) (hl : L.length < 1000000) :
    Calls Try.prog 45 #[v] w (KnotsPost w L c) := by
  obtain ⟨va, vc, rfl⟩ := hv.l.form
  have HLL := Lib.hid hl
  obtain ⟨N, hN⟩ : ∃ N, L.length = N := ⟨_, rfl⟩
  rw [hN] at hv hl ⊢
  have HN := Lib.hid hN
  have HND := Lib.hid hn
  have HV := Lib.hid hv
  have HC := Lib.hid hc
  clear hv hN hn hc
  go_enter Try.func45, Try.ntmps45
  go_wp2_with fail
  refine (parents_any _ L c HC.out HV.out HND.out HLL.out).mono ?_
  rintro e Wd ⟨uv, rfl, hou, hbd⟩
  have hul : (cutL c L).length = N := by unfold cutL; rw [List.length_map, HN.out]
  obtain ⟨ua, uc, rfl⟩ := hou.form
  rw [hul] at hou ⊢
  have HUL := Lib.hid hul
  have HU := Lib.hid hou.at_
  have HVd := Lib.hid (HV.out.below hbd)
  have HBd := Lib.hid hbd
  have HO0 := Lib.hid (ownL_nil knE Wd Wd.heap.size)
  have HI0 := Lib.hid (KnI.zero L c)
  have HB0 := Lib.hid (Below.refl Wd.heap.size Wd)
  clear hou hbd hul
  go_wp2_with fail
  go_loopw [4, 5, 6, 7] (fun ov iv nv kv wr => ∃ (i : Nat) (K : List KnV) (oa : Option Addr) (on oc : Nat), i ≤ N ∧ on ≤ 2 * i ∧ iv = .int .i64 (i : Int) ∧ ov = .slice oa on oc ∧ Hid (OwnL knE wr Wd.heap.size (.slice oa on oc) K) ∧ Hid (KnI L c i K) ∧ Hid (Below Wd.heap.size Wd wr)) (fun _ iv _ _ _ => N - (intOf iv).toNat)
  case atStart => exact ⟨0, [], none, 0, 0, Nat.zero_le _, Nat.zero_le _, rfl, rfl, HO0, HI0, HB0⟩
  case round =>
    obtain ⟨i, K, oa, on, oc, hi, hon, rfl, rfl, HO, HI, HB⟩ := hrel
    obtain ⟨W0, rfl⟩ : ∃ W0, W0 = wr := ⟨_, rfl⟩
    clear HO0 HI0 HB0
    by_cases hlt : i < N
    case neg =>
      obtain rfl : i = N := by omega
      have HF := Lib.hid (HO.out.base HBd.out.size)
      have HBE := Lib.hid (HBd.out.trans (HB.out.mono HBd.out.size))
      have HIE := Lib.hid (show KnI L c L.length K by rw [HN.out]; exact HI.out)
      go_wp2_with fail
      exact bodyPost_ret (v := .slice oa on oc) (by simp [results, Try.results45, go_sem]) rfl ⟨_, _, rfl, HF.out, HIE.out, HBE.out⟩
    have hiL : i < L.length := by rw [HN.out]; exact hlt
    have hiN : (i : Int) < (N : Int) := by omega
    have hiU : i < (cutL c L).length := by rw [HUL.out]; exact hlt
    have HON := Lib.hid (show K.length = on by obtain ⟨a', c', e⟩ := HO.out.form; cases e; rfl)
    obtain ⟨g1, o1, e1, hg1, hr1⟩ := (HVd.out.below HB.out).l.get hiL
    subst e1
    obtain ⟨g2, o2, e2, hg2, hr2⟩ := (HU.out.below HB.out).get hiU
    subst e2
    obtain ⟨u, hu⟩ : ∃ u, c L[i].id = u := ⟨_, rfl⟩
    have hcu : (cutL c L)[i] = u := by
      show (List.map (fun r => c r.id) L)[i]'(by rw [List.length_map]; exact hiL) = u
      rw [List.getElem_map, hu]
    rw [hcu] at hr2
    have HCU := Lib.hid hu
    have hg2d : g2 < Wd.heap.size := by
      obtain ⟨g', o', e', hg', _⟩ := HU.out.get hiU
      cases e'
      exact hg'
    have hg1d : g1 < Wd.heap.size := by
      obtain ⟨g', o', e', hg', _⟩ := HVd.out.l.get hiL
      cases e'
      exact hg'
    have hst : ∀ {g off : Nat} {cs : List Value}, W0.rangeAt g off cs → g < Wd.heap.size → ∀ w', Below Wd.heap.size Wd w' → w'.rangeAt g off cs := fun {g off cs} h hg w' hw' j x hx => by
      have h1 := h j x hx
      have h2 := HB.out.cell (p := ⟨g, off + j, none⟩) hg
      exact (hw'.cell (p := ⟨g, off + j, none⟩) hg).trans (h2.symm.trans h1)
    have HR1 := Lib.hid (show ∀ w', Below Wd.heap.size Wd w' → w'.rangeAt g1 (o1 + i * 83) L[i].cells from fun w' hw' => hst hr1 hg1d w' hw')
    have HR2 := Lib.hid (show ∀ w', Below Wd.heap.size Wd w' → w'.rangeAt g2 (o2 + i * 33) (pvC u) from fun w' hw' => hst hr2 hg2d w' hw')
    clear hr1 hr2 hg1 hg2 hu hcu hg1d hg2d hst
    go_wp2_with fail
    refine wp_region_noPanic ?_
    refine wp_region_H (Below Wd.heap.size Wd) (by kernel_rfl) ?_
    have hS0 : (Below Wd.heap.size Wd) W0.drew := HB.out.trans ((Below.refl W0.heap.size W0).drew.mono HB.out.size)
    have hOd := HO.out.below (Below.refl W0.heap.size W0).drew
    obtain ⟨wd, hwd⟩ : ∃ wd, W0.drew = wd := ⟨_, rfl⟩
    rw [hwd] at hS0 hOd ⊢
    clear hwd
    refine wpAnyH_takeI (i := 0) (v := ?v1) rfl (by kernel_rfl) (by kernel_rfl) (by kernel_rfl) (fun _ _ _ h => h) (yieldsIf_run rfl (fun w' hw' => ?y1)) hS0 ?_
    case y1 => first | (go_simp; rfl) | (go_simp; done) | rfl
    simp only [Act.put, List.setIfInBounds_toArray, List.set_cons_zero, List.set_cons_succ]
    refine wpAnyH_takeI (i := 1) (v := ?v2) rfl (by kernel_rfl) (by kernel_rfl) (by kernel_rfl) (fun _ _ _ h => h) (yieldsIf_run rfl (fun w' hw' => ?y2)) hS0 ?_
    case y2 => first | (go_simp; rfl) | (go_simp; done) | rfl
    simp only [Act.put, List.setIfInBounds_toArray, List.set_cons_zero, List.set_cons_succ]
    refine wpAnyH_takeI (i := 2) (v := ?v3) rfl (by kernel_rfl) (by kernel_rfl) (by kernel_rfl) (fun _ _ _ h => h) (yieldsIf_run rfl (fun w' hw' => ?y3)) hS0 ?_
    case y3 => first | (go_simp; rfl) | (go_simp; done) | rfl
    simp only [Act.put, List.setIfInBounds_toArray, List.set_cons_zero, List.set_cons_succ]
    refine wpAnyH_takeI (i := 3) (v := ?v4) rfl (by kernel_rfl) (by kernel_rfl) (by kernel_rfl) (fun _ _ _ h => h) (yieldsIf_run rfl (fun w' hw' => ?y4)) hS0 ?_
    case y4 => first | (go_simp; rfl) | (go_simp; done) | rfl
    simp only [Act.put, List.setIfInBounds_toArray, List.set_cons_zero, List.set_cons_succ]
    refine wpAnyH_takeI (i := 4) (v := ?v5) rfl (by kernel_rfl) (by kernel_rfl) (by kernel_rfl) (fun _ _ _ h => h) (yieldsIf_run rfl (fun w' hw' => ?y5)) hS0 ?_
    case y5 => first | (go_simp; rfl) | (go_simp; done) | rfl
    simp only [Act.put, List.setIfInBounds_toArray, List.set_cons_zero, List.set_cons_succ]
    refine wpAnyH_takeI (i := 5) (v := .agg (bvs L[i].id.1).toArray) rfl (by kernel_rfl) (by kernel_rfl) (by kernel_rfl) (fun _ _ _ h => h) (yieldsIf_load_mid rfl 35 (.tmp 20) rfl g1 (o1 + i * 83) rfl (bvs L[i].id.1) _ (fun w' hw' => row_id (HR1.out w' hw')) Try.underlying35 rfl (sizeId L[i].id)) hS0 ?_
    simp only [Act.put, List.setIfInBounds_toArray, List.set_cons_zero, List.set_cons_succ]
    refine wpAnyH_takeI (i := 6) (v := ?v6) rfl (by kernel_rfl) (by kernel_rfl) (by kernel_rfl) (fun _ _ _ h => h) (yieldsIf_run rfl (fun w' hw' => ?y6)) hS0 ?_
    case y6 => first | (go_simp; rfl) | (go_simp; done) | rfl
    simp only [Act.put, List.setIfInBounds_toArray, List.set_cons_zero, List.set_cons_succ]
    refine wpAnyH_takeI (i := 7) (v := ?v7) rfl (by kernel_rfl) (by kernel_rfl) (by kernel_rfl) (fun _ _ _ h => h) (yieldsIf_run rfl (fun w' hw' => ?y7)) hS0 ?_
    case y7 => first | (go_simp; rfl) | (go_simp; done) | rfl
    simp only [Act.put, List.setIfInBounds_toArray, List.set_cons_zero, List.set_cons_succ]
    refine wpAnyH_takeI (i := 8) (v := ?v8) rfl (by kernel_rfl) (by kernel_rfl) (by kernel_rfl) (fun _ _ _ h => h) (yieldsIf_run rfl (fun w' hw' => ?y8)) hS0 ?_
    case y8 => first | (go_simp; rfl) | (go_simp; done) | rfl
    simp only [Act.put, List.setIfInBounds_toArray, List.set_cons_zero, List.set_cons_succ]
    refine wpAnyH_takeI (i := 9) (v := ?v9) rfl (by kernel_rfl) (by kernel_rfl) (by kernel_rfl) (fun _ _ _ h => h) (yieldsIf_run rfl (fun w' hw' => ?y9)) hS0 ?_
    case y9 => first | (go_simp; rfl) | (go_simp; done) | rfl
    simp only [Act.put, List.setIfInBounds_toArray, List.set_cons_zero, List.set_cons_succ]
    refine wpAnyH_takeI (i := 10) (v := .agg (L[i].cells).toArray) rfl (by kernel_rfl) (by kernel_rfl) (by kernel_rfl) (fun _ _ _ h => h) (yieldsIf_load_mid rfl 43 (.tmp 25) rfl g1 (o1 + i * 83) rfl (L[i].cells) _ (fun w' hw' => HR1.out w' hw') Try.underlying43 rfl (sizeRow L[i])) hS0 ?_
    simp only [Act.put, List.setIfInBounds_toArray, List.set_cons_zero, List.set_cons_succ]
    refine wpAnyH_takeI (i := 11) (v := ?v10) rfl (by kernel_rfl) (by kernel_rfl) (by kernel_rfl) (fun _ _ _ h => h) (yieldsIf_run rfl (fun w' hw' => ?y10)) hS0 ?_
    case y10 => first | (go_simp; rfl) | (go_simp; done) | rfl
    simp only [Act.put, List.setIfInBounds_toArray, List.set_cons_zero, List.set_cons_succ]
    refine wpAnyH_takeI (i := 12) (v := ?v11) rfl (by kernel_rfl) (by kernel_rfl) (by kernel_rfl) (fun _ _ _ h => h) (yieldsIf_run rfl (fun w' hw' => ?y11)) hS0 ?_
    case y11 => first | (go_simp; rfl) | (go_simp; done) | rfl
    simp only [Act.put, List.setIfInBounds_toArray, List.set_cons_zero, List.set_cons_succ]
    refine wpAnyH_takeI (i := 13) (v := ?v12) rfl (by kernel_rfl) (by kernel_rfl) (by kernel_rfl) (fun _ _ _ h => h) (yieldsIf_run rfl (fun w' hw' => ?y12)) hS0 ?_
    case y12 => first | (go_simp; rfl) | (go_simp; done) | rfl
    simp only [Act.put, List.setIfInBounds_toArray, List.set_cons_zero, List.set_cons_succ]
    refine wpAnyH_takeI (i := 14) (v := .agg (pvC u).toArray) rfl (by kernel_rfl) (by kernel_rfl) (by kernel_rfl) (fun _ _ _ h => h) (yieldsIf_load_mid rfl 63 (.tmp 29) rfl g2 (o2 + i * 33) rfl (pvC u) _ (fun w' hw' => HR2.out w' hw') Try.underlying63 rfl (sizePar u)) hS0 ?_
    simp only [Act.put, List.setIfInBounds_toArray, List.set_cons_zero, List.set_cons_succ]
    refine wpAnyH_takeI (i := 15) (v := .agg (KnV.cells ⟨L[i].id, (i : Int), L[i], u⟩).toArray) rfl (by kernel_rfl) (by kernel_rfl) (by kernel_rfl) (fun _ _ _ h => h) (yieldsIf_run rfl (fun w' hw' => exec_buildL 102 _ rfl [(0, .agg (bvs L[i].id.1).toArray), (1, .int .i64 (i : Int)), (2, .agg L[i].cells.toArray), (3, .agg (pvC u).toArray)] rfl (build_kn _ _ _ _ _))) hS0 ?_
    simp only [Act.put, List.setIfInBounds_toArray, List.set_cons_zero, List.set_cons_succ]
    refine wpAnyH_do (i := 16) (by kernel_rfl) rfl rfl (fun K hK => ?_)
    refine wp_lit1 91 102 (.tmp 31) rfl (knE.enc (⟨L[i].id, (i : Int), L[i], u⟩ : KnV)).toArray rfl Try.underlying91 (sizeKnA _) (by kernel_rfl) (by rw [sizeKn149]; decide) (by rw [sizeKn149]; decide) ?_
    obtain ⟨Wl, hwn⟩ : ∃ Wl, wd.alloc (.cells (knE.enc (⟨L[i].id, (i : Int), L[i], u⟩ : KnV)).toArray 102) = Wl := ⟨_, rfl⟩
    have hbn : Below wd.heap.size wd Wl := hwn ▸ one_below knE wd (⟨L[i].id, (i : Int), L[i], u⟩ : KnV)
    have hLWl : Wl.heap[wd.heap.size]? = some (.cells (knE.enc (⟨L[i].id, (i : Int), L[i], u⟩ : KnV)).toArray 102 (0, 0)) := by rw [← hwn]; exact heap_alloc_new _ _
    rw [hwn]
    have hOWl := hOd.below hbn
    have hsWl := hS0.trans (hbn.mono hS0.size)
    clear hbn hwn
    refine hK _ _ (hsWl) ?_
    clear hK K
    try simp only [Act.put, List.setIfInBounds_toArray, List.set_cons_zero, List.set_cons_succ]
    refine wpAnyH_do (i := 17) (by kernel_rfl) rfl rfl (fun K hK => ?_)
    refine wp_appL knE (.tmp 16) (.tmp 32) rfl rfl hOWl rfl (list_block1 knE hLWl) (n := on) (m := 1) HON.out rfl (by omega) hsWl.size ?_
    intro a5 c5 W5 hOW5 hgW5 haW5
    have hsW5 := hsWl.trans (hOWl.grown_below hgW5 hsWl.size)
    refine hK _ _ (hsW5) ?_
    clear hK K
    try simp only [Act.put, List.setIfInBounds_toArray, List.set_cons_zero, List.set_cons_succ]
    refine wpAnyH_takeI (i := 18) (v := ?v13) rfl (by kernel_rfl) (by kernel_rfl) (by kernel_rfl) (fun _ _ _ h => h) (yieldsIf_run rfl (fun w' hw' => ?y13)) hsW5 ?_
    case y13 => first | (go_simp; rfl) | (go_simp; done) | rfl
    simp only [Act.put, List.setIfInBounds_toArray, List.set_cons_zero, List.set_cons_succ]
    refine wpAnyH_done (by kernel_rfl) ?_ _
    refine NoPanic.normal ?_
    have HAK := Lib.hid (show artK L c i hiL = ⟨L[i].id, (i : Int), L[i], u⟩ by unfold artK; rw [HCU.out])
    have HO5 := Lib.hid hOW5
    have HB5 := Lib.hid hsW5
    clear hOd hOWl hLWl hsWl hsW5 hOW5 hgW5 haW5 hS0
    have HPC := Lib.hid (show ∀ w', Below Wd.heap.size Wd w' → w'.cell? ⟨g2, o2 + i * 33, none⟩ = some (.bool u.isSome) ∧ w'.rangeAt g2 (o2 + i * 33 + 1) (bvs (u.getD z32).1) from fun w' hw' => par_cells (HR2.out w' hw'))
    obtain ⟨e1, _⟩ := HPC.out W5 HB5.out
    have HKN5 := Lib.hid (show (K ++ [(⟨L[i].id, (i : Int), L[i], u⟩ : KnV)]).length = on + 1 by rw [List.length_append, HON.out]; rfl)
    cases u with
    | none =>
      have e1 : W5.cell? ⟨g2, o2 + i * 33, none⟩ = some (.bool false) := e1
      have HI5 := Lib.hid (show KnI L c (i + 1) (K ++ [⟨L[i].id, (i : Int), L[i], none⟩]) by
        rw [← HAK.out]
        exact HI.out.plain HND.out hiL (fun y hy => by rw [HCU.out] at hy; cases hy))
      go_wp2_with fail
      go_roundw
      case rel => exact ⟨i + 1, _, a5, on + 1, c5, by omega, by omega, by go_num, rfl, HO5, HI5, HB5⟩
      case measure => simp [intOf] <;> omega
    | some y =>
      have e1 : W5.cell? ⟨g2, o2 + i * 33, none⟩ = some (.bool true) := e1
      have HY := Lib.hid (show ∀ w', Below Wd.heap.size Wd w' → w'.rangeAt g2 (o2 + i * 33 + 1) (bvs y.1) from fun w' hw' => (HPC.out w' hw').2)
      have HY5 := Lib.hid (HY.out W5 HB5.out)
      go_wp2_with (refine wpList_met rfl ?_; with_reducible refine wpList_load_mid rfl 35 (.tmp 45) rfl g2 (o2 + i * 33 + 1) rfl (bvs y.1) _ HY5.out Try.underlying35 rfl (sizeId y) ?_; refine Stop.on ?_)
      refine Stop.go ?_
      try simp only [Act.put, List.setIfInBounds_toArray, List.set_cons_zero, List.set_cons_succ]
      go_wp2_with fail
      refine (index_any _ L y (HVd.out.below HB5.out) HLL.out).mono ?_
      rintro e Wi ⟨rfl, hbi⟩
      obtain ⟨ix, hix⟩ : ∃ ix, idxL L y = ix := ⟨_, rfl⟩
      rw [hix]
      have HIX := Lib.hid hix
      have HO6 := Lib.hid (HO5.out.below hbi)
      have HB6 := Lib.hid (HB5.out.trans (hbi.mono HB5.out.size))
      clear hbi hix e1
      by_cases hi0 : 0 ≤ ix
      case pos =>
        have hid0 : decide (0 ≤ ix) = true := decide_eq_true hi0
        have HI5 := Lib.hid (show KnI L c (i + 1) (K ++ [⟨L[i].id, (i : Int), L[i], some y⟩]) by
          rw [← HAK.out]
          exact HI.out.plain HND.out hiL (fun y' hy hm => by rw [HCU.out] at hy; cases hy; rw [HIX.out] at hm; omega))
        go_wp2_with fail
        go_roundw
        case rel => exact ⟨i + 1, _, a5, on + 1, c5, by omega, by omega, by go_num, rfl, HO6, HI5, HB6⟩
        case measure => simp [intOf] <;> omega
      have hid0 : decide (0 ≤ ix) = false := decide_eq_false hi0
      obtain ⟨K5, hK5⟩ : ∃ K5, K ++ [⟨L[i].id, (i : Int), L[i], some y⟩] = K5 := ⟨_, rfl⟩
      rw [hK5] at HO6 HKN5
      have HK5 := Lib.hid hK5
      have HK0 := Lib.hid (Below.refl Wi.heap.size Wi)
      have HN0 := Lib.hid (show (false = true ↔ ∃ k ∈ K5.take 0, k.id = y) by simp)
      clear hK5 HO5 HO
      go_wp2_with fail
      go_loopw [6, 7] (fun nv kv wr => ∃ (k : Nat) (nb : Bool), k ≤ on + 1 ∧ kv = .int .i64 (k : Int) ∧ nv = .bool nb ∧ Hid (nb = true ↔ ∃ m ∈ K5.take k, m.id = y) ∧ Hid (Below Wi.heap.size Wi wr)) (fun _ kv _ => on + 1 - (intOf kv).toNat)
      case atStart => exact ⟨0, false, Nat.zero_le _, rfl, rfl, HN0, HK0⟩
      case round =>
        obtain ⟨k, nb, hk, rfl, rfl, HNB, HK⟩ := hrel
        obtain ⟨W1, rfl⟩ : ∃ W1, W1 = wr := ⟨_, rfl⟩
        clear HK0 HN0
        have HO7 := Lib.hid (HO6.out.below HK.out)
        have HB7 := Lib.hid (HB6.out.trans (HK.out.mono HB6.out.size))
        by_cases hkc : k < on + 1
        case neg =>
          obtain rfl : k = on + 1 := by omega
          have hall : nb = true ↔ ∃ m ∈ K5, m.id = y := by
            have h := HNB.out
            rwa [List.take_of_length_le (by rw [HKN5.out]; exact Nat.le_refl _)] at h
          cases nb with
          | true =>
            have HI5 := Lib.hid (show KnI L c (i + 1) K5 by
              have h2 := HI.out.plain HND.out hiL (fun y' hy hm => by
                rw [HCU.out] at hy
                cases hy
                rw [HAK.out, HK5.out]
                exact hall.1 rfl)
              rw [HAK.out, HK5.out] at h2
              exact h2)
            clear hall
            go_wp2_with fail
            go_roundw
            case rel => exact ⟨i + 1, _, a5, on + 1, c5, by omega, by omega, by go_num, rfl, HO7, HI5, HB7⟩
            case measure => simp [intOf] <;> omega
          | false =>
            have HNO := Lib.hid (show ∀ m ∈ K5, m.id ≠ y from fun m hm e => by have := hall.2 ⟨m, hm, e⟩; simp at this)
            have HULL := Lib.hid (show (cutL c L).length = L.length by rw [HUL.out, HN.out])
            clear hall
            go_wp2_with fail
            refine wp_region_noPanic ?_
            refine wp_region_H (Below Wd.heap.size Wd) (by kernel_rfl) ?_
            have hS0 : (Below Wd.heap.size Wd) W1.drew := HB7.out.trans ((Below.refl W1.heap.size W1).drew.mono HB7.out.size)
            have hOd := HO7.out.below (Below.refl W1.heap.size W1).drew
            obtain ⟨wd, hwd⟩ : ∃ wd, W1.drew = wd := ⟨_, rfl⟩
            rw [hwd] at hS0 hOd ⊢
            clear hwd
            refine wpAnyH_takeI (i := 0) (v := ?v14) rfl (by kernel_rfl) (by kernel_rfl) (by kernel_rfl) (fun _ _ _ h => h) (yieldsIf_run rfl (fun w' hw' => ?y14)) hS0 ?_
            case y14 => first | (go_simp; rfl) | (go_simp; done) | rfl
            simp only [Act.put, List.setIfInBounds_toArray, List.set_cons_zero, List.set_cons_succ]
            refine wpAnyH_takeI (i := 1) (v := ?v15) rfl (by kernel_rfl) (by kernel_rfl) (by kernel_rfl) (fun _ _ _ h => h) (yieldsIf_run rfl (fun w' hw' => ?y15)) hS0 ?_
            case y15 => first | (go_simp; rfl) | (go_simp; done) | rfl
            simp only [Act.put, List.setIfInBounds_toArray, List.set_cons_zero, List.set_cons_succ]
            refine wpAnyH_takeI (i := 2) (v := ?v16) rfl (by kernel_rfl) (by kernel_rfl) (by kernel_rfl) (fun _ _ _ h => h) (yieldsIf_run rfl (fun w' hw' => ?y16)) hS0 ?_
            case y16 => first | (go_simp; rfl) | (go_simp; done) | rfl
            simp only [Act.put, List.setIfInBounds_toArray, List.set_cons_zero, List.set_cons_succ]
            refine wpAnyH_takeI (i := 3) (v := ?v17) rfl (by kernel_rfl) (by kernel_rfl) (by kernel_rfl) (fun _ _ _ h => h) (yieldsIf_run rfl (fun w' hw' => ?y17)) hS0 ?_
            case y17 => first | (go_simp; rfl) | (go_simp; done) | rfl
            simp only [Act.put, List.setIfInBounds_toArray, List.set_cons_zero, List.set_cons_succ]
            refine wpAnyH_takeI (i := 4) (v := ?v18) rfl (by kernel_rfl) (by kernel_rfl) (by kernel_rfl) (fun _ _ _ h => h) (yieldsIf_run rfl (fun w' hw' => ?y18)) hS0 ?_
            case y18 => first | (go_simp; rfl) | (go_simp; done) | rfl
            simp only [Act.put, List.setIfInBounds_toArray, List.set_cons_zero, List.set_cons_succ]
            refine wpAnyH_takeI (i := 5) (v := .agg (bvs y.1).toArray) rfl (by kernel_rfl) (by kernel_rfl) (by kernel_rfl) (fun _ _ _ h => h) (yieldsIf_load_mid rfl 35 (.tmp 76) rfl g2 (o2 + i * 33 + 1) rfl (bvs y.1) _ (fun w' hw' => HY.out w' hw') Try.underlying35 rfl (sizeId y)) hS0 ?_
            simp only [Act.put, List.setIfInBounds_toArray, List.set_cons_zero, List.set_cons_succ]
            refine wpAnyH_takeI (i := 6) (v := ?v19) rfl (by kernel_rfl) (by kernel_rfl) (by kernel_rfl) (fun _ _ _ h => h) (yieldsIf_run rfl (fun w' hw' => ?y19)) hS0 ?_
            case y19 => first | (go_simp; rfl) | (go_simp; done) | rfl
            simp only [Act.put, List.setIfInBounds_toArray, List.set_cons_zero, List.set_cons_succ]
            refine wpAnyH_takeI (i := 7) (v := ?v20) rfl (by kernel_rfl) (by kernel_rfl) (by kernel_rfl) (fun _ _ _ h => h) (yieldsIf_run rfl (fun w' hw' => ?y20)) hS0 ?_
            case y20 => first | (go_simp; rfl) | (go_simp; done) | rfl
            simp only [Act.put, List.setIfInBounds_toArray, List.set_cons_zero, List.set_cons_succ]
            refine wpAnyH_takeI (i := 8) (v := ?v21) rfl (by kernel_rfl) (by kernel_rfl) (by kernel_rfl) (fun _ _ _ h => h) (yieldsIf_run rfl (fun w' hw' => ?y21)) hS0 ?_
            case y21 => first | (go_simp; rfl) | (go_simp; done) | rfl
            simp only [Act.put, List.setIfInBounds_toArray, List.set_cons_zero, List.set_cons_succ]
            refine wpAnyH_takeI (i := 9) (v := ?v22) rfl (by kernel_rfl) (by kernel_rfl) (by kernel_rfl) (fun _ _ _ h => h) (yieldsIf_run rfl (fun w' hw' => ?y22)) hS0 ?_
            case y22 => first | (go_simp; rfl) | (go_simp; done) | rfl
            simp only [Act.put, List.setIfInBounds_toArray, List.set_cons_zero, List.set_cons_succ]
            refine wpAnyH_takeI (i := 10) (v := ?v23) rfl (by kernel_rfl) (by kernel_rfl) (by kernel_rfl) (fun _ _ _ h => h) (yieldsIf_run rfl (fun w' hw' => ?y23)) hS0 ?_
            case y23 => first | (go_simp; rfl) | (go_simp; done) | rfl
            simp only [Act.put, List.setIfInBounds_toArray, List.set_cons_zero, List.set_cons_succ]
            refine wpAnyH_takeI (i := 11) (v := ?v24) rfl (by kernel_rfl) (by kernel_rfl) (by kernel_rfl) (fun _ _ _ h => h) (yieldsIf_run rfl (fun w' hw' => ?y24)) hS0 ?_
            case y24 => first | (go_simp; rfl) | (go_simp; done) | rfl
            simp only [Act.put, List.setIfInBounds_toArray, List.set_cons_zero, List.set_cons_succ]
            refine wpAnyH_takeI (i := 12) (v := ?v25) rfl (by kernel_rfl) (by kernel_rfl) (by kernel_rfl) (fun _ _ _ h => h) (yieldsIf_run rfl (fun w' hw' => ?y25)) hS0 ?_
            case y25 => first | (go_simp; rfl) | (go_simp; done) | rfl
            simp only [Act.put, List.setIfInBounds_toArray, List.set_cons_zero, List.set_cons_succ]
            refine wpAnyH_takeI (i := 13) (v := .agg (bvs y.1).toArray) rfl (by kernel_rfl) (by kernel_rfl) (by kernel_rfl) (fun _ _ _ h => h) (yieldsIf_load_mid rfl 35 (.tmp 84) rfl g2 (o2 + i * 33 + 1) rfl (bvs y.1) _ (fun w' hw' => HY.out w' hw') Try.underlying35 rfl (sizeId y)) hS0 ?_
            simp only [Act.put, List.setIfInBounds_toArray, List.set_cons_zero, List.set_cons_succ]
            refine wpAnyH_takeI (i := 17) (v := ?v26) rfl (by kernel_rfl) (by kernel_rfl) (by kernel_rfl) (fun _ _ _ h => h) (yieldsIf_run rfl (fun w' hw' => ?y26)) hS0 ?_
            case y26 => first | (go_simp; rfl) | (go_simp; done) | rfl
            simp only [Act.put, List.setIfInBounds_toArray, List.set_cons_zero, List.set_cons_succ]
            refine wpAnyH_takeI (i := 18) (v := ?v27) rfl (by kernel_rfl) (by kernel_rfl) (by kernel_rfl) (fun _ _ _ h => h) (yieldsIf_run rfl (fun w' hw' => ?y27)) hS0 ?_
            case y27 => first | (go_simp; rfl) | (go_simp; done) | rfl
            simp only [Act.put, List.setIfInBounds_toArray, List.set_cons_zero, List.set_cons_succ]
            refine wpAnyH_takeI (i := 19) (v := ?v28) rfl (by kernel_rfl) (by kernel_rfl) (by kernel_rfl) (fun _ _ _ h => h) (yieldsIf_run rfl (fun w' hw' => ?y28)) hS0 ?_
            case y28 => first | (go_simp; rfl) | (go_simp; done) | rfl
            simp only [Act.put, List.setIfInBounds_toArray, List.set_cons_zero, List.set_cons_succ]
            refine wpAnyH_takeI (i := 20) (v := ?v29) rfl (by kernel_rfl) (by kernel_rfl) (by kernel_rfl) (fun _ _ _ h => h) (yieldsIf_run rfl (fun w' hw' => ?y29)) hS0 ?_
            case y29 => first | (go_simp; rfl) | (go_simp; done) | rfl
            simp only [Act.put, List.setIfInBounds_toArray, List.set_cons_zero, List.set_cons_succ]
            refine wpAnyH_takeI (i := 21) (v := ?v30) rfl (by kernel_rfl) (by kernel_rfl) (by kernel_rfl) (fun _ _ _ h => h) (yieldsIf_run rfl (fun w' hw' => ?y30)) hS0 ?_
            case y30 => first | (go_simp; rfl) | (go_simp; done) | rfl
            simp only [Act.put, List.setIfInBounds_toArray, List.set_cons_zero, List.set_cons_succ]
            refine wpAnyH_takeI (i := 22) (v := .agg (bvs y.1).toArray) rfl (by kernel_rfl) (by kernel_rfl) (by kernel_rfl) (fun _ _ _ h => h) (yieldsIf_load_mid rfl 35 (.tmp 93) rfl g2 (o2 + i * 33 + 1) rfl (bvs y.1) _ (fun w' hw' => HY.out w' hw') Try.underlying35 rfl (sizeId y)) hS0 ?_
            simp only [Act.put, List.setIfInBounds_toArray, List.set_cons_zero, List.set_cons_succ]
            refine wpAnyH_do (i := 14) (by kernel_rfl) rfl rfl (fun K hK => ?_)
            go_simp
            go_at_call 59
            refine (first_any _ _ L (cutL c L) y (HVd.out.below hS0) (HU.out.below hS0) HULL.out HLL.out).mono ?_
            rintro e Wf ⟨b, rfl, hfst, hbf⟩
            have hsWf := hS0.trans (hbf.mono hS0.size)
            have hOf := hOd.below hbf
            clear hOd
            obtain ⟨j, hjL, rfl, hfi⟩ : ∃ (j : Nat) (hj : j < L.length), b = (j : Int) ∧ (arrS L).find? (fun t => decide (c t.id = some y)) = some L[j].tw := by
              rcases hfst.find HND.out (g := fun t => c t.id) with ⟨_, h⟩ | h
              · exfalso
                have h2 := List.find?_eq_none.1 h L[i].tw (mem_arrS.2 ⟨i, hiL, rfl⟩)
                exact h2 (decide_eq_true HCU.out)
              · exact h
            have hjN : (j : Int) < (N : Int) := by have := HN.out; omega
            have HFI := Lib.hid hfi
            have HRJ := Lib.hid (show ∀ w', Below Wd.heap.size Wd w' → w'.rangeAt g1 (o1 + j * 83) L[j].cells from fun w' hw' => by
              obtain ⟨g', o', e', hg', hr'⟩ := HVd.out.l.get hjL
              cases e'
              exact range_below (show Wd.rangeAt g1 (o1 + j * 83) L[j].cells from hr') hg' hw')
            clear hfst hbf hfi
            refine hK _ _ (hsWf) ?_
            clear hK K
            try simp only [Act.put, List.setIfInBounds_toArray, List.set_cons_zero, List.set_cons_succ]
            refine wpAnyH_takeI (i := 15) (v := ?v31) rfl (by kernel_rfl) (by kernel_rfl) (by kernel_rfl) (fun _ _ _ h => h) (yieldsIf_run rfl (fun w' hw' => ?y31)) hsWf ?_
            case y31 => first | (go_simp; rfl) | (go_simp; done) | rfl
            simp only [Act.put, List.setIfInBounds_toArray, List.set_cons_zero, List.set_cons_succ]
            refine wpAnyH_takeI (i := 16) (v := .agg (L[j].cells).toArray) rfl (by kernel_rfl) (by kernel_rfl) (by kernel_rfl) (fun _ _ _ h => h) (yieldsIf_load_mid rfl 43 (.tmp 87) rfl g1 (o1 + j * 83) rfl (L[j].cells) _ (fun w' hw' => HRJ.out w' hw') Try.underlying43 rfl (sizeRow L[j])) hsWf ?_
            simp only [Act.put, List.setIfInBounds_toArray, List.set_cons_zero, List.set_cons_succ]
            refine wpAnyH_do (i := 23) (by kernel_rfl) rfl rfl (fun K hK => ?_)
            go_simp
            go_at_call 60
            refine (above_any _ L y (HVd.out.below hsWf) HND.out HLL.out).mono ?_
            rintro e Wa ⟨rfl, hba⟩
            have hsWa := hsWf.trans (hba.mono hsWf.size)
            have hOa := hOf.below hba
            clear hba hOf
            refine hK _ _ (hsWa) ?_
            clear hK K
            try simp only [Act.put, List.setIfInBounds_toArray, List.set_cons_zero, List.set_cons_succ]
            refine wpAnyH_takeI (i := 24) (v := .agg (KnV.cells ⟨y, -1, L[j], misP L y⟩).toArray) rfl (by kernel_rfl) (by kernel_rfl) (by kernel_rfl) (fun _ _ _ h => h) (yieldsIf_run rfl (fun w' hw' => exec_buildL 102 _ rfl [(0, .agg (bvs y.1).toArray), (1, .int .i64 (-1)), (2, .agg L[j].cells.toArray), (3, .agg (pvC (misP L y)).toArray)] rfl (build_kn _ _ _ _ _))) hsWa ?_
            simp only [Act.put, List.setIfInBounds_toArray, List.set_cons_zero, List.set_cons_succ]
            refine wpAnyH_do (i := 25) (by kernel_rfl) rfl rfl (fun K hK => ?_)
            refine wp_lit1 91 102 (.tmp 96) rfl (knE.enc (⟨y, -1, L[j], misP L y⟩ : KnV)).toArray rfl Try.underlying91 (sizeKnA _) (by kernel_rfl) (by rw [sizeKn149]; decide) (by rw [sizeKn149]; decide) ?_
            obtain ⟨Wm, hwn⟩ : ∃ Wm, Wa.alloc (.cells (knE.enc (⟨y, -1, L[j], misP L y⟩ : KnV)).toArray 102) = Wm := ⟨_, rfl⟩
            have hbn : Below Wa.heap.size Wa Wm := hwn ▸ one_below knE Wa (⟨y, -1, L[j], misP L y⟩ : KnV)
            have hLWm : Wm.heap[Wa.heap.size]? = some (.cells (knE.enc (⟨y, -1, L[j], misP L y⟩ : KnV)).toArray 102 (0, 0)) := by rw [← hwn]; exact heap_alloc_new _ _
            rw [hwn]
            have hOWm := hOa.below hbn
            have hsWm := hsWa.trans (hbn.mono hsWa.size)
            clear hbn hwn
            refine hK _ _ (hsWm) ?_
            clear hK K
            try simp only [Act.put, List.setIfInBounds_toArray, List.set_cons_zero, List.set_cons_succ]
            refine wpAnyH_do (i := 26) (by kernel_rfl) rfl rfl (fun K hK => ?_)
            refine wp_appL knE (.tmp 72) (.tmp 97) rfl rfl hOWm rfl (list_block1 knE hLWm) (n := on + 1) (m := 1) HKN5.out rfl (by omega) hsWm.size ?_
            intro a9 c9 W9 hOW9 hgW9 haW9
            have hsW9 := hsWm.trans (hOWm.grown_below hgW9 hsWm.size)
            refine hK _ _ (hsW9) ?_
            clear hK K
            try simp only [Act.put, List.setIfInBounds_toArray, List.set_cons_zero, List.set_cons_succ]
            refine wpAnyH_takeI (i := 27) (v := ?v32) rfl (by kernel_rfl) (by kernel_rfl) (by kernel_rfl) (fun _ _ _ h => h) (yieldsIf_run rfl (fun w' hw' => ?y32)) hsW9 ?_
            case y32 => first | (go_simp; rfl) | (go_simp; done) | rfl
            simp only [Act.put, List.setIfInBounds_toArray, List.set_cons_zero, List.set_cons_succ]
            refine wpAnyH_done (by kernel_rfl) ?_ _
            refine NoPanic.normal ?_
            have HI9 := Lib.hid (show KnI L c (i + 1) (K5 ++ [⟨y, -1, L[j], misP L y⟩]) by
              rw [← HK5.out]
              have h2 := HI.out.two (P := L[j]) HND.out hiL HCU.out (by rw [HIX.out]; omega) (fun m hm => HNO.out m (by rw [← HK5.out, ← HAK.out]; exact hm)) HFI.out
              rw [HAK.out] at h2
              exact h2)
            have HO9 := Lib.hid hOW9
            have HB9 := Lib.hid hsW9
            clear hOWm hLWm hsWm hsW9 hOW9 hgW9 haW9 hS0 hsWa hsWf hOa
            go_wp2_with fail
            go_roundw
            case rel => exact ⟨i + 1, _, a9, on + 1 + 1, c9, by omega, by omega, by go_num, rfl, HO9, HI9, HB9⟩
            case measure => simp [intOf] <;> omega
        obtain ⟨kn, hkn⟩ : ∃ kn, K5[k]'(by rw [HKN5.out]; exact hkc) = kn := ⟨_, rfl⟩
        have hkK : k < K5.length := by rw [HKN5.out]; exact hkc
        have hkcI : (k : Int) < (on : Int) + 1 := by omega
        obtain ⟨g3, o3, e3, hg3, hr3⟩ := HO7.out.at_.get hkK
        subst e3
        rw [hkn] at hr3
        have HKR := Lib.hid (show ∀ w', Below W1.heap.size W1 w' → w'.rangeAt g3 (o3 + k * 149) (bvs kn.id.1) from fun w' hw' => range_below (kn_id (show W1.rangeAt g3 (o3 + k * 149) kn.cells from hr3)) hg3 hw')
        have HNX := Lib.hid (show (∃ m ∈ K5.take (k + 1), m.id = y) ↔ (∃ m ∈ K5.take k, m.id = y) ∨ kn.id = y by
          rw [List.take_succ_eq_append_getElem hkK, hkn]
          constructor
          · rintro ⟨m, hm, e⟩
            rcases List.mem_append.1 hm with h | h
            · exact .inl ⟨m, h, e⟩
            · obtain rfl := List.mem_singleton.1 h
              exact .inr e
          · rintro (⟨m, hm, e⟩ | e)
            · exact ⟨m, List.mem_append_left _ hm, e⟩
            · exact ⟨kn, List.mem_append_right _ (List.mem_singleton.2 rfl), e⟩)
        clear hkn hr3 hg3 hkK
        go_wp2_with fail
        refine wp_region_seq 14 (by kernel_rfl) (by kernel_rfl) ?_
        simp only [List.take_succ_cons, List.take_zero, List.drop_succ_cons, List.drop_zero]
        obtain ⟨wd, hwd⟩ : ∃ wd, W1.drew = wd := ⟨_, rfl⟩
        have hd_wd : Below W1.heap.size W1 wd ∧ wd.heap.size = W1.heap.size := hwd ▸ ⟨(Below.refl _ _).drew, rfl⟩
        rw [hwd]
        clear hwd
        have HKd := Lib.hid (HKR.out wd hd_wd.1)
        have HYd := Lib.hid (HY.out wd (HB7.out.trans (hd_wd.1.mono HB7.out.size)))
        have HKe := Lib.hid (HK.out.trans (hd_wd.1.mono HK.out.size))
        clear hd_wd
        cases nb with
        | true =>
          have HNN := Lib.hid (show ∃ m ∈ K5.take (k + 1), m.id = y by rw [HNX.out]; exact .inl (HNB.out.1 (by simp)))
          go_wp2_with fail
          refine HeadPost.mk ?_
          go_wp2_with fail
          go_roundw
          case rel => exact ⟨k + 1, true, by omega, by go_num, rfl, Lib.hid ⟨fun _ => HNN.out, fun _ => rfl⟩, HKe⟩
          case measure => simp [intOf] <;> omega
        | false =>
          go_wp2_with (refine wpList_met rfl ?_; with_reducible refine wpList_load_mid rfl 35 (.tmp 61) rfl g3 (o3 + k * 149) rfl (bvs kn.id.1) _ HKd.out Try.underlying35 rfl (sizeId kn.id) ?_; refine Stop.on ?_)
          refine Stop.go ?_
          try simp only [Act.put, List.setIfInBounds_toArray, List.set_cons_zero, List.set_cons_succ]
          go_wp2_with (refine wpList_met rfl ?_; with_reducible refine wpList_load_mid rfl 35 (.tmp 66) rfl g2 (o2 + i * 33 + 1) rfl (bvs y.1) _ HYd.out Try.underlying35 rfl (sizeId y) ?_; refine Stop.on ?_)
          refine Stop.go ?_
          try simp only [Act.put, List.setIfInBounds_toArray, List.set_cons_zero, List.set_cons_succ]
          refine wpList_met rfl ?_
          refine wpList_runI rfl (some 68) rfl (.bool (decide (kn.id = y))) _ (op_eql 35 (.tmp 62) (.tmp 67) 35 rfl rfl rfl guard_Id (eql_Id kn.id y _)) ?_
          try simp only [Act.put, List.setIfInBounds_toArray, List.set_cons_zero, List.set_cons_succ]
          obtain ⟨nb2, hnb2⟩ : ∃ nb2, decide (kn.id = y) = nb2 := ⟨_, rfl⟩
          rw [hnb2]
          have HNN := Lib.hid (show (nb2 = true ↔ ∃ m ∈ K5.take (k + 1), m.id = y) by rw [HNX.out, ← HNB.out, ← hnb2]; simp)
          clear hnb2
          go_wp2_with fail
          refine HeadPost.mk ?_
          go_wp2_with fail
          go_roundw
          case rel => exact ⟨k + 1, nb2, by omega, by go_num, rfl, HNN, HKe⟩
          case measure => simp [intOf] <;> omega
end Go.Proofs.Ythfinofmbnfijaa

namespace Go.Proofs.Ythfinofmbnfijaa
open Go.Shelf Go.RowKit Go.Lib Go.Sort Go.ChangeShapes Go.Maps
set_option linter.unusedVariables false
set_option linter.unusedSimpArgs false

theorem cellsOf_bool : Try.prog.cellsOf 4 = 1 := by kernel_rfl
theorem cellsOf_Par : Try.prog.cellsOf 63 = 33 := by kernel_rfl
theorem keyLits_bool (d : Nat) (b : Bool) : Try.prog.keyLits (d + 1) 4 [.bool b] = some [.bool b] := by
  simp [Program.keyLits, Try.underlying4, Lit.wf]
def parLits (u : Option IdB) : List Lit := .bool u.isSome :: (u.getD z32).1.map bl
theorem pvC_eq (u : Option IdB) : pvC u = .bool u.isSome :: bvs (u.getD z32).1 := by cases u <;> rfl
theorem keyLits_Par (u : Option IdB) : Try.prog.keyLits 3 63 (pvC u) = some (parLits u) := by
  have e0 : ((pvC u).drop 0).take 1 = [.bool u.isSome] := by rw [pvC_eq]; rfl
  have e1 : ((pvC u).drop 1).take 32 = bvs (u.getD z32).1 := by
    rw [pvC_eq]
    show List.take 32 (bvs (u.getD z32).1) = _
    rw [List.take_of_length_le (by rw [bvs_length, (u.getD z32).2]; exact Nat.le_refl _)]
  unfold Program.keyLits
  rw [Try.underlying63]
  simp only [pvC_len, cellsOf_Par]
  rw [if_pos ⟨trivial, by decide +kernel⟩]
  simp only [List.mapM_cons, List.mapM_nil, cellsOf_Id, cellsOf_bool, e0, e1, keyLits_Id 0 (u.getD z32).2, keyLits_bool 1]
  unfold parLits
  simp
theorem parLits_inj {u v : Option IdB} (h : parLits u = parLits v) : u = v := by
  unfold parLits at h
  simp only [List.cons.injEq, Lit.bool.injEq] at h
  obtain ⟨h1, h2⟩ := h
  have h3 := Subtype.ext (bl_inj h2)
  cases u <;> cases v <;> simp_all
theorem keyType_Par : Try.prog.keyTypeAt 5 63 = true := by kernel_rfl
theorem deep_Par : EqAt Try.prog 10000 63 := by
  have := run_equalIn_deep 9995 5 63 keyType_Par
  simpa only [Nat.reduceAdd] using this
theorem formed_Par (u : Option IdB) : (Value.agg (pvC u).toArray).formed Try.prog 63 = true := by
  unfold Value.formed
  rw [Try.underlying63]
  simp [cellsOf_Par, pvC_len]
theorem neq_Par (x y : Option IdB) (w : World) : (binOp .neq 63 (.agg (pvC x).toArray) (.agg (pvC y).toArray)).run Try.prog w = .ok (.bool (!decide (x = y))) w := by
  rw [run_neq_struct (P := Try.prog) w 63 (pvC x).toArray (pvC y).toArray]
  obtain ⟨r, h1, h2⟩ := deep_Par w 3 3 (.agg (pvC x).toArray) (.agg (pvC y).toArray) _ _ (formed_Par x) (formed_Par y) (keyLits_Par x) (keyLits_Par y)
  have e : r = decide (x = y) := by
    rw [Bool.eq_iff_iff, h2, decide_eq_true_iff]
    exact ⟨parLits_inj, fun h => by rw [h]⟩
  rw [h1, e]
  rfl
theorem guard_Par : Try.prog.eqGuardType Try.prog.depth 63 = false := by kernel_rfl
theorem sizeNodeB (n : NodeV) : (Try.prog.info? 37).map (·.size) = some (nodeE.enc n).toArray.size := sizeNodeA n
theorem sizeNode35 {n : NodeV} : (nodeE.enc n).toArray.size = 35 := by rw [List.size_toArray]; exact n.cells_length
theorem cand_next {K : List KnV} {p : Option IdB} {D : List IdB} {i : Nat} (hi : i < K.length) {tb : Bool} (h : tb = true ↔ K[i].up ≠ p ∨ K[i].id ∈ D) : Cand K p D i ↔ tb = false := by
  constructor
  · rintro ⟨_, h1, h2⟩
    cases tb with
    | false => rfl
    | true =>
      rcases h.1 rfl with h3 | h3
      · exact absurd h1 h3
      · exact absurd h3 h2
  · intro e
    refine ⟨hi, Classical.byContradiction fun h1 => ?_, fun h2 => ?_⟩
    · have := h.2 (.inl h1)
      rw [e] at this
      cases this
    · have := h.2 (.inr h2)
      rw [e] at this
      cases this
def GrowPost (w wb : World) (ov : Value) (R : List NodeV) (e : Ending) (w' : World) : Prop :=
  ∃ v', e = .returned v' ∧ OwnL nodeE w' wb.heap.size v' R ∧ Chg (fun k => ov.ownBlock = some k) w w' ∧ ∀ k, v'.ownBlock = some k → ov.ownBlock = some k ∨ w.heap.size ≤ k
def GrowAt (wb : World) (L : List RowV) (c : Par) (kv : Value) (n : Nat) : Prop :=
  ∀ (w : World) (p : Option IdB) (ov : Value) (O : List NodeV) (at_ d : Int), (∀ y ∈ chl c (pls L c) p, FinK (kidsOf c (pls L c)) n y) → Below wb.heap.size wb w → OwnL nodeE w wb.heap.size ov O → (growL c (pls L c) (idxL L) n p O at_ d).length < 1000000 → 0 ≤ d → d + n < 1000000000 →
    Calls Try.prog 44 #[ov, kv, .agg (pvC p).toArray, .int .i64 at_, .int .i64 d] w (GrowPost w wb ov (growL c (pls L c) (idxL L) n p O at_ d))
set_option maxRecDepth 100000 in
set_option maxHeartbeats 2000000 in
theorem grow_step {wb : World} {L : List RowV} {c : Par} {K : List KnV} {kv : Value} (hkv : ListAt knE wb kv K) (hok : KnOk L c K) (hn : (L.map (·.id)).Nodup) (hac : ∀ x, ¬ onC c x) (hKl : K.length < 1000000) (n : Nat) (ih : ∀ m, m + 1 = n → GrowAt wb L c kv m) : GrowAt wb L c kv n := by
  intro w p ov O at_ d hfin hbw ho hlen hd0 hdn
  obtain ⟨ka, kc, rfl⟩ := hkv.form
  obtain ⟨oa0, oc0, rfl⟩ := ho.form
  obtain ⟨KN, hKN⟩ : ∃ KN, K.length = KN := ⟨_, rfl⟩
  obtain ⟨on0, hon0⟩ : ∃ on0, O.length = on0 := ⟨_, rfl⟩
  rw [hKN] at hkv hKl ih ⊢
  rw [hon0] at ho ⊢
  obtain ⟨G, hG⟩ : ∃ G, chl c (pls L c) p = G := ⟨_, rfl⟩
  obtain ⟨fR, hfR⟩ : ∃ fR : List NodeV → IdB → List NodeV, (fun o y => visL (kidsOf c (pls L c)) (idxL L) n o y at_ d) = fR := ⟨_, rfl⟩
  obtain ⟨R, hR⟩ : ∃ R, growL c (pls L c) (idxL L) n p O at_ d = R := ⟨_, rfl⟩
  have hRG : R = G.foldl fR O := by rw [← hR, ← hG, ← hfR]; rfl
  have hfl : ∀ o y, o.length ≤ (fR o y).length := fun o y => by rw [← hfR]; exact visL_len _ _ _ _ _ _ _
  rw [hR] at hlen ⊢
  have hlk : ∀ k, ((G.take k).foldl fR O).length < 1000000 := fun k => Nat.lt_of_le_of_lt (fold_take hfl G k O) (by rw [← hRG]; exact hlen)
  have hbest : ∀ (k : Nat) (b : Int), BestI K p (G.take k) KN b → (b = -1 ∧ G.length ≤ k) ∨ ∃ (j : Nat) (hj : j < K.length) (hk : k < G.length), b = (j : Int) ∧ K[j].id = G[k] := fun k b h => by
    subst hG
    rw [← hKN] at h
    exact best_next hn hac hok h
  have hGl : G.length ≤ KN := by
    have hnd : G.Nodup := by rw [← hG, chl_filter]; exact (pls_nodup hn c).sublist List.filter_sublist
    have h := nodup_len G (K.map (·.id)) hnd (fun y hy => by
      rw [← hG] at hy
      obtain ⟨m, hm, e⟩ := (hok.mem y).1 (mem_chl.1 hy).1
      exact List.mem_map.2 ⟨m, hm, e⟩)
    rw [List.length_map, hKN] at h
    exact h
  have hfinG : ∀ y ∈ G, FinK (kidsOf c (pls L c)) n y := by rw [← hG]; exact hfin
  have hrow : ∀ k ∈ K, k.row = idxL L k.id := hok.row
  obtain ⟨w1, hw1⟩ : ∃ w1, w.alloc (.cells (pvC p).toArray 63) = w1 := ⟨_, rfl⟩
  have hb1 : Below w.heap.size w w1 := hw1 ▸ (Below.refl _ w).alloc (Nat.le_refl _) _
  have hx1 : w1.heap[w.heap.size]? = some (.cells (pvC p).toArray 63 (0, 0)) := by rw [← hw1]; exact heap_alloc_new _ _
  have hs1 : w1.heap.size = w.heap.size + 1 := by rw [← hw1]; simp
  obtain ⟨Pb, hPb⟩ : ∃ Pb, w.heap.size = Pb := ⟨_, rfl⟩
  obtain ⟨B, hB⟩ : ∃ B, wb.heap.size = B := ⟨_, rfl⟩
  have HX1 := Lib.hid (show w1.heap[Pb]? = some (.cells (pvC p).toArray 63 (0, 0)) by rw [← hPb]; exact hx1)
  have HPB := Lib.hid (show w.heap.size = Pb ∧ w1.heap.size = Pb + 1 by omega)
  have HBB := Lib.hid hB
  have HKV := Lib.hid hkv
  have HKN := Lib.hid hKN
  have HFL := Lib.hid hlk
  have HBEST := Lib.hid hbest
  have HFIN := Lib.hid hfinG
  have HGL := Lib.hid hGl
  have HROW := Lib.hid hrow
  have HRG := Lib.hid hRG
  have HIH := Lib.hid ih
  have HFR := Lib.hid hfR
  have HB1 := Lib.hid hb1
  have HFo := Lib.hid (show ∀ k, (Value.slice oa0 on0 oc0).ownBlock = some k → B ≤ k ∧ k < Pb from fun k hk => by have := ho.lt hk; omega)
  have HO0 := Lib.hid (show OwnL nodeE w1 B (.slice oa0 on0 oc0) ((G.take 0).foldl fR O) by rw [← hB]; exact ho.below hb1)
  have HBW := Lib.hid (show ∀ w', Chg (fun k => (Value.slice oa0 on0 oc0).ownBlock = some k) w1 w' → Below wb.heap.size wb w' from fun w' hc =>
    (hbw.trans (hb1.mono hbw.size)).trans (hc.below (fun k hk => (ho.lt hk).1) (Nat.le_trans hbw.size hb1.size)))
  have HPX := Lib.hid (show ∀ w', Chg (fun k => (Value.slice oa0 on0 oc0).ownBlock = some k) w1 w' → w'.heap[Pb]? = some (.cells (pvC p).toArray 63 (0, 0)) from fun w' hc =>
    (hc.block Pb (by omega) (fun hk => by have := (ho.lt hk).2; omega)).trans HX1.out)
  have HD0 := Lib.hid (ownL_nil idE w1 w1.heap.size)
  have HJ0 := Lib.hid (show ∀ j, (Value.slice none 0 0).ownBlock = some j → (Value.slice oa0 on0 oc0).ownBlock ≠ some j from fun j hj => by cases hj)
  have HC0 := Lib.hid (Chg.refl (fun k => (Value.slice oa0 on0 oc0).ownBlock = some k) w1)
  have HA0 := Lib.hid (show ∀ j, (Value.slice oa0 on0 oc0).ownBlock = some j → (Value.slice oa0 on0 oc0).ownBlock = some j ∨ w1.heap.size ≤ j from fun j hj => .inl hj)
  have hdI : d + 1 < 1000000001 := by omega
  clear hkv ho hbw hlen hfin hok hac hR hRG hfl hlk hbest hfinG hGl hrow ih hfR hx1 hs1 hPb hB hb1 hKN hon0 hn
  go_enter Try.func44, Try.ntmps44
  go_wp2_with fail
  rw [HPB.out.1]
  clear hw1
  go_loopw [0, 11, 12, 13, 14, 15] (fun ov dv bv iv tv kv wr => ∃ (k : Nat) (oa : Option Addr) (on oc : Nat) (da : Option Addr) (dc : Nat), k ≤ G.length ∧ ov = .slice oa on oc ∧ dv = .slice da k dc ∧ Hid (OwnL nodeE wr B (.slice oa on oc) ((G.take k).foldl fR O)) ∧ Hid (OwnL idE wr w1.heap.size (.slice da k dc) (G.take k)) ∧ Hid (∀ j, (Value.slice da k dc).ownBlock = some j → (Value.slice oa on oc).ownBlock ≠ some j) ∧ Hid (Chg (fun k => (Value.slice oa0 on0 oc0).ownBlock = some k) w1 wr) ∧ Hid (∀ j, (Value.slice oa on oc).ownBlock = some j → (Value.slice oa0 on0 oc0).ownBlock = some j ∨ w1.heap.size ≤ j)) (fun _ dv _ _ _ _ _ => G.length - lenV dv)
  case atStart => exact ⟨0, oa0, on0, oc0, none, 0, Nat.zero_le _, rfl, rfl, HO0, HD0, HJ0, HC0, HA0⟩
  case round =>
    obtain ⟨k, oa, on, oc, da, dc, hk, rfl, rfl, HO, HD, HJ, HC, HA⟩ := hrel
    obtain ⟨W0, rfl⟩ : ∃ W0, W0 = wr := ⟨_, rfl⟩
    clear HO0 HD0 HJ0 HC0 HA0
    have HON := Lib.hid (show ((G.take k).foldl fR O).length = on by obtain ⟨a', c', e⟩ := HO.out.form; cases e; rfl)
    have honl : on < 1000000 := by rw [← HON.out]; exact HFL.out k
    have HDN := Lib.hid (show (G.take k).length = k by rw [List.length_take]; omega)
    have HKV0 := Lib.hid (HKV.out.below (HBW.out W0 HC.out))
    have HP0 := Lib.hid (HPX.out W0 HC.out)
    have hkKN : k ≤ KN := Nat.le_trans hk HGL.out
    have HB0 := Lib.hid (BestI.zero K p (G.take k))
    have HS0 := Lib.hid (Below.refl W0.heap.size W0)
    go_wp2_with fail
    go_loopw [12, 13, 14, 15] (fun bv iv tv kv wr => ∃ (i : Nat) (b : Int), i ≤ KN ∧ (-1 ≤ b ∧ b < 1000000) ∧ iv = .int .i64 (i : Int) ∧ bv = .int .i64 b ∧ Hid (BestI K p (G.take k) i b) ∧ Hid (Below W0.heap.size W0 wr)) (fun _ iv _ _ _ => KN - (intOf iv).toNat)
    case atStart => exact ⟨0, -1, Nat.zero_le _, by omega, rfl, rfl, HB0, HS0⟩
    case round =>
      obtain ⟨i, b, hi, hb, rfl, rfl, HBI, HS⟩ := hrel
      obtain ⟨W1, rfl⟩ : ∃ W1, W1 = wr := ⟨_, rfl⟩
      clear HB0 HS0
      have HP1 := Lib.hid ((HS.out.block Pb (Array.getElem?_eq_some_iff.1 HP0.out).1).trans HP0.out)
      by_cases hlt : i < KN
      case neg =>
        obtain rfl : i = KN := by omega
        have hbn := HBEST.out k b HBI.out
        have HC1 := Lib.hid (HC.out.trans (Chg.of_below (F := fun _ => False) HS.out) (fun j hj => hj.elim))
        have HO1 := Lib.hid (HO.out.below HS.out)
        have HD1 := Lib.hid (HD.out.below HS.out)
        by_cases hb0 : b < 0
        case pos =>
          have hbd : decide (b < 0) = true := decide_eq_true hb0
          have HFE := Lib.hid (show OwnL nodeE W1 wb.heap.size (.slice oa on oc) R by
            have hkG : k = G.length := by
              rcases hbn with ⟨_, h⟩ | ⟨j, _, _, e, _⟩
              · omega
              · omega
            have h1 := HO1.out
            rw [List.take_of_length_le (by omega), ← HRG.out] at h1
            rw [HBB.out]
            exact h1)
          have HCE := Lib.hid (show Chg (fun k => (Value.slice oa0 on0 oc0).ownBlock = some k) w W1 from (Chg.of_below HB1.out).trans HC1.out (fun j hj => .inl hj))
          have HAE := Lib.hid (show ∀ j, (Value.slice oa on oc).ownBlock = some j → (Value.slice oa0 on0 oc0).ownBlock = some j ∨ w.heap.size ≤ j from fun j hj => (HA.out j hj).imp id (fun h => by have := HPB.out; omega))
          clear hbn
          go_wp2_with fail
          exact bodyPost_ret (v := .slice oa on oc) (by simp [results, Try.results44, go_sem]) rfl ⟨_, rfl, HFE.out, HCE.out, HAE.out⟩
        obtain ⟨j, hjK, hkG, rfl, hjy⟩ : ∃ (j : Nat) (hj : j < K.length) (hk : k < G.length), b = (j : Int) ∧ K[j].id = G[k] := by
          rcases hbn with ⟨e, _⟩ | h
          · omega
          · exact h
        have hbd : decide ((j : Int) < 0) = false := decide_eq_false hb0
        have hjN : (j : Int) < (i : Int) := by have := HKN.out; omega
        obtain ⟨y, hy⟩ : ∃ y, G[k] = y := ⟨_, rfl⟩
        rw [hy] at hjy
        obtain ⟨kg, ko, ek, hkg, hkr⟩ := HKV.out.get hjK
        subst ek
        have hrv : K[j].row = idxL L y := by rw [HROW.out _ (List.getElem_mem hjK), hjy]
        have HY1 := Lib.hid (show ∀ w', Below wb.heap.size wb w' → w'.rangeAt kg (ko + j * 149) (bvs y.1) from fun w' hw' => by
          rw [← hjy]
          exact kn_id (range_below (show wb.rangeAt kg (ko + j * 149) K[j].cells from hkr) hkg hw'))
        have HY2 := Lib.hid (show ∀ w', Below wb.heap.size wb w' → w'.cell? ⟨kg, ko + j * 149 + 32, none⟩ = some (.int .i64 (idxL L y)) from fun w' hw' => by
          rw [← hrv]
          exact kn_row (range_below (show wb.rangeAt kg (ko + j * 149) K[j].cells from hkr) hkg hw'))
        have HYG := Lib.hid (show G.take (k + 1) = G.take k ++ [y] by rw [List.take_succ_eq_append_getElem hkG, hy])
        have HFY := Lib.hid (HFIN.out y (hy ▸ List.getElem_mem hkG))
        have HYA := Lib.hid (HY1.out W1 (HBW.out W1 HC1.out))
        clear hbn hjy hy hkr hkg hrv
        go_wp2_with (with_reducible refine wpList_load_mid rfl 35 (.tmp 76) rfl kg (ko + j * 149) rfl (bvs y.1) _ HYA.out Try.underlying35 rfl (sizeId y) ?_; refine Stop.on ?_)
        refine Stop.go ?_
        try simp only [Act.put, List.setIfInBounds_toArray, List.set_cons_zero, List.set_cons_succ]
        go_wp2_with (refine wpList_litsV idE rfl (some 78) rfl 1 _ rfl [y] rfl rfl (by decide) (by decide) ?_; refine Stop.on ?_)
        refine Stop.go ?_
        try simp only [Act.put, List.setIfInBounds_toArray, List.set_cons_zero, List.set_cons_succ]
        intro Wl xl bl sl
        try simp only [Act.put, List.setIfInBounds_toArray, List.set_cons_zero, List.set_cons_succ]
        have HLY := Lib.hid (list_of_block idE (M := [y]) xl (by unfold maxLen; simp))
        have HDl := Lib.hid (HD1.out.below bl)
        have HOl := Lib.hid (HO1.out.below bl)
        have HCl := Lib.hid (HC1.out.trans (Chg.of_below (F := fun _ => False) bl) (fun j hj => hj.elim))
        clear xl bl sl
        go_wp2_with (refine wpList_appL idE rfl (.tmp 72) (.tmp 78) rfl rfl HDl.out rfl HLY.out (n := k) (m := 1) HDN.out rfl (by omega) HCl.out.size ?_; refine Stop.on ?_)
        refine Stop.go ?_
        try simp only [Act.put, List.setIfInBounds_toArray, List.set_cons_zero, List.set_cons_succ]
        intro da5 dc5 W5 ho5 hg5 hat5
        try simp only [Act.put, List.setIfInBounds_toArray, List.set_cons_zero, List.set_cons_succ]
        have HD5 := Lib.hid (show OwnL idE W5 w1.heap.size (.slice da5 (k + 1) dc5) (G.take (k + 1)) by rw [HYG.out]; exact ho5)
        have hc5 := OwnL.grown_chg hg5
        have HO5 := Lib.hid (HOl.out.chg hc5 (fun x hx hx2 => HJ.out x hx2 hx))
        have HC5 := Lib.hid (HCl.out.trans hc5 (fun x hx => .inr (HD.out.lt hx).1))
        have HJ5 := Lib.hid (show ∀ x, (Value.slice da5 (k + 1) dc5).ownBlock = some x → (Value.slice oa on oc).ownBlock ≠ some x from fun x hx hx2 => by
          rcases hat5 x hx with h | h
          · exact HJ.out x h hx2
          · have := (HOl.out.lt hx2).2
            omega)
        have HS5 := Lib.hid (HBW.out W5 HC5.out)
        clear ho5 hg5 hat5 hc5
        go_wp2_with fail
        refine wp_region_noPanic ?_
        refine wp_region_H (Below wb.heap.size wb) (by kernel_rfl) ?_
        have hS0 : (Below wb.heap.size wb) W5.drew := HS5.out.trans ((Below.refl W5.heap.size W5).drew.mono HS5.out.size)
        have hOd := (show OwnL nodeE W5 wb.heap.size _ _ from HBB.out ▸ HO5.out).below (Below.refl W5.heap.size W5).drew
        have hDd := HD5.out.below (Below.refl W5.heap.size W5).drew
        have hCd := HC5.out.drew
        obtain ⟨wd, hwd⟩ : ∃ wd, W5.drew = wd := ⟨_, rfl⟩
        rw [hwd] at hS0 hOd hDd hCd ⊢
        clear hwd
        refine wpAnyH_takeI (i := 0) (v := ?v1) rfl (by kernel_rfl) (by kernel_rfl) (by kernel_rfl) (fun _ _ _ h => h) (yieldsIf_run rfl (fun w' hw' => ?y1)) hS0 ?_
        case y1 => first | (go_simp; rfl) | (go_simp; done) | rfl
        simp only [Act.put, List.setIfInBounds_toArray, List.set_cons_zero, List.set_cons_succ]
        refine wpAnyH_takeI (i := 1) (v := ?v2) rfl (by kernel_rfl) (by kernel_rfl) (by kernel_rfl) (fun _ _ _ h => h) (yieldsIf_run rfl (fun w' hw' => ?y2)) hS0 ?_
        case y2 => first | (go_simp; rfl) | (go_simp; done) | rfl
        simp only [Act.put, List.setIfInBounds_toArray, List.set_cons_zero, List.set_cons_succ]
        refine wpAnyH_takeI (i := 2) (v := ?v3) rfl (by kernel_rfl) (by kernel_rfl) (by kernel_rfl) (fun _ _ _ h => h) (yieldsIf_run rfl (fun w' hw' => ?y3)) hS0 ?_
        case y3 => first | (go_simp; rfl) | (go_simp; done) | rfl
        simp only [Act.put, List.setIfInBounds_toArray, List.set_cons_zero, List.set_cons_succ]
        refine wpAnyH_takeI (i := 3) (v := ?v4) rfl (by kernel_rfl) (by kernel_rfl) (by kernel_rfl) (fun _ _ _ h => h) (yieldsIf_run rfl (fun w' hw' => ?y4)) hS0 ?_
        case y4 => first | (go_simp; rfl) | (go_simp; done) | rfl
        simp only [Act.put, List.setIfInBounds_toArray, List.set_cons_zero, List.set_cons_succ]
        refine wpAnyH_takeI (i := 4) (v := ?v5) rfl (by kernel_rfl) (by kernel_rfl) (by kernel_rfl) (fun _ _ _ h => h) (yieldsIf_run rfl (fun w' hw' => ?y5)) hS0 ?_
        case y5 => first | (go_simp; rfl) | (go_simp; done) | rfl
        simp only [Act.put, List.setIfInBounds_toArray, List.set_cons_zero, List.set_cons_succ]
        refine wpAnyH_takeI (i := 5) (v := .agg (bvs y.1).toArray) rfl (by kernel_rfl) (by kernel_rfl) (by kernel_rfl) (fun _ _ _ h => h) (yieldsIf_load_mid rfl 35 (.tmp 84) rfl kg (ko + j * 149) rfl (bvs y.1) _ (fun w' hw' => HY1.out w' hw') Try.underlying35 rfl (sizeId y)) hS0 ?_
        simp only [Act.put, List.setIfInBounds_toArray, List.set_cons_zero, List.set_cons_succ]
        refine wpAnyH_takeI (i := 6) (v := ?v6) rfl (by kernel_rfl) (by kernel_rfl) (by kernel_rfl) (fun _ _ _ h => h) (yieldsIf_run rfl (fun w' hw' => ?y6)) hS0 ?_
        case y6 => first | (go_simp; rfl) | (go_simp; done) | rfl
        simp only [Act.put, List.setIfInBounds_toArray, List.set_cons_zero, List.set_cons_succ]
        refine wpAnyH_takeI (i := 7) (v := ?v7) rfl (by kernel_rfl) (by kernel_rfl) (by kernel_rfl) (fun _ _ _ h => h) (yieldsIf_run rfl (fun w' hw' => ?y7)) hS0 ?_
        case y7 => first | (go_simp; rfl) | (go_simp; done) | rfl
        simp only [Act.put, List.setIfInBounds_toArray, List.set_cons_zero, List.set_cons_succ]
        refine wpAnyH_takeI (i := 8) (v := ?v8) rfl (by kernel_rfl) (by kernel_rfl) (by kernel_rfl) (fun _ _ _ h => h) (yieldsIf_run rfl (fun w' hw' => ?y8)) hS0 ?_
        case y8 => first | (go_simp; rfl) | (go_simp; done) | rfl
        simp only [Act.put, List.setIfInBounds_toArray, List.set_cons_zero, List.set_cons_succ]
        refine wpAnyH_takeI (i := 9) (v := ?v9) rfl (by kernel_rfl) (by kernel_rfl) (by kernel_rfl) (fun _ _ _ h => h) (yieldsIf_run rfl (fun w' hw' => ?y9)) hS0 ?_
        case y9 => first | (go_simp; rfl) | (go_simp; done) | rfl
        simp only [Act.put, List.setIfInBounds_toArray, List.set_cons_zero, List.set_cons_succ]
        refine wpAnyH_takeI (i := 10) (v := .int .i64 (idxL L y)) rfl (by kernel_rfl) (by kernel_rfl) (by kernel_rfl) (fun _ _ _ h => h) (yieldsIf_run rfl (fun w' hw' => ?y10)) hS0 ?_
        case y10 => (have q1 := HY2.out w' hw'; clear hw'; first | (go_simp; rfl) | (go_simp; done))
        simp only [Act.put, List.setIfInBounds_toArray, List.set_cons_zero, List.set_cons_succ]
        refine wpAnyH_takeI (i := 11) (v := ?v11) rfl (by kernel_rfl) (by kernel_rfl) (by kernel_rfl) (fun _ _ _ h => h) (yieldsIf_run rfl (fun w' hw' => ?y11)) hS0 ?_
        case y11 => first | (go_simp; rfl) | (go_simp; done) | rfl
        simp only [Act.put, List.setIfInBounds_toArray, List.set_cons_zero, List.set_cons_succ]
        refine wpAnyH_takeI (i := 12) (v := ?v12) rfl (by kernel_rfl) (by kernel_rfl) (by kernel_rfl) (fun _ _ _ h => h) (yieldsIf_run rfl (fun w' hw' => ?y12)) hS0 ?_
        case y12 => first | (go_simp; rfl) | (go_simp; done) | rfl
        simp only [Act.put, List.setIfInBounds_toArray, List.set_cons_zero, List.set_cons_succ]
        refine wpAnyH_takeI (i := 13) (v := .agg (NodeV.cells ⟨y, idxL L y, at_, d⟩).toArray) rfl (by kernel_rfl) (by kernel_rfl) (by kernel_rfl) (fun _ _ _ h => h) (yieldsIf_run rfl (fun w' hw' => exec_buildL 37 _ rfl [(0, .agg (bvs y.1).toArray), (1, .int .i64 (idxL L y)), (2, .int .i64 at_), (3, .int .i64 d)] rfl (build_node ⟨y, idxL L y, at_, d⟩ _))) hS0 ?_
        simp only [Act.put, List.setIfInBounds_toArray, List.set_cons_zero, List.set_cons_succ]
        refine wpAnyH_do (i := 14) (by kernel_rfl) rfl rfl (fun K hK => ?_)
        refine wp_lit1 25 37 (.tmp 93) rfl (nodeE.enc (⟨y, idxL L y, at_, d⟩ : NodeV)).toArray rfl Try.underlying25 (sizeNodeB _) (by kernel_rfl) (by rw [sizeNode35]; decide) (by rw [sizeNode35]; decide) ?_
        obtain ⟨Wm, hwn⟩ : ∃ Wm, wd.alloc (.cells (nodeE.enc (⟨y, idxL L y, at_, d⟩ : NodeV)).toArray 37) = Wm := ⟨_, rfl⟩
        have hbn : Below wd.heap.size wd Wm := hwn ▸ one_below nodeE wd (⟨y, idxL L y, at_, d⟩ : NodeV)
        have hLWm : Wm.heap[wd.heap.size]? = some (.cells (nodeE.enc (⟨y, idxL L y, at_, d⟩ : NodeV)).toArray 37 (0, 0)) := by rw [← hwn]; exact heap_alloc_new _ _
        rw [hwn]
        have hOWm := hOd.below hbn
        have hsWm := hS0.trans (hbn.mono hS0.size)
        have hbWm := hbn
        clear hbn hwn
        refine hK _ _ (hsWm) ?_
        clear hK K
        try simp only [Act.put, List.setIfInBounds_toArray, List.set_cons_zero, List.set_cons_succ]
        refine wpAnyH_do (i := 15) (by kernel_rfl) rfl rfl (fun K hK => ?_)
        refine wp_appL nodeE (.tmp 80) (.tmp 94) rfl rfl hOWm rfl (list_block1 nodeE hLWm) (n := on) (m := 1) HON.out rfl (by omega) hsWm.size ?_
        intro a6 c6 W6 hOW6 hgW6 haW6
        have hsW6 := hsWm.trans (hOWm.grown_below hgW6 hsWm.size)
        refine hK _ _ (hsW6) ?_
        clear hK K
        try simp only [Act.put, List.setIfInBounds_toArray, List.set_cons_zero, List.set_cons_succ]
        refine wpAnyH_takeI (i := 16) (v := ?v13) rfl (by kernel_rfl) (by kernel_rfl) (by kernel_rfl) (fun _ _ _ h => h) (yieldsIf_run rfl (fun w' hw' => ?y13)) hsW6 ?_
        case y13 => first | (go_simp; rfl) | (go_simp; done) | rfl
        simp only [Act.put, List.setIfInBounds_toArray, List.set_cons_zero, List.set_cons_succ]
        refine wpAnyH_done (by kernel_rfl) ?_ _
        refine NoPanic.normal ?_
        have hbm : Below wd.heap.size wd Wm := hbWm
        have hc6 := OwnL.grown_chg hgW6
        have HO6 := Lib.hid hOW6
        have HD6 := Lib.hid ((hDd.below hbm).chg hc6 (fun x hx hx2 => HJ5.out x hx hx2))
        have HC6 := Lib.hid ((hCd.trans (Chg.of_below (F := fun _ => False) hbm) (fun x hx => hx.elim)).trans hc6 (fun x hx => HA.out x hx))
        have HJ6 := Lib.hid (show ∀ x, (Value.slice da5 (k + 1) dc5).ownBlock = some x → (Value.slice a6 (on + 1) c6).ownBlock ≠ some x from fun x hx hx2 => by
          rcases haW6 x hx2 with h | h
          · exact HJ5.out x hx h
          · have := ((hDd.below hbm).lt hx).2
            omega)
        have HA6 := Lib.hid (show ∀ x, (Value.slice a6 (on + 1) c6).ownBlock = some x → (Value.slice oa0 on0 oc0).ownBlock = some x ∨ w1.heap.size ≤ x from fun x hx => by
          rcases haW6 x hx with h | h
          · exact HA.out x h
          · right
            have h1 := hCd.size
            have h2 := hbm.size
            omega)
        have HS6 := Lib.hid hsW6
        clear hOd hDd hCd hOWm hLWm hsWm hsW6 hOW6 hgW6 haW6 hS0 hbm hc6
        have HYB := Lib.hid (HY1.out W6 HS6.out)
        go_wp2_with (with_reducible refine wpList_load_mid rfl 35 (.tmp 101) rfl kg (ko + j * 149) rfl (bvs y.1) _ HYB.out Try.underlying35 rfl (sizeId y) ?_; refine Stop.on ?_)
        refine Stop.go ?_
        try simp only [Act.put, List.setIfInBounds_toArray, List.set_cons_zero, List.set_cons_succ]
        go_wp2_with (refine wpList_buildV rfl (some 103) rfl 63 _ rfl [(0, .bool true), (1, .agg (bvs y.1).toArray)] rfl (.agg (pvC (some y)).toArray) (build_par1 y _) ?_; refine Stop.on ?_)
        refine Stop.go ?_
        try simp only [Act.put, List.setIfInBounds_toArray, List.set_cons_zero, List.set_cons_succ]
        obtain ⟨m, hm⟩ : ∃ m, m + 1 = n := by
          cases n with
          | zero => exact absurd HFY.out (fun h => h)
          | succ m => exact ⟨m, rfl⟩
        have HFM := Lib.hid (show ∀ z ∈ chl c (pls L c) (some y), FinK (kidsOf c (pls L c)) m z from by
          have h1 := HFY.out
          rw [← hm] at h1
          exact h1)
        have HVY := Lib.hid (show (G.take (k + 1)).foldl fR O = growL c (pls L c) (idxL L) m (some y) (((G.take k).foldl fR O) ++ [⟨y, idxL L y, at_, d⟩]) (on : Int) (d + 1) by
          rw [HYG.out, List.foldl_append, List.foldl_cons, List.foldl_nil]
          obtain ⟨X, hX⟩ : ∃ X, (G.take k).foldl fR O = X := ⟨_, rfl⟩
          rw [hX]
          have h1 := HON.out
          rw [hX] at h1
          rw [← HFR.out, ← hm, ← h1]
          exact visL_grow c (pls L c) (idxL L) m X y at_ d)
        have hd2 : 0 ≤ d + 1 := by omega
        have hdm : d + 1 + m < 1000000000 := by omega
        have honI : ((on : Int) + 1 - 1) = (on : Int) := by omega
        have HIHm := Lib.hid (HIH.out m hm)
        have HLM := Lib.hid (show (growL c (pls L c) (idxL L) m (some y) (((G.take k).foldl fR O) ++ [⟨y, idxL L y, at_, d⟩]) (on : Int) (d + 1)).length < 1000000 by rw [← HVY.out]; exact HFL.out (k + 1))
        clear hm honI
        go_wp2_with fail
        refine (HIHm.out _ (some y) _ _ (on : Int) (d + 1) HFM.out HS6.out HO6.out HLM.out hd2 hdm).mono ?_
        rintro e W7 ⟨v7, rfl, ho7, hc7, ha7⟩
        rw [← HVY.out] at ho7
        obtain ⟨on7, hon7⟩ : ∃ on7, ((G.take (k + 1)).foldl fR O).length = on7 := ⟨_, rfl⟩
        obtain ⟨oa7, oc7, rfl⟩ := ho7.form
        rw [hon7] at ho7 ha7 ⊢
        have HO7 := Lib.hid (show OwnL nodeE W7 B (.slice oa7 on7 oc7) ((G.take (k + 1)).foldl fR O) by rw [← HBB.out]; exact ho7)
        have HD7 := Lib.hid (HD6.out.chg hc7 (fun x hx hx2 => HJ6.out x hx hx2))
        have HC7 := Lib.hid (HC6.out.trans hc7 (fun x hx => HA6.out x hx))
        have HJ7 := Lib.hid (show ∀ x, (Value.slice da5 (k + 1) dc5).ownBlock = some x → (Value.slice oa7 on7 oc7).ownBlock ≠ some x from fun x hx hx2 => by
          rcases ha7 x hx2 with h | h
          · exact HJ6.out x hx h
          · have := (HD6.out.lt hx).2
            omega)
        have HA7 := Lib.hid (show ∀ x, (Value.slice oa7 on7 oc7).ownBlock = some x → (Value.slice oa0 on0 oc0).ownBlock = some x ∨ w1.heap.size ≤ x from fun x hx => by
          rcases ha7 x hx with h | h
          · exact HA6.out x h
          · right
            have := HC6.out.size
            omega)
        clear ho7 hc7 ha7 hon7
        go_wp2_with fail
        go_roundw
        case rel => exact ⟨k + 1, oa7, on7, oc7, da5, dc5, by omega, rfl, rfl, HO7, HD7, HJ7, HC7, HA7⟩
        case measure => simp [lenV] <;> omega
      have hiK : i < K.length := by rw [HKN.out]; exact hlt
      have hiI : (i : Int) < (KN : Int) := by omega
      obtain ⟨kg, ko, ek, hkg, hkr⟩ := (HKV0.out.below HS.out).get hiK
      subst ek
      obtain ⟨kn, hkn⟩ : ∃ kn, K[i] = kn := ⟨_, rfl⟩
      have HKNE := Lib.hid hkn
      have HKA := Lib.hid (show ∀ w', Below W1.heap.size W1 w' → ∀ (j : Nat) (hj : j < K.length), w'.rangeAt kg (ko + j * 149) K[j].cells from fun w' hw' j hj => by
        obtain ⟨g', o', e', hg', hr'⟩ := (HKV0.out.below HS.out).get hj
        cases e'
        exact range_below (show W1.rangeAt kg (ko + j * 149) K[j].cells from hr') hg' hw')
      have HKR := Lib.hid (show ∀ w', Below W1.heap.size W1 w' → w'.rangeAt kg (ko + i * 149) kn.cells from fun w' hw' => by rw [← hkn]; exact HKA.out w' hw' i hiK)
      have HPR := Lib.hid (show ∀ w', Below W1.heap.size W1 w' → w'.heap[Pb]? = some (.cells (pvC p).toArray 63 (0, 0)) from fun w' hw' => (hw'.block Pb (Array.getElem?_eq_some_iff.1 HP1.out).1).trans HP1.out)
      clear hkr hkg hkn
      go_wp2_with fail
      refine wp_region_seq 7 (by kernel_rfl) (by kernel_rfl) ?_
      simp only [List.take_succ_cons, List.take_zero, List.drop_succ_cons, List.drop_zero]
      obtain ⟨wd, hwd⟩ : ∃ wd, W1.drew = wd := ⟨_, rfl⟩
      have hd_wd : Below W1.heap.size W1 wd ∧ wd.heap.size = W1.heap.size := hwd ▸ ⟨(Below.refl _ _).drew, rfl⟩
      rw [hwd]
      clear hwd
      have HUP := Lib.hid (kn_up (HKR.out wd hd_wd.1))
      have HPd := Lib.hid (HPR.out wd hd_wd.1)
      have HSd := Lib.hid hd_wd.1
      clear hd_wd
      go_wp2_with (with_reducible refine wpList_load_mid rfl 63 (.tmp 25) rfl kg (ko + i * 149 + 116) rfl (pvC kn.up) _ HUP.out Try.underlying63 rfl (sizePar kn.up) ?_; refine Stop.on ?_)
      refine Stop.go ?_
      try simp only [Act.put, List.setIfInBounds_toArray, List.set_cons_zero, List.set_cons_succ]
      go_wp2_with (refine wpList_loadV rfl (some 27) rfl 63 (.tmp 7) rfl _ rfl 63 (pvC p).toArray (0, 0) _ HPd.out Try.underlying63 rfl (sizeParA p) ?_; refine Stop.on ?_)
      refine Stop.go ?_
      try simp only [Act.put, List.setIfInBounds_toArray, List.set_cons_zero, List.set_cons_succ]
      refine wpList_runI rfl (some 28) rfl (.bool (!decide (kn.up = p))) _ (op_neq 63 (.tmp 26) (.tmp 27) 63 rfl rfl rfl guard_Par (neq_Par kn.up p _)) ?_
      try simp only [Act.put, List.setIfInBounds_toArray, List.set_cons_zero, List.set_cons_succ]
      obtain ⟨tb0, htb0⟩ : ∃ tb0, (!decide (kn.up = p)) = tb0 := ⟨_, rfl⟩
      rw [htb0]
      refine HeadPost.mk ?_
      have HT0 := Lib.hid (show tb0 = true ↔ kn.up ≠ p ∨ kn.id ∈ (G.take k).take 0 by rw [← htb0, List.take_zero]; simp)
      have HR0 := Lib.hid (Below.refl wd.heap.size wd)
      clear htb0
      go_wp2_with fail
      go_loopw [14, 15] (fun tv mv wr => ∃ (m : Nat) (tb : Bool), m ≤ k ∧ mv = .int .i64 (m : Int) ∧ tv = .bool tb ∧ Hid (tb = true ↔ kn.up ≠ p ∨ kn.id ∈ (G.take k).take m) ∧ Hid (Below wd.heap.size wd wr)) (fun _ mv _ => k - (intOf mv).toNat)
      case atStart => exact ⟨0, tb0, Nat.zero_le _, rfl, rfl, HT0, HR0⟩
      case round =>
        obtain ⟨m, tb, hm, rfl, rfl, HT, HR⟩ := hrel
        obtain ⟨W2, rfl⟩ : ∃ W2, W2 = wr := ⟨_, rfl⟩
        clear HR0 HT0
        have HS2 := Lib.hid (HSd.out.trans (HR.out.mono HSd.out.size))
        by_cases hmk : m < k
        case neg =>
          obtain rfl : m = k := by omega
          have hall : tb = true ↔ K[i].up ≠ p ∨ K[i].id ∈ G.take m := by
            have h := HT.out
            rw [List.take_of_length_le (l := G.take m) (by rw [HDN.out]; exact Nat.le_refl _), ← HKNE.out] at h
            exact h
          have HCN := Lib.hid (cand_next (p := p) (D := G.take m) hiK hall)
          have HSe0 := Lib.hid (HS.out.trans (HS2.out.mono HS.out.size))
          clear hall
          go_wp2_with fail
          refine wp_region_seq 16 (by kernel_rfl) (by kernel_rfl) ?_
          simp only [List.take_succ_cons, List.take_zero, List.drop_succ_cons, List.drop_zero]
          obtain ⟨wf, hwd⟩ : ∃ wf, W2.drew = wf := ⟨_, rfl⟩
          have hd_wf : Below W2.heap.size W2 wf ∧ wf.heap.size = W2.heap.size := hwd ▸ ⟨(Below.refl _ _).drew, rfl⟩
          rw [hwd]
          clear hwd
          have HSf := Lib.hid (HS2.out.trans (hd_wf.1.mono HS2.out.size))
          have HSe := Lib.hid (HSe0.out.trans (hd_wf.1.mono HSe0.out.size))
          clear hd_wf
          cases tb with
          | true =>
            have HBN := Lib.hid (HBI.out.skip (fun h => by have := HCN.out.1 h; simp at this))
            go_wp2_with fail
            refine HeadPost.mk ?_
            go_wp2_with fail
            go_roundw
            case rel => exact ⟨i + 1, b, by omega, by omega, by go_num, rfl, HBN, HSe⟩
            case measure => simp [intOf] <;> omega
          | false =>
            have HCY := Lib.hid (HCN.out.2 rfl)
            by_cases hb0 : b < 0
            case pos =>
              have hbd : decide (b < 0) = true := decide_eq_true hb0
              have HBN := Lib.hid (HBI.out.take hiK HCY.out (.inl hb0))
              go_wp2_with fail
              refine HeadPost.mk ?_
              go_wp2_with fail
              go_roundw
              case rel => exact ⟨i + 1, (i : Int), by omega, by omega, by go_num, rfl, HBN, HSe⟩
              case measure => simp [intOf] <;> omega
            obtain ⟨j, rfl⟩ : ∃ j : Nat, b = (j : Int) := ⟨b.toNat, by omega⟩
            obtain ⟨j', hjK, ej, hji, _⟩ := HBI.out.yes (by omega)
            obtain rfl : j = j' := by omega
            clear ej
            have hbd : decide ((j : Int) < 0) = false := decide_eq_false hb0
            have hjN : (j : Int) < (KN : Int) := by omega
            have HPI := Lib.hid (kn_place (HKA.out wf HSf.out i hiK))
            have HPJ := Lib.hid (kn_place (HKA.out wf HSf.out j hjK))
            go_wp2_with (refine wpList_met rfl ?_; with_reducible refine wpList_load_mid rfl 43 (.tmp 57) rfl kg (ko + i * 149 + 33) rfl K[i].place.cells _ HPI.out Try.underlying43 rfl (sizeRow K[i].place) ?_; refine Stop.on ?_)
            refine Stop.go ?_
            try simp only [Act.put, List.setIfInBounds_toArray, List.set_cons_zero, List.set_cons_succ]
            go_wp2_with (refine wpList_met rfl ?_; with_reducible refine wpList_load_mid rfl 43 (.tmp 62) rfl kg (ko + j * 149 + 33) rfl K[j].place.cells _ HPJ.out Try.underlying43 rfl (sizeRow K[j].place) ?_; refine Stop.on ?_)
            refine Stop.go ?_
            try simp only [Act.put, List.setIfInBounds_toArray, List.set_cons_zero, List.set_cons_succ]
            refine HeadPost.mk ?_
            obtain ⟨cv, hcv⟩ : ∃ cv, cmpT K[i].place.tw K[j].place.tw = cv := ⟨_, rfl⟩
            go_wp2_with fail
            refine (ordRow K[i].place K[j].place _).mono ?_
            rintro e We ⟨rfl, q9, os9, rfl⟩
            obtain ⟨W9, hW9⟩ : ∃ W9, grow (wf.drewN q9) os9 = W9 := ⟨_, rfl⟩
            have hb9 := grow_below wf q9 os9
            rw [hW9] at hb9 ⊢
            rw [hcv]
            have HS9 := Lib.hid (HSe.out.trans (hb9.mono HSe.out.size))
            clear hb9 hW9
            by_cases hc0 : cv < 0
            case pos =>
              have hcd : decide (cv < 0) = true := decide_eq_true hc0
              have HBN := Lib.hid (HBI.out.take hiK HCY.out (.inr ⟨j, hjK, rfl, by rw [hcv]; exact hc0⟩))
              go_wp2_with fail
              go_roundw
              case rel => exact ⟨i + 1, (i : Int), by omega, by omega, by go_num, rfl, HBN, HS9⟩
              case measure => simp [intOf] <;> omega
            have hcd : decide (cv < 0) = false := decide_eq_false hc0
            have HBN := Lib.hid (HBI.out.keep hiK hjK rfl (by rw [hcv]; exact hc0))
            go_wp2_with fail
            go_roundw
            case rel => exact ⟨i + 1, (j : Int), by omega, by omega, by go_num, rfl, HBN, HS9⟩
            case measure => simp [intOf] <;> omega
        have hmG : m < (G.take k).length := by rw [HDN.out]; exact hmk
        have hmI : (m : Int) < (k : Int) := by omega
        obtain ⟨dg, do_, ed, hdg, hdr⟩ := ((HD.out.at_.below HS.out).below HS2.out).get hmG
        subst ed
        obtain ⟨z, hz⟩ : ∃ z, (G.take k)[m] = z := ⟨_, rfl⟩
        rw [hz] at hdr
        have HZR := Lib.hid (show ∀ w', Below W2.heap.size W2 w' → w'.rangeAt dg (do_ + m * 32) (bvs z.1) from fun w' hw' => range_below hdr hdg hw')
        have HNX := Lib.hid (show kn.id ∈ (G.take k).take (m + 1) ↔ kn.id ∈ (G.take k).take m ∨ z = kn.id by
          rw [List.take_succ_eq_append_getElem hmG, hz, List.mem_append, List.mem_singleton]
          exact ⟨fun h => h.imp id Eq.symm, fun h => h.imp id Eq.symm⟩)
        clear hz hdr hdg hmG
        go_wp2_with fail
        refine wp_region_seq 13 (by kernel_rfl) (by kernel_rfl) ?_
        simp only [List.take_succ_cons, List.take_zero, List.drop_succ_cons, List.drop_zero]
        obtain ⟨we, hwd⟩ : ∃ we, W2.drew = we := ⟨_, rfl⟩
        have hd_we : Below W2.heap.size W2 we ∧ we.heap.size = W2.heap.size := hwd ▸ ⟨(Below.refl _ _).drew, rfl⟩
        rw [hwd]
        clear hwd
        have HZe := Lib.hid (HZR.out we hd_we.1)
        have HIe := Lib.hid (kn_id (HKR.out we (HS2.out.trans (hd_we.1.mono HS2.out.size))))
        have HRe := Lib.hid (HR.out.trans (hd_we.1.mono HR.out.size))
        clear hd_we
        cases tb with
        | true =>
          have HTN := Lib.hid (show kn.up ≠ p ∨ kn.id ∈ (G.take k).take (m + 1) from (HT.out.1 (by simp)).imp id (fun h => HNX.out.2 (.inl h)))
          go_wp2_with fail
          refine HeadPost.mk ?_
          go_wp2_with fail
          go_roundw
          case rel => exact ⟨m + 1, true, by omega, by go_num, rfl, Lib.hid ⟨fun _ => HTN.out, fun _ => rfl⟩, HRe⟩
          case measure => simp [intOf] <;> omega
        | false =>
          go_wp2_with (refine wpList_met rfl ?_; with_reducible refine wpList_load_mid rfl 35 (.tmp 39) rfl dg (do_ + m * 32) rfl (bvs z.1) _ HZe.out Try.underlying35 rfl (sizeId z) ?_; refine Stop.on ?_)
          refine Stop.go ?_
          try simp only [Act.put, List.setIfInBounds_toArray, List.set_cons_zero, List.set_cons_succ]
          go_wp2_with (refine wpList_met rfl ?_; with_reducible refine wpList_load_mid rfl 35 (.tmp 44) rfl kg (ko + i * 149) rfl (bvs kn.id.1) _ HIe.out Try.underlying35 rfl (sizeId kn.id) ?_; refine Stop.on ?_)
          refine Stop.go ?_
          try simp only [Act.put, List.setIfInBounds_toArray, List.set_cons_zero, List.set_cons_succ]
          refine wpList_met rfl ?_
          refine wpList_runI rfl (some 46) rfl (.bool (decide (z = kn.id))) _ (op_eql 35 (.tmp 40) (.tmp 45) 35 rfl rfl rfl guard_Id (eql_Id z kn.id _)) ?_
          try simp only [Act.put, List.setIfInBounds_toArray, List.set_cons_zero, List.set_cons_succ]
          obtain ⟨tb2, htb2⟩ : ∃ tb2, decide (z = kn.id) = tb2 := ⟨_, rfl⟩
          rw [htb2]
          have HTN := Lib.hid (show tb2 = true ↔ kn.up ≠ p ∨ kn.id ∈ (G.take k).take (m + 1) by
            have h1 := HT.out
            rw [HNX.out, ← or_assoc, ← h1, ← htb2]
            simp)
          clear htb2
          go_wp2_with fail
          refine HeadPost.mk ?_
          go_wp2_with fail
          go_roundw
          case rel => exact ⟨m + 1, tb2, by omega, by go_num, rfl, HTN, HRe⟩
          case measure => simp [intOf] <;> omega
theorem grow_any {wb : World} {L : List RowV} {c : Par} {K : List KnV} {kv : Value} (hkv : ListAt knE wb kv K) (hok : KnOk L c K) (hn : (L.map (·.id)).Nodup) (hac : ∀ x, ¬ onC c x) (hKl : K.length < 1000000) : ∀ n, GrowAt wb L c kv n
  | 0 => grow_step hkv hok hn hac hKl 0 (fun m hm => by omega)
  | n + 1 => grow_step hkv hok hn hac hKl (n + 1) (fun m hm => by
    obtain rfl : m = n := by omega
    exact grow_any hkv hok hn hac hKl m)
def ForPost (w : World) (R : List NodeV) (e : Ending) (w' : World) : Prop := ∃ v', e = .returned v' ∧ OwnL nodeE w' w.heap.size v' R ∧ Below w.heap.size w w'
set_option maxRecDepth 100000 in
set_option maxHeartbeats 2000000 in
theorem forest_any {w : World} (v : Value) (L : List RowV) (c : Par) (hc : IsCut (parP L) (arrS L) c) (hv : RowsAt w v L) (hn : (L.map (·.id)).Nodup) (hl : L.length < 100000) :
    Calls Try.prog 20 #[v] w (ForPost w (forestV L c)) := by
  obtain ⟨va, vc, rfl⟩ := hv.l.form
  have hac := cut_acyclic hc
  have hlen : (forestV L c).length < 1000000 := by
    rw [forestV_eq hn]
    unfold forestS
    have h1 := forL_len hac (pls_nodup hn c) (idxL L) ((place (isArt (arrS L)) c (arrS L)).pl.length + 1)
    have h2 := pls_len L c
    unfold pls at h1 h2
    omega
  have hpl := pls_len L c
  have HPL := Lib.hid hpl
  have HLEN := Lib.hid hlen
  have HAC := Lib.hid hac
  have HV := Lib.hid hv
  have HND := Lib.hid hn
  have HC := Lib.hid hc
  obtain ⟨N, hN⟩ : ∃ N, L.length = N := ⟨_, rfl⟩
  have HN := Lib.hid hN
  rw [hN] at hl ⊢
  clear hac hlen hpl hv hn hc hN
  go_enter Try.func20, Try.ntmps20
  go_wp2_with fail
  refine (knots_any _ L c HC.out (by have := HV.out; rw [HN.out] at this; exact this) HND.out (by rw [HN.out]; omega)).mono ?_
  rintro e Wk ⟨kv, K, rfl, hok, hki, hbk⟩
  have HKV := Lib.hid hok.at_
  have HKO := Lib.hid (hki.ok HND.out HC.out)
  have HKL := Lib.hid (show K.length < 1000000 by have := hki.len; have := HN.out; omega)
  have HBK := Lib.hid hbk
  clear hok hki hbk
  go_wp2_with (refine wpList_buildV rfl (some 5) rfl 63 _ rfl [] rfl (.agg (pvC none).toArray) (build_par0 _) ?_; refine Stop.on ?_)
  refine Stop.go ?_
  try simp only [Act.put, List.setIfInBounds_toArray, List.set_cons_zero, List.set_cons_succ]
  go_wp2_with fail
  refine ((grow_any HKV.out HKO.out HND.out HAC.out HKL.out ((pls L c).length + 1)) Wk none (.slice none 0 0) [] (-1) 0 (fun y _ => fin_all HAC.out y) (Below.refl _ _) (ownL_nil nodeE Wk Wk.heap.size) (by rw [growL_none L HND.out c]; exact HLEN.out) (by omega) (by have := HPL.out; have := HN.out; omega)).mono ?_
  rintro e Wg ⟨gv, rfl, hog, hcg, _⟩
  rw [growL_none L HND.out c] at hog
  have HOG := Lib.hid (hog.base HBK.out.size)
  have HBG := Lib.hid (HBK.out.trans ((hcg.below (B := Wk.heap.size) (fun k hk => by cases hk) (Nat.le_refl _)).mono HBK.out.size))
  clear hog hcg
  go_wp2_with fail
  exact bodyPost_ret (v := gv) (by simp [results, Try.results20, go_sem]) rfl ⟨_, rfl, HOG.out, HBG.out⟩
end Go.Proofs.Ythfinofmbnfijaa

namespace Go.Proofs.Ythfinofmbnfijaa
open Go.RowKit
set_option linter.unusedVariables false
set_option linter.unusedSimpArgs false

def parA (L : List NodeV) (j : Nat) : Int := ((L[j]?).map (·.parent)).getD (-1)
/-- The path that the check holds ahead of the j-th node. -/
def pathTo (L : List NodeV) : Nat → List Nat
  | 0 => []
  | j + 1 => j :: popL (parA L j) (pathTo L j)
theorem parA_at {L : List NodeV} {j : Nat} (hj : j < L.length) : parA L j = L[j].parent := by
  unfold parA
  rw [List.getElem?_eq_getElem hj]
  rfl
structure ChkN (L : List NodeV) (j : Nat) (n : NodeV) : Prop where
  row : -1 ≤ n.row
  par : -1 ≤ n.parent
  lt : n.parent < (j : Int)
  path : n.parent ≠ -1 → popL n.parent (pathTo L j) ≠ []
  dep : n.depth = depOf L n.parent
  new : ∀ m ∈ L.take j, m.id ≠ n.id
theorem chk_from {L : List NodeV} : ∀ (f i : Nat), i + f = L.length → chkGo L f i (pathTo L i) = 0 → ∀ j (hj : j < L.length), i ≤ j → ChkN L j L[j]
  | 0, i, hi, _, j, hj, hij => absurd hj (by omega)
  | f + 1, i, hi, h, j, hj, hij => by
    have hiL : i < L.length := by omega
    unfold chkGo at h
    rw [List.getElem?_eq_getElem hiL] at h
    dsimp only at h
    by_cases h1 : L[i].row < -1 ∨ L[i].parent < -1 ∨ (i : Int) ≤ L[i].parent
    · rw [if_pos h1] at h; exact absurd h (by decide)
    rw [if_neg h1] at h
    by_cases h2 : L[i].parent ≠ -1 ∧ popL L[i].parent (pathTo L i) = []
    · rw [if_pos h2] at h; exact absurd h (by decide)
    rw [if_neg h2] at h
    by_cases h3 : L[i].depth ≠ depOf L L[i].parent
    · rw [if_pos h3] at h; exact absurd h (by decide)
    rw [if_neg h3] at h
    by_cases h4 : (L.take i).any (fun m => decide (m.id = L[i].id)) = true
    · rw [if_pos h4] at h; exact absurd h (by decide)
    rw [if_neg h4] at h
    by_cases e : i = j
    · subst e
      refine ⟨by omega, by omega, by omega, fun hp hpp => h2 ⟨hp, hpp⟩, Classical.byContradiction h3, fun m hm em => h4 (List.any_eq_true.2 ⟨m, hm, decide_eq_true em⟩)⟩
    · refine chk_from f (i + 1) (by omega) ?_ j hj (by omega)
      have hp : pathTo L (i + 1) = i :: popL L[i].parent (pathTo L i) := by
        show i :: popL (parA L i) (pathTo L i) = _
        rw [parA_at hiL]
      rw [hp]
      exact h
theorem chk_all {L : List NodeV} (h : checkP L = 0) (j : Nat) (hj : j < L.length) : ChkN L j L[j] := chk_from L.length 0 (by omega) h j hj (Nat.zero_le _)
theorem chk_dep {L : List NodeV} (h : checkP L = 0) : ∀ j (hj : j < L.length), 0 ≤ L[j].depth ∧ L[j].depth ≤ (j : Int) := fun j => by
  induction j using Nat.strongRecOn with
  | _ j ih =>
    intro hj
    have hc := chk_all h j hj
    have hd := hc.dep
    unfold depOf at hd
    by_cases hp : L[j].parent = -1
    · rw [if_pos hp] at hd
      omega
    · rw [if_neg hp] at hd
      have h1 := hc.par
      have h2 := hc.lt
      have hq : L[j].parent.toNat < L.length := by omega
      rw [List.getElem?_eq_getElem hq] at hd
      have h3 := ih L[j].parent.toNat (by omega) hq
      have h4 : L[j].depth = L[L[j].parent.toNat].depth + 1 := hd
      omega
theorem Good.nsm {L : List RowV} {c : Par} {F : List NodeV} (h : Good L c F) (hL : L.length < 100000) (hF : F.length < 1000000) : ∀ n ∈ F, NSm n := fun n hn => by
  obtain ⟨j, hj, rfl⟩ := List.mem_iff_getElem.1 hn
  have h1 := chk_all h.check j hj
  have h2 := chk_dep h.check j hj
  have h3 := h.row _ hn
  have h4 : F[j].row < 100000 := by
    by_cases hp : 0 ≤ idxL L F[j].id
    · obtain ⟨k, hk, e, _⟩ := idxL_pos hp
      omega
    · omega
  have h5 := h1.row
  have h6 := h1.par
  have h7 := h1.lt
  exact ⟨by omega, by omega, by omega⟩
section
variable {P : Program} {sT T : TypeId} {α : Type} {E : ElemTy P sT T α} {w w' : World} {B g n c : Nat} {L : List α}
/-- An element of a list of one's own is written. -/
theorem OwnL.put (h : OwnL E w B (.slice (some ⟨g, 0, none⟩) n c) L) {cs' : Array Value} (hx : w'.heap[g]? = some (.cells cs' T (0, 0))) (i : Nat) (hi : i < L.length) (y : α)
    (hcs : ∀ cs : Array Value, w.heap[g]? = some (.cells cs T (0, 0)) → cs'.size = cs.size ∧ ∀ q, q < cs.size → cs'[q]? = if i * E.k ≤ q ∧ q < i * E.k + E.k then (E.enc y)[q - i * E.k]? else cs[q]?) :
    OwnL E w' B (.slice (some ⟨g, 0, none⟩) n c) (L.set i y) := by
  have hh : w.ownsRow B T E.k (.slice (some ⟨g, 0, none⟩) n c) L.length (L.flatMap E.enc) := h
  rcases hh.2 with ⟨e, _⟩ | ⟨g', cap', cur, e, hb, hg, h1, h2, h3, h4⟩
  · cases e
  simp only [Value.slice.injEq, Option.some.injEq, Addr.mk.injEq] at e
  obtain ⟨⟨rfl, _⟩, rfl, rfl⟩ := e
  obtain ⟨hs, hq⟩ := hcs cur hg
  have hle : L.length * E.k ≤ cur.size := by rw [h3]; exact Nat.mul_le_mul_right _ h1
  have hbd : i * E.k + E.k ≤ L.length * E.k := by
    rw [← Nat.succ_mul]
    exact Nat.mul_le_mul_right _ hi
  show w'.ownsRow B T E.k _ _ _
  refine ⟨by rw [flat_length], .inr ⟨g, c, cs', by rw [List.length_set], hb, hx, by rw [List.length_set]; exact h1, h2, by rw [hs]; exact h3, ?_⟩⟩
  rw [List.length_set, flat_set L i hi y, E.len]
  have e1 : ((L.flatMap E.enc).take (i * E.k)).length = i * E.k := by rw [List.length_take, flat_length]; omega
  apply List.ext_getElem?
  intro q
  rw [List.getElem?_take]
  by_cases hqL : q < L.length * E.k
  · rw [if_pos hqL, Array.getElem?_toList, hq q (by omega)]
    rw [← h4]
    by_cases ha : i * E.k ≤ q
    · rw [List.getElem?_append_right (by rw [h4, e1]; exact ha), h4, e1, ← h4]
      by_cases hb2 : q < i * E.k + E.k
      · rw [if_pos ⟨ha, hb2⟩, List.getElem?_append_left (by rw [E.len]; omega)]
      · rw [if_neg (fun h => hb2 h.2), List.getElem?_append_right (by rw [E.len]; omega), E.len, List.getElem?_drop, List.getElem?_take, if_pos (by omega), Array.getElem?_toList]
        congr 1
        omega
    · rw [if_neg (fun h => ha h.1), List.getElem?_append_left (by rw [h4, e1]; omega), List.getElem?_take, if_pos (by omega), List.getElem?_take, if_pos (by omega), Array.getElem?_toList]
  · rw [if_neg hqL, List.getElem?_eq_none]
    rw [List.length_append, e1, List.length_append, E.len, List.length_drop, flat_length]
    omega
end
theorem wrC_get : ∀ (vs : List Value) (o : Nat) (cs : Array Value) (q : Nat), o + vs.length ≤ cs.size → (wrC cs o vs)[q]? = if o ≤ q ∧ q < o + vs.length then vs[q - o]? else cs[q]?
  | [], o, cs, q, h => by
    rw [if_neg (by simp <;> omega)]
    rfl
  | v :: r, o, cs, q, h => by
    have hl : o + 1 + r.length ≤ (cs.setIfInBounds o v).size := by simp at h ⊢; omega
    rw [wrC, wrC_get r (o + 1) _ q hl]
    rw [List.length_cons] at h ⊢
    by_cases h1 : o = q
    · subst h1
      rw [if_neg (by omega), if_pos (by omega), Nat.sub_self, Array.getElem?_setIfInBounds_self_of_lt (by omega)]
      rfl
    · rw [Array.getElem?_setIfInBounds_ne h1]
      by_cases h2 : o + 1 ≤ q ∧ q < o + 1 + r.length
      · rw [if_pos h2, if_pos (by omega), show q - o = (q - (o + 1)) + 1 by omega, List.getElem?_cons_succ]
      · rw [if_neg h2, if_neg (by omega)]
section
variable {ops : Array Oper} {rest : List Oper} {o : Oper} {a : Act} {w : World} {Q : Exit → Act → World → Prop} {P : Program} {sT T : TypeId} {α : Type} {E : ElemTy P sT T α}
/-- One cell of an element. -/
theorem wpList_setC (hgd : o.guard = none) (hdst : o.dst = none) (ty : TypeId) (x y : Operand) (ho : o.op = .store ty x y) {B g n c : Nat} {L : List α} (hL : OwnL E w B (.slice (some ⟨g, 0, none⟩) n c) L) (i : Nat) (hi : i < L.length) (j : Nat) (hj : j < E.k) (v : Value) (z : α)
    (hx : a.eval x = .pointer (some ⟨g, i * E.k + j, none⟩)) (hy : a.eval y = v) (hv : v.oneCell' = true) (hsz : (P.info? ty).map (·.size) = some 1) (henc : E.enc z = (E.enc L[i]).set j v)
    (h : ∀ w', OwnL E w' B (.slice (some ⟨g, 0, none⟩) n c) (L.set i z) → Chg (fun k => k = g) w w' → w'.heap.size = w.heap.size → wpList P ops Q rest a w') : wpList P ops Q (o :: rest) a w := by
  have hh : w.ownsRow B T E.k (.slice (some ⟨g, 0, none⟩) n c) L.length (L.flatMap E.enc) := hL
  rcases hh.2 with ⟨e, _⟩ | ⟨g', cap', cur, e, hb, hg, h1, h2, h3, h4⟩
  · cases e
  simp only [Value.slice.injEq, Option.some.injEq, Addr.mk.injEq] at e
  obtain ⟨⟨rfl, _⟩, rfl, rfl⟩ := e
  have hle : L.length * E.k ≤ cur.size := by rw [h3]; exact Nat.mul_le_mul_right _ h1
  have hbd : i * E.k + E.k ≤ L.length * E.k := by
    rw [← Nat.succ_mul]
    exact Nat.mul_le_mul_right _ hi
  refine wpList_putC hgd hdst ty x y ho g (i * E.k + j) v hx hy hg (by omega) hv hsz fun w' a1 a2 a3 => h w' (hL.put a1 i hi z fun cs hcs => ?_) a2 a3
  rw [hg] at hcs
  cases hcs
  refine ⟨by simp, fun q hq => ?_⟩
  rw [henc]
  by_cases hin : i * E.k ≤ q ∧ q < i * E.k + E.k
  · rw [if_pos hin]
    by_cases e : i * E.k + j = q
    · subst e
      rw [Array.getElem?_setIfInBounds_self_of_lt hq, Nat.add_sub_cancel_left, List.getElem?_set_self (by rw [E.len]; exact hj)]
    · rw [Array.getElem?_setIfInBounds_ne e, List.getElem?_set_ne (by omega)]
      have h5 := flat_get E hi (j := q - i * E.k) (by omega)
      rw [show i * E.k + (q - i * E.k) = q by omega, ← h4, List.getElem?_take, if_pos (by omega), Array.getElem?_toList] at h5
      exact h5
  · rw [if_neg hin, Array.getElem?_setIfInBounds_ne (by omega)]
/-- Some cells of an element. -/
theorem wpList_setK (hgd : o.guard = none) (hdst : o.dst = none) (ty : TypeId) (x y : Operand) (ho : o.op = .store ty x y) {B g n c : Nat} {L : List α} (hL : OwnL E w B (.slice (some ⟨g, 0, none⟩) n c) L) (i : Nat) (hi : i < L.length) (j : Nat) (vs : List Value) (hj : j + vs.length ≤ E.k) (z : α)
    (hx : a.eval x = .pointer (some ⟨g, i * E.k + j, none⟩)) (hy : a.eval y = .agg vs.toArray) (h1' : ∀ v ∈ vs, v.oneCell' = true) (hsz : (P.info? ty).map (·.size) = some vs.length) (henc : ∀ q, q < E.k → (E.enc z)[q]? = if j ≤ q ∧ q < j + vs.length then vs[q - j]? else (E.enc L[i])[q]?)
    (h : ∀ w', OwnL E w' B (.slice (some ⟨g, 0, none⟩) n c) (L.set i z) → Chg (fun k => k = g) w w' → w'.heap.size = w.heap.size → wpList P ops Q rest a w') : wpList P ops Q (o :: rest) a w := by
  have hh : w.ownsRow B T E.k (.slice (some ⟨g, 0, none⟩) n c) L.length (L.flatMap E.enc) := hL
  rcases hh.2 with ⟨e, _⟩ | ⟨g', cap', cur, e, hb, hg, h1, h2, h3, h4⟩
  · cases e
  simp only [Value.slice.injEq, Option.some.injEq, Addr.mk.injEq] at e
  obtain ⟨⟨rfl, _⟩, rfl, rfl⟩ := e
  have hle : L.length * E.k ≤ cur.size := by rw [h3]; exact Nat.mul_le_mul_right _ h1
  have hbd : i * E.k + E.k ≤ L.length * E.k := by
    rw [← Nat.succ_mul]
    exact Nat.mul_le_mul_right _ hi
  refine wpList_putM hgd hdst ty x y ho g (i * E.k + j) vs hx hy hg (by omega) h1' hsz fun w' a1 a2 a3 => h w' (hL.put a1 i hi z fun cs hcs => ?_) a2 a3
  rw [hg] at hcs
  cases hcs
  refine ⟨wrC_size _ _ _, fun q hq => ?_⟩
  rw [wrC_get _ _ _ _ (by omega)]
  by_cases hin : i * E.k ≤ q ∧ q < i * E.k + E.k
  · rw [if_pos hin, henc _ (by omega)]
    have h5 := flat_get E hi (j := q - i * E.k) (by omega)
    rw [show i * E.k + (q - i * E.k) = q by omega, ← h4, List.getElem?_take, if_pos (by omega), Array.getElem?_toList] at h5
    by_cases h6 : i * E.k + j ≤ q ∧ q < i * E.k + j + vs.length
    · rw [if_pos h6, if_pos (by omega)]
      congr 1
      omega
    · rw [if_neg h6, if_neg (by omega)]
      exact h5
  · rw [if_neg hin, if_neg (by omega)]
end
end Go.Proofs.Ythfinofmbnfijaa

namespace Go.Proofs.Ythfinofmbnfijaa
open Go.RowKit
set_option linter.unusedVariables false
set_option linter.unusedSimpArgs false

/-- A node, and those above it. -/
def chn (F : List NodeV) (i : Nat) : List Nat := pathTo F (i + 1)
theorem popL_path {F : List NodeV} (h : checkP F = 0) : ∀ i, i ≤ F.length → ∀ p : Nat, popL (p : Int) (pathTo F i) ≠ [] → popL (p : Int) (pathTo F i) = pathTo F (p + 1) ∧ p < i := fun i => by
  induction i using Nat.strongRecOn with
  | _ i ih =>
    intro hi p hne
    cases i with
    | zero => exact absurd rfl hne
    | succ j =>
      have hj : j < F.length := by omega
      have e : pathTo F (j + 1) = j :: popL (parA F j) (pathTo F j) := rfl
      rw [e, popL_cons] at hne ⊢
      by_cases hjp : (j : Int) = (p : Int)
      · rw [if_pos hjp]
        obtain rfl : j = p := by omega
        exact ⟨rfl, by omega⟩
      · rw [if_neg hjp] at hne ⊢
        have hc := chk_all h j hj
        have hpa := parA_at hj
        rw [hpa] at hne ⊢
        by_cases hq : F[j].parent = -1
        · rw [hq, pop_neg] at hne
          exact absurd rfl hne
        · obtain ⟨q, hqe⟩ : ∃ q : Nat, F[j].parent = (q : Int) := ⟨F[j].parent.toNat, by have := hc.par; omega⟩
          have h1 := ih j (by omega) (by omega) q (by rw [← hqe]; exact hc.path hq)
          rw [hqe, h1.1] at hne ⊢
          have h2 := ih (q + 1) (by omega) (by omega) p hne
          exact ⟨h2.1, by omega⟩
section
variable {F : List NodeV}
theorem chn_step (h : checkP F = 0) {i : Nat} (hi : i < F.length) : chn F i = i :: (if F[i].parent = -1 then [] else chn F F[i].parent.toNat) := by
  have hc := chk_all h i hi
  show i :: popL (parA F i) (pathTo F i) = _
  rw [parA_at hi]
  by_cases hq : F[i].parent = -1
  · rw [if_pos hq, hq, pop_neg]
  · obtain ⟨q, hqe⟩ : ∃ q : Nat, F[i].parent = (q : Int) := ⟨F[i].parent.toNat, by have := hc.par; omega⟩
    rw [if_neg hq, hqe, Int.toNat_natCast, (popL_path h i (by omega) q (by rw [← hqe]; exact hc.path hq)).1]
    rfl
theorem chn_root (h : checkP F = 0) {i : Nat} (hi : i < F.length) (hp : F[i].parent = -1) : chn F i = [i] := by rw [chn_step h hi, if_pos hp]
theorem chn_up (h : checkP F = 0) {i q : Nat} (hi : i < F.length) (hp : F[i].parent = (q : Int)) : chn F i = i :: chn F q ∧ q < i := by
  have := (chk_all h i hi).lt
  refine ⟨?_, by omega⟩
  rw [chn_step h hi, if_neg (by omega), hp, Int.toNat_natCast]
/-- By the parents, upwards. -/
theorem up_rec (h : checkP F = 0) {P : Nat → Prop} (h0 : ∀ i (hi : i < F.length), F[i].parent = -1 → P i) (h1 : ∀ i (hi : i < F.length) (q : Nat), F[i].parent = (q : Int) → q < i → P q → P i) : ∀ i, i < F.length → P i := fun i => by
  induction i using Nat.strongRecOn with
  | _ i ih =>
    intro hi
    have hc := chk_all h i hi
    by_cases hq : F[i].parent = -1
    · exact h0 i hi hq
    · obtain ⟨q, hqe⟩ : ∃ q : Nat, F[i].parent = (q : Int) := ⟨F[i].parent.toNat, by have := hc.par; omega⟩
      have hlt : q < i := by have := hc.lt; omega
      exact h1 i hi q hqe hlt (ih q hlt (by omega))
theorem chn_le (h : checkP F = 0) : ∀ i, i < F.length → ∀ x ∈ chn F i, x ≤ i :=
  up_rec h (fun i hi hp x hx => by rw [chn_root h hi hp] at hx; rw [List.mem_singleton.1 hx]; exact Nat.le_refl _) fun i hi q hq hlt ih x hx => by
    rw [(chn_up h hi hq).1] at hx
    rcases List.mem_cons.1 hx with rfl | hx
    · exact Nat.le_refl _
    · have := ih x hx
      omega
theorem chn_self (F : List NodeV) (i : Nat) : i ∈ chn F i := List.mem_cons_self ..
theorem chn_desc (h : checkP F = 0) : ∀ i, i < F.length → (chn F i).Pairwise (· > ·) :=
  up_rec h (fun i hi hp => by rw [chn_root h hi hp]; exact List.pairwise_singleton _ _) fun i hi q hq hlt ih => by
    rw [(chn_up h hi hq).1]
    refine List.pairwise_cons.2 ⟨fun x hx => ?_, ih⟩
    have := chn_le h q (by omega) x hx
    omega
theorem chn_dep (h : checkP F = 0) : ∀ i, i < F.length → ((chn F i).length : Int) = ((F[i]?).map (·.depth)).getD 0 + 1 :=
  up_rec h (fun i hi hp => by
    have hd := (chk_all h i hi).dep
    rw [chn_root h hi hp, List.getElem?_eq_getElem hi]
    unfold depOf at hd
    rw [if_pos hp] at hd
    show (1 : Int) = F[i].depth + 1
    omega) fun i hi q hq hlt ih => by
    have hd := (chk_all h i hi).dep
    have hqF : q < F.length := by omega
    rw [(chn_up h hi hq).1, List.getElem?_eq_getElem hi, List.length_cons]
    unfold depOf at hd
    rw [if_neg (by omega), hq, Int.toNat_natCast, List.getElem?_eq_getElem hqF] at hd
    rw [List.getElem?_eq_getElem hqF] at ih
    have h1 : F[i].depth = F[q].depth + 1 := hd
    have h2 : ((chn F q).length : Int) = F[q].depth + 1 := ih
    show (((chn F q).length + 1 : Nat) : Int) = F[i].depth + 1
    omega
theorem chn_len (h : checkP F = 0) {i : Nat} (hi : i < F.length) : ((chn F i).length : Int) = F[i].depth + 1 := by
  have := chn_dep h i hi
  rwa [List.getElem?_eq_getElem hi] at this
theorem chn_suf (h : checkP F = 0) : ∀ i, i < F.length → ∀ x ∈ chn F i, ∃ X, chn F i = X ++ chn F x :=
  up_rec h (fun i hi hp x hx => by
    rw [chn_root h hi hp] at hx
    rw [List.mem_singleton.1 hx]
    exact ⟨[], rfl⟩) fun i hi q hq hlt ih x hx => by
    rw [(chn_up h hi hq).1] at hx
    rcases List.mem_cons.1 hx with rfl | hx
    · exact ⟨[], rfl⟩
    · obtain ⟨X, hX⟩ := ih x hx
      exact ⟨i :: X, by rw [(chn_up h hi hq).1, hX]; rfl⟩
theorem chn_trans (h : checkP F = 0) {i x y : Nat} (hi : i < F.length) (hx : x ∈ chn F i) (hy : y ∈ chn F x) : y ∈ chn F i := by
  obtain ⟨X, hX⟩ := chn_suf h i hi x hx
  rw [hX]
  exact List.mem_append_right _ hy
/-- The parent of a node lies on the path ahead of it. -/
theorem par_path (h : checkP F = 0) {j q : Nat} (hj : j + 1 < F.length) (hq : F[j + 1].parent = (q : Int)) : q ∈ chn F j := by
  have hc := chk_all h (j + 1) hj
  have h1 := hc.path (by omega)
  rw [hq] at h1
  have h2 := (popL_path h (j + 1) (by omega) q h1).1
  have h3 : q ∈ popL (q : Int) (pathTo F (j + 1)) := by rw [h2]; exact chn_self F q
  exact popL_sub _ _ q h3
/-- What follows a node below a is below a if it lies deeper than a. -/
theorem within_next (h : checkP F = 0) {a j : Nat} (hj : j + 1 < F.length) (ha : a ∈ chn F j) : a ∈ chn F (j + 1) ↔ (F[a]'(by have := chn_le h j (by omega) a ha; omega)).depth < F[j + 1].depth := by
  have haj := chn_le h j (by omega) a ha
  have haF : a < F.length := by omega
  have hla := chn_len h haF
  have hlj := chn_len h hj
  by_cases hp : F[j + 1].parent = -1
  · have hr := chn_root h hj hp
    have hd := chk_dep h a haF
    rw [hr] at hlj ⊢
    have h1 : F[j + 1].depth = 0 := by
      have : ((1 : Nat) : Int) = F[j + 1].depth + 1 := hlj
      omega
    rw [h1]
    constructor
    · intro hx
      have := List.mem_singleton.1 hx
      omega
    · intro hx
      omega
  · obtain ⟨q, hqe⟩ : ∃ q : Nat, F[j + 1].parent = (q : Int) := ⟨F[j + 1].parent.toNat, by have := (chk_all h (j + 1) hj).par; omega⟩
    obtain ⟨hu, hlt⟩ := chn_up h hj hqe
    have hqF : q < F.length := by omega
    have hqj := par_path h hj hqe
    have hlq := chn_len h hqF
    rw [hu, List.length_cons] at hlj
    have hdq : F[j + 1].depth = F[q].depth + 1 := by omega
    rw [hu, hdq]
    obtain ⟨X, hX⟩ := chn_suf h j (by omega) a ha
    obtain ⟨Y, hY⟩ := chn_suf h j (by omega) q hqj
    constructor
    · intro hx
      rcases List.mem_cons.1 hx with e | hx
      · omega
      · obtain ⟨Z, hZ⟩ := chn_suf h q hqF a hx
        have := congrArg List.length hZ
        rw [List.length_append] at this
        omega
    · intro hd
      refine List.mem_cons_of_mem _ ?_
      have hle : (chn F a).length ≤ (chn F q).length := by omega
      have hs1 : chn F a <:+ chn F j := ⟨X, hX.symm⟩
      have hs2 : chn F q <:+ chn F j := ⟨Y, hY.symm⟩
      have hs3 := List.suffix_of_suffix_length_le hs1 hs2 hle
      exact hs3.subset (chn_self F a)
theorem within_back (h : checkP F = 0) {a j : Nat} (hj : j + 1 < F.length) (ha : a ∉ chn F j) (hne : a ≠ j + 1) : a ∉ chn F (j + 1) := fun hx => by
  by_cases hp : F[j + 1].parent = -1
  · rw [chn_root h hj hp] at hx
    exact hne (List.mem_singleton.1 hx)
  · obtain ⟨q, hqe⟩ : ∃ q : Nat, F[j + 1].parent = (q : Int) := ⟨F[j + 1].parent.toNat, by have := (chk_all h (j + 1) hj).par; omega⟩
    rw [(chn_up h hj hqe).1] at hx
    rcases List.mem_cons.1 hx with e | hx
    · exact hne e
    · exact ha (chn_trans h (by omega) (par_path h hj hqe) hx)
/-- The end of what lies below a. -/
structure EndAt (F : List NodeV) (a e : Nat) : Prop where
  lt : a < e
  le : e ≤ F.length
  deep : ∀ j (hj : j < F.length) (ha : a < F.length), a < j → j < e → F[a].depth < F[j].depth
  stop : ∀ (he : e < F.length) (ha : a < F.length), ¬ F[a].depth < F[e].depth
theorem EndAt.within (h : checkP F = 0) {a e : Nat} (hE : EndAt F a e) : ∀ i, i < F.length → (a ∈ chn F i ↔ a ≤ i ∧ i < e) := fun i => by
  have haF : a < F.length := by have := hE.lt; have := hE.le; omega
  induction i with
  | zero =>
    intro hi
    constructor
    · intro hx
      have := chn_le h 0 hi a hx
      have := hE.lt
      omega
    · rintro ⟨h1, _⟩
      obtain rfl : a = 0 := by omega
      exact chn_self F 0
  | succ j ih =>
    intro hi
    have ih' := ih (by omega)
    by_cases hin : a ∈ chn F j
    · have h1 := ih'.1 hin
      rw [within_next h hi hin]
      constructor
      · intro hd
        refine ⟨by omega, Classical.byContradiction fun hc => ?_⟩
        obtain rfl : e = j + 1 := by omega
        exact hE.stop hi haF hd
      · rintro ⟨_, h2⟩
        exact hE.deep (j + 1) hi haF (by omega) h2
    · by_cases e1 : a = j + 1
      · subst e1
        exact ⟨fun _ => ⟨Nat.le_refl _, hE.lt⟩, fun _ => chn_self F _⟩
      · refine ⟨fun hx => absurd hx (within_back h hi hin e1), ?_⟩
        rintro ⟨h1, h2⟩
        exact absurd (ih'.2 ⟨by omega, by omega⟩) hin
end
/-! ### lists of places -/
def belowL (F : List NodeV) (p : Int) (n : Nat) : List Nat := (List.range n).filter fun i => decide (parA F i = p)
theorem belowL_next (F : List NodeV) (p : Int) (n : Nat) : belowL F p (n + 1) = if parA F n = p then belowL F p n ++ [n] else belowL F p n := by
  unfold belowL
  rw [List.range_succ, List.filter_append]
  by_cases h : parA F n = p <;> simp [h]
def onL (C : List Nat) (n : Nat) : List Nat := (List.range n).filter fun i => decide (i ∈ C)
theorem onL_next (C : List Nat) (n : Nat) : onL C (n + 1) = if n ∈ C then onL C n ++ [n] else onL C n := by
  unfold onL
  rw [List.range_succ, List.filter_append]
  by_cases h : n ∈ C <;> simp [h]
theorem sorted_unique : ∀ {A B : List Nat}, A.Pairwise (· < ·) → B.Pairwise (· < ·) → (∀ x, x ∈ A ↔ x ∈ B) → A = B
  | [], [], _, _, _ => rfl
  | [], b :: B, _, _, h => absurd ((h b).2 (List.mem_cons_self ..)) (by simp)
  | a :: A, [], _, _, h => absurd ((h a).1 (List.mem_cons_self ..)) (by simp)
  | a :: A, b :: B, hA, hB, h => by
    have hA' := List.pairwise_cons.1 hA
    have hB' := List.pairwise_cons.1 hB
    have hab : a = b := by
      rcases List.mem_cons.1 ((h a).1 (List.mem_cons_self ..)) with e | h1
      · exact e
      · rcases List.mem_cons.1 ((h b).2 (List.mem_cons_self ..)) with e | h2
        · exact e.symm
        · have e1 := hB'.1 a h1
          have e2 := hA'.1 b h2
          omega
    subst hab
    have : A = B := sorted_unique hA'.2 hB'.2 fun x => by
      constructor
      · intro hx
        rcases List.mem_cons.1 ((h x).1 (List.mem_cons_of_mem _ hx)) with e | h1
        · have := hA'.1 x hx; omega
        · exact h1
      · intro hx
        rcases List.mem_cons.1 ((h x).2 (List.mem_cons_of_mem _ hx)) with e | h1
        · have := hB'.1 x hx; omega
        · exact h1
    rw [this]
theorem onL_chn {F : List NodeV} (h : checkP F = 0) {a : Nat} (ha : a < F.length) : onL (chn F a) F.length = (chn F a).reverse := by
  refine sorted_unique ?_ ?_ fun x => ?_
  · unfold onL
    exact List.Pairwise.filter _ (List.pairwise_lt_range)
  · rw [List.pairwise_reverse]
    exact chn_desc h a ha
  · unfold onL
    rw [List.mem_filter, decide_eq_true_eq, List.mem_range, List.mem_reverse]
    refine ⟨fun hx => hx.2, fun hx => ⟨?_, hx⟩⟩
    have := chn_le h a ha x hx
    omega
end Go.Proofs.Ythfinofmbnfijaa
