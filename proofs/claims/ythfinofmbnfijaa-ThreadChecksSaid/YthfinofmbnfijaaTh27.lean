/- The model's parents; ThreadParents. -/
import Derived.Test.YthfinofmbnfijaaTp14
import Derived.Test.YthfinofmbnfijaaTh26
namespace Go.Proofs.Ythfinofmbnfijaa
open Go.Shelf Go.RowKit Go.Lib Go.Sort
set_option linter.unusedVariables false
set_option linter.unusedSimpArgs false

theorem OwnL.addr {P : Program} {sT T : TypeId} {α : Type} {E : ElemTy P sT T α} {w : World} {B n c : Nat} {a : Option Addr} {L : List α} (h : OwnL E w B (.slice a n c) L) (hn : 0 < n) : ∃ g, a = some ⟨g, 0, none⟩ := by
  have hh : w.ownsRow B T E.k (.slice a n c) L.length (L.flatMap E.enc) := h
  rcases hh.2 with ⟨e, h0⟩ | ⟨g, cap, cur, e, _⟩
  · cases e
    omega
  · cases e
    exact ⟨g, rfl⟩
theorem sizeParK : (Try.prog.info? 63).map (·.size) = some parE.k := by kernel_rfl
def ParsPost (w : World) (c : Par) (L : List RowV) (e : Ending) (w' : World) : Prop := ∃ v', e = .returned v' ∧ OwnL parE w' w.heap.size v' (cutL c L) ∧ Below w.heap.size w w'
set_option maxRecDepth 100000 in
set_option maxHeartbeats 2000000 in
theorem parents_any {w : World} (v : Value) (L : List RowV) (c : Par) (hc : IsCut (parP L) (arrS L) c) (hv : RowsAt w v L) (hn : (L.map (·.id)).Nodup) (hl : L.length < 1000000) :
    Calls Try.prog 29 #[v] w (ParsPost w c L) := by
  obtain ⟨va, vc, rfl⟩ := hv.l.form
  have HLL := Lib.hid hl
  obtain ⟨N, hN⟩ : ∃ N, L.length = N := ⟨_, rfl⟩
  rw [hN] at hv hl ⊢
  have HN := Lib.hid hN
  have HND := Lib.hid hn
  have HV := Lib.hid hv
  have HC := Lib.hid hc
  clear hv hN hn hc
  go_enter Try.func29, Try.ntmps29
  go_wp2_with fail
  refine (direct_any _ L HV.out HLL.out).mono ?_
  rintro e Wd ⟨dv, rfl, hod, hbd⟩
  have hdl : (dirL L).length = N := by unfold dirL; rw [List.length_map, HN.out]
  obtain ⟨da, dc, rfl⟩ := hod.form
  rw [hdl] at hod ⊢
  obtain ⟨B, hB⟩ : ∃ B, Wd.heap.size = B := ⟨_, rfl⟩
  have HDL := Lib.hid hdl
  have HU := Lib.hid hod.at_
  have HVd := Lib.hid (HV.out.below hbd)
  have HBd := Lib.hid hbd
  have HBB := Lib.hid hB
  clear hod hbd hdl hB
  go_wp2_with (refine wpList_lit0 parE rfl (some 11) rfl rfl ?_; refine Stop.on ?_)
  refine Stop.go ?_
  try simp only [Act.put, List.setIfInBounds_toArray, List.set_cons_zero, List.set_cons_succ]
  intro Wl xl bl
  try simp only [Act.put, List.setIfInBounds_toArray, List.set_cons_zero, List.set_cons_succ]
  rw [HBB.out] at xl bl ⊢
  have HOl := Lib.hid xl
  have HUl := Lib.hid (HU.out.below (by rw [HBB.out]; exact bl))
  have HBl := Lib.hid bl
  have HBs := Lib.hid (show B ≤ Wl.heap.size by have := bl.size; have := HBB.out; omega)
  clear xl bl
  go_wp2_with (refine wpList_appL parE rfl (.tmp 11) (.tmp 12) rfl rfl HOl.out rfl HUl.out (n := 0) (m := N) rfl HDL.out (by omega) HBs.out ?_; refine Stop.on ?_)
  refine Stop.go ?_
  try simp only [Act.put, List.setIfInBounds_toArray, List.set_cons_zero, List.set_cons_succ]
  intro a5 c5 W5 ho5 hg5 hat5
  try simp only [Act.put, List.setIfInBounds_toArray, List.set_cons_zero, List.set_cons_succ]
  try rw [Nat.zero_add] at ho5 ⊢
  have HO0 := Lib.hid (show OwnL parE W5 B (.slice a5 N c5) (mixL c L 0) by rw [mixL_zero]; exact ho5)
  have HB0 := Lib.hid (HBl.out.trans (HOl.out.grown_below hg5 HBs.out))
  clear ho5 hg5 hat5 HOl HUl HBl HBs
  go_wp2_with fail
  go_loopw [5, 6, 7, 8] (fun iv cv lv kv wr => ∃ i : Nat, i ≤ N ∧ iv = .int .i64 (i : Int) ∧ Hid (OwnL parE wr B (.slice a5 N c5) (mixL c L i)) ∧ Hid (Below B Wd wr)) (fun iv _ _ _ _ => N - (intOf iv).toNat)
  case atStart => exact ⟨0, Nat.zero_le _, rfl, HO0, HB0⟩
  case round =>
    obtain ⟨i, hi, rfl, HO, HB⟩ := hrel
    obtain ⟨W0, rfl⟩ : ∃ W0, W0 = wr := ⟨_, rfl⟩
    clear HO0 HB0
    have HB' := Lib.hid (show Below Wd.heap.size Wd W0 by rw [HBB.out]; exact HB.out)
    by_cases hlt : i < N
    case neg =>
      obtain rfl : i = N := by omega
      have HF := Lib.hid (show OwnL parE W0 w.heap.size (.slice a5 i c5) (cutL c L) by
        have h1 := HO.out
        rw [← HN.out, mixL_all, HN.out] at h1
        exact h1.base (by have := HBd.out.size; have := HBB.out; omega))
      have HBE := Lib.hid (HBd.out.trans (HB'.out.mono HBd.out.size))
      go_wp2_with fail
      exact bodyPost_ret (v := .slice a5 i c5) (by simp [results, Try.results29, go_sem]) rfl ⟨_, rfl, HF.out, HBE.out⟩
    have hiL : i < L.length := by rw [HN.out]; exact hlt
    have hiN : (i : Int) < (N : Int) := by omega
    go_wp2_with fail
    refine (cycle_any _ _ L (HVd.out.below HB'.out) (HU.out.below HB'.out) HND.out HLL.out i hiL).mono ?_
    rintro e Wc ⟨cv, C, rfl, hoc, hcy, hbc⟩
    obtain ⟨ca, cc, rfl⟩ := hoc.form
    obtain ⟨cn, hcn⟩ : ∃ cn, C.length = cn := ⟨_, rfl⟩
    rw [hcn] at hoc ⊢
    have hcl : cn ≤ 3 * N + 3 := by have := hcy.len; have := HN.out; omega
    have HCA := Lib.hid hoc.at_
    have HCN := Lib.hid hcn
    have HCY := Lib.hid hcy
    have HOc := Lib.hid (HO.out.below hbc)
    have HBc := Lib.hid (HB'.out.trans (hbc.mono HB'.out.size))
    have HVc := Lib.hid ((HVd.out.below HB'.out).below hbc)
    clear hoc hcn hcy hbc HB' HB HO
    obtain ⟨lb0, hlb0⟩ : ∃ lb0, decide (0 < cn) = lb0 := ⟨_, rfl⟩
    have HL0 := Lib.hid (show lb0 = true ↔ LeastP L i C 0 by
      rw [LeastP.zero, ← hlb0, decide_eq_true_eq, ← List.length_pos_iff, HCN.out])
    go_wp2_with fail
    have HK0 := Lib.hid (Below.refl Wc.heap.size Wc)
    go_loopw [7, 8] (fun lv kv wr => ∃ (k : Nat) (lb : Bool), k ≤ cn ∧ kv = .int .i64 (k : Int) ∧ lv = .bool lb ∧ Hid (lb = true ↔ LeastP L i C k) ∧ Hid (Below Wc.heap.size Wc wr)) (fun _ kv _ => cn - (intOf kv).toNat)
    case atStart => exact ⟨0, lb0, Nat.zero_le _, rfl, rfl, HL0, HK0⟩
    case round =>
      obtain ⟨k, lb, hk, rfl, rfl, HL, HK⟩ := hrel
      obtain ⟨W1, rfl⟩ : ∃ W1, W1 = wr := ⟨_, rfl⟩
      clear HK0 HL0 hlb0
      by_cases hkc : k < cn
      case neg =>
        obtain rfl : k = cn := by omega
        have hnx := mixL_next HND.out HC.out hiL
        have hll : LeastP L i C k ↔ Lst (parP L) (arrS L) L[i].id := by have h := LeastP.lst HND.out hiL HCY.out; rw [HCN.out] at h; exact h
        have HO1 := Lib.hid (HOc.out.below HK.out)
        have HB1 := Lib.hid (HBc.out.trans (HK.out.mono HBc.out.size))
        cases lb with
        | false =>
          have hno : ¬ LeastP L i C k := fun h => by have h1 := HL.out.2 h; simp at h1
          have hmx := hnx.2 (fun h => hno (hll.2 h))
          have HON := Lib.hid (show OwnL parE W1 B (.slice a5 N c5) (mixL c L (i + 1)) by rw [hmx]; exact HO1.out)
          have HBN := Lib.hid (show Below B Wd W1 by have := HB1.out; rw [HBB.out] at this; exact this)
          clear hnx hll hno hmx
          go_wp2_with fail
          go_roundw
          case rel => exact ⟨i + 1, by omega, by go_num, HON, HBN⟩
          case measure => simp [intOf] <;> omega
        | true =>
          have hmx := hnx.1 (hll.1 (HL.out.1 rfl))
          obtain ⟨g5, rfl⟩ := HO1.out.addr (by omega)
          have HMX := Lib.hid hmx
          have HIM := Lib.hid (show i < (mixL c L i).length by rw [mixL_len c L (by omega)]; exact hiL)
          have hB5 : B ≤ g5 := (HO1.out.lt (k := g5) rfl).1
          clear hnx hll hmx
          go_wp2_with (refine wpList_buildV rfl (some 52) rfl 63 _ rfl [] rfl (.agg (pvC none).toArray) (build_par0 _) ?_; refine Stop.on ?_)
          refine Stop.go ?_
          try simp only [Act.put, List.setIfInBounds_toArray, List.set_cons_zero, List.set_cons_succ]
          go_wp2_with (refine wpList_setL rfl rfl (.tmp 53) (.tmp 52) rfl HO1.out i HIM.out none rfl rfl sizeParK ?_; refine Stop.on ?_)
          refine Stop.go ?_
          try simp only [Act.put, List.setIfInBounds_toArray, List.set_cons_zero, List.set_cons_succ]
          intro W9 x9 c9 s9
          try simp only [Act.put, List.setIfInBounds_toArray, List.set_cons_zero, List.set_cons_succ]
          have HON := Lib.hid (show OwnL parE W9 B (.slice (some ⟨g5, 0, none⟩) N c5) (mixL c L (i + 1)) by rw [HMX.out]; exact x9)
          have HBN := Lib.hid (show Below B Wd W9 by
            have h1 := HB1.out.trans (c9.below (B := Wd.heap.size) (fun k e => by have := HBB.out; omega) HB1.out.size)
            rw [HBB.out] at h1
            exact h1)
          clear x9 c9 s9
          go_wp2_with fail
          go_roundw
          case rel => exact ⟨i + 1, by omega, by go_num, HON, HBN⟩
          case measure => simp [intOf] <;> omega
      have hkC : k < C.length := by rw [HCN.out]; exact hkc
      have hkcI : (k : Int) < (cn : Int) := by omega
      obtain ⟨j, hj⟩ : ∃ j, C[k] = j := ⟨_, rfl⟩
      have hjL : j < L.length := by rw [← hj]; exact HCY.out.lt hiL _ (List.getElem_mem hkC)
      have hjN : (j : Int) < (N : Int) := by have := HN.out; omega
      have HNX := Lib.hid (show LeastP L i C (k + 1) ↔ LeastP L i C k ∧ cmpT L[i].tw L[j].tw ≤ 0 by
        have h := LeastP.next (L := L) (C := C) hiL hkC (by rw [hj]; exact hjL)
        simp only [hj] at h
        exact h)
      obtain ⟨gc, oc, ec, hgc, hrc⟩ := (HCA.out.below HK.out).get hkC
      subst ec
      have hcell : W1.cell? ⟨gc, oc + k * 1 + 0, none⟩ = some (.int .i64 ((C[k] : Nat) : Int)) := hrc 0 _ rfl
      rw [hj, Nat.mul_one, Nat.add_zero] at hcell
      have HCE := Lib.hid (show ∀ w', Below W1.heap.size W1 w' → w'.cell? ⟨gc, oc + k, none⟩ = some (.int .i64 (j : Int)) from fun w' hw' => (hw'.cell (p := ⟨gc, oc + k, none⟩) hgc).trans hcell)
      have hvk := HVc.out.below HK.out
      obtain ⟨g1, o1, e1, hg1, hr1⟩ := hvk.l.get hiL
      subst e1
      obtain ⟨g1', o1', e1', _, hr2⟩ := hvk.l.get hjL
      cases e1'
      have HR1 := Lib.hid (show ∀ w', Below W1.heap.size W1 w' → w'.rangeAt g1 (o1 + i * 83) L[i].cells ∧ w'.rangeAt g1 (o1 + j * 83) L[j].cells from fun w' hw' => ⟨range_below hr1 hg1 hw', range_below hr2 hg1 hw'⟩)
      clear hj hrc hgc hcell hvk hg1 hr1 hr2 hkC
      go_wp2_with fail
      refine wp_region_seq 13 (by kernel_rfl) (by kernel_rfl) ?_
      simp only [List.take_succ_cons, List.take_zero, List.drop_succ_cons, List.drop_zero]
      obtain ⟨wd, hwd⟩ : ∃ wd, W1.drew = wd := ⟨_, rfl⟩
      have hd_wd : Below W1.heap.size W1 wd ∧ wd.heap.size = W1.heap.size := hwd ▸ ⟨(Below.refl _ _).drew, rfl⟩
      rw [hwd]
      clear hwd
      have hcell := HCE.out wd hd_wd.1
      have HRI := Lib.hid (HR1.out wd hd_wd.1).1
      have HRJ := Lib.hid (HR1.out wd hd_wd.1).2
      have HKd := Lib.hid (HK.out.trans (hd_wd.1.mono HK.out.size))
      clear hd_wd
      cases lb with
      | false =>
        have HLN := Lib.hid (show false = true ↔ LeastP L i C (k + 1) by rw [HNX.out, ← HL.out]; simp)
        go_wp2_with fail
        refine HeadPost.mk ?_
        go_wp2_with fail
        go_roundw
        case rel => exact ⟨k + 1, false, by omega, by go_num, rfl, HLN, HKd⟩
        case measure => simp [intOf] <;> omega
      | true =>
        go_wp2_with (refine wpList_met rfl ?_; with_reducible refine wpList_load_mid rfl 43 (.tmp 37) rfl g1 (o1 + i * 83) rfl L[i].cells _ HRI.out Try.underlying43 rfl (sizeRow L[i]) ?_; refine Stop.on ?_)
        refine Stop.go ?_
        try simp only [Act.put, List.setIfInBounds_toArray, List.set_cons_zero, List.set_cons_succ]
        go_wp2_with (refine wpList_met rfl ?_; with_reducible refine wpList_load_mid rfl 43 (.tmp 44) rfl g1 (o1 + j * 83) rfl L[j].cells _ HRJ.out Try.underlying43 rfl (sizeRow L[j]) ?_; refine Stop.on ?_)
        refine Stop.go ?_
        try simp only [Act.put, List.setIfInBounds_toArray, List.set_cons_zero, List.set_cons_succ]
        refine HeadPost.mk ?_
        obtain ⟨cv, hcv⟩ : ∃ cv, cmpT L[i].tw L[j].tw = cv := ⟨_, rfl⟩
        go_wp2_with fail
        refine (ordRow L[i] L[j] _).mono ?_
        rintro e We ⟨rfl, q9, os9, rfl⟩
        obtain ⟨W9, hW9⟩ : ∃ W9, grow (wd.drewN q9) os9 = W9 := ⟨_, rfl⟩
        have hb9 := grow_below wd q9 os9
        rw [hW9] at hb9 ⊢
        rw [hcv]
        have HKe := Lib.hid (HKd.out.trans (hb9.mono HKd.out.size))
        obtain ⟨lb2, hlb2⟩ : ∃ lb2, decide (cv ≤ 0) = lb2 := ⟨_, rfl⟩
        have HLN := Lib.hid (show lb2 = true ↔ LeastP L i C (k + 1) by
          rw [HNX.out, ← HL.out, ← hlb2, decide_eq_true_eq, hcv]
          simp)
        clear hb9 hW9 hcv
        go_wp2_with fail
        go_roundw
        case rel => exact ⟨k + 1, lb2, by omega, by go_num, rfl, HLN, HKe⟩
        case measure => simp [intOf] <;> omega
set_option maxRecDepth 100000 in
set_option maxHeartbeats 2000000 in
theorem Parents_law {w : World} (v : Value) (L : List RawV) (hv : RawsAt w v L) : Calls Try.prog 11 #[v] w fun e w' => e = .returned (.bool true) ∧ Below w.heap.size w w' := by
  have HV := Lib.hid hv
  clear hv
  go_enter Try.func11, Try.ntmps11
  go_wp2_with fail
  refine (rows_any _ L HV.out).mono ?_
  rintro e Wa ⟨xv, M, rfl, ho, ht, hb⟩
  obtain ⟨hN14, hnd⟩ := rows_facts ht
  obtain ⟨xa, xc, rfl⟩ := ho.own.form
  obtain ⟨N, hN⟩ : ∃ N, M.length = N := ⟨_, rfl⟩
  rw [hN] at ho hN14 ⊢
  have HM := Lib.hid ho
  have HN := Lib.hid hN
  have HND := Lib.hid hnd
  have HBA := Lib.hid hb
  clear ho ht hN hb hnd
  go_wp2_with fail
  refine (Parents_any _ M HM.out.at_ (by rw [HN.out]; omega)).mono ?_
  rintro e Wp hpp
  rcases hpp with ⟨hno, _⟩ | ⟨hnd2, pv, c, rfl, hc1, hop, hb⟩
  case inl => exact absurd HND.out hno
  have hpl : (parL c M).length = N := by unfold parL; rw [List.length_map, HN.out]
  obtain ⟨pa, pc, rfl⟩ := hop.form
  rw [hpl] at hop ⊢
  obtain ⟨hz1, hpc, hpm, hz2⟩ := hop.at_.len
  unfold maxLen at hpm
  have HPL := Lib.hid hpl
  have HP0 := Lib.hid hop.at_
  have HC1 := Lib.hid hc1
  have HM0 := Lib.hid (HM.out.below hb)
  have HB0 := Lib.hid (HBA.out.trans (hb.mono HBA.out.size))
  clear hc1 hop hb hnd2 hpl hz1 hz2 HM HBA
  go_wp2_with fail
  refine known_any.mono ?_
  rintro e Wk ⟨rfl, hb⟩
  have HP0 := Lib.hid (HP0.out.below hb)
  have HM0 := Lib.hid (HM0.out.below hb)
  have HB0 := Lib.hid (HB0.out.trans (hb.mono HB0.out.size))
  clear hb
  have hNN : ((N : Int) != (N : Int)) = false := by simp
  go_wp2_with fail
  refine (parents_any _ M c HC1.out HM0.out.at_ HND.out (by rw [HN.out]; omega)).mono ?_
  rintro e Wu ⟨uv, rfl, hou, hb⟩
  have hul : (cutL c M).length = N := by unfold cutL; rw [List.length_map, HN.out]
  obtain ⟨ua, uc, rfl⟩ := hou.form
  rw [hul] at hou ⊢
  have HUL := Lib.hid hul
  have HU0 := Lib.hid hou.at_
  have HP0 := Lib.hid (HP0.out.below hb)
  have HB0 := Lib.hid (HB0.out.trans (hb.mono HB0.out.size))
  have HK0 := Lib.hid (Below.refl Wu.heap.size Wu)
  clear hou hb hul
  go_wp2_with fail
  go_loopw [7] (fun iv wr => ∃ j : Nat, j ≤ N ∧ iv = .int .i64 (j : Int) ∧ Hid (Below Wu.heap.size Wu wr)) (fun iv _ => N - (intOf iv).toNat)
  case atStart => exact ⟨0, Nat.zero_le _, rfl, HK0⟩
  case round =>
    obtain ⟨j, hj, rfl, HB6⟩ := hrel
    obtain ⟨W0, rfl⟩ : ∃ W0, W0 = wr := ⟨_, rfl⟩
    clear HK0
    have HBE := Lib.hid (HB0.out.trans (HB6.out.mono HB0.out.size))
    by_cases hlt : j < N
    case neg =>
      obtain rfl : j = N := by omega
      go_wp2_with fail
      exact bodyPost_ret (v := .bool true) (by simp [results, Try.results11, go_sem]) rfl ⟨rfl, HBE.out⟩
    have hjI : (j : Int) < (N : Int) := by omega
    obtain ⟨g1, o1, e1, hg1, hr1⟩ := (HP0.out.below HB6.out).get (i := j) (by rw [HPL.out]; exact hlt)
    subst e1
    obtain ⟨g2, o2, e2, hg2, hr2⟩ := (HU0.out.below HB6.out).get (i := j) (by rw [HUL.out]; exact hlt)
    subst e2
    have hjM : j < M.length := by rw [HN.out]; exact hlt
    obtain ⟨x, hx⟩ : ∃ x, (c M[j].id).getD z32 = x := ⟨_, rfl⟩
    have ha : (parL c M)[j]'(by rw [HPL.out]; exact hlt) = x := by unfold parL; rw [List.getElem_map, hx]
    have hb : (cutL c M)[j]'(by rw [HUL.out]; exact hlt) = c M[j].id := by unfold cutL; rw [List.getElem_map]
    rw [ha] at hr1
    rw [hb] at hr2
    have HQ := Lib.hid (show ∀ w', Below W0.heap.size W0 w' → w'.rangeAt g1 (o1 + j * 32) (bvs x.1) ∧ w'.rangeAt g2 (o2 + j * 33 + 1) (bvs x.1) from fun w' hw' => ⟨range_below hr1 hg1 hw', by
      rw [← hx]
      exact (par_cells (range_below (show W0.rangeAt g2 (o2 + j * 33) (pvC (c M[j].id)) from hr2) hg2 hw')).2⟩)
    clear hr1 hr2 hg1 hg2 hx ha hb hjM
    go_wp2_with fail
    refine wp_region_seq 9 (by kernel_rfl) (by kernel_rfl) ?_
    simp only [List.take_succ_cons, List.take_zero, List.drop_succ_cons, List.drop_zero]
    obtain ⟨wd, hwd⟩ : ∃ wd, W0.drew = wd := ⟨_, rfl⟩
    have hd_wd : Below W0.heap.size W0 wd ∧ wd.heap.size = W0.heap.size := hwd ▸ ⟨(Below.refl _ _).drew, rfl⟩
    rw [hwd]
    clear hwd
    have HQ1 := Lib.hid (HQ.out wd hd_wd.1).1
    have HQ2 := Lib.hid (HQ.out wd hd_wd.1).2
    have HBd := Lib.hid (HB6.out.trans (hd_wd.1.mono HB6.out.size))
    clear hd_wd
    go_wp2_with (with_reducible refine wpList_load_mid rfl 35 (.tmp 38) rfl g1 (o1 + j * 32) rfl (bvs x.1) _ HQ1.out Try.underlying35 rfl (sizeId x) ?_; refine Stop.on ?_)
    refine Stop.go ?_
    try simp only [Act.put, List.setIfInBounds_toArray, List.set_cons_zero, List.set_cons_succ]
    go_wp2_with (with_reducible refine wpList_load_mid rfl 35 (.tmp 43) rfl g2 (o2 + j * 33 + 1) rfl (bvs x.1) _ HQ2.out Try.underlying35 rfl (sizeId x) ?_; refine Stop.on ?_)
    refine Stop.go ?_
    try simp only [Act.put, List.setIfInBounds_toArray, List.set_cons_zero, List.set_cons_succ]
    refine HeadPost.mk ?_
    refine wpList_runI rfl (some 45) rfl (.bool false) _ (op_neq 35 (.tmp 39) (.tmp 44) 35 rfl rfl rfl guard_Id (by have h1 := neq_Id x x wd; rw [decide_eq_true rfl] at h1; exact h1)) ?_
    try simp only [Act.put, List.setIfInBounds_toArray, List.set_cons_zero, List.set_cons_succ]
    go_wp2_with fail
    go_roundw
    case rel => exact ⟨j + 1, by omega, by go_num, HBd⟩
    case measure => simp [intOf] <;> omega
end Go.Proofs.Ythfinofmbnfijaa
