/- Missing; ThreadFinds. -/
import Derived.Test.YthfinofmbnfijaaTh31
import Derived.Test.YthfinofmbnfijaaTp19
namespace Go.Proofs.Ythfinofmbnfijaa
open Go.Shelf Go.RowKit Go.Lib Go.Sort
set_option linter.unusedVariables false
set_option linter.unusedSimpArgs false

def IdsPost (w : World) (R : List IdB) (e : Ending) (w' : World) : Prop := ∃ v', e = .returned v' ∧ OwnL idE w' w.heap.size v' R ∧ Below w.heap.size w w'
set_option maxRecDepth 100000 in
set_option maxHeartbeats 2000000 in
theorem Missing_any {w : World} (v : Value) (F : List NodeV) (hv : ListAt nodeE w v F) (hl : F.length < 1000000) : Calls Try.prog 32 #[v] w (IdsPost w (sortB (misL F F.length))) := by
  obtain ⟨va, vc, rfl⟩ := hv.form
  obtain ⟨N, hN⟩ : ∃ N, F.length = N := ⟨_, rfl⟩
  have HN := Lib.hid hN
  rw [hN] at hv hl ⊢
  have HV := Lib.hid hv
  clear hv hN
  go_enter Try.func32, Try.ntmps32
  go_wp2_with fail
  have HB0 := Lib.hid (Below.refl w.heap.size w)
  have HO0 := Lib.hid (show OwnL idE w w.heap.size (.slice none 0 0) (misL F 0) from ownL_nil idE w w.heap.size)
  go_loopw [3, 8] (fun ov iv wr => ∃ (i : Nat) (oa : Option Addr) (on oc : Nat), i ≤ N ∧ on ≤ i ∧ iv = .int .i64 (i : Int) ∧ ov = .slice oa on oc ∧ Hid (OwnL idE wr w.heap.size (.slice oa on oc) (misL F i)) ∧ Hid (Below w.heap.size w wr)) (fun _ iv _ => N - (intOf iv).toNat)
  case atStart => exact ⟨0, none, 0, 0, Nat.zero_le _, Nat.zero_le _, rfl, rfl, HO0, HB0⟩
  case round =>
    obtain ⟨i, oa, on, oc, hi, hon, rfl, rfl, HO, HB⟩ := hrel
    obtain ⟨W0, rfl⟩ : ∃ W0, W0 = wr := ⟨_, rfl⟩
    clear HB0 HO0
    have HLEN := Lib.hid (show (misL F i).length = on by obtain ⟨a', c', e⟩ := HO.out.form; cases e; rfl)
    by_cases hlt : i < N
    case neg =>
      obtain rfl : i = N := by omega
      have HLT := Lib.hid (show (misL F i).length < 1000000000 by rw [HLEN.out]; omega)
      go_wp2_with fail
      refine (sortId_any _ HO.out HB.out.size HLT.out).mono ?_
      rintro e Ws ⟨rfl, ho, hb⟩
      have HOS := Lib.hid ho
      have HBS := Lib.hid (HB.out.trans hb)
      clear ho hb
      go_wp2_with fail
      exact bodyPost_ret (v := .slice oa on oc) (by simp [results, Try.results32, go_sem]) rfl ⟨_, rfl, HOS.out, HBS.out⟩
    have hiI : (i : Int) < (N : Int) := by omega
    have hiF : i < F.length := by rw [HN.out]; exact hlt
    obtain ⟨g, o, eg, hcell⟩ := node_at (HV.out.below HB.out) hiF
    subst eg
    obtain ⟨n, hn⟩ : ∃ n, F[i] = n := ⟨_, rfl⟩
    have hr := (hcell W0 (Below.refl _ _)).2.2.2.2
    rw [hn] at hr
    have HRR := Lib.hid hr
    have hnx := misL_next hiF
    rw [hn] at hnx
    have HNX := Lib.hid hnx
    clear hcell hr hn hnx
    go_wp2_with (with_reducible refine wpList_load_mid rfl 37 (.tmp 10) rfl g (o + i * 35) rfl n.cells _ HRR.out Try.underlying37 rfl (sizeNode n) ?_; refine Stop.on ?_)
    refine Stop.go ?_
    try simp only [Act.put, List.setIfInBounds_toArray, List.set_cons_zero, List.set_cons_succ]
    go_wp2_with (refine wpList_newV rfl (some 5) rfl 37 rfl (NodeV.cells ⟨z32, 0, 0, 0⟩).toArray 35 (by kernel_rfl) ?_; refine Stop.on ?_)
    refine Stop.go ?_
    try simp only [Act.put, List.setIfInBounds_toArray, List.set_cons_zero, List.set_cons_succ]
    intro wn xn bi sn
    try simp only [Act.put, List.setIfInBounds_toArray, List.set_cons_zero, List.set_cons_succ]
    refine wpList_putV rfl rfl 37 (.tmp 5) (.tmp 11) rfl _ (n.cells).toArray rfl rfl 37 _ xn (sizeNodeA n) (zsNode n) (oneNode n) ?_
    intro W2 xi ci si
    try simp only [Act.put, List.setIfInBounds_toArray, List.set_cons_zero, List.set_cons_succ]
    clear xn
    obtain ⟨B6, hB6⟩ : ∃ B6, W0.heap.size = B6 := ⟨_, rfl⟩
    rw [hB6] at xi ⊢
    have hb2 : Below W0.heap.size W0 W2 := bi.trans (ci.below (B := W0.heap.size) (fun k e => by omega) bi.size)
    have hm := (node_mid (range_block (cs := n.cells) xi)).1
    simp only [Nat.zero_add] at hm
    have HIR := Lib.hid (node_id (range_block (cs := n.cells) xi))
    have HO2 := Lib.hid (HO.out.below hb2)
    have HB2 := Lib.hid (HB.out.trans (hb2.mono HB.out.size))
    obtain ⟨q, hq⟩ : ∃ q, n.row = q := ⟨_, rfl⟩
    rw [hq] at hm
    have HQ := Lib.hid hq
    clear xi bi ci si sn hb2 hB6 hq
    by_cases hqp : q = -1
    case neg =>
      have hd : (q == (-1 : Int)) = false := by simp [hqp]
      have HON := Lib.hid (show OwnL idE W2 w.heap.size (.slice oa on oc) (misL F (i + 1)) by rw [HNX.out, HQ.out, if_neg hqp]; exact HO2.out)
      go_wp2_with fail
      go_roundw
      case rel => exact ⟨i + 1, oa, on, oc, by omega, by omega, by go_num, rfl, HON, HB2⟩
      case measure => simp [intOf] <;> omega
    subst hqp
    have hd : ((-1 : Int) == (-1 : Int)) = true := by simp
    go_wp2_with (with_reducible refine wpList_load_mid rfl 35 (.tmp 16) rfl B6 0 rfl (bvs n.id.1) _ HIR.out Try.underlying35 rfl (sizeId n.id) ?_; refine Stop.on ?_)
    refine Stop.go ?_
    try simp only [Act.put, List.setIfInBounds_toArray, List.set_cons_zero, List.set_cons_succ]
    go_wp2_with (refine wpList_litsV idE rfl (some 18) rfl 1 _ rfl [n.id] rfl rfl (by decide) (by decide) ?_; refine Stop.on ?_)
    refine Stop.go ?_
    try simp only [Act.put, List.setIfInBounds_toArray, List.set_cons_zero, List.set_cons_succ]
    intro Wl xl bl sl
    try simp only [Act.put, List.setIfInBounds_toArray, List.set_cons_zero, List.set_cons_succ]
    have HLL := Lib.hid (list_of_block idE (M := [n.id]) xl (by unfold maxLen; simp))
    have HOl := Lib.hid (HO2.out.below bl)
    have HBl := Lib.hid (HB2.out.trans (bl.mono HB2.out.size))
    clear xl bl sl
    go_wp2_with (refine wpList_appL idE rfl (.tmp 15) (.tmp 18) rfl rfl HOl.out rfl HLL.out (n := on) (m := 1) HLEN.out rfl (by omega) HBl.out.size ?_; refine Stop.on ?_)
    refine Stop.go ?_
    try simp only [Act.put, List.setIfInBounds_toArray, List.set_cons_zero, List.set_cons_succ]
    intro a5 c5 W5 ho5 hg5 hat5
    try simp only [Act.put, List.setIfInBounds_toArray, List.set_cons_zero, List.set_cons_succ]
    have HON := Lib.hid (show OwnL idE W5 w.heap.size (.slice a5 (on + 1) c5) (misL F (i + 1)) by rw [HNX.out, HQ.out, if_pos rfl]; exact ho5)
    have HBN := Lib.hid (HBl.out.trans (HOl.out.grown_below hg5 HBl.out.size))
    clear ho5 hg5 hat5
    go_wp2_with fail
    go_roundw
    case rel => exact ⟨i + 1, a5, on + 1, c5, by omega, by omega, by go_num, rfl, HON, HBN⟩
    case measure => simp [intOf] <;> omega
theorem cut_I (a : Option Addr) (n c m : Nat) (hm : m ≤ c) (hz : a = none → c = 0) (w : World) :
    (Instr.sliceAt 41 (.slice a n c) none (some (.int .i64 (m : Int))) none).run Try.prog w = .ok (.slice a m c) w := by
  cases a with
  | none =>
    obtain rfl := hz rfl
    obtain rfl : m = 0 := by omega
    have h0 : ∀ w, (Instr.sliceAt 41 (.slice none n 0) none (some (.int .i64 0)) none).run Try.prog w = .ok (.slice none 0 0) w := fun w => by go_simp
    exact h0 w
  | some ad =>
    have h1 : (m : Int) ≤ (c : Int) := by omega
    go_simp
theorem from_I {a : Option Addr} {n c k : Nat} {L : List IdB} (h : ∃ w, ListAt idE w (.slice a n c) L) (hk : k ≤ n) :
    ∃ v, (∀ w, (Instr.sliceAt 41 (.slice a n c) (some (.int .i64 (k : Int))) none none).run Try.prog w = .ok v w) ∧ ∀ w0, ListAt idE w0 (.slice a n c) L → ListAt idE w0 v (L.drop k) := by
  obtain ⟨w9, h9⟩ := h
  obtain ⟨hn, hc, hm, hz⟩ := h9.len
  have hL9 : n = L.length := hn
  cases a with
  | none =>
    obtain rfl := hz rfl
    obtain rfl : n = 0 := by omega
    obtain rfl : k = 0 := by omega
    refine ⟨.slice none 0 0, fun w => ?_, fun w0 h => by simpa using h⟩
    have h0 : ∀ w, (Instr.sliceAt 41 (.slice none 0 0) (some (.int .i64 0)) none none).run Try.prog w = .ok (.slice none 0 0) w := fun w => by go_simp
    exact h0 w
  | some ad =>
    have h1 : (k : Int) ≤ (n : Int) := by omega
    have h2 : (n : Int) ≤ (c : Int) := by omega
    have hnil : ∀ (w0 : World) (x : Addr) (cc : Nat), cc ≤ maxLen → ListAt idE w0 (.slice (some x) 0 cc) [] := fun w0 x cc hcc => ⟨_, _, rfl, Nat.zero_le _, hcc, (fun e => by cases e), fun e => absurd rfl e⟩
    by_cases he : c = k
    · subst he
      obtain rfl : n = c := by omega
      refine ⟨.slice (some ad) 0 0, fun w => by clear hn hnil h9 hm hz hL9; go_simp, fun w0 h => ?_⟩
      rw [List.drop_of_length_le (by omega)]
      exact hnil _ _ _ (Nat.zero_le _)
    · refine ⟨.slice (some (ad.add (k * 32))) (n - k) (c - k), fun w => by clear hn hnil h9 hm hz hL9; go_simp, fun w0 h => ?_⟩
      by_cases hL : L = []
      · subst hL
        obtain rfl : n = 0 := hL9
        obtain rfl : k = 0 := by omega
        exact hnil _ _ _ (by omega)
      · obtain ⟨a', cap', e, h3, h4, h5, h6⟩ := h.ex
        cases e
        obtain ⟨g, off, e, hg, hr⟩ := h6 hL
        cases e
        have := h.drop hk
        rw [Addr.add_mid]
        exact this
set_option maxRecDepth 100000 in
set_option maxHeartbeats 2000000 in
theorem Finds_law {w : World} (v : Value) (L : List RawV) (hv : RawsAt w v L) (b : UInt8) : Calls Try.prog 12 #[v, .int .u8 (b.toNat : Int)] w fun e w' => e = .returned (.bool true) ∧ Below w.heap.size w w' := by
  have HV := Lib.hid hv
  clear hv
  go_enter Try.func12, Try.ntmps12
  go_wp2_with fail
  refine (rows_any _ L HV.out).mono ?_
  rintro e Wa ⟨xv, M, rfl, ho, ht, hb⟩
  obtain ⟨hN14, hnd⟩ := rows_facts ht
  obtain ⟨xa, xc, rfl⟩ := ho.own.form
  obtain ⟨N, hN⟩ : ∃ N, M.length = N := ⟨_, rfl⟩
  rw [hN] at ho hN14 ⊢
  have HM := Lib.hid ho
  have HN := Lib.hid hN
  have HND := Lib.hid hnd
  have HBA := Lib.hid hb
  clear ho ht hN hb hnd
  obtain ⟨c, hc⟩ := isCut_ex (parP M) (arrS M)
  have hgood := good HND.out hc
  obtain ⟨F, hF⟩ : ∃ F, forestV M c = F := ⟨_, rfl⟩
  rw [hF] at hgood
  have hFl : F.length ≤ 28 := by
    rw [← hF, forestV_eq HND.out]
    unfold forestS
    refine Nat.le_trans (forL_len (cut_acyclic hc) (pls_nodup HND.out c) _ _) ?_
    have := pls_len M c
    have h2 := HN.out
    omega
  go_wp2_with fail
  refine (forest_any _ M c hc HM.out.at_ HND.out (by rw [HN.out]; omega)).mono ?_
  rintro e Wf ⟨fv, rfl, hof, hb⟩
  rw [hF] at hof
  obtain ⟨fa, fc, rfl⟩ := hof.form
  obtain ⟨n, hn⟩ : ∃ n, F.length = n := ⟨_, rfl⟩
  rw [hn] at hof hFl ⊢
  obtain ⟨hz1, hnfc, hfcm, hz2⟩ := hof.at_.len
  unfold maxLen at hfcm
  have HFN := Lib.hid hn
  have HG := Lib.hid hgood
  have HC1 := Lib.hid hc
  have HFE := Lib.hid hF
  have HF0 := Lib.hid hof.at_
  have HM0 := Lib.hid (HM.out.below hb)
  have HB0 := Lib.hid (HBA.out.trans (hb.mono HBA.out.size))
  clear hof hb hgood hF hn hz1 hz2 HM HBA hc
  obtain ⟨x, hx⟩ : ∃ x, idOf b = x := ⟨_, rfl⟩
  have HX := Lib.hid hx
  clear hx HM0
  have HK0 := Lib.hid (Below.refl Wf.heap.size Wf)
  have HO0 := Lib.hid (show OwnL idE Wf Wf.heap.size (.slice none 0 0) [] from ownL_nil idE Wf Wf.heap.size)
  have HF00 := Lib.hid (FndI.zero F x)
  have HMI0 := Lib.hid (show MisI F 0 [] from ⟨List.Perm.refl _, List.Pairwise.nil⟩)
  go_wp2_with fail
  go_loopw [6, 7, 8, 9, 10] (fun wv sv mv iv kv wr => ∃ (i want : Nat) (is : Bool) (M : List IdB) (ma : Option Addr) (mn mc : Nat), i ≤ n ∧ (want ≤ n ∧ mn ≤ i) ∧ iv = .int .i64 (i : Int) ∧ wv = .int .i64 (want : Int) ∧ sv = .bool is ∧ mv = .slice ma mn mc ∧ Hid (FndI F x i want is) ∧ Hid (MisI F i M) ∧ Hid (OwnL idE wr Wf.heap.size (.slice ma mn mc) M) ∧ Hid (Below Wf.heap.size Wf wr)) (fun _ _ _ iv _ _ => n - (intOf iv).toNat)
  case atStart => exact ⟨0, 0, false, [], none, 0, 0, Nat.zero_le _, by omega, rfl, rfl, rfl, rfl, HF00, HMI0, HO0, HK0⟩
  case round =>
    obtain ⟨i, want, is, M', ma, mn, mc, hi, hwm, rfl, rfl, rfl, rfl, HFI, HMI, HO, HB⟩ := hrel
    obtain ⟨W0, rfl⟩ : ∃ W0, W0 = wr := ⟨_, rfl⟩
    clear HK0 HO0 HF00 HMI0
    have HFW := Lib.hid (HF0.out.below HB.out)
    have HMN := Lib.hid (show M'.length = mn from HO.out.at_.len.1.symm)
    by_cases hlt : i < n
    case neg =>
      obtain rfl : i = n := by omega
      have HBE := Lib.hid (HB0.out.trans (HB.out.mono HB0.out.size))
      have HMD := Lib.hid (HMI.out.done HG.out.nodup)
      have HMA := Lib.hid HO.out.at_
      go_wp2_with fail
      refine (id_any b).mono ?_
      rintro e Wi ⟨rfl, hb⟩
      rw [HX.out]
      have HFW := Lib.hid (HFW.out.below hb)
      have HMA := Lib.hid (HMA.out.below hb)
      have HBE := Lib.hid (HBE.out.trans (hb.mono HBE.out.size))
      clear hb
      go_wp2_with fail
      refine (Find_any _ F HFW.out (by rw [HFN.out]; omega) x).mono ?_
      rintro e Wj ⟨hb, hor⟩
      have hres : e = .returned (.tuple #[.int .i64 (want : Int), .bool is]) := by
        rcases hor with ⟨hno, he⟩ | ⟨k, hk, hkx, _, he⟩
        · cases is with
          | false => rw [he, (HFI.out.no rfl).1]; rfl
          | true =>
            obtain ⟨h1, h2⟩ := HFI.out.yes rfl
            exact absurd h2 (hno _ (List.getElem_mem h1))
        · cases is with
          | false => exact absurd hkx ((HFI.out.no rfl).2 k hk (by rw [← HFN.out]; exact hk))
          | true =>
            obtain ⟨h1, h2⟩ := HFI.out.yes rfl
            have hnd := HG.out.nodup
            rw [List.nodup_iff_pairwise_ne, List.pairwise_map, List.pairwise_iff_getElem] at hnd
            have : k = want := by
              rcases Nat.lt_trichotomy k want with h | h | h
              · exact absurd (hkx.trans h2.symm) (hnd k want hk h1 h)
              · exact h
              · exact absurd (h2.trans hkx.symm) (hnd want k h1 hk h)
            rw [he, this]
      subst hres
      have HFW := Lib.hid (HFW.out.below hb)
      have HMA := Lib.hid (HMA.out.below hb)
      have HBE := Lib.hid (HBE.out.trans (hb.mono HBE.out.size))
      clear hb hor
      go_wp2_with fail
      refine (Missing_any _ F HFW.out (by rw [HFN.out]; omega)).mono ?_
      rintro e Wm ⟨sv, rfl, hos, hb⟩
      rw [HFN.out, ← HMD.out] at hos
      obtain ⟨sa, sc, rfl⟩ := hos.form
      rw [HMN.out] at hos ⊢
      have HSA := Lib.hid hos.at_
      have HMA := Lib.hid (HMA.out.below hb)
      have HBE := Lib.hid (HBE.out.trans (hb.mono HBE.out.size))
      clear hos hb
      go_wp2_with fail
      refine known_any.mono ?_
      rintro e Wk ⟨rfl, hb⟩
      have HSA := Lib.hid (HSA.out.below hb)
      have HMA := Lib.hid (HMA.out.below hb)
      have HBE := Lib.hid (HBE.out.trans (hb.mono HBE.out.size))
      clear hb
      have hww : ((want : Int) != (want : Int)) = false := by simp
      have hmm : ((mn : Int) != (mn : Int)) = false := by simp
      have hss : (is != is) = false := by simp
      have HK0 := Lib.hid (Below.refl Wk.heap.size Wk)
      go_wp2_with fail
      go_loopw [14] (fun kv wr => ∃ k : Nat, k ≤ mn ∧ kv = .int .i64 (k : Int) ∧ Hid (Below Wk.heap.size Wk wr)) (fun kv _ => mn - (intOf kv).toNat)
      case atStart => exact ⟨0, Nat.zero_le _, rfl, HK0⟩
      case round =>
        obtain ⟨k, hk, rfl, HBK⟩ := hrel
        obtain ⟨W1, rfl⟩ : ∃ W1, W1 = wr := ⟨_, rfl⟩
        clear HK0
        have HBF := Lib.hid (HBE.out.trans (HBK.out.mono HBE.out.size))
        by_cases hkm : k < mn
        case neg =>
          obtain rfl : k = mn := by omega
          go_wp2_with fail
          exact bodyPost_ret (v := .bool true) (by simp [results, Try.results12, go_sem]) rfl ⟨rfl, HBF.out⟩
        have hkI : (k : Int) < (mn : Int) := by omega
        have hkM : k < M'.length := by rw [HMN.out]; exact hkm
        obtain ⟨g1, o1, e1, hg1, hr1⟩ := (HSA.out.below HBK.out).get hkM
        subst e1
        obtain ⟨g2, o2, e2, hg2, hr2⟩ := (HMA.out.below HBK.out).get hkM
        subst e2
        obtain ⟨y, hy⟩ : ∃ y, M'[k] = y := ⟨_, rfl⟩
        rw [hy] at hr1 hr2
        have HQ := Lib.hid (show ∀ w', Below W1.heap.size W1 w' → w'.rangeAt g1 (o1 + k * 32) (bvs y.1) ∧ w'.rangeAt g2 (o2 + k * 32) (bvs y.1) from fun w' hw' => ⟨range_below hr1 hg1 hw', range_below hr2 hg2 hw'⟩)
        clear hr1 hr2 hg1 hg2 hy
        go_wp2_with fail
        refine wp_region_seq 8 (by kernel_rfl) (by kernel_rfl) ?_
        simp only [List.take_succ_cons, List.take_zero, List.drop_succ_cons, List.drop_zero]
        obtain ⟨wd, hwd⟩ : ∃ wd, W1.drew = wd := ⟨_, rfl⟩
        have hd_wd : Below W1.heap.size W1 wd ∧ wd.heap.size = W1.heap.size := hwd ▸ ⟨(Below.refl _ _).drew, rfl⟩
        rw [hwd]
        clear hwd
        have HQ1 := Lib.hid (HQ.out wd hd_wd.1).1
        have HQ2 := Lib.hid (HQ.out wd hd_wd.1).2
        have HBd := Lib.hid (HBK.out.trans (hd_wd.1.mono HBK.out.size))
        clear hd_wd
        go_wp2_with (with_reducible refine wpList_load_mid rfl 35 (.tmp 110) rfl g1 (o1 + k * 32) rfl (bvs y.1) _ HQ1.out Try.underlying35 rfl (sizeId y) ?_; refine Stop.on ?_)
        refine Stop.go ?_
        try simp only [Act.put, List.setIfInBounds_toArray, List.set_cons_zero, List.set_cons_succ]
        go_wp2_with (with_reducible refine wpList_load_mid rfl 35 (.tmp 114) rfl g2 (o2 + k * 32) rfl (bvs y.1) _ HQ2.out Try.underlying35 rfl (sizeId y) ?_; refine Stop.on ?_)
        refine Stop.go ?_
        try simp only [Act.put, List.setIfInBounds_toArray, List.set_cons_zero, List.set_cons_succ]
        refine HeadPost.mk ?_
        refine wpList_runI rfl (some 116) rfl (.bool false) _ (op_neq 35 (.tmp 111) (.tmp 115) 35 rfl rfl rfl guard_Id (by have h1 := neq_Id y y wd; rw [decide_eq_true rfl] at h1; exact h1)) ?_
        try simp only [Act.put, List.setIfInBounds_toArray, List.set_cons_zero, List.set_cons_succ]
        go_wp2_with fail
        go_roundw
        case rel => exact ⟨k + 1, by omega, by go_num, HBd⟩
        case measure => simp [intOf] <;> omega
    have hiI : (i : Int) < (n : Int) := by omega
    have hiF : i < F.length := by rw [HFN.out]; exact hlt
    obtain ⟨fg, fo, ef, hcell⟩ := node_at HF0.out hiF
    subst ef
    obtain ⟨nd, hnd⟩ : ∃ nd, F[i] = nd := ⟨_, rfl⟩
    rw [hnd] at hcell
    obtain ⟨r1, hr1⟩ : ∃ r, nd.row = r := ⟨_, rfl⟩
    obtain ⟨y, hy⟩ : ∃ y, nd.id = y := ⟨_, rfl⟩
    have HND := Lib.hid hnd
    have HRW := Lib.hid (show F[i].row = r1 by rw [hnd, hr1])
    have HIDY := Lib.hid (show F[i].id = y by rw [hnd, hy])
    have hrge : -1 ≤ r1 := by rw [← hr1, ← hnd]; exact (chk_all HG.out.check i hiF).row
    have HC := Lib.hid (show ∀ w', Below Wf.heap.size Wf w' → w'.cell? ⟨fg, fo + i * 35 + 32, none⟩ = some (.int .i64 r1) ∧ w'.rangeAt fg (fo + i * 35) (bvs y.1) from fun w' hw' => by
      obtain ⟨a1, _, _, a4, _⟩ := hcell w' hw'
      rw [hr1] at a1
      rw [hy] at a4
      exact ⟨a1, a4⟩)
    clear hcell hnd hr1 hy HFW
    go_upto_block 1 with (fail)
    refine wp_block ?_
    refine wp_seq_k ?_
    intro K1 hK1
    go_cut [6, 7] from 24 to 32 (fun wv sv wc => ∃ (want : Nat) (is : Bool), want ≤ n ∧ wv = .int .i64 (want : Int) ∧ sv = .bool is ∧ Hid (FndI F x (i + 1) want is) ∧ Hid (OwnL idE wc Wf.heap.size (.slice ma mn mc) M') ∧ Hid (Below Wf.heap.size Wf wc))
    case first =>
      go_wp2_with fail
      refine wp_region_noPanic ?_
      refine wp_region_H (Below Wf.heap.size Wf) (by kernel_rfl) ?_
      have hS0 : (Below Wf.heap.size Wf) W0.drew := HB.out.trans ((Below.refl W0.heap.size W0).drew.mono HB.out.size)
      have hOd := HO.out.below (Below.refl W0.heap.size W0).drew
      obtain ⟨wd, hwd⟩ : ∃ wd, W0.drew = wd := ⟨_, rfl⟩
      rw [hwd] at hS0 hOd ⊢
      clear hwd
      refine wpAnyH_takeI (i := 0) (v := ?v1) rfl (by kernel_rfl) (by kernel_rfl) (by kernel_rfl) (fun _ _ _ h => h) (yieldsIf_run rfl (fun w' hw' => ?y1)) hS0 ?_
      case y1 => first | (go_simp; rfl) | (go_simp; done) | rfl
      simp only [Act.put, List.setIfInBounds_toArray, List.set_cons_zero, List.set_cons_succ]
      refine wpAnyH_takeI (i := 1) (v := ?v2) rfl (by kernel_rfl) (by kernel_rfl) (by kernel_rfl) (fun _ _ _ h => h) (yieldsIf_run rfl (fun w' hw' => ?y2)) hS0 ?_
      case y2 => first | (go_simp; rfl) | (go_simp; done) | rfl
      simp only [Act.put, List.setIfInBounds_toArray, List.set_cons_zero, List.set_cons_succ]
      refine wpAnyH_takeI (i := 2) (v := ?v3) rfl (by kernel_rfl) (by kernel_rfl) (by kernel_rfl) (fun _ _ _ h => h) (yieldsIf_run rfl (fun w' hw' => ?y3)) hS0 ?_
      case y3 => first | (go_simp; rfl) | (go_simp; done) | rfl
      simp only [Act.put, List.setIfInBounds_toArray, List.set_cons_zero, List.set_cons_succ]
      refine wpAnyH_takeI (i := 3) (v := ?v4) rfl (by kernel_rfl) (by kernel_rfl) (by kernel_rfl) (fun _ _ _ h => h) (yieldsIf_run rfl (fun w' hw' => ?y4)) hS0 ?_
      case y4 => first | (go_simp; rfl) | (go_simp; done) | rfl
      simp only [Act.put, List.setIfInBounds_toArray, List.set_cons_zero, List.set_cons_succ]
      refine wpAnyH_takeI (i := 4) (v := .agg (bvs y.1).toArray) rfl (by kernel_rfl) (by kernel_rfl) (by kernel_rfl) (fun _ _ _ h => h) (yieldsIf_load_mid rfl 35 (.tmp 27) rfl fg (fo + i * 35) rfl (bvs y.1) _ (fun w' hw' => (HC.out w' hw').2) Try.underlying35 rfl (sizeId y)) hS0 ?_
      simp only [Act.put, List.setIfInBounds_toArray, List.set_cons_zero, List.set_cons_succ]
      refine wpAnyH_takeI (i := 5) (v := ?v5) rfl (by kernel_rfl) (by kernel_rfl) (by kernel_rfl) (fun _ _ _ h => h) (yieldsIf_run rfl (fun w' hw' => ?y5)) hS0 ?_
      case y5 => first | (go_simp; rfl) | (go_simp; done) | rfl
      simp only [Act.put, List.setIfInBounds_toArray, List.set_cons_zero, List.set_cons_succ]
      refine wpAnyH_do (i := 6) (by kernel_rfl) rfl rfl (fun K hK => ?_)
      go_simp
      go_at_call 30
      refine (id_any b).mono ?_
      rintro e Wi ⟨rfl, hbi⟩
      rw [HX.out]
      have hsWi := hS0.trans (hbi.mono hS0.size)
      have hOi := hOd.below hbi
      clear hbi hOd
      refine hK _ _ (hsWi) ?_
      clear hK K
      try simp only [Act.put, List.setIfInBounds_toArray, List.set_cons_zero, List.set_cons_succ]
      refine wpAnyH_takeI (i := 7) (v := .bool (decide (y = x))) rfl (by kernel_rfl) (by kernel_rfl) (by kernel_rfl) (fun _ _ _ h => h) (yieldsIf_run rfl (fun w' hw' => op_eql 35 (.tmp 28) (.tmp 30) 35 rfl rfl rfl guard_Id (eql_Id y x _))) hsWi ?_
      simp only [Act.put, List.setIfInBounds_toArray, List.set_cons_zero, List.set_cons_succ]
      refine wpAnyH_done (by kernel_rfl) ?_ _
      refine NoPanic.normal ?_
      have HOi := Lib.hid hOi
      have HBi := Lib.hid hsWi
      clear hOi hsWi hS0
      by_cases hyx : y = x
      case pos =>
        rw [decide_eq_true hyx]
        have HFN2 := Lib.hid (FndI.hit hiF (HIDY.out.trans hyx))
        clear hyx
        go_wp2_with fail
        go_meet
        case rel => exact ⟨i, true, by omega, rfl, rfl, HFN2, HOi, HBi⟩
      rw [decide_eq_false hyx]
      have HFN2 := Lib.hid (HFI.out.miss hiF (by rw [HIDY.out]; exact hyx))
      clear hyx
      go_wp2_with fail
      go_meet
      case rel => exact ⟨want, is, by omega, rfl, rfl, HFN2, HOi, HBi⟩
    case rest =>
    obtain ⟨want, is, hwn, rfl, rfl, HFI, HO, HB⟩ := hcut
    obtain ⟨W1, rfl⟩ : ∃ W1, W1 = wc := ⟨_, rfl⟩
    refine hK1 _ _ ?_
    clear hK1 K1
    have q0 := (HC.out W1 HB.out).1
    by_cases hrow : r1 = -1
    case neg =>
      have hd : decide (r1 < 0) = false := decide_eq_false (by omega)
      have HMN2 := Lib.hid (HMI.out.skip hiF (by rw [HRW.out]; exact hrow))
      go_wp2_with fail
      go_roundw
      case rel => exact ⟨i + 1, want, is, M', ma, mn, mc, by omega, by omega, by go_num, rfl, rfl, rfl, HFI, HMN2, HO, HB⟩
      case measure => simp [intOf] <;> omega
    subst hrow
    have hd : decide ((-1 : Int) < 0) = true := by decide
    have HK0 := Lib.hid (show ∀ j (hj : j < M'.length), j < 0 → cmpB M'[j] y < 0 from fun j _ h => absurd h (Nat.not_lt_zero j))
    have HR0 := Lib.hid (Below.refl W1.heap.size W1)
    go_wp2_with fail
    clear q0
    go_loopw [10] (fun kv wr => ∃ k : Nat, k ≤ mn ∧ kv = .int .i64 (k : Int) ∧ Hid (∀ j (hj : j < M'.length), j < k → cmpB M'[j] y < 0) ∧ Hid (Below W1.heap.size W1 wr)) (fun kv _ => mn - (intOf kv).toNat)
    case atStart => exact ⟨0, Nat.zero_le _, rfl, HK0, HR0⟩
    case round =>
      obtain ⟨k, hk, rfl, HLE, HR⟩ := hrel
      obtain ⟨W2, rfl⟩ : ∃ W2, W2 = wr := ⟨_, rfl⟩
      clear HK0 HR0
      have HB2 := Lib.hid (HB.out.trans (HR.out.mono HB.out.size))
      have HO2 := Lib.hid (HO.out.below HR.out)
      by_cases hkm : k < mn
      case neg =>
        obtain rfl : k = mn := by omega
        have hkd : decide ((k : Int) < (k : Int)) = false := by simp
        go_wp2_with fail
        refine wp_region_seq 14 (by kernel_rfl) (by kernel_rfl) ?_
        simp only [List.take_succ_cons, List.take_zero, List.drop_succ_cons, List.drop_zero]
        obtain ⟨wd, hwd⟩ : ∃ wd, W2.drew = wd := ⟨_, rfl⟩
        have hd_wd : Below W2.heap.size W2 wd ∧ wd.heap.size = W2.heap.size := hwd ▸ ⟨(Below.refl _ _).drew, rfl⟩
        rw [hwd]
        clear hwd
        have HOx := Lib.hid (HO2.out.below hd_wd.1)
        have HBx := Lib.hid (HB2.out.trans (hd_wd.1.mono HB2.out.size))
        clear hd_wd
        go_wp2_with fail
        refine HeadPost.mk ?_
        go_wp2_with fail
        have HIN := Lib.hid (show MisI F (i + 1) (insB M' y k) by
          rw [← HIDY.out]
          refine HMI.out.next HG.out.nodup hiF HRW.out (by rw [HMN.out]; exact hk) (fun j hj hjk => by rw [HIDY.out]; exact HLE.out j hj hjk) (fun hk2 => ?_)
          rw [HIDY.out]
          exact absurd hk2 (by rw [HMN.out]; omega))
        obtain ⟨hz1, hmc1, hmc2, hmz⟩ := HOx.out.at_.len
        unfold maxLen at hmc2
        have hcut := cut_I ma k mc k (by omega) hmz
        obtain ⟨vd, hfrom, hld⟩ := from_I ⟨wd, HOx.out.at_⟩ hk
        have HTK := Lib.hid (HOx.out.at_.take (k := k) hk)
        have HLD := Lib.hid (hld wd HOx.out.at_)
        have HLT := Lib.hid (show (M'.take k).length = k by rw [List.length_take, HMN.out]; omega)
        have HLDR := Lib.hid (show (M'.drop k).length = k - k by rw [List.length_drop, HMN.out])
        have HSZ := Lib.hid (sizeIdA y)
        have HCS := Lib.hid (show (bvs y.1).toArray.size = 32 by rw [List.size_toArray, bvs_length, y.2])
        have HYR := Lib.hid (show ∀ w', Below wd.heap.size wd w' → w'.rangeAt fg (fo + i * 35) (bvs y.1) from fun w' hw' => (HC.out w' (HBx.out.trans (hw'.mono HBx.out.size))).2)
        clear hz1 hmc1 hmz hld
        go_wp2_with fail
        refine wp_region_noPanic ?_
        refine wp_region_H (Below wd.heap.size wd) (by kernel_rfl) ?_
        have hS0 : (Below wd.heap.size wd) wd.drew := (Below.refl _ _).drew
        obtain ⟨we, hwe⟩ : ∃ we, wd.drew = we := ⟨_, rfl⟩
        rw [hwe] at hS0 ⊢
        clear hwe
        refine wpAnyH_takeI (i := 1) (v := ?v6) rfl (by kernel_rfl) (by kernel_rfl) (by kernel_rfl) (fun _ _ _ h => h) (yieldsIf_run rfl (fun w' hw' => ?y6)) hS0 ?_
        case y6 => first | (go_simp; rfl) | (go_simp; done) | rfl
        simp only [Act.put, List.setIfInBounds_toArray, List.set_cons_zero, List.set_cons_succ]
        refine wpAnyH_takeI (i := 2) (v := ?v7) rfl (by kernel_rfl) (by kernel_rfl) (by kernel_rfl) (fun _ _ _ h => h) (yieldsIf_run rfl (fun w' hw' => ?y7)) hS0 ?_
        case y7 => first | (go_simp; rfl) | (go_simp; done) | rfl
        simp only [Act.put, List.setIfInBounds_toArray, List.set_cons_zero, List.set_cons_succ]
        refine wpAnyH_takeI (i := 3) (v := .slice ma k mc) rfl (by kernel_rfl) (by kernel_rfl) (by kernel_rfl) (fun _ _ _ h => h) (yieldsIf_run rfl (fun w' hw' => ?y8)) hS0 ?_
        case y8 => first | (go_simp; rfl) | (go_simp; done) | rfl
        simp only [Act.put, List.setIfInBounds_toArray, List.set_cons_zero, List.set_cons_succ]
        refine wpAnyH_takeI (i := 5) (v := ?v9) rfl (by kernel_rfl) (by kernel_rfl) (by kernel_rfl) (fun _ _ _ h => h) (yieldsIf_run rfl (fun w' hw' => ?y9)) hS0 ?_
        case y9 => first | (go_simp; rfl) | (go_simp; done) | rfl
        simp only [Act.put, List.setIfInBounds_toArray, List.set_cons_zero, List.set_cons_succ]
        refine wpAnyH_takeI (i := 6) (v := ?v10) rfl (by kernel_rfl) (by kernel_rfl) (by kernel_rfl) (fun _ _ _ h => h) (yieldsIf_run rfl (fun w' hw' => ?y10)) hS0 ?_
        case y10 => first | (go_simp; rfl) | (go_simp; done) | rfl
        simp only [Act.put, List.setIfInBounds_toArray, List.set_cons_zero, List.set_cons_succ]
        refine wpAnyH_takeI (i := 7) (v := ?v11) rfl (by kernel_rfl) (by kernel_rfl) (by kernel_rfl) (fun _ _ _ h => h) (yieldsIf_run rfl (fun w' hw' => ?y11)) hS0 ?_
        case y11 => first | (go_simp; rfl) | (go_simp; done) | rfl
        simp only [Act.put, List.setIfInBounds_toArray, List.set_cons_zero, List.set_cons_succ]
        refine wpAnyH_takeI (i := 8) (v := ?v12) rfl (by kernel_rfl) (by kernel_rfl) (by kernel_rfl) (fun _ _ _ h => h) (yieldsIf_run rfl (fun w' hw' => ?y12)) hS0 ?_
        case y12 => first | (go_simp; rfl) | (go_simp; done) | rfl
        simp only [Act.put, List.setIfInBounds_toArray, List.set_cons_zero, List.set_cons_succ]
        refine wpAnyH_takeI (i := 9) (v := .agg (bvs y.1).toArray) rfl (by kernel_rfl) (by kernel_rfl) (by kernel_rfl) (fun _ _ _ h => h) (yieldsIf_load_mid rfl 35 (.tmp 66) rfl fg (fo + i * 35) rfl (bvs y.1) _ (fun w' hw' => HYR.out w' hw') Try.underlying35 rfl (sizeId y)) hS0 ?_
        simp only [Act.put, List.setIfInBounds_toArray, List.set_cons_zero, List.set_cons_succ]
        refine wpAnyH_takeI (i := 12) (v := ?v13) rfl (by kernel_rfl) (by kernel_rfl) (by kernel_rfl) (fun _ _ _ h => h) (yieldsIf_run rfl (fun w' hw' => ?y13)) hS0 ?_
        case y13 => first | (go_simp; rfl) | (go_simp; done) | rfl
        simp only [Act.put, List.setIfInBounds_toArray, List.set_cons_zero, List.set_cons_succ]
        refine wpAnyH_takeI (i := 13) (v := ?v14) rfl (by kernel_rfl) (by kernel_rfl) (by kernel_rfl) (fun _ _ _ h => h) (yieldsIf_run rfl (fun w' hw' => ?y14)) hS0 ?_
        case y14 => first | (go_simp; rfl) | (go_simp; done) | rfl
        simp only [Act.put, List.setIfInBounds_toArray, List.set_cons_zero, List.set_cons_succ]
        refine wpAnyH_takeI (i := 14) (v := vd) rfl (by kernel_rfl) (by kernel_rfl) (by kernel_rfl) (fun _ _ _ h => h) (yieldsIf_run rfl (fun w' hw' => ?y15)) hS0 ?_
        case y15 => first | (go_simp; rfl) | (go_simp; done) | rfl
        simp only [Act.put, List.setIfInBounds_toArray, List.set_cons_zero, List.set_cons_succ]
        clear hcut hfrom
        have hS := hS0
        clear hS0
        refine wpAnyH_two (i := 0) (j := 10) (by kernel_rfl) rfl rfl rfl rfl (fun K hK => ?_) (fun K hK => ?_)
        · go_simp
          obtain ⟨wen, hwn⟩ : ∃ wen, we.alloc (.cells #[] 35) = wen := ⟨_, rfl⟩
          have hb : Below we.heap.size we wen := hwn ▸ (Below.refl _ _).alloc (Nat.le_refl _) _
          have hE : OwnL idE wen wd.heap.size (Value.slice (some ⟨we.heap.size, 0, none⟩) 0 0) [] := hwn ▸ ownL_zero idE hS.size
          rw [hwn]
          clear hwn
          replace hS := hS.trans (hb.mono hS.size)
          clear hb
          refine hK _ _ hS ?_
          clear hK K
          try simp only [Act.put, List.setIfInBounds_toArray, List.set_cons_zero, List.set_cons_succ]
          refine wpAnyH_two (i := 4) (j := 10) (by kernel_rfl) rfl rfl rfl rfl (fun K hK => ?_) (fun K hK => ?_)
          · refine wp_appL idE (.tmp 58) (.tmp 61) rfl rfl hE rfl (HTK.out.below hS) (n := 0) (m := k) rfl HLT.out (by omega) hS.size ?_
            intro a4 c4 wenn ho9 hgr hat
            have hb := hE.grown_below hgr hS.size
            rw [Nat.zero_add] at ho9 hat ⊢
            rw [List.nil_append] at ho9
            clear hE hgr hat
            have hE := ho9
            clear ho9
            replace hS := hS.trans hb
            clear hb
            refine hK _ _ hS ?_
            clear hK K
            try simp only [Act.put, List.setIfInBounds_toArray, List.set_cons_zero, List.set_cons_succ]
            refine wpAnyH_do (i := 10) (by kernel_rfl) rfl rfl (fun K hK => ?_)
            refine wp_lit1 41 35 (.tmp 67) rfl (bvs y.1).toArray rfl Try.underlying41 HSZ.out (by kernel_rfl) (by rw [HCS.out]; decide) (by rw [HCS.out]; decide) ?_
            obtain ⟨wennn, hwn⟩ : ∃ wennn, wenn.alloc (.cells (bvs y.1).toArray 35) = wennn := ⟨_, rfl⟩
            have hb : Below wenn.heap.size wenn wennn := hwn ▸ one_below idE wenn y
            have hL : wennn.heap[wenn.heap.size]? = some (.cells (bvs y.1).toArray 35 (0, 0)) := by rw [← hwn]; exact heap_alloc_new _ _
            rw [hwn]
            have hD0 : ∀ x, (Value.slice a4 (k) c4).ownBlock = some x → wenn.heap.size ≠ x := fun x hx e => by have h1 := (hE.lt hx).2; omega
            replace hE := hE.below hb
            obtain ⟨b6, hb6⟩ : ∃ b6, wenn.heap.size = b6 := ⟨_, rfl⟩
            rw [hb6] at hL ⊢
            have hD : ∀ x, (Value.slice a4 (k) c4).ownBlock = some x → b6 ≠ x := fun x hx => hb6 ▸ hD0 x hx
            clear hD0
            replace hS := hS.trans (hb.mono hS.size)
            clear hb hwn hb6
            refine hK _ _ hS ?_
            clear hK K
            try simp only [Act.put, List.setIfInBounds_toArray, List.set_cons_zero, List.set_cons_succ]
            refine wpAnyH_do (i := 11) (by kernel_rfl) rfl rfl (fun K hK => ?_)
            refine wp_appL idE (.tmp 62) (.tmp 68) rfl rfl hE rfl (list_block1 idE hL) (n := k) (m := 1) HLT.out rfl (by omega) hS.size ?_
            intro a7 c7 wennnn ho9 hgr hat
            have hb := hE.grown_below hgr hS.size
            clear hE hgr hat
            have hE := ho9
            clear ho9
            replace hS := hS.trans hb
            clear hb
            clear hL hD
            refine hK _ _ hS ?_
            clear hK K
            try simp only [Act.put, List.setIfInBounds_toArray, List.set_cons_zero, List.set_cons_succ]
            refine wpAnyH_do (i := 15) (by kernel_rfl) rfl rfl (fun K hK => ?_)
            refine wp_appL idE (.tmp 69) (.tmp 72) rfl rfl hE rfl (HLD.out.below hS) (n := k + 1) (m := k - k) (by rw [List.length_append, HLT.out]; rfl) HLDR.out (by omega) hS.size ?_
            intro a11 c11 wennnnn ho9 hgr hat
            have hb := hE.grown_below hgr hS.size
            clear hE hgr hat
            have hE := ho9
            clear ho9
            replace hS := hS.trans hb
            clear hb
            refine hK _ _ hS ?_
            clear hK K
            try simp only [Act.put, List.setIfInBounds_toArray, List.set_cons_zero, List.set_cons_succ]
            refine wpAnyH_takeI (i := 16) (v := ?v16) rfl (by kernel_rfl) (by kernel_rfl) (by kernel_rfl) (fun _ _ _ h => h) (yieldsIf_run rfl (fun w' hw' => ?y16)) hS ?_
            case y16 => first | (go_simp; rfl) | (go_simp; done) | rfl
            simp only [Act.put, List.setIfInBounds_toArray, List.set_cons_zero, List.set_cons_succ]
            refine wpAnyH_done (by kernel_rfl) ?_ _
            refine NoPanic.normal ?_
            have HON := Lib.hid (show OwnL idE wennnnn Wf.heap.size (.slice a11 (k + 1) c11) (insB M' y k) by
              have e1 : k + 1 + (k - k) = k + 1 := by omega
              rw [e1] at hE
              exact OwnL.base hE HBx.out.size)
            have HBN := Lib.hid (HBx.out.trans (hS.mono HBx.out.size))
            have e1 : k + 1 + (k - k) = k + 1 := by omega
            rw [e1]
            clear hE hS e1
            go_wp2_with fail
            go_roundw
            case rel => exact ⟨i + 1, want, is, insB M' y k, a11, k + 1, c11, by omega, by omega, by go_num, rfl, rfl, rfl, HFI, HIN, HON, HBN⟩
            case measure => simp [intOf] <;> omega
          · refine wp_lit1 41 35 (.tmp 67) rfl (bvs y.1).toArray rfl Try.underlying41 HSZ.out (by kernel_rfl) (by rw [HCS.out]; decide) (by rw [HCS.out]; decide) ?_
            obtain ⟨wenn, hwn⟩ : ∃ wenn, wen.alloc (.cells (bvs y.1).toArray 35) = wenn := ⟨_, rfl⟩
            have hb : Below wen.heap.size wen wenn := hwn ▸ one_below idE wen y
            have hL : wenn.heap[wen.heap.size]? = some (.cells (bvs y.1).toArray 35 (0, 0)) := by rw [← hwn]; exact heap_alloc_new _ _
            rw [hwn]
            have hD0 : ∀ x, (Value.slice (some ⟨we.heap.size, 0, none⟩) 0 0).ownBlock = some x → wen.heap.size ≠ x := fun x hx e => by have h1 := (hE.lt hx).2; omega
            replace hE := hE.below hb
            obtain ⟨b6, hb6⟩ : ∃ b6, wen.heap.size = b6 := ⟨_, rfl⟩
            rw [hb6] at hL ⊢
            have hD : ∀ x, (Value.slice (some ⟨we.heap.size, 0, none⟩) 0 0).ownBlock = some x → b6 ≠ x := fun x hx => hb6 ▸ hD0 x hx
            clear hD0
            replace hS := hS.trans (hb.mono hS.size)
            clear hb hwn hb6
            refine hK _ _ hS ?_
            clear hK K
            try simp only [Act.put, List.setIfInBounds_toArray, List.set_cons_zero, List.set_cons_succ]
            refine wpAnyH_do (i := 4) (by kernel_rfl) rfl rfl (fun K hK => ?_)
            refine wp_appL idE (.tmp 58) (.tmp 61) rfl rfl hE rfl (HTK.out.below hS) (n := 0) (m := k) rfl HLT.out (by omega) hS.size ?_
            intro a4 c4 wennn ho9 hgr hat
            have hb := hE.grown_below hgr hS.size
            rw [Nat.zero_add] at ho9 hat ⊢
            rw [List.nil_append] at ho9
            have hlb := (Array.getElem?_eq_some_iff.1 hL).1
            replace hL := (hgr.block b6 hlb (fun e => hD _ e.symm rfl)).trans hL
            replace hD : ∀ x, (Value.slice a4 (k) c4).ownBlock = some x → b6 ≠ x := fun x hx e => (hat x hx).elim (fun h => hD x h e) (fun h => by omega)
            clear hlb
            clear hE hgr hat
            have hE := ho9
            clear ho9
            replace hS := hS.trans hb
            clear hb
            refine hK _ _ hS ?_
            clear hK K
            try simp only [Act.put, List.setIfInBounds_toArray, List.set_cons_zero, List.set_cons_succ]
            refine wpAnyH_do (i := 11) (by kernel_rfl) rfl rfl (fun K hK => ?_)
            refine wp_appL idE (.tmp 62) (.tmp 68) rfl rfl hE rfl (list_block1 idE hL) (n := k) (m := 1) HLT.out rfl (by omega) hS.size ?_
            intro a7 c7 wennnn ho9 hgr hat
            have hb := hE.grown_below hgr hS.size
            clear hE hgr hat
            have hE := ho9
            clear ho9
            replace hS := hS.trans hb
            clear hb
            clear hL hD
            refine hK _ _ hS ?_
            clear hK K
            try simp only [Act.put, List.setIfInBounds_toArray, List.set_cons_zero, List.set_cons_succ]
            refine wpAnyH_do (i := 15) (by kernel_rfl) rfl rfl (fun K hK => ?_)
            refine wp_appL idE (.tmp 69) (.tmp 72) rfl rfl hE rfl (HLD.out.below hS) (n := k + 1) (m := k - k) (by rw [List.length_append, HLT.out]; rfl) HLDR.out (by omega) hS.size ?_
            intro a11 c11 wennnnn ho9 hgr hat
            have hb := hE.grown_below hgr hS.size
            clear hE hgr hat
            have hE := ho9
            clear ho9
            replace hS := hS.trans hb
            clear hb
            refine hK _ _ hS ?_
            clear hK K
            try simp only [Act.put, List.setIfInBounds_toArray, List.set_cons_zero, List.set_cons_succ]
            refine wpAnyH_takeI (i := 16) (v := ?v17) rfl (by kernel_rfl) (by kernel_rfl) (by kernel_rfl) (fun _ _ _ h => h) (yieldsIf_run rfl (fun w' hw' => ?y17)) hS ?_
            case y17 => first | (go_simp; rfl) | (go_simp; done) | rfl
            simp only [Act.put, List.setIfInBounds_toArray, List.set_cons_zero, List.set_cons_succ]
            refine wpAnyH_done (by kernel_rfl) ?_ _
            refine NoPanic.normal ?_
            have HON := Lib.hid (show OwnL idE wennnnn Wf.heap.size (.slice a11 (k + 1) c11) (insB M' y k) by
              have e1 : k + 1 + (k - k) = k + 1 := by omega
              rw [e1] at hE
              exact OwnL.base hE HBx.out.size)
            have HBN := Lib.hid (HBx.out.trans (hS.mono HBx.out.size))
            have e1 : k + 1 + (k - k) = k + 1 := by omega
            rw [e1]
            clear hE hS e1
            go_wp2_with fail
            go_roundw
            case rel => exact ⟨i + 1, want, is, insB M' y k, a11, k + 1, c11, by omega, by omega, by go_num, rfl, rfl, rfl, HFI, HIN, HON, HBN⟩
            case measure => simp [intOf] <;> omega
        · refine wp_lit1 41 35 (.tmp 67) rfl (bvs y.1).toArray rfl Try.underlying41 HSZ.out (by kernel_rfl) (by rw [HCS.out]; decide) (by rw [HCS.out]; decide) ?_
          obtain ⟨wen, hwn⟩ : ∃ wen, we.alloc (.cells (bvs y.1).toArray 35) = wen := ⟨_, rfl⟩
          have hb : Below we.heap.size we wen := hwn ▸ one_below idE we y
          have hL : wen.heap[we.heap.size]? = some (.cells (bvs y.1).toArray 35 (0, 0)) := by rw [← hwn]; exact heap_alloc_new _ _
          rw [hwn]
          obtain ⟨b6, hb6⟩ : ∃ b6, we.heap.size = b6 := ⟨_, rfl⟩
          rw [hb6] at hL ⊢
          replace hS := hS.trans (hb.mono hS.size)
          clear hb hwn hb6
          refine hK _ _ hS ?_
          clear hK K
          try simp only [Act.put, List.setIfInBounds_toArray, List.set_cons_zero, List.set_cons_succ]
          refine wpAnyH_do (i := 0) (by kernel_rfl) rfl rfl (fun K hK => ?_)
          go_simp
          obtain ⟨wenn, hwn⟩ : ∃ wenn, wen.alloc (.cells #[] 35) = wenn := ⟨_, rfl⟩
          have hb : Below wen.heap.size wen wenn := hwn ▸ (Below.refl _ _).alloc (Nat.le_refl _) _
          have hE : OwnL idE wenn wd.heap.size (Value.slice (some ⟨wen.heap.size, 0, none⟩) 0 0) [] := hwn ▸ ownL_zero idE hS.size
          rw [hwn]
          clear hwn
          have hD : ∀ x, (Value.slice (some ⟨wen.heap.size, 0, none⟩) 0 0).ownBlock = some x → b6 ≠ x := fun x hx e => by have h1 := (Array.getElem?_eq_some_iff.1 hL).1; have e2 : wen.heap.size = x := Option.some.inj hx; omega
          replace hL := (hb.block _ (Array.getElem?_eq_some_iff.1 hL).1).trans hL
          replace hS := hS.trans (hb.mono hS.size)
          clear hb
          refine hK _ _ hS ?_
          clear hK K
          try simp only [Act.put, List.setIfInBounds_toArray, List.set_cons_zero, List.set_cons_succ]
          refine wpAnyH_do (i := 4) (by kernel_rfl) rfl rfl (fun K hK => ?_)
          refine wp_appL idE (.tmp 58) (.tmp 61) rfl rfl hE rfl (HTK.out.below hS) (n := 0) (m := k) rfl HLT.out (by omega) hS.size ?_
          intro a4 c4 wennn ho9 hgr hat
          have hb := hE.grown_below hgr hS.size
          rw [Nat.zero_add] at ho9 hat ⊢
          rw [List.nil_append] at ho9
          have hlb := (Array.getElem?_eq_some_iff.1 hL).1
          replace hL := (hgr.block b6 hlb (fun e => hD _ e.symm rfl)).trans hL
          replace hD : ∀ x, (Value.slice a4 (k) c4).ownBlock = some x → b6 ≠ x := fun x hx e => (hat x hx).elim (fun h => hD x h e) (fun h => by omega)
          clear hlb
          clear hE hgr hat
          have hE := ho9
          clear ho9
          replace hS := hS.trans hb
          clear hb
          refine hK _ _ hS ?_
          clear hK K
          try simp only [Act.put, List.setIfInBounds_toArray, List.set_cons_zero, List.set_cons_succ]
          refine wpAnyH_do (i := 11) (by kernel_rfl) rfl rfl (fun K hK => ?_)
          refine wp_appL idE (.tmp 62) (.tmp 68) rfl rfl hE rfl (list_block1 idE hL) (n := k) (m := 1) HLT.out rfl (by omega) hS.size ?_
          intro a7 c7 wennnn ho9 hgr hat
          have hb := hE.grown_below hgr hS.size
          clear hE hgr hat
          have hE := ho9
          clear ho9
          replace hS := hS.trans hb
          clear hb
          clear hL hD
          refine hK _ _ hS ?_
          clear hK K
          try simp only [Act.put, List.setIfInBounds_toArray, List.set_cons_zero, List.set_cons_succ]
          refine wpAnyH_do (i := 15) (by kernel_rfl) rfl rfl (fun K hK => ?_)
          refine wp_appL idE (.tmp 69) (.tmp 72) rfl rfl hE rfl (HLD.out.below hS) (n := k + 1) (m := k - k) (by rw [List.length_append, HLT.out]; rfl) HLDR.out (by omega) hS.size ?_
          intro a11 c11 wennnnn ho9 hgr hat
          have hb := hE.grown_below hgr hS.size
          clear hE hgr hat
          have hE := ho9
          clear ho9
          replace hS := hS.trans hb
          clear hb
          refine hK _ _ hS ?_
          clear hK K
          try simp only [Act.put, List.setIfInBounds_toArray, List.set_cons_zero, List.set_cons_succ]
          refine wpAnyH_takeI (i := 16) (v := ?v18) rfl (by kernel_rfl) (by kernel_rfl) (by kernel_rfl) (fun _ _ _ h => h) (yieldsIf_run rfl (fun w' hw' => ?y18)) hS ?_
          case y18 => first | (go_simp; rfl) | (go_simp; done) | rfl
          simp only [Act.put, List.setIfInBounds_toArray, List.set_cons_zero, List.set_cons_succ]
          refine wpAnyH_done (by kernel_rfl) ?_ _
          refine NoPanic.normal ?_
          have HON := Lib.hid (show OwnL idE wennnnn Wf.heap.size (.slice a11 (k + 1) c11) (insB M' y k) by
            have e1 : k + 1 + (k - k) = k + 1 := by omega
            rw [e1] at hE
            exact OwnL.base hE HBx.out.size)
          have HBN := Lib.hid (HBx.out.trans (hS.mono HBx.out.size))
          have e1 : k + 1 + (k - k) = k + 1 := by omega
          rw [e1]
          clear hE hS e1
          go_wp2_with fail
          go_roundw
          case rel => exact ⟨i + 1, want, is, insB M' y k, a11, k + 1, c11, by omega, by omega, by go_num, rfl, rfl, rfl, HFI, HIN, HON, HBN⟩
          case measure => simp [intOf] <;> omega
      have hkI : (k : Int) < (mn : Int) := by omega
      have hkd : decide ((k : Int) < (mn : Int)) = true := decide_eq_true hkI
      have hkM : k < M'.length := by rw [HMN.out]; exact hkm
      obtain ⟨g1, o1, e1, hg1, hr1⟩ := HO2.out.at_.get hkM
      cases e1
      obtain ⟨z, hz⟩ : ∃ z, M'[k] = z := ⟨_, rfl⟩
      rw [hz] at hr1
      have HZ := Lib.hid hz
      have HZR := Lib.hid (show ∀ w', Below W2.heap.size W2 w' → w'.rangeAt g1 (o1 + k * 32) (bvs z.1) from fun w' hw' => range_below hr1 hg1 hw')
      clear hr1 hg1 hz
      go_wp2_with fail
      refine wp_region_seq 14 (by kernel_rfl) (by kernel_rfl) ?_
      simp only [List.take_succ_cons, List.take_zero, List.drop_succ_cons, List.drop_zero]
      obtain ⟨wd, hwd⟩ : ∃ wd, W2.drew = wd := ⟨_, rfl⟩
      have hd_wd : Below W2.heap.size W2 wd ∧ wd.heap.size = W2.heap.size := hwd ▸ ⟨(Below.refl _ _).drew, rfl⟩
      rw [hwd]
      clear hwd
      have HZd := Lib.hid (HZR.out wd hd_wd.1)
      have HOd := Lib.hid (HO2.out.below hd_wd.1)
      have HRd := Lib.hid (HR.out.trans (hd_wd.1.mono HR.out.size))
      have HBd := Lib.hid (HB2.out.trans (hd_wd.1.mono HB2.out.size))
      have HYd := Lib.hid (HC.out wd HBd.out).2
      clear hd_wd
      go_wp2_with (refine wpList_met rfl ?_; with_reducible refine wpList_load_mid rfl 35 (.tmp 46) rfl g1 (o1 + k * 32) rfl (bvs z.1) _ HZd.out Try.underlying35 rfl (sizeId z) ?_; refine Stop.on ?_)
      refine Stop.go ?_
      try simp only [Act.put, List.setIfInBounds_toArray, List.set_cons_zero, List.set_cons_succ]
      go_wp2_with (refine wpList_met rfl ?_; with_reducible refine wpList_load_mid rfl 35 (.tmp 51) rfl fg (fo + i * 35) rfl (bvs y.1) _ HYd.out Try.underlying35 rfl (sizeId y) ?_; refine Stop.on ?_)
      refine Stop.go ?_
      try simp only [Act.put, List.setIfInBounds_toArray, List.set_cons_zero, List.set_cons_succ]
      refine HeadPost.mk ?_
      obtain ⟨cv, hcv⟩ : ∃ cv, cmpB z y = cv := ⟨_, rfl⟩
      go_wp2_with fail
      refine (cmp11 z y _).mono ?_
      rintro e We ⟨rfl, q9, os9, rfl⟩
      obtain ⟨W9, hW9⟩ : ∃ W9, grow (wd.drewN q9) os9 = W9 := ⟨_, rfl⟩
      have hb9 := grow_below wd q9 os9
      rw [hW9] at hb9 ⊢
      rw [hcv]
      have HOx := Lib.hid (HOd.out.below hb9)
      have HRx := Lib.hid (HRd.out.trans (hb9.mono HRd.out.size))
      have HBx := Lib.hid (HBd.out.trans (hb9.mono HBd.out.size))
      have HCV := Lib.hid hcv
      clear hb9 hW9 hcv
      by_cases hc0 : cv < 0
      case pos =>
        have hcd : decide (cv < 0) = true := decide_eq_true hc0
        have HLN := Lib.hid (show ∀ j (hj : j < M'.length), j < k + 1 → cmpB M'[j] y < 0 from fun j hj hjk => by
          by_cases e : j = k
          · subst e
            rw [HZ.out, HCV.out]
            exact hc0
          · exact HLE.out j hj (by omega))
        go_wp2_with fail
        go_roundw
        case rel => exact ⟨k + 1, by omega, by go_num, HLN, HRx⟩
        case measure => simp [intOf] <;> omega
      have hcd : decide (cv < 0) = false := decide_eq_false hc0
      have HC0 := Lib.hid hc0
      go_wp2_with fail
      have HIN := Lib.hid (show MisI F (i + 1) (insB M' y k) by
        rw [← HIDY.out]
        refine HMI.out.next HG.out.nodup hiF HRW.out (by rw [HMN.out]; exact hk) (fun j hj hjk => by rw [HIDY.out]; exact HLE.out j hj hjk) (fun hk2 => ?_)
        rw [HIDY.out]
        rw [HZ.out, HCV.out]; have := HC0.out; omega)
      obtain ⟨hz1, hmc1, hmc2, hmz⟩ := HOx.out.at_.len
      unfold maxLen at hmc2
      have hcut := cut_I (some ⟨g1, o1, none⟩) mn mc k (by omega) hmz
      obtain ⟨vd, hfrom, hld⟩ := from_I ⟨W9, HOx.out.at_⟩ hk
      have HTK := Lib.hid (HOx.out.at_.take (k := k) hk)
      have HLD := Lib.hid (hld W9 HOx.out.at_)
      have HLT := Lib.hid (show (M'.take k).length = k by rw [List.length_take, HMN.out]; omega)
      have HLDR := Lib.hid (show (M'.drop k).length = mn - k by rw [List.length_drop, HMN.out])
      have HSZ := Lib.hid (sizeIdA y)
      have HCS := Lib.hid (show (bvs y.1).toArray.size = 32 by rw [List.size_toArray, bvs_length, y.2])
      have HYR := Lib.hid (show ∀ w', Below W9.heap.size W9 w' → w'.rangeAt fg (fo + i * 35) (bvs y.1) from fun w' hw' => (HC.out w' (HBx.out.trans (hw'.mono HBx.out.size))).2)
      clear hz1 hmc1 hmz hld
      go_wp2_with fail
      refine wp_region_noPanic ?_
      refine wp_region_H (Below W9.heap.size W9) (by kernel_rfl) ?_
      have hS0 : (Below W9.heap.size W9) W9.drew := (Below.refl _ _).drew
      obtain ⟨we, hwe⟩ : ∃ we, W9.drew = we := ⟨_, rfl⟩
      rw [hwe] at hS0 ⊢
      clear hwe
      refine wpAnyH_takeI (i := 1) (v := ?v19) rfl (by kernel_rfl) (by kernel_rfl) (by kernel_rfl) (fun _ _ _ h => h) (yieldsIf_run rfl (fun w' hw' => ?y19)) hS0 ?_
      case y19 => first | (go_simp; rfl) | (go_simp; done) | rfl
      simp only [Act.put, List.setIfInBounds_toArray, List.set_cons_zero, List.set_cons_succ]
      refine wpAnyH_takeI (i := 2) (v := ?v20) rfl (by kernel_rfl) (by kernel_rfl) (by kernel_rfl) (fun _ _ _ h => h) (yieldsIf_run rfl (fun w' hw' => ?y20)) hS0 ?_
      case y20 => first | (go_simp; rfl) | (go_simp; done) | rfl
      simp only [Act.put, List.setIfInBounds_toArray, List.set_cons_zero, List.set_cons_succ]
      refine wpAnyH_takeI (i := 3) (v := .slice (some ⟨g1, o1, none⟩) k mc) rfl (by kernel_rfl) (by kernel_rfl) (by kernel_rfl) (fun _ _ _ h => h) (yieldsIf_run rfl (fun w' hw' => ?y21)) hS0 ?_
      case y21 => first | (go_simp; rfl) | (go_simp; done) | rfl
      simp only [Act.put, List.setIfInBounds_toArray, List.set_cons_zero, List.set_cons_succ]
      refine wpAnyH_takeI (i := 5) (v := ?v22) rfl (by kernel_rfl) (by kernel_rfl) (by kernel_rfl) (fun _ _ _ h => h) (yieldsIf_run rfl (fun w' hw' => ?y22)) hS0 ?_
      case y22 => first | (go_simp; rfl) | (go_simp; done) | rfl
      simp only [Act.put, List.setIfInBounds_toArray, List.set_cons_zero, List.set_cons_succ]
      refine wpAnyH_takeI (i := 6) (v := ?v23) rfl (by kernel_rfl) (by kernel_rfl) (by kernel_rfl) (fun _ _ _ h => h) (yieldsIf_run rfl (fun w' hw' => ?y23)) hS0 ?_
      case y23 => first | (go_simp; rfl) | (go_simp; done) | rfl
      simp only [Act.put, List.setIfInBounds_toArray, List.set_cons_zero, List.set_cons_succ]
      refine wpAnyH_takeI (i := 7) (v := ?v24) rfl (by kernel_rfl) (by kernel_rfl) (by kernel_rfl) (fun _ _ _ h => h) (yieldsIf_run rfl (fun w' hw' => ?y24)) hS0 ?_
      case y24 => first | (go_simp; rfl) | (go_simp; done) | rfl
      simp only [Act.put, List.setIfInBounds_toArray, List.set_cons_zero, List.set_cons_succ]
      refine wpAnyH_takeI (i := 8) (v := ?v25) rfl (by kernel_rfl) (by kernel_rfl) (by kernel_rfl) (fun _ _ _ h => h) (yieldsIf_run rfl (fun w' hw' => ?y25)) hS0 ?_
      case y25 => first | (go_simp; rfl) | (go_simp; done) | rfl
      simp only [Act.put, List.setIfInBounds_toArray, List.set_cons_zero, List.set_cons_succ]
      refine wpAnyH_takeI (i := 9) (v := .agg (bvs y.1).toArray) rfl (by kernel_rfl) (by kernel_rfl) (by kernel_rfl) (fun _ _ _ h => h) (yieldsIf_load_mid rfl 35 (.tmp 66) rfl fg (fo + i * 35) rfl (bvs y.1) _ (fun w' hw' => HYR.out w' hw') Try.underlying35 rfl (sizeId y)) hS0 ?_
      simp only [Act.put, List.setIfInBounds_toArray, List.set_cons_zero, List.set_cons_succ]
      refine wpAnyH_takeI (i := 12) (v := ?v26) rfl (by kernel_rfl) (by kernel_rfl) (by kernel_rfl) (fun _ _ _ h => h) (yieldsIf_run rfl (fun w' hw' => ?y26)) hS0 ?_
      case y26 => first | (go_simp; rfl) | (go_simp; done) | rfl
      simp only [Act.put, List.setIfInBounds_toArray, List.set_cons_zero, List.set_cons_succ]
      refine wpAnyH_takeI (i := 13) (v := ?v27) rfl (by kernel_rfl) (by kernel_rfl) (by kernel_rfl) (fun _ _ _ h => h) (yieldsIf_run rfl (fun w' hw' => ?y27)) hS0 ?_
      case y27 => first | (go_simp; rfl) | (go_simp; done) | rfl
      simp only [Act.put, List.setIfInBounds_toArray, List.set_cons_zero, List.set_cons_succ]
      refine wpAnyH_takeI (i := 14) (v := vd) rfl (by kernel_rfl) (by kernel_rfl) (by kernel_rfl) (fun _ _ _ h => h) (yieldsIf_run rfl (fun w' hw' => ?y28)) hS0 ?_
      case y28 => first | (go_simp; rfl) | (go_simp; done) | rfl
      simp only [Act.put, List.setIfInBounds_toArray, List.set_cons_zero, List.set_cons_succ]
      clear hcut hfrom
      have hS := hS0
      clear hS0
      refine wpAnyH_two (i := 0) (j := 10) (by kernel_rfl) rfl rfl rfl rfl (fun K hK => ?_) (fun K hK => ?_)
      · go_simp
        obtain ⟨wen, hwn⟩ : ∃ wen, we.alloc (.cells #[] 35) = wen := ⟨_, rfl⟩
        have hb : Below we.heap.size we wen := hwn ▸ (Below.refl _ _).alloc (Nat.le_refl _) _
        have hE : OwnL idE wen W9.heap.size (Value.slice (some ⟨we.heap.size, 0, none⟩) 0 0) [] := hwn ▸ ownL_zero idE hS.size
        rw [hwn]
        clear hwn
        replace hS := hS.trans (hb.mono hS.size)
        clear hb
        refine hK _ _ hS ?_
        clear hK K
        try simp only [Act.put, List.setIfInBounds_toArray, List.set_cons_zero, List.set_cons_succ]
        refine wpAnyH_two (i := 4) (j := 10) (by kernel_rfl) rfl rfl rfl rfl (fun K hK => ?_) (fun K hK => ?_)
        · refine wp_appL idE (.tmp 58) (.tmp 61) rfl rfl hE rfl (HTK.out.below hS) (n := 0) (m := k) rfl HLT.out (by omega) hS.size ?_
          intro a4 c4 wenn ho9 hgr hat
          have hb := hE.grown_below hgr hS.size
          rw [Nat.zero_add] at ho9 hat ⊢
          rw [List.nil_append] at ho9
          clear hE hgr hat
          have hE := ho9
          clear ho9
          replace hS := hS.trans hb
          clear hb
          refine hK _ _ hS ?_
          clear hK K
          try simp only [Act.put, List.setIfInBounds_toArray, List.set_cons_zero, List.set_cons_succ]
          refine wpAnyH_do (i := 10) (by kernel_rfl) rfl rfl (fun K hK => ?_)
          refine wp_lit1 41 35 (.tmp 67) rfl (bvs y.1).toArray rfl Try.underlying41 HSZ.out (by kernel_rfl) (by rw [HCS.out]; decide) (by rw [HCS.out]; decide) ?_
          obtain ⟨wennn, hwn⟩ : ∃ wennn, wenn.alloc (.cells (bvs y.1).toArray 35) = wennn := ⟨_, rfl⟩
          have hb : Below wenn.heap.size wenn wennn := hwn ▸ one_below idE wenn y
          have hL : wennn.heap[wenn.heap.size]? = some (.cells (bvs y.1).toArray 35 (0, 0)) := by rw [← hwn]; exact heap_alloc_new _ _
          rw [hwn]
          have hD0 : ∀ x, (Value.slice a4 (k) c4).ownBlock = some x → wenn.heap.size ≠ x := fun x hx e => by have h1 := (hE.lt hx).2; omega
          replace hE := hE.below hb
          obtain ⟨b6, hb6⟩ : ∃ b6, wenn.heap.size = b6 := ⟨_, rfl⟩
          rw [hb6] at hL ⊢
          have hD : ∀ x, (Value.slice a4 (k) c4).ownBlock = some x → b6 ≠ x := fun x hx => hb6 ▸ hD0 x hx
          clear hD0
          replace hS := hS.trans (hb.mono hS.size)
          clear hb hwn hb6
          refine hK _ _ hS ?_
          clear hK K
          try simp only [Act.put, List.setIfInBounds_toArray, List.set_cons_zero, List.set_cons_succ]
          refine wpAnyH_do (i := 11) (by kernel_rfl) rfl rfl (fun K hK => ?_)
          refine wp_appL idE (.tmp 62) (.tmp 68) rfl rfl hE rfl (list_block1 idE hL) (n := k) (m := 1) HLT.out rfl (by omega) hS.size ?_
          intro a7 c7 wennnn ho9 hgr hat
          have hb := hE.grown_below hgr hS.size
          clear hE hgr hat
          have hE := ho9
          clear ho9
          replace hS := hS.trans hb
          clear hb
          clear hL hD
          refine hK _ _ hS ?_
          clear hK K
          try simp only [Act.put, List.setIfInBounds_toArray, List.set_cons_zero, List.set_cons_succ]
          refine wpAnyH_do (i := 15) (by kernel_rfl) rfl rfl (fun K hK => ?_)
          refine wp_appL idE (.tmp 69) (.tmp 72) rfl rfl hE rfl (HLD.out.below hS) (n := k + 1) (m := mn - k) (by rw [List.length_append, HLT.out]; rfl) HLDR.out (by omega) hS.size ?_
          intro a11 c11 wennnnn ho9 hgr hat
          have hb := hE.grown_below hgr hS.size
          clear hE hgr hat
          have hE := ho9
          clear ho9
          replace hS := hS.trans hb
          clear hb
          refine hK _ _ hS ?_
          clear hK K
          try simp only [Act.put, List.setIfInBounds_toArray, List.set_cons_zero, List.set_cons_succ]
          refine wpAnyH_takeI (i := 16) (v := ?v29) rfl (by kernel_rfl) (by kernel_rfl) (by kernel_rfl) (fun _ _ _ h => h) (yieldsIf_run rfl (fun w' hw' => ?y29)) hS ?_
          case y29 => first | (go_simp; rfl) | (go_simp; done) | rfl
          simp only [Act.put, List.setIfInBounds_toArray, List.set_cons_zero, List.set_cons_succ]
          refine wpAnyH_done (by kernel_rfl) ?_ _
          refine NoPanic.normal ?_
          have HON := Lib.hid (show OwnL idE wennnnn Wf.heap.size (.slice a11 (mn + 1) c11) (insB M' y k) by
            have e1 : k + 1 + (mn - k) = mn + 1 := by omega
            rw [e1] at hE
            exact OwnL.base hE HBx.out.size)
          have HBN := Lib.hid (HBx.out.trans (hS.mono HBx.out.size))
          have e1 : k + 1 + (mn - k) = mn + 1 := by omega
          rw [e1]
          clear hE hS e1
          go_wp2_with fail
          go_roundw
          case rel => exact ⟨i + 1, want, is, insB M' y k, a11, mn + 1, c11, by omega, by omega, by go_num, rfl, rfl, rfl, HFI, HIN, HON, HBN⟩
          case measure => simp [intOf] <;> omega
        · refine wp_lit1 41 35 (.tmp 67) rfl (bvs y.1).toArray rfl Try.underlying41 HSZ.out (by kernel_rfl) (by rw [HCS.out]; decide) (by rw [HCS.out]; decide) ?_
          obtain ⟨wenn, hwn⟩ : ∃ wenn, wen.alloc (.cells (bvs y.1).toArray 35) = wenn := ⟨_, rfl⟩
          have hb : Below wen.heap.size wen wenn := hwn ▸ one_below idE wen y
          have hL : wenn.heap[wen.heap.size]? = some (.cells (bvs y.1).toArray 35 (0, 0)) := by rw [← hwn]; exact heap_alloc_new _ _
          rw [hwn]
          have hD0 : ∀ x, (Value.slice (some ⟨we.heap.size, 0, none⟩) 0 0).ownBlock = some x → wen.heap.size ≠ x := fun x hx e => by have h1 := (hE.lt hx).2; omega
          replace hE := hE.below hb
          obtain ⟨b6, hb6⟩ : ∃ b6, wen.heap.size = b6 := ⟨_, rfl⟩
          rw [hb6] at hL ⊢
          have hD : ∀ x, (Value.slice (some ⟨we.heap.size, 0, none⟩) 0 0).ownBlock = some x → b6 ≠ x := fun x hx => hb6 ▸ hD0 x hx
          clear hD0
          replace hS := hS.trans (hb.mono hS.size)
          clear hb hwn hb6
          refine hK _ _ hS ?_
          clear hK K
          try simp only [Act.put, List.setIfInBounds_toArray, List.set_cons_zero, List.set_cons_succ]
          refine wpAnyH_do (i := 4) (by kernel_rfl) rfl rfl (fun K hK => ?_)
          refine wp_appL idE (.tmp 58) (.tmp 61) rfl rfl hE rfl (HTK.out.below hS) (n := 0) (m := k) rfl HLT.out (by omega) hS.size ?_
          intro a4 c4 wennn ho9 hgr hat
          have hb := hE.grown_below hgr hS.size
          rw [Nat.zero_add] at ho9 hat ⊢
          rw [List.nil_append] at ho9
          have hlb := (Array.getElem?_eq_some_iff.1 hL).1
          replace hL := (hgr.block b6 hlb (fun e => hD _ e.symm rfl)).trans hL
          replace hD : ∀ x, (Value.slice a4 (k) c4).ownBlock = some x → b6 ≠ x := fun x hx e => (hat x hx).elim (fun h => hD x h e) (fun h => by omega)
          clear hlb
          clear hE hgr hat
          have hE := ho9
          clear ho9
          replace hS := hS.trans hb
          clear hb
          refine hK _ _ hS ?_
          clear hK K
          try simp only [Act.put, List.setIfInBounds_toArray, List.set_cons_zero, List.set_cons_succ]
          refine wpAnyH_do (i := 11) (by kernel_rfl) rfl rfl (fun K hK => ?_)
          refine wp_appL idE (.tmp 62) (.tmp 68) rfl rfl hE rfl (list_block1 idE hL) (n := k) (m := 1) HLT.out rfl (by omega) hS.size ?_
          intro a7 c7 wennnn ho9 hgr hat
          have hb := hE.grown_below hgr hS.size
          clear hE hgr hat
          have hE := ho9
          clear ho9
          replace hS := hS.trans hb
          clear hb
          clear hL hD
          refine hK _ _ hS ?_
          clear hK K
          try simp only [Act.put, List.setIfInBounds_toArray, List.set_cons_zero, List.set_cons_succ]
          refine wpAnyH_do (i := 15) (by kernel_rfl) rfl rfl (fun K hK => ?_)
          refine wp_appL idE (.tmp 69) (.tmp 72) rfl rfl hE rfl (HLD.out.below hS) (n := k + 1) (m := mn - k) (by rw [List.length_append, HLT.out]; rfl) HLDR.out (by omega) hS.size ?_
          intro a11 c11 wennnnn ho9 hgr hat
          have hb := hE.grown_below hgr hS.size
          clear hE hgr hat
          have hE := ho9
          clear ho9
          replace hS := hS.trans hb
          clear hb
          refine hK _ _ hS ?_
          clear hK K
          try simp only [Act.put, List.setIfInBounds_toArray, List.set_cons_zero, List.set_cons_succ]
          refine wpAnyH_takeI (i := 16) (v := ?v30) rfl (by kernel_rfl) (by kernel_rfl) (by kernel_rfl) (fun _ _ _ h => h) (yieldsIf_run rfl (fun w' hw' => ?y30)) hS ?_
          case y30 => first | (go_simp; rfl) | (go_simp; done) | rfl
          simp only [Act.put, List.setIfInBounds_toArray, List.set_cons_zero, List.set_cons_succ]
          refine wpAnyH_done (by kernel_rfl) ?_ _
          refine NoPanic.normal ?_
          have HON := Lib.hid (show OwnL idE wennnnn Wf.heap.size (.slice a11 (mn + 1) c11) (insB M' y k) by
            have e1 : k + 1 + (mn - k) = mn + 1 := by omega
            rw [e1] at hE
            exact OwnL.base hE HBx.out.size)
          have HBN := Lib.hid (HBx.out.trans (hS.mono HBx.out.size))
          have e1 : k + 1 + (mn - k) = mn + 1 := by omega
          rw [e1]
          clear hE hS e1
          go_wp2_with fail
          go_roundw
          case rel => exact ⟨i + 1, want, is, insB M' y k, a11, mn + 1, c11, by omega, by omega, by go_num, rfl, rfl, rfl, HFI, HIN, HON, HBN⟩
          case measure => simp [intOf] <;> omega
      · refine wp_lit1 41 35 (.tmp 67) rfl (bvs y.1).toArray rfl Try.underlying41 HSZ.out (by kernel_rfl) (by rw [HCS.out]; decide) (by rw [HCS.out]; decide) ?_
        obtain ⟨wen, hwn⟩ : ∃ wen, we.alloc (.cells (bvs y.1).toArray 35) = wen := ⟨_, rfl⟩
        have hb : Below we.heap.size we wen := hwn ▸ one_below idE we y
        have hL : wen.heap[we.heap.size]? = some (.cells (bvs y.1).toArray 35 (0, 0)) := by rw [← hwn]; exact heap_alloc_new _ _
        rw [hwn]
        obtain ⟨b6, hb6⟩ : ∃ b6, we.heap.size = b6 := ⟨_, rfl⟩
        rw [hb6] at hL ⊢
        replace hS := hS.trans (hb.mono hS.size)
        clear hb hwn hb6
        refine hK _ _ hS ?_
        clear hK K
        try simp only [Act.put, List.setIfInBounds_toArray, List.set_cons_zero, List.set_cons_succ]
        refine wpAnyH_do (i := 0) (by kernel_rfl) rfl rfl (fun K hK => ?_)
        go_simp
        obtain ⟨wenn, hwn⟩ : ∃ wenn, wen.alloc (.cells #[] 35) = wenn := ⟨_, rfl⟩
        have hb : Below wen.heap.size wen wenn := hwn ▸ (Below.refl _ _).alloc (Nat.le_refl _) _
        have hE : OwnL idE wenn W9.heap.size (Value.slice (some ⟨wen.heap.size, 0, none⟩) 0 0) [] := hwn ▸ ownL_zero idE hS.size
        rw [hwn]
        clear hwn
        have hD : ∀ x, (Value.slice (some ⟨wen.heap.size, 0, none⟩) 0 0).ownBlock = some x → b6 ≠ x := fun x hx e => by have h1 := (Array.getElem?_eq_some_iff.1 hL).1; have e2 : wen.heap.size = x := Option.some.inj hx; omega
        replace hL := (hb.block _ (Array.getElem?_eq_some_iff.1 hL).1).trans hL
        replace hS := hS.trans (hb.mono hS.size)
        clear hb
        refine hK _ _ hS ?_
        clear hK K
        try simp only [Act.put, List.setIfInBounds_toArray, List.set_cons_zero, List.set_cons_succ]
        refine wpAnyH_do (i := 4) (by kernel_rfl) rfl rfl (fun K hK => ?_)
        refine wp_appL idE (.tmp 58) (.tmp 61) rfl rfl hE rfl (HTK.out.below hS) (n := 0) (m := k) rfl HLT.out (by omega) hS.size ?_
        intro a4 c4 wennn ho9 hgr hat
        have hb := hE.grown_below hgr hS.size
        rw [Nat.zero_add] at ho9 hat ⊢
        rw [List.nil_append] at ho9
        have hlb := (Array.getElem?_eq_some_iff.1 hL).1
        replace hL := (hgr.block b6 hlb (fun e => hD _ e.symm rfl)).trans hL
        replace hD : ∀ x, (Value.slice a4 (k) c4).ownBlock = some x → b6 ≠ x := fun x hx e => (hat x hx).elim (fun h => hD x h e) (fun h => by omega)
        clear hlb
        clear hE hgr hat
        have hE := ho9
        clear ho9
        replace hS := hS.trans hb
        clear hb
        refine hK _ _ hS ?_
        clear hK K
        try simp only [Act.put, List.setIfInBounds_toArray, List.set_cons_zero, List.set_cons_succ]
        refine wpAnyH_do (i := 11) (by kernel_rfl) rfl rfl (fun K hK => ?_)
        refine wp_appL idE (.tmp 62) (.tmp 68) rfl rfl hE rfl (list_block1 idE hL) (n := k) (m := 1) HLT.out rfl (by omega) hS.size ?_
        intro a7 c7 wennnn ho9 hgr hat
        have hb := hE.grown_below hgr hS.size
        clear hE hgr hat
        have hE := ho9
        clear ho9
        replace hS := hS.trans hb
        clear hb
        clear hL hD
        refine hK _ _ hS ?_
        clear hK K
        try simp only [Act.put, List.setIfInBounds_toArray, List.set_cons_zero, List.set_cons_succ]
        refine wpAnyH_do (i := 15) (by kernel_rfl) rfl rfl (fun K hK => ?_)
        refine wp_appL idE (.tmp 69) (.tmp 72) rfl rfl hE rfl (HLD.out.below hS) (n := k + 1) (m := mn - k) (by rw [List.length_append, HLT.out]; rfl) HLDR.out (by omega) hS.size ?_
        intro a11 c11 wennnnn ho9 hgr hat
        have hb := hE.grown_below hgr hS.size
        clear hE hgr hat
        have hE := ho9
        clear ho9
        replace hS := hS.trans hb
        clear hb
        refine hK _ _ hS ?_
        clear hK K
        try simp only [Act.put, List.setIfInBounds_toArray, List.set_cons_zero, List.set_cons_succ]
        refine wpAnyH_takeI (i := 16) (v := ?v31) rfl (by kernel_rfl) (by kernel_rfl) (by kernel_rfl) (fun _ _ _ h => h) (yieldsIf_run rfl (fun w' hw' => ?y31)) hS ?_
        case y31 => first | (go_simp; rfl) | (go_simp; done) | rfl
        simp only [Act.put, List.setIfInBounds_toArray, List.set_cons_zero, List.set_cons_succ]
        refine wpAnyH_done (by kernel_rfl) ?_ _
        refine NoPanic.normal ?_
        have HON := Lib.hid (show OwnL idE wennnnn Wf.heap.size (.slice a11 (mn + 1) c11) (insB M' y k) by
          have e1 : k + 1 + (mn - k) = mn + 1 := by omega
          rw [e1] at hE
          exact OwnL.base hE HBx.out.size)
        have HBN := Lib.hid (HBx.out.trans (hS.mono HBx.out.size))
        have e1 : k + 1 + (mn - k) = mn + 1 := by omega
        rw [e1]
        clear hE hS e1
        go_wp2_with fail
        go_roundw
        case rel => exact ⟨i + 1, want, is, insB M' y k, a11, mn + 1, c11, by omega, by omega, by go_num, rfl, rfl, rfl, HFI, HIN, HON, HBN⟩
        case measure => simp [intOf] <;> omega
end Go.Proofs.Ythfinofmbnfijaa
