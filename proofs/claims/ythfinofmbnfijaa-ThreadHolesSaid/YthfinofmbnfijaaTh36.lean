/- ThreadHoles. -/
import Derived.Test.YthfinofmbnfijaaTh31
import Derived.Test.YthfinofmbnfijaaTp20
import Derived.Deep.CutRange
namespace Go.Proofs.Ythfinofmbnfijaa
open Go.Shelf Go.RowKit Go.Lib Go.Sort
set_option linter.unusedVariables false
set_option linter.unusedSimpArgs false

theorem wpAnyH_monoS {P : Program} {md : Region.Mode} {ops : Array Oper} {Q : Exit → Act → World → Prop} {S S' : World → Prop} (h : ∀ w, S' w → S w) : ∀ (fuel : Nat) (listed : Array Bool) (a : Act) (w : World), wpAnyH P md ops Q S' fuel listed a w → wpAnyH P md ops Q S fuel listed a w
  | 0, _, _, _, k => k
  | fuel + 1, listed, a, w, k => ⟨k.1, fun i hi => wpOp_mono (fun a' w' h' => ⟨h _ h'.1, wpAnyH_monoS h fuel _ a' w' h'.2⟩) (k.2 i hi)⟩
theorem rows_set {w : World} {v : Value} {M L : List RowV} (h : ListAt rowE w v L) (hM : ∀ R ∈ M, ListAt idE w R.rv R.refs) (hs : ∀ r ∈ L, r ∈ M) : RowsAt w v L := ⟨h, fun R hR => hM R (hs R hR)⟩
theorem getLast_snoc {L : List IdB} {K : Nat} (h : L.length = K + 1) : L.getLast? = some (L[K]'(by omega)) := by
  have hK : K < L.length := by omega
  rw [List.getLast?_eq_getElem?, show L.length - 1 = K by omega, List.getElem?_eq_getElem hK]
set_option maxRecDepth 100000 in
set_option maxHeartbeats 2000000 in
theorem Holes_law {w : World} (v : Value) (L : List RawV) (hv : RawsAt w v L) (b : UInt8) : Calls Try.prog 9 #[v, .int .u8 (b.toNat : Int)] w fun e w' => e = .returned (.bool true) ∧ Below w.heap.size w w' := by
  obtain ⟨nv, hnv⟩ : ∃ nv, b.toNat = nv := ⟨_, rfl⟩
  have hnlt : nv < 256 := hnv ▸ b.toNat_lt
  rw [hnv]
  clear hnv
  have HV := Lib.hid hv
  clear hv
  go_enter Try.func9, Try.ntmps9
  go_wp2_with fail
  refine (rows_any _ L HV.out).mono ?_
  rintro e Wa ⟨xv, M, rfl, ho, ht, hb⟩
  obtain ⟨hN14, hnd⟩ := rows_facts ht
  obtain ⟨xa, xc, rfl⟩ := ho.own.form
  obtain ⟨N, hN⟩ : ∃ N, M.length = N := ⟨_, rfl⟩
  rw [hN] at ho hN14 ⊢
  have HM := Lib.hid ho
  have HN := Lib.hid hN
  have HND := Lib.hid hnd
  have HBA := Lib.hid hb
  clear ho ht hN hb hnd
  by_cases h0 : N = 0
  case pos =>
    subst h0
    have HB0 := HBA
    go_wp2_with fail
    refine known_any.mono ?_
    rintro e Wk ⟨rfl, hb⟩
    have HB0 := Lib.hid (HB0.out.trans (hb.mono HB0.out.size))
    clear hb
    go_wp2_with fail
    exact bodyPost_ret (v := .bool true) (by simp [results, Try.results9, go_sem]) rfl ⟨rfl, HB0.out⟩
  have hN0 : 0 < N := by omega
  have hNe2 : ((N : Int) == 0) = false := by simp [h0]
  clear h0
  go_wp2_with (refine wpList_runI rfl (some 28) rfl (.int .i64 (nv : Int)) _ (exec_conv nv hnlt (.tmp 27) rfl rfl) ?_; refine Stop.on ?_)
  refine Stop.go ?_
  try simp only [Act.put, List.setIfInBounds_toArray, List.set_cons_zero, List.set_cons_succ]
  go_wp2_with (refine wpList_runI rfl (some 31) rfl (.int .i64 ((nv % N : Nat) : Int)) _ (exec_rem nv N hN0 (.tmp 28) (.tmp 30) rfl rfl rfl) ?_; refine Stop.on ?_)
  refine Stop.go ?_
  try simp only [Act.put, List.setIfInBounds_toArray, List.set_cons_zero, List.set_cons_succ]
  obtain ⟨k, hk⟩ : ∃ k, nv % N = k := ⟨_, rfl⟩
  have hkN : k < N := by rw [← hk]; exact Nat.mod_lt _ hN0
  rw [hk]
  clear hk hnlt
  have hkM : k < M.length := by rw [HN.out]; exact hkN
  have hkI : (k : Int) < (N : Int) := by omega
  obtain ⟨hnn, hcN, hcm, hcz⟩ := HM.out.own.at_.len
  clear hnn
  unfold maxLen at hcm
  have hcut := cut_R xa N xc k (by omega) hcz
  obtain ⟨vd, hfrom, hld⟩ := from_R (k := k + 1) HM.out.own.at_ (by omega)
  have hfrom2 : ∀ w, (Instr.sliceAt 23 (.slice xa N xc) (some (.int .i64 ((k : Int) + 1))) none none).run Try.prog w = .ok vd w := fun w => hfrom w
  have hii : IntKind.i64.wrap ((k : Int) + 1) = (k : Int) + 1 := IntWalk.i64_in _ (by omega)
  have HTK := Lib.hid (HM.out.own.at_.take (k := k) (by omega))
  have HLD := Lib.hid hld
  have HLT := Lib.hid (show (M.take k).length = k by rw [List.length_take, HN.out]; omega)
  have HLDR := Lib.hid (show (M.drop (k + 1)).length = N - (k + 1) by rw [List.length_drop, HN.out])
  clear hld hcz hfrom
  go_wp2_with fail
  refine wp_region_noPanic ?_
  refine wp_region_H (Below Wa.heap.size Wa) (by kernel_rfl) ?_
  have hS0 : (Below Wa.heap.size Wa) Wa.drew := (Below.refl _ _).drew
  obtain ⟨wd, hwd⟩ : ∃ wd, Wa.drew = wd := ⟨_, rfl⟩
  rw [hwd] at hS0  ⊢
  clear hwd
  refine wpAnyH_takeI (i := 1) (v := ?v1) rfl (by kernel_rfl) (by kernel_rfl) (by kernel_rfl) (fun _ _ _ h => h) (yieldsIf_run rfl (fun w' hw' => ?y1)) hS0 ?_
  case y1 => first | (go_simp; rfl) | (go_simp; done) | rfl
  simp only [Act.put, List.setIfInBounds_toArray, List.set_cons_zero, List.set_cons_succ]
  refine wpAnyH_takeI (i := 2) (v := ?v2) rfl (by kernel_rfl) (by kernel_rfl) (by kernel_rfl) (fun _ _ _ h => h) (yieldsIf_run rfl (fun w' hw' => ?y2)) hS0 ?_
  case y2 => first | (go_simp; rfl) | (go_simp; done) | rfl
  simp only [Act.put, List.setIfInBounds_toArray, List.set_cons_zero, List.set_cons_succ]
  refine wpAnyH_takeI (i := 3) (v := .slice xa k xc) rfl (by kernel_rfl) (by kernel_rfl) (by kernel_rfl) (fun _ _ _ h => h) (yieldsIf_run rfl (fun w' hw' => ?y3)) hS0 ?_
  case y3 => first | (go_simp; rfl) | (go_simp; done) | rfl
  simp only [Act.put, List.setIfInBounds_toArray, List.set_cons_zero, List.set_cons_succ]
  refine wpAnyH_takeI (i := 5) (v := ?v4) rfl (by kernel_rfl) (by kernel_rfl) (by kernel_rfl) (fun _ _ _ h => h) (yieldsIf_run rfl (fun w' hw' => ?y4)) hS0 ?_
  case y4 => first | (go_simp; rfl) | (go_simp; done) | rfl
  simp only [Act.put, List.setIfInBounds_toArray, List.set_cons_zero, List.set_cons_succ]
  refine wpAnyH_takeI (i := 6) (v := ?v5) rfl (by kernel_rfl) (by kernel_rfl) (by kernel_rfl) (fun _ _ _ h => h) (yieldsIf_run rfl (fun w' hw' => ?y5)) hS0 ?_
  case y5 => first | (go_simp; rfl) | (go_simp; done) | rfl
  simp only [Act.put, List.setIfInBounds_toArray, List.set_cons_zero, List.set_cons_succ]
  refine wpAnyH_takeI (i := 7) (v := .int .i64 ((k : Int) + 1)) rfl (by kernel_rfl) (by kernel_rfl) (by kernel_rfl) (fun _ _ _ h => h) (yieldsIf_run rfl (fun w' hw' => ?y6)) hS0 ?_
  case y6 => first | (go_simp; rfl) | (go_simp; done) | rfl
  simp only [Act.put, List.setIfInBounds_toArray, List.set_cons_zero, List.set_cons_succ]
  refine wpAnyH_takeI (i := 8) (v := vd) rfl (by kernel_rfl) (by kernel_rfl) (by kernel_rfl) (fun _ _ _ h => h) (yieldsIf_run rfl (fun w' hw' => ?y7)) hS0 ?_
  case y7 => first | (go_simp; rfl) | (go_simp; done) | rfl
  simp only [Act.put, List.setIfInBounds_toArray, List.set_cons_zero, List.set_cons_succ]
  refine wpAnyH_do (i := 0) (by kernel_rfl) rfl rfl (fun K hK => ?_)
  go_simp
  obtain ⟨Wl, hwn⟩ : ∃ Wl, wd.alloc (.cells #[] 43) = Wl := ⟨_, rfl⟩
  have hb : Below wd.heap.size wd Wl := hwn ▸ (Below.refl _ _).alloc (Nat.le_refl _) _
  have hE : OwnL rowE Wl Wa.heap.size (.slice (some ⟨wd.heap.size, 0, none⟩) 0 0) [] := hwn ▸ ownL_zero rowE hS0.size
  rw [hwn]
  have hsWl := hS0.trans (hb.mono hS0.size)
  clear hwn hb
  refine hK _ _ (hsWl) ?_
  clear hK K
  try simp only [Act.put, List.setIfInBounds_toArray, List.set_cons_zero, List.set_cons_succ]
  refine wpAnyH_do (i := 4) (by kernel_rfl) rfl rfl (fun K hK => ?_)
  refine wp_appL rowE (.tmp 32) (.tmp 35) rfl rfl hE rfl (HTK.out.below hsWl) (n := 0) (m := k) rfl HLT.out (by omega) hsWl.size ?_
  intro a4 c4 W4 hOW4 hgW4 haW4
  have hsW4 := hsWl.trans (hE.grown_below hgW4 hsWl.size)
  rw [Nat.zero_add] at hOW4 haW4 ⊢
  rw [List.nil_append] at hOW4
  refine hK _ _ (hsW4) ?_
  clear hK K
  try simp only [Act.put, List.setIfInBounds_toArray, List.set_cons_zero, List.set_cons_succ]
  refine wpAnyH_do (i := 9) (by kernel_rfl) rfl rfl (fun K hK => ?_)
  refine wp_appL rowE (.tmp 36) (.tmp 40) rfl rfl hOW4 rfl (HLD.out.below hsW4) (n := k) (m := N - (k + 1)) HLT.out HLDR.out (by omega) hsW4.size ?_
  intro a9 c9 W9 hOW9 hgW9 haW9
  have hsW9 := hsW4.trans (hOW4.grown_below hgW9 hsW4.size)
  refine hK _ _ (hsW9) ?_
  clear hK K
  try simp only [Act.put, List.setIfInBounds_toArray, List.set_cons_zero, List.set_cons_succ]
  refine wpAnyH_takeI (i := 10) (v := ?v8) rfl (by kernel_rfl) (by kernel_rfl) (by kernel_rfl) (fun _ _ _ h => h) (yieldsIf_run rfl (fun w' hw' => ?y8)) hsW9 ?_
  case y8 => first | (go_simp; rfl) | (go_simp; done) | rfl
  simp only [Act.put, List.setIfInBounds_toArray, List.set_cons_zero, List.set_cons_succ]
  refine wpAnyH_done (by kernel_rfl) ?_ _
  refine NoPanic.normal ?_
  obtain ⟨nr, hnr⟩ : ∃ nr, k + (N - (k + 1)) = nr := ⟨_, rfl⟩
  rw [hnr] at hOW9 ⊢
  obtain ⟨R, hR⟩ : ∃ R, restL M k = R := ⟨_, rfl⟩
  have HRE := Lib.hid hR
  have HNR := Lib.hid (show nr = N - 1 by omega)
  have hnrN : nr < N := by omega
  have hown : OwnL rowE W9 Wa.heap.size (.slice a9 nr c9) R := by rw [← hR]; exact hOW9
  have HRL := Lib.hid (show R.length = nr by rw [← hR, rest_len hkM, HN.out]; omega)
  have HREF := Lib.hid (show ∀ w', Below Wa.heap.size Wa w' → ∀ R' ∈ M, ListAt idE w' R'.rv R'.refs from fun w' hw' R' hR' => ((HM.out.refs R' hR').at_).below hw')
  have HSUB := Lib.hid (show ∀ r ∈ R, r ∈ M from fun r hr => mem_rest (k := k) (by rw [hR]; exact hr))
  have HRO := Lib.hid hown
  have HAW := Lib.hid hsW9
  have HBW := Lib.hid (HBA.out.trans (hsW9.mono HBA.out.size))
  have HMW := Lib.hid (HM.out.below hsW9)
  have HRW := Lib.hid (show RowsAt W9 (.slice a9 nr c9) R from rows_set hown.at_ (HREF.out W9 hsW9) HSUB.out)
  have HRND := Lib.hid (show (R.map (·.id)).Nodup by rw [← hR]; exact rest_nodup HND.out hkM)
  obtain ⟨y, hy⟩ : ∃ y, M[k].id = y := ⟨_, rfl⟩
  have HYE := Lib.hid hy
  have HNOY := Lib.hid (show idxL R y < 0 by rw [← hR, ← hy]; exact rest_no HND.out hkM)
  have HPERM := Lib.hid (show (R ++ [M[k]]).Perm M by rw [← hR]; exact rest_perm hkM)
  have HSND := Lib.hid (show ((R ++ [M[k]]).map (·.id)).Nodup by rw [← hR]; exact restS_nodup HND.out hkM)
  have HSIX := Lib.hid (show idxL (R ++ [M[k]]) y = (nr : Int) by
    have h := restS_idx HND.out hkM
    rw [hR, HRL.out, hy] at h
    exact h)
  clear hR hown hy hnr hE hOW4 hOW9 hgW4 hgW9 haW4 haW9 hsWl hsW4 hsW9 hS0 hcut hfrom2 hii HM HBA HTK HLD HLT HLDR
  go_wp2_with fail
  refine (acyclic_any _ M HMW.out.at_ HND.out (by rw [HN.out]; omega)).mono ?_
  rintro e Wy ⟨b1, rfl, hac, hb⟩
  have HAC1 := Lib.hid hac
  have HMW := Lib.hid (HMW.out.below hb)
  have HRW := Lib.hid (HRW.out.below hb)
  have HRO := Lib.hid (HRO.out.below hb)
  have HAW := Lib.hid (HAW.out.trans (hb.mono HAW.out.size))
  have HB0 := Lib.hid (HBW.out.trans (hb.mono HBW.out.size))
  clear hac hb HBW
  cases b1 with
  | false =>
    go_wp2_with fail
    refine known_any.mono ?_
    rintro e Wk ⟨rfl, hb⟩
    have HB0 := Lib.hid (HB0.out.trans (hb.mono HB0.out.size))
    clear hb
    go_wp2_with fail
    exact bodyPost_ret (v := .bool true) (by simp [results, Try.results9, go_sem]) rfl ⟨rfl, HB0.out⟩
  | true =>
  go_wp2_with fail
  refine (acyclic_any _ R HRW.out HRND.out (by rw [HRL.out]; omega)).mono ?_
  rintro e Wz ⟨b2, rfl, hac, hb⟩
  have HAC2 := Lib.hid hac
  have HMW := Lib.hid (HMW.out.below hb)
  have HRW := Lib.hid (HRW.out.below hb)
  have HRO := Lib.hid (HRO.out.below hb)
  have HAW := Lib.hid (HAW.out.trans (hb.mono HAW.out.size))
  have HB0 := Lib.hid (HB0.out.trans (hb.mono HB0.out.size))
  clear hac hb
  cases b2 with
  | false =>
    go_wp2_with fail
    refine known_any.mono ?_
    rintro e Wk ⟨rfl, hb⟩
    have HB0 := Lib.hid (HB0.out.trans (hb.mono HB0.out.size))
    clear hb
    go_wp2_with fail
    exact bodyPost_ret (v := .bool true) (by simp [results, Try.results9, go_sem]) rfl ⟨rfl, HB0.out⟩
  | true =>
  go_wp2_with fail
  refine (Build_any _ R HRW.out (by rw [HRL.out]; omega)).mono ?_
  rintro e Wf (⟨hno, _⟩ | ⟨hnd2, fv, c1, rfl, hc1, hof, hb⟩)
  case inl => exact absurd HRND.out hno
  have hgood := good hnd2 hc1
  have HCP := Lib.hid (show c1 = parP R from cut_none hc1 (HAC2.out.1 (by simp)))
  obtain ⟨F, hF⟩ : ∃ F, forestV R c1 = F := ⟨_, rfl⟩
  rw [hF] at hof hgood
  have hFl : F.length ≤ 28 := by
    rw [← hF, forestV_eq hnd2]
    unfold forestS
    refine Nat.le_trans (forL_len (cut_acyclic hc1) (pls_nodup hnd2 c1) _ _) ?_
    have := pls_len R c1
    have h2 := HRL.out
    omega
  obtain ⟨fa, fc, rfl⟩ := hof.form
  obtain ⟨n, hn⟩ : ∃ n, F.length = n := ⟨_, rfl⟩
  rw [hn] at hof hFl ⊢
  have HG := Lib.hid hgood
  have HFN := Lib.hid hn
  have HF0 := Lib.hid hof.at_
  have HMW := Lib.hid (HMW.out.below hb)
  have HRW := Lib.hid (HRW.out.below hb)
  have HRO := Lib.hid (HRO.out.below hb)
  have HAW := Lib.hid (HAW.out.trans (hb.mono HAW.out.size))
  have HB0 := Lib.hid (HB0.out.trans (hb.mono HB0.out.size))
  clear hb
  clear hc1 hof hnd2 hgood hF hn HAC2
  obtain ⟨mg, mo, em, hmg, hmr⟩ := HMW.out.own.at_.get hkM
  subst em
  have HY := Lib.hid (show ∀ w', Below Wf.heap.size Wf w' → w'.rangeAt mg (mo + k * 83) (bvs y.1) ∧ w'.rangeAt mg (mo + k * 83) M[k].cells from fun w' hw' => by
    have h1 : w'.rangeAt mg (mo + k * 83) M[k].cells := range_below (show Wf.rangeAt mg (mo + k * 83) M[k].cells from hmr) hmg hw'
    have h2 := row_id h1
    rw [HYE.out] at h2
    exact ⟨h2, h1⟩)
  clear hmr hmg
  have HAB0 := Lib.hid (show ¬ ∃ r ∈ R.take 0, r.refs.getLast? = some y by simp)
  have HK0 := Lib.hid (Below.refl Wf.heap.size Wf)
  go_wp2_with fail
  go_loopw [10, 11, 12] (fun av iv rv wr => ∃ (i : Nat) (ab : Bool), i ≤ nr ∧ iv = .int .i64 (i : Int) ∧ av = .bool ab ∧ Hid (ab = true ↔ ∃ r ∈ R.take i, r.refs.getLast? = some y) ∧ Hid (Below Wf.heap.size Wf wr)) (fun _ iv _ _ => nr - (intOf iv).toNat)
  case atStart => exact ⟨0, false, Nat.zero_le _, rfl, rfl, Lib.hid ⟨fun h => by simp at h, fun h => absurd h HAB0.out⟩, HK0⟩
  case round =>
    obtain ⟨i, ab, hi, rfl, rfl, HAB, HB6⟩ := hrel
    obtain ⟨W0, rfl⟩ : ∃ W0, W0 = wr := ⟨_, rfl⟩
    clear HK0 HAB0
    by_cases hlt : i < nr
    case pos =>
      have hiI : (i : Int) < (nr : Int) := by omega
      have hiR : i < R.length := by rw [HRL.out]; exact hlt
      obtain ⟨rg, ro, er, hrg, hrr⟩ := (HRW.out.below HB6.out).l.get hiR
      subst er
      have hro := (HRW.out.below HB6.out).r R[i] (List.getElem_mem hiR)
      obtain ⟨ra, rc, hrv⟩ := hro.form
      have hxm := (row_mid (show W0.rangeAt rg (ro + i * 83) R[i].cells from hrr)).2.2
      rw [hrv] at hro hxm
      obtain ⟨K, hK⟩ : ∃ K, R[i].refs.length = K := ⟨_, rfl⟩
      rw [hK] at hro hxm
      obtain ⟨hz1, hrc1, hrc2, hz2⟩ := hro.len
      unfold maxLen at hrc2
      have HNX := Lib.hid (show (∃ r ∈ R.take (i + 1), r.refs.getLast? = some y) ↔ (∃ r ∈ R.take i, r.refs.getLast? = some y) ∨ R[i].refs.getLast? = some y by
        rw [List.take_succ_eq_append_getElem hiR]
        constructor
        · rintro ⟨r, hr, e⟩
          rcases List.mem_append.1 hr with h | h
          · exact .inl ⟨r, h, e⟩
          · obtain rfl := List.mem_singleton.1 h
            exact .inr e
        · rintro (⟨r, hr, e⟩ | e)
          · exact ⟨r, List.mem_append_left _ hr, e⟩
          · exact ⟨R[i], List.mem_append_right _ (List.mem_singleton.2 rfl), e⟩)
      have HRR := Lib.hid hro
      have HKE := Lib.hid hK
      clear hz1 hz2 hrr hrg hrv hro hK
      go_wp2_with fail
      refine wp_region_seq 20 (by kernel_rfl) (by kernel_rfl) ?_
      simp only [List.take_succ_cons, List.take_zero, List.drop_succ_cons, List.drop_zero]
      obtain ⟨wd, hwd⟩ : ∃ wd, W0.drew = wd := ⟨_, rfl⟩
      have hd_wd : Below W0.heap.size W0 wd ∧ wd.heap.size = W0.heap.size := hwd ▸ ⟨(Below.refl _ _).drew, rfl⟩
      rw [hwd]
      clear hwd
      have HBd := Lib.hid (HB6.out.trans (hd_wd.1.mono HB6.out.size))
      have HYd := Lib.hid (HY.out wd HBd.out).1
      have HRRd := Lib.hid (HRR.out.below hd_wd.1)
      clear hd_wd hxm
      cases ab with
      | true =>
        have HAN := Lib.hid (show ∃ r ∈ R.take (i + 1), r.refs.getLast? = some y from HNX.out.2 (.inl (HAB.out.1 (by simp))))
        go_wp2_with fail
        refine HeadPost.mk ?_
        go_wp2_with fail
        go_roundw
        case rel => exact ⟨i + 1, true, by omega, by go_num, rfl, Lib.hid ⟨fun _ => HAN.out, fun _ => rfl⟩, HBd⟩
        case measure => simp [intOf] <;> omega
      | false =>
        have HANO := Lib.hid (show ¬ ∃ r ∈ R.take i, r.refs.getLast? = some y from fun h => by have := HAB.out.2 h; simp at this)
        cases K with
        | zero =>
          have HAN := Lib.hid (show ¬ ∃ r ∈ R.take (i + 1), r.refs.getLast? = some y from fun h => by
            rcases HNX.out.1 h with h1 | h1
            · exact HANO.out h1
            · rw [List.eq_nil_of_length_eq_zero HKE.out] at h1; cases h1)
          go_wp2_with fail
          refine HeadPost.mk ?_
          go_wp2_with fail
          go_roundw
          case rel => exact ⟨i + 1, false, by omega, by go_num, rfl, Lib.hid ⟨fun h => by simp at h, fun h => absurd h HAN.out⟩, HBd⟩
          case measure => simp [intOf] <;> omega
        | succ K =>
          have hKR : K < R[i].refs.length := by rw [HKE.out]; exact Nat.lt_succ_self _
          obtain ⟨zg, zo, ez, hzg, hzr⟩ := HRRd.out.get hKR
          subst ez
          obtain ⟨z, hz⟩ : ∃ z, R[i].refs[K] = z := ⟨_, rfl⟩
          rw [hz] at hzr
          have HZR := Lib.hid (show wd.rangeAt zg (zo + K * 32) (bvs z.1) from hzr)
          have HLZ := Lib.hid (show R[i].refs.getLast? = some z by rw [getLast_snoc HKE.out, hz])
          clear hzr hzg hz
          go_wp2_with (refine wpList_met rfl ?_; with_reducible refine wpList_load_mid rfl 35 (.tmp 77) rfl zg (zo + K * 32) rfl (bvs z.1) _ HZR.out Try.underlying35 rfl (sizeId z) ?_; refine Stop.on ?_)
          refine Stop.go ?_
          try simp only [Act.put, List.setIfInBounds_toArray, List.set_cons_zero, List.set_cons_succ]
          go_wp2_with (refine wpList_met rfl ?_; with_reducible refine wpList_load_mid rfl 35 (.tmp 82) rfl mg (mo + k * 83) rfl (bvs y.1) _ HYd.out Try.underlying35 rfl (sizeId y) ?_; refine Stop.on ?_)
          refine Stop.go ?_
          try simp only [Act.put, List.setIfInBounds_toArray, List.set_cons_zero, List.set_cons_succ]
          refine wpList_met rfl ?_
          refine wpList_runI rfl (some 84) rfl (.bool (decide (z = y))) _ (op_eql 35 (.tmp 78) (.tmp 83) 35 rfl rfl rfl guard_Id (eql_Id z y _)) ?_
          try simp only [Act.put, List.setIfInBounds_toArray, List.set_cons_zero, List.set_cons_succ]
          obtain ⟨ab2, hab2⟩ : ∃ ab2, decide (z = y) = ab2 := ⟨_, rfl⟩
          rw [hab2]
          have HAN := Lib.hid (show ab2 = true ↔ ∃ r ∈ R.take (i + 1), r.refs.getLast? = some y by
            rw [HNX.out, HLZ.out, ← hab2, decide_eq_true_eq]
            constructor
            · exact fun h => .inr (by rw [h])
            · rintro (h | h)
              · exact absurd h HANO.out
              · exact Option.some.inj h)
          clear hab2
          go_wp2_with fail
          refine HeadPost.mk ?_
          go_wp2_with fail
          go_roundw
          case rel => exact ⟨i + 1, ab2, by omega, by go_num, rfl, HAN, HBd⟩
          case measure => simp [intOf] <;> omega
    obtain rfl : i = nr := by omega
    have HANS := Lib.hid (show ab = true ↔ ∃ r ∈ R, r.refs.getLast? = some y by
      have h := HAB.out
      rwa [List.take_of_length_le (by rw [HRL.out]; exact Nat.le_refl _)] at h)
    have HMW := Lib.hid (HMW.out.below HB6.out)
    have HRW := Lib.hid (HRW.out.below HB6.out)
    have HRO := Lib.hid (HRO.out.below HB6.out)
    have HF0 := Lib.hid (HF0.out.below HB6.out)
    have HAW := Lib.hid (HAW.out.trans (HB6.out.mono HAW.out.size))
    have HB0 := Lib.hid (HB0.out.trans (HB6.out.mono HB0.out.size))
    have HYA := Lib.hid (HY.out W0 HB6.out).1
    go_wp2_with (with_reducible refine wpList_load_mid rfl 35 (.tmp 92) rfl mg (mo + k * 83) rfl (bvs y.1) _ HYA.out Try.underlying35 rfl (sizeId y) ?_; refine Stop.on ?_)
    refine Stop.go ?_
    try simp only [Act.put, List.setIfInBounds_toArray, List.set_cons_zero, List.set_cons_succ]
    go_wp2_with fail
    refine (Find_any _ F HF0.out (by rw [HFN.out]; omega) y).mono ?_
    rintro e Wx ⟨hb, hor⟩
    have HF0 := Lib.hid (HF0.out.below hb)
    have HB6 := Lib.hid (HB6.out.trans (hb.mono HB6.out.size))
    have HMW := Lib.hid (HMW.out.below hb)
    have HRW := Lib.hid (HRW.out.below hb)
    have HRO := Lib.hid (HRO.out.below hb)
    have HAW := Lib.hid (HAW.out.trans (hb.mono HAW.out.size))
    have HB0 := Lib.hid (HB0.out.trans (hb.mono HB0.out.size))
    clear hb
    obtain ⟨kk, rfl, HKK⟩ : ∃ kk : Nat, e = .returned (.tuple #[.int .i64 (kk : Int), .bool ab]) ∧ Hid (ab = true → ∃ h : kk < F.length, F[kk].row = -1) := by
      have hid := hole_ids HG.out HRND.out HCP.out HNOY.out
      rcases hor with ⟨hno, he⟩ | ⟨kk, hkk, hkx, _, he⟩
      · have : ab = false := by
          cases ab with
          | false => rfl
          | true =>
            obtain ⟨m, hm, hmy⟩ := hid.2 (HANS.out.1 rfl)
            exact absurd hmy (hno m hm)
        subst this
        exact ⟨0, by rw [he]; rfl, Lib.hid (fun h => by cases h)⟩
      · have hm := List.getElem_mem hkk
        have : ab = true := HANS.out.2 (hid.1 ⟨_, hm, hkx⟩)
        subst this
        refine ⟨kk, he, Lib.hid (fun _ => ⟨hkk, ?_⟩)⟩
        have h1 := (chk_all HG.out.check kk hkk).row
        have h2 := HG.out.row _ hm
        rw [hkx] at h2
        have h3 := HNOY.out
        omega
    clear hor
    have haa : (ab != ab) = false := by simp
    go_upto_region 16 with (fail)
    go_cut [118] from 97 to 117 (fun tv wc => tv = .bool false ∧ Hid (Below Wx.heap.size Wx wc))
    case first =>
      have HF1 := HF0
      go_wp2_with fail
      refine known_any.mono ?_
      rintro e Wk ⟨rfl, hb⟩
      have HF1 := Lib.hid (HF1.out.below hb)
      have HBK := Lib.hid hb
      clear hb
      cases ab with
      | false =>
        go_wp2_with fail
        go_meet
        case rel => exact ⟨rfl, HBK⟩
      | true =>
        obtain ⟨hkk, hkr⟩ := HKK.out rfl
        obtain ⟨fg, fo, ef, hcell⟩ := node_at HF1.out hkk
        subst ef
        have hc := (hcell Wk (Below.refl _ _)).1
        rw [hkr] at hc
        have hkkI : (kk : Int) < (n : Int) := by have := HFN.out; omega
        have h11 : ((-1 : Int) != -1) = false := by simp
        clear hcell
        go_wp2_with fail
        go_meet
        case rel => exact ⟨rfl, HBK⟩
    case rest =>
    obtain ⟨rfl, hbx⟩ := hcut
    have hb := hbx.out
    have HB6 := Lib.hid (HB6.out.trans (hb.mono HB6.out.size))
    clear hbx HF0 HKK
    have HMW := Lib.hid (HMW.out.below hb)
    have HRW := Lib.hid (HRW.out.below hb)
    have HRO := Lib.hid (HRO.out.below hb)
    have HAW := Lib.hid (HAW.out.trans (hb.mono HAW.out.size))
    have HB0 := Lib.hid (HB0.out.trans (hb.mono HB0.out.size))
    clear hb
    obtain ⟨Wq, rfl⟩ : ∃ Wq, Wq = wc := ⟨_, rfl⟩
    have HMR := Lib.hid (show ∀ w', Below Wq.heap.size Wq w' → RowsAt w' (.slice a9 i c9) R ∧ w'.rangeAt mg (mo + k * 83) M[k].cells ∧ ListAt idE w' M[k].rv M[k].refs ∧ w'.rangeAt mg (mo + k * 83) (bvs y.1) from fun w' hw' => ⟨HRW.out.below hw', (HY.out w' (HB6.out.trans (hw'.mono HB6.out.size))).2, HREF.out w' (HAW.out.trans (hw'.mono HAW.out.size)) M[k] (List.getElem_mem hkM), (HY.out w' (HB6.out.trans (hw'.mono HB6.out.size))).1⟩)
    have HRN := Lib.hid (show i < N from hnrN)
    have HLS := Lib.hid (show (R ++ [M[k]]).length = i + 1 by rw [List.length_append, HRL.out]; rfl)
    clear HMW HRW HRO HY HREF HAW HB6 HG HCP HFN HAB HANS HSUB
    go_upto_region 18 with (fail)
    go_cut [15, 16] from 119 to 131 (fun gv ev wc => ∃ (c2 : Par) (ga : Option Addr) (gn gc : Nat), gv = .slice ga gn gc ∧ ev = .int .i64 0 ∧ Hid (IsCut (parP (R ++ [M[k]])) (arrS (R ++ [M[k]])) c2) ∧ Hid ((forestV (R ++ [M[k]]) c2).length = gn) ∧ Hid (ListAt nodeE wc (.slice ga gn gc) (forestV (R ++ [M[k]]) c2)) ∧ Hid (Below Wq.heap.size Wq wc))
    case first =>
      have HTK := Lib.hid (HMR.out Wq (Below.refl _ _)).1.l
      have HSZ := Lib.hid (sizeRowA M[k])
      have HCS := Lib.hid (show M[k].cells.toArray.size = 83 by rw [List.size_toArray, M[k].cells_length])
      have HLE := Lib.hid (show (R ++ [M[k]]).length ≤ 100000 by rw [HLS.out]; omega)
      go_wp2_with fail
      have HXW := Lib.hid (Below.refl Wq.heap.size Wq)
      refine wp_region_noPanic ?_
      refine wp_region_H (Below Wq.heap.size Wq) (by kernel_rfl) ?_
      have hS0 : (Below Wq.heap.size Wq) Wq.drew := (Below.refl _ _).drew
      obtain ⟨we, hwe⟩ : ∃ we, Wq.drew = we := ⟨_, rfl⟩
      rw [hwe] at hS0 ⊢
      clear hwe
      refine wpAnyH_takeI (i := 1) (v := ?v9) rfl (by kernel_rfl) (by kernel_rfl) (by kernel_rfl) (fun _ _ _ h => h) (yieldsIf_run rfl (fun w' hw' => ?y9)) hS0 ?_
      case y9 => first | (go_simp; rfl) | (go_simp; done) | rfl
      simp only [Act.put, List.setIfInBounds_toArray, List.set_cons_zero, List.set_cons_succ]
      refine wpAnyH_takeI (i := 3) (v := ?v10) rfl (by kernel_rfl) (by kernel_rfl) (by kernel_rfl) (fun _ _ _ h => h) (yieldsIf_run rfl (fun w' hw' => ?y10)) hS0 ?_
      case y10 => first | (go_simp; rfl) | (go_simp; done) | rfl
      simp only [Act.put, List.setIfInBounds_toArray, List.set_cons_zero, List.set_cons_succ]
      refine wpAnyH_takeI (i := 4) (v := ?v11) rfl (by kernel_rfl) (by kernel_rfl) (by kernel_rfl) (fun _ _ _ h => h) (yieldsIf_run rfl (fun w' hw' => ?y11)) hS0 ?_
      case y11 => first | (go_simp; rfl) | (go_simp; done) | rfl
      simp only [Act.put, List.setIfInBounds_toArray, List.set_cons_zero, List.set_cons_succ]
      refine wpAnyH_takeI (i := 5) (v := ?v12) rfl (by kernel_rfl) (by kernel_rfl) (by kernel_rfl) (fun _ _ _ h => h) (yieldsIf_run rfl (fun w' hw' => ?y12)) hS0 ?_
      case y12 => first | (go_simp; rfl) | (go_simp; done) | rfl
      simp only [Act.put, List.setIfInBounds_toArray, List.set_cons_zero, List.set_cons_succ]
      refine wpAnyH_takeI (i := 6) (v := .agg (M[k].cells).toArray) rfl (by kernel_rfl) (by kernel_rfl) (by kernel_rfl) (fun _ _ _ h => h) (yieldsIf_load_mid rfl 43 (.tmp 125) rfl mg (mo + k * 83) rfl (M[k].cells) _ (fun w' hw' => (HMR.out w' (HXW.out.trans (hw'.mono HXW.out.size))).2.1) Try.underlying43 rfl (sizeRow M[k])) hS0 ?_
      simp only [Act.put, List.setIfInBounds_toArray, List.set_cons_zero, List.set_cons_succ]
      have hS := hS0
      clear hS0
      refine wpAnyH_two (i := 0) (j := 7) (by kernel_rfl) rfl rfl rfl rfl (fun K hK => ?_) (fun K hK => ?_)
      · go_simp
        obtain ⟨wen, hwn⟩ : ∃ wen, we.alloc (.cells #[] 43) = wen := ⟨_, rfl⟩
        have hb : Below we.heap.size we wen := hwn ▸ (Below.refl _ _).alloc (Nat.le_refl _) _
        have hE : OwnL rowE wen Wq.heap.size (Value.slice (some ⟨we.heap.size, 0, none⟩) 0 0) [] := hwn ▸ ownL_zero rowE hS.size
        rw [hwn]
        clear hwn
        replace hS := hS.trans (hb.mono hS.size)
        clear hb
        refine hK _ _ hS ?_
        clear hK K
        try simp only [Act.put, List.setIfInBounds_toArray, List.set_cons_zero, List.set_cons_succ]
        refine wpAnyH_two (i := 2) (j := 7) (by kernel_rfl) rfl rfl rfl rfl (fun K hK => ?_) (fun K hK => ?_)
        · refine wp_appL rowE (.tmp 120) (.tmp 121) rfl rfl hE rfl (HTK.out.below hS) (n := 0) (m := i) rfl HRL.out (by omega) hS.size ?_
          intro a4 c4 wenn ho9 hgr hat
          have hb := hE.grown_below hgr hS.size
          rw [Nat.zero_add] at ho9 hat ⊢
          rw [List.nil_append] at ho9
          clear hE hgr hat
          have hE := ho9
          clear ho9
          replace hS := hS.trans hb
          clear hb
          refine hK _ _ hS ?_
          clear hK K
          try simp only [Act.put, List.setIfInBounds_toArray, List.set_cons_zero, List.set_cons_succ]
          refine wpAnyH_do (i := 7) (by kernel_rfl) rfl rfl (fun K hK => ?_)
          refine wp_lit1 23 43 (.tmp 126) rfl (M[k].cells).toArray rfl Try.underlying23 HSZ.out (by kernel_rfl) (by rw [HCS.out]; decide) (by rw [HCS.out]; decide) ?_
          obtain ⟨wennn, hwn⟩ : ∃ wennn, wenn.alloc (.cells (M[k].cells).toArray 43) = wennn := ⟨_, rfl⟩
          have hb : Below wenn.heap.size wenn wennn := hwn ▸ one_below rowE wenn M[k]
          have hL : wennn.heap[wenn.heap.size]? = some (.cells (M[k].cells).toArray 43 (0, 0)) := by rw [← hwn]; exact heap_alloc_new _ _
          rw [hwn]
          have hD0 : ∀ x, (Value.slice a4 (i) c4).ownBlock = some x → wenn.heap.size ≠ x := fun x hx e => by have h1 := (hE.lt hx).2; omega
          replace hE := hE.below hb
          obtain ⟨b6, hb6⟩ : ∃ b6, wenn.heap.size = b6 := ⟨_, rfl⟩
          rw [hb6] at hL ⊢
          have hD : ∀ x, (Value.slice a4 (i) c4).ownBlock = some x → b6 ≠ x := fun x hx => hb6 ▸ hD0 x hx
          clear hD0
          replace hS := hS.trans (hb.mono hS.size)
          clear hb hwn hb6
          refine hK _ _ hS ?_
          clear hK K
          try simp only [Act.put, List.setIfInBounds_toArray, List.set_cons_zero, List.set_cons_succ]
          refine wpAnyH_do (i := 8) (by kernel_rfl) rfl rfl (fun K hK => ?_)
          refine wp_appL rowE (.tmp 122) (.tmp 127) rfl rfl hE rfl (list_block1 rowE hL) (n := i) (m := 1) HRL.out rfl (by omega) hS.size ?_
          intro a7 c7 wennnn ho9 hgr hat
          have hb := hE.grown_below hgr hS.size
          clear hE hgr hat
          have hE := ho9
          clear ho9
          replace hS := hS.trans hb
          clear hb
          clear hL hD
          refine hK _ _ hS ?_
          clear hK K
          try simp only [Act.put, List.setIfInBounds_toArray, List.set_cons_zero, List.set_cons_succ]
          have HSR := Lib.hid (show RowsAt wennnn (.slice a7 (i + 1) c7) (R ++ [M[k]]) from ⟨hE.at_, fun r hr => by
            obtain ⟨h1, _, h3, _⟩ := HMR.out wennnn hS
            rcases List.mem_append.1 hr with h | h
            · exact h1.r r h
            · obtain rfl := List.mem_singleton.1 h
              exact h3⟩)
          refine wpAnyH_do (i := 9) (by kernel_rfl) rfl rfl (fun K hK => ?_)
          go_simp
          go_at_call 17
          refine (Build_any _ (R ++ [M[k]]) HSR.out HLE.out).mono ?_
          rintro e Wg (⟨hno, _⟩ | ⟨hnd2, gv, c2, rfl, hc2, hog, hb⟩)
          case inl => exact absurd HSND.out hno
          obtain ⟨ga, gc, rfl⟩ := hog.form
          obtain ⟨gn, hgn⟩ : ∃ gn, (forestV (R ++ [M[k]]) c2).length = gn := ⟨_, rfl⟩
          rw [hgn] at hog ⊢
          have hsG := hS.trans (hb.mono hS.size)
          refine hK _ _ hsG ?_
          clear hK K
          try simp only [Act.put, List.setIfInBounds_toArray, List.set_cons_zero, List.set_cons_succ]
          refine wpAnyH_takeI (i := 10) (v := ?v13) rfl (by kernel_rfl) (by kernel_rfl) (by kernel_rfl) (fun _ _ _ h => h) (yieldsIf_run rfl (fun w' hw' => ?y13)) hsG ?_
          case y13 => first | (go_simp; rfl) | (go_simp; done) | rfl
          simp only [Act.put, List.setIfInBounds_toArray, List.set_cons_zero, List.set_cons_succ]
          refine wpAnyH_takeI (i := 11) (v := ?v14) rfl (by kernel_rfl) (by kernel_rfl) (by kernel_rfl) (fun _ _ _ h => h) (yieldsIf_run rfl (fun w' hw' => ?y14)) hsG ?_
          case y14 => first | (go_simp; rfl) | (go_simp; done) | rfl
          simp only [Act.put, List.setIfInBounds_toArray, List.set_cons_zero, List.set_cons_succ]
          refine wpAnyH_takeI (i := 12) (v := ?v15) rfl (by kernel_rfl) (by kernel_rfl) (by kernel_rfl) (fun _ _ _ h => h) (yieldsIf_run rfl (fun w' hw' => ?y15)) hsG ?_
          case y15 => first | (go_simp; rfl) | (go_simp; done) | rfl
          simp only [Act.put, List.setIfInBounds_toArray, List.set_cons_zero, List.set_cons_succ]
          refine wpAnyH_takeI (i := 13) (v := ?v16) rfl (by kernel_rfl) (by kernel_rfl) (by kernel_rfl) (fun _ _ _ h => h) (yieldsIf_run rfl (fun w' hw' => ?y16)) hsG ?_
          case y16 => first | (go_simp; rfl) | (go_simp; done) | rfl
          simp only [Act.put, List.setIfInBounds_toArray, List.set_cons_zero, List.set_cons_succ]
          refine wpAnyH_takeI (i := 14) (v := ?v17) rfl (by kernel_rfl) (by kernel_rfl) (by kernel_rfl) (fun _ _ _ h => h) (yieldsIf_run rfl (fun w' hw' => ?y17)) hsG ?_
          case y17 => first | (go_simp; rfl) | (go_simp; done) | rfl
          simp only [Act.put, List.setIfInBounds_toArray, List.set_cons_zero, List.set_cons_succ]
          refine wpAnyH_done (by kernel_rfl) ?_ _
          refine NoPanic.normal ?_
          have HC2 := Lib.hid hc2
          have HGN := Lib.hid hgn
          have HOG := Lib.hid hog.at_
          have HBG := Lib.hid hsG
          clear hE hS hsG hog hb hc2 hgn
          go_wp2_with fail
          go_meet
          case rel => exact ⟨c2, ga, gn, gc, rfl, rfl, HC2, HGN, HOG, HBG⟩
        · refine wp_lit1 23 43 (.tmp 126) rfl (M[k].cells).toArray rfl Try.underlying23 HSZ.out (by kernel_rfl) (by rw [HCS.out]; decide) (by rw [HCS.out]; decide) ?_
          obtain ⟨wenn, hwn⟩ : ∃ wenn, wen.alloc (.cells (M[k].cells).toArray 43) = wenn := ⟨_, rfl⟩
          have hb : Below wen.heap.size wen wenn := hwn ▸ one_below rowE wen M[k]
          have hL : wenn.heap[wen.heap.size]? = some (.cells (M[k].cells).toArray 43 (0, 0)) := by rw [← hwn]; exact heap_alloc_new _ _
          rw [hwn]
          have hD0 : ∀ x, (Value.slice (some ⟨we.heap.size, 0, none⟩) 0 0).ownBlock = some x → wen.heap.size ≠ x := fun x hx e => by have h1 := (hE.lt hx).2; omega
          replace hE := hE.below hb
          obtain ⟨b6, hb6⟩ : ∃ b6, wen.heap.size = b6 := ⟨_, rfl⟩
          rw [hb6] at hL ⊢
          have hD : ∀ x, (Value.slice (some ⟨we.heap.size, 0, none⟩) 0 0).ownBlock = some x → b6 ≠ x := fun x hx => hb6 ▸ hD0 x hx
          clear hD0
          replace hS := hS.trans (hb.mono hS.size)
          clear hb hwn hb6
          refine hK _ _ hS ?_
          clear hK K
          try simp only [Act.put, List.setIfInBounds_toArray, List.set_cons_zero, List.set_cons_succ]
          refine wpAnyH_do (i := 2) (by kernel_rfl) rfl rfl (fun K hK => ?_)
          refine wp_appL rowE (.tmp 120) (.tmp 121) rfl rfl hE rfl (HTK.out.below hS) (n := 0) (m := i) rfl HRL.out (by omega) hS.size ?_
          intro a4 c4 wennn ho9 hgr hat
          have hb := hE.grown_below hgr hS.size
          rw [Nat.zero_add] at ho9 hat ⊢
          rw [List.nil_append] at ho9
          have hlb := (Array.getElem?_eq_some_iff.1 hL).1
          replace hL := (hgr.block b6 hlb (fun e => hD _ e.symm rfl)).trans hL
          replace hD : ∀ x, (Value.slice a4 (i) c4).ownBlock = some x → b6 ≠ x := fun x hx e => (hat x hx).elim (fun h => hD x h e) (fun h => by omega)
          clear hlb
          clear hE hgr hat
          have hE := ho9
          clear ho9
          replace hS := hS.trans hb
          clear hb
          refine hK _ _ hS ?_
          clear hK K
          try simp only [Act.put, List.setIfInBounds_toArray, List.set_cons_zero, List.set_cons_succ]
          refine wpAnyH_do (i := 8) (by kernel_rfl) rfl rfl (fun K hK => ?_)
          refine wp_appL rowE (.tmp 122) (.tmp 127) rfl rfl hE rfl (list_block1 rowE hL) (n := i) (m := 1) HRL.out rfl (by omega) hS.size ?_
          intro a7 c7 wennnn ho9 hgr hat
          have hb := hE.grown_below hgr hS.size
          clear hE hgr hat
          have hE := ho9
          clear ho9
          replace hS := hS.trans hb
          clear hb
          clear hL hD
          refine hK _ _ hS ?_
          clear hK K
          try simp only [Act.put, List.setIfInBounds_toArray, List.set_cons_zero, List.set_cons_succ]
          have HSR := Lib.hid (show RowsAt wennnn (.slice a7 (i + 1) c7) (R ++ [M[k]]) from ⟨hE.at_, fun r hr => by
            obtain ⟨h1, _, h3, _⟩ := HMR.out wennnn hS
            rcases List.mem_append.1 hr with h | h
            · exact h1.r r h
            · obtain rfl := List.mem_singleton.1 h
              exact h3⟩)
          refine wpAnyH_do (i := 9) (by kernel_rfl) rfl rfl (fun K hK => ?_)
          go_simp
          go_at_call 17
          refine (Build_any _ (R ++ [M[k]]) HSR.out HLE.out).mono ?_
          rintro e Wg (⟨hno, _⟩ | ⟨hnd2, gv, c2, rfl, hc2, hog, hb⟩)
          case inl => exact absurd HSND.out hno
          obtain ⟨ga, gc, rfl⟩ := hog.form
          obtain ⟨gn, hgn⟩ : ∃ gn, (forestV (R ++ [M[k]]) c2).length = gn := ⟨_, rfl⟩
          rw [hgn] at hog ⊢
          have hsG := hS.trans (hb.mono hS.size)
          refine hK _ _ hsG ?_
          clear hK K
          try simp only [Act.put, List.setIfInBounds_toArray, List.set_cons_zero, List.set_cons_succ]
          refine wpAnyH_takeI (i := 10) (v := ?v18) rfl (by kernel_rfl) (by kernel_rfl) (by kernel_rfl) (fun _ _ _ h => h) (yieldsIf_run rfl (fun w' hw' => ?y18)) hsG ?_
          case y18 => first | (go_simp; rfl) | (go_simp; done) | rfl
          simp only [Act.put, List.setIfInBounds_toArray, List.set_cons_zero, List.set_cons_succ]
          refine wpAnyH_takeI (i := 11) (v := ?v19) rfl (by kernel_rfl) (by kernel_rfl) (by kernel_rfl) (fun _ _ _ h => h) (yieldsIf_run rfl (fun w' hw' => ?y19)) hsG ?_
          case y19 => first | (go_simp; rfl) | (go_simp; done) | rfl
          simp only [Act.put, List.setIfInBounds_toArray, List.set_cons_zero, List.set_cons_succ]
          refine wpAnyH_takeI (i := 12) (v := ?v20) rfl (by kernel_rfl) (by kernel_rfl) (by kernel_rfl) (fun _ _ _ h => h) (yieldsIf_run rfl (fun w' hw' => ?y20)) hsG ?_
          case y20 => first | (go_simp; rfl) | (go_simp; done) | rfl
          simp only [Act.put, List.setIfInBounds_toArray, List.set_cons_zero, List.set_cons_succ]
          refine wpAnyH_takeI (i := 13) (v := ?v21) rfl (by kernel_rfl) (by kernel_rfl) (by kernel_rfl) (fun _ _ _ h => h) (yieldsIf_run rfl (fun w' hw' => ?y21)) hsG ?_
          case y21 => first | (go_simp; rfl) | (go_simp; done) | rfl
          simp only [Act.put, List.setIfInBounds_toArray, List.set_cons_zero, List.set_cons_succ]
          refine wpAnyH_takeI (i := 14) (v := ?v22) rfl (by kernel_rfl) (by kernel_rfl) (by kernel_rfl) (fun _ _ _ h => h) (yieldsIf_run rfl (fun w' hw' => ?y22)) hsG ?_
          case y22 => first | (go_simp; rfl) | (go_simp; done) | rfl
          simp only [Act.put, List.setIfInBounds_toArray, List.set_cons_zero, List.set_cons_succ]
          refine wpAnyH_done (by kernel_rfl) ?_ _
          refine NoPanic.normal ?_
          have HC2 := Lib.hid hc2
          have HGN := Lib.hid hgn
          have HOG := Lib.hid hog.at_
          have HBG := Lib.hid hsG
          clear hE hS hsG hog hb hc2 hgn
          go_wp2_with fail
          go_meet
          case rel => exact ⟨c2, ga, gn, gc, rfl, rfl, HC2, HGN, HOG, HBG⟩
      · refine wp_lit1 23 43 (.tmp 126) rfl (M[k].cells).toArray rfl Try.underlying23 HSZ.out (by kernel_rfl) (by rw [HCS.out]; decide) (by rw [HCS.out]; decide) ?_
        obtain ⟨wen, hwn⟩ : ∃ wen, we.alloc (.cells (M[k].cells).toArray 43) = wen := ⟨_, rfl⟩
        have hb : Below we.heap.size we wen := hwn ▸ one_below rowE we M[k]
        have hL : wen.heap[we.heap.size]? = some (.cells (M[k].cells).toArray 43 (0, 0)) := by rw [← hwn]; exact heap_alloc_new _ _
        rw [hwn]
        obtain ⟨b6, hb6⟩ : ∃ b6, we.heap.size = b6 := ⟨_, rfl⟩
        rw [hb6] at hL ⊢
        replace hS := hS.trans (hb.mono hS.size)
        clear hb hwn hb6
        refine hK _ _ hS ?_
        clear hK K
        try simp only [Act.put, List.setIfInBounds_toArray, List.set_cons_zero, List.set_cons_succ]
        refine wpAnyH_do (i := 0) (by kernel_rfl) rfl rfl (fun K hK => ?_)
        go_simp
        obtain ⟨wenn, hwn⟩ : ∃ wenn, wen.alloc (.cells #[] 43) = wenn := ⟨_, rfl⟩
        have hb : Below wen.heap.size wen wenn := hwn ▸ (Below.refl _ _).alloc (Nat.le_refl _) _
        have hE : OwnL rowE wenn Wq.heap.size (Value.slice (some ⟨wen.heap.size, 0, none⟩) 0 0) [] := hwn ▸ ownL_zero rowE hS.size
        rw [hwn]
        clear hwn
        have hD : ∀ x, (Value.slice (some ⟨wen.heap.size, 0, none⟩) 0 0).ownBlock = some x → b6 ≠ x := fun x hx e => by have h1 := (Array.getElem?_eq_some_iff.1 hL).1; have e2 : wen.heap.size = x := Option.some.inj hx; omega
        replace hL := (hb.block _ (Array.getElem?_eq_some_iff.1 hL).1).trans hL
        replace hS := hS.trans (hb.mono hS.size)
        clear hb
        refine hK _ _ hS ?_
        clear hK K
        try simp only [Act.put, List.setIfInBounds_toArray, List.set_cons_zero, List.set_cons_succ]
        refine wpAnyH_do (i := 2) (by kernel_rfl) rfl rfl (fun K hK => ?_)
        refine wp_appL rowE (.tmp 120) (.tmp 121) rfl rfl hE rfl (HTK.out.below hS) (n := 0) (m := i) rfl HRL.out (by omega) hS.size ?_
        intro a4 c4 wennn ho9 hgr hat
        have hb := hE.grown_below hgr hS.size
        rw [Nat.zero_add] at ho9 hat ⊢
        rw [List.nil_append] at ho9
        have hlb := (Array.getElem?_eq_some_iff.1 hL).1
        replace hL := (hgr.block b6 hlb (fun e => hD _ e.symm rfl)).trans hL
        replace hD : ∀ x, (Value.slice a4 (i) c4).ownBlock = some x → b6 ≠ x := fun x hx e => (hat x hx).elim (fun h => hD x h e) (fun h => by omega)
        clear hlb
        clear hE hgr hat
        have hE := ho9
        clear ho9
        replace hS := hS.trans hb
        clear hb
        refine hK _ _ hS ?_
        clear hK K
        try simp only [Act.put, List.setIfInBounds_toArray, List.set_cons_zero, List.set_cons_succ]
        refine wpAnyH_do (i := 8) (by kernel_rfl) rfl rfl (fun K hK => ?_)
        refine wp_appL rowE (.tmp 122) (.tmp 127) rfl rfl hE rfl (list_block1 rowE hL) (n := i) (m := 1) HRL.out rfl (by omega) hS.size ?_
        intro a7 c7 wennnn ho9 hgr hat
        have hb := hE.grown_below hgr hS.size
        clear hE hgr hat
        have hE := ho9
        clear ho9
        replace hS := hS.trans hb
        clear hb
        clear hL hD
        refine hK _ _ hS ?_
        clear hK K
        try simp only [Act.put, List.setIfInBounds_toArray, List.set_cons_zero, List.set_cons_succ]
        have HSR := Lib.hid (show RowsAt wennnn (.slice a7 (i + 1) c7) (R ++ [M[k]]) from ⟨hE.at_, fun r hr => by
          obtain ⟨h1, _, h3, _⟩ := HMR.out wennnn hS
          rcases List.mem_append.1 hr with h | h
          · exact h1.r r h
          · obtain rfl := List.mem_singleton.1 h
            exact h3⟩)
        refine wpAnyH_do (i := 9) (by kernel_rfl) rfl rfl (fun K hK => ?_)
        go_simp
        go_at_call 17
        refine (Build_any _ (R ++ [M[k]]) HSR.out HLE.out).mono ?_
        rintro e Wg (⟨hno, _⟩ | ⟨hnd2, gv, c2, rfl, hc2, hog, hb⟩)
        case inl => exact absurd HSND.out hno
        obtain ⟨ga, gc, rfl⟩ := hog.form
        obtain ⟨gn, hgn⟩ : ∃ gn, (forestV (R ++ [M[k]]) c2).length = gn := ⟨_, rfl⟩
        rw [hgn] at hog ⊢
        have hsG := hS.trans (hb.mono hS.size)
        refine hK _ _ hsG ?_
        clear hK K
        try simp only [Act.put, List.setIfInBounds_toArray, List.set_cons_zero, List.set_cons_succ]
        refine wpAnyH_takeI (i := 10) (v := ?v23) rfl (by kernel_rfl) (by kernel_rfl) (by kernel_rfl) (fun _ _ _ h => h) (yieldsIf_run rfl (fun w' hw' => ?y23)) hsG ?_
        case y23 => first | (go_simp; rfl) | (go_simp; done) | rfl
        simp only [Act.put, List.setIfInBounds_toArray, List.set_cons_zero, List.set_cons_succ]
        refine wpAnyH_takeI (i := 11) (v := ?v24) rfl (by kernel_rfl) (by kernel_rfl) (by kernel_rfl) (fun _ _ _ h => h) (yieldsIf_run rfl (fun w' hw' => ?y24)) hsG ?_
        case y24 => first | (go_simp; rfl) | (go_simp; done) | rfl
        simp only [Act.put, List.setIfInBounds_toArray, List.set_cons_zero, List.set_cons_succ]
        refine wpAnyH_takeI (i := 12) (v := ?v25) rfl (by kernel_rfl) (by kernel_rfl) (by kernel_rfl) (fun _ _ _ h => h) (yieldsIf_run rfl (fun w' hw' => ?y25)) hsG ?_
        case y25 => first | (go_simp; rfl) | (go_simp; done) | rfl
        simp only [Act.put, List.setIfInBounds_toArray, List.set_cons_zero, List.set_cons_succ]
        refine wpAnyH_takeI (i := 13) (v := ?v26) rfl (by kernel_rfl) (by kernel_rfl) (by kernel_rfl) (fun _ _ _ h => h) (yieldsIf_run rfl (fun w' hw' => ?y26)) hsG ?_
        case y26 => first | (go_simp; rfl) | (go_simp; done) | rfl
        simp only [Act.put, List.setIfInBounds_toArray, List.set_cons_zero, List.set_cons_succ]
        refine wpAnyH_takeI (i := 14) (v := ?v27) rfl (by kernel_rfl) (by kernel_rfl) (by kernel_rfl) (fun _ _ _ h => h) (yieldsIf_run rfl (fun w' hw' => ?y27)) hsG ?_
        case y27 => first | (go_simp; rfl) | (go_simp; done) | rfl
        simp only [Act.put, List.setIfInBounds_toArray, List.set_cons_zero, List.set_cons_succ]
        refine wpAnyH_done (by kernel_rfl) ?_ _
        refine NoPanic.normal ?_
        have HC2 := Lib.hid hc2
        have HGN := Lib.hid hgn
        have HOG := Lib.hid hog.at_
        have HBG := Lib.hid hsG
        clear hE hS hsG hog hb hc2 hgn
        go_wp2_with fail
        go_meet
        case rel => exact ⟨c2, ga, gn, gc, rfl, rfl, HC2, HGN, HOG, HBG⟩
    case rest =>
    obtain ⟨c2, ga, gn, gc, rfl, rfl, HC2, HGN, HOG, HBG⟩ := hcut
    obtain ⟨Wg, rfl⟩ : ∃ Wg, Wg = wc := ⟨_, rfl⟩
    have hgood := good HSND.out HC2.out
    have HCP := Lib.hid (show c2 = parP (R ++ [M[k]]) from cut_none HC2.out (acyc_perm HPERM.out HND.out (HAC1.out.1 (by simp))))
    have hgl : (forestV (R ++ [M[k]]) c2).length ≤ 28 := by
      rw [forestV_eq HSND.out]
      unfold forestS
      refine Nat.le_trans (forL_len (cut_acyclic HC2.out) (pls_nodup HSND.out c2) _ _) ?_
      have := pls_len (R ++ [M[k]]) c2
      have h2 := HLS.out
      omega
    obtain ⟨G, hG⟩ : ∃ G, forestV (R ++ [M[k]]) c2 = G := ⟨_, rfl⟩
    rw [hG] at hgood hgl HGN HOG
    rw [HGN.out] at hgl
    have HGG := Lib.hid hgood
    have hgc := HOG.out.len
    have hgnc : gn ≤ gc := hgc.2.1
    have hgcm : gc ≤ 9223372036854775807 := by have := hgc.2.2.1; unfold maxLen at this; omega
    have HB0 := Lib.hid (HB0.out.trans (HBG.out.mono HB0.out.size))
    have HYg := Lib.hid (HMR.out Wg HBG.out).2.2.2
    clear hgood hG hgc HC2 HAC1
    go_wp2_with (with_reducible refine wpList_load_mid rfl 35 (.tmp 137) rfl mg (mo + k * 83) rfl (bvs y.1) _ HYg.out Try.underlying35 rfl (sizeId y) ?_; refine Stop.on ?_)
    refine Stop.go ?_
    try simp only [Act.put, List.setIfInBounds_toArray, List.set_cons_zero, List.set_cons_succ]
    go_wp2_with fail
    refine (Find_any _ G HOG.out (by rw [HGN.out]; omega) y).mono ?_
    rintro e Wj ⟨hb, hor⟩
    obtain ⟨j, hj, hjy, rfl⟩ : ∃ (j : Nat) (hj : j < G.length), G[j].id = y ∧ e = .returned (.tuple #[.int .i64 (j : Int), .bool true]) := by
      rcases hor with ⟨hno, _⟩ | ⟨j, hj, hjy, _, he⟩
      · exfalso
        obtain ⟨m, hm, hmy⟩ := List.mem_map.1 (HGG.out.all M[k] (by simp))
        exact hno m hm (hmy.trans HYE.out)
      · exact ⟨j, hj, hjy, he⟩
    have HOG := Lib.hid (HOG.out.below hb)
    have HBG := Lib.hid (HBG.out.trans (hb.mono HBG.out.size))
    have HB0 := Lib.hid (HB0.out.trans (hb.mono HB0.out.size))
    have hjn : (j : Int) < (gn : Int) := by have := HGN.out; omega
    obtain ⟨gg, go_, eg, hcell⟩ := node_at HOG.out hj
    subst eg
    have hc := (hcell Wj (Below.refl _ _)).1
    have hrj := HGG.out.row _ (List.getElem_mem hj)
    rw [hjy, HSIX.out] at hrj
    rw [hrj] at hc
    have HJ := Lib.hid hj
    have HJY := Lib.hid hjy
    have hii : ((i : Int) != (i : Int)) = false := by simp
    clear hor hb hcell hrj
    have HK0 := Lib.hid (Below.refl Wj.heap.size Wj)
    go_wp2_with fail
    clear hc
    go_loopw [19, 20] (fun iv rv wr => ∃ q : Nat, q ≤ gn ∧ iv = .int .i64 (q : Int) ∧ Hid (Below Wj.heap.size Wj wr)) (fun iv _ _ => gn - (intOf iv).toNat)
    case atStart => exact ⟨0, Nat.zero_le _, rfl, HK0⟩
    case round =>
      obtain ⟨q, hq, rfl, HB7⟩ := hrel
      obtain ⟨W1, rfl⟩ : ∃ W1, W1 = wr := ⟨_, rfl⟩
      clear HK0
      have HBE := Lib.hid (HB0.out.trans (HB7.out.mono HB0.out.size))
      by_cases hlt : q < gn
      case neg =>
        obtain rfl : q = gn := by omega
        go_wp2_with fail
        exact bodyPost_ret (v := .bool true) (by simp [results, Try.results9, go_sem]) rfl ⟨rfl, HBE.out⟩
      have hqI : (q : Int) < (gn : Int) := by omega
      have hqG : q < G.length := by rw [HGN.out]; exact hlt
      obtain ⟨gg', go', eg', hcell⟩ := node_at (HOG.out.below HB7.out) hqG
      cases eg'
      obtain ⟨r1, hr1⟩ : ∃ r, G[q].row = r := ⟨_, rfl⟩
      obtain ⟨p1, hp1⟩ : ∃ p, G[q].parent = p := ⟨_, rfl⟩
      have HCE := Lib.hid (show ∀ w', Below W1.heap.size W1 w' → w'.cell? ⟨gg, go_ + q * 35 + 32, none⟩ = some (.int .i64 r1) ∧ w'.cell? ⟨gg, go_ + q * 35 + 33, none⟩ = some (.int .i64 p1) from fun w' hw' => ⟨hr1 ▸ (hcell w' hw').1, hp1 ▸ (hcell w' hw').2.1⟩)
      have hrow := HGG.out.row _ (List.getElem_mem hqG)
      rw [hr1] at hrow
      have HROW := Lib.hid hrow
      have HP1 := Lib.hid hp1
      have HBX := Lib.hid (HBG.out.trans (HB7.out.mono HBG.out.size))
      clear hcell hr1 hp1 hrow
      have q0 := (HCE.out W1 (Below.refl _ _)).1
      by_cases hpos : 0 ≤ r1
      case neg =>
        have hrd : decide (0 ≤ r1) = false := decide_eq_false hpos
        go_wp2_with fail
        go_roundw
        case rel => exact ⟨q + 1, by omega, by go_num, HB7⟩
        case measure => simp [intOf] <;> omega
      have hrd : decide (0 ≤ r1) = true := decide_eq_true hpos
      obtain ⟨s, hs, hse, hsid⟩ := idxL_pos (L := R ++ [M[k]]) (x := G[q].id) (by rw [← HROW.out]; exact hpos)
      obtain rfl : r1 = (s : Int) := by rw [HROW.out, hse]
      have hsn : s < i + 1 := by rw [← HLS.out]; exact hs
      have hsI : (s : Int) < (i : Int) + 1 := by omega
      have HSID := Lib.hid hsid
      obtain ⟨r9, hr9⟩ : ∃ r9, (R ++ [M[k]])[s] = r9 := ⟨_, rfl⟩
      have HR9 := Lib.hid hr9
      have hro := (show ∀ w', Below Wq.heap.size Wq w' → ListAt idE w' r9.rv r9.refs from fun w' hw' => by
        obtain ⟨h1, _, h3, _⟩ := HMR.out w' hw'
        have hm : r9 ∈ R ++ [M[k]] := by rw [← hr9]; exact List.getElem_mem hs
        rcases List.mem_append.1 hm with h | h
        · exact h1.r r9 h
        · obtain rfl := List.mem_singleton.1 h
          exact h3)
      obtain ⟨ra, rc, hrv⟩ := (hro W1 HBX.out).form
      obtain ⟨K, hK⟩ : ∃ K, r9.refs.length = K := ⟨_, rfl⟩
      rw [hrv] at hro
      rw [hK] at hro hrv
      have HRO9 := Lib.hid hro
      have HRV := Lib.hid hrv
      have HKE := Lib.hid hK
      obtain ⟨hz1, hrc1, hrc2, hz2⟩ := (hro W1 HBX.out).len
      unfold maxLen at hrc2
      clear hse hsid hr9 hro hrv hK hz1 hz2
      go_upto_region 26 with (fail)
      clear q0
      go_cut [20] from 170 to 186 (fun rv wc => rv = .slice ra K rc ∧ Hid (Below W1.heap.size W1 wc))
      case first =>
        have HTK := Lib.hid (HMR.out W1 HBX.out).1.l
        have HSZ := Lib.hid (sizeRowA M[k])
        have HCS := Lib.hid (show M[k].cells.toArray.size = 83 by rw [List.size_toArray, M[k].cells_length])
        have HXW := HBX
        go_wp2_with fail
        refine wp_region_noPanic ?_
        refine wp_region_H (Below W1.heap.size W1) (by kernel_rfl) ?_
        have hS0 : (Below W1.heap.size W1) W1.drew := (Below.refl _ _).drew
        obtain ⟨we, hwe⟩ : ∃ we, W1.drew = we := ⟨_, rfl⟩
        rw [hwe] at hS0 ⊢
        clear hwe
        refine wpAnyH_takeI (i := 1) (v := ?v28) rfl (by kernel_rfl) (by kernel_rfl) (by kernel_rfl) (fun _ _ _ h => h) (yieldsIf_run rfl (fun w' hw' => ?y28)) hS0 ?_
        case y28 => first | (go_simp; rfl) | (go_simp; done) | rfl
        simp only [Act.put, List.setIfInBounds_toArray, List.set_cons_zero, List.set_cons_succ]
        refine wpAnyH_takeI (i := 3) (v := ?v29) rfl (by kernel_rfl) (by kernel_rfl) (by kernel_rfl) (fun _ _ _ h => h) (yieldsIf_run rfl (fun w' hw' => ?y29)) hS0 ?_
        case y29 => first | (go_simp; rfl) | (go_simp; done) | rfl
        simp only [Act.put, List.setIfInBounds_toArray, List.set_cons_zero, List.set_cons_succ]
        refine wpAnyH_takeI (i := 4) (v := ?v30) rfl (by kernel_rfl) (by kernel_rfl) (by kernel_rfl) (fun _ _ _ h => h) (yieldsIf_run rfl (fun w' hw' => ?y30)) hS0 ?_
        case y30 => first | (go_simp; rfl) | (go_simp; done) | rfl
        simp only [Act.put, List.setIfInBounds_toArray, List.set_cons_zero, List.set_cons_succ]
        refine wpAnyH_takeI (i := 5) (v := ?v31) rfl (by kernel_rfl) (by kernel_rfl) (by kernel_rfl) (fun _ _ _ h => h) (yieldsIf_run rfl (fun w' hw' => ?y31)) hS0 ?_
        case y31 => first | (go_simp; rfl) | (go_simp; done) | rfl
        simp only [Act.put, List.setIfInBounds_toArray, List.set_cons_zero, List.set_cons_succ]
        refine wpAnyH_takeI (i := 6) (v := .agg (M[k].cells).toArray) rfl (by kernel_rfl) (by kernel_rfl) (by kernel_rfl) (fun _ _ _ h => h) (yieldsIf_load_mid rfl 43 (.tmp 175) rfl mg (mo + k * 83) rfl (M[k].cells) _ (fun w' hw' => (HMR.out w' (HXW.out.trans (hw'.mono HXW.out.size))).2.1) Try.underlying43 rfl (sizeRow M[k])) hS0 ?_
        simp only [Act.put, List.setIfInBounds_toArray, List.set_cons_zero, List.set_cons_succ]
        refine wpAnyH_takeI (i := 9) (v := ?v32) rfl (by kernel_rfl) (by kernel_rfl) (by kernel_rfl) (fun _ _ _ h => h) (yieldsIf_run rfl (fun w' hw' => ?y32)) hS0 ?_
        case y32 => first | (go_simp; rfl) | (go_simp; done) | rfl
        simp only [Act.put, List.setIfInBounds_toArray, List.set_cons_zero, List.set_cons_succ]
        refine wpAnyH_takeI (i := 10) (v := ?v33) rfl (by kernel_rfl) (by kernel_rfl) (by kernel_rfl) (fun _ _ _ h => h) (yieldsIf_run rfl (fun w' hw' => ?y33)) hS0 ?_
        case y33 => first | (go_simp; rfl) | (go_simp; done) | rfl
        simp only [Act.put, List.setIfInBounds_toArray, List.set_cons_zero, List.set_cons_succ]
        refine wpAnyH_takeI (i := 11) (v := ?v34) rfl (by kernel_rfl) (by kernel_rfl) (by kernel_rfl) (fun _ _ _ h => h) (yieldsIf_run rfl (fun w' hw' => ?y34)) hS0 ?_
        case y34 => first | (go_simp; rfl) | (go_simp; done) | rfl
        simp only [Act.put, List.setIfInBounds_toArray, List.set_cons_zero, List.set_cons_succ]
        refine wpAnyH_takeI (i := 12) (v := ?v35) rfl (by kernel_rfl) (by kernel_rfl) (by kernel_rfl) (fun _ _ _ h => h) (yieldsIf_run rfl (fun w' hw' => ?y35)) hS0 ?_
        case y35 => first | (go_simp; rfl) | (go_simp; done) | rfl
        simp only [Act.put, List.setIfInBounds_toArray, List.set_cons_zero, List.set_cons_succ]
        refine wpAnyH_takeI (i := 13) (v := .int .i64 (s : Int)) rfl (by kernel_rfl) (by kernel_rfl) (by kernel_rfl) (fun _ _ _ h => h) (yieldsIf_run rfl (fun w' hw' => ?y36)) hS0 ?_
        case y36 => (have q1 := (HCE.out w' hw').1; clear hw'; first | (go_simp; rfl) | (go_simp; done))
        simp only [Act.put, List.setIfInBounds_toArray, List.set_cons_zero, List.set_cons_succ]
        have hS := hS0
        clear hS0
        refine wpAnyH_two (i := 0) (j := 7) (by kernel_rfl) rfl rfl rfl rfl (fun K hK => ?_) (fun K hK => ?_)
        · go_simp
          obtain ⟨wen, hwn⟩ : ∃ wen, we.alloc (.cells #[] 43) = wen := ⟨_, rfl⟩
          have hb : Below we.heap.size we wen := hwn ▸ (Below.refl _ _).alloc (Nat.le_refl _) _
          have hE : OwnL rowE wen W1.heap.size (Value.slice (some ⟨we.heap.size, 0, none⟩) 0 0) [] := hwn ▸ ownL_zero rowE hS.size
          rw [hwn]
          clear hwn
          replace hS := hS.trans (hb.mono hS.size)
          clear hb
          refine hK _ _ hS ?_
          clear hK K
          try simp only [Act.put, List.setIfInBounds_toArray, List.set_cons_zero, List.set_cons_succ]
          refine wpAnyH_two (i := 2) (j := 7) (by kernel_rfl) rfl rfl rfl rfl (fun K hK => ?_) (fun K hK => ?_)
          · refine wp_appL rowE (.tmp 170) (.tmp 171) rfl rfl hE rfl (HTK.out.below hS) (n := 0) (m := i) rfl HRL.out (by omega) hS.size ?_
            intro a4 c4 wenn ho9 hgr hat
            have hb := hE.grown_below hgr hS.size
            rw [Nat.zero_add] at ho9 hat ⊢
            rw [List.nil_append] at ho9
            clear hE hgr hat
            have hE := ho9
            clear ho9
            replace hS := hS.trans hb
            clear hb
            refine hK _ _ hS ?_
            clear hK K
            try simp only [Act.put, List.setIfInBounds_toArray, List.set_cons_zero, List.set_cons_succ]
            refine wpAnyH_do (i := 7) (by kernel_rfl) rfl rfl (fun K hK => ?_)
            refine wp_lit1 23 43 (.tmp 176) rfl (M[k].cells).toArray rfl Try.underlying23 HSZ.out (by kernel_rfl) (by rw [HCS.out]; decide) (by rw [HCS.out]; decide) ?_
            obtain ⟨wennn, hwn⟩ : ∃ wennn, wenn.alloc (.cells (M[k].cells).toArray 43) = wennn := ⟨_, rfl⟩
            have hb : Below wenn.heap.size wenn wennn := hwn ▸ one_below rowE wenn M[k]
            have hL : wennn.heap[wenn.heap.size]? = some (.cells (M[k].cells).toArray 43 (0, 0)) := by rw [← hwn]; exact heap_alloc_new _ _
            rw [hwn]
            have hD0 : ∀ x, (Value.slice a4 (i) c4).ownBlock = some x → wenn.heap.size ≠ x := fun x hx e => by have h1 := (hE.lt hx).2; omega
            replace hE := hE.below hb
            obtain ⟨b6, hb6⟩ : ∃ b6, wenn.heap.size = b6 := ⟨_, rfl⟩
            rw [hb6] at hL ⊢
            have hD : ∀ x, (Value.slice a4 (i) c4).ownBlock = some x → b6 ≠ x := fun x hx => hb6 ▸ hD0 x hx
            clear hD0
            replace hS := hS.trans (hb.mono hS.size)
            clear hb hwn hb6
            refine hK _ _ hS ?_
            clear hK K
            try simp only [Act.put, List.setIfInBounds_toArray, List.set_cons_zero, List.set_cons_succ]
            refine wpAnyH_do (i := 8) (by kernel_rfl) rfl rfl (fun K hK => ?_)
            refine wp_appL rowE (.tmp 172) (.tmp 177) rfl rfl hE rfl (list_block1 rowE hL) (n := i) (m := 1) HRL.out rfl (by omega) hS.size ?_
            intro a7 c7 wennnn ho9 hgr hat
            have hb := hE.grown_below hgr hS.size
            clear hE hgr hat
            have hE := ho9
            clear ho9
            replace hS := hS.trans hb
            clear hb
            clear hL hD
            refine hK _ _ hS ?_
            clear hK K
            try simp only [Act.put, List.setIfInBounds_toArray, List.set_cons_zero, List.set_cons_succ]
            have hse : OwnL rowE wennnn W1.heap.size (.slice a7 (i + 1) c7) (R ++ [M[k]]) := hE
            obtain ⟨sg, so, es, hsg, hsr⟩ := hse.at_.get hs
            subst es
            rw [HR9.out] at hsr
            have hsc := (row_mid (show wennnn.rangeAt sg (so + s * 83) r9.cells from hsr)).2.2
            rw [HRV.out] at hsc
            have hSc : Below wennnn.heap.size wennnn wennnn := Below.refl _ _
            refine wpAnyH_monoS (S' := Below wennnn.heap.size wennnn) (fun x hx => hS.trans (hx.mono hS.size)) _ _ _ _ ?_
            have HSC := Lib.hid (show ∀ w', Below wennnn.heap.size wennnn w' → w'.cell? ⟨sg, so + s * 83 + 50, none⟩ = some (.slice ra K rc) from fun w' hw' => (hw'.cell (p := ⟨sg, so + s * 83 + 50, none⟩) hsg).trans hsc)
            clear hsc hsr hse
            refine wpAnyH_takeI (i := 14) (v := ?v37) rfl (by kernel_rfl) (by kernel_rfl) (by kernel_rfl) (fun _ _ _ h => h) (yieldsIf_run rfl (fun w' hw' => ?y37)) hSc ?_
            case y37 => first | (go_simp; rfl) | (go_simp; done) | rfl
            simp only [Act.put, List.setIfInBounds_toArray, List.set_cons_zero, List.set_cons_succ]
            refine wpAnyH_takeI (i := 15) (v := ?v38) rfl (by kernel_rfl) (by kernel_rfl) (by kernel_rfl) (fun _ _ _ h => h) (yieldsIf_run rfl (fun w' hw' => ?y38)) hSc ?_
            case y38 => first | (go_simp; rfl) | (go_simp; done) | rfl
            simp only [Act.put, List.setIfInBounds_toArray, List.set_cons_zero, List.set_cons_succ]
            refine wpAnyH_takeI (i := 16) (v := .slice ra K rc) rfl (by kernel_rfl) (by kernel_rfl) (by kernel_rfl) (fun _ _ _ h => h) (yieldsIf_run rfl (fun w' hw' => ?y39)) hSc ?_
            case y39 => (have q1 := HSC.out w' hw'; clear hw'; first | (go_simp; rfl) | (go_simp; done))
            simp only [Act.put, List.setIfInBounds_toArray, List.set_cons_zero, List.set_cons_succ]
            refine wpAnyH_takeI (i := 17) (v := ?v40) rfl (by kernel_rfl) (by kernel_rfl) (by kernel_rfl) (fun _ _ _ h => h) (yieldsIf_run rfl (fun w' hw' => ?y40)) hSc ?_
            case y40 => first | (go_simp; rfl) | (go_simp; done) | rfl
            simp only [Act.put, List.setIfInBounds_toArray, List.set_cons_zero, List.set_cons_succ]
            refine wpAnyH_done (by kernel_rfl) ?_ _
            refine NoPanic.normal ?_
            have HBZ := Lib.hid hS
            clear hE hS hSc
            go_wp2_with fail
            go_meet
            case rel => exact ⟨rfl, HBZ⟩
          · refine wp_lit1 23 43 (.tmp 176) rfl (M[k].cells).toArray rfl Try.underlying23 HSZ.out (by kernel_rfl) (by rw [HCS.out]; decide) (by rw [HCS.out]; decide) ?_
            obtain ⟨wenn, hwn⟩ : ∃ wenn, wen.alloc (.cells (M[k].cells).toArray 43) = wenn := ⟨_, rfl⟩
            have hb : Below wen.heap.size wen wenn := hwn ▸ one_below rowE wen M[k]
            have hL : wenn.heap[wen.heap.size]? = some (.cells (M[k].cells).toArray 43 (0, 0)) := by rw [← hwn]; exact heap_alloc_new _ _
            rw [hwn]
            have hD0 : ∀ x, (Value.slice (some ⟨we.heap.size, 0, none⟩) 0 0).ownBlock = some x → wen.heap.size ≠ x := fun x hx e => by have h1 := (hE.lt hx).2; omega
            replace hE := hE.below hb
            obtain ⟨b6, hb6⟩ : ∃ b6, wen.heap.size = b6 := ⟨_, rfl⟩
            rw [hb6] at hL ⊢
            have hD : ∀ x, (Value.slice (some ⟨we.heap.size, 0, none⟩) 0 0).ownBlock = some x → b6 ≠ x := fun x hx => hb6 ▸ hD0 x hx
            clear hD0
            replace hS := hS.trans (hb.mono hS.size)
            clear hb hwn hb6
            refine hK _ _ hS ?_
            clear hK K
            try simp only [Act.put, List.setIfInBounds_toArray, List.set_cons_zero, List.set_cons_succ]
            refine wpAnyH_do (i := 2) (by kernel_rfl) rfl rfl (fun K hK => ?_)
            refine wp_appL rowE (.tmp 170) (.tmp 171) rfl rfl hE rfl (HTK.out.below hS) (n := 0) (m := i) rfl HRL.out (by omega) hS.size ?_
            intro a4 c4 wennn ho9 hgr hat
            have hb := hE.grown_below hgr hS.size
            rw [Nat.zero_add] at ho9 hat ⊢
            rw [List.nil_append] at ho9
            have hlb := (Array.getElem?_eq_some_iff.1 hL).1
            replace hL := (hgr.block b6 hlb (fun e => hD _ e.symm rfl)).trans hL
            replace hD : ∀ x, (Value.slice a4 (i) c4).ownBlock = some x → b6 ≠ x := fun x hx e => (hat x hx).elim (fun h => hD x h e) (fun h => by omega)
            clear hlb
            clear hE hgr hat
            have hE := ho9
            clear ho9
            replace hS := hS.trans hb
            clear hb
            refine hK _ _ hS ?_
            clear hK K
            try simp only [Act.put, List.setIfInBounds_toArray, List.set_cons_zero, List.set_cons_succ]
            refine wpAnyH_do (i := 8) (by kernel_rfl) rfl rfl (fun K hK => ?_)
            refine wp_appL rowE (.tmp 172) (.tmp 177) rfl rfl hE rfl (list_block1 rowE hL) (n := i) (m := 1) HRL.out rfl (by omega) hS.size ?_
            intro a7 c7 wennnn ho9 hgr hat
            have hb := hE.grown_below hgr hS.size
            clear hE hgr hat
            have hE := ho9
            clear ho9
            replace hS := hS.trans hb
            clear hb
            clear hL hD
            refine hK _ _ hS ?_
            clear hK K
            try simp only [Act.put, List.setIfInBounds_toArray, List.set_cons_zero, List.set_cons_succ]
            have hse : OwnL rowE wennnn W1.heap.size (.slice a7 (i + 1) c7) (R ++ [M[k]]) := hE
            obtain ⟨sg, so, es, hsg, hsr⟩ := hse.at_.get hs
            subst es
            rw [HR9.out] at hsr
            have hsc := (row_mid (show wennnn.rangeAt sg (so + s * 83) r9.cells from hsr)).2.2
            rw [HRV.out] at hsc
            have hSc : Below wennnn.heap.size wennnn wennnn := Below.refl _ _
            refine wpAnyH_monoS (S' := Below wennnn.heap.size wennnn) (fun x hx => hS.trans (hx.mono hS.size)) _ _ _ _ ?_
            have HSC := Lib.hid (show ∀ w', Below wennnn.heap.size wennnn w' → w'.cell? ⟨sg, so + s * 83 + 50, none⟩ = some (.slice ra K rc) from fun w' hw' => (hw'.cell (p := ⟨sg, so + s * 83 + 50, none⟩) hsg).trans hsc)
            clear hsc hsr hse
            refine wpAnyH_takeI (i := 14) (v := ?v41) rfl (by kernel_rfl) (by kernel_rfl) (by kernel_rfl) (fun _ _ _ h => h) (yieldsIf_run rfl (fun w' hw' => ?y41)) hSc ?_
            case y41 => first | (go_simp; rfl) | (go_simp; done) | rfl
            simp only [Act.put, List.setIfInBounds_toArray, List.set_cons_zero, List.set_cons_succ]
            refine wpAnyH_takeI (i := 15) (v := ?v42) rfl (by kernel_rfl) (by kernel_rfl) (by kernel_rfl) (fun _ _ _ h => h) (yieldsIf_run rfl (fun w' hw' => ?y42)) hSc ?_
            case y42 => first | (go_simp; rfl) | (go_simp; done) | rfl
            simp only [Act.put, List.setIfInBounds_toArray, List.set_cons_zero, List.set_cons_succ]
            refine wpAnyH_takeI (i := 16) (v := .slice ra K rc) rfl (by kernel_rfl) (by kernel_rfl) (by kernel_rfl) (fun _ _ _ h => h) (yieldsIf_run rfl (fun w' hw' => ?y43)) hSc ?_
            case y43 => (have q1 := HSC.out w' hw'; clear hw'; first | (go_simp; rfl) | (go_simp; done))
            simp only [Act.put, List.setIfInBounds_toArray, List.set_cons_zero, List.set_cons_succ]
            refine wpAnyH_takeI (i := 17) (v := ?v44) rfl (by kernel_rfl) (by kernel_rfl) (by kernel_rfl) (fun _ _ _ h => h) (yieldsIf_run rfl (fun w' hw' => ?y44)) hSc ?_
            case y44 => first | (go_simp; rfl) | (go_simp; done) | rfl
            simp only [Act.put, List.setIfInBounds_toArray, List.set_cons_zero, List.set_cons_succ]
            refine wpAnyH_done (by kernel_rfl) ?_ _
            refine NoPanic.normal ?_
            have HBZ := Lib.hid hS
            clear hE hS hSc
            go_wp2_with fail
            go_meet
            case rel => exact ⟨rfl, HBZ⟩
        · refine wp_lit1 23 43 (.tmp 176) rfl (M[k].cells).toArray rfl Try.underlying23 HSZ.out (by kernel_rfl) (by rw [HCS.out]; decide) (by rw [HCS.out]; decide) ?_
          obtain ⟨wen, hwn⟩ : ∃ wen, we.alloc (.cells (M[k].cells).toArray 43) = wen := ⟨_, rfl⟩
          have hb : Below we.heap.size we wen := hwn ▸ one_below rowE we M[k]
          have hL : wen.heap[we.heap.size]? = some (.cells (M[k].cells).toArray 43 (0, 0)) := by rw [← hwn]; exact heap_alloc_new _ _
          rw [hwn]
          obtain ⟨b6, hb6⟩ : ∃ b6, we.heap.size = b6 := ⟨_, rfl⟩
          rw [hb6] at hL ⊢
          replace hS := hS.trans (hb.mono hS.size)
          clear hb hwn hb6
          refine hK _ _ hS ?_
          clear hK K
          try simp only [Act.put, List.setIfInBounds_toArray, List.set_cons_zero, List.set_cons_succ]
          refine wpAnyH_do (i := 0) (by kernel_rfl) rfl rfl (fun K hK => ?_)
          go_simp
          obtain ⟨wenn, hwn⟩ : ∃ wenn, wen.alloc (.cells #[] 43) = wenn := ⟨_, rfl⟩
          have hb : Below wen.heap.size wen wenn := hwn ▸ (Below.refl _ _).alloc (Nat.le_refl _) _
          have hE : OwnL rowE wenn W1.heap.size (Value.slice (some ⟨wen.heap.size, 0, none⟩) 0 0) [] := hwn ▸ ownL_zero rowE hS.size
          rw [hwn]
          clear hwn
          have hD : ∀ x, (Value.slice (some ⟨wen.heap.size, 0, none⟩) 0 0).ownBlock = some x → b6 ≠ x := fun x hx e => by have h1 := (Array.getElem?_eq_some_iff.1 hL).1; have e2 : wen.heap.size = x := Option.some.inj hx; omega
          replace hL := (hb.block _ (Array.getElem?_eq_some_iff.1 hL).1).trans hL
          replace hS := hS.trans (hb.mono hS.size)
          clear hb
          refine hK _ _ hS ?_
          clear hK K
          try simp only [Act.put, List.setIfInBounds_toArray, List.set_cons_zero, List.set_cons_succ]
          refine wpAnyH_do (i := 2) (by kernel_rfl) rfl rfl (fun K hK => ?_)
          refine wp_appL rowE (.tmp 170) (.tmp 171) rfl rfl hE rfl (HTK.out.below hS) (n := 0) (m := i) rfl HRL.out (by omega) hS.size ?_
          intro a4 c4 wennn ho9 hgr hat
          have hb := hE.grown_below hgr hS.size
          rw [Nat.zero_add] at ho9 hat ⊢
          rw [List.nil_append] at ho9
          have hlb := (Array.getElem?_eq_some_iff.1 hL).1
          replace hL := (hgr.block b6 hlb (fun e => hD _ e.symm rfl)).trans hL
          replace hD : ∀ x, (Value.slice a4 (i) c4).ownBlock = some x → b6 ≠ x := fun x hx e => (hat x hx).elim (fun h => hD x h e) (fun h => by omega)
          clear hlb
          clear hE hgr hat
          have hE := ho9
          clear ho9
          replace hS := hS.trans hb
          clear hb
          refine hK _ _ hS ?_
          clear hK K
          try simp only [Act.put, List.setIfInBounds_toArray, List.set_cons_zero, List.set_cons_succ]
          refine wpAnyH_do (i := 8) (by kernel_rfl) rfl rfl (fun K hK => ?_)
          refine wp_appL rowE (.tmp 172) (.tmp 177) rfl rfl hE rfl (list_block1 rowE hL) (n := i) (m := 1) HRL.out rfl (by omega) hS.size ?_
          intro a7 c7 wennnn ho9 hgr hat
          have hb := hE.grown_below hgr hS.size
          clear hE hgr hat
          have hE := ho9
          clear ho9
          replace hS := hS.trans hb
          clear hb
          clear hL hD
          refine hK _ _ hS ?_
          clear hK K
          try simp only [Act.put, List.setIfInBounds_toArray, List.set_cons_zero, List.set_cons_succ]
          have hse : OwnL rowE wennnn W1.heap.size (.slice a7 (i + 1) c7) (R ++ [M[k]]) := hE
          obtain ⟨sg, so, es, hsg, hsr⟩ := hse.at_.get hs
          subst es
          rw [HR9.out] at hsr
          have hsc := (row_mid (show wennnn.rangeAt sg (so + s * 83) r9.cells from hsr)).2.2
          rw [HRV.out] at hsc
          have hSc : Below wennnn.heap.size wennnn wennnn := Below.refl _ _
          refine wpAnyH_monoS (S' := Below wennnn.heap.size wennnn) (fun x hx => hS.trans (hx.mono hS.size)) _ _ _ _ ?_
          have HSC := Lib.hid (show ∀ w', Below wennnn.heap.size wennnn w' → w'.cell? ⟨sg, so + s * 83 + 50, none⟩ = some (.slice ra K rc) from fun w' hw' => (hw'.cell (p := ⟨sg, so + s * 83 + 50, none⟩) hsg).trans hsc)
          clear hsc hsr hse
          refine wpAnyH_takeI (i := 14) (v := ?v45) rfl (by kernel_rfl) (by kernel_rfl) (by kernel_rfl) (fun _ _ _ h => h) (yieldsIf_run rfl (fun w' hw' => ?y45)) hSc ?_
          case y45 => first | (go_simp; rfl) | (go_simp; done) | rfl
          simp only [Act.put, List.setIfInBounds_toArray, List.set_cons_zero, List.set_cons_succ]
          refine wpAnyH_takeI (i := 15) (v := ?v46) rfl (by kernel_rfl) (by kernel_rfl) (by kernel_rfl) (fun _ _ _ h => h) (yieldsIf_run rfl (fun w' hw' => ?y46)) hSc ?_
          case y46 => first | (go_simp; rfl) | (go_simp; done) | rfl
          simp only [Act.put, List.setIfInBounds_toArray, List.set_cons_zero, List.set_cons_succ]
          refine wpAnyH_takeI (i := 16) (v := .slice ra K rc) rfl (by kernel_rfl) (by kernel_rfl) (by kernel_rfl) (fun _ _ _ h => h) (yieldsIf_run rfl (fun w' hw' => ?y47)) hSc ?_
          case y47 => (have q1 := HSC.out w' hw'; clear hw'; first | (go_simp; rfl) | (go_simp; done))
          simp only [Act.put, List.setIfInBounds_toArray, List.set_cons_zero, List.set_cons_succ]
          refine wpAnyH_takeI (i := 17) (v := ?v48) rfl (by kernel_rfl) (by kernel_rfl) (by kernel_rfl) (fun _ _ _ h => h) (yieldsIf_run rfl (fun w' hw' => ?y48)) hSc ?_
          case y48 => first | (go_simp; rfl) | (go_simp; done) | rfl
          simp only [Act.put, List.setIfInBounds_toArray, List.set_cons_zero, List.set_cons_succ]
          refine wpAnyH_done (by kernel_rfl) ?_ _
          refine NoPanic.normal ?_
          have HBZ := Lib.hid hS
          clear hE hS hSc
          go_wp2_with fail
          go_meet
          case rel => exact ⟨rfl, HBZ⟩
      case rest =>
      obtain ⟨rfl, hbz⟩ := hcut
      obtain ⟨W2, rfl⟩ : ∃ W2, W2 = wc := ⟨_, rfl⟩
      have HBZ := hbz
      clear hbz
      have HB8 := Lib.hid (HB7.out.trans (HBZ.out.mono HB7.out.size))
      have HBX2 := Lib.hid (HBX.out.trans (HBZ.out.mono HBX.out.size))
      have HRO2 := Lib.hid (HRO9.out W2 HBX2.out)
      cases K with
      | zero =>
        go_wp2_with fail
        refine wp_region_seq 25 (by kernel_rfl) (by kernel_rfl) ?_
        simp only [List.take_succ_cons, List.take_zero, List.drop_succ_cons, List.drop_zero]
        obtain ⟨wd, hwd⟩ : ∃ wd, W2.drew = wd := ⟨_, rfl⟩
        have hd_wd : Below W2.heap.size W2 wd ∧ wd.heap.size = W2.heap.size := hwd ▸ ⟨(Below.refl _ _).drew, rfl⟩
        rw [hwd]
        clear hwd
        have HBd := Lib.hid (HB8.out.trans (hd_wd.1.mono HB8.out.size))
        clear hd_wd
        go_wp2_with fail
        refine HeadPost.mk ?_
        go_wp2_with fail
        go_roundw
        case rel => exact ⟨q + 1, by omega, by go_num, HBd⟩
        case measure => simp [intOf] <;> omega
      | succ K =>
        have hKR : K < r9.refs.length := by rw [HKE.out]; exact Nat.lt_succ_self _
        obtain ⟨zg, zo, ez, hzg, hzr⟩ := HRO2.out.get hKR
        subst ez
        obtain ⟨z, hz⟩ : ∃ z, r9.refs[K] = z := ⟨_, rfl⟩
        rw [hz] at hzr
        have HZR := Lib.hid (show ∀ w', Below W2.heap.size W2 w' → w'.rangeAt zg (zo + K * 32) (bvs z.1) from fun w' hw' => range_below hzr hzg hw')
        have HLZ := Lib.hid (show r9.refs.getLast? = some z by rw [getLast_snoc HKE.out, hz])
        clear hzr hzg hz
        go_wp2_with fail
        refine wp_region_seq 25 (by kernel_rfl) (by kernel_rfl) ?_
        simp only [List.take_succ_cons, List.take_zero, List.drop_succ_cons, List.drop_zero]
        obtain ⟨wd, hwd⟩ : ∃ wd, W2.drew = wd := ⟨_, rfl⟩
        have hd_wd : Below W2.heap.size W2 wd ∧ wd.heap.size = W2.heap.size := hwd ▸ ⟨(Below.refl _ _).drew, rfl⟩
        rw [hwd]
        clear hwd
        have HBd := Lib.hid (HB8.out.trans (hd_wd.1.mono HB8.out.size))
        have HZd := Lib.hid (HZR.out wd hd_wd.1)
        have HYd := Lib.hid (HMR.out wd (HBX2.out.trans (hd_wd.1.mono HBX2.out.size))).2.2.2
        have c1 := (HCE.out wd (HBZ.out.trans (hd_wd.1.mono HBZ.out.size))).2
        clear hd_wd
        go_wp2_with (refine wpList_met rfl ?_; with_reducible refine wpList_load_mid rfl 35 (.tmp 195) rfl zg (zo + K * 32) rfl (bvs z.1) _ HZd.out Try.underlying35 rfl (sizeId z) ?_; refine Stop.on ?_)
        refine Stop.go ?_
        try simp only [Act.put, List.setIfInBounds_toArray, List.set_cons_zero, List.set_cons_succ]
        go_wp2_with (refine wpList_met rfl ?_; with_reducible refine wpList_load_mid rfl 35 (.tmp 200) rfl mg (mo + k * 83) rfl (bvs y.1) _ HYd.out Try.underlying35 rfl (sizeId y) ?_; refine Stop.on ?_)
        refine Stop.go ?_
        try simp only [Act.put, List.setIfInBounds_toArray, List.set_cons_zero, List.set_cons_succ]
        refine wpList_met rfl ?_
        refine wpList_runI rfl (some 202) rfl (.bool (decide (z = y))) _ (op_eql 35 (.tmp 196) (.tmp 201) 35 rfl rfl rfl guard_Id (eql_Id z y _)) ?_
        try simp only [Act.put, List.setIfInBounds_toArray, List.set_cons_zero, List.set_cons_succ]
        by_cases hzy : z = y
        case neg =>
          rw [decide_eq_false hzy]
          clear hzy
          go_wp2_with fail
          refine HeadPost.mk ?_
          go_wp2_with fail
          go_roundw
          case rel => exact ⟨q + 1, by omega, by go_num, HBd⟩
          case measure => simp [intOf] <;> omega
        rw [decide_eq_true hzy]
        have hpj : p1 = (j : Int) := by
          rw [← HP1.out]
          exact below_hole HGG.out HSND.out HCP.out HJ.out HJY.out hqG hs HSID.out.symm (by rw [HR9.out, HLZ.out, hzy])
        subst hpj
        have hjj : ((j : Int) != (j : Int)) = false := by simp
        clear hzy
        go_wp2_with fail
        refine HeadPost.mk ?_
        go_wp2_with fail
        go_roundw
        case rel => exact ⟨q + 1, by omega, by go_num, HBd⟩
        case measure => simp [intOf] <;> omega
end Go.Proofs.Ythfinofmbnfijaa
