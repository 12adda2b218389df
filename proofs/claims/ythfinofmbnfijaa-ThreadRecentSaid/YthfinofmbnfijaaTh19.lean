/- ThreadOrder. -/
import Derived.Test.YthfinofmbnfijaaTh18
import Derived.Test.YthfinofmbnfijaaTp8
namespace Go.Proofs.Ythfinofmbnfijaa
open Go.Shelf Go.RowKit Go.Lib Go.Sort
set_option linter.unusedVariables false
set_option linter.unusedSimpArgs false

theorem rowStep_nodup (L : List RawV) : ∀ acc : List Tw, (acc.map (·.id)).Nodup → ((L.foldl rowStep acc).map (·.id)).Nodup := by
  induction L with
  | nil => intro acc h; exact h
  | cons R L ih =>
    intro acc h
    refine ih _ ?_
    unfold rowStep
    split
    · exact h
    · rename_i hn
      rw [List.map_append, List.nodup_append]
      refine ⟨h, by simp, fun a ha b hb e => hn ?_⟩
      rw [List.map_singleton, List.mem_singleton] at hb
      obtain ⟨t, ht, rfl⟩ := List.mem_map.1 ha
      rw [List.any_eq_true]
      exact ⟨t, ht, decide_eq_true (e.trans hb)⟩
theorem rowsT_nodup (L : List RawV) : ((rowsT L).map (·.id)).Nodup := rowStep_nodup _ [] List.nodup_nil
/-- What is known of the rows. -/
theorem rows_facts {M : List RowV} {L : List RawV} (h : M.map RowV.tw = rowsT L) : M.length ≤ 14 ∧ (M.map (·.id)).Nodup := by
  refine ⟨?_, ?_⟩
  · have h1 := congrArg List.length h
    rw [List.length_map] at h1
    have := rowsT_len L
    omega
  · have h1 := rowsT_nodup L
    rw [← h, List.map_map] at h1
    exact h1
theorem exec_rem {o : Oper} {w : World} {ρ : Operand → Value} (a b : Nat) (hb : 0 < b) (x y : Operand) (ho : o.op = .binOp .rem 3 x y 3) (hx : ρ x = .int .i64 (a : Int)) (hy : ρ y = .int .i64 (b : Int)) : (execOp ρ o).run Try.prog w = .ok (.value (.int .i64 ((a % b : Nat) : Int))) w := by
  have h1 : ¬ ((b : Int) = 0) := by omega
  have h2 : (a : Int).tmod (b : Int) = ((a % b : Nat) : Int) := rfl
  have h3 : (binOp .rem 3 (.int .i64 (a : Int)) (.int .i64 (b : Int))).run Try.prog w = .ok (.int .i64 ((a % b : Nat) : Int)) w := by
    rw [← h2]
    simp [binOp, Op.intDiv, h1]
    try (intro e; omega)
  have h4 : (eqGuard .rem 3 x y (.int .i64 (a : Int)) (.int .i64 (b : Int))).run Try.prog w = .ok () w := by
    simp [eqGuard]
  unfold execOp
  simp only [ho, hx, hy, Sem.run_bind, h3, h4, Result.andThen_ok]
  rfl
set_option maxRecDepth 100000 in
set_option maxHeartbeats 2000000 in
theorem Order_law {w : World} (v u : Value) (L : List RawV) (T : List UInt8) (hv : RawsAt w v L) (hu : ListAt u8E w u T) : Calls Try.prog 5 #[v, u] w fun e w' => e = .returned (.bool true) ∧ Below w.heap.size w w' := by
  obtain ⟨ta, tc, rfl⟩ := hu.form
  obtain ⟨K, hK⟩ : ∃ K, T.length = K := ⟨_, rfl⟩
  obtain ⟨hz1, hK2, hK3, hz2⟩ := hu.len
  clear hz1 hz2
  rw [hK] at hu hK2 ⊢
  unfold maxLen at hK3
  have HV := Lib.hid hv
  have HU := Lib.hid hu
  have HK := Lib.hid hK
  clear hv hu hK
  go_enter Try.func5, Try.ntmps5
  go_wp2_with fail
  refine (rows_any _ L HV.out).mono ?_
  rintro e Wa ⟨xv, M, rfl, ho, ht, hb⟩
  obtain ⟨hN14, hnd⟩ := rows_facts ht
  obtain ⟨xa, xc, rfl⟩ := ho.own.form
  obtain ⟨N, hN⟩ : ∃ N, M.length = N := ⟨_, rfl⟩
  rw [hN] at ho hN14 ⊢
  have HM := Lib.hid ho
  have HN := Lib.hid hN
  have HND := Lib.hid hnd
  have HBA := Lib.hid hb
  clear ho ht hN hb hnd
  go_wp2_with fail
  refine (Build_any _ M HM.out.at_ (by rw [HN.out]; omega)).mono ?_
  rintro e Wf (⟨hno, _⟩ | ⟨_, fv, c1, rfl, hc1, hof, hb⟩)
  case inl => exact absurd HND.out hno
  obtain ⟨fa, fc, rfl⟩ := hof.form
  have HC1 := Lib.hid hc1
  have HOF := Lib.hid hof
  have HMF := Lib.hid (HM.out.below hb)
  have HBF := Lib.hid (HBA.out.trans (hb.mono HBA.out.size))
  clear hc1 hof hb HM HBA
  obtain ⟨n1, hn1⟩ : ∃ n1, (forestV M c1).length = n1 := ⟨_, rfl⟩
  rw [hn1] at HOF ⊢
  have HN1 := Lib.hid hn1
  clear hn1
  go_wp2_with (refine wpList_lit0 rowE rfl (some 22) rfl rfl ?_; refine Stop.on ?_)
  refine Stop.go ?_
  try simp only [Act.put, List.setIfInBounds_toArray, List.set_cons_zero, List.set_cons_succ]
  intro Wl ho bl
  try simp only [Act.put, List.setIfInBounds_toArray, List.set_cons_zero, List.set_cons_succ]
  have HO0 := Lib.hid ho
  have HBL := Lib.hid bl
  have HML := Lib.hid (HMF.out.below bl)
  clear ho bl
  go_wp2_with (refine wpList_appL rowE rfl (.tmp 22) (.tmp 23) rfl rfl HO0.out rfl HML.out.at_.l (n := 0) (m := N) rfl HN.out (by omega) HBL.out.size ?_; refine Stop.on ?_)
  refine Stop.go ?_
  try simp only [Act.put, List.setIfInBounds_toArray, List.set_cons_zero, List.set_cons_succ]
  intro ya yc Wy ho hg hat
  try simp only [Act.put, List.setIfInBounds_toArray, List.set_cons_zero, List.set_cons_succ]
  try rw [List.nil_append] at ho
  try rw [Nat.zero_add] at ho hat ⊢
  have HY := Lib.hid ho
  have HBY := Lib.hid (HBL.out.trans (HO0.out.grown_below hg HBL.out.size))
  clear ho hg hat HO0 HBL HML
  go_upto_block 0 with (fail)
  go_cut [9, 10, 11] from 25 to 65 (fun iv av bv wc => ∃ Y : List RowV, Hid (OwnL rowE wc Wf.heap.size (.slice ya N yc) Y) ∧ Hid (Y.Perm M) ∧ Hid (Below Wf.heap.size Wf wc))
  case first =>
    refine wp_block ?_
    go_loopw [9] (fun iv wr => ∃ (i : Nat) (Y : List RowV), i ≤ K ∧ i ≤ 40 ∧ iv = .int .i64 (i : Int) ∧ Hid (OwnL rowE wr Wf.heap.size (.slice ya N yc) Y) ∧ Hid (Y.Perm M) ∧ Hid (Below Wf.heap.size Wf wr)) (fun iv _ => 40 - (intOf iv).toNat)
    case atStart => exact ⟨0, M, Nat.zero_le _, Nat.zero_le _, rfl, HY, Lib.hid (List.Perm.refl _), HBY⟩
    case round =>
      obtain ⟨i, Y, hiK, hi40, rfl, HOY, HPY, HBY2⟩ := hrel
      obtain ⟨W0, rfl⟩ : ∃ W0, W0 = wr := ⟨_, rfl⟩
      clear HY HBY
      by_cases hlt : i < K
      case neg =>
        obtain rfl : i = K := by omega
        go_wp2_with fail
        go_meet
        case rel => exact ⟨Y, HOY, HPY, HBY2⟩
      have hltI : (i : Int) < (K : Int) := by omega
      by_cases hlt2 : i < 40
      case neg =>
        obtain rfl : i = 40 := by omega
        have hltI2 : (40 : Int) < (K : Int) := by omega
        go_wp2_with fail
        go_meet
        case rel => exact ⟨Y, HOY, HPY, HBY2⟩
      have hltI2 : (i : Int) < 40 := by omega
      by_cases hN1 : 1 < N
      case neg =>
        have hNI : ¬ ((1 : Int) < (N : Int)) := by omega
        go_wp2_with fail
        go_meet
        case rel => exact ⟨Y, HOY, HPY, HBY2⟩
      have hNI : (1 : Int) < (N : Int) := by omega
      have hN0 : 0 < N := by omega
      have hNI0 : (0 : Int) < (N : Int) := by omega
      have hNe : ¬ ((N : Int) = 0) := by omega
      have hiT : i < T.length := by rw [HK.out]; exact hlt
      obtain ⟨tg, to_, et, htg, htr⟩ := HU.out.get hiT
      subst et
      obtain ⟨tn, htn⟩ : ∃ tn, T[i].toNat = tn := ⟨_, rfl⟩
      have htlt : tn < 256 := htn ▸ T[i].toNat_lt
      have HBW := Lib.hid (HBF.out.trans (HBY2.out.mono HBF.out.size))
      have HTR := Lib.hid (show ∀ w', Below W0.heap.size W0 w' → w'.cell? ⟨tg, to_ + i, none⟩ = some (.int .u8 (tn : Int)) from fun w' hw' => by
        have h1 := range_below htr htg (HBW.out.trans (hw'.mono HBW.out.size)) 0 _ rfl
        rw [Nat.add_zero, show i * u8E.k = i from Nat.mul_one i, htn] at h1
        exact h1)
      obtain ⟨ka, hka⟩ : ∃ ka, i % N = ka := ⟨_, rfl⟩
      have hkaN : ka < N := hka ▸ Nat.mod_lt _ hN0
      have hmA : (i : Int) % (N : Int) = (ka : Int) := by rw [← hka]; exact (Int.natCast_emod _ _).symm
      obtain ⟨kb, hkb⟩ : ∃ kb, tn % N = kb := ⟨_, rfl⟩
      have hkbN : kb < N := hkb ▸ Nat.mod_lt _ hN0
      have hmB : (tn : Int) % (N : Int) = (kb : Int) := by rw [← hkb]; exact (Int.natCast_emod _ _).symm
      have hkaI : (ka : Int) < (N : Int) := by omega
      have hkbI : (kb : Int) < (N : Int) := by omega
      have hYL : Y.length = N := by rw [HPY.out.length_eq, HN.out]
      have HKA := Lib.hid hka
      have HKB := Lib.hid hkb
      clear hka hkb htr htg htn
      go_wp2_with fail
      refine wp_region_noPanic ?_
      refine wp_region_H (Below W0.heap.size W0) (by kernel_rfl) ?_
      have hS0 : (Below W0.heap.size W0) W0.drew := (Below.refl _ _).drew
      obtain ⟨wd, hwd⟩ : ∃ wd, W0.drew = wd := ⟨_, rfl⟩
      rw [hwd] at hS0 ⊢
      clear hwd
      refine wpAnyH_takeI (i := 0) (v := ?v1) rfl (by kernel_rfl) (by kernel_rfl) (by kernel_rfl) (fun _ _ _ h => h) (yieldsIf_run rfl (fun w' hw' => ?y1)) hS0 ?_
      case y1 => first | (go_simp; rfl) | (go_simp; done) | rfl
      simp only [Act.put, List.setIfInBounds_toArray, List.set_cons_zero, List.set_cons_succ]
      refine wpAnyH_takeI (i := 1) (v := ?v2) rfl (by kernel_rfl) (by kernel_rfl) (by kernel_rfl) (fun _ _ _ h => h) (yieldsIf_run rfl (fun w' hw' => ?y2)) hS0 ?_
      case y2 => first | (go_simp; rfl) | (go_simp; done) | rfl
      simp only [Act.put, List.setIfInBounds_toArray, List.set_cons_zero, List.set_cons_succ]
      refine wpAnyH_takeI (i := 2) (v := ?v3) rfl (by kernel_rfl) (by kernel_rfl) (by kernel_rfl) (fun _ _ _ h => h) (yieldsIf_run rfl (fun w' hw' => ?y3)) hS0 ?_
      case y3 => first | (go_simp; rfl) | (go_simp; done) | rfl
      simp only [Act.put, List.setIfInBounds_toArray, List.set_cons_zero, List.set_cons_succ]
      refine wpAnyH_takeI (i := 3) (v := .int .i64 (ka : Int)) rfl (by kernel_rfl) (by kernel_rfl) (by kernel_rfl) (fun _ _ _ h => h) (yieldsIf_run rfl (fun w' hw' => HKA.out ▸ exec_rem i N hN0 (.tmp 40) (.tmp 42) rfl rfl rfl)) hS0 ?_
      simp only [Act.put, List.setIfInBounds_toArray, List.set_cons_zero, List.set_cons_succ]
      refine wpAnyH_takeI (i := 4) (v := ?v4) rfl (by kernel_rfl) (by kernel_rfl) (by kernel_rfl) (fun _ _ _ h => h) (yieldsIf_run rfl (fun w' hw' => ?y4)) hS0 ?_
      case y4 => first | (go_simp; rfl) | (go_simp; done) | rfl
      simp only [Act.put, List.setIfInBounds_toArray, List.set_cons_zero, List.set_cons_succ]
      refine wpAnyH_takeI (i := 5) (v := ?v5) rfl (by kernel_rfl) (by kernel_rfl) (by kernel_rfl) (fun _ _ _ h => h) (yieldsIf_run rfl (fun w' hw' => ?y5)) hS0 ?_
      case y5 => first | (go_simp; rfl) | (go_simp; done) | rfl
      simp only [Act.put, List.setIfInBounds_toArray, List.set_cons_zero, List.set_cons_succ]
      refine wpAnyH_takeI (i := 6) (v := ?v6) rfl (by kernel_rfl) (by kernel_rfl) (by kernel_rfl) (fun _ _ _ h => h) (yieldsIf_run rfl (fun w' hw' => ?y6)) hS0 ?_
      case y6 => first | (go_simp; rfl) | (go_simp; done) | rfl
      simp only [Act.put, List.setIfInBounds_toArray, List.set_cons_zero, List.set_cons_succ]
      refine wpAnyH_takeI (i := 7) (v := .int .u8 (tn : Int)) rfl (by kernel_rfl) (by kernel_rfl) (by kernel_rfl) (fun _ _ _ h => h) (yieldsIf_run rfl (fun w' hw' => ?y7)) hS0 ?_
      case y7 => (have q1 := HTR.out w' hw'; clear hw'; first | (go_simp; rfl) | (go_simp; done))
      simp only [Act.put, List.setIfInBounds_toArray, List.set_cons_zero, List.set_cons_succ]
      refine wpAnyH_takeI (i := 8) (v := .int .i64 (tn : Int)) rfl (by kernel_rfl) (by kernel_rfl) (by kernel_rfl) (fun _ _ _ h => h) (yieldsIf_run rfl (fun w' hw' => exec_conv tn htlt (.tmp 47) rfl rfl)) hS0 ?_
      simp only [Act.put, List.setIfInBounds_toArray, List.set_cons_zero, List.set_cons_succ]
      refine wpAnyH_takeI (i := 9) (v := ?v8) rfl (by kernel_rfl) (by kernel_rfl) (by kernel_rfl) (fun _ _ _ h => h) (yieldsIf_run rfl (fun w' hw' => ?y8)) hS0 ?_
      case y8 => first | (go_simp; rfl) | (go_simp; done) | rfl
      simp only [Act.put, List.setIfInBounds_toArray, List.set_cons_zero, List.set_cons_succ]
      refine wpAnyH_takeI (i := 10) (v := ?v9) rfl (by kernel_rfl) (by kernel_rfl) (by kernel_rfl) (fun _ _ _ h => h) (yieldsIf_run rfl (fun w' hw' => ?y9)) hS0 ?_
      case y9 => first | (go_simp; rfl) | (go_simp; done) | rfl
      simp only [Act.put, List.setIfInBounds_toArray, List.set_cons_zero, List.set_cons_succ]
      refine wpAnyH_takeI (i := 11) (v := .int .i64 (kb : Int)) rfl (by kernel_rfl) (by kernel_rfl) (by kernel_rfl) (fun _ _ _ h => h) (yieldsIf_run rfl (fun w' hw' => HKB.out ▸ exec_rem tn N hN0 (.tmp 48) (.tmp 50) rfl rfl rfl)) hS0 ?_
      simp only [Act.put, List.setIfInBounds_toArray, List.set_cons_zero, List.set_cons_succ]
      refine wpAnyH_takeI (i := 12) (v := ?v10) rfl (by kernel_rfl) (by kernel_rfl) (by kernel_rfl) (fun _ _ _ h => h) (yieldsIf_run rfl (fun w' hw' => ?y10)) hS0 ?_
      case y10 => first | (go_simp; rfl) | (go_simp; done) | rfl
      simp only [Act.put, List.setIfInBounds_toArray, List.set_cons_zero, List.set_cons_succ]
      refine wpAnyH_takeI (i := 13) (v := ?v11) rfl (by kernel_rfl) (by kernel_rfl) (by kernel_rfl) (fun _ _ _ h => h) (yieldsIf_run rfl (fun w' hw' => ?y11)) hS0 ?_
      case y11 => first | (go_simp; rfl) | (go_simp; done) | rfl
      simp only [Act.put, List.setIfInBounds_toArray, List.set_cons_zero, List.set_cons_succ]
      refine wpAnyH_done (by kernel_rfl) ?_ _
      refine NoPanic.normal ?_
      have HOd := Lib.hid (HOY.out.below hS0)
      have HBd := Lib.hid (HBY2.out.trans (hS0.mono HBY2.out.size))
      clear hS0
      go_wp2_with fail
      have hyl := HOd.out.at_
      obtain ⟨yg, yo, eya, hyg, hya⟩ := hyl.get (i := ka) (by omega)
      obtain ⟨yg2, yo2, eya2, hyg2, hyb⟩ := hyl.get (i := kb) (by omega)
      subst eya
      cases eya2
      obtain rfl : yo = 0 := by
        have h1 := HOd.out
        rcases h1.2 with ⟨e, _⟩ | ⟨_, _, _, e, _⟩
        · cases e
        · cases e; rfl
      obtain ⟨ra, hra⟩ : ∃ r, Y[ka] = r := ⟨_, rfl⟩
      obtain ⟨rb, hrb⟩ : ∃ r, Y[kb] = r := ⟨_, rfl⟩
      rw [hra] at hya
      rw [hrb] at hyb
      have HYG := Lib.hid (HOd.out.lt (k := yg) rfl)
      have HLA := Lib.hid (show ∀ w', Below wd.heap.size wd w' → w'.rangeAt yg (ka * 83) ra.cells from fun w' hw' => by
        have h1 := range_below hya hyg hw'
        rw [Nat.zero_add] at h1
        exact h1)
      have HLB := Lib.hid (show ∀ w', Below wd.heap.size wd w' → w'.rangeAt yg (kb * 83) rb.cells from fun w' hw' => by
        have h1 := range_below hyb hyg hw'
        rw [Nat.zero_add] at h1
        exact h1)
      have HRA := Lib.hid hra
      have HRB := Lib.hid hrb
      clear hyl hya hyb hyg hra hrb
      refine wp_region_noPanic ?_
      refine wp_region_G [13, 15] (Below wd.heap.size wd) (by kernel_rfl) ?_
      have hS0 : (Below wd.heap.size wd) wd.drew := (Below.refl _ _).drew
      obtain ⟨we, hwe⟩ : ∃ we, wd.drew = we := ⟨_, rfl⟩
      rw [hwe] at hS0 ⊢
      clear hwe
      refine wpAnyG_pure (i := 0) (v := ?v12) rfl (by kernel_rfl) (by kernel_rfl) (by kernel_rfl) (by kernel_rfl) (fun _ _ _ h => h) (yieldsIf_run rfl (fun w' hw' => ?y12)) (fun _ => hS0) ?_
      case y12 => first | (go_simp; rfl) | (go_simp; done) | rfl
      simp only [Act.put, List.setIfInBounds_toArray, List.set_cons_zero, List.set_cons_succ]
      refine wpAnyG_pure (i := 1) (v := ?v13) rfl (by kernel_rfl) (by kernel_rfl) (by kernel_rfl) (by kernel_rfl) (fun _ _ _ h => h) (yieldsIf_run rfl (fun w' hw' => ?y13)) (fun _ => hS0) ?_
      case y13 => first | (go_simp; rfl) | (go_simp; done) | rfl
      simp only [Act.put, List.setIfInBounds_toArray, List.set_cons_zero, List.set_cons_succ]
      refine wpAnyG_pure (i := 2) (v := ?v14) rfl (by kernel_rfl) (by kernel_rfl) (by kernel_rfl) (by kernel_rfl) (fun _ _ _ h => h) (yieldsIf_run rfl (fun w' hw' => ?y14)) (fun _ => hS0) ?_
      case y14 => first | (go_simp; rfl) | (go_simp; done) | rfl
      simp only [Act.put, List.setIfInBounds_toArray, List.set_cons_zero, List.set_cons_succ]
      refine wpAnyG_pure (i := 3) (v := ?v15) rfl (by kernel_rfl) (by kernel_rfl) (by kernel_rfl) (by kernel_rfl) (fun _ _ _ h => h) (yieldsIf_run rfl (fun w' hw' => ?y15)) (fun _ => hS0) ?_
      case y15 => first | (go_simp; rfl) | (go_simp; done) | rfl
      simp only [Act.put, List.setIfInBounds_toArray, List.set_cons_zero, List.set_cons_succ]
      refine wpAnyG_pure (i := 4) (v := ?v16) rfl (by kernel_rfl) (by kernel_rfl) (by kernel_rfl) (by kernel_rfl) (fun _ _ _ h => h) (yieldsIf_run rfl (fun w' hw' => ?y16)) (fun _ => hS0) ?_
      case y16 => first | (go_simp; rfl) | (go_simp; done) | rfl
      simp only [Act.put, List.setIfInBounds_toArray, List.set_cons_zero, List.set_cons_succ]
      refine wpAnyG_pure (i := 5) (v := ?v17) rfl (by kernel_rfl) (by kernel_rfl) (by kernel_rfl) (by kernel_rfl) (fun _ _ _ h => h) (yieldsIf_run rfl (fun w' hw' => ?y17)) (fun _ => hS0) ?_
      case y17 => first | (go_simp; rfl) | (go_simp; done) | rfl
      simp only [Act.put, List.setIfInBounds_toArray, List.set_cons_zero, List.set_cons_succ]
      refine wpAnyG_pure (i := 6) (v := ?v18) rfl (by kernel_rfl) (by kernel_rfl) (by kernel_rfl) (by kernel_rfl) (fun _ _ _ h => h) (yieldsIf_run rfl (fun w' hw' => ?y18)) (fun _ => hS0) ?_
      case y18 => first | (go_simp; rfl) | (go_simp; done) | rfl
      simp only [Act.put, List.setIfInBounds_toArray, List.set_cons_zero, List.set_cons_succ]
      refine wpAnyG_take (i := 7) (v := .agg rb.cells.toArray) rfl (by kernel_rfl) (by kernel_rfl) (by kernel_rfl) (by kernel_rfl) (fun _ _ _ h => h) (yieldsIf_load_mid rfl 43 (.tmp 58) rfl yg (kb * 83) rfl rb.cells _ (fun w' hw' => HLB.out w' hw') Try.underlying43 rfl (sizeRow rb)) hS0 ?_
      simp only [Act.put, List.setIfInBounds_toArray, List.set_cons_zero, List.set_cons_succ]
      refine wpAnyG_pure (i := 8) (v := ?v19) rfl (by kernel_rfl) (by kernel_rfl) (by kernel_rfl) (by kernel_rfl) (fun _ _ _ h => h) (yieldsIf_run rfl (fun w' hw' => ?y19)) (fun _ => hS0) ?_
      case y19 => first | (go_simp; rfl) | (go_simp; done) | rfl
      simp only [Act.put, List.setIfInBounds_toArray, List.set_cons_zero, List.set_cons_succ]
      refine wpAnyG_pure (i := 9) (v := ?v20) rfl (by kernel_rfl) (by kernel_rfl) (by kernel_rfl) (by kernel_rfl) (fun _ _ _ h => h) (yieldsIf_run rfl (fun w' hw' => ?y20)) (fun _ => hS0) ?_
      case y20 => first | (go_simp; rfl) | (go_simp; done) | rfl
      simp only [Act.put, List.setIfInBounds_toArray, List.set_cons_zero, List.set_cons_succ]
      refine wpAnyG_pure (i := 10) (v := ?v21) rfl (by kernel_rfl) (by kernel_rfl) (by kernel_rfl) (by kernel_rfl) (fun _ _ _ h => h) (yieldsIf_run rfl (fun w' hw' => ?y21)) (fun _ => hS0) ?_
      case y21 => first | (go_simp; rfl) | (go_simp; done) | rfl
      simp only [Act.put, List.setIfInBounds_toArray, List.set_cons_zero, List.set_cons_succ]
      refine wpAnyG_take (i := 11) (v := .agg ra.cells.toArray) rfl (by kernel_rfl) (by kernel_rfl) (by kernel_rfl) (by kernel_rfl) (fun _ _ _ h => h) (yieldsIf_load_mid rfl 43 (.tmp 62) rfl yg (ka * 83) rfl ra.cells _ (fun w' hw' => HLA.out w' hw') Try.underlying43 rfl (sizeRow ra)) hS0 ?_
      simp only [Act.put, List.setIfInBounds_toArray, List.set_cons_zero, List.set_cons_succ]
      refine wpAnyG_pure (i := 12) (v := ?v22) rfl (by kernel_rfl) (by kernel_rfl) (by kernel_rfl) (by kernel_rfl) (fun _ _ _ h => h) (yieldsIf_run rfl (fun w' hw' => ?y22)) (fun _ => hS0) ?_
      case y22 => first | (go_simp; rfl) | (go_simp; done) | rfl
      simp only [Act.put, List.setIfInBounds_toArray, List.set_cons_zero, List.set_cons_succ]
      refine wpAnyG_fin (i := 13) (by kernel_rfl) rfl rfl (by kernel_rfl) (fun K hK => ?_)
      have hO0 := HOd.out.below hS0
      have hB0 := HBd.out.trans (hS0.mono HBd.out.size)
      refine wp_setL rfl (.tmp 64) (.tmp 59) rfl hO0 ka (by omega) rb rfl rfl (by kernel_rfl) ?_
      intro wx hox hcx hsx
      have hBx := hB0.trans (hcx.below (B := Wf.heap.size) (fun k e => by have := HYG.out; omega) hB0.size)
      refine hK _ _ ?_
      clear hK K
      try simp only [Act.put, List.setIfInBounds_toArray, List.set_cons_zero, List.set_cons_succ]
      refine wpAnyG_fin (i := 14) (by kernel_rfl) rfl rfl (by kernel_rfl) (fun K hK => ?_)
      go_simp
      refine hK _ _ ?_
      clear hK K
      try simp only [Act.put, List.setIfInBounds_toArray, List.set_cons_zero, List.set_cons_succ]
      refine wpAnyG_fin (i := 15) (by kernel_rfl) rfl rfl (by kernel_rfl) (fun K hK => ?_)
      refine wp_setL rfl (.tmp 65) (.tmp 63) rfl hox kb (by rw [List.length_set]; omega) ra rfl rfl (by kernel_rfl) ?_
      intro wz hoz hcz hsz
      have hBz := hBx.trans (hcz.below (B := Wf.heap.size) (fun k e => by have := HYG.out; omega) hBx.size)
      refine hK _ _ ?_
      clear hK K
      try simp only [Act.put, List.setIfInBounds_toArray, List.set_cons_zero, List.set_cons_succ]
      refine wpAnyG_done (by kernel_rfl) ?_ _
      refine NoPanic.normal ?_
      have HON := Lib.hid hoz
      have HPN := Lib.hid (show ((Y.set ka rb).set kb ra).Perm M by
        have h1 := swap_perm Y ka kb (by omega) (by omega)
        rw [HRA.out, HRB.out] at h1
        exact h1.trans HPY.out)
      have HBN := Lib.hid hBz
      clear hoz hcz hsz hox hcx hsx hBx hBz hO0 hB0 hS0
      go_wp2_with fail
      go_roundw
      case rel => exact ⟨i + 1, (Y.set ka rb).set kb ra, by omega, by omega, by go_num, HON, HPN, HBN⟩
      case measure => simp [intOf] <;> omega
  case rest =>
  obtain ⟨Y, HOY, HPY, HBY2⟩ := hcut
  rename_i wc _ _
  have HRY := Lib.hid (show RowsAt wc (.slice ya N yc) Y from ⟨HOY.out.at_, fun R hR => ((HMF.out.refs R (HPY.out.mem_iff.1 hR)).at_).below HBY2.out⟩)
  have HYN := Lib.hid (show Y.length = N by rw [HPY.out.length_eq, HN.out])
  have HB3 := Lib.hid (HBF.out.trans (HBY2.out.mono HBF.out.size))
  have HF3 := Lib.hid (HOF.out.below HBY2.out)
  clear HOF HMF HOY HY HBY HBY2 HBF
  go_wp2_with fail
  refine (Build_any _ Y HRY.out (by rw [HYN.out]; omega)).mono ?_
  rintro e Wg (⟨hno, _⟩ | ⟨hndY, gv, c2, rfl, hc2, hog, hb⟩)
  case inl => exact absurd ((HPY.out.map _).nodup_iff.2 HND.out) hno
  obtain ⟨F, hF1, hF2⟩ := order_plain HPY.out HND.out HC1.out hc2
  obtain ⟨ga, gc, rfl⟩ := hog.form
  obtain ⟨n, hn⟩ : ∃ n, F.length = n := ⟨_, rfl⟩
  obtain rfl : n1 = n := by rw [← HN1.out, hF1, List.length_map, hn]
  have hn2 : (forestV Y c2).length = n1 := by rw [hF2, List.length_map, hn]
  rw [hn2] at hog ⊢
  have hof := HF3.out.below hb
  rw [hF1] at hof
  rw [hF2] at hog
  have HOF := Lib.hid hof.at_
  have HOG := Lib.hid hog.at_
  have HFN := Lib.hid hn
  have HB4 := Lib.hid (HB3.out.trans (hb.mono HB3.out.size))
  have HIX := Lib.hid (fun x => idxL_perm (M := M) HPY.out x)
  obtain ⟨hz1, hnfc, hfcm, hz2⟩ := hof.at_.len
  obtain ⟨hz3, hngc, hgcm, hz4⟩ := hog.at_.len
  clear hz1 hz2 hz3 hz4
  unfold maxLen at hfcm hgcm
  clear hc2 hog hof hb hF1 hF2 hn hn2 HF3 HB3 HRY hndY HC1 HN1
  go_wp2_with fail
  refine known_any.mono ?_
  rintro e Wk ⟨rfl, hb⟩
  have HF5 := Lib.hid (HOF.out.below hb)
  have HG5 := Lib.hid (HOG.out.below hb)
  have HB5 := Lib.hid (HB4.out.trans (hb.mono HB4.out.size))
  clear hb HOF HOG HB4
  go_wp2_with fail
  have HK0 := Lib.hid (Below.refl Wk.heap.size Wk)
  go_loopw [14] (fun iv wr => ∃ j : Nat, j ≤ n1 ∧ iv = .int .i64 (j : Int) ∧ Hid (Below Wk.heap.size Wk wr)) (fun iv _ => n1 - (intOf iv).toNat)
  case atStart => exact ⟨0, Nat.zero_le _, rfl, HK0⟩
  case round =>
    obtain ⟨j, hj, rfl, HB6⟩ := hrel
    obtain ⟨W0, rfl⟩ : ∃ W0, W0 = wr := ⟨_, rfl⟩
    clear HK0
    by_cases hlt : j < n1
    case neg =>
      obtain rfl : j = n1 := by omega
      have HBE := Lib.hid (HB5.out.trans (HB6.out.mono HB5.out.size))
      go_wp2_with fail
      exact bodyPost_ret (v := .bool true) (by simp [results, Try.results5, go_sem]) rfl ⟨rfl, HBE.out⟩
    have hjI : (j : Int) < (n1 : Int) := by omega
    have hjF : j < F.length := by rw [HFN.out]; exact hlt
    obtain ⟨fg, fo, ef, hfg, hfr⟩ := (HF5.out.below HB6.out).get (i := j) (by rw [List.length_map]; exact hjF)
    obtain ⟨gg, go_, eg, hgg, hgr⟩ := (HG5.out.below HB6.out).get (i := j) (by rw [List.length_map]; exact hjF)
    subst ef
    subst eg
    rw [List.getElem_map] at hfr hgr
    obtain ⟨nd, hnd⟩ : ∃ nd, F[j] = nd := ⟨_, rfl⟩
    rw [hnd] at hfr hgr
    obtain ⟨x, hx⟩ : ∃ x, nd.id = x := ⟨_, rfl⟩
    obtain ⟨pa, hpa⟩ : ∃ x, nd.parent = x := ⟨_, rfl⟩
    obtain ⟨dp, hdp⟩ : ∃ x, nd.depth = x := ⟨_, rfl⟩
    have e1 : nd.re (idxL M) = ⟨x, idxL M x, pa, dp⟩ := by unfold NodeV.re; rw [hx, hpa, hdp]
    have e2 : nd.re (idxL Y) = ⟨x, idxL Y x, pa, dp⟩ := by unfold NodeV.re; rw [hx, hpa, hdp]
    rw [e1] at hfr
    rw [e2] at hgr
    have hix := HIX.out x
    obtain ⟨r1, hr1⟩ : ∃ r, idxL M x = r := ⟨_, rfl⟩
    obtain ⟨r2, hr2⟩ : ∃ r, idxL Y x = r := ⟨_, rfl⟩
    rw [hr1] at hfr hix
    rw [hr2] at hgr hix
    have HFR := Lib.hid (show ∀ w', Below W0.heap.size W0 w' → w'.rangeAt fg (fo + j * 35) (NodeV.cells ⟨x, r1, pa, dp⟩) from fun w' hw' => range_below hfr hfg hw')
    have HGR := Lib.hid (show ∀ w', Below W0.heap.size W0 w' → w'.rangeAt gg (go_ + j * 35) (NodeV.cells ⟨x, r2, pa, dp⟩) from fun w' hw' => range_below hgr hgg hw')
    have HIYthfinofmbnfijaa := Lib.hid hix
    clear hfr hgr hnd hx hpa hdp e1 e2 hr1 hr2 hfg hgg hix
    by_cases hneg : r1 < 0
    case pos =>
      have hneg2 : r2 < 0 := HIYthfinofmbnfijaa.out.1 hneg
      go_wp2_with fail
      refine wp_region_seq 51 (by kernel_rfl) (by kernel_rfl) ?_
      simp only [List.take_succ_cons, List.take_zero, List.drop_succ_cons, List.drop_zero]
      obtain ⟨wd, hwd⟩ : ∃ wd, W0.drew = wd := ⟨_, rfl⟩
      have hd_wd : Below W0.heap.size W0 wd ∧ wd.heap.size = W0.heap.size := hwd ▸ ⟨(Below.refl _ _).drew, rfl⟩
      rw [hwd]
      clear hwd
      have HFd := Lib.hid (HFR.out wd hd_wd.1)
      have HGd := Lib.hid (HGR.out wd hd_wd.1)
      have HBd := Lib.hid (HB6.out.trans (hd_wd.1.mono HB6.out.size))
      obtain ⟨m1, m2, m3⟩ := node_mid HFd.out
      obtain ⟨m4, m5, m6⟩ := node_mid HGd.out
      have HFi := Lib.hid (node_id HFd.out)
      have HGi := Lib.hid (node_id HGd.out)
      dsimp only at m1 m2 m3 m4 m5 m6 HFi HGi
      clear hd_wd
      go_wp2_with (with_reducible refine wpList_load_mid rfl 35 (.tmp 97) rfl fg (fo + j * 35) rfl (bvs x.1) _ HFi.out Try.underlying35 rfl (sizeId x) ?_; refine Stop.on ?_)
      refine Stop.go ?_
      try simp only [Act.put, List.setIfInBounds_toArray, List.set_cons_zero, List.set_cons_succ]
      go_wp2_with (with_reducible refine wpList_load_mid rfl 35 (.tmp 102) rfl gg (go_ + j * 35) rfl (bvs x.1) _ HGi.out Try.underlying35 rfl (sizeId x) ?_; refine Stop.on ?_)
      refine Stop.go ?_
      try simp only [Act.put, List.setIfInBounds_toArray, List.set_cons_zero, List.set_cons_succ]
      refine wpList_runI rfl (some 104) rfl (.bool false) _ (op_neq 35 (.tmp 98) (.tmp 103) 35 rfl rfl rfl guard_Id (by have h1 := neq_Id x x wd; rw [decide_eq_true rfl] at h1; exact h1)) ?_
      try simp only [Act.put, List.setIfInBounds_toArray, List.set_cons_zero, List.set_cons_succ]
      go_wp2_with fail
      refine HeadPost.mk ?_
      go_wp2_with fail
      go_roundw
      case rel => exact ⟨j + 1, by omega, by go_num, HBd⟩
      case measure => simp [intOf] <;> omega
    case neg =>
      have hneg2 : ¬ r2 < 0 := fun e => hneg (HIYthfinofmbnfijaa.out.2 e)
      have hd1 : decide (r1 < 0) = false := decide_eq_false hneg
      have hd2 : decide (r2 < 0) = false := decide_eq_false hneg2
      clear hneg hneg2
      go_wp2_with fail
      refine wp_region_seq 51 (by kernel_rfl) (by kernel_rfl) ?_
      simp only [List.take_succ_cons, List.take_zero, List.drop_succ_cons, List.drop_zero]
      obtain ⟨wd, hwd⟩ : ∃ wd, W0.drew = wd := ⟨_, rfl⟩
      have hd_wd : Below W0.heap.size W0 wd ∧ wd.heap.size = W0.heap.size := hwd ▸ ⟨(Below.refl _ _).drew, rfl⟩
      rw [hwd]
      clear hwd
      have HFd := Lib.hid (HFR.out wd hd_wd.1)
      have HGd := Lib.hid (HGR.out wd hd_wd.1)
      have HBd := Lib.hid (HB6.out.trans (hd_wd.1.mono HB6.out.size))
      obtain ⟨m1, m2, m3⟩ := node_mid HFd.out
      obtain ⟨m4, m5, m6⟩ := node_mid HGd.out
      have HFi := Lib.hid (node_id HFd.out)
      have HGi := Lib.hid (node_id HGd.out)
      dsimp only at m1 m2 m3 m4 m5 m6 HFi HGi
      clear hd_wd
      go_wp2_with (with_reducible refine wpList_load_mid rfl 35 (.tmp 97) rfl fg (fo + j * 35) rfl (bvs x.1) _ HFi.out Try.underlying35 rfl (sizeId x) ?_; refine Stop.on ?_)
      refine Stop.go ?_
      try simp only [Act.put, List.setIfInBounds_toArray, List.set_cons_zero, List.set_cons_succ]
      go_wp2_with (with_reducible refine wpList_load_mid rfl 35 (.tmp 102) rfl gg (go_ + j * 35) rfl (bvs x.1) _ HGi.out Try.underlying35 rfl (sizeId x) ?_; refine Stop.on ?_)
      refine Stop.go ?_
      try simp only [Act.put, List.setIfInBounds_toArray, List.set_cons_zero, List.set_cons_succ]
      refine wpList_runI rfl (some 104) rfl (.bool false) _ (op_neq 35 (.tmp 98) (.tmp 103) 35 rfl rfl rfl guard_Id (by have h1 := neq_Id x x wd; rw [decide_eq_true rfl] at h1; exact h1)) ?_
      try simp only [Act.put, List.setIfInBounds_toArray, List.set_cons_zero, List.set_cons_succ]
      go_wp2_with fail
      refine HeadPost.mk ?_
      go_wp2_with fail
      go_roundw
      case rel => exact ⟨j + 1, by omega, by go_num, HBd⟩
      case measure => simp [intOf] <;> omega
end Go.Proofs.Ythfinofmbnfijaa
