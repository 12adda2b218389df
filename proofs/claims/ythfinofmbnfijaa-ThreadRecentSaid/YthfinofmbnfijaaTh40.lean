/- ThreadRecent. -/
import Derived.Test.YthfinofmbnfijaaTp22
namespace Go.Proofs.Ythfinofmbnfijaa
open Go.Shelf Go.RowKit Go.Lib Go.Sort
set_option linter.unusedVariables false
set_option linter.unusedSimpArgs false

theorem exec_quo {o : Oper} {w : World} {ρ : Operand → Value} (a b : Nat) (hb : 0 < b) (ha : a < 9223372036854775807) (x y : Operand) (ho : o.op = .binOp .quo 3 x y 3) (hx : ρ x = .int .i64 (a : Int)) (hy : ρ y = .int .i64 (b : Int)) : (execOp ρ o).run Try.prog w = .ok (.value (.int .i64 ((a / b : Nat) : Int))) w := by
  have h1 : ¬ ((b : Int) = 0) := by omega
  have h2 : (a : Int).tdiv (b : Int) = ((a / b : Nat) : Int) := rfl
  have h0 : ¬ b = 0 := by omega
  have h6 : (a : Int) / (b : Int) = ((a / b : Nat) : Int) := rfl
  have h7 := Nat.div_le_self a b
  obtain ⟨qq, hqq⟩ : ∃ qq, a / b = qq := ⟨_, rfl⟩
  rw [hqq] at h6 h7
  have h5 : IntKind.i64.wrap ((a : Int) / (b : Int)) = (a : Int) / (b : Int) := by rw [h6]; exact IntWalk.i64_in _ ⟨by omega, by omega⟩
  have h3 : (binOp .quo 3 (.int .i64 (a : Int)) (.int .i64 (b : Int))).run Try.prog w = .ok (.int .i64 ((a / b : Nat) : Int)) w := by
    simp [binOp, Op.intDiv, h0, h5]
  have h4 : (eqGuard .quo 3 x y (.int .i64 (a : Int)) (.int .i64 (b : Int))).run Try.prog w = .ok () w := by
    simp [eqGuard]
  unfold execOp
  simp only [ho, hx, hy, Sem.run_bind, h3, h4, Result.andThen_ok]
  rfl
theorem nat_cell {W : World} {a : Option Addr} {n c i : Nat} {l : List Nat} (h : ListAt natE W (.slice a n c) l) (hi : i < l.length) : ∃ g o, a = some ⟨g, o, none⟩ ∧ ∀ w', Below W.heap.size W w' → w'.cell? ⟨g, o + i, none⟩ = some (.int .i64 (l[i] : Int)) := by
  obtain ⟨g, o, e, hg, hr⟩ := h.get hi
  refine ⟨g, o, e, fun w' hw' => ?_⟩
  have h1 : w'.rangeAt g (o + i * natE.k) (natE.enc l[i]) := range_below (show W.rangeAt g (o + i * natE.k) (natE.enc l[i]) from hr) hg hw'
  have h2 := h1 0 (.int .i64 (l[i] : Int)) rfl
  have e3 : (⟨g, o + i * natE.k, none⟩ : Addr).add 0 = ⟨g, o + i, none⟩ := by
    rw [show natE.k = 1 from rfl, Nat.mul_one]; rfl
  rw [← e3]
  exact h2
set_option maxRecDepth 100000 in
set_option maxHeartbeats 2000000 in
theorem Recent_lawA {w : World} (v : Value) (L : List RawV) (hv : RawsAt w v L) (b : UInt8) (hcase : (b.toNat : Int) % 4 = 0 ∧ rowsT L ≠ []) : Calls Try.prog 15 #[v, .int .u8 (b.toNat : Int)] w fun e w' => e = .returned (.bool true) ∧ Below w.heap.size w w' := by
  obtain ⟨nv, hnv⟩ : ∃ nv, b.toNat = nv := ⟨_, rfl⟩
  have hnlt : nv < 256 := hnv ▸ b.toNat_lt
  rw [hnv] at hcase ⊢
  have HCS := Lib.hid hcase
  clear hnv hcase
  have HV := Lib.hid hv
  clear hv
  go_enter Try.func15, Try.ntmps15
  go_wp2_with fail
  refine (rows_any _ L HV.out).mono ?_
  rintro e Wa ⟨xv, M, rfl, ho, ht, hb⟩
  obtain ⟨hN14, hnd⟩ := rows_facts ht
  obtain ⟨xa, xc, rfl⟩ := ho.own.form
  obtain ⟨N, hN⟩ : ∃ N, M.length = N := ⟨_, rfl⟩
  rw [hN] at ho hN14 ⊢
  have HT := Lib.hid ht
  have HM := Lib.hid ho
  have HN := Lib.hid hN
  have HND := Lib.hid hnd
  have HBA := Lib.hid hb
  clear ho ht hN hb hnd
  obtain ⟨c, hc⟩ := isCut_ex (parP M) (arrS M)
  have hgood := good HND.out hc
  obtain ⟨F, hF⟩ : ∃ F, forestV M c = F := ⟨_, rfl⟩
  rw [hF] at hgood
  have hFl : F.length ≤ 28 := by
    rw [← hF, forestV_eq HND.out]
    unfold forestS
    refine Nat.le_trans (forL_len (cut_acyclic hc) (pls_nodup HND.out c) _ _) ?_
    have := pls_len M c
    have h2 := HN.out
    omega
  go_wp2_with fail
  refine (forest_any _ M c hc HM.out.at_ HND.out (by rw [HN.out]; omega)).mono ?_
  rintro e Wf ⟨fv, rfl, hof, hb⟩
  rw [hF] at hof
  obtain ⟨fa, fc, rfl⟩ := hof.form
  obtain ⟨n, hn⟩ : ∃ n, F.length = n := ⟨_, rfl⟩
  rw [hn] at hof hFl ⊢
  obtain ⟨hz1, hnfc, hfcm, hz2⟩ := hof.at_.len
  unfold maxLen at hfcm
  have HFN := Lib.hid hn
  have HG := Lib.hid hgood
  have HC1 := Lib.hid hc
  have HFE := Lib.hid hF
  have HFO := Lib.hid hof
  have HMA := Lib.hid HM.out.at_
  have HAW := Lib.hid hb
  have HNX : N ≤ xc := HM.out.own.at_.len.2.1
  have HCZ := Lib.hid HM.out.own.at_.len.2.2.2
  clear hof hb hgood hF hn hz1 hz2 HM hc
  have HCK := Lib.hid HG.out.check
  have hN0 : 0 < N := by
    have h1 := congrArg List.length HT.out
    rw [List.length_map, HN.out] at h1
    have h2 := List.length_pos_iff.2 HCS.out.2
    omega
  have hn0 : 0 < n := by
    have hM0 : 0 < M.length := by rw [HN.out]; exact hN0
    have h3 := HG.out.all M[0] (List.getElem_mem hM0)
    have h4 := List.length_pos_of_mem h3
    rw [List.length_map, HFN.out] at h4
    exact h4
  have hn0I : (0 : Int) < (n : Int) := by omega
  go_upto_region 3 with (fail)
  go_cut [26] from 19 to 25 (fun bv wc => bv = .bool true ∧ Wf = wc)
  case first =>
    have hd : ((nv : Int) % 4 == 0) = true := by simpa using HCS.out.1
    go_wp2_with fail
    go_meet
    case rel => exact ⟨rfl, rfl⟩
  case rest =>
  obtain ⟨rfl, rfl⟩ := hcut
  obtain ⟨gg, rfl⟩ := HFO.out.addr hn0
  go_wp2_with (refine wpList_runI rfl (some 29) rfl (.int .i64 (nv : Int)) _ (exec_conv nv hnlt (.tmp 28) rfl rfl) ?_; refine Stop.on ?_)
  refine Stop.go ?_
  try simp only [Act.put, List.setIfInBounds_toArray, List.set_cons_zero, List.set_cons_succ]
  go_wp2_with (refine wpList_runI rfl (some 30) rfl (.int .i64 ((nv / 4 : Nat) : Int)) _ (exec_quo nv 4 (by decide) (by omega) (.tmp 29) (.const (.int .i64 4)) rfl rfl rfl) ?_; refine Stop.on ?_)
  refine Stop.go ?_
  try simp only [Act.put, List.setIfInBounds_toArray, List.set_cons_zero, List.set_cons_succ]
  go_wp2_with (refine wpList_runI rfl (some 33) rfl (.int .i64 ((nv / 4 % n : Nat) : Int)) _ (exec_rem (nv / 4) n hn0 (.tmp 30) (.tmp 32) rfl rfl rfl) ?_; refine Stop.on ?_)
  refine Stop.go ?_
  try simp only [Act.put, List.setIfInBounds_toArray, List.set_cons_zero, List.set_cons_succ]
  obtain ⟨j, hj⟩ : ∃ j, nv / 4 % n = j := ⟨_, rfl⟩
  have hjn : j < n := by rw [← hj]; exact Nat.mod_lt _ hn0
  rw [hj]
  clear hj
  have hjF : j < F.length := by rw [HFN.out]; exact hjn
  have hjI : (j : Int) < (n : Int) := by omega
  obtain ⟨g', o', e', hcell⟩ := node_at HFO.out.at_ hjF
  cases e'
  obtain ⟨d1, hd1⟩ : ∃ d, F[j].depth = d := ⟨_, rfl⟩
  have hdb := chk_dep HCK.out j hjF
  rw [hd1] at hdb
  have HD1 := Lib.hid hd1
  have hc1 := (hcell Wf (Below.refl _ _)).2.2.1
  rw [Nat.zero_add, hd1] at hc1
  have hsz : (Try.prog.info? 3).map (·.size) = some 1 := by kernel_rfl
  have hwr : IntKind.i64.wrap (d1 + 7) = d1 + 7 := IntWalk.i64_in _ (by omega)
  clear hcell hd1
  go_wp2_with (refine wpList_setC rfl rfl 3 (.tmp 39) (.tmp 37) rfl HFO.out j hjF 34 (by decide) (.int .i64 (d1 + 7)) (F[j].wDep (d1 + 7)) rfl rfl rfl hsz (enc_wDep _ _) ?_; refine Stop.on ?_)
  refine Stop.go ?_
  try simp only [Act.put, List.setIfInBounds_toArray, List.set_cons_zero, List.set_cons_succ]
  intro W4 x4 c4 s4
  try simp only [Act.put, List.setIfInBounds_toArray, List.set_cons_zero, List.set_cons_succ]
  obtain ⟨G, hG⟩ : ∃ G, F.set j (F[j].wDep (d1 + 7)) = G := ⟨_, rfl⟩
  rw [hG] at x4
  have HBAD := Lib.hid (show checkP G ≠ 0 by rw [← hG, ← HD1.out]; exact spoil_bad HCK.out hjF)
  have HGN := Lib.hid (show G.length = n by rw [← hG, List.length_set, HFN.out])
  have HGO := Lib.hid x4.at_
  have HAW4 := Lib.hid (HAW.out.trans (c4.below (B := Wa.heap.size) (fun k e => by have := (HFO.out.lt (k := gg) rfl).1; omega) HAW.out.size))
  clear x4 c4 s4 hG hc1 hsz hwr HAW
  go_upto_region 5 with (fail)
  go_cut [47] from 40 to 46 (fun bv wc => ∃ b5 : Bool, bv = .bool b5 ∧ Hid (b5 = true → 0 < N) ∧ W4 = wc)
  case first =>
    by_cases h0 : N = 0
    case pos =>
      subst h0
      have HQ := Lib.hid (show (false = true) → 0 < 0 from fun h => by cases h)
      go_wp2_with fail
      go_meet
      case rel => exact ⟨false, rfl, HQ, rfl⟩
    have hn0 : (0 : Int) < (N : Int) := by omega
    have HQ := Lib.hid (show ∀ b3 : Bool, (b3 = true) → 0 < N from fun _ _ => by omega)
    clear h0
    by_cases h4 : (nv : Int) % 4 = 1
    case pos =>
      have hd : ((nv : Int) % 4 == 1) = true := by simpa using h4
      clear h4
      go_wp2_with fail
      go_meet
      case rel => exact ⟨true, rfl, HQ.out true |> Lib.hid, rfl⟩
    have hd : ((nv : Int) % 4 == 1) = false := by simpa using h4
    clear h4
    go_wp2_with fail
    go_meet
    case rel => exact ⟨false, rfl, HQ.out false |> Lib.hid, rfl⟩
  case rest =>
  obtain ⟨b5, rfl, HB5, rfl⟩ := hcut
  go_upto_if 47 with (fail)
  go_cut [5] from 48 to 52 (fun xv wc => ∃ (X : Nat) (L : List RowV), xv = .slice xa X xc ∧ X ≤ 14 ∧ Hid (L.length = X) ∧ Hid (RowsAt Wa (.slice xa X xc) L) ∧ Hid ((L.map (·.id)).Nodup) ∧ W4 = wc)
  case first =>
    cases b5 with
    | false =>
      go_wp2_with fail
      go_meet
      case rel => exact ⟨N, M, rfl, hN14, HN, HMA, HND, rfl⟩
    | true =>
      obtain ⟨p, hp⟩ : ∃ p, N = p + 1 := ⟨N - 1, by have := HB5.out rfl; omega⟩
      have hcu := cut_R xa N xc p (by omega) HCZ.out
      have hN1 : (N : Int) - 1 = (p : Int) := by omega
      have hML : M.length = p + 1 := by rw [HN.out, hp]
      have HMD := Lib.hid (show RowsAt Wa (.slice xa p xc) M.dropLast from by
        have h1 := HMA.out.l.take (k := p) (by omega)
        have e : M.take p = M.dropLast := by rw [List.dropLast_eq_take, hML]; rfl
        rw [e] at h1
        exact ⟨h1, fun R hR => HMA.out.r R (List.dropLast_subset _ hR)⟩)
      have HDL := Lib.hid (show M.dropLast.length = p by rw [List.length_dropLast, hML]; omega)
      have HDN := Lib.hid (nodup_cut HND.out)
      clear hp hML
      go_wp2_with fail
      go_meet
      case rel => exact ⟨p, _, rfl, by omega, HDL, HMD, HDN, rfl⟩
  case rest =>
  obtain ⟨X, L', rfl, hX14, HLX, HLR, HLN, rfl⟩ := hcut
  clear HB5
  go_wp2_with fail
  refine (Recent_any (.slice xa X xc) (.slice (some ⟨gg, 0, none⟩) n fc) L' G (HLR.out.below HAW4.out) HGO.out (by rw [HLX.out]; omega) n HGN.out (by omega) (fun h => absurd h HBAD.out)).mono ?_
  rintro e Wr ⟨hb, hor⟩
  obtain ⟨z, hz⟩ : ∃ z, checkP G = z := ⟨_, rfl⟩
  have hz0 : z ≠ 0 := by rw [← hz]; exact HBAD.out
  have HZ := Lib.hid hz
  obtain rfl : e = .returned (.tuple #[.slice none 0 0, .int .i64 z]) := by
    rcases hor with ⟨_, e⟩ | ⟨h, _⟩ | ⟨h, _⟩
    · rw [e, hz]
    · exact absurd h HBAD.out
    · exact absurd h HBAD.out
  have HG2 := Lib.hid (HGO.out.below hb)
  have HB0 := Lib.hid (HBA.out.trans ((HAW4.out.trans (hb.mono HAW4.out.size)).mono HBA.out.size))
  clear hb hor hz HBAD
  go_wp2_with fail
  refine (check_any _ G HG2.out (by rw [HGN.out]; omega)).mono ?_
  rintro e Wc ⟨rfl, hb⟩
  rw [HZ.out]
  have HB0 := Lib.hid (HB0.out.trans (hb.mono HB0.out.size))
  clear hb
  have hd : (z != 0) = true := by simpa using hz0
  go_wp2_with fail
  refine known_any.mono ?_
  rintro e Wk ⟨rfl, hb⟩
  have HB0 := Lib.hid (HB0.out.trans (hb.mono HB0.out.size))
  clear hb
  go_wp2_with fail
  refine known_any.mono ?_
  rintro e Wk2 ⟨rfl, hb⟩
  have HB0 := Lib.hid (HB0.out.trans (hb.mono HB0.out.size))
  clear hb
  go_wp2_with fail
  exact bodyPost_ret (v := .bool true) (by simp [results, Try.results15, go_sem]) rfl ⟨rfl, HB0.out⟩
set_option maxRecDepth 100000 in
set_option maxHeartbeats 2000000 in
theorem Recent_lawB {w : World} (v : Value) (L : List RawV) (hv : RawsAt w v L) (b : UInt8) (hcase : ¬ (b.toNat : Int) % 4 = 0 ∨ rowsT L = []) : Calls Try.prog 15 #[v, .int .u8 (b.toNat : Int)] w fun e w' => e = .returned (.bool true) ∧ Below w.heap.size w w' := by
  obtain ⟨nv, hnv⟩ : ∃ nv, b.toNat = nv := ⟨_, rfl⟩
  have hnlt : nv < 256 := hnv ▸ b.toNat_lt
  rw [hnv] at hcase ⊢
  have HCS := Lib.hid hcase
  clear hnv hcase
  have HV := Lib.hid hv
  clear hv
  go_enter Try.func15, Try.ntmps15
  go_wp2_with fail
  refine (rows_any _ L HV.out).mono ?_
  rintro e Wa ⟨xv, M, rfl, ho, ht, hb⟩
  obtain ⟨hN14, hnd⟩ := rows_facts ht
  obtain ⟨xa, xc, rfl⟩ := ho.own.form
  obtain ⟨N, hN⟩ : ∃ N, M.length = N := ⟨_, rfl⟩
  rw [hN] at ho hN14 ⊢
  have HT := Lib.hid ht
  have HM := Lib.hid ho
  have HN := Lib.hid hN
  have HND := Lib.hid hnd
  have HBA := Lib.hid hb
  clear ho ht hN hb hnd
  obtain ⟨c, hc⟩ := isCut_ex (parP M) (arrS M)
  have hgood := good HND.out hc
  obtain ⟨F, hF⟩ : ∃ F, forestV M c = F := ⟨_, rfl⟩
  rw [hF] at hgood
  have hFl : F.length ≤ 28 := by
    rw [← hF, forestV_eq HND.out]
    unfold forestS
    refine Nat.le_trans (forL_len (cut_acyclic hc) (pls_nodup HND.out c) _ _) ?_
    have := pls_len M c
    have h2 := HN.out
    omega
  go_wp2_with fail
  refine (forest_any _ M c hc HM.out.at_ HND.out (by rw [HN.out]; omega)).mono ?_
  rintro e Wf ⟨fv, rfl, hof, hb⟩
  rw [hF] at hof
  obtain ⟨fa, fc, rfl⟩ := hof.form
  obtain ⟨n, hn⟩ : ∃ n, F.length = n := ⟨_, rfl⟩
  rw [hn] at hof hFl ⊢
  obtain ⟨hz1, hnfc, hfcm, hz2⟩ := hof.at_.len
  unfold maxLen at hfcm
  have HFN := Lib.hid hn
  have HG := Lib.hid hgood
  have HC1 := Lib.hid hc
  have HFE := Lib.hid hF
  have HFO := Lib.hid hof
  have HMA := Lib.hid HM.out.at_
  have HAW := Lib.hid hb
  have HNX : N ≤ xc := HM.out.own.at_.len.2.1
  have HCZ := Lib.hid HM.out.own.at_.len.2.2.2
  clear hof hb hgood hF hn hz1 hz2 HM hc
  have HCK := Lib.hid HG.out.check
  have hn0 : n = 0 ∨ ¬ (nv : Int) % 4 = 0 := by
    rcases HCS.out with h | h
    · exact .inr h
    · left
      have h1 := congrArg List.length HT.out
      rw [List.length_map, HN.out, h, List.length_nil] at h1
      have h2 : F.length ≤ 2 * N := by
        rw [← HFE.out, forestV_eq HND.out]
        unfold forestS
        refine Nat.le_trans (forL_len (cut_acyclic HC1.out) (pls_nodup HND.out c) _ _) ?_
        have := pls_len M c
        have h2 := HN.out
        omega
      rw [HFN.out] at h2
      omega
  go_upto_region 3 with (fail)
  go_cut [26] from 19 to 25 (fun bv wc => bv = .bool false ∧ Wf = wc)
  case first =>
    by_cases h0 : n = 0
    case pos =>
      subst h0
      clear hn0
      go_wp2_with fail
      go_meet
      case rel => exact ⟨rfl, rfl⟩
    have hn1 : (0 : Int) < (n : Int) := by omega
    have hd : ((nv : Int) % 4 == 0) = false := by
      rcases hn0 with h | h
      · exact absurd h h0
      · simpa using h
    clear h0 hn0
    go_wp2_with fail
    go_meet
    case rel => exact ⟨rfl, rfl⟩
  case rest =>
  obtain ⟨rfl, rfl⟩ := hcut
  clear hn0
  go_upto_region 5 with (fail)
  go_cut [47] from 40 to 46 (fun bv wc => ∃ b5 : Bool, bv = .bool b5 ∧ Hid (b5 = true → 0 < N) ∧ Wf = wc)
  case first =>
    by_cases h0 : N = 0
    case pos =>
      subst h0
      have HQ := Lib.hid (show (false = true) → 0 < 0 from fun h => by cases h)
      go_wp2_with fail
      go_meet
      case rel => exact ⟨false, rfl, HQ, rfl⟩
    have hn0 : (0 : Int) < (N : Int) := by omega
    have HQ := Lib.hid (show ∀ b3 : Bool, (b3 = true) → 0 < N from fun _ _ => by omega)
    clear h0
    by_cases h4 : (nv : Int) % 4 = 1
    case pos =>
      have hd : ((nv : Int) % 4 == 1) = true := by simpa using h4
      clear h4
      go_wp2_with fail
      go_meet
      case rel => exact ⟨true, rfl, HQ.out true |> Lib.hid, rfl⟩
    have hd : ((nv : Int) % 4 == 1) = false := by simpa using h4
    clear h4
    go_wp2_with fail
    go_meet
    case rel => exact ⟨false, rfl, HQ.out false |> Lib.hid, rfl⟩
  case rest =>
  obtain ⟨b5, rfl, HB5, rfl⟩ := hcut
  go_upto_if 47 with (fail)
  go_cut [5] from 48 to 52 (fun xv wc => ∃ (X : Nat) (L : List RowV), xv = .slice xa X xc ∧ X ≤ 14 ∧ Hid (L.length = X) ∧ Hid (RowsAt Wa (.slice xa X xc) L) ∧ Hid ((L.map (·.id)).Nodup) ∧ Wf = wc)
  case first =>
    cases b5 with
    | false =>
      go_wp2_with fail
      go_meet
      case rel => exact ⟨N, M, rfl, hN14, HN, HMA, HND, rfl⟩
    | true =>
      obtain ⟨p, hp⟩ : ∃ p, N = p + 1 := ⟨N - 1, by have := HB5.out rfl; omega⟩
      have hcu := cut_R xa N xc p (by omega) HCZ.out
      have hN1 : (N : Int) - 1 = (p : Int) := by omega
      have hML : M.length = p + 1 := by rw [HN.out, hp]
      have HMD := Lib.hid (show RowsAt Wa (.slice xa p xc) M.dropLast from by
        have h1 := HMA.out.l.take (k := p) (by omega)
        have e : M.take p = M.dropLast := by rw [List.dropLast_eq_take, hML]; rfl
        rw [e] at h1
        exact ⟨h1, fun R hR => HMA.out.r R (List.dropLast_subset _ hR)⟩)
      have HDL := Lib.hid (show M.dropLast.length = p by rw [List.length_dropLast, hML]; omega)
      have HDN := Lib.hid (nodup_cut HND.out)
      clear hp hML
      go_wp2_with fail
      go_meet
      case rel => exact ⟨p, _, rfl, by omega, HDL, HMD, HDN, rfl⟩
  case rest =>
  obtain ⟨X, L', rfl, hX14, HLX, HLR, HLN, rfl⟩ := hcut
  clear HB5
  go_wp2_with fail
  refine (Recent_any (.slice xa X xc) (.slice fa n fc) L' F (HLR.out.below HAW.out) HFO.out.at_ (by rw [HLX.out]; omega) n HFN.out (by omega) (fun _ h => by
    obtain ⟨h1, h2⟩ := roots_few HG.out h
    have := HLX.out
    exact ⟨h1, by omega⟩)).mono ?_
  rintro e Wr ⟨hb, hor⟩
  have HFR := Lib.hid (HFO.out.at_.below hb)
  have HAR := Lib.hid (HAW.out.trans (hb.mono HAW.out.size))
  clear hb HAW
  rcases hor with ⟨h, _⟩ | ⟨_, hfar, rfl⟩ | ⟨_, hrw, v', M', rfl, hown, hperm, hpw⟩
  · exact absurd HCK.out h
  · have HFAR := Lib.hid (show ∃ i, i < F.length ∧ (X : Int) ≤ rowA F i by rw [← HLX.out]; exact hfar)
    clear hfar
    go_wp2_with fail
    refine (check_any _ F HFR.out (by rw [HFN.out]; omega)).mono ?_
    rintro e Wc ⟨rfl, hb⟩
    rw [HCK.out]
    have HFR := Lib.hid (HFR.out.below hb)
    have HAR := Lib.hid (HAR.out.trans (hb.mono HAR.out.size))
    clear hb
    have hzz : ((0 : Int) != 0) = false := by decide
    go_wp2_with fail
    refine known_any.mono ?_
    rintro e Wk ⟨rfl, hb⟩
    have HFR := Lib.hid (HFR.out.below hb)
    have HAR := Lib.hid (HAR.out.trans (hb.mono HAR.out.size))
    have HB0 := Lib.hid (HBA.out.trans (HAR.out.mono HBA.out.size))
    clear hb
    go_wp2_with fail
    have HRW := Lib.hid (show ∀ j, j < 0 → rowA F j < (X : Int) from fun j h => absurd h (Nat.not_lt_zero j))
    go_loop [10] (fun iv => ∃ i : Nat, i ≤ n ∧ iv = .int .i64 (i : Int) ∧ Hid (∀ j, j < i → rowA F j < (X : Int))) (fun iv => n - (intOf iv).toNat)
    case atStart => exact ⟨0, Nat.zero_le _, rfl, HRW⟩
    case round =>
      obtain ⟨i, hi, rfl, HRW1⟩ := hrel
      clear HRW
      by_cases hlt : i < n
      case neg =>
        obtain rfl : n = i := by omega
        obtain ⟨j, hj, hjX⟩ := HFAR.out
        have := HRW1.out j (by rw [← HFN.out]; exact hj)
        omega
      have hiI : (i : Int) < (n : Int) := by omega
      have hiF : i < F.length := by rw [HFN.out]; exact hlt
      obtain ⟨g, o, eg, hcell⟩ := node_at HFR.out hiF
      subst eg
      obtain ⟨r, hr⟩ : ∃ r, F[i].row = r := ⟨_, rfl⟩
      have hc1 := (hcell Wk (Below.refl _ _)).1
      rw [hr] at hc1
      have HRA := Lib.hid (show rowA F i = r by rw [rowA_at hiF, hr])
      clear hcell hr
      by_cases hrX : (X : Int) ≤ r
      case pos =>
        have hdX : decide ((X : Int) ≤ r) = true := decide_eq_true hrX
        go_wp2_with fail
        exact bodyPost_ret (v := .bool true) (by simp [results, Try.results15, go_sem]) rfl ⟨rfl, HB0.out⟩
      have hdX : decide ((X : Int) ≤ r) = false := decide_eq_false hrX
      have HRN := Lib.hid (show ∀ j, j < i + 1 → rowA F j < (X : Int) from fun j hj => by
        by_cases e : j = i
        · rw [e, HRA.out]; omega
        · exact HRW1.out j (by omega))
      go_wp2_with fail
      go_round
      case rel => exact ⟨i + 1, by omega, by go_num, HRN⟩
      case measure => simp [intOf] <;> omega
  · obtain ⟨m, hm⟩ : ∃ m, (M'.map (·.1.val)).length = m := ⟨_, rfl⟩
    obtain ⟨rva, rvc, rfl⟩ := hown.form
    rw [hm] at hown ⊢
    have HRV := Lib.hid hown.at_
    have HML := Lib.hid (show M'.length = m by rw [← hm, List.length_map])
    have HMR := Lib.hid hm
    have HBL := Lib.hid (show (belowL F (-1) F.length).length = m by rw [← hm]; exact hperm.length_eq.symm)
    have HST := Lib.hid (show ∀ i (h : i < M'.length), 0 < i → ∀ (h' : i - 1 < M'.length) (x y : Fin L'.length), (M'[i - 1]).k = x → (M'[i]).k = y → 0 < cmpT L'[x].tw L'[y].tw from fun i h h0 h' x y ex ey => by
      subst ex
      subst ey
      refine rec_strict HG.out HLN.out HFN.out ?_ ?_
      · exact (List.pairwise_iff_getElem.1 hpw) (i - 1) i h' h (by omega)
      · intro e
        have hnd : (M'.map (·.1.val)).Nodup := hperm.nodup_iff.2 ((List.filter_sublist).nodup List.nodup_range)
        rw [List.nodup_iff_pairwise_ne, List.pairwise_map, List.pairwise_iff_getElem] at hnd
        exact hnd (i - 1) i h' h (by omega) (congrArg Fin.val e))
    have HRT := Lib.hid (show ∀ i (h : i < M'.length), M'[i].1.val < F.length ∧ parA F M'[i].1.val = -1 from fun i h => by
      have h1 : M'[i].1.val ∈ belowL F (-1) F.length := hperm.mem_iff.1 (List.mem_map.2 ⟨M'[i], List.getElem_mem h, rfl⟩)
      obtain ⟨h2, h3⟩ := List.mem_filter.1 h1
      exact ⟨List.mem_range.1 h2, of_decide_eq_true h3⟩)
    have hm20 : m ≤ 14 := by
      have h1 := (roots_few HG.out (L := L') hrw).2
      rw [HBL.out, HLX.out] at h1
      omega
    have HRW2 := Lib.hid (show ∀ i, i < F.length → rowA F i < (X : Int) by rw [← HLX.out]; exact hrw)
    clear hm hown hperm hpw hrw
    go_wp2_with fail
    refine (check_any _ F HFR.out (by rw [HFN.out]; omega)).mono ?_
    rintro e Wc ⟨rfl, hb⟩
    rw [HCK.out]
    have HFR := Lib.hid (HFR.out.below hb)
    have HAR := Lib.hid (HAR.out.trans (hb.mono HAR.out.size))
    have HRV := Lib.hid (HRV.out.below hb)
    clear hb
    have hzz : ((0 : Int) != 0) = false := by decide
    go_wp2_with fail
    refine known_any.mono ?_
    rintro e Wk ⟨rfl, hb⟩
    have HFR := Lib.hid (HFR.out.below hb)
    have HAR := Lib.hid (HAR.out.trans (hb.mono HAR.out.size))
    have HRV := Lib.hid (HRV.out.below hb)
    clear hb
    go_wp2_with fail
    have HRW := Lib.hid (show ∀ j, j < 0 → rowA F j < (X : Int) from fun j h => absurd h (Nat.not_lt_zero j))
    go_loop [10] (fun iv => ∃ i : Nat, i ≤ n ∧ iv = .int .i64 (i : Int) ∧ Hid (∀ j, j < i → rowA F j < (X : Int))) (fun iv => n - (intOf iv).toNat)
    case atStart => exact ⟨0, Nat.zero_le _, rfl, HRW⟩
    case round =>
      obtain ⟨i, hi, rfl, HRW1⟩ := hrel
      clear HRW
      by_cases hlt : i < n
      case neg =>
        obtain rfl : n = i := by omega
        have HALL := Lib.hid HRW1.out
        go_wp2_with fail
        refine (Roots_any _ F HFR.out (by rw [HFN.out]; omega)).mono ?_
        rintro e Wq ⟨u', rfl, hou, hb⟩
        obtain ⟨ua, uc, rfl⟩ := hou.form
        rw [HBL.out]
        have HFQ := Lib.hid (HFR.out.below hb)
        have HRQ := Lib.hid (HRV.out.below hb)
        have HAQ := Lib.hid (HAR.out.trans (hb.mono HAR.out.size))
        have HLQ := Lib.hid (HLR.out.below HAQ.out)
        have HBQ := Lib.hid (HBA.out.trans (HAQ.out.mono HBA.out.size))
        clear hou hb HRW1
        have hmm : ((m : Int) != (m : Int)) = false := by simp
        go_wp2_with fail
        try clear hmm
        try clear HG
        try clear HC1
        try clear HFE
        try clear HFO
        try clear HMA
        try clear HND
        try clear HN
        try clear HBA
        try clear HAR
        try clear HFR
        try clear HRV
        try clear HLR
        try clear HCZ
        try clear HRW2
        try clear HAQ
        try clear HLN
        try clear HBL
        try clear hzz
        try clear hHH
        try clear hiI
        try clear hnfc
        try clear hfcm
        try clear HV
        have HB1 := Lib.hid (Below.refl Wq.heap.size Wq)
        have HQ0 := Lib.hid (show (0 = 0 ∧ (-1 : Int) = -1) ∨ ∃ h : 0 - 1 < M'.length, (-1 : Int) = ((M'[0 - 1].k).val : Int) from .inl ⟨rfl, rfl⟩)
        go_loopw [11, 12] (fun lv iv wr => ∃ (q : Nat) (lz : Int), q ≤ m ∧ iv = .int .i64 (q : Int) ∧ lv = .int .i64 lz ∧ Hid ((q = 0 ∧ lz = -1) ∨ ∃ h : q - 1 < M'.length, lz = ((M'[q - 1].k).val : Int)) ∧ Hid (Below Wq.heap.size Wq wr)) (fun _ iv _ => m - (intOf iv).toNat)
        case atStart => exact ⟨0, -1, Nat.zero_le _, rfl, rfl, HQ0, HB1⟩
        case round =>
          obtain ⟨q, lz, hq, rfl, rfl, HLZ, HBW⟩ := hrel
          obtain ⟨W0, rfl⟩ : ∃ W0, W0 = wr := ⟨_, rfl⟩
          clear HB1 HQ0
          by_cases hlt : q < m
          case neg =>
            obtain rfl : q = m := by omega
            have HB0 := Lib.hid (HBQ.out.trans (HBW.out.mono HBQ.out.size))
            go_wp2_with fail
            exact bodyPost_ret (v := .bool true) (by simp [results, Try.results15, go_sem]) rfl ⟨rfl, HB0.out⟩
          refine hide_postT ?_
          intro Q2 HQ2
          have hqI : (q : Int) < (m : Int) := by omega
          have hqM : q < M'.length := by rw [HML.out]; exact hlt
          obtain ⟨T, hT⟩ : ∃ T, M'[q] = T := ⟨_, rfl⟩
          obtain ⟨htF, htp⟩ := HRT.out q hqM
          rw [hT] at htF htp
          have hqR : q < (M'.map (·.1.val)).length := by rw [HMR.out]; exact hlt
          obtain ⟨rg, ro, er, hrc⟩ := nat_cell HRQ.out hqR
          obtain ⟨t, ht⟩ : ∃ t, T.1.val = t := ⟨_, rfl⟩
          rw [show (M'.map (·.1.val))[q] = t by rw [List.getElem_map, hT, ht]] at hrc
          rw [ht] at htF htp
          subst er
          obtain ⟨fg, fo, ef, hfc⟩ := node_at HFQ.out htF
          subst ef
          have htn : t < n := by rw [← HFN.out]; exact htF
          have HRC := Lib.hid hrc
          have HTE := Lib.hid hT
          have HTV := Lib.hid ht
          have HTP := Lib.hid htp
          have HTC := Lib.hid (show ∀ w', Below Wq.heap.size Wq w' → w'.cell? ⟨fg, fo + t * 35 + 33, none⟩ = some (.int .i64 (-1)) from fun w' hw' => by
            have h1 := (hfc w' hw').2.1
            rw [← parA_at htF, htp] at h1
            exact h1)
          have HBT := Lib.hid (show bsL F L' t F.length = some T.k by
            rw [← ht]
            exact (Option.some_get T.2).symm)
          clear hrc hT ht htp hfc
          go_wp2_with fail
          have HBS := Lib.hid (show bestV (bsL F L' t 0) = -1 from rfl)
          have HBV := HBW
          go_loopw [13, 14] (fun bv kv wr => ∃ (k : Nat) (bz : Int), k ≤ n ∧ kv = .int .i64 (k : Int) ∧ bv = .int .i64 bz ∧ Hid (bestV (bsL F L' t k) = bz) ∧ Hid (Below Wq.heap.size Wq wr)) (fun _ kv _ => n - (intOf kv).toNat)
          case atStart => exact ⟨0, -1, Nat.zero_le _, rfl, rfl, HBS, HBV⟩
          case round =>
            obtain ⟨k, bz, hk, rfl, rfl, HBS1, HBW1⟩ := hrel
            obtain ⟨W1, rfl⟩ : ∃ W1, W1 = wr := ⟨_, rfl⟩
            clear HBS HBV
            by_cases hkl : k < n
            case neg =>
              obtain rfl : k = n := by omega
              obtain ⟨tk, htk⟩ : ∃ tk, T.k = tk := ⟨_, rfl⟩
              obtain rfl : (tk.val : Int) = bz := by rw [← HBS1.out, show bsL F L' t k = bsL F L' t F.length by rw [HFN.out], HBT.out, htk]; rfl
              have HNC := Lib.hid (show ∀ w', Below W1.heap.size W1 w' → w'.cell? ⟨rg, ro + q, none⟩ = some (.int .i64 (t : Int)) ∧ w'.cell? ⟨fg, fo + t * 35 + 33, none⟩ = some (.int .i64 (-1)) from fun w' hw' => by
                have hbb := HBW1.out.trans (hw'.mono HBW1.out.size)
                exact ⟨HRC.out w' hbb, HTC.out w' hbb⟩)
              have hd1 : decide ((t : Int) < 0) = false := decide_eq_false (by omega)
              have hd2 : decide ((k : Int) ≤ (t : Int)) = false := decide_eq_false (by omega)
              have hd2n : decide (k ≤ t) = false := decide_eq_false (by omega)
              have hd3 : decide ((tk.val : Int) < 0) = false := decide_eq_false (by omega)
              have htI : (t : Int) < (k : Int) := by omega
              have HQN := Lib.hid (show (q + 1 = 0 ∧ (tk.val : Int) = -1) ∨ ∃ h : q + 1 - 1 < M'.length, (tk.val : Int) = ((M'[q + 1 - 1].k).val : Int) from .inr ⟨hqM, by
                show (tk.val : Int) = ((M'[q].k).val : Int)
                rw [HTE.out, htk]⟩)
              by_cases hq0 : q = 0
              case pos =>
                have hd4 : decide ((0 : Int) < (q : Int)) = false := decide_eq_false (by omega)
                have hd4n : decide (0 < q) = false := decide_eq_false (by omega)
                clear htk hq0
                go_wp2_with fail
                refine wp_region_noPanic ?_
                refine wp_region_H (Below W1.heap.size W1) (by kernel_rfl) ?_
                have hS0 : (Below W1.heap.size W1) W1.drew := (Below.refl _ _).drew
                obtain ⟨wd, hwd⟩ : ∃ wd, W1.drew = wd := ⟨_, rfl⟩
                rw [hwd] at hS0  ⊢
                clear hwd
                refine wpAnyH_takeI (i := 0) (v := ?v1) rfl (by kernel_rfl) (by kernel_rfl) (by kernel_rfl) (fun _ _ _ h => h) (yieldsIf_run rfl (fun w' hw' => ?y1)) hS0 ?_
                case y1 => first | (go_simp; rfl) | (go_simp; done) | rfl
                simp only [Act.put, List.setIfInBounds_toArray, List.set_cons_zero, List.set_cons_succ]
                refine wpAnyH_takeI (i := 1) (v := ?v2) rfl (by kernel_rfl) (by kernel_rfl) (by kernel_rfl) (fun _ _ _ h => h) (yieldsIf_run rfl (fun w' hw' => ?y2)) hS0 ?_
                case y2 => first | (go_simp; rfl) | (go_simp; done) | rfl
                simp only [Act.put, List.setIfInBounds_toArray, List.set_cons_zero, List.set_cons_succ]
                refine wpAnyH_takeI (i := 2) (v := ?v3) rfl (by kernel_rfl) (by kernel_rfl) (by kernel_rfl) (fun _ _ _ h => h) (yieldsIf_run rfl (fun w' hw' => ?y3)) hS0 ?_
                case y3 => first | (go_simp; rfl) | (go_simp; done) | rfl
                simp only [Act.put, List.setIfInBounds_toArray, List.set_cons_zero, List.set_cons_succ]
                refine wpAnyH_takeI (i := 3) (v := ?v4) rfl (by kernel_rfl) (by kernel_rfl) (by kernel_rfl) (fun _ _ _ h => h) (yieldsIf_run rfl (fun w' hw' => ?y4)) hS0 ?_
                case y4 => (obtain ⟨h1, h2⟩ := HNC.out w' hw'; clear hw'; first | (go_simp; rfl) | (go_simp; done))
                simp only [Act.put, List.setIfInBounds_toArray, List.set_cons_zero, List.set_cons_succ]
                refine wpAnyH_takeI (i := 4) (v := ?v5) rfl (by kernel_rfl) (by kernel_rfl) (by kernel_rfl) (fun _ _ _ h => h) (yieldsIf_run rfl (fun w' hw' => ?y5)) hS0 ?_
                case y5 => first | (go_simp; rfl) | (go_simp; done) | rfl
                simp only [Act.put, List.setIfInBounds_toArray, List.set_cons_zero, List.set_cons_succ]
                refine wpAnyH_takeI (i := 5) (v := ?v6) rfl (by kernel_rfl) (by kernel_rfl) (by kernel_rfl) (fun _ _ _ h => h) (yieldsIf_run rfl (fun w' hw' => ?y6)) hS0 ?_
                case y6 => first | (go_simp; rfl) | (go_simp; done) | rfl
                simp only [Act.put, List.setIfInBounds_toArray, List.set_cons_zero, List.set_cons_succ]
                refine wpAnyH_takeI (i := 6) (v := ?v7) rfl (by kernel_rfl) (by kernel_rfl) (by kernel_rfl) (fun _ _ _ h => h) (yieldsIf_want rfl (fun w' hw' => ?y7)) hS0 ?_
                case y7 => first | (go_simp; rfl) | (go_simp; done) | rfl
                simp only [Act.put, List.setIfInBounds_toArray, List.set_cons_zero, List.set_cons_succ]
                refine wpAnyH_takeI (i := 7) (v := ?v8) rfl (by kernel_rfl) (by kernel_rfl) (by kernel_rfl) (fun _ _ _ h => h) (yieldsIf_want rfl (fun w' hw' => ?y8)) hS0 ?_
                case y8 => first | (go_simp; rfl) | (go_simp; done) | rfl
                simp only [Act.put, List.setIfInBounds_toArray, List.set_cons_zero, List.set_cons_succ]
                refine wpAnyH_takeI (i := 8) (v := ?v9) rfl (by kernel_rfl) (by kernel_rfl) (by kernel_rfl) (fun _ _ _ h => h) (yieldsIf_want rfl (fun w' hw' => ?y9)) hS0 ?_
                case y9 => first | (go_simp; rfl) | (go_simp; done) | rfl
                simp only [Act.put, List.setIfInBounds_toArray, List.set_cons_zero, List.set_cons_succ]
                refine wpAnyH_takeI (i := 9) (v := ?v10) rfl (by kernel_rfl) (by kernel_rfl) (by kernel_rfl) (fun _ _ _ h => h) (yieldsIf_want rfl (fun w' hw' => ?y10)) hS0 ?_
                case y10 => (obtain ⟨h1, h2⟩ := HNC.out w' hw'; clear hw'; first | (go_simp; rfl) | (go_simp; done))
                simp only [Act.put, List.setIfInBounds_toArray, List.set_cons_zero, List.set_cons_succ]
                refine wpAnyH_takeI (i := 10) (v := ?v11) rfl (by kernel_rfl) (by kernel_rfl) (by kernel_rfl) (fun _ _ _ h => h) (yieldsIf_want rfl (fun w' hw' => ?y11)) hS0 ?_
                case y11 => first | (go_simp; rfl) | (go_simp; done) | rfl
                simp only [Act.put, List.setIfInBounds_toArray, List.set_cons_zero, List.set_cons_succ]
                refine wpAnyH_takeI (i := 11) (v := ?v12) rfl (by kernel_rfl) (by kernel_rfl) (by kernel_rfl) (fun _ _ _ h => h) (yieldsIf_want rfl (fun w' hw' => ?y12)) hS0 ?_
                case y12 => first | (go_simp; rfl) | (go_simp; done) | rfl
                simp only [Act.put, List.setIfInBounds_toArray, List.set_cons_zero, List.set_cons_succ]
                refine wpAnyH_takeI (i := 12) (v := ?v13) rfl (by kernel_rfl) (by kernel_rfl) (by kernel_rfl) (fun _ _ _ h => h) (yieldsIf_want rfl (fun w' hw' => ?y13)) hS0 ?_
                case y13 => first | (go_simp; rfl) | (go_simp; done) | rfl
                simp only [Act.put, List.setIfInBounds_toArray, List.set_cons_zero, List.set_cons_succ]
                refine wpAnyH_takeI (i := 13) (v := ?v14) rfl (by kernel_rfl) (by kernel_rfl) (by kernel_rfl) (fun _ _ _ h => h) (yieldsIf_run rfl (fun w' hw' => ?y14)) hS0 ?_
                case y14 => first | (go_simp; rfl) | (go_simp; done) | rfl
                simp only [Act.put, List.setIfInBounds_toArray, List.set_cons_zero, List.set_cons_succ]
                refine wpAnyH_takeI (i := 14) (v := ?v15) rfl (by kernel_rfl) (by kernel_rfl) (by kernel_rfl) (fun _ _ _ h => h) (yieldsIf_run rfl (fun w' hw' => ?y15)) hS0 ?_
                case y15 => first | (go_simp; rfl) | (go_simp; done) | rfl
                simp only [Act.put, List.setIfInBounds_toArray, List.set_cons_zero, List.set_cons_succ]
                refine wpAnyH_takeI (i := 15) (v := ?v16) rfl (by kernel_rfl) (by kernel_rfl) (by kernel_rfl) (fun _ _ _ h => h) (yieldsIf_want rfl (fun w' hw' => ?y16)) hS0 ?_
                case y16 => first | (go_simp; rfl) | (go_simp; done) | rfl
                simp only [Act.put, List.setIfInBounds_toArray, List.set_cons_zero, List.set_cons_succ]
                refine wpAnyH_takeI (i := 16) (v := ?v17) rfl (by kernel_rfl) (by kernel_rfl) (by kernel_rfl) (fun _ _ _ h => h) (yieldsIf_want rfl (fun w' hw' => ?y17)) hS0 ?_
                case y17 => first | (go_simp; rfl) | (go_simp; done) | rfl
                simp only [Act.put, List.setIfInBounds_toArray, List.set_cons_zero, List.set_cons_succ]
                refine wpAnyH_takeI (i := 17) (v := ?v18) rfl (by kernel_rfl) (by kernel_rfl) (by kernel_rfl) (fun _ _ _ h => h) (yieldsIf_want rfl (fun w' hw' => ?y18)) hS0 ?_
                case y18 => first | (go_simp; rfl) | (go_simp; done) | rfl
                simp only [Act.put, List.setIfInBounds_toArray, List.set_cons_zero, List.set_cons_succ]
                refine wpAnyH_takeI (i := 18) (v := ?v19) rfl (by kernel_rfl) (by kernel_rfl) (by kernel_rfl) (fun _ _ _ h => h) (yieldsIf_want rfl (fun w' hw' => ?y19)) hS0 ?_
                case y19 => first | (go_simp; rfl) | (go_simp; done) | rfl
                simp only [Act.put, List.setIfInBounds_toArray, List.set_cons_zero, List.set_cons_succ]
                refine wpAnyH_takeI (i := 19) (v := ?v20) rfl (by kernel_rfl) (by kernel_rfl) (by kernel_rfl) (fun _ _ _ h => h) (yieldsIf_want rfl (fun w' hw' => ?y20)) hS0 ?_
                case y20 => (obtain ⟨h1, h2⟩ := HNC.out w' hw'; clear hw'; first | (go_simp; rfl) | (go_simp; done))
                simp only [Act.put, List.setIfInBounds_toArray, List.set_cons_zero, List.set_cons_succ]
                refine wpAnyH_takeI (i := 20) (v := ?v21) rfl (by kernel_rfl) (by kernel_rfl) (by kernel_rfl) (fun _ _ _ h => h) (yieldsIf_want rfl (fun w' hw' => ?y21)) hS0 ?_
                case y21 => first | (go_simp; rfl) | (go_simp; done) | rfl
                simp only [Act.put, List.setIfInBounds_toArray, List.set_cons_zero, List.set_cons_succ]
                refine wpAnyH_takeI (i := 21) (v := ?v22) rfl (by kernel_rfl) (by kernel_rfl) (by kernel_rfl) (fun _ _ _ h => h) (yieldsIf_want rfl (fun w' hw' => ?y22)) hS0 ?_
                case y22 => first | (go_simp; rfl) | (go_simp; done) | rfl
                simp only [Act.put, List.setIfInBounds_toArray, List.set_cons_zero, List.set_cons_succ]
                refine wpAnyH_takeI (i := 22) (v := ?v23) rfl (by kernel_rfl) (by kernel_rfl) (by kernel_rfl) (fun _ _ _ h => h) (yieldsIf_want rfl (fun w' hw' => ?y23)) hS0 ?_
                case y23 => (obtain ⟨h1, h2⟩ := HNC.out w' hw'; clear hw'; first | (go_simp; rfl) | (go_simp; done))
                simp only [Act.put, List.setIfInBounds_toArray, List.set_cons_zero, List.set_cons_succ]
                refine wpAnyH_takeI (i := 23) (v := ?v24) rfl (by kernel_rfl) (by kernel_rfl) (by kernel_rfl) (fun _ _ _ h => h) (yieldsIf_want rfl (fun w' hw' => ?y24)) hS0 ?_
                case y24 => first | (go_simp; rfl) | (go_simp; done) | rfl
                simp only [Act.put, List.setIfInBounds_toArray, List.set_cons_zero, List.set_cons_succ]
                refine wpAnyH_takeI (i := 24) (v := ?v25) rfl (by kernel_rfl) (by kernel_rfl) (by kernel_rfl) (fun _ _ _ h => h) (yieldsIf_run rfl (fun w' hw' => ?y25)) hS0 ?_
                case y25 => first | (go_simp; rfl) | (go_simp; done) | rfl
                simp only [Act.put, List.setIfInBounds_toArray, List.set_cons_zero, List.set_cons_succ]
                refine wpAnyH_takeI (i := 25) (v := ?v26) rfl (by kernel_rfl) (by kernel_rfl) (by kernel_rfl) (fun _ _ _ h => h) (yieldsIf_run rfl (fun w' hw' => ?y26)) hS0 ?_
                case y26 => first | (go_simp; rfl) | (go_simp; done) | rfl
                simp only [Act.put, List.setIfInBounds_toArray, List.set_cons_zero, List.set_cons_succ]
                refine wpAnyH_takeI (i := 26) (v := ?v27) rfl (by kernel_rfl) (by kernel_rfl) (by kernel_rfl) (fun _ _ _ h => h) (yieldsIf_want rfl (fun w' hw' => ?y27)) hS0 ?_
                case y27 => first | (go_simp; rfl) | (go_simp; done) | rfl
                simp only [Act.put, List.setIfInBounds_toArray, List.set_cons_zero, List.set_cons_succ]
                refine wpAnyH_takeI (i := 27) (v := ?v28) rfl (by kernel_rfl) (by kernel_rfl) (by kernel_rfl) (fun _ _ _ h => h) (yieldsIf_want rfl (fun w' hw' => ?y28)) hS0 ?_
                case y28 => first | (go_simp; rfl) | (go_simp; done) | rfl
                simp only [Act.put, List.setIfInBounds_toArray, List.set_cons_zero, List.set_cons_succ]
                refine wpAnyH_takeI (i := 28) (v := ?v29) rfl (by kernel_rfl) (by kernel_rfl) (by kernel_rfl) (fun _ _ _ h => h) (yieldsIf_run rfl (fun w' hw' => ?y29)) hS0 ?_
                case y29 => first | (go_simp; rfl) | (go_simp; done) | rfl
                simp only [Act.put, List.setIfInBounds_toArray, List.set_cons_zero, List.set_cons_succ]
                refine wpAnyH_takeI (i := 29) (v := ?v30) rfl (by kernel_rfl) (by kernel_rfl) (by kernel_rfl) (fun _ _ _ h => h) (yieldsIf_run rfl (fun w' hw' => ?y30)) hS0 ?_
                case y30 => first | (go_simp; rfl) | (go_simp; done) | rfl
                simp only [Act.put, List.setIfInBounds_toArray, List.set_cons_zero, List.set_cons_succ]
                refine wpAnyH_takeI (i := 30) (v := ?v31) rfl (by kernel_rfl) (by kernel_rfl) (by kernel_rfl) (fun _ _ _ h => h) (yieldsIf_want rfl (fun w' hw' => ?y31)) hS0 ?_
                case y31 => first | (go_simp; rfl) | (go_simp; done) | rfl
                simp only [Act.put, List.setIfInBounds_toArray, List.set_cons_zero, List.set_cons_succ]
                refine wpAnyH_takeI (i := 31) (v := ?v32) rfl (by kernel_rfl) (by kernel_rfl) (by kernel_rfl) (fun _ _ _ h => h) (yieldsIf_want rfl (fun w' hw' => ?y32)) hS0 ?_
                case y32 => first | (go_simp; rfl) | (go_simp; done) | rfl
                simp only [Act.put, List.setIfInBounds_toArray, List.set_cons_zero, List.set_cons_succ]
                refine wpAnyH_takeI (i := 32) (v := ?v33) rfl (by kernel_rfl) (by kernel_rfl) (by kernel_rfl) (fun _ _ _ h => h) (yieldsIf_want rfl (fun w' hw' => ?y33)) hS0 ?_
                case y33 => first | (go_simp; rfl) | (go_simp; done) | rfl
                simp only [Act.put, List.setIfInBounds_toArray, List.set_cons_zero, List.set_cons_succ]
                refine wpAnyH_takeI (i := 33) (v := undef) rfl (by kernel_rfl) (by kernel_rfl) (by kernel_rfl) (fun _ _ _ h => h) (yieldsIf_skip rfl) hS0 ?_
                simp only [Act.put, List.setIfInBounds_toArray, List.set_cons_zero, List.set_cons_succ]
                refine wpAnyH_takeI (i := 34) (v := undef) rfl (by kernel_rfl) (by kernel_rfl) (by kernel_rfl) (fun _ _ _ h => h) (yieldsIf_skip rfl) hS0 ?_
                simp only [Act.put, List.setIfInBounds_toArray, List.set_cons_zero, List.set_cons_succ]
                refine wpAnyH_takeI (i := 35) (v := undef) rfl (by kernel_rfl) (by kernel_rfl) (by kernel_rfl) (fun _ _ _ h => h) (yieldsIf_skip rfl) hS0 ?_
                simp only [Act.put, List.setIfInBounds_toArray, List.set_cons_zero, List.set_cons_succ]
                refine wpAnyH_takeI (i := 36) (v := undef) rfl (by kernel_rfl) (by kernel_rfl) (by kernel_rfl) (fun _ _ _ h => h) (yieldsIf_skip rfl) hS0 ?_
                simp only [Act.put, List.setIfInBounds_toArray, List.set_cons_zero, List.set_cons_succ]
                refine wpAnyH_takeI (i := 37) (v := undef) rfl (by kernel_rfl) (by kernel_rfl) (by kernel_rfl) (fun _ _ _ h => h) (yieldsIf_skip rfl) hS0 ?_
                simp only [Act.put, List.setIfInBounds_toArray, List.set_cons_zero, List.set_cons_succ]
                refine wpAnyH_takeI (i := 38) (v := undef) rfl (by kernel_rfl) (by kernel_rfl) (by kernel_rfl) (fun _ _ _ h => h) (yieldsIf_skip rfl) hS0 ?_
                simp only [Act.put, List.setIfInBounds_toArray, List.set_cons_zero, List.set_cons_succ]
                refine wpAnyH_takeI (i := 39) (v := undef) rfl (by kernel_rfl) (by kernel_rfl) (by kernel_rfl) (fun _ _ _ h => h) (yieldsIf_skip rfl) hS0 ?_
                simp only [Act.put, List.setIfInBounds_toArray, List.set_cons_zero, List.set_cons_succ]
                refine wpAnyH_takeI (i := 40) (v := undef) rfl (by kernel_rfl) (by kernel_rfl) (by kernel_rfl) (fun _ _ _ h => h) (yieldsIf_skip rfl) hS0 ?_
                simp only [Act.put, List.setIfInBounds_toArray, List.set_cons_zero, List.set_cons_succ]
                refine wpAnyH_takeI (i := 41) (v := undef) rfl (by kernel_rfl) (by kernel_rfl) (by kernel_rfl) (fun _ _ _ h => h) (yieldsIf_skip rfl) hS0 ?_
                simp only [Act.put, List.setIfInBounds_toArray, List.set_cons_zero, List.set_cons_succ]
                refine wpAnyH_takeI (i := 42) (v := undef) rfl (by kernel_rfl) (by kernel_rfl) (by kernel_rfl) (fun _ _ _ h => h) (yieldsIf_skip rfl) hS0 ?_
                simp only [Act.put, List.setIfInBounds_toArray, List.set_cons_zero, List.set_cons_succ]
                refine wpAnyH_takeI (i := 43) (v := ?v34) rfl (by kernel_rfl) (by kernel_rfl) (by kernel_rfl) (fun _ _ _ h => h) (yieldsIf_want rfl (fun w' hw' => ?y34)) hS0 ?_
                case y34 => first | (go_simp; rfl) | (go_simp; done) | rfl
                simp only [Act.put, List.setIfInBounds_toArray, List.set_cons_zero, List.set_cons_succ]
                refine wpAnyH_takeI (i := 44) (v := ?v35) rfl (by kernel_rfl) (by kernel_rfl) (by kernel_rfl) (fun _ _ _ h => h) (yieldsIf_run rfl (fun w' hw' => ?y35)) hS0 ?_
                case y35 => first | (go_simp; rfl) | (go_simp; done) | rfl
                simp only [Act.put, List.setIfInBounds_toArray, List.set_cons_zero, List.set_cons_succ]
                refine wpAnyH_done (by kernel_rfl) ?_ _
                refine NoPanic.normal ?_
                have HBN := Lib.hid (HBW1.out.trans (hS0.mono HBW1.out.size))
                go_wp2_with fail
                rw [HQ2.out]
                change _ ∧ _
                go_roundw
                case rel => exact ⟨q + 1, (tk.val : Int), by omega, by go_num, rfl, HQN, HBN⟩
                case measure => simp [intOf] <;> omega
              case neg =>
                have hd4 : decide ((0 : Int) < (q : Int)) = true := decide_eq_true (by omega)
                have hd4n : decide (0 < q) = true := decide_eq_true (by omega)
                obtain ⟨hq1, hlz⟩ : ∃ h : q - 1 < M'.length, lz = ((M'[q - 1].k).val : Int) := by
                  rcases HLZ.out with ⟨h, _⟩ | h
                  · exact absurd h hq0
                  · exact h
                obtain ⟨tl, htl⟩ : ∃ tl, M'[q - 1].k = tl := ⟨_, rfl⟩
                rw [htl] at hlz
                subst hlz
                have hst := HST.out q hqM (by omega) hq1 tl tk htl (by rw [HTE.out, htk])
                obtain ⟨gx, ox, rfl, hgx, _⟩ := HLQ.out.l.get tk.isLt
                have HRX := Lib.hid (show ∀ w', Below W1.heap.size W1 w' → ∀ z : Fin L'.length, w'.rangeAt gx (ox + z.val * 83) L'[z].cells from fun w' hw' z => by
                  obtain ⟨g', o', e, hg', hr'⟩ := HLQ.out.l.get z.isLt
                  cases e
                  exact range_below hr' hg' (HBW1.out.trans (hw'.mono HBW1.out.size)))
                have hxI : (tk.val : Int) < (X : Int) := by have := tk.isLt; have := HLX.out; omega
                have hyI : (tl.val : Int) < (X : Int) := by have := tl.isLt; have := HLX.out; omega
                obtain ⟨cv, hcv⟩ : ∃ cv, cmpT L'[tl].tw L'[tk].tw = cv := ⟨_, rfl⟩
                rw [hcv] at hst
                have HCV := Lib.hid hcv
                have hd5 : decide (cv ≤ 0) = false := decide_eq_false (by omega)
                clear hcv hgx hq0
                try clear htk
                try clear htl
                go_wp2_with fail
                refine wp_region_noPanic ?_
                refine wp_region_H (Below W1.heap.size W1) (by kernel_rfl) ?_
                have hS0 : (Below W1.heap.size W1) W1.drew := (Below.refl _ _).drew
                obtain ⟨wd, hwd⟩ : ∃ wd, W1.drew = wd := ⟨_, rfl⟩
                rw [hwd] at hS0  ⊢
                clear hwd
                refine wpAnyH_takeI (i := 0) (v := ?v36) rfl (by kernel_rfl) (by kernel_rfl) (by kernel_rfl) (fun _ _ _ h => h) (yieldsIf_run rfl (fun w' hw' => ?y36)) hS0 ?_
                case y36 => first | (go_simp; rfl) | (go_simp; done) | rfl
                simp only [Act.put, List.setIfInBounds_toArray, List.set_cons_zero, List.set_cons_succ]
                refine wpAnyH_takeI (i := 1) (v := ?v37) rfl (by kernel_rfl) (by kernel_rfl) (by kernel_rfl) (fun _ _ _ h => h) (yieldsIf_run rfl (fun w' hw' => ?y37)) hS0 ?_
                case y37 => first | (go_simp; rfl) | (go_simp; done) | rfl
                simp only [Act.put, List.setIfInBounds_toArray, List.set_cons_zero, List.set_cons_succ]
                refine wpAnyH_takeI (i := 2) (v := ?v38) rfl (by kernel_rfl) (by kernel_rfl) (by kernel_rfl) (fun _ _ _ h => h) (yieldsIf_run rfl (fun w' hw' => ?y38)) hS0 ?_
                case y38 => first | (go_simp; rfl) | (go_simp; done) | rfl
                simp only [Act.put, List.setIfInBounds_toArray, List.set_cons_zero, List.set_cons_succ]
                refine wpAnyH_takeI (i := 3) (v := ?v39) rfl (by kernel_rfl) (by kernel_rfl) (by kernel_rfl) (fun _ _ _ h => h) (yieldsIf_run rfl (fun w' hw' => ?y39)) hS0 ?_
                case y39 => (obtain ⟨h1, h2⟩ := HNC.out w' hw'; clear hw'; first | (go_simp; rfl) | (go_simp; done))
                simp only [Act.put, List.setIfInBounds_toArray, List.set_cons_zero, List.set_cons_succ]
                refine wpAnyH_takeI (i := 4) (v := ?v40) rfl (by kernel_rfl) (by kernel_rfl) (by kernel_rfl) (fun _ _ _ h => h) (yieldsIf_run rfl (fun w' hw' => ?y40)) hS0 ?_
                case y40 => first | (go_simp; rfl) | (go_simp; done) | rfl
                simp only [Act.put, List.setIfInBounds_toArray, List.set_cons_zero, List.set_cons_succ]
                refine wpAnyH_takeI (i := 5) (v := ?v41) rfl (by kernel_rfl) (by kernel_rfl) (by kernel_rfl) (fun _ _ _ h => h) (yieldsIf_run rfl (fun w' hw' => ?y41)) hS0 ?_
                case y41 => first | (go_simp; rfl) | (go_simp; done) | rfl
                simp only [Act.put, List.setIfInBounds_toArray, List.set_cons_zero, List.set_cons_succ]
                refine wpAnyH_takeI (i := 6) (v := ?v42) rfl (by kernel_rfl) (by kernel_rfl) (by kernel_rfl) (fun _ _ _ h => h) (yieldsIf_want rfl (fun w' hw' => ?y42)) hS0 ?_
                case y42 => first | (go_simp; rfl) | (go_simp; done) | rfl
                simp only [Act.put, List.setIfInBounds_toArray, List.set_cons_zero, List.set_cons_succ]
                refine wpAnyH_takeI (i := 7) (v := ?v43) rfl (by kernel_rfl) (by kernel_rfl) (by kernel_rfl) (fun _ _ _ h => h) (yieldsIf_want rfl (fun w' hw' => ?y43)) hS0 ?_
                case y43 => first | (go_simp; rfl) | (go_simp; done) | rfl
                simp only [Act.put, List.setIfInBounds_toArray, List.set_cons_zero, List.set_cons_succ]
                refine wpAnyH_takeI (i := 8) (v := ?v44) rfl (by kernel_rfl) (by kernel_rfl) (by kernel_rfl) (fun _ _ _ h => h) (yieldsIf_want rfl (fun w' hw' => ?y44)) hS0 ?_
                case y44 => first | (go_simp; rfl) | (go_simp; done) | rfl
                simp only [Act.put, List.setIfInBounds_toArray, List.set_cons_zero, List.set_cons_succ]
                refine wpAnyH_takeI (i := 9) (v := ?v45) rfl (by kernel_rfl) (by kernel_rfl) (by kernel_rfl) (fun _ _ _ h => h) (yieldsIf_want rfl (fun w' hw' => ?y45)) hS0 ?_
                case y45 => (obtain ⟨h1, h2⟩ := HNC.out w' hw'; clear hw'; first | (go_simp; rfl) | (go_simp; done))
                simp only [Act.put, List.setIfInBounds_toArray, List.set_cons_zero, List.set_cons_succ]
                refine wpAnyH_takeI (i := 10) (v := ?v46) rfl (by kernel_rfl) (by kernel_rfl) (by kernel_rfl) (fun _ _ _ h => h) (yieldsIf_want rfl (fun w' hw' => ?y46)) hS0 ?_
                case y46 => first | (go_simp; rfl) | (go_simp; done) | rfl
                simp only [Act.put, List.setIfInBounds_toArray, List.set_cons_zero, List.set_cons_succ]
                refine wpAnyH_takeI (i := 11) (v := ?v47) rfl (by kernel_rfl) (by kernel_rfl) (by kernel_rfl) (fun _ _ _ h => h) (yieldsIf_want rfl (fun w' hw' => ?y47)) hS0 ?_
                case y47 => first | (go_simp; rfl) | (go_simp; done) | rfl
                simp only [Act.put, List.setIfInBounds_toArray, List.set_cons_zero, List.set_cons_succ]
                refine wpAnyH_takeI (i := 12) (v := ?v48) rfl (by kernel_rfl) (by kernel_rfl) (by kernel_rfl) (fun _ _ _ h => h) (yieldsIf_want rfl (fun w' hw' => ?y48)) hS0 ?_
                case y48 => first | (go_simp; rfl) | (go_simp; done) | rfl
                simp only [Act.put, List.setIfInBounds_toArray, List.set_cons_zero, List.set_cons_succ]
                refine wpAnyH_takeI (i := 13) (v := ?v49) rfl (by kernel_rfl) (by kernel_rfl) (by kernel_rfl) (fun _ _ _ h => h) (yieldsIf_run rfl (fun w' hw' => ?y49)) hS0 ?_
                case y49 => first | (go_simp; rfl) | (go_simp; done) | rfl
                simp only [Act.put, List.setIfInBounds_toArray, List.set_cons_zero, List.set_cons_succ]
                refine wpAnyH_takeI (i := 14) (v := ?v50) rfl (by kernel_rfl) (by kernel_rfl) (by kernel_rfl) (fun _ _ _ h => h) (yieldsIf_run rfl (fun w' hw' => ?y50)) hS0 ?_
                case y50 => first | (go_simp; rfl) | (go_simp; done) | rfl
                simp only [Act.put, List.setIfInBounds_toArray, List.set_cons_zero, List.set_cons_succ]
                refine wpAnyH_takeI (i := 15) (v := ?v51) rfl (by kernel_rfl) (by kernel_rfl) (by kernel_rfl) (fun _ _ _ h => h) (yieldsIf_want rfl (fun w' hw' => ?y51)) hS0 ?_
                case y51 => first | (go_simp; rfl) | (go_simp; done) | rfl
                simp only [Act.put, List.setIfInBounds_toArray, List.set_cons_zero, List.set_cons_succ]
                refine wpAnyH_takeI (i := 16) (v := ?v52) rfl (by kernel_rfl) (by kernel_rfl) (by kernel_rfl) (fun _ _ _ h => h) (yieldsIf_want rfl (fun w' hw' => ?y52)) hS0 ?_
                case y52 => first | (go_simp; rfl) | (go_simp; done) | rfl
                simp only [Act.put, List.setIfInBounds_toArray, List.set_cons_zero, List.set_cons_succ]
                refine wpAnyH_takeI (i := 17) (v := ?v53) rfl (by kernel_rfl) (by kernel_rfl) (by kernel_rfl) (fun _ _ _ h => h) (yieldsIf_want rfl (fun w' hw' => ?y53)) hS0 ?_
                case y53 => first | (go_simp; rfl) | (go_simp; done) | rfl
                simp only [Act.put, List.setIfInBounds_toArray, List.set_cons_zero, List.set_cons_succ]
                refine wpAnyH_takeI (i := 18) (v := ?v54) rfl (by kernel_rfl) (by kernel_rfl) (by kernel_rfl) (fun _ _ _ h => h) (yieldsIf_want rfl (fun w' hw' => ?y54)) hS0 ?_
                case y54 => first | (go_simp; rfl) | (go_simp; done) | rfl
                simp only [Act.put, List.setIfInBounds_toArray, List.set_cons_zero, List.set_cons_succ]
                refine wpAnyH_takeI (i := 19) (v := ?v55) rfl (by kernel_rfl) (by kernel_rfl) (by kernel_rfl) (fun _ _ _ h => h) (yieldsIf_want rfl (fun w' hw' => ?y55)) hS0 ?_
                case y55 => (obtain ⟨h1, h2⟩ := HNC.out w' hw'; clear hw'; first | (go_simp; rfl) | (go_simp; done))
                simp only [Act.put, List.setIfInBounds_toArray, List.set_cons_zero, List.set_cons_succ]
                refine wpAnyH_takeI (i := 20) (v := ?v56) rfl (by kernel_rfl) (by kernel_rfl) (by kernel_rfl) (fun _ _ _ h => h) (yieldsIf_want rfl (fun w' hw' => ?y56)) hS0 ?_
                case y56 => first | (go_simp; rfl) | (go_simp; done) | rfl
                simp only [Act.put, List.setIfInBounds_toArray, List.set_cons_zero, List.set_cons_succ]
                refine wpAnyH_takeI (i := 21) (v := ?v57) rfl (by kernel_rfl) (by kernel_rfl) (by kernel_rfl) (fun _ _ _ h => h) (yieldsIf_want rfl (fun w' hw' => ?y57)) hS0 ?_
                case y57 => first | (go_simp; rfl) | (go_simp; done) | rfl
                simp only [Act.put, List.setIfInBounds_toArray, List.set_cons_zero, List.set_cons_succ]
                refine wpAnyH_takeI (i := 22) (v := ?v58) rfl (by kernel_rfl) (by kernel_rfl) (by kernel_rfl) (fun _ _ _ h => h) (yieldsIf_want rfl (fun w' hw' => ?y58)) hS0 ?_
                case y58 => (obtain ⟨h1, h2⟩ := HNC.out w' hw'; clear hw'; first | (go_simp; rfl) | (go_simp; done))
                simp only [Act.put, List.setIfInBounds_toArray, List.set_cons_zero, List.set_cons_succ]
                refine wpAnyH_takeI (i := 23) (v := ?v59) rfl (by kernel_rfl) (by kernel_rfl) (by kernel_rfl) (fun _ _ _ h => h) (yieldsIf_want rfl (fun w' hw' => ?y59)) hS0 ?_
                case y59 => first | (go_simp; rfl) | (go_simp; done) | rfl
                simp only [Act.put, List.setIfInBounds_toArray, List.set_cons_zero, List.set_cons_succ]
                refine wpAnyH_takeI (i := 24) (v := ?v60) rfl (by kernel_rfl) (by kernel_rfl) (by kernel_rfl) (fun _ _ _ h => h) (yieldsIf_run rfl (fun w' hw' => ?y60)) hS0 ?_
                case y60 => first | (go_simp; rfl) | (go_simp; done) | rfl
                simp only [Act.put, List.setIfInBounds_toArray, List.set_cons_zero, List.set_cons_succ]
                refine wpAnyH_takeI (i := 25) (v := ?v61) rfl (by kernel_rfl) (by kernel_rfl) (by kernel_rfl) (fun _ _ _ h => h) (yieldsIf_run rfl (fun w' hw' => ?y61)) hS0 ?_
                case y61 => first | (go_simp; rfl) | (go_simp; done) | rfl
                simp only [Act.put, List.setIfInBounds_toArray, List.set_cons_zero, List.set_cons_succ]
                refine wpAnyH_takeI (i := 26) (v := ?v62) rfl (by kernel_rfl) (by kernel_rfl) (by kernel_rfl) (fun _ _ _ h => h) (yieldsIf_want rfl (fun w' hw' => ?y62)) hS0 ?_
                case y62 => first | (go_simp; rfl) | (go_simp; done) | rfl
                simp only [Act.put, List.setIfInBounds_toArray, List.set_cons_zero, List.set_cons_succ]
                refine wpAnyH_takeI (i := 27) (v := ?v63) rfl (by kernel_rfl) (by kernel_rfl) (by kernel_rfl) (fun _ _ _ h => h) (yieldsIf_want rfl (fun w' hw' => ?y63)) hS0 ?_
                case y63 => first | (go_simp; rfl) | (go_simp; done) | rfl
                simp only [Act.put, List.setIfInBounds_toArray, List.set_cons_zero, List.set_cons_succ]
                refine wpAnyH_takeI (i := 28) (v := ?v64) rfl (by kernel_rfl) (by kernel_rfl) (by kernel_rfl) (fun _ _ _ h => h) (yieldsIf_run rfl (fun w' hw' => ?y64)) hS0 ?_
                case y64 => first | (go_simp; rfl) | (go_simp; done) | rfl
                simp only [Act.put, List.setIfInBounds_toArray, List.set_cons_zero, List.set_cons_succ]
                refine wpAnyH_takeI (i := 29) (v := ?v65) rfl (by kernel_rfl) (by kernel_rfl) (by kernel_rfl) (fun _ _ _ h => h) (yieldsIf_run rfl (fun w' hw' => ?y65)) hS0 ?_
                case y65 => first | (go_simp; rfl) | (go_simp; done) | rfl
                simp only [Act.put, List.setIfInBounds_toArray, List.set_cons_zero, List.set_cons_succ]
                refine wpAnyH_takeI (i := 30) (v := ?v66) rfl (by kernel_rfl) (by kernel_rfl) (by kernel_rfl) (fun _ _ _ h => h) (yieldsIf_want rfl (fun w' hw' => ?y66)) hS0 ?_
                case y66 => first | (go_simp; rfl) | (go_simp; done) | rfl
                simp only [Act.put, List.setIfInBounds_toArray, List.set_cons_zero, List.set_cons_succ]
                refine wpAnyH_takeI (i := 31) (v := ?v67) rfl (by kernel_rfl) (by kernel_rfl) (by kernel_rfl) (fun _ _ _ h => h) (yieldsIf_want rfl (fun w' hw' => ?y67)) hS0 ?_
                case y67 => first | (go_simp; rfl) | (go_simp; done) | rfl
                simp only [Act.put, List.setIfInBounds_toArray, List.set_cons_zero, List.set_cons_succ]
                refine wpAnyH_takeI (i := 32) (v := ?v68) rfl (by kernel_rfl) (by kernel_rfl) (by kernel_rfl) (fun _ _ _ h => h) (yieldsIf_want rfl (fun w' hw' => ?y68)) hS0 ?_
                case y68 => first | (go_simp; rfl) | (go_simp; done) | rfl
                simp only [Act.put, List.setIfInBounds_toArray, List.set_cons_zero, List.set_cons_succ]
                refine wpAnyH_takeI (i := 33) (v := ?v69) rfl (by kernel_rfl) (by kernel_rfl) (by kernel_rfl) (fun _ _ _ h => h) (yieldsIf_want rfl (fun w' hw' => ?y69)) hS0 ?_
                case y69 => first | (go_simp; rfl) | (go_simp; done) | rfl
                simp only [Act.put, List.setIfInBounds_toArray, List.set_cons_zero, List.set_cons_succ]
                refine wpAnyH_takeI (i := 34) (v := ?v70) rfl (by kernel_rfl) (by kernel_rfl) (by kernel_rfl) (fun _ _ _ h => h) (yieldsIf_want rfl (fun w' hw' => ?y70)) hS0 ?_
                case y70 => first | (go_simp; rfl) | (go_simp; done) | rfl
                simp only [Act.put, List.setIfInBounds_toArray, List.set_cons_zero, List.set_cons_succ]
                refine wpAnyH_takeI (i := 35) (v := ?v71) rfl (by kernel_rfl) (by kernel_rfl) (by kernel_rfl) (fun _ _ _ h => h) (yieldsIf_want rfl (fun w' hw' => ?y71)) hS0 ?_
                case y71 => first | (go_simp; rfl) | (go_simp; done) | rfl
                simp only [Act.put, List.setIfInBounds_toArray, List.set_cons_zero, List.set_cons_succ]
                refine wpAnyH_takeI (i := 36) (v := .agg (L'[tl].cells).toArray) rfl (by kernel_rfl) (by kernel_rfl) (by kernel_rfl) (fun _ _ _ h => h) (yieldsIf_load_mid rfl 43 (.tmp 196) rfl gx (ox + tl.val * 83) rfl (L'[tl].cells) _ (fun w' hw' => HRX.out w' hw' tl) Try.underlying43 rfl (sizeRow L'[tl])) hS0 ?_
                simp only [Act.put, List.setIfInBounds_toArray, List.set_cons_zero, List.set_cons_succ]
                refine wpAnyH_takeI (i := 37) (v := ?v72) rfl (by kernel_rfl) (by kernel_rfl) (by kernel_rfl) (fun _ _ _ h => h) (yieldsIf_want rfl (fun w' hw' => ?y72)) hS0 ?_
                case y72 => first | (go_simp; rfl) | (go_simp; done) | rfl
                simp only [Act.put, List.setIfInBounds_toArray, List.set_cons_zero, List.set_cons_succ]
                refine wpAnyH_takeI (i := 38) (v := ?v73) rfl (by kernel_rfl) (by kernel_rfl) (by kernel_rfl) (fun _ _ _ h => h) (yieldsIf_want rfl (fun w' hw' => ?y73)) hS0 ?_
                case y73 => first | (go_simp; rfl) | (go_simp; done) | rfl
                simp only [Act.put, List.setIfInBounds_toArray, List.set_cons_zero, List.set_cons_succ]
                refine wpAnyH_takeI (i := 39) (v := ?v74) rfl (by kernel_rfl) (by kernel_rfl) (by kernel_rfl) (fun _ _ _ h => h) (yieldsIf_want rfl (fun w' hw' => ?y74)) hS0 ?_
                case y74 => first | (go_simp; rfl) | (go_simp; done) | rfl
                simp only [Act.put, List.setIfInBounds_toArray, List.set_cons_zero, List.set_cons_succ]
                refine wpAnyH_takeI (i := 40) (v := .agg (L'[tk].cells).toArray) rfl (by kernel_rfl) (by kernel_rfl) (by kernel_rfl) (fun _ _ _ h => h) (yieldsIf_load_mid rfl 43 (.tmp 200) rfl gx (ox + tk.val * 83) rfl (L'[tk].cells) _ (fun w' hw' => HRX.out w' hw' tk) Try.underlying43 rfl (sizeRow L'[tk])) hS0 ?_
                simp only [Act.put, List.setIfInBounds_toArray, List.set_cons_zero, List.set_cons_succ]
                refine wpAnyH_want (i := 41) (by kernel_rfl) rfl rfl (fun K hK => ?_)
                go_simp
                go_at_call 26
                refine (ordRow L'[tl] L'[tk] _).mono ?_
                rintro e we ⟨rfl, q9, os9, hwe⟩
                obtain ⟨V9, hWn⟩ : ∃ V9, we = V9 := ⟨_, rfl⟩
                have hb9 := grow_below wd q9 os9
                rw [← hwe, hWn] at hb9
                rw [hWn, HCV.out]
                have hsV9 := hS0.trans (hb9.mono hS0.size)
                clear hb9 hWn hwe
                refine hK _ _ (hsV9) ?_
                clear hK K
                try simp only [Act.put, List.setIfInBounds_toArray, List.set_cons_zero, List.set_cons_succ]
                refine wpAnyH_takeI (i := 42) (v := ?v75) rfl (by kernel_rfl) (by kernel_rfl) (by kernel_rfl) (fun _ _ _ h => h) (yieldsIf_want rfl (fun w' hw' => ?y75)) hsV9 ?_
                case y75 => first | (go_simp; rfl) | (go_simp; done) | rfl
                simp only [Act.put, List.setIfInBounds_toArray, List.set_cons_zero, List.set_cons_succ]
                refine wpAnyH_takeI (i := 43) (v := ?v76) rfl (by kernel_rfl) (by kernel_rfl) (by kernel_rfl) (fun _ _ _ h => h) (yieldsIf_want rfl (fun w' hw' => ?y76)) hsV9 ?_
                case y76 => first | (go_simp; rfl) | (go_simp; done) | rfl
                simp only [Act.put, List.setIfInBounds_toArray, List.set_cons_zero, List.set_cons_succ]
                refine wpAnyH_takeI (i := 44) (v := ?v77) rfl (by kernel_rfl) (by kernel_rfl) (by kernel_rfl) (fun _ _ _ h => h) (yieldsIf_run rfl (fun w' hw' => ?y77)) hsV9 ?_
                case y77 => first | (go_simp; rfl) | (go_simp; done) | rfl
                simp only [Act.put, List.setIfInBounds_toArray, List.set_cons_zero, List.set_cons_succ]
                refine wpAnyH_done (by kernel_rfl) ?_ _
                refine NoPanic.normal ?_
                have HBN := Lib.hid (HBW1.out.trans (hsV9.mono HBW1.out.size))
                go_wp2_with fail
                rw [HQ2.out]
                change _ ∧ _
                go_roundw
                case rel => exact ⟨q + 1, (tk.val : Int), by omega, by go_num, rfl, HQN, HBN⟩
                case measure => simp [intOf] <;> omega
            refine hide_postT ?_
            intro Q3 HQ3
            have hkI : (k : Int) < (n : Int) := by omega
            have hkF : k < F.length := by rw [HFN.out]; exact hkl
            obtain ⟨r, hr⟩ : ∃ r, F[k].row = r := ⟨_, rfl⟩
            have HRA := Lib.hid (show rowA F k = r by rw [rowA_at hkF, hr])
            have HRL := Lib.hid (show -1 ≤ r by rw [← hr]; exact (chk_all HCK.out k hkF).row)
            have HRU := Lib.hid (show r < (X : Int) by rw [← HRA.out]; exact HALL.out k hkl)
            obtain ⟨fg', fo', ef, hfc⟩ := node_at HFQ.out hkF
            cases ef
            have HNC := Lib.hid (show ∀ w', Below W1.heap.size W1 w' → w'.cell? ⟨rg, ro + q, none⟩ = some (.int .i64 (t : Int)) ∧ w'.cell? ⟨fg, fo + k * 35 + 32, none⟩ = some (.int .i64 r) from fun w' hw' => by
              have hbb := HBW1.out.trans (hw'.mono HBW1.out.size)
              refine ⟨HRC.out w' hbb, ?_⟩
              rw [← hr]
              exact (hfc w' hbb).1)
            clear hr hfc
            by_cases hmem : t ∈ chn F k
            case neg =>
              have hmd : decide (t ∈ chn F k) = false := decide_eq_false hmem
              have HNX := Lib.hid (show bestV (bsL F L' t (k + 1)) = bz by rw [best_no HCK.out hkF htF HTP.out hmem]; exact HBS1.out)
              clear hmem
              go_wp2_with fail
              refine wp_region_noPanic ?_
              refine wp_region_H (Below W1.heap.size W1) (by kernel_rfl) ?_
              have hS0 : (Below W1.heap.size W1) W1.drew := (Below.refl _ _).drew
              obtain ⟨wd, hwd⟩ : ∃ wd, W1.drew = wd := ⟨_, rfl⟩
              rw [hwd] at hS0  ⊢
              clear hwd
              refine wpAnyH_takeI (i := 0) (v := ?v78) rfl (by kernel_rfl) (by kernel_rfl) (by kernel_rfl) (fun _ _ _ h => h) (yieldsIf_run rfl (fun w' hw' => ?y78)) hS0 ?_
              case y78 => first | (go_simp; rfl) | (go_simp; done) | rfl
              simp only [Act.put, List.setIfInBounds_toArray, List.set_cons_zero, List.set_cons_succ]
              refine wpAnyH_takeI (i := 1) (v := ?v79) rfl (by kernel_rfl) (by kernel_rfl) (by kernel_rfl) (fun _ _ _ h => h) (yieldsIf_run rfl (fun w' hw' => ?y79)) hS0 ?_
              case y79 => first | (go_simp; rfl) | (go_simp; done) | rfl
              simp only [Act.put, List.setIfInBounds_toArray, List.set_cons_zero, List.set_cons_succ]
              refine wpAnyH_takeI (i := 2) (v := ?v80) rfl (by kernel_rfl) (by kernel_rfl) (by kernel_rfl) (fun _ _ _ h => h) (yieldsIf_run rfl (fun w' hw' => ?y80)) hS0 ?_
              case y80 => first | (go_simp; rfl) | (go_simp; done) | rfl
              simp only [Act.put, List.setIfInBounds_toArray, List.set_cons_zero, List.set_cons_succ]
              refine wpAnyH_takeI (i := 3) (v := ?v81) rfl (by kernel_rfl) (by kernel_rfl) (by kernel_rfl) (fun _ _ _ h => h) (yieldsIf_run rfl (fun w' hw' => ?y81)) hS0 ?_
              case y81 => first | (go_simp; rfl) | (go_simp; done) | rfl
              simp only [Act.put, List.setIfInBounds_toArray, List.set_cons_zero, List.set_cons_succ]
              refine wpAnyH_takeI (i := 4) (v := ?v82) rfl (by kernel_rfl) (by kernel_rfl) (by kernel_rfl) (fun _ _ _ h => h) (yieldsIf_run rfl (fun w' hw' => ?y82)) hS0 ?_
              case y82 => first | (go_simp; rfl) | (go_simp; done) | rfl
              simp only [Act.put, List.setIfInBounds_toArray, List.set_cons_zero, List.set_cons_succ]
              refine wpAnyH_takeI (i := 5) (v := ?v83) rfl (by kernel_rfl) (by kernel_rfl) (by kernel_rfl) (fun _ _ _ h => h) (yieldsIf_run rfl (fun w' hw' => ?y83)) hS0 ?_
              case y83 => (obtain ⟨h1, h2⟩ := HNC.out w' hw'; clear hw'; first | (go_simp; rfl) | (go_simp; done))
              simp only [Act.put, List.setIfInBounds_toArray, List.set_cons_zero, List.set_cons_succ]
              refine wpAnyH_do (i := 6) (by kernel_rfl) rfl rfl (fun K hK => ?_)
              go_simp
              go_at_call 34
              refine (within_any _ F (HFQ.out.below (HBW1.out.trans (hS0.mono HBW1.out.size))) HCK.out (by rw [HFN.out]; omega) k t hkF (by omega)).mono ?_
              rintro e wk ⟨rfl, rfl⟩
              rw [hmd]
              refine hK _ _ (hS0) ?_
              clear hK K
              try simp only [Act.put, List.setIfInBounds_toArray, List.set_cons_zero, List.set_cons_succ]
              refine wpAnyH_takeI (i := 7) (v := ?v84) rfl (by kernel_rfl) (by kernel_rfl) (by kernel_rfl) (fun _ _ _ h => h) (yieldsIf_run rfl (fun w' hw' => ?y84)) hS0 ?_
              case y84 => first | (go_simp; rfl) | (go_simp; done) | rfl
              simp only [Act.put, List.setIfInBounds_toArray, List.set_cons_zero, List.set_cons_succ]
              refine wpAnyH_takeI (i := 8) (v := undef) rfl (by kernel_rfl) (by kernel_rfl) (by kernel_rfl) (fun _ _ _ h => h) (yieldsIf_skip rfl) hS0 ?_
              simp only [Act.put, List.setIfInBounds_toArray, List.set_cons_zero, List.set_cons_succ]
              refine wpAnyH_takeI (i := 9) (v := undef) rfl (by kernel_rfl) (by kernel_rfl) (by kernel_rfl) (fun _ _ _ h => h) (yieldsIf_skip rfl) hS0 ?_
              simp only [Act.put, List.setIfInBounds_toArray, List.set_cons_zero, List.set_cons_succ]
              refine wpAnyH_takeI (i := 10) (v := undef) rfl (by kernel_rfl) (by kernel_rfl) (by kernel_rfl) (fun _ _ _ h => h) (yieldsIf_skip rfl) hS0 ?_
              simp only [Act.put, List.setIfInBounds_toArray, List.set_cons_zero, List.set_cons_succ]
              refine wpAnyH_takeI (i := 11) (v := undef) rfl (by kernel_rfl) (by kernel_rfl) (by kernel_rfl) (fun _ _ _ h => h) (yieldsIf_skip rfl) hS0 ?_
              simp only [Act.put, List.setIfInBounds_toArray, List.set_cons_zero, List.set_cons_succ]
              refine wpAnyH_takeI (i := 12) (v := undef) rfl (by kernel_rfl) (by kernel_rfl) (by kernel_rfl) (fun _ _ _ h => h) (yieldsIf_skip rfl) hS0 ?_
              simp only [Act.put, List.setIfInBounds_toArray, List.set_cons_zero, List.set_cons_succ]
              refine wpAnyH_takeI (i := 13) (v := undef) rfl (by kernel_rfl) (by kernel_rfl) (by kernel_rfl) (fun _ _ _ h => h) (yieldsIf_skip rfl) hS0 ?_
              simp only [Act.put, List.setIfInBounds_toArray, List.set_cons_zero, List.set_cons_succ]
              refine wpAnyH_takeI (i := 14) (v := ?v85) rfl (by kernel_rfl) (by kernel_rfl) (by kernel_rfl) (fun _ _ _ h => h) (yieldsIf_run rfl (fun w' hw' => ?y85)) hS0 ?_
              case y85 => first | (go_simp; rfl) | (go_simp; done) | rfl
              simp only [Act.put, List.setIfInBounds_toArray, List.set_cons_zero, List.set_cons_succ]
              refine wpAnyH_takeI (i := 15) (v := ?v86) rfl (by kernel_rfl) (by kernel_rfl) (by kernel_rfl) (fun _ _ _ h => h) (yieldsIf_run rfl (fun w' hw' => ?y86)) hS0 ?_
              case y86 => first | (go_simp; rfl) | (go_simp; done) | rfl
              simp only [Act.put, List.setIfInBounds_toArray, List.set_cons_zero, List.set_cons_succ]
              refine wpAnyH_takeI (i := 16) (v := undef) rfl (by kernel_rfl) (by kernel_rfl) (by kernel_rfl) (fun _ _ _ h => h) (yieldsIf_skip rfl) hS0 ?_
              simp only [Act.put, List.setIfInBounds_toArray, List.set_cons_zero, List.set_cons_succ]
              refine wpAnyH_takeI (i := 17) (v := undef) rfl (by kernel_rfl) (by kernel_rfl) (by kernel_rfl) (fun _ _ _ h => h) (yieldsIf_skip rfl) hS0 ?_
              simp only [Act.put, List.setIfInBounds_toArray, List.set_cons_zero, List.set_cons_succ]
              refine wpAnyH_takeI (i := 18) (v := undef) rfl (by kernel_rfl) (by kernel_rfl) (by kernel_rfl) (fun _ _ _ h => h) (yieldsIf_skip rfl) hS0 ?_
              simp only [Act.put, List.setIfInBounds_toArray, List.set_cons_zero, List.set_cons_succ]
              refine wpAnyH_takeI (i := 19) (v := undef) rfl (by kernel_rfl) (by kernel_rfl) (by kernel_rfl) (fun _ _ _ h => h) (yieldsIf_skip rfl) hS0 ?_
              simp only [Act.put, List.setIfInBounds_toArray, List.set_cons_zero, List.set_cons_succ]
              refine wpAnyH_takeI (i := 20) (v := undef) rfl (by kernel_rfl) (by kernel_rfl) (by kernel_rfl) (fun _ _ _ h => h) (yieldsIf_skip rfl) hS0 ?_
              simp only [Act.put, List.setIfInBounds_toArray, List.set_cons_zero, List.set_cons_succ]
              refine wpAnyH_takeI (i := 21) (v := undef) rfl (by kernel_rfl) (by kernel_rfl) (by kernel_rfl) (fun _ _ _ h => h) (yieldsIf_skip rfl) hS0 ?_
              simp only [Act.put, List.setIfInBounds_toArray, List.set_cons_zero, List.set_cons_succ]
              refine wpAnyH_takeI (i := 22) (v := undef) rfl (by kernel_rfl) (by kernel_rfl) (by kernel_rfl) (fun _ _ _ h => h) (yieldsIf_skip rfl) hS0 ?_
              simp only [Act.put, List.setIfInBounds_toArray, List.set_cons_zero, List.set_cons_succ]
              refine wpAnyH_takeI (i := 23) (v := undef) rfl (by kernel_rfl) (by kernel_rfl) (by kernel_rfl) (fun _ _ _ h => h) (yieldsIf_skip rfl) hS0 ?_
              simp only [Act.put, List.setIfInBounds_toArray, List.set_cons_zero, List.set_cons_succ]
              refine wpAnyH_takeI (i := 24) (v := undef) rfl (by kernel_rfl) (by kernel_rfl) (by kernel_rfl) (fun _ _ _ h => h) (yieldsIf_skip rfl) hS0 ?_
              simp only [Act.put, List.setIfInBounds_toArray, List.set_cons_zero, List.set_cons_succ]
              refine wpAnyH_takeI (i := 25) (v := undef) rfl (by kernel_rfl) (by kernel_rfl) (by kernel_rfl) (fun _ _ _ h => h) (yieldsIf_skip rfl) hS0 ?_
              simp only [Act.put, List.setIfInBounds_toArray, List.set_cons_zero, List.set_cons_succ]
              refine wpAnyH_takeI (i := 26) (v := undef) rfl (by kernel_rfl) (by kernel_rfl) (by kernel_rfl) (fun _ _ _ h => h) (yieldsIf_skip rfl) hS0 ?_
              simp only [Act.put, List.setIfInBounds_toArray, List.set_cons_zero, List.set_cons_succ]
              refine wpAnyH_takeI (i := 27) (v := undef) rfl (by kernel_rfl) (by kernel_rfl) (by kernel_rfl) (fun _ _ _ h => h) (yieldsIf_skip rfl) hS0 ?_
              simp only [Act.put, List.setIfInBounds_toArray, List.set_cons_zero, List.set_cons_succ]
              refine wpAnyH_takeI (i := 28) (v := undef) rfl (by kernel_rfl) (by kernel_rfl) (by kernel_rfl) (fun _ _ _ h => h) (yieldsIf_skip rfl) hS0 ?_
              simp only [Act.put, List.setIfInBounds_toArray, List.set_cons_zero, List.set_cons_succ]
              refine wpAnyH_takeI (i := 29) (v := undef) rfl (by kernel_rfl) (by kernel_rfl) (by kernel_rfl) (fun _ _ _ h => h) (yieldsIf_skip rfl) hS0 ?_
              simp only [Act.put, List.setIfInBounds_toArray, List.set_cons_zero, List.set_cons_succ]
              refine wpAnyH_takeI (i := 30) (v := undef) rfl (by kernel_rfl) (by kernel_rfl) (by kernel_rfl) (fun _ _ _ h => h) (yieldsIf_skip rfl) hS0 ?_
              simp only [Act.put, List.setIfInBounds_toArray, List.set_cons_zero, List.set_cons_succ]
              refine wpAnyH_takeI (i := 31) (v := undef) rfl (by kernel_rfl) (by kernel_rfl) (by kernel_rfl) (fun _ _ _ h => h) (yieldsIf_skip rfl) hS0 ?_
              simp only [Act.put, List.setIfInBounds_toArray, List.set_cons_zero, List.set_cons_succ]
              refine wpAnyH_takeI (i := 32) (v := undef) rfl (by kernel_rfl) (by kernel_rfl) (by kernel_rfl) (fun _ _ _ h => h) (yieldsIf_skip rfl) hS0 ?_
              simp only [Act.put, List.setIfInBounds_toArray, List.set_cons_zero, List.set_cons_succ]
              refine wpAnyH_takeI (i := 33) (v := undef) rfl (by kernel_rfl) (by kernel_rfl) (by kernel_rfl) (fun _ _ _ h => h) (yieldsIf_skip rfl) hS0 ?_
              simp only [Act.put, List.setIfInBounds_toArray, List.set_cons_zero, List.set_cons_succ]
              refine wpAnyH_takeI (i := 34) (v := ?v87) rfl (by kernel_rfl) (by kernel_rfl) (by kernel_rfl) (fun _ _ _ h => h) (yieldsIf_run rfl (fun w' hw' => ?y87)) hS0 ?_
              case y87 => first | (go_simp; rfl) | (go_simp; done) | rfl
              simp only [Act.put, List.setIfInBounds_toArray, List.set_cons_zero, List.set_cons_succ]
              refine wpAnyH_done (by kernel_rfl) ?_ _
              refine NoPanic.normal ?_
              have HBN := Lib.hid (HBW1.out.trans (hS0.mono HBW1.out.size))
              have hc9 := (HNC.out _ hS0).2
              go_wp2_with fail
              rw [HQ3.out]
              change _ ∧ _
              go_roundw
              case rel => exact ⟨k + 1, bz, by omega, by go_num, rfl, HNX, HBN⟩
              case measure => simp [intOf] <;> omega
            have hmd : decide (t ∈ chn F k) = true := decide_eq_true hmem
            by_cases hr0 : 0 ≤ r
            case neg =>
              have hr0d : decide (0 ≤ r) = false := decide_eq_false hr0
              have HNX := Lib.hid (show bestV (bsL F L' t (k + 1)) = bz by rw [bs_none (by rw [HRA.out]; omega)]; exact HBS1.out)
              clear hmem
              go_wp2_with fail
              refine wp_region_noPanic ?_
              refine wp_region_H (Below W1.heap.size W1) (by kernel_rfl) ?_
              have hS0 : (Below W1.heap.size W1) W1.drew := (Below.refl _ _).drew
              obtain ⟨wd, hwd⟩ : ∃ wd, W1.drew = wd := ⟨_, rfl⟩
              rw [hwd] at hS0  ⊢
              clear hwd
              refine wpAnyH_takeI (i := 0) (v := ?v88) rfl (by kernel_rfl) (by kernel_rfl) (by kernel_rfl) (fun _ _ _ h => h) (yieldsIf_run rfl (fun w' hw' => ?y88)) hS0 ?_
              case y88 => first | (go_simp; rfl) | (go_simp; done) | rfl
              simp only [Act.put, List.setIfInBounds_toArray, List.set_cons_zero, List.set_cons_succ]
              refine wpAnyH_takeI (i := 1) (v := ?v89) rfl (by kernel_rfl) (by kernel_rfl) (by kernel_rfl) (fun _ _ _ h => h) (yieldsIf_run rfl (fun w' hw' => ?y89)) hS0 ?_
              case y89 => first | (go_simp; rfl) | (go_simp; done) | rfl
              simp only [Act.put, List.setIfInBounds_toArray, List.set_cons_zero, List.set_cons_succ]
              refine wpAnyH_takeI (i := 2) (v := ?v90) rfl (by kernel_rfl) (by kernel_rfl) (by kernel_rfl) (fun _ _ _ h => h) (yieldsIf_run rfl (fun w' hw' => ?y90)) hS0 ?_
              case y90 => first | (go_simp; rfl) | (go_simp; done) | rfl
              simp only [Act.put, List.setIfInBounds_toArray, List.set_cons_zero, List.set_cons_succ]
              refine wpAnyH_takeI (i := 3) (v := ?v91) rfl (by kernel_rfl) (by kernel_rfl) (by kernel_rfl) (fun _ _ _ h => h) (yieldsIf_run rfl (fun w' hw' => ?y91)) hS0 ?_
              case y91 => first | (go_simp; rfl) | (go_simp; done) | rfl
              simp only [Act.put, List.setIfInBounds_toArray, List.set_cons_zero, List.set_cons_succ]
              refine wpAnyH_takeI (i := 4) (v := ?v92) rfl (by kernel_rfl) (by kernel_rfl) (by kernel_rfl) (fun _ _ _ h => h) (yieldsIf_run rfl (fun w' hw' => ?y92)) hS0 ?_
              case y92 => first | (go_simp; rfl) | (go_simp; done) | rfl
              simp only [Act.put, List.setIfInBounds_toArray, List.set_cons_zero, List.set_cons_succ]
              refine wpAnyH_takeI (i := 5) (v := ?v93) rfl (by kernel_rfl) (by kernel_rfl) (by kernel_rfl) (fun _ _ _ h => h) (yieldsIf_run rfl (fun w' hw' => ?y93)) hS0 ?_
              case y93 => (obtain ⟨h1, h2⟩ := HNC.out w' hw'; clear hw'; first | (go_simp; rfl) | (go_simp; done))
              simp only [Act.put, List.setIfInBounds_toArray, List.set_cons_zero, List.set_cons_succ]
              refine wpAnyH_do (i := 6) (by kernel_rfl) rfl rfl (fun K hK => ?_)
              go_simp
              go_at_call 34
              refine (within_any _ F (HFQ.out.below (HBW1.out.trans (hS0.mono HBW1.out.size))) HCK.out (by rw [HFN.out]; omega) k t hkF (by omega)).mono ?_
              rintro e wk ⟨rfl, rfl⟩
              rw [hmd]
              refine hK _ _ (hS0) ?_
              clear hK K
              try simp only [Act.put, List.setIfInBounds_toArray, List.set_cons_zero, List.set_cons_succ]
              refine wpAnyH_takeI (i := 7) (v := ?v94) rfl (by kernel_rfl) (by kernel_rfl) (by kernel_rfl) (fun _ _ _ h => h) (yieldsIf_run rfl (fun w' hw' => ?y94)) hS0 ?_
              case y94 => first | (go_simp; rfl) | (go_simp; done) | rfl
              simp only [Act.put, List.setIfInBounds_toArray, List.set_cons_zero, List.set_cons_succ]
              refine wpAnyH_takeI (i := 8) (v := ?v95) rfl (by kernel_rfl) (by kernel_rfl) (by kernel_rfl) (fun _ _ _ h => h) (yieldsIf_want rfl (fun w' hw' => ?y95)) hS0 ?_
              case y95 => first | (go_simp; rfl) | (go_simp; done) | rfl
              simp only [Act.put, List.setIfInBounds_toArray, List.set_cons_zero, List.set_cons_succ]
              refine wpAnyH_takeI (i := 9) (v := ?v96) rfl (by kernel_rfl) (by kernel_rfl) (by kernel_rfl) (fun _ _ _ h => h) (yieldsIf_want rfl (fun w' hw' => ?y96)) hS0 ?_
              case y96 => first | (go_simp; rfl) | (go_simp; done) | rfl
              simp only [Act.put, List.setIfInBounds_toArray, List.set_cons_zero, List.set_cons_succ]
              refine wpAnyH_takeI (i := 10) (v := ?v97) rfl (by kernel_rfl) (by kernel_rfl) (by kernel_rfl) (fun _ _ _ h => h) (yieldsIf_want rfl (fun w' hw' => ?y97)) hS0 ?_
              case y97 => first | (go_simp; rfl) | (go_simp; done) | rfl
              simp only [Act.put, List.setIfInBounds_toArray, List.set_cons_zero, List.set_cons_succ]
              refine wpAnyH_takeI (i := 11) (v := ?v98) rfl (by kernel_rfl) (by kernel_rfl) (by kernel_rfl) (fun _ _ _ h => h) (yieldsIf_want rfl (fun w' hw' => ?y98)) hS0 ?_
              case y98 => first | (go_simp; rfl) | (go_simp; done) | rfl
              simp only [Act.put, List.setIfInBounds_toArray, List.set_cons_zero, List.set_cons_succ]
              refine wpAnyH_takeI (i := 12) (v := ?v99) rfl (by kernel_rfl) (by kernel_rfl) (by kernel_rfl) (fun _ _ _ h => h) (yieldsIf_want rfl (fun w' hw' => ?y99)) hS0 ?_
              case y99 => (obtain ⟨h1, h2⟩ := HNC.out w' hw'; clear hw'; first | (go_simp; rfl) | (go_simp; done))
              simp only [Act.put, List.setIfInBounds_toArray, List.set_cons_zero, List.set_cons_succ]
              refine wpAnyH_takeI (i := 13) (v := ?v100) rfl (by kernel_rfl) (by kernel_rfl) (by kernel_rfl) (fun _ _ _ h => h) (yieldsIf_want rfl (fun w' hw' => ?y100)) hS0 ?_
              case y100 => first | (go_simp; rfl) | (go_simp; done) | rfl
              simp only [Act.put, List.setIfInBounds_toArray, List.set_cons_zero, List.set_cons_succ]
              refine wpAnyH_takeI (i := 14) (v := ?v101) rfl (by kernel_rfl) (by kernel_rfl) (by kernel_rfl) (fun _ _ _ h => h) (yieldsIf_run rfl (fun w' hw' => ?y101)) hS0 ?_
              case y101 => first | (go_simp; rfl) | (go_simp; done) | rfl
              simp only [Act.put, List.setIfInBounds_toArray, List.set_cons_zero, List.set_cons_succ]
              refine wpAnyH_takeI (i := 15) (v := ?v102) rfl (by kernel_rfl) (by kernel_rfl) (by kernel_rfl) (fun _ _ _ h => h) (yieldsIf_run rfl (fun w' hw' => ?y102)) hS0 ?_
              case y102 => first | (go_simp; rfl) | (go_simp; done) | rfl
              simp only [Act.put, List.setIfInBounds_toArray, List.set_cons_zero, List.set_cons_succ]
              refine wpAnyH_takeI (i := 16) (v := undef) rfl (by kernel_rfl) (by kernel_rfl) (by kernel_rfl) (fun _ _ _ h => h) (yieldsIf_skip rfl) hS0 ?_
              simp only [Act.put, List.setIfInBounds_toArray, List.set_cons_zero, List.set_cons_succ]
              refine wpAnyH_takeI (i := 17) (v := undef) rfl (by kernel_rfl) (by kernel_rfl) (by kernel_rfl) (fun _ _ _ h => h) (yieldsIf_skip rfl) hS0 ?_
              simp only [Act.put, List.setIfInBounds_toArray, List.set_cons_zero, List.set_cons_succ]
              refine wpAnyH_takeI (i := 18) (v := undef) rfl (by kernel_rfl) (by kernel_rfl) (by kernel_rfl) (fun _ _ _ h => h) (yieldsIf_skip rfl) hS0 ?_
              simp only [Act.put, List.setIfInBounds_toArray, List.set_cons_zero, List.set_cons_succ]
              refine wpAnyH_takeI (i := 19) (v := undef) rfl (by kernel_rfl) (by kernel_rfl) (by kernel_rfl) (fun _ _ _ h => h) (yieldsIf_skip rfl) hS0 ?_
              simp only [Act.put, List.setIfInBounds_toArray, List.set_cons_zero, List.set_cons_succ]
              refine wpAnyH_takeI (i := 20) (v := undef) rfl (by kernel_rfl) (by kernel_rfl) (by kernel_rfl) (fun _ _ _ h => h) (yieldsIf_skip rfl) hS0 ?_
              simp only [Act.put, List.setIfInBounds_toArray, List.set_cons_zero, List.set_cons_succ]
              refine wpAnyH_takeI (i := 21) (v := undef) rfl (by kernel_rfl) (by kernel_rfl) (by kernel_rfl) (fun _ _ _ h => h) (yieldsIf_skip rfl) hS0 ?_
              simp only [Act.put, List.setIfInBounds_toArray, List.set_cons_zero, List.set_cons_succ]
              refine wpAnyH_takeI (i := 22) (v := undef) rfl (by kernel_rfl) (by kernel_rfl) (by kernel_rfl) (fun _ _ _ h => h) (yieldsIf_skip rfl) hS0 ?_
              simp only [Act.put, List.setIfInBounds_toArray, List.set_cons_zero, List.set_cons_succ]
              refine wpAnyH_takeI (i := 23) (v := undef) rfl (by kernel_rfl) (by kernel_rfl) (by kernel_rfl) (fun _ _ _ h => h) (yieldsIf_skip rfl) hS0 ?_
              simp only [Act.put, List.setIfInBounds_toArray, List.set_cons_zero, List.set_cons_succ]
              refine wpAnyH_takeI (i := 24) (v := undef) rfl (by kernel_rfl) (by kernel_rfl) (by kernel_rfl) (fun _ _ _ h => h) (yieldsIf_skip rfl) hS0 ?_
              simp only [Act.put, List.setIfInBounds_toArray, List.set_cons_zero, List.set_cons_succ]
              refine wpAnyH_takeI (i := 25) (v := undef) rfl (by kernel_rfl) (by kernel_rfl) (by kernel_rfl) (fun _ _ _ h => h) (yieldsIf_skip rfl) hS0 ?_
              simp only [Act.put, List.setIfInBounds_toArray, List.set_cons_zero, List.set_cons_succ]
              refine wpAnyH_takeI (i := 26) (v := undef) rfl (by kernel_rfl) (by kernel_rfl) (by kernel_rfl) (fun _ _ _ h => h) (yieldsIf_skip rfl) hS0 ?_
              simp only [Act.put, List.setIfInBounds_toArray, List.set_cons_zero, List.set_cons_succ]
              refine wpAnyH_takeI (i := 27) (v := undef) rfl (by kernel_rfl) (by kernel_rfl) (by kernel_rfl) (fun _ _ _ h => h) (yieldsIf_skip rfl) hS0 ?_
              simp only [Act.put, List.setIfInBounds_toArray, List.set_cons_zero, List.set_cons_succ]
              refine wpAnyH_takeI (i := 28) (v := undef) rfl (by kernel_rfl) (by kernel_rfl) (by kernel_rfl) (fun _ _ _ h => h) (yieldsIf_skip rfl) hS0 ?_
              simp only [Act.put, List.setIfInBounds_toArray, List.set_cons_zero, List.set_cons_succ]
              refine wpAnyH_takeI (i := 29) (v := undef) rfl (by kernel_rfl) (by kernel_rfl) (by kernel_rfl) (fun _ _ _ h => h) (yieldsIf_skip rfl) hS0 ?_
              simp only [Act.put, List.setIfInBounds_toArray, List.set_cons_zero, List.set_cons_succ]
              refine wpAnyH_takeI (i := 30) (v := undef) rfl (by kernel_rfl) (by kernel_rfl) (by kernel_rfl) (fun _ _ _ h => h) (yieldsIf_skip rfl) hS0 ?_
              simp only [Act.put, List.setIfInBounds_toArray, List.set_cons_zero, List.set_cons_succ]
              refine wpAnyH_takeI (i := 31) (v := undef) rfl (by kernel_rfl) (by kernel_rfl) (by kernel_rfl) (fun _ _ _ h => h) (yieldsIf_skip rfl) hS0 ?_
              simp only [Act.put, List.setIfInBounds_toArray, List.set_cons_zero, List.set_cons_succ]
              refine wpAnyH_takeI (i := 32) (v := undef) rfl (by kernel_rfl) (by kernel_rfl) (by kernel_rfl) (fun _ _ _ h => h) (yieldsIf_skip rfl) hS0 ?_
              simp only [Act.put, List.setIfInBounds_toArray, List.set_cons_zero, List.set_cons_succ]
              refine wpAnyH_takeI (i := 33) (v := undef) rfl (by kernel_rfl) (by kernel_rfl) (by kernel_rfl) (fun _ _ _ h => h) (yieldsIf_skip rfl) hS0 ?_
              simp only [Act.put, List.setIfInBounds_toArray, List.set_cons_zero, List.set_cons_succ]
              refine wpAnyH_takeI (i := 34) (v := ?v103) rfl (by kernel_rfl) (by kernel_rfl) (by kernel_rfl) (fun _ _ _ h => h) (yieldsIf_run rfl (fun w' hw' => ?y103)) hS0 ?_
              case y103 => first | (go_simp; rfl) | (go_simp; done) | rfl
              simp only [Act.put, List.setIfInBounds_toArray, List.set_cons_zero, List.set_cons_succ]
              refine wpAnyH_done (by kernel_rfl) ?_ _
              refine NoPanic.normal ?_
              have HBN := Lib.hid (HBW1.out.trans (hS0.mono HBW1.out.size))
              have hc9 := (HNC.out _ hS0).2
              go_wp2_with fail
              rw [HQ3.out]
              change _ ∧ _
              go_roundw
              case rel => exact ⟨k + 1, bz, by omega, by go_num, rfl, HNX, HBN⟩
              case measure => simp [intOf] <;> omega
            have hr0d : decide (0 ≤ r) = true := decide_eq_true hr0
            obtain ⟨kr, hkr⟩ : ∃ kr : Fin L'.length, r = (kr.val : Int) := ⟨⟨r.toNat, by have := HRU.out; have := HLX.out; omega⟩, by show r = ((r.toNat : Nat) : Int); omega⟩
            subst hkr
            have HIN := Lib.hid (best_in HCK.out hkF htF HTP.out hmem kr HRA.out)
            clear hmem
            cases hbo : bsL F L' t k with
            | none =>
              obtain rfl : -1 = bz := by rw [← HBS1.out, hbo]; rfl
              have HNX := Lib.hid (show bestV (bsL F L' t (k + 1)) = (kr.val : Int) by rw [HIN.out, hbo]; rfl)
              clear hbo
              go_wp2_with fail
              refine wp_region_noPanic ?_
              refine wp_region_H (Below W1.heap.size W1) (by kernel_rfl) ?_
              have hS0 : (Below W1.heap.size W1) W1.drew := (Below.refl _ _).drew
              obtain ⟨wd, hwd⟩ : ∃ wd, W1.drew = wd := ⟨_, rfl⟩
              rw [hwd] at hS0  ⊢
              clear hwd
              refine wpAnyH_takeI (i := 0) (v := ?v104) rfl (by kernel_rfl) (by kernel_rfl) (by kernel_rfl) (fun _ _ _ h => h) (yieldsIf_run rfl (fun w' hw' => ?y104)) hS0 ?_
              case y104 => first | (go_simp; rfl) | (go_simp; done) | rfl
              simp only [Act.put, List.setIfInBounds_toArray, List.set_cons_zero, List.set_cons_succ]
              refine wpAnyH_takeI (i := 1) (v := ?v105) rfl (by kernel_rfl) (by kernel_rfl) (by kernel_rfl) (fun _ _ _ h => h) (yieldsIf_run rfl (fun w' hw' => ?y105)) hS0 ?_
              case y105 => first | (go_simp; rfl) | (go_simp; done) | rfl
              simp only [Act.put, List.setIfInBounds_toArray, List.set_cons_zero, List.set_cons_succ]
              refine wpAnyH_takeI (i := 2) (v := ?v106) rfl (by kernel_rfl) (by kernel_rfl) (by kernel_rfl) (fun _ _ _ h => h) (yieldsIf_run rfl (fun w' hw' => ?y106)) hS0 ?_
              case y106 => first | (go_simp; rfl) | (go_simp; done) | rfl
              simp only [Act.put, List.setIfInBounds_toArray, List.set_cons_zero, List.set_cons_succ]
              refine wpAnyH_takeI (i := 3) (v := ?v107) rfl (by kernel_rfl) (by kernel_rfl) (by kernel_rfl) (fun _ _ _ h => h) (yieldsIf_run rfl (fun w' hw' => ?y107)) hS0 ?_
              case y107 => first | (go_simp; rfl) | (go_simp; done) | rfl
              simp only [Act.put, List.setIfInBounds_toArray, List.set_cons_zero, List.set_cons_succ]
              refine wpAnyH_takeI (i := 4) (v := ?v108) rfl (by kernel_rfl) (by kernel_rfl) (by kernel_rfl) (fun _ _ _ h => h) (yieldsIf_run rfl (fun w' hw' => ?y108)) hS0 ?_
              case y108 => first | (go_simp; rfl) | (go_simp; done) | rfl
              simp only [Act.put, List.setIfInBounds_toArray, List.set_cons_zero, List.set_cons_succ]
              refine wpAnyH_takeI (i := 5) (v := ?v109) rfl (by kernel_rfl) (by kernel_rfl) (by kernel_rfl) (fun _ _ _ h => h) (yieldsIf_run rfl (fun w' hw' => ?y109)) hS0 ?_
              case y109 => (obtain ⟨h1, h2⟩ := HNC.out w' hw'; clear hw'; first | (go_simp; rfl) | (go_simp; done))
              simp only [Act.put, List.setIfInBounds_toArray, List.set_cons_zero, List.set_cons_succ]
              refine wpAnyH_do (i := 6) (by kernel_rfl) rfl rfl (fun K hK => ?_)
              go_simp
              go_at_call 34
              refine (within_any _ F (HFQ.out.below (HBW1.out.trans (hS0.mono HBW1.out.size))) HCK.out (by rw [HFN.out]; omega) k t hkF (by omega)).mono ?_
              rintro e wk ⟨rfl, rfl⟩
              rw [hmd]
              refine hK _ _ (hS0) ?_
              clear hK K
              try simp only [Act.put, List.setIfInBounds_toArray, List.set_cons_zero, List.set_cons_succ]
              refine wpAnyH_takeI (i := 7) (v := ?v110) rfl (by kernel_rfl) (by kernel_rfl) (by kernel_rfl) (fun _ _ _ h => h) (yieldsIf_run rfl (fun w' hw' => ?y110)) hS0 ?_
              case y110 => first | (go_simp; rfl) | (go_simp; done) | rfl
              simp only [Act.put, List.setIfInBounds_toArray, List.set_cons_zero, List.set_cons_succ]
              refine wpAnyH_takeI (i := 8) (v := ?v111) rfl (by kernel_rfl) (by kernel_rfl) (by kernel_rfl) (fun _ _ _ h => h) (yieldsIf_want rfl (fun w' hw' => ?y111)) hS0 ?_
              case y111 => first | (go_simp; rfl) | (go_simp; done) | rfl
              simp only [Act.put, List.setIfInBounds_toArray, List.set_cons_zero, List.set_cons_succ]
              refine wpAnyH_takeI (i := 9) (v := ?v112) rfl (by kernel_rfl) (by kernel_rfl) (by kernel_rfl) (fun _ _ _ h => h) (yieldsIf_want rfl (fun w' hw' => ?y112)) hS0 ?_
              case y112 => first | (go_simp; rfl) | (go_simp; done) | rfl
              simp only [Act.put, List.setIfInBounds_toArray, List.set_cons_zero, List.set_cons_succ]
              refine wpAnyH_takeI (i := 10) (v := ?v113) rfl (by kernel_rfl) (by kernel_rfl) (by kernel_rfl) (fun _ _ _ h => h) (yieldsIf_want rfl (fun w' hw' => ?y113)) hS0 ?_
              case y113 => first | (go_simp; rfl) | (go_simp; done) | rfl
              simp only [Act.put, List.setIfInBounds_toArray, List.set_cons_zero, List.set_cons_succ]
              refine wpAnyH_takeI (i := 11) (v := ?v114) rfl (by kernel_rfl) (by kernel_rfl) (by kernel_rfl) (fun _ _ _ h => h) (yieldsIf_want rfl (fun w' hw' => ?y114)) hS0 ?_
              case y114 => first | (go_simp; rfl) | (go_simp; done) | rfl
              simp only [Act.put, List.setIfInBounds_toArray, List.set_cons_zero, List.set_cons_succ]
              refine wpAnyH_takeI (i := 12) (v := ?v115) rfl (by kernel_rfl) (by kernel_rfl) (by kernel_rfl) (fun _ _ _ h => h) (yieldsIf_want rfl (fun w' hw' => ?y115)) hS0 ?_
              case y115 => (obtain ⟨h1, h2⟩ := HNC.out w' hw'; clear hw'; first | (go_simp; rfl) | (go_simp; done))
              simp only [Act.put, List.setIfInBounds_toArray, List.set_cons_zero, List.set_cons_succ]
              refine wpAnyH_takeI (i := 13) (v := ?v116) rfl (by kernel_rfl) (by kernel_rfl) (by kernel_rfl) (fun _ _ _ h => h) (yieldsIf_want rfl (fun w' hw' => ?y116)) hS0 ?_
              case y116 => first | (go_simp; rfl) | (go_simp; done) | rfl
              simp only [Act.put, List.setIfInBounds_toArray, List.set_cons_zero, List.set_cons_succ]
              refine wpAnyH_takeI (i := 14) (v := ?v117) rfl (by kernel_rfl) (by kernel_rfl) (by kernel_rfl) (fun _ _ _ h => h) (yieldsIf_run rfl (fun w' hw' => ?y117)) hS0 ?_
              case y117 => first | (go_simp; rfl) | (go_simp; done) | rfl
              simp only [Act.put, List.setIfInBounds_toArray, List.set_cons_zero, List.set_cons_succ]
              refine wpAnyH_takeI (i := 15) (v := ?v118) rfl (by kernel_rfl) (by kernel_rfl) (by kernel_rfl) (fun _ _ _ h => h) (yieldsIf_run rfl (fun w' hw' => ?y118)) hS0 ?_
              case y118 => first | (go_simp; rfl) | (go_simp; done) | rfl
              simp only [Act.put, List.setIfInBounds_toArray, List.set_cons_zero, List.set_cons_succ]
              refine wpAnyH_takeI (i := 16) (v := ?v119) rfl (by kernel_rfl) (by kernel_rfl) (by kernel_rfl) (fun _ _ _ h => h) (yieldsIf_want rfl (fun w' hw' => ?y119)) hS0 ?_
              case y119 => first | (go_simp; rfl) | (go_simp; done) | rfl
              simp only [Act.put, List.setIfInBounds_toArray, List.set_cons_zero, List.set_cons_succ]
              refine wpAnyH_takeI (i := 17) (v := ?v120) rfl (by kernel_rfl) (by kernel_rfl) (by kernel_rfl) (fun _ _ _ h => h) (yieldsIf_want rfl (fun w' hw' => ?y120)) hS0 ?_
              case y120 => first | (go_simp; rfl) | (go_simp; done) | rfl
              simp only [Act.put, List.setIfInBounds_toArray, List.set_cons_zero, List.set_cons_succ]
              refine wpAnyH_takeI (i := 18) (v := ?v121) rfl (by kernel_rfl) (by kernel_rfl) (by kernel_rfl) (fun _ _ _ h => h) (yieldsIf_want rfl (fun w' hw' => ?y121)) hS0 ?_
              case y121 => first | (go_simp; rfl) | (go_simp; done) | rfl
              simp only [Act.put, List.setIfInBounds_toArray, List.set_cons_zero, List.set_cons_succ]
              refine wpAnyH_takeI (i := 19) (v := undef) rfl (by kernel_rfl) (by kernel_rfl) (by kernel_rfl) (fun _ _ _ h => h) (yieldsIf_skip rfl) hS0 ?_
              simp only [Act.put, List.setIfInBounds_toArray, List.set_cons_zero, List.set_cons_succ]
              refine wpAnyH_takeI (i := 20) (v := undef) rfl (by kernel_rfl) (by kernel_rfl) (by kernel_rfl) (fun _ _ _ h => h) (yieldsIf_skip rfl) hS0 ?_
              simp only [Act.put, List.setIfInBounds_toArray, List.set_cons_zero, List.set_cons_succ]
              refine wpAnyH_takeI (i := 21) (v := undef) rfl (by kernel_rfl) (by kernel_rfl) (by kernel_rfl) (fun _ _ _ h => h) (yieldsIf_skip rfl) hS0 ?_
              simp only [Act.put, List.setIfInBounds_toArray, List.set_cons_zero, List.set_cons_succ]
              refine wpAnyH_takeI (i := 22) (v := undef) rfl (by kernel_rfl) (by kernel_rfl) (by kernel_rfl) (fun _ _ _ h => h) (yieldsIf_skip rfl) hS0 ?_
              simp only [Act.put, List.setIfInBounds_toArray, List.set_cons_zero, List.set_cons_succ]
              refine wpAnyH_takeI (i := 23) (v := undef) rfl (by kernel_rfl) (by kernel_rfl) (by kernel_rfl) (fun _ _ _ h => h) (yieldsIf_skip rfl) hS0 ?_
              simp only [Act.put, List.setIfInBounds_toArray, List.set_cons_zero, List.set_cons_succ]
              refine wpAnyH_takeI (i := 24) (v := undef) rfl (by kernel_rfl) (by kernel_rfl) (by kernel_rfl) (fun _ _ _ h => h) (yieldsIf_skip rfl) hS0 ?_
              simp only [Act.put, List.setIfInBounds_toArray, List.set_cons_zero, List.set_cons_succ]
              refine wpAnyH_takeI (i := 25) (v := undef) rfl (by kernel_rfl) (by kernel_rfl) (by kernel_rfl) (fun _ _ _ h => h) (yieldsIf_skip rfl) hS0 ?_
              simp only [Act.put, List.setIfInBounds_toArray, List.set_cons_zero, List.set_cons_succ]
              refine wpAnyH_takeI (i := 26) (v := undef) rfl (by kernel_rfl) (by kernel_rfl) (by kernel_rfl) (fun _ _ _ h => h) (yieldsIf_skip rfl) hS0 ?_
              simp only [Act.put, List.setIfInBounds_toArray, List.set_cons_zero, List.set_cons_succ]
              refine wpAnyH_takeI (i := 27) (v := undef) rfl (by kernel_rfl) (by kernel_rfl) (by kernel_rfl) (fun _ _ _ h => h) (yieldsIf_skip rfl) hS0 ?_
              simp only [Act.put, List.setIfInBounds_toArray, List.set_cons_zero, List.set_cons_succ]
              refine wpAnyH_takeI (i := 28) (v := undef) rfl (by kernel_rfl) (by kernel_rfl) (by kernel_rfl) (fun _ _ _ h => h) (yieldsIf_skip rfl) hS0 ?_
              simp only [Act.put, List.setIfInBounds_toArray, List.set_cons_zero, List.set_cons_succ]
              refine wpAnyH_takeI (i := 29) (v := undef) rfl (by kernel_rfl) (by kernel_rfl) (by kernel_rfl) (fun _ _ _ h => h) (yieldsIf_skip rfl) hS0 ?_
              simp only [Act.put, List.setIfInBounds_toArray, List.set_cons_zero, List.set_cons_succ]
              refine wpAnyH_takeI (i := 30) (v := undef) rfl (by kernel_rfl) (by kernel_rfl) (by kernel_rfl) (fun _ _ _ h => h) (yieldsIf_skip rfl) hS0 ?_
              simp only [Act.put, List.setIfInBounds_toArray, List.set_cons_zero, List.set_cons_succ]
              refine wpAnyH_takeI (i := 31) (v := undef) rfl (by kernel_rfl) (by kernel_rfl) (by kernel_rfl) (fun _ _ _ h => h) (yieldsIf_skip rfl) hS0 ?_
              simp only [Act.put, List.setIfInBounds_toArray, List.set_cons_zero, List.set_cons_succ]
              refine wpAnyH_takeI (i := 32) (v := undef) rfl (by kernel_rfl) (by kernel_rfl) (by kernel_rfl) (fun _ _ _ h => h) (yieldsIf_skip rfl) hS0 ?_
              simp only [Act.put, List.setIfInBounds_toArray, List.set_cons_zero, List.set_cons_succ]
              refine wpAnyH_takeI (i := 33) (v := ?v122) rfl (by kernel_rfl) (by kernel_rfl) (by kernel_rfl) (fun _ _ _ h => h) (yieldsIf_want rfl (fun w' hw' => ?y122)) hS0 ?_
              case y122 => first | (go_simp; rfl) | (go_simp; done) | rfl
              simp only [Act.put, List.setIfInBounds_toArray, List.set_cons_zero, List.set_cons_succ]
              refine wpAnyH_takeI (i := 34) (v := ?v123) rfl (by kernel_rfl) (by kernel_rfl) (by kernel_rfl) (fun _ _ _ h => h) (yieldsIf_run rfl (fun w' hw' => ?y123)) hS0 ?_
              case y123 => first | (go_simp; rfl) | (go_simp; done) | rfl
              simp only [Act.put, List.setIfInBounds_toArray, List.set_cons_zero, List.set_cons_succ]
              refine wpAnyH_done (by kernel_rfl) ?_ _
              refine NoPanic.normal ?_
              have HBN := Lib.hid (HBW1.out.trans (hS0.mono HBW1.out.size))
              have hc9 := (HNC.out _ hS0).2
              go_wp2_with fail
              rw [HQ3.out]
              change _ ∧ _
              go_roundw
              case rel => exact ⟨k + 1, (kr.val : Int), by omega, by go_num, rfl, HNX, HBN⟩
              case measure => simp [intOf] <;> omega
            | some kb =>
              obtain rfl : (kb.val : Int) = bz := by rw [← HBS1.out, hbo]; rfl
              obtain ⟨gx, ox, rfl, hgx, _⟩ := HLQ.out.l.get kb.isLt
              have HRX := Lib.hid (show ∀ w', Below W1.heap.size W1 w' → ∀ z : Fin L'.length, w'.rangeAt gx (ox + z.val * 83) L'[z].cells from fun w' hw' z => by
                obtain ⟨g', o', e, hg', hr'⟩ := HLQ.out.l.get z.isLt
                cases e
                exact range_below hr' hg' (HBW1.out.trans (hw'.mono HBW1.out.size)))
              have hxI : (kb.val : Int) < (X : Int) := by have := kb.isLt; have := HLX.out; omega
              have hyI : (kr.val : Int) < (X : Int) := by have := kr.isLt; have := HLX.out; omega
              have hx0 : (0 : Int) ≤ (kb.val : Int) := by omega
              have hx0d : decide ((kb.val : Int) < 0) = false := decide_eq_false (by omega)
              obtain ⟨cv, hcv⟩ : ∃ cv, cmpT L'[kb].tw L'[kr].tw = cv := ⟨_, rfl⟩
              have HCV := Lib.hid hcv
              have HBO := Lib.hid hbo
              clear hcv hbo hgx
              by_cases hlt0 : cv < 0
              case pos =>
                have HNX := Lib.hid (show bestV (bsL F L' t (k + 1)) = (kr.val : Int) by rw [HIN.out, HBO.out]; show bestV (if cmpT L'[kb].tw L'[kr].tw < 0 then some kr else some kb) = _; rw [HCV.out, if_pos hlt0]; rfl)
                go_wp2_with fail
                refine wp_region_noPanic ?_
                refine wp_region_H (Below W1.heap.size W1) (by kernel_rfl) ?_
                have hS0 : (Below W1.heap.size W1) W1.drew := (Below.refl _ _).drew
                obtain ⟨wd, hwd⟩ : ∃ wd, W1.drew = wd := ⟨_, rfl⟩
                rw [hwd] at hS0  ⊢
                clear hwd
                refine wpAnyH_takeI (i := 0) (v := ?v124) rfl (by kernel_rfl) (by kernel_rfl) (by kernel_rfl) (fun _ _ _ h => h) (yieldsIf_run rfl (fun w' hw' => ?y124)) hS0 ?_
                case y124 => first | (go_simp; rfl) | (go_simp; done) | rfl
                simp only [Act.put, List.setIfInBounds_toArray, List.set_cons_zero, List.set_cons_succ]
                refine wpAnyH_takeI (i := 1) (v := ?v125) rfl (by kernel_rfl) (by kernel_rfl) (by kernel_rfl) (fun _ _ _ h => h) (yieldsIf_run rfl (fun w' hw' => ?y125)) hS0 ?_
                case y125 => first | (go_simp; rfl) | (go_simp; done) | rfl
                simp only [Act.put, List.setIfInBounds_toArray, List.set_cons_zero, List.set_cons_succ]
                refine wpAnyH_takeI (i := 2) (v := ?v126) rfl (by kernel_rfl) (by kernel_rfl) (by kernel_rfl) (fun _ _ _ h => h) (yieldsIf_run rfl (fun w' hw' => ?y126)) hS0 ?_
                case y126 => first | (go_simp; rfl) | (go_simp; done) | rfl
                simp only [Act.put, List.setIfInBounds_toArray, List.set_cons_zero, List.set_cons_succ]
                refine wpAnyH_takeI (i := 3) (v := ?v127) rfl (by kernel_rfl) (by kernel_rfl) (by kernel_rfl) (fun _ _ _ h => h) (yieldsIf_run rfl (fun w' hw' => ?y127)) hS0 ?_
                case y127 => first | (go_simp; rfl) | (go_simp; done) | rfl
                simp only [Act.put, List.setIfInBounds_toArray, List.set_cons_zero, List.set_cons_succ]
                refine wpAnyH_takeI (i := 4) (v := ?v128) rfl (by kernel_rfl) (by kernel_rfl) (by kernel_rfl) (fun _ _ _ h => h) (yieldsIf_run rfl (fun w' hw' => ?y128)) hS0 ?_
                case y128 => first | (go_simp; rfl) | (go_simp; done) | rfl
                simp only [Act.put, List.setIfInBounds_toArray, List.set_cons_zero, List.set_cons_succ]
                refine wpAnyH_takeI (i := 5) (v := ?v129) rfl (by kernel_rfl) (by kernel_rfl) (by kernel_rfl) (fun _ _ _ h => h) (yieldsIf_run rfl (fun w' hw' => ?y129)) hS0 ?_
                case y129 => (obtain ⟨h1, h2⟩ := HNC.out w' hw'; clear hw'; first | (go_simp; rfl) | (go_simp; done))
                simp only [Act.put, List.setIfInBounds_toArray, List.set_cons_zero, List.set_cons_succ]
                refine wpAnyH_do (i := 6) (by kernel_rfl) rfl rfl (fun K hK => ?_)
                go_simp
                go_at_call 34
                refine (within_any _ F (HFQ.out.below (HBW1.out.trans (hS0.mono HBW1.out.size))) HCK.out (by rw [HFN.out]; omega) k t hkF (by omega)).mono ?_
                rintro e wk ⟨rfl, rfl⟩
                rw [hmd]
                refine hK _ _ (hS0) ?_
                clear hK K
                try simp only [Act.put, List.setIfInBounds_toArray, List.set_cons_zero, List.set_cons_succ]
                refine wpAnyH_takeI (i := 7) (v := ?v130) rfl (by kernel_rfl) (by kernel_rfl) (by kernel_rfl) (fun _ _ _ h => h) (yieldsIf_run rfl (fun w' hw' => ?y130)) hS0 ?_
                case y130 => first | (go_simp; rfl) | (go_simp; done) | rfl
                simp only [Act.put, List.setIfInBounds_toArray, List.set_cons_zero, List.set_cons_succ]
                refine wpAnyH_takeI (i := 8) (v := ?v131) rfl (by kernel_rfl) (by kernel_rfl) (by kernel_rfl) (fun _ _ _ h => h) (yieldsIf_want rfl (fun w' hw' => ?y131)) hS0 ?_
                case y131 => first | (go_simp; rfl) | (go_simp; done) | rfl
                simp only [Act.put, List.setIfInBounds_toArray, List.set_cons_zero, List.set_cons_succ]
                refine wpAnyH_takeI (i := 9) (v := ?v132) rfl (by kernel_rfl) (by kernel_rfl) (by kernel_rfl) (fun _ _ _ h => h) (yieldsIf_want rfl (fun w' hw' => ?y132)) hS0 ?_
                case y132 => first | (go_simp; rfl) | (go_simp; done) | rfl
                simp only [Act.put, List.setIfInBounds_toArray, List.set_cons_zero, List.set_cons_succ]
                refine wpAnyH_takeI (i := 10) (v := ?v133) rfl (by kernel_rfl) (by kernel_rfl) (by kernel_rfl) (fun _ _ _ h => h) (yieldsIf_want rfl (fun w' hw' => ?y133)) hS0 ?_
                case y133 => first | (go_simp; rfl) | (go_simp; done) | rfl
                simp only [Act.put, List.setIfInBounds_toArray, List.set_cons_zero, List.set_cons_succ]
                refine wpAnyH_takeI (i := 11) (v := ?v134) rfl (by kernel_rfl) (by kernel_rfl) (by kernel_rfl) (fun _ _ _ h => h) (yieldsIf_want rfl (fun w' hw' => ?y134)) hS0 ?_
                case y134 => first | (go_simp; rfl) | (go_simp; done) | rfl
                simp only [Act.put, List.setIfInBounds_toArray, List.set_cons_zero, List.set_cons_succ]
                refine wpAnyH_takeI (i := 12) (v := ?v135) rfl (by kernel_rfl) (by kernel_rfl) (by kernel_rfl) (fun _ _ _ h => h) (yieldsIf_want rfl (fun w' hw' => ?y135)) hS0 ?_
                case y135 => (obtain ⟨h1, h2⟩ := HNC.out w' hw'; clear hw'; first | (go_simp; rfl) | (go_simp; done))
                simp only [Act.put, List.setIfInBounds_toArray, List.set_cons_zero, List.set_cons_succ]
                refine wpAnyH_takeI (i := 13) (v := ?v136) rfl (by kernel_rfl) (by kernel_rfl) (by kernel_rfl) (fun _ _ _ h => h) (yieldsIf_want rfl (fun w' hw' => ?y136)) hS0 ?_
                case y136 => first | (go_simp; rfl) | (go_simp; done) | rfl
                simp only [Act.put, List.setIfInBounds_toArray, List.set_cons_zero, List.set_cons_succ]
                refine wpAnyH_takeI (i := 14) (v := ?v137) rfl (by kernel_rfl) (by kernel_rfl) (by kernel_rfl) (fun _ _ _ h => h) (yieldsIf_run rfl (fun w' hw' => ?y137)) hS0 ?_
                case y137 => first | (go_simp; rfl) | (go_simp; done) | rfl
                simp only [Act.put, List.setIfInBounds_toArray, List.set_cons_zero, List.set_cons_succ]
                refine wpAnyH_takeI (i := 15) (v := ?v138) rfl (by kernel_rfl) (by kernel_rfl) (by kernel_rfl) (fun _ _ _ h => h) (yieldsIf_run rfl (fun w' hw' => ?y138)) hS0 ?_
                case y138 => first | (go_simp; rfl) | (go_simp; done) | rfl
                simp only [Act.put, List.setIfInBounds_toArray, List.set_cons_zero, List.set_cons_succ]
                refine wpAnyH_takeI (i := 16) (v := ?v139) rfl (by kernel_rfl) (by kernel_rfl) (by kernel_rfl) (fun _ _ _ h => h) (yieldsIf_want rfl (fun w' hw' => ?y139)) hS0 ?_
                case y139 => first | (go_simp; rfl) | (go_simp; done) | rfl
                simp only [Act.put, List.setIfInBounds_toArray, List.set_cons_zero, List.set_cons_succ]
                refine wpAnyH_takeI (i := 17) (v := ?v140) rfl (by kernel_rfl) (by kernel_rfl) (by kernel_rfl) (fun _ _ _ h => h) (yieldsIf_want rfl (fun w' hw' => ?y140)) hS0 ?_
                case y140 => first | (go_simp; rfl) | (go_simp; done) | rfl
                simp only [Act.put, List.setIfInBounds_toArray, List.set_cons_zero, List.set_cons_succ]
                refine wpAnyH_takeI (i := 18) (v := ?v141) rfl (by kernel_rfl) (by kernel_rfl) (by kernel_rfl) (fun _ _ _ h => h) (yieldsIf_want rfl (fun w' hw' => ?y141)) hS0 ?_
                case y141 => first | (go_simp; rfl) | (go_simp; done) | rfl
                simp only [Act.put, List.setIfInBounds_toArray, List.set_cons_zero, List.set_cons_succ]
                refine wpAnyH_takeI (i := 19) (v := ?v142) rfl (by kernel_rfl) (by kernel_rfl) (by kernel_rfl) (fun _ _ _ h => h) (yieldsIf_want rfl (fun w' hw' => ?y142)) hS0 ?_
                case y142 => first | (go_simp; rfl) | (go_simp; done) | rfl
                simp only [Act.put, List.setIfInBounds_toArray, List.set_cons_zero, List.set_cons_succ]
                refine wpAnyH_takeI (i := 20) (v := ?v143) rfl (by kernel_rfl) (by kernel_rfl) (by kernel_rfl) (fun _ _ _ h => h) (yieldsIf_want rfl (fun w' hw' => ?y143)) hS0 ?_
                case y143 => first | (go_simp; rfl) | (go_simp; done) | rfl
                simp only [Act.put, List.setIfInBounds_toArray, List.set_cons_zero, List.set_cons_succ]
                refine wpAnyH_takeI (i := 21) (v := ?v144) rfl (by kernel_rfl) (by kernel_rfl) (by kernel_rfl) (fun _ _ _ h => h) (yieldsIf_want rfl (fun w' hw' => ?y144)) hS0 ?_
                case y144 => first | (go_simp; rfl) | (go_simp; done) | rfl
                simp only [Act.put, List.setIfInBounds_toArray, List.set_cons_zero, List.set_cons_succ]
                refine wpAnyH_takeI (i := 22) (v := .agg (L'[kb].cells).toArray) rfl (by kernel_rfl) (by kernel_rfl) (by kernel_rfl) (fun _ _ _ h => h) (yieldsIf_load_mid rfl 43 (.tmp 142) rfl gx (ox + kb.val * 83) rfl (L'[kb].cells) _ (fun w' hw' => HRX.out w' hw' kb) Try.underlying43 rfl (sizeRow L'[kb])) hS0 ?_
                simp only [Act.put, List.setIfInBounds_toArray, List.set_cons_zero, List.set_cons_succ]
                refine wpAnyH_takeI (i := 23) (v := ?v145) rfl (by kernel_rfl) (by kernel_rfl) (by kernel_rfl) (fun _ _ _ h => h) (yieldsIf_want rfl (fun w' hw' => ?y145)) hS0 ?_
                case y145 => first | (go_simp; rfl) | (go_simp; done) | rfl
                simp only [Act.put, List.setIfInBounds_toArray, List.set_cons_zero, List.set_cons_succ]
                refine wpAnyH_takeI (i := 24) (v := ?v146) rfl (by kernel_rfl) (by kernel_rfl) (by kernel_rfl) (fun _ _ _ h => h) (yieldsIf_want rfl (fun w' hw' => ?y146)) hS0 ?_
                case y146 => first | (go_simp; rfl) | (go_simp; done) | rfl
                simp only [Act.put, List.setIfInBounds_toArray, List.set_cons_zero, List.set_cons_succ]
                refine wpAnyH_takeI (i := 25) (v := ?v147) rfl (by kernel_rfl) (by kernel_rfl) (by kernel_rfl) (fun _ _ _ h => h) (yieldsIf_want rfl (fun w' hw' => ?y147)) hS0 ?_
                case y147 => first | (go_simp; rfl) | (go_simp; done) | rfl
                simp only [Act.put, List.setIfInBounds_toArray, List.set_cons_zero, List.set_cons_succ]
                refine wpAnyH_takeI (i := 26) (v := ?v148) rfl (by kernel_rfl) (by kernel_rfl) (by kernel_rfl) (fun _ _ _ h => h) (yieldsIf_want rfl (fun w' hw' => ?y148)) hS0 ?_
                case y148 => first | (go_simp; rfl) | (go_simp; done) | rfl
                simp only [Act.put, List.setIfInBounds_toArray, List.set_cons_zero, List.set_cons_succ]
                refine wpAnyH_takeI (i := 27) (v := ?v149) rfl (by kernel_rfl) (by kernel_rfl) (by kernel_rfl) (fun _ _ _ h => h) (yieldsIf_want rfl (fun w' hw' => ?y149)) hS0 ?_
                case y149 => first | (go_simp; rfl) | (go_simp; done) | rfl
                simp only [Act.put, List.setIfInBounds_toArray, List.set_cons_zero, List.set_cons_succ]
                refine wpAnyH_takeI (i := 28) (v := ?v150) rfl (by kernel_rfl) (by kernel_rfl) (by kernel_rfl) (fun _ _ _ h => h) (yieldsIf_want rfl (fun w' hw' => ?y150)) hS0 ?_
                case y150 => (obtain ⟨h1, h2⟩ := HNC.out w' hw'; clear hw'; first | (go_simp; rfl) | (go_simp; done))
                simp only [Act.put, List.setIfInBounds_toArray, List.set_cons_zero, List.set_cons_succ]
                refine wpAnyH_takeI (i := 29) (v := ?v151) rfl (by kernel_rfl) (by kernel_rfl) (by kernel_rfl) (fun _ _ _ h => h) (yieldsIf_want rfl (fun w' hw' => ?y151)) hS0 ?_
                case y151 => first | (go_simp; rfl) | (go_simp; done) | rfl
                simp only [Act.put, List.setIfInBounds_toArray, List.set_cons_zero, List.set_cons_succ]
                refine wpAnyH_takeI (i := 30) (v := .agg (L'[kr].cells).toArray) rfl (by kernel_rfl) (by kernel_rfl) (by kernel_rfl) (fun _ _ _ h => h) (yieldsIf_load_mid rfl 43 (.tmp 150) rfl gx (ox + kr.val * 83) rfl (L'[kr].cells) _ (fun w' hw' => HRX.out w' hw' kr) Try.underlying43 rfl (sizeRow L'[kr])) hS0 ?_
                simp only [Act.put, List.setIfInBounds_toArray, List.set_cons_zero, List.set_cons_succ]
                refine wpAnyH_want (i := 31) (by kernel_rfl) rfl rfl (fun K hK => ?_)
                go_simp
                go_at_call 26
                refine (ordRow L'[kb] L'[kr] _).mono ?_
                rintro e we ⟨rfl, q9, os9, hwe⟩
                obtain ⟨V9, hWn⟩ : ∃ V9, we = V9 := ⟨_, rfl⟩
                have hb9 := grow_below wd q9 os9
                rw [← hwe, hWn] at hb9
                rw [hWn, HCV.out]
                have hsV9 := hS0.trans (hb9.mono hS0.size)
                clear hb9 hWn hwe
                refine hK _ _ (hsV9) ?_
                clear hK K
                try simp only [Act.put, List.setIfInBounds_toArray, List.set_cons_zero, List.set_cons_succ]
                refine wpAnyH_takeI (i := 32) (v := ?v152) rfl (by kernel_rfl) (by kernel_rfl) (by kernel_rfl) (fun _ _ _ h => h) (yieldsIf_want rfl (fun w' hw' => ?y152)) hsV9 ?_
                case y152 => first | (go_simp; rfl) | (go_simp; done) | rfl
                simp only [Act.put, List.setIfInBounds_toArray, List.set_cons_zero, List.set_cons_succ]
                refine wpAnyH_takeI (i := 33) (v := ?v153) rfl (by kernel_rfl) (by kernel_rfl) (by kernel_rfl) (fun _ _ _ h => h) (yieldsIf_want rfl (fun w' hw' => ?y153)) hsV9 ?_
                case y153 => first | (go_simp; rfl) | (go_simp; done) | rfl
                simp only [Act.put, List.setIfInBounds_toArray, List.set_cons_zero, List.set_cons_succ]
                refine wpAnyH_takeI (i := 34) (v := ?v154) rfl (by kernel_rfl) (by kernel_rfl) (by kernel_rfl) (fun _ _ _ h => h) (yieldsIf_run rfl (fun w' hw' => ?y154)) hsV9 ?_
                case y154 => first | (go_simp; rfl) | (go_simp; done) | rfl
                simp only [Act.put, List.setIfInBounds_toArray, List.set_cons_zero, List.set_cons_succ]
                refine wpAnyH_done (by kernel_rfl) ?_ _
                refine NoPanic.normal ?_
                have HBN := Lib.hid (HBW1.out.trans (hsV9.mono HBW1.out.size))
                have hc9 := (HNC.out _ hsV9).2
                go_wp2_with fail
                rw [HQ3.out]
                change _ ∧ _
                go_roundw
                case rel => exact ⟨k + 1, (kr.val : Int), by omega, by go_num, rfl, HNX, HBN⟩
                case measure => simp [intOf] <;> omega
              have hlt0d : decide (cv < 0) = false := decide_eq_false hlt0
              have HNX := Lib.hid (show bestV (bsL F L' t (k + 1)) = (kb.val : Int) by rw [HIN.out, HBO.out]; show bestV (if cmpT L'[kb].tw L'[kr].tw < 0 then some kr else some kb) = _; rw [HCV.out, if_neg (by omega)]; rfl)
              go_wp2_with fail
              refine wp_region_noPanic ?_
              refine wp_region_H (Below W1.heap.size W1) (by kernel_rfl) ?_
              have hS0 : (Below W1.heap.size W1) W1.drew := (Below.refl _ _).drew
              obtain ⟨wd, hwd⟩ : ∃ wd, W1.drew = wd := ⟨_, rfl⟩
              rw [hwd] at hS0  ⊢
              clear hwd
              refine wpAnyH_takeI (i := 0) (v := ?v155) rfl (by kernel_rfl) (by kernel_rfl) (by kernel_rfl) (fun _ _ _ h => h) (yieldsIf_run rfl (fun w' hw' => ?y155)) hS0 ?_
              case y155 => first | (go_simp; rfl) | (go_simp; done) | rfl
              simp only [Act.put, List.setIfInBounds_toArray, List.set_cons_zero, List.set_cons_succ]
              refine wpAnyH_takeI (i := 1) (v := ?v156) rfl (by kernel_rfl) (by kernel_rfl) (by kernel_rfl) (fun _ _ _ h => h) (yieldsIf_run rfl (fun w' hw' => ?y156)) hS0 ?_
              case y156 => first | (go_simp; rfl) | (go_simp; done) | rfl
              simp only [Act.put, List.setIfInBounds_toArray, List.set_cons_zero, List.set_cons_succ]
              refine wpAnyH_takeI (i := 2) (v := ?v157) rfl (by kernel_rfl) (by kernel_rfl) (by kernel_rfl) (fun _ _ _ h => h) (yieldsIf_run rfl (fun w' hw' => ?y157)) hS0 ?_
              case y157 => first | (go_simp; rfl) | (go_simp; done) | rfl
              simp only [Act.put, List.setIfInBounds_toArray, List.set_cons_zero, List.set_cons_succ]
              refine wpAnyH_takeI (i := 3) (v := ?v158) rfl (by kernel_rfl) (by kernel_rfl) (by kernel_rfl) (fun _ _ _ h => h) (yieldsIf_run rfl (fun w' hw' => ?y158)) hS0 ?_
              case y158 => first | (go_simp; rfl) | (go_simp; done) | rfl
              simp only [Act.put, List.setIfInBounds_toArray, List.set_cons_zero, List.set_cons_succ]
              refine wpAnyH_takeI (i := 4) (v := ?v159) rfl (by kernel_rfl) (by kernel_rfl) (by kernel_rfl) (fun _ _ _ h => h) (yieldsIf_run rfl (fun w' hw' => ?y159)) hS0 ?_
              case y159 => first | (go_simp; rfl) | (go_simp; done) | rfl
              simp only [Act.put, List.setIfInBounds_toArray, List.set_cons_zero, List.set_cons_succ]
              refine wpAnyH_takeI (i := 5) (v := ?v160) rfl (by kernel_rfl) (by kernel_rfl) (by kernel_rfl) (fun _ _ _ h => h) (yieldsIf_run rfl (fun w' hw' => ?y160)) hS0 ?_
              case y160 => (obtain ⟨h1, h2⟩ := HNC.out w' hw'; clear hw'; first | (go_simp; rfl) | (go_simp; done))
              simp only [Act.put, List.setIfInBounds_toArray, List.set_cons_zero, List.set_cons_succ]
              refine wpAnyH_do (i := 6) (by kernel_rfl) rfl rfl (fun K hK => ?_)
              go_simp
              go_at_call 34
              refine (within_any _ F (HFQ.out.below (HBW1.out.trans (hS0.mono HBW1.out.size))) HCK.out (by rw [HFN.out]; omega) k t hkF (by omega)).mono ?_
              rintro e wk ⟨rfl, rfl⟩
              rw [hmd]
              refine hK _ _ (hS0) ?_
              clear hK K
              try simp only [Act.put, List.setIfInBounds_toArray, List.set_cons_zero, List.set_cons_succ]
              refine wpAnyH_takeI (i := 7) (v := ?v161) rfl (by kernel_rfl) (by kernel_rfl) (by kernel_rfl) (fun _ _ _ h => h) (yieldsIf_run rfl (fun w' hw' => ?y161)) hS0 ?_
              case y161 => first | (go_simp; rfl) | (go_simp; done) | rfl
              simp only [Act.put, List.setIfInBounds_toArray, List.set_cons_zero, List.set_cons_succ]
              refine wpAnyH_takeI (i := 8) (v := ?v162) rfl (by kernel_rfl) (by kernel_rfl) (by kernel_rfl) (fun _ _ _ h => h) (yieldsIf_want rfl (fun w' hw' => ?y162)) hS0 ?_
              case y162 => first | (go_simp; rfl) | (go_simp; done) | rfl
              simp only [Act.put, List.setIfInBounds_toArray, List.set_cons_zero, List.set_cons_succ]
              refine wpAnyH_takeI (i := 9) (v := ?v163) rfl (by kernel_rfl) (by kernel_rfl) (by kernel_rfl) (fun _ _ _ h => h) (yieldsIf_want rfl (fun w' hw' => ?y163)) hS0 ?_
              case y163 => first | (go_simp; rfl) | (go_simp; done) | rfl
              simp only [Act.put, List.setIfInBounds_toArray, List.set_cons_zero, List.set_cons_succ]
              refine wpAnyH_takeI (i := 10) (v := ?v164) rfl (by kernel_rfl) (by kernel_rfl) (by kernel_rfl) (fun _ _ _ h => h) (yieldsIf_want rfl (fun w' hw' => ?y164)) hS0 ?_
              case y164 => first | (go_simp; rfl) | (go_simp; done) | rfl
              simp only [Act.put, List.setIfInBounds_toArray, List.set_cons_zero, List.set_cons_succ]
              refine wpAnyH_takeI (i := 11) (v := ?v165) rfl (by kernel_rfl) (by kernel_rfl) (by kernel_rfl) (fun _ _ _ h => h) (yieldsIf_want rfl (fun w' hw' => ?y165)) hS0 ?_
              case y165 => first | (go_simp; rfl) | (go_simp; done) | rfl
              simp only [Act.put, List.setIfInBounds_toArray, List.set_cons_zero, List.set_cons_succ]
              refine wpAnyH_takeI (i := 12) (v := ?v166) rfl (by kernel_rfl) (by kernel_rfl) (by kernel_rfl) (fun _ _ _ h => h) (yieldsIf_want rfl (fun w' hw' => ?y166)) hS0 ?_
              case y166 => (obtain ⟨h1, h2⟩ := HNC.out w' hw'; clear hw'; first | (go_simp; rfl) | (go_simp; done))
              simp only [Act.put, List.setIfInBounds_toArray, List.set_cons_zero, List.set_cons_succ]
              refine wpAnyH_takeI (i := 13) (v := ?v167) rfl (by kernel_rfl) (by kernel_rfl) (by kernel_rfl) (fun _ _ _ h => h) (yieldsIf_want rfl (fun w' hw' => ?y167)) hS0 ?_
              case y167 => first | (go_simp; rfl) | (go_simp; done) | rfl
              simp only [Act.put, List.setIfInBounds_toArray, List.set_cons_zero, List.set_cons_succ]
              refine wpAnyH_takeI (i := 14) (v := ?v168) rfl (by kernel_rfl) (by kernel_rfl) (by kernel_rfl) (fun _ _ _ h => h) (yieldsIf_run rfl (fun w' hw' => ?y168)) hS0 ?_
              case y168 => first | (go_simp; rfl) | (go_simp; done) | rfl
              simp only [Act.put, List.setIfInBounds_toArray, List.set_cons_zero, List.set_cons_succ]
              refine wpAnyH_takeI (i := 15) (v := ?v169) rfl (by kernel_rfl) (by kernel_rfl) (by kernel_rfl) (fun _ _ _ h => h) (yieldsIf_run rfl (fun w' hw' => ?y169)) hS0 ?_
              case y169 => first | (go_simp; rfl) | (go_simp; done) | rfl
              simp only [Act.put, List.setIfInBounds_toArray, List.set_cons_zero, List.set_cons_succ]
              refine wpAnyH_takeI (i := 16) (v := ?v170) rfl (by kernel_rfl) (by kernel_rfl) (by kernel_rfl) (fun _ _ _ h => h) (yieldsIf_want rfl (fun w' hw' => ?y170)) hS0 ?_
              case y170 => first | (go_simp; rfl) | (go_simp; done) | rfl
              simp only [Act.put, List.setIfInBounds_toArray, List.set_cons_zero, List.set_cons_succ]
              refine wpAnyH_takeI (i := 17) (v := ?v171) rfl (by kernel_rfl) (by kernel_rfl) (by kernel_rfl) (fun _ _ _ h => h) (yieldsIf_want rfl (fun w' hw' => ?y171)) hS0 ?_
              case y171 => first | (go_simp; rfl) | (go_simp; done) | rfl
              simp only [Act.put, List.setIfInBounds_toArray, List.set_cons_zero, List.set_cons_succ]
              refine wpAnyH_takeI (i := 18) (v := ?v172) rfl (by kernel_rfl) (by kernel_rfl) (by kernel_rfl) (fun _ _ _ h => h) (yieldsIf_want rfl (fun w' hw' => ?y172)) hS0 ?_
              case y172 => first | (go_simp; rfl) | (go_simp; done) | rfl
              simp only [Act.put, List.setIfInBounds_toArray, List.set_cons_zero, List.set_cons_succ]
              refine wpAnyH_takeI (i := 19) (v := ?v173) rfl (by kernel_rfl) (by kernel_rfl) (by kernel_rfl) (fun _ _ _ h => h) (yieldsIf_want rfl (fun w' hw' => ?y173)) hS0 ?_
              case y173 => first | (go_simp; rfl) | (go_simp; done) | rfl
              simp only [Act.put, List.setIfInBounds_toArray, List.set_cons_zero, List.set_cons_succ]
              refine wpAnyH_takeI (i := 20) (v := ?v174) rfl (by kernel_rfl) (by kernel_rfl) (by kernel_rfl) (fun _ _ _ h => h) (yieldsIf_want rfl (fun w' hw' => ?y174)) hS0 ?_
              case y174 => first | (go_simp; rfl) | (go_simp; done) | rfl
              simp only [Act.put, List.setIfInBounds_toArray, List.set_cons_zero, List.set_cons_succ]
              refine wpAnyH_takeI (i := 21) (v := ?v175) rfl (by kernel_rfl) (by kernel_rfl) (by kernel_rfl) (fun _ _ _ h => h) (yieldsIf_want rfl (fun w' hw' => ?y175)) hS0 ?_
              case y175 => first | (go_simp; rfl) | (go_simp; done) | rfl
              simp only [Act.put, List.setIfInBounds_toArray, List.set_cons_zero, List.set_cons_succ]
              refine wpAnyH_takeI (i := 22) (v := .agg (L'[kb].cells).toArray) rfl (by kernel_rfl) (by kernel_rfl) (by kernel_rfl) (fun _ _ _ h => h) (yieldsIf_load_mid rfl 43 (.tmp 142) rfl gx (ox + kb.val * 83) rfl (L'[kb].cells) _ (fun w' hw' => HRX.out w' hw' kb) Try.underlying43 rfl (sizeRow L'[kb])) hS0 ?_
              simp only [Act.put, List.setIfInBounds_toArray, List.set_cons_zero, List.set_cons_succ]
              refine wpAnyH_takeI (i := 23) (v := ?v176) rfl (by kernel_rfl) (by kernel_rfl) (by kernel_rfl) (fun _ _ _ h => h) (yieldsIf_want rfl (fun w' hw' => ?y176)) hS0 ?_
              case y176 => first | (go_simp; rfl) | (go_simp; done) | rfl
              simp only [Act.put, List.setIfInBounds_toArray, List.set_cons_zero, List.set_cons_succ]
              refine wpAnyH_takeI (i := 24) (v := ?v177) rfl (by kernel_rfl) (by kernel_rfl) (by kernel_rfl) (fun _ _ _ h => h) (yieldsIf_want rfl (fun w' hw' => ?y177)) hS0 ?_
              case y177 => first | (go_simp; rfl) | (go_simp; done) | rfl
              simp only [Act.put, List.setIfInBounds_toArray, List.set_cons_zero, List.set_cons_succ]
              refine wpAnyH_takeI (i := 25) (v := ?v178) rfl (by kernel_rfl) (by kernel_rfl) (by kernel_rfl) (fun _ _ _ h => h) (yieldsIf_want rfl (fun w' hw' => ?y178)) hS0 ?_
              case y178 => first | (go_simp; rfl) | (go_simp; done) | rfl
              simp only [Act.put, List.setIfInBounds_toArray, List.set_cons_zero, List.set_cons_succ]
              refine wpAnyH_takeI (i := 26) (v := ?v179) rfl (by kernel_rfl) (by kernel_rfl) (by kernel_rfl) (fun _ _ _ h => h) (yieldsIf_want rfl (fun w' hw' => ?y179)) hS0 ?_
              case y179 => first | (go_simp; rfl) | (go_simp; done) | rfl
              simp only [Act.put, List.setIfInBounds_toArray, List.set_cons_zero, List.set_cons_succ]
              refine wpAnyH_takeI (i := 27) (v := ?v180) rfl (by kernel_rfl) (by kernel_rfl) (by kernel_rfl) (fun _ _ _ h => h) (yieldsIf_want rfl (fun w' hw' => ?y180)) hS0 ?_
              case y180 => first | (go_simp; rfl) | (go_simp; done) | rfl
              simp only [Act.put, List.setIfInBounds_toArray, List.set_cons_zero, List.set_cons_succ]
              refine wpAnyH_takeI (i := 28) (v := ?v181) rfl (by kernel_rfl) (by kernel_rfl) (by kernel_rfl) (fun _ _ _ h => h) (yieldsIf_want rfl (fun w' hw' => ?y181)) hS0 ?_
              case y181 => (obtain ⟨h1, h2⟩ := HNC.out w' hw'; clear hw'; first | (go_simp; rfl) | (go_simp; done))
              simp only [Act.put, List.setIfInBounds_toArray, List.set_cons_zero, List.set_cons_succ]
              refine wpAnyH_takeI (i := 29) (v := ?v182) rfl (by kernel_rfl) (by kernel_rfl) (by kernel_rfl) (fun _ _ _ h => h) (yieldsIf_want rfl (fun w' hw' => ?y182)) hS0 ?_
              case y182 => first | (go_simp; rfl) | (go_simp; done) | rfl
              simp only [Act.put, List.setIfInBounds_toArray, List.set_cons_zero, List.set_cons_succ]
              refine wpAnyH_takeI (i := 30) (v := .agg (L'[kr].cells).toArray) rfl (by kernel_rfl) (by kernel_rfl) (by kernel_rfl) (fun _ _ _ h => h) (yieldsIf_load_mid rfl 43 (.tmp 150) rfl gx (ox + kr.val * 83) rfl (L'[kr].cells) _ (fun w' hw' => HRX.out w' hw' kr) Try.underlying43 rfl (sizeRow L'[kr])) hS0 ?_
              simp only [Act.put, List.setIfInBounds_toArray, List.set_cons_zero, List.set_cons_succ]
              refine wpAnyH_want (i := 31) (by kernel_rfl) rfl rfl (fun K hK => ?_)
              go_simp
              go_at_call 26
              refine (ordRow L'[kb] L'[kr] _).mono ?_
              rintro e we ⟨rfl, q9, os9, hwe⟩
              obtain ⟨V9, hWn⟩ : ∃ V9, we = V9 := ⟨_, rfl⟩
              have hb9 := grow_below wd q9 os9
              rw [← hwe, hWn] at hb9
              rw [hWn, HCV.out]
              have hsV9 := hS0.trans (hb9.mono hS0.size)
              clear hb9 hWn hwe
              refine hK _ _ (hsV9) ?_
              clear hK K
              try simp only [Act.put, List.setIfInBounds_toArray, List.set_cons_zero, List.set_cons_succ]
              refine wpAnyH_takeI (i := 32) (v := ?v183) rfl (by kernel_rfl) (by kernel_rfl) (by kernel_rfl) (fun _ _ _ h => h) (yieldsIf_want rfl (fun w' hw' => ?y183)) hsV9 ?_
              case y183 => first | (go_simp; rfl) | (go_simp; done) | rfl
              simp only [Act.put, List.setIfInBounds_toArray, List.set_cons_zero, List.set_cons_succ]
              refine wpAnyH_takeI (i := 33) (v := ?v184) rfl (by kernel_rfl) (by kernel_rfl) (by kernel_rfl) (fun _ _ _ h => h) (yieldsIf_want rfl (fun w' hw' => ?y184)) hsV9 ?_
              case y184 => first | (go_simp; rfl) | (go_simp; done) | rfl
              simp only [Act.put, List.setIfInBounds_toArray, List.set_cons_zero, List.set_cons_succ]
              refine wpAnyH_takeI (i := 34) (v := ?v185) rfl (by kernel_rfl) (by kernel_rfl) (by kernel_rfl) (fun _ _ _ h => h) (yieldsIf_run rfl (fun w' hw' => ?y185)) hsV9 ?_
              case y185 => first | (go_simp; rfl) | (go_simp; done) | rfl
              simp only [Act.put, List.setIfInBounds_toArray, List.set_cons_zero, List.set_cons_succ]
              refine wpAnyH_done (by kernel_rfl) ?_ _
              refine NoPanic.normal ?_
              have HBN := Lib.hid (HBW1.out.trans (hsV9.mono HBW1.out.size))
              have hc9 := (HNC.out _ hsV9).2
              go_wp2_with fail
              rw [HQ3.out]
              change _ ∧ _
              go_roundw
              case rel => exact ⟨k + 1, (kb.val : Int), by omega, by go_num, rfl, HNX, HBN⟩
              case measure => simp [intOf] <;> omega
      have hiI : (i : Int) < (n : Int) := by omega
      have hiF : i < F.length := by rw [HFN.out]; exact hlt
      obtain ⟨g, o, eg, hcell⟩ := node_at HFR.out hiF
      subst eg
      obtain ⟨r, hr⟩ : ∃ r, F[i].row = r := ⟨_, rfl⟩
      have hc1 := (hcell Wk (Below.refl _ _)).1
      rw [hr] at hc1
      have HRA := Lib.hid (show rowA F i = r by rw [rowA_at hiF, hr])
      clear hcell hr
      by_cases hrX : (X : Int) ≤ r
      case pos =>
        exact absurd (HRW2.out i hiF) (by rw [HRA.out]; omega)
      have hdX : decide ((X : Int) ≤ r) = false := decide_eq_false hrX
      have HRN := Lib.hid (show ∀ j, j < i + 1 → rowA F j < (X : Int) from fun j hj => by
        by_cases e : j = i
        · rw [e, HRA.out]; omega
        · exact HRW1.out j (by omega))
      go_wp2_with fail
      go_round
      case rel => exact ⟨i + 1, by omega, by go_num, HRN⟩
      case measure => simp [intOf] <;> omega
set_option maxRecDepth 100000 in
set_option maxHeartbeats 2000000 in
theorem Recent_law {w : World} (v : Value) (L : List RawV) (hv : RawsAt w v L) (b : UInt8) : Calls Try.prog 15 #[v, .int .u8 (b.toNat : Int)] w fun e w' => e = .returned (.bool true) ∧ Below w.heap.size w w' := by
  by_cases h1 : (b.toNat : Int) % 4 = 0
  · by_cases h2 : rowsT L = []
    · exact Recent_lawB v L hv b (.inr h2)
    · exact Recent_lawA v L hv b ⟨h1, h2⟩
  · exact Recent_lawB v L hv b (.inl h1)
end Go.Proofs.Ythfinofmbnfijaa
