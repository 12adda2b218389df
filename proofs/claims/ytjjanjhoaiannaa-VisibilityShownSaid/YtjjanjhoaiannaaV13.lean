/- Visibility: the law Closed: the question of an article that is shown is shown. -/
import Derived.Test.YtjjanjhoaiannaaV12
import Derived.Test.YtjjanjhoaiannaaV9
import Derived.Test.YtjjanjhoaiannaaV6
namespace Go.Proofs.Ytjjanjhoaiannaa
open Go.RowKit
set_option linter.unusedVariables false
set_option linter.unusedSimpArgs false

theorem mem_shown {L : List RowV} {p : RowV → Bool} (hn : (L.map (·.id)).Nodup) {r : RowV} (hr : r ∈ L) : r.id ∈ sortB ((L.filter p).map (·.id)) ↔ p r = true := by
  rw [(sortB_perm _).mem_iff, List.mem_map]
  constructor
  · rintro ⟨s, hs, he⟩
    obtain ⟨h1, h2⟩ := List.mem_filter.1 hs
    rw [row_eq hn h1 hr he] at h2
    exact h2
  · exact fun h => ⟨r, List.mem_filter.2 ⟨hr, h⟩, rfl⟩
theorem sort_len (X : List IdB) : (sortB X).length = X.length := (sortB_perm X).length_eq
theorem shown_len (L : List RowV) (p : RowV → Bool) : (sortB ((L.filter p).map (·.id))).length ≤ L.length := by
  rw [sort_len, List.length_map]
  exact List.length_filter_le _ _

set_option maxRecDepth 100000 in
set_option maxHeartbeats 2000000 in
theorem Closed_law {w : World} (v u : Value) (L : List RowV) (G : List IdB) (now : Int) (hv : RowsAt w v L) (hu : ListAt idE w u G) :
    Calls Try.prog 3 #[v, u, .int .i64 now] w (fun e w' => e = .returned (.bool true) ∧ Below w.heap.size w w') := by
  obtain ⟨va, vc, rfl⟩ := hv.l.form
  obtain ⟨ua, uc, rfl⟩ := hu.form
  obtain ⟨N, hN⟩ : ∃ N, L.length = N := ⟨_, rfl⟩
  have hlm : L.length ≤ 9223372036854775807 := by
    obtain ⟨a, c, e, h1, h2, _⟩ := hv.l.ex
    unfold maxLen at h2
    omega
  have HLM := Lib.hid hlm
  rw [hN] at hv ⊢
  have HV := Lib.hid hv
  have HU := Lib.hid hu
  have HN := Lib.hid hN
  clear hv hu hN hlm
  go_enter Try.func3, Try.ntmps3
  go_wp2_with fail
  refine known_any.mono ?_
  rintro e wa ⟨rfl, hba⟩
  have HBA := Lib.hid hba
  clear hba
  go_wp2_with fail
  refine (few_any _ _ L G (HN.out.symm ▸ HV.out.below HBA.out) (HU.out.below HBA.out) HLM.out).mono ?_
  rintro e wb ⟨rfl, hbb⟩
  have HBB := Lib.hid (HBA.out.trans (hbb.mono HBA.out.size))
  clear hbb
  obtain ⟨bf, hbf⟩ : ∃ bf, fewB L G = bf := ⟨_, rfl⟩
  rw [hbf]
  have HFEW := Lib.hid hbf
  clear hbf
  cases bf with
  | false =>
    go_wp2_with fail
    refine known_any.mono ?_
    rintro e wz ⟨rfl, hbz⟩
    have HBZ := Lib.hid hbz
    clear hbz
    go_wp2_with fail
    exact bodyPost_ret (v := .bool true) (by simp [results, Try.results3, go_sem]) rfl ⟨rfl, (HBB.out).trans (HBZ.out.mono (HBB.out).size)⟩
  | true =>
  obtain ⟨hf1, hf2, hf3⟩ := few_iff.1 HFEW.out
  have HF1 := Lib.hid hf1
  have HF2 := Lib.hid hf2
  have HF3 := Lib.hid hf3
  have HLN := Lib.hid (show L.length < 1000000000 by omega)
  have HGN := Lib.hid (show G.length < 1000000000 by omega)
  clear hf1 hf2 hf3
  go_wp2_with fail
  refine (check_any _ L (HN.out.symm ▸ HV.out.below HBB.out) HLN.out).mono ?_
  rintro e wc ⟨rfl, hbc⟩
  have HBC := Lib.hid ((HBB.out).trans (hbc.mono (HBB.out).size))
  clear hbc
  obtain ⟨ck, hck⟩ : ∃ ck, chkL L = ck := ⟨_, rfl⟩
  rw [hck]
  have HCHK := Lib.hid hck
  clear hck
  rcases Decidable.em (¬ ck = 0) with hc0 | hc0
  · have hcb : (ck == 0) = false := by simpa using hc0
    have hcb2 : (ck != 0) = true := by simp [bne, hcb]
    go_wp2_with fail
    refine known_any.mono ?_
    rintro e wz ⟨rfl, hbz⟩
    have HBZ := Lib.hid hbz
    clear hbz
    go_wp2_with fail
    exact bodyPost_ret (v := .bool true) (by simp [results, Try.results3, go_sem]) rfl ⟨rfl, (HBC.out).trans (HBZ.out.mono (HBC.out).size)⟩
  obtain rfl : ck = 0 := Decidable.of_not_not hc0
  clear hc0
  obtain ⟨hlen, hdt, hrf, hnd⟩ := chk_zero HCHK.out
  have HDT := Lib.hid hdt
  have HRF := Lib.hid hrf
  have HND := Lib.hid hnd
  clear hlen hdt hrf hnd
  go_wp2_with fail
  refine (Shown_any _ _ L G now (HN.out.symm ▸ HV.out.below HBC.out) (HU.out.below HBC.out) HLN.out HGN.out).mono ?_
  rintro e w5 ⟨x, rfl, hox, hb5⟩
  rw [HCHK.out, if_pos rfl] at hox
  rw [HCHK.out]
  obtain ⟨X, hX⟩ : ∃ X, sortB ((L.filter fun r => shB L G now r).map (·.id)) = X := ⟨_, rfl⟩
  rw [hX] at hox
  have HX := Lib.hid hX
  have HXL := Lib.hid (show X.length ≤ L.length from hX ▸ shown_len _ _)
  have HOX := Lib.hid hox.at_
  have HB5 := Lib.hid (HBC.out.trans (hb5.mono HBC.out.size))
  clear hox hb5 hX
  go_wp2_with fail
  go_loopw [9] (fun iv wr => ∃ i : Nat, i ≤ N ∧ iv = .int .i64 (i : Int) ∧ Below w5.heap.size w5 wr) (fun iv _ => N - (intOf iv).toNat)
  case atStart => exact ⟨0, Nat.zero_le _, rfl, Below.refl _ _⟩
  case round =>
    obtain ⟨i, hi, rfl, hB⟩ := hrel
    have HB := Lib.hid hB
    have HBW := Lib.hid (HB5.out.trans (hB.mono HB5.out.size))
    clear hB
    by_cases hlt : i < N
    · have hiI : (i : Int) < (N : Int) := by omega
      have hiI0 : (0 : Int) ≤ (i : Int) := by omega
      have hN30 : N ≤ 4096 := by have := HF2.out; have := HN.out; omega
      have hlt' : i < L.length := by rw [HN.out]; exact hlt
      obtain ⟨g, off, n9, c9, e9, hr, hrl⟩ := row_at (HV.out.below HBW.out) hlt'
      cases e9
      have hmem : L[i] ∈ L := List.getElem_mem hlt'
      have hr20 := HRF.out _ hmem
      have hbs := mem_shown (p := fun r => shB L G now r) HND.out hmem
      rw [HX.out] at hbs
      have hstep : ∀ p, stepR L L[i] = some p → shB L G now L[i] = shB L G now p := fun p hp => shB_step HND.out hmem hp
      obtain ⟨R, hR⟩ : ∃ R, L[i] = R := ⟨_, rfl⟩
      rw [hR] at hr hrl hr20 hbs hstep
      obtain ⟨_, _, hrv⟩ := row_mid hr
      obtain ⟨ra, rc, hre⟩ := hrl.form
      rcases hQ : R.refs.getLast? with _ | q
      · have hnil : R.refs = [] := List.getLast?_eq_none_iff.1 hQ
        have hn0 : R.refs.length = 0 := by rw [hnil]; rfl
        rw [hre, hn0] at hrv
        clear hr hrl hre hmem hr20 hQ hnil hn0 hbs hstep hR
        go_wp2_with fail
        go_roundw
        case rel => exact ⟨i + 1, by omega, by go_num, HB.out⟩
        case measure => simp [intOf]; omega
      · obtain ⟨K, hK⟩ : ∃ K, R.refs.length = K := ⟨_, rfl⟩
        have hKp : 0 < K := by
          cases h : R.refs with
          | nil => rw [h] at hQ; cases hQ
          | cons a t => rw [← hK, h]; exact Nat.succ_pos _
        have hqe : R.refs[K - 1]'(by omega) = q := by
          rw [List.getLast?_eq_getElem?, hK, List.getElem?_eq_getElem (by omega)] at hQ
          exact Option.some.inj hQ
        have hrl2 := hre ▸ hrl
        obtain ⟨qg, qo, hqa, hqg, hqr⟩ := hrl2.get (i := K - 1) (by omega)
        rw [hqe] at hqr
        obtain ⟨m, hm⟩ : ∃ m, K - 1 = m := ⟨_, rfl⟩
        rw [hm] at hqr
        have hqr : wr.rangeAt qg (qo + m * 32) (bvs q.1) := hqr
        subst hqa
        rw [hre, hK] at hrv
        have hNl : (K : Int) - 1 = (m : Int) := by omega
        have hKI : (1 : Int) ≤ (K : Int) := by omega
        have hK20 : K ≤ 20 := by omega
        have hm20 : m ≤ 20 := by omega
        have hmlt : (m : Int) < (K : Int) := by omega
        have hm0 : (0 : Int) ≤ (m : Int) := by omega
        have hmpos : (0 : Int) < (K : Int) := by omega
        have hqst : stepR L R = findRow L q := by unfold stepR; rw [hQ]; rfl
        have HRI := Lib.hid (row_id hr)
        have HSI := Lib.hid (sizeId R.id)
        have HSQ := Lib.hid (sizeId q)
        have HQR := Lib.hid hqr
        have HBS := Lib.hid hbs
        have HST := Lib.hid hstep
        have HQST := Lib.hid hqst
        have HRV := Lib.hid hrv
        clear hr hrl hre hmem hr20 hQ hm hqe hqr hrl2 hK hbs hstep hR hqst
        go_wp2_with (refine wpList_met rfl ?_; with_reducible refine wpList_load_mid rfl 31 _ rfl g (off + i * 83) rfl (bvs R.id.1) _ HRI.out Try.underlying31 rfl HSI.out ?_)
        refine (has_any _ X R.id (HOX.out.below HB.out) (by have := HXL.out; have := HLN.out; omega)).mono ?_
        rintro e w2 ⟨rfl, hb2⟩
        have HB2 := Lib.hid (HB.out.trans (hb2.mono HB.out.size))
        have HBW2 := Lib.hid (HBW.out.trans (hb2.mono HBW.out.size))
        have HRQ2 := Lib.hid (range_below HQR.out (id_lt HQR.out) hb2)
        have hrv2 := (hb2.cell (p := ⟨g, off + i * 83 + 50, none⟩) (World.block_lt_of_cell? _ _ hrv)).trans hrv
        clear hb2 hrv
        obtain ⟨bs, hbs⟩ : ∃ bs, decide (R.id ∈ X) = bs := ⟨_, rfl⟩
        rw [hbs]
        have HBD := Lib.hid hbs
        clear hbs
        cases bs with
        | false =>
          go_wp2_with fail
          go_roundw
          case rel => exact ⟨i + 1, by omega, by go_num, HB2.out⟩
          case measure => simp [intOf]; omega
        | true =>
          go_wp2_with (refine wpList_met rfl ?_; with_reducible refine wpList_load_mid rfl 31 _ rfl qg (qo + m * 32) rfl (bvs q.1) _ HRQ2.out Try.underlying31 rfl HSQ.out ?_)
          refine (row_any _ L q (HV.out.below HBW2.out) (by have := HLN.out; have := HN.out; omega)).mono ?_
          rintro e w3 ⟨rfl, hb3⟩
          have HB3 := Lib.hid (HB2.out.trans (hb3.mono HB2.out.size))
          have HBW3 := Lib.hid (HBW2.out.trans (hb3.mono HBW2.out.size))
          have HRQ3 := Lib.hid (range_below HRQ2.out (id_lt HRQ2.out) hb3)
          have hrv3 := (hb3.cell (p := ⟨g, off + i * 83 + 50, none⟩) (World.block_lt_of_cell? _ _ hrv2)).trans hrv2
          clear hb3 hrv2
          rcases hk : L.findIdx? (fun r => r.id == q) with _ | k
          · have hix : rowIx L q = -1 := by unfold rowIx; rw [hk]
            rw [hix]
            clear hk hix
            go_wp2_with fail
            go_roundw
            case rel => exact ⟨i + 1, by omega, by go_num, HB3.out⟩
            case measure => simp [intOf]; omega
          · have hix : rowIx L q = (k : Int) := by unfold rowIx; rw [hk]
            rw [hix]
            obtain ⟨hkl, hfk⟩ := find_idx.1 hk
            have hqX : q ∈ X := by
              have h1 := (findRow_mem hfk)
              have h2 := HST.out _ (HQST.out.trans hfk)
              have h3 := HBS.out.1 (decide_eq_true_iff.1 HBD.out)
              rw [← h1.2, ← HX.out, mem_shown HND.out h1.1, ← h2]
              exact h3
            have HQX := Lib.hid hqX
            have hkI0 : (0 : Int) ≤ (k : Int) := by omega
            clear hk hix hkl hfk hqX
            go_wp2_with (refine wpList_met rfl ?_; with_reducible refine wpList_load_mid rfl 31 _ rfl qg (qo + m * 32) rfl (bvs q.1) _ HRQ3.out Try.underlying31 rfl HSQ.out ?_)
            refine (has_any _ X q (HOX.out.below HB3.out) (by have := HXL.out; have := HLN.out; omega)).mono ?_
            rintro e w4 ⟨rfl, hb4⟩
            have HB4 := Lib.hid (HB3.out.trans (hb4.mono HB3.out.size))
            clear hb4
            rw [decide_eq_true HQX.out]
            go_wp2_with fail
            go_roundw
            case rel => exact ⟨i + 1, by omega, by go_num, HB4.out⟩
            case measure => simp [intOf]; omega
    · obtain rfl : N = i := by omega
      go_wp2_with fail
      exact bodyPost_ret (v := .bool true) (by simp [results, Try.results3, go_sem]) rfl ⟨rfl, HBW.out⟩

end Go.Proofs.Ytjjanjhoaiannaa
