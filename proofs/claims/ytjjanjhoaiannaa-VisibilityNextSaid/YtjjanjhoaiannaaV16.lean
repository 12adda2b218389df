/- Visibility: the law Next. -/
import Derived.Test.YtjjanjhoaiannaaVp5
import Derived.Test.YtjjanjhoaiannaaV10
namespace Go.Proofs.Ytjjanjhoaiannaa
open Go.RowKit
set_option linter.unusedVariables false
set_option linter.unusedSimpArgs false

set_option maxRecDepth 100000 in
set_option maxHeartbeats 2000000 in
theorem Next_law {w : World} (v u : Value) (L : List RowV) (G : List IdB) (now : Int) (hv : RowsAt w v L) (hu : ListAt idE w u G) :
    Calls Try.prog 6 #[v, u, .int .i64 now] w (fun e w' => e = .returned (.bool true) ∧ Below w.heap.size w w') := by
  obtain ⟨va, vc, rfl⟩ := hv.l.form
  obtain ⟨ua, uc, rfl⟩ := hu.form
  obtain ⟨N, hN⟩ : ∃ N, L.length = N := ⟨_, rfl⟩
  have hlm : L.length ≤ 9223372036854775807 := by
    obtain ⟨a, c, e, h1, h2, _⟩ := hv.l.ex
    unfold maxLen at h2
    omega
  have HLM := Lib.hid hlm
  rw [hN] at hv ⊢
  have HV := Lib.hid hv
  have HU := Lib.hid hu
  have HN := Lib.hid hN
  clear hv hu hN hlm
  go_enter Try.func6, Try.ntmps6
  go_wp2_with fail
  refine known_any.mono ?_
  rintro e wa ⟨rfl, hba⟩
  have HBA := Lib.hid hba
  clear hba
  go_wp2_with fail
  refine (few_any _ _ L G (HN.out.symm ▸ HV.out.below HBA.out) (HU.out.below HBA.out) HLM.out).mono ?_
  rintro e wb ⟨rfl, hbb⟩
  have HBB := Lib.hid (HBA.out.trans (hbb.mono HBA.out.size))
  clear hbb
  obtain ⟨bf, hbf⟩ : ∃ bf, fewB L G = bf := ⟨_, rfl⟩
  rw [hbf]
  have HFEW := Lib.hid hbf
  clear hbf
  cases bf with
  | false =>
    go_wp2_with fail
    refine known_any.mono ?_
    rintro e wz ⟨rfl, hbz⟩
    have HBZ := Lib.hid hbz
    clear hbz
    go_wp2_with fail
    exact bodyPost_ret (v := .bool true) (by simp [results, Try.results6, go_sem]) rfl ⟨rfl, (HBB.out).trans (HBZ.out.mono (HBB.out).size)⟩
  | true =>
  obtain ⟨hf1, hf2, hf3⟩ := few_iff.1 HFEW.out
  have HF1 := Lib.hid hf1
  have HF2 := Lib.hid hf2
  have HF3 := Lib.hid hf3
  have HLN := Lib.hid (show L.length < 1000000000 by omega)
  have HGN := Lib.hid (show G.length < 1000000000 by omega)
  clear hf1 hf2 hf3
  go_wp2_with fail
  refine (check_any _ L (HN.out.symm ▸ HV.out.below HBB.out) HLN.out).mono ?_
  rintro e wc ⟨rfl, hbc⟩
  have HBC := Lib.hid ((HBB.out).trans (hbc.mono (HBB.out).size))
  clear hbc
  obtain ⟨ck, hck⟩ : ∃ ck, chkL L = ck := ⟨_, rfl⟩
  rw [hck]
  have HCHK := Lib.hid hck
  clear hck
  rcases Decidable.em (¬ ck = 0) with hc0 | hc0
  · have hcb : (ck == 0) = false := by simpa using hc0
    have hcb2 : (ck != 0) = true := by simp [bne, hcb]
    go_wp2_with fail
    refine known_any.mono ?_
    rintro e wz ⟨rfl, hbz⟩
    have HBZ := Lib.hid hbz
    clear hbz
    go_wp2_with fail
    exact bodyPost_ret (v := .bool true) (by simp [results, Try.results6, go_sem]) rfl ⟨rfl, (HBC.out).trans (HBZ.out.mono (HBC.out).size)⟩
  obtain rfl : ck = 0 := Decidable.of_not_not hc0
  clear hc0
  obtain ⟨hlen, hdt, hrf, hnd⟩ := chk_zero HCHK.out
  have HDT := Lib.hid hdt
  have HRF := Lib.hid hrf
  have HND := Lib.hid hnd
  clear hlen hdt hrf hnd
  obtain ⟨hlaw, his0, hlt0⟩ := next_law (L := L) (G := G) (now := now) HND.out (fun r hr => (HDT.out r hr).1)
  obtain ⟨m, hm⟩ : ∃ m, (nextL L G now).1 = m := ⟨_, rfl⟩
  obtain ⟨is, his⟩ : ∃ is, (nextL L G now).2 = is := ⟨_, rfl⟩
  rw [his, hm] at his0
  rw [his, hm] at hlt0
  have HLAW := Lib.hid hlaw
  have HM := Lib.hid hm
  have HIS := Lib.hid his
  have HIS0 := Lib.hid his0
  have HLT0 := Lib.hid hlt0
  have HL4 := Lib.hid (show L.length ≤ 4096 by have := HF2.out; omega)
  have HSL := Lib.hid (show ∀ t, (shS L G t).length < 1000000000 from fun t => by have h := shown_len L (fun r => shB L G t r); have h2 := HLN.out; unfold shS; omega)
  clear hlaw hm his his0 hlt0
  have hN30 : N ≤ 30 := by have := HF2.out; have := HN.out; omega
  go_wp2_with fail
  refine (Next_any _ _ L G now (HN.out.symm ▸ HV.out.below HBC.out) (HU.out.below HBC.out) HLN.out HGN.out).mono ?_
  rintro e w5 ⟨rfl, hb5⟩
  rw [HCHK.out, if_pos rfl, if_pos rfl, HM.out, HIS.out]
  have HB5 := Lib.hid (HBC.out.trans (hb5.mono HBC.out.size))
  clear hb5
  cases is with
  | true =>
    have hnm : ¬ m ≤ now := by have := HLT0.out rfl; omega
    have hm0 : (m == 0) = false := by have h := HIS0.out; simpa using h
    have hm1 : (m != 0) = true := by simp [bne, hm0]
    go_wp2_with fail
    refine (shown_any _ _ L G now (HN.out.symm ▸ HV.out.below HB5.out) (HU.out.below HB5.out) HL4.out HGN.out HND.out HDT.out HRF.out).mono ?_
    rintro e w6 ⟨mh, rfl, hmh, hb6⟩
    have HMH6 := Lib.hid hmh.at_
    have HB6 := Lib.hid (HB5.out.trans (hb6.mono HB5.out.size))
    clear hmh hb6
    go_wp2_with fail
    go_loopw [11, 12] (fun fv iv wr => ∃ (i : Nat) (f : Int), i ≤ N ∧ iv = .int .i64 (i : Int) ∧ fv = .int .i64 f ∧ (L.take i).foldl (lawStep (lawC L G now)) 0 = f ∧ Below w6.heap.size w6 wr) (fun _ iv _ => N - (intOf iv).toNat)
    case atStart => exact ⟨0, 0, Nat.zero_le _, rfl, rfl, rfl, Below.refl _ _⟩
    case round =>
      obtain ⟨i, f, hi, rfl, rfl, hf, hB⟩ := hrel
      have HF := Lib.hid hf
      have HB := Lib.hid (Below.refl wr.heap.size wr)
      have HB6R := Lib.hid hB
      have HBW := Lib.hid (HB6.out.trans (hB.mono HB6.out.size))
      have HMH := Lib.hid (HMH6.out.below hB)
      clear hB hf
      by_cases hlt : i < N
      · have hiI : (i : Int) < (N : Int) := by omega
        have hiI0 : (0 : Int) ≤ (i : Int) := by omega
        have hlt' : i < L.length := by rw [HN.out]; exact hlt
        obtain ⟨g, off, n9, c9, e9, hr, hrl⟩ := row_at (HV.out.below HBW.out) hlt'
        cases e9
        have hmem : L[i] ∈ L := List.getElem_mem hlt'
        have hdd := HDT.out _ hmem
        have hsn := fold_next (lawStep (lawC L G now)) 0 L hlt'
        rw [HF.out] at hsn
        obtain ⟨R, hR⟩ : ∃ R, L[i] = R := ⟨_, rfl⟩
        rw [hR] at hr hdd hsn
        obtain ⟨hdt, _, _⟩ := row_mid hr
        obtain ⟨d, hdq⟩ : ∃ d, R.date = d := ⟨_, rfl⟩
        rw [hdq] at hdt hdd
        obtain ⟨hd1, hd2⟩ := hdd
        obtain ⟨at_, hat⟩ : ∃ at_, d + 2880 = at_ := ⟨_, rfl⟩
        have HAT := Lib.hid (show R.date + 2880 = at_ by rw [hdq]; exact hat)
        have HSN := Lib.hid hsn
        clear hr hrl hmem hR hsn hdq
        by_cases hgt : now < at_
        · by_cases hf0 : f = 0
          · subst hf0
            go_wp2_with fail
            refine (shown_any _ _ L G at_ (HN.out.symm ▸ HV.out.below HBW.out) (HU.out.below HBW.out) HL4.out HGN.out HND.out HDT.out HRF.out).mono ?_
            rintro e w7 ⟨ma, rfl, hma, hb7⟩
            have HMA := Lib.hid hma.at_
            have HB7 := Lib.hid (HB.out.trans (hb7.mono HB.out.size))
            have HBW7 := Lib.hid (HBW.out.trans (hb7.mono HBW.out.size))
            clear hma hb7
            go_wp2_with fail
            refine (pick_any _ _ L (L.map (shB L G at_)) true (HN.out.symm ▸ HV.out.below HBW7.out) HMA.out (List.length_map _) HL4.out).mono ?_
            rintro e w8 ⟨pa, rfl, hpa, hb8⟩
            rw [(pick_marks _ L).1] at hpa
            have HPA := Lib.hid (show ListAt idE w8 pa (shS L G at_) from hpa.at_)
            have HB8 := Lib.hid (HB7.out.trans (hb8.mono HB7.out.size))
            have HBW8 := Lib.hid (HBW7.out.trans (hb8.mono HBW7.out.size))
            clear hpa hb8
            go_wp2_with fail
            refine (pick_any _ _ L (L.map (shB L G now)) true (HN.out.symm ▸ HV.out.below HBW8.out) (HMH.out.below HB8.out) (List.length_map _) HL4.out).mono ?_
            rintro e w9 ⟨pb, rfl, hpb, hb9⟩
            rw [(pick_marks _ L).1] at hpb
            have HPB := Lib.hid (show ListAt idE w9 pb (shS L G now) from hpb.at_)
            have HPA9 := Lib.hid (HPA.out.below hb9)
            have HB9 := Lib.hid (HB8.out.trans (hb9.mono HB8.out.size))
            clear hpb hb9
            go_wp2_with fail
            refine (equal_any _ _ (shS L G at_) (shS L G now) HPA9.out HPB.out (HSL.out _) (HSL.out _)).mono ?_
            rintro e w10 ⟨rfl, hb10⟩
            have HB10 := Lib.hid (HB9.out.trans (hb10.mono HB9.out.size))
            clear hb10
            have hstep2 : lawStep (lawC L G now) 0 R = if shS L G at_ = shS L G now then 0 else at_ := by
              unfold lawStep lawC
              rw [HAT.out, (show (decide ((0 : Int) = 0) || decide (at_ < 0)) = true by simp), decide_eq_true hgt]
              by_cases he : shS L G at_ = shS L G now <;> simp [he]
            have HST2 := Lib.hid hstep2
            clear hstep2
            obtain ⟨eqb, heqb⟩ : ∃ eqb, decide (shS L G at_ = shS L G now) = eqb := ⟨_, rfl⟩
            rw [heqb]
            have HEQ := Lib.hid heqb
            clear heqb
            cases eqb with
            | true =>
              go_wp2_with fail
              go_roundw
              case rel => exact ⟨i + 1, 0, by omega, by go_num, rfl, (by rw [HSN.out]; exact (HST2.out.trans (if_pos (decide_eq_true_iff.1 HEQ.out)))), HB6R.out.trans (HB10.out.mono HB6R.out.size)⟩
              case measure => simp [intOf]; omega
            | false =>
              go_wp2_with fail
              go_roundw
              case rel => exact ⟨i + 1, at_, by omega, by go_num, rfl, (by rw [HSN.out]; exact (HST2.out.trans (if_neg (decide_eq_false_iff_not.1 HEQ.out)))), HB6R.out.trans (HB10.out.mono HB6R.out.size)⟩
              case measure => simp [intOf]; omega
          · have hfb : (f == 0) = false := by simpa using hf0
            by_cases hlf : at_ < f
            · have HC3 := Lib.hid (show (decide (f = 0) || decide (at_ < f)) = true by rw [decide_eq_true hlf, Bool.or_true])
              go_wp2_with fail
              refine (shown_any _ _ L G at_ (HN.out.symm ▸ HV.out.below HBW.out) (HU.out.below HBW.out) HL4.out HGN.out HND.out HDT.out HRF.out).mono ?_
              rintro e w7 ⟨ma, rfl, hma, hb7⟩
              have HMA := Lib.hid hma.at_
              have HB7 := Lib.hid (HB.out.trans (hb7.mono HB.out.size))
              have HBW7 := Lib.hid (HBW.out.trans (hb7.mono HBW.out.size))
              clear hma hb7
              go_wp2_with fail
              refine (pick_any _ _ L (L.map (shB L G at_)) true (HN.out.symm ▸ HV.out.below HBW7.out) HMA.out (List.length_map _) HL4.out).mono ?_
              rintro e w8 ⟨pa, rfl, hpa, hb8⟩
              rw [(pick_marks _ L).1] at hpa
              have HPA := Lib.hid (show ListAt idE w8 pa (shS L G at_) from hpa.at_)
              have HB8 := Lib.hid (HB7.out.trans (hb8.mono HB7.out.size))
              have HBW8 := Lib.hid (HBW7.out.trans (hb8.mono HBW7.out.size))
              clear hpa hb8
              go_wp2_with fail
              refine (pick_any _ _ L (L.map (shB L G now)) true (HN.out.symm ▸ HV.out.below HBW8.out) (HMH.out.below HB8.out) (List.length_map _) HL4.out).mono ?_
              rintro e w9 ⟨pb, rfl, hpb, hb9⟩
              rw [(pick_marks _ L).1] at hpb
              have HPB := Lib.hid (show ListAt idE w9 pb (shS L G now) from hpb.at_)
              have HPA9 := Lib.hid (HPA.out.below hb9)
              have HB9 := Lib.hid (HB8.out.trans (hb9.mono HB8.out.size))
              clear hpb hb9
              go_wp2_with fail
              refine (equal_any _ _ (shS L G at_) (shS L G now) HPA9.out HPB.out (HSL.out _) (HSL.out _)).mono ?_
              rintro e w10 ⟨rfl, hb10⟩
              have HB10 := Lib.hid (HB9.out.trans (hb10.mono HB9.out.size))
              clear hb10
              have hstep2 : lawStep (lawC L G now) f R = if shS L G at_ = shS L G now then f else at_ := by
                unfold lawStep lawC
                rw [HAT.out, HC3.out, decide_eq_true hgt]
                by_cases he : shS L G at_ = shS L G now <;> simp [he]
              have HST2 := Lib.hid hstep2
              clear hstep2
              obtain ⟨eqb, heqb⟩ : ∃ eqb, decide (shS L G at_ = shS L G now) = eqb := ⟨_, rfl⟩
              rw [heqb]
              have HEQ := Lib.hid heqb
              clear heqb
              cases eqb with
              | true =>
                go_wp2_with fail
                go_roundw
                case rel => exact ⟨i + 1, f, by omega, by go_num, rfl, (by rw [HSN.out]; exact (HST2.out.trans (if_pos (decide_eq_true_iff.1 HEQ.out)))), HB6R.out.trans (HB10.out.mono HB6R.out.size)⟩
                case measure => simp [intOf]; omega
              | false =>
                go_wp2_with fail
                go_roundw
                case rel => exact ⟨i + 1, at_, by omega, by go_num, rfl, (by rw [HSN.out]; exact (HST2.out.trans (if_neg (decide_eq_false_iff_not.1 HEQ.out)))), HB6R.out.trans (HB10.out.mono HB6R.out.size)⟩
                case measure => simp [intOf]; omega
            · have HC3 := Lib.hid (show lawStep (lawC L G now) f R = f by unfold lawStep; rw [HAT.out, decide_eq_false hf0, decide_eq_false hlf, Bool.or_false, Bool.and_false, if_neg (by decide)])
              go_wp2_with fail
              go_roundw
              case rel => exact ⟨i + 1, f, by omega, by go_num, rfl, (by rw [HSN.out]; exact HC3.out), HB6R.out⟩
              case measure => simp [intOf]; omega
        · have HC3 := Lib.hid (show lawStep (lawC L G now) f R = f by unfold lawStep lawC; rw [HAT.out, decide_eq_false hgt, Bool.false_and, Bool.false_and, if_neg (by decide)])
          go_wp2_with fail
          go_roundw
          case rel => exact ⟨i + 1, f, by omega, by go_num, rfl, (by rw [HSN.out]; exact HC3.out), HB6R.out⟩
          case measure => simp [intOf]; omega
      · obtain rfl : N = i := by omega
        have hfm : f = m := by
          rw [← HF.out, List.take_of_length_le (by rw [HN.out]; exact Nat.le_refl _), HLAW.out, HM.out]
        obtain rfl := hfm
        go_wp2_with fail
        exact bodyPost_ret (v := .bool true) (by simp [results, Try.results6, go_sem]) rfl ⟨rfl, HBW.out⟩

  | false =>
    obtain rfl : m = 0 := by have h := HIS0.out; simpa using h
    go_wp2_with fail
    refine (shown_any _ _ L G now (HN.out.symm ▸ HV.out.below HB5.out) (HU.out.below HB5.out) HL4.out HGN.out HND.out HDT.out HRF.out).mono ?_
    rintro e w6 ⟨mh, rfl, hmh, hb6⟩
    have HMH6 := Lib.hid hmh.at_
    have HB6 := Lib.hid (HB5.out.trans (hb6.mono HB5.out.size))
    clear hmh hb6
    go_wp2_with fail
    go_loopw [11, 12] (fun fv iv wr => ∃ (i : Nat) (f : Int), i ≤ N ∧ iv = .int .i64 (i : Int) ∧ fv = .int .i64 f ∧ (L.take i).foldl (lawStep (lawC L G now)) 0 = f ∧ Below w6.heap.size w6 wr) (fun _ iv _ => N - (intOf iv).toNat)
    case atStart => exact ⟨0, 0, Nat.zero_le _, rfl, rfl, rfl, Below.refl _ _⟩
    case round =>
      obtain ⟨i, f, hi, rfl, rfl, hf, hB⟩ := hrel
      have HF := Lib.hid hf
      have HB := Lib.hid (Below.refl wr.heap.size wr)
      have HB6R := Lib.hid hB
      have HBW := Lib.hid (HB6.out.trans (hB.mono HB6.out.size))
      have HMH := Lib.hid (HMH6.out.below hB)
      clear hB hf
      by_cases hlt : i < N
      · have hiI : (i : Int) < (N : Int) := by omega
        have hiI0 : (0 : Int) ≤ (i : Int) := by omega
        have hlt' : i < L.length := by rw [HN.out]; exact hlt
        obtain ⟨g, off, n9, c9, e9, hr, hrl⟩ := row_at (HV.out.below HBW.out) hlt'
        cases e9
        have hmem : L[i] ∈ L := List.getElem_mem hlt'
        have hdd := HDT.out _ hmem
        have hsn := fold_next (lawStep (lawC L G now)) 0 L hlt'
        rw [HF.out] at hsn
        obtain ⟨R, hR⟩ : ∃ R, L[i] = R := ⟨_, rfl⟩
        rw [hR] at hr hdd hsn
        obtain ⟨hdt, _, _⟩ := row_mid hr
        obtain ⟨d, hdq⟩ : ∃ d, R.date = d := ⟨_, rfl⟩
        rw [hdq] at hdt hdd
        obtain ⟨hd1, hd2⟩ := hdd
        obtain ⟨at_, hat⟩ : ∃ at_, d + 2880 = at_ := ⟨_, rfl⟩
        have HAT := Lib.hid (show R.date + 2880 = at_ by rw [hdq]; exact hat)
        have HSN := Lib.hid hsn
        clear hr hrl hmem hR hsn hdq
        by_cases hgt : now < at_
        · by_cases hf0 : f = 0
          · subst hf0
            go_wp2_with fail
            refine (shown_any _ _ L G at_ (HN.out.symm ▸ HV.out.below HBW.out) (HU.out.below HBW.out) HL4.out HGN.out HND.out HDT.out HRF.out).mono ?_
            rintro e w7 ⟨ma, rfl, hma, hb7⟩
            have HMA := Lib.hid hma.at_
            have HB7 := Lib.hid (HB.out.trans (hb7.mono HB.out.size))
            have HBW7 := Lib.hid (HBW.out.trans (hb7.mono HBW.out.size))
            clear hma hb7
            go_wp2_with fail
            refine (pick_any _ _ L (L.map (shB L G at_)) true (HN.out.symm ▸ HV.out.below HBW7.out) HMA.out (List.length_map _) HL4.out).mono ?_
            rintro e w8 ⟨pa, rfl, hpa, hb8⟩
            rw [(pick_marks _ L).1] at hpa
            have HPA := Lib.hid (show ListAt idE w8 pa (shS L G at_) from hpa.at_)
            have HB8 := Lib.hid (HB7.out.trans (hb8.mono HB7.out.size))
            have HBW8 := Lib.hid (HBW7.out.trans (hb8.mono HBW7.out.size))
            clear hpa hb8
            go_wp2_with fail
            refine (pick_any _ _ L (L.map (shB L G now)) true (HN.out.symm ▸ HV.out.below HBW8.out) (HMH.out.below HB8.out) (List.length_map _) HL4.out).mono ?_
            rintro e w9 ⟨pb, rfl, hpb, hb9⟩
            rw [(pick_marks _ L).1] at hpb
            have HPB := Lib.hid (show ListAt idE w9 pb (shS L G now) from hpb.at_)
            have HPA9 := Lib.hid (HPA.out.below hb9)
            have HB9 := Lib.hid (HB8.out.trans (hb9.mono HB8.out.size))
            clear hpb hb9
            go_wp2_with fail
            refine (equal_any _ _ (shS L G at_) (shS L G now) HPA9.out HPB.out (HSL.out _) (HSL.out _)).mono ?_
            rintro e w10 ⟨rfl, hb10⟩
            have HB10 := Lib.hid (HB9.out.trans (hb10.mono HB9.out.size))
            clear hb10
            have hstep2 : lawStep (lawC L G now) 0 R = if shS L G at_ = shS L G now then 0 else at_ := by
              unfold lawStep lawC
              rw [HAT.out, (show (decide ((0 : Int) = 0) || decide (at_ < 0)) = true by simp), decide_eq_true hgt]
              by_cases he : shS L G at_ = shS L G now <;> simp [he]
            have HST2 := Lib.hid hstep2
            clear hstep2
            obtain ⟨eqb, heqb⟩ : ∃ eqb, decide (shS L G at_ = shS L G now) = eqb := ⟨_, rfl⟩
            rw [heqb]
            have HEQ := Lib.hid heqb
            clear heqb
            cases eqb with
            | true =>
              go_wp2_with fail
              go_roundw
              case rel => exact ⟨i + 1, 0, by omega, by go_num, rfl, (by rw [HSN.out]; exact (HST2.out.trans (if_pos (decide_eq_true_iff.1 HEQ.out)))), HB6R.out.trans (HB10.out.mono HB6R.out.size)⟩
              case measure => simp [intOf]; omega
            | false =>
              go_wp2_with fail
              go_roundw
              case rel => exact ⟨i + 1, at_, by omega, by go_num, rfl, (by rw [HSN.out]; exact (HST2.out.trans (if_neg (decide_eq_false_iff_not.1 HEQ.out)))), HB6R.out.trans (HB10.out.mono HB6R.out.size)⟩
              case measure => simp [intOf]; omega
          · have hfb : (f == 0) = false := by simpa using hf0
            by_cases hlf : at_ < f
            · have HC3 := Lib.hid (show (decide (f = 0) || decide (at_ < f)) = true by rw [decide_eq_true hlf, Bool.or_true])
              go_wp2_with fail
              refine (shown_any _ _ L G at_ (HN.out.symm ▸ HV.out.below HBW.out) (HU.out.below HBW.out) HL4.out HGN.out HND.out HDT.out HRF.out).mono ?_
              rintro e w7 ⟨ma, rfl, hma, hb7⟩
              have HMA := Lib.hid hma.at_
              have HB7 := Lib.hid (HB.out.trans (hb7.mono HB.out.size))
              have HBW7 := Lib.hid (HBW.out.trans (hb7.mono HBW.out.size))
              clear hma hb7
              go_wp2_with fail
              refine (pick_any _ _ L (L.map (shB L G at_)) true (HN.out.symm ▸ HV.out.below HBW7.out) HMA.out (List.length_map _) HL4.out).mono ?_
              rintro e w8 ⟨pa, rfl, hpa, hb8⟩
              rw [(pick_marks _ L).1] at hpa
              have HPA := Lib.hid (show ListAt idE w8 pa (shS L G at_) from hpa.at_)
              have HB8 := Lib.hid (HB7.out.trans (hb8.mono HB7.out.size))
              have HBW8 := Lib.hid (HBW7.out.trans (hb8.mono HBW7.out.size))
              clear hpa hb8
              go_wp2_with fail
              refine (pick_any _ _ L (L.map (shB L G now)) true (HN.out.symm ▸ HV.out.below HBW8.out) (HMH.out.below HB8.out) (List.length_map _) HL4.out).mono ?_
              rintro e w9 ⟨pb, rfl, hpb, hb9⟩
              rw [(pick_marks _ L).1] at hpb
              have HPB := Lib.hid (show ListAt idE w9 pb (shS L G now) from hpb.at_)
              have HPA9 := Lib.hid (HPA.out.below hb9)
              have HB9 := Lib.hid (HB8.out.trans (hb9.mono HB8.out.size))
              clear hpb hb9
              go_wp2_with fail
              refine (equal_any _ _ (shS L G at_) (shS L G now) HPA9.out HPB.out (HSL.out _) (HSL.out _)).mono ?_
              rintro e w10 ⟨rfl, hb10⟩
              have HB10 := Lib.hid (HB9.out.trans (hb10.mono HB9.out.size))
              clear hb10
              have hstep2 : lawStep (lawC L G now) f R = if shS L G at_ = shS L G now then f else at_ := by
                unfold lawStep lawC
                rw [HAT.out, HC3.out, decide_eq_true hgt]
                by_cases he : shS L G at_ = shS L G now <;> simp [he]
              have HST2 := Lib.hid hstep2
              clear hstep2
              obtain ⟨eqb, heqb⟩ : ∃ eqb, decide (shS L G at_ = shS L G now) = eqb := ⟨_, rfl⟩
              rw [heqb]
              have HEQ := Lib.hid heqb
              clear heqb
              cases eqb with
              | true =>
                go_wp2_with fail
                go_roundw
                case rel => exact ⟨i + 1, f, by omega, by go_num, rfl, (by rw [HSN.out]; exact (HST2.out.trans (if_pos (decide_eq_true_iff.1 HEQ.out)))), HB6R.out.trans (HB10.out.mono HB6R.out.size)⟩
                case measure => simp [intOf]; omega
              | false =>
                go_wp2_with fail
                go_roundw
                case rel => exact ⟨i + 1, at_, by omega, by go_num, rfl, (by rw [HSN.out]; exact (HST2.out.trans (if_neg (decide_eq_false_iff_not.1 HEQ.out)))), HB6R.out.trans (HB10.out.mono HB6R.out.size)⟩
                case measure => simp [intOf]; omega
            · have HC3 := Lib.hid (show lawStep (lawC L G now) f R = f by unfold lawStep; rw [HAT.out, decide_eq_false hf0, decide_eq_false hlf, Bool.or_false, Bool.and_false, if_neg (by decide)])
              go_wp2_with fail
              go_roundw
              case rel => exact ⟨i + 1, f, by omega, by go_num, rfl, (by rw [HSN.out]; exact HC3.out), HB6R.out⟩
              case measure => simp [intOf]; omega
        · have HC3 := Lib.hid (show lawStep (lawC L G now) f R = f by unfold lawStep lawC; rw [HAT.out, decide_eq_false hgt, Bool.false_and, Bool.false_and, if_neg (by decide)])
          go_wp2_with fail
          go_roundw
          case rel => exact ⟨i + 1, f, by omega, by go_num, rfl, (by rw [HSN.out]; exact HC3.out), HB6R.out⟩
          case measure => simp [intOf]; omega
      · obtain rfl : N = i := by omega
        have hfm : f = 0 := by
          rw [← HF.out, List.take_of_length_le (by rw [HN.out]; exact Nat.le_refl _), HLAW.out, HM.out]
        obtain rfl := hfm
        go_wp2_with fail
        exact bodyPost_ret (v := .bool true) (by simp [results, Try.results6, go_sem]) rfl ⟨rfl, HBW.out⟩

end Go.Proofs.Ytjjanjhoaiannaa
