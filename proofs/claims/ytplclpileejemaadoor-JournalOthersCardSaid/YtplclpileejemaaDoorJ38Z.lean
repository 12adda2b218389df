/- The law JournalOthers. -/
import Derived.Test.YtplclpileejemaaDoorJ37Z
namespace Go.Proofs.YtplclpileejemaaDoor
open Go.RowKit
set_option linter.unusedVariables false
set_option linter.unusedSimpArgs false

set_option maxRecDepth 100000 in
set_option maxHeartbeats 2000000 in
theorem JournalOthers_any {w : World} (hK : KAt w) {va : Option Addr} {vc : Nat} {L : List JOp} (hv : JOpsAt w (.slice va L.length vc) L) {va2 : Option Addr} {vc2 : Nat} {L2 : List JOp} (hv2 : JOpsAt w (.slice va2 L2.length vc2) L2) (fl : Nat) (hfl : fl < 256) :
    Calls Tryd.prog 6 #[.slice va L.length vc, .slice va2 L2.length vc2, .int .u8 (fl : Int)] w fun e w' => e = .returned (.bool true) ∧ Below w.heap.size w w' := by
  have HKN := Lib.hid (fun (V : World) (hV : Below w.heap.size w V) => known_any (KAt.below hK hV hK.size))
  have HK := Lib.hid hK
  have hK0 := hK.size
  have HV := Lib.hid hv
  have HV2 := Lib.hid hv2
  have HFI := Lib.hid (fun (V : World) (hV : Below w.heap.size w V) => fits_any (hv.below hV))
  have HFI2 := Lib.hid (fun (V : World) (hV : Below w.heap.size w V) => fits_any (hv2.below hV))
  obtain ⟨n, hn⟩ : ∃ n, L.length = n := ⟨_, rfl⟩
  obtain ⟨n2, hn2⟩ : ∃ n, L2.length = n := ⟨_, rfl⟩
  have HN := Lib.hid hn
  have HN2 := Lib.hid hn2
  have hnm : n ≤ 9223372036854775807 := by
    obtain ⟨a', c', e, h1, h2, _⟩ := hv
    unfold maxLen at h2
    omega
  have hnm2 : n2 ≤ 9223372036854775807 := by
    obtain ⟨a', c', e, h1, h2, _⟩ := hv2
    unfold maxLen at h2
    omega
  rw [hn] at HV HFI ⊢
  rw [hn2] at HV2 HFI2 ⊢
  obtain ⟨fb, hfb⟩ : ∃ fb, fitsB L = fb := ⟨_, rfl⟩
  rw [hfb] at HFI
  have HFB := Lib.hid hfb
  obtain ⟨fb2, hfb2⟩ : ∃ fb, fitsB L2 = fb := ⟨_, rfl⟩
  rw [hfb2] at HFI2
  have HFB2 := Lib.hid hfb2
  -- the marks
  obtain ⟨mb, hmb⟩ : ∃ mb : UInt8, mb = UInt8.ofNat fl := ⟨_, rfl⟩
  have hbv : bv mb = .int .u8 (fl : Int) := by
    rw [hmb]
    unfold bv
    rw [UInt8.toNat_ofNat']
    simp
    omega
  obtain ⟨mk, hmkE⟩ : ∃ mk, List.replicate 256 mb = mk := ⟨_, rfl⟩
  have HMK := Lib.hid (show mk.length = 256 ∧ mk ≠ [] by rw [← hmkE]; exact ⟨List.length_replicate .., by simp⟩)
  have HMI := Lib.hid (show ∀ i (h : i < mk.length), bv mk[i] = .int .u8 (fl : Int) from fun i h => by subst hmkE; rw [List.getElem_replicate]; exact hbv)
  have HTS := Lib.hid (fun (S : DS) (h : Fill S 48 mk) => two_start (b := mb) (R := ⟨2, 20⟩) (R2 := ⟨23, 21⟩) (by rw [hmkE]; exact h) (by decide) (by decide) (by decide) (by decide) (fun s h1 h2 => by
    have a1 := h1.2
    have a2 := h2.1
    change s < 2 + 20 at a1
    change 23 ≤ s at a2
    omega))
  rw [hmkE] at HTS
  have hms := jmk 256 (by omega)
  clear hv hv2 hn hn2 hfb hfb2 hmb hbv hmkE
  go_enter Tryd.func6, Tryd.ntmps6
  go_wp2_with fail
  refine (HKN.out w (Below.refl _ _)).mono ?_
  rintro e V0 ⟨rfl, hb0⟩
  have HBV0 := Lib.hid hb0
  clear hb0
  go_wp2_with fail
  refine (HFI.out V0 HBV0.out).mono ?_
  rintro e V1 ⟨rfl, hb0⟩
  have HBV1 := Lib.hid (HBV0.out.trans (hb0.mono HBV0.out.size))
  clear hb0
  cases fb with
  | false =>
    go_wp2_with fail
    refine (HKN.out V1 HBV1.out).mono ?_
    rintro e W9 ⟨rfl, hb9⟩
    have HB9 := Lib.hid (HBV1.out.trans (hb9.mono HBV1.out.size))
    go_wp2_with fail
    exact bodyPost_ret (v := .bool true) (by simp [results, Tryd.results6, go_sem]) rfl ⟨rfl, HB9.out⟩
  | true =>
  have hn30 : n ≤ 30 := by
    have h1 := HFB.out
    unfold fitsB at h1
    rw [Bool.and_eq_true] at h1
    have h2 := of_decide_eq_true h1.2
    rw [HN.out] at h2
    exact h2
  go_wp2_with fail
  refine (HFI2.out V1 HBV1.out).mono ?_
  rintro e W0 ⟨rfl, hb0⟩
  have HBW0 := Lib.hid (HBV1.out.trans (hb0.mono HBV1.out.size))
  clear hb0
  cases fb2 with
  | false =>
    go_wp2_with fail
    refine (HKN.out W0 HBW0.out).mono ?_
    rintro e W9 ⟨rfl, hb9⟩
    have HB9 := Lib.hid (HBW0.out.trans (hb9.mono HBW0.out.size))
    go_wp2_with fail
    exact bodyPost_ret (v := .bool true) (by simp [results, Tryd.results6, go_sem]) rfl ⟨rfl, HB9.out⟩
  | true =>
  have hn230 : n2 ≤ 30 := by
    have h1 := HFB2.out
    unfold fitsB at h1
    rw [Bool.and_eq_true] at h1
    have h2 := of_decide_eq_true h1.2
    rw [HN2.out] at h2
    exact h2
  go_wp2_with fail
  refine (New_good 48 W0 (by omega) (by omega)).mono ?_
  rintro e W1 ⟨rfl, hd1, hb1⟩
  obtain ⟨b, hbE⟩ : ∃ b, W0.heap.size + 1 = b := ⟨_, rfl⟩
  rw [hbE] at hd1 ⊢
  have HB1 := Lib.hid (HBW0.out.trans (hb1.mono HBW0.out.size))
  obtain ⟨W2, hW2⟩ : ∃ W2, W1.alloc (.cells (bvs (List.replicate 256 0)).toArray 5) = W2 := ⟨_, rfl⟩
  have hmk2 : (Instr.makeSlice 36 (.int .i64 256) (.int .i64 256)).run Tryd.prog W1 = .ok (.slice (some ⟨W1.heap.size, 0, none⟩) 256 256) W2 := by rw [← hW2]; exact hms W1
  have hb2 : Below W1.heap.size W1 W2 := hW2 ▸ (Below.refl _ _).alloc (Nat.le_refl _) _
  have hx2 : W2.heap[W1.heap.size]? = some (.cells (bvs (List.replicate 256 0)).toArray 5 (0, 0)) := by rw [← hW2]; exact heap_alloc_new _ _
  obtain ⟨q, hq⟩ : ∃ q, W1.heap.size = q := ⟨_, rfl⟩
  rw [hq] at hx2 hmk2
  have HX2 := Lib.hid (show W2.heap[q]? = some (.cells (bvs (mk.take 0 ++ List.replicate (256 - 0) 0)).toArray 5 (0, 0)) from hx2)
  have HD2 := Lib.hid (show DA w W2 (fun k => k = q) b (newDS 48) from ((DiskAt.da HB1.out hd1 (X := fun _ => False) (fun k hk _ => ⟨Nat.le_trans HBW0.out.size hk, fun h => h⟩)).less (Y := fun k => k = q) (fun k e => .inr (by omega))).step hb2)
  have HQW := Lib.hid (show w.heap.size ≤ q by rw [← hq]; exact HB1.out.size)
  have HC2 := Lib.hid (Chg.refl (fun k => k = q) W2)
  clear hms hbE hd1 hb1 hb2 hx2 hW2
  go_wp2_with fail
  go_loopw [10] (fun iv wr => ∃ (i : Nat), i ≤ 256 ∧ iv = .int .i64 (i : Int) ∧ Hid (wr.heap[q]? = some (.cells (bvs (mk.take i ++ List.replicate (256 - i) 0)).toArray 5 (0, 0))) ∧ Hid (Chg (fun k => k = q) W2 wr)) (fun iv _ => 256 - (intOf iv).toNat)
  case atStart => exact ⟨0, Nat.zero_le _, rfl, HX2, HC2⟩
  case round =>
  obtain ⟨i, hi, rfl, HXR, HCR⟩ := hrel
  obtain ⟨W3, rfl⟩ : ∃ W3, W3 = wr := ⟨_, rfl⟩
  clear HX2 HC2
  by_cases hlt : i < 256
  case pos =>
    have hiI : (i : Int) < 256 := by omega
    have hsz : i < (bvs (mk.take i ++ List.replicate (256 - i) 0)).toArray.size := by simp [bvs, List.length_take, HMK.out.1]; omega
    go_wp2_with (refine wpList_putC rfl rfl 5 (.tmp 56) (.tmp 55) rfl q i (.int .u8 (fl : Int)) rfl rfl HXR.out hsz rfl (by kernel_rfl) ?_; refine Stop.on ?_)
    refine Stop.go ?_
    try simp only [Act.put, List.setIfInBounds_toArray, List.set_cons_zero, List.set_cons_succ]
    intro W4 x4 c4 s4
    try simp only [Act.put, List.setIfInBounds_toArray, List.set_cons_zero, List.set_cons_succ]
    have HX4 := Lib.hid (show W4.heap[q]? = some (.cells (bvs (mk.take (i + 1) ++ List.replicate (256 - (i + 1)) 0)).toArray 5 (0, 0)) by
      have hiL : i < mk.length := by rw [HMK.out.1]; exact hlt
      rw [← fill_set hiL HMK.out.1, ← bvs_set, HMI.out i hiL]
      exact x4)
    have HC4 := Lib.hid (HCR.out.trans c4 (fun k e => .inl e))
    clear x4 c4 s4 hsz
    go_wp2_with fail
    go_roundw
    case rel => exact ⟨i + 1, by omega, by go_num, HX4, HC4⟩
    case measure => simp [intOf] <;> omega
  have hi256 : i = 256 := by omega
  have hiI : ¬ (i : Int) < 256 := by omega
  have HBM := Lib.hid (show BytesN W3 (fun k => k = q) (.slice (some ⟨q, 0, none⟩) 256 256) mk from by
    have h1 := HXR.out
    rw [hi256, List.take_of_length_le (by rw [HMK.out.1]; exact Nat.le_refl _), Nat.sub_self, List.replicate_zero, List.append_nil] at h1
    have h2 : OwnBytes W3 (fun k => k = q) (.slice (some ⟨q, 0, none⟩) mk.length mk.length) mk := ⟨q, 5, rfl, rfl, h1⟩
    have h3 := h2.n
    rwa [HMK.out.1] at h3)
  have HQ3 := Lib.hid (show ∀ k, k = q → k < W3.heap.size from fun k e => e ▸ (Array.getElem?_eq_some_iff.1 HXR.out).1)
  have HD3 := Lib.hid (HD2.out.keep HCR.out (fun k e => ⟨e, e ▸ HQW.out⟩))
  have HF3 := Lib.hid (Fill.new mk)
  have HCX := Lib.hid (Chg.refl (fun k => k ≠ q) W3)
  clear HXR HCR HD2 hlt hi hi256
  obtain ⟨i256, hi256⟩ : ∃ j, j = i := ⟨_, rfl⟩
  rw [← hi256] at hiI ⊢
  clear hi256
  go_wp2_with fail
  go_loopw [11] (fun iv wr => ∃ (i : Nat) (S : DS), i ≤ 48 ∧ iv = .int .i64 (i : Int) ∧ Hid (Fill S i mk) ∧ Hid (DA w wr (fun k => k = q) b S) ∧ Hid (Chg (fun k => k ≠ q) W3 wr)) (fun iv _ => 48 - (intOf iv).toNat)
  case atStart => exact ⟨0, newDS 48, Nat.zero_le _, rfl, HF3, HD3, HCX⟩
  case round =>
  clear hiI
  obtain ⟨i, S, hi, rfl, HF, HD, HCR⟩ := hrel
  obtain ⟨W4, rfl⟩ : ∃ W4, W4 = wr := ⟨_, rfl⟩
  clear HF3 HD3 HCX
  have HQ4 := Lib.hid (show ∀ k, k = q → k < W4.heap.size from fun k e => Nat.lt_of_lt_of_le (HQ3.out k e) HCR.out.size)
  have HBM4 := Lib.hid (show BytesN W4 (fun k => k = q) (.slice (some ⟨q, 0, none⟩) 256 256) mk from HBM.out.chg HCR.out (fun k _ e h => h e))
  by_cases hlt : i < 48
  case pos =>
    have hiI : (i : Int) < 48 := by omega
    obtain ⟨hw0, hwf⟩ := HF.out.write hlt HMK.out.1
    have HWF := Lib.hid hwf
    go_wp2_with fail
    refine (Write_da HD.out HQ4.out (i : Int) HBM4.out (fun k e => e) (HF.out.room.less (by omega)) (by rw [HMK.out.1]; omega)).mono ?_
    rintro e W5 ⟨rfl, hd5, hc5⟩
    rw [hw0]
    have HD5 := Lib.hid hd5
    have HC5 := Lib.hid (HCR.out.trans hc5 (fun k h => .inl h))
    clear hd5 hc5 hw0 hwf
    go_wp2_with fail
    go_roundw
    case rel => exact ⟨i + 1, _, by omega, by go_num, HWF, HD5, HC5⟩
    case measure => simp [intOf] <;> omega
  have hiI : ¬ (i : Int) < 48 := by omega
  have hi48 : i = 48 := by omega
  obtain ⟨S1, S2, S3, S4, p1, p2, p3, p4, p5, p6, p7, p8⟩ := HTS.out S (hi48 ▸ HF.out)
  have HP1 := Lib.hid (show JLim (nextG 0 (secL S 2 20)) 0 0 [] ∧ (moveJ S ⟨2, 20⟩ 0 0 []).1 = S1 ∧ (moveJ S ⟨2, 20⟩ 0 0 []).2.1 = 0 ∧ Roomy S 2 ∧ S.down = false ∧ S.dur.length = 48 from p1)
  have HP2 := Lib.hid (show JLim (nextG 0 (secL S1 23 21)) 0 0 [] ∧ (moveJ S1 ⟨23, 21⟩ 0 0 []).1 = S2 ∧ (moveJ S1 ⟨23, 21⟩ 0 0 []).2.1 = 0 ∧ Roomy S1 2 ∧ S1.down = false ∧ S1.dur.length = 48 from p2)
  obtain ⟨J0, hJ0⟩ : ∃ J0, (⟨1, 1, 0, [], 0, 0⟩ : JD) = J0 := ⟨_, rfl⟩
  have HJL := Lib.hid (show J0.ents.length = 0 by rw [← hJ0]; rfl)
  rw [hJ0] at p3 p4 p5 p6
  have HP3 := Lib.hid (show currL S2 ⟨2, 20⟩ = some ⟨0, 0, []⟩ ∧ JLim (nextG (1 - (0 : Nat) % 2) (secL S2 2 20)) 0 ([] : List (List UInt8)).length [] ∧ moveJ S2 ⟨2, 20⟩ (1 - (0 : Nat) % 2) 0 [] = (S3, 0, J0) ∧ Roomy S2 2 ∧ S2.down = false ∧ S2.dur.length = 48 from p3)
  have HP4 := Lib.hid (show currL S3 ⟨23, 21⟩ = some ⟨0, 0, []⟩ ∧ JLim (nextG (1 - (0 : Nat) % 2) (secL S3 23 21)) 0 ([] : List (List UInt8)).length [] ∧ moveJ S3 ⟨23, 21⟩ (1 - (0 : Nat) % 2) 0 [] = (S4, 0, J0) ∧ Roomy S3 2 ∧ S3.down = false ∧ S3.dur.length = 48 from p4)
  have HBO := Lib.hid (show Both S4 ⟨2, 20⟩ ⟨23, 21⟩ J0 J0 mk 1 from ⟨p5, p6, p7, p8⟩)
  clear p1 p2 p3 p4 p5 p6 p7 p8 hJ0 HF HTS hi48 hlt hi
  obtain ⟨i48, hi48⟩ : ∃ j, j = i := ⟨_, rfl⟩
  rw [← hi48] at hiI ⊢
  clear hi48
  go_wp2_with fail
  refine (Format_da HD.out HQ4.out HK.out 2 20 (by decide) (by rw [HP1.out.2.2.2.2.2]; decide) HP1.out.2.2.2.2.1 HP1.out.1 HP1.out.2.2.2.1 HP1.out.2.1 HP1.out.2.2.1).mono ?_
  rintro e W5 ⟨rfl, hd, hc⟩
  have HD5 := Lib.hid hd
  have HC5 := Lib.hid (HCR.out.trans hc (fun k h => .inl h))
  have HQ5 := Lib.hid (show ∀ k, k = q → k < W5.heap.size from fun k e => Nat.lt_of_lt_of_le (HQ4.out k e) hc.size)
  clear hd hc HD HBM4 HCR
  go_wp2_with fail
  refine (Format_da HD5.out HQ5.out HK.out 23 21 (by decide) (by rw [HP2.out.2.2.2.2.2]; decide) HP2.out.2.2.2.2.1 HP2.out.1 HP2.out.2.2.2.1 HP2.out.2.1 HP2.out.2.2.1).mono ?_
  rintro e W6 ⟨rfl, hd, hc⟩
  have HD6 := Lib.hid hd
  have HC6 := Lib.hid (HC5.out.trans hc (fun k h => .inl h))
  have HQ6 := Lib.hid (show ∀ k, k = q → k < W6.heap.size from fun k e => Nat.lt_of_lt_of_le (HQ5.out k e) hc.size)
  clear hd hc HD5 HC5
  go_wp2_with fail
  refine (Open_da HD6.out HQ6.out HK.out 2 20 (by decide) (by rw [HP3.out.2.2.2.2.2]; decide) HP3.out.2.2.2.2.1 ⟨0, 0, []⟩ HP3.out.1 HP3.out.2.1 (by decide) (HP3.out.2.2.2.1.less (by decide)) HP3.out.2.2.1).mono ?_
  rintro e W7 ⟨_, hc, _, hop⟩
  obtain ⟨g1, N1, U1, la1, lc1, rfl, hja, hu1, _, _⟩ := hop rfl
  rw [HJL.out]
  obtain ⟨G1, ev1, b1, b2, b3, b4, b5⟩ := hja.part (fun k hk => (hu1 k hk).2)
  have HC7 := Lib.hid (HC6.out.trans hc (fun k h => .inl h))
  have HQ7 := Lib.hid (show ∀ k, k = q → k < W7.heap.size from fun k e => Nat.lt_of_lt_of_le (HQ6.out k e) hc.size)
  have HJA := Lib.hid hja
  have HU1 := Lib.hid hu1
  have HB := Lib.hid (show JBlk W7 g1 b ⟨2, 20⟩ J0 ev1 ∧ EntsAt W7 G1 ev1 J0.ents ∧ ¬ G1 g1 ∧ (∀ k, G1 k ∨ k = g1 → w.heap.size ≤ k ∧ k < W7.heap.size ∧ ¬ k = q) from ⟨b1, b2, b3, b4⟩)
  have HD7 := Lib.hid (show DA w W7 (fun k => k = q ∨ G1 k ∨ k = g1) b S3 from b5)
  have HX7 := Lib.hid (show ∀ k, (k = q ∨ G1 k ∨ k = g1) → k < W7.heap.size from fun k hk => hk.elim (HQ7.out k) (fun h => (HB.out.2.2.2 k h).2.1))
  clear hc hop hja hu1 b1 b2 b3 b4 b5 HD6 HC6
  go_wp2_with fail
  refine (Open_da HD7.out HX7.out HK.out 23 21 (by decide) (by rw [HP4.out.2.2.2.2.2]; decide) HP4.out.2.2.2.2.1 ⟨0, 0, []⟩ HP4.out.1 HP4.out.2.1 (by decide) (HP4.out.2.2.2.1.less (by decide)) HP4.out.2.2.1).mono ?_
  rintro e W8 ⟨_, hc, _, hop⟩
  obtain ⟨g2, N2, U2, la2, lc2, rfl, hja, hu2, _, _⟩ := hop rfl
  rw [HJL.out]
  have HT8 := Lib.hid (JTwo.made (X := fun k => k = q) HJA.out HB.out.1 HB.out.2.1 HB.out.2.2.1 HB.out.2.2.2 HQ7.out hja hu2 hc).swap
  have HC8 := Lib.hid (HC7.out.trans (hc.mono (G := fun k => k ≠ q) (fun k h e => h (.inl e))) (fun k h => .inl h))
  clear hc hop hja hu2 HD7 HX7 HB HU1 HJA HQ7 HC7 HP1 HP2 HP3 HP4
  go_wp2_with fail
  go_loopw [17] (fun iv wr => ∃ (i : Nat) (S : DS) (J J2 : JD), i ≤ 30 ∧ iv = .int .i64 (i : Int) ∧ Hid (Both S ⟨2, 20⟩ ⟨23, 21⟩ J J2 mk (2 * i + 1)) ∧ Hid (JTwo w wr (fun k => k = q) b g1 g2 S ⟨2, 20⟩ ⟨23, 21⟩ J J2) ∧ Hid (Chg (fun k => k ≠ q) W3 wr)) (fun iv _ => 31 - (intOf iv).toNat)
  case atStart => exact ⟨0, S4, J0, J0, Nat.zero_le _, rfl, HBO, HT8, HC8⟩
  case round =>
  clear hiI
  obtain ⟨i, S, J, J2, hi, rfl, HBR, HTR, HCR⟩ := hrel
  obtain ⟨V0, rfl⟩ : ∃ V0, V0 = wr := ⟨_, rfl⟩
  clear HBO HT8 HC8
  have hap1 : ∀ s, inR ⟨23, 21⟩ s → ¬ inR ⟨2, 20⟩ s := fun s h1 h2 => by
    have a1 := h1.1
    have a2 := h2.2
    change 23 ≤ s at a1
    change s < 2 + 20 at a2
    omega
  have HAP1 := Lib.hid hap1
  have HAP2 := Lib.hid (show ∀ s, inR ⟨2, 20⟩ s → ¬ inR ⟨23, 21⟩ s from fun s h1 h2 => HAP1.out s h2 h1)
  clear hap1
  by_cases hl1 : i < n
  · have hiI : (i : Int) < (n : Int) := by omega
    have HNM := Lib.hid ((HBR.out.one).num (by have := HBR.out.len; omega) (by omega))
    have HVV := Lib.hid (HV.out.below HTR.out.below)
    have hiL : i < L.length := by rw [HN.out]; omega
    obtain ⟨g0, off, e9, hg0, k0, k1, k2, k3, hat⟩ := (HVV.out).get hiL
    subst e9
    obtain ⟨o, ho⟩ : ∃ o, L[i] = o := ⟨_, rfl⟩
    rw [ho] at k0 k1 k2 k3 hat
    have HAT := Lib.hid hat
    have HSP := Lib.hid (HBR.out.step HAP1.out (by omega) o)
    obtain ⟨z, hz⟩ : ∃ z, stepJ S ⟨2, 20⟩ J o = z := ⟨_, rfl⟩
    rw [hz] at HSP
    obtain ⟨S', J', er⟩ := z
    have HACT := Lib.hid (fun hkd hon => HTR.out.act HK.out HNM.out o hkd hon hz)
    have HB2 := Lib.hid (show Both S' ⟨2, 20⟩ ⟨23, 21⟩ J' _ mk _ from HSP.out)
    clear hat ho hz HSP
    unfold JOp.cells at HACT
    obtain ⟨okd, hokd⟩ : ∃ okd, o.kind = okd := ⟨_, rfl⟩
    obtain ⟨on, hon⟩ : ∃ on, o.n = on := ⟨_, rfl⟩
    obtain ⟨ob, hob⟩ : ∃ ob, o.b = ob := ⟨_, rfl⟩
    obtain ⟨oa, hoa⟩ : ∃ oa, o.a = oa := ⟨_, rfl⟩
    obtain ⟨ol, hol⟩ : ∃ ol, o.cs.length = ol := ⟨_, rfl⟩
    obtain ⟨oc, hoc⟩ : ∃ oc, o.cap = oc := ⟨_, rfl⟩
    have hkd2 : okd < 256 := by rw [← hokd]; exact HAT.out.kd
    have hon2 : on < 65536 := by rw [← hon]; exact HAT.out.n
    rw [hokd, hon, hob, hoa, hol, hoc] at HACT
    rw [hokd] at k0
    rw [hon] at k1
    rw [hob] at k2
    rw [hoa, hol, hoc] at k3
    obtain ⟨obt, hobt⟩ : ∃ obt, ob.toNat = obt := ⟨_, rfl⟩
    rw [hobt] at HACT k2
    clear hokd hon hob hoa hol hoc hobt HAT HVV
    go_wp2_with fail
    refine (HACT.out hkd2 hon2).mono ?_
    rintro e V2 ⟨rfl, hj2, hc2⟩
    have HT2 := Lib.hid (hj2)
    have HC2 := Lib.hid (HCR.out.trans (hc2.mono (G := fun k => k ≠ q) (fun k h => h)) (fun k h => .inl h))
    clear hj2 hc2 k0 k1 k2 k3 HACT HNM
    have HBE := Lib.hid (show Both S' ⟨2, 20⟩ ⟨23, 21⟩ J' J2 mk (2 * i + 2) from HB2.out)
    by_cases hl2 : i < n2
    · have hiI2 : (i : Int) < (n2 : Int) := by omega
      have HNM := Lib.hid ((HBE.out.swap.one).num (by have := HBE.out.len; omega) (by omega))
      have HVV := Lib.hid (HV2.out.below HT2.out.below)
      have hiL : i < L2.length := by rw [HN2.out]; omega
      obtain ⟨g0, off, e9, hg0, k0, k1, k2, k3, hat⟩ := (HVV.out).get hiL
      subst e9
      obtain ⟨o, ho⟩ : ∃ o, L2[i] = o := ⟨_, rfl⟩
      rw [ho] at k0 k1 k2 k3 hat
      have HAT := Lib.hid hat
      have HSP := Lib.hid (HBE.out.swap.step HAP2.out (by omega) o)
      obtain ⟨z, hz⟩ : ∃ z, stepJ S' ⟨23, 21⟩ J2 o = z := ⟨_, rfl⟩
      rw [hz] at HSP
      obtain ⟨S'', J2', er⟩ := z
      have HACT := Lib.hid (fun hkd hon => HT2.out.swap.act HK.out HNM.out o hkd hon hz)
      have HB3s := Lib.hid (show Both S'' ⟨23, 21⟩ ⟨2, 20⟩ J2' _ mk _ from HSP.out)
      clear hat ho hz HSP
      unfold JOp.cells at HACT
      obtain ⟨okd, hokd⟩ : ∃ okd, o.kind = okd := ⟨_, rfl⟩
      obtain ⟨on, hon⟩ : ∃ on, o.n = on := ⟨_, rfl⟩
      obtain ⟨ob, hob⟩ : ∃ ob, o.b = ob := ⟨_, rfl⟩
      obtain ⟨oa, hoa⟩ : ∃ oa, o.a = oa := ⟨_, rfl⟩
      obtain ⟨ol, hol⟩ : ∃ ol, o.cs.length = ol := ⟨_, rfl⟩
      obtain ⟨oc, hoc⟩ : ∃ oc, o.cap = oc := ⟨_, rfl⟩
      have hkd2 : okd < 256 := by rw [← hokd]; exact HAT.out.kd
      have hon2 : on < 65536 := by rw [← hon]; exact HAT.out.n
      rw [hokd, hon, hob, hoa, hol, hoc] at HACT
      rw [hokd] at k0
      rw [hon] at k1
      rw [hob] at k2
      rw [hoa, hol, hoc] at k3
      obtain ⟨obt, hobt⟩ : ∃ obt, ob.toNat = obt := ⟨_, rfl⟩
      rw [hobt] at HACT k2
      clear hokd hon hob hoa hol hoc hobt HAT HVV
      go_wp2_with fail
      refine (HACT.out hkd2 hon2).mono ?_
      rintro e V3 ⟨rfl, hj2, hc2⟩
      have HT3 := Lib.hid (hj2.swap)
      have HC3 := Lib.hid (HC2.out.trans (hc2.mono (G := fun k => k ≠ q) (fun k h => h)) (fun k h => .inl h))
      clear hj2 hc2 k0 k1 k2 k3 HACT HNM
      have HB3 := Lib.hid HB3s.out.swap
      have HBE2 := Lib.hid (show Both S'' ⟨2, 20⟩ ⟨23, 21⟩ J' J2' mk (2 * (i + 1) + 1) from HB3.out)
      go_wp2_with fail
      go_roundw
      case rel => exact ⟨i + 1, S'', J', J2', by omega, by go_num, HBE2, HT3, HC3⟩
      case measure => simp [intOf] <;> omega
    · have hiI2 : ¬ (i : Int) < (n2 : Int) := by omega
      have HBE2 := Lib.hid (show Both S' ⟨2, 20⟩ ⟨23, 21⟩ J' J2 mk (2 * (i + 1) + 1) from HBE.out.up)
      go_wp2_with fail
      go_roundw
      case rel => exact ⟨i + 1, S', J', J2, by omega, by go_num, HBE2, HT2, HC2⟩
      case measure => simp [intOf] <;> omega
  by_cases hl2 : i < n2
  · have hiI : ¬ (i : Int) < (n : Int) := by omega
    have hiI2 : (i : Int) < (n2 : Int) := by omega
    have HNM := Lib.hid ((HBR.out.swap.one).num (by have := HBR.out.len; omega) (by omega))
    have HVV := Lib.hid (HV2.out.below HTR.out.below)
    have hiL : i < L2.length := by rw [HN2.out]; omega
    obtain ⟨g0, off, e9, hg0, k0, k1, k2, k3, hat⟩ := (HVV.out).get hiL
    subst e9
    obtain ⟨o, ho⟩ : ∃ o, L2[i] = o := ⟨_, rfl⟩
    rw [ho] at k0 k1 k2 k3 hat
    have HAT := Lib.hid hat
    have HSP := Lib.hid (HBR.out.swap.step HAP2.out (by omega) o)
    obtain ⟨z, hz⟩ : ∃ z, stepJ S ⟨23, 21⟩ J2 o = z := ⟨_, rfl⟩
    rw [hz] at HSP
    obtain ⟨S'', J2', er⟩ := z
    have HACT := Lib.hid (fun hkd hon => HTR.out.swap.act HK.out HNM.out o hkd hon hz)
    have HB3s := Lib.hid (show Both S'' ⟨23, 21⟩ ⟨2, 20⟩ J2' _ mk _ from HSP.out)
    clear hat ho hz HSP
    unfold JOp.cells at HACT
    obtain ⟨okd, hokd⟩ : ∃ okd, o.kind = okd := ⟨_, rfl⟩
    obtain ⟨on, hon⟩ : ∃ on, o.n = on := ⟨_, rfl⟩
    obtain ⟨ob, hob⟩ : ∃ ob, o.b = ob := ⟨_, rfl⟩
    obtain ⟨oa, hoa⟩ : ∃ oa, o.a = oa := ⟨_, rfl⟩
    obtain ⟨ol, hol⟩ : ∃ ol, o.cs.length = ol := ⟨_, rfl⟩
    obtain ⟨oc, hoc⟩ : ∃ oc, o.cap = oc := ⟨_, rfl⟩
    have hkd2 : okd < 256 := by rw [← hokd]; exact HAT.out.kd
    have hon2 : on < 65536 := by rw [← hon]; exact HAT.out.n
    rw [hokd, hon, hob, hoa, hol, hoc] at HACT
    rw [hokd] at k0
    rw [hon] at k1
    rw [hob] at k2
    rw [hoa, hol, hoc] at k3
    obtain ⟨obt, hobt⟩ : ∃ obt, ob.toNat = obt := ⟨_, rfl⟩
    rw [hobt] at HACT k2
    clear hokd hon hob hoa hol hoc hobt HAT HVV
    go_wp2_with fail
    refine (HACT.out hkd2 hon2).mono ?_
    rintro e V3 ⟨rfl, hj2, hc2⟩
    have HT3 := Lib.hid (hj2.swap)
    have HC3 := Lib.hid (HCR.out.trans (hc2.mono (G := fun k => k ≠ q) (fun k h => h)) (fun k h => .inl h))
    clear hj2 hc2 k0 k1 k2 k3 HACT HNM
    have HB3 := Lib.hid HB3s.out.swap
    have HBE2 := Lib.hid (show Both S'' ⟨2, 20⟩ ⟨23, 21⟩ J J2' mk (2 * (i + 1) + 1) from HB3.out.up)
    go_wp2_with fail
    go_roundw
    case rel => exact ⟨i + 1, S'', J, J2', by omega, by go_num, HBE2, HT3, HC3⟩
    case measure => simp [intOf] <;> omega
  have hiI : ¬ (i : Int) < (n : Int) := by omega
  have hiI2 : ¬ (i : Int) < (n2 : Int) := by omega
  have HBM0 := Lib.hid (show BytesN V0 (fun k => k = q) (.slice (some ⟨q, 0, none⟩) 256 256) mk from HBM.out.chg HCR.out (fun k _ e h => h e))
  have HLE := Lib.hid HBR.out.len
  have HL9 := Lib.hid (Below.refl V0.heap.size V0)
  go_wp2_with fail
  go_loopw [18] (fun iv wr => ∃ (k : Nat), k ≤ 48 ∧ iv = .int .i64 (k : Int) ∧ Hid (Below V0.heap.size V0 wr)) (fun iv _ => 48 - (intOf iv).toNat)
  case atStart => exact ⟨0, Nat.zero_le _, rfl, HL9⟩
  case round =>
  obtain ⟨k, hk, rfl, HBL⟩ := hrel
  obtain ⟨Q0, rfl⟩ : ∃ Q0, Q0 = wr := ⟨_, rfl⟩
  clear HL9
  by_cases hk48 : k < 48
  · have hkI : (k : Int) < 48 := by omega
    by_cases h2 : 2 ≤ k
    · have h2I : (2 : Int) ≤ (k : Int) := by omega
      by_cases h22 : k < 22
      · have h22I : (k : Int) < 22 := by omega
        go_wp2_with fail
        go_roundw
        case rel => exact ⟨k + 1, by omega, by go_num, HBL⟩
        case measure => simp [intOf] <;> omega
      · have h22I : ¬ (k : Int) < 22 := by omega
        by_cases h23 : 23 ≤ k
        · have h23I : (23 : Int) ≤ (k : Int) := by omega
          by_cases h43 : k < 43
          · have h43I : (k : Int) < 43 := by omega
            go_wp2_with fail
            go_roundw
            case rel => exact ⟨k + 1, by omega, by go_num, HBL⟩
            case measure => simp [intOf] <;> omega
          · have h43I : ¬ (k : Int) < 43 := by omega
            have hvis : S.visible k = mk := HBR.out.out k (by rw [HLE.out]; exact hk48) (fun h => by have a1 := h.1; have a2 := h.2; change 2 ≤ k at a1; change k < 2 + 2 * (20 / 2) at a2; omega) (fun h => by have a1 := h.1; have a2 := h.2; change 23 ≤ k at a1; change k < 23 + 2 * (21 / 2) at a2; omega)
            have HDQ := Lib.hid ((HTR.out.step HBL.out).da)
            have hRD := Read_da HDQ.out k (by rw [HLE.out]; exact hk48) (by obtain ⟨c, hc⟩ := HBR.out.one.ji; exact hc.down) (HBR.out.one.room.less (by omega)) hvis HMK.out.2
            rw [HMK.out.1] at hRD
            have HRD := Lib.hid hRD
            clear hvis hRD
            go_wp2_with fail
            refine HRD.out.mono ?_
            rintro e Q1 ⟨ra, rc, rfl, hr1, hb1⟩
            have HBL1 := Lib.hid (HBL.out.trans (hb1.mono HBL.out.size))
            have hs1 := hr1.at_.str
            have hs2 := (HBM0.out.below HBL1.out).at_.str
            clear hr1 hb1 HDQ HRD
            go_wp2_with fail
            go_roundw
            case rel => exact ⟨k + 1, by omega, by go_num, HBL1⟩
            case measure => simp [intOf] <;> omega
        · have h23I : ¬ (23 : Int) ≤ (k : Int) := by omega
          have hvis : S.visible k = mk := HBR.out.out k (by rw [HLE.out]; exact hk48) (fun h => by have a1 := h.1; have a2 := h.2; change 2 ≤ k at a1; change k < 2 + 2 * (20 / 2) at a2; omega) (fun h => by have a1 := h.1; have a2 := h.2; change 23 ≤ k at a1; change k < 23 + 2 * (21 / 2) at a2; omega)
          have HDQ := Lib.hid ((HTR.out.step HBL.out).da)
          have hRD := Read_da HDQ.out k (by rw [HLE.out]; exact hk48) (by obtain ⟨c, hc⟩ := HBR.out.one.ji; exact hc.down) (HBR.out.one.room.less (by omega)) hvis HMK.out.2
          rw [HMK.out.1] at hRD
          have HRD := Lib.hid hRD
          clear hvis hRD
          go_wp2_with fail
          refine HRD.out.mono ?_
          rintro e Q1 ⟨ra, rc, rfl, hr1, hb1⟩
          have HBL1 := Lib.hid (HBL.out.trans (hb1.mono HBL.out.size))
          have hs1 := hr1.at_.str
          have hs2 := (HBM0.out.below HBL1.out).at_.str
          clear hr1 hb1 HDQ HRD
          go_wp2_with fail
          go_roundw
          case rel => exact ⟨k + 1, by omega, by go_num, HBL1⟩
          case measure => simp [intOf] <;> omega
    · have h2I : ¬ (2 : Int) ≤ (k : Int) := by omega
      have h23I : ¬ (23 : Int) ≤ (k : Int) := by omega
      have hvis : S.visible k = mk := HBR.out.out k (by rw [HLE.out]; exact hk48) (fun h => by have a1 := h.1; have a2 := h.2; change 2 ≤ k at a1; change k < 2 + 2 * (20 / 2) at a2; omega) (fun h => by have a1 := h.1; have a2 := h.2; change 23 ≤ k at a1; change k < 23 + 2 * (21 / 2) at a2; omega)
      have HDQ := Lib.hid ((HTR.out.step HBL.out).da)
      have hRD := Read_da HDQ.out k (by rw [HLE.out]; exact hk48) (by obtain ⟨c, hc⟩ := HBR.out.one.ji; exact hc.down) (HBR.out.one.room.less (by omega)) hvis HMK.out.2
      rw [HMK.out.1] at hRD
      have HRD := Lib.hid hRD
      clear hvis hRD
      go_wp2_with fail
      refine HRD.out.mono ?_
      rintro e Q1 ⟨ra, rc, rfl, hr1, hb1⟩
      have HBL1 := Lib.hid (HBL.out.trans (hb1.mono HBL.out.size))
      have hs1 := hr1.at_.str
      have hs2 := (HBM0.out.below HBL1.out).at_.str
      clear hr1 hb1 HDQ HRD
      go_wp2_with fail
      go_roundw
      case rel => exact ⟨k + 1, by omega, by go_num, HBL1⟩
      case measure => simp [intOf] <;> omega
  have hkI : ¬ (k : Int) < 48 := by omega
  have HTQ := Lib.hid (HTR.out.step HBL.out)
  have HLQ := Lib.hid (show ∀ x, (x = q ∨ x = g1 ∨ x = g2) → x < Q0.heap.size from fun x hx => by
    obtain ⟨va1, vc1, hb1⟩ := HTQ.out.blk
    obtain ⟨va2, vc2, hb2⟩ := HTQ.out.swap.blk
    rcases hx with e | rfl | rfl
    · exact HTQ.out.xl x e
    · exact hb1.lt
    · exact hb2.lt)
  obtain ⟨va1, vc1, hbk1⟩ := HTQ.out.blk
  obtain ⟨va2', vc2', hbk2⟩ := HTQ.out.swap.blk
  have HBK1 := Lib.hid hbk1
  have HBK2 := Lib.hid hbk2
  have HDQ := Lib.hid HTQ.out.da
  have hnx1 : J.first + J.ents.length ≤ 2 * 30 + 1 := by have h1 := HBR.out.one.nx; unfold JD.next at h1; omega
  have hnx2 : J2.first + J2.ents.length ≤ 2 * 30 + 1 := by have h1 := HBR.out.two.nx; unfold JD.next at h1; omega
  obtain ⟨S5, S6, J3, J4, p1, p2, p3, p4, p5, p6⟩ := HBR.out.opens HAP1.out (by omega)
  have HP1 := Lib.hid (show currL S ⟨2, 20⟩ = some ⟨J.gen, J.first, J.ents⟩ ∧ JLim (nextG (1 - J.gen % 2) (secL S 2 20)) J.first J.ents.length J.ents ∧ sizeE J.ents ≤ 5000 ∧ Roomy S 10000 ∧ S.down = false ∧ moveJ S ⟨2, 20⟩ (1 - J.gen % 2) J.first J.ents = (S5, 0, J3) ∧ S.dur.length = 48 from p1)
  have HP2 := Lib.hid (show currL S5 ⟨23, 21⟩ = some ⟨J2.gen, J2.first, J2.ents⟩ ∧ JLim (nextG (1 - J2.gen % 2) (secL S5 23 21)) J2.first J2.ents.length J2.ents ∧ sizeE J2.ents ≤ 5000 ∧ Roomy S5 5500 ∧ S5.down = false ∧ moveJ S5 ⟨23, 21⟩ (1 - J2.gen % 2) J2.first J2.ents = (S6, 0, J4) ∧ S5.dur.length = 48 from p2)
  have HE3 := Lib.hid p3
  have HL3 := Lib.hid (show J3.ents.length = J.ents.length by rw [p4])
  have HE4 := Lib.hid p5
  have HL4 := Lib.hid (show J4.ents.length = J2.ents.length by rw [p6])
  clear p1 p2 p3 p4 p5 p6 hbk1 hbk2 HTR HBR HTQ
  go_wp2_with fail
  refine (Open_da HDQ.out HLQ.out HK.out 2 20 (by decide) (by rw [HP1.out.2.2.2.2.2.2]; decide) HP1.out.2.2.2.2.1 ⟨J.gen, J.first, J.ents⟩ HP1.out.1 HP1.out.2.1 (Nat.le_trans HP1.out.2.2.1 (by decide)) (HP1.out.2.2.2.1.less (by have := HP1.out.2.2.1; show sizeE J.ents + 1 ≤ _; omega)) HP1.out.2.2.2.2.2.1).mono ?_
  rintro e Q1 ⟨_, hc, _, hop⟩
  obtain ⟨g3, N3, U3, la3, lc3, rfl, hja, hu3, _, _⟩ := hop rfl
  obtain ⟨va3, vc3, hbk3⟩ := hja.blk
  rw [HL3.out] at hbk3 ⊢
  have HBK1 := Lib.hid (HBK1.out.chg hc (fun h => h (.inr (.inl rfl))))
  have HBK2 := Lib.hid (HBK2.out.chg hc (fun h => h (.inr (.inr rfl))))
  have HBK3 := Lib.hid hbk3
  have HD1 := Lib.hid (hja.da (X := fun x => x = g1 ∨ x = g2 ∨ x = g3) (fun x hx => by
    rcases hx with e | e | e
    · exact .inl (fun h => (hu3 x h).2 (.inr (.inl e)))
    · exact .inl (fun h => (hu3 x h).2 (.inr (.inr e)))
    · exact .inr e))
  have HL1 := Lib.hid (show ∀ x, (x = g1 ∨ x = g2 ∨ x = g3) → x < Q1.heap.size from fun x hx => by
    rcases hx with rfl | rfl | rfl
    · exact HBK1.out.lt
    · exact HBK2.out.lt
    · exact HBK3.out.lt)
  clear hc hop hja hu3 hbk3 HDQ HLQ HP1
  go_wp2_with fail
  refine (Open_da HD1.out HL1.out HK.out 23 21 (by decide) (by rw [HP2.out.2.2.2.2.2.2]; decide) HP2.out.2.2.2.2.1 ⟨J2.gen, J2.first, J2.ents⟩ HP2.out.1 HP2.out.2.1 (Nat.le_trans HP2.out.2.2.1 (by decide)) (HP2.out.2.2.2.1.less (by have := HP2.out.2.2.1; show sizeE J2.ents + 1 ≤ _; omega)) HP2.out.2.2.2.2.2.1).mono ?_
  rintro e Q2 ⟨_, hc, _, hop⟩
  obtain ⟨g4, N4, U4, la4, lc4, rfl, hja, _, _, _⟩ := hop rfl
  obtain ⟨va4, vc4, hbk4⟩ := hja.blk
  rw [HL4.out] at hbk4 ⊢
  have HBK1 := Lib.hid (HBK1.out.chg hc (fun h => h (.inl rfl)))
  have HBK2 := Lib.hid (HBK2.out.chg hc (fun h => h (.inr (.inl rfl))))
  have HBK3 := Lib.hid (HBK3.out.chg hc (fun h => h (.inr (.inr rfl))))
  have HBK4 := Lib.hid hbk4
  have HBW := Lib.hid hja.below
  clear hc hop hja hbk4 HD1 HL1 HP2
  obtain ⟨f1, hf1⟩ : ∃ x, J.first = x := ⟨_, rfl⟩
  obtain ⟨f2, hf2⟩ : ∃ x, J2.first = x := ⟨_, rfl⟩
  obtain ⟨n1, hn1⟩ : ∃ x, J.ents.length = x := ⟨_, rfl⟩
  obtain ⟨m2, hm2⟩ : ∃ x, J2.ents.length = x := ⟨_, rfl⟩
  rw [hf1, hn1] at hnx1
  rw [hf2, hm2] at hnx2
  rw [hn1] at HBK1 HBK3 ⊢
  rw [hm2] at HBK2 HBK4 ⊢
  have HF1 := Lib.hid hf1
  have HF2 := Lib.hid hf2
  have HF3 := Lib.hid (HE3.out.trans hf1)
  have HF4 := Lib.hid (HE4.out.trans hf2)
  have hsub1 : (f1 : Int) + (n1 : Int) - (f1 : Int) = (n1 : Int) := by omega
  have hsub2 : (f2 : Int) + (m2 : Int) - (f2 : Int) = (m2 : Int) := by omega
  have HBX := Lib.hid (Below.refl Q2.heap.size Q2)
  clear hf1 hf2 hn1 hm2 HE3 HE4 HL3 HL4
  go_wp2_with fail
  refine (JFirst_any (HBK3.out.below HBX.out)).mono ?_
  rintro e Vx ⟨rfl, hb⟩
  rw [HF3.out]
  have HBX := Lib.hid (HBX.out.trans (hb.mono HBX.out.size))
  clear hb
  go_wp2_with fail
  refine (JFirst_any (HBK1.out.below HBX.out)).mono ?_
  rintro e Vx ⟨rfl, hb⟩
  rw [HF1.out]
  have HBX := Lib.hid (HBX.out.trans (hb.mono HBX.out.size))
  clear hb
  go_wp2_with fail
  refine (JNext_any (HBK1.out.below HBX.out) (by rw [HF1.out]; omega)).mono ?_
  rintro e Vx ⟨rfl, hb⟩
  rw [HF1.out]
  have HBX := Lib.hid (HBX.out.trans (hb.mono HBX.out.size))
  clear hb
  go_wp2_with fail
  refine (JFirst_any (HBK1.out.below HBX.out)).mono ?_
  rintro e Vx ⟨rfl, hb⟩
  rw [HF1.out]
  have HBX := Lib.hid (HBX.out.trans (hb.mono HBX.out.size))
  clear hb
  go_wp2_with fail
  refine (JFirst_any (HBK4.out.below HBX.out)).mono ?_
  rintro e Vx ⟨rfl, hb⟩
  rw [HF4.out]
  have HBX := Lib.hid (HBX.out.trans (hb.mono HBX.out.size))
  clear hb
  go_wp2_with fail
  refine (JFirst_any (HBK2.out.below HBX.out)).mono ?_
  rintro e Vx ⟨rfl, hb⟩
  rw [HF2.out]
  have HBX := Lib.hid (HBX.out.trans (hb.mono HBX.out.size))
  clear hb
  go_wp2_with fail
  refine (JNext_any (HBK2.out.below HBX.out) (by rw [HF2.out]; omega)).mono ?_
  rintro e Vx ⟨rfl, hb⟩
  rw [HF2.out]
  have HBX := Lib.hid (HBX.out.trans (hb.mono HBX.out.size))
  clear hb
  go_wp2_with fail
  refine (JFirst_any (HBK2.out.below HBX.out)).mono ?_
  rintro e Vx ⟨rfl, hb⟩
  rw [HF2.out]
  have HBX := Lib.hid (HBX.out.trans (hb.mono HBX.out.size))
  clear hb
  have HBE := Lib.hid (HBW.out.trans (HBX.out.mono HBW.out.size))
  go_wp2_with fail
  exact bodyPost_ret (v := .bool true) (by simp [results, Tryd.results6, go_sem]) rfl ⟨rfl, HBE.out⟩

end Go.Proofs.YtplclpileejemaaDoor
