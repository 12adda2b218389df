/- The law JournalLost. -/
import Derived.Test.YtplclpileejemaaDoorJ34Z
namespace Go.Proofs.YtplclpileejemaaDoor
open Go.RowKit
set_option linter.unusedVariables false
set_option linter.unusedSimpArgs false

set_option maxRecDepth 100000 in
set_option maxHeartbeats 2000000 in
theorem JournalLost_any {w : World} (hK : KAt w) (sd : Nat) (hs : sd < 256) {va : Option Addr} {vc : Nat} {L : List JOp} (hv : JOpsAt w (.slice va L.length vc) L) {ca : Option Addr} {cc : Nat} {cs : List UInt8} {D1 : Nat → Prop} (hcs : BytesN w D1 (.slice ca cs.length cc) cs) {va2 : Option Addr} {vc2 : Nat} {L2 : List JOp} (hv2 : JOpsAt w (.slice va2 L2.length vc2) L2) {da : Option Addr} {dc : Nat} {ds : List UInt8} {D2 : Nat → Prop} (hds : BytesN w D2 (.slice da ds.length dc) ds) :
    Calls Tryd.prog 8 #[.int .u8 (sd : Int), .slice va L.length vc, .slice ca cs.length cc, .slice va2 L2.length vc2, .slice da ds.length dc] w fun e w' => e = .returned (.bool true) ∧ Below w.heap.size w w' := by
  have HKN := Lib.hid (fun (V : World) (hV : Below w.heap.size w V) => known_any (KAt.below hK hV hK.size))
  have HK := Lib.hid hK
  have hK0 := hK.size
  obtain ⟨sz, hsz⟩ : ∃ sz, 8 + sd % 36 = sz := ⟨_, rfl⟩
  have hs8 : 8 ≤ sz ∧ sz ≤ 43 := by omega
  have HSZ := Lib.hid (fun w1 : World => size_any (w := w1) sd hs)
  rw [hsz] at HSZ
  obtain ⟨hlim0, S1, S2, s1, s2, s3, s4, s5, s6, s7, s8, s9, s10, s11⟩ := start_ok (S := newDS 48) (R := ⟨3, sz⟩) (newDS_blank (by show 3 + sz ≤ 48; omega)) rfl rfl hs8.1 (by show 3 + sz ≤ (List.replicate 48 zeros).length; rw [List.length_replicate]; omega) ⟨by show 0 + 999995000 ≤ _; omega, by show 0 + 999995000 ≤ _; omega, by show 0 ≤ _; omega⟩
  have hl48 : (newDS 48).dur.length = 48 := List.length_replicate ..
  rw [hl48] at s3 s10
  have HST := Lib.hid (show JLim (nextG 0 (secL (newDS 48) 3 sz)) 0 0 [] ∧ (moveJ (newDS 48) ⟨3, sz⟩ 0 0 []).1 = S1 ∧ (moveJ (newDS 48) ⟨3, sz⟩ 0 0 []).2.1 = 0 from ⟨hlim0, s1, s2⟩)
  have HOP := Lib.hid (show S1.dur.length = 48 ∧ S1.down = false ∧ Roomy S1 999994000 ∧ currL S1 ⟨3, sz⟩ = some ⟨0, 0, []⟩ ∧ JLim (nextG (1 - (0 : Nat) % 2) (secL S1 3 sz)) 0 ([] : List (List UInt8)).length [] ∧ moveJ S1 ⟨3, sz⟩ (1 - (0 : Nat) % 2) 0 [] = (S2, 0, ⟨1, 1, 0, [], 0, 0⟩) from ⟨s3, s4, s6, s7, s8, s9⟩)
  obtain ⟨J1, hJ1⟩ : ∃ J1, (⟨1, 1, 0, [], 0, 0⟩ : JD) = J1 := ⟨_, rfl⟩
  have HJL := Lib.hid (show J1.ents.length = 0 by rw [← hJ1]; rfl)
  have HJE := Lib.hid (show J1.ents = [] ∧ J1.first = 0 ∧ J1.synced = 0 by rw [← hJ1]; exact ⟨rfl, rfl, rfl⟩)
  rw [hJ1] at HOP s11
  have HOK1 := Lib.hid s11
  have HS2 := Lib.hid s10
  clear s1 s2 s3 s4 s5 s6 s7 s8 s9 s10 s11 hlim0 hl48 hJ1 hK hsz
  have HV := Lib.hid hv
  have HV2 := Lib.hid hv2
  have HFI := Lib.hid (fun (V : World) (hV : Below w.heap.size w V) => fits_any (hv.below hV))
  have HFI2 := Lib.hid (fun (V : World) (hV : Below w.heap.size w V) => fits_any (hv2.below hV))
  have HFA := Lib.hid (fun (hl : cs.length ≤ 200) (V : World) (hV : Below w.heap.size w V) => Fates_any (hcs.below hV) hl)
  have HFA2 := Lib.hid (fun (hl : ds.length ≤ 200) (V : World) (hV : Below w.heap.size w V) => Fates_any (hds.below hV) hl)
  obtain ⟨n, hn⟩ : ∃ n, L.length = n := ⟨_, rfl⟩
  obtain ⟨n2, hn2⟩ : ∃ n, L2.length = n := ⟨_, rfl⟩
  obtain ⟨nc, hnc⟩ : ∃ n, cs.length = n := ⟨_, rfl⟩
  obtain ⟨nd, hnd⟩ : ∃ n, ds.length = n := ⟨_, rfl⟩
  have HN := Lib.hid hn
  have HN2 := Lib.hid hn2
  have HNC0 := Lib.hid hnc
  have HND0 := Lib.hid hnd
  have hnm : n ≤ 9223372036854775807 := by
    obtain ⟨a', c', e, h1, h2, _⟩ := hv
    unfold maxLen at h2
    omega
  have hnm2 : n2 ≤ 9223372036854775807 := by
    obtain ⟨a', c', e, h1, h2, _⟩ := hv2
    unfold maxLen at h2
    omega
  rw [hn] at HV HFI ⊢
  rw [hn2] at HV2 HFI2 ⊢
  rw [hnc] at HFA ⊢
  rw [hnd] at HFA2 ⊢
  obtain ⟨fb, hfb⟩ : ∃ fb, fitsB L = fb := ⟨_, rfl⟩
  rw [hfb] at HFI
  have HFB := Lib.hid hfb
  obtain ⟨fb2, hfb2⟩ : ∃ fb, fitsB L2 = fb := ⟨_, rfl⟩
  rw [hfb2] at HFI2
  clear hv hv2 hcs hds hn hn2 hnc hnd hfb hfb2
  go_enter Tryd.func8, Tryd.ntmps8
  go_wp2_with fail
  refine (HKN.out w (Below.refl _ _)).mono ?_
  rintro e V0 ⟨rfl, hb0⟩
  have HBV0 := Lib.hid hb0
  clear hb0
  go_wp2_with fail
  refine (HFI.out V0 HBV0.out).mono ?_
  rintro e V1 ⟨rfl, hb0⟩
  have HBV1 := Lib.hid (HBV0.out.trans (hb0.mono HBV0.out.size))
  clear hb0
  cases fb with
  | false =>
    go_wp2_with fail
    refine (HKN.out V1 HBV1.out).mono ?_
    rintro e W9 ⟨rfl, hb9⟩
    have HB9 := Lib.hid (HBV1.out.trans (hb9.mono HBV1.out.size))
    go_wp2_with fail
    exact bodyPost_ret (v := .bool true) (by simp [results, Tryd.results8, go_sem]) rfl ⟨rfl, HB9.out⟩
  | true =>
  have hn30 : n ≤ 30 := by
    have h1 := HFB.out
    unfold fitsB at h1
    rw [Bool.and_eq_true] at h1
    have h2 := of_decide_eq_true h1.2
    rw [HN.out] at h2
    exact h2
  go_wp2_with fail
  refine (HFI2.out V1 HBV1.out).mono ?_
  rintro e W0 ⟨rfl, hb0⟩
  have HBW0 := Lib.hid (HBV1.out.trans (hb0.mono HBV1.out.size))
  clear hb0
  cases fb2 with
  | false =>
    go_wp2_with fail
    refine (HKN.out W0 HBW0.out).mono ?_
    rintro e W9 ⟨rfl, hb9⟩
    have HB9 := Lib.hid (HBW0.out.trans (hb9.mono HBW0.out.size))
    go_wp2_with fail
    exact bodyPost_ret (v := .bool true) (by simp [results, Tryd.results8, go_sem]) rfl ⟨rfl, HB9.out⟩
  | true =>
  by_cases h10 : n2 ≤ 10
  case neg =>
    have h10I : (10 : Int) < (n2 : Int) := by omega
    go_wp2_with fail
    refine (HKN.out W0 HBW0.out).mono ?_
    rintro e W9 ⟨rfl, hb9⟩
    have HB9 := Lib.hid (HBW0.out.trans (hb9.mono HBW0.out.size))
    go_wp2_with fail
    exact bodyPost_ret (v := .bool true) (by simp [results, Tryd.results8, go_sem]) rfl ⟨rfl, HB9.out⟩
  have h10I : ¬ (10 : Int) < (n2 : Int) := by omega
  have h10Id : decide ((10 : Int) < (n2 : Int)) = false := by simp; omega
  by_cases hc200 : nc ≤ 200
  case neg =>
    have h20I : (200 : Int) < (nc : Int) := by omega
    go_wp2_with fail
    refine (HKN.out W0 HBW0.out).mono ?_
    rintro e W9 ⟨rfl, hb9⟩
    have HB9 := Lib.hid (HBW0.out.trans (hb9.mono HBW0.out.size))
    go_wp2_with fail
    exact bodyPost_ret (v := .bool true) (by simp [results, Tryd.results8, go_sem]) rfl ⟨rfl, HB9.out⟩
  have h20I : ¬ (200 : Int) < (nc : Int) := by omega
  have h20Id : decide ((200 : Int) < (nc : Int)) = false := by simp; omega
  by_cases hd200 : nd ≤ 200
  case neg =>
    have h21I : (200 : Int) < (nd : Int) := by omega
    go_wp2_with fail
    refine (HKN.out W0 HBW0.out).mono ?_
    rintro e W9 ⟨rfl, hb9⟩
    have HB9 := Lib.hid (HBW0.out.trans (hb9.mono HBW0.out.size))
    go_wp2_with fail
    exact bodyPost_ret (v := .bool true) (by simp [results, Tryd.results8, go_sem]) rfl ⟨rfl, HB9.out⟩
  have h21I : ¬ (200 : Int) < (nd : Int) := by omega
  have h21Id : decide ((200 : Int) < (nd : Int)) = false := by simp; omega
  have HFA3 := Lib.hid (HFA.out hc200)
  have HFA4 := Lib.hid (HFA2.out hd200)
  clear HFA HFA2
  go_wp2_with fail
  refine (New_good 48 W0 (by omega) (by omega)).mono ?_
  rintro e W1 ⟨rfl, hd1, hb1⟩
  obtain ⟨b, hbE⟩ : ∃ b, W0.heap.size + 1 = b := ⟨_, rfl⟩
  rw [hbE] at hd1 ⊢
  have HB1 := Lib.hid (HBW0.out.trans (hb1.mono HBW0.out.size))
  have HD1 := Lib.hid (hd1.mono (G := fun k => w.heap.size ≤ k) (fun k h => Nat.le_trans HBW0.out.size h))
  clear hbE hb1 hd1
  go_wp2_with fail
  refine (HSZ.out W1).mono ?_
  rintro e W1a ⟨rfl, hb⟩
  have HB1a := Lib.hid (HB1.out.trans (hb.mono HB1.out.size))
  have HD1a := Lib.hid (HD1.out.below hb)
  clear hb
  go_wp2_with fail
  refine (JFormat_z HD1a.out (KAt.below HK.out HB1a.out hK0) (by omega) 3 sz hs8.1 (by show 3 + sz ≤ (List.replicate 48 zeros).length; rw [List.length_replicate]; omega) rfl HST.out.1 ⟨by show 0 + 2 ≤ _; omega, by show 0 + 2 ≤ _; omega, by show 0 ≤ _; omega⟩ HST.out.2.1 HST.out.2.2).mono ?_
  rintro e W2 ⟨rfl, hd2, hc2⟩
  have HB2 := Lib.hid (HB1a.out.trans (hc2.below (fun k e => e) HB1a.out.size))
  have HD2 := Lib.hid (hd2.mono (G := fun k => w.heap.size ≤ k) (fun k h => h.elim id (fun h2 => Nat.le_trans HB1a.out.size h2)))
  clear hd2 hc2
  go_wp2_with fail
  refine (HSZ.out W2).mono ?_
  rintro e W2a ⟨rfl, hb⟩
  have HB2a := Lib.hid (HB2.out.trans (hb.mono HB2.out.size))
  have HD2a := Lib.hid (HD2.out.below hb)
  clear hb
  go_wp2_with fail
  refine (JOpen_z HB2a.out HD2a.out HK.out (fun k e => e) 3 sz hs8.1 (by rw [HOP.out.1]; omega) HOP.out.2.1 ⟨0, 0, []⟩ HOP.out.2.2.2.1 HOP.out.2.2.2.2.1 (by decide) (HOP.out.2.2.1.less (by decide)) HOP.out.2.2.2.2.2).mono ?_
  rintro e W3 ⟨g, N, la, lc, rfl, hj, _, _, _⟩
  rw [HJL.out]
  obtain ⟨U3, hj3, hU3⟩ := hj.ja
  have HJA3 := Lib.hid hj3
  have HU3 := Lib.hid hU3
  obtain ⟨R, hR⟩ : ∃ R : JR, (⟨3, sz⟩ : JR) = R := ⟨_, rfl⟩
  rw [hR] at HJA3 HOK1
  have HRE := Lib.hid hR
  clear hj hj3 hU3 hR HST HOP
  go_wp2_with fail
  go_loopw [15] (fun iv wr => ∃ (i : Nat) (S : DS) (J : JD) (U : Nat → Prop), i ≤ n ∧ iv = .int .i64 (i : Int) ∧ Hid (Ok S R J (i + 1)) ∧ S.dur.length = 48 ∧ Hid (JAll w wr U b g S R J) ∧ Hid (∀ k, U k → k < wr.heap.size)) (fun iv _ => n - (intOf iv).toNat)
  case atStart => exact ⟨0, S2, J1, U3, Nat.zero_le _, rfl, HOK1, HS2.out, HJA3, HU3⟩
  case round =>
    obtain ⟨i, S, J, U, hi, rfl, HOK, hdl, HJA, HUL⟩ := hrel
    obtain ⟨V0, rfl⟩ : ∃ V0, V0 = wr := ⟨_, rfl⟩
    clear HOK1 HJA3 HU3
    have HVV := Lib.hid (HV.out.below HJA.out.below)
    by_cases hlt : i < n
    case pos =>
      have HNM := Lib.hid (HOK.out.num (by omega) (by omega))
      have hiI : (i : Int) < (n : Int) := by omega
      have hiL : i < L.length := by rw [HN.out]; exact hlt
      obtain ⟨g0, off, e9, hg0, k0, k1, k2, k3, hat⟩ := (HVV.out).get hiL
      subst e9
      obtain ⟨o, ho⟩ : ∃ o, L[i] = o := ⟨_, rfl⟩
      rw [ho] at k0 k1 k2 k3 hat
      have HAT := Lib.hid hat
      have HST1 := Lib.hid (fun hkd hon => step_any HJA.out HUL.out HK.out HNM.out o hkd hon)
      have HSP := Lib.hid (HOK.out.step (by omega) (by omega) o)
      obtain ⟨z, hz⟩ : ∃ z, stepJ S R J o = z := ⟨_, rfl⟩
      rw [hz] at HST1 HSP
      obtain ⟨S', J', er⟩ := z
      simp only at HST1 HSP
      clear hat ho hz
      unfold JOp.cells at HST1
      obtain ⟨okd, hokd⟩ : ∃ okd, o.kind = okd := ⟨_, rfl⟩
      obtain ⟨on, hon⟩ : ∃ on, o.n = on := ⟨_, rfl⟩
      obtain ⟨ob, hob⟩ : ∃ ob, o.b = ob := ⟨_, rfl⟩
      obtain ⟨oa, hoa⟩ : ∃ oa, o.a = oa := ⟨_, rfl⟩
      obtain ⟨ol, hol⟩ : ∃ ol, o.cs.length = ol := ⟨_, rfl⟩
      obtain ⟨oc, hoc⟩ : ∃ oc, o.cap = oc := ⟨_, rfl⟩
      have hkd2 : okd < 256 := by rw [← hokd]; exact HAT.out.kd
      have hon2 : on < 65536 := by rw [← hon]; exact HAT.out.n
      rw [hokd, hon, hob, hoa, hol, hoc] at HST1
      rw [hokd] at k0
      rw [hon] at k1
      rw [hob] at k2
      rw [hoa, hol, hoc] at k3
      obtain ⟨obt, hobt⟩ : ∃ obt, ob.toNat = obt := ⟨_, rfl⟩
      rw [hobt] at HST1 k2
      clear hokd hon hob hoa hol hoc hobt HAT
      go_wp2_with fail
      refine (HST1.out hkd2 hon2).mono ?_
      rintro e V2 ⟨rfl, hj2, hc2⟩
      have HJ2 := Lib.hid hj2.tight
      have HUL2 := Lib.hid (show ∀ k, (U k ∨ V0.heap.size ≤ k) ∧ k < V2.heap.size → k < V2.heap.size from fun k hk => hk.2)
      obtain ⟨hok2, hdl2, _⟩ := HSP.out
      have HOK2 := Lib.hid hok2
      have HDL2 := Lib.hid hdl2
      clear hj2 hc2 k0 k1 k2 k3 hok2 hdl2
      go_wp2_with fail
      go_roundw
      case rel => exact ⟨i + 1, S', J', _, by omega, by go_num, HOK2, by rw [HDL2.out]; exact hdl, HJ2, HUL2⟩
      case measure => simp [intOf] <;> omega
    obtain rfl : n = i := by omega
    clear HVV
    have HDA := Lib.hid (HJA.out.da (X := fun _ => False) (fun _ h => h.elim))
    obtain ⟨S1, hS1⟩ : ∃ S1, (DS.restart { S with down := true } (fateL cs)).1 = S1 := ⟨_, rfl⟩
    have hpl := HOK.out.crash (fm := fun x => J.ents[x - J.first]?) (by omega) (by omega) (AllE.own _ _) (fateL_tear cs) hS1
    obtain ⟨y, S3, J3, p1, p2, p3, p4, p5, p6, p7, p8, p9, p10, p11, _, p13⟩ := hpl
    have HRM := Lib.hid (show Roomy { S with down := true } 0 from ⟨by have := HOK.out.room.ops; show S.ops + 0 ≤ _; omega, by have := HOK.out.room.pend; show S.pend.length + 0 ≤ _; omega, HOK.out.room.lim⟩)
    have HS1 := Lib.hid hS1
    have HPL := Lib.hid (show currL S1 R = some y ∧ JLim (nextG (1 - y.gen % 2) (secL S1 R.at_ R.cnt)) y.first y.ents.length y.ents ∧ sizeE y.ents ≤ 5000 ∧ Roomy S1 (sizeE y.ents + 1) ∧ S1.down = false ∧ S1.dur.length = 48 ∧ moveJ S1 R (1 - y.gen % 2) y.first y.ents = (S3, 0, J3) from ⟨p1, p2, p3, p4, p5, p6.trans hdl, p7⟩)
    have HOK3 := Lib.hid (show Ok S3 R J3 41 from ⟨p8.ji, p8.lim, by have := p8.gen; omega, by have := p8.nx; omega, p8.room.less (by omega)⟩)
    have HD3 := Lib.hid (show S3.dur.length = 48 from p13.trans hdl)
    have HSY := Lib.hid p11
    clear p1 p2 p3 p4 p5 p6 p7 p8 p9 p10 p11 p13 hS1
    go_wp2_with fail
    refine (Fail_da HDA.out).mono ?_
    rintro e V1 ⟨rfl, hda1, hcg1⟩
    have HDA1 := Lib.hid hda1
    have HKP1 := Lib.hid hcg1
    clear hda1 hcg1
    go_wp2_with fail
    refine (HFA3.out V1 HDA1.out.below).mono ?_
    rintro e V2 ⟨fa, fc, rfl, hfv, hb2⟩
    have HFV := Lib.hid hfv
    have HFB := Lib.hid hb2
    clear hfv hb2
    go_wp2_with fail
    refine (Restart_da HDA1.out HFB.out HFV.out rfl HRM.out (by rw [fateL_length, HNC0.out]; omega)).mono ?_
    rintro e V3 ⟨rfl, hda3, hcg3⟩
    rw [HS1.out] at hda3
    have HDA3 := Lib.hid hda3
    clear hda3 hcg3 HDA1 HKP1 HFV HFB
    go_wp2_with fail
    refine (HSZ.out V3).mono ?_
    rintro e V4 ⟨rfl, hb4⟩
    have HDA4 := Lib.hid (HDA3.out.step hb4)
    clear hb4 HDA3
    have hRR := HRE.out
    subst hRR
    go_wp2_with fail
    refine (Open_da HDA4.out (fun _ h => h.elim) HK.out 3 sz hs8.1 (by rw [HPL.out.2.2.2.2.2.1]; omega) HPL.out.2.2.2.2.1 y HPL.out.1 HPL.out.2.1 (Nat.le_trans HPL.out.2.2.1 (by decide)) HPL.out.2.2.2.1 HPL.out.2.2.2.2.2.2).mono ?_
    rintro e V5 ⟨_, _, _, hop⟩
    obtain ⟨g2, N, U5, la5, lc5, rfl, hja5, hu5, hnu5, hnn5⟩ := hop rfl
    have HJA5 := Lib.hid hja5
    have HU5 := Lib.hid (fun k hk => (hu5 k hk).1)
    have HNU5 := Lib.hid hnu5
    have HNN5 := Lib.hid hnn5
    obtain ⟨ne, hne⟩ : ∃ ne, J3.ents.length = ne := ⟨_, rfl⟩
    obtain ⟨fi, hfi⟩ : ∃ fi, J3.first = fi := ⟨_, rfl⟩
    obtain ⟨E3, hE3⟩ : ∃ E, J3.ents = E := ⟨_, rfl⟩
    have HNE := Lib.hid (show E3.length = ne by rw [← hE3]; exact hne)
    have HE3 := Lib.hid hE3
    have HFI3 := Lib.hid hfi
    rw [hne] at HNU5 HSY
    rw [hfi] at HNU5 HSY
    rw [hE3] at HNU5
    have hfn : fi + ne ≤ 41 := by have h1 := HOK3.out.nx; unfold JD.next at h1; rw [hfi, hne] at h1; exact h1
    rw [hne]
    clear hop hja5 hu5 hnu5 hnn5 hne hfi hE3 HDA4 HDA HJA HUL HOK
    have hmm := @run_makeMap Tryd.prog
    obtain ⟨W4, hW4⟩ : ∃ W4, V5.alloc (.map #[] 0) = W4 := ⟨_, rfl⟩
    have HW4 := Lib.hid hW4
    have hb4 : Below V5.heap.size V5 W4 := hW4 ▸ (Below.refl _ _).alloc (Nat.le_refl _) _
    obtain ⟨m, hm⟩ : ∃ m, V5.heap.size = m := ⟨_, rfl⟩
    have HSM4 := Lib.hid (show SMap W4 m (fun _ => none) by rw [← hm, ← hW4]; exact SMap.new V5)
    have HJA4 := Lib.hid (HJA5.out.step hb4)
    have HUL4 := Lib.hid (show ∀ k, U5 k → k < W4.heap.size from fun k hk => Nat.lt_of_lt_of_le (HU5.out k hk) hb4.size)
    have HUM := Lib.hid (show ¬ U5 m from fun h => by have := HU5.out m h; omega)
    have HMW := Lib.hid (show w.heap.size ≤ m by rw [← hm]; exact HJA5.out.below.size)
    have HNU4 := Lib.hid (HNU5.out.below hb4)
    have HNM4 := Lib.hid (show ∀ k, N k → k ≠ m from fun k hk => by have := (HNN5.out k hk).2.1; omega)
    have HAE0 := Lib.hid (show AllE (fun _ => none) fi (E3.take 0) from fun k hk => by simp at hk)
    have HCW := Lib.hid (Chg.refl (fun k => k = m) W4)
    clear hb4 hW4
    go_wp2_with fail
    rw [HW4.out]
    try rw [hm]
    clear hm
    go_loopw [20] (fun iv wr => ∃ (i : Nat) (fm : Nat → Option (List UInt8)), i ≤ ne ∧ iv = .int .i64 (i : Int) ∧ Hid (SMap wr m fm) ∧ Hid (AllE fm fi (E3.take i)) ∧ Hid (Chg (fun k => k = m) W4 wr)) (fun iv _ => ne - (intOf iv).toNat)
    case atStart => exact ⟨0, _, Nat.zero_le _, rfl, HSM4, HAE0, HCW⟩
    case round =>
      obtain ⟨i, fm, hi, rfl, HSM, HAE, HCR⟩ := hrel
      obtain ⟨Q0, rfl⟩ : ∃ Q0, Q0 = wr := ⟨_, rfl⟩
      clear HSM4 HAE0 HCW
      by_cases hlt : i < ne
      case pos =>
        have hiI : (i : Int) < (ne : Int) := by omega
        have hiE : i < E3.length := by rw [HNE.out]; exact hlt
        obtain ⟨gl, u, e9, _, hgl, kn0, kn1, hbu⟩ := (HNU4.out.chg HCR.out (fun k _ hk e => HNM4.out k hk e)).get hiE
        subst e9
        obtain ⟨ua, uc, rfl⟩ := hbu.form
        rw [Int.natCast_add] at kn0
        obtain ⟨X, hX⟩ : ∃ X, E3[i] = X := ⟨_, rfl⟩
        have hsn := HAE.out.snoc (l := X)
        rw [List.length_take, Nat.min_eq_left (by omega), ← hX, ← List.take_succ_eq_append_getElem hiE, hX] at hsn
        have HSN := Lib.hid hsn
        rw [hX] at kn1 hbu
        have HNC := Lib.hid (show ∀ w', Below Q0.heap.size Q0 w' → w'.cell? ⟨gl, i * 2, none⟩ = some (.int .i64 ((fi : Int) + (i : Int))) ∧ w'.cell? ⟨gl, i * 2 + 1, none⟩ = some (.slice ua X.length uc) ∧ (convert 36 9 (.slice ua X.length uc)).run Tryd.prog w' = .ok (.string ⟨X.toArray⟩) w' from fun w' hw' => ⟨(hw'.cell (p := ⟨gl, i * 2, none⟩) hgl).trans kn0, (hw'.cell (p := ⟨gl, i * 2 + 1, none⟩) hgl).trans kn1, (hbu.below hw').at_.str⟩)
        obtain ⟨xn, hxn⟩ : ∃ xn, X.length = xn := ⟨_, rfl⟩
        rw [hxn] at HNC
        clear kn0 kn1 hbu hsn
        go_wp2_with fail
        refine wp_region_noPanic ?_
        refine wp_region_F 12 (Below Q0.heap.size Q0) (by kernel_rfl) ?_
        have hS0 : (Below Q0.heap.size Q0) Q0.drew := ((Below.refl _ _).drew)
        obtain ⟨wd, hwd⟩ : ∃ wd, Q0.drew = wd := ⟨_, rfl⟩
        rw [hwd] at hS0 ⊢
        clear hwd
        refine wpAnyF_take (i := 0) (fin := 12) (v := ?v38) rfl (by kernel_rfl) (by kernel_rfl) (by kernel_rfl) (by kernel_rfl) (fun _ _ _ h => h) (yieldsIf_run rfl (fun w' hw' => ?y38)) hS0 ?_
        case y38 => first | (go_simp; rfl) | (go_simp; done) | rfl
        simp only [Act.put, List.setIfInBounds_toArray, List.set_cons_zero, List.set_cons_succ]
        refine wpAnyF_take (i := 1) (fin := 12) (v := ?v39) rfl (by kernel_rfl) (by kernel_rfl) (by kernel_rfl) (by kernel_rfl) (fun _ _ _ h => h) (yieldsIf_run rfl (fun w' hw' => ?y39)) hS0 ?_
        case y39 => first | (go_simp; rfl) | (go_simp; done) | rfl
        simp only [Act.put, List.setIfInBounds_toArray, List.set_cons_zero, List.set_cons_succ]
        refine wpAnyF_take (i := 2) (fin := 12) (v := ?v40) rfl (by kernel_rfl) (by kernel_rfl) (by kernel_rfl) (by kernel_rfl) (fun _ _ _ h => h) (yieldsIf_run rfl (fun w' hw' => ?y40)) hS0 ?_
        case y40 => first | (go_simp; rfl) | (go_simp; done) | rfl
        simp only [Act.put, List.setIfInBounds_toArray, List.set_cons_zero, List.set_cons_succ]
        refine wpAnyF_take (i := 3) (fin := 12) (v := ?v41) rfl (by kernel_rfl) (by kernel_rfl) (by kernel_rfl) (by kernel_rfl) (fun _ _ _ h => h) (yieldsIf_run rfl (fun w' hw' => ?y41)) hS0 ?_
        case y41 => first | (go_simp; rfl) | (go_simp; done) | rfl
        simp only [Act.put, List.setIfInBounds_toArray, List.set_cons_zero, List.set_cons_succ]
        refine wpAnyF_take (i := 4) (fin := 12) (v := ?v42) rfl (by kernel_rfl) (by kernel_rfl) (by kernel_rfl) (by kernel_rfl) (fun _ _ _ h => h) (yieldsIf_run rfl (fun w' hw' => ?y42)) hS0 ?_
        case y42 => first | (go_simp; rfl) | (go_simp; done) | rfl
        simp only [Act.put, List.setIfInBounds_toArray, List.set_cons_zero, List.set_cons_succ]
        refine wpAnyF_take (i := 5) (fin := 12) (v := ?v43) rfl (by kernel_rfl) (by kernel_rfl) (by kernel_rfl) (by kernel_rfl) (fun _ _ _ h => h) (yieldsIf_run rfl (fun w' hw' => ?y43)) hS0 ?_
        case y43 => (obtain ⟨h1, h2, h3⟩ := HNC.out w' hw'; clear hw'; first | (go_simp; rfl) | (go_simp; done))
        simp only [Act.put, List.setIfInBounds_toArray, List.set_cons_zero, List.set_cons_succ]
        refine wpAnyF_take (i := 6) (fin := 12) (v := ?v44) rfl (by kernel_rfl) (by kernel_rfl) (by kernel_rfl) (by kernel_rfl) (fun _ _ _ h => h) (yieldsIf_run rfl (fun w' hw' => ?y44)) hS0 ?_
        case y44 => first | (go_simp; rfl) | (go_simp; done) | rfl
        simp only [Act.put, List.setIfInBounds_toArray, List.set_cons_zero, List.set_cons_succ]
        refine wpAnyF_take (i := 7) (fin := 12) (v := ?v45) rfl (by kernel_rfl) (by kernel_rfl) (by kernel_rfl) (by kernel_rfl) (fun _ _ _ h => h) (yieldsIf_run rfl (fun w' hw' => ?y45)) hS0 ?_
        case y45 => first | (go_simp; rfl) | (go_simp; done) | rfl
        simp only [Act.put, List.setIfInBounds_toArray, List.set_cons_zero, List.set_cons_succ]
        refine wpAnyF_take (i := 8) (fin := 12) (v := ?v46) rfl (by kernel_rfl) (by kernel_rfl) (by kernel_rfl) (by kernel_rfl) (fun _ _ _ h => h) (yieldsIf_run rfl (fun w' hw' => ?y46)) hS0 ?_
        case y46 => first | (go_simp; rfl) | (go_simp; done) | rfl
        simp only [Act.put, List.setIfInBounds_toArray, List.set_cons_zero, List.set_cons_succ]
        refine wpAnyF_take (i := 9) (fin := 12) (v := ?v47) rfl (by kernel_rfl) (by kernel_rfl) (by kernel_rfl) (by kernel_rfl) (fun _ _ _ h => h) (yieldsIf_run rfl (fun w' hw' => ?y47)) hS0 ?_
        case y47 => first | (go_simp; rfl) | (go_simp; done) | rfl
        simp only [Act.put, List.setIfInBounds_toArray, List.set_cons_zero, List.set_cons_succ]
        refine wpAnyF_take (i := 10) (fin := 12) (v := ?v48) rfl (by kernel_rfl) (by kernel_rfl) (by kernel_rfl) (by kernel_rfl) (fun _ _ _ h => h) (yieldsIf_run rfl (fun w' hw' => ?y48)) hS0 ?_
        case y48 => (obtain ⟨h1, h2, h3⟩ := HNC.out w' hw'; clear hw'; first | (go_simp; rfl) | (go_simp; done))
        simp only [Act.put, List.setIfInBounds_toArray, List.set_cons_zero, List.set_cons_succ]
        refine wpAnyF_take (i := 11) (fin := 12) (v := ?v49) rfl (by kernel_rfl) (by kernel_rfl) (by kernel_rfl) (by kernel_rfl) (fun _ _ _ h => h) (yieldsIf_run rfl (fun w' hw' => ?y49)) hS0 ?_
        case y49 => (obtain ⟨h1, h2, h3⟩ := HNC.out w' hw'; clear hw'; first | (go_simp; rfl) | (go_simp; done))
        simp only [Act.put, List.setIfInBounds_toArray, List.set_cons_zero, List.set_cons_succ]
        refine wpAnyF_do (i := 12) (by kernel_rfl) rfl rfl (fun K hK => ?_)
        obtain ⟨V4, hrun, hm4, hc4⟩ := (HSM.out.below hS0).upd (fi + i) (by omega) X
        rw [Int.natCast_add] at hrun
        go_simp
        refine hK _ _ (fun h => absurd rfl h) ?_
        clear hK K
        refine wpAnyF_done (by kernel_rfl) ?_ _
        refine NoPanic.normal ?_
        have HSM5 := Lib.hid hm4
        have HCR5 := Lib.hid (HCR.out.trans ((Chg.of_below hS0).trans hc4 (fun k h => .inl h)) (fun k h => .inl h))
        clear hm4 hc4 hS0
        go_wp2_with fail
        go_roundw
        case rel => exact ⟨i + 1, _, by omega, by go_num, HSM5, HSN, HCR5⟩
        case measure => simp [intOf] <;> omega
      obtain rfl : ne = i := by omega
      have HAEF := Lib.hid (show AllE fm fi E3 by have h1 := HAE.out; rwa [List.take_of_length_le (by rw [HNE.out]; exact Nat.le_refl _)] at h1)
      have HJQ := Lib.hid (HJA4.out.chg HCR.out (fun k _ hk => hk ▸ HUM.out) (fun k hk => hk ▸ HMW.out))
      have HULQ := Lib.hid (show ∀ k, U5 k → k < Q0.heap.size from fun k hk => Nat.lt_of_lt_of_le (HUL4.out k hk) HCR.out.size)
      have HOKQ := Lib.hid (show Ok S3 ⟨3, sz⟩ J3 (0 + 41) from HOK3.out)
      have HFSQ := Lib.hid (show J3.first = fi ∧ J3.synced = fi + ne from ⟨HFI3.out, HSY.out⟩)
      have HAEQ := Lib.hid (show AllE fm J3.first J3.ents by rw [HFI3.out, HE3.out]; exact HAEF.out)
      clear HJA4 HCR HAEF HAE HNU4
      go_wp2_with fail
      go_loopw [21] (fun iv wr => ∃ (i : Nat) (S : DS) (J : JD) (fm : Nat → Option (List UInt8)) (U : Nat → Prop), i ≤ n2 ∧ iv = .int .i64 (i : Int) ∧ Hid (Ok S ⟨3, sz⟩ J (i + 41)) ∧ S.dur.length = 48 ∧ Hid (J.first = fi ∧ J.synced = fi + ne) ∧ Hid (AllE fm J.first J.ents) ∧ Hid (JAll w wr U b g2 S ⟨3, sz⟩ J) ∧ Hid (∀ k, U k → k < wr.heap.size) ∧ Hid (¬ U m) ∧ Hid (SMap wr m fm)) (fun iv _ => n2 - (intOf iv).toNat)
      case atStart => exact ⟨0, S3, J3, fm, U5, Nat.zero_le _, rfl, HOKQ, HD3.out, HFSQ, HAEQ, HJQ, HULQ, HUM, HSM⟩
      case round =>
        clear HOKQ HFSQ HAEQ HJQ HULQ HUM HSM HOK3 HD3 HPL HSY
        obtain ⟨i, S, J, fm, U, hi, rfl, HOK, hdl3, HFS, HAE, HJA, HUL, HUM, HSM⟩ := hrel
        obtain ⟨V0, rfl⟩ : ∃ V0, V0 = wr := ⟨_, rfl⟩
        by_cases hlt : i < n2
        case pos =>
          have HNM := Lib.hid (HOK.out.num (by omega) (by omega))
          have HVV := Lib.hid (HV2.out.below HJA.out.below)
          have hiI : (i : Int) < (n2 : Int) := by omega
          have hiL : i < L2.length := by rw [HN2.out]; exact hlt
          obtain ⟨g0, off, e9, hg0, k0, k1, k2, k3, hat⟩ := (HVV.out).get hiL
          subst e9
          obtain ⟨o, ho⟩ : ∃ o, L2[i] = o := ⟨_, rfl⟩
          rw [ho] at k0 k1 k2 k3 hat
          have HAT := Lib.hid hat
          have HCE := Lib.hid (show ∀ V, Chg (fun k => w.heap.size ≤ k) V0 V → V.cell? ⟨g0, off + i * 4 + 1, none⟩ = some (.int .u16 (o.n : Int)) ∧ V.cell? ⟨g0, off + i * 4 + 2, none⟩ = some (.int .u8 (o.b.toNat : Int)) from fun V hV => by
            obtain ⟨g1, off1, e1, hg1, j0, j1, j2, j3, _⟩ := HV2.out.get hiL
            cases e1
            have hb3 := (HJA.out.below).trans (hV.below (fun k e => e) HJA.out.below.size)
            rw [ho] at j1 j2
            exact ⟨(hb3.cell (p := ⟨g0, off + i * 4 + 1, none⟩) hg1).trans j1, (hb3.cell (p := ⟨g0, off + i * 4 + 2, none⟩) hg1).trans j2⟩)
          have HBL := Lib.hid (show (lawB o.n o.b).length ≤ 100000 by rw [lawB_length]; omega)
          have HAP := Lib.hid (fun (V : World) (hV : Below V0.heap.size V0 V) (D : Nat → Prop) (bv : Value) (hb : BytesN V D bv (lawB o.n o.b)) (hD : ∀ k, k < V.heap.size → D k → ¬ U k) => App_all (HJA.out.step hV) HK.out HNM.out hb hD (by have := HBL.out; omega))
          have HSP := Lib.hid (HOK.out.app (by omega) HBL.out)
          obtain ⟨z, hz⟩ : ∃ z, appJ S ⟨3, sz⟩ J (lawB o.n o.b) = z := ⟨_, rfl⟩
          rw [hz] at HAP HSP
          obtain ⟨S', J', er, nu⟩ := z
          simp only at HAP
          clear hat ho hz k0 k1 k2 k3 HVV
          obtain ⟨okd, hokd⟩ : ∃ okd, o.kind = okd := ⟨_, rfl⟩
          obtain ⟨on, hon⟩ : ∃ on, o.n = on := ⟨_, rfl⟩
          obtain ⟨ob, hob⟩ : ∃ ob, o.b = ob := ⟨_, rfl⟩
          obtain ⟨oa, hoa⟩ : ∃ oa, o.a = oa := ⟨_, rfl⟩
          obtain ⟨ol, hol⟩ : ∃ ol, o.cs.length = ol := ⟨_, rfl⟩
          obtain ⟨oc, hoc⟩ : ∃ oc, o.cap = oc := ⟨_, rfl⟩
          have hkd2 : okd < 256 := by rw [← hokd]; exact HAT.out.kd
          have hon2 : on < 65536 := by rw [← hon]; exact HAT.out.n
          rw [hon, hob] at HAP HCE HSP
          have HBY := Lib.hid (fun V : World => bytes_any (w := V) on hon2 ob)
          obtain ⟨obt, hobt⟩ : ∃ obt, ob.toNat = obt := ⟨_, rfl⟩
          rw [hobt] at HCE HBY
          clear hokd hon hob hoa hol hoc hobt HAT hkd2
          go_wp2_with fail
          refine wp_region_noPanic ?_
          refine wp_region_H (Chg U V0) (by kernel_rfl) ?_
          have hS0 : (Chg U V0) V0.drew := Chg.of_below ((Below.refl _ _).drew)
          obtain ⟨wd, hwd⟩ : ∃ wd, V0.drew = wd := ⟨_, rfl⟩
          rw [hwd] at hS0 ⊢
          have hd0 : Below V0.heap.size V0 wd := hwd ▸ (Below.refl _ _).drew
          clear hwd
          refine wpAnyH_takeI (i := 0) (v := ?v50) rfl (by kernel_rfl) (by kernel_rfl) (by kernel_rfl) (fun _ _ _ h => h) (yieldsIf_run rfl (fun w' hw' => ?y50)) hS0 ?_
          case y50 => first | (go_simp; rfl) | (go_simp; done) | rfl
          simp only [Act.put, List.setIfInBounds_toArray, List.set_cons_zero, List.set_cons_succ]
          refine wpAnyH_takeI (i := 1) (v := ?v51) rfl (by kernel_rfl) (by kernel_rfl) (by kernel_rfl) (fun _ _ _ h => h) (yieldsIf_run rfl (fun w' hw' => ?y51)) hS0 ?_
          case y51 => first | (go_simp; rfl) | (go_simp; done) | rfl
          simp only [Act.put, List.setIfInBounds_toArray, List.set_cons_zero, List.set_cons_succ]
          refine wpAnyH_takeI (i := 2) (v := ?v52) rfl (by kernel_rfl) (by kernel_rfl) (by kernel_rfl) (fun _ _ _ h => h) (yieldsIf_run rfl (fun w' hw' => ?y52)) hS0 ?_
          case y52 => first | (go_simp; rfl) | (go_simp; done) | rfl
          simp only [Act.put, List.setIfInBounds_toArray, List.set_cons_zero, List.set_cons_succ]
          refine wpAnyH_takeI (i := 3) (v := ?v53) rfl (by kernel_rfl) (by kernel_rfl) (by kernel_rfl) (fun _ _ _ h => h) (yieldsIf_run rfl (fun w' hw' => ?y53)) hS0 ?_
          case y53 => first | (go_simp; rfl) | (go_simp; done) | rfl
          simp only [Act.put, List.setIfInBounds_toArray, List.set_cons_zero, List.set_cons_succ]
          refine wpAnyH_takeI (i := 4) (v := ?v54) rfl (by kernel_rfl) (by kernel_rfl) (by kernel_rfl) (fun _ _ _ h => h) (yieldsIf_run rfl (fun w' hw' => ?y54)) hS0 ?_
          case y54 => first | (go_simp; rfl) | (go_simp; done) | rfl
          simp only [Act.put, List.setIfInBounds_toArray, List.set_cons_zero, List.set_cons_succ]
          refine wpAnyH_takeI (i := 5) (v := ?v55) rfl (by kernel_rfl) (by kernel_rfl) (by kernel_rfl) (fun _ _ _ h => h) (yieldsIf_run rfl (fun w' hw' => ?y55)) hS0 ?_
          case y55 => (obtain ⟨h1, h2⟩ := HCE.out w' (hw'.mono (fun k hk => HJA.out.lo k hk)); clear hw'; first | (go_simp; rfl) | (go_simp; done))
          simp only [Act.put, List.setIfInBounds_toArray, List.set_cons_zero, List.set_cons_succ]
          refine wpAnyH_takeI (i := 6) (v := ?v56) rfl (by kernel_rfl) (by kernel_rfl) (by kernel_rfl) (fun _ _ _ h => h) (yieldsIf_run rfl (fun w' hw' => ?y56)) hS0 ?_
          case y56 => first | (go_simp; rfl) | (go_simp; done) | rfl
          simp only [Act.put, List.setIfInBounds_toArray, List.set_cons_zero, List.set_cons_succ]
          refine wpAnyH_takeI (i := 7) (v := ?v57) rfl (by kernel_rfl) (by kernel_rfl) (by kernel_rfl) (fun _ _ _ h => h) (yieldsIf_run rfl (fun w' hw' => ?y57)) hS0 ?_
          case y57 => first | (go_simp; rfl) | (go_simp; done) | rfl
          simp only [Act.put, List.setIfInBounds_toArray, List.set_cons_zero, List.set_cons_succ]
          refine wpAnyH_takeI (i := 8) (v := ?v58) rfl (by kernel_rfl) (by kernel_rfl) (by kernel_rfl) (fun _ _ _ h => h) (yieldsIf_run rfl (fun w' hw' => ?y58)) hS0 ?_
          case y58 => first | (go_simp; rfl) | (go_simp; done) | rfl
          simp only [Act.put, List.setIfInBounds_toArray, List.set_cons_zero, List.set_cons_succ]
          refine wpAnyH_takeI (i := 9) (v := ?v59) rfl (by kernel_rfl) (by kernel_rfl) (by kernel_rfl) (fun _ _ _ h => h) (yieldsIf_run rfl (fun w' hw' => ?y59)) hS0 ?_
          case y59 => first | (go_simp; rfl) | (go_simp; done) | rfl
          simp only [Act.put, List.setIfInBounds_toArray, List.set_cons_zero, List.set_cons_succ]
          refine wpAnyH_takeI (i := 10) (v := ?v60) rfl (by kernel_rfl) (by kernel_rfl) (by kernel_rfl) (fun _ _ _ h => h) (yieldsIf_run rfl (fun w' hw' => ?y60)) hS0 ?_
          case y60 => (obtain ⟨h1, h2⟩ := HCE.out w' (hw'.mono (fun k hk => HJA.out.lo k hk)); clear hw'; first | (go_simp; rfl) | (go_simp; done))
          simp only [Act.put, List.setIfInBounds_toArray, List.set_cons_zero, List.set_cons_succ]
          refine wpAnyH_do (i := 11) (by kernel_rfl) rfl rfl (fun K hK => ?_)
          go_simp
          go_at_call 16
          refine (HBY.out wd).mono ?_
          rintro e V1 ⟨ba, bc, rfl, hv1, hb1⟩
          have hc1 := hS0.trans (Chg.of_below (F := U) hb1) (fun k e => .inl e)
          have hb01 := hd0.trans (hb1.mono hd0.size)
          refine hK _ _ (hc1) ?_
          clear hK K
          try simp only [Act.put, List.setIfInBounds_toArray, List.set_cons_zero, List.set_cons_succ]
          refine wpAnyH_do (i := 12) (by kernel_rfl) rfl rfl (fun K hK => ?_)
          go_simp
          go_at_call 18
          refine (HAP.out V1 hb01 _ _ hv1 (fun k _ h1 h2 => by have h3 := HUL.out k h2; have h4 := hd0.size; omega)).mono ?_
          rintro e V2 ⟨rfl, hj2, hc2⟩
          have hc3 := hc1.trans hc2 (fun k e => .inl e)
          refine hK _ _ (hc3) ?_
          clear hK K
          try simp only [Act.put, List.setIfInBounds_toArray, List.set_cons_zero, List.set_cons_succ]
          refine wpAnyH_takeI (i := 13) (v := ?v61) rfl (by kernel_rfl) (by kernel_rfl) (by kernel_rfl) (fun _ _ _ h => h) (yieldsIf_run rfl (fun w' hw' => ?y61)) hc3 ?_
          case y61 => first | (go_simp; rfl) | (go_simp; done) | rfl
          simp only [Act.put, List.setIfInBounds_toArray, List.set_cons_zero, List.set_cons_succ]
          refine wpAnyH_takeI (i := 14) (v := ?v62) rfl (by kernel_rfl) (by kernel_rfl) (by kernel_rfl) (fun _ _ _ h => h) (yieldsIf_run rfl (fun w' hw' => ?y62)) hc3 ?_
          case y62 => first | (go_simp; rfl) | (go_simp; done) | rfl
          simp only [Act.put, List.setIfInBounds_toArray, List.set_cons_zero, List.set_cons_succ]
          refine wpAnyH_takeI (i := 15) (v := ?v63) rfl (by kernel_rfl) (by kernel_rfl) (by kernel_rfl) (fun _ _ _ h => h) (yieldsIf_run rfl (fun w' hw' => ?y63)) hc3 ?_
          case y63 => first | (go_simp; rfl) | (go_simp; done) | rfl
          simp only [Act.put, List.setIfInBounds_toArray, List.set_cons_zero, List.set_cons_succ]
          refine wpAnyH_takeI (i := 16) (v := ?v64) rfl (by kernel_rfl) (by kernel_rfl) (by kernel_rfl) (fun _ _ _ h => h) (yieldsIf_run rfl (fun w' hw' => ?y64)) hc3 ?_
          case y64 => first | (go_simp; rfl) | (go_simp; done) | rfl
          simp only [Act.put, List.setIfInBounds_toArray, List.set_cons_zero, List.set_cons_succ]
          refine wpAnyH_takeI (i := 17) (v := ?v65) rfl (by kernel_rfl) (by kernel_rfl) (by kernel_rfl) (fun _ _ _ h => h) (yieldsIf_run rfl (fun w' hw' => ?y65)) hc3 ?_
          case y65 => first | (go_simp; rfl) | (go_simp; done) | rfl
          simp only [Act.put, List.setIfInBounds_toArray, List.set_cons_zero, List.set_cons_succ]
          refine wpAnyH_done (by kernel_rfl) ?_ _
          refine NoPanic.normal ?_
          have HJ2 := Lib.hid hj2.tight
          have HM2 := Lib.hid (HSM.out.chg hc3 HUM.out)
          have HC3 := Lib.hid (hc3.mono (G := fun k => w.heap.size ≤ k) (fun k hk => HJA.out.lo k hk))
          have HUM2 := Lib.hid (show ¬ ((U m ∨ V1.heap.size ≤ m) ∧ m < V2.heap.size) from fun h => h.1.elim HUM.out (fun h2 => by have h3 := HSM.out.lt; have h4 := hb01.size; omega))
          have HUL2 := Lib.hid (show ∀ k, (U k ∨ V1.heap.size ≤ k) ∧ k < V2.heap.size → k < V2.heap.size from fun k hk => hk.2)
          clear hj2 hc2 hc3 hc1 hb1 hb01 hv1 hd0 hS0
          rcases HSP.out with ⟨e1, _⟩ | ⟨S9, e1, hok2, hdl2, _⟩
          · cases e1
            have HOK2 := Lib.hid (show Ok S ⟨3, sz⟩ J (i + 1 + 41) by have h1 := HOK.out.up; rwa [show i + 41 + 1 = i + 1 + 41 by omega] at h1)
            go_wp2_with fail
            go_roundw
            case rel => exact ⟨i + 1, S, J, fm, _, by omega, by go_num, HOK2, hdl3, HFS, HAE, HJ2, HUL2, HUM2, HM2⟩
            case measure => simp [intOf] <;> omega
          · cases e1
            have HOK2 := Lib.hid (show Ok S' ⟨3, sz⟩ { J with ents := J.ents ++ [lawB on ob], used := J.used + needN (lawB on ob).length } (i + 1 + 41) by rwa [show i + 41 + 1 = i + 1 + 41 by omega] at hok2)
            have HDL2 := Lib.hid hdl2
            have hnx : J.next ≤ i + 41 := HOK.out.nx
            have HAO2 := Lib.hid (show AllE (fun x => if x = J.next then some (lawB on ob) else fm x) J.first (J.ents ++ [lawB on ob]) from HAE.out.snoc)
            obtain ⟨nx, hnxe⟩ : ∃ nx, J.next = nx := ⟨_, rfl⟩
            rw [hnxe] at hnx HAO2 ⊢
            obtain ⟨J9, hJ9⟩ : ∃ J9, ({ J with ents := J.ents ++ [lawB on ob], used := J.used + needN (lawB on ob).length } : JD) = J9 := ⟨_, rfl⟩
            have HAO3 := Lib.hid (show AllE (fun x => if x = nx then some (lawB on ob) else fm x) J9.first J9.ents by rw [← hJ9]; exact HAO2.out)
            have HFS9 := Lib.hid (show J9.first = fi ∧ J9.synced = fi + ne by rw [← hJ9]; exact HFS.out)
            rw [hJ9] at HOK2 HJ2
            clear hok2 hdl2 hnxe hJ9 HAO2
            go_wp2_with fail
            refine wp_region_noPanic ?_
            refine wp_region_G [14] (Below V2.heap.size V2) (by kernel_rfl) ?_
            have hS0 : (Below V2.heap.size V2) V2.drew := ((Below.refl _ _).drew)
            obtain ⟨wd, hwd⟩ : ∃ wd, V2.drew = wd := ⟨_, rfl⟩
            rw [hwd] at hS0 ⊢
            have hd0 : Below V2.heap.size V2 wd := hwd ▸ (Below.refl _ _).drew
            clear hwd
            refine wpAnyG_pure (i := 0) (v := ?v66) rfl (by kernel_rfl) (by kernel_rfl) (by kernel_rfl) (by kernel_rfl) (fun _ _ _ h => h) (yieldsIf_run rfl (fun w' hw' => ?y66)) (fun _ => hS0) ?_
            case y66 => first | (go_simp; rfl) | (go_simp; done) | rfl
            simp only [Act.put, List.setIfInBounds_toArray, List.set_cons_zero, List.set_cons_succ]
            refine wpAnyG_pure (i := 1) (v := ?v67) rfl (by kernel_rfl) (by kernel_rfl) (by kernel_rfl) (by kernel_rfl) (fun _ _ _ h => h) (yieldsIf_run rfl (fun w' hw' => ?y67)) (fun _ => hS0) ?_
            case y67 => first | (go_simp; rfl) | (go_simp; done) | rfl
            simp only [Act.put, List.setIfInBounds_toArray, List.set_cons_zero, List.set_cons_succ]
            refine wpAnyG_pure (i := 2) (v := ?v68) rfl (by kernel_rfl) (by kernel_rfl) (by kernel_rfl) (by kernel_rfl) (fun _ _ _ h => h) (yieldsIf_run rfl (fun w' hw' => ?y68)) (fun _ => hS0) ?_
            case y68 => first | (go_simp; rfl) | (go_simp; done) | rfl
            simp only [Act.put, List.setIfInBounds_toArray, List.set_cons_zero, List.set_cons_succ]
            refine wpAnyG_pure (i := 3) (v := ?v69) rfl (by kernel_rfl) (by kernel_rfl) (by kernel_rfl) (by kernel_rfl) (fun _ _ _ h => h) (yieldsIf_run rfl (fun w' hw' => ?y69)) (fun _ => hS0) ?_
            case y69 => first | (go_simp; rfl) | (go_simp; done) | rfl
            simp only [Act.put, List.setIfInBounds_toArray, List.set_cons_zero, List.set_cons_succ]
            refine wpAnyG_pure (i := 4) (v := ?v70) rfl (by kernel_rfl) (by kernel_rfl) (by kernel_rfl) (by kernel_rfl) (fun _ _ _ h => h) (yieldsIf_run rfl (fun w' hw' => ?y70)) (fun _ => hS0) ?_
            case y70 => first | (go_simp; rfl) | (go_simp; done) | rfl
            simp only [Act.put, List.setIfInBounds_toArray, List.set_cons_zero, List.set_cons_succ]
            refine wpAnyG_pure (i := 5) (v := ?v71) rfl (by kernel_rfl) (by kernel_rfl) (by kernel_rfl) (by kernel_rfl) (fun _ _ _ h => h) (yieldsIf_run rfl (fun w' hw' => ?y71)) (fun _ => hS0) ?_
            case y71 => first | (go_simp; rfl) | (go_simp; done) | rfl
            simp only [Act.put, List.setIfInBounds_toArray, List.set_cons_zero, List.set_cons_succ]
            refine wpAnyG_takeZ (i := 6) (v := ?v72) rfl (by kernel_rfl) (by kernel_rfl) (by kernel_rfl) (by kernel_rfl) (fun _ _ _ h => h) (yieldsIf_run rfl (fun w' hw' => ?y72)) hS0 ?_
            case y72 => (obtain ⟨h1, h2⟩ := HCE.out w' (HC3.out.trans (Chg.of_below hw') (fun k e => .inl e)); clear hw'; first | (go_simp; rfl) | (go_simp; done))
            simp only [Act.put, List.setIfInBounds_toArray, List.set_cons_zero, List.set_cons_succ]
            refine wpAnyG_pure (i := 7) (v := ?v73) rfl (by kernel_rfl) (by kernel_rfl) (by kernel_rfl) (by kernel_rfl) (fun _ _ _ h => h) (yieldsIf_run rfl (fun w' hw' => ?y73)) (fun _ => hS0) ?_
            case y73 => first | (go_simp; rfl) | (go_simp; done) | rfl
            simp only [Act.put, List.setIfInBounds_toArray, List.set_cons_zero, List.set_cons_succ]
            refine wpAnyG_pure (i := 8) (v := ?v74) rfl (by kernel_rfl) (by kernel_rfl) (by kernel_rfl) (by kernel_rfl) (fun _ _ _ h => h) (yieldsIf_run rfl (fun w' hw' => ?y74)) (fun _ => hS0) ?_
            case y74 => first | (go_simp; rfl) | (go_simp; done) | rfl
            simp only [Act.put, List.setIfInBounds_toArray, List.set_cons_zero, List.set_cons_succ]
            refine wpAnyG_pure (i := 9) (v := ?v75) rfl (by kernel_rfl) (by kernel_rfl) (by kernel_rfl) (by kernel_rfl) (fun _ _ _ h => h) (yieldsIf_run rfl (fun w' hw' => ?y75)) (fun _ => hS0) ?_
            case y75 => first | (go_simp; rfl) | (go_simp; done) | rfl
            simp only [Act.put, List.setIfInBounds_toArray, List.set_cons_zero, List.set_cons_succ]
            refine wpAnyG_pure (i := 10) (v := ?v76) rfl (by kernel_rfl) (by kernel_rfl) (by kernel_rfl) (by kernel_rfl) (fun _ _ _ h => h) (yieldsIf_run rfl (fun w' hw' => ?y76)) (fun _ => hS0) ?_
            case y76 => first | (go_simp; rfl) | (go_simp; done) | rfl
            simp only [Act.put, List.setIfInBounds_toArray, List.set_cons_zero, List.set_cons_succ]
            refine wpAnyG_takeZ (i := 11) (v := ?v77) rfl (by kernel_rfl) (by kernel_rfl) (by kernel_rfl) (by kernel_rfl) (fun _ _ _ h => h) (yieldsIf_run rfl (fun w' hw' => ?y77)) hS0 ?_
            case y77 => (obtain ⟨h1, h2⟩ := HCE.out w' (HC3.out.trans (Chg.of_below hw') (fun k e => .inl e)); clear hw'; first | (go_simp; rfl) | (go_simp; done))
            simp only [Act.put, List.setIfInBounds_toArray, List.set_cons_zero, List.set_cons_succ]
            refine wpAnyG_do (i := 12) (by kernel_rfl) rfl rfl (fun K hK => ?_)
            go_simp
            go_at_call 16
            refine (HBY.out wd).mono ?_
            rintro e V3 ⟨ba3, bc3, rfl, hv3, hb3⟩
            have hb03 := hd0.trans (hb3.mono hd0.size)
            refine hK _ _ hb03 ?_
            clear hK K
            try simp only [Act.put, List.setIfInBounds_toArray, List.set_cons_zero, List.set_cons_succ]
            refine wpAnyG_do (i := 13) (by kernel_rfl) rfl rfl (fun K hK => ?_)
            have hstr := hv3.at_.str
            go_simp
            refine hK _ _ hb03 ?_
            clear hK K
            try simp only [Act.put, List.setIfInBounds_toArray, List.set_cons_zero, List.set_cons_succ]
            refine wpAnyG_fin (i := 14) (by kernel_rfl) rfl rfl (by kernel_rfl) (fun K hK => ?_)
            obtain ⟨V4, hrun, hm4, hc4⟩ := (HM2.out.below hb03).upd nx (by omega) (lawB on ob)
            go_simp
            refine hK _ _ ?_
            clear hK K
            try simp only [Act.put, List.setIfInBounds_toArray, List.set_cons_zero, List.set_cons_succ]
            refine wpAnyG_done (by kernel_rfl) ?_ _
            refine NoPanic.normal ?_
            have HJ4 := Lib.hid ((HJ2.out.step hb03).chg hc4 (fun k _ h1 h2 => HUM2.out (h1 ▸ h2)) (fun k h1 => by rw [h1]; exact HMW.out))
            have HM4 := Lib.hid hm4
            have HUL5 := Lib.hid (show ∀ k, (U k ∨ V1.heap.size ≤ k) ∧ k < V2.heap.size → k < V4.heap.size from fun k hk => by have h1 := hb03.size; have h2 := hc4.size; omega)
            clear hm4 hc4 hb03 hb3 hv3 hd0 hS0
            go_wp2_with fail
            go_roundw
            case rel => exact ⟨i + 1, S', J9, _, _, by omega, by go_num, HOK2, by rw [HDL2.out]; exact hdl3, HFS9, HAO3, HJ4, HUL5, HUM2, HM4⟩
            case measure => simp [intOf] <;> omega
        obtain rfl : n2 = i := by omega
        have HDA := Lib.hid (HJA.out.da (X := fun k => k = m ∨ k = g2) (fun k h => h.elim (fun e => .inl (e ▸ HUM.out)) .inr))
        obtain ⟨kva, kvc, hblk⟩ := HJA.out.blk
        obtain ⟨S1, hS1⟩ : ∃ S1, (DS.restart { S with down := true } (fateL ds)).1 = S1 := ⟨_, rfl⟩
        obtain ⟨y, S4, J4, p1, p2, p3, p4, p5, p6, p7, p8, p9, p10, p11, p12, p13⟩ := HOK.out.crash (by omega) (by omega) HAE.out (fateL_tear ds) hS1
        have HRM := Lib.hid (show Roomy { S with down := true } 0 from ⟨by have := HOK.out.room.ops; show S.ops + 0 ≤ _; omega, by have := HOK.out.room.pend; show S.pend.length + 0 ≤ _; omega, HOK.out.room.lim⟩)
        have HS1 := Lib.hid hS1
        have HPL := Lib.hid (show currL S1 ⟨3, sz⟩ = some y ∧ JLim (nextG (1 - y.gen % 2) (secL S1 3 sz)) y.first y.ents.length y.ents ∧ sizeE y.ents ≤ 5000 ∧ Roomy S1 (sizeE y.ents + 1) ∧ S1.down = false ∧ S1.dur.length = 48 ∧ moveJ S1 ⟨3, sz⟩ (1 - y.gen % 2) y.first y.ents = (S4, 0, J4) from ⟨p1, p2, p3, p4, p5, p6.trans hdl3, p7⟩)
        have HBK := Lib.hid hblk
        have hjf : J.first = fi := HFS.out.1
        rw [hjf] at p9
        rw [p9] at p10 p12
        rw [HFS.out.2] at p12
        obtain ⟨ny, hny⟩ : ∃ ny, J4.ents.length = ny := ⟨_, rfl⟩
        obtain ⟨E4, hE4⟩ : ∃ E, J4.ents = E := ⟨_, rfl⟩
        rw [hny] at p12
        have hle : ne ≤ ny := by omega
        have hnyn : fi + ny ≤ 1000 := by have h1 := p8.nx; unfold JD.next at h1; rw [p9, hny] at h1; omega
        rw [hE4] at p10
        have HALL := Lib.hid p10
        have HJ4F := Lib.hid (show J4.first = fi ∧ J4.ents.length = ny ∧ J4.ents = E4 from ⟨p9, hny, hE4⟩)
        have HNY := Lib.hid (show E4.length = ny by rw [← hE4]; exact hny)
        have HJF := Lib.hid hjf
        clear p1 p2 p3 p4 p5 p6 p7 p8 p9 p10 p11 p12 p13 hS1 hblk hny hE4 hjf
        go_wp2_with fail
        refine (Fail_da HDA.out).mono ?_
        rintro e V1 ⟨rfl, hda1, hcg1⟩
        have HDA1 := Lib.hid hda1
        have HKP1 := Lib.hid hcg1
        clear hda1 hcg1
        go_wp2_with fail
        refine (HFA4.out V1 HDA1.out.below).mono ?_
        rintro e V2 ⟨fa, fc, rfl, hfv, hb2⟩
        have HFV := Lib.hid hfv
        have HFB := Lib.hid hb2
        clear hfv hb2
        go_wp2_with fail
        refine (Restart_da HDA1.out HFB.out HFV.out rfl HRM.out (by rw [fateL_length, HND0.out]; omega)).mono ?_
        rintro e V3 ⟨rfl, hda3, hcg3⟩
        rw [HS1.out] at hda3
        have HDA3 := Lib.hid hda3
        have HSM3 := Lib.hid ((HSM.out.chg HKP1.out (fun h => h (.inl rfl))).chg hcg3 (fun h => h (.inl rfl)))
        have HBK3 := Lib.hid ((HBK.out.chg HKP1.out (fun h => h (.inr rfl))).chg hcg3 (fun h => h (.inr rfl)))
        clear hda3 hcg3 HDA1 HKP1 HFV HFB
        go_wp2_with fail
        refine (HSZ.out V3).mono ?_
        rintro e V4 ⟨rfl, hb4⟩
        have HDA4 := Lib.hid (HDA3.out.step hb4)
        have HSM4 := Lib.hid (HSM3.out.below hb4)
        have HBK4 := Lib.hid (HBK3.out.below hb4)
        have HX4 := Lib.hid (show ∀ k, (k = m ∨ k = g2) → k < V4.heap.size from fun k hk => hk.elim (fun e => e ▸ HSM4.out.lt) (fun e => e ▸ HBK4.out.lt))
        clear hb4 HDA3 HSM3 HBK3
        go_wp2_with fail
        refine (Open_da HDA4.out HX4.out HK.out 3 sz hs8.1 (by rw [HPL.out.2.2.2.2.2.1]; omega) HPL.out.2.2.2.2.1 y HPL.out.1 HPL.out.2.1 (Nat.le_trans HPL.out.2.2.1 (by decide)) HPL.out.2.2.2.1 HPL.out.2.2.2.2.2.2).mono ?_
        rintro e V5 ⟨hda5, hkp5, _, hop⟩
        obtain ⟨g3, N3, U6, lb, lbc, rfl, _, _, hnu6, _⟩ := hop rfl
        have HNU := Lib.hid hnu6
        rw [HJ4F.out.1, HJ4F.out.2.1, HJ4F.out.2.2] at HNU
        have HB5 := Lib.hid hda5.below
        have HSM5 := Lib.hid (HSM4.out.chg hkp5 (fun h => h (.inl rfl)))
        have HBK5 := Lib.hid (HBK4.out.chg hkp5 (fun h => h (.inr rfl)))
        rw [HJ4F.out.2.1]
        clear hop hda5 hkp5 hnu6 HDA4 HSM4 HBK4 HX4
        have hleI : ¬ (ny : Int) < (ne : Int) := by omega
        have hled : decide (ny < ne) = false := by simp; omega
        have hled2 : decide ((ny : Int) < (ne : Int)) = false := by simp; omega
        have HL0 := Lib.hid (Below.refl V5.heap.size V5)
        go_wp2_with fail
        clear hled hled2
        go_loopw [27] (fun iv wr => ∃ (i : Nat), i ≤ ny ∧ iv = .int .i64 (i : Int) ∧ Hid (Below V5.heap.size V5 wr)) (fun iv _ => ny - (intOf iv).toNat)
        case atStart => exact ⟨0, Nat.zero_le _, rfl, HL0⟩
        case round =>
          obtain ⟨i, hi2, rfl, HBR⟩ := hrel
          obtain ⟨Q0, rfl⟩ : ∃ Q0, Q0 = wr := ⟨_, rfl⟩
          clear HL0
          by_cases hlt : i < ny
          case neg =>
            obtain rfl : ny = i := by omega
            have HBQ := Lib.hid (HB5.out.trans (HBR.out.mono HB5.out.size))
            go_wp2_with fail
            exact bodyPost_ret (v := .bool true) (by simp [results, Tryd.results8, go_sem]) rfl ⟨rfl, HBQ.out⟩
          have hiI : (i : Int) < (ny : Int) := by omega
          have hiE : i < E4.length := by rw [HNY.out]; exact hlt
          obtain ⟨gl, u, e9, _, hgl, kn0, kn1, hbu⟩ := (HNU.out.below HBR.out).get hiE
          subst e9
          obtain ⟨ua, uc, rfl⟩ := hbu.form
          rw [Int.natCast_add] at kn0
          obtain ⟨X, hX⟩ : ∃ X, E4[i] = X := ⟨_, rfl⟩
          have hao := HALL.out i hiE
          rw [hX] at hao
          rw [hX] at kn1 hbu
          have hlook : (Instr.lookup 45 (.map (some m)) (.int .i64 ((fi : Int) + (i : Int))) true).run Tryd.prog Q0 = .ok (.tuple #[.string ⟨X.toArray⟩, .bool true]) Q0 := by
            have h1 := (HSM5.out.below HBR.out).look (fi + i) (by omega) true
            rw [hao, Int.natCast_add] at h1
            exact h1
          have HNC := Lib.hid (show ∀ w', Below Q0.heap.size Q0 w' → w'.cell? ⟨gl, i * 2, none⟩ = some (.int .i64 ((fi : Int) + (i : Int))) ∧ w'.cell? ⟨gl, i * 2 + 1, none⟩ = some (.slice ua X.length uc) ∧ (convert 36 9 (.slice ua X.length uc)).run Tryd.prog w' = .ok (.string ⟨X.toArray⟩) w' from fun w' hw' => ⟨(hw'.cell (p := ⟨gl, i * 2, none⟩) hgl).trans kn0, (hw'.cell (p := ⟨gl, i * 2 + 1, none⟩) hgl).trans kn1, (hbu.below hw').at_.str⟩)
          obtain ⟨xn, hxn⟩ : ∃ xn, X.length = xn := ⟨_, rfl⟩
          rw [hxn] at HNC
          clear kn1 hbu hao
          go_wp2_with fail
          refine wp_region_noPanic ?_
          refine wp_region_H (Below Q0.heap.size Q0) (by kernel_rfl) ?_
          have hS0 : (Below Q0.heap.size Q0) Q0.drew := ((Below.refl _ _).drew)
          obtain ⟨wd, hwd⟩ : ∃ wd, Q0.drew = wd := ⟨_, rfl⟩
          rw [hwd] at hS0 ⊢
          have hd0 : Below Q0.heap.size Q0 wd := hwd ▸ (Below.refl _ _).drew
          clear hwd
          refine wpAnyH_takeI (i := 0) (v := ?v78) rfl (by kernel_rfl) (by kernel_rfl) (by kernel_rfl) (fun _ _ _ h => h) (yieldsIf_run rfl (fun w' hw' => ?y78)) hS0 ?_
          case y78 => first | (go_simp; rfl) | (go_simp; done) | rfl
          simp only [Act.put, List.setIfInBounds_toArray, List.set_cons_zero, List.set_cons_succ]
          refine wpAnyH_takeI (i := 1) (v := ?v79) rfl (by kernel_rfl) (by kernel_rfl) (by kernel_rfl) (fun _ _ _ h => h) (yieldsIf_run rfl (fun w' hw' => ?y79)) hS0 ?_
          case y79 => first | (go_simp; rfl) | (go_simp; done) | rfl
          simp only [Act.put, List.setIfInBounds_toArray, List.set_cons_zero, List.set_cons_succ]
          refine wpAnyH_takeI (i := 2) (v := ?v80) rfl (by kernel_rfl) (by kernel_rfl) (by kernel_rfl) (fun _ _ _ h => h) (yieldsIf_run rfl (fun w' hw' => ?y80)) hS0 ?_
          case y80 => first | (go_simp; rfl) | (go_simp; done) | rfl
          simp only [Act.put, List.setIfInBounds_toArray, List.set_cons_zero, List.set_cons_succ]
          refine wpAnyH_takeI (i := 3) (v := ?v81) rfl (by kernel_rfl) (by kernel_rfl) (by kernel_rfl) (fun _ _ _ h => h) (yieldsIf_want rfl (fun w' hw' => ?y81)) hS0 ?_
          case y81 => first | (go_simp; rfl) | (go_simp; done) | rfl
          simp only [Act.put, List.setIfInBounds_toArray, List.set_cons_zero, List.set_cons_succ]
          refine wpAnyH_takeI (i := 4) (v := ?v82) rfl (by kernel_rfl) (by kernel_rfl) (by kernel_rfl) (fun _ _ _ h => h) (yieldsIf_want rfl (fun w' hw' => ?y82)) hS0 ?_
          case y82 => first | (go_simp; rfl) | (go_simp; done) | rfl
          simp only [Act.put, List.setIfInBounds_toArray, List.set_cons_zero, List.set_cons_succ]
          refine wpAnyH_takeI (i := 5) (v := ?v83) rfl (by kernel_rfl) (by kernel_rfl) (by kernel_rfl) (fun _ _ _ h => h) (yieldsIf_want rfl (fun w' hw' => ?y83)) hS0 ?_
          case y83 => first | (go_simp; rfl) | (go_simp; done) | rfl
          simp only [Act.put, List.setIfInBounds_toArray, List.set_cons_zero, List.set_cons_succ]
          refine wpAnyH_takeI (i := 6) (v := ?v84) rfl (by kernel_rfl) (by kernel_rfl) (by kernel_rfl) (fun _ _ _ h => h) (yieldsIf_want rfl (fun w' hw' => ?y84)) hS0 ?_
          case y84 => first | (go_simp; rfl) | (go_simp; done) | rfl
          simp only [Act.put, List.setIfInBounds_toArray, List.set_cons_zero, List.set_cons_succ]
          refine wpAnyH_takeI (i := 7) (v := ?v85) rfl (by kernel_rfl) (by kernel_rfl) (by kernel_rfl) (fun _ _ _ h => h) (yieldsIf_want rfl (fun w' hw' => ?y85)) hS0 ?_
          case y85 => (obtain ⟨h1, h2, h3⟩ := HNC.out w' hw'; clear hw'; first | (go_simp; rfl) | (go_simp; done))
          simp only [Act.put, List.setIfInBounds_toArray, List.set_cons_zero, List.set_cons_succ]
          refine wpAnyH_takeI (i := 8) (v := ?v86) rfl (by kernel_rfl) (by kernel_rfl) (by kernel_rfl) (fun _ _ _ h => h) (yieldsIf_want rfl (fun w' hw' => ?y86)) hS0 ?_
          case y86 => (obtain ⟨h1, h2, h3⟩ := HNC.out w' hw'; clear hw'; first | (go_simp; rfl) | (go_simp; done))
          simp only [Act.put, List.setIfInBounds_toArray, List.set_cons_zero, List.set_cons_succ]
          refine wpAnyH_takeI (i := 9) (v := ?v87) rfl (by kernel_rfl) (by kernel_rfl) (by kernel_rfl) (fun _ _ _ h => h) (yieldsIf_want rfl (fun w' hw' => ?y87)) hS0 ?_
          case y87 => first | (go_simp; rfl) | (go_simp; done) | rfl
          simp only [Act.put, List.setIfInBounds_toArray, List.set_cons_zero, List.set_cons_succ]
          refine wpAnyH_takeI (i := 10) (v := .bool false) rfl (by kernel_rfl) (by kernel_rfl) (by kernel_rfl) (fun _ _ _ h => h) (yieldsIf_want rfl (fun w' hw' => ?y88)) hS0 ?_
          case y88 => first | (go_simp; rfl) | (go_simp; done) | rfl
          simp only [Act.put, List.setIfInBounds_toArray, List.set_cons_zero, List.set_cons_succ]
          refine wpAnyH_takeI (i := 11) (v := ?v89) rfl (by kernel_rfl) (by kernel_rfl) (by kernel_rfl) (fun _ _ _ h => h) (yieldsIf_run rfl (fun w' hw' => ?y89)) hS0 ?_
          case y89 => first | (go_simp; rfl) | (go_simp; done) | rfl
          simp only [Act.put, List.setIfInBounds_toArray, List.set_cons_zero, List.set_cons_succ]
          refine wpAnyH_takeI (i := 12) (v := ?v90) rfl (by kernel_rfl) (by kernel_rfl) (by kernel_rfl) (fun _ _ _ h => h) (yieldsIf_run rfl (fun w' hw' => ?y90)) hS0 ?_
          case y90 => first | (go_simp; rfl) | (go_simp; done) | rfl
          simp only [Act.put, List.setIfInBounds_toArray, List.set_cons_zero, List.set_cons_succ]
          refine wpAnyH_takeI (i := 13) (v := ?v91) rfl (by kernel_rfl) (by kernel_rfl) (by kernel_rfl) (fun _ _ _ h => h) (yieldsIf_want rfl (fun w' hw' => ?y91)) hS0 ?_
          case y91 => first | (go_simp; rfl) | (go_simp; done) | rfl
          simp only [Act.put, List.setIfInBounds_toArray, List.set_cons_zero, List.set_cons_succ]
          refine wpAnyH_takeI (i := 14) (v := ?v92) rfl (by kernel_rfl) (by kernel_rfl) (by kernel_rfl) (fun _ _ _ h => h) (yieldsIf_want rfl (fun w' hw' => ?y92)) hS0 ?_
          case y92 => first | (go_simp; rfl) | (go_simp; done) | rfl
          simp only [Act.put, List.setIfInBounds_toArray, List.set_cons_zero, List.set_cons_succ]
          refine wpAnyH_takeI (i := 15) (v := ?v93) rfl (by kernel_rfl) (by kernel_rfl) (by kernel_rfl) (fun _ _ _ h => h) (yieldsIf_want rfl (fun w' hw' => ?y93)) hS0 ?_
          case y93 => first | (go_simp; rfl) | (go_simp; done) | rfl
          simp only [Act.put, List.setIfInBounds_toArray, List.set_cons_zero, List.set_cons_succ]
          refine wpAnyH_takeI (i := 16) (v := ?v94) rfl (by kernel_rfl) (by kernel_rfl) (by kernel_rfl) (fun _ _ _ h => h) (yieldsIf_want rfl (fun w' hw' => ?y94)) hS0 ?_
          case y94 => first | (go_simp; rfl) | (go_simp; done) | rfl
          simp only [Act.put, List.setIfInBounds_toArray, List.set_cons_zero, List.set_cons_succ]
          refine wpAnyH_takeI (i := 17) (v := ?v95) rfl (by kernel_rfl) (by kernel_rfl) (by kernel_rfl) (fun _ _ _ h => h) (yieldsIf_want rfl (fun w' hw' => ?y95)) hS0 ?_
          case y95 => (obtain ⟨h1, h2, h3⟩ := HNC.out w' hw'; clear hw'; first | (go_simp; rfl) | (go_simp; done))
          simp only [Act.put, List.setIfInBounds_toArray, List.set_cons_zero, List.set_cons_succ]
          refine wpAnyH_takeI (i := 18) (v := ?v96) rfl (by kernel_rfl) (by kernel_rfl) (by kernel_rfl) (fun _ _ _ h => h) (yieldsIf_want rfl (fun w' hw' => ?y96)) hS0 ?_
          case y96 => first | (go_simp; rfl) | (go_simp; done) | rfl
          simp only [Act.put, List.setIfInBounds_toArray, List.set_cons_zero, List.set_cons_succ]
          refine wpAnyH_takeI (i := 20) (v := ?v97) rfl (by kernel_rfl) (by kernel_rfl) (by kernel_rfl) (fun _ _ _ h => h) (yieldsIf_want rfl (fun w' hw' => ?y97)) hS0 ?_
          case y97 => first | (go_simp; rfl) | (go_simp; done) | rfl
          simp only [Act.put, List.setIfInBounds_toArray, List.set_cons_zero, List.set_cons_succ]
          refine wpAnyH_want (i := 19) (by kernel_rfl) rfl rfl (fun K hK => ?_)
          go_simp
          go_at_call 21
          refine (JFirst_any (HBK5.out.below (HBR.out.trans (hS0.mono HBR.out.size)))).mono ?_
          rintro e Q1 ⟨rfl, hb1⟩
          rw [HJF.out]
          have hq1 := hS0.trans (hb1.mono hS0.size)
          refine hK _ _ (hq1) ?_
          clear hK K
          try simp only [Act.put, List.setIfInBounds_toArray, List.set_cons_zero, List.set_cons_succ]
          refine wpAnyH_takeI (i := 21) (v := .int .i64 ((fi : Int) + (i : Int))) rfl (by kernel_rfl) (by kernel_rfl) (by kernel_rfl) (fun _ _ _ h => h) (yieldsIf_want rfl (fun w' hw' => ?y98)) hq1 ?_
          case y98 => (have hwr : IntKind.i64.wrap ((fi : Int) + (i : Int)) = (fi : Int) + (i : Int) := IntWalk.i64_in _ (by omega); clear hw'; first | (go_simp; rfl) | (go_simp; done))
          simp only [Act.put, List.setIfInBounds_toArray, List.set_cons_zero, List.set_cons_succ]
          refine wpAnyH_takeI (i := 22) (v := .bool false) rfl (by kernel_rfl) (by kernel_rfl) (by kernel_rfl) (fun _ _ _ h => h) (yieldsIf_want rfl (fun w' hw' => ?y99)) hq1 ?_
          case y99 => first | (go_simp; rfl) | (go_simp; done) | rfl
          simp only [Act.put, List.setIfInBounds_toArray, List.set_cons_zero, List.set_cons_succ]
          refine wpAnyH_takeI (i := 23) (v := ?v100) rfl (by kernel_rfl) (by kernel_rfl) (by kernel_rfl) (fun _ _ _ h => h) (yieldsIf_run rfl (fun w' hw' => ?y100)) hq1 ?_
          case y100 => first | (go_simp; rfl) | (go_simp; done) | rfl
          simp only [Act.put, List.setIfInBounds_toArray, List.set_cons_zero, List.set_cons_succ]
          refine wpAnyH_done (by kernel_rfl) ?_ _
          refine NoPanic.normal ?_
          have HBR2 := Lib.hid (HBR.out.trans ((hd0.trans (hb1.mono hd0.size)).mono HBR.out.size))
          clear hb1 hd0 hq1 hS0 kn0 hlook
          go_wp2_with fail
          go_roundw
          case rel => exact ⟨i + 1, by omega, by go_num, HBR2⟩
          case measure => simp [intOf] <;> omega
end Go.Proofs.YtplclpileejemaaDoor
