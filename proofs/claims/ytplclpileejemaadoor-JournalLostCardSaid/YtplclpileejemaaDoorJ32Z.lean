/- The law JournalEntries. -/
import Derived.Test.YtplclpileejemaaDoorJ31Z
namespace Go.Proofs.YtplclpileejemaaDoor
open Go.RowKit
set_option linter.unusedVariables false
set_option linter.unusedSimpArgs false

theorem Ok.up {S : DS} {R : JR} {J : JD} {t : Nat} (h : Ok S R J t) : Ok S R J (t + 1) := ⟨h.ji, h.lim, by have := h.gen; omega, by have := h.nx; omega, h.room.less (by omega)⟩
/-- A step without a limit. -/
theorem Ok.step {S : DS} {R : JR} {J : JD} {t : Nat} (h : Ok S R J t) (ht : t ≤ 1000) (hm : S.dur.length ≤ 4096) (o : JOp) :
    Ok (stepJ S R J o).1 R (stepJ S R J o).2.1 (t + 1) ∧ (stepJ S R J o).1.dur.length = S.dur.length ∧
    ((o.kind % 3 = 0 ∧ (stepJ S R J o).2.2 = 0 ∧ (stepJ S R J o).2.1.ents = J.ents ++ [lawB o.n o.b] ∧ (stepJ S R J o).2.1.first = J.first) ∨
     (¬ (o.kind % 3 = 0 ∧ (stepJ S R J o).2.2 = 0) ∧ ∃ k, k ≤ J.ents.length ∧ (stepJ S R J o).2.1.ents = J.ents.drop k ∧ (stepJ S R J o).2.1.first = J.first + k)) := by
  unfold stepJ
  by_cases h0 : o.kind % 3 = 0
  · rw [if_pos h0]
    rcases h.app (b := lawB o.n o.b) ht (by rw [lawB_length]; omega) with ⟨h1, _⟩ | ⟨S', h1, h2, h3, _⟩
    · rw [h1]
      exact ⟨h.up, rfl, .inr ⟨fun h9 => by have h8 : (9 : Int) = 0 := h9.2; omega, 0, Nat.zero_le _, rfl, rfl⟩⟩
    · rw [h1]
      exact ⟨h2, h3, .inl ⟨h0, rfl, rfl, rfl⟩⟩
  · rw [if_neg h0]
    by_cases h1 : o.kind % 3 = 1
    · rw [if_pos h1]
      obtain ⟨S', k1, k2, k3⟩ := h.syn ht
      rw [k1]
      exact ⟨k2, k3, .inr ⟨fun h9 => h0 h9.1, 0, Nat.zero_le _, rfl, rfl⟩⟩
    · rw [if_neg h1]
      rcases h.trn ht hm ((J.first : Int) + ((o.n % 12 : Nat) : Int) - 2) with ⟨k1, _⟩ | ⟨k1, _⟩ | ⟨S', k, _, _, kn, k1, k2, k3⟩
      · rw [k1]; exact ⟨h.up, rfl, .inr ⟨fun h9 => h0 h9.1, 0, Nat.zero_le _, rfl, rfl⟩⟩
      · rw [k1]; exact ⟨h.up, rfl, .inr ⟨fun h9 => h0 h9.1, 0, Nat.zero_le _, rfl, rfl⟩⟩
      · rw [k1]; exact ⟨k2, k3, .inr ⟨fun h9 => h0 h9.1, k, kn, rfl, rfl⟩⟩
/-- Each entry is noted. -/
def AllOk (f : Nat → Option (List UInt8)) (J : JD) : Prop := ∀ k (h : k < J.ents.length), f (J.first + k) = some J.ents[k]
theorem AllOk.add {f : Nat → Option (List UInt8)} {J J' : JD} {l : List UInt8} (h : AllOk f J) (he : J'.ents = J.ents ++ [l]) (hf : J'.first = J.first) : AllOk (fun x => if x = J.next then some l else f x) J' := fun k hk => by
  obtain ⟨g, u, fi, E, sy, fa⟩ := J'
  simp only at he hf hk ⊢
  subst he hf
  unfold JD.next
  rw [List.length_append, List.length_singleton] at hk
  by_cases e : k = J.ents.length
  · subst e
    rw [if_pos rfl]
    simp
  · rw [if_neg (by omega), List.getElem_append_left (by omega)]
    exact h k (by omega)
theorem AllOk.cut {f : Nat → Option (List UInt8)} {J J' : JD} {k : Nat} (h : AllOk f J) (he : J'.ents = J.ents.drop k) (hf : J'.first = J.first + k) : AllOk f J' := fun i hi => by
  obtain ⟨g, u, fi, E, sy, fa⟩ := J'
  simp only at he hf hi ⊢
  subst he hf
  rw [List.length_drop] at hi
  rw [List.getElem_drop, Nat.add_assoc]
  exact h (k + i) (by omega)
/-- What an open of a journal's device finds. -/
theorem Ok.open {S : DS} {R : JR} {J : JD} {t : Nat} (h : Ok S R J t) (ht : t ≤ 1000) (hm : S.dur.length ≤ 4096) : currL S R = some ⟨J.gen, J.first, J.ents⟩ ∧ JLim (nextG (1 - J.gen % 2) (secL S R.at_ R.cnt)) J.first J.ents.length J.ents ∧ sizeE J.ents ≤ 5000 ∧ Roomy S 10000 ∧ S.down = false ∧ (moveJ S R (1 - J.gen % 2) J.first J.ents).2.1 = 0 ∧ R.at_ + R.cnt ≤ S.dur.length := by
  obtain ⟨c, hc⟩ := h.ji
  have h1 := h.gen
  have h2 := h.nx
  have hm0 := hc.mov (k := 0) (Nat.zero_le _) (by omega) (by omega)
  rw [Nat.add_zero, List.drop_zero] at hm0
  have hn := h.num hm ht
  exact ⟨hc.curr, hm0.lim, hn.sz, hn.room, hc.down, (moveJ_nolim hm0 h.lim hc.down).1, hc.rng⟩
set_option maxRecDepth 100000 in
set_option maxHeartbeats 2000000 in
theorem JournalEntries_any {w : World} (hK : KAt w) (sd : Nat) (hs : sd < 256) {va : Option Addr} {vc : Nat} {L : List JOp} (hv : JOpsAt w (.slice va L.length vc) L) : Calls Tryd.prog 5 #[.int .u8 (sd : Int), .slice va L.length vc] w fun e w' => e = .returned (.bool true) ∧ Below w.heap.size w w' := by
  have HKN := Lib.hid (fun (V : World) (hV : Below w.heap.size w V) => known_any (KAt.below hK hV hK.size))
  have HK := Lib.hid hK
  have hK0 := hK.size
  obtain ⟨sz, hsz⟩ : ∃ sz, 8 + sd % 36 = sz := ⟨_, rfl⟩
  have hs8 : 8 ≤ sz ∧ sz ≤ 43 := by omega
  have HSZ := Lib.hid (fun w1 : World => size_any (w := w1) sd hs)
  rw [hsz] at HSZ
  obtain ⟨hlim0, S1, S2, s1, s2, s3, s4, s5, s6, s7, s8, s9, s10, s11⟩ := start_ok (S := newDS 48) (R := ⟨3, sz⟩) (newDS_blank (by show 3 + sz ≤ 48; omega)) rfl rfl hs8.1 (by show 3 + sz ≤ (List.replicate 48 zeros).length; rw [List.length_replicate]; omega) ⟨by show 0 + 999995000 ≤ _; omega, by show 0 + 999995000 ≤ _; omega, by show 0 ≤ _; omega⟩
  have hl48 : (newDS 48).dur.length = 48 := List.length_replicate ..
  rw [hl48] at s3 s10
  have HST := Lib.hid (show JLim (nextG 0 (secL (newDS 48) 3 sz)) 0 0 [] ∧ (moveJ (newDS 48) ⟨3, sz⟩ 0 0 []).1 = S1 ∧ (moveJ (newDS 48) ⟨3, sz⟩ 0 0 []).2.1 = 0 from ⟨hlim0, s1, s2⟩)
  have HOP := Lib.hid (show S1.dur.length = 48 ∧ S1.down = false ∧ Roomy S1 999994000 ∧ currL S1 ⟨3, sz⟩ = some ⟨0, 0, []⟩ ∧ JLim (nextG (1 - (0 : Nat) % 2) (secL S1 3 sz)) 0 ([] : List (List UInt8)).length [] ∧ moveJ S1 ⟨3, sz⟩ (1 - (0 : Nat) % 2) 0 [] = (S2, 0, ⟨1, 1, 0, [], 0, 0⟩) from ⟨s3, s4, s6, s7, s8, s9⟩)
  obtain ⟨J1, hJ1⟩ : ∃ J1, (⟨1, 1, 0, [], 0, 0⟩ : JD) = J1 := ⟨_, rfl⟩
  have HJL := Lib.hid (show J1.ents.length = 0 by rw [← hJ1]; rfl)
  have HJE := Lib.hid (show J1.ents = [] ∧ J1.first = 0 ∧ J1.synced = 0 by rw [← hJ1]; exact ⟨rfl, rfl, rfl⟩)
  rw [hJ1] at HOP s11
  have HOK1 := Lib.hid s11
  have HS2 := Lib.hid s10
  clear s1 s2 s3 s4 s5 s6 s7 s8 s9 s10 s11 hlim0 hl48 hJ1 hK hsz
  have HV := Lib.hid hv
  have HFI := Lib.hid (fun (V : World) (hV : Below w.heap.size w V) => fits_any (hv.below hV))
  obtain ⟨n, hn⟩ : ∃ n, L.length = n := ⟨_, rfl⟩
  have HN := Lib.hid hn
  have hnm : n ≤ 9223372036854775807 := by
    obtain ⟨a', c', e, h1, h2, _⟩ := hv
    unfold maxLen at h2
    omega
  rw [hn] at HV HFI ⊢
  obtain ⟨fb, hfb⟩ : ∃ fb, fitsB L = fb := ⟨_, rfl⟩
  rw [hfb] at HFI
  have HFB := Lib.hid hfb
  clear hv hn hfb
  go_enter Tryd.func5, Tryd.ntmps5
  go_wp2_with fail
  refine (HKN.out w (Below.refl _ _)).mono ?_
  rintro e V0 ⟨rfl, hb0⟩
  have HBV0 := Lib.hid hb0
  clear hb0
  go_wp2_with fail
  refine (HFI.out V0 HBV0.out).mono ?_
  rintro e W0 ⟨rfl, hb0⟩
  have HBW0 := Lib.hid (HBV0.out.trans (hb0.mono HBV0.out.size))
  clear hb0
  cases fb with
  | false =>
    go_wp2_with fail
    refine (HKN.out W0 HBW0.out).mono ?_
    rintro e W9 ⟨rfl, hb9⟩
    have HB9 := Lib.hid (HBW0.out.trans (hb9.mono HBW0.out.size))
    go_wp2_with fail
    exact bodyPost_ret (v := .bool true) (by simp [results, Tryd.results5, go_sem]) rfl ⟨rfl, HB9.out⟩
  | true =>
  have hn30 : n ≤ 30 := by
    have h1 := HFB.out
    unfold fitsB at h1
    rw [Bool.and_eq_true] at h1
    have h2 := of_decide_eq_true h1.2
    rw [HN.out] at h2
    exact h2
  go_wp2_with fail
  refine (New_good 48 W0 (by omega) (by omega)).mono ?_
  rintro e W1 ⟨rfl, hd1, hb1⟩
  obtain ⟨b, hbE⟩ : ∃ b, W0.heap.size + 1 = b := ⟨_, rfl⟩
  rw [hbE] at hd1 ⊢
  have HB1 := Lib.hid (HBW0.out.trans (hb1.mono HBW0.out.size))
  have HD1 := Lib.hid (hd1.mono (G := fun k => w.heap.size ≤ k) (fun k h => Nat.le_trans HBW0.out.size h))
  clear hbE hb1 hd1
  go_wp2_with fail
  refine (HSZ.out W1).mono ?_
  rintro e W1a ⟨rfl, hb⟩
  have HB1a := Lib.hid (HB1.out.trans (hb.mono HB1.out.size))
  have HD1a := Lib.hid (HD1.out.below hb)
  clear hb
  go_wp2_with fail
  refine (JFormat_z HD1a.out (KAt.below HK.out HB1a.out hK0) (by omega) 3 sz hs8.1 (by show 3 + sz ≤ (List.replicate 48 zeros).length; rw [List.length_replicate]; omega) rfl HST.out.1 ⟨by show 0 + 2 ≤ _; omega, by show 0 + 2 ≤ _; omega, by show 0 ≤ _; omega⟩ HST.out.2.1 HST.out.2.2).mono ?_
  rintro e W2 ⟨rfl, hd2, hc2⟩
  have HB2 := Lib.hid (HB1a.out.trans (hc2.below (fun k e => e) HB1a.out.size))
  have HD2 := Lib.hid (hd2.mono (G := fun k => w.heap.size ≤ k) (fun k h => h.elim id (fun h2 => Nat.le_trans HB1a.out.size h2)))
  clear hd2 hc2
  go_wp2_with fail
  refine (HSZ.out W2).mono ?_
  rintro e W2a ⟨rfl, hb⟩
  have HB2a := Lib.hid (HB2.out.trans (hb.mono HB2.out.size))
  have HD2a := Lib.hid (HD2.out.below hb)
  clear hb
  go_wp2_with fail
  refine (JOpen_z HB2a.out HD2a.out HK.out (fun k e => e) 3 sz hs8.1 (by rw [HOP.out.1]; omega) HOP.out.2.1 ⟨0, 0, []⟩ HOP.out.2.2.2.1 HOP.out.2.2.2.2.1 (by decide) (HOP.out.2.2.1.less (by decide)) HOP.out.2.2.2.2.2).mono ?_
  rintro e W3 ⟨g, N, la, lc, rfl, hj, _, _, _⟩
  rw [HJL.out]
  obtain ⟨U3, hj3, hU3⟩ := hj.ja
  have HJA3 := Lib.hid hj3
  have HBW3 := Lib.hid hj3.below
  have HU3 := Lib.hid hU3
  obtain ⟨R, hR⟩ : ∃ R : JR, (⟨3, sz⟩ : JR) = R := ⟨_, rfl⟩
  rw [hR] at HJA3 HOK1
  have HRE := Lib.hid hR
  have hmm := @run_makeMap Tryd.prog
  obtain ⟨W4, hW4⟩ : ∃ W4, W3.alloc (.map #[] 0) = W4 := ⟨_, rfl⟩
  have HW4 := Lib.hid hW4
  have hb4 : Below W3.heap.size W3 W4 := hW4 ▸ (Below.refl _ _).alloc (Nat.le_refl _) _
  obtain ⟨m, hm⟩ : ∃ m, W3.heap.size = m := ⟨_, rfl⟩
  have HSM4 := Lib.hid (show SMap W4 m (fun _ => none) by rw [← hm, ← hW4]; exact SMap.new W3)
  have HJA4 := Lib.hid (HJA3.out.step hb4)
  have HUL4 := Lib.hid (show ∀ k, U3 k → k < W4.heap.size from fun k hk => Nat.lt_of_lt_of_le (HU3.out k hk) hb4.size)
  have HUM4 := Lib.hid (show ¬ U3 m from fun h => by have := HU3.out m h; omega)
  have HMW := Lib.hid (show w.heap.size ≤ m by rw [← hm]; exact HBW3.out.size)
  have HAO4 := Lib.hid (show AllOk (fun _ => none) J1 from fun k hk => by rw [HJL.out] at hk; omega)
  clear hj hj3 hU3 hR hW4 hb4 HST HOP
  go_wp2_with fail
  rw [HW4.out]
  try rw [hm]
  clear hm
  go_loopw [10] (fun iv wr => ∃ (i : Nat) (S : DS) (J : JD) (fm : Nat → Option (List UInt8)) (U : Nat → Prop), i ≤ n ∧ iv = .int .i64 (i : Int) ∧ Hid (Ok S R J (i + 1)) ∧ S.dur.length = 48 ∧ Hid (JAll w wr U b g S R J) ∧ Hid (∀ k, U k → k < wr.heap.size) ∧ Hid (¬ U m) ∧ Hid (SMap wr m fm) ∧ Hid (AllOk fm J)) (fun iv _ => n - (intOf iv).toNat)
  case atStart => exact ⟨0, S2, J1, _, U3, Nat.zero_le _, rfl, HOK1, HS2.out, HJA4, HUL4, HUM4, HSM4, HAO4⟩
  case round =>
    obtain ⟨i, S, J, fm, U, hi, rfl, HOK, hdl, HJA, HUL, HUM, HSM, HAO⟩ := hrel
    obtain ⟨V0, rfl⟩ : ∃ V0, V0 = wr := ⟨_, rfl⟩
    clear HOK1 HJA4 HUL4 HUM4 HSM4 HAO4 HJA3
    have HNM := Lib.hid (HOK.out.num (by omega) (by omega))
    have HVV := Lib.hid (HV.out.below HJA.out.below)
    by_cases hlt : i < n
    case neg =>
      obtain rfl : n = i := by omega
      have hRR := HRE.out
      subst hRR
      obtain ⟨o1, o2, o3, o4, o5, o6, o7⟩ := HOK.out.open (by omega) (by omega)
      obtain ⟨F, G, hst, hFU, hGU⟩ := HJA.out.st
      obtain ⟨ev, hblk, hents⟩ := hst.mem
      obtain ⟨ea, ec, rfl⟩ := hents.form
      have hfn := HNM.out.nx
      have HOP1 := Lib.hid (fun (V : World) (hV : Below V0.heap.size V0 V) => JOpen_any (hst.dev.below hV) (KAt.below HK.out (HJA.out.below.trans (hV.mono HJA.out.below.size)) hK0) (fun e => by have h1 := HJA.out.lo _ (hFU _ e); omega) 3 sz hs8.1 o7 o5 ⟨J.gen, J.first, J.ents⟩ o1 o2 (Nat.le_trans o3 (by omega)) (o4.less (by show sizeE J.ents + 1 ≤ _; omega)))
      obtain ⟨z, hz⟩ : ∃ z, moveJ S ⟨3, sz⟩ (1 - J.gen % 2) J.first J.ents = z := ⟨_, rfl⟩
      have HOP2 := Lib.hid (show ∀ V, Below V0.heap.size V0 V → Calls Tryd.prog 14 #[.pointer (some ⟨b, 0, none⟩), .int .i64 ((3 : Nat) : Int), .int .i64 (sz : Int)] V (OpenPost V F b ⟨3, sz⟩ z) from fun V hV => by rw [← hz]; exact HOP1.out V hV)
      have h00 : z.2.1 = 0 := by rw [← hz]; exact o6
      have HZF := Lib.hid (show z.2.2.first = J.first ∧ z.2.2.ents = J.ents by rw [← hz]; exact moveJ_first _ _ _ _ _ o6)
      have HBK := Lib.hid hblk
      have HFg := Lib.hid hst.fg
      have HFm := Lib.hid (show ¬ F m from fun h => HUM.out (hFU m h))
      have HFl := Lib.hid (show ∀ k, F k → w.heap.size ≤ k from fun k h => HJA.out.lo k (hFU k h))
      have HBV := Lib.hid HJA.out.below
      obtain ⟨ne, hne⟩ : ∃ ne, J.ents.length = ne := ⟨_, rfl⟩
      obtain ⟨fi, hfi⟩ : ∃ fi, J.first = fi := ⟨_, rfl⟩
      have HNE := Lib.hid hne
      have HFI2 := Lib.hid hfi
      rw [hne] at HBK hfn
      rw [hfi] at hfn
      clear o1 o2 o3 o4 o5 o6 o7 hst hblk hents hFU hGU hz HOP1 hne hfi
      go_wp2_with fail
      refine (HSZ.out V0).mono ?_
      rintro e V1 ⟨rfl, hb⟩
      have HBV1 := Lib.hid hb
      clear hb
      go_wp2_with fail
      refine (HOP2.out V1 HBV1.out).mono ?_
      rintro e V2 ⟨F', _, _, hcF, _, h4⟩
      obtain ⟨g2, G2, N2, ev2, lv, rfl, _, _, hblk2, hents2, _, hnums, _⟩ := h4 h00
      obtain ⟨ea2, ec2, rfl⟩ := hents2.form
      obtain ⟨lla, llc, rfl⟩ := hnums.form
      have HB2 := Lib.hid (HBV.out.trans ((HBV1.out.mono HBV.out.size).trans (hcF.below HFl.out (Nat.le_trans HBV.out.size HBV1.out.size))))
      have HKJ := Lib.hid ((HBK.out.below HBV1.out).chg hcF HFg.out)
      have HKK := Lib.hid hblk2
      have HSM2 := Lib.hid ((HSM.out.below HBV1.out).chg hcF HFm.out)
      have HNU := Lib.hid hnums
      obtain ⟨zS, ze, zJ⟩ := z
      simp only at HKK HNU HZF ⊢
      rw [HZF.out.2, HNE.out] at HKK
      rw [HZF.out.2, HZF.out.1, HFI2.out] at HNU
      simp only [HZF.out.2, HNE.out] at HNU ⊢
      clear hblk2 hents2 hnums h4 hcF h00
      have HXB2 := Lib.hid (Below.refl V2.heap.size V2)
      go_wp2_with fail
      refine (JFirst_any (HKK.out.below HXB2.out)).mono ?_
      rintro e Y1 ⟨rfl, hb⟩
      rw [HZF.out.1, HFI2.out]
      have HXY1 := Lib.hid (HXB2.out.trans (hb.mono HXB2.out.size))
      clear hb
      go_wp2_with fail
      refine (JFirst_any (HKJ.out.below HXY1.out)).mono ?_
      rintro e Y2 ⟨rfl, hb⟩
      rw [HFI2.out]
      have HXY2 := Lib.hid (HXY1.out.trans (hb.mono HXY1.out.size))
      clear hb
      go_wp2_with fail
      refine (JNext_any (HKK.out.below HXY2.out) (by rw [HZF.out.1]; rw [HFI2.out]; omega)).mono ?_
      rintro e Y3 ⟨rfl, hb⟩
      rw [HZF.out.1, HFI2.out]
      have HXY3 := Lib.hid (HXY2.out.trans (hb.mono HXY2.out.size))
      clear hb
      go_wp2_with fail
      refine (JNext_any (HKJ.out.below HXY3.out) (by rw [HFI2.out]; omega)).mono ?_
      rintro e Y4 ⟨rfl, hb⟩
      rw [HFI2.out]
      have HXY4 := Lib.hid (HXY3.out.trans (hb.mono HXY3.out.size))
      clear hb
      go_wp2_with fail
      refine (JNext_any (HKJ.out.below HXY4.out) (by rw [HFI2.out]; omega)).mono ?_
      rintro e Y5 ⟨rfl, hb⟩
      rw [HFI2.out]
      have HXY5 := Lib.hid (HXY4.out.trans (hb.mono HXY4.out.size))
      clear hb
      go_wp2_with fail
      refine (JFirst_any (HKJ.out.below HXY5.out)).mono ?_
      rintro e Y6 ⟨rfl, hb⟩
      rw [HFI2.out]
      have HXY6 := Lib.hid (HXY5.out.trans (hb.mono HXY5.out.size))
      clear hb
      have hsub : (fi : Int) + (ne : Int) - (fi : Int) = (ne : Int) := by omega
      have HL0 := Lib.hid (Below.refl Y6.heap.size Y6)
      go_wp2_with fail
      go_loopw [16] (fun iv wr => ∃ (i : Nat), i ≤ ne ∧ iv = .int .i64 (i : Int) ∧ Hid (Below Y6.heap.size Y6 wr)) (fun iv _ => ne - (intOf iv).toNat)
      case atStart => exact ⟨0, Nat.zero_le _, rfl, HL0⟩
      case round =>
        obtain ⟨i, hi2, rfl, HBR⟩ := hrel
        obtain ⟨Q0, rfl⟩ : ∃ Q0, Q0 = wr := ⟨_, rfl⟩
        clear HL0
        have HXQ := Lib.hid (HXY6.out.trans (HBR.out.mono HXY6.out.size))
        by_cases hlt : i < ne
        case neg =>
          obtain rfl : ne = i := by omega
          have HBQ := Lib.hid (HB2.out.trans (HXQ.out.mono HB2.out.size))
          go_wp2_with fail
          exact bodyPost_ret (v := .bool true) (by simp [results, Tryd.results5, go_sem]) rfl ⟨rfl, HBQ.out⟩
        have hiI : (i : Int) < (ne : Int) := by omega
        have hiE : i < J.ents.length := by rw [HNE.out]; exact hlt
        obtain ⟨gl, u, e9, _, hgl, kn0, kn1, hbu⟩ := (HNU.out.below HXQ.out).get hiE
        subst e9
        obtain ⟨ua, uc, rfl⟩ := hbu.form
        rw [Int.natCast_add] at kn0
        obtain ⟨X, hX⟩ : ∃ X, J.ents[i] = X := ⟨_, rfl⟩
        have hao := HAO.out i hiE
        rw [hX, HFI2.out] at hao
        rw [hX] at kn1 hbu
        have HNC := Lib.hid (show ∀ w', Below Q0.heap.size Q0 w' → w'.cell? ⟨gl, i * 2, none⟩ = some (.int .i64 ((fi : Int) + (i : Int))) ∧ w'.cell? ⟨gl, i * 2 + 1, none⟩ = some (.slice ua X.length uc) ∧ (convert 36 9 (.slice ua X.length uc)).run Tryd.prog w' = .ok (.string ⟨X.toArray⟩) w' ∧ (Instr.lookup 45 (.map (some m)) (.int .i64 ((fi : Int) + (i : Int))) false).run Tryd.prog w' = .ok (.string ⟨X.toArray⟩) w' from fun w' hw' => by
          refine ⟨(hw'.cell (p := ⟨gl, i * 2, none⟩) hgl).trans kn0, (hw'.cell (p := ⟨gl, i * 2 + 1, none⟩) hgl).trans kn1, (hbu.below hw').at_.str, ?_⟩
          have h1 := ((HSM2.out.below HXQ.out).below hw').look (fi + i) (by omega) false
          rw [hao, Int.natCast_add] at h1
          exact h1)
        obtain ⟨xn, hxn⟩ : ∃ xn, X.length = xn := ⟨_, rfl⟩
        rw [hxn] at HNC
        go_wp2_with fail
        refine wp_region_noPanic ?_
        refine wp_region_H (Below Q0.heap.size Q0) (by kernel_rfl) ?_
        have hS0 : (Below Q0.heap.size Q0) Q0.drew := ((Below.refl _ _).drew)
        obtain ⟨wd, hwd⟩ : ∃ wd, Q0.drew = wd := ⟨_, rfl⟩
        rw [hwd] at hS0 ⊢
        have hd0 : Below Q0.heap.size Q0 wd := hwd ▸ (Below.refl _ _).drew
        clear hwd
        refine wpAnyH_takeI (i := 0) (v := ?v1) rfl (by kernel_rfl) (by kernel_rfl) (by kernel_rfl) (fun _ _ _ h => h) (yieldsIf_run rfl (fun w' hw' => ?y1)) hS0 ?_
        case y1 => first | (go_simp; rfl) | (go_simp; done) | rfl
        simp only [Act.put, List.setIfInBounds_toArray, List.set_cons_zero, List.set_cons_succ]
        refine wpAnyH_takeI (i := 1) (v := ?v2) rfl (by kernel_rfl) (by kernel_rfl) (by kernel_rfl) (fun _ _ _ h => h) (yieldsIf_run rfl (fun w' hw' => ?y2)) hS0 ?_
        case y2 => first | (go_simp; rfl) | (go_simp; done) | rfl
        simp only [Act.put, List.setIfInBounds_toArray, List.set_cons_zero, List.set_cons_succ]
        refine wpAnyH_takeI (i := 2) (v := ?v3) rfl (by kernel_rfl) (by kernel_rfl) (by kernel_rfl) (fun _ _ _ h => h) (yieldsIf_run rfl (fun w' hw' => ?y3)) hS0 ?_
        case y3 => first | (go_simp; rfl) | (go_simp; done) | rfl
        simp only [Act.put, List.setIfInBounds_toArray, List.set_cons_zero, List.set_cons_succ]
        refine wpAnyH_takeI (i := 3) (v := ?v4) rfl (by kernel_rfl) (by kernel_rfl) (by kernel_rfl) (fun _ _ _ h => h) (yieldsIf_run rfl (fun w' hw' => ?y4)) hS0 ?_
        case y4 => first | (go_simp; rfl) | (go_simp; done) | rfl
        simp only [Act.put, List.setIfInBounds_toArray, List.set_cons_zero, List.set_cons_succ]
        refine wpAnyH_takeI (i := 4) (v := ?v5) rfl (by kernel_rfl) (by kernel_rfl) (by kernel_rfl) (fun _ _ _ h => h) (yieldsIf_run rfl (fun w' hw' => ?y5)) hS0 ?_
        case y5 => (obtain ⟨h1, h2, h3, h4⟩ := HNC.out w' hw'; clear hw'; first | (go_simp; rfl) | (go_simp; done))
        simp only [Act.put, List.setIfInBounds_toArray, List.set_cons_zero, List.set_cons_succ]
        refine wpAnyH_takeI (i := 5) (v := ?v6) rfl (by kernel_rfl) (by kernel_rfl) (by kernel_rfl) (fun _ _ _ h => h) (yieldsIf_run rfl (fun w' hw' => ?y6)) hS0 ?_
        case y6 => first | (go_simp; rfl) | (go_simp; done) | rfl
        simp only [Act.put, List.setIfInBounds_toArray, List.set_cons_zero, List.set_cons_succ]
        refine wpAnyH_takeI (i := 7) (v := ?v7) rfl (by kernel_rfl) (by kernel_rfl) (by kernel_rfl) (fun _ _ _ h => h) (yieldsIf_run rfl (fun w' hw' => ?y7)) hS0 ?_
        case y7 => first | (go_simp; rfl) | (go_simp; done) | rfl
        simp only [Act.put, List.setIfInBounds_toArray, List.set_cons_zero, List.set_cons_succ]
        refine wpAnyH_do (i := 6) (by kernel_rfl) rfl rfl (fun K hK => ?_)
        go_simp
        go_at_call 21
        refine (JFirst_any (HKJ.out.below (HXQ.out.trans (hS0.mono HXQ.out.size)))).mono ?_
        rintro e Q1 ⟨rfl, hb1⟩
        rw [HFI2.out]
        have hq1 := hS0.trans (hb1.mono hS0.size)
        refine hK _ _ (hq1) ?_
        clear hK K
        try simp only [Act.put, List.setIfInBounds_toArray, List.set_cons_zero, List.set_cons_succ]
        refine wpAnyH_takeI (i := 8) (v := .int .i64 ((fi : Int) + (i : Int))) rfl (by kernel_rfl) (by kernel_rfl) (by kernel_rfl) (fun _ _ _ h => h) (yieldsIf_run rfl (fun w' hw' => ?y8)) hq1 ?_
        case y8 => (have hwr : IntKind.i64.wrap ((fi : Int) + (i : Int)) = (fi : Int) + (i : Int) := IntWalk.i64_in _ (by omega); clear hw'; first | (go_simp; rfl) | (go_simp; done))
        simp only [Act.put, List.setIfInBounds_toArray, List.set_cons_zero, List.set_cons_succ]
        refine wpAnyH_takeI (i := 9) (v := .bool false) rfl (by kernel_rfl) (by kernel_rfl) (by kernel_rfl) (fun _ _ _ h => h) (yieldsIf_run rfl (fun w' hw' => ?y9)) hq1 ?_
        case y9 => first | (go_simp; rfl) | (go_simp; done) | rfl
        simp only [Act.put, List.setIfInBounds_toArray, List.set_cons_zero, List.set_cons_succ]
        refine wpAnyH_takeI (i := 10) (v := ?v10) rfl (by kernel_rfl) (by kernel_rfl) (by kernel_rfl) (fun _ _ _ h => h) (yieldsIf_run rfl (fun w' hw' => ?y10)) hq1 ?_
        case y10 => first | (go_simp; rfl) | (go_simp; done) | rfl
        simp only [Act.put, List.setIfInBounds_toArray, List.set_cons_zero, List.set_cons_succ]
        refine wpAnyH_takeI (i := 11) (v := ?v11) rfl (by kernel_rfl) (by kernel_rfl) (by kernel_rfl) (fun _ _ _ h => h) (yieldsIf_want rfl (fun w' hw' => ?y11)) hq1 ?_
        case y11 => first | (go_simp; rfl) | (go_simp; done) | rfl
        simp only [Act.put, List.setIfInBounds_toArray, List.set_cons_zero, List.set_cons_succ]
        refine wpAnyH_takeI (i := 12) (v := ?v12) rfl (by kernel_rfl) (by kernel_rfl) (by kernel_rfl) (fun _ _ _ h => h) (yieldsIf_want rfl (fun w' hw' => ?y12)) hq1 ?_
        case y12 => first | (go_simp; rfl) | (go_simp; done) | rfl
        simp only [Act.put, List.setIfInBounds_toArray, List.set_cons_zero, List.set_cons_succ]
        refine wpAnyH_takeI (i := 13) (v := ?v13) rfl (by kernel_rfl) (by kernel_rfl) (by kernel_rfl) (fun _ _ _ h => h) (yieldsIf_want rfl (fun w' hw' => ?y13)) hq1 ?_
        case y13 => first | (go_simp; rfl) | (go_simp; done) | rfl
        simp only [Act.put, List.setIfInBounds_toArray, List.set_cons_zero, List.set_cons_succ]
        refine wpAnyH_takeI (i := 14) (v := ?v14) rfl (by kernel_rfl) (by kernel_rfl) (by kernel_rfl) (fun _ _ _ h => h) (yieldsIf_want rfl (fun w' hw' => ?y14)) hq1 ?_
        case y14 => first | (go_simp; rfl) | (go_simp; done) | rfl
        simp only [Act.put, List.setIfInBounds_toArray, List.set_cons_zero, List.set_cons_succ]
        refine wpAnyH_takeI (i := 15) (v := ?v15) rfl (by kernel_rfl) (by kernel_rfl) (by kernel_rfl) (fun _ _ _ h => h) (yieldsIf_want rfl (fun w' hw' => ?y15)) hq1 ?_
        case y15 => (obtain ⟨h1, h2, h3, h4⟩ := HNC.out w' hw'; clear hw'; first | (go_simp; rfl) | (go_simp; done))
        simp only [Act.put, List.setIfInBounds_toArray, List.set_cons_zero, List.set_cons_succ]
        refine wpAnyH_takeI (i := 16) (v := ?v16) rfl (by kernel_rfl) (by kernel_rfl) (by kernel_rfl) (fun _ _ _ h => h) (yieldsIf_want rfl (fun w' hw' => ?y16)) hq1 ?_
        case y16 => (obtain ⟨h1, h2, h3, h4⟩ := HNC.out w' hw'; clear hw'; first | (go_simp; rfl) | (go_simp; done))
        simp only [Act.put, List.setIfInBounds_toArray, List.set_cons_zero, List.set_cons_succ]
        refine wpAnyH_takeI (i := 17) (v := ?v17) rfl (by kernel_rfl) (by kernel_rfl) (by kernel_rfl) (fun _ _ _ h => h) (yieldsIf_want rfl (fun w' hw' => ?y17)) hq1 ?_
        case y17 => first | (go_simp; rfl) | (go_simp; done) | rfl
        simp only [Act.put, List.setIfInBounds_toArray, List.set_cons_zero, List.set_cons_succ]
        refine wpAnyH_takeI (i := 18) (v := ?v18) rfl (by kernel_rfl) (by kernel_rfl) (by kernel_rfl) (fun _ _ _ h => h) (yieldsIf_want rfl (fun w' hw' => ?y18)) hq1 ?_
        case y18 => first | (go_simp; rfl) | (go_simp; done) | rfl
        simp only [Act.put, List.setIfInBounds_toArray, List.set_cons_zero, List.set_cons_succ]
        refine wpAnyH_takeI (i := 19) (v := ?v19) rfl (by kernel_rfl) (by kernel_rfl) (by kernel_rfl) (fun _ _ _ h => h) (yieldsIf_want rfl (fun w' hw' => ?y19)) hq1 ?_
        case y19 => first | (go_simp; rfl) | (go_simp; done) | rfl
        simp only [Act.put, List.setIfInBounds_toArray, List.set_cons_zero, List.set_cons_succ]
        refine wpAnyH_takeI (i := 20) (v := ?v20) rfl (by kernel_rfl) (by kernel_rfl) (by kernel_rfl) (fun _ _ _ h => h) (yieldsIf_want rfl (fun w' hw' => ?y20)) hq1 ?_
        case y20 => first | (go_simp; rfl) | (go_simp; done) | rfl
        simp only [Act.put, List.setIfInBounds_toArray, List.set_cons_zero, List.set_cons_succ]
        refine wpAnyH_takeI (i := 21) (v := ?v21) rfl (by kernel_rfl) (by kernel_rfl) (by kernel_rfl) (fun _ _ _ h => h) (yieldsIf_want rfl (fun w' hw' => ?y21)) hq1 ?_
        case y21 => first | (go_simp; rfl) | (go_simp; done) | rfl
        simp only [Act.put, List.setIfInBounds_toArray, List.set_cons_zero, List.set_cons_succ]
        refine wpAnyH_takeI (i := 22) (v := ?v22) rfl (by kernel_rfl) (by kernel_rfl) (by kernel_rfl) (fun _ _ _ h => h) (yieldsIf_want rfl (fun w' hw' => ?y22)) hq1 ?_
        case y22 => (obtain ⟨h1, h2, h3, h4⟩ := HNC.out w' hw'; clear hw'; first | (go_simp; rfl) | (go_simp; done))
        simp only [Act.put, List.setIfInBounds_toArray, List.set_cons_zero, List.set_cons_succ]
        refine wpAnyH_takeI (i := 23) (v := ?v23) rfl (by kernel_rfl) (by kernel_rfl) (by kernel_rfl) (fun _ _ _ h => h) (yieldsIf_want rfl (fun w' hw' => ?y23)) hq1 ?_
        case y23 => (obtain ⟨h1, h2, h3, h4⟩ := HNC.out w' hw'; clear hw'; first | (go_simp; rfl) | (go_simp; done))
        simp only [Act.put, List.setIfInBounds_toArray, List.set_cons_zero, List.set_cons_succ]
        refine wpAnyH_takeI (i := 24) (v := .bool false) rfl (by kernel_rfl) (by kernel_rfl) (by kernel_rfl) (fun _ _ _ h => h) (yieldsIf_want rfl (fun w' hw' => ?y24)) hq1 ?_
        case y24 => first | (go_simp; rfl) | (go_simp; done) | rfl
        simp only [Act.put, List.setIfInBounds_toArray, List.set_cons_zero, List.set_cons_succ]
        refine wpAnyH_takeI (i := 25) (v := ?v25) rfl (by kernel_rfl) (by kernel_rfl) (by kernel_rfl) (fun _ _ _ h => h) (yieldsIf_run rfl (fun w' hw' => ?y25)) hq1 ?_
        case y25 => first | (go_simp; rfl) | (go_simp; done) | rfl
        simp only [Act.put, List.setIfInBounds_toArray, List.set_cons_zero, List.set_cons_succ]
        refine wpAnyH_done (by kernel_rfl) ?_ _
        refine NoPanic.normal ?_
        have HBR2 := Lib.hid (HBR.out.trans ((hd0.trans (hb1.mono hd0.size)).mono HBR.out.size))
        clear hb1 hd0 hq1 hS0 kn0 kn1 hbu hao
        go_wp2_with fail
        go_roundw
        case rel => exact ⟨i + 1, by omega, by go_num, HBR2⟩
        case measure => simp [intOf] <;> omega
    have hiI : (i : Int) < (n : Int) := by omega
    have hiL : i < L.length := by rw [HN.out]; exact hlt
    go_wp2_with fail
    refine (Next_all HJA.out (by have := HNM.out.nx; omega)).mono ?_
    rintro e V1 ⟨rfl, hb⟩
    have HJ1 := Lib.hid (HJA.out.step hb)
    have HU1 := Lib.hid (show ∀ k, U k → k < V1.heap.size from fun k hk => Nat.lt_of_lt_of_le (HUL.out k hk) hb.size)
    have HM1 := Lib.hid (HSM.out.below hb)
    obtain ⟨g0, off, e9, hg0, k0, k1, k2, k3, hat⟩ := ((HVV.out.below hb)).get hiL
    subst e9
    obtain ⟨o, ho⟩ : ∃ o, L[i] = o := ⟨_, rfl⟩
    rw [ho] at k0 k1 k2 k3 hat
    have HAT := Lib.hid hat
    have HST1 := Lib.hid (fun hkd hon => step_any HJ1.out HU1.out HK.out HNM.out o hkd hon)
    have HSP := Lib.hid (HOK.out.step (by omega) (by omega) o)
    have hnxt : J.next ≤ i + 1 := HOK.out.nx
    obtain ⟨nx, hnx⟩ : ∃ nx, J.next = nx := ⟨_, rfl⟩
    have HNX := Lib.hid hnx
    rw [hnx] at hnxt ⊢
    obtain ⟨z, hz⟩ : ∃ z, stepJ S R J o = z := ⟨_, rfl⟩
    rw [hz] at HST1 HSP
    obtain ⟨S', J', er⟩ := z
    simp only at HST1 HSP
    have HOLD := Lib.hid (show w.heap.size ≤ V1.heap.size from HJ1.out.below.size)
    -- the operation's cells, wherever memory has grown
    have HCE := Lib.hid (show ∀ V, Chg (fun k => w.heap.size ≤ k) V1 V → V.cell? ⟨g0, off + i * 4, none⟩ = some (.int .u8 (o.kind : Int)) ∧ V.cell? ⟨g0, off + i * 4 + 1, none⟩ = some (.int .u16 (o.n : Int)) ∧ V.cell? ⟨g0, off + i * 4 + 2, none⟩ = some (.int .u8 (o.b.toNat : Int)) from fun V hV => by
      obtain ⟨g1, off1, e1, hg1, j0, j1, j2, j3, _⟩ := HV.out.get hiL
      cases e1
      have hb3 := (HJ1.out.below).trans (hV.below (fun k e => e) HJ1.out.below.size)
      rw [ho] at j0 j1 j2
      exact ⟨(hb3.cell (p := ⟨g0, off + i * 4, none⟩) hg1).trans j0, (hb3.cell (p := ⟨g0, off + i * 4 + 1, none⟩) hg1).trans j1, (hb3.cell (p := ⟨g0, off + i * 4 + 2, none⟩) hg1).trans j2⟩)
    clear hb hat ho hnx hz
    unfold JOp.cells at HST1
    obtain ⟨okd, hokd⟩ : ∃ okd, o.kind = okd := ⟨_, rfl⟩
    obtain ⟨on, hon⟩ : ∃ on, o.n = on := ⟨_, rfl⟩
    obtain ⟨ob, hob⟩ : ∃ ob, o.b = ob := ⟨_, rfl⟩
    obtain ⟨oa, hoa⟩ : ∃ oa, o.a = oa := ⟨_, rfl⟩
    obtain ⟨ol, hol⟩ : ∃ ol, o.cs.length = ol := ⟨_, rfl⟩
    obtain ⟨oc, hoc⟩ : ∃ oc, o.cap = oc := ⟨_, rfl⟩
    have hkd2 : okd < 256 := by rw [← hokd]; exact HAT.out.kd
    have hon2 : on < 65536 := by rw [← hon]; exact HAT.out.n
    rw [hokd, hon, hob, hoa, hol, hoc] at HST1
    rw [hokd, hon, hob] at HCE HSP
    rw [hokd] at k0
    rw [hon] at k1
    rw [hob] at k2
    rw [hoa, hol, hoc] at k3
    have HBY := Lib.hid (fun V : World => bytes_any (w := V) on hon2 ob)
    obtain ⟨obt, hobt⟩ : ∃ obt, ob.toNat = obt := ⟨_, rfl⟩
    rw [hobt] at HST1 HCE HBY k2
    clear hokd hon hob hoa hol hoc hobt HAT
    go_wp2_with fail
    refine (HST1.out hkd2 hon2).mono ?_
    rintro e V2 ⟨rfl, hj2, hc2⟩
    have HJ2 := Lib.hid hj2.tight
    have HC2 := Lib.hid (hc2.mono (G := fun k => w.heap.size ≤ k) (fun k hk => HJ1.out.lo k hk))
    have HM2 := Lib.hid (HM1.out.chg hc2 HUM.out)
    have HUM2 := Lib.hid (show ¬ ((U m ∨ V1.heap.size ≤ m) ∧ m < V2.heap.size) from fun h => h.1.elim HUM.out (fun h2 => by have := HM1.out.lt; omega))
    obtain ⟨c0, c1, c2⟩ := HCE.out V2 HC2.out
    clear hj2 hc2 k0 k1 k2 k3
    rcases HSP.out with ⟨hok2, hdl2, ⟨hk0, he0, hen, hfi⟩ | ⟨hno, k, hkl, hen, hfi⟩⟩
    · have HOK2 := Lib.hid hok2
      have HDL2 := Lib.hid hdl2
      have HAO2 := Lib.hid (show AllOk (fun x => if x = nx then some (lawB on ob) else fm x) J' from by rw [← HNX.out]; exact HAO.out.add hen hfi)
      subst he0
      have hkI : (okd : Int) % 3 = 0 := by omega
      clear hok2 hdl2 hen hfi hk0
      go_wp2_with fail
      refine wp_region_noPanic ?_
      refine wp_region_G [14] (Below V2.heap.size V2) (by kernel_rfl) ?_
      have hS0 : (Below V2.heap.size V2) V2.drew := ((Below.refl _ _).drew)
      obtain ⟨wd, hwd⟩ : ∃ wd, V2.drew = wd := ⟨_, rfl⟩
      rw [hwd] at hS0 ⊢
      have hd0 : Below V2.heap.size V2 wd := hwd ▸ (Below.refl _ _).drew
      clear hwd
      refine wpAnyG_pure (i := 0) (v := ?v26) rfl (by kernel_rfl) (by kernel_rfl) (by kernel_rfl) (by kernel_rfl) (fun _ _ _ h => h) (yieldsIf_run rfl (fun w' hw' => ?y26)) (fun _ => hS0) ?_
      case y26 => first | (go_simp; rfl) | (go_simp; done) | rfl
      simp only [Act.put, List.setIfInBounds_toArray, List.set_cons_zero, List.set_cons_succ]
      refine wpAnyG_pure (i := 1) (v := ?v27) rfl (by kernel_rfl) (by kernel_rfl) (by kernel_rfl) (by kernel_rfl) (fun _ _ _ h => h) (yieldsIf_run rfl (fun w' hw' => ?y27)) (fun _ => hS0) ?_
      case y27 => first | (go_simp; rfl) | (go_simp; done) | rfl
      simp only [Act.put, List.setIfInBounds_toArray, List.set_cons_zero, List.set_cons_succ]
      refine wpAnyG_pure (i := 2) (v := ?v28) rfl (by kernel_rfl) (by kernel_rfl) (by kernel_rfl) (by kernel_rfl) (fun _ _ _ h => h) (yieldsIf_run rfl (fun w' hw' => ?y28)) (fun _ => hS0) ?_
      case y28 => first | (go_simp; rfl) | (go_simp; done) | rfl
      simp only [Act.put, List.setIfInBounds_toArray, List.set_cons_zero, List.set_cons_succ]
      refine wpAnyG_pure (i := 3) (v := ?v29) rfl (by kernel_rfl) (by kernel_rfl) (by kernel_rfl) (by kernel_rfl) (fun _ _ _ h => h) (yieldsIf_run rfl (fun w' hw' => ?y29)) (fun _ => hS0) ?_
      case y29 => first | (go_simp; rfl) | (go_simp; done) | rfl
      simp only [Act.put, List.setIfInBounds_toArray, List.set_cons_zero, List.set_cons_succ]
      refine wpAnyG_pure (i := 4) (v := ?v30) rfl (by kernel_rfl) (by kernel_rfl) (by kernel_rfl) (by kernel_rfl) (fun _ _ _ h => h) (yieldsIf_run rfl (fun w' hw' => ?y30)) (fun _ => hS0) ?_
      case y30 => first | (go_simp; rfl) | (go_simp; done) | rfl
      simp only [Act.put, List.setIfInBounds_toArray, List.set_cons_zero, List.set_cons_succ]
      refine wpAnyG_pure (i := 5) (v := ?v31) rfl (by kernel_rfl) (by kernel_rfl) (by kernel_rfl) (by kernel_rfl) (fun _ _ _ h => h) (yieldsIf_run rfl (fun w' hw' => ?y31)) (fun _ => hS0) ?_
      case y31 => first | (go_simp; rfl) | (go_simp; done) | rfl
      simp only [Act.put, List.setIfInBounds_toArray, List.set_cons_zero, List.set_cons_succ]
      refine wpAnyG_takeZ (i := 6) (v := ?v32) rfl (by kernel_rfl) (by kernel_rfl) (by kernel_rfl) (by kernel_rfl) (fun _ _ _ h => h) (yieldsIf_run rfl (fun w' hw' => ?y32)) hS0 ?_
      case y32 => (obtain ⟨h0, h1, h2⟩ := HCE.out w' (HC2.out.trans (Chg.of_below hw') (fun k e => .inl e)); clear hw'; first | (go_simp; rfl) | (go_simp; done))
      simp only [Act.put, List.setIfInBounds_toArray, List.set_cons_zero, List.set_cons_succ]
      refine wpAnyG_pure (i := 7) (v := ?v33) rfl (by kernel_rfl) (by kernel_rfl) (by kernel_rfl) (by kernel_rfl) (fun _ _ _ h => h) (yieldsIf_run rfl (fun w' hw' => ?y33)) (fun _ => hS0) ?_
      case y33 => first | (go_simp; rfl) | (go_simp; done) | rfl
      simp only [Act.put, List.setIfInBounds_toArray, List.set_cons_zero, List.set_cons_succ]
      refine wpAnyG_pure (i := 8) (v := ?v34) rfl (by kernel_rfl) (by kernel_rfl) (by kernel_rfl) (by kernel_rfl) (fun _ _ _ h => h) (yieldsIf_run rfl (fun w' hw' => ?y34)) (fun _ => hS0) ?_
      case y34 => first | (go_simp; rfl) | (go_simp; done) | rfl
      simp only [Act.put, List.setIfInBounds_toArray, List.set_cons_zero, List.set_cons_succ]
      refine wpAnyG_pure (i := 9) (v := ?v35) rfl (by kernel_rfl) (by kernel_rfl) (by kernel_rfl) (by kernel_rfl) (fun _ _ _ h => h) (yieldsIf_run rfl (fun w' hw' => ?y35)) (fun _ => hS0) ?_
      case y35 => first | (go_simp; rfl) | (go_simp; done) | rfl
      simp only [Act.put, List.setIfInBounds_toArray, List.set_cons_zero, List.set_cons_succ]
      refine wpAnyG_pure (i := 10) (v := ?v36) rfl (by kernel_rfl) (by kernel_rfl) (by kernel_rfl) (by kernel_rfl) (fun _ _ _ h => h) (yieldsIf_run rfl (fun w' hw' => ?y36)) (fun _ => hS0) ?_
      case y36 => first | (go_simp; rfl) | (go_simp; done) | rfl
      simp only [Act.put, List.setIfInBounds_toArray, List.set_cons_zero, List.set_cons_succ]
      refine wpAnyG_takeZ (i := 11) (v := ?v37) rfl (by kernel_rfl) (by kernel_rfl) (by kernel_rfl) (by kernel_rfl) (fun _ _ _ h => h) (yieldsIf_run rfl (fun w' hw' => ?y37)) hS0 ?_
      case y37 => (obtain ⟨h0, h1, h2⟩ := HCE.out w' (HC2.out.trans (Chg.of_below hw') (fun k e => .inl e)); clear hw'; first | (go_simp; rfl) | (go_simp; done))
      simp only [Act.put, List.setIfInBounds_toArray, List.set_cons_zero, List.set_cons_succ]
      refine wpAnyG_do (i := 12) (by kernel_rfl) rfl rfl (fun K hK => ?_)
      go_simp
      go_at_call 16
      refine (HBY.out wd).mono ?_
      rintro e V3 ⟨ba, bc, rfl, hv3, hb3⟩
      have hb03 := hd0.trans (hb3.mono hd0.size)
      refine hK _ _ hb03 ?_
      clear hK K
      try simp only [Act.put, List.setIfInBounds_toArray, List.set_cons_zero, List.set_cons_succ]
      refine wpAnyG_do (i := 13) (by kernel_rfl) rfl rfl (fun K hK => ?_)
      have hstr := hv3.at_.str
      go_simp
      refine hK _ _ hb03 ?_
      clear hK K
      try simp only [Act.put, List.setIfInBounds_toArray, List.set_cons_zero, List.set_cons_succ]
      refine wpAnyG_fin (i := 14) (by kernel_rfl) rfl rfl (by kernel_rfl) (fun K hK => ?_)
      obtain ⟨V4, hrun, hm4, hc4⟩ := (HM2.out.below hb03).upd nx (by omega) (lawB on ob)
      go_simp
      refine hK _ _ ?_
      clear hK K
      try simp only [Act.put, List.setIfInBounds_toArray, List.set_cons_zero, List.set_cons_succ]
      refine wpAnyG_done (by kernel_rfl) ?_ _
      refine NoPanic.normal ?_
      have HJ4 := Lib.hid ((HJ2.out.step hb03).chg hc4 (fun k _ h1 h2 => HUM2.out (h1 ▸ h2)) (fun k h1 => by rw [h1]; exact HMW.out))
      have HM4 := Lib.hid hm4
      have HUL4 := Lib.hid (show ∀ k, (U k ∨ V1.heap.size ≤ k) ∧ k < V2.heap.size → k < V4.heap.size from fun k hk => by have h1 := hb03.size; have h2 := hc4.size; omega)
      clear hm4 hc4 hb03 hb3 hv3 hd0 hS0 c0 c1 c2
      go_wp2_with fail
      go_roundw
      case rel => exact ⟨i + 1, S', J', _, _, by omega, by go_num, HOK2, by rw [HDL2.out]; exact hdl, HJ4, HUL4, HUM2, HM4, HAO2⟩
      case measure => simp [intOf] <;> omega
    · have HOK2 := Lib.hid hok2
      have HDL2 := Lib.hid hdl2
      have HAO2 := Lib.hid (show AllOk fm J' from HAO.out.cut hen hfi)
      have HUL4 := Lib.hid (show ∀ k, (U k ∨ V1.heap.size ≤ k) ∧ k < V2.heap.size → k < V2.heap.size from fun k hk => hk.2)
      clear hok2 hdl2 hen hfi
      by_cases he0 : er = 0
      · have hk0 : ¬ okd % 3 = 0 := fun h => hno ⟨h, he0⟩
        have hkI : ¬ (okd : Int) % 3 = 0 := by omega
        subst he0
        go_wp2_with fail
        go_roundw
        case rel => exact ⟨i + 1, S', J', _, _, by omega, by go_num, HOK2, by rw [HDL2.out]; exact hdl, HJ2, HUL4, HUM2, HM2, HAO2⟩
        case measure => simp [intOf] <;> omega
      · have hdt : (er == 0) = false := by simpa using he0
        go_wp2_with fail
        go_roundw
        case rel => exact ⟨i + 1, S', J', _, _, by omega, by go_num, HOK2, by rw [HDL2.out]; exact hdl, HJ2, HUL4, HUM2, HM2, HAO2⟩
        case measure => simp [intOf] <;> omega
end Go.Proofs.YtplclpileejemaaDoor
