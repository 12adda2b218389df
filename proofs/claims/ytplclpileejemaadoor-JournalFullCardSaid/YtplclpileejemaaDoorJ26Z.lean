/- The law JournalFull. -/
import Derived.Test.YtplclpileejemaaDoorJ25Z
namespace Go.Proofs.YtplclpileejemaaDoor
open Go.RowKit
set_option linter.unusedVariables false
set_option linter.unusedSimpArgs false

/-- A journal with k entries of the same length. -/
structure FullJ (S : DS) (R : JR) (J : JD) (nd L k : Nat) : Prop where
  ok : Ok S R J (k + 1)
  first : J.first = 0
  len : J.ents.length = k
  each : ∀ b ∈ J.ents, b.length = L
theorem size_same {nd L : Nat} (hnd : needN L = nd) : ∀ (E : List (List UInt8)), (∀ b ∈ E, b.length = L) → sizeE E = 1 + E.length * nd
  | [], _ => by show 1 + 0 = 1 + 0 * nd; rw [Nat.zero_mul]
  | b :: E, h => by
    have h1 := size_same hnd E (fun x hx => h x (List.mem_cons_of_mem _ hx))
    have h2 := h b (List.mem_cons_self ..)
    unfold sizeE at h1 ⊢
    rw [List.map_cons, List.sum_cons, h2, hnd, List.length_cons, Nat.add_mul]
    omega
theorem FullJ.used {S : DS} {R : JR} {J : JD} {nd L k : Nat} (h : FullJ S R J nd L k) (hnd : needN L = nd) : J.used = 1 + k * nd ∧ sizeE J.ents = 1 + k * nd ∧ 1 + k * nd ≤ R.half := by
  obtain ⟨c, hc⟩ := h.ok.ji
  have h1 := size_same hnd J.ents h.each
  rw [h.len] at h1
  have h2 := hc.fit
  rw [hc.used]
  omega
theorem FullJ.app {S : DS} {R : JR} {J : JD} {nd L k : Nat} {b : List UInt8} (h : FullJ S R J nd L k) (hnd : needN L = nd) (hL : L ≤ 100000) (hb : b.length = L) (hk : k ≤ 500) :
    (R.half - (1 + k * nd) < nd → appJ S R J b = (S, J, 9, 0)) ∧ (nd ≤ R.half - (1 + k * nd) → ∃ S' J', appJ S R J b = (S', J', 0, k) ∧ FullJ S' R J' nd L (k + 1) ∧ S'.dur.length = S.dur.length) := by
  obtain ⟨u1, u2, u3⟩ := h.used hnd
  rcases h.ok.app (b := b) (by omega) (by omega) with ⟨h1, h2⟩ | ⟨S', h1, h2, h3, h4⟩
  · rw [hb, hnd, u2] at h2
    exact ⟨fun _ => h1, fun h3 => by omega⟩
  · rw [hb, hnd, u2] at h4
    refine ⟨fun h3 => by omega, fun _ => ⟨S', _, h1.trans (by rw [show J.next = k by unfold JD.next; rw [h.first, h.len, Nat.zero_add]]), ⟨h2, h.first, ?_, ?_⟩, h3⟩⟩
    · show (J.ents ++ [b]).length = k + 1
      rw [List.length_append, h.len]; rfl
    · intro x hx
      rcases List.mem_append.1 hx with hx | hx
      · exact h.each x hx
      · rw [List.mem_singleton.1 hx]; exact hb
/-- Behind the truncation. -/
theorem FullJ.trn {S : DS} {R : JR} {J : JD} {nd L k : Nat} (h : FullJ S R J nd L k) (hnd : needN L = nd) (hk : k ≤ 500) (hm : S.dur.length ≤ 4096) (x : Nat) (hx : x ≤ k) :
    ∃ S' J' t, trnJ S R J (x : Int) = (S', J', 0) ∧ Ok S' R J' t ∧ t ≤ k + 2 ∧ J'.first = x ∧ J'.next = k ∧ J'.used = 1 + (k - x) * nd ∧ sizeE J'.ents = 1 + (k - x) * nd ∧ S'.dur.length = S.dur.length := by
  obtain ⟨u1, u2, u3⟩ := h.used hnd
  have hnx : J.next = k := by unfold JD.next; rw [h.first, h.len, Nat.zero_add]
  rcases h.ok.trn (by omega) hm (x : Int) with ⟨_, h2⟩ | ⟨h1, h2⟩ | ⟨S', j, e, j0, jn, h1, h2, h3⟩
  · rw [hnx, h.first] at h2; omega
  · rw [h.first] at h2
    obtain rfl : x = 0 := by omega
    exact ⟨S, J, k + 1, h1, h.ok, by omega, h.first, hnx, u1, u2, rfl⟩
  · rw [h.first] at e
    obtain rfl : j = x := by omega
    have hd := size_same hnd (J.ents.drop j) (fun b hb => h.each b (List.mem_of_mem_drop hb))
    rw [List.length_drop, h.len] at hd
    refine ⟨S', _, k + 1 + 1, h1, h2, by omega, ?_, ?_, hd, hd, h3⟩
    · show J.first + j = j
      rw [h.first, Nat.zero_add]
    · show J.first + j + (J.ents.drop j).length = k
      rw [List.length_drop, h.len, h.first]; omega
set_option maxRecDepth 100000 in
set_option maxHeartbeats 2000000 in
theorem JournalFull_any {w : World} (hK : KAt w) (sd n : Nat) (kp : UInt8) (hs : sd < 256) (hn : n < 65536) : Calls Tryd.prog 3 #[.int .u8 (sd : Int), .int .u16 (n : Int), .int .u8 (kp.toNat : Int)] w fun e w' => e = .returned (.bool true) ∧ Below w.heap.size w w' := by
  have HKN := Lib.hid (known_any hK)
  have HK := Lib.hid hK
  have hK0 := hK.size
  obtain ⟨sz, hsz⟩ : ∃ sz, 8 + sd % 36 = sz := ⟨_, rfl⟩
  have hs8 : 8 ≤ sz ∧ sz ≤ 43 := by omega
  have HSZ := Lib.hid (fun w1 : World => size_any (w := w1) sd hs)
  rw [hsz] at HSZ
  obtain ⟨hlim0, S1, S2, s1, s2, s3, s4, s5, s6, s7, s8, s9, s10, s11⟩ := start_ok (S := newDS 48) (R := ⟨3, sz⟩) (newDS_blank (by show 3 + sz ≤ 48; omega)) rfl rfl hs8.1 (by show 3 + sz ≤ (List.replicate 48 zeros).length; rw [List.length_replicate]; omega) ⟨by show 0 + 999995000 ≤ _; omega, by show 0 + 999995000 ≤ _; omega, by show 0 ≤ _; omega⟩
  have hl48 : (newDS 48).dur.length = 48 := List.length_replicate ..
  rw [hl48] at s3 s10
  have HST := Lib.hid (show JLim (nextG 0 (secL (newDS 48) 3 sz)) 0 0 [] ∧ (moveJ (newDS 48) ⟨3, sz⟩ 0 0 []).1 = S1 ∧ (moveJ (newDS 48) ⟨3, sz⟩ 0 0 []).2.1 = 0 from ⟨hlim0, s1, s2⟩)
  have HOP := Lib.hid (show S1.dur.length = 48 ∧ S1.down = false ∧ Roomy S1 999994000 ∧ currL S1 ⟨3, sz⟩ = some ⟨0, 0, []⟩ ∧ JLim (nextG (1 - (0 : Nat) % 2) (secL S1 3 sz)) 0 ([] : List (List UInt8)).length [] ∧ moveJ S1 ⟨3, sz⟩ (1 - (0 : Nat) % 2) 0 [] = (S2, 0, ⟨1, 1, 0, [], 0, 0⟩) from ⟨s3, s4, s6, s7, s8, s9⟩)
  obtain ⟨L, hLE⟩ : ∃ L, n % 1500 = L := ⟨_, rfl⟩
  have hL1 : L < 1500 := by omega
  obtain ⟨nd, hnd⟩ : ∃ nd, needN L = nd := ⟨_, rfl⟩
  have hnd1 : 1 ≤ nd ∧ nd ≤ 7 := by rw [← hnd]; unfold needN; omega
  have HND := Lib.hid hnd
  have HNE := Lib.hid (fun w1 : World => JNeed_ok (w := w1) L (by omega))
  rw [hnd] at HNE
  have HBY := Lib.hid (show ∀ (w1 : World) (k : Nat), k < 256 → Calls Tryd.prog 16 #[.int .u16 (n : Int), .int .u8 (k : Int)] w1 fun e w' => ∃ a c l, e = .returned (.slice a L c) ∧ l.length = L ∧ BytesN w' (fun k => w1.heap.size ≤ k) (.slice a L c) l ∧ Below w1.heap.size w1 w' from fun w1 k hk => by
    have h1 := bytes_any (w := w1) n hn (UInt8.ofNat k)
    rw [UInt8.toNat_ofNat', Nat.mod_eq_of_lt hk, hLE] at h1
    refine h1.mono ?_
    rintro e w' ⟨a, c, rfl, h2, h3⟩
    exact ⟨a, c, _, rfl, by rw [lawB_length, hLE], h2, h3⟩)
  obtain ⟨J1, hJ1⟩ : ∃ J1, (⟨1, 1, 0, [], 0, 0⟩ : JD) = J1 := ⟨_, rfl⟩
  have HJL := Lib.hid (show J1.ents.length = 0 by rw [← hJ1]; rfl)
  have HF1 := Lib.hid (show FullJ S2 ⟨3, sz⟩ J1 nd L 0 from ⟨hJ1 ▸ s11, by rw [← hJ1], by rw [← hJ1]; rfl, by rw [← hJ1]; intro b hb; cases hb⟩)
  rw [hJ1] at HOP
  obtain ⟨hf, hhf⟩ : ∃ hf, sz / 2 = hf := ⟨_, rfl⟩
  have HHF := Lib.hid (show (⟨3, sz⟩ : JR).half = hf from hhf)
  have hhfI : (sz : Int) / 2 = (hf : Int) := by omega
  have hhf2 : 4 ≤ hf ∧ hf ≤ 21 := by omega
  obtain ⟨f0, hf0⟩ : ∃ f0, hf = f0 + 1 := ⟨hf - 1, by omega⟩
  subst hf0
  have hq1 : (sz : Int) / 2 - 1 = (f0 : Int) := by omega
  have HS2 := Lib.hid s10
  obtain ⟨kk, hkk⟩ : ∃ kk, kp.toNat = kk := ⟨_, rfl⟩
  have hkk2 : kk < 256 := by rw [← hkk]; exact kp.toNat_lt
  rw [hkk]
  clear hkk s1 s2 s3 s4 s5 s6 s7 s8 s9 s10 s11 hlim0 hl48 hJ1 hnd hLE hK hhf hsz
  go_enter Tryd.func3, Tryd.ntmps3
  go_wp2_with fail
  refine HKN.out.mono ?_
  rintro e W0 ⟨rfl, hb0⟩
  have HB0 := Lib.hid hb0
  clear hb0
  go_wp2_with fail
  refine (New_good 48 W0 (by omega) (by omega)).mono ?_
  rintro e W1 ⟨rfl, hd1, hb1⟩
  obtain ⟨b, hbE⟩ : ∃ b, W0.heap.size + 1 = b := ⟨_, rfl⟩
  rw [hbE] at hd1 ⊢
  have HB1 := Lib.hid (HB0.out.trans (hb1.mono HB0.out.size))
  have HD1 := Lib.hid (hd1.mono (G := fun k => w.heap.size ≤ k) (fun k h => Nat.le_trans HB0.out.size h))
  clear hbE hb1 hd1
  go_wp2_with fail
  refine (HSZ.out W1).mono ?_
  rintro e W1a ⟨rfl, hb⟩
  have HB1a := Lib.hid (HB1.out.trans (hb.mono HB1.out.size))
  have HD1a := Lib.hid (HD1.out.below hb)
  clear hb
  go_wp2_with fail
  refine (JFormat_z HD1a.out (KAt.below HK.out HB1a.out hK0) (by omega) 3 sz hs8.1 (by show 3 + sz ≤ (List.replicate 48 zeros).length; rw [List.length_replicate]; omega) rfl HST.out.1 ⟨by show 0 + 2 ≤ _; omega, by show 0 + 2 ≤ _; omega, by show 0 ≤ _; omega⟩ HST.out.2.1 HST.out.2.2).mono ?_
  rintro e W2 ⟨rfl, hd2, hc2⟩
  have HB2 := Lib.hid (HB1a.out.trans (hc2.below (fun k e => e) HB1a.out.size))
  have HD2 := Lib.hid (hd2.mono (G := fun k => w.heap.size ≤ k) (fun k h => h.elim id (fun h2 => Nat.le_trans HB1a.out.size h2)))
  clear hd2 hc2
  go_wp2_with fail
  refine (HSZ.out W2).mono ?_
  rintro e W2a ⟨rfl, hb⟩
  have HB2a := Lib.hid (HB2.out.trans (hb.mono HB2.out.size))
  have HD2a := Lib.hid (HD2.out.below hb)
  clear hb
  go_wp2_with fail
  refine (JOpen_z HB2a.out HD2a.out HK.out (fun k e => e) 3 sz hs8.1 (by rw [HOP.out.1]; omega) HOP.out.2.1 ⟨0, 0, []⟩ HOP.out.2.2.2.1 HOP.out.2.2.2.2.1 (by decide) (HOP.out.2.2.1.less (by decide)) HOP.out.2.2.2.2.2).mono ?_
  rintro e W3 ⟨g, N, la, lc, rfl, hj, _, _, _⟩
  rw [HJL.out]
  have HJA3 := Lib.hid hj.ja
  clear hj
  obtain ⟨R, hR⟩ : ∃ R : JR, (⟨3, sz⟩ : JR) = R := ⟨_, rfl⟩
  rw [hR] at HJA3 HF1 HHF
  clear hR HST HOP
  go_wp2_with fail
  refine (HBY.out W3 1 (by omega)).mono ?_
  rintro e W4 ⟨ba, bc, bl, rfl, _, _, hb⟩
  have HJA4 := Lib.hid (HJA3.out.step hb)
  clear hb
  go_wp2_with fail
  refine (HNE.out W4).mono ?_
  rintro e W5 ⟨rfl, hb⟩
  have HJA5 := Lib.hid (HJA4.out.step hb)
  clear hb
  have HN1 := Lib.hid (HF1.out.ok.num HJA5.out.most (by omega))
  have HU1 := Lib.hid (show R.half - J1.used = f0 by rw [(HF1.out.used HND.out).1, HHF.out]; omega)
  go_wp2_with fail
  refine (Free_ja HJA5.out HN1.out HU1.out).mono ?_
  rintro e W6 ⟨rfl, hj, _⟩
  have HJA6 := Lib.hid hj
  clear hj
  go_wp2_with fail
  refine (HSZ.out W6).mono ?_
  rintro e W7 ⟨rfl, hb⟩
  have HJA7 := Lib.hid (HJA6.out.step hb)
  clear hb
  go_wp2_with fail
  go_loopw [13, 14] (fun fv cv wr => ∃ (k fr : Nat) (S : DS) (J : JD), fv = .int .i64 (fr : Int) ∧ cv = .int .i64 (k : Int) ∧ fr + k * nd + 1 = f0 + 1 ∧ k ≤ 21 ∧ Hid (FullJ S R J nd L k) ∧ Hid (JA w wr b g S R J)) (fun fv _ _ => (intOf fv).toNat)
  case atStart => exact ⟨0, f0, S2, J1, rfl, rfl, by rw [Nat.zero_mul], by omega, HF1, HJA7⟩
  case round =>
    obtain ⟨k, fr, S, J, rfl, rfl, hfr, hk21, HFJ, HJA⟩ := hrel
    obtain ⟨V0, rfl⟩ : ∃ V0, V0 = wr := ⟨_, rfl⟩
    clear HF1 HJA7
    have HNM := Lib.hid (HFJ.out.ok.num HJA.out.most (by omega))
    by_cases hlt : nd ≤ fr
    · have hltI : (nd : Int) ≤ (fr : Int) := by omega
      go_wp2_with fail
      refine (HBY.out V0 k (by omega)).mono ?_
      rintro e V1 ⟨ba, bc, bl, rfl, hbl, hbv, hb⟩
      have HBV := Lib.hid hbv
      have HB := Lib.hid hb
      have HBL := Lib.hid hbl
      clear hbv hb hbl
      obtain ⟨S', J', ha, hf', hd'⟩ := (HFJ.out.app HND.out (by omega) HBL.out (by omega)).2 (by rw [HHF.out]; omega)
      have HA := Lib.hid ha
      have HF' := Lib.hid hf'
      clear ha hf' hd'
      go_wp2_with fail
      refine (App_ja HJA.out HK.out HNM.out HB.out HBV.out (by rw [HBL.out]; omega) HA.out).mono ?_
      rintro e V2 ⟨rfl, hj⟩
      have HJ2 := Lib.hid hj
      clear hj
      have hkle : k ≤ k * nd := Nat.le_mul_of_pos_right k (by omega)
      have hmulk : (k + 1) * nd = k * nd + nd := by rw [Nat.add_mul, Nat.one_mul]
      have HN2 := Lib.hid (HF'.out.ok.num HJ2.out.most (by omega))
      have HU2 := Lib.hid (show R.half - J'.used = fr - nd by rw [(HF'.out.used HND.out).1, HHF.out]; omega)
      obtain ⟨f2, hf2⟩ : ∃ f2, fr = f2 + nd := ⟨fr - nd, by omega⟩
      subst hf2
      rw [Nat.add_sub_cancel] at HU2
      have hsubI : ((f2 + nd : Nat) : Int) - (nd : Int) = (f2 : Int) := by omega
      go_wp2_with fail
      refine (Free_ja HJ2.out HN2.out HU2.out).mono ?_
      rintro e V3 ⟨rfl, hj, _⟩
      have HJ3 := Lib.hid hj
      clear hj
      go_wp2_with fail
      go_roundw
      case rel => exact ⟨k + 1, f2, S', J', by go_num, by go_num, by omega, by omega, HF', HJ3⟩
      case measure => simp [intOf] <;> omega
    · have hltI : ¬ (nd : Int) ≤ (fr : Int) := by omega
      go_wp2_with fail
      refine (HBY.out V0 1 (by omega)).mono ?_
      rintro e V1 ⟨ba, bc, bl, rfl, hbl, hbv, hb⟩
      have HBV := Lib.hid hbv
      have HB := Lib.hid hb
      have HBL := Lib.hid hbl
      clear hbv hb hbl
      have HA := Lib.hid ((HFJ.out.app HND.out (by omega) HBL.out (by omega)).1 (by rw [HHF.out]; omega))
      go_wp2_with fail
      refine (App_ja HJA.out HK.out HNM.out HB.out HBV.out (by rw [HBL.out]; omega) HA.out).mono ?_
      rintro e V2 ⟨rfl, hj⟩
      have HJ2 := Lib.hid hj
      clear hj
      go_wp2_with fail
      refine (Next_ja HJ2.out (by have := HNM.out.nx; omega) (x := k) (by unfold JD.next; rw [HFJ.out.first, HFJ.out.len, Nat.zero_add])).mono ?_
      rintro e V3 ⟨rfl, hj, _⟩
      have HJ3 := Lib.hid hj
      clear hj
      obtain ⟨x, hx⟩ : ∃ x, kk % (k + 1) = x := ⟨_, rfl⟩
      have hxk : x ≤ k := by rw [← hx]; exact Nat.le_of_lt_succ (Nat.mod_lt _ (Nat.succ_pos k))
      have hxI : (kk : Int) % ((k : Int) + 1) = (x : Int) := by rw [← hx]; first | rfl | (simp; done) | (push_cast; rfl)
      obtain ⟨S', J', t, ht, hok, htt, jf, jn, ju, js, hd⟩ := HFJ.out.trn HND.out (by omega) HJ3.out.most x hxk
      have HTR := Lib.hid ht
      have HOK := Lib.hid hok
      have HJF := Lib.hid jf
      have HJN := Lib.hid jn
      obtain ⟨p, hp⟩ : ∃ p, x * nd = p := ⟨_, rfl⟩
      have hpI : (x : Int) * (nd : Int) = (p : Int) := by rw [← hp, Int.natCast_mul]
      have hkx : (k - x) * nd + p = k * nd := by rw [← hp, ← Nat.add_mul, Nat.sub_add_cancel hxk]
      have hpb : p ≤ 21 := by have := Nat.mul_le_mul_right nd hxk; omega
      have HU := Lib.hid (show R.half - J'.used = fr + p by rw [ju, HHF.out]; omega)
      have HSE := Lib.hid (show R.half - sizeE J'.ents = fr + p by rw [js, HHF.out]; omega)
      have HTT := Lib.hid htt
      clear hx ht hok htt jf jn ju js hd hp
      go_wp2_with fail
      refine (Trn_ja HJ3.out HK.out HNM.out (x : Int) HTR.out).mono ?_
      rintro e V4 ⟨rfl, hj⟩
      have HJ4 := Lib.hid hj
      have HN4 := Lib.hid (HOK.out.num hj.most (by have := HTT.out; omega))
      clear hj
      go_wp2_with fail
      refine (First_ja HJ4.out HJF.out).mono ?_
      rintro e V5 ⟨rfl, hj, _⟩
      have HJ5 := Lib.hid hj
      clear hj
      go_wp2_with fail
      refine (Next_ja HJ5.out (by have := HN4.out.nx; omega) HJN.out).mono ?_
      rintro e V6 ⟨rfl, hj, _⟩
      have HJ6 := Lib.hid hj
      clear hj
      go_wp2_with fail
      refine (Free_ja HJ6.out HN4.out HU.out).mono ?_
      rintro e V7 ⟨rfl, hj, _⟩
      have HJ7 := Lib.hid hj
      clear hj
      go_wp2_with fail
      refine (HBY.out V7 9 (by omega)).mono ?_
      rintro e V8 ⟨ba2, bc2, bl2, rfl, hbl, hbv, hb⟩
      have HBV2 := Lib.hid hbv
      have HB2' := Lib.hid hb
      have HBL2 := Lib.hid hbl
      clear hbv hb hbl
      rcases HOK.out.app (b := bl2) (by have := HTT.out; omega) (by rw [HBL2.out]; omega) with ⟨h1, h2⟩ | ⟨S9, h1, _, _, h2⟩
      · rw [HBL2.out, HND.out, HSE.out] at h2
        have HA9 := Lib.hid h1
        have hge : ¬ (nd : Int) ≤ (fr : Int) + (p : Int) := by omega
        have hge2 : (fr : Int) + (p : Int) < (nd : Int) := by omega
        clear h1
        go_wp2_with fail
        refine (App_ja HJ7.out HK.out HN4.out HB2'.out HBV2.out (by rw [HBL2.out]; omega) HA9.out).mono ?_
        rintro e V9 ⟨rfl, hj⟩
        have HBX := Lib.hid hj.below
        clear hj
        go_wp2_with fail
        exact bodyPost_ret (v := .bool true) (by simp [results, Tryd.results3, go_sem, hge, hge2]) rfl ⟨rfl, HBX.out⟩
      · rw [HBL2.out, HND.out, HSE.out] at h2
        have HA9 := Lib.hid h1
        have hge : (nd : Int) ≤ (fr : Int) + (p : Int) := by omega
        clear h1
        go_wp2_with fail
        refine (App_ja HJ7.out HK.out HN4.out HB2'.out HBV2.out (by rw [HBL2.out]; omega) HA9.out).mono ?_
        rintro e V9 ⟨rfl, hj⟩
        have HBX := Lib.hid hj.below
        clear hj
        go_wp2_with fail
        exact bodyPost_ret (v := .bool true) (by simp [results, Tryd.results3, go_sem]) rfl ⟨rfl, HBX.out⟩
end Go.Proofs.YtplclpileejemaaDoor
