/- The law JournalDurability. -/
import Derived.Test.YtplclpileejemaaDoorJ34Z
namespace Go.Proofs.YtplclpileejemaaDoor
open Go.RowKit
set_option linter.unusedVariables false
set_option linter.unusedSimpArgs false

/-- A limit for a device with an open journal. -/
theorem SetLimit_all {w W : World} {U : Nat → Prop} {b g : Nat} {S : DS} {R : JR} {J : JD} (h : JAll w W U b g S R J) (n : Int) :
  Calls Tryd.prog 34 #[.pointer (some ⟨b, 0, none⟩), .int .i64 n] W fun e W' => e = .returned (.tuple #[]) ∧ JAll w W' U b g (S.setLimit n) R J ∧ Chg U W W' := by
 obtain ⟨F, G, h1, h2, h3⟩ := h.st
 obtain ⟨ev, h4, h5⟩ := h1.mem
 refine (SetLimit_any n h1.dev).mono ?_
 rintro e W' ⟨rfl, k1, k2⟩
 exact ⟨rfl, ⟨h.below.trans (k2.below (fun k hk => h.lo k (h2 k hk)) h.below.size), ⟨F, G, ⟨k1, ⟨ev, h4.chg k2 h1.fg, h5.chg k2 (fun k _ hk => h1.fG k hk)⟩, h1.fg, h1.gG, h1.fG, fun k hk => Nat.lt_of_lt_of_le (h1.fl k hk) k2.size, fun k hk => Nat.lt_of_lt_of_le (h1.gl k hk) k2.size⟩, h2, h3⟩, h.ug, h.lo⟩, k2.mono h2⟩
/-- Between the operations of the law. -/
def DurI (S : DS) (R : JR) (J : JD) (t : Nat) (fm : Nat → Option (List UInt8)) (fi cu : Int) : Prop :=
 (Live S R J t ∧ AllE fm J.first J.ents ∧ fi = J.first ∧ cu = J.first ∧ J.failed = 0) ∨
 (J.failed = 28 ∧ S.down = true ∧ Roomy S 900000000 ∧ Found S R 100 (GoodE R (fun x => x = fi ∨ x = cu) J.synced fm 100))
/-- At the end of them. -/
theorem DurI.end {S : DS} {R : JR} {J : JD} {t : Nat} {fm : Nat → Option (List UInt8)} {fi cu : Int} (h : DurI S R J t fm fi cu) (ht : t ≤ 40) : Roomy { S with down := true } 900000000 ∧ Found { S with down := true } R 100 (GoodE R (fun x => x = fi ∨ x = cu) J.synced fm 100) := by
 rcases h with ⟨h1, h2, h3, h4, _⟩ | ⟨_, _, h3, h4⟩
 ·refine ⟨⟨?_, ?_, h1.room.lim⟩, ((h1.found h2).same (S' := { S with down := true }) ⟨rfl, rfl⟩).mono (fun f E q => ⟨.inl (q.fs.trans h3.symm), q.sy, q.all, by have := q.n; omega, q.short, q.size⟩) (by omega)⟩
  ·have := h1.room.ops; show S.ops + _ ≤ _; omega
  ·have := h1.room.pend; show S.pend.length + _ ≤ _; omega
 ·exact ⟨⟨h3.ops, h3.pend, h3.lim⟩, h4.same ⟨rfl, rfl⟩⟩
/-- What the first open finds, and the second one if the first is cut short. -/
theorem Found.reopen {S S2 S3 : DS} {R : JR} {M : Nat} {Q : Nat → List (List UInt8) → Prop} (h : Found S R M Q) (hd : S.down = true) {cs : List UInt8} (hcs : ∀ i, (cs.getD i 0).toNat % 3 ≠ 2) (hr : R.at_ + R.cnt ≤ S.dur.length) (hm : S.dur.length ≤ 4096) (hM : M + 2 ≤ 2147483647)
  (hQ : ∀ f E, Q f E → f + E.length ≤ 2147483647 ∧ shortE E ∧ sizeE E ≤ R.half) {m : Nat} (hroom : Roomy S (m + 10000)) (hS2 : (S.restart cs).1 = S2) {n : Int} (hn : n ≤ 1000) (hS3 : S3 = S2 ∨ S3 = S2.setLimit n) :
  ∃ (y : ArD) (S4 : DS) (er : Int) (J4 : JD), Q y.first y.ents ∧ currL S3 R = some y ∧ JLim (nextG (1 - y.gen % 2) (secL S3 R.at_ R.cnt)) y.first y.ents.length y.ents ∧ sizeE y.ents ≤ 5000 ∧ Roomy S3 (sizeE y.ents + 1) ∧ S3.down = false ∧ S3.dur.length = S.dur.length ∧
   moveJ S3 R (1 - y.gen % 2) y.first y.ents = (S4, er, J4) ∧ (er = 0 → J4.first = y.first ∧ J4.ents = y.ents) ∧ (S3 = S2 → er = 0) ∧
   (er ≠ 0 → er = 28 ∧ S4.down = true ∧ S4.dur.length = S.dur.length ∧ Roomy S4 m ∧ Found S4 R (M + 2) (fun f E => f = y.first ∧ E = y.ents)) := by
 obtain ⟨r1, r2, r3, r4, r5, r6⟩ := restart_cand hd hcs
 rw [hS2] at r2 r3 r4 r5 r6
 have hhalf : R.half ≤ R.cnt := by unfold JR.half; omega
 have e : S3.pend = S2.pend ∧ S3.dur = S2.dur ∧ S3.ops = S2.ops ∧ S3.down = S2.down ∧ S3.limit.getD 0 ≤ 9223372036854775807 := by
  rcases hS3 with rfl | rfl
  ·exact ⟨rfl, rfl, rfl, rfl, by rw [r4]; simp⟩
  ·refine ⟨rfl, rfl, rfl, rfl, ?_⟩
   show (if 0 ≤ n then some n.toNat else none).getD 0 ≤ _
   split
   ·simp; omega
   ·simp
 obtain ⟨y, q, k1, k2, k3, k4, k5⟩ := h.back hd hcs hr hM hQ hroom (S2 := S3) (by rw [e.1, hS2]) (by rw [e.2.1, hS2]) (by rw [e.2.2.1, hS2]) (by rw [e.2.2.2.1, hS2]) e.2.2.2.2
 have hsz := (hQ _ _ q).2.2
 have hrm := moveJ_room (m := m) k1.lim (k3.less (by omega))
 obtain ⟨g1, g2⟩ := k1.good
 obtain ⟨z, hz⟩ : ∃ z, moveJ S3 R (1 - y.gen % 2) y.first y.ents = z := ⟨_, rfl⟩
 have hfl := moveJ_fail k1
 have hfi := moveJ_first S3 R (1 - y.gen % 2) y.first y.ents
 have hln := (moveJ_any k1).2.2
 have hnl : S3 = S2 → (moveJ S3 R (1 - y.gen % 2) y.first y.ents).2.1 = 0 := fun e3 => (moveJ_nolim k1 (by rw [e3]; exact r4) k4).1
 rw [hz] at hrm g2 hfl hfi hln hnl
 obtain ⟨S4, er, J4⟩ := z
 exact ⟨y, S4, er, J4, q, k2, k1.lim, by omega, k3.less (by omega), k4, k5, hz, hfi, hnl, fun h0 => ⟨(hfl h0).1, (hfl h0).2, hln.trans k5, hrm, g2⟩⟩
set_option maxRecDepth 100000 in
set_option maxHeartbeats 2000000 in
theorem JournalDurability_any {w : World} (hK : KAt w) (sd : Nat) (hs : sd < 256) {va : Option Addr} {vc : Nat} {L : List JOp} (hv : JOpsAt w (.slice va L.length vc) L) (lb : Nat) (hlb : lb < 256) {ca : Option Addr} {cc : Nat} {cs : List UInt8} {D1 : Nat → Prop} (hcs : BytesN w D1 (.slice ca cs.length cc) cs) (ag : Nat) (hag : ag < 256) {da : Option Addr} {dc : Nat} {ds : List UInt8} {D2 : Nat → Prop} (hds : BytesN w D2 (.slice da ds.length dc) ds) :
  Calls Tryd.prog 9 #[.int .u8 (sd : Int), .slice va L.length vc, .int .u8 (lb : Int), .slice ca cs.length cc, .int .u8 (ag : Int), .slice da ds.length dc] w fun e w' => e = .returned (.bool true) ∧ Below w.heap.size w w' := by
 have HKN := Lib.hid (fun (V : World) (hV : Below w.heap.size w V) => known_any (KAt.below hK hV hK.size))
 have HK := Lib.hid hK
 have hK0 := hK.size
 obtain ⟨sz, hsz⟩ : ∃ sz, 8 + sd % 36 = sz := ⟨_, rfl⟩
 have hs8 : 8 ≤ sz ∧ sz ≤ 43 := by omega
 have HSZ := Lib.hid (fun w1 : World => size_any (w := w1) sd hs)
 rw [hsz] at HSZ
 obtain ⟨hlim0, S1, S2, s1, s2, s3, s4, s5, s6, s7, s8, s9, s10, s11⟩ := start_ok (S := newDS 48) (R := ⟨3, sz⟩) (newDS_blank (by show 3 + sz ≤ 48; omega)) rfl rfl hs8.1 (by show 3 + sz ≤ (List.replicate 48 zeros).length; rw [List.length_replicate]; omega) ⟨by show 0 + 999995000 ≤ _; omega, by show 0 + 999995000 ≤ _; omega, by show 0 ≤ _; omega⟩
 have hl48 : (newDS 48).dur.length = 48 := List.length_replicate ..
 rw [hl48] at s3 s10
 have HST := Lib.hid (show JLim (nextG 0 (secL (newDS 48) 3 sz)) 0 0 [] ∧ (moveJ (newDS 48) ⟨3, sz⟩ 0 0 []).1 = S1 ∧ (moveJ (newDS 48) ⟨3, sz⟩ 0 0 []).2.1 = 0 from ⟨hlim0, s1, s2⟩)
 have HOP := Lib.hid (show S1.dur.length = 48 ∧ S1.down = false ∧ Roomy S1 999994000 ∧ currL S1 ⟨3, sz⟩ = some ⟨0, 0, []⟩ ∧ JLim (nextG (1 - (0 : Nat) % 2) (secL S1 3 sz)) 0 ([] : List (List UInt8)).length [] ∧ moveJ S1 ⟨3, sz⟩ (1 - (0 : Nat) % 2) 0 [] = (S2, 0, ⟨1, 1, 0, [], 0, 0⟩) from ⟨s3, s4, s6, s7, s8, s9⟩)
 obtain ⟨J1, hJ1⟩ : ∃ J1, (⟨1, 1, 0, [], 0, 0⟩ : JD) = J1 := ⟨_, rfl⟩
 have HJL := Lib.hid (show J1.ents.length = 0 by rw [← hJ1]; rfl)
 have HJE := Lib.hid (show J1.ents = [] ∧ J1.first = 0 ∧ J1.synced = 0 by rw [← hJ1]; exact ⟨rfl, rfl, rfl⟩)
 rw [hJ1] at HOP s11
 have HOK1 := Lib.hid s11
 have HS2 := Lib.hid s10
 clear s1 s2 s3 s4 s5 s6 s7 s8 s9 s10 s11 hlim0 hl48 hJ1 hK hsz
 have HV := Lib.hid hv
 have HFI := Lib.hid (fun (V : World) (hV : Below w.heap.size w V) => fits_any (hv.below hV))
 have HFA := Lib.hid (fun (hl : cs.length ≤ 200) (V : World) (hV : Below w.heap.size w V) => Fates_any (hcs.below hV) hl)
 have HFA2 := Lib.hid (fun (hl : ds.length ≤ 200) (V : World) (hV : Below w.heap.size w V) => Fates_any (hds.below hV) hl)
 obtain ⟨n, hn⟩ : ∃ n, L.length = n := ⟨_, rfl⟩
 obtain ⟨nc, hnc⟩ : ∃ n, cs.length = n := ⟨_, rfl⟩
 obtain ⟨nd, hnd⟩ : ∃ n, ds.length = n := ⟨_, rfl⟩
 have HN := Lib.hid hn
 have HNC0 := Lib.hid hnc
 have HND0 := Lib.hid hnd
 have hnm : n ≤ 9223372036854775807 := by
  obtain ⟨a', c', e, h1, h2, _⟩ := hv
  unfold maxLen at h2
  omega
 rw [hn] at HV HFI ⊢
 rw [hnc] at HFA ⊢
 rw [hnd] at HFA2 ⊢
 obtain ⟨fb, hfb⟩ : ∃ fb, fitsB L = fb := ⟨_, rfl⟩
 rw [hfb] at HFI
 have HFB := Lib.hid hfb
 clear hv hcs hds hn hnc hnd hfb
 go_enter Tryd.func9, Tryd.ntmps9
 go_wp2_with fail
 refine (HKN.out w (Below.refl _ _)).mono ?_
 rintro e V0 ⟨rfl, hb0⟩
 have HBV0 := Lib.hid hb0
 clear hb0
 go_wp2_with fail
 refine (HFI.out V0 HBV0.out).mono ?_
 rintro e W0 ⟨rfl, hb0⟩
 have HBW0 := Lib.hid (HBV0.out.trans (hb0.mono HBV0.out.size))
 clear hb0
 cases fb with
 | false =>
  go_wp2_with fail
  refine (HKN.out W0 HBW0.out).mono ?_
  rintro e W9 ⟨rfl, hb9⟩
  have HB9 := Lib.hid (HBW0.out.trans (hb9.mono HBW0.out.size))
  go_wp2_with fail
  exact bodyPost_ret (v := .bool true) (by simp [results, Tryd.results9, go_sem]) rfl ⟨rfl, HB9.out⟩
 | true =>
 have hn30 : n ≤ 30 := by
  have h1 := HFB.out
  unfold fitsB at h1
  rw [Bool.and_eq_true] at h1
  have h2 := of_decide_eq_true h1.2
  rw [HN.out] at h2
  exact h2
 by_cases hc200 : nc ≤ 200
 case neg =>
  have h20I : (200 : Int) < (nc : Int) := by omega
  go_wp2_with fail
  refine (HKN.out W0 HBW0.out).mono ?_
  rintro e W9 ⟨rfl, hb9⟩
  have HB9 := Lib.hid (HBW0.out.trans (hb9.mono HBW0.out.size))
  go_wp2_with fail
  exact bodyPost_ret (v := .bool true) (by simp [results, Tryd.results9, go_sem]) rfl ⟨rfl, HB9.out⟩
 have h20I : ¬ (200 : Int) < (nc : Int) := by omega
 have h20Id : decide ((200 : Int) < (nc : Int)) = false := by simp; omega
 by_cases hd200 : nd ≤ 200
 case neg =>
  have h21I : (200 : Int) < (nd : Int) := by omega
  go_wp2_with fail
  refine (HKN.out W0 HBW0.out).mono ?_
  rintro e W9 ⟨rfl, hb9⟩
  have HB9 := Lib.hid (HBW0.out.trans (hb9.mono HBW0.out.size))
  go_wp2_with fail
  exact bodyPost_ret (v := .bool true) (by simp [results, Tryd.results9, go_sem]) rfl ⟨rfl, HB9.out⟩
 have h21I : ¬ (200 : Int) < (nd : Int) := by omega
 have h21Id : decide ((200 : Int) < (nd : Int)) = false := by simp; omega
 have HFA3 := Lib.hid (HFA.out hc200)
 have HFA4 := Lib.hid (HFA2.out hd200)
 clear HFA HFA2
 go_wp2_with fail
 refine (New_good 48 W0 (by omega) (by omega)).mono ?_
 rintro e W1 ⟨rfl, hd1, hb1⟩
 obtain ⟨b, hbE⟩ : ∃ b, W0.heap.size + 1 = b := ⟨_, rfl⟩
 rw [hbE] at hd1 ⊢
 have HB1 := Lib.hid (HBW0.out.trans (hb1.mono HBW0.out.size))
 have HD1 := Lib.hid (hd1.mono (G := fun k => w.heap.size ≤ k) (fun k h => Nat.le_trans HBW0.out.size h))
 clear hbE hb1 hd1
 go_wp2_with fail
 refine (HSZ.out W1).mono ?_
 rintro e W1a ⟨rfl, hb⟩
 have HB1a := Lib.hid (HB1.out.trans (hb.mono HB1.out.size))
 have HD1a := Lib.hid (HD1.out.below hb)
 clear hb
 go_wp2_with fail
 refine (JFormat_z HD1a.out (KAt.below HK.out HB1a.out hK0) (by omega) 3 sz hs8.1 (by show 3 + sz ≤ (List.replicate 48 zeros).length; rw [List.length_replicate]; omega) rfl HST.out.1 ⟨by show 0 + 2 ≤ _; omega, by show 0 + 2 ≤ _; omega, by show 0 ≤ _; omega⟩ HST.out.2.1 HST.out.2.2).mono ?_
 rintro e W2 ⟨rfl, hd2, hc2⟩
 have HB2 := Lib.hid (HB1a.out.trans (hc2.below (fun k e => e) HB1a.out.size))
 have HD2 := Lib.hid (hd2.mono (G := fun k => w.heap.size ≤ k) (fun k h => h.elim id (fun h2 => Nat.le_trans HB1a.out.size h2)))
 clear hd2 hc2
 go_wp2_with fail
 refine (HSZ.out W2).mono ?_
 rintro e W2a ⟨rfl, hb⟩
 have HB2a := Lib.hid (HB2.out.trans (hb.mono HB2.out.size))
 have HD2a := Lib.hid (HD2.out.below hb)
 clear hb
 go_wp2_with fail
 refine (JOpen_z HB2a.out HD2a.out HK.out (fun k e => e) 3 sz hs8.1 (by rw [HOP.out.1]; omega) HOP.out.2.1 ⟨0, 0, []⟩ HOP.out.2.2.2.1 HOP.out.2.2.2.2.1 (by decide) (HOP.out.2.2.1.less (by decide)) HOP.out.2.2.2.2.2).mono ?_
 rintro e W3 ⟨g, N, la, lc, rfl, hj, _, _, _⟩
 rw [HJL.out]
 obtain ⟨U3, hj3, hU3⟩ := hj.ja
 have HJA3 := Lib.hid hj3
 have HU3 := Lib.hid hU3
 obtain ⟨R, hR⟩ : ∃ R : JR, (⟨3, sz⟩ : JR) = R := ⟨_, rfl⟩
 rw [hR] at HJA3 HOK1
 have HRE := Lib.hid hR
 clear hj hj3 hU3 hR HST HOP
 go_wp2_with fail
 refine (SetLimit_all HJA3.out (lb : Int)).mono ?_
 rintro e W3' ⟨rfl, hjl, hcl⟩
 have HJA3l := Lib.hid hjl
 have HU3l := Lib.hid (show ∀ k, U3 k → k < W3'.heap.size from fun k hk => Nat.lt_of_lt_of_le (HU3.out k hk) hcl.size)
 have HLV := Lib.hid (show Live (S2.setLimit (lb : Int)) R J1 1 from HOK1.out.live.limit rfl rfl rfl rfl (by unfold DS.setLimit; rw [if_pos (by omega)]; simp; omega))
 clear hjl hcl
 have hmm := @run_makeMap Tryd.prog
 obtain ⟨W4, hW4⟩ : ∃ W4, W3'.alloc (.map #[] 0) = W4 := ⟨_, rfl⟩
 have HW4 := Lib.hid hW4
 have hb4 : Below W3'.heap.size W3' W4 := hW4 ▸ (Below.refl _ _).alloc (Nat.le_refl _) _
 obtain ⟨m, hm⟩ : ∃ m, W3'.heap.size = m := ⟨_, rfl⟩
 have HSM4 := Lib.hid (show SMap W4 m (fun _ => none) by rw [← hm, ← hW4]; exact SMap.new W3')
 have HJA4 := Lib.hid (HJA3l.out.step hb4)
 have HUL4 := Lib.hid (show ∀ k, U3 k → k < W4.heap.size from fun k hk => Nat.lt_of_lt_of_le (HU3l.out k hk) hb4.size)
 have HUM4 := Lib.hid (show ¬ U3 m from fun h => by have := HU3l.out m h; omega)
 have HMW := Lib.hid (show w.heap.size ≤ m by rw [← hm]; exact HJA3l.out.below.size)
 have HDU4 := Lib.hid (show DurI (S2.setLimit (lb : Int)) R J1 (0 + 1) (fun _ => none) 0 0 from .inl ⟨HLV.out, fun k hk => by rw [HJL.out] at hk; omega, by rw [HJE.out.2.1]; rfl, by rw [HJE.out.2.1]; rfl, by obtain ⟨c, hc⟩ := HLV.out.ji; exact hc.failed⟩)
 have HDL4 := Lib.hid (show (S2.setLimit (lb : Int)).dur.length = 48 from HS2.out)
 clear hb4 hW4 HJA3 HOK1
 go_wp2_with fail
 rw [HW4.out]
 try rw [hm]
 clear hm
 go_loopw [18, 19, 20] (fun fv cv iv wr => ∃ (i : Nat) (S : DS) (J : JD) (fm : Nat → Option (List UInt8)) (U : Nat → Prop) (fi cu : Int), i ≤ n ∧ iv = .int .i64 (i : Int) ∧ fv = .int .i64 fi ∧ cv = .int .i64 cu ∧ Hid (DurI S R J (i + 1) fm fi cu) ∧ S.dur.length = 48 ∧ Hid (JAll w wr U b g S R J) ∧ Hid (∀ k, U k → k < wr.heap.size) ∧ Hid (¬ U m) ∧ Hid (SMap wr m fm)) (fun _ _ iv _ => n - (intOf iv).toNat)
 case atStart => exact ⟨0, S2.setLimit (lb : Int), J1, _, U3, 0, 0, Nat.zero_le _, rfl, rfl, rfl, HDU4, HDL4.out, HJA4, HUL4, HUM4, HSM4⟩
 case round =>
  clear HDU4 HDL4 HJA4 HUL4 HUM4 HSM4 HJA3l HU3l HLV HU3
  obtain ⟨i, S, J, fm, U, fi, cu, hi, rfl, rfl, rfl, HDU, hdl, HJA, HUL, HUM, HSM⟩ := hrel
  obtain ⟨V0, rfl⟩ : ∃ V0, V0 = wr := ⟨_, rfl⟩
  by_cases hgo : i < n ∧ J.failed = 0
  case pos =>
   obtain ⟨hlt, hf0⟩ := hgo
   rcases HDU.out with ⟨hlv, hae, hfi, hcu, _⟩ | ⟨h28, _⟩
   case inr => rw [hf0] at h28; exact absurd h28 (by decide)
   have HLV := Lib.hid hlv
   have HAE := Lib.hid hae
   subst hfi hcu
   clear HDU hlv hae
   have HNM := Lib.hid (HLV.out.num (by omega) (by omega))
   have hiI : (i : Int) < (n : Int) := by omega
   have hiL : i < L.length := by rw [HN.out]; exact hlt
   obtain ⟨o, ho⟩ : ∃ o, L[i] = o := ⟨_, rfl⟩
   obtain ⟨g0, off, e9, hg0, k0, k1, k2, k3, hat⟩ := HV.out.get hiL
   subst e9
   rw [ho] at k0 k1 k2 k3 hat
   have HAT := Lib.hid hat
   have HCE := Lib.hid (show ∀ V, Below w.heap.size w V → V.cell? ⟨g0, off + i * 4, none⟩ = some (.int .u8 (o.kind : Int)) ∧ V.cell? ⟨g0, off + i * 4 + 1, none⟩ = some (.int .u16 (o.n : Int)) ∧ V.cell? ⟨g0, off + i * 4 + 2, none⟩ = some (.int .u8 (o.b.toNat : Int)) ∧ V.cell? ⟨g0, off + i * 4 + 3, none⟩ = some (.slice o.a o.cs.length o.cap) from fun V hV =>
    ⟨(hV.cell (p := ⟨g0, off + i * 4, none⟩) hg0).trans k0, (hV.cell (p := ⟨g0, off + i * 4 + 1, none⟩) hg0).trans k1, (hV.cell (p := ⟨g0, off + i * 4 + 2, none⟩) hg0).trans k2, (hV.cell (p := ⟨g0, off + i * 4 + 3, none⟩) hg0).trans k3⟩)
   have HSP := Lib.hid (HLV.out.step (by omega) (by omega) o HAE.out)
   have HST := Lib.hid (fun (V : World) (U' : Nat → Prop) (hJ : JAll w V U' b g S R J) (hU : ∀ k, U' k → k < V.heap.size) hkd hon => step_any hJ hU HK.out HNM.out o hkd hon)
   have HCU := Lib.hid (show cutO J o = if o.kind % 3 = 2 then (J.first : Int) + ((o.n % 12 : Nat) : Int) - 2 else J.first from rfl)
   have HNO := Lib.hid (show noted fm J o = if o.kind % 3 = 0 then (fun x => if x = J.next then some (lawB o.n o.b) else fm x) else fm from rfl)
   have HNOA := Lib.hid (noted_all (o := o) HAE.out)
   have hjn : J.next ≤ i + 1 := HLV.out.nx
   have hjn2 : J.first ≤ J.next := by unfold JD.next; omega
   have HJN := Lib.hid (show J.first + J.ents.length ≤ J.next from Nat.le_refl _)
   obtain ⟨z, hz⟩ : ∃ z, stepJ S R J o = z := ⟨_, rfl⟩
   rw [hz] at HST HSP
   obtain ⟨S', J', er⟩ := z
   simp only at HST HSP
   obtain ⟨nf, hnf⟩ : ∃ f, noted fm J o = f := ⟨_, rfl⟩
   rw [hnf] at HSP HNO HNOA
   obtain ⟨ct, hct⟩ : ∃ c, cutO J o = c := ⟨_, rfl⟩
   rw [hct] at HSP HCU
   clear hat ho hz k0 k1 k2 k3 hnf hct
   unfold JOp.cells at HST
   obtain ⟨okd, hokd⟩ : ∃ okd, o.kind = okd := ⟨_, rfl⟩
   obtain ⟨on, hon⟩ : ∃ on, o.n = on := ⟨_, rfl⟩
   obtain ⟨ob, hob⟩ : ∃ ob, o.b = ob := ⟨_, rfl⟩
   obtain ⟨oa, hoa⟩ : ∃ oa, o.a = oa := ⟨_, rfl⟩
   obtain ⟨ol, hol⟩ : ∃ ol, o.cs.length = ol := ⟨_, rfl⟩
   obtain ⟨oc, hoc⟩ : ∃ oc, o.cap = oc := ⟨_, rfl⟩
   have hkd2 : okd < 256 := by rw [← hokd]; exact HAT.out.kd
   have hon2 : on < 65536 := by rw [← hon]; exact HAT.out.n
   rw [hokd, hon, hob, hoa, hol, hoc] at HST
   rw [hokd, hon, hob, hoa, hol, hoc] at HCE
   rw [hokd, hon] at HCU
   rw [hokd, hon, hob] at HNO
   have HBY := Lib.hid (fun V : World => bytes_any (w := V) on hon2 ob)
   obtain ⟨obt, hobt⟩ : ∃ obt, ob.toNat = obt := ⟨_, rfl⟩
   rw [hobt] at HST HCE HBY
   obtain ⟨nx, hnx⟩ : ∃ nx, J.next = nx := ⟨_, rfl⟩
   rw [hnx] at HNO HJN hjn hjn2
   have HNX := Lib.hid hnx
   have HFD := Lib.hid hf0
   clear hokd hon hob hoa hol hoc hobt HAT hnx
   obtain ⟨jf, hjf⟩ : ∃ jf, J.first = jf := ⟨_, rfl⟩
   rw [hjf] at HCU HJN hjn2 ⊢
   have HJF := Lib.hid hjf
   clear hjf hf0
   go_wp2_with fail
   refine (Failed_all HJA.out).mono ?_
   rintro e V1 ⟨rfl, hb⟩
   rw [HFD.out]
   have HB1 := Lib.hid hb
   clear hb
   go_wp2_with fail
   refine (Next_all (HJA.out.step HB1.out) HNM.out.nx).mono ?_
   rintro e V2 ⟨rfl, hb⟩
   rw [HNX.out]
   have HB2 := Lib.hid (HB1.out.trans (hb.mono HB1.out.size))
   clear hb
   go_wp2_with fail
   refine (First_all (HJA.out.step HB2.out)).mono ?_
   rintro e V3 ⟨rfl, hb⟩
   rw [HJF.out]
   have HB3 := Lib.hid (HB2.out.trans (hb.mono HB2.out.size))
   have HJ3 := Lib.hid (HJA.out.step HB3.out)
   have HM3 := Lib.hid (HSM.out.below HB3.out)
   have HUL3 := Lib.hid (show ∀ k, U k → k < V3.heap.size from fun k hk => Nat.lt_of_lt_of_le (HUL.out k hk) HB3.out.size)
   obtain ⟨c0, c1, c2, c3⟩ := HCE.out V3 HJ3.out.below
   clear hb HB1 HB2
   by_cases hk0 : okd % 3 = 0
   ·have hk0I : (okd : Int) % 3 = 0 := by omega
    have hk2I : ¬ (okd : Int) % 3 = 2 := by omega
    have HNO2 := Lib.hid (show (fun x => if x = nx then some (lawB on ob) else fm x) = nf by have h1 := HNO.out; rw [if_pos hk0] at h1; exact h1.symm)
    have HCU2 := Lib.hid (show (jf : Int) = ct by have h1 := HCU.out; rw [if_neg (by omega)] at h1; exact h1.symm)
    go_wp2_with fail
    refine wp_region_noPanic ?_
    refine wp_region_G [14] (Below V3.heap.size V3) (by kernel_rfl) ?_
    have hS0 : (Below V3.heap.size V3) V3.drew := ((Below.refl _ _).drew)
    obtain ⟨wd, hwd⟩ : ∃ wd, V3.drew = wd := ⟨_, rfl⟩
    rw [hwd] at hS0 ⊢
    have hd0 : Below V3.heap.size V3 wd := hwd ▸ (Below.refl _ _).drew
    clear hwd
    refine wpAnyG_pure (i := 0) (v := ?v130) rfl (by kernel_rfl) (by kernel_rfl) (by kernel_rfl) (by kernel_rfl) (fun _ _ _ h => h) (yieldsIf_run rfl (fun w' hw' => ?y130)) (fun _ => hS0) ?_
    case y130 => first | (go_simp; rfl) | (go_simp; done) | rfl
    simp only [Act.put, List.setIfInBounds_toArray, List.set_cons_zero, List.set_cons_succ]
    refine wpAnyG_pure (i := 1) (v := ?v131) rfl (by kernel_rfl) (by kernel_rfl) (by kernel_rfl) (by kernel_rfl) (fun _ _ _ h => h) (yieldsIf_run rfl (fun w' hw' => ?y131)) (fun _ => hS0) ?_
    case y131 => first | (go_simp; rfl) | (go_simp; done) | rfl
    simp only [Act.put, List.setIfInBounds_toArray, List.set_cons_zero, List.set_cons_succ]
    refine wpAnyG_pure (i := 2) (v := ?v132) rfl (by kernel_rfl) (by kernel_rfl) (by kernel_rfl) (by kernel_rfl) (fun _ _ _ h => h) (yieldsIf_run rfl (fun w' hw' => ?y132)) (fun _ => hS0) ?_
    case y132 => first | (go_simp; rfl) | (go_simp; done) | rfl
    simp only [Act.put, List.setIfInBounds_toArray, List.set_cons_zero, List.set_cons_succ]
    refine wpAnyG_pure (i := 3) (v := ?v133) rfl (by kernel_rfl) (by kernel_rfl) (by kernel_rfl) (by kernel_rfl) (fun _ _ _ h => h) (yieldsIf_run rfl (fun w' hw' => ?y133)) (fun _ => hS0) ?_
    case y133 => first | (go_simp; rfl) | (go_simp; done) | rfl
    simp only [Act.put, List.setIfInBounds_toArray, List.set_cons_zero, List.set_cons_succ]
    refine wpAnyG_pure (i := 4) (v := ?v134) rfl (by kernel_rfl) (by kernel_rfl) (by kernel_rfl) (by kernel_rfl) (fun _ _ _ h => h) (yieldsIf_run rfl (fun w' hw' => ?y134)) (fun _ => hS0) ?_
    case y134 => first | (go_simp; rfl) | (go_simp; done) | rfl
    simp only [Act.put, List.setIfInBounds_toArray, List.set_cons_zero, List.set_cons_succ]
    refine wpAnyG_pure (i := 5) (v := ?v135) rfl (by kernel_rfl) (by kernel_rfl) (by kernel_rfl) (by kernel_rfl) (fun _ _ _ h => h) (yieldsIf_run rfl (fun w' hw' => ?y135)) (fun _ => hS0) ?_
    case y135 => first | (go_simp; rfl) | (go_simp; done) | rfl
    simp only [Act.put, List.setIfInBounds_toArray, List.set_cons_zero, List.set_cons_succ]
    refine wpAnyG_takeZ (i := 6) (v := ?v136) rfl (by kernel_rfl) (by kernel_rfl) (by kernel_rfl) (by kernel_rfl) (fun _ _ _ h => h) (yieldsIf_run rfl (fun w' hw' => ?y136)) hS0 ?_
    case y136 => (obtain ⟨h0, h1, h2, h3⟩ := HCE.out w' (HJ3.out.below.trans (hw'.mono HJ3.out.below.size)); clear hw'; first | (go_simp; rfl) | (go_simp; done))
    simp only [Act.put, List.setIfInBounds_toArray, List.set_cons_zero, List.set_cons_succ]
    refine wpAnyG_pure (i := 7) (v := ?v137) rfl (by kernel_rfl) (by kernel_rfl) (by kernel_rfl) (by kernel_rfl) (fun _ _ _ h => h) (yieldsIf_run rfl (fun w' hw' => ?y137)) (fun _ => hS0) ?_
    case y137 => first | (go_simp; rfl) | (go_simp; done) | rfl
    simp only [Act.put, List.setIfInBounds_toArray, List.set_cons_zero, List.set_cons_succ]
    refine wpAnyG_pure (i := 8) (v := ?v138) rfl (by kernel_rfl) (by kernel_rfl) (by kernel_rfl) (by kernel_rfl) (fun _ _ _ h => h) (yieldsIf_run rfl (fun w' hw' => ?y138)) (fun _ => hS0) ?_
    case y138 => first | (go_simp; rfl) | (go_simp; done) | rfl
    simp only [Act.put, List.setIfInBounds_toArray, List.set_cons_zero, List.set_cons_succ]
    refine wpAnyG_pure (i := 9) (v := ?v139) rfl (by kernel_rfl) (by kernel_rfl) (by kernel_rfl) (by kernel_rfl) (fun _ _ _ h => h) (yieldsIf_run rfl (fun w' hw' => ?y139)) (fun _ => hS0) ?_
    case y139 => first | (go_simp; rfl) | (go_simp; done) | rfl
    simp only [Act.put, List.setIfInBounds_toArray, List.set_cons_zero, List.set_cons_succ]
    refine wpAnyG_pure (i := 10) (v := ?v140) rfl (by kernel_rfl) (by kernel_rfl) (by kernel_rfl) (by kernel_rfl) (fun _ _ _ h => h) (yieldsIf_run rfl (fun w' hw' => ?y140)) (fun _ => hS0) ?_
    case y140 => first | (go_simp; rfl) | (go_simp; done) | rfl
    simp only [Act.put, List.setIfInBounds_toArray, List.set_cons_zero, List.set_cons_succ]
    refine wpAnyG_takeZ (i := 11) (v := ?v141) rfl (by kernel_rfl) (by kernel_rfl) (by kernel_rfl) (by kernel_rfl) (fun _ _ _ h => h) (yieldsIf_run rfl (fun w' hw' => ?y141)) hS0 ?_
    case y141 => (obtain ⟨h0, h1, h2, h3⟩ := HCE.out w' (HJ3.out.below.trans (hw'.mono HJ3.out.below.size)); clear hw'; first | (go_simp; rfl) | (go_simp; done))
    simp only [Act.put, List.setIfInBounds_toArray, List.set_cons_zero, List.set_cons_succ]
    refine wpAnyG_do (i := 12) (by kernel_rfl) rfl rfl (fun K hK => ?_)
    go_simp
    go_at_call 16
    refine (HBY.out wd).mono ?_
    rintro e Vb ⟨ba3, bc3, rfl, hv3, hb3⟩
    have hb03 := hd0.trans (hb3.mono hd0.size)
    refine hK _ _ hb03 ?_
    clear hK K
    try simp only [Act.put, List.setIfInBounds_toArray, List.set_cons_zero, List.set_cons_succ]
    refine wpAnyG_do (i := 13) (by kernel_rfl) rfl rfl (fun K hK => ?_)
    have hstr := hv3.at_.str
    go_simp
    refine hK _ _ hb03 ?_
    clear hK K
    try simp only [Act.put, List.setIfInBounds_toArray, List.set_cons_zero, List.set_cons_succ]
    refine wpAnyG_fin (i := 14) (by kernel_rfl) rfl rfl (by kernel_rfl) (fun K hK => ?_)
    obtain ⟨V4, hrun, hm4, hc4⟩ := (HM3.out.below hb03).upd nx (by omega) (lawB on ob)
    go_simp
    refine hK _ _ ?_
    clear hK K
    try simp only [Act.put, List.setIfInBounds_toArray, List.set_cons_zero, List.set_cons_succ]
    refine wpAnyG_done (by kernel_rfl) ?_ _
    refine NoPanic.normal ?_
    have HJ4 := Lib.hid ((HJ3.out.step hb03).chg hc4 (fun k _ h1 => h1 ▸ HUM.out) (fun k h1 => h1 ▸ HMW.out))
    have HM4 := Lib.hid (show SMap V4 m nf by rw [← HNO2.out]; exact hm4)
    have HUL4 := Lib.hid (show ∀ k, U k → k < V4.heap.size from fun k hk => Nat.lt_of_lt_of_le (HUL3.out k hk) (Nat.le_trans hb03.size hc4.size))
    clear c0 c1 c2 c3
    obtain ⟨c0, c1, c2, c3⟩ := HCE.out V4 HJ4.out.below
    clear hm4 hc4 hb03 hb3 hv3 hd0 hS0
    go_wp2_with fail
    refine (HST.out V4 _ HJ4.out HUL4.out hkd2 hon2).mono ?_
    rintro e V5 ⟨rfl, hj5, hc5⟩
    have HJ5 := Lib.hid hj5.tight
    have HM5 := Lib.hid (HM4.out.chg hc5 HUM.out)
    have HUL5 := Lib.hid (show ∀ k, (U k ∨ V4.heap.size ≤ k) ∧ k < V5.heap.size → k < V5.heap.size from fun k hk => hk.2)
    have HUM5 := Lib.hid (show ¬ ((U m ∨ V4.heap.size ≤ m) ∧ m < V5.heap.size) from fun h => h.1.elim HUM.out (fun h2 => by have := HM4.out.lt; omega))
    obtain ⟨hdl5, hsp⟩ := HSP.out
    have HDL5 := Lib.hid (show S'.dur.length = 48 from hdl5.trans hdl)
    clear hj5 hc5 hdl5 c0 c1 c2 c3
    obtain ⟨c0, c1, c2, c3⟩ := HCE.out V5 HJ5.out.below
    rcases hsp with ⟨hlv', hae', hrf⟩ | ⟨her, hjd, hdn, hrm, hfd⟩
    ·have HLV5 := Lib.hid hlv'
     have HAE5 := Lib.hid hae'
     have HF5 := Lib.hid (show J'.failed = 0 by obtain ⟨c, hc⟩ := HLV5.out.ji; exact hc.failed)
     by_cases her : er = 0
     ·subst her
      clear hlv' hae' hrf
      go_wp2_with fail
      refine (First_all HJ5.out).mono ?_
      rintro e V6 ⟨rfl, hb⟩
      have HJ6 := Lib.hid (HJ5.out.step hb)
      have HM6 := Lib.hid (HM5.out.below hb)
      have HB56 := Lib.hid hb.size
      clear hb
      go_wp2_with fail
      refine (First_all HJ6.out).mono ?_
      rintro e V7 ⟨rfl, hb⟩
      have HJ7 := Lib.hid (HJ6.out.step hb)
      have HM7 := Lib.hid (HM6.out.below hb)
      have HUL7 := Lib.hid (show ∀ k, (U k ∨ V4.heap.size ≤ k) ∧ k < V5.heap.size → k < V7.heap.size from fun k hk => Nat.lt_of_lt_of_le hk.2 (Nat.le_trans HB56.out hb.size))
      have HD7 := Lib.hid (show DurI S' R J' (i + 1 + 1) nf (J'.first : Int) (J'.first : Int) from .inl ⟨HLV5.out, HAE5.out, rfl, rfl, HF5.out⟩)
      clear hb
      go_wp2_with fail
      go_roundw
      case rel => exact ⟨i + 1, S', J', nf, _, _, _, by omega, by go_num, rfl, rfl, HD7, HDL5.out, HJ7, HUL7, HUM5, HM7⟩
      case measure => simp [intOf] <;> omega
     ·obtain rfl : J' = J := hrf her
      have hdt : (er == 0) = false := by simpa using her
      clear hlv' hae' hrf
      go_wp2_with fail
      refine (Failed_all HJ5.out).mono ?_
      rintro e V6 ⟨rfl, hb⟩
      rw [HF5.out]
      have HJ6 := Lib.hid (HJ5.out.step hb)
      have HM6 := Lib.hid (HM5.out.below hb)
      have HUL6 := Lib.hid (show ∀ k, (U k ∨ V4.heap.size ≤ k) ∧ k < V5.heap.size → k < V6.heap.size from fun k hk => Nat.lt_of_lt_of_le hk.2 hb.size)
      clear hb c0 c1 c2 c3
      obtain ⟨c0, c1, c2, c3⟩ := HCE.out V6 HJ6.out.below
      obtain ⟨V8, hrun, hm8, hc8⟩ := HM6.out.del nx (by omega)
      have HJ8 := Lib.hid (HJ6.out.chg hc8 (fun k _ h1 h2 => HUM5.out (h1 ▸ h2)) (fun k h1 => h1 ▸ HMW.out))
      have HM8 := Lib.hid hm8
      have HUL8 := Lib.hid (show ∀ k, (U k ∨ V4.heap.size ≤ k) ∧ k < V5.heap.size → k < V8.heap.size from fun k hk => Nat.lt_of_lt_of_le (HUL6.out k hk) hc8.size)
      have HD8 := Lib.hid (show DurI S' R J' (i + 1 + 1) (fun x => if x = nx then none else nf x) (jf : Int) (jf : Int) from .inl ⟨HLV5.out, HNOA.out.upd (by rw [HJF.out]; exact HJN.out), by rw [HJF.out], by rw [HJF.out], HF5.out⟩)
      clear hm8 hc8
      go_wp2_with fail
      go_roundw
      case rel => exact ⟨i + 1, S', J', _, _, _, _, by omega, by go_num, rfl, rfl, HD8, HDL5.out, HJ8, HUL8, HUM5, HM8⟩
      case measure => simp [intOf] <;> omega
    ·have hdt : (er == 0) = false := by simpa using her
     have HD9 := Lib.hid (show DurI S' R J' (i + 1 + 1) nf (jf : Int) (jf : Int) from .inr ⟨by rw [hjd], hdn, hrm.less (by omega), (hfd.mono (fun f E q => ⟨by have h1 := q.fs; rw [HJF.out, ← HCU2.out] at h1; exact h1, by rw [hjd]; exact q.sy, q.all, by have := q.n; omega, q.short, q.size⟩) (by omega))⟩)
     have HF9 := Lib.hid (show J'.failed = 28 by rw [hjd])
     clear hjd hdn hrm hfd
     go_wp2_with fail
     refine (Failed_all HJ5.out).mono ?_
     rintro e V6 ⟨rfl, hb⟩
     rw [HF9.out]
     have HJ6 := Lib.hid (HJ5.out.step hb)
     have HM6 := Lib.hid (HM5.out.below hb)
     have HUL6 := Lib.hid (show ∀ k, (U k ∨ V4.heap.size ≤ k) ∧ k < V5.heap.size → k < V6.heap.size from fun k hk => Nat.lt_of_lt_of_le hk.2 hb.size)
     clear hb
     go_wp2_with fail
     go_roundw
     case rel => exact ⟨i + 1, S', J', nf, _, _, _, by omega, by go_num, rfl, rfl, HD9, HDL5.out, HJ6, HUL6, HUM5, HM6⟩
     case measure => simp [intOf] <;> omega

   ·have hk0I : ¬ (okd : Int) % 3 = 0 := by omega
    have HNF := Lib.hid (show fm = nf by have h1 := HNO.out; rw [if_neg hk0] at h1; exact h1.symm)
    by_cases hk2 : okd % 3 = 2
    ·have hk2I : (okd : Int) % 3 = 2 := by omega
     have HCU2 := Lib.hid (show (jf : Int) + (on : Int) % 12 - 2 = ct by have h1 := HCU.out; rw [if_pos hk2] at h1; omega)
     have hw1 : IntKind.i64.wrap ((on : Int) % 12) = (on : Int) % 12 := IntWalk.i64_in _ (by omega)
     have hw2 : IntKind.i64.wrap ((jf : Int) + (on : Int) % 12) = (jf : Int) + (on : Int) % 12 := IntWalk.i64_in _ (by omega)
     have hw3 : IntKind.i64.wrap ((jf : Int) + (on : Int) % 12 - 2) = (jf : Int) + (on : Int) % 12 - 2 := IntWalk.i64_in _ (by omega)
     have HM3' := Lib.hid (show SMap V3 m nf by rw [← HNF.out]; exact HM3.out)
     go_wp2_with fail
     rw [HCU2.out]
     refine (HST.out V3 _ HJ3.out HUL3.out hkd2 hon2).mono ?_
     rintro e V5 ⟨rfl, hj5, hc5⟩
     have HJ5 := Lib.hid hj5.tight
     have HM5 := Lib.hid (HM3'.out.chg hc5 HUM.out)
     have HUL5 := Lib.hid (show ∀ k, (U k ∨ V3.heap.size ≤ k) ∧ k < V5.heap.size → k < V5.heap.size from fun k hk => hk.2)
     have HUM5 := Lib.hid (show ¬ ((U m ∨ V3.heap.size ≤ m) ∧ m < V5.heap.size) from fun h => h.1.elim HUM.out (fun h2 => by have := HM3'.out.lt; omega))
     obtain ⟨hdl5, hsp⟩ := HSP.out
     have HDL5 := Lib.hid (show S'.dur.length = 48 from hdl5.trans hdl)
     clear hj5 hc5 hdl5 c0 c1 c2 c3
     obtain ⟨c0, c1, c2, c3⟩ := HCE.out V5 HJ5.out.below
     rcases hsp with ⟨hlv', hae', hrf⟩ | ⟨her, hjd, hdn, hrm, hfd⟩
     ·have HLV5 := Lib.hid hlv'
      have HAE5 := Lib.hid hae'
      have HF5 := Lib.hid (show J'.failed = 0 by obtain ⟨c, hc⟩ := HLV5.out.ji; exact hc.failed)
      by_cases her : er = 0
      ·subst her
       clear hlv' hae' hrf
       go_wp2_with fail
       refine (First_all HJ5.out).mono ?_
       rintro e V6 ⟨rfl, hb⟩
       have HJ6 := Lib.hid (HJ5.out.step hb)
       have HM6 := Lib.hid (HM5.out.below hb)
       have HB56 := Lib.hid hb.size
       clear hb
       go_wp2_with fail
       refine (First_all HJ6.out).mono ?_
       rintro e V7 ⟨rfl, hb⟩
       have HJ7 := Lib.hid (HJ6.out.step hb)
       have HM7 := Lib.hid (HM6.out.below hb)
       have HUL7 := Lib.hid (show ∀ k, (U k ∨ V3.heap.size ≤ k) ∧ k < V5.heap.size → k < V7.heap.size from fun k hk => Nat.lt_of_lt_of_le hk.2 (Nat.le_trans HB56.out hb.size))
       have HD7 := Lib.hid (show DurI S' R J' (i + 1 + 1) nf (J'.first : Int) (J'.first : Int) from .inl ⟨HLV5.out, HAE5.out, rfl, rfl, HF5.out⟩)
       clear hb
       go_wp2_with fail
       go_roundw
       case rel => exact ⟨i + 1, S', J', nf, _, _, _, by omega, by go_num, rfl, rfl, HD7, HDL5.out, HJ7, HUL7, HUM5, HM7⟩
       case measure => simp [intOf] <;> omega
      ·obtain rfl : J' = J := hrf her
       have hdt : (er == 0) = false := by simpa using her
       clear hlv' hae' hrf
       go_wp2_with fail
       refine (Failed_all HJ5.out).mono ?_
       rintro e V6 ⟨rfl, hb⟩
       rw [HF5.out]
       have HJ6 := Lib.hid (HJ5.out.step hb)
       have HM6 := Lib.hid (HM5.out.below hb)
       have HUL6 := Lib.hid (show ∀ k, (U k ∨ V3.heap.size ≤ k) ∧ k < V5.heap.size → k < V6.heap.size from fun k hk => Nat.lt_of_lt_of_le hk.2 hb.size)
       clear hb c0 c1 c2 c3
       obtain ⟨c0, c1, c2, c3⟩ := HCE.out V6 HJ6.out.below
       have HD8 := Lib.hid (show DurI S' R J' (i + 1 + 1) nf (jf : Int) (jf : Int) from .inl ⟨HLV5.out, HNOA.out, by rw [HJF.out], by rw [HJF.out], HF5.out⟩)
       go_wp2_with fail
       go_roundw
       case rel => exact ⟨i + 1, S', J', nf, _, _, _, by omega, by go_num, rfl, rfl, HD8, HDL5.out, HJ6, HUL6, HUM5, HM6⟩
       case measure => simp [intOf] <;> omega
     ·have hdt : (er == 0) = false := by simpa using her
      have HD9 := Lib.hid (show DurI S' R J' (i + 1 + 1) nf (jf : Int) ct from .inr ⟨by rw [hjd], hdn, hrm.less (by omega), (hfd.mono (fun f E q => ⟨by have h1 := q.fs; rw [HJF.out] at h1; exact h1, by rw [hjd]; exact q.sy, q.all, by have := q.n; omega, q.short, q.size⟩) (by omega))⟩)
      have HF9 := Lib.hid (show J'.failed = 28 by rw [hjd])
      clear hjd hdn hrm hfd
      go_wp2_with fail
      refine (Failed_all HJ5.out).mono ?_
      rintro e V6 ⟨rfl, hb⟩
      rw [HF9.out]
      have HJ6 := Lib.hid (HJ5.out.step hb)
      have HM6 := Lib.hid (HM5.out.below hb)
      have HUL6 := Lib.hid (show ∀ k, (U k ∨ V3.heap.size ≤ k) ∧ k < V5.heap.size → k < V6.heap.size from fun k hk => Nat.lt_of_lt_of_le hk.2 hb.size)
      clear hb
      go_wp2_with fail
      go_roundw
      case rel => exact ⟨i + 1, S', J', nf, _, _, _, by omega, by go_num, rfl, rfl, HD9, HDL5.out, HJ6, HUL6, HUM5, HM6⟩
      case measure => simp [intOf] <;> omega

    ·have hk2I : ¬ (okd : Int) % 3 = 2 := by omega
     have HCU2 := Lib.hid (show (jf : Int) = ct by have h1 := HCU.out; rw [if_neg hk2] at h1; exact h1.symm)
     have HM3' := Lib.hid (show SMap V3 m nf by rw [← HNF.out]; exact HM3.out)
     go_wp2_with fail
     refine (HST.out V3 _ HJ3.out HUL3.out hkd2 hon2).mono ?_
     rintro e V5 ⟨rfl, hj5, hc5⟩
     have HJ5 := Lib.hid hj5.tight
     have HM5 := Lib.hid (HM3'.out.chg hc5 HUM.out)
     have HUL5 := Lib.hid (show ∀ k, (U k ∨ V3.heap.size ≤ k) ∧ k < V5.heap.size → k < V5.heap.size from fun k hk => hk.2)
     have HUM5 := Lib.hid (show ¬ ((U m ∨ V3.heap.size ≤ m) ∧ m < V5.heap.size) from fun h => h.1.elim HUM.out (fun h2 => by have := HM3'.out.lt; omega))
     obtain ⟨hdl5, hsp⟩ := HSP.out
     have HDL5 := Lib.hid (show S'.dur.length = 48 from hdl5.trans hdl)
     clear hj5 hc5 hdl5 c0 c1 c2 c3
     obtain ⟨c0, c1, c2, c3⟩ := HCE.out V5 HJ5.out.below
     rcases hsp with ⟨hlv', hae', hrf⟩ | ⟨her, hjd, hdn, hrm, hfd⟩
     ·have HLV5 := Lib.hid hlv'
      have HAE5 := Lib.hid hae'
      have HF5 := Lib.hid (show J'.failed = 0 by obtain ⟨c, hc⟩ := HLV5.out.ji; exact hc.failed)
      by_cases her : er = 0
      ·subst her
       clear hlv' hae' hrf
       go_wp2_with fail
       refine (First_all HJ5.out).mono ?_
       rintro e V6 ⟨rfl, hb⟩
       have HJ6 := Lib.hid (HJ5.out.step hb)
       have HM6 := Lib.hid (HM5.out.below hb)
       have HB56 := Lib.hid hb.size
       clear hb
       go_wp2_with fail
       refine (First_all HJ6.out).mono ?_
       rintro e V7 ⟨rfl, hb⟩
       have HJ7 := Lib.hid (HJ6.out.step hb)
       have HM7 := Lib.hid (HM6.out.below hb)
       have HUL7 := Lib.hid (show ∀ k, (U k ∨ V3.heap.size ≤ k) ∧ k < V5.heap.size → k < V7.heap.size from fun k hk => Nat.lt_of_lt_of_le hk.2 (Nat.le_trans HB56.out hb.size))
       have HD7 := Lib.hid (show DurI S' R J' (i + 1 + 1) nf (J'.first : Int) (J'.first : Int) from .inl ⟨HLV5.out, HAE5.out, rfl, rfl, HF5.out⟩)
       clear hb
       go_wp2_with fail
       go_roundw
       case rel => exact ⟨i + 1, S', J', nf, _, _, _, by omega, by go_num, rfl, rfl, HD7, HDL5.out, HJ7, HUL7, HUM5, HM7⟩
       case measure => simp [intOf] <;> omega
      ·obtain rfl : J' = J := hrf her
       have hdt : (er == 0) = false := by simpa using her
       clear hlv' hae' hrf
       go_wp2_with fail
       refine (Failed_all HJ5.out).mono ?_
       rintro e V6 ⟨rfl, hb⟩
       rw [HF5.out]
       have HJ6 := Lib.hid (HJ5.out.step hb)
       have HM6 := Lib.hid (HM5.out.below hb)
       have HUL6 := Lib.hid (show ∀ k, (U k ∨ V3.heap.size ≤ k) ∧ k < V5.heap.size → k < V6.heap.size from fun k hk => Nat.lt_of_lt_of_le hk.2 hb.size)
       clear hb c0 c1 c2 c3
       obtain ⟨c0, c1, c2, c3⟩ := HCE.out V6 HJ6.out.below
       have HD8 := Lib.hid (show DurI S' R J' (i + 1 + 1) nf (jf : Int) (jf : Int) from .inl ⟨HLV5.out, HNOA.out, by rw [HJF.out], by rw [HJF.out], HF5.out⟩)
       go_wp2_with fail
       go_roundw
       case rel => exact ⟨i + 1, S', J', nf, _, _, _, by omega, by go_num, rfl, rfl, HD8, HDL5.out, HJ6, HUL6, HUM5, HM6⟩
       case measure => simp [intOf] <;> omega
     ·have hdt : (er == 0) = false := by simpa using her
      have HD9 := Lib.hid (show DurI S' R J' (i + 1 + 1) nf (jf : Int) (jf : Int) from .inr ⟨by rw [hjd], hdn, hrm.less (by omega), (hfd.mono (fun f E q => ⟨by have h1 := q.fs; rw [HJF.out, ← HCU2.out] at h1; exact h1, by rw [hjd]; exact q.sy, q.all, by have := q.n; omega, q.short, q.size⟩) (by omega))⟩)
      have HF9 := Lib.hid (show J'.failed = 28 by rw [hjd])
      clear hjd hdn hrm hfd
      go_wp2_with fail
      refine (Failed_all HJ5.out).mono ?_
      rintro e V6 ⟨rfl, hb⟩
      rw [HF9.out]
      have HJ6 := Lib.hid (HJ5.out.step hb)
      have HM6 := Lib.hid (HM5.out.below hb)
      have HUL6 := Lib.hid (show ∀ k, (U k ∨ V3.heap.size ≤ k) ∧ k < V5.heap.size → k < V6.heap.size from fun k hk => Nat.lt_of_lt_of_le hk.2 hb.size)
      clear hb
      go_wp2_with fail
      go_roundw
      case rel => exact ⟨i + 1, S', J', nf, _, _, _, by omega, by go_num, rfl, rfl, HD9, HDL5.out, HJ6, HUL6, HUM5, HM6⟩
      case measure => simp [intOf] <;> omega

  case neg =>
   have hend := HDU.out.end (by omega)
   have HRM := Lib.hid hend.1
   have HFDE := Lib.hid hend.2
   have HRNG := Lib.hid (show R.at_ + R.cnt ≤ 46 by rw [← HRE.out]; show 3 + sz ≤ 46; omega)
   have HDT := Lib.hid (HDU.out)
   refine wp_seq (wp_seq ?_)
   refine cut_region (fun a0 a' w' => ∃ v75 v76 v77 v78 v79 v80 v81 v82, a' = (((((((((a0.put (some 75) v75).put (some 76) v76).put (some 77) v77).put (some 78) v78).put (some 79) v79).put (some 80) v80).put (some 81) v81).put (some 82) v82).put (some 83) (.bool false)) ∧ Below V0.heap.size V0 w') ?_ ?_
   ·by_cases hlt : i < n
    ·have hiI : (i : Int) < (n : Int) := by omega
     have h28 : J.failed = 28 := by
      rcases HDT.out with ⟨_, _, _, _, h5⟩ | ⟨h1, _⟩
      ·exact absurd ⟨hlt, h5⟩ hgo
      ·exact h1
     go_wp2_with fail
     refine (Failed_all HJA.out).mono ?_
     rintro e V1 ⟨rfl, hb⟩
     rw [h28]
     go_wp2_with fail
    ·obtain rfl : n = i := by omega
     go_wp2_with fail
     exact Below.refl _ _
   rintro a' V1 ⟨v75, v76, v77, v78, v79, v80, v81, v82, rfl, hb⟩
   try simp only [Act.put, List.setIfInBounds_toArray, List.set_cons_zero, List.set_cons_succ]
   have HJ1 := Lib.hid (HJA.out.step hb)
   have HM1 := Lib.hid (HSM.out.below hb)
   clear hb hgo HDU HDT hend
   obtain ⟨sy, hsy⟩ : ∃ sy, J.synced = sy := ⟨_, rfl⟩
   have HSYE := Lib.hid hsy
   rw [hsy] at HFDE
   clear hsy
   go_wp2_with fail
   refine (Synced_all HJ1.out).mono ?_
   rintro e V2 ⟨rfl, hb⟩
   rw [HSYE.out]
   have HJ2 := Lib.hid (HJ1.out.step hb)
   have HM2 := Lib.hid (HM1.out.below hb)
   clear hb HJ1 HM1
   have HDA := Lib.hid (HJ2.out.da (X := fun k => k = m) (fun k e => .inl (e ▸ HUM.out)))
   obtain ⟨SR, hSR⟩ : ∃ SR, (DS.restart { S with down := true } (fateL cs)).1 = SR := ⟨_, rfl⟩
   have HSR := Lib.hid hSR
   obtain ⟨a64, ha64⟩ : ∃ a, ag % 64 = a := ⟨_, rfl⟩
   have ha64I : (ag : Int) % 64 = (a64 : Int) := by omega
   have ha64b : a64 < 64 := by omega
   have HRO := Lib.hid (HFDE.out.reopen rfl (fateL_tear cs) (by have := HRNG.out; show _ ≤ S.dur.length; omega) (by show S.dur.length ≤ _; omega) (by omega) (fun f E hq => hq.bounds (by omega)) (m := 100000) (HRM.out.less (by omega)) hSR (n := (a64 : Int)) (by omega) (.inr rfl))
   obtain ⟨y, S4, er, J4, q0, p1, p2, p3, p4, p5, p6, p7, p8, _, p9⟩ := HRO.out
   have HQ0 := Lib.hid q0
   have HPL := Lib.hid (show currL (SR.setLimit (a64 : Int)) R = some y ∧ JLim (nextG (1 - y.gen % 2) (secL (SR.setLimit (a64 : Int)) R.at_ R.cnt)) y.first y.ents.length y.ents ∧ sizeE y.ents ≤ 5000 ∧ Roomy (SR.setLimit (a64 : Int)) (sizeE y.ents + 1) ∧ (SR.setLimit (a64 : Int)).down = false ∧ (SR.setLimit (a64 : Int)).dur.length = 48 ∧ moveJ (SR.setLimit (a64 : Int)) R (1 - y.gen % 2) y.first y.ents = (S4, er, J4) from ⟨p1, p2, p3, p4, p5, p6.trans hdl, p7⟩)
   have HP8 := Lib.hid p8
   have HP9 := Lib.hid (show er ≠ 0 → er = 28 ∧ S4.down = true ∧ S4.dur.length = 48 ∧ Roomy S4 100000 ∧ Found S4 R 102 (fun f E => f = y.first ∧ E = y.ents) from fun h => ⟨(p9 h).1, (p9 h).2.1, (p9 h).2.2.1.trans hdl, (p9 h).2.2.2.1, (p9 h).2.2.2.2⟩)
   clear hSR ha64 q0 p1 p2 p3 p4 p5 p6 p7 p8 p9 HRO HJ2
   go_wp2_with fail
   refine (Fail_da HDA.out).mono ?_
   rintro e Va ⟨rfl, hda1, hcg1⟩
   have HDA1 := Lib.hid hda1
   have HKP1 := Lib.hid hcg1
   clear hda1 hcg1
   go_wp2_with fail
   refine (HFA3.out Va HDA1.out.below).mono ?_
   rintro e Vb ⟨fa, fc, rfl, hfv, hb2⟩
   have HFV := Lib.hid hfv
   have HFB := Lib.hid hb2
   clear hfv hb2
   go_wp2_with fail
   refine (Restart_da HDA1.out HFB.out HFV.out rfl (HRM.out.less (by omega)) (by rw [fateL_length, HNC0.out]; omega)).mono ?_
   rintro e Vc ⟨rfl, hda3, hcg3⟩
   rw [HSR.out] at hda3
   have HDA3 := Lib.hid hda3
   have HM3 := Lib.hid ((HM2.out.chg HKP1.out (fun h => h rfl)).chg hcg3 (fun h => h rfl))
   clear hda3 hcg3 HDA1 HKP1 HFV HFB HM2
   go_wp2_with fail
   refine (SetLimit_da HDA3.out (a64 : Int)).mono ?_
   rintro e Vd ⟨rfl, hda, hcg⟩
   have HDA4 := Lib.hid hda
   have HM4 := Lib.hid (HM3.out.chg hcg (fun h => h rfl))
   clear hda hcg HDA3 HM3
   go_wp2_with fail
   refine (HSZ.out Vd).mono ?_
   rintro e Ve ⟨rfl, hb⟩
   have HDA5 := Lib.hid (HDA4.out.step hb)
   have HM5 := Lib.hid (HM4.out.below hb)
   have HX5 := Lib.hid (show ∀ k, k = m → k < Ve.heap.size from fun k e => e ▸ HM5.out.lt)
   clear hb HDA4 HM4
   have hRR := HRE.out
   subst hRR
   go_wp2_with fail
   refine (Open_da HDA5.out HX5.out HK.out 3 sz hs8.1 (by rw [HPL.out.2.2.2.2.2.1]; omega) HPL.out.2.2.2.2.1 y HPL.out.1 HPL.out.2.1 (Nat.le_trans HPL.out.2.2.1 (by decide)) HPL.out.2.2.2.1 HPL.out.2.2.2.2.2.2).mono ?_
   rintro e Vf ⟨hda6, hkp6, hbad, hop⟩
   have HDA6 := Lib.hid hda6
   have HM6 := Lib.hid (HM5.out.chg hkp6 (fun h => h rfl))
   clear hda6 hkp6 HDA5 HM5 HX5 HPL
   by_cases her : er = 0
   ·subst her
    obtain ⟨g2, N, U5, lb9, lbc9, rfl, hja5, hu5, hnu5, _⟩ := hop rfl
    obtain ⟨ya, yc, hblk⟩ := hja5.blk
    have HBW9 := Lib.hid hja5.below
    have HJ4 := Lib.hid (HP8.out rfl)
    obtain ⟨ny, hny⟩ : ∃ ny, J4.ents.length = ny := ⟨_, rfl⟩
    obtain ⟨E4, hE4⟩ : ∃ E, J4.ents = E := ⟨_, rfl⟩
    obtain ⟨f0, hf0⟩ : ∃ f, J4.first = f := ⟨_, rfl⟩
    have HALL := Lib.hid (show AllE fm f0 E4 by rw [← hE4, ← hf0, HJ4.out.1, HJ4.out.2]; exact HQ0.out.all)
    have HQ := Lib.hid (show ((f0 : Int) = fi ∨ (f0 : Int) = cu) ∧ sy ≤ f0 + ny by rw [← hf0, ← hny, HJ4.out.1, HJ4.out.2]; exact ⟨HQ0.out.fs, HQ0.out.sy⟩)
    have hfn : f0 + ny ≤ 100 := by rw [← hf0, ← hny, HJ4.out.1, HJ4.out.2]; exact HQ0.out.n
    have HJ4F := Lib.hid (show J4.first = f0 ∧ True from ⟨hf0, trivial⟩)
    have HNY := Lib.hid (show E4.length = ny by rw [← hE4]; exact hny)
    rw [hny, hf0, hE4] at hnu5
    rw [hny] at hblk ⊢
    have HNU9 := Lib.hid hnu5
    have HBK9 := Lib.hid hblk
    have HSM9 := Lib.hid HM6.out
    obtain ⟨V9, rfl⟩ : ∃ V9, V9 = Vf := ⟨_, rfl⟩
    clear hny hE4 hf0 hnu5 hblk hja5 hu5 hop HM6 HJ4
    have hle : ¬ (f0 : Int) + (ny : Int) < (sy : Int) := by have h1 := HQ.out.2; omega
    have hled : decide ((f0 : Int) + (ny : Int) < (sy : Int)) = false := by simp; omega
    have hsub : (f0 : Int) + (ny : Int) - (f0 : Int) = (ny : Int) := by omega
    have HBX := Lib.hid (Below.refl V9.heap.size V9)
    by_cases hff : (f0 : Int) = fi
    ·subst hff
     go_wp2_with fail
     refine (JFirst_any (HBK9.out.below HBX.out)).mono ?_
     rintro e Vx ⟨rfl, hb⟩
     rw [HJ4F.out.1]
     have HBX := Lib.hid (HBX.out.trans (hb.mono HBX.out.size))
     clear hb
     go_wp2_with fail
     refine (JNext_any (HBK9.out.below HBX.out) (by rw [HJ4F.out.1]; omega)).mono ?_
     rintro e Vx ⟨rfl, hb⟩
     rw [HJ4F.out.1]
     have HBX := Lib.hid (HBX.out.trans (hb.mono HBX.out.size))
     clear hb
     go_wp2_with fail
     refine (JNext_any (HBK9.out.below HBX.out) (by rw [HJ4F.out.1]; omega)).mono ?_
     rintro e Vx ⟨rfl, hb⟩
     rw [HJ4F.out.1]
     have HBX := Lib.hid (HBX.out.trans (hb.mono HBX.out.size))
     clear hb
     go_wp2_with fail
     refine (JFirst_any (HBK9.out.below HBX.out)).mono ?_
     rintro e Vx ⟨rfl, hb⟩
     rw [HJ4F.out.1]
     have HBX := Lib.hid (HBX.out.trans (hb.mono HBX.out.size))
     clear hb
     clear hle hled
     have HV9 := Lib.hid (HBW9.out.trans (HBX.out.mono HBW9.out.size))
     have HL0 := Lib.hid (Below.refl Vx.heap.size Vx)
     go_wp2_with fail
     go_loopw [26] (fun iv wr => ∃ (i : Nat), i ≤ ny ∧ iv = .int .i64 (i : Int) ∧ Hid (Below Vx.heap.size Vx wr)) (fun iv _ => ny - (intOf iv).toNat)
     case atStart => exact ⟨0, Nat.zero_le _, rfl, HL0⟩
     case round =>
      obtain ⟨i, hi2, rfl, HBR⟩ := hrel
      obtain ⟨Q0, rfl⟩ : ∃ Q0, Q0 = wr := ⟨_, rfl⟩
      clear HL0
      have HXQ := Lib.hid (HBX.out.trans (HBR.out.mono HBX.out.size))
      by_cases hlt : i < ny
      case neg =>
       obtain rfl : ny = i := by omega
       have HBQ := Lib.hid (HV9.out.trans (HBR.out.mono HV9.out.size))
       go_wp2_with fail
       exact bodyPost_ret (v := .bool true) (by simp [results, Tryd.results9, go_sem]) rfl ⟨rfl, HBQ.out⟩
      have hiI : (i : Int) < (ny : Int) := by omega
      have hiE : i < E4.length := by rw [HNY.out]; exact hlt
      obtain ⟨gl, u, e9, _, hgl, kn0, kn1, hbu⟩ := (HNU9.out.below HXQ.out).get hiE
      subst e9
      obtain ⟨ua, uc, rfl⟩ := hbu.form
      rw [Int.natCast_add] at kn0
      obtain ⟨X, hX⟩ : ∃ X, E4[i] = X := ⟨_, rfl⟩
      have hao := HALL.out i hiE
      rw [hX] at hao
      rw [hX] at kn1 hbu
      have hlook : (Instr.lookup 45 (.map (some m)) (.int .i64 ((f0 : Int) + (i : Int))) true).run Tryd.prog Q0 = .ok (.tuple #[.string ⟨X.toArray⟩, .bool true]) Q0 := by
       have h1 := (HSM9.out.below HXQ.out).look (f0 + i) (by omega) true
       rw [hao, Int.natCast_add] at h1
       exact h1
      have HNC := Lib.hid (show ∀ w', Below Q0.heap.size Q0 w' → w'.cell? ⟨gl, i * 2, none⟩ = some (.int .i64 ((f0 : Int) + (i : Int))) ∧ w'.cell? ⟨gl, i * 2 + 1, none⟩ = some (.slice ua X.length uc) ∧ (convert 36 9 (.slice ua X.length uc)).run Tryd.prog w' = .ok (.string ⟨X.toArray⟩) w' from fun w' hw' => ⟨(hw'.cell (p := ⟨gl, i * 2, none⟩) hgl).trans kn0, (hw'.cell (p := ⟨gl, i * 2 + 1, none⟩) hgl).trans kn1, (hbu.below hw').at_.str⟩)
      obtain ⟨xn, hxn⟩ : ∃ xn, X.length = xn := ⟨_, rfl⟩
      rw [hxn] at HNC
      clear kn1 hbu hao
      go_wp2_with fail
      refine wp_region_noPanic ?_
      refine wp_region_H (Below Q0.heap.size Q0) (by kernel_rfl) ?_
      have hS0 : (Below Q0.heap.size Q0) Q0.drew := ((Below.refl _ _).drew)
      obtain ⟨wd, hwd⟩ : ∃ wd, Q0.drew = wd := ⟨_, rfl⟩
      rw [hwd] at hS0 ⊢
      have hd0 : Below Q0.heap.size Q0 wd := hwd ▸ (Below.refl _ _).drew
      clear hwd
      refine wpAnyH_takeI (i := 0) (v := ?v38) rfl (by kernel_rfl) (by kernel_rfl) (by kernel_rfl) (fun _ _ _ h => h) (yieldsIf_run rfl (fun w' hw' => ?y38)) hS0 ?_
      case y38 => first | (go_simp; rfl) | (go_simp; done) | rfl
      simp only [Act.put, List.setIfInBounds_toArray, List.set_cons_zero, List.set_cons_succ]
      refine wpAnyH_takeI (i := 1) (v := ?v39) rfl (by kernel_rfl) (by kernel_rfl) (by kernel_rfl) (fun _ _ _ h => h) (yieldsIf_run rfl (fun w' hw' => ?y39)) hS0 ?_
      case y39 => first | (go_simp; rfl) | (go_simp; done) | rfl
      simp only [Act.put, List.setIfInBounds_toArray, List.set_cons_zero, List.set_cons_succ]
      refine wpAnyH_takeI (i := 2) (v := ?v40) rfl (by kernel_rfl) (by kernel_rfl) (by kernel_rfl) (fun _ _ _ h => h) (yieldsIf_run rfl (fun w' hw' => ?y40)) hS0 ?_
      case y40 => first | (go_simp; rfl) | (go_simp; done) | rfl
      simp only [Act.put, List.setIfInBounds_toArray, List.set_cons_zero, List.set_cons_succ]
      refine wpAnyH_takeI (i := 3) (v := ?v41) rfl (by kernel_rfl) (by kernel_rfl) (by kernel_rfl) (fun _ _ _ h => h) (yieldsIf_run rfl (fun w' hw' => ?y41)) hS0 ?_
      case y41 => first | (go_simp; rfl) | (go_simp; done) | rfl
      simp only [Act.put, List.setIfInBounds_toArray, List.set_cons_zero, List.set_cons_succ]
      refine wpAnyH_takeI (i := 4) (v := ?v42) rfl (by kernel_rfl) (by kernel_rfl) (by kernel_rfl) (fun _ _ _ h => h) (yieldsIf_run rfl (fun w' hw' => ?y42)) hS0 ?_
      case y42 => (obtain ⟨h1, h2, h3⟩ := HNC.out w' hw'; clear hw'; first | (go_simp; rfl) | (go_simp; done))
      simp only [Act.put, List.setIfInBounds_toArray, List.set_cons_zero, List.set_cons_succ]
      refine wpAnyH_takeI (i := 5) (v := ?v43) rfl (by kernel_rfl) (by kernel_rfl) (by kernel_rfl) (fun _ _ _ h => h) (yieldsIf_run rfl (fun w' hw' => ?y43)) hS0 ?_
      case y43 => first | (go_simp; rfl) | (go_simp; done) | rfl
      simp only [Act.put, List.setIfInBounds_toArray, List.set_cons_zero, List.set_cons_succ]
      refine wpAnyH_takeI (i := 7) (v := ?v44) rfl (by kernel_rfl) (by kernel_rfl) (by kernel_rfl) (fun _ _ _ h => h) (yieldsIf_run rfl (fun w' hw' => ?y44)) hS0 ?_
      case y44 => first | (go_simp; rfl) | (go_simp; done) | rfl
      simp only [Act.put, List.setIfInBounds_toArray, List.set_cons_zero, List.set_cons_succ]
      refine wpAnyH_do (i := 6) (by kernel_rfl) rfl rfl (fun K hK => ?_)
      go_simp
      go_at_call 21
      refine (JFirst_any (HBK9.out.below (HXQ.out.trans (hS0.mono HXQ.out.size)))).mono ?_
      rintro e Q1 ⟨rfl, hb1⟩
      rw [HJ4F.out.1]
      have hq1 := hS0.trans (hb1.mono hS0.size)
      refine hK _ _ (hq1) ?_
      clear hK K
      try simp only [Act.put, List.setIfInBounds_toArray, List.set_cons_zero, List.set_cons_succ]
      refine wpAnyH_takeI (i := 8) (v := .int .i64 ((f0 : Int) + (i : Int))) rfl (by kernel_rfl) (by kernel_rfl) (by kernel_rfl) (fun _ _ _ h => h) (yieldsIf_run rfl (fun w' hw' => ?y45)) hq1 ?_
      case y45 => (have hwr : IntKind.i64.wrap ((f0 : Int) + (i : Int)) = (f0 : Int) + (i : Int) := IntWalk.i64_in _ (by omega); clear hw'; first | (go_simp; rfl) | (go_simp; done))
      simp only [Act.put, List.setIfInBounds_toArray, List.set_cons_zero, List.set_cons_succ]
      refine wpAnyH_takeI (i := 9) (v := .bool false) rfl (by kernel_rfl) (by kernel_rfl) (by kernel_rfl) (fun _ _ _ h => h) (yieldsIf_run rfl (fun w' hw' => ?y46)) hq1 ?_
      case y46 => first | (go_simp; rfl) | (go_simp; done) | rfl
      simp only [Act.put, List.setIfInBounds_toArray, List.set_cons_zero, List.set_cons_succ]
      refine wpAnyH_takeI (i := 10) (v := ?v47) rfl (by kernel_rfl) (by kernel_rfl) (by kernel_rfl) (fun _ _ _ h => h) (yieldsIf_run rfl (fun w' hw' => ?y47)) hq1 ?_
      case y47 => first | (go_simp; rfl) | (go_simp; done) | rfl
      simp only [Act.put, List.setIfInBounds_toArray, List.set_cons_zero, List.set_cons_succ]
      refine wpAnyH_takeI (i := 11) (v := ?v48) rfl (by kernel_rfl) (by kernel_rfl) (by kernel_rfl) (fun _ _ _ h => h) (yieldsIf_want rfl (fun w' hw' => ?y48)) hq1 ?_
      case y48 => first | (go_simp; rfl) | (go_simp; done) | rfl
      simp only [Act.put, List.setIfInBounds_toArray, List.set_cons_zero, List.set_cons_succ]
      refine wpAnyH_takeI (i := 12) (v := ?v49) rfl (by kernel_rfl) (by kernel_rfl) (by kernel_rfl) (fun _ _ _ h => h) (yieldsIf_want rfl (fun w' hw' => ?y49)) hq1 ?_
      case y49 => first | (go_simp; rfl) | (go_simp; done) | rfl
      simp only [Act.put, List.setIfInBounds_toArray, List.set_cons_zero, List.set_cons_succ]
      refine wpAnyH_takeI (i := 13) (v := ?v50) rfl (by kernel_rfl) (by kernel_rfl) (by kernel_rfl) (fun _ _ _ h => h) (yieldsIf_run rfl (fun w' hw' => ?y50)) hq1 ?_
      case y50 => first | (go_simp; rfl) | (go_simp; done) | rfl
      simp only [Act.put, List.setIfInBounds_toArray, List.set_cons_zero, List.set_cons_succ]
      refine wpAnyH_takeI (i := 14) (v := ?v51) rfl (by kernel_rfl) (by kernel_rfl) (by kernel_rfl) (fun _ _ _ h => h) (yieldsIf_run rfl (fun w' hw' => ?y51)) hq1 ?_
      case y51 => first | (go_simp; rfl) | (go_simp; done) | rfl
      simp only [Act.put, List.setIfInBounds_toArray, List.set_cons_zero, List.set_cons_succ]
      refine wpAnyH_takeI (i := 15) (v := ?v52) rfl (by kernel_rfl) (by kernel_rfl) (by kernel_rfl) (fun _ _ _ h => h) (yieldsIf_want rfl (fun w' hw' => ?y52)) hq1 ?_
      case y52 => first | (go_simp; rfl) | (go_simp; done) | rfl
      simp only [Act.put, List.setIfInBounds_toArray, List.set_cons_zero, List.set_cons_succ]
      refine wpAnyH_takeI (i := 16) (v := ?v53) rfl (by kernel_rfl) (by kernel_rfl) (by kernel_rfl) (fun _ _ _ h => h) (yieldsIf_want rfl (fun w' hw' => ?y53)) hq1 ?_
      case y53 => first | (go_simp; rfl) | (go_simp; done) | rfl
      simp only [Act.put, List.setIfInBounds_toArray, List.set_cons_zero, List.set_cons_succ]
      refine wpAnyH_takeI (i := 17) (v := ?v54) rfl (by kernel_rfl) (by kernel_rfl) (by kernel_rfl) (fun _ _ _ h => h) (yieldsIf_want rfl (fun w' hw' => ?y54)) hq1 ?_
      case y54 => first | (go_simp; rfl) | (go_simp; done) | rfl
      simp only [Act.put, List.setIfInBounds_toArray, List.set_cons_zero, List.set_cons_succ]
      refine wpAnyH_takeI (i := 18) (v := ?v55) rfl (by kernel_rfl) (by kernel_rfl) (by kernel_rfl) (fun _ _ _ h => h) (yieldsIf_want rfl (fun w' hw' => ?y55)) hq1 ?_
      case y55 => first | (go_simp; rfl) | (go_simp; done) | rfl
      simp only [Act.put, List.setIfInBounds_toArray, List.set_cons_zero, List.set_cons_succ]
      refine wpAnyH_takeI (i := 19) (v := ?v56) rfl (by kernel_rfl) (by kernel_rfl) (by kernel_rfl) (fun _ _ _ h => h) (yieldsIf_want rfl (fun w' hw' => ?y56)) hq1 ?_
      case y56 => (obtain ⟨h1, h2, h3⟩ := HNC.out w' hw'; clear hw'; first | (go_simp; rfl) | (go_simp; done))
      simp only [Act.put, List.setIfInBounds_toArray, List.set_cons_zero, List.set_cons_succ]
      refine wpAnyH_takeI (i := 20) (v := ?v57) rfl (by kernel_rfl) (by kernel_rfl) (by kernel_rfl) (fun _ _ _ h => h) (yieldsIf_want rfl (fun w' hw' => ?y57)) hq1 ?_
      case y57 => (obtain ⟨h1, h2, h3⟩ := HNC.out w' hw'; clear hw'; first | (go_simp; rfl) | (go_simp; done))
      simp only [Act.put, List.setIfInBounds_toArray, List.set_cons_zero, List.set_cons_succ]
      refine wpAnyH_takeI (i := 21) (v := ?v58) rfl (by kernel_rfl) (by kernel_rfl) (by kernel_rfl) (fun _ _ _ h => h) (yieldsIf_want rfl (fun w' hw' => ?y58)) hq1 ?_
      case y58 => first | (go_simp; rfl) | (go_simp; done) | rfl
      simp only [Act.put, List.setIfInBounds_toArray, List.set_cons_zero, List.set_cons_succ]
      refine wpAnyH_takeI (i := 22) (v := .bool false) rfl (by kernel_rfl) (by kernel_rfl) (by kernel_rfl) (fun _ _ _ h => h) (yieldsIf_want rfl (fun w' hw' => ?y59)) hq1 ?_
      case y59 => first | (go_simp; rfl) | (go_simp; done) | rfl
      simp only [Act.put, List.setIfInBounds_toArray, List.set_cons_zero, List.set_cons_succ]
      refine wpAnyH_takeI (i := 23) (v := ?v60) rfl (by kernel_rfl) (by kernel_rfl) (by kernel_rfl) (fun _ _ _ h => h) (yieldsIf_run rfl (fun w' hw' => ?y60)) hq1 ?_
      case y60 => first | (go_simp; rfl) | (go_simp; done) | rfl
      simp only [Act.put, List.setIfInBounds_toArray, List.set_cons_zero, List.set_cons_succ]
      refine wpAnyH_done (by kernel_rfl) ?_ _
      refine NoPanic.normal ?_
      have HBR2 := Lib.hid (HBR.out.trans ((hd0.trans (hb1.mono hd0.size)).mono HBR.out.size))
      clear hb1 hd0 hq1 hS0 kn0 hlook
      go_wp2_with fail
      go_roundw
      case rel => exact ⟨i + 1, by omega, by go_num, HBR2⟩
      case measure => simp [intOf] <;> omega
    ·have hfc : (f0 : Int) = cu := HQ.out.1.elim (fun h => absurd h hff) id
     subst hfc
     have hffd : ((f0 : Int) != fi) = true := by simpa [bne] using hff
     go_wp2_with fail
     refine (JFirst_any (HBK9.out.below HBX.out)).mono ?_
     rintro e Vx ⟨rfl, hb⟩
     rw [HJ4F.out.1]
     have HBX := Lib.hid (HBX.out.trans (hb.mono HBX.out.size))
     clear hb
     go_wp2_with fail
     refine (JFirst_any (HBK9.out.below HBX.out)).mono ?_
     rintro e Vx ⟨rfl, hb⟩
     rw [HJ4F.out.1]
     have HBX := Lib.hid (HBX.out.trans (hb.mono HBX.out.size))
     clear hb
     go_wp2_with fail
     refine (JNext_any (HBK9.out.below HBX.out) (by rw [HJ4F.out.1]; omega)).mono ?_
     rintro e Vx ⟨rfl, hb⟩
     rw [HJ4F.out.1]
     have HBX := Lib.hid (HBX.out.trans (hb.mono HBX.out.size))
     clear hb
     go_wp2_with fail
     refine (JNext_any (HBK9.out.below HBX.out) (by rw [HJ4F.out.1]; omega)).mono ?_
     rintro e Vx ⟨rfl, hb⟩
     rw [HJ4F.out.1]
     have HBX := Lib.hid (HBX.out.trans (hb.mono HBX.out.size))
     clear hb
     go_wp2_with fail
     refine (JFirst_any (HBK9.out.below HBX.out)).mono ?_
     rintro e Vx ⟨rfl, hb⟩
     rw [HJ4F.out.1]
     have HBX := Lib.hid (HBX.out.trans (hb.mono HBX.out.size))
     clear hb
     clear hle hled hffd
     have HV9 := Lib.hid (HBW9.out.trans (HBX.out.mono HBW9.out.size))
     have HL0 := Lib.hid (Below.refl Vx.heap.size Vx)
     go_wp2_with fail
     go_loopw [26] (fun iv wr => ∃ (i : Nat), i ≤ ny ∧ iv = .int .i64 (i : Int) ∧ Hid (Below Vx.heap.size Vx wr)) (fun iv _ => ny - (intOf iv).toNat)
     case atStart => exact ⟨0, Nat.zero_le _, rfl, HL0⟩
     case round =>
      obtain ⟨i, hi2, rfl, HBR⟩ := hrel
      obtain ⟨Q0, rfl⟩ : ∃ Q0, Q0 = wr := ⟨_, rfl⟩
      clear HL0
      have HXQ := Lib.hid (HBX.out.trans (HBR.out.mono HBX.out.size))
      by_cases hlt : i < ny
      case neg =>
       obtain rfl : ny = i := by omega
       have HBQ := Lib.hid (HV9.out.trans (HBR.out.mono HV9.out.size))
       go_wp2_with fail
       exact bodyPost_ret (v := .bool true) (by simp [results, Tryd.results9, go_sem]) rfl ⟨rfl, HBQ.out⟩
      have hiI : (i : Int) < (ny : Int) := by omega
      have hiE : i < E4.length := by rw [HNY.out]; exact hlt
      obtain ⟨gl, u, e9, _, hgl, kn0, kn1, hbu⟩ := (HNU9.out.below HXQ.out).get hiE
      subst e9
      obtain ⟨ua, uc, rfl⟩ := hbu.form
      rw [Int.natCast_add] at kn0
      obtain ⟨X, hX⟩ : ∃ X, E4[i] = X := ⟨_, rfl⟩
      have hao := HALL.out i hiE
      rw [hX] at hao
      rw [hX] at kn1 hbu
      have hlook : (Instr.lookup 45 (.map (some m)) (.int .i64 ((f0 : Int) + (i : Int))) true).run Tryd.prog Q0 = .ok (.tuple #[.string ⟨X.toArray⟩, .bool true]) Q0 := by
       have h1 := (HSM9.out.below HXQ.out).look (f0 + i) (by omega) true
       rw [hao, Int.natCast_add] at h1
       exact h1
      have HNC := Lib.hid (show ∀ w', Below Q0.heap.size Q0 w' → w'.cell? ⟨gl, i * 2, none⟩ = some (.int .i64 ((f0 : Int) + (i : Int))) ∧ w'.cell? ⟨gl, i * 2 + 1, none⟩ = some (.slice ua X.length uc) ∧ (convert 36 9 (.slice ua X.length uc)).run Tryd.prog w' = .ok (.string ⟨X.toArray⟩) w' from fun w' hw' => ⟨(hw'.cell (p := ⟨gl, i * 2, none⟩) hgl).trans kn0, (hw'.cell (p := ⟨gl, i * 2 + 1, none⟩) hgl).trans kn1, (hbu.below hw').at_.str⟩)
      obtain ⟨xn, hxn⟩ : ∃ xn, X.length = xn := ⟨_, rfl⟩
      rw [hxn] at HNC
      clear kn1 hbu hao
      go_wp2_with fail
      refine wp_region_noPanic ?_
      refine wp_region_H (Below Q0.heap.size Q0) (by kernel_rfl) ?_
      have hS0 : (Below Q0.heap.size Q0) Q0.drew := ((Below.refl _ _).drew)
      obtain ⟨wd, hwd⟩ : ∃ wd, Q0.drew = wd := ⟨_, rfl⟩
      rw [hwd] at hS0 ⊢
      have hd0 : Below Q0.heap.size Q0 wd := hwd ▸ (Below.refl _ _).drew
      clear hwd
      refine wpAnyH_takeI (i := 0) (v := ?v61) rfl (by kernel_rfl) (by kernel_rfl) (by kernel_rfl) (fun _ _ _ h => h) (yieldsIf_run rfl (fun w' hw' => ?y61)) hS0 ?_
      case y61 => first | (go_simp; rfl) | (go_simp; done) | rfl
      simp only [Act.put, List.setIfInBounds_toArray, List.set_cons_zero, List.set_cons_succ]
      refine wpAnyH_takeI (i := 1) (v := ?v62) rfl (by kernel_rfl) (by kernel_rfl) (by kernel_rfl) (fun _ _ _ h => h) (yieldsIf_run rfl (fun w' hw' => ?y62)) hS0 ?_
      case y62 => first | (go_simp; rfl) | (go_simp; done) | rfl
      simp only [Act.put, List.setIfInBounds_toArray, List.set_cons_zero, List.set_cons_succ]
      refine wpAnyH_takeI (i := 2) (v := ?v63) rfl (by kernel_rfl) (by kernel_rfl) (by kernel_rfl) (fun _ _ _ h => h) (yieldsIf_run rfl (fun w' hw' => ?y63)) hS0 ?_
      case y63 => first | (go_simp; rfl) | (go_simp; done) | rfl
      simp only [Act.put, List.setIfInBounds_toArray, List.set_cons_zero, List.set_cons_succ]
      refine wpAnyH_takeI (i := 3) (v := ?v64) rfl (by kernel_rfl) (by kernel_rfl) (by kernel_rfl) (fun _ _ _ h => h) (yieldsIf_run rfl (fun w' hw' => ?y64)) hS0 ?_
      case y64 => first | (go_simp; rfl) | (go_simp; done) | rfl
      simp only [Act.put, List.setIfInBounds_toArray, List.set_cons_zero, List.set_cons_succ]
      refine wpAnyH_takeI (i := 4) (v := ?v65) rfl (by kernel_rfl) (by kernel_rfl) (by kernel_rfl) (fun _ _ _ h => h) (yieldsIf_run rfl (fun w' hw' => ?y65)) hS0 ?_
      case y65 => (obtain ⟨h1, h2, h3⟩ := HNC.out w' hw'; clear hw'; first | (go_simp; rfl) | (go_simp; done))
      simp only [Act.put, List.setIfInBounds_toArray, List.set_cons_zero, List.set_cons_succ]
      refine wpAnyH_takeI (i := 5) (v := ?v66) rfl (by kernel_rfl) (by kernel_rfl) (by kernel_rfl) (fun _ _ _ h => h) (yieldsIf_run rfl (fun w' hw' => ?y66)) hS0 ?_
      case y66 => first | (go_simp; rfl) | (go_simp; done) | rfl
      simp only [Act.put, List.setIfInBounds_toArray, List.set_cons_zero, List.set_cons_succ]
      refine wpAnyH_takeI (i := 7) (v := ?v67) rfl (by kernel_rfl) (by kernel_rfl) (by kernel_rfl) (fun _ _ _ h => h) (yieldsIf_run rfl (fun w' hw' => ?y67)) hS0 ?_
      case y67 => first | (go_simp; rfl) | (go_simp; done) | rfl
      simp only [Act.put, List.setIfInBounds_toArray, List.set_cons_zero, List.set_cons_succ]
      refine wpAnyH_do (i := 6) (by kernel_rfl) rfl rfl (fun K hK => ?_)
      go_simp
      go_at_call 21
      refine (JFirst_any (HBK9.out.below (HXQ.out.trans (hS0.mono HXQ.out.size)))).mono ?_
      rintro e Q1 ⟨rfl, hb1⟩
      rw [HJ4F.out.1]
      have hq1 := hS0.trans (hb1.mono hS0.size)
      refine hK _ _ (hq1) ?_
      clear hK K
      try simp only [Act.put, List.setIfInBounds_toArray, List.set_cons_zero, List.set_cons_succ]
      refine wpAnyH_takeI (i := 8) (v := .int .i64 ((f0 : Int) + (i : Int))) rfl (by kernel_rfl) (by kernel_rfl) (by kernel_rfl) (fun _ _ _ h => h) (yieldsIf_run rfl (fun w' hw' => ?y68)) hq1 ?_
      case y68 => (have hwr : IntKind.i64.wrap ((f0 : Int) + (i : Int)) = (f0 : Int) + (i : Int) := IntWalk.i64_in _ (by omega); clear hw'; first | (go_simp; rfl) | (go_simp; done))
      simp only [Act.put, List.setIfInBounds_toArray, List.set_cons_zero, List.set_cons_succ]
      refine wpAnyH_takeI (i := 9) (v := .bool false) rfl (by kernel_rfl) (by kernel_rfl) (by kernel_rfl) (fun _ _ _ h => h) (yieldsIf_run rfl (fun w' hw' => ?y69)) hq1 ?_
      case y69 => first | (go_simp; rfl) | (go_simp; done) | rfl
      simp only [Act.put, List.setIfInBounds_toArray, List.set_cons_zero, List.set_cons_succ]
      refine wpAnyH_takeI (i := 10) (v := ?v70) rfl (by kernel_rfl) (by kernel_rfl) (by kernel_rfl) (fun _ _ _ h => h) (yieldsIf_run rfl (fun w' hw' => ?y70)) hq1 ?_
      case y70 => first | (go_simp; rfl) | (go_simp; done) | rfl
      simp only [Act.put, List.setIfInBounds_toArray, List.set_cons_zero, List.set_cons_succ]
      refine wpAnyH_takeI (i := 11) (v := ?v71) rfl (by kernel_rfl) (by kernel_rfl) (by kernel_rfl) (fun _ _ _ h => h) (yieldsIf_want rfl (fun w' hw' => ?y71)) hq1 ?_
      case y71 => first | (go_simp; rfl) | (go_simp; done) | rfl
      simp only [Act.put, List.setIfInBounds_toArray, List.set_cons_zero, List.set_cons_succ]
      refine wpAnyH_takeI (i := 12) (v := ?v72) rfl (by kernel_rfl) (by kernel_rfl) (by kernel_rfl) (fun _ _ _ h => h) (yieldsIf_want rfl (fun w' hw' => ?y72)) hq1 ?_
      case y72 => first | (go_simp; rfl) | (go_simp; done) | rfl
      simp only [Act.put, List.setIfInBounds_toArray, List.set_cons_zero, List.set_cons_succ]
      refine wpAnyH_takeI (i := 13) (v := ?v73) rfl (by kernel_rfl) (by kernel_rfl) (by kernel_rfl) (fun _ _ _ h => h) (yieldsIf_run rfl (fun w' hw' => ?y73)) hq1 ?_
      case y73 => first | (go_simp; rfl) | (go_simp; done) | rfl
      simp only [Act.put, List.setIfInBounds_toArray, List.set_cons_zero, List.set_cons_succ]
      refine wpAnyH_takeI (i := 14) (v := ?v74) rfl (by kernel_rfl) (by kernel_rfl) (by kernel_rfl) (fun _ _ _ h => h) (yieldsIf_run rfl (fun w' hw' => ?y74)) hq1 ?_
      case y74 => first | (go_simp; rfl) | (go_simp; done) | rfl
      simp only [Act.put, List.setIfInBounds_toArray, List.set_cons_zero, List.set_cons_succ]
      refine wpAnyH_takeI (i := 15) (v := ?v75) rfl (by kernel_rfl) (by kernel_rfl) (by kernel_rfl) (fun _ _ _ h => h) (yieldsIf_want rfl (fun w' hw' => ?y75)) hq1 ?_
      case y75 => first | (go_simp; rfl) | (go_simp; done) | rfl
      simp only [Act.put, List.setIfInBounds_toArray, List.set_cons_zero, List.set_cons_succ]
      refine wpAnyH_takeI (i := 16) (v := ?v76) rfl (by kernel_rfl) (by kernel_rfl) (by kernel_rfl) (fun _ _ _ h => h) (yieldsIf_want rfl (fun w' hw' => ?y76)) hq1 ?_
      case y76 => first | (go_simp; rfl) | (go_simp; done) | rfl
      simp only [Act.put, List.setIfInBounds_toArray, List.set_cons_zero, List.set_cons_succ]
      refine wpAnyH_takeI (i := 17) (v := ?v77) rfl (by kernel_rfl) (by kernel_rfl) (by kernel_rfl) (fun _ _ _ h => h) (yieldsIf_want rfl (fun w' hw' => ?y77)) hq1 ?_
      case y77 => first | (go_simp; rfl) | (go_simp; done) | rfl
      simp only [Act.put, List.setIfInBounds_toArray, List.set_cons_zero, List.set_cons_succ]
      refine wpAnyH_takeI (i := 18) (v := ?v78) rfl (by kernel_rfl) (by kernel_rfl) (by kernel_rfl) (fun _ _ _ h => h) (yieldsIf_want rfl (fun w' hw' => ?y78)) hq1 ?_
      case y78 => first | (go_simp; rfl) | (go_simp; done) | rfl
      simp only [Act.put, List.setIfInBounds_toArray, List.set_cons_zero, List.set_cons_succ]
      refine wpAnyH_takeI (i := 19) (v := ?v79) rfl (by kernel_rfl) (by kernel_rfl) (by kernel_rfl) (fun _ _ _ h => h) (yieldsIf_want rfl (fun w' hw' => ?y79)) hq1 ?_
      case y79 => (obtain ⟨h1, h2, h3⟩ := HNC.out w' hw'; clear hw'; first | (go_simp; rfl) | (go_simp; done))
      simp only [Act.put, List.setIfInBounds_toArray, List.set_cons_zero, List.set_cons_succ]
      refine wpAnyH_takeI (i := 20) (v := ?v80) rfl (by kernel_rfl) (by kernel_rfl) (by kernel_rfl) (fun _ _ _ h => h) (yieldsIf_want rfl (fun w' hw' => ?y80)) hq1 ?_
      case y80 => (obtain ⟨h1, h2, h3⟩ := HNC.out w' hw'; clear hw'; first | (go_simp; rfl) | (go_simp; done))
      simp only [Act.put, List.setIfInBounds_toArray, List.set_cons_zero, List.set_cons_succ]
      refine wpAnyH_takeI (i := 21) (v := ?v81) rfl (by kernel_rfl) (by kernel_rfl) (by kernel_rfl) (fun _ _ _ h => h) (yieldsIf_want rfl (fun w' hw' => ?y81)) hq1 ?_
      case y81 => first | (go_simp; rfl) | (go_simp; done) | rfl
      simp only [Act.put, List.setIfInBounds_toArray, List.set_cons_zero, List.set_cons_succ]
      refine wpAnyH_takeI (i := 22) (v := .bool false) rfl (by kernel_rfl) (by kernel_rfl) (by kernel_rfl) (fun _ _ _ h => h) (yieldsIf_want rfl (fun w' hw' => ?y82)) hq1 ?_
      case y82 => first | (go_simp; rfl) | (go_simp; done) | rfl
      simp only [Act.put, List.setIfInBounds_toArray, List.set_cons_zero, List.set_cons_succ]
      refine wpAnyH_takeI (i := 23) (v := ?v83) rfl (by kernel_rfl) (by kernel_rfl) (by kernel_rfl) (fun _ _ _ h => h) (yieldsIf_run rfl (fun w' hw' => ?y83)) hq1 ?_
      case y83 => first | (go_simp; rfl) | (go_simp; done) | rfl
      simp only [Act.put, List.setIfInBounds_toArray, List.set_cons_zero, List.set_cons_succ]
      refine wpAnyH_done (by kernel_rfl) ?_ _
      refine NoPanic.normal ?_
      have HBR2 := Lib.hid (HBR.out.trans ((hd0.trans (hb1.mono hd0.size)).mono HBR.out.size))
      clear hb1 hd0 hq1 hS0 kn0 hlook
      go_wp2_with fail
      go_roundw
      case rel => exact ⟨i + 1, by omega, by go_num, HBR2⟩
      case measure => simp [intOf] <;> omega

   ·obtain rfl : er = 28 := (HP9.out her).1
    obtain rfl := hbad her
    obtain ⟨_, p2, p3, p4, p5⟩ := HP9.out her
    obtain ⟨SQ, hSQ⟩ : ∃ SR, (DS.restart S4 (fateL ds)).1 = SR := ⟨_, rfl⟩
    have HRO := Lib.hid (p5.reopen (S3 := SQ) p2 (fateL_tear ds) (by have := HRNG.out; show 3 + sz ≤ _; have h9 : 3 + sz ≤ 46 := this; omega) (by omega) (by omega) (fun f E hq => by rw [hq.1, hq.2]; exact HQ0.out.bounds (by omega)) (m := 1000) (p4.less (by omega)) hSQ (n := 0) (by omega) (.inl rfl))
    obtain ⟨y2, S6, er2, J6, q0, r1, r2, r3, r4, r5, r6, r7, r8, r9, _⟩ := HRO.out
    obtain rfl := r9 rfl
    have HSQ := Lib.hid hSQ
    have HDN4 := Lib.hid p2
    have HRM4 := Lib.hid (p4.less (k := 0) (by omega))
    have HJ4 := Lib.hid (show J6.first = y.first ∧ J6.ents = y.ents from ⟨(r8 rfl).1.trans q0.1, (r8 rfl).2.trans q0.2⟩)
    have HPL := Lib.hid (show currL SQ ⟨3, sz⟩ = some y2 ∧ JLim (nextG (1 - y2.gen % 2) (secL SQ 3 sz)) y2.first y2.ents.length y2.ents ∧ sizeE y2.ents ≤ 5000 ∧ Roomy SQ (sizeE y2.ents + 1) ∧ SQ.down = false ∧ SQ.dur.length = 48 ∧ moveJ SQ ⟨3, sz⟩ (1 - y2.gen % 2) y2.first y2.ents = (S6, 0, J6) from ⟨r1, r2, r3, r4, r5, r6.trans p3, r7⟩)
    clear p2 p3 p4 p5 hSQ HRO q0 r1 r2 r3 r4 r5 r6 r7 r8 r9 hop hbad her HP8 HP9
    unfold openNo
    go_wp2_with fail
    refine (HFA4.out Vf HDA6.out.below).mono ?_
    rintro e Vg ⟨fa2, fc2, rfl, hfv, hb2⟩
    have HFV := Lib.hid hfv
    have HFB := Lib.hid hb2
    clear hfv hb2
    go_wp2_with fail
    refine (Restart_da HDA6.out HFB.out HFV.out HDN4.out HRM4.out (by rw [fateL_length, HND0.out]; omega)).mono ?_
    rintro e Vh ⟨rfl, hda3, hcg3⟩
    rw [HSQ.out] at hda3
    have HDA7 := Lib.hid hda3
    have HM7 := Lib.hid (HM6.out.chg hcg3 (fun h => h rfl))
    clear hda3 hcg3 HDA6 HM6 HFV HFB
    go_wp2_with fail
    refine (HSZ.out Vh).mono ?_
    rintro e Vi ⟨rfl, hb⟩
    have HDA8 := Lib.hid (HDA7.out.step hb)
    have HM8 := Lib.hid (HM7.out.below hb)
    have HX8 := Lib.hid (show ∀ k, k = m → k < Vi.heap.size from fun k e => e ▸ HM8.out.lt)
    clear hb HDA7 HM7
    go_wp2_with fail
    refine (Open_da HDA8.out HX8.out HK.out 3 sz hs8.1 (by rw [HPL.out.2.2.2.2.2.1]; omega) HPL.out.2.2.2.2.1 y2 HPL.out.1 HPL.out.2.1 (Nat.le_trans HPL.out.2.2.1 (by decide)) HPL.out.2.2.2.1 HPL.out.2.2.2.2.2.2).mono ?_
    rintro e Vj ⟨_, hkp6, _, hop⟩
    have HM6 := Lib.hid (HM8.out.chg hkp6 (fun h => h rfl))
    obtain ⟨g2, N, U5, lb9, lbc9, rfl, hja5, hu5, hnu5, _⟩ := hop rfl
    obtain ⟨ya, yc, hblk⟩ := hja5.blk
    have HBW9 := Lib.hid hja5.below
    clear hkp6 HDA8 HM8 HX8 HPL
    obtain ⟨ny, hny⟩ : ∃ ny, J6.ents.length = ny := ⟨_, rfl⟩
    obtain ⟨E4, hE4⟩ : ∃ E, J6.ents = E := ⟨_, rfl⟩
    obtain ⟨f0, hf0⟩ : ∃ f, J6.first = f := ⟨_, rfl⟩
    have HALL := Lib.hid (show AllE fm f0 E4 by rw [← hE4, ← hf0, HJ4.out.1, HJ4.out.2]; exact HQ0.out.all)
    have HQ := Lib.hid (show ((f0 : Int) = fi ∨ (f0 : Int) = cu) ∧ sy ≤ f0 + ny by rw [← hf0, ← hny, HJ4.out.1, HJ4.out.2]; exact ⟨HQ0.out.fs, HQ0.out.sy⟩)
    have hfn : f0 + ny ≤ 100 := by rw [← hf0, ← hny, HJ4.out.1, HJ4.out.2]; exact HQ0.out.n
    have HJ4F := Lib.hid (show J6.first = f0 ∧ True from ⟨hf0, trivial⟩)
    have HNY := Lib.hid (show E4.length = ny by rw [← hE4]; exact hny)
    rw [hny, hf0, hE4] at hnu5
    rw [hny] at hblk ⊢
    have HNU9 := Lib.hid hnu5
    have HBK9 := Lib.hid hblk
    have HSM9 := Lib.hid HM6.out
    obtain ⟨V9, rfl⟩ : ∃ V9, V9 = Vj := ⟨_, rfl⟩
    clear hny hE4 hf0 hnu5 hblk hja5 hu5 hop HM6 HJ4
    have hle : ¬ (f0 : Int) + (ny : Int) < (sy : Int) := by have h1 := HQ.out.2; omega
    have hled : decide ((f0 : Int) + (ny : Int) < (sy : Int)) = false := by simp; omega
    have hsub : (f0 : Int) + (ny : Int) - (f0 : Int) = (ny : Int) := by omega
    have HBX := Lib.hid (Below.refl V9.heap.size V9)
    by_cases hff : (f0 : Int) = fi
    ·subst hff
     go_wp2_with fail
     refine (JFirst_any (HBK9.out.below HBX.out)).mono ?_
     rintro e Vx ⟨rfl, hb⟩
     rw [HJ4F.out.1]
     have HBX := Lib.hid (HBX.out.trans (hb.mono HBX.out.size))
     clear hb
     go_wp2_with fail
     refine (JNext_any (HBK9.out.below HBX.out) (by rw [HJ4F.out.1]; omega)).mono ?_
     rintro e Vx ⟨rfl, hb⟩
     rw [HJ4F.out.1]
     have HBX := Lib.hid (HBX.out.trans (hb.mono HBX.out.size))
     clear hb
     go_wp2_with fail
     refine (JNext_any (HBK9.out.below HBX.out) (by rw [HJ4F.out.1]; omega)).mono ?_
     rintro e Vx ⟨rfl, hb⟩
     rw [HJ4F.out.1]
     have HBX := Lib.hid (HBX.out.trans (hb.mono HBX.out.size))
     clear hb
     go_wp2_with fail
     refine (JFirst_any (HBK9.out.below HBX.out)).mono ?_
     rintro e Vx ⟨rfl, hb⟩
     rw [HJ4F.out.1]
     have HBX := Lib.hid (HBX.out.trans (hb.mono HBX.out.size))
     clear hb
     clear hle hled
     have HV9 := Lib.hid (HBW9.out.trans (HBX.out.mono HBW9.out.size))
     have HL0 := Lib.hid (Below.refl Vx.heap.size Vx)
     go_wp2_with fail
     go_loopw [26] (fun iv wr => ∃ (i : Nat), i ≤ ny ∧ iv = .int .i64 (i : Int) ∧ Hid (Below Vx.heap.size Vx wr)) (fun iv _ => ny - (intOf iv).toNat)
     case atStart => exact ⟨0, Nat.zero_le _, rfl, HL0⟩
     case round =>
      obtain ⟨i, hi2, rfl, HBR⟩ := hrel
      obtain ⟨Q0, rfl⟩ : ∃ Q0, Q0 = wr := ⟨_, rfl⟩
      clear HL0
      have HXQ := Lib.hid (HBX.out.trans (HBR.out.mono HBX.out.size))
      by_cases hlt : i < ny
      case neg =>
       obtain rfl : ny = i := by omega
       have HBQ := Lib.hid (HV9.out.trans (HBR.out.mono HV9.out.size))
       go_wp2_with fail
       exact bodyPost_ret (v := .bool true) (by simp [results, Tryd.results9, go_sem]) rfl ⟨rfl, HBQ.out⟩
      have hiI : (i : Int) < (ny : Int) := by omega
      have hiE : i < E4.length := by rw [HNY.out]; exact hlt
      obtain ⟨gl, u, e9, _, hgl, kn0, kn1, hbu⟩ := (HNU9.out.below HXQ.out).get hiE
      subst e9
      obtain ⟨ua, uc, rfl⟩ := hbu.form
      rw [Int.natCast_add] at kn0
      obtain ⟨X, hX⟩ : ∃ X, E4[i] = X := ⟨_, rfl⟩
      have hao := HALL.out i hiE
      rw [hX] at hao
      rw [hX] at kn1 hbu
      have hlook : (Instr.lookup 45 (.map (some m)) (.int .i64 ((f0 : Int) + (i : Int))) true).run Tryd.prog Q0 = .ok (.tuple #[.string ⟨X.toArray⟩, .bool true]) Q0 := by
       have h1 := (HSM9.out.below HXQ.out).look (f0 + i) (by omega) true
       rw [hao, Int.natCast_add] at h1
       exact h1
      have HNC := Lib.hid (show ∀ w', Below Q0.heap.size Q0 w' → w'.cell? ⟨gl, i * 2, none⟩ = some (.int .i64 ((f0 : Int) + (i : Int))) ∧ w'.cell? ⟨gl, i * 2 + 1, none⟩ = some (.slice ua X.length uc) ∧ (convert 36 9 (.slice ua X.length uc)).run Tryd.prog w' = .ok (.string ⟨X.toArray⟩) w' from fun w' hw' => ⟨(hw'.cell (p := ⟨gl, i * 2, none⟩) hgl).trans kn0, (hw'.cell (p := ⟨gl, i * 2 + 1, none⟩) hgl).trans kn1, (hbu.below hw').at_.str⟩)
      obtain ⟨xn, hxn⟩ : ∃ xn, X.length = xn := ⟨_, rfl⟩
      rw [hxn] at HNC
      clear kn1 hbu hao
      go_wp2_with fail
      refine wp_region_noPanic ?_
      refine wp_region_H (Below Q0.heap.size Q0) (by kernel_rfl) ?_
      have hS0 : (Below Q0.heap.size Q0) Q0.drew := ((Below.refl _ _).drew)
      obtain ⟨wd, hwd⟩ : ∃ wd, Q0.drew = wd := ⟨_, rfl⟩
      rw [hwd] at hS0 ⊢
      have hd0 : Below Q0.heap.size Q0 wd := hwd ▸ (Below.refl _ _).drew
      clear hwd
      refine wpAnyH_takeI (i := 0) (v := ?v84) rfl (by kernel_rfl) (by kernel_rfl) (by kernel_rfl) (fun _ _ _ h => h) (yieldsIf_run rfl (fun w' hw' => ?y84)) hS0 ?_
      case y84 => first | (go_simp; rfl) | (go_simp; done) | rfl
      simp only [Act.put, List.setIfInBounds_toArray, List.set_cons_zero, List.set_cons_succ]
      refine wpAnyH_takeI (i := 1) (v := ?v85) rfl (by kernel_rfl) (by kernel_rfl) (by kernel_rfl) (fun _ _ _ h => h) (yieldsIf_run rfl (fun w' hw' => ?y85)) hS0 ?_
      case y85 => first | (go_simp; rfl) | (go_simp; done) | rfl
      simp only [Act.put, List.setIfInBounds_toArray, List.set_cons_zero, List.set_cons_succ]
      refine wpAnyH_takeI (i := 2) (v := ?v86) rfl (by kernel_rfl) (by kernel_rfl) (by kernel_rfl) (fun _ _ _ h => h) (yieldsIf_run rfl (fun w' hw' => ?y86)) hS0 ?_
      case y86 => first | (go_simp; rfl) | (go_simp; done) | rfl
      simp only [Act.put, List.setIfInBounds_toArray, List.set_cons_zero, List.set_cons_succ]
      refine wpAnyH_takeI (i := 3) (v := ?v87) rfl (by kernel_rfl) (by kernel_rfl) (by kernel_rfl) (fun _ _ _ h => h) (yieldsIf_run rfl (fun w' hw' => ?y87)) hS0 ?_
      case y87 => first | (go_simp; rfl) | (go_simp; done) | rfl
      simp only [Act.put, List.setIfInBounds_toArray, List.set_cons_zero, List.set_cons_succ]
      refine wpAnyH_takeI (i := 4) (v := ?v88) rfl (by kernel_rfl) (by kernel_rfl) (by kernel_rfl) (fun _ _ _ h => h) (yieldsIf_run rfl (fun w' hw' => ?y88)) hS0 ?_
      case y88 => (obtain ⟨h1, h2, h3⟩ := HNC.out w' hw'; clear hw'; first | (go_simp; rfl) | (go_simp; done))
      simp only [Act.put, List.setIfInBounds_toArray, List.set_cons_zero, List.set_cons_succ]
      refine wpAnyH_takeI (i := 5) (v := ?v89) rfl (by kernel_rfl) (by kernel_rfl) (by kernel_rfl) (fun _ _ _ h => h) (yieldsIf_run rfl (fun w' hw' => ?y89)) hS0 ?_
      case y89 => first | (go_simp; rfl) | (go_simp; done) | rfl
      simp only [Act.put, List.setIfInBounds_toArray, List.set_cons_zero, List.set_cons_succ]
      refine wpAnyH_takeI (i := 7) (v := ?v90) rfl (by kernel_rfl) (by kernel_rfl) (by kernel_rfl) (fun _ _ _ h => h) (yieldsIf_run rfl (fun w' hw' => ?y90)) hS0 ?_
      case y90 => first | (go_simp; rfl) | (go_simp; done) | rfl
      simp only [Act.put, List.setIfInBounds_toArray, List.set_cons_zero, List.set_cons_succ]
      refine wpAnyH_do (i := 6) (by kernel_rfl) rfl rfl (fun K hK => ?_)
      go_simp
      go_at_call 21
      refine (JFirst_any (HBK9.out.below (HXQ.out.trans (hS0.mono HXQ.out.size)))).mono ?_
      rintro e Q1 ⟨rfl, hb1⟩
      rw [HJ4F.out.1]
      have hq1 := hS0.trans (hb1.mono hS0.size)
      refine hK _ _ (hq1) ?_
      clear hK K
      try simp only [Act.put, List.setIfInBounds_toArray, List.set_cons_zero, List.set_cons_succ]
      refine wpAnyH_takeI (i := 8) (v := .int .i64 ((f0 : Int) + (i : Int))) rfl (by kernel_rfl) (by kernel_rfl) (by kernel_rfl) (fun _ _ _ h => h) (yieldsIf_run rfl (fun w' hw' => ?y91)) hq1 ?_
      case y91 => (have hwr : IntKind.i64.wrap ((f0 : Int) + (i : Int)) = (f0 : Int) + (i : Int) := IntWalk.i64_in _ (by omega); clear hw'; first | (go_simp; rfl) | (go_simp; done))
      simp only [Act.put, List.setIfInBounds_toArray, List.set_cons_zero, List.set_cons_succ]
      refine wpAnyH_takeI (i := 9) (v := .bool false) rfl (by kernel_rfl) (by kernel_rfl) (by kernel_rfl) (fun _ _ _ h => h) (yieldsIf_run rfl (fun w' hw' => ?y92)) hq1 ?_
      case y92 => first | (go_simp; rfl) | (go_simp; done) | rfl
      simp only [Act.put, List.setIfInBounds_toArray, List.set_cons_zero, List.set_cons_succ]
      refine wpAnyH_takeI (i := 10) (v := ?v93) rfl (by kernel_rfl) (by kernel_rfl) (by kernel_rfl) (fun _ _ _ h => h) (yieldsIf_run rfl (fun w' hw' => ?y93)) hq1 ?_
      case y93 => first | (go_simp; rfl) | (go_simp; done) | rfl
      simp only [Act.put, List.setIfInBounds_toArray, List.set_cons_zero, List.set_cons_succ]
      refine wpAnyH_takeI (i := 11) (v := ?v94) rfl (by kernel_rfl) (by kernel_rfl) (by kernel_rfl) (fun _ _ _ h => h) (yieldsIf_want rfl (fun w' hw' => ?y94)) hq1 ?_
      case y94 => first | (go_simp; rfl) | (go_simp; done) | rfl
      simp only [Act.put, List.setIfInBounds_toArray, List.set_cons_zero, List.set_cons_succ]
      refine wpAnyH_takeI (i := 12) (v := ?v95) rfl (by kernel_rfl) (by kernel_rfl) (by kernel_rfl) (fun _ _ _ h => h) (yieldsIf_want rfl (fun w' hw' => ?y95)) hq1 ?_
      case y95 => first | (go_simp; rfl) | (go_simp; done) | rfl
      simp only [Act.put, List.setIfInBounds_toArray, List.set_cons_zero, List.set_cons_succ]
      refine wpAnyH_takeI (i := 13) (v := ?v96) rfl (by kernel_rfl) (by kernel_rfl) (by kernel_rfl) (fun _ _ _ h => h) (yieldsIf_run rfl (fun w' hw' => ?y96)) hq1 ?_
      case y96 => first | (go_simp; rfl) | (go_simp; done) | rfl
      simp only [Act.put, List.setIfInBounds_toArray, List.set_cons_zero, List.set_cons_succ]
      refine wpAnyH_takeI (i := 14) (v := ?v97) rfl (by kernel_rfl) (by kernel_rfl) (by kernel_rfl) (fun _ _ _ h => h) (yieldsIf_run rfl (fun w' hw' => ?y97)) hq1 ?_
      case y97 => first | (go_simp; rfl) | (go_simp; done) | rfl
      simp only [Act.put, List.setIfInBounds_toArray, List.set_cons_zero, List.set_cons_succ]
      refine wpAnyH_takeI (i := 15) (v := ?v98) rfl (by kernel_rfl) (by kernel_rfl) (by kernel_rfl) (fun _ _ _ h => h) (yieldsIf_want rfl (fun w' hw' => ?y98)) hq1 ?_
      case y98 => first | (go_simp; rfl) | (go_simp; done) | rfl
      simp only [Act.put, List.setIfInBounds_toArray, List.set_cons_zero, List.set_cons_succ]
      refine wpAnyH_takeI (i := 16) (v := ?v99) rfl (by kernel_rfl) (by kernel_rfl) (by kernel_rfl) (fun _ _ _ h => h) (yieldsIf_want rfl (fun w' hw' => ?y99)) hq1 ?_
      case y99 => first | (go_simp; rfl) | (go_simp; done) | rfl
      simp only [Act.put, List.setIfInBounds_toArray, List.set_cons_zero, List.set_cons_succ]
      refine wpAnyH_takeI (i := 17) (v := ?v100) rfl (by kernel_rfl) (by kernel_rfl) (by kernel_rfl) (fun _ _ _ h => h) (yieldsIf_want rfl (fun w' hw' => ?y100)) hq1 ?_
      case y100 => first | (go_simp; rfl) | (go_simp; done) | rfl
      simp only [Act.put, List.setIfInBounds_toArray, List.set_cons_zero, List.set_cons_succ]
      refine wpAnyH_takeI (i := 18) (v := ?v101) rfl (by kernel_rfl) (by kernel_rfl) (by kernel_rfl) (fun _ _ _ h => h) (yieldsIf_want rfl (fun w' hw' => ?y101)) hq1 ?_
      case y101 => first | (go_simp; rfl) | (go_simp; done) | rfl
      simp only [Act.put, List.setIfInBounds_toArray, List.set_cons_zero, List.set_cons_succ]
      refine wpAnyH_takeI (i := 19) (v := ?v102) rfl (by kernel_rfl) (by kernel_rfl) (by kernel_rfl) (fun _ _ _ h => h) (yieldsIf_want rfl (fun w' hw' => ?y102)) hq1 ?_
      case y102 => (obtain ⟨h1, h2, h3⟩ := HNC.out w' hw'; clear hw'; first | (go_simp; rfl) | (go_simp; done))
      simp only [Act.put, List.setIfInBounds_toArray, List.set_cons_zero, List.set_cons_succ]
      refine wpAnyH_takeI (i := 20) (v := ?v103) rfl (by kernel_rfl) (by kernel_rfl) (by kernel_rfl) (fun _ _ _ h => h) (yieldsIf_want rfl (fun w' hw' => ?y103)) hq1 ?_
      case y103 => (obtain ⟨h1, h2, h3⟩ := HNC.out w' hw'; clear hw'; first | (go_simp; rfl) | (go_simp; done))
      simp only [Act.put, List.setIfInBounds_toArray, List.set_cons_zero, List.set_cons_succ]
      refine wpAnyH_takeI (i := 21) (v := ?v104) rfl (by kernel_rfl) (by kernel_rfl) (by kernel_rfl) (fun _ _ _ h => h) (yieldsIf_want rfl (fun w' hw' => ?y104)) hq1 ?_
      case y104 => first | (go_simp; rfl) | (go_simp; done) | rfl
      simp only [Act.put, List.setIfInBounds_toArray, List.set_cons_zero, List.set_cons_succ]
      refine wpAnyH_takeI (i := 22) (v := .bool false) rfl (by kernel_rfl) (by kernel_rfl) (by kernel_rfl) (fun _ _ _ h => h) (yieldsIf_want rfl (fun w' hw' => ?y105)) hq1 ?_
      case y105 => first | (go_simp; rfl) | (go_simp; done) | rfl
      simp only [Act.put, List.setIfInBounds_toArray, List.set_cons_zero, List.set_cons_succ]
      refine wpAnyH_takeI (i := 23) (v := ?v106) rfl (by kernel_rfl) (by kernel_rfl) (by kernel_rfl) (fun _ _ _ h => h) (yieldsIf_run rfl (fun w' hw' => ?y106)) hq1 ?_
      case y106 => first | (go_simp; rfl) | (go_simp; done) | rfl
      simp only [Act.put, List.setIfInBounds_toArray, List.set_cons_zero, List.set_cons_succ]
      refine wpAnyH_done (by kernel_rfl) ?_ _
      refine NoPanic.normal ?_
      have HBR2 := Lib.hid (HBR.out.trans ((hd0.trans (hb1.mono hd0.size)).mono HBR.out.size))
      clear hb1 hd0 hq1 hS0 kn0 hlook
      go_wp2_with fail
      go_roundw
      case rel => exact ⟨i + 1, by omega, by go_num, HBR2⟩
      case measure => simp [intOf] <;> omega
    ·have hfc : (f0 : Int) = cu := HQ.out.1.elim (fun h => absurd h hff) id
     subst hfc
     have hffd : ((f0 : Int) != fi) = true := by simpa [bne] using hff
     go_wp2_with fail
     refine (JFirst_any (HBK9.out.below HBX.out)).mono ?_
     rintro e Vx ⟨rfl, hb⟩
     rw [HJ4F.out.1]
     have HBX := Lib.hid (HBX.out.trans (hb.mono HBX.out.size))
     clear hb
     go_wp2_with fail
     refine (JFirst_any (HBK9.out.below HBX.out)).mono ?_
     rintro e Vx ⟨rfl, hb⟩
     rw [HJ4F.out.1]
     have HBX := Lib.hid (HBX.out.trans (hb.mono HBX.out.size))
     clear hb
     go_wp2_with fail
     refine (JNext_any (HBK9.out.below HBX.out) (by rw [HJ4F.out.1]; omega)).mono ?_
     rintro e Vx ⟨rfl, hb⟩
     rw [HJ4F.out.1]
     have HBX := Lib.hid (HBX.out.trans (hb.mono HBX.out.size))
     clear hb
     go_wp2_with fail
     refine (JNext_any (HBK9.out.below HBX.out) (by rw [HJ4F.out.1]; omega)).mono ?_
     rintro e Vx ⟨rfl, hb⟩
     rw [HJ4F.out.1]
     have HBX := Lib.hid (HBX.out.trans (hb.mono HBX.out.size))
     clear hb
     go_wp2_with fail
     refine (JFirst_any (HBK9.out.below HBX.out)).mono ?_
     rintro e Vx ⟨rfl, hb⟩
     rw [HJ4F.out.1]
     have HBX := Lib.hid (HBX.out.trans (hb.mono HBX.out.size))
     clear hb
     clear hle hled hffd
     have HV9 := Lib.hid (HBW9.out.trans (HBX.out.mono HBW9.out.size))
     have HL0 := Lib.hid (Below.refl Vx.heap.size Vx)
     go_wp2_with fail
     go_loopw [26] (fun iv wr => ∃ (i : Nat), i ≤ ny ∧ iv = .int .i64 (i : Int) ∧ Hid (Below Vx.heap.size Vx wr)) (fun iv _ => ny - (intOf iv).toNat)
     case atStart => exact ⟨0, Nat.zero_le _, rfl, HL0⟩
     case round =>
      obtain ⟨i, hi2, rfl, HBR⟩ := hrel
      obtain ⟨Q0, rfl⟩ : ∃ Q0, Q0 = wr := ⟨_, rfl⟩
      clear HL0
      have HXQ := Lib.hid (HBX.out.trans (HBR.out.mono HBX.out.size))
      by_cases hlt : i < ny
      case neg =>
       obtain rfl : ny = i := by omega
       have HBQ := Lib.hid (HV9.out.trans (HBR.out.mono HV9.out.size))
       go_wp2_with fail
       exact bodyPost_ret (v := .bool true) (by simp [results, Tryd.results9, go_sem]) rfl ⟨rfl, HBQ.out⟩
      have hiI : (i : Int) < (ny : Int) := by omega
      have hiE : i < E4.length := by rw [HNY.out]; exact hlt
      obtain ⟨gl, u, e9, _, hgl, kn0, kn1, hbu⟩ := (HNU9.out.below HXQ.out).get hiE
      subst e9
      obtain ⟨ua, uc, rfl⟩ := hbu.form
      rw [Int.natCast_add] at kn0
      obtain ⟨X, hX⟩ : ∃ X, E4[i] = X := ⟨_, rfl⟩
      have hao := HALL.out i hiE
      rw [hX] at hao
      rw [hX] at kn1 hbu
      have hlook : (Instr.lookup 45 (.map (some m)) (.int .i64 ((f0 : Int) + (i : Int))) true).run Tryd.prog Q0 = .ok (.tuple #[.string ⟨X.toArray⟩, .bool true]) Q0 := by
       have h1 := (HSM9.out.below HXQ.out).look (f0 + i) (by omega) true
       rw [hao, Int.natCast_add] at h1
       exact h1
      have HNC := Lib.hid (show ∀ w', Below Q0.heap.size Q0 w' → w'.cell? ⟨gl, i * 2, none⟩ = some (.int .i64 ((f0 : Int) + (i : Int))) ∧ w'.cell? ⟨gl, i * 2 + 1, none⟩ = some (.slice ua X.length uc) ∧ (convert 36 9 (.slice ua X.length uc)).run Tryd.prog w' = .ok (.string ⟨X.toArray⟩) w' from fun w' hw' => ⟨(hw'.cell (p := ⟨gl, i * 2, none⟩) hgl).trans kn0, (hw'.cell (p := ⟨gl, i * 2 + 1, none⟩) hgl).trans kn1, (hbu.below hw').at_.str⟩)
      obtain ⟨xn, hxn⟩ : ∃ xn, X.length = xn := ⟨_, rfl⟩
      rw [hxn] at HNC
      clear kn1 hbu hao
      go_wp2_with fail
      refine wp_region_noPanic ?_
      refine wp_region_H (Below Q0.heap.size Q0) (by kernel_rfl) ?_
      have hS0 : (Below Q0.heap.size Q0) Q0.drew := ((Below.refl _ _).drew)
      obtain ⟨wd, hwd⟩ : ∃ wd, Q0.drew = wd := ⟨_, rfl⟩
      rw [hwd] at hS0 ⊢
      have hd0 : Below Q0.heap.size Q0 wd := hwd ▸ (Below.refl _ _).drew
      clear hwd
      refine wpAnyH_takeI (i := 0) (v := ?v107) rfl (by kernel_rfl) (by kernel_rfl) (by kernel_rfl) (fun _ _ _ h => h) (yieldsIf_run rfl (fun w' hw' => ?y107)) hS0 ?_
      case y107 => first | (go_simp; rfl) | (go_simp; done) | rfl
      simp only [Act.put, List.setIfInBounds_toArray, List.set_cons_zero, List.set_cons_succ]
      refine wpAnyH_takeI (i := 1) (v := ?v108) rfl (by kernel_rfl) (by kernel_rfl) (by kernel_rfl) (fun _ _ _ h => h) (yieldsIf_run rfl (fun w' hw' => ?y108)) hS0 ?_
      case y108 => first | (go_simp; rfl) | (go_simp; done) | rfl
      simp only [Act.put, List.setIfInBounds_toArray, List.set_cons_zero, List.set_cons_succ]
      refine wpAnyH_takeI (i := 2) (v := ?v109) rfl (by kernel_rfl) (by kernel_rfl) (by kernel_rfl) (fun _ _ _ h => h) (yieldsIf_run rfl (fun w' hw' => ?y109)) hS0 ?_
      case y109 => first | (go_simp; rfl) | (go_simp; done) | rfl
      simp only [Act.put, List.setIfInBounds_toArray, List.set_cons_zero, List.set_cons_succ]
      refine wpAnyH_takeI (i := 3) (v := ?v110) rfl (by kernel_rfl) (by kernel_rfl) (by kernel_rfl) (fun _ _ _ h => h) (yieldsIf_run rfl (fun w' hw' => ?y110)) hS0 ?_
      case y110 => first | (go_simp; rfl) | (go_simp; done) | rfl
      simp only [Act.put, List.setIfInBounds_toArray, List.set_cons_zero, List.set_cons_succ]
      refine wpAnyH_takeI (i := 4) (v := ?v111) rfl (by kernel_rfl) (by kernel_rfl) (by kernel_rfl) (fun _ _ _ h => h) (yieldsIf_run rfl (fun w' hw' => ?y111)) hS0 ?_
      case y111 => (obtain ⟨h1, h2, h3⟩ := HNC.out w' hw'; clear hw'; first | (go_simp; rfl) | (go_simp; done))
      simp only [Act.put, List.setIfInBounds_toArray, List.set_cons_zero, List.set_cons_succ]
      refine wpAnyH_takeI (i := 5) (v := ?v112) rfl (by kernel_rfl) (by kernel_rfl) (by kernel_rfl) (fun _ _ _ h => h) (yieldsIf_run rfl (fun w' hw' => ?y112)) hS0 ?_
      case y112 => first | (go_simp; rfl) | (go_simp; done) | rfl
      simp only [Act.put, List.setIfInBounds_toArray, List.set_cons_zero, List.set_cons_succ]
      refine wpAnyH_takeI (i := 7) (v := ?v113) rfl (by kernel_rfl) (by kernel_rfl) (by kernel_rfl) (fun _ _ _ h => h) (yieldsIf_run rfl (fun w' hw' => ?y113)) hS0 ?_
      case y113 => first | (go_simp; rfl) | (go_simp; done) | rfl
      simp only [Act.put, List.setIfInBounds_toArray, List.set_cons_zero, List.set_cons_succ]
      refine wpAnyH_do (i := 6) (by kernel_rfl) rfl rfl (fun K hK => ?_)
      go_simp
      go_at_call 21
      refine (JFirst_any (HBK9.out.below (HXQ.out.trans (hS0.mono HXQ.out.size)))).mono ?_
      rintro e Q1 ⟨rfl, hb1⟩
      rw [HJ4F.out.1]
      have hq1 := hS0.trans (hb1.mono hS0.size)
      refine hK _ _ (hq1) ?_
      clear hK K
      try simp only [Act.put, List.setIfInBounds_toArray, List.set_cons_zero, List.set_cons_succ]
      refine wpAnyH_takeI (i := 8) (v := .int .i64 ((f0 : Int) + (i : Int))) rfl (by kernel_rfl) (by kernel_rfl) (by kernel_rfl) (fun _ _ _ h => h) (yieldsIf_run rfl (fun w' hw' => ?y114)) hq1 ?_
      case y114 => (have hwr : IntKind.i64.wrap ((f0 : Int) + (i : Int)) = (f0 : Int) + (i : Int) := IntWalk.i64_in _ (by omega); clear hw'; first | (go_simp; rfl) | (go_simp; done))
      simp only [Act.put, List.setIfInBounds_toArray, List.set_cons_zero, List.set_cons_succ]
      refine wpAnyH_takeI (i := 9) (v := .bool false) rfl (by kernel_rfl) (by kernel_rfl) (by kernel_rfl) (fun _ _ _ h => h) (yieldsIf_run rfl (fun w' hw' => ?y115)) hq1 ?_
      case y115 => first | (go_simp; rfl) | (go_simp; done) | rfl
      simp only [Act.put, List.setIfInBounds_toArray, List.set_cons_zero, List.set_cons_succ]
      refine wpAnyH_takeI (i := 10) (v := ?v116) rfl (by kernel_rfl) (by kernel_rfl) (by kernel_rfl) (fun _ _ _ h => h) (yieldsIf_run rfl (fun w' hw' => ?y116)) hq1 ?_
      case y116 => first | (go_simp; rfl) | (go_simp; done) | rfl
      simp only [Act.put, List.setIfInBounds_toArray, List.set_cons_zero, List.set_cons_succ]
      refine wpAnyH_takeI (i := 11) (v := ?v117) rfl (by kernel_rfl) (by kernel_rfl) (by kernel_rfl) (fun _ _ _ h => h) (yieldsIf_want rfl (fun w' hw' => ?y117)) hq1 ?_
      case y117 => first | (go_simp; rfl) | (go_simp; done) | rfl
      simp only [Act.put, List.setIfInBounds_toArray, List.set_cons_zero, List.set_cons_succ]
      refine wpAnyH_takeI (i := 12) (v := ?v118) rfl (by kernel_rfl) (by kernel_rfl) (by kernel_rfl) (fun _ _ _ h => h) (yieldsIf_want rfl (fun w' hw' => ?y118)) hq1 ?_
      case y118 => first | (go_simp; rfl) | (go_simp; done) | rfl
      simp only [Act.put, List.setIfInBounds_toArray, List.set_cons_zero, List.set_cons_succ]
      refine wpAnyH_takeI (i := 13) (v := ?v119) rfl (by kernel_rfl) (by kernel_rfl) (by kernel_rfl) (fun _ _ _ h => h) (yieldsIf_run rfl (fun w' hw' => ?y119)) hq1 ?_
      case y119 => first | (go_simp; rfl) | (go_simp; done) | rfl
      simp only [Act.put, List.setIfInBounds_toArray, List.set_cons_zero, List.set_cons_succ]
      refine wpAnyH_takeI (i := 14) (v := ?v120) rfl (by kernel_rfl) (by kernel_rfl) (by kernel_rfl) (fun _ _ _ h => h) (yieldsIf_run rfl (fun w' hw' => ?y120)) hq1 ?_
      case y120 => first | (go_simp; rfl) | (go_simp; done) | rfl
      simp only [Act.put, List.setIfInBounds_toArray, List.set_cons_zero, List.set_cons_succ]
      refine wpAnyH_takeI (i := 15) (v := ?v121) rfl (by kernel_rfl) (by kernel_rfl) (by kernel_rfl) (fun _ _ _ h => h) (yieldsIf_want rfl (fun w' hw' => ?y121)) hq1 ?_
      case y121 => first | (go_simp; rfl) | (go_simp; done) | rfl
      simp only [Act.put, List.setIfInBounds_toArray, List.set_cons_zero, List.set_cons_succ]
      refine wpAnyH_takeI (i := 16) (v := ?v122) rfl (by kernel_rfl) (by kernel_rfl) (by kernel_rfl) (fun _ _ _ h => h) (yieldsIf_want rfl (fun w' hw' => ?y122)) hq1 ?_
      case y122 => first | (go_simp; rfl) | (go_simp; done) | rfl
      simp only [Act.put, List.setIfInBounds_toArray, List.set_cons_zero, List.set_cons_succ]
      refine wpAnyH_takeI (i := 17) (v := ?v123) rfl (by kernel_rfl) (by kernel_rfl) (by kernel_rfl) (fun _ _ _ h => h) (yieldsIf_want rfl (fun w' hw' => ?y123)) hq1 ?_
      case y123 => first | (go_simp; rfl) | (go_simp; done) | rfl
      simp only [Act.put, List.setIfInBounds_toArray, List.set_cons_zero, List.set_cons_succ]
      refine wpAnyH_takeI (i := 18) (v := ?v124) rfl (by kernel_rfl) (by kernel_rfl) (by kernel_rfl) (fun _ _ _ h => h) (yieldsIf_want rfl (fun w' hw' => ?y124)) hq1 ?_
      case y124 => first | (go_simp; rfl) | (go_simp; done) | rfl
      simp only [Act.put, List.setIfInBounds_toArray, List.set_cons_zero, List.set_cons_succ]
      refine wpAnyH_takeI (i := 19) (v := ?v125) rfl (by kernel_rfl) (by kernel_rfl) (by kernel_rfl) (fun _ _ _ h => h) (yieldsIf_want rfl (fun w' hw' => ?y125)) hq1 ?_
      case y125 => (obtain ⟨h1, h2, h3⟩ := HNC.out w' hw'; clear hw'; first | (go_simp; rfl) | (go_simp; done))
      simp only [Act.put, List.setIfInBounds_toArray, List.set_cons_zero, List.set_cons_succ]
      refine wpAnyH_takeI (i := 20) (v := ?v126) rfl (by kernel_rfl) (by kernel_rfl) (by kernel_rfl) (fun _ _ _ h => h) (yieldsIf_want rfl (fun w' hw' => ?y126)) hq1 ?_
      case y126 => (obtain ⟨h1, h2, h3⟩ := HNC.out w' hw'; clear hw'; first | (go_simp; rfl) | (go_simp; done))
      simp only [Act.put, List.setIfInBounds_toArray, List.set_cons_zero, List.set_cons_succ]
      refine wpAnyH_takeI (i := 21) (v := ?v127) rfl (by kernel_rfl) (by kernel_rfl) (by kernel_rfl) (fun _ _ _ h => h) (yieldsIf_want rfl (fun w' hw' => ?y127)) hq1 ?_
      case y127 => first | (go_simp; rfl) | (go_simp; done) | rfl
      simp only [Act.put, List.setIfInBounds_toArray, List.set_cons_zero, List.set_cons_succ]
      refine wpAnyH_takeI (i := 22) (v := .bool false) rfl (by kernel_rfl) (by kernel_rfl) (by kernel_rfl) (fun _ _ _ h => h) (yieldsIf_want rfl (fun w' hw' => ?y128)) hq1 ?_
      case y128 => first | (go_simp; rfl) | (go_simp; done) | rfl
      simp only [Act.put, List.setIfInBounds_toArray, List.set_cons_zero, List.set_cons_succ]
      refine wpAnyH_takeI (i := 23) (v := ?v129) rfl (by kernel_rfl) (by kernel_rfl) (by kernel_rfl) (fun _ _ _ h => h) (yieldsIf_run rfl (fun w' hw' => ?y129)) hq1 ?_
      case y129 => first | (go_simp; rfl) | (go_simp; done) | rfl
      simp only [Act.put, List.setIfInBounds_toArray, List.set_cons_zero, List.set_cons_succ]
      refine wpAnyH_done (by kernel_rfl) ?_ _
      refine NoPanic.normal ?_
      have HBR2 := Lib.hid (HBR.out.trans ((hd0.trans (hb1.mono hd0.size)).mono HBR.out.size))
      clear hb1 hd0 hq1 hS0 kn0 hlook
      go_wp2_with fail
      go_roundw
      case rel => exact ⟨i + 1, by omega, by go_num, HBR2⟩
      case measure => simp [intOf] <;> omega


end Go.Proofs.YtplclpileejemaaDoor
