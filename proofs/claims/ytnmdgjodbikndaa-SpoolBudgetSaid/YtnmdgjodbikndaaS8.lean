/- The spool: the law Read: parts that are read one after another make up the text. -/
import Derived.Test.YtnmdgjodbikndaaS7
import Derived.Test.YtnmdgjodbikndaaGenR
namespace Go.Proofs.Ytnmdgjodbikndaa
open Go.RowKit
set_option linter.unusedVariables false
set_option linter.unusedSimpArgs false

theorem ba_extract_size (t : ByteArray) {i j : Nat} (hj : j ≤ t.size) : (t.extract i j).size = j - i := by
  rw [ByteArray.size_extract, Nat.min_eq_left hj]
theorem ba_app (t : ByteArray) {i j : Nat} (h : i ≤ j) : t.extract 0 i ++ t.extract i j = t.extract 0 j := by
  rw [ByteArray.extract_append_extract, Nat.min_eq_left (Nat.zero_le _), Nat.max_eq_right h]
theorem ba_all (t : ByteArray) : t.extract 0 t.size = t := ByteArray.extract_zero_size
theorem readT_eq (t : ByteArray) (k c : Nat) (hk : k ≤ t.size) : readT t (k : Int) (c : Int) = t.extract k (k + min c (t.size - k)) := by
  unfold readT
  rw [Int.toNat_natCast, Int.toNat_natCast, ByteArray.extract_extract, Nat.add_zero, Nat.min_eq_left (by omega)]
theorem rd_put {T : ByteArray} (h0 : T.size ≠ 0) (h2 : T.size ≤ 200) : putC ⟨200, 0, []⟩ (idN 9) T 1 = 0 := by
  unfold putC
  rw [if_neg (by rintro (h | h); exact absurd h (by decide); exact h0 h), if_neg (by omega), if_neg (by decide)]
  rw [if_neg (show ¬ ((⟨200, 0, []⟩ : SpD).find (idN 9)).isSome = true by decide)]
  rw [if_neg (by show ¬ (200 - ((0 : Nat) : Int) < (T.size : Int)); omega)]
def rdS (T : ByteArray) : SpD := ⟨200, 1, [⟨idN 9, T, 1, 0⟩]⟩
theorem rd_find (T : ByteArray) : (rdS T).find (idN 9) = some ⟨idN 9, T, 1, 0⟩ := by
  unfold rdS SpD.find
  rw [List.find?_cons, decide_eq_true rfl]
theorem rd_C (T : ByteArray) (k c : Nat) (hk : k ≤ T.size) : readC (rdS T) (idN 9) (k : Int) (c : Int) = 0 := by
  unfold readC
  rw [rd_find]
  simp only
  rw [if_neg (by rintro (h | h | h) <;> omega)]
theorem rd_C2 (T : ByteArray) : readC (rdS T) (idN 9) ((T.size : Int) + 1) 0 = 2 := by
  unfold readC
  rw [rd_find]
  simp only
  rw [if_pos (.inr (.inl (by omega)))]
theorem rd_any {w : World} {b m : Nat} {T : ByteArray} (h : SpAt w b m (rdS T)) (hok : (rdS T).Ok) (k c : Nat) (hk : k ≤ T.size) :
    Calls Try.prog 15 #[.pointer (some ⟨b, 0, none⟩), .agg (bvs (idN 9).1).toArray, .int .i64 (k : Int), .int .i64 (c : Int)] w fun e w' => e = .returned (.tuple #[.string (T.extract k (k + min c (T.size - k))), .int .i64 0]) ∧ Below w.heap.size w w' := by
  have h1 := Read_any h hok (idN 9) (k : Int) (c : Int)
  rw [rd_C T k c hk, if_pos rfl, rd_find, show ((some (⟨idN 9, T, 1, 0⟩ : ArtD)).getD zA).text = T from rfl, readT_eq T k c hk] at h1
  exact h1
set_option maxRecDepth 100000 in
set_option maxHeartbeats 2000000 in
theorem Read_law {w : World} (T : ByteArray) (v : Value) (l : List UInt8) (hT : T.size ≤ 9223372036854775807) (hv : BytesAt w (fun _ => True) v l) (hl : l.length ≤ 9223372036854775807) :
    Calls Try.prog 3 #[.string T, v] w fun e w' => e = .returned (.bool true) ∧ Below w.heap.size w w' := by
  obtain ⟨va, vc, rfl⟩ := hv.form
  obtain ⟨N, hN⟩ : ∃ N, l.length = N := ⟨_, rfl⟩
  rw [hN] at hv hl ⊢
  have HV := Lib.hid hv
  have HN := Lib.hid hN
  obtain ⟨i9, hi9⟩ : ∃ i9, idN 9 = i9 := ⟨_, rfl⟩
  have HI9 := Lib.hid (fun w => hi9 ▸ build_id 9 w)
  have HI := Lib.hid hi9
  clear hv hN hi9
  go_enter Try.func3, Try.ntmps3
  go_wp2_with fail
  refine known_any.mono ?_
  rintro e wa ⟨rfl, hba⟩
  have HBA := Lib.hid hba
  clear hba
  by_cases ht0 : T.size = 0
  · have hte : T = ⟨#[]⟩ := ByteArray.ext (Array.eq_empty_of_size_eq_zero ht0)
    subst hte
    go_wp2_with fail
    refine known_any.mono ?_
    rintro e wz ⟨rfl, hbz⟩
    have HBZ := Lib.hid hbz
    clear hbz
    go_wp2_with fail
    exact bodyPost_ret (v := .bool true) (by simp [results, Try.results3, go_sem]) rfl ⟨rfl, (HBA.out).trans (HBZ.out.mono (HBA.out).size)⟩
  have htl : T.toList.isEmpty = false := ba_ne ht0
  by_cases ht2 : 200 < T.size
  · have htI : (200 : Int) < (T.size : Int) := by omega
    go_wp2_with fail
    refine known_any.mono ?_
    rintro e wz ⟨rfl, hbz⟩
    have HBZ := Lib.hid hbz
    clear hbz
    go_wp2_with fail
    exact bodyPost_ret (v := .bool true) (by simp [results, Try.results3, go_sem]) rfl ⟨rfl, (HBA.out).trans (HBZ.out.mono (HBA.out).size)⟩
  have htI : ¬ (200 : Int) < (T.size : Int) := by omega
  by_cases hn6 : 60 < N
  · have hnI : (60 : Int) < (N : Int) := by omega
    go_wp2_with fail
    refine known_any.mono ?_
    rintro e wz ⟨rfl, hbz⟩
    have HBZ := Lib.hid hbz
    clear hbz
    go_wp2_with fail
    exact bodyPost_ret (v := .bool true) (by simp [results, Try.results3, go_sem]) rfl ⟨rfl, (HBA.out).trans (HBZ.out.mono (HBA.out).size)⟩
  have hnI : ¬ (60 : Int) < (N : Int) := by omega
  go_wp2_with fail
  refine (New_any 200).mono ?_
  rintro e w1 ⟨hb1, ⟨_, _, b, m, rfl, hb, hm, hs⟩ | ⟨h, _⟩⟩
  case inr => exact absurd ⟨by decide, by decide⟩ h
  have HS0 := Lib.hid hs
  have HB := Lib.hid hb
  have HM := Lib.hid hm
  have HB1 := Lib.hid (HBA.out.trans (hb1.mono HBA.out.size))
  have HB1A := Lib.hid hb1
  clear hs hb hm hb1
  go_wp2_with (refine wpList_met rfl ?_; refine wpList_buildV rfl (some 40) rfl 30 #[(0, .const (.int .u8 9))] rfl [(0, .int .u8 9)] rfl (.agg (bvs i9.1).toArray) (HI9.out _) ?_; refine Stop.on ?_)
  refine Stop.go ?_
  try simp only [Act.put, List.setIfInBounds_toArray, List.set_cons_zero, List.set_cons_succ]
  have hp := rd_put ht0 (by omega)
  have hok : (rdS T).Ok := by
    have h := Ok.add (k := idN 9) (t := T) (d := 1) (ok_new (n := 200) (by decide) (by decide)) hp
    exact h
  have hpS : putS ⟨200, 0, []⟩ (idN 9) T 1 = rdS T := by unfold putS; rw [if_pos hp]; rfl
  rw [HI.out] at hp hpS
  have HP := Lib.hid hp
  have HPS := Lib.hid hpS
  have HOK := Lib.hid hok
  clear hp hpS hok
  go_wp2_with fail
  refine (Put_any HS0.out (ok_new (by decide) (by decide)) (by decide) i9 T 1).mono ?_
  rintro e w2 ⟨rfl, hs2, hc2⟩
  rw [HPS.out] at hs2
  rw [HP.out]
  have HS2 := Lib.hid hs2
  have HB2 := Lib.hid (HBA.out.trans ((Chg.to_below HB1A.out hc2 HB1A.out.size (fun k e => by have := HB.out; have := HM.out; rcases e with e | e <;> omega)).mono HBA.out.size))
  clear hs2 hc2
  go_wp2_with fail
  have hrd : ∀ w', Below w2.heap.size w2 w' → ∀ k c : Nat, k ≤ T.size → Calls Try.prog 15 #[.pointer (some ⟨b, 0, none⟩), .agg (bvs i9.1).toArray, .int .i64 (k : Int), .int .i64 (c : Int)] w' fun e w'' => e = .returned (.tuple #[.string (T.extract k (k + min c (T.size - k))), .int .i64 0]) ∧ Below w'.heap.size w' w'' := fun w' hw' k c hk => HI.out ▸ rd_any (HS2.out.below hw') HOK.out k c hk
  have HRD := Lib.hid hrd
  clear hrd
  go_loopw [7, 8] (fun ov iv wr => ∃ i k : Nat, i ≤ N ∧ k ≤ T.size ∧ iv = .int .i64 (i : Int) ∧ ov = .string (T.extract 0 k) ∧ Below w2.heap.size w2 wr) (fun _ iv _ => N - (intOf iv).toNat)
  case atStart => exact ⟨0, 0, Nat.zero_le _, Nat.zero_le _, rfl, by rw [ByteArray.extract_same]; rfl, Below.refl _ _⟩
  case round =>
    obtain ⟨i, k, hi, hk, rfl, rfl, hB⟩ := hrel
    have HBR := Lib.hid hB
    have HBW := Lib.hid (HB2.out.trans (hB.mono HB2.out.size))
    clear hB
    have hsz : (T.extract 0 k).size = k := by rw [ba_extract_size T hk, Nat.sub_zero]
    obtain ⟨O, hO⟩ : ∃ O, T.extract 0 k = O := ⟨_, rfl⟩
    rw [hO] at hsz ⊢
    have HO := Lib.hid hO
    clear hO
    by_cases hlt : i < N
    · have hiI : (i : Int) < (N : Int) := by omega
      have hiI0 : (0 : Int) ≤ (i : Int) := by omega
      obtain ⟨g, off, rfl, hcl⟩ := (HV.out.below HBW.out).get (i := i) (by rw [HN.out]; exact hlt)
      obtain ⟨c, hc⟩ : ∃ c, (l[i]'(by rw [HN.out]; exact hlt)).toNat = c := ⟨_, rfl⟩
      have hc9 : c < 256 := by rw [← hc]; exact UInt8.toNat_lt _
      rw [hc] at hcl
      have HCL := Lib.hid (show ∀ w', Below wr.heap.size wr w' → w'.cell? ⟨g, off + i, none⟩ = some (.int .u8 (c : Int)) from fun w' hw' => (hw'.cell (p := ⟨g, off + i, none⟩) (World.block_lt_of_cell? _ _ hcl)).trans hcl)
      clear hc
      go_wp2_with (refine wpList_buildV rfl (some 53) rfl 30 #[(0, .const (.int .u8 9))] rfl [(0, .int .u8 9)] rfl (.agg (bvs i9.1).toArray) (HI9.out _) ?_; refine Stop.on ?_)
      refine Stop.go ?_
      try simp only [Act.put, List.setIfInBounds_toArray, List.set_cons_zero, List.set_cons_succ]
      go_wp2_with fail
      refine (HRD.out wr HBR.out k c hk).mono ?_
      rintro e w3 ⟨rfl, hb3⟩
      have hcl3 := HCL.out w3 hb3
      have hts : (T.extract k (k + min c (T.size - k))).size = min c (T.size - k) := by rw [ba_extract_size T (by omega)]; omega
      have hta : O ++ T.extract k (k + min c (T.size - k)) = T.extract 0 (k + min c (T.size - k)) := by rw [← HO.out]; exact ba_app T (by omega)
      obtain ⟨X, hX⟩ : ∃ X, T.extract k (k + min c (T.size - k)) = X := ⟨_, rfl⟩
      obtain ⟨Y, hY⟩ : ∃ Y, T.extract 0 (k + min c (T.size - k)) = Y := ⟨_, rfl⟩
      rw [hX] at hts hta ⊢
      rw [hY] at hta
      have HY := Lib.hid hY
      have HB3 := Lib.hid (HBR.out.trans (hb3.mono HBR.out.size))
      clear hb3 hX hY hcl
      go_wp2_with fail
      go_roundw
      case rel => exact ⟨i + 1, k + min c (T.size - k), by omega, by omega, by go_num, by rw [HY.out], HB3.out⟩
      case measure => simp [intOf]; omega
    · obtain rfl : N = i := by omega
      go_wp2_with (refine wpList_buildV rfl (some 87) rfl 30 #[(0, .const (.int .u8 9))] rfl [(0, .int .u8 9)] rfl (.agg (bvs i9.1).toArray) (HI9.out _) ?_; refine Stop.on ?_)
      refine Stop.go ?_
      try simp only [Act.put, List.setIfInBounds_toArray, List.set_cons_zero, List.set_cons_succ]
      go_wp2_with fail
      refine (HRD.out wr HBR.out k 4611686018427387904 hk).mono ?_
      rintro e w3 ⟨rfl, hb3⟩
      have hX : k + min 4611686018427387904 (T.size - k) = T.size := by omega
      rw [hX]
      have hta : O ++ T.extract k T.size = T := by rw [← HO.out, ba_app T hk, ba_all]
      have HTA := Lib.hid hta
      obtain ⟨X, hX2⟩ : ∃ X, T.extract k T.size = X := ⟨_, rfl⟩
      have hxs : X.size = T.size - k := by rw [← hX2, ba_extract_size T (Nat.le_refl _)]
      rw [hX2] at hta ⊢
      have HB3 := Lib.hid (HBR.out.trans (hb3.mono HBR.out.size))
      have HBW3 := Lib.hid (HBW.out.trans (hb3.mono HBW.out.size))
      clear hb3 hX hX2
      have h2 := Read_any (HS2.out.below HB3.out) HOK.out (idN 9) ((T.size : Int) + 1) 0
      rw [rd_C2, if_neg (by decide), HI.out] at h2
      have H2 := Lib.hid h2
      clear h2
      go_wp2_with (refine wpList_buildV rfl (some 95) rfl 30 #[(0, .const (.int .u8 9))] rfl [(0, .int .u8 9)] rfl (.agg (bvs i9.1).toArray) (HI9.out _) ?_; refine Stop.on ?_)
      refine Stop.go ?_
      try simp only [Act.put, List.setIfInBounds_toArray, List.set_cons_zero, List.set_cons_succ]
      go_wp2_with fail
      refine H2.out.mono ?_
      rintro e w4 ⟨rfl, hb4⟩
      have HB4 := Lib.hid (HBW3.out.trans (hb4.mono HBW3.out.size))
      clear hb4
      go_wp2_with fail
      exact bodyPost_ret (v := .bool true) (by simp [results, Try.results3, go_sem]) rfl ⟨rfl, HB4.out⟩
end Go.Proofs.Ytnmdgjodbikndaa
