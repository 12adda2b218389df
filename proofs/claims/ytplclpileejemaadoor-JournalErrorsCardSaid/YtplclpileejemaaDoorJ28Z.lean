/- The law JournalErrors. -/
import Derived.Test.YtplclpileejemaaDoorJ27Z
namespace Go.Proofs.YtplclpileejemaaDoor
open Go.RowKit
set_option linter.unusedVariables false
set_option linter.unusedSimpArgs false

theorem NoDec.curr {S : DS} {R : JR} (h : NoDec S R) (h8 : 8 ≤ R.cnt) : currL S R = none := by
  have key : ∀ w, w ≤ 1 → areaL (secF S.visible (R.area w) R.half) w = none := fun w hw => by
    cases ha : areaL (secF S.visible (R.area w) R.half) w with
    | none => rfl
    | some z =>
      obtain ⟨h1, _, _, _⟩ := areaL_head ha
      obtain ⟨hi, hx⟩ := secF_get (head_get h1)
      rw [hx] at h1
      exact absurd h1 (h _ (inR_area hw hi) _ (cand_visible S _))
  rw [currL_F]
  unfold currF
  rw [key 0 (by omega), key 1 (by omega)]
  rfl
theorem Fail_new {w : World} {F : Nat → Prop} {b n : Nat} (h : DiskAt w F b (newDS n)) : Calls Tryd.prog 27 #[.pointer (some ⟨b, 0, none⟩)] w fun e w' => e = .returned (.tuple #[]) ∧ DiskAt w' F b { newDS n with down := true } ∧ Chg F w w' := Fail_any h
set_option maxRecDepth 100000 in
set_option maxHeartbeats 2000000 in
theorem JournalErrors_any {w : World} (hK : KAt w) (fi se : Int) (hfi : -9223372036854775808 ≤ fi ∧ fi ≤ 9223372036854775807) (hse : -9223372036854775808 ≤ se ∧ se ≤ 9223372036854775807) (dn : Bool) (t : Int) (kd n : Nat) (hn : n < 65536) (bt : UInt8) (ca : Option Addr) (cn cc : Nat) (hcn : cn ≤ 9223372036854775807) :
    Calls Tryd.prog 7 #[.int .i64 fi, .int .i64 se, .bool dn, .int .i64 t, .agg #[.int .u8 (kd : Int), .int .u16 (n : Int), .int .u8 (bt.toNat : Int), .slice ca cn cc]] w fun e w' => e = .returned (.bool true) ∧ Below w.heap.size w w' := by
  have hK0 := hK.size
  obtain ⟨w1, hw1⟩ : ∃ w1, w.alloc (.cells #[.int .u8 (kd : Int), .int .u16 (n : Int), .int .u8 (bt.toNat : Int), .slice ca cn cc] 48) = w1 := ⟨_, rfl⟩
  have hb1 : Below w.heap.size w w1 := hw1 ▸ (Below.refl _ _).alloc (Nat.le_refl _) _
  have hx1 : w1.heap[w.heap.size]? = some (.cells #[.int .u8 (kd : Int), .int .u16 (n : Int), .int .u8 (bt.toNat : Int), .slice ca cn cc] 48 (0, 0)) := by rw [← hw1]; exact heap_alloc_new _ _
  have HK1 := Lib.hid (KAt.below hK hb1 hK0)
  have HW1 := Lib.hid hw1
  have HBS := Lib.hid hb1
  have HKN := Lib.hid (fun (V : World) (hV : Below w1.heap.size w1 V) => known_any (KAt.below HK1.out hV HK1.out.size))
  have HBY := Lib.hid (fun V : World => bytes_any (w := V) n hn bt)
  obtain ⟨btn, hbt⟩ : ∃ btn, bt.toNat = btn := ⟨_, rfl⟩
  rw [hbt] at HW1 HBY hx1 ⊢
  obtain ⟨B, hB⟩ : ∃ B, w.heap.size = B := ⟨_, rfl⟩
  rw [hB] at hx1
  have HQ := Lib.hid hB
  have HLC := Lib.hid (show ∀ w', Below w1.heap.size w1 w' → w'.cell? ⟨B, 1, none⟩ = some (.int .u16 (n : Int)) ∧ w'.cell? ⟨B, 2, none⟩ = some (.int .u8 (btn : Int)) ∧ w'.cell? ⟨B, 3, none⟩ = some (.slice ca cn cc) from fun w' hw' => by
    have h1 := (hw'.block B (Array.getElem?_eq_some_iff.1 hx1).1).trans hx1
    refine ⟨?_, ?_, ?_⟩ <;> rw [cell_of_row _ _ _ _ _ _ h1] <;> rfl)
  have HBw1 := Lib.hid (Below.refl w1.heap.size w1)
  clear hw1 hb1 hx1 hK hbt hB
  go_enter Tryd.func7, Tryd.ntmps7
  go_wp2_with fail
  rw [HW1.out, HQ.out]
  refine (HKN.out w1 (Below.refl _ _)).mono ?_
  rintro e W0 ⟨rfl, hb⟩
  have HBW0 := Lib.hid (HBw1.out.trans (hb.mono HBw1.out.size))
  clear hb
  obtain ⟨k1, k2, k3⟩ := HLC.out W0 HBW0.out
  by_cases hlen : 100 < cn
  · have hlI : (100 : Int) < (cn : Int) := by omega
    go_wp2_with fail
    refine (HKN.out W0 HBW0.out).mono ?_
    rintro e W2 ⟨rfl, hb⟩
    have HBW2 := Lib.hid (HBW0.out.trans (hb.mono HBW0.out.size))
    clear hb
    go_wp2_with fail
    exact bodyPost_ret (v := .bool true) (by simp [results, Tryd.results7, go_sem]) rfl ⟨rfl, HBS.out.trans (HBW2.out.mono HBS.out.size)⟩
  have hlI : ¬ (100 : Int) < (cn : Int) := by omega
  go_wp2_with fail
  refine (JOpen_nil fi se).mono ?_
  rintro e W2 ⟨rfl, hb⟩
  have HBW2 := Lib.hid (HBW0.out.trans (hb.mono HBW0.out.size))
  clear hb
  unfold openNo
  go_wp2_with fail
  refine (JFormat_nil fi se).mono ?_
  rintro e W3 ⟨rfl, hb⟩
  have HBW3 := Lib.hid (HBW2.out.trans (hb.mono HBW2.out.size))
  clear hb
  go_wp2_with fail
  refine (New_good 48 W3 (by omega) (by omega)).mono ?_
  rintro e W4 ⟨rfl, hd, hb⟩
  obtain ⟨b, hbE⟩ : ∃ b, W3.heap.size + 1 = b := ⟨_, rfl⟩
  rw [hbE] at hd ⊢
  have HD4 := Lib.hid (hd.mono (G := fun k => W3.heap.size ≤ k) (fun k h => h))
  have HBW4 := Lib.hid (HBW3.out.trans (hb.mono HBW3.out.size))
  have HDW4 := Lib.hid (hd.mono (G := fun k => w1.heap.size ≤ k) (fun k h => Nat.le_trans HBW3.out.size h))
  clear hd hb hbE HD4
  go_wp2_with fail
  refine (rNew_any 48 (by omega) (by omega)).mono ?_
  rintro e W5 ⟨va, vc, rfl, hb⟩
  have HBW5 := Lib.hid (HBW4.out.trans (hb.mono HBW4.out.size))
  have HDW5 := Lib.hid (HDW4.out.bound.below hb)
  have HS5 := Lib.hid hb.size
  clear hb
  unfold rDev
  go_wp2_with (refine wpList_putV rfl rfl 59 (.tmp 16) (.tmp 65) rfl _ (rDev va 48 vc) rfl rfl 59 _ (heap_alloc_new _ _) (by kernel_rfl) rfl (by kernel_rfl) ?_; refine Stop.on ?_)
  refine Stop.go ?_
  try simp only [Act.put, List.setIfInBounds_toArray, List.set_cons_zero, List.set_cons_succ]
  intro W6 x6 c6 s6
  try simp only [Act.put, List.setIfInBounds_toArray, List.set_cons_zero, List.set_cons_succ]
  have hba : Below W5.heap.size W5 (W5.alloc (.cells #[.slice none 0 0, .slice none 0 0, .int .i64 0, .bool false, .int .i64 0] 59)) := (Below.refl _ _).alloc (Nat.le_refl _) _
  have hb6 := hba.trans (c6.below (fun k e => by rw [e]; exact Nat.le_refl _) hba.size)
  have HBW6 := Lib.hid (HBW5.out.trans (hb6.mono HBW5.out.size))
  have HDW6 := Lib.hid (HDW5.out.below hb6)
  obtain ⟨q, hq⟩ : ∃ q, W5.heap.size = q := ⟨_, rfl⟩
  rw [hq] at x6 ⊢
  have HQ6 := Lib.hid hq
  have HX6 := Lib.hid x6
  clear hba hb6 x6 c6 s6 hq k1 k2 k3
  have HFW := Lib.hid (show ∀ k, w1.heap.size ≤ k ∧ k < W4.heap.size → w1.heap.size ≤ k from fun k h => h.1)
  cases dn with
  | false =>
    have HLN := Lib.hid (show (newDS 48).dur.length = 48 from List.length_replicate ..)
    by_cases h1 : fi < 0
    · have HWE := Lib.hid (show withinE (newDS 48) fi se = 2 by unfold withinE; rw [if_pos (.inl h1)])
      have HO := Lib.hid (JOpen_bad HDW6.out fi se hfi hse (by rw [HWE.out]; decide))
      have HFm := Lib.hid (fun (V : World) (hV : Below W6.heap.size W6 V) => JFormat_bad (HDW6.out.below hV) fi se hfi hse (by rw [HWE.out]; decide))
      rw [HWE.out] at HO HFm
      go_wp2_with fail
      refine HO.out.mono ?_
      rintro e Z1 ⟨rfl, hb⟩
      have HBZ1 := Lib.hid (HBW6.out.trans (hb.mono HBW6.out.size))
      unfold openNo
      go_wp2_with fail
      refine (HFm.out Z1 hb).mono ?_
      rintro e Z2 ⟨rfl, hb2⟩
      have HBZ2 := Lib.hid (HBZ1.out.trans (hb2.mono HBZ1.out.size))
      clear hb hb2
      obtain ⟨k1, k2, k3⟩ := HLC.out Z2 HBZ2.out
      go_wp2_with fail
      refine (HBY.out Z2).mono ?_
      rintro e Y1 ⟨ba, bc, rfl, _, hb⟩
      have HBY1 := Lib.hid (HBZ2.out.trans (hb.mono HBZ2.out.size))
      clear hb
      go_wp2_with fail
      refine (JAppend_nil _).mono ?_
      rintro e Y2 ⟨rfl, hb⟩
      have HBY2 := Lib.hid (HBY1.out.trans (hb.mono HBY1.out.size))
      clear hb
      go_wp2_with fail
      refine JSync_nil.mono ?_
      rintro e Y3 ⟨rfl, hb⟩
      have HBY3 := Lib.hid (HBY2.out.trans (hb.mono HBY2.out.size))
      clear hb
      go_wp2_with fail
      refine (JTruncate_nil _).mono ?_
      rintro e Y4 ⟨rfl, hb⟩
      have HBY4 := Lib.hid (HBY3.out.trans (hb.mono HBY3.out.size))
      clear hb
      go_wp2_with fail
      refine JFailed_nil.mono ?_
      rintro e Y5 ⟨rfl, hb⟩
      have HBY5 := Lib.hid (HBY4.out.trans (hb.mono HBY4.out.size))
      clear hb
      go_wp2_with fail
      refine JFirst_nil.mono ?_
      rintro e Y6 ⟨rfl, hb⟩
      have HBY6 := Lib.hid (HBY5.out.trans (hb.mono HBY5.out.size))
      clear hb
      go_wp2_with fail
      refine JNext_nil.mono ?_
      rintro e Y7 ⟨rfl, hb⟩
      have HBY7 := Lib.hid (HBY6.out.trans (hb.mono HBY6.out.size))
      clear hb
      go_wp2_with fail
      refine JSynced_nil.mono ?_
      rintro e Y8 ⟨rfl, hb⟩
      have HBY8 := Lib.hid (HBY7.out.trans (hb.mono HBY7.out.size))
      clear hb
      go_wp2_with fail
      refine JFree_nil.mono ?_
      rintro e Y9 ⟨rfl, hb⟩
      have HBY9 := Lib.hid (HBY8.out.trans (hb.mono HBY8.out.size))
      clear hb
      go_wp2_with fail
      refine JGeneration_nil.mono ?_
      rintro e Y10 ⟨rfl, hb⟩
      have HBY10 := Lib.hid (HBY9.out.trans (hb.mono HBY9.out.size))
      clear hb
      go_wp2_with fail
      exact bodyPost_ret (v := .bool true) (by simp [results, Tryd.results7, go_sem]) rfl ⟨rfl, HBS.out.trans (HBY10.out.mono HBS.out.size)⟩
    by_cases h2 : se < 8
    · have HWE := Lib.hid (show withinE (newDS 48) fi se = 2 by unfold withinE; rw [if_pos (.inr (.inl h2))])
      have HO := Lib.hid (JOpen_bad HDW6.out fi se hfi hse (by rw [HWE.out]; decide))
      have HFm := Lib.hid (fun (V : World) (hV : Below W6.heap.size W6 V) => JFormat_bad (HDW6.out.below hV) fi se hfi hse (by rw [HWE.out]; decide))
      rw [HWE.out] at HO HFm
      go_wp2_with fail
      refine HO.out.mono ?_
      rintro e Z1 ⟨rfl, hb⟩
      have HBZ1 := Lib.hid (HBW6.out.trans (hb.mono HBW6.out.size))
      unfold openNo
      go_wp2_with fail
      refine (HFm.out Z1 hb).mono ?_
      rintro e Z2 ⟨rfl, hb2⟩
      have HBZ2 := Lib.hid (HBZ1.out.trans (hb2.mono HBZ1.out.size))
      clear hb hb2
      obtain ⟨k1, k2, k3⟩ := HLC.out Z2 HBZ2.out
      go_wp2_with fail
      refine (HBY.out Z2).mono ?_
      rintro e Y1 ⟨ba, bc, rfl, _, hb⟩
      have HBY1 := Lib.hid (HBZ2.out.trans (hb.mono HBZ2.out.size))
      clear hb
      go_wp2_with fail
      refine (JAppend_nil _).mono ?_
      rintro e Y2 ⟨rfl, hb⟩
      have HBY2 := Lib.hid (HBY1.out.trans (hb.mono HBY1.out.size))
      clear hb
      go_wp2_with fail
      refine JSync_nil.mono ?_
      rintro e Y3 ⟨rfl, hb⟩
      have HBY3 := Lib.hid (HBY2.out.trans (hb.mono HBY2.out.size))
      clear hb
      go_wp2_with fail
      refine (JTruncate_nil _).mono ?_
      rintro e Y4 ⟨rfl, hb⟩
      have HBY4 := Lib.hid (HBY3.out.trans (hb.mono HBY3.out.size))
      clear hb
      go_wp2_with fail
      refine JFailed_nil.mono ?_
      rintro e Y5 ⟨rfl, hb⟩
      have HBY5 := Lib.hid (HBY4.out.trans (hb.mono HBY4.out.size))
      clear hb
      go_wp2_with fail
      refine JFirst_nil.mono ?_
      rintro e Y6 ⟨rfl, hb⟩
      have HBY6 := Lib.hid (HBY5.out.trans (hb.mono HBY5.out.size))
      clear hb
      go_wp2_with fail
      refine JNext_nil.mono ?_
      rintro e Y7 ⟨rfl, hb⟩
      have HBY7 := Lib.hid (HBY6.out.trans (hb.mono HBY6.out.size))
      clear hb
      go_wp2_with fail
      refine JSynced_nil.mono ?_
      rintro e Y8 ⟨rfl, hb⟩
      have HBY8 := Lib.hid (HBY7.out.trans (hb.mono HBY7.out.size))
      clear hb
      go_wp2_with fail
      refine JFree_nil.mono ?_
      rintro e Y9 ⟨rfl, hb⟩
      have HBY9 := Lib.hid (HBY8.out.trans (hb.mono HBY8.out.size))
      clear hb
      go_wp2_with fail
      refine JGeneration_nil.mono ?_
      rintro e Y10 ⟨rfl, hb⟩
      have HBY10 := Lib.hid (HBY9.out.trans (hb.mono HBY9.out.size))
      clear hb
      go_wp2_with fail
      exact bodyPost_ret (v := .bool true) (by simp [results, Tryd.results7, go_sem]) rfl ⟨rfl, HBS.out.trans (HBY10.out.mono HBS.out.size)⟩
    by_cases h3 : 48 - se < fi
    · have HWE := Lib.hid (show withinE (newDS 48) fi se = 2 by unfold withinE; rw [if_pos (.inr (.inr (by rw [HLN.out]; exact h3)))])
      have HO := Lib.hid (JOpen_bad HDW6.out fi se hfi hse (by rw [HWE.out]; decide))
      have HFm := Lib.hid (fun (V : World) (hV : Below W6.heap.size W6 V) => JFormat_bad (HDW6.out.below hV) fi se hfi hse (by rw [HWE.out]; decide))
      rw [HWE.out] at HO HFm
      go_wp2_with fail
      refine HO.out.mono ?_
      rintro e Z1 ⟨rfl, hb⟩
      have HBZ1 := Lib.hid (HBW6.out.trans (hb.mono HBW6.out.size))
      unfold openNo
      go_wp2_with fail
      refine (HFm.out Z1 hb).mono ?_
      rintro e Z2 ⟨rfl, hb2⟩
      have HBZ2 := Lib.hid (HBZ1.out.trans (hb2.mono HBZ1.out.size))
      clear hb hb2
      obtain ⟨k1, k2, k3⟩ := HLC.out Z2 HBZ2.out
      go_wp2_with fail
      refine (HBY.out Z2).mono ?_
      rintro e Y1 ⟨ba, bc, rfl, _, hb⟩
      have HBY1 := Lib.hid (HBZ2.out.trans (hb.mono HBZ2.out.size))
      clear hb
      go_wp2_with fail
      refine (JAppend_nil _).mono ?_
      rintro e Y2 ⟨rfl, hb⟩
      have HBY2 := Lib.hid (HBY1.out.trans (hb.mono HBY1.out.size))
      clear hb
      go_wp2_with fail
      refine JSync_nil.mono ?_
      rintro e Y3 ⟨rfl, hb⟩
      have HBY3 := Lib.hid (HBY2.out.trans (hb.mono HBY2.out.size))
      clear hb
      go_wp2_with fail
      refine (JTruncate_nil _).mono ?_
      rintro e Y4 ⟨rfl, hb⟩
      have HBY4 := Lib.hid (HBY3.out.trans (hb.mono HBY3.out.size))
      clear hb
      go_wp2_with fail
      refine JFailed_nil.mono ?_
      rintro e Y5 ⟨rfl, hb⟩
      have HBY5 := Lib.hid (HBY4.out.trans (hb.mono HBY4.out.size))
      clear hb
      go_wp2_with fail
      refine JFirst_nil.mono ?_
      rintro e Y6 ⟨rfl, hb⟩
      have HBY6 := Lib.hid (HBY5.out.trans (hb.mono HBY5.out.size))
      clear hb
      go_wp2_with fail
      refine JNext_nil.mono ?_
      rintro e Y7 ⟨rfl, hb⟩
      have HBY7 := Lib.hid (HBY6.out.trans (hb.mono HBY6.out.size))
      clear hb
      go_wp2_with fail
      refine JSynced_nil.mono ?_
      rintro e Y8 ⟨rfl, hb⟩
      have HBY8 := Lib.hid (HBY7.out.trans (hb.mono HBY7.out.size))
      clear hb
      go_wp2_with fail
      refine JFree_nil.mono ?_
      rintro e Y9 ⟨rfl, hb⟩
      have HBY9 := Lib.hid (HBY8.out.trans (hb.mono HBY8.out.size))
      clear hb
      go_wp2_with fail
      refine JGeneration_nil.mono ?_
      rintro e Y10 ⟨rfl, hb⟩
      have HBY10 := Lib.hid (HBY9.out.trans (hb.mono HBY9.out.size))
      clear hb
      go_wp2_with fail
      exact bodyPost_ret (v := .bool true) (by simp [results, Tryd.results7, go_sem]) rfl ⟨rfl, HBS.out.trans (HBY10.out.mono HBS.out.size)⟩
    obtain ⟨a, rfl⟩ : ∃ a : Nat, fi = (a : Int) := ⟨fi.toNat, by omega⟩
    obtain ⟨c, rfl⟩ : ∃ c : Nat, se = (c : Int) := ⟨se.toNat, by omega⟩
    have hc8 : 8 ≤ c := by omega
    have hac : a + c ≤ 48 := by omega
    have HND := Lib.hid (show NoDec (newDS 48) ⟨a, c⟩ from newDS_blank hac)
    have hr : a + c ≤ (newDS 48).dur.length := by rw [HLN.out]; exact hac
    have HO := Lib.hid (JOpen_none HDW6.out (KAt.below HK1.out HBW6.out HK1.out.size) a c hc8 hr rfl (by show 0 < 1000000000; decide) (HND.out.curr hc8))
    have HF1 := Lib.hid (format_done HND.out rfl rfl hc8 hr)
    have HLI := Lib.hid (show JLim (nextG 0 (secL (newDS 48) a c)) 0 0 [] by rw [show nextG 0 (secL (newDS 48) a c) = 0 from HND.out.next (by omega)]; exact jlim_nil (by omega))
    have HFm := Lib.hid (show ∀ V, Below W6.heap.size W6 V → Calls Tryd.prog 12 #[.pointer (some ⟨b, 0, none⟩), .int .i64 (a : Int), .int .i64 (c : Int)] V fun e w' => e = .returned (.int .i64 0) ∧ Below w1.heap.size V w' from fun V hV => by
      refine (JFormat_z ((HDW6.out.below hV).mono (G := fun k => w1.heap.size ≤ k) (fun k h => HFW.out k h)) (KAt.below HK1.out (HBW6.out.trans (hV.mono HBW6.out.size)) HK1.out.size) (fun h => by have h9 := HK1.out.size; omega) a c hc8 hr rfl HLI.out ⟨by show 0 + 2 ≤ _; omega, by show 0 + 2 ≤ _; omega, by show 0 ≤ _; omega⟩ rfl HF1.out.1).mono ?_
      rintro e w' ⟨rfl, _, hc⟩
      exact ⟨rfl, hc.below (fun k e => e) (Nat.le_trans HBW6.out.size hV.size)⟩)
    go_wp2_with fail
    refine HO.out.mono ?_
    rintro e Z1 ⟨rfl, hb⟩
    have HBZ1 := Lib.hid (HBW6.out.trans (hb.mono HBW6.out.size))
    unfold openNo
    go_wp2_with fail
    refine (HFm.out Z1 hb).mono ?_
    rintro e Z2 ⟨rfl, hb2⟩
    have HBZ2 := Lib.hid (HBZ1.out.trans (hb2.mono (Nat.le_refl _)))
    clear hb hb2
    obtain ⟨k1, k2, k3⟩ := HLC.out Z2 HBZ2.out
    go_wp2_with fail
    refine (HBY.out Z2).mono ?_
    rintro e Y1 ⟨ba, bc, rfl, _, hb⟩
    have HBY1 := Lib.hid (HBZ2.out.trans (hb.mono HBZ2.out.size))
    clear hb
    go_wp2_with fail
    refine (JAppend_nil _).mono ?_
    rintro e Y2 ⟨rfl, hb⟩
    have HBY2 := Lib.hid (HBY1.out.trans (hb.mono HBY1.out.size))
    clear hb
    go_wp2_with fail
    refine JSync_nil.mono ?_
    rintro e Y3 ⟨rfl, hb⟩
    have HBY3 := Lib.hid (HBY2.out.trans (hb.mono HBY2.out.size))
    clear hb
    go_wp2_with fail
    refine (JTruncate_nil _).mono ?_
    rintro e Y4 ⟨rfl, hb⟩
    have HBY4 := Lib.hid (HBY3.out.trans (hb.mono HBY3.out.size))
    clear hb
    go_wp2_with fail
    refine JFailed_nil.mono ?_
    rintro e Y5 ⟨rfl, hb⟩
    have HBY5 := Lib.hid (HBY4.out.trans (hb.mono HBY4.out.size))
    clear hb
    go_wp2_with fail
    refine JFirst_nil.mono ?_
    rintro e Y6 ⟨rfl, hb⟩
    have HBY6 := Lib.hid (HBY5.out.trans (hb.mono HBY5.out.size))
    clear hb
    go_wp2_with fail
    refine JNext_nil.mono ?_
    rintro e Y7 ⟨rfl, hb⟩
    have HBY7 := Lib.hid (HBY6.out.trans (hb.mono HBY6.out.size))
    clear hb
    go_wp2_with fail
    refine JSynced_nil.mono ?_
    rintro e Y8 ⟨rfl, hb⟩
    have HBY8 := Lib.hid (HBY7.out.trans (hb.mono HBY7.out.size))
    clear hb
    go_wp2_with fail
    refine JFree_nil.mono ?_
    rintro e Y9 ⟨rfl, hb⟩
    have HBY9 := Lib.hid (HBY8.out.trans (hb.mono HBY8.out.size))
    clear hb
    go_wp2_with fail
    refine JGeneration_nil.mono ?_
    rintro e Y10 ⟨rfl, hb⟩
    have HBY10 := Lib.hid (HBY9.out.trans (hb.mono HBY9.out.size))
    clear hb
    go_wp2_with fail
    exact bodyPost_ret (v := .bool true) (by simp [results, Tryd.results7, go_sem]) rfl ⟨rfl, HBS.out.trans (HBY10.out.mono HBS.out.size)⟩
  | true =>
    go_wp2_with fail
    refine (Fail_new HDW6.out).mono ?_
    rintro e W7 ⟨rfl, hd7, hc7⟩
    have HX7 := Lib.hid ((hc7.block q (Array.getElem?_eq_some_iff.1 HX6.out).1 (fun h => by have h1 := HS5.out; have h2 := HQ6.out; omega)).trans HX6.out)
    have HBW7 := Lib.hid (HBW6.out.trans (hc7.below (fun k h => h.1) HBW6.out.size))
    have HD7 := Lib.hid hd7
    clear hd7 hc7
    go_wp2_with (refine wpList_putC rfl rfl 4 (.tmp 72) (.const (.bool true)) rfl q 3 (.bool true) rfl rfl HX7.out (by show 3 < 5; decide) rfl (by kernel_rfl) ?_; refine Stop.on ?_)
    refine Stop.go ?_
    try simp only [Act.put, List.setIfInBounds_toArray, List.set_cons_zero, List.set_cons_succ]
    intro W8 x8 c8 s8
    try simp only [Act.put, List.setIfInBounds_toArray, List.set_cons_zero, List.set_cons_succ]
    have HDW8 := Lib.hid (HD7.out.chg c8 (fun k h e => by have h1 := HS5.out; have h2 := HQ6.out; omega))
    have HBW8 := Lib.hid (HBW7.out.trans (c8.below (fun k e => by have h1 := HS5.out; have h2 := HQ6.out; have h3 := HBW4.out.size; omega) HBW7.out.size))
    clear x8 c8 s8
    have HLN := Lib.hid (show ({ newDS 48 with down := true }).dur.length = 48 from List.length_replicate ..)
    by_cases h1 : fi < 0
    · have HWE := Lib.hid (show withinE ({ newDS 48 with down := true }) fi se = 2 by unfold withinE; rw [if_pos (.inl h1)])
      have HO := Lib.hid (JOpen_bad HDW8.out fi se hfi hse (by rw [HWE.out]; decide))
      have HFm := Lib.hid (fun (V : World) (hV : Below W8.heap.size W8 V) => JFormat_bad (HDW8.out.below hV) fi se hfi hse (by rw [HWE.out]; decide))
      rw [HWE.out] at HO HFm
      go_wp2_with fail
      refine HO.out.mono ?_
      rintro e Z1 ⟨rfl, hb⟩
      have HBZ1 := Lib.hid (HBW8.out.trans (hb.mono HBW8.out.size))
      unfold openNo
      go_wp2_with fail
      refine (HFm.out Z1 hb).mono ?_
      rintro e Z2 ⟨rfl, hb2⟩
      have HBZ2 := Lib.hid (HBZ1.out.trans (hb2.mono HBZ1.out.size))
      clear hb hb2
      obtain ⟨k1, k2, k3⟩ := HLC.out Z2 HBZ2.out
      go_wp2_with fail
      refine (HBY.out Z2).mono ?_
      rintro e Y1 ⟨ba, bc, rfl, _, hb⟩
      have HBY1 := Lib.hid (HBZ2.out.trans (hb.mono HBZ2.out.size))
      clear hb
      go_wp2_with fail
      refine (JAppend_nil _).mono ?_
      rintro e Y2 ⟨rfl, hb⟩
      have HBY2 := Lib.hid (HBY1.out.trans (hb.mono HBY1.out.size))
      clear hb
      go_wp2_with fail
      refine JSync_nil.mono ?_
      rintro e Y3 ⟨rfl, hb⟩
      have HBY3 := Lib.hid (HBY2.out.trans (hb.mono HBY2.out.size))
      clear hb
      go_wp2_with fail
      refine (JTruncate_nil _).mono ?_
      rintro e Y4 ⟨rfl, hb⟩
      have HBY4 := Lib.hid (HBY3.out.trans (hb.mono HBY3.out.size))
      clear hb
      go_wp2_with fail
      refine JFailed_nil.mono ?_
      rintro e Y5 ⟨rfl, hb⟩
      have HBY5 := Lib.hid (HBY4.out.trans (hb.mono HBY4.out.size))
      clear hb
      go_wp2_with fail
      refine JFirst_nil.mono ?_
      rintro e Y6 ⟨rfl, hb⟩
      have HBY6 := Lib.hid (HBY5.out.trans (hb.mono HBY5.out.size))
      clear hb
      go_wp2_with fail
      refine JNext_nil.mono ?_
      rintro e Y7 ⟨rfl, hb⟩
      have HBY7 := Lib.hid (HBY6.out.trans (hb.mono HBY6.out.size))
      clear hb
      go_wp2_with fail
      refine JSynced_nil.mono ?_
      rintro e Y8 ⟨rfl, hb⟩
      have HBY8 := Lib.hid (HBY7.out.trans (hb.mono HBY7.out.size))
      clear hb
      go_wp2_with fail
      refine JFree_nil.mono ?_
      rintro e Y9 ⟨rfl, hb⟩
      have HBY9 := Lib.hid (HBY8.out.trans (hb.mono HBY8.out.size))
      clear hb
      go_wp2_with fail
      refine JGeneration_nil.mono ?_
      rintro e Y10 ⟨rfl, hb⟩
      have HBY10 := Lib.hid (HBY9.out.trans (hb.mono HBY9.out.size))
      clear hb
      go_wp2_with fail
      exact bodyPost_ret (v := .bool true) (by simp [results, Tryd.results7, go_sem]) rfl ⟨rfl, HBS.out.trans (HBY10.out.mono HBS.out.size)⟩
    by_cases h2 : se < 8
    · have HWE := Lib.hid (show withinE ({ newDS 48 with down := true }) fi se = 2 by unfold withinE; rw [if_pos (.inr (.inl h2))])
      have HO := Lib.hid (JOpen_bad HDW8.out fi se hfi hse (by rw [HWE.out]; decide))
      have HFm := Lib.hid (fun (V : World) (hV : Below W8.heap.size W8 V) => JFormat_bad (HDW8.out.below hV) fi se hfi hse (by rw [HWE.out]; decide))
      rw [HWE.out] at HO HFm
      go_wp2_with fail
      refine HO.out.mono ?_
      rintro e Z1 ⟨rfl, hb⟩
      have HBZ1 := Lib.hid (HBW8.out.trans (hb.mono HBW8.out.size))
      unfold openNo
      go_wp2_with fail
      refine (HFm.out Z1 hb).mono ?_
      rintro e Z2 ⟨rfl, hb2⟩
      have HBZ2 := Lib.hid (HBZ1.out.trans (hb2.mono HBZ1.out.size))
      clear hb hb2
      obtain ⟨k1, k2, k3⟩ := HLC.out Z2 HBZ2.out
      go_wp2_with fail
      refine (HBY.out Z2).mono ?_
      rintro e Y1 ⟨ba, bc, rfl, _, hb⟩
      have HBY1 := Lib.hid (HBZ2.out.trans (hb.mono HBZ2.out.size))
      clear hb
      go_wp2_with fail
      refine (JAppend_nil _).mono ?_
      rintro e Y2 ⟨rfl, hb⟩
      have HBY2 := Lib.hid (HBY1.out.trans (hb.mono HBY1.out.size))
      clear hb
      go_wp2_with fail
      refine JSync_nil.mono ?_
      rintro e Y3 ⟨rfl, hb⟩
      have HBY3 := Lib.hid (HBY2.out.trans (hb.mono HBY2.out.size))
      clear hb
      go_wp2_with fail
      refine (JTruncate_nil _).mono ?_
      rintro e Y4 ⟨rfl, hb⟩
      have HBY4 := Lib.hid (HBY3.out.trans (hb.mono HBY3.out.size))
      clear hb
      go_wp2_with fail
      refine JFailed_nil.mono ?_
      rintro e Y5 ⟨rfl, hb⟩
      have HBY5 := Lib.hid (HBY4.out.trans (hb.mono HBY4.out.size))
      clear hb
      go_wp2_with fail
      refine JFirst_nil.mono ?_
      rintro e Y6 ⟨rfl, hb⟩
      have HBY6 := Lib.hid (HBY5.out.trans (hb.mono HBY5.out.size))
      clear hb
      go_wp2_with fail
      refine JNext_nil.mono ?_
      rintro e Y7 ⟨rfl, hb⟩
      have HBY7 := Lib.hid (HBY6.out.trans (hb.mono HBY6.out.size))
      clear hb
      go_wp2_with fail
      refine JSynced_nil.mono ?_
      rintro e Y8 ⟨rfl, hb⟩
      have HBY8 := Lib.hid (HBY7.out.trans (hb.mono HBY7.out.size))
      clear hb
      go_wp2_with fail
      refine JFree_nil.mono ?_
      rintro e Y9 ⟨rfl, hb⟩
      have HBY9 := Lib.hid (HBY8.out.trans (hb.mono HBY8.out.size))
      clear hb
      go_wp2_with fail
      refine JGeneration_nil.mono ?_
      rintro e Y10 ⟨rfl, hb⟩
      have HBY10 := Lib.hid (HBY9.out.trans (hb.mono HBY9.out.size))
      clear hb
      go_wp2_with fail
      exact bodyPost_ret (v := .bool true) (by simp [results, Tryd.results7, go_sem]) rfl ⟨rfl, HBS.out.trans (HBY10.out.mono HBS.out.size)⟩
    by_cases h3 : 48 - se < fi
    · have HWE := Lib.hid (show withinE ({ newDS 48 with down := true }) fi se = 2 by unfold withinE; rw [if_pos (.inr (.inr (by rw [HLN.out]; exact h3)))])
      have HO := Lib.hid (JOpen_bad HDW8.out fi se hfi hse (by rw [HWE.out]; decide))
      have HFm := Lib.hid (fun (V : World) (hV : Below W8.heap.size W8 V) => JFormat_bad (HDW8.out.below hV) fi se hfi hse (by rw [HWE.out]; decide))
      rw [HWE.out] at HO HFm
      go_wp2_with fail
      refine HO.out.mono ?_
      rintro e Z1 ⟨rfl, hb⟩
      have HBZ1 := Lib.hid (HBW8.out.trans (hb.mono HBW8.out.size))
      unfold openNo
      go_wp2_with fail
      refine (HFm.out Z1 hb).mono ?_
      rintro e Z2 ⟨rfl, hb2⟩
      have HBZ2 := Lib.hid (HBZ1.out.trans (hb2.mono HBZ1.out.size))
      clear hb hb2
      obtain ⟨k1, k2, k3⟩ := HLC.out Z2 HBZ2.out
      go_wp2_with fail
      refine (HBY.out Z2).mono ?_
      rintro e Y1 ⟨ba, bc, rfl, _, hb⟩
      have HBY1 := Lib.hid (HBZ2.out.trans (hb.mono HBZ2.out.size))
      clear hb
      go_wp2_with fail
      refine (JAppend_nil _).mono ?_
      rintro e Y2 ⟨rfl, hb⟩
      have HBY2 := Lib.hid (HBY1.out.trans (hb.mono HBY1.out.size))
      clear hb
      go_wp2_with fail
      refine JSync_nil.mono ?_
      rintro e Y3 ⟨rfl, hb⟩
      have HBY3 := Lib.hid (HBY2.out.trans (hb.mono HBY2.out.size))
      clear hb
      go_wp2_with fail
      refine (JTruncate_nil _).mono ?_
      rintro e Y4 ⟨rfl, hb⟩
      have HBY4 := Lib.hid (HBY3.out.trans (hb.mono HBY3.out.size))
      clear hb
      go_wp2_with fail
      refine JFailed_nil.mono ?_
      rintro e Y5 ⟨rfl, hb⟩
      have HBY5 := Lib.hid (HBY4.out.trans (hb.mono HBY4.out.size))
      clear hb
      go_wp2_with fail
      refine JFirst_nil.mono ?_
      rintro e Y6 ⟨rfl, hb⟩
      have HBY6 := Lib.hid (HBY5.out.trans (hb.mono HBY5.out.size))
      clear hb
      go_wp2_with fail
      refine JNext_nil.mono ?_
      rintro e Y7 ⟨rfl, hb⟩
      have HBY7 := Lib.hid (HBY6.out.trans (hb.mono HBY6.out.size))
      clear hb
      go_wp2_with fail
      refine JSynced_nil.mono ?_
      rintro e Y8 ⟨rfl, hb⟩
      have HBY8 := Lib.hid (HBY7.out.trans (hb.mono HBY7.out.size))
      clear hb
      go_wp2_with fail
      refine JFree_nil.mono ?_
      rintro e Y9 ⟨rfl, hb⟩
      have HBY9 := Lib.hid (HBY8.out.trans (hb.mono HBY8.out.size))
      clear hb
      go_wp2_with fail
      refine JGeneration_nil.mono ?_
      rintro e Y10 ⟨rfl, hb⟩
      have HBY10 := Lib.hid (HBY9.out.trans (hb.mono HBY9.out.size))
      clear hb
      go_wp2_with fail
      exact bodyPost_ret (v := .bool true) (by simp [results, Tryd.results7, go_sem]) rfl ⟨rfl, HBS.out.trans (HBY10.out.mono HBS.out.size)⟩
    have HWE := Lib.hid (show withinE ({ newDS 48 with down := true }) fi se = 28 by unfold withinE; rw [if_neg (by rw [HLN.out]; omega)]; rfl)
    have HO := Lib.hid (JOpen_bad HDW8.out fi se hfi hse (by rw [HWE.out]; decide))
    have HFm := Lib.hid (fun (V : World) (hV : Below W8.heap.size W8 V) => JFormat_bad (HDW8.out.below hV) fi se hfi hse (by rw [HWE.out]; decide))
    rw [HWE.out] at HO HFm
    go_wp2_with fail
    refine HO.out.mono ?_
    rintro e Z1 ⟨rfl, hb⟩
    have HBZ1 := Lib.hid (HBW8.out.trans (hb.mono HBW8.out.size))
    unfold openNo
    go_wp2_with fail
    refine (HFm.out Z1 hb).mono ?_
    rintro e Z2 ⟨rfl, hb2⟩
    have HBZ2 := Lib.hid (HBZ1.out.trans (hb2.mono HBZ1.out.size))
    clear hb hb2
    obtain ⟨k1, k2, k3⟩ := HLC.out Z2 HBZ2.out
    go_wp2_with fail
    refine (HBY.out Z2).mono ?_
    rintro e Y1 ⟨ba, bc, rfl, _, hb⟩
    have HBY1 := Lib.hid (HBZ2.out.trans (hb.mono HBZ2.out.size))
    clear hb
    go_wp2_with fail
    refine (JAppend_nil _).mono ?_
    rintro e Y2 ⟨rfl, hb⟩
    have HBY2 := Lib.hid (HBY1.out.trans (hb.mono HBY1.out.size))
    clear hb
    go_wp2_with fail
    refine JSync_nil.mono ?_
    rintro e Y3 ⟨rfl, hb⟩
    have HBY3 := Lib.hid (HBY2.out.trans (hb.mono HBY2.out.size))
    clear hb
    go_wp2_with fail
    refine (JTruncate_nil _).mono ?_
    rintro e Y4 ⟨rfl, hb⟩
    have HBY4 := Lib.hid (HBY3.out.trans (hb.mono HBY3.out.size))
    clear hb
    go_wp2_with fail
    refine JFailed_nil.mono ?_
    rintro e Y5 ⟨rfl, hb⟩
    have HBY5 := Lib.hid (HBY4.out.trans (hb.mono HBY4.out.size))
    clear hb
    go_wp2_with fail
    refine JFirst_nil.mono ?_
    rintro e Y6 ⟨rfl, hb⟩
    have HBY6 := Lib.hid (HBY5.out.trans (hb.mono HBY5.out.size))
    clear hb
    go_wp2_with fail
    refine JNext_nil.mono ?_
    rintro e Y7 ⟨rfl, hb⟩
    have HBY7 := Lib.hid (HBY6.out.trans (hb.mono HBY6.out.size))
    clear hb
    go_wp2_with fail
    refine JSynced_nil.mono ?_
    rintro e Y8 ⟨rfl, hb⟩
    have HBY8 := Lib.hid (HBY7.out.trans (hb.mono HBY7.out.size))
    clear hb
    go_wp2_with fail
    refine JFree_nil.mono ?_
    rintro e Y9 ⟨rfl, hb⟩
    have HBY9 := Lib.hid (HBY8.out.trans (hb.mono HBY8.out.size))
    clear hb
    go_wp2_with fail
    refine JGeneration_nil.mono ?_
    rintro e Y10 ⟨rfl, hb⟩
    have HBY10 := Lib.hid (HBY9.out.trans (hb.mono HBY9.out.size))
    clear hb
    go_wp2_with fail
    exact bodyPost_ret (v := .bool true) (by simp [results, Tryd.results7, go_sem]) rfl ⟨rfl, HBS.out.trans (HBY10.out.mono HBS.out.size)⟩
end Go.Proofs.YtplclpileejemaaDoor
