/- The spool: the check on which the laws insist. -/
import Derived.Test.YtnmdgjodbikndaaS6
namespace Go.Proofs.Ytnmdgjodbikndaa
open Go.RowKit
set_option linter.unusedVariables false
set_option linter.unusedSimpArgs false

def idN (n : UInt8) : IdB := ⟨n :: List.replicate 31 0, by simp⟩
set_option maxRecDepth 100000 in
theorem build_id (n : UInt8) (w : World) : (Instr.build 30 #[(0, .int .u8 (n.toNat : Int))]).run Try.prog w = .ok (idv (idN n)) w := by
  kernel_rfl
theorem ok_new {n : Int} (h1 : 1 ≤ n) (h2 : n ≤ 1073741824) : (⟨n, 0, []⟩ : SpD).Ok :=
  ⟨h1, h2, by show (0 : Int) ≤ n; omega, Int.le_refl _, List.Pairwise.nil, (fun a ha => by cases ha), (fun a ha => by cases ha), (fun a ha => by cases ha)⟩
def kS : SpD := ⟨10, 1, [⟨idN 1, ⟨#[97, 98, 99, 100, 101, 102]⟩, 5, 0⟩]⟩
theorem kn1 : putC ⟨10, 0, []⟩ (idN 1) ⟨#[97, 98, 99, 100, 101, 102]⟩ 5 = 0 := by kernel_rfl
theorem kn2 : putS ⟨10, 0, []⟩ (idN 1) ⟨#[97, 98, 99, 100, 101, 102]⟩ 5 = kS := by unfold putS; rw [if_pos kn1]; rfl
theorem kn3 : putC kS (idN 2) ⟨#[103, 104, 105, 106, 107]⟩ 6 = 9 := by kernel_rfl
theorem kn4 : putS kS (idN 2) ⟨#[103, 104, 105, 106, 107]⟩ 6 = kS := by unfold putS; rw [kn3, if_neg (by decide)]
theorem kn5 : oldC kS 5 = 0 := by kernel_rfl
theorem kn6 : oldL kS 5 = [idN 1] := by
  unfold oldL
  rw [kn5, if_pos rfl]
  unfold stab kS
  simp only [List.mergeSort_singleton]
  kernel_rfl
theorem kn7 : kS.Ok := by
  have h := Ok.add (k := idN 1) (t := ⟨#[97, 98, 99, 100, 101, 102]⟩) (d := 5) (ok_new (n := 10) (by decide) (by decide)) kn1
  exact h
def KnownPost (w : World) (e : Ending) (w' : World) : Prop := e = .returned (.bool true) ∧ Below w.heap.size w w'
theorem Chg.to_below {F : Nat → Prop} {B : Nat} {w0 w w' : World} (hb : Below B w0 w) (hc : Chg F w w') (hB : B ≤ w.heap.size) (hF : ∀ k, F k → B ≤ k) : Below B w0 w' := hb.trans (hc.below hF hB)
set_option maxRecDepth 100000 in
set_option maxHeartbeats 2000000 in
theorem known_any {w : World} : Calls Try.prog 12 #[] w (KnownPost w) := by
  obtain ⟨i1, hi1⟩ : ∃ i1, idN 1 = i1 := ⟨_, rfl⟩
  obtain ⟨i2, hi2⟩ : ∃ i2, idN 2 = i2 := ⟨_, rfl⟩
  obtain ⟨S1, hS1⟩ : ∃ S1, kS = S1 := ⟨_, rfl⟩
  have HI1 := Lib.hid (fun w => hi1 ▸ build_id 1 w)
  have HI2 := Lib.hid (fun w => hi2 ▸ build_id 2 w)
  have HK1 := Lib.hid (hi1 ▸ kn1)
  have HK2 := Lib.hid (hi1 ▸ hS1 ▸ kn2)
  have HK3 := Lib.hid (hi2 ▸ hS1 ▸ kn3)
  have HK4 := Lib.hid (hi2 ▸ hS1 ▸ kn4)
  have HK5 := Lib.hid (hS1 ▸ kn5)
  have HK6 := Lib.hid (hi1 ▸ hS1 ▸ kn6)
  have HK7 := Lib.hid (hS1 ▸ kn7)
  have HK8 := Lib.hid (show S1.list.length = 1 ∧ S1.size = 6 ∧ S1.next = 1 from hS1 ▸ ⟨rfl, rfl, rfl⟩)
  clear hi1 hi2 hS1
  go_enter Try.func12, Try.ntmps12
  go_wp2_with fail
  refine (New_any 10).mono ?_
  rintro e w1 ⟨hb1, ⟨_, _, b, m, rfl, hb, hm, hs⟩ | ⟨h, _⟩⟩
  case inr => exact absurd ⟨by decide, by decide⟩ h
  have HS0 := Lib.hid hs
  have HB := Lib.hid hb
  have HM := Lib.hid hm
  have HB1 := Lib.hid hb1
  clear hs hb hm hb1
  go_wp2_with (refine wpList_met rfl ?_; refine wpList_buildV rfl (some 17) rfl 30 #[(0, .const (.int .u8 1))] rfl [(0, .int .u8 1)] rfl (.agg (bvs i1.1).toArray) (HI1.out _) ?_; refine Stop.on ?_)
  refine Stop.go ?_
  try simp only [Act.put, List.setIfInBounds_toArray, List.set_cons_zero, List.set_cons_succ]
  go_wp2_with fail
  refine (Put_any HS0.out (ok_new (by decide) (by decide)) (by decide) i1 ⟨#[97, 98, 99, 100, 101, 102]⟩ 5).mono ?_
  rintro e w2 ⟨rfl, hs2, hc2⟩
  rw [HK2.out] at hs2
  rw [HK1.out]
  have HS2 := Lib.hid hs2
  have HB2 := Lib.hid (Chg.to_below HB1.out hc2 HB1.out.size (fun k e => by have := HB.out; have := HM.out; rcases e with e | e <;> omega))
  clear hs2 hc2
  go_wp2_with (refine wpList_met rfl ?_; refine wpList_buildV rfl (some 23) rfl 30 #[(0, .const (.int .u8 2))] rfl [(0, .int .u8 2)] rfl (.agg (bvs i2.1).toArray) (HI2.out _) ?_; refine Stop.on ?_)
  refine Stop.go ?_
  try simp only [Act.put, List.setIfInBounds_toArray, List.set_cons_zero, List.set_cons_succ]
  go_wp2_with fail
  refine (Put_any HS2.out HK7.out (by rw [HK8.out.2.2]; decide) i2 ⟨#[103, 104, 105, 106, 107]⟩ 6).mono ?_
  rintro e w3 ⟨rfl, hs3, hc3⟩
  rw [HK4.out] at hs3
  rw [HK3.out]
  have HS3 := Lib.hid hs3
  have HB3 := Lib.hid (Chg.to_below HB2.out hc3 HB2.out.size (fun k e => by have := HB.out; have := HM.out; rcases e with e | e <;> omega))
  clear hs3 hc3
  go_wp2_with fail
  refine (Oldest_any stableOk_one HS3.out HK7.out (by rw [HK8.out.1]; exact Nat.le_refl _) (by decide) 5).mono ?_
  rintro e w4 ⟨v, rfl, ho, hb4⟩
  rw [HK6.out] at ho
  rw [HK5.out]
  obtain ⟨va, vc, rfl⟩ := ho.form
  obtain ⟨g, off, rfl, hgl, hr⟩ := ho.at_.get (i := 0) (by simp)
  have hr : w4.rangeAt g off (bvs i1.1) := by rw [Nat.zero_mul, Nat.add_zero] at hr; exact hr
  have HR := Lib.hid hr
  have HS4 := Lib.hid (HS3.out.below hb4)
  have HB4 := Lib.hid (HB3.out.trans (hb4.mono HB3.out.size))
  clear ho hgl hr hb4
  rw [List.length_singleton]
  go_wp2_with (refine wpList_met rfl ?_; with_reducible refine wpList_load_mid rfl 30 _ rfl g off rfl (bvs i1.1) _ HR.out Try.underlying30 rfl (sizeId i1) ?_; refine Stop.on ?_)
  refine Stop.go ?_
  try simp only [Act.put, List.setIfInBounds_toArray, List.set_cons_zero, List.set_cons_succ]
  refine wpList_met rfl ?_; refine wpList_buildV rfl (some 43) rfl 30 #[(0, .const (.int .u8 1))] rfl [(0, .int .u8 1)] rfl (.agg (bvs i1.1).toArray) (HI1.out _) ?_
  try simp only [Act.put, List.setIfInBounds_toArray, List.set_cons_zero, List.set_cons_succ]
  refine wpList_met rfl ?_
  refine wpList_runI rfl (some 44) rfl (.bool (decide (i1 = i1))) _ (op_eql 30 (.tmp 42) (.tmp 43) 30 rfl rfl rfl guard_Id (eql_Id i1 i1 _)) ?_
  rw [decide_eq_true rfl]
  try simp only [Act.put, List.setIfInBounds_toArray, List.set_cons_zero, List.set_cons_succ]
  go_wp2_with fail
  refine (Bytes_any HS4.out).mono ?_
  rintro e w5 ⟨rfl, hb5⟩
  rw [HK8.out.2.1]
  have HB5 := Lib.hid (HB4.out.trans (hb5.mono HB4.out.size))
  clear hb5
  go_wp2_with fail
  exact bodyPost_ret (v := .bool true) (by simp [results, Try.results12, go_sem]) rfl ⟨rfl, HB5.out⟩
end Go.Proofs.Ytnmdgjodbikndaa
