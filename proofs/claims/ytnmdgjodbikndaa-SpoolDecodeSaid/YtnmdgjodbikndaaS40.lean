/- The spool's reference: read; the steps of Decode by cases; Decode, plainly: what a step does, by cases; what is decoded is encoded as the same bytes, and what is encoded is decoded again. -/
import Derived.Test.YtnmdgjodbikndaaS34
import Derived.Test.YtnmdgjodbikndaaS36
namespace Go.Proofs.Ytnmdgjodbikndaa
open Go.RowKit
set_option linter.unusedVariables false
set_option linter.unusedSimpArgs false

theorem bval_append (A : List UInt8) : ∀ B : List UInt8, bval (A ++ B) = bval A * 256 ^ B.length + bval B := by
  have hf : ∀ (B : List UInt8) (a : Nat), B.foldl (fun n x => n * 256 + x.toNat) a = a * 256 ^ B.length + B.foldl (fun n x => n * 256 + x.toNat) 0 := by
    intro B
    induction B with
    | nil => intro a; simp
    | cons x B ih =>
      intro a
      rw [List.foldl_cons, ih, List.foldl_cons, ih (0 * 256 + x.toNat), List.length_cons, Nat.pow_succ, Nat.add_mul, Nat.mul_assoc, Nat.mul_comm 256, Nat.zero_mul, Nat.zero_add]
      omega
  intro B
  unfold bval
  rw [List.foldl_append, hf]
/-- What read returns. -/
def rdV (B : List UInt8) : Int := if bval B < 4611686018427387904 then (bval B : Int) else -1
theorem rdV_big {B : List UInt8} {i : Nat} (hl : B.length = 8) (hi : i < 8) (h : 18014398509481984 ≤ bval (B.take i)) : rdV B = -1 := by
  have h1 : bval B = bval (B.take i) * 256 ^ (B.drop i).length + bval (B.drop i) := by rw [← bval_append, List.take_append_drop]
  have h2 : 256 ≤ 256 ^ (B.drop i).length := by
    rw [List.length_drop, hl]
    exact Nat.le_trans (by decide) (Nat.pow_le_pow_right (n := 256) (by decide) (show 1 ≤ 8 - i by omega))
  have h3 : 18014398509481984 * 256 ≤ bval (B.take i) * 256 ^ (B.drop i).length := Nat.mul_le_mul h h2
  unfold rdV
  rw [if_neg (by omega)]
set_option maxRecDepth 100000 in
set_option maxHeartbeats 2000000 in
theorem read_any {w : World} (v : Value) (b : List UInt8) (hv : ListAt byE w v b) (at_ : Nat) (hat : at_ + 8 ≤ b.length) (hl : b.length ≤ 1000000) :
    Calls Try.prog 55 #[v, .int .i64 (at_ : Int)] w fun e w' => e = .returned (.int .i64 (rdV ((b.drop at_).take 8))) ∧ w = w' := by
  obtain ⟨va, vc, rfl⟩ := hv.form
  obtain ⟨N, hN⟩ : ∃ N, b.length = N := ⟨_, rfl⟩
  rw [hN] at hv hat hl ⊢
  obtain ⟨B, hB⟩ : ∃ B, (b.drop at_).take 8 = B := ⟨_, rfl⟩
  obtain ⟨V, hV⟩ : ∃ V, rdV B = V := ⟨_, rfl⟩
  have hBl : B.length = 8 := by rw [← hB, List.length_take, List.length_drop]; omega
  rw [hB, hV]
  have HV := Lib.hid hv
  have HN := Lib.hid hN
  have HB := Lib.hid hB
  have HBL := Lib.hid hBl
  have HVV := Lib.hid hV
  have HAT := Lib.hid hat
  clear hv hN hB hBl hV
  go_enter Try.func55, Try.ntmps55
  go_wp2_with fail
  go_loop [5, 6] (fun nv iv => ∃ i : Nat, i ≤ 8 ∧ iv = .int .i64 (i : Int) ∧ nv = .int .i64 ((bval (B.take i) : Nat) : Int) ∧ bval (B.take i) < 4611686018427387904) (fun _ iv => 8 - (intOf iv).toNat)
  case atStart => exact ⟨0, Nat.zero_le _, rfl, rfl, by rw [List.take_zero]; decide⟩
  case round =>
    obtain ⟨i, hi, rfl, rfl, hb62⟩ := hrel
    by_cases hlt : i < 8
    · have hiI : (i : Int) < 8 := by omega
      have hiI0 : (0 : Int) ≤ (i : Int) := by omega
      by_cases hbig : 18014398509481984 ≤ bval (B.take i)
      · have hr := rdV_big HBL.out hlt hbig
        obtain ⟨q, hq⟩ : ∃ q, bval (B.take i) = q := ⟨_, rfl⟩
        rw [hq] at hbig ⊢
        have hqI : (18014398509481984 : Int) ≤ (q : Int) := by omega
        have HR := Lib.hid (HVV.out.symm.trans hr)
        clear hq hr
        go_wp2_with fail
        exact bodyPost_ret (v := .int .i64 (-1)) (by simp [results, Try.results55, go_sem]) rfl ⟨by rw [HR.out], rfl⟩
      · have hai : at_ + i < b.length := by rw [HN.out]; omega
        obtain ⟨g, off, rfl, hg, hr⟩ := HV.out.get hai
        obtain ⟨x, hx⟩ : ∃ x, b[at_ + i] = x := ⟨_, rfl⟩
        rw [hx] at hr
        have hcl := hr 0 _ rfl
        have hcl : w.cell? ⟨g, off + (at_ + i), none⟩ = some (.int .u8 (x.toNat : Int)) := by
          have e : off + (at_ + i) * byE.k + 0 = off + (at_ + i) := by show off + (at_ + i) * 1 + 0 = off + (at_ + i); omega
          rw [e] at hcl
          exact hcl
        have hbi : B[i]? = some x := by
          rw [← HB.out, List.getElem?_take_of_lt hlt, List.getElem?_drop, List.getElem?_eq_getElem hai, hx]
        have htk : B.take (i + 1) = B.take i ++ [x] := by rw [List.take_add_one, hbi]; rfl
        have hnx : bval (B.take (i + 1)) = bval (B.take i) * 256 + x.toNat := by rw [htk, bval_snoc]
        obtain ⟨q, hq⟩ : ∃ q, bval (B.take i) = q := ⟨_, rfl⟩
        rw [hq] at hbig hb62 hnx ⊢
        have hqI : ¬ (18014398509481984 : Int) ≤ (q : Int) := by omega
        have hxl := x.toNat_lt
        have hai2 : (at_ : Int) + (i : Int) < (N : Int) := by have := HAT.out; omega
        have HNX := Lib.hid hnx
        have hw1 : IntKind.i64.wrap ((at_ : Int) + (i : Int)) = (at_ : Int) + (i : Int) := IntWalk.i64_in _ (by have := HAT.out; omega)
        have hnat : ((at_ : Int) + (i : Int)).toNat = at_ + i := by omega
        have h0i : (0 : Int) ≤ (at_ : Int) + (i : Int) := by omega
        clear hr hx hnx hq htk hbi hai hg hbig
        go_wp2_with fail
        go_round
        case rel => exact ⟨i + 1, by omega, by go_num, by rw [HNX.out]; simp; omega, by rw [HNX.out]; omega⟩
        case measure => simp [intOf]; omega
    · obtain rfl : i = 8 := by omega
      have htk : B.take 8 = B := List.take_of_length_le (by rw [HBL.out]; exact Nat.le_refl _)
      rw [htk] at hb62 ⊢
      have hr : V = (bval B : Int) := by rw [← HVV.out]; unfold rdV; rw [if_pos hb62]
      obtain ⟨q, hq⟩ : ∃ q, bval B = q := ⟨_, rfl⟩
      rw [hq] at hr ⊢
      have HR := Lib.hid hr
      clear hr hq
      go_wp2_with fail
      exact bodyPost_ret (v := .int .i64 (q : Int)) (by simp [results, Try.results55, go_sem]) rfl ⟨by rw [HR.out], rfl⟩
end Go.Proofs.Ytnmdgjodbikndaa

namespace Go.Proofs.Ytnmdgjodbikndaa
open Go.RowKit
set_option linter.unusedVariables false
set_option linter.unusedSimpArgs false

theorem fail_true (R : List UInt8) (c : Int) : (⟨R, 0⟩ : SrcD).fail true c = ⟨R, c⟩ := by unfold SrcD.fail; rw [if_pos ⟨rfl, rfl⟩]
theorem fail_false (s : SrcD) (c : Int) : s.fail false c = s := by unfold SrcD.fail; rw [if_neg (fun h => absurd h.2 (by decide))]
theorem fail_err {s : SrcD} (h : s.e ≠ 0) (bad : Bool) (c : Int) : s.fail bad c = s := by unfold SrcD.fail; rw [if_neg (fun h2 => h h2.1)]
theorem take_short {R : List UInt8} {n : Nat} (h : R.length < n) : (⟨R, 0⟩ : SrcD).takeS n = ⟨R, 23⟩ := by
  unfold SrcD.takeS SrcD.takeE
  show (if ((⟨R, 0⟩ : SrcD).fail (decide (R.length < n)) 23).e = 0 then _ else (⟨R, 0⟩ : SrcD).fail (decide (R.length < n)) 23) = _
  rw [decide_eq_true h, fail_true, if_neg (by show ¬ (23 : Int) = 0; decide)]
theorem take_ok {R : List UInt8} {n : Nat} (h : n ≤ R.length) : (⟨R, 0⟩ : SrcD).takeS n = ⟨R.drop n, 0⟩ ∧ (⟨R, 0⟩ : SrcD).takeB n = R.take n := by
  have h1 : (⟨R, 0⟩ : SrcD).takeE n = ⟨R, 0⟩ := by
    unfold SrcD.takeE
    show (⟨R, 0⟩ : SrcD).fail (decide (R.length < n)) 23 = _
    rw [decide_eq_false (by omega), fail_false]
  unfold SrcD.takeS SrcD.takeB
  rw [h1]
  exact ⟨if_pos rfl, if_pos rfl⟩
theorem take_err {s : SrcD} (h : s.e ≠ 0) (n : Nat) : s.takeS n = s := by
  unfold SrcD.takeS SrcD.takeE
  rw [fail_err h, if_neg h]
theorem num_err {s : SrcD} (h : s.e ≠ 0) (l m : Int) : s.numS l m = s := by unfold SrcD.numS; rw [take_err h, fail_err h]
theorem num_short {R : List UInt8} (h : R.length < 8) (l m : Int) : (⟨R, 0⟩ : SrcD).numS l m = ⟨R, 23⟩ := by
  unfold SrcD.numS
  rw [take_short h, fail_err (by show (23 : Int) ≠ 0; decide)]
theorem badN_rd {B : List UInt8} (hB : B.length = 8) {l m : Int} (hl : 0 ≤ l) (hm : m < 4611686018427387904) : badN (bval B) l m = !decide (l ≤ rdV B ∧ rdV B ≤ m) := by
  unfold badN rdV
  by_cases h : bval B < 4611686018427387904
  · rw [if_pos h]
    rw [Bool.eq_iff_iff]
    simp only [Bool.or_eq_true, decide_eq_true_eq, Bool.not_eq_true', decide_eq_false_iff_not]
    omega
  · rw [if_neg h]
    rw [Bool.eq_iff_iff]
    simp only [Bool.or_eq_true, decide_eq_true_eq, Bool.not_eq_true', decide_eq_false_iff_not]
    omega
theorem num_bad {R : List UInt8} (h : 8 ≤ R.length) {l m : Int} (hl : 0 ≤ l) (hm : m < 4611686018427387904) (hb : ¬ (l ≤ rdV (R.take 8) ∧ rdV (R.take 8) ≤ m)) : ((⟨R, 0⟩ : SrcD).numS l m) = ⟨R.drop 8, 3⟩ := by
  unfold SrcD.numS SrcD.cnt
  rw [(take_ok h).1, (take_ok h).2, badN_rd (by rw [List.length_take]; omega) hl hm, decide_eq_false hb]
  exact fail_true _ _
theorem num_ok {R : List UInt8} (h : 8 ≤ R.length) {l m : Int} (hl : 0 ≤ l) (hm : m < 4611686018427387904) (hb : l ≤ rdV (R.take 8) ∧ rdV (R.take 8) ≤ m) : (⟨R, 0⟩ : SrcD).numS l m = ⟨R.drop 8, 0⟩ ∧ (⟨R, 0⟩ : SrcD).numV l m = rdV (R.take 8) := by
  have h1 : (⟨R, 0⟩ : SrcD).numS l m = ⟨R.drop 8, 0⟩ := by
    unfold SrcD.numS SrcD.cnt
    rw [(take_ok h).1, (take_ok h).2, badN_rd (by rw [List.length_take]; omega) hl hm, decide_eq_true hb]
    exact fail_false _ _
  refine ⟨h1, ?_⟩
  unfold SrcD.numV
  rw [h1, if_pos rfl]
  unfold SrcD.cnt
  rw [(take_ok h).2]
  unfold rdV at hb ⊢
  split
  · rfl
  · rename_i hn
    rw [if_neg hn] at hb
    omega
/-- A step of Decode in words of what is left. -/
structure StepOk (R : List UInt8) (sp : SpD) : Prop where
  l32 : 32 ≤ R.length
  idn : idOf (R.take 32) ≠ z32 ∧ (sp.find (idOf (R.take 32))).isSome = false
  l40 : 40 ≤ R.length
  mn : 0 ≤ rdV ((R.drop 32).take 8) ∧ rdV ((R.drop 32).take 8) ≤ 105190559
  l48 : 48 ≤ R.length
  siz : 1 ≤ rdV ((R.drop 40).take 8) ∧ rdV ((R.drop 40).take 8) ≤ min 65536 (sp.budget - (sp.size : Int))
  txt : 48 + (rdV ((R.drop 40).take 8)).toNat ≤ R.length
theorem step_23a {R : List UInt8} {sp : SpD} (h : R.length < 32) : (decStep ⟨sp, ⟨R, 0⟩⟩).s.e = 23 := by
  show (dec4 ⟨sp, ⟨R, 0⟩⟩).e = 23
  have h1 : dec1 ⟨sp, ⟨R, 0⟩⟩ = ⟨R, 23⟩ := by unfold dec1; rw [take_short h]; exact fail_err (by show (23 : Int) ≠ 0; decide) _ _
  have h2 : dec2 ⟨sp, ⟨R, 0⟩⟩ = ⟨R, 23⟩ := by unfold dec2; rw [h1]; exact num_err (by show (23 : Int) ≠ 0; decide) _ _
  have h3 : dec3 ⟨sp, ⟨R, 0⟩⟩ = ⟨R, 23⟩ := by unfold dec3; rw [h2]; exact num_err (by show (23 : Int) ≠ 0; decide) _ _
  unfold dec4
  rw [h3, take_err (by show (23 : Int) ≠ 0; decide)]
theorem dec1_bad {R : List UInt8} {sp : SpD} (h : 32 ≤ R.length) (hb : ¬ (idOf (R.take 32) ≠ z32 ∧ (sp.find (idOf (R.take 32))).isSome = false)) : dec1 ⟨sp, ⟨R, 0⟩⟩ = ⟨R.drop 32, 3⟩ := by
  unfold dec1
  show (SrcD.takeS ⟨R, 0⟩ 32).fail (decide (idOf (SrcD.takeB ⟨R, 0⟩ 32) = z32) || (sp.find (idOf (SrcD.takeB ⟨R, 0⟩ 32))).isSome) 3 = _
  rw [(take_ok h).1, (take_ok h).2]
  have h2 : (decide (idOf (R.take 32) = z32) || (sp.find (idOf (R.take 32))).isSome) = true := by
    by_cases h1 : idOf (R.take 32) = z32
    · rw [decide_eq_true h1]; rfl
    · cases hq : (sp.find (idOf (R.take 32))).isSome with
      | true => simp
      | false => exact absurd ⟨h1, hq⟩ hb
  rw [h2]
  exact fail_true _ _
theorem dec1_ok {R : List UInt8} {sp : SpD} (h : 32 ≤ R.length) (hb : idOf (R.take 32) ≠ z32 ∧ (sp.find (idOf (R.take 32))).isSome = false) : dec1 ⟨sp, ⟨R, 0⟩⟩ = ⟨R.drop 32, 0⟩ := by
  unfold dec1
  show (SrcD.takeS ⟨R, 0⟩ 32).fail (decide (idOf (SrcD.takeB ⟨R, 0⟩ 32) = z32) || (sp.find (idOf (SrcD.takeB ⟨R, 0⟩ 32))).isSome) 3 = _
  rw [(take_ok h).1, (take_ok h).2, decide_eq_false hb.1, hb.2]
  exact fail_false _ _
theorem step_err {d : DecS} (h : (dec3 d).e ≠ 0) : (decStep d).s = dec3 d := by
  show dec4 d = _
  unfold dec4
  rw [take_err h]
theorem step_3a {R : List UInt8} {sp : SpD} (h : 32 ≤ R.length) (hb : ¬ (idOf (R.take 32) ≠ z32 ∧ (sp.find (idOf (R.take 32))).isSome = false)) : (decStep ⟨sp, ⟨R, 0⟩⟩).s.e = 3 := by
  have h1 := dec1_bad (sp := sp) h hb
  have h3 : dec3 ⟨sp, ⟨R, 0⟩⟩ = ⟨R.drop 32, 3⟩ := by
    unfold dec3 dec2
    rw [h1, num_err (by show (3 : Int) ≠ 0; decide), num_err (by show (3 : Int) ≠ 0; decide)]
  rw [step_err (by rw [h3]; show (3 : Int) ≠ 0; decide), h3]
theorem step_23b {R : List UInt8} {sp : SpD} (h : 32 ≤ R.length) (hb : idOf (R.take 32) ≠ z32 ∧ (sp.find (idOf (R.take 32))).isSome = false) (h40 : R.length < 40) : (decStep ⟨sp, ⟨R, 0⟩⟩).s.e = 23 := by
  have h1 := dec1_ok (sp := sp) h hb
  have h3 : dec3 ⟨sp, ⟨R, 0⟩⟩ = ⟨R.drop 32, 23⟩ := by
    unfold dec3 dec2
    rw [h1, num_short (by rw [List.length_drop]; omega), num_err (by show (23 : Int) ≠ 0; decide)]
  rw [step_err (by rw [h3]; show (23 : Int) ≠ 0; decide), h3]
theorem step_3b {R : List UInt8} {sp : SpD} (hb : idOf (R.take 32) ≠ z32 ∧ (sp.find (idOf (R.take 32))).isSome = false) (h40 : 40 ≤ R.length) (hm : ¬ (0 ≤ rdV ((R.drop 32).take 8) ∧ rdV ((R.drop 32).take 8) ≤ 105190559)) : (decStep ⟨sp, ⟨R, 0⟩⟩).s.e = 3 := by
  have h1 := dec1_ok (sp := sp) (by omega) hb
  have h3 : dec3 ⟨sp, ⟨R, 0⟩⟩ = ⟨(R.drop 32).drop 8, 3⟩ := by
    unfold dec3 dec2
    rw [h1, num_bad (by rw [List.length_drop]; omega) (by decide) (by decide) hm, num_err (by show (3 : Int) ≠ 0; decide)]
  rw [step_err (by rw [h3]; show (3 : Int) ≠ 0; decide), h3]
theorem dec2_ok {R : List UInt8} {sp : SpD} (hb : idOf (R.take 32) ≠ z32 ∧ (sp.find (idOf (R.take 32))).isSome = false) (h40 : 40 ≤ R.length) (hm : 0 ≤ rdV ((R.drop 32).take 8) ∧ rdV ((R.drop 32).take 8) ≤ 105190559) : dec2 ⟨sp, ⟨R, 0⟩⟩ = ⟨R.drop 40, 0⟩ ∧ (dec1 ⟨sp, ⟨R, 0⟩⟩).numV 0 105190559 = rdV ((R.drop 32).take 8) := by
  have h1 := dec1_ok (sp := sp) (by omega) hb
  have h2 := num_ok (R := R.drop 32) (by rw [List.length_drop]; omega) (l := 0) (m := 105190559) (by decide) (by decide) hm
  unfold dec2
  rw [h1, h2.1, List.drop_drop]
  exact ⟨rfl, h2.2⟩
theorem step_23c {R : List UInt8} {sp : SpD} (hb : idOf (R.take 32) ≠ z32 ∧ (sp.find (idOf (R.take 32))).isSome = false) (h40 : 40 ≤ R.length) (hm : 0 ≤ rdV ((R.drop 32).take 8) ∧ rdV ((R.drop 32).take 8) ≤ 105190559) (h48 : R.length < 48) : (decStep ⟨sp, ⟨R, 0⟩⟩).s.e = 23 := by
  have h2 := (dec2_ok (sp := sp) hb h40 hm).1
  have h3 : dec3 ⟨sp, ⟨R, 0⟩⟩ = ⟨R.drop 40, 23⟩ := by
    unfold dec3
    rw [h2, num_short (by rw [List.length_drop]; omega)]
  rw [step_err (by rw [h3]; show (23 : Int) ≠ 0; decide), h3]
theorem decM_lt (sp : SpD) (s : SrcD) : decM ⟨sp, s⟩ < 4611686018427387904 := by unfold decM; omega
theorem step_3c {R : List UInt8} {sp : SpD} (hb : idOf (R.take 32) ≠ z32 ∧ (sp.find (idOf (R.take 32))).isSome = false) (hm : 0 ≤ rdV ((R.drop 32).take 8) ∧ rdV ((R.drop 32).take 8) ≤ 105190559) (h48 : 48 ≤ R.length) (hs : ¬ (1 ≤ rdV ((R.drop 40).take 8) ∧ rdV ((R.drop 40).take 8) ≤ min 65536 (sp.budget - (sp.size : Int)))) : (decStep ⟨sp, ⟨R, 0⟩⟩).s.e = 3 := by
  have h2 := (dec2_ok (sp := sp) hb (by omega) hm).1
  have h3 : dec3 ⟨sp, ⟨R, 0⟩⟩ = ⟨(R.drop 40).drop 8, 3⟩ := by
    unfold dec3
    rw [h2, num_bad (by rw [List.length_drop]; omega) (by decide) (decM_lt _ _) hs]
  rw [step_err (by rw [h3]; show (3 : Int) ≠ 0; decide), h3]
theorem dec3_ok {R : List UInt8} {sp : SpD} (hb : idOf (R.take 32) ≠ z32 ∧ (sp.find (idOf (R.take 32))).isSome = false) (hm : 0 ≤ rdV ((R.drop 32).take 8) ∧ rdV ((R.drop 32).take 8) ≤ 105190559) (h48 : 48 ≤ R.length) (hs : 1 ≤ rdV ((R.drop 40).take 8) ∧ rdV ((R.drop 40).take 8) ≤ min 65536 (sp.budget - (sp.size : Int))) :
    dec3 ⟨sp, ⟨R, 0⟩⟩ = ⟨R.drop 48, 0⟩ ∧ decN ⟨sp, ⟨R, 0⟩⟩ = (rdV ((R.drop 40).take 8)).toNat := by
  have h2 := (dec2_ok (sp := sp) hb (by omega) hm).1
  have h3 := num_ok (R := R.drop 40) (by rw [List.length_drop]; omega) (l := 1) (m := decM ⟨sp, ⟨R, 0⟩⟩) (by decide) (decM_lt _ _) hs
  unfold dec3 decN
  rw [h2, h3.1, h3.2, List.drop_drop]
  exact ⟨rfl, rfl⟩
theorem step_23d {R : List UInt8} {sp : SpD} (hb : idOf (R.take 32) ≠ z32 ∧ (sp.find (idOf (R.take 32))).isSome = false) (hm : 0 ≤ rdV ((R.drop 32).take 8) ∧ rdV ((R.drop 32).take 8) ≤ 105190559) (h48 : 48 ≤ R.length) (hs : 1 ≤ rdV ((R.drop 40).take 8) ∧ rdV ((R.drop 40).take 8) ≤ min 65536 (sp.budget - (sp.size : Int)))
    (ht : R.length < 48 + (rdV ((R.drop 40).take 8)).toNat) : (decStep ⟨sp, ⟨R, 0⟩⟩).s.e = 23 := by
  have h3 := dec3_ok (sp := sp) hb hm h48 hs
  show (dec4 ⟨sp, ⟨R, 0⟩⟩).e = 23
  unfold dec4
  rw [h3.1, h3.2, take_short (by rw [List.length_drop]; omega)]
/-- The article that a step adds. -/
def artOf (R : List UInt8) : RefA := ⟨idOf (R.take 32), ⟨((R.drop 48).take (rdV ((R.drop 40).take 8)).toNat).toArray⟩, rdV ((R.drop 32).take 8)⟩
theorem step_good {R : List UInt8} {sp : SpD} (h : StepOk R sp) : decStep ⟨sp, ⟨R, 0⟩⟩ = ⟨sp.add (artOf R).id (artOf R).text (artOf R).min, ⟨R.drop (48 + (rdV ((R.drop 40).take 8)).toNat), 0⟩⟩ := by
  have h3 := dec3_ok (sp := sp) h.idn h.mn h.l48 h.siz
  have h2 := (dec2_ok (sp := sp) h.idn h.l40 h.mn).2
  have ht := take_ok (R := R.drop 48) (n := (rdV ((R.drop 40).take 8)).toNat) (by rw [List.length_drop]; have := h.txt; omega)
  have h4 : dec4 ⟨sp, ⟨R, 0⟩⟩ = ⟨R.drop (48 + (rdV ((R.drop 40).take 8)).toNat), 0⟩ := by
    unfold dec4
    rw [h3.1, h3.2, ht.1, List.drop_drop]
  have hT : decT ⟨sp, ⟨R, 0⟩⟩ = (artOf R).text := by
    unfold decT
    rw [h3.1, h3.2, ht.2]
    rfl
  have hI : (⟨R, 0⟩ : SrcD).takeB 32 = R.take 32 := (take_ok h.l32).2
  have hsz : (artOf R).text.size = (rdV ((R.drop 40).take 8)).toNat := by
    show (((R.drop 48).take (rdV ((R.drop 40).take 8)).toNat).toArray).size = _
    rw [List.size_toArray, List.length_take, List.length_drop]
    have := h.txt
    omega
  unfold decStep
  rw [h4, hT]
  show DecS.mk (if (0 : Int) = 0 then putS sp (idOf ((⟨R, 0⟩ : SrcD).takeB 32)) (artOf R).text ((dec1 ⟨sp, ⟨R, 0⟩⟩).numV 0 105190559) else sp) _ = _
  rw [if_pos rfl, hI, h2]
  unfold putS
  rw [if_pos]
  · rfl
  · unfold putC
    have hs := h.siz
    have hm := h.mn
    have hi := h.idn
    rw [if_neg (by rw [hsz]; rintro (e | e); exact hi.1 e; omega), if_neg (by rw [hsz]; omega), if_neg (by omega), if_neg (by rw [hi.2]; decide), if_neg (by rw [hsz]; omega)]
theorem stepOk_of {R : List UInt8} {sp : SpD} (h : (decStep ⟨sp, ⟨R, 0⟩⟩).s.e = 0) : StepOk R sp := by
  by_cases h32 : 32 ≤ R.length
  case neg => rw [step_23a (by omega)] at h; cases h
  by_cases hb : idOf (R.take 32) ≠ z32 ∧ (sp.find (idOf (R.take 32))).isSome = false
  case neg => rw [step_3a h32 hb] at h; cases h
  by_cases h40 : 40 ≤ R.length
  case neg => rw [step_23b h32 hb (by omega)] at h; cases h
  by_cases hm : 0 ≤ rdV ((R.drop 32).take 8) ∧ rdV ((R.drop 32).take 8) ≤ 105190559
  case neg => rw [step_3b hb h40 hm] at h; cases h
  by_cases h48 : 48 ≤ R.length
  case neg => rw [step_23c hb h40 hm (by omega)] at h; cases h
  by_cases hs : 1 ≤ rdV ((R.drop 40).take 8) ∧ rdV ((R.drop 40).take 8) ≤ min 65536 (sp.budget - (sp.size : Int))
  case neg => rw [step_3c hb hm h48 hs] at h; cases h
  by_cases ht : 48 + (rdV ((R.drop 40).take 8)).toNat ≤ R.length
  case neg => rw [step_23d hb hm h48 hs (by omega)] at h; cases h
  exact ⟨h32, hb, h40, hm, h48, hs, ht⟩
/-- The steps one after another. -/
def decIt : Nat → DecS → DecS
  | 0, d => d
  | n + 1, d => decStep (decIt n d)
theorem decIt_comm : ∀ (n : Nat) (d : DecS), decIt (n + 1) d = decIt n (decStep d)
  | 0, _ => rfl
  | n + 1, d => by
    show decStep (decIt (n + 1) d) = decStep (decIt n (decStep d))
    rw [decIt_comm n d]
theorem decLoop_it : ∀ (i k : Nat) (d : DecS), (∀ j, j < i → (decIt j d).s.e = 0) → decLoop (i + k) d = decLoop k (decIt i d)
  | 0, k, d, _ => by rw [Nat.zero_add]; rfl
  | i + 1, k, d, h => by
    have h0 : d.s.e = 0 := h 0 (by omega)
    rw [show i + 1 + k = (i + k) + 1 by omega]
    show (if d.s.e = 0 then decLoop (i + k) (decStep d) else d) = _
    rw [if_pos h0, decLoop_it i k (decStep d) (fun j hj => by rw [← decIt_comm]; exact h (j + 1) (by omega)), ← decIt_comm]
theorem decLoop_err (n : Nat) {d : DecS} (h : d.s.e ≠ 0) : decLoop n d = d := by
  cases n with
  | zero => rfl
  | succ n => show (if d.s.e = 0 then _ else d) = d; rw [if_neg h]
theorem decE_err {b : List UInt8} {i : Nat} (hi : i < decC b) (hj : ∀ j, j ≤ i → (decIt j (dec0 b)).s.e = 0) {c : Int} (hc : (decIt (i + 1) (dec0 b)).s.e = c) (h0 : c ≠ 0) : decE b = c := by
  have h1 : decR b = decIt (i + 1) (dec0 b) := by
    unfold decR
    rw [show decC b = (i + 1) + (decC b - (i + 1)) by omega, decLoop_it _ _ _ (fun j hjj => hj j (by omega)), decLoop_err _ (by rw [hc]; exact h0)]
  unfold decE
  rw [h1, fail_err (by rw [hc]; exact h0), hc]
theorem decE_start {b : List UInt8} {c : Int} (h : (dec0 b).s.e = c) (h0 : c ≠ 0) : decE b = c := by
  unfold decE decR
  rw [decLoop_err _ (by rw [h]; exact h0), fail_err (by rw [h]; exact h0), h]
theorem decR_end {b : List UInt8} (hj : ∀ j, j ≤ decC b → (decIt j (dec0 b)).s.e = 0) : decR b = decIt (decC b) (dec0 b) ∧ decE b = if 0 < (decIt (decC b) (dec0 b)).s.rest.length then 5 else 0 := by
  have h1 : decR b = decIt (decC b) (dec0 b) := by
    unfold decR
    have := decLoop_it (decC b) 0 (dec0 b) (fun j hjj => hj j (by omega))
    rw [Nat.add_zero] at this
    exact this
  refine ⟨h1, ?_⟩
  unfold decE
  rw [h1]
  obtain ⟨⟨R, e⟩, hs⟩ : ∃ s, (decIt (decC b) (dec0 b)).s = s := ⟨_, rfl⟩
  have he := hj _ (Nat.le_refl _)
  rw [hs] at he ⊢
  obtain rfl : e = 0 := he
  by_cases hr : 0 < R.length
  · rw [decide_eq_true hr, fail_true, if_pos hr]
  · rw [decide_eq_false hr, fail_false, if_neg hr]
theorem dec0_short {b : List UInt8} (h : b.length < 8) : (dec0 b).s.e = 23 := by
  show (((⟨b, 0⟩ : SrcD).numS 1 1073741824).takeS 8).e = 23
  rw [num_short h, take_err (by show (23 : Int) ≠ 0; decide)]
theorem dec0_bad {b : List UInt8} (h : 8 ≤ b.length) (hb : ¬ (1 ≤ rdV (b.take 8) ∧ rdV (b.take 8) ≤ 1073741824)) : (dec0 b).s.e = 3 := by
  show (((⟨b, 0⟩ : SrcD).numS 1 1073741824).takeS 8).e = 3
  rw [num_bad h (by decide) (by decide) hb, take_err (by show (3 : Int) ≠ 0; decide)]
theorem dec0_short2 {b : List UInt8} (h : 8 ≤ b.length) (hb : 1 ≤ rdV (b.take 8) ∧ rdV (b.take 8) ≤ 1073741824) (h16 : b.length < 16) : (dec0 b).s.e = 23 := by
  show (((⟨b, 0⟩ : SrcD).numS 1 1073741824).takeS 8).e = 23
  rw [(num_ok h (by decide) (by decide) hb).1, take_short (by rw [List.length_drop]; omega)]
theorem dec0_ok {b : List UInt8} (h16 : 16 ≤ b.length) (hb : 1 ≤ rdV (b.take 8) ∧ rdV (b.take 8) ≤ 1073741824) : dec0 b = ⟨⟨rdV (b.take 8), 0, []⟩, ⟨b.drop 16, 0⟩⟩ ∧ decC b = bval ((b.drop 8).take 8) := by
  have h1 := num_ok (R := b) (by omega) (l := 1) (m := 1073741824) (by decide) (by decide) hb
  have h2 := take_ok (R := b.drop 8) (n := 8) (by rw [List.length_drop]; omega)
  unfold dec0 decC
  rw [h1.1, h1.2, h2.1, List.drop_drop]
  refine ⟨rfl, ?_⟩
  unfold SrcD.cnt
  rw [h2.2]
/-- What holds after i steps without an error. -/
structure DInv (b : List UInt8) (i : Nat) (at_ : Nat) (sp : SpD) : Prop where
  it : decIt i (dec0 b) = ⟨sp, ⟨b.drop at_, 0⟩⟩
  ok : ∀ j, j ≤ i → (decIt j (dec0 b)).s.e = 0
  at0 : 16 ≤ at_
  at1 : at_ ≤ b.length
  at2 : 48 * i ≤ at_
  len : sp.list.length = i
  nxt : sp.next = (i : Int)
  bud : sp.budget = rdV (b.take 8)
  oks : sp.Ok
  idz : ∀ a ∈ sp.list, a.id ≠ z32
  byt : b.take at_ = b.take 16 ++ sp.ref.flatMap encA
theorem be8_bval {B : List UInt8} (h : B.length = 8) : be8 (bval B) = B := by
  match B, h with
  | [a, b, c, d, e, f, g, h], _ =>
    have ha := a.toNat_lt; have hb := b.toNat_lt; have hc := c.toNat_lt; have hd := d.toNat_lt
    have he := e.toNat_lt; have hf := f.toNat_lt; have hg := g.toNat_lt; have hh := h.toNat_lt
    have hv : bval [a, b, c, d, e, f, g, h] = ((((((a.toNat * 256 + b.toNat) * 256 + c.toNat) * 256 + d.toNat) * 256 + e.toNat) * 256 + f.toNat) * 256 + g.toNat) * 256 + h.toNat := by
      unfold bval
      simp only [List.foldl_cons, List.foldl_nil, Nat.zero_mul, Nat.zero_add]
    rw [hv]
    have hu : ∀ (x : UInt8) (n : Nat), n % 256 = x.toNat → UInt8.ofNat n = x := fun x n hn => by
      apply UInt8.toNat_inj.1
      rw [UInt8.toNat_ofNat']
      exact hn
    unfold be8
    simp only [List.range, List.range.loop, List.map_cons, List.map_nil, Nat.reduceSub, Nat.reduceMul, Nat.reducePow, Nat.div_one]
    rw [hu a _ (by omega), hu b _ (by omega), hu c _ (by omega), hu d _ (by omega), hu e _ (by omega), hu f _ (by omega), hu g _ (by omega), hu h _ (by omega)]
theorem rdV_be8 {B : List UInt8} (h : B.length = 8) (h0 : 0 ≤ rdV B) : be8 (rdV B).toNat = B := by
  unfold rdV at h0 ⊢
  split
  · rw [Int.toNat_natCast]; exact be8_bval h
  · rename_i hn; rw [if_neg hn] at h0; omega
theorem bval_be8 {n : Nat} (h : n < 18446744073709551616) : bval (be8 n) = n := by
  have hx : ∀ m : Nat, (UInt8.ofNat m).toNat = m % 256 := fun m => by rw [UInt8.toNat_ofNat']
  unfold be8 bval
  simp only [List.range, List.range.loop, List.map_cons, List.map_nil, Nat.reduceSub, Nat.reduceMul, Nat.reducePow, Nat.div_one, List.foldl_cons, List.foldl_nil, Nat.zero_mul, Nat.zero_add, hx]
  omega
theorem rd_be8 {n : Nat} (h : n < 4611686018427387904) : rdV (be8 n) = (n : Int) := by
  unfold rdV
  rw [bval_be8 (by omega), if_pos h]
theorem encA_artOf {R : List UInt8} {sp : SpD} (h : StepOk R sp) : encA (artOf R) = R.take (48 + (rdV ((R.drop 40).take 8)).toNat) := by
  obtain ⟨z, hz⟩ : ∃ z, (rdV ((R.drop 40).take 8)).toNat = z := ⟨_, rfl⟩
  have h1 : (artOf R).id.1 = R.take 32 := by
    show (idOf (R.take 32)).1 = _
    unfold idOf
    rw [dif_pos (by rw [List.length_take]; have := h.l32; omega)]
  have h2 : be8 (artOf R).min.toNat = (R.drop 32).take 8 := rdV_be8 (by rw [List.length_take, List.length_drop]; have := h.l40; omega) h.mn.1
  have h3 : (artOf R).text.data.toList = (R.drop 48).take z := by
    show (((R.drop 48).take (rdV ((R.drop 40).take 8)).toNat).toArray).toList = _
    rw [hz]
  have h4 : (artOf R).text.size = z := by
    show ((R.drop 48).take (rdV ((R.drop 40).take 8)).toNat).toArray.size = _
    rw [hz, List.size_toArray, List.length_take, List.length_drop]
    have := h.txt
    omega
  have h5 : be8 z = (R.drop 40).take 8 := by rw [← hz]; exact rdV_be8 (by rw [List.length_take, List.length_drop]; have := h.l48; omega) (by have := h.siz.1; omega)
  unfold encA
  rw [h1, h2, h3, h4, h5, hz]
  have e1 : ∀ (n m : Nat), R.take n ++ (R.drop n).take m = R.take (n + m) := fun n m => (List.take_add ..).symm
  rw [e1 32 8, e1 40 8, e1 48 z]
theorem add_ref (S : SpD) (a : RefA) : (S.add a.id a.text a.min).ref = S.ref ++ [a] := by
  unfold SpD.ref SpD.add
  show (S.list ++ [_]).map toR = _
  rw [List.map_append]
  rfl
theorem good_putC {R : List UInt8} {sp : SpD} (h : StepOk R sp) : putC sp (artOf R).id (artOf R).text (artOf R).min = 0 := by
  have hsz : (artOf R).text.size = (rdV ((R.drop 40).take 8)).toNat := by
    show (((R.drop 48).take (rdV ((R.drop 40).take 8)).toNat).toArray).size = _
    rw [List.size_toArray, List.length_take, List.length_drop]
    have := h.txt
    omega
  have hs := h.siz
  have hm : 0 ≤ (artOf R).min ∧ (artOf R).min ≤ 105190559 := h.mn
  have hi : (artOf R).id ≠ z32 ∧ (sp.find (artOf R).id).isSome = false := h.idn
  unfold putC
  rw [if_neg (by rw [hsz]; rintro (e | e); exact hi.1 e; omega), if_neg (by rw [hsz]; omega), if_neg (by omega), if_neg (by rw [hi.2]; decide), if_neg (by rw [hsz]; omega)]
theorem dinv_zero {b : List UInt8} (h16 : 16 ≤ b.length) (hb : 1 ≤ rdV (b.take 8) ∧ rdV (b.take 8) ≤ 1073741824) : DInv b 0 16 ⟨rdV (b.take 8), 0, []⟩ where
  it := (dec0_ok h16 hb).1
  ok := fun j hj => by
    obtain rfl : j = 0 := by omega
    show (dec0 b).s.e = 0
    rw [(dec0_ok h16 hb).1]
  at0 := Nat.le_refl _
  at1 := h16
  at2 := by omega
  len := rfl
  nxt := rfl
  bud := rfl
  oks := ok_new hb.1 hb.2
  idz := fun a ha => by cases ha
  byt := by show _ = _ ++ ([] : List RefA).flatMap encA; rw [List.flatMap_nil, List.append_nil]
theorem dinv_next {b : List UInt8} {i at_ : Nat} {sp : SpD} (h : DInv b i at_ sp) (hs : StepOk (b.drop at_) sp) : DInv b (i + 1) (at_ + (48 + (rdV (((b.drop at_).drop 40).take 8)).toNat)) (sp.add (artOf (b.drop at_)).id (artOf (b.drop at_)).text (artOf (b.drop at_)).min) := by
  have hg := step_good hs
  have ht := hs.txt
  rw [List.length_drop] at ht
  have hit : decIt (i + 1) (dec0 b) = ⟨sp.add (artOf (b.drop at_)).id (artOf (b.drop at_)).text (artOf (b.drop at_)).min, ⟨b.drop (at_ + (48 + (rdV (((b.drop at_).drop 40).take 8)).toNat)), 0⟩⟩ := by
    show decStep (decIt i (dec0 b)) = _
    rw [h.it, hg, List.drop_drop]
  refine ⟨hit, fun j hj => ?_, by have := h.at0; omega, by have := h.at1; omega, by have := h.at2; omega, ?_, ?_, h.bud, Ok.add h.oks (good_putC hs), ?_, ?_⟩
  · by_cases hji : j ≤ i
    · exact h.ok j hji
    · obtain rfl : j = i + 1 := by omega
      rw [hit]
  · show (sp.list ++ [_]).length = i + 1
    rw [List.length_append, h.len]
    rfl
  · show sp.next + 1 = _
    rw [h.nxt]
    omega
  · intro a ha
    rcases List.mem_append.1 ha with ha | ha
    · exact h.idz a ha
    · obtain rfl := List.mem_singleton.1 ha
      exact hs.idn.1
  · rw [add_ref, List.flatMap_append, List.flatMap_singleton, encA_artOf hs, ← List.append_assoc, ← h.byt]
    exact List.take_add ..
theorem dinv_end {b : List UInt8} {i at_ : Nat} {sp : SpD} (h : DInv b i at_ sp) (hi : decC b = i) : decR b = ⟨sp, ⟨b.drop at_, 0⟩⟩ ∧ decE b = if at_ < b.length then 5 else 0 := by
  have h1 := decR_end (b := b) (fun j hj => h.ok j (by omega))
  rw [hi, h.it] at h1
  refine ⟨h1.1, h1.2.trans ?_⟩
  show (if 0 < (b.drop at_).length then (5 : Int) else 0) = _
  rw [List.length_drop]
  by_cases h2 : at_ < b.length
  · rw [if_pos h2, if_pos (by omega)]
  · rw [if_neg h2, if_neg (by omega)]
theorem dinv_err {b : List UInt8} {i at_ : Nat} {sp : SpD} (h : DInv b i at_ sp) (hi : i < decC b) {c : Int} (hc : (decStep ⟨sp, ⟨b.drop at_, 0⟩⟩).s.e = c) (h0 : c ≠ 0) : decE b = c :=
  decE_err hi (fun j hj => h.ok j hj) (by show (decStep (decIt i (dec0 b))).s.e = c; rw [h.it]; exact hc) h0
/-- What is decoded is encoded as the same bytes. -/
theorem enc_dec {b : List UInt8} (h16 : 16 ≤ b.length) {sp : SpD} (h : DInv b (decC b) b.length sp) (hb : 1 ≤ rdV (b.take 8) ∧ rdV (b.take 8) ≤ 1073741824) : encS sp.budget.toNat sp.ref = b := by
  have h1 : be8 sp.budget.toNat = b.take 8 := by rw [h.bud]; exact rdV_be8 (by rw [List.length_take]; omega) (by omega)
  have h2 : be8 sp.ref.length = (b.drop 8).take 8 := by
    rw [ref_length, h.len, (dec0_ok h16 hb).2]
    exact be8_bval (by rw [List.length_take, List.length_drop]; omega)
  unfold encS
  rw [h1, h2]
  have h3 := h.byt
  rw [List.take_length] at h3
  have h4 : b.take 8 ++ (b.drop 8).take 8 = b.take 16 := (List.take_add ..).symm
  rw [h4, ← h3]
/-- What is encoded is decoded again. -/
theorem dec_enc {S : SpD} (hok : S.Ok) (hz : ∀ a ∈ S.list, a.id ≠ z32) (hn : (S.list.map (·.id)).Nodup) :
    ∀ i, i ≤ S.list.length → ∃ at_ sp, DInv (encS S.budget.toNat S.ref) i at_ sp ∧ sp.ref = S.ref.take i ∧ (encS S.budget.toNat S.ref).drop at_ = (S.ref.drop i).flatMap encA := by
  obtain ⟨b, hb⟩ : ∃ b, encS S.budget.toNat S.ref = b := ⟨_, rfl⟩
  have hB := hok.b0
  have hB1 := hok.b1
  have hbv : b.take 8 = be8 S.budget.toNat := by
    rw [← hb]; unfold encS
    rw [List.append_assoc, List.take_append_of_le_length (by rw [be8_length]; exact Nat.le_refl _), List.take_of_length_le (by rw [be8_length]; exact Nat.le_refl _)]
  have h16 : b.drop 16 = S.ref.flatMap encA := by
    rw [← hb]; unfold encS
    rw [List.drop_append_of_le_length (by rw [List.length_append, be8_length, be8_length]; exact Nat.le_refl _), List.drop_of_length_le (by rw [List.length_append, be8_length, be8_length]; exact Nat.le_refl _), List.nil_append]
  have hl16 : 16 ≤ b.length := by
    rw [← hb]; unfold encS
    rw [List.length_append, List.length_append, be8_length, be8_length]
    omega
  have hrd : rdV (b.take 8) = S.budget := by rw [hbv, rd_be8 (by omega)]; omega
  rw [hb]
  intro i
  induction i with
  | zero =>
    intro _
    refine ⟨16, _, dinv_zero hl16 (by rw [hrd]; exact ⟨hB, hB1⟩), ?_, ?_⟩
    · rw [List.take_zero]; rfl
    · rw [List.drop_zero]; exact h16
  | succ i ih =>
    intro hi
    obtain ⟨at_, sp, hd, hr, hD⟩ := ih (by omega)
    have hir : i < S.ref.length := by rw [ref_length]; omega
    have hx : S.ref[i] = toR (S.list[i]'(by omega)) := List.getElem_map toR
    obtain ⟨x, hxx⟩ : ∃ x, S.list[i]'(by omega) = x := ⟨_, rfl⟩
    have hxm : x ∈ S.list := hxx ▸ List.getElem_mem _
    rw [hxx] at hx
    have htx := hok.tx x hxm
    have har := hok.ar x hxm
    have hDc : b.drop at_ = encA (toR x) ++ (S.ref.drop (i + 1)).flatMap encA := by
      rw [hD, List.drop_eq_getElem_cons hir, hx, List.flatMap_cons]
    obtain ⟨T, hT⟩ : ∃ T, (S.ref.drop (i + 1)).flatMap encA = T := ⟨_, rfl⟩
    rw [hT] at hDc
    have hE : encA (toR x) = x.id.1 ++ (be8 x.arr.toNat ++ (be8 x.text.size ++ x.text.data.toList)) := by
      unfold encA toR
      simp only [List.append_assoc]
    have hEl : (encA (toR x)).length = 48 + x.text.size := encA_length _
    have hcut : ∀ {A C : List UInt8} {n : Nat}, A.length = n → (A ++ C).take n = A ∧ (A ++ C).drop n = C := fun {A C n} h => by
      subst h
      exact ⟨List.take_left .., List.drop_left ..⟩
    have hDD : b.drop at_ = x.id.1 ++ (be8 x.arr.toNat ++ (be8 x.text.size ++ (x.text.data.toList ++ T))) := by
      rw [hDc, hE]; simp only [List.append_assoc]
    have hid : (b.drop at_).take 32 = x.id.1 := by rw [hDD]; exact (hcut x.id.2).1
    have hd32 : (b.drop at_).drop 32 = be8 x.arr.toNat ++ (be8 x.text.size ++ (x.text.data.toList ++ T)) := by rw [hDD]; exact (hcut x.id.2).2
    have hd40 : (b.drop at_).drop 40 = be8 x.text.size ++ (x.text.data.toList ++ T) := by
      rw [show (40 : Nat) = 32 + 8 by rfl, ← List.drop_drop, hd32]; exact (hcut (be8_length _)).2
    have hd48 : (b.drop at_).drop 48 = x.text.data.toList ++ T := by
      rw [show (48 : Nat) = 40 + 8 by rfl, ← List.drop_drop, hd40]; exact (hcut (be8_length _)).2
    have hmin : rdV (((b.drop at_).drop 32).take 8) = x.arr := by rw [hd32, (hcut (be8_length _)).1, rd_be8 (by omega)]; omega
    have hsiz : rdV (((b.drop at_).drop 40).take 8) = (x.text.size : Int) := by rw [hd40, (hcut (be8_length _)).1, rd_be8 (by omega)]
    have hido : idOf ((b.drop at_).take 32) = x.id := by
      rw [hid]; unfold idOf; rw [dif_pos x.id.2]
    have hlen : 48 + x.text.size ≤ (b.drop at_).length := by rw [hDc, List.length_append, hEl]; omega
    have hartx : (((b.drop at_).drop 48).take x.text.size) = x.text.data.toList := by rw [hd48]; exact (hcut (Array.length_toList ..)).1
    have hspl : sp.list.map (·.id) = (S.list.take i).map (·.id) := by
      have h1 : sp.ref.map (·.id) = (S.ref.take i).map (·.id) := by rw [hr]
      unfold SpD.ref at h1
      rw [List.map_map, ← List.map_take, List.map_map] at h1
      exact h1
    have hsz : sp.size + x.text.size ≤ S.size := by
      have h1 : (sp.ref.map (·.text.size)).sum = ((S.ref.take i).map (·.text.size)).sum := by rw [hr]
      unfold SpD.ref at h1
      rw [List.map_map, ← List.map_take, List.map_map] at h1
      have h2 : sp.size = ((S.list.take i).map (·.text.size)).sum := h1
      have h3 : S.size = ((S.list.take i).map (·.text.size)).sum + ((S.list.drop i).map (·.text.size)).sum := by
        rw [← List.sum_append, ← List.map_append, List.take_append_drop]; rfl
      rw [List.drop_eq_getElem_cons (show i < S.list.length by omega), hxx, List.map_cons, List.sum_cons] at h3
      omega
    have hfind : (sp.find x.id).isSome = false := by
      cases hq : sp.find x.id with
      | none => rfl
      | some a =>
        exfalso
        obtain ⟨ha, hai⟩ := find_spec.1 hq
        have h1 : x.id ∈ sp.list.map (·.id) := hai ▸ List.mem_map_of_mem ha
        rw [hspl] at h1
        have h2 : (S.list.map (·.id)) = (S.list.take i).map (·.id) ++ (S.list.drop i).map (·.id) := by rw [← List.map_append, List.take_append_drop]
        rw [h2, List.nodup_append] at hn
        refine hn.2.2 _ h1 _ ?_ rfl
        rw [List.drop_eq_getElem_cons (show i < S.list.length by omega), hxx, List.map_cons]
        exact List.mem_cons_self
    have hss := hok.sz
    have hs : StepOk (b.drop at_) sp := ⟨by omega, by rw [hido]; exact ⟨hz x hxm, hfind⟩, by omega, by rw [hmin]; exact har, by omega, by rw [hsiz, hd.bud, hrd]; omega, by rw [hsiz, Int.toNat_natCast]; exact hlen⟩
    have hart : artOf (b.drop at_) = toR x := by
      unfold artOf toR
      rw [hido, hmin, hsiz, Int.toNat_natCast, hartx]
    refine ⟨_, _, dinv_next hd hs, ?_, ?_⟩
    · rw [add_ref, hr, hart, List.take_succ_eq_append_getElem hir, hx]
    · rw [hsiz, Int.toNat_natCast, ← List.drop_drop, hDc, hT]
      exact (hcut hEl).2
theorem dec_enc_all {S : SpD} (hok : S.Ok) (hz : ∀ a ∈ S.list, a.id ≠ z32) (hn : (S.list.map (·.id)).Nodup) (hl : S.list.length < 1000000) : decE (encS S.budget.toNat S.ref) = 0 ∧ (decR (encS S.budget.toNat S.ref)).sp.ref = S.ref ∧ (decR (encS S.budget.toNat S.ref)).sp.budget = S.budget := by
  obtain ⟨at_, sp, hd, hr, hD⟩ := dec_enc hok hz hn S.list.length (Nat.le_refl _)
  obtain ⟨b, hb⟩ : ∃ b, encS S.budget.toNat S.ref = b := ⟨_, rfl⟩
  have hB := hok.b0
  have hB1 := hok.b1
  have hbv : b.take 8 = be8 S.budget.toNat := by
    rw [← hb]; unfold encS
    rw [List.append_assoc, List.take_append_of_le_length (by rw [be8_length]; exact Nat.le_refl _), List.take_of_length_le (by rw [be8_length]; exact Nat.le_refl _)]
  have h8 : (b.drop 8).take 8 = be8 S.list.length := by
    rw [← hb]; unfold encS
    rw [List.append_assoc, List.drop_append_of_le_length (by rw [be8_length]; exact Nat.le_refl _), List.drop_of_length_le (by rw [be8_length]; exact Nat.le_refl _), List.nil_append, List.take_append_of_le_length (by rw [be8_length]; exact Nat.le_refl _), List.take_of_length_le (by rw [be8_length]; exact Nat.le_refl _), ref_length]
  have hrd : rdV (b.take 8) = S.budget := by rw [hbv, rd_be8 (by omega)]; omega
  have hl16 : 16 ≤ b.length := by
    rw [← hb]; unfold encS
    rw [List.length_append, List.length_append, be8_length, be8_length]
    omega
  rw [hb] at hd hD ⊢
  have hC : decC b = S.list.length := by
    rw [(dec0_ok hl16 (by rw [hrd]; exact ⟨hB, hB1⟩)).2, h8, bval_be8 (by omega)]
  have he := decR_end (b := b) (fun j hj => hd.ok j (by omega))
  rw [hC, hd.it] at he
  have hD0 : b.drop at_ = [] := by rw [hD, List.drop_of_length_le (by rw [ref_length]; exact Nat.le_refl _)]; rfl
  refine ⟨?_, ?_, ?_⟩
  · rw [he.2]
    show (if 0 < (b.drop at_).length then (5 : Int) else 0) = 0
    rw [hD0]; rfl
  · rw [he.1]
    show sp.ref = _
    rw [hr, List.take_of_length_le (by rw [ref_length]; exact Nat.le_refl _)]
  · rw [he.1]
    show sp.budget = _
    rw [hd.bud, hrd]
end Go.Proofs.Ytnmdgjodbikndaa
