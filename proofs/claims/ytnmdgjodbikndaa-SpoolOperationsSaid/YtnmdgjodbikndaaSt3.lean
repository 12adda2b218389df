/- The stable sort: rotate. -/
import Derived.Test.YtnmdgjodbikndaaSt2
namespace Go.Proofs.Ytnmdgjodbikndaa
open Go.RowKit Go.Sort Go.Shelf
set_option linter.unusedVariables false
set_option linter.unusedSimpArgs false

set_option maxRecDepth 1000000 in
set_option maxHeartbeats 2000000 in
theorem rotate_any {w0 w : World} {blk off cap : Nat} {d0 d : Array TA} (R : RowK encT 34 w0 blk off d0) (hs : d0.size = d.size) (S : SWK encT 34 w0 blk off d w) (a m b : Nat) (ham : a < m) (hmb : m < b) (hb : b ≤ d.size) (hsz : d.size < 1000000000) (fv : Value) :
    Calls Try.prog 77 #[.slice (some ⟨blk, off, none⟩) d.size cap, .int .i64 (a : Int), .int .i64 (m : Int), .int .i64 (b : Int), fv] w fun e w' => e = .returned (.tuple #[]) ∧ ∃ d', SWK encT 34 w0 blk off d' w' ∧ Via (rotI a m b) a b d d' := by
  obtain ⟨N, hN⟩ : ∃ N, d.size = N := ⟨_, rfl⟩
  rw [hN] at hs hb hsz ⊢
  have S0 := Lib.hid S
  clear S
  have hw1 : IntKind.i64.wrap ((m : Int) - (a : Int)) = ((m - a : Nat) : Int) := (IntWalk.i64_in _ (by omega)).trans (by omega)
  have hw2 : IntKind.i64.wrap ((b : Int) - (m : Int)) = ((b - m : Nat) : Int) := (IntWalk.i64_in _ (by omega)).trans (by omega)
  go_enter Try.func77, Try.ntmps77
  go_wp2_with fail
  clear hw1 hw2
  go_loopw [10, 11] (fun iv jv wr => ∃ (i j : Nat) (dk : Array TA) (f : Nat → Nat), 0 < i ∧ 0 < j ∧ i + a ≤ m ∧ m + j ≤ b ∧ iv = .int .i64 (i : Int) ∧ jv = .int .i64 (j : Int) ∧ Hid (SWK encT 34 w0 blk off dk wr) ∧ Via f a b d dk ∧ Hid (∀ k, f (rotI (m - i) m (m + j) k) = rotI a m b k)) (fun iv jv _ => (intOf iv).toNat + (intOf jv).toNat)
  case atStart => exact ⟨m - a, b - m, d, fun k => k, by omega, by omega, by omega, by omega, by go_num, by go_num, S0, via_refl _ _ _, Lib.hid (fun k => by rw [show m - (m - a) = a by omega, show m + (b - m) = b by omega])⟩
  case round =>
    clear S0
    obtain ⟨i, j, dk, f, hi0, hj0, hia, hjb, rfl, rfl, S1, hv, HF⟩ := hrel
    have hds := hv.size
    rw [hN] at hds
    rcases Nat.lt_trichotomy j i with hlt | heq | hgt
    · have hI1 : ¬ (i : Int) = (j : Int) := by omega
      have hI2 : (j : Int) < (i : Int) := by omega
      have hw1 : IntKind.i64.wrap ((m : Int) - (i : Int)) = ((m - i : Nat) : Int) := (IntWalk.i64_in _ (by omega)).trans (by omega)
      have hw2 : IntKind.i64.wrap ((i : Int) - (j : Int)) = ((i - j : Nat) : Int) := (IntWalk.i64_in _ (by omega)).trans (by omega)
      have hcw := swapRange_any R (by omega) S1.out (m - i) (m) (j) (m + j) (cap := cap) (by omega) (by omega) (by omega) (by omega) fv
      rw [hds] at hcw
      have HCW := Lib.hid hcw
      clear hcw
      have HV := Lib.hid hv
      clear hv
      go_wp2_with fail
      refine HCW.out.mono ?_
      rintro e w2 ⟨rfl, d1, S2, hv1⟩
      have S2 := Lib.hid S2
      have HV2 := Lib.hid (HV.out.trans hv1 (by omega) (by omega) (by omega))
      clear hv1
      go_wp2_with fail
      go_roundw
      case rel => exact ⟨i - j, j, d1, _, by omega, by omega, by omega, by omega, by go_num, rfl, S2, HV2.out, Lib.hid (fun k => by rw [rot_left (by omega) hlt]; exact HF.out k)⟩
      case measure => simp [intOf]; omega
    · subst heq
      have hw1 : IntKind.i64.wrap ((m : Int) - (j : Int)) = ((m - j : Nat) : Int) := (IntWalk.i64_in _ (by omega)).trans (by omega)
      have hcw := swapRange_any R (by omega) S1.out (m - j) (m) (j) (m + j) (cap := cap) (by omega) (by omega) (by omega) (by omega) fv
      rw [hds] at hcw
      have HCW := Lib.hid hcw
      clear hcw
      have HV := Lib.hid hv
      clear hv
      go_wp2_with fail
      refine HCW.out.mono ?_
      rintro e w2 ⟨rfl, d1, S2, hv1⟩
      have S2 := Lib.hid S2
      have HV2 := Lib.hid ((HV.out.trans hv1 (by omega) (by omega) (by omega)).congr (g := rotI a m b) (fun k => by rw [rot_end (by omega)]; exact HF.out k))
      clear hv1
      go_wp2_with fail
      go_end0
      exact ⟨rfl, d1, S2.out, HV2.out⟩
    · have hI1 : ¬ (i : Int) = (j : Int) := by omega
      have hI2 : ¬ (j : Int) < (i : Int) := by omega
      have hw1 : IntKind.i64.wrap ((m : Int) - (i : Int)) = ((m - i : Nat) : Int) := (IntWalk.i64_in _ (by omega)).trans (by omega)
      have hw2 : IntKind.i64.wrap ((j : Int) - (i : Int)) = ((j - i : Nat) : Int) := (IntWalk.i64_in _ (by omega)).trans (by omega)
      have hw3 : IntKind.i64.wrap ((m : Int) + (j : Int)) = ((m + j : Nat) : Int) := (IntWalk.i64_in _ (by omega)).trans (by omega)
      have hw4 : IntKind.i64.wrap (((m + j : Nat) : Int) - (i : Int)) = ((m + j - i : Nat) : Int) := (IntWalk.i64_in _ (by omega)).trans (by omega)
      have hcw := swapRange_any R (by omega) S1.out (m - i) (m + j - i) (i) (m + j) (cap := cap) (by omega) (by omega) (by omega) (by omega) fv
      rw [hds] at hcw
      have HCW := Lib.hid hcw
      clear hcw
      have HV := Lib.hid hv
      clear hv
      obtain ⟨mj, hmj⟩ : ∃ mj, m + j = mj := ⟨_, rfl⟩
      obtain ⟨mji, hmji⟩ : ∃ mji, m + j - i = mji := ⟨_, rfl⟩
      rw [hmj] at hw3 hw4
      have HMJ := Lib.hid (And.intro hmj hmji)
      rw [hmj] at hmji
      rw [hmji] at hw4
      rw [hmj, hmji] at HCW
      clear hmj hmji
      go_wp2_with fail
      refine HCW.out.mono ?_
      rintro e w2 ⟨rfl, d1, S2, hv1⟩
      have S2 := Lib.hid S2
      have HV2 := Lib.hid (HV.out.trans hv1 (by omega) (by have := HMJ.out; omega) (by omega))
      clear hv1
      go_wp2_with fail
      go_roundw
      case rel => exact ⟨i, j - i, d1, _, by omega, by omega, by omega, by omega, rfl, by go_num, S2, HV2.out, Lib.hid (fun k => by
        have h1 := rot_right (m := m) (i := i) (j := j) (k := k) (by omega) hgt
        rw [HMJ.out.2] at h1
        rw [h1]
        exact HF.out k)⟩
      case measure => simp [intOf]; omega
end Go.Proofs.Ytnmdgjodbikndaa
