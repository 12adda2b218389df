/- The plain law: the reference's SHA-256 is the program's. -/
import Derived.Test.YtloaenknhkfaeaaDoorSr4
namespace Go.Proofs.YtloaenknhkfaeaaDoor
open Go.RowKit
set_option linter.unusedVariables false
set_option linter.unusedSimpArgs false

theorem shl_or (a b : UInt32) : (a ||| b) <<< 8 = a <<< 8 ||| b <<< 8 := by
  apply UInt32.eq_of_toBitVec_eq
  show (a.toBitVec ||| b.toBitVec) <<< 8 = a.toBitVec <<< 8 ||| b.toBitVec <<< 8
  exact BitVec.shiftLeft_or_distrib ..
theorem shl_8_8 (a : UInt32) : a <<< 8 <<< 8 = a <<< 16 := by
  apply UInt32.eq_of_toBitVec_eq
  show a.toBitVec <<< 8 <<< 8 = a.toBitVec <<< 16
  exact (BitVec.shiftLeft_add a.toBitVec 8 8).symm
theorem shl_16_8 (a : UInt32) : a <<< 16 <<< 8 = a <<< 24 := by
  apply UInt32.eq_of_toBitVec_eq
  show a.toBitVec <<< 16 <<< 8 = a.toBitVec <<< 24
  exact (BitVec.shiftLeft_add a.toBitVec 16 8).symm
theorem shl4 (a b c d : UInt32) : ((((0 : UInt32) <<< 8 ||| a) <<< 8 ||| b) <<< 8 ||| c) <<< 8 ||| d = a <<< 24 ||| b <<< 16 ||| c <<< 8 ||| d := by
  have h0 : (0 : UInt32) <<< 8 = 0 := by decide
  rw [h0, UInt32.zero_or]
  simp only [shl_or, shl_8_8, shl_16_8]

theorem getD_set_same (l : List UInt32) (i : Nat) (x : UInt32) (h : i < l.length) : (l.set i x).getD i 0 = x := by simp [h]
theorem getD_set_other (l : List UInt32) (i j : Nat) (x : UInt32) (h : i ≠ j) : (l.set i x).getD j 0 = l.getD j 0 := by
  simp only [List.getD_eq_getElem?_getD, List.getElem?_set_ne h]
theorem ldAt_zero (l : List UInt8) : ∀ k q, k ≤ 4 * q → (ldAt l k).getD q 0 = 0
  | 0, q, _ => by
    simp only [ldAt, List.getD_eq_getElem?_getD, List.getElem?_replicate]
    split <;> rfl
  | k + 1, q, h => by
    rw [ldAt, getD_set_other _ _ _ _ (by omega)]
    exact ldAt_zero l k q (by omega)
theorem ldAt_word (l : List UInt8) (q : Nat) (hq : q < 16) : ∀ k, 4 * q + 4 ≤ k → (ldAt l k).getD q 0 = word4 l q := by
  intro k hk
  obtain ⟨n, rfl⟩ := Nat.exists_eq_add_of_le hk
  induction n with
  | zero =>
    have e0 := ldAt_zero l (4 * q) q (Nat.le_refl _)
    have L := ldAt_length l
    show (ldAt l (4 * q + 3 + 1)).getD q 0 = _
    have s : ∀ r, r < 4 → (ldAt l (4 * q + r + 1)).getD q 0 = (ldAt l (4 * q + r)).getD q 0 <<< 8 ||| (l.getD (4 * q + r) 0).toUInt32 := fun r hr => by
      rw [ldAt, show (4 * q + r) / 4 = q by omega, getD_set_same _ _ _ (by rw [L]; exact hq)]
    rw [s 3 (by omega), show 4 * q + 3 = 4 * q + 2 + 1 from rfl, s 2 (by omega), show 4 * q + 2 = 4 * q + 1 + 1 from rfl, s 1 (by omega), show 4 * q + 1 = 4 * q + 0 + 1 from rfl, s 0 (by omega), Nat.add_zero, e0]
    exact shl4 _ _ _ _
  | succ n ih =>
    rw [← Nat.add_assoc, ldAt, getD_set_other _ _ _ _ (by omega)]
    exact ih (by omega)

theorem loadW_length (l : List UInt8) : (loadW l).length = 16 := ldAt_length l 64
theorem loadW_word (l : List UInt8) (i : Nat) (hi : i < 16) : (loadW l).getD i 0 = word4 l i := ldAt_word l i hi 64 (by omega)
theorem rsAt_stable (l : List UInt8) (j k : Nat) (h : j < k) : ∀ n, (rsAt l (k + n)).getD j 0 = (rsAt l k).getD j 0
  | 0 => rfl
  | n + 1 => by
    rw [← Nat.add_assoc, rsAt, getD_set_other _ _ _ _ (by omega)]
    exact rsAt_stable l j k h n
theorem rs_to (l : List UInt8) (j k : Nat) (h : j < k) (hk : k ≤ 64) : (rsAt l k).getD j 0 = (rsch l).getD j 0 := by
  obtain ⟨n, hn⟩ := Nat.exists_eq_add_of_le hk
  rw [rsch, hn, rsAt_stable l j k h]
theorem rs_low (l : List UInt8) (t : Nat) (h : t < 16) : (rsch l).getD t 0 = word4 l t := by
  rw [← rs_to l t (t + 1) (by omega) (by omega), rsAt, getD_set_same _ _ _ (by rw [rsAt_length]; omega), if_pos h]
theorem rs_high (l : List UInt8) (t : Nat) (h : 16 ≤ t) (h2 : t < 64) :
    (rsch l).getD t 0 = (rsch l).getD (t - 16) 0 + (ss0 ((rsch l).getD (t - 15) 0) + ss1 ((rsch l).getD (t - 2) 0) + (rsch l).getD (t - 7) 0) := by
  rw [← rs_to l t (t + 1) (by omega) (by omega), rsAt, getD_set_same _ _ _ (by rw [rsAt_length]; omega), if_neg (by omega),
    rs_to l (t - 2) t (by omega) (by omega), rs_to l (t - 7) t (by omega) (by omega), rs_to l (t - 15) t (by omega) (by omega), rs_to l (t - 16) t (by omega) (by omega)]
  generalize (rsch l).getD (t - 2) 0 = x2
  generalize (rsch l).getD (t - 7) 0 = x7
  generalize (rsch l).getD (t - 15) 0 = x15
  generalize (rsch l).getD (t - 16) 0 = x16
  generalize ss1 x2 = y2
  generalize ss0 x15 = y15
  ac_rfl

attribute [local irreducible] rsAt rsch loadW ldAt

theorem ring_inv (h : W8) (l : List UInt8) : ∀ t, t ≤ 64 → ((ringAt h (loadW l) t).1 = rvAt h (rsch l) t ∧
    ∀ i, i < max t 16 → max t 16 ≤ i + 16 → (ringAt h (loadW l) t).2.getD (i % 16) 0 = (rsch l).getD i 0)
  | 0, _ => by
    refine ⟨rfl, fun i h1 _ => ?_⟩
    have hi : i < 16 := by omega
    rw [ringAt, Nat.mod_eq_of_lt hi, rs_low l i hi]
    exact loadW_word l i hi
  | t + 1, ht => by
    obtain ⟨e, inv⟩ := ring_inv h l t (by omega)
    have hl : (ringAt h (loadW l) t).2.length = 16 := by rw [ringAt_length]; exact loadW_length l
    have key : ∀ i, i < max (t + 1) 16 → max (t + 1) 16 ≤ i + 16 → (ringStep (ringAt h (loadW l) t).2 t).getD (i % 16) 0 = (rsch l).getD i 0 := by
      intro i h1 h2
      unfold ringStep
      by_cases h16 : t < 16
      · rw [if_pos h16]; exact inv i (by omega) (by omega)
      · rw [if_neg h16]
        by_cases hit : i = t
        · subst hit
          have a0 := inv (i - 16) (by omega) (by omega)
          rw [show (i - 16) % 16 = i % 16 by omega] at a0
          rw [getD_set_same _ _ _ (by rw [hl]; omega), a0, inv (i - 15) (by omega) (by omega), inv (i - 2) (by omega) (by omega), inv (i - 7) (by omega) (by omega), ← rs_high l i (by omega) (by omega)]
        · rw [getD_set_other _ _ _ _ (by omega)]
          exact inv i (by omega) (by omega)
    refine ⟨?_, fun i h1 h2 => by rw [ringAt]; exact key i h1 h2⟩
    rw [ringAt, rvAt, ← e, ← key t (by omega) (by omega)]

theorem procW_ref (h : W8) (l : List UInt8) : procW h (loadW l) = h.plus (rvAt h (rsch l) 64) := by
  have e := (ring_inv h l 64 (Nat.le_refl _)).1
  rw [procW, e]
theorem rH_blkW (P : List UInt8) : ∀ j, rH P j = blkW w8init P j
  | 0 => rfl
  | j + 1 => by rw [rH, blkW, rH_blkW P j, procW_ref]; rfl
/-- The reference's sum is the program's. -/
theorem ref_sum (l : List UInt8) : digestL (rH (l ++ padL l.length) ((l ++ padL l.length).length / 64)) = shaL l := by rw [rH_blkW]; rfl

end Go.Proofs.YtloaenknhkfaeaaDoor
