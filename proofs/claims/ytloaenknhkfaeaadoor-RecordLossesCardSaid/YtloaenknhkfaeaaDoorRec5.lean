/- Records: the closure get. -/
import Derived.Test.YtloaenknhkfaeaaDoorRec4
import Derived.Outline
namespace Go.Proofs.YtloaenknhkfaeaaDoor
open Go.RowKit
set_option linter.unusedVariables false
set_option linter.unusedSimpArgs false

theorem seg_succ (l : List UInt8) (i j : Nat) (h : i + j < l.length) : valN (seg l i (j + 1)) = valN (seg l i j) * 256 + (l[i + j]).toNat := by
  unfold seg
  rw [List.take_succ_eq_append_getElem (by simp; omega), valN_snoc, List.getElem_drop]

theorem or_low (V X : Nat) (h : X < 256) : V * 256 ||| X = V * 256 + X := by
  have := Nat.two_pow_add_eq_or_of_lt (i := 8) (b := X) h V
  rw [Nat.mul_comm] at this
  exact this.symm
theorem bits_or_i64 (V X : Nat) (hV : V < 256 ^ 3) (hX : X < 256) : bits .or .i64 ((V : Int) * 256) (X : Int) = ((V * 256 + X : Nat) : Int) := by
  have e : (V : Int) * 256 = ((V * 256 : Nat) : Int) := by simp
  rw [e]
  have h1 : (BitVec.ofInt 64 ((V * 256 : Nat) : Int)).toNat = V * 256 := by
    rw [BitVec.ofInt_natCast, BitVec.toNat_ofNat]; exact Nat.mod_eq_of_lt (by omega)
  have h2 : (BitVec.ofInt 64 (X : Int)).toNat = X := by
    rw [BitVec.ofInt_natCast, BitVec.toNat_ofNat]; exact Nat.mod_eq_of_lt (by omega)
  show IntKind.i64.wrap ((BitVec.ofInt 64 ((V * 256 : Nat) : Int) ||| BitVec.ofInt 64 (X : Int)).toNat : Int) = _
  rw [BitVec.toNat_or, h1, h2, or_low V X hX]
  exact IntWalk.i64_in _ (by omega)

set_option maxHeartbeats 1000000 in
theorem get_any (size i pb at_ : Nat) (l : List UInt8) (cap g off : Nat) (hs : size ≤ 4) (hi : i + size ≤ l.length) (hl : l.length ≤ 1000) {w : World} (hb : BytesAt w (fun k => k ≠ at_) (.slice (some ⟨g, off, none⟩) l.length cap) l)
    (hp : w.cell? ⟨pb, 0, none⟩ = some (.slice (some ⟨g, off, none⟩) l.length cap)) (hne : pb ≠ at_) (ha : w.heap[at_]? = some (.cells #[.int .i64 (i : Int)] 3 (0, 0))) :
    Calls Tryd.prog 52 #[.int .i64 (size : Int), .pointer (some ⟨pb, 0, none⟩), .pointer (some ⟨at_, 0, none⟩)] w fun e w' =>
      e = .returned (.int .i64 (valN (seg l i size) : Int)) ∧ w'.heap[at_]? = some (.cells #[.int .i64 ((i + size : Nat) : Int)] 3 (0, 0)) ∧ Chg (fun k => k = at_) w w' := by
  obtain ⟨N, hN⟩ : ∃ N, l.length = N := ⟨_, rfl⟩
  rw [hN] at hb hi hl hp
  have HN := Lib.hid hN
  have HB := Lib.hid hb
  have HP := Lib.hid hp
  have HNE := Lib.hid hne
  have HA := Lib.hid ha
  clear hN hb hp hne ha
  go_enter Tryd.func52, Tryd.ntmps52
  go_wp2_with fail
  go_loopw [5, 7] (fun nv kv wr => ∃ j : Nat, j ≤ size ∧ kv = .int .i64 (j : Int) ∧ nv = .int .i64 (valN (seg l i j) : Int) ∧ wr.heap[at_]? = some (.cells #[.int .i64 ((i + j : Nat) : Int)] 3 (0, 0)) ∧ Chg (fun k => k = at_) w wr)
    (fun _ kv _ => size - (intOf kv).toNat)
  case atStart => exact ⟨0, Nat.zero_le _, rfl, by simp [seg, valN], HA.out, Chg.refl _ _⟩
  case round =>
    obtain ⟨j, hj, rfl, rfl, hA, hC⟩ := hrel
    have hat : wr.cell? ⟨at_, 0, none⟩ = some (.int .i64 (i + j : Nat)) := by rw [cell_of_row _ _ _ _ _ _ hA]; rfl
    have hatf : wr.frozen? ⟨at_, 0, none⟩ = false := frozen_of_row _ _ _ _ _ hA
    have hpw : wr.cell? ⟨pb, 0, none⟩ = some (.slice (some ⟨g, off, none⟩) N cap) := hC.cell HNE.out HP.out
    by_cases hlt : j < size
    · have hij : i + j < l.length := by rw [HN.out]; omega
      have hbw := HB.out.kept hC (fun _ h => h)
      rw [← HN.out] at hbw
      obtain ⟨g', off', e, hc⟩ := hbw.get (i := i + j) hij
      cases e
      have hijN : i + j < N := by omega
      have hsp := seg_succ l i j hij
      have hv := valN_lt (seg l i j)
      have hle : (seg l i j).length ≤ 3 := by simp [seg]; omega
      have hv2 : valN (seg l i j) < 256 ^ 3 := Nat.lt_of_lt_of_le hv (Nat.pow_le_pow_right (by decide) hle)
      obtain ⟨V, hV⟩ : ∃ V, valN (seg l i j) = V := ⟨_, rfl⟩
      have hx : l[i + j].toNat < 256 := UInt8.toNat_lt _
      obtain ⟨X, hX⟩ : ∃ X, l[i + j].toNat = X := ⟨_, rfl⟩
      rw [hV] at hsp hv2 ⊢
      rw [hX] at hsp hx hc
      have HSP := Lib.hid hsp
      have HC := Lib.hid hC
      have HAA := Lib.hid hA
      clear hsp hv hle hV hX hC hA hbw hij
      go_wp2_with fail
      go_roundw
      case rel =>
        refine ⟨j + 1, by omega, by go_num, ?_, ?_, HC.out.trans (Chg.setCell (F := fun k => k = at_) _ _ rfl) (fun _ h => .inl h)⟩
        · rw [bits_or_i64 V X hv2 hx, HSP.out]
        · exact (heap_setCell_same _ at_ 0 _ _ (.int .i64 ((i : Int) + (j : Int) + 1)) HAA.out).trans (by simp; omega)
      case measure => simp [intOf]; omega
    · obtain rfl : j = size := by omega
      have HC := Lib.hid hC
      have HAA := Lib.hid hA
      clear hC hA
      go_wp2_with fail
      go_ret
      exact ⟨rfl, HAA.out, HC.out⟩

end Go.Proofs.YtloaenknhkfaeaaDoor
