/- Records: the closures put and get. -/
import Derived.Test.YtloaenknhkfaeaaDoorRec3
import Derived.Outline
namespace Go.Proofs.YtloaenknhkfaeaaDoor
open Go.RowKit
set_option linter.unusedVariables false
set_option linter.unusedSimpArgs false

theorem spliceL_snoc (l : List UInt8) (i : Nat) (c : List UInt8) (b : UInt8) (h : i + c.length < l.length) : (spliceL l i c).set (i + c.length) b = spliceL l i (c ++ [b]) := by
  unfold spliceL
  have h1 : (l.take i ++ c).length = i + c.length := by simp; omega
  rw [List.set_append_right (i + c.length) b (by omega), h1, Nat.sub_self, List.drop_eq_getElem_cons h]
  simp only [List.set_cons_zero, List.append_assoc, List.length_append, List.length_cons, List.length_nil, List.cons_append, List.nil_append]
  rfl
theorem beL_take (s n j : Nat) (h : j < s) : (beL s n).take (j + 1) = (beL s n).take j ++ [(n / 256 ^ (s - 1 - j)).toUInt8] := by
  have hj : j < (beL s n).length := by simpa using h
  rw [List.take_succ_eq_append_getElem hj]
  congr 2
  induction s generalizing n j with
  | zero => omega
  | succ s ih =>
    by_cases e : j = s
    · subst e
      have h0 : j + 1 - 1 - j = 0 := by omega
      rw [h0]
      simp [beL]
    · have h1 := ih (n / 256) j (by omega) (by simp; omega)
      have h2 : s + 1 - 1 - j = (s - 1 - j) + 1 := by omega
      rw [h2, Nat.pow_succ']
      simp only [beL]
      rw [List.getElem_append_left (by simp; omega), h1, Nat.div_div_eq_div_mul]
def hdrAt (w : World) (h at_ : Nat) (l : List UInt8) (i : Nat) : Prop := w.heap[h]? = some (.cells (bvs l).toArray 92 (0, 0)) ∧ w.heap[at_]? = some (.cells #[.int .i64 (i : Int)] 3 (0, 0))

theorem hdr_step {w : World} {h at_ k : Nat} {l : List UInt8} {x : UInt8} (hne : h ≠ at_) (hw : hdrAt w h at_ l k) :
    hdrAt (((w.setCell ⟨h, k, none⟩ (bv x)).setCell ⟨at_, 0, none⟩ (.int .i64 ((k : Int) + 1)))).drew h at_ (l.set k x) (k + 1) := by
  have h1 := heap_setCell_same _ h k _ _ (bv x) hw.1
  have h2 := (heap_setCell_other w ⟨h, k, none⟩ at_ (bv x) hne.symm).trans hw.2
  have h3 := heap_setCell_same _ at_ 0 _ _ (.int .i64 ((k : Int) + 1)) h2
  have h4 := (heap_setCell_other (w.setCell ⟨h, k, none⟩ (bv x)) ⟨at_, 0, none⟩ h (.int .i64 ((k : Int) + 1)) hne).trans h1
  refine ⟨h4.trans ?_, h3.trans ?_⟩
  · simp [bvs, List.map_set]
  · simp
set_option maxHeartbeats 1000000 in
theorem put_any (n size i h at_ : Nat) (l : List UInt8) (hn : n < 4611686018427387904) (hs : size ≤ 4) (hi : i + size ≤ 32) (hl : l.length = 32) (hne : h ≠ at_) {w : World} (hw : hdrAt w h at_ l i) :
    Calls Tryd.prog 46 #[.int .i64 (n : Int), .int .i64 (size : Int), .pointer (some ⟨h, 0, none⟩), .pointer (some ⟨at_, 0, none⟩)] w fun e w' =>
      e = .returned (.tuple #[]) ∧ hdrAt w' h at_ (spliceL l i (beL size n)) (i + size) ∧ Chg (fun k => k = h ∨ k = at_) w w' := by
  have HW := Lib.hid hw
  have HL := Lib.hid hl
  have HNE := Lib.hid hne
  clear hw hl hne
  go_enter Tryd.func46, Tryd.ntmps46
  go_wp2_with fail
  go_loopw [6] (fun iv wr => ∃ j : Nat, j ≤ size ∧ iv = .int .i64 ((size : Int) - 1 - (j : Int)) ∧ hdrAt wr h at_ (spliceL l i ((beL size n).take j)) (i + j) ∧ Chg (fun k => k = h ∨ k = at_) w wr)
    (fun iv _ => (intOf iv + 1).toNat)
  case atStart => exact ⟨0, Nat.zero_le _, by simp, by simpa [spliceL] using HW.out, Chg.refl _ _⟩
  case round =>
    obtain ⟨j, hj, rfl, hH, hC⟩ := hrel
    have hat : wr.cell? ⟨at_, 0, none⟩ = some (.int .i64 (i + j : Nat)) := by rw [cell_of_row _ _ _ _ _ _ hH.2]; rfl
    have hatf : wr.frozen? ⟨at_, 0, none⟩ = false := frozen_of_row _ _ _ _ _ hH.2
    by_cases hlt : j < size
    · have hge : (0 : Int) ≤ (size : Int) - 1 - (j : Int) := by omega
      have hij : i + j < 32 := by omega
      have hlen : (spliceL l i ((beL size n).take j)).length = 32 := by rw [spliceL_length _ _ _ (by simp [HL.out]; omega)]; exact HL.out
      have hold : ∃ v, wr.cell? ⟨h, i + j, none⟩ = some v := by
        rw [cell_of_row _ _ _ _ _ _ hH.1, List.getElem?_toArray, bvs_getElem?, List.getElem?_eq_getElem (by omega)]
        exact ⟨_, rfl⟩
      obtain ⟨old, hold⟩ := hold
      have hhf : wr.frozen? ⟨h, i + j, none⟩ = false := frozen_of_row _ _ _ _ _ hH.1
      have hval : Value.int .u8 ((n : Int) / 2 ^ (8 * (size - 1 - j)) % 256) = bv ((n / 256 ^ (size - 1 - j)).toUInt8) := by
        have e : (2 : Int) ^ (8 * (size - 1 - j)) = ((256 ^ (size - 1 - j) : Nat) : Int) := by rw [Int.pow_mul, Int.natCast_pow]; rfl
        rw [e]
        unfold bv
        simp
      have hsp := spliceL_snoc l i ((beL size n).take j) ((n / 256 ^ (size - 1 - j)).toUInt8) (by simp [HL.out]; omega)
      have htl : ((beL size n).take j).length = j := by simp; omega
      rw [htl, ← beL_take size n j hlt] at hsp
      have hne := HNE.out
      have hne2 : at_ ≠ h := fun e => hne e.symm
      have HLEN := Lib.hid hlen
      have HV := Lib.hid hval
      have HSP := Lib.hid hsp
      have HH := Lib.hid hH
      have HC := Lib.hid hC
      clear hlen hval hsp htl hH hC
      go_wp2_with fail
      go_region
      go_wp2_with fail
      go_roundw
      case rel =>
        refine ⟨j + 1, by omega, by go_num, ?_, ?_⟩
        · rw [HV.out, ← HSP.out]
          exact hdr_step HNE.out HH.out
        · exact ((HC.out.trans (Chg.setCell _ _ (.inl rfl)) (fun _ h => .inl h)).trans (Chg.setCell _ _ (.inr rfl)) (fun _ h => .inl h)).drew
      case measure => simp [intOf]; omega
    · obtain rfl : j = size := by omega
      have hge : (j : Int) - 1 - (j : Int) < 0 := by omega
      have ht : (beL j n).take j = beL j n := List.take_of_length_le (by simp)
      rw [ht] at hH
      have HH := Lib.hid hH
      have HC := Lib.hid hC
      clear hH hC ht
      go_wp2_with fail
      go_end0
      exact ⟨rfl, HH.out, HC.out⟩

end Go.Proofs.YtloaenknhkfaeaaDoor
