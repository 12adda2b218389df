/- known of the statements: true, whatever the world. -/
import Derived.Test.YtkklbmnbjmicnaaDisk7
namespace Go.Proofs.Ytkklbmnbjmicnaa
open Go.RowKit
set_option linter.unusedVariables false
set_option linter.unusedSimpArgs false

theorem DiskAt.bound {w : World} {F : Nat → Prop} {b : Nat} {S : DS} (h : DiskAt w F b S) : DiskAt w (fun k => F k ∧ k < w.heap.size) b S := by
  obtain ⟨hok, m, pv, hx⟩ := h
  refine ⟨hok, m, pv, ⟨⟨hx.fb, hx.lt⟩, ⟨hx.fm, hx.hm.lt⟩, fun g hg => ⟨hx.fp g hg, ?_⟩, hx.hb, hx.hm, hx.hp⟩⟩
  rcases hx.hp.2 with ⟨rfl, _⟩ | ⟨g', cap, cur, rfl, _, hh, _⟩
  · cases hg
  · simp [Value.ownBlock] at hg
    subst hg
    exact (Array.getElem?_eq_some_iff.1 hh).1

theorem New_4 (w : World) : Calls Try.prog 13 #[.int .i64 4] w fun e w' => e = .returned (.tuple #[.pointer (some ⟨w.heap.size + 1, 0, none⟩), .int .i64 0]) ∧
      DiskAt w' (fun k => w.heap.size ≤ k) (w.heap.size + 1) (newDS 4) ∧ Below w.heap.size w w' := New_good 4 w (by decide) (by decide)
theorem Bytes_70 (w : World) : Calls Try.prog 22 #[.int .u8 7, .int .u8 0] w fun e w' => ∃ v, e = .returned v ∧ OwnBytes w' (fun k => w.heap.size ≤ k) v (bytesOf 7 0) ∧ Below w.heap.size w w' := Bytes_any 7 0 w

theorem knownPure : (fate zeros (bytesOf 7 0) 8)[31]? = some 7 ∧ (fate zeros (bytesOf 7 0) 8)[32]? = some 0 := by decide

def S1k : DS := ((newDS 4).write 1 (bytesOf 7 0)).1
theorem S1k_eq : (newDS 4).write 1 (bytesOf 7 0) = ({ dur := List.replicate 4 zeros, pend := [(1, bytesOf 7 0)], ops := 1, limit := none, down := false }, 0) := by
  have h := bytesOf_length 7 0
  simp [DS.write, newDS, DS.has, DS.operate, h]
def S3k : DS := { dur := (List.replicate 4 zeros).set 1 (fate zeros (bytesOf 7 0) 8), pend := [], ops := 1, limit := none, down := false }
theorem S3k_eq : DS.restart { S1k with down := true } [8] = (S3k, 0) := by
  unfold S1k
  rw [S1k_eq]
  simp [DS.restart, S3k, rdur, List.getD]
theorem S3k_eq' : DS.restart { dur := List.replicate 4 zeros, pend := [(1, bytesOf 7 0)], ops := 1, limit := none, down := true } [8] = (S3k, 0) := by
  have h := S3k_eq
  unfold S1k at h
  rw [S1k_eq] at h
  exact h
theorem knownNe : ¬ fate zeros (bytesOf 7 0) 8 = [] := fun e => by have := fate_length zeros_length (bytesOf_length 7 0) 8; rw [e] at this; cases this
theorem Read_1 {w : World} {F : Nat → Prop} {b : Nat} {S : DS} (h : DiskAt w F b S) (hlen : S.pend.length < 1000000000000) :
    Calls Try.prog 18 #[.pointer (some ⟨b, 0, none⟩), .int .i64 1] w fun e w' => ∃ v, e = .returned (.tuple #[v, .int .i64 (S.readE 1)]) ∧
      (if S.readB 1 = [] then v = .slice none 0 0 else OwnBytes w' (fun k => w.heap.size ≤ k) v (S.readB 1)) ∧ Below w.heap.size w w' := Read_any 1 h hlen
theorem S3k_read : S3k.readE 1 = 0 ∧ S3k.readB 1 = fate zeros (bytesOf 7 0) 8 := by
  constructor
  · simp [DS.readE, S3k, DS.has]
  · simp [DS.readB, S3k, DS.has, DS.visible, visP]

set_option maxRecDepth 100000 in
set_option maxHeartbeats 2000000 in
theorem known_any (w : World) : Calls Try.prog 12 #[] w fun e w' => e = .returned (.bool true) ∧ Below w.heap.size w w' := by
  go_enter Try.func12, Try.ntmps12
  go_wp2_with (first
    | (go_at_call 13; refine (New_4 w).mono ?_; rintro e w1 ⟨rfl, hD1, hB1⟩)
    | (go_at_call 22; refine (Bytes_70 w1).mono ?_; rintro e w2 ⟨v, rfl, hO2, hB2⟩))
  have hD2 := (hD1.bound).below hB2
  clear hD1
  refine (Write_any 1 v (bytesOf 7 0) hD2 hO2.bytes (fun k h1 h2 => by omega) (by simp [newDS]) (by simp [newDS]) (by simp [newDS]) (by rw [bytesOf_length]; decide)).mono ?_
  rw [S1k_eq]
  rintro e w3 ⟨rfl, hD3, hC3⟩
  have hb3 : Below w.heap.size w w3 := (hB1.trans (hB2.mono hB1.size)).trans (hC3.below (fun k h => h.1) (Nat.le_trans hB1.size hB2.size))
  clear hD2 hC3
  go_wp2_with fail
  refine (Fail_any hD3.bound).mono ?_
  rintro e w4 ⟨rfl, hD4, hC4⟩
  have hb4 : Below w.heap.size w w4 := hb3.trans (hC4.below (fun k h => by rcases h.1 with h | h; exact h.1; have := hB1.size; have := hB2.size; omega) hb3.size)
  clear hC4 hb3 hD3
  go_wp2_with fail
  obtain ⟨w5, hw5⟩ : ∃ w5, w4.alloc (.cells #[.int .u8 8] 5) = w5 := ⟨_, rfl⟩
  have hb45 : Below w4.heap.size w4 w5 := hw5 ▸ (Below.refl _ _).alloc (Nat.le_refl _) _
  have hB8 : BytesAt w5 (fun k => k = w4.heap.size) (.slice (some ⟨w4.heap.size, 0, none⟩) 1 1) [8] := by
    have : OwnBytes w5 (fun k => k = w4.heap.size) (.slice (some ⟨w4.heap.size, 0, none⟩) 1 1) [8] := ⟨w4.heap.size, 5, rfl, rfl, by rw [← hw5]; exact heap_alloc_new _ _⟩
    exact this.bytes
  have hD5 := hD4.bound.below hb45
  rw [hw5]
  have hb5 : Below w.heap.size w w5 := hb4.trans (hb45.mono hb4.size)
  clear hw5 hD4
  refine (Restart_any _ [8] hD5 hB8 (fun k h1 h2 => by omega) (by decide) (by decide)).mono ?_
  rw [S3k_eq']
  rintro e w6 ⟨rfl, hD6, hC6⟩
  have hb6 : Below w.heap.size w w6 := hb5.trans (hC6.below (fun k h => by rcases h.1.1 with h | h; exact h.1; have := hB1.size; have := hB2.size; omega) hb5.size)
  clear hC6 hD5 hB8
  go_wp2_with fail
  refine (Read_1 hD6 (by decide)).mono ?_
  rw [S3k_read.1, S3k_read.2]
  rintro e w7 ⟨v7, rfl, hv7, hb7⟩
  rw [if_neg knownNe] at hv7
  obtain ⟨g, T, rfl, hg, hh⟩ := hv7
  have h31 : w7.cell? ⟨g, 31, none⟩ = some (.int .u8 7) := by rw [cell_of_row w7 _ _ _ _ _ hh, List.getElem?_toArray, bvs_getElem?, knownPure.1]; rfl
  have h32 : w7.cell? ⟨g, 32, none⟩ = some (.int .u8 0) := by rw [cell_of_row w7 _ _ _ _ _ hh, List.getElem?_toArray, bvs_getElem?, knownPure.2]; rfl
  rw [fate_length zeros_length (bytesOf_length 7 0)]
  have hb7' : Below w.heap.size w w7 := hb6.trans (hb7.mono hb6.size)
  clear hh hD6 hb7 hb6 hb5 hb45 hb4 hB1 hB2 hO2
  go_wp2_with fail
  go_ret
  exact ⟨rfl, hb7'⟩

end Go.Proofs.Ytkklbmnbjmicnaa
