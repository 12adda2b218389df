/- Bytes, Fail, SetLimit of the device. -/
import Derived.Test.YtkklbmnbjmicnaaDisk1
namespace Go.Proofs.Ytkklbmnbjmicnaa
open Go.RowKit
set_option linter.unusedVariables false
set_option linter.unusedSimpArgs false

def byteAt (first step : UInt8) (i : Nat) : UInt8 := first + UInt8.ofNat i * step
def bytesOf (first step : UInt8) : List UInt8 := (List.range 256).map (byteAt first step)
theorem bytesOf_length (first step : UInt8) : (bytesOf first step).length = 256 := by simp [bytesOf]

/-- The slice value v holds the bytes l in a block of its own, which is in F. -/
def OwnBytes (w : World) (F : Nat → Prop) (v : Value) (l : List UInt8) : Prop :=
  ∃ g T, v = .slice (some ⟨g, 0, none⟩) l.length l.length ∧ F g ∧ w.heap[g]? = some (.cells (bvs l).toArray T (0, 0))

/-- The slice value v reads as the bytes l; where there are any, they lie in a block of F. -/
def BytesAt (w : World) (F : Nat → Prop) (v : Value) (l : List UInt8) : Prop :=
  ∃ a cap, v = .slice a l.length cap ∧ l.length ≤ cap ∧ (l ≠ [] → ∃ g off, a = some ⟨g, off, none⟩ ∧ F g ∧ g < w.heap.size ∧ w.rangeAt g off (bvs l))

theorem OwnBytes.bytes {w : World} {F : Nat → Prop} {v : Value} {l : List UInt8} (h : OwnBytes w F v l) : BytesAt w F v l := by
  obtain ⟨g, T, rfl, hF, hg⟩ := h
  refine ⟨_, _, rfl, Nat.le_refl _, fun _ => ⟨g, 0, rfl, hF, (Array.getElem?_eq_some_iff.1 hg).1, fun j u hu => ?_⟩⟩
  rw [cell_of_row w _ _ _ _ _ hg]
  simpa using hu
theorem OwnBytes.kept {w w' : World} {F G : Nat → Prop} {v : Value} {l : List UInt8} (h : OwnBytes w F v l) (hc : Chg G w w') (hd : ∀ k, F k → ¬ G k) : OwnBytes w' F v l := by
  obtain ⟨g, T, rfl, hF, hg⟩ := h
  exact ⟨g, T, rfl, hF, (hc.block g (Array.getElem?_eq_some_iff.1 hg).1 (hd g hF)).trans hg⟩
theorem BytesAt.kept {w w' : World} {F G : Nat → Prop} {v : Value} {l : List UInt8} (h : BytesAt w F v l) (hc : Chg G w w') (hd : ∀ k, F k → ¬ G k) : BytesAt w' F v l := by
  obtain ⟨a, cap, rfl, hcap, hr⟩ := h
  refine ⟨a, cap, rfl, hcap, fun hl => ?_⟩
  obtain ⟨g, off, rfl, hF, hg, hr⟩ := hr hl
  exact ⟨g, off, rfl, hF, Nat.lt_of_lt_of_le hg hc.size, fun j u hu => hc.cell (p := ⟨g, off + j, none⟩) (hd g hF) (hr j u hu)⟩
theorem BytesAt.mono {w : World} {F G : Nat → Prop} {v : Value} {l : List UInt8} (h : BytesAt w F v l) (hFG : ∀ k, F k → G k) : BytesAt w G v l := by
  obtain ⟨a, cap, rfl, hcap, hr⟩ := h
  refine ⟨a, cap, rfl, hcap, fun hl => ?_⟩
  obtain ⟨g, off, rfl, hF, hg, hr⟩ := hr hl
  exact ⟨g, off, rfl, hFG g hF, hg, hr⟩
theorem bytesAt_nil (w : World) (F : Nat → Prop) : BytesAt w F (.slice none 0 0) [] := ⟨none, 0, rfl, Nat.le_refl _, fun h => absurd rfl h⟩

def rowB (first step : UInt8) (k : Nat) : List UInt8 := (bytesOf first step).take k ++ zeros.drop k

theorem bv_byteAt (first step : UInt8) (k : Nat) : Value.int .u8 (((first.toNat : Int) + (k : Int) * (step.toNat : Int)) % 256) = bv (byteAt first step k) := by
  unfold bv byteAt
  congr 1
  simp only [UInt8.toNat_add, UInt8.toNat_mul, UInt8.toNat_ofNat']
  have e : (first.toNat + k * step.toNat) % 256 = (first.toNat + k % 2 ^ 8 * step.toNat % 2 ^ 8) % 2 ^ 8 := by
    simp [Nat.add_mod, Nat.mul_mod]
  rw [← e]
  omega

theorem rowB_length (first step : UInt8) {k : Nat} (hk : k ≤ 256) : (rowB first step k).length = 256 := by
  simp only [rowB, List.length_append, List.length_take, List.length_drop, bytesOf_length, zeros_length]
  omega
theorem rowB_succ (first step : UInt8) {k : Nat} (hk : k < 256) : (bvs (rowB first step k)).toArray.setIfInBounds k (bv (byteAt first step k)) = (bvs (rowB first step (k + 1))).toArray := by
  apply Array.ext'
  simp only [Array.toList_setIfInBounds]
  apply List.ext_getElem?
  intro i
  have h1 := rowB_length first step (k := k) (by omega)
  have h2 := rowB_length first step (k := k + 1) (by omega)
  have hb := bytesOf_length first step
  have hz := zeros_length
  rw [List.getElem?_set]
  simp only [bvs_length, h1]
  by_cases hik : k = i
  · subst hik
    rw [if_pos rfl, if_pos (by omega), bvs_getElem?]
    have : (rowB first step (k + 1))[k]? = some (byteAt first step k) := by
      unfold rowB
      rw [List.getElem?_append_left (by simp [hb]; omega), List.getElem?_take, if_pos (by omega)]
      simp [bytesOf, hk]
    rw [this]
    rfl
  · rw [if_neg hik, bvs_getElem?, bvs_getElem?]
    congr 1
    unfold rowB
    rw [List.getElem?_append, List.getElem?_append]
    simp only [List.length_take, hb, List.getElem?_take, List.getElem?_drop]
    by_cases hi : i < k
    · rw [if_pos (by omega), if_pos hi, if_pos (by omega), if_pos (by omega)]
    · rw [if_neg (by omega), if_neg (by omega)]
      congr 1
      omega
theorem rowB_end (first step : UInt8) : rowB first step 256 = bytesOf first step := by
  unfold rowB
  rw [List.take_of_length_le (Nat.le_of_eq (bytesOf_length _ _)), List.drop_eq_nil_of_le (Nat.le_of_eq zeros_length)]
  simp

theorem make256 : ∀ w, (Instr.makeSlice 30 (.int .i64 256) (.int .i64 256)).run Try.prog w = .ok (.slice (some ⟨w.heap.size, 0, none⟩) 256 256) (w.alloc (.cells (bvs zeros).toArray 5)) := fun _ => by kernel_rfl

set_option maxRecDepth 100000 in
set_option maxHeartbeats 1000000 in
theorem Bytes_any (first step : UInt8) (w : World) :
    Calls Try.prog 22 #[bv first, bv step] w fun e w' => ∃ v, e = .returned v ∧ OwnBytes w' (fun k => w.heap.size ≤ k) v (bytesOf first step) ∧ Below w.heap.size w w' := by
  have hmk := make256
  unfold bv
  go_enter Try.func22, Try.ntmps22
  go_wp2
  go_loopw [6] (fun i wr => ∃ k : Nat, k ≤ 256 ∧ i = .int .i64 k ∧ wr.heap[w.heap.size]? = some (.cells (bvs (rowB first step k)).toArray 5 (0, 0)) ∧ Below w.heap.size w wr)
    (fun i _ => 256 - (intOf i).toNat)
  case atStart => exact ⟨0, by omega, rfl, heap_alloc_new _ _, (Below.refl _ _).alloc (Nat.le_refl _) _⟩
  case round =>
    obtain ⟨k, hk, rfl, hh, hb⟩ := hrel
    have hfr : wr.frozen? ⟨w.heap.size, k, none⟩ = false := frozen_of_row wr _ _ _ _ hh
    have hcl : k < 256 → ∃ v, wr.cell? ⟨w.heap.size, k, none⟩ = some v := fun hlt => by
      rw [cell_of_row wr _ _ _ _ _ hh]
      exact ⟨_, Array.getElem?_eq_getElem (by simp [rowB, bytesOf_length, zeros_length]; omega)⟩
    by_cases hlt : k < 256
    · obtain ⟨v0, hv0⟩ := hcl hlt
      have HH := Lib.hid hh
      clear hh hcl
      go_wp2
      go_roundw
      case rel =>
        refine ⟨k + 1, by omega, by go_num, ?_, hb.setCell (Nat.le_refl _) _⟩
        rw [heap_setCell_same _ _ _ _ _ _ HH.out, bv_byteAt, rowB_succ first step hlt]
      case measure => simp [intOf]; omega
    · obtain rfl : k = 256 := by omega
      have HH := Lib.hid hh
      clear hh hcl
      go_wp2
      go_ret
      refine ⟨_, rfl, ⟨w.heap.size, 5, by simp [bytesOf_length], Nat.le_refl _, ?_⟩, hb⟩
      rw [HH.out, rowB_end]

set_option maxHeartbeats 400000 in
theorem Fail_any {w : World} {F : Nat → Prop} {b : Nat} {S : DS} (h : DiskAt w F b S) :
    Calls Try.prog 25 #[.pointer (some ⟨b, 0, none⟩)] w fun e w' => e = .returned (.tuple #[]) ∧ DiskAt w' F b { S with down := true } ∧ Chg F w w' := by
  obtain ⟨hok, m, pv, hx⟩ := h
  obtain ⟨c0, c1, c2, c3, c4, c5, c6, f⟩ := hx.cells
  have fb := hx.fb
  have HX := Lib.hid hx
  have HO := Lib.hid hok
  clear hx hok
  go_enter Try.func25, Try.ntmps25
  go_wp2
  go_end0
  have hx := HX.out
  have hok := HO.out
  refine ⟨rfl, ⟨⟨hok.dur, hok.pend, hok.most⟩, m, pv, hx.step (grownBy_setCell w b 6 _) rfl rfl ?_⟩, Chg.setCell w _ fb⟩
  rw [heap_set7 6 _ hx.hb]; simp [dcells]

def DS.setLimit (S : DS) (n : Int) : DS := { S with limit := if 0 ≤ n then some n.toNat else none }

set_option maxHeartbeats 400000 in
theorem SetLimit_any {w : World} {F : Nat → Prop} {b : Nat} {S : DS} (n : Int) (h : DiskAt w F b S) :
    Calls Try.prog 19 #[.pointer (some ⟨b, 0, none⟩), .int .i64 n] w fun e w' => e = .returned (.tuple #[]) ∧ DiskAt w' F b (S.setLimit n) ∧ Chg F w w' := by
  obtain ⟨hok, m, pv, hx⟩ := h
  obtain ⟨c0, c1, c2, c3, c4, c5, c6, f⟩ := hx.cells
  have fb := hx.fb
  have HX := Lib.hid hx
  have HO := Lib.hid hok
  clear hx hok
  by_cases hn : 0 ≤ n
  · go_enter Try.func19, Try.ntmps19
    go_wp2
    go_end0
    have hx := HX.out
    have hok := HO.out
    refine ⟨rfl, ⟨⟨hok.dur, hok.pend, hok.most⟩, m, pv, hx.step (grownBy_trans (grownBy_setCell w b 4 _) (grownBy_setCell _ b 5 _)) rfl rfl ?_⟩, (Chg.setCell w _ fb).trans (Chg.setCell (F := F) _ _ fb) (fun _ h => .inl h)⟩
    rw [heap_setCell_same _ b 5 _ _ _ (heap_set7 4 _ hx.hb)]; simp [dcells, DS.setLimit, hn]; omega
  · go_enter Try.func19, Try.ntmps19
    go_wp2
    go_end0
    have hx := HX.out
    have hok := HO.out
    refine ⟨rfl, ⟨⟨hok.dur, hok.pend, hok.most⟩, m, pv, hx.step (grownBy_trans (grownBy_setCell w b 4 _) (grownBy_setCell _ b 5 _)) rfl rfl ?_⟩, (Chg.setCell w _ fb).trans (Chg.setCell (F := F) _ _ fb) (fun _ h => .inl h)⟩
    have hn' : ¬ 0 ≤ n := by omega
    rw [heap_setCell_same _ b 5 _ _ _ (heap_set7 4 _ hx.hb)]; simp [dcells, DS.setLimit, hn']

end Go.Proofs.Ytkklbmnbjmicnaa
