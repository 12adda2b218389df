/- The device of package disk in memory (DiskAt), what its small methods do, as pure functions on an abstract state (DS); Bytes, Fail, SetLimit of the device; slices.Backward over the pending writes, and (*Disk).visible; (*Disk).Read, (*Disk).Write; (*Disk).Write whole; Restart; Flush; The three fates of a pending write (closures of (*Disk).Restart). -/
import Derived.Test.YtplclpileejemaaDoorProg
import Derived.Test.YtplclpileejemaaDoorJB1
import Derived.RangeFuncNested
import Derived.RangeFuncBound
import Derived.RangeFuncCalls
import Derived.RangeFuncLeaves
import Derived.RangeFuncBox
import Derived.Shelf.Abstract
import Derived.Shelf.RegionOpen
import Derived.Deep.WholeRow
import Derived.Laws.CopyOwn
import Derived.OwnWalkIn
import Derived.TacticsInMore
import Derived.LoopNIn
import Derived.LoopIn
import Derived.Deep.RegionHeld3
import Derived.Deep.AppendLies
import Derived.Great.FillDense
import Derived.Great.BuildSlice
namespace Go.Proofs.YtplclpileejemaaDoor
open Go.RowKit
set_option linter.unusedVariables false
set_option linter.unusedSimpArgs false

def zeros : List UInt8 := List.replicate 256 0
theorem zeros_length : zeros.length = 256 := List.length_replicate

/-- The abstract state of a device: durable contents, pending writes, number of operations, limit, whether the power has failed. -/
structure DS where
  dur : List (List UInt8)
  pend : List (Nat × List UInt8)
  ops : Nat
  limit : Option Nat
  down : Bool

structure DS.ok (S : DS) : Prop where
  dur : ∀ x ∈ S.dur, x.length = 256
  pend : ∀ x ∈ S.pend, x.1 < S.dur.length ∧ x.2.length = 256
  most : S.dur.length ≤ 4096

def wcells (x : Nat × List UInt8) : List Value := .int .i64 (x.1 : Int) :: bvs x.2
def prow (l : List (Nat × List UInt8)) : List Value := l.flatMap wcells

def dcells (S : DS) (m : Nat) (pv : Value) : Array Value :=
  #[.int .i64 (S.dur.length : Int), .map (some m), pv, .int .i64 (S.ops : Int), .bool S.limit.isSome, .int .i64 ((S.limit.getD 0 : Nat) : Int), .bool S.down]

structure DiskX (w : World) (F : Nat → Prop) (b m : Nat) (pv : Value) (S : DS) : Prop where
  fb : F b
  fm : F m
  fp : ∀ g, pv.ownBlock = some g → F g
  hb : w.heap[b]? = some (.cells (dcells S m pv) 73 (0, 0))
  hm : MapIs w m S.dur.length zeros (fun i => S.dur.getD i zeros)
  hp : w.ownsRow 0 94 257 pv S.pend.length (prow S.pend)

/-- Block b of w is a device in state S; all its blocks are in F. -/
structure DiskAt (w : World) (F : Nat → Prop) (b : Nat) (S : DS) : Prop where
  ok : S.ok
  ex : ∃ m pv, DiskX w F b m pv S

section
variable {w w' : World} {F : Nat → Prop} {b m : Nat} {pv : Value} {S S' : DS}

theorem DiskX.lt (h : DiskX w F b m pv S) : b < w.heap.size := (Array.getElem?_eq_some_iff.1 h.hb).1
theorem DiskX.mb (h : DiskX w F b m pv S) : m ≠ b := by
  intro e
  obtain ⟨es, clock, L, hm, _⟩ := h.hm.ex
  rw [e, h.hb] at hm
  cases hm
theorem DiskX.pb (h : DiskX w F b m pv S) : pv.ownBlock ≠ some b := by
  intro e
  rcases h.hp.2 with ⟨rfl, _⟩ | ⟨g, cap, cur, rfl, _, hg, _⟩
  · cases e
  · simp [Value.ownBlock] at e
    rw [e, h.hb] at hg
    simp at hg
theorem DiskX.pm (h : DiskX w F b m pv S) : pv.ownBlock ≠ some m := by
  intro e
  obtain ⟨es, clock, L, hm, _⟩ := h.hm.ex
  rcases h.hp.2 with ⟨rfl, _⟩ | ⟨g, cap, cur, rfl, _, hg, _⟩
  · cases e
  · simp [Value.ownBlock] at e
    rw [e, hm] at hg
    cases hg

/-- Only the struct's own cells have changed. -/
theorem DiskX.step (h : DiskX w F b m pv S) (hg : w.grownBy w' (some b)) (hdur : S'.dur = S.dur) (hpend : S'.pend = S.pend)
    (hb : w'.heap[b]? = some (.cells (dcells S' m pv) 73 (0, 0))) : DiskX w' F b m pv S' :=
  ⟨h.fb, h.fm, h.fp, hb, by rw [hdur]; exact h.hm.kept (hg.block m h.hm.lt (by simp [h.mb])), by rw [hpend]; exact h.hp.kept hg (.inr h.pb)⟩

/-- What is not in F may change. -/
theorem DiskX.chg {G : Nat → Prop} (h : DiskX w F b m pv S) (hc : Chg G w w') (hd : ∀ k, F k → ¬ G k) : DiskX w' F b m pv S := by
  refine ⟨h.fb, h.fm, h.fp, (hc.block b h.lt (hd b h.fb)).trans h.hb, h.hm.kept (hc.block m h.hm.lt (hd m h.fm)), ?_⟩
  refine ⟨h.hp.1, ?_⟩
  rcases h.hp.2 with hn | ⟨g, cap, cur, rfl, hbg, hg, rest⟩
  · exact .inl hn
  · exact .inr ⟨g, cap, cur, rfl, hbg, (hc.block g (Array.getElem?_eq_some_iff.1 hg).1 (hd g (h.fp g rfl))).trans hg, rest⟩

theorem DiskAt.chg {G : Nat → Prop} (h : DiskAt w F b S) (hc : Chg G w w') (hd : ∀ k, F k → ¬ G k) : DiskAt w' F b S := by
  obtain ⟨hok, m, pv, hx⟩ := h
  exact ⟨hok, m, pv, hx.chg hc hd⟩
theorem DiskAt.below (h : DiskAt w F b S) (hc : Below w.heap.size w w') : DiskAt w' F b S :=
  h.chg (G := fun _ => False) (Chg.of_below hc) (fun _ _ h => h)
theorem DiskAt.mono {G : Nat → Prop} (h : DiskAt w F b S) (hFG : ∀ k, F k → G k) : DiskAt w G b S := by
  obtain ⟨hok, m, pv, hx⟩ := h
  exact ⟨hok, m, pv, ⟨hFG _ hx.fb, hFG _ hx.fm, fun g hg => hFG _ (hx.fp g hg), hx.hb, hx.hm, hx.hp⟩⟩

theorem cells_of {x0 x1 x2 x3 x4 x5 x6 : Value} {T : TypeId} (h : w.heap[b]? = some (.cells #[x0, x1, x2, x3, x4, x5, x6] T (0, 0))) :
    w.cell? ⟨b, 0, none⟩ = some x0 ∧ w.cell? ⟨b, 1, none⟩ = some x1 ∧ w.cell? ⟨b, 2, none⟩ = some x2 ∧ w.cell? ⟨b, 3, none⟩ = some x3 ∧ w.cell? ⟨b, 4, none⟩ = some x4 ∧ w.cell? ⟨b, 5, none⟩ = some x5 ∧
      w.cell? ⟨b, 6, none⟩ = some x6 ∧ ∀ i, w.frozen? ⟨b, i, none⟩ = false := by
  simp [World.cell?, World.frozen?, h]
theorem DiskX.cells (h : DiskX w F b m pv S) :
    w.cell? ⟨b, 0, none⟩ = some (.int .i64 (S.dur.length : Int)) ∧ w.cell? ⟨b, 1, none⟩ = some (.map (some m)) ∧ w.cell? ⟨b, 2, none⟩ = some pv ∧ w.cell? ⟨b, 3, none⟩ = some (.int .i64 (S.ops : Int)) ∧
      w.cell? ⟨b, 4, none⟩ = some (.bool S.limit.isSome) ∧ w.cell? ⟨b, 5, none⟩ = some (.int .i64 ((S.limit.getD 0 : Nat) : Int)) ∧
      w.cell? ⟨b, 6, none⟩ = some (.bool S.down) ∧ ∀ i, w.frozen? ⟨b, i, none⟩ = false := cells_of h.hb
end

/-! ### the small methods -/
def DS.operate (S : DS) : DS × Bool :=
  match S.limit with
  | some 0 => ({ S with down := true }, false)
  | some (k + 1) => ({ S with limit := some k, ops := S.ops + 1 }, true)
  | none => ({ S with ops := S.ops + 1 }, true)
def DS.has (S : DS) (s : Int) : Bool := decide (0 ≤ s ∧ s < S.dur.length)

set_option maxHeartbeats 400000 in
theorem New_bad (n : Int) (w : World) (h : n < 1 ∨ 4096 < n) :
    Calls Tryd.prog 11 #[.int .i64 n] w fun e w' => e = .returned (.tuple #[.pointer none, .int .i64 2]) ∧ w' = w := by
  rcases h with h | h
  · go_enter Tryd.func11, Tryd.ntmps11
    go_wp2
    go_ret2
    exact ⟨rfl, rfl⟩
  · have h1 : ¬ n < 1 := by omega
    go_enter Tryd.func11, Tryd.ntmps11
    go_wp2
    go_ret2
    exact ⟨rfl, rfl⟩

def newDS (n : Nat) : DS := { dur := List.replicate n zeros, pend := [], ops := 0, limit := none, down := false }

set_option maxHeartbeats 400000 in
theorem New_good0 (n : Int) (w : World) (h1 : ¬ n < 1) (h2 : ¬ 4096 < n) :
    Calls Tryd.prog 11 #[.int .i64 n] w fun e w' => e = .returned (.tuple #[.pointer (some ⟨w.heap.size + 1, 0, none⟩), .int .i64 0]) ∧
      w' = (w.alloc (.map #[] 0)).alloc (.cells #[.int .i64 n, .map (some w.heap.size), .slice none 0 0, .int .i64 0, .bool false, .int .i64 0, .bool false] 73) := by
  have hmm := @run_makeMap Tryd.prog
  go_enter Tryd.func11, Tryd.ntmps11
  go_wp2
  go_ret2
  exact ⟨rfl, rfl⟩

theorem newDS_ok (n : Nat) (h2 : n ≤ 4096) : (newDS n).ok :=
  ⟨fun x hx => by rw [(List.mem_replicate.1 hx).2]; exact zeros_length, fun x hx => by simp [newDS] at hx, by simpa [newDS] using h2⟩

theorem New_good (n : Nat) (w : World) (h1 : 1 ≤ n) (h2 : n ≤ 4096) :
    Calls Tryd.prog 11 #[.int .i64 (n : Int)] w fun e w' => e = .returned (.tuple #[.pointer (some ⟨w.heap.size + 1, 0, none⟩), .int .i64 0]) ∧
      DiskAt w' (fun k => w.heap.size ≤ k) (w.heap.size + 1) (newDS n) ∧ Below w.heap.size w w' := by
  refine (New_good0 n w (by omega) (by omega)).mono ?_
  rintro e w' ⟨rfl, rfl⟩
  refine ⟨rfl, ⟨newDS_ok n h2, w.heap.size, .slice none 0 0, by simp, by simp, by simp [Value.ownBlock], ?_, ?_, World.ownsRow_nil _ _ _ _⟩, ((Below.refl _ _).alloc (Nat.le_refl _) _).alloc (by simp) _⟩
  · rw [heap_alloc2_new]
    simp [dcells, newDS]
  · refine ⟨#[], 0, [], heap_alloc2_old _ _ _, ⟨by simp, by simp⟩, by simp, ?_, stamped_empty⟩
    intro i hi
    simp [newDS] at hi
    simp [newDS, assoc, List.getD, hi]

set_option maxHeartbeats 400000 in
theorem Sectors_any {w : World} {F : Nat → Prop} {b : Nat} {S : DS} (h : DiskAt w F b S) :
    Calls Tryd.prog 53 #[.pointer (some ⟨b, 0, none⟩)] w fun e w' => e = .returned (.int .i64 (S.dur.length : Int)) ∧ w = w' := by
  obtain ⟨hok, m, pv, hx⟩ := h
  obtain ⟨c0, c1, c2, c3, c4, c5, c6, f⟩ := hx.cells
  clear hx
  go_enter Tryd.func53, Tryd.ntmps53
  go_wp2
  go_ret
  exact ⟨rfl, rfl⟩

set_option maxHeartbeats 400000 in
theorem Down_any {w : World} {F : Nat → Prop} {b : Nat} {S : DS} (h : DiskAt w F b S) :
    Calls Tryd.prog 54 #[.pointer (some ⟨b, 0, none⟩)] w fun e w' => e = .returned (.bool S.down) ∧ w = w' := by
  obtain ⟨hok, m, pv, hx⟩ := h
  obtain ⟨c0, c1, c2, c3, c4, c5, c6, f⟩ := hx.cells
  clear hx
  go_enter Tryd.func54, Tryd.ntmps54
  go_wp2
  all_goals
    go_ret
    exact ⟨rfl, rfl⟩

set_option maxHeartbeats 400000 in
theorem has_any {w : World} {F : Nat → Prop} {b : Nat} {S : DS} (s : Int) (h : DiskAt w F b S) :
    Calls Tryd.prog 46 #[.pointer (some ⟨b, 0, none⟩), .int .i64 s] w fun e w' => e = .returned (.bool (S.has s)) ∧ w = w' := by
  obtain ⟨hok, m, pv, hx⟩ := h
  obtain ⟨c0, c1, c2, c3, c4, c5, c6, f⟩ := hx.cells
  clear hx
  unfold DS.has
  by_cases h1 : 0 ≤ s
  · by_cases h2 : s < (S.dur.length : Int)
    · go_enter Tryd.func46, Tryd.ntmps46
      go_wp2
      go_ret
      exact ⟨by simp [h1, h2], rfl⟩
    · go_enter Tryd.func46, Tryd.ntmps46
      go_wp2
      go_ret
      exact ⟨by simp [h1, h2], rfl⟩
  · have : decide (0 ≤ s) = false := by simpa using h1
    go_enter Tryd.func46, Tryd.ntmps46
    go_wp2
    go_ret
    exact ⟨by simp [h1], rfl⟩

theorem heap_set7 {w : World} {b : Nat} {S : DS} {m : Nat} {pv : Value} {T : TypeId} (i : Nat) (v : Value) (h : w.heap[b]? = some (.cells (dcells S m pv) T (0, 0))) :
    (w.setCell ⟨b, i, none⟩ v).heap[b]? = some (.cells ((dcells S m pv).setIfInBounds i v) T (0, 0)) := heap_setCell_same w b i _ T v h

set_option maxHeartbeats 1000000 in
theorem operate_any {w : World} {F : Nat → Prop} {b : Nat} {S : DS} (h : DiskAt w F b S) (hops : S.ops < 1000000000000) (hlim : S.limit.getD 0 ≤ 9223372036854775807) :
    Calls Tryd.prog 47 #[.pointer (some ⟨b, 0, none⟩)] w fun e w' => e = .returned (.bool S.operate.2) ∧ DiskAt w' F b S.operate.1 ∧ Chg F w w' := by
  obtain ⟨hok, m, pv, hx⟩ := h
  obtain ⟨c0, c1, c2, c3, c4, c5, c6, f⟩ := hx.cells
  have fb := hx.fb
  cases hl : S.limit with
  | none =>
    rw [hl] at c4 c5
    simp only [Option.isSome_none, Option.getD_none] at c4 c5
    have HX := Lib.hid hx
    have HL := Lib.hid hl
    have HO := Lib.hid hok
    clear hx hl hok
    go_enter Tryd.func47, Tryd.ntmps47
    go_wp2
    go_ret
    have hx := HX.out
    have hl := HL.out
    refine ⟨by simp [DS.operate, hl], ⟨?_, m, pv, hx.step (grownBy_setCell w b 3 _) ?_ ?_ ?_⟩, Chg.setCell w _ fb⟩
    · have := HO.out; simp only [DS.operate, hl]; exact ⟨this.dur, this.pend, this.most⟩
    · simp [DS.operate, hl]
    · simp [DS.operate, hl]
    · rw [heap_set7 3 _ hx.hb]; simp [dcells, DS.operate, hl]
  | some k =>
    rw [hl] at c4 c5
    rw [hl] at hlim
    simp only [Option.isSome_some, Option.getD_some] at c4 c5 hlim
    have HX := Lib.hid hx
    have HL := Lib.hid hl
    have HO := Lib.hid hok
    clear hx hl hok
    cases k with
    | zero =>
      simp only [Int.natCast_zero, Int.cast_ofNat_Int] at c5
      go_enter Tryd.func47, Tryd.ntmps47
      go_wp2
      go_ret
      have hx := HX.out
      have hl := HL.out
      refine ⟨by simp [DS.operate, hl], ⟨?_, m, pv, hx.step (grownBy_setCell w b 6 _) ?_ ?_ ?_⟩, Chg.setCell w _ fb⟩
      · have := HO.out; simp only [DS.operate, hl]; exact ⟨this.dur, this.pend, this.most⟩
      · simp [DS.operate, hl]
      · simp [DS.operate, hl]
      · rw [heap_set7 6 _ hx.hb]; simp [dcells, DS.operate, hl]
    | succ k =>
      obtain ⟨x, hxe⟩ : ∃ x : Int, x = ((k + 1 : Nat) : Int) := ⟨_, rfl⟩
      rw [← hxe] at c5
      have hk0 : (x == 0) = false := by simp; omega
      have hk1 : 1 ≤ x := by omega
      have hk2 : x ≤ 9223372036854775807 := by omega
      have HXE := Lib.hid hxe
      clear hxe hlim
      go_enter Tryd.func47, Tryd.ntmps47
      go_wp2
      go_ret
      have hxe := HXE.out
      have hx := HX.out
      have hl := HL.out
      refine ⟨by simp [DS.operate, hl], ⟨?_, m, pv, hx.step (grownBy_trans (grownBy_setCell w b 5 _) (grownBy_setCell _ b 3 _)) ?_ ?_ ?_⟩, (Chg.setCell w _ fb).trans (Chg.setCell (F := F) _ _ fb) (fun _ h => .inl h)⟩
      · have := HO.out; simp only [DS.operate, hl]; exact ⟨this.dur, this.pend, this.most⟩
      · simp [DS.operate, hl]
      · simp [DS.operate, hl]
      · rw [heap_setCell_same _ b 3 _ _ _ (heap_set7 5 _ hx.hb)]; simp [dcells, DS.operate, hl]; omega

end Go.Proofs.YtplclpileejemaaDoor

namespace Go.Proofs.YtplclpileejemaaDoor
open Go.RowKit
set_option linter.unusedVariables false
set_option linter.unusedSimpArgs false

def byteAt (first step : UInt8) (i : Nat) : UInt8 := first + UInt8.ofNat i * step
def bytesOf (first step : UInt8) : List UInt8 := (List.range 256).map (byteAt first step)
theorem bytesOf_length (first step : UInt8) : (bytesOf first step).length = 256 := by simp [bytesOf]

def rowB (first step : UInt8) (k : Nat) : List UInt8 := (bytesOf first step).take k ++ zeros.drop k

theorem bv_byteAt (first step : UInt8) (k : Nat) : Value.int .u8 (((first.toNat : Int) + (k : Int) * (step.toNat : Int)) % 256) = bv (byteAt first step k) := by
  unfold bv byteAt
  congr 1
  simp only [UInt8.toNat_add, UInt8.toNat_mul, UInt8.toNat_ofNat']
  have e : (first.toNat + k * step.toNat) % 256 = (first.toNat + k % 2 ^ 8 * step.toNat % 2 ^ 8) % 2 ^ 8 := by
    simp [Nat.add_mod, Nat.mul_mod]
  rw [← e]
  omega

theorem rowB_length (first step : UInt8) {k : Nat} (hk : k ≤ 256) : (rowB first step k).length = 256 := by
  simp only [rowB, List.length_append, List.length_take, List.length_drop, bytesOf_length, zeros_length]
  omega
theorem rowB_succ (first step : UInt8) {k : Nat} (hk : k < 256) : (bvs (rowB first step k)).toArray.setIfInBounds k (bv (byteAt first step k)) = (bvs (rowB first step (k + 1))).toArray := by
  apply Array.ext'
  simp only [Array.toList_setIfInBounds]
  apply List.ext_getElem?
  intro i
  have h1 := rowB_length first step (k := k) (by omega)
  have h2 := rowB_length first step (k := k + 1) (by omega)
  have hb := bytesOf_length first step
  have hz := zeros_length
  rw [List.getElem?_set]
  simp only [bvs_length, h1]
  by_cases hik : k = i
  · subst hik
    rw [if_pos rfl, if_pos (by omega), bvs_getElem?]
    have : (rowB first step (k + 1))[k]? = some (byteAt first step k) := by
      unfold rowB
      rw [List.getElem?_append_left (by simp [hb]; omega), List.getElem?_take, if_pos (by omega)]
      simp [bytesOf, hk]
    rw [this]
    rfl
  · rw [if_neg hik, bvs_getElem?, bvs_getElem?]
    congr 1
    unfold rowB
    rw [List.getElem?_append, List.getElem?_append]
    simp only [List.length_take, hb, List.getElem?_take, List.getElem?_drop]
    by_cases hi : i < k
    · rw [if_pos (by omega), if_pos hi, if_pos (by omega), if_pos (by omega)]
    · rw [if_neg (by omega), if_neg (by omega)]
      congr 1
      omega
theorem rowB_end (first step : UInt8) : rowB first step 256 = bytesOf first step := by
  unfold rowB
  rw [List.take_of_length_le (Nat.le_of_eq (bytesOf_length _ _)), List.drop_eq_nil_of_le (Nat.le_of_eq zeros_length)]
  simp

theorem make256 : ∀ w, (Instr.makeSlice 36 (.int .i64 256) (.int .i64 256)).run Tryd.prog w = .ok (.slice (some ⟨w.heap.size, 0, none⟩) 256 256) (w.alloc (.cells (bvs zeros).toArray 5)) := fun _ => by kernel_rfl

set_option maxHeartbeats 400000 in
theorem Fail_any {w : World} {F : Nat → Prop} {b : Nat} {S : DS} (h : DiskAt w F b S) :
    Calls Tryd.prog 27 #[.pointer (some ⟨b, 0, none⟩)] w fun e w' => e = .returned (.tuple #[]) ∧ DiskAt w' F b { S with down := true } ∧ Chg F w w' := by
  obtain ⟨hok, m, pv, hx⟩ := h
  obtain ⟨c0, c1, c2, c3, c4, c5, c6, f⟩ := hx.cells
  have fb := hx.fb
  have HX := Lib.hid hx
  have HO := Lib.hid hok
  clear hx hok
  go_enter Tryd.func27, Tryd.ntmps27
  go_wp2
  go_end0
  have hx := HX.out
  have hok := HO.out
  refine ⟨rfl, ⟨⟨hok.dur, hok.pend, hok.most⟩, m, pv, hx.step (grownBy_setCell w b 6 _) rfl rfl ?_⟩, Chg.setCell w _ fb⟩
  rw [heap_set7 6 _ hx.hb]; simp [dcells]

def DS.setLimit (S : DS) (n : Int) : DS := { S with limit := if 0 ≤ n then some n.toNat else none }

set_option maxHeartbeats 400000 in
theorem SetLimit_any {w : World} {F : Nat → Prop} {b : Nat} {S : DS} (n : Int) (h : DiskAt w F b S) :
    Calls Tryd.prog 34 #[.pointer (some ⟨b, 0, none⟩), .int .i64 n] w fun e w' => e = .returned (.tuple #[]) ∧ DiskAt w' F b (S.setLimit n) ∧ Chg F w w' := by
  obtain ⟨hok, m, pv, hx⟩ := h
  obtain ⟨c0, c1, c2, c3, c4, c5, c6, f⟩ := hx.cells
  have fb := hx.fb
  have HX := Lib.hid hx
  have HO := Lib.hid hok
  clear hx hok
  by_cases hn : 0 ≤ n
  · go_enter Tryd.func34, Tryd.ntmps34
    go_wp2
    go_end0
    have hx := HX.out
    have hok := HO.out
    refine ⟨rfl, ⟨⟨hok.dur, hok.pend, hok.most⟩, m, pv, hx.step (grownBy_trans (grownBy_setCell w b 4 _) (grownBy_setCell _ b 5 _)) rfl rfl ?_⟩, (Chg.setCell w _ fb).trans (Chg.setCell (F := F) _ _ fb) (fun _ h => .inl h)⟩
    rw [heap_setCell_same _ b 5 _ _ _ (heap_set7 4 _ hx.hb)]; simp [dcells, DS.setLimit, hn]; omega
  · go_enter Tryd.func34, Tryd.ntmps34
    go_wp2
    go_end0
    have hx := HX.out
    have hok := HO.out
    refine ⟨rfl, ⟨⟨hok.dur, hok.pend, hok.most⟩, m, pv, hx.step (grownBy_trans (grownBy_setCell w b 4 _) (grownBy_setCell _ b 5 _)) rfl rfl ?_⟩, (Chg.setCell w _ fb).trans (Chg.setCell (F := F) _ _ fb) (fun _ h => .inl h)⟩
    have hn' : ¬ 0 ≤ n := by omega
    rw [heap_setCell_same _ b 5 _ _ _ (heap_set7 4 _ hx.hb)]; simp [dcells, DS.setLimit, hn']

end Go.Proofs.YtplclpileejemaaDoor

namespace Go.Proofs.YtplclpileejemaaDoor
open Go.RowKit Go.Shelf
set_option linter.unusedVariables false
set_option linter.unusedSimpArgs false
attribute [local go_sem] Oper.semAt_some

theorem wpListIn_run {F : Fence} {n : Nat} {P : Program} {w : World} {ops : Array Oper} {rest : List Oper} {o : Oper} {a : Act} {Q : Exit → Act → World → Prop}
    (hg : o.guard = none) (hab : ∀ f, o.about P w a.eval = some f → F.fn f) (hnd : ∀ c, o.op ≠ .defer c) {x : Next} {w' : World} (hrun : (execOp a.eval o).run P w = .ok x w')
    (h : ∀ K : Act → World → Prop, (∀ a w, wpListIn F n P ops Q rest a w → K a w) → o.uponIn F n P a K Q (.ok x w')) : wpListIn F n P ops Q (o :: rest) a w := by
  refine wpListIn_plain hg fun K hK' => ?_
  unfold Oper.wpIn
  refine ⟨hab, ?_⟩
  rw [Oper.semAt_plain F _ _ hnd, hrun]
  exact h K hK'

theorem wpListIn_load_mid {F : Fence} {n : Nat} {P : Program} {w : World} {ops : Array Oper} {rest : List Oper} {o : Oper} {a : Act} {Q : Exit → Act → World → Prop}
    (hg : o.guard = none) (ty : TypeId) (x : Operand) (ho : o.op = .load ty x)
    (b off : Nat) (hx : a.eval x = .pointer (some ⟨b, off, none⟩)) (cs : List Value) (d : TypeDesc) (hc : w.rangeAt b off cs)
    (hu : P.underlying ty = some d) (hd : d.isRow = true) (hi : (P.info? ty).map (·.size) = some cs.length)
    (h : wpListIn F n P ops Q rest (a.put o.dst (.agg cs.toArray)) w) : wpListIn F n P ops Q (o :: rest) a w := by
  refine wpListIn_run hg (by simp [Oper.about, ho]) (by rw [ho]; intro c hc'; cases hc') (x := .value (.agg cs.toArray)) (w' := w) ?_ (fun K hK => hK _ _ h)
  unfold execOp
  simp only [ho, hx, Instr.loadAt, Instr.sureAddr, Sem.run_bind, Sem.run_pure, Result.andThen_ok, run_loadVar_mid w b off ty cs d hc hu hd hi]

theorem wcells_length {x : Nat × List UInt8} (h : x.2.length = 256) : (wcells x).length = 257 := by simp [wcells, h]
theorem prow_length {l : List (Nat × List UInt8)} (h : ∀ x ∈ l, x.2.length = 256) : (prow l).length = l.length * 257 := by
  induction l with
  | nil => rfl
  | cons x l ih =>
    have := ih (fun y hy => h y (by simp [hy]))
    simp only [prow, List.flatMap_cons, List.length_append, List.length_cons] at this ⊢
    rw [this, wcells_length (h x (by simp))]
    omega
theorem prow_at {l : List (Nat × List UInt8)} (h : ∀ x ∈ l, x.2.length = 256) {i : Nat} (hi : i < l.length) (j : Nat) (hj : j < 257) : (prow l)[i * 257 + j]? = (wcells l[i])[j]? := by
  induction l generalizing i with
  | nil => simp at hi
  | cons x l ih =>
    have hx := wcells_length (h x (by simp))
    have hl : ∀ y ∈ l, y.2.length = 256 := fun y hy => h y (by simp [hy])
    simp only [prow, List.flatMap_cons]
    cases i with
    | zero => simp only [Nat.zero_mul, Nat.zero_add]; rw [List.getElem?_append_left (by omega)]; rfl
    | succ i =>
      rw [List.getElem?_append_right (by omega), hx]
      have := ih hl (i := i) (by simpa using hi)
      rw [show (i + 1) * 257 + j - 257 = i * 257 + j by omega]
      exact this

/-- The pending writes lie in w as the slice value pv says. -/
def PendAt (w : World) (pv : Value) (l : List (Nat × List UInt8)) : Prop :=
  (pv = .slice none 0 0 ∧ l = []) ∨ ∃ g cap, pv = .slice (some ⟨g, 0, none⟩) l.length cap ∧ g < w.heap.size ∧ ∀ i (h : i < l.length), w.rangeAt g (i * 257) (wcells l[i])

theorem pendAt_of {w : World} {pv : Value} {l : List (Nat × List UInt8)} (hl : ∀ x ∈ l, x.2.length = 256) (h : w.ownsRow 0 94 257 pv l.length (prow l)) : PendAt w pv l := by
  rcases h.2 with ⟨rfl, h0⟩ | ⟨g, cap, cur, rfl, _, hg, _, _, hcs, ht⟩
  · exact .inl ⟨rfl, List.eq_nil_of_length_eq_zero h0⟩
  · refine .inr ⟨g, cap, rfl, (Array.getElem?_eq_some_iff.1 hg).1, fun i hi j v hv => ?_⟩
    have hj : j < 257 := by rw [← wcells_length (hl _ (List.getElem_mem hi))]; exact (List.getElem?_eq_some_iff.1 hv).1
    rw [cell_of_row w g _ cur _ _ hg, ← prow_at hl hi j hj, ← ht, List.getElem?_take] at *
    split at hv
    · simpa using hv
    · cases hv

theorem PendAt.below {w w' : World} {pv : Value} {l : List (Nat × List UInt8)} {n₀ : Nat} (h : PendAt w pv l) (hp : ∀ g, pv.ownBlock = some g → g < n₀) (hb : Below n₀ w w') : PendAt w' pv l := by
  rcases h with h | ⟨g, cap, rfl, hg, hr⟩
  · exact .inl h
  · exact .inr ⟨g, cap, rfl, Nat.lt_of_lt_of_le hg hb.size, fun i hi j v hv => (hb.cell (p := ⟨g, i * 257 + j, none⟩) (hp g rfl)).trans (hr i hi j v hv)⟩

/-- An element that the iterator hands over: its index and the write. -/
abbrev PE := { x : Nat × Nat × List UInt8 // x.2.2.length = 256 }
def encPE (x : PE) : Array Value := #[.int .i64 (x.1.1 : Int), .agg (wcells x.1.2).toArray]

/-- The writes in the iterator's order. -/
def backL : (l : List (Nat × List UInt8)) → (∀ x ∈ l, x.2.length = 256) → List PE
  | l, h => (List.finRange l.length).map fun j => ⟨(l.length - 1 - j.1, l[l.length - 1 - j.1]'(by have := j.2; omega)), h _ (List.getElem_mem _)⟩

theorem backL_length (l : List (Nat × List UInt8)) (h) : (backL l h).length = l.length := by simp [backL]
theorem backL_at (l : List (Nat × List UInt8)) (h) (k : Nat) (hk : k < l.length) :
    (backL l h)[k]? = some ⟨(l.length - 1 - k, l[l.length - 1 - k]'(by omega)), h _ (List.getElem_mem _)⟩ := by
  simp [backL, List.getElem?_map, hk]
theorem backL_vals (l : List (Nat × List UInt8)) (h) : (backL l h).map (fun x => x.1.2) = l.reverse := by
  apply List.ext_getElem?
  intro i
  by_cases hi : i < l.length
  · rw [List.getElem?_map, backL_at l h i hi]
    simp [List.getElem?_reverse hi, show l.length - 1 - i < l.length by omega]
  · rw [List.getElem?_eq_none (by simp [backL_length]; omega), List.getElem?_eq_none (by simp; omega)]

theorem sizeWrite : (Tryd.prog.info? 94).map (·.size) = some 257 := by kernel_rfl

set_option maxRecDepth 100000 in
set_option maxHeartbeats 2000000 in
theorem back1_in (F : Fence) (n : Nat) (hF : F.fn 71) (hro : F.round = none) (hn : 1 ≤ n) (lp Bs n₀ : Nat) (pv : Value) (l : List (Nat × List UInt8)) (hl : ∀ x ∈ l, x.2.length = 256)
    (hlen : l.length < 1000000000000) (hp : ∀ g, pv.ownBlock = some g → g < n₀) (J Jx : List PE → World → Prop)
    (hY : ∀ pre x W, J pre W → pre.length < l.length → YieldAt F (n - 1) Tryd.prog lp (encPE x) W fun e W' =>
      (e = .returned (.bool true) ∧ J (pre ++ [x]) W' ∧ Below n₀ W W') ∨ (e = .returned (.bool false) ∧ Jx (pre ++ [x]) W'))
    (W : World) (hBs : Bs < n₀) (hc : W.cell? ⟨Bs, 0, none⟩ = some pv) (hP : PendAt W pv l) (h0 : J [] W) :
    CallsIn F n Tryd.prog 71 #[.func (.yield lp) #[] #[], .pointer (some ⟨Bs, 0, none⟩)] W fun e W' => (∃ v, e = .returned v) ∧
      ((∃ ys, ys = backL l hl ∧ J ys W') ∨ (∃ pre, pre <+: backL l hl ∧ Jx pre W')) := by
  refine callsIn_of_wp Tryd.func71 rfl hF ?_ hro
  simp only [Tryd.ntmps71, List.size_toArray, List.length_cons, List.length_nil, Nat.reduceAdd, Nat.reduceSub, Array.replicate_succ, Array.replicate_zero, List.push_toArray, List.append_toArray, List.nil_append, List.cons_append]
  have hpv : ∃ a cap, pv = .slice a l.length cap := by
    rcases hP with ⟨rfl, rfl⟩ | ⟨g, cap, rfl, _⟩
    · exact ⟨none, 0, rfl⟩
    · exact ⟨_, _, rfl⟩
  obtain ⟨a, cap, rfl⟩ := hpv
  gi_wp2
  gi_loopw [3] (fun i wr => ∃ k : Nat, k ≤ l.length ∧ i = .int .i64 ((l.length : Int) - 1 - (k : Int)) ∧ J ((backL l hl).take k) wr ∧ Below n₀ W wr)
    (fun i _ => (intOf i + 1).toNat)
  case atStart => exact ⟨0, Nat.zero_le _, by simp, by simpa using h0, Below.refl _ _⟩
  case round =>
    obtain ⟨k, hk, rfl, hJs, hnx⟩ := hrel
    have hcx : wr.cell? ⟨Bs, 0, none⟩ = some (.slice a l.length cap) := (hnx.cell (p := ⟨Bs, 0, none⟩) hBs).trans hc
    by_cases hlt : k < l.length
    · obtain ⟨q, hq⟩ : ∃ q : Nat, q = l.length - 1 - k := ⟨_, rfl⟩
      have hql : q < l.length := by omega
      have hzq : ((l.length : Int) - 1 - (k : Int)) = (q : Int) := by omega
      rw [hzq]
      have hPr := hP.below hp hnx
      rcases hPr with ⟨e1, e2⟩ | ⟨g, cap', e1, hg, hr⟩
      · rw [e2] at hlt; simp at hlt
      · simp only [Value.slice.injEq] at e1
        obtain ⟨rfl, _, rfl⟩ := e1
        have hrq := hr q hql
        obtain ⟨fn, tmps, assign, body, hy, hR⟩ := hY _ ⟨(q, l[q]), hl _ (List.getElem_mem _)⟩ wr hJs (by simp [backL_length]; omega)
        have hsz : (Tryd.prog.info? 94).map (·.size) = some (wcells l[q]).length := by rw [wcells_length (hl _ (List.getElem_mem _))]; exact sizeWrite
        have hstep : (backL l hl).take (k + 1) = (backL l hl).take k ++ [⟨(q, l[q]), hl _ (List.getElem_mem _)⟩] := by
          rw [List.take_add_one, backL_at l hl k hlt]
          subst hq
          rfl
        have HS := Lib.hid hstep
        have HQ := Lib.hid hq
        clear hr hq hzq hstep
        dsimp only [encPE] at hy
        gi_wp2_with (first | (with_reducible refine wpListIn_load_mid rfl 94 _ rfl g (q * 257) rfl (wcells l[q]) _ hrq Tryd.underlying94 rfl hsz ?_) | fail)
        refine hR.mono ?_
        rintro e W3 (⟨rfl, hJ3, hk3⟩ | ⟨rfl, hJx3⟩)
        · gi_wp2
          go_roundw
          case rel => exact ⟨k + 1, by omega, by have := HQ.out; first | (go_num; done) | (congr 1; omega), by rw [HS.out]; exact hJ3, hnx.trans hk3⟩
          case measure => simp [intOf]
        · gi_wp2
          refine bodyPost_ret (results_none rfl _ _ _) rfl ?_
          exact ⟨⟨_, rfl⟩, .inr ⟨_, by rw [← HS.out]; exact List.take_prefix _ _, hJx3⟩⟩
    · obtain rfl : k = l.length := by omega
      have e1 : ((l.length : Int) - 1 - (l.length : Int)) = -1 := by omega
      rw [e1]
      clear e1
      gi_wp2
      go_end0
      exact ⟨⟨_, rfl⟩, .inl ⟨_, rfl, by rw [List.take_of_length_le (by rw [backL_length]; exact Nat.le_refl _)] at hJs; exact hJs⟩⟩

set_option maxHeartbeats 1000000 in
theorem Backward_in (F : Fence) (n : Nat) (hF : F.fn 60) (hro : F.round = none) (a : Option Addr) (len cap : Nat) (w : World) :
    CallsIn F n Tryd.prog 60 #[.slice a len cap] w fun e w' => e = .returned (.func (.func 71) #[] #[.pointer (some ⟨w.heap.size, 0, none⟩)]) ∧ w' = w.alloc (.cells #[.slice a len cap] 71) := by
  refine callsIn_of_wp Tryd.func60 rfl hF ?_ hro
  simp only [Tryd.ntmps60, List.size_toArray, List.length_cons, List.length_nil, Nat.reduceAdd, Nat.reduceSub, Array.replicate_succ, Array.replicate_zero, List.push_toArray, List.append_toArray, List.nil_append, List.cons_append]
  gi_wp2
  go_ret
  exact ⟨rfl, rfl⟩

theorem back_stops (F : Fence) (n : Nat) (hF : F.fn 71) (hro : F.round = none) (hn : 1 ≤ n) (Bs n₀ : Nat) (pv : Value) (l : List (Nat × List UInt8)) (hl : ∀ x ∈ l, x.2.length = 256)
    (hlen : l.length < 1000000000000) (w : World) (hBs : Bs < n₀) (hn₀ : n₀ ≤ w.heap.size) (hp : ∀ g, pv.ownBlock = some g → g < n₀) (hc : w.cell? ⟨Bs, 0, none⟩ = some pv) (hP : PendAt w pv l) :
    SeqStopsK F n Tryd.prog 71 #[.pointer (some ⟨Bs, 0, none⟩)] encPE (Below n₀) (fun ys => ys = backL l hl) (fun pre => pre <+: backL l hl) l.length w := fun lp J Jx W hW _ _ hY h0 =>
  back1_in F n hF hro hn lp Bs n₀ pv l hl hlen hp J Jx hY W hBs ((hW.cell (p := ⟨Bs, 0, none⟩) (Nat.lt_of_lt_of_le hBs hn₀)).trans hc) (hP.below hp (hW.mono hn₀)) h0

/-! ### visible -/
def visP (l : List (Nat × List UInt8)) (s : Nat) : Option (List UInt8) := (l.reverse.find? (fun x => x.1 == s)).map (·.2)
def DS.visible (S : DS) (s : Nat) : List UInt8 := (visP S.pend s).getD (S.dur.getD s zeros)

theorem visible_length {S : DS} (h : S.ok) {s : Nat} (hs : s < S.dur.length) : (S.visible s).length = 256 := by
  unfold DS.visible visP
  cases hf : S.pend.reverse.find? (fun x => x.1 == s) with
  | none => simp [hs]; exact h.dur _ (List.getElem_mem _)
  | some x => simp; exact (h.pend x (by simpa using List.mem_of_find?_eq_some hf)).2

theorem zc80 : Tryd.zeroCells92 = (bvs zeros).toArray := by kernel_rfl
theorem zc82 : Tryd.zeroCells94 = (wcells (0, zeros)).toArray := by kernel_rfl
theorem infoContents : (Tryd.prog.info? 92).map (fun i => (i.zero, i.size)) = some (some (cval zeros), 256) := by kernel_rfl
theorem infoWrite : (Tryd.prog.info? 94).map (fun i => (i.zero, i.size)) = some (some (.agg (wcells (0, zeros)).toArray), 257) := by kernel_rfl

theorem wpListIn_alloc_row {F : Fence} {n : Nat} {P : Program} {w : World} {ops : Array Oper} {rest : List Oper} {o : Oper} {a : Act} {Q : Exit → Act → World → Prop}
    (hg : o.guard = none) (ty : TypeId) (ho : o.op = .alloc ty) (z : Array Value) (sz : Nat) (hi : (P.info? ty).map (fun i => (i.zero, i.size)) = some (some (.agg z), sz))
    (h : wpListIn F n P ops Q rest (a.put o.dst (.pointer (some ⟨w.heap.size, 0, none⟩))) (w.alloc (.cells z ty))) : wpListIn F n P ops Q (o :: rest) a w := by
  refine wpListIn_run hg (by simp [Oper.about, ho]) (by rw [ho]; intro c hc'; cases hc') (x := .value (.pointer (some ⟨w.heap.size, 0, none⟩))) (w' := w.alloc (.cells z ty)) ?_ (fun K hK => hK _ _ h)
  cases hq : P.info? ty with
  | none => simp [hq] at hi
  | some i =>
    simp only [hq, Option.map_some, Option.some.injEq, Prod.mk.injEq] at hi
    unfold execOp
    simp [ho, Instr.alloc, zeroValue, typeInfo, hq, hi.1, newVar, newRow, newObj, go_sem, Value.cells]
    rfl

theorem wpListIn_store_row {F : Fence} {n : Nat} {P : Program} {w : World} {ops : Array Oper} {rest : List Oper} {o : Oper} {a : Act} {Q : Exit → Act → World → Prop} (hgd : o.guard = none) (ty : TypeId) (x y : Operand) (ho : o.op = .store ty x y)
    (g : Nat) (cells : Array Value) (hx : a.eval x = .pointer (some ⟨g, 0, none⟩)) (hy : a.eval y = .agg cells)
    (t : TypeId) (old : Array Value) (hg : w.heap[g]? = some (.cells old t (0, 0))) (hi : (P.info? ty).map (·.size) = some cells.size)
    (hold : old.size = cells.size) (h1 : cells.all (·.oneCell') = true)
    (h : wpListIn F n P ops Q rest (a.put o.dst undef) (w.setRow g cells)) : wpListIn F n P ops Q (o :: rest) a w := by
  refine wpListIn_run hgd (by simp [Oper.about, ho]) (by rw [ho]; intro c hc'; cases hc') (x := .skip) (w' := w.setRow g cells) ?_ (fun K hK => hK _ _ h)
  unfold execOp
  simp only [ho, hx, hy, Instr.storeAt, Instr.sureAddr, Sem.run_bind, Sem.run_pure, Result.andThen_ok, run_storeVar_row w g t ty old cells hg hi hold h1]

theorem find_of_prefix {α : Type} {f : α → Bool} {ini L : List α} {last : α} (h : (ini ++ [last]) <+: L) (h1 : ∀ x ∈ ini, f x = false) (h2 : f last = true) : L.find? f = some last := by
  obtain ⟨t, rfl⟩ := h
  rw [List.append_assoc, List.find?_append, List.find?_eq_none.2 (fun x hx => by simp [h1 x hx])]
  simp [h2]

theorem visP_of_back {l : List (Nat × List UInt8)} (hl : ∀ x ∈ l, x.2.length = 256) {s : Nat} {ini : List PE} {last : PE} (h : (ini ++ [last]) <+: backL l hl) (h1 : ∀ x ∈ ini, x.1.2.1 ≠ s) (h2 : last.1.2.1 = s) :
    visP l s = some last.1.2.2 := by
  unfold visP
  have e := find_of_prefix (f := fun x : PE => x.1.2.1 == s) h (fun x hx => by simpa using h1 x hx) (by simpa using h2)
  rw [← backL_vals l hl, List.find?_map]
  show Option.map _ (Option.map _ (List.find? (fun x : PE => x.1.2.1 == s) (backL l hl))) = _
  rw [e]
  rfl
theorem visP_none {l : List (Nat × List UInt8)} (hl : ∀ x ∈ l, x.2.length = 256) {s : Nat} (h1 : ∀ x ∈ backL l hl, x.1.2.1 ≠ s) : visP l s = none := by
  unfold visP
  rw [← backL_vals l hl, List.find?_map]
  show Option.map _ (Option.map _ (List.find? (fun x : PE => x.1.2.1 == s) (backL l hl))) = _
  rw [List.find?_eq_none.2 (fun x hx => by simpa using h1 x hx)]
  rfl

theorem zeroLookup : ∀ w, (zeroValue 92).run Tryd.prog w = .ok (cval zeros) w := fun w => by rw [Tryd.zeroValue92, zc80]; rfl

theorem sizeContents {l : List UInt8} (h : l.length = 256) : (Tryd.prog.info? 92).map (·.size) = some (bvs l).toArray.size := by
  have : (bvs l).toArray.size = 256 := by simp [h]
  rw [this]
  have h2 := infoContents
  cases hq : Tryd.prog.info? 92 with
  | none => rw [hq] at h2; cases h2
  | some i =>
    simp only [hq, Option.map_some, Option.some.injEq, Prod.mk.injEq] at h2 ⊢
    exact h2.2
theorem sizeWriteA {x : Nat × List UInt8} (h : x.2.length = 256) : (Tryd.prog.info? 94).map (·.size) = some (wcells x).toArray.size := by
  have : (wcells x).toArray.size = 257 := by simp [wcells_length h]
  rw [this]
  exact sizeWrite
theorem oneCell_wcells (x : Nat × List UInt8) : (wcells x).toArray.all (·.oneCell') = true := by
  apply all_oneCell_toArray
  intro v hv
  rcases List.mem_cons.1 hv with rfl | hv
  · rfl
  · exact bvs_oneCell v hv

def VisI (w : World) (s : Nat) (pre : List PE) (W : World) : Prop :=
  (Below w.heap.size w W ∧ w.heap.size + 3 ≤ W.heap.size) ∧ Boxed W w.heap.size 3 (.int .i64 (s : Int)) ∧ W.heap[w.heap.size + 1]? = some (.cells (bvs zeros).toArray 92 (0, 0)) ∧ ∀ x ∈ pre, x.1.2.1 ≠ s
def VisX (w : World) (s : Nat) (c : Code) (pre : List PE) (W : World) : Prop :=
  c = .ret ∧ Below w.heap.size w W ∧ ∃ ini last, pre = ini ++ [last] ∧ (∀ x ∈ ini, x.1.2.1 ≠ s) ∧ last.1.2.1 = s ∧ W.heap[w.heap.size + 1]? = some (.cells (bvs last.1.2.2).toArray 92 (0, 0))
def VisA (w : World) (S : DS) (s b : Nat) (a : Option Addr) (cap : Nat) (x : PE) (a' : Act) (W : World) : Prop :=
  ∃ Bx, w.heap.size + 3 ≤ Bx ∧ W.heap[Bx]? = some (.cells (wcells x.1.2).toArray 94 (0, 0)) ∧ a' = { tmps := #[.pointer (some ⟨b, 0, none⟩), .int .i64 (s : Int), undef, .pointer (some ⟨w.heap.size, 0, none⟩),
    .pointer (some ⟨w.heap.size + 1, 0, none⟩), undef, .pointer (some ⟨Bx, 0, none⟩), .pointer (some ⟨b, 0, none⟩), .pointer (some ⟨b, 0, none⟩), .pointer (some ⟨b, 2, none⟩), .slice a S.pend.length cap,
    .func (.func 71) #[] #[.pointer (some ⟨w.heap.size + 1 + 1, 0, none⟩)], .int .i64 (x.1.1 : Int), .agg (wcells x.1.2).toArray, undef, undef, undef, undef, undef, undef, undef, undef, undef, undef, undef, undef], defers := [] }

set_option maxRecDepth 100000 in
set_option maxHeartbeats 2000000 in
theorem visible_any {w : World} {F : Nat → Prop} {b : Nat} {S : DS} (s : Nat) (h : DiskAt w F b S) (hs : s < S.dur.length) (hlen : S.pend.length < 1000000000000) :
    Calls Tryd.prog 48 #[.pointer (some ⟨b, 0, none⟩), .int .i64 (s : Int)] w fun e w' => e = .returned (cval (S.visible s)) ∧ Below w.heap.size w w' := by
  obtain ⟨hok, m, pv, hx⟩ := h
  obtain ⟨c0, c1, c2, c3, c4, c5, c6, f⟩ := hx.cells
  have hl : ∀ x ∈ S.pend, x.2.length = 256 := fun x h => (hok.pend x h).2
  have hP := pendAt_of hl hx.hp
  have hpl := hx.hp.lt
  obtain ⟨a, cap, hpv⟩ : ∃ a cap, pv = .slice a S.pend.length cap := by
    rcases hP with ⟨rfl, e⟩ | ⟨g, cap, rfl, _⟩
    · exact ⟨none, 0, by rw [e]; rfl⟩
    · exact ⟨_, _, rfl⟩
  subst hpv
  refine (callsIn_wide (n := 4)).1 ?_
  refine callsIn_of_wp_marks Tryd.func48 rfl trivial ?_ rfl
  simp only [Tryd.ntmps48, List.size_toArray, List.length_cons, List.length_nil, Nat.reduceAdd, Nat.reduceSub, Array.replicate_succ, Array.replicate_zero, List.push_toArray, List.append_toArray, List.nil_append, List.cons_append]
  have HX := Lib.hid hx
  have HOK := Lib.hid hok
  have HL := Lib.hid hl
  have HPL := Lib.hid hpl
  have hbl := hx.lt
  clear hx hok hl hpl
  gi_wp2_with (first | (refine ⟨trivial, ?_⟩; gi_at_call 60; refine (Backward_in Fence.wide 3 trivial rfl _ _ _ _).mono ?_; rintro e w' ⟨rfl, rfl⟩))
  have h3 := heap3 w (.cells #[.int .i64 (s : Int)] 3) (.cells Tryd.zeroCells92 92) (.cells #[.slice a S.pend.length cap] 71)
  obtain ⟨W0, hW0⟩ : ∃ W0, ((w.alloc (.cells #[.int .i64 (s : Int)] 3)).alloc (.cells Tryd.zeroCells92 92)).alloc (.cells #[.slice a S.pend.length cap] 71) = W0 := ⟨_, rfl⟩
  have hsz0 : W0.heap.size = w.heap.size + 3 := by rw [← hW0]; simp
  have hB0 : Below w.heap.size w W0 := by rw [← hW0]; exact (((Below.refl _ w).alloc (Nat.le_refl _) _).alloc (by simp) _).alloc (by simp; omega) _
  rw [hW0] at h3 ⊢
  clear hW0
  obtain ⟨g0, g1, g2⟩ := h3
  rw [zc80] at g1
  have hbp : ∀ g, (Value.slice a S.pend.length cap).ownBlock = some g → g < W0.heap.size := fun g hg => by have := (HPL.out g hg).2; omega
  refine wpIn_rangeFunc_ownH (α := PE) rfl (by decide) (gf := 71) (lb := #[.pointer (some ⟨w.heap.size + 1 + 1, 0, none⟩)]) rfl trivial (enters_of Tryd.func71 (by kernel_rfl) rfl)
    (back_stops Fence.wide 3 trivial rfl (by decide) (w.heap.size + 1 + 1) W0.heap.size _ S.pend HL.out hlen W0 (by omega) (Nat.le_refl _) hbp (cell_of_row W0 _ _ _ _ _ g2) (hP.below (n₀ := w.heap.size) (fun g hg => (HPL.out g hg).2) hB0)) belowK_t (belowK_b (Nat.le_refl _)) (Below.refl _ _) (fun _ => rfl)
    (VisI w s) (VisX w s) ?hI ?hIx ⟨⟨hB0, by omega⟩, g0, g1, by simp⟩ (VisA w S s b a cap) ?hAx ?assign ?body ?done ?stop
  case hI =>
    rintro pre A B row ⟨⟨h1, h0⟩, h2, h3, h4⟩ hg hr
    refine ⟨⟨h1.grown hg h1.size (fun k e => by have := (hr k e).1; omega), Nat.le_trans h0 hg.size⟩, h2.kept hg (fun e => by have := (hr _ e.symm).1; omega), ?_, h4⟩
    exact (hg.block _ (Array.getElem?_eq_some_iff.1 h3).1 (fun e => by have := (hr _ e.symm).1; omega)).trans h3
  case hIx =>
    rintro c pre A B row ⟨h1, h2, ini, last, e1, e2, e3, h3⟩ hg hr
    refine ⟨h1, h2.grown hg h2.size (fun k e => by have := (hr k e).1; omega), ini, last, e1, e2, e3, ?_⟩
    exact (hg.block _ (Array.getElem?_eq_some_iff.1 h3).1 (fun e => by have := (hr _ e.symm).1; omega)).trans h3
  case hAx =>
    rintro x a' _ A B row ⟨Bx, h1, h2, h3⟩ hg hr
    refine ⟨Bx, h1, ?_, h3⟩
    refine (hg.block _ (Array.getElem?_eq_some_iff.1 h2).1 (fun e => ?_)).trans h2
    obtain ⟨_, o, ho, hoc⟩ := hr _ e.symm
    rw [h2] at ho
    cases ho
    cases hoc
  case assign =>
    rintro l pre x W K hI hK
    unfold encPE
    gi_wp2_with (first | (with_reducible refine wpListIn_store_row rfl 94 _ _ rfl W.heap.size (wcells x.1.2).toArray rfl rfl 94 Tryd.zeroCells94 (heap_alloc_new W _) (sizeWriteA x.2) (by rw [zc82]; simp [wcells, x.2, zeros_length]) (oneCell_wcells _) ?_))
    rw [World.setRow_alloc_new]
    obtain ⟨⟨i1, i0⟩, i2, i3, i4⟩ := hI
    refine hK _ _ ((KeepsOthers.alloc _ _).from _) ((Below.refl _ W).alloc (by omega) _) ⟨⟨i1.alloc i1.size _, by simp; omega⟩, i2.alloc _, (Below.heap_alloc _ _ _ (Array.getElem?_eq_some_iff.1 i3).1).trans i3, i4⟩ ⟨W.heap.size, i0, heap_alloc_new _ _, rfl⟩
  case body =>
    rintro l pre x a' W hl ⟨r, hr⟩ ⟨⟨i1, i0⟩, i2, i3, i4⟩ ⟨Bx, hBx, bX, rfl⟩ hlt
    have cx : W.cell? ⟨Bx, 0, none⟩ = some (.int .i64 (x.1.2.1 : Int)) := by rw [cell_of_row W _ _ _ _ _ bX]; rfl
    have cs := i2.cell
    by_cases hxs : x.1.2.1 = s
    · have ht : ((x.1.2.1 : Int) == (s : Int)) = true := by simp [hxs]
      have hrg : W.rangeAt Bx 1 (bvs x.1.2.2) := fun j v hv => by
        rw [cell_of_row W _ _ _ _ _ bX]
        simp only [wcells, List.getElem?_toArray, Nat.add_comm 1 j, List.getElem?_cons_succ]
        exact hv
      gi_wp2_with (first | (with_reducible refine wpListIn_load_mid rfl 92 _ rfl Bx 1 rfl (bvs x.1.2.2) _ hrg Tryd.underlying92 rfl (by have := sizeContents x.2; simpa using this) ?_) | (with_reducible refine wpListIn_store_row rfl 92 _ _ rfl (w.heap.size + 1) (bvs x.1.2.2).toArray rfl rfl 92 (bvs zeros).toArray i3 (sizeContents x.2) (by simp [x.2, zeros_length]) (oneCell_bvs _) ?_))
      have hgr : W.grownBy (W.setRow (w.heap.size + 1) (bvs x.1.2.2).toArray) (some (w.heap.size + 1)) := ⟨rfl, rfl, rfl, by simp, fun k _ hk => setRow_other W _ k _ (fun e => hk (by rw [e]))⟩
      exact ⟨KeepsFrom.of_grownBy hgr (fun j e => by cases e; omega), rfl, i1.grown hgr i1.size (fun k e => by cases e; omega), pre, x, rfl, i4, hxs, setRow_heap W _ _ _ _ _ i3⟩
    · have ht : ((x.1.2.1 : Int) == (s : Int)) = false := by simp; omega
      gi_wp2
      exact ⟨KeepsFrom.refl _ _, Below.refl _ _, ⟨i1, i0⟩, i2, i3, fun y hy => (List.mem_append.1 hy).elim (i4 y) (fun e => by simp at e; subst e; exact hxs)⟩
  case done =>
    rintro D ys W hD rfl ⟨⟨i1, i0⟩, i2, i3, i4⟩ hK
    have hx := HX.out
    have hdb : W.cell? ⟨b, 1, none⟩ = some (.map (some m)) := (i1.cell (p := ⟨b, 1, none⟩) hbl).trans c1
    have hbx := i2.cell
    have hmap : MapIs W m S.dur.length zeros (fun i => S.dur.getD i zeros) := hx.hm.kept (i1.block m hx.hm.lt)
    have hlk : (Instr.lookup 70 (.map (some m)) (.int .i64 (s : Int)) false).run Tryd.prog W.drew = .ok (cval (S.dur.getD s zeros)) W.drew :=
      MapIs.lookup (hmap.kept (w' := W.drew) rfl) Tryd.underlying70 Tryd.underlying3 zeroLookup hs
    have hvis : S.visible s = S.dur.getD s zeros := by unfold DS.visible; rw [visP_none HL.out i4]; rfl
    have hv256 : (S.dur.getD s zeros).length = 256 := by rw [← hvis]; exact visible_length HOK.out hs
    obtain ⟨v, hv⟩ : ∃ v, v = S.dur.getD s zeros := ⟨_, rfl⟩
    rw [← hv] at hlk hvis hv256
    clear hmap hv
    have HX2 := Lib.hid hx
    have HV := Lib.hid hvis
    have H256 := Lib.hid hv256
    clear hx hvis hv256
    gi_wp2
    refine wpIn_wide.2 ?_
    go_still_tail 6, (by kernel_rfl)
    have e256 := H256.out
    refine wpList_store_row rfl 92 _ _ rfl (w.heap.size + 1) (bvs v).toArray rfl rfl 92 (bvs zeros).toArray i3 (sizeContents e256) (by simp only [List.size_toArray, bvs_length, e256, zeros_length]) (oneCell_bvs _) ?_
    clear e256
    go_wp2
    obtain ⟨Wz, hWz⟩ : ∃ Wz : World, ({ W with drawn := W.drawn + 1 } : World).setRow (w.heap.size + 1) (bvs v).toArray = Wz := ⟨_, rfl⟩
    have hKz : Wz.heap[D]? = some (.deferred (some [])) := by rw [← hWz, setRow_other _ _ _ _ (by omega)]; exact hK
    have hRz : Wz.heap[w.heap.size + 1]? = some (.cells (bvs v).toArray 92 (0, 0)) := by rw [← hWz]; exact setRow_heap _ _ _ _ _ _ i3
    have hBz : Below w.heap.size w Wz := by rw [← hWz]; exact below_setRow (w := { W with drawn := W.drawn + 1 }) i1.drew (by omega) _
    rw [hWz]
    clear hWz
    gi_wp2
    refine ⟨by simp, .inl ⟨_, _, rfl, run_takeDeferred hKz, ?_⟩⟩
    have hg' : (Wz.putObj D (.deferred none)).heap[w.heap.size + 1]? = some (.cells (bvs v).toArray 92 (0, 0)) := (World.putObj_heap_other (by omega)).trans hRz
    refine ⟨_, results_cell_row (g := w.heap.size + 1) rfl _ _ _ _ _ _ rfl hg' Tryd.underlying92 rfl (sizeContents H256.out), ?_, hBz.trans (belowK_b (w := w) (Nat.le_refl _) Wz D _ _ (by omega) hKz rfl rfl)⟩
    rw [HV.out]
    rfl
  case stop =>
    rintro D c pre W hD hpre ⟨rfl, i1, ini, last, e1, e2, e3, i3⟩ hK
    gi_wp2
    have hv : S.visible s = last.1.2.2 := by unfold DS.visible; rw [visP_of_back HL.out (e1 ▸ hpre) e2 e3]; rfl
    refine ⟨by simp, .inl ⟨_, _, rfl, run_takeDeferred hK, ?_⟩⟩
    have hg' : (W.putObj D (.deferred none)).heap[w.heap.size + 1]? = some (.cells (bvs last.1.2.2).toArray 92 (0, 0)) := (World.putObj_heap_other (by omega)).trans i3
    refine ⟨_, results_cell_row (g := w.heap.size + 1) rfl _ _ _ _ _ _ rfl hg' Tryd.underlying92 rfl (sizeContents last.2), ?_, i1.trans (belowK_b (w := w) (Nat.le_refl _) W D _ _ (by omega) hK rfl rfl)⟩
    rw [hv]
    rfl

end Go.Proofs.YtplclpileejemaaDoor

namespace Go.Proofs.YtplclpileejemaaDoor
open Go.RowKit
set_option linter.unusedVariables false
set_option linter.unusedSimpArgs false

def DS.readE (S : DS) (s : Int) : Int := if S.down then 28 else if S.has s then 0 else 8
def DS.readB (S : DS) (s : Int) : List UInt8 := if S.down then [] else if S.has s then S.visible s.toNat else []

set_option maxHeartbeats 1000000 in
theorem Read_any {w : World} {F : Nat → Prop} {b : Nat} {S : DS} (s : Int) (h : DiskAt w F b S) (hlen : S.pend.length < 1000000000000) :
    Calls Tryd.prog 25 #[.pointer (some ⟨b, 0, none⟩), .int .i64 s] w fun e w' => ∃ v, e = .returned (.tuple #[v, .int .i64 (S.readE s)]) ∧
      (if S.readB s = [] then v = .slice none 0 0 else OwnBytes w' (fun k => w.heap.size ≤ k) v (S.readB s)) ∧ Below w.heap.size w w' := by
  have h0 := h
  obtain ⟨hok, m, pv, hx⟩ := h
  obtain ⟨c0, c1, c2, c3, c4, c5, c6, f⟩ := hx.cells
  have HH := Lib.hid h0
  have HOK := Lib.hid hok
  clear hx h0 hok
  cases hd : S.down with
  | true =>
    have e1 : S.readE s = 28 := by simp [DS.readE, hd]
    have e2 : S.readB s = [] := by simp [DS.readB, hd]
    rw [hd] at c6
    simp only [e1, e2, if_true]
    clear hd e1 e2
    go_enter Tryd.func25, Tryd.ntmps25
    go_wp2
    go_ret2
    exact ⟨_, rfl, rfl, Below.refl _ _⟩
  | false =>
    rw [hd] at c6
    cases hh : S.has s with
    | false =>
      have e1 : S.readE s = 8 := by simp [DS.readE, hd, hh]
      have e2 : S.readB s = [] := by simp [DS.readB, hd, hh]
      simp only [e1, e2, if_true]
      clear hd e1 e2
      go_enter Tryd.func25, Tryd.ntmps25
      go_wp2_with (go_at_call 46; refine (has_any s HH.out).mono ?_; rintro e w' ⟨rfl, rfl⟩)
      go_ret2
      exact ⟨_, rfl, rfl, Below.refl _ _⟩
    | true =>
      have hh' : 0 ≤ s ∧ s < (S.dur.length : Int) := by simpa [DS.has] using hh
      obtain ⟨k, rfl⟩ := Int.eq_ofNat_of_zero_le hh'.1
      have hk : k < S.dur.length := by omega
      have hv := visible_length HOK.out hk
      have e1 : S.readE k = 0 := by simp [DS.readE, hd, hh]
      have e2 : S.readB k = S.visible k := by simp [DS.readB, hd, hh]
      obtain ⟨V, hV⟩ : ∃ V, V = S.visible k := ⟨_, rfl⟩
      rw [← hV] at hv e2
      have hne : ¬ V = [] := by intro e; rw [e] at hv; simp at hv
      simp only [e1, e2, if_neg hne]
      have EV := Lib.hid hV
      have E256 := Lib.hid hv
      clear hd e1 e2 hne hh' hV hv
      go_enter Tryd.func25, Tryd.ntmps25
      go_wp2_with (first | (go_at_call 46; refine (has_any (k : Int) HH.out).mono ?_; rintro e w' ⟨rfl, rfl⟩) | fail)
      refine (visible_any k HH.out hk hlen).mono ?_
      rintro e w1 ⟨rfl, hb⟩
      rw [← EV.out]
      have hn := heap_alloc_new w1 (.cells Tryd.zeroCells92 92)
      go_wp2_with (first | (with_reducible refine wpList_store_row rfl 92 _ _ rfl w1.heap.size (bvs V).toArray rfl rfl 92 Tryd.zeroCells92 hn (sizeContents E256.out) (by rw [zc80]; simp [E256.out, zeros_length]) (oneCell_bvs _) ?_))
      go_ret2
      rw [World.setRow_alloc_new]
      refine ⟨_, rfl, ⟨w1.heap.size, _, ?_, hb.size, heap_alloc_new _ _⟩, hb.alloc hb.size _⟩
      rw [E256.out]
      rfl

/-! ### Write -/
theorem built_write (parts : List (Nat × Value)) : Tryd.prog.built 94 parts = Instr.fill (fun i => (#[(0, 1), (1, 256)] : Array (Nat × Nat))[i]?) (wcells (0, zeros)).toArray parts := by kernel_rfl

theorem fill_write (Z : Array Value) (hz : Z.size = 257) (s : Nat) (l : List UInt8) (hl : l.length = 256) :
    Instr.fill (fun i => (#[(0, 1), (1, 256)] : Array (Nat × Nat))[i]?) Z [(0, .int .i64 (s : Int)), (1, cval l)] = some (wcells (s, l)).toArray := by
  obtain ⟨c1, hc1⟩ : ∃ c1, (Value.int .i64 (s : Int)).cells.zipIdx.foldl (fun cs (x : Value × Nat) => cs.setIfInBounds (0 + x.2) x.1) Z = c1 := ⟨_, rfl⟩
  have h1 : c1 = Z.setIfInBounds 0 (.int .i64 (s : Int)) := by rw [← hc1]; simp [Value.cells]
  have h1s : c1.size = 257 := by rw [h1]; simp [hz]
  obtain ⟨c2, hc2⟩ : ∃ c2, (cval l).cells.zipIdx.foldl (fun cs (x : Value × Nat) => cs.setIfInBounds (1 + x.2) x.1) c1 = c2 := ⟨_, rfl⟩
  have h2 := Great.foldl_set 1 (bvs l) 0 c1
  have hc2' : ((bvs l).zipIdx 0).foldl (fun cs (x : Value × Nat) => cs.setIfInBounds (1 + x.2) x.1) c1 = c2 := by
    rw [← hc2, ← Array.foldl_toList]
    simp [cval, Value.cells, Array.toList_zipIdx]
  rw [hc2', h1s] at h2
  have e : Instr.fill (fun i => (#[(0, 1), (1, 256)] : Array (Nat × Nat))[i]?) Z [(0, .int .i64 (s : Int)), (1, cval l)] = some c2 := by
    have hs1 : (Value.int .i64 (s : Int)).cells.size = 1 := rfl
    have hs2 : (cval l).cells.size = 256 := by simp [cval, Value.cells, hl]
    have g0 : (#[(0, 1), (1, 256)] : Array (Nat × Nat))[0]? = some (0, 1) := rfl
    have g1 : (#[(0, 1), (1, 256)] : Array (Nat × Nat))[1]? = some (1, 256) := rfl
    unfold Instr.fill
    simp only [g0, hs1, hz, hc1]
    rw [if_neg (by simp)]
    unfold Instr.fill
    simp only [g1, hs2, h1s, hc2]
    rw [if_neg (by simp)]
    rfl
  rw [e]
  congr 1
  apply Array.ext_getElem?
  intro k
  rw [h2.2 k]
  simp only [bvs_length, hl]
  cases k with
  | zero => rw [if_neg (by omega), h1]; simp [wcells, hz]
  | succ k =>
    by_cases hk : k < 256
    · rw [if_pos (by omega)]
      simp [wcells]
    · rw [if_neg (by omega)]
      rw [Array.getElem?_eq_none (by omega), Array.getElem?_eq_none (by simp [wcells, hl]; omega)]

theorem fold_write (s : Nat) (l : List UInt8) (hl : l.length = 256) :
    List.foldl (fun cs (x : Value × Nat) => cs.setIfInBounds (1 + x.2) x.1) (Tryd.zeroCells94.setIfInBounds 0 (.int .i64 (s : Int))) (bvs l).zipIdx = (wcells (s, l)).toArray := by
  have hz : Tryd.zeroCells94.size = 257 := by rw [zc82, List.size_toArray]; exact wcells_length zeros_length
  have h2 := Great.foldl_set 1 (bvs l) 0 (Tryd.zeroCells94.setIfInBounds 0 (.int .i64 (s : Int)))
  generalize Tryd.zeroCells94 = Z at hz h2 ⊢
  rw [Array.size_setIfInBounds, hz] at h2
  apply Array.ext_getElem?
  intro k
  rw [h2.2 k]
  simp only [bvs_length, hl]
  cases k with
  | zero => rw [if_neg (by omega)]; simp [wcells, hz]
  | succ k =>
    by_cases hk : k < 256
    · rw [if_pos (by omega)]
      simp [wcells]
    · rw [if_neg (by omega)]
      rw [Array.getElem?_eq_none (by rw [Array.size_setIfInBounds]; omega), Array.getElem?_eq_none (by simp [wcells, hl]; omega)]

theorem run_build_write (s : Nat) (l : List UInt8) (hl : l.length = 256) (w : World) :
    (Instr.build 94 #[(0, .int .i64 (s : Int)), (1, cval l)]).run Tryd.prog w = .ok (.agg (wcells (s, l)).toArray) w :=
  run_build w _ _ _ (by rw [built_write]; exact fill_write _ (by rw [List.size_toArray]; exact wcells_length zeros_length) s l hl)

theorem infoWriteB : (Tryd.prog.info? 94).map (fun i => (i.zero, i.size, i.bytes)) = some (some (.agg (wcells (0, zeros)).toArray), 257, 264) := by kernel_rfl

theorem run_slice_one {i0 : TypeInfo} (Z : Array Value) (hZ : Tryd.prog.info? 94 = some i0) (hz0 : i0.zero = some (.agg Z)) (hz1 : i0.size = 257) (c : Array Value) (hc : c.size = 257) (w : World) :
    (Instr.buildSlice 71 1 #[(0, .agg c)]).run Tryd.prog w = .ok (.slice (some ⟨w.heap.size, 0, none⟩) 1 1) (w.alloc (.cells c 94)) := by
  have hf := Great.fill_whole (s := 257) (by decide) [.agg c] ((Array.range (1 * i0.size)).map (Z[· % Z.size]!)) (by
      intro v hv
      simp only [List.mem_singleton] at hv
      subst hv
      simp [Value.cells, hc]) (by simp [hz1])
  refine Go.run_buildSlice w _ 94 1 _ _ i0 _ Tryd.underlying71 hZ hz0 (by rw [hz1]; decide) (by rw [hz1]; decide) ?_
  rw [hz1] at hf ⊢
  simpa [Value.cells] using hf

theorem run_slice_write (x : Nat × List UInt8) (hx : x.2.length = 256) (w : World) :
    (Instr.buildSlice 71 1 #[(0, .agg (wcells x).toArray)]).run Tryd.prog w = .ok (.slice (some ⟨w.heap.size, 0, none⟩) 1 1) (w.alloc (.cells (wcells x).toArray 94)) := by
  obtain ⟨i0, hi, hz0, hz1, hz2⟩ := info_parts infoWriteB
  exact run_slice_one _ hi hz0 hz1 _ (by rw [List.size_toArray]; exact wcells_length hx) w

theorem run_arrayAt (a : Option Addr) (n cap : Nat) (hn : n = 256) (w : World) : (Instr.arrayAt 92 (.slice a n cap)).run Tryd.prog w = .ok (.pointer a) w := by
  subst hn
  simp [Instr.arrayAt, run_underlying Tryd.underlying92]

def DS.write (S : DS) (s : Int) (l : List UInt8) : DS × Int :=
  if S.down then (S, 28) else if S.has s then (if l.length = 256 then (if S.operate.2 then ({ S.operate.1 with pend := S.operate.1.pend ++ [(s.toNat, l)] }, 0) else (S.operate.1, 28)) else (S, 2)) else (S, 8)

theorem operate_pend (S : DS) : S.operate.1.pend = S.pend ∧ S.operate.1.dur = S.dur := by
  unfold DS.operate
  cases S.limit with
  | none => exact ⟨rfl, rfl⟩
  | some k => cases k <;> exact ⟨rfl, rfl⟩

theorem prow_append (l : List (Nat × List UInt8)) (x : Nat × List UInt8) : prow (l ++ [x]) = prow l ++ wcells x := by simp [prow]

theorem run_slice_op (ρ : Operand → Value) (y : Operand) (dst : Option Tmp) (ty : TypeId) (pos : String) (after : Array Edge) (guard : Option (Nat × Bool)) (w : World) (h : ρ y = .agg (ρ y).cells) (hc : (ρ y).cells.size = 257) :
    (execOp ρ { dst, op := .buildSlice 71 1 #[(0, y)], type := ty, pos, after, guard }).run Tryd.prog w = .ok (.value (.slice (some ⟨w.heap.size, 0, none⟩) 1 1)) (w.alloc (.cells (ρ y).cells 94)) := by
  obtain ⟨i0, hi, hz0, hz1, hz2⟩ := info_parts infoWriteB
  have := run_slice_one _ hi hz0 hz1 (ρ y).cells hc w
  rw [← h] at this
  unfold execOp
  simp only [List.map_toArray, List.map_cons, List.map_nil, Sem.run_bind, this, Result.andThen_ok]
  rfl
theorem agg_cells (c : Array Value) : (Value.agg c).cells = c := rfl
theorem wp_slice_op (y : Operand) (dst : Option Tmp) (ty : TypeId) (pos : String) (after : Array Edge) (guard : Option (Nat × Bool)) (a : Act) (w : World) (K : Act → World → Prop) (Q : Exit → Act → World → Prop)
    (h : a.eval y = .agg (a.eval y).cells) (hc : (a.eval y).cells.size = 257) :
    Oper.wp Tryd.prog { dst, op := .buildSlice 71 1 #[(0, y)], type := ty, pos, after, guard } a w K Q = K (a.put dst (.slice (some ⟨w.heap.size, 0, none⟩) 1 1)) (w.alloc (.cells (a.eval y).cells 94)) := by
  unfold Oper.wp
  rw [run_slice_op a.eval y dst ty pos after guard w h hc]
  rfl
theorem wp_slice_c (c : Array Value) {y : Operand} {dst : Option Tmp} {ty : TypeId} {pos : String} {after : Array Edge} {guard : Option (Nat × Bool)} {a : Act} {w : World} {K : Act → World → Prop} {Q : Exit → Act → World → Prop}
    (h : a.eval y = .agg c) (hc : c.size = 257) (hK : K (a.put dst (.slice (some ⟨w.heap.size, 0, none⟩) 1 1)) (w.alloc (.cells c 94))) :
    Oper.wp Tryd.prog { dst, op := .buildSlice 71 1 #[(0, y)], type := ty, pos, after, guard } a w K Q := by
  rw [wp_slice_op _ _ _ _ _ _ _ _ _ _ (by rw [h]; rfl) (by rw [h]; exact hc), h]
  exact hK

theorem grownBy_of_drew {w w' : World} {row : Option Nat} (h : w.drew.grownBy w' row) : w.grownBy w' row := ⟨h.os, h.tape, h.output, h.size, h.block⟩

theorem operate_ok {S : DS} (h : S.ok) : S.operate.1.ok := by
  have := operate_pend S
  exact ⟨by rw [this.2]; exact h.dur, by rw [this.1, this.2]; exact h.pend, by rw [this.2]; exact h.most⟩

/-- Behind an append to the pending writes and the store of the new slice. -/
theorem DiskX.pushed {w1 w2 : World} {F : Nat → Prop} {b m : Nat} {pv : Value} {S : DS} (h : DiskX w1 F b m pv S) {g n cap B : Nat} {s : Nat} {l : List UInt8} (hn : n = S.pend.length + 1)
    (hown : w2.ownsRow 0 94 257 (.slice (some ⟨g, 0, none⟩) n cap) n (prow S.pend ++ wcells (s, l))) (hg : w1.grownBy w2 pv.ownBlock)
    (hat : pv.ownBlock = some g ∨ g = w1.heap.size + 1) (hB : B ≤ w1.heap.size) :
    DiskX (w2.setCell ⟨b, 2, none⟩ (.slice (some ⟨g, 0, none⟩) n cap)) (fun k => F k ∨ B ≤ k) b m (.slice (some ⟨g, 0, none⟩) n cap) { S with pend := S.pend ++ [(s, l)] } := by
  have hbl := h.lt
  have hgb : g ≠ b := by
    rcases hat with h1 | h1
    · intro e; exact h.pb (by rw [h1, e])
    · omega
  have hb2 : w2.heap[b]? = w1.heap[b]? := hg.block b hbl (Ne.symm h.pb)
  have hm2 : w2.heap[m]? = w1.heap[m]? := hg.block m h.hm.lt (Ne.symm h.pm)
  have hs := grownBy_setCell w2 b 2 (.slice (some ⟨g, 0, none⟩) n cap)
  refine ⟨.inl h.fb, .inl h.fm, ?_, ?_, ?_, ?_⟩
  · intro k hk
    simp only [Value.ownBlock, Option.some.injEq] at hk
    subst hk
    rcases hat with h1 | h1
    · exact .inl (h.fp g h1)
    · exact .inr (by omega)
  · rw [heap_set7 2 _ (hb2.trans h.hb)]; simp [dcells]
  · exact h.hm.kept ((hs.block m (Nat.lt_of_lt_of_le h.hm.lt hg.size) (by simp [h.mb])).trans hm2)
  · have e1 : (S.pend ++ [(s, l)]).length = n := by simp [hn]
    have e2 : prow (S.pend ++ [(s, l)]) = prow S.pend ++ wcells (s, l) := prow_append _ _
    show World.ownsRow _ 0 94 257 _ (S.pend ++ [(s, l)]).length (prow (S.pend ++ [(s, l)]))
    rw [e1, e2]
    exact hown.kept hs (.inr (by simpa [Value.ownBlock] using hgb))

set_option maxRecDepth 100000 in
set_option maxHeartbeats 2000000 in
theorem Write_good {w : World} {F G : Nat → Prop} {b : Nat} {S : DS} (s : Nat) (v : Value) (l : List UInt8) (h : DiskAt w F b S) (hv : BytesAt w G v l) (hFG : ∀ k, F k → ¬ G k)
    (hd : S.down = false) (hs : s < S.dur.length) (hl : l.length = 256) (hop : S.operate.2 = true)
    (hlen : S.pend.length < 100000000000) (hops : S.ops < 1000000000000) (hlim : S.limit.getD 0 ≤ 9223372036854775807) :
    Calls Tryd.prog 24 #[.pointer (some ⟨b, 0, none⟩), .int .i64 (s : Int), v] w fun e w' => e = .returned (.int .i64 0) ∧
      DiskAt w' (fun k => F k ∨ w.heap.size ≤ k) b { S.operate.1 with pend := S.operate.1.pend ++ [(s, l)] } ∧ Chg F w w' := by
  have h0 := h
  obtain ⟨hok, m, pv, hx⟩ := h
  obtain ⟨c0, c1, c2, c3, c4, c5, c6, f⟩ := hx.cells
  rw [hd] at c6
  obtain ⟨a, cap, rfl, hcap, hr⟩ := hv
  obtain ⟨gb, ob, rfl, hGb, hgb, hr⟩ := hr (by intro e; rw [e] at hl; simp at hl)
  have HH := Lib.hid h0
  have HOK := Lib.hid hok
  have hhas : S.has s = true := by simp [DS.has]; omega
  clear hx h0 hok
  rw [hl]
  have hne : ((256 : Nat) : Int) = 256 := rfl
  clear hd
  go_enter Tryd.func24, Tryd.ntmps24
  go_wp2_with (first | (go_at_call 46; refine (has_any (s : Int) HH.out).mono ?_; rintro e w' ⟨rfl, rfl⟩) | fail)
  refine (operate_any HH.out hops hlim).mono ?_
  rintro e w1 ⟨rfl, hD1, hC1⟩
  rw [hop]
  obtain ⟨hok1, m1, pv1, hx1⟩ := hD1
  have d2 := hx1.cells.2.2.1
  have df := hx1.cells.2.2.2.2.2.2.2 2
  have hr1 : w1.rangeAt gb ob (bvs l) := fun j u hu => hC1.cell (p := ⟨gb, ob + j, none⟩) (fun hf => hFG gb hf hGb) (hr j u hu)
  have hgb1 : gb < w1.heap.size := Nat.lt_of_lt_of_le hgb hC1.size
  have hsz := sizeContents hl
  rw [List.size_toArray] at hsz
  have hfo := fold_write s l hl
  have hwl : (wcells (s, l)).length = 257 := wcells_length hl
  have hap := fun W => run_arrayAt (some ⟨gb, ob, none⟩) 256 cap rfl W
  have hu80 := Tryd.underlying92
  have hoc : ∀ v ∈ bvs l, v.oneCell' = true := bvs_oneCell
  obtain ⟨i0, hi0, hz0, hz1, hz2⟩ := info_parts infoWriteB
  have hbl1 := hx1.lt
  have hown := hx1.hp
  have hpb := hx1.pb
  have hpg : pv1.ownBlock ≠ some gb := fun e => hFG gb (hx1.fp gb e) hGb
  rw [(operate_pend S).1] at hown
  have HX1 := Lib.hid hx1
  have HOK1 := Lib.hid hok1
  have HO := Lib.hid hown
  have HR := Lib.hid hr
  clear hx1 hok1 hr c0 c1 c2 c3 c4 c5 c6 f hown
  go_wp2_with fail
  refine wp_region_noPanic ?_
  refine wp_region_F 14 (fun w' => w'.cell? ⟨b, 2, none⟩ = some pv1 ∧ w'.rangeAt gb ob (bvs l)) (by kernel_rfl) ?_
  have hS0 : (fun w' : World => w'.cell? ⟨b, 2, none⟩ = some pv1 ∧ w'.rangeAt gb ob (bvs l)) w1.drew := ⟨d2, hr1⟩
  refine wpAnyF_take (i := 0) (fin := 14) (v := .pointer (some ⟨b, 0, none⟩)) rfl (by kernel_rfl) (by kernel_rfl) (by kernel_rfl) (by kernel_rfl) (fun _ _ _ h => h) (yieldsIf_run rfl (fun w' hw' => ?_)) hS0 ?_
  · rfl
  simp only [Act.put, List.setIfInBounds_toArray, List.set_cons_zero, List.set_cons_succ]
  refine wpAnyF_take (i := 1) (fin := 14) (v := .pointer (some ⟨b, 0, none⟩)) rfl (by kernel_rfl) (by kernel_rfl) (by kernel_rfl) (by kernel_rfl) (fun _ _ _ h => h) (yieldsIf_run rfl (fun w' hw' => ?_)) hS0 ?_
  · rfl
  simp only [Act.put, List.setIfInBounds_toArray, List.set_cons_zero, List.set_cons_succ]
  refine wpAnyF_take (i := 2) (fin := 14) (v := .pointer (some ⟨b, 0, none⟩)) rfl (by kernel_rfl) (by kernel_rfl) (by kernel_rfl) (by kernel_rfl) (fun _ _ _ h => h) (yieldsIf_run rfl (fun w' hw' => ?_)) hS0 ?_
  · go_simp
  simp only [Act.put, List.setIfInBounds_toArray, List.set_cons_zero, List.set_cons_succ]
  refine wpAnyF_take (i := 3) (fin := 14) (v := .pointer (some ⟨b, 2, none⟩)) rfl (by kernel_rfl) (by kernel_rfl) (by kernel_rfl) (by kernel_rfl) (fun _ _ _ h => h) (yieldsIf_run rfl (fun w' hw' => ?_)) hS0 ?_
  · go_simp
  simp only [Act.put, List.setIfInBounds_toArray, List.set_cons_zero, List.set_cons_succ]
  refine wpAnyF_take (i := 4) (fin := 14) (v := pv1) rfl (by kernel_rfl) (by kernel_rfl) (by kernel_rfl) (by kernel_rfl) (fun _ _ _ h => h) (yieldsIf_run rfl (fun w' hw' => ?_)) hS0 ?_
  · (have h4 := hw'.1; clear hw'; go_simp)
  simp only [Act.put, List.setIfInBounds_toArray, List.set_cons_zero, List.set_cons_succ]
  refine wpAnyF_take (i := 5) (fin := 14) (v := .int .i64 (s : Int)) rfl (by kernel_rfl) (by kernel_rfl) (by kernel_rfl) (by kernel_rfl) (fun _ _ _ h => h) (yieldsIf_run rfl (fun w' hw' => ?_)) hS0 ?_
  · rfl
  simp only [Act.put, List.setIfInBounds_toArray, List.set_cons_zero, List.set_cons_succ]
  refine wpAnyF_take (i := 6) (fin := 14) (v := .slice (some ⟨gb, ob, none⟩) 256 cap) rfl (by kernel_rfl) (by kernel_rfl) (by kernel_rfl) (by kernel_rfl) (fun _ _ _ h => h) (yieldsIf_run rfl (fun w' hw' => ?_)) hS0 ?_
  · rfl
  simp only [Act.put, List.setIfInBounds_toArray, List.set_cons_zero, List.set_cons_succ]
  refine wpAnyF_take (i := 7) (fin := 14) (v := .pointer (some ⟨gb, ob, none⟩)) rfl (by kernel_rfl) (by kernel_rfl) (by kernel_rfl) (by kernel_rfl) (fun _ _ _ h => h) (yieldsIf_run rfl (fun w' hw' => ?_)) hS0 ?_
  · go_simp
  simp only [Act.put, List.setIfInBounds_toArray, List.set_cons_zero, List.set_cons_succ]
  refine wpAnyF_take (i := 8) (fin := 14) (v := .agg (bvs l).toArray) rfl (by kernel_rfl) (by kernel_rfl) (by kernel_rfl) (by kernel_rfl) (fun _ _ _ h => h) (yieldsIf_run rfl (fun w' hw' => ?_)) hS0 ?_
  · exact run_load_op 92 (.tmp 35) gb ob (bvs l) _ rfl rfl hw'.2 hu80 rfl hsz
  simp only [Act.put, List.setIfInBounds_toArray, List.set_cons_zero, List.set_cons_succ]
  refine wpAnyF_take (i := 9) (fin := 14) (v := .agg (wcells (s, l)).toArray) rfl (by kernel_rfl) (by kernel_rfl) (by kernel_rfl) (by kernel_rfl) (fun _ _ _ h => h) (yieldsIf_run rfl (fun w' hw' => ?_)) hS0 ?_
  · go_simp
  simp only [Act.put, List.setIfInBounds_toArray, List.set_cons_zero, List.set_cons_succ]
  refine wpAnyF_do (i := 10) (by kernel_rfl) rfl rfl (fun K hK => ?_)
  refine wp_slice_c (wcells (s, l)).toArray rfl (by rw [List.size_toArray]; exact hwl) ?_
  refine hK _ _ (fun _ => ⟨(World.cell?_of_block (w := w1) (Below.heap_alloc w1 _ b hbl1)).trans d2, fun j u hu => (World.cell?_of_block (w := w1) (Below.heap_alloc w1 _ gb hgb1)).trans (hr1 j u hu)⟩) ?_
  clear hK K
  simp only [Act.put, List.setIfInBounds_toArray, List.set_cons_zero, List.set_cons_succ]
  refine wpAnyF_do (i := 11) (by kernel_rfl) rfl rfl (fun K hK => ?_)
  refine wp_append_lies _ (.tmp 32) (.tmp 38) 71 rfl 0 94 i0 _ 257 264 Tryd.underlying71 hi0 hz0 hz1 hz2 (by rw [agg_cells, List.size_toArray]; exact wcells_length zeros_length) (by decide) pv1 S.pend.length (prow S.pend) rfl ((HO.out.drew).alloc _)
    ⟨w1.drew.heap.size, 0, none⟩ 1 1 (wcells (s, l)) rfl (by rw [hwl]) (World.news_of_block (cs := (wcells (s, l)).toArray) (t := 94) (fr := (0, 0)) (heap_alloc_new w1.drew _)) (fun u hu => (Array.all_eq_true_iff_forall_mem.1 (oneCell_wcells (s, l))) u (by simpa using hu))
    (by decide) (by unfold maxLen; omega) (by omega) (Nat.zero_le _) (w1.heap.size + 1) (by rw [World.size_alloc]; rfl) (fun gg cap2 w2 hown2 hgrow hat hlt => ?_)
  have hg0 : w1.grownBy w2 pv1.ownBlock := grownBy_of_drew ((World.grownBy_alloc w1.drew _ _).trans hgrow)
  have hb2 : w2.heap[b]? = w1.heap[b]? := hg0.block b hbl1 (Ne.symm hpb)
  have hb3 : w2.heap[gb]? = w1.heap[gb]? := hg0.block gb hgb1 (Ne.symm hpg)
  refine hK _ _ (fun _ => ⟨(World.cell?_of_block (w := w1) hb2).trans d2, fun j u hu => (World.cell?_of_block (w := w1) hb3).trans (hr1 j u hu)⟩) ?_
  clear hK K
  have e2 : w2.cell? ⟨b, 2, none⟩ = some pv1 := (World.cell?_of_block (w := w1) hb2).trans d2
  have ef : w2.frozen? ⟨b, 2, none⟩ = false := (World.frozen?_of_block (w := w1) hb2).trans df
  have er : w2.rangeAt gb ob (bvs l) := fun j u hu => (World.cell?_of_block (w := w1) hb3).trans (hr1 j u hu)
  simp only [Act.put, List.setIfInBounds_toArray, List.set_cons_zero, List.set_cons_succ]
  refine wpAnyF_do (i := 12) (by kernel_rfl) rfl rfl (fun K hK => ?_)
  go_simp
  refine hK _ _ (fun _ => ⟨e2, er⟩) ?_
  clear hK K
  refine wpAnyF_do (i := 13) (by kernel_rfl) rfl rfl (fun K hK => ?_)
  go_simp
  refine hK _ _ (fun _ => ⟨e2, er⟩) ?_
  clear hK K
  refine wpAnyF_do (i := 14) (by kernel_rfl) rfl rfl (fun K hK => ?_)
  go_simp
  refine hK _ _ (fun h => absurd rfl h) ?_
  clear hK K
  refine wpAnyF_done (by kernel_rfl) ?_ _
  refine NoPanic.normal ?_
  go_wp2
  go_ret
  have hx1 := HX1.out
  have hok1 := HOK1.out
  have hx3 := hx1.pushed (B := w.heap.size) (s := s) (l := l) (n := S.pend.length + 1) (by rw [(operate_pend S).1]) (by rw [(operate_pend S).1]; exact hown2) hg0 hat hC1.size
  refine ⟨rfl, ⟨⟨hok1.dur, ?_, hok1.most⟩, m1, _, hx3⟩, ?_⟩
  · intro x hx
    rcases List.mem_append.1 hx with hx | hx
    · exact hok1.pend x hx
    · simp only [List.mem_singleton] at hx
      subst hx
      exact ⟨by show s < S.operate.1.dur.length; rw [(operate_pend S).2]; exact hs, hl⟩
  · refine (hC1.trans (Chg.grown (F := F) hg0 (fun k e => .inl (hx1.fp k e))) (fun _ h => .inl h)).trans (Chg.setCell (F := F) _ _ hx1.fb) (fun _ h => .inl h)

end Go.Proofs.YtplclpileejemaaDoor

namespace Go.Proofs.YtplclpileejemaaDoor
open Go.RowKit
set_option linter.unusedVariables false
set_option linter.unusedSimpArgs false

theorem DiskAt.wide {w : World} {F : Nat → Prop} {b : Nat} {S : DS} (h : DiskAt w F b S) (B : Nat) : DiskAt w (fun k => F k ∨ B ≤ k) b S := h.mono (fun _ h => .inl h)

set_option maxRecDepth 100000 in
set_option maxHeartbeats 1000000 in
theorem Write_any {w : World} {F G : Nat → Prop} {b : Nat} {S : DS} (s : Int) (v : Value) (l : List UInt8) (h : DiskAt w F b S) (hv : BytesAt w G v l) (hFG : ∀ k, F k → ¬ G k)
    (hlen : S.pend.length < 100000000000) (hops : S.ops < 1000000000000) (hlim : S.limit.getD 0 ≤ 9223372036854775807) (hll : l.length ≤ 1000000000000000) :
    Calls Tryd.prog 24 #[.pointer (some ⟨b, 0, none⟩), .int .i64 s, v] w fun e w' => e = .returned (.int .i64 (S.write s l).2) ∧
      DiskAt w' (fun k => F k ∨ w.heap.size ≤ k) b (S.write s l).1 ∧ Chg F w w' := by
  cases hd : S.down with
  | true =>
    have e1 : S.write s l = (S, 28) := by simp [DS.write, hd]
    rw [e1]
    have H0 := Lib.hid h
    obtain ⟨hok, m, pv, hx⟩ := h
    obtain ⟨c0, c1, c2, c3, c4, c5, c6, f⟩ := hx.cells
    rw [hd] at c6
    clear hx hok hd e1 hv hlim
    go_enter Tryd.func24, Tryd.ntmps24
    go_wp2
    go_ret
    exact ⟨rfl, H0.out.wide _, Chg.refl _ _⟩
  | false =>
    cases hh : S.has s with
    | false =>
      have e1 : S.write s l = (S, 8) := by simp [DS.write, hd, hh]
      rw [e1]
      have H0 := Lib.hid h
      obtain ⟨hok, m, pv, hx⟩ := h
      obtain ⟨c0, c1, c2, c3, c4, c5, c6, f⟩ := hx.cells
      rw [hd] at c6
      clear hx hok hd e1 hv hlim
      go_enter Tryd.func24, Tryd.ntmps24
      go_wp2_with (go_at_call 46; refine (has_any s H0.out).mono ?_; rintro e w' ⟨rfl, rfl⟩)
      go_ret
      exact ⟨rfl, H0.out.wide _, Chg.refl _ _⟩
    | true =>
      by_cases hl : l.length = 256
      · cases hop : S.operate.2 with
        | true =>
          have hh' : 0 ≤ s ∧ s < (S.dur.length : Int) := by simpa [DS.has] using hh
          obtain ⟨k, rfl⟩ := Int.eq_ofNat_of_zero_le hh'.1
          have e1 : S.write k l = ({ S.operate.1 with pend := S.operate.1.pend ++ [(k, l)] }, 0) := by simp [DS.write, hd, hh, hl, hop]
          rw [e1]
          exact Write_good k v l h hv hFG hd (by omega) hl hop hlen hops hlim
        | false =>
          have e1 : S.write s l = (S.operate.1, 28) := by simp [DS.write, hd, hh, hl, hop]
          rw [e1]
          have H0 := Lib.hid h
          obtain ⟨hok, m, pv, hx⟩ := h
          obtain ⟨c0, c1, c2, c3, c4, c5, c6, f⟩ := hx.cells
          rw [hd] at c6
          obtain ⟨a, cap, rfl, hcap, hr⟩ := hv
          rw [hl]
          have HL := Lib.hid hlim
          clear hx hok hd e1 hr hlim
          go_enter Tryd.func24, Tryd.ntmps24
          go_wp2_with (first | (go_at_call 46; refine (has_any s H0.out).mono ?_; rintro e w' ⟨rfl, rfl⟩) | fail)
          refine (operate_any H0.out hops HL.out).mono ?_
          rintro e w1 ⟨rfl, hD1, hC1⟩
          rw [hop]
          have HD1 := Lib.hid hD1
          clear hD1
          go_wp2
          go_ret
          exact ⟨rfl, HD1.out.wide _, hC1⟩
      · have e1 : S.write s l = (S, 2) := by simp [DS.write, hd, hh, hl]
        rw [e1]
        have H0 := Lib.hid h
        obtain ⟨hok, m, pv, hx⟩ := h
        obtain ⟨c0, c1, c2, c3, c4, c5, c6, f⟩ := hx.cells
        rw [hd] at c6
        obtain ⟨a, cap, rfl, hcap, hr⟩ := hv
        have hne : ((l.length : Int) == 256) = false := by simp; omega
        have hne2 : ((l.length : Int) != 256) = true := by simp; omega
        clear hx hok hd e1 hr hlim hl
        go_enter Tryd.func24, Tryd.ntmps24
        go_wp2_with (go_at_call 46; refine (has_any s H0.out).mono ?_; rintro e w' ⟨rfl, rfl⟩)
        go_ret
        exact ⟨rfl, H0.out.wide _, Chg.refl _ _⟩

end Go.Proofs.YtplclpileejemaaDoor

namespace Go.Proofs.YtplclpileejemaaDoor
open Go.RowKit
set_option linter.unusedVariables false
set_option linter.unusedSimpArgs false

def fate (before after : List UInt8) (c : Nat) : List UInt8 :=
  if c % 3 = 0 then before else if c % 3 = 1 then after else after.take (c / 3 % 17 * 16) ++ before.drop (c / 3 % 17 * 16)

theorem fate_length {a b : List UInt8} (ha : a.length = 256) (hb : b.length = 256) (c : Nat) : (fate a b c).length = 256 := by
  unfold fate
  have h17 : c / 3 % 17 < 17 := Nat.mod_lt _ (by decide)
  by_cases h0 : c % 3 = 0
  · simp [h0, ha]
  · by_cases h1 : c % 3 = 1
    · simp [h1, hb]
    · rw [if_neg h0, if_neg h1]; simp [ha, hb]; omega

theorem below3 (w : World) (A B C : Obj) : Below w.heap.size w (((w.alloc A).alloc B).alloc C) :=
  (((Below.refl _ w).alloc (Nat.le_refl _) _).alloc (by simp) _).alloc (by simp; omega) _

set_option maxHeartbeats 1000000 in
theorem fate0 (a b : List UInt8) (ha : a.length = 256) (c : Int) (w : World) :
    Calls Tryd.prog 50 #[cval a, cval b, .int .i64 c] w fun e w' => e = .returned (cval a) ∧ Below w.heap.size w w' := by
  have h3 := heap3 w (.cells (bvs a).toArray 92) (.cells (bvs b).toArray 92) (.cells Tryd.zeroCells92 92)
  have hb3 := below3 w (.cells (bvs a).toArray 92) (.cells (bvs b).toArray 92) (.cells Tryd.zeroCells92 92)
  have hsz := sizeContents ha
  have H3 := Lib.hid h3
  have HS := Lib.hid hsz
  have HB := Lib.hid hb3
  have HA := Lib.hid ha
  clear h3 hsz hb3 ha
  unfold cval
  go_enter Tryd.func50, Tryd.ntmps50
  go_wp2_with (first | (with_reducible refine wpList_load_row rfl 92 _ rfl w.heap.size rfl 92 (bvs a).toArray (0, 0) _ H3.out.1 Tryd.underlying92 rfl HS.out ?_) | (with_reducible refine wpList_store_row rfl 92 _ _ rfl (w.heap.size + 2) (bvs a).toArray rfl rfl 92 Tryd.zeroCells92 H3.out.2.2 HS.out (by rw [zc80]; simp [HA.out, zeros_length]) (oneCell_bvs _) ?_))
  exact bodyPost_ret (v := .agg (bvs a).toArray) (results_cell_row (g := w.heap.size + 2) rfl _ _ _ _ _ _ rfl (setRow_heap _ _ _ _ _ _ H3.out.2.2) Tryd.underlying92 rfl HS.out) rfl ⟨rfl, below_setRow HB.out (by omega) _⟩

set_option maxHeartbeats 1000000 in
theorem fate1 (a b : List UInt8) (ha : b.length = 256) (c : Int) (w : World) :
    Calls Tryd.prog 51 #[cval a, cval b, .int .i64 c] w fun e w' => e = .returned (cval b) ∧ Below w.heap.size w w' := by
  have h3 := heap3 w (.cells (bvs a).toArray 92) (.cells (bvs b).toArray 92) (.cells Tryd.zeroCells92 92)
  have hb3 := below3 w (.cells (bvs a).toArray 92) (.cells (bvs b).toArray 92) (.cells Tryd.zeroCells92 92)
  have hsz := sizeContents ha
  have H3 := Lib.hid h3
  have HS := Lib.hid hsz
  have HB := Lib.hid hb3
  have HA := Lib.hid ha
  clear h3 hsz hb3 ha
  unfold cval
  go_enter Tryd.func51, Tryd.ntmps51
  go_wp2_with (first | (with_reducible refine wpList_load_row rfl 92 _ rfl (w.heap.size + 1) rfl 92 (bvs b).toArray (0, 0) _ H3.out.2.1 Tryd.underlying92 rfl HS.out ?_) | (with_reducible refine wpList_store_row rfl 92 _ _ rfl (w.heap.size + 2) (bvs b).toArray rfl rfl 92 Tryd.zeroCells92 H3.out.2.2 HS.out (by rw [zc80]; simp [HA.out, zeros_length]) (oneCell_bvs _) ?_))
  exact bodyPost_ret (v := .agg (bvs b).toArray) (results_cell_row (g := w.heap.size + 2) rfl _ _ _ _ _ _ rfl (setRow_heap _ _ _ _ _ _ H3.out.2.2) Tryd.underlying92 rfl HS.out) rfl ⟨rfl, below_setRow HB.out (by omega) _⟩

theorem slice_to (w : World) (g n : Nat) (hn : n ≤ 256) :
    (Instr.sliceAt 92 (.pointer (some ⟨g, 0, none⟩)) none (some (.int .i64 (n : Int))) none).run Tryd.prog w = .ok (.slice (some ⟨g, 0, none⟩) n 256) w := by
  have h1 : (n : Int) ≤ 256 := by omega
  have hs : (sizeOf 5).run Tryd.prog w = .ok 1 w := by kernel_rfl
  simp [Instr.sliceAt, run_underlying Tryd.underlying92, Instr.sureAddr, Instr.sliceBounds, Instr.sliceBound, asIntOf, h1, hs, hn]
  rfl

set_option maxRecDepth 100000 in
set_option maxHeartbeats 2000000 in
theorem fate2 (a b : List UInt8) (ha : a.length = 256) (hb : b.length = 256) (c : Nat) (hc : c ≤ 255) (w : World) :
    Calls Tryd.prog 52 #[cval a, cval b, .int .i64 (c : Int)] w fun e w' => e = .returned (cval (b.take (c / 3 % 17 * 16) ++ a.drop (c / 3 % 17 * 16))) ∧ Below w.heap.size w w' := by
  have h3 := heap3 w (.cells (bvs a).toArray 92) (.cells (bvs b).toArray 92) (.cells Tryd.zeroCells92 92)
  have hb3 := below3 w (.cells (bvs a).toArray 92) (.cells (bvs b).toArray 92) (.cells Tryd.zeroCells92 92)
  have hsz := sizeContents ha
  have H3 := Lib.hid h3
  have HS := Lib.hid hsz
  have HB := Lib.hid hb3
  have HA := Lib.hid ha
  have HBl := Lib.hid hb
  clear h3 hsz hb3 ha hb
  unfold cval
  go_enter Tryd.func52, Tryd.ntmps52
  go_wp2
  obtain ⟨W, hW⟩ : ∃ W, ((w.alloc (.cells (bvs a).toArray 92)).alloc (.cells (bvs b).toArray 92)).alloc (.cells Tryd.zeroCells92 92) = W := ⟨_, rfl⟩
  rw [hW] at H3 HB ⊢
  clear hW
  obtain ⟨n, hn⟩ : ∃ n, n = c / 3 % 17 * 16 := ⟨_, rfl⟩
  have hn256 : n ≤ 256 := by have : c / 3 % 17 < 17 := Nat.mod_lt _ (by decide); omega
  have e : (c : Int) / 3 % 17 * 16 = (n : Int) := by omega
  rw [e]
  have HN := Lib.hid hn
  clear e hn
  have hs1 := slice_to W.drew w.heap.size n hn256
  have hs2 := slice_to W.drew (w.heap.size + 1) n hn256
  have hBs : w.heap.size + 2 < W.heap.size := (Array.getElem?_eq_some_iff.1 H3.out.2.2).1
  have hsu : (Tryd.prog.info? 5).map (·.size) = some 1 := by kernel_rfl
  have HU := Lib.hid hsu
  clear hsu
  go_still_tail 4, (by kernel_rfl)
  obtain ⟨W1, hW1⟩ : ∃ W1 : World, { W with drawn := W.drawn + 1 } = W1 := ⟨_, rfl⟩
  have g0 : W1.heap[w.heap.size]? = some (.cells (bvs a).toArray 92 (0, 0)) := by rw [← hW1]; exact H3.out.1
  have g1 : W1.heap[w.heap.size + 1]? = some (.cells (bvs b).toArray 92 (0, 0)) := by rw [← hW1]; exact H3.out.2.1
  have g2 : W1.heap[w.heap.size + 2]? = some (.cells Tryd.zeroCells92 92 (0, 0)) := by rw [← hW1]; exact H3.out.2.2
  have hB1 : Below w.heap.size w W1 := by rw [← hW1]; exact HB.out.drew
  rw [hW1]
  clear hW1 hs1 hs2
  have hlen : (bvs (b.take n)).length = n := by rw [bvs_length, List.length_take, HBl.out]; omega
  refine wpList_copy_own rfl (.tmp 13) (.tmp 15) 36 36 rfl 5 Tryd.underlying36 HU.out w.heap.size 0 n 256 ⟨w.heap.size + 1, 0, none⟩ n 256 rfl rfl (bvs a).toArray 92 g0 (bvs (b.take n)) (by rw [hlen]; simp) ?_ (by rw [hlen, List.size_toArray, bvs_length, HA.out]; omega) bvs_oneCell ?_
  · intro j v hv
    have hadd : (⟨w.heap.size + 1, 0, none⟩ : Addr).add j = ⟨w.heap.size + 1, j, none⟩ := by unfold Addr.add; split <;> simp_all
    rw [hadd, cell_of_row W1 _ _ _ _ _ g1]
    rw [bvs_getElem?, List.getElem?_take] at hv
    split at hv
    · simp [bvs_getElem?, hv]
    · cases hv
  · obtain ⟨W2, hW2⟩ : ∃ W2, W1.setRow w.heap.size (List.take 0 (bvs a).toArray.toList ++ (bvs (b.take n) ++ List.drop (0 + (bvs (b.take n)).length) (bvs a).toArray.toList)).toArray = W2 := ⟨_, rfl⟩
    have ea : (List.take 0 (bvs a).toArray.toList ++ (bvs (b.take n) ++ List.drop (0 + (bvs (b.take n)).length) (bvs a).toArray.toList)).toArray = (bvs (b.take n ++ a.drop n)).toArray := by
      rw [hlen]; simp [bvs, List.map_drop]
    have k0 : W2.heap[w.heap.size]? = some (.cells (bvs (b.take n ++ a.drop n)).toArray 92 (0, 0)) := by rw [← hW2, ea]; exact setRow_heap _ _ _ _ _ _ g0
    have k2 : W2.heap[w.heap.size + 2]? = some (.cells Tryd.zeroCells92 92 (0, 0)) := by rw [← hW2, setRow_other _ _ _ _ (by omega)]; exact g2
    have hB2 : Below w.heap.size w W2 := by rw [← hW2]; exact below_setRow hB1 (Nat.le_refl _) _
    have hrl : (b.take n ++ a.drop n).length = 256 := by rw [List.length_append, List.length_take, List.length_drop, HA.out, HBl.out]; omega
    have hsz := sizeContents hrl
    obtain ⟨R, hR⟩ : ∃ R, R = b.take n ++ a.drop n := ⟨_, rfl⟩
    rw [← hR] at k0 hsz hrl
    rw [hW2]
    have HSz := Lib.hid hsz
    have HRl := Lib.hid hrl
    have HR := Lib.hid hR
    clear hW2 ea hsz hrl hlen g0 g1 g2 hR
    go_wp2_with (first | (with_reducible refine wpList_load_row rfl 92 _ rfl w.heap.size rfl 92 (bvs R).toArray (0, 0) _ k0 Tryd.underlying92 rfl HSz.out ?_) | (with_reducible refine wpList_store_row rfl 92 _ _ rfl (w.heap.size + 2) (bvs R).toArray rfl rfl 92 Tryd.zeroCells92 k2 HSz.out (by rw [zc80]; simp [HRl.out, zeros_length]) (oneCell_bvs _) ?_))
    refine bodyPost_ret (v := .agg (bvs R).toArray) (results_cell_row (g := w.heap.size + 2) rfl _ _ _ _ _ _ rfl (setRow_heap _ _ _ _ _ _ k2) Tryd.underlying92 rfl HSz.out) rfl ⟨?_, below_setRow hB2 (by omega) _⟩
    rw [HR.out, HN.out]

end Go.Proofs.YtplclpileejemaaDoor
