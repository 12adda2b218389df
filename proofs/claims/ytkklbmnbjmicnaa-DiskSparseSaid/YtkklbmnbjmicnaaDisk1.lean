/- The device of package disk in memory (DiskAt), what its small methods do, as pure functions on an abstract state (DS). -/
import Derived.Test.YtkklbmnbjmicnaaProg
import Derived.Test.YtkklbmnbjmicnaaBase
namespace Go.Proofs.Ytkklbmnbjmicnaa
open Go.RowKit
set_option linter.unusedVariables false
set_option linter.unusedSimpArgs false

def zeros : List UInt8 := List.replicate 256 0
theorem zeros_length : zeros.length = 256 := List.length_replicate

/-- The abstract state of a device: durable contents, pending writes, number of operations, limit, whether the power has failed. -/
structure DS where
  dur : List (List UInt8)
  pend : List (Nat × List UInt8)
  ops : Nat
  limit : Option Nat
  down : Bool

structure DS.ok (S : DS) : Prop where
  dur : ∀ x ∈ S.dur, x.length = 256
  pend : ∀ x ∈ S.pend, x.1 < S.dur.length ∧ x.2.length = 256
  most : S.dur.length ≤ 4096

def wcells (x : Nat × List UInt8) : List Value := .int .i64 (x.1 : Int) :: bvs x.2
def prow (l : List (Nat × List UInt8)) : List Value := l.flatMap wcells

def dcells (S : DS) (m : Nat) (pv : Value) : Array Value :=
  #[.int .i64 (S.dur.length : Int), .map (some m), pv, .int .i64 (S.ops : Int), .bool S.limit.isSome, .int .i64 ((S.limit.getD 0 : Nat) : Int), .bool S.down]

structure DiskX (w : World) (F : Nat → Prop) (b m : Nat) (pv : Value) (S : DS) : Prop where
  fb : F b
  fm : F m
  fp : ∀ g, pv.ownBlock = some g → F g
  hb : w.heap[b]? = some (.cells (dcells S m pv) 78 (0, 0))
  hm : MapIs w m S.dur.length zeros (fun i => S.dur.getD i zeros)
  hp : w.ownsRow 0 82 257 pv S.pend.length (prow S.pend)

/-- Block b of w is a device in state S; all its blocks are in F. -/
structure DiskAt (w : World) (F : Nat → Prop) (b : Nat) (S : DS) : Prop where
  ok : S.ok
  ex : ∃ m pv, DiskX w F b m pv S

theorem grownBy_setCell (w : World) (b i : Nat) (v : Value) : w.grownBy (w.setCell ⟨b, i, none⟩ v) (some b) :=
  ⟨rfl, rfl, rfl, by simp [World.setCell], fun _ _ hk => heap_setCell_other w _ _ v (fun e => hk (by rw [e]))⟩

theorem grownBy_trans {w w1 w2 : World} {row : Option Nat} (h : w.grownBy w1 row) (k : w1.grownBy w2 row) : w.grownBy w2 row :=
  ⟨k.os.trans h.os, k.tape.trans h.tape, k.output.trans h.output, Nat.le_trans h.size k.size, fun i hi hr => (k.block i (Nat.lt_of_lt_of_le hi h.size) hr).trans (h.block i hi hr)⟩

section
variable {w w' : World} {F : Nat → Prop} {b m : Nat} {pv : Value} {S S' : DS}

theorem DiskX.lt (h : DiskX w F b m pv S) : b < w.heap.size := (Array.getElem?_eq_some_iff.1 h.hb).1
theorem DiskX.mb (h : DiskX w F b m pv S) : m ≠ b := by
  intro e
  obtain ⟨es, clock, L, hm, _⟩ := h.hm.ex
  rw [e, h.hb] at hm
  cases hm
theorem DiskX.pb (h : DiskX w F b m pv S) : pv.ownBlock ≠ some b := by
  intro e
  rcases h.hp.2 with ⟨rfl, _⟩ | ⟨g, cap, cur, rfl, _, hg, _⟩
  · cases e
  · simp [Value.ownBlock] at e
    rw [e, h.hb] at hg
    simp at hg
theorem DiskX.pm (h : DiskX w F b m pv S) : pv.ownBlock ≠ some m := by
  intro e
  obtain ⟨es, clock, L, hm, _⟩ := h.hm.ex
  rcases h.hp.2 with ⟨rfl, _⟩ | ⟨g, cap, cur, rfl, _, hg, _⟩
  · cases e
  · simp [Value.ownBlock] at e
    rw [e, hm] at hg
    cases hg

/-- Only the struct's own cells have changed. -/
theorem DiskX.step (h : DiskX w F b m pv S) (hg : w.grownBy w' (some b)) (hdur : S'.dur = S.dur) (hpend : S'.pend = S.pend)
    (hb : w'.heap[b]? = some (.cells (dcells S' m pv) 78 (0, 0))) : DiskX w' F b m pv S' :=
  ⟨h.fb, h.fm, h.fp, hb, by rw [hdur]; exact h.hm.kept (hg.block m h.hm.lt (by simp [h.mb])), by rw [hpend]; exact h.hp.kept hg (.inr h.pb)⟩

/-- What is not in F may change. -/
theorem DiskX.chg {G : Nat → Prop} (h : DiskX w F b m pv S) (hc : Chg G w w') (hd : ∀ k, F k → ¬ G k) : DiskX w' F b m pv S := by
  refine ⟨h.fb, h.fm, h.fp, (hc.block b h.lt (hd b h.fb)).trans h.hb, h.hm.kept (hc.block m h.hm.lt (hd m h.fm)), ?_⟩
  refine ⟨h.hp.1, ?_⟩
  rcases h.hp.2 with hn | ⟨g, cap, cur, rfl, hbg, hg, rest⟩
  · exact .inl hn
  · exact .inr ⟨g, cap, cur, rfl, hbg, (hc.block g (Array.getElem?_eq_some_iff.1 hg).1 (hd g (h.fp g rfl))).trans hg, rest⟩

theorem DiskAt.chg {G : Nat → Prop} (h : DiskAt w F b S) (hc : Chg G w w') (hd : ∀ k, F k → ¬ G k) : DiskAt w' F b S := by
  obtain ⟨hok, m, pv, hx⟩ := h
  exact ⟨hok, m, pv, hx.chg hc hd⟩
theorem DiskAt.below (h : DiskAt w F b S) (hc : Below w.heap.size w w') : DiskAt w' F b S :=
  h.chg (G := fun _ => False) (Chg.of_below hc) (fun _ _ h => h)
theorem DiskAt.mono {G : Nat → Prop} (h : DiskAt w F b S) (hFG : ∀ k, F k → G k) : DiskAt w G b S := by
  obtain ⟨hok, m, pv, hx⟩ := h
  exact ⟨hok, m, pv, ⟨hFG _ hx.fb, hFG _ hx.fm, fun g hg => hFG _ (hx.fp g hg), hx.hb, hx.hm, hx.hp⟩⟩

theorem cells_of {x0 x1 x2 x3 x4 x5 x6 : Value} {T : TypeId} (h : w.heap[b]? = some (.cells #[x0, x1, x2, x3, x4, x5, x6] T (0, 0))) :
    w.cell? ⟨b, 0, none⟩ = some x0 ∧ w.cell? ⟨b, 1, none⟩ = some x1 ∧ w.cell? ⟨b, 2, none⟩ = some x2 ∧ w.cell? ⟨b, 3, none⟩ = some x3 ∧ w.cell? ⟨b, 4, none⟩ = some x4 ∧ w.cell? ⟨b, 5, none⟩ = some x5 ∧
      w.cell? ⟨b, 6, none⟩ = some x6 ∧ ∀ i, w.frozen? ⟨b, i, none⟩ = false := by
  simp [World.cell?, World.frozen?, h]
theorem DiskX.cells (h : DiskX w F b m pv S) :
    w.cell? ⟨b, 0, none⟩ = some (.int .i64 (S.dur.length : Int)) ∧ w.cell? ⟨b, 1, none⟩ = some (.map (some m)) ∧ w.cell? ⟨b, 2, none⟩ = some pv ∧ w.cell? ⟨b, 3, none⟩ = some (.int .i64 (S.ops : Int)) ∧
      w.cell? ⟨b, 4, none⟩ = some (.bool S.limit.isSome) ∧ w.cell? ⟨b, 5, none⟩ = some (.int .i64 ((S.limit.getD 0 : Nat) : Int)) ∧
      w.cell? ⟨b, 6, none⟩ = some (.bool S.down) ∧ ∀ i, w.frozen? ⟨b, i, none⟩ = false := cells_of h.hb
end

/-! ### the small methods -/
def DS.operate (S : DS) : DS × Bool :=
  match S.limit with
  | some 0 => ({ S with down := true }, false)
  | some (k + 1) => ({ S with limit := some k, ops := S.ops + 1 }, true)
  | none => ({ S with ops := S.ops + 1 }, true)
def DS.has (S : DS) (s : Int) : Bool := decide (0 ≤ s ∧ s < S.dur.length)

set_option maxHeartbeats 400000 in
theorem New_bad (n : Int) (w : World) (h : n < 1 ∨ 4096 < n) :
    Calls Try.prog 13 #[.int .i64 n] w fun e w' => e = .returned (.tuple #[.pointer none, .int .i64 2]) ∧ w' = w := by
  rcases h with h | h
  · go_enter Try.func13, Try.ntmps13
    go_wp2
    go_ret2
    exact ⟨rfl, rfl⟩
  · have h1 : ¬ n < 1 := by omega
    go_enter Try.func13, Try.ntmps13
    go_wp2
    go_ret2
    exact ⟨rfl, rfl⟩

def newDS (n : Nat) : DS := { dur := List.replicate n zeros, pend := [], ops := 0, limit := none, down := false }

set_option maxHeartbeats 400000 in
theorem New_good0 (n : Int) (w : World) (h1 : ¬ n < 1) (h2 : ¬ 4096 < n) :
    Calls Try.prog 13 #[.int .i64 n] w fun e w' => e = .returned (.tuple #[.pointer (some ⟨w.heap.size + 1, 0, none⟩), .int .i64 0]) ∧
      w' = (w.alloc (.map #[] 0)).alloc (.cells #[.int .i64 n, .map (some w.heap.size), .slice none 0 0, .int .i64 0, .bool false, .int .i64 0, .bool false] 78) := by
  have hmm := @run_makeMap Try.prog
  go_enter Try.func13, Try.ntmps13
  go_wp2
  go_ret2
  exact ⟨rfl, rfl⟩

theorem newDS_ok (n : Nat) (h2 : n ≤ 4096) : (newDS n).ok :=
  ⟨fun x hx => by rw [(List.mem_replicate.1 hx).2]; exact zeros_length, fun x hx => by simp [newDS] at hx, by simpa [newDS] using h2⟩

theorem New_good (n : Nat) (w : World) (h1 : 1 ≤ n) (h2 : n ≤ 4096) :
    Calls Try.prog 13 #[.int .i64 (n : Int)] w fun e w' => e = .returned (.tuple #[.pointer (some ⟨w.heap.size + 1, 0, none⟩), .int .i64 0]) ∧
      DiskAt w' (fun k => w.heap.size ≤ k) (w.heap.size + 1) (newDS n) ∧ Below w.heap.size w w' := by
  refine (New_good0 n w (by omega) (by omega)).mono ?_
  rintro e w' ⟨rfl, rfl⟩
  refine ⟨rfl, ⟨newDS_ok n h2, w.heap.size, .slice none 0 0, by simp, by simp, by simp [Value.ownBlock], ?_, ?_, World.ownsRow_nil _ _ _ _⟩, ((Below.refl _ _).alloc (Nat.le_refl _) _).alloc (by simp) _⟩
  · rw [heap_alloc2_new]
    simp [dcells, newDS]
  · refine ⟨#[], 0, [], heap_alloc2_old _ _ _, ⟨by simp, by simp⟩, by simp, ?_, stamped_empty⟩
    intro i hi
    simp [newDS] at hi
    simp [newDS, assoc, List.getD, hi]

set_option maxHeartbeats 400000 in
theorem Sectors_any {w : World} {F : Nat → Prop} {b : Nat} {S : DS} (h : DiskAt w F b S) :
    Calls Try.prog 14 #[.pointer (some ⟨b, 0, none⟩)] w fun e w' => e = .returned (.int .i64 (S.dur.length : Int)) ∧ w = w' := by
  obtain ⟨hok, m, pv, hx⟩ := h
  obtain ⟨c0, c1, c2, c3, c4, c5, c6, f⟩ := hx.cells
  clear hx
  go_enter Try.func14, Try.ntmps14
  go_wp2
  go_ret
  exact ⟨rfl, rfl⟩

set_option maxHeartbeats 400000 in
theorem Operations_any {w : World} {F : Nat → Prop} {b : Nat} {S : DS} (h : DiskAt w F b S) :
    Calls Try.prog 15 #[.pointer (some ⟨b, 0, none⟩)] w fun e w' => e = .returned (.int .i64 (S.ops : Int)) ∧ w = w' := by
  obtain ⟨hok, m, pv, hx⟩ := h
  obtain ⟨c0, c1, c2, c3, c4, c5, c6, f⟩ := hx.cells
  clear hx
  go_enter Try.func15, Try.ntmps15
  go_wp2
  go_ret
  exact ⟨rfl, rfl⟩

set_option maxHeartbeats 400000 in
theorem Down_any {w : World} {F : Nat → Prop} {b : Nat} {S : DS} (h : DiskAt w F b S) :
    Calls Try.prog 16 #[.pointer (some ⟨b, 0, none⟩)] w fun e w' => e = .returned (.bool S.down) ∧ w = w' := by
  obtain ⟨hok, m, pv, hx⟩ := h
  obtain ⟨c0, c1, c2, c3, c4, c5, c6, f⟩ := hx.cells
  clear hx
  go_enter Try.func16, Try.ntmps16
  go_wp2
  all_goals
    go_ret
    exact ⟨rfl, rfl⟩

set_option maxHeartbeats 400000 in
theorem has_any {w : World} {F : Nat → Prop} {b : Nat} {S : DS} (s : Int) (h : DiskAt w F b S) :
    Calls Try.prog 38 #[.pointer (some ⟨b, 0, none⟩), .int .i64 s] w fun e w' => e = .returned (.bool (S.has s)) ∧ w = w' := by
  obtain ⟨hok, m, pv, hx⟩ := h
  obtain ⟨c0, c1, c2, c3, c4, c5, c6, f⟩ := hx.cells
  clear hx
  unfold DS.has
  by_cases h1 : 0 ≤ s
  · by_cases h2 : s < (S.dur.length : Int)
    · go_enter Try.func38, Try.ntmps38
      go_wp2
      go_ret
      exact ⟨by simp [h1, h2], rfl⟩
    · go_enter Try.func38, Try.ntmps38
      go_wp2
      go_ret
      exact ⟨by simp [h1, h2], rfl⟩
  · have : decide (0 ≤ s) = false := by simpa using h1
    go_enter Try.func38, Try.ntmps38
    go_wp2
    go_ret
    exact ⟨by simp [h1], rfl⟩

theorem heap_set7 {w : World} {b : Nat} {S : DS} {m : Nat} {pv : Value} {T : TypeId} (i : Nat) (v : Value) (h : w.heap[b]? = some (.cells (dcells S m pv) T (0, 0))) :
    (w.setCell ⟨b, i, none⟩ v).heap[b]? = some (.cells ((dcells S m pv).setIfInBounds i v) T (0, 0)) := heap_setCell_same w b i _ T v h

set_option maxHeartbeats 1000000 in
theorem operate_any {w : World} {F : Nat → Prop} {b : Nat} {S : DS} (h : DiskAt w F b S) (hops : S.ops < 1000000000000) (hlim : S.limit.getD 0 ≤ 9223372036854775807) :
    Calls Try.prog 40 #[.pointer (some ⟨b, 0, none⟩)] w fun e w' => e = .returned (.bool S.operate.2) ∧ DiskAt w' F b S.operate.1 ∧ Chg F w w' := by
  obtain ⟨hok, m, pv, hx⟩ := h
  obtain ⟨c0, c1, c2, c3, c4, c5, c6, f⟩ := hx.cells
  have fb := hx.fb
  cases hl : S.limit with
  | none =>
    rw [hl] at c4 c5
    simp only [Option.isSome_none, Option.getD_none] at c4 c5
    have HX := Lib.hid hx
    have HL := Lib.hid hl
    have HO := Lib.hid hok
    clear hx hl hok
    go_enter Try.func40, Try.ntmps40
    go_wp2
    go_ret
    have hx := HX.out
    have hl := HL.out
    refine ⟨by simp [DS.operate, hl], ⟨?_, m, pv, hx.step (grownBy_setCell w b 3 _) ?_ ?_ ?_⟩, Chg.setCell w _ fb⟩
    · have := HO.out; simp only [DS.operate, hl]; exact ⟨this.dur, this.pend, this.most⟩
    · simp [DS.operate, hl]
    · simp [DS.operate, hl]
    · rw [heap_set7 3 _ hx.hb]; simp [dcells, DS.operate, hl]
  | some k =>
    rw [hl] at c4 c5
    rw [hl] at hlim
    simp only [Option.isSome_some, Option.getD_some] at c4 c5 hlim
    have HX := Lib.hid hx
    have HL := Lib.hid hl
    have HO := Lib.hid hok
    clear hx hl hok
    cases k with
    | zero =>
      simp only [Int.natCast_zero, Int.cast_ofNat_Int] at c5
      go_enter Try.func40, Try.ntmps40
      go_wp2
      go_ret
      have hx := HX.out
      have hl := HL.out
      refine ⟨by simp [DS.operate, hl], ⟨?_, m, pv, hx.step (grownBy_setCell w b 6 _) ?_ ?_ ?_⟩, Chg.setCell w _ fb⟩
      · have := HO.out; simp only [DS.operate, hl]; exact ⟨this.dur, this.pend, this.most⟩
      · simp [DS.operate, hl]
      · simp [DS.operate, hl]
      · rw [heap_set7 6 _ hx.hb]; simp [dcells, DS.operate, hl]
    | succ k =>
      obtain ⟨x, hxe⟩ : ∃ x : Int, x = ((k + 1 : Nat) : Int) := ⟨_, rfl⟩
      rw [← hxe] at c5
      have hk0 : (x == 0) = false := by simp; omega
      have hk1 : 1 ≤ x := by omega
      have hk2 : x ≤ 9223372036854775807 := by omega
      have HXE := Lib.hid hxe
      clear hxe hlim
      go_enter Try.func40, Try.ntmps40
      go_wp2
      go_ret
      have hxe := HXE.out
      have hx := HX.out
      have hl := HL.out
      refine ⟨by simp [DS.operate, hl], ⟨?_, m, pv, hx.step (grownBy_trans (grownBy_setCell w b 5 _) (grownBy_setCell _ b 3 _)) ?_ ?_ ?_⟩, (Chg.setCell w _ fb).trans (Chg.setCell (F := F) _ _ fb) (fun _ h => .inl h)⟩
      · have := HO.out; simp only [DS.operate, hl]; exact ⟨this.dur, this.pend, this.most⟩
      · simp [DS.operate, hl]
      · simp [DS.operate, hl]
      · rw [heap_setCell_same _ b 3 _ _ _ (heap_set7 5 _ hx.hb)]; simp [dcells, DS.operate, hl]; omega

end Go.Proofs.Ytkklbmnbjmicnaa
