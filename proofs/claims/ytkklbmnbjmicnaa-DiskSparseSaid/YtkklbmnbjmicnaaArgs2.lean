/- How an argument's reading opens: bytes, slices of operations. -/
import Derived.Test.YtkklbmnbjmicnaaDo2
import Derived.Test.YtkklbmnbjmicnaaArgs
namespace Go.Proofs.Ytkklbmnbjmicnaa
open Go.RowKit Go.ChangeShapes Go.WideShapes Go.ChangeAt Go.Deep
set_option linter.unusedVariables false
set_option linter.unusedSimpArgs false

theorem cellsOf_u8 : Try.prog.cellsOf 5 = 1 := by kernel_rfl
theorem cellsOf_int : Try.prog.cellsOf 3 = 1 := by kernel_rfl
theorem cellsOf_bytes : Try.prog.cellsOf 30 = 1 := by kernel_rfl
theorem cellsOf_Op : Try.prog.cellsOf 61 = 6 := by kernel_rfl

theorem addr_plain (g off j : Nat) : (⟨g, off, none⟩ : Addr).add j = ⟨g, off + j, none⟩ := by unfold Addr.add; split <;> simp_all

theorem trod_u8 {H : Type} {enc : TypeId × Value → H} {w : World} {base : Nat} {sp : Nat → Bool} {held : Bool} {fuel : Nat} {v : Value} {x : DataW H × List MemPlace}
    (h : DataW.trod enc Try.prog w base sp held fuel 5 [v] = some x) : ∃ b : UInt8, v = bv b := by
  obtain ⟨n, e, _, hw⟩ := DataW.trod_int Try.underlying5 h
  have hb : 0 ≤ n ∧ n ≤ 255 := bounds_u8 hw
  obtain ⟨k, rfl⟩ := Int.eq_ofNat_of_zero_le hb.1
  refine ⟨UInt8.ofNat k, ?_⟩
  have : v = .int .u8 (k : Int) := by simpa using e
  rw [this]
  unfold bv
  simp only [UInt8.toNat_ofNat']
  rw [Nat.mod_eq_of_lt (by omega)]

theorem trod_bytes {H : Type} {enc : TypeId × Value → H} {w : World} {base : Nat} {sp : Nat → Bool} {held : Bool} {fuel : Nat} {v : Value} {x : DataW H × List MemPlace}
    (h : DataW.trod enc Try.prog w base sp held fuel 30 [v] = some x) : ∃ l : List UInt8, l.length ≤ maxLen ∧ BytesAt w (fun _ => True) v l := by
  rcases open_slice1 Try.underlying30 cellsOf_u8 h with ⟨hcs, _⟩ | ⟨a, len, cap, m, n, V, D, Pl, hcs, _, hl, hcm, hm, _, hx⟩
  · simp only [List.cons.injEq, and_true] at hcs
    subst hcs
    exact ⟨[], Nat.zero_le _, bytesAt_nil _ _⟩
  · simp only [List.cons.injEq, and_true] at hcs
    subst hcs
    have hml : len ≤ m := by rw [hm]; split <;> omega
    obtain ⟨B, hB⟩ := choose_lt (α := UInt8) (p := fun i b => V i = bv b) (n := len) (fun i hi => trod_u8 (hx i (Nat.lt_of_lt_of_le hi hml)).2)
    have hlen : ((List.range len).map B).length = len := by simp
    refine ⟨(List.range len).map B, by rw [hlen]; omega, some a, cap, by rw [hlen], by rw [hlen]; exact hl, fun hne => ?_⟩
    have hpos : 0 < len := by
      rcases Nat.eq_zero_or_pos len with h0 | h0
      · subst h0; exact absurd rfl hne
      · exact h0
    obtain ⟨g, off, spot⟩ := a
    have h0 := (hx 0 (by omega)).1
    have hspot : spot = none := by simpa [Addr.add] using World.cell?_spot h0
    subst hspot
    refine ⟨g, off, rfl, trivial, ?_, ?_⟩
    · have := World.block_lt_of_cell? w _ h0
      simpa [Addr.add] using this
    · intro j u hj
      have hjl : j < len := by have := (List.getElem?_eq_some_iff.1 hj).1; simpa using this
      have h1 := (hx j (Nat.lt_of_lt_of_le hjl hml)).1
      rw [addr_plain] at h1
      rw [h1, hB j hjl]
      rw [bvs_getElem?, List.getElem?_map, List.getElem?_range hjl] at hj
      simpa using hj

theorem trod_int64 {H : Type} {enc : TypeId × Value → H} {w : World} {base : Nat} {sp : Nat → Bool} {held : Bool} {fuel : Nat} {v : Value} {x : DataW H × List MemPlace}
    (h : DataW.trod enc Try.prog w base sp held fuel 3 [v] = some x) : ∃ n : Int, v = .int .i64 n ∧ n ≤ 9223372036854775807 := by
  obtain ⟨n, e, _, hw⟩ := DataW.trod_int Try.underlying3 h
  have hb : -9223372036854775808 ≤ n ∧ n ≤ 9223372036854775807 := bounds_i64 hw
  exact ⟨n, by simpa using e, hb.2⟩

theorem trod_op {H : Type} {enc : TypeId × Value → H} {w : World} {base : Nat} {sp : Nat → Bool} {held : Bool} {fuel : Nat} {cs : List Value} {x : DataW H × List MemPlace}
    (h : DataW.trod enc Try.prog w base sp held fuel 61 cs = some x) (hlen : cs.length = 6) :
    ∃ (o : OpD) (cv : Value), cs = [.int .i64 o.kind, .int .i64 o.s, .int .i64 o.a, .int .u8 (o.f.toNat : Int), .int .u8 (o.t.toNat : Int), cv] ∧ BytesAt w (fun _ => True) cv o.cs ∧ o.a ≤ 9223372036854775807 ∧ o.cs.length ≤ 9223372036854775807 := by
  match cs, hlen with
  | [v0, v1, v2, v3, v4, v5], _ =>
    obtain ⟨xs, k, hk, hxy, _, hxl, hf⟩ := DataW.trod_struct Try.underlying61 h
    have hxl6 : xs.length = 6 := hxl
    match xs, hxl6 with
    | [y0, y1, y2, y3, y4, y5], _ =>
      have g0 := hf 0 _ rfl
      have g1 := hf 1 _ rfl
      have g2 := hf 2 _ rfl
      have g3 := hf 3 _ rfl
      have g4 := hf 4 _ rfl
      have g5 := hf 5 _ rfl
      simp [cellsOf_int, cellsOf_u8, cellsOf_bytes] at g0 g1 g2 g3 g4 g5
      obtain ⟨n0, rfl, _⟩ := trod_int64 g0
      obtain ⟨n1, rfl, _⟩ := trod_int64 g1
      obtain ⟨n2, rfl, h2⟩ := trod_int64 g2
      obtain ⟨b3, rfl⟩ := trod_u8 g3
      obtain ⟨b4, rfl⟩ := trod_u8 g4
      obtain ⟨l, hl, hb⟩ := trod_bytes g5
      exact ⟨⟨n0, n1, n2, b3, b4, l⟩, v5, rfl, hb, h2, by unfold maxLen at hl; omega⟩

instance : Inhabited (OpD × Value) := ⟨(⟨0, 0, 0, 0, 0, []⟩, .nilFunc)⟩

theorem trod_ops {H : Type} {enc : TypeId × Value → H} {w : World} {base : Nat} {sp : Nat → Bool} {held : Bool} {fuel : Nat} {v : Value} {x : DataW H × List MemPlace}
    (h : DataW.trod enc Try.prog w base sp held fuel 40 [v] = some x) : ∃ l : List OpD, OpsAt w (fun _ => True) v l ∧ l.length ≤ maxLen ∧ ∀ o ∈ l, o.a ≤ 9223372036854775807 ∧ o.cs.length ≤ 9223372036854775807 := by
  rcases open_slice Try.underlying40 h with ⟨hcs, _⟩ | ⟨a, len, cap, m, n, D, Pl, hcs, _, hl, hcm, hm, _, hx⟩
  · simp only [List.cons.injEq, and_true] at hcs
    subst hcs
    exact ⟨[], ⟨none, 0, rfl, Nat.le_refl _, fun h => absurd rfl h⟩, Nat.zero_le _, by simp⟩
  · simp only [List.cons.injEq, and_true] at hcs
    subst hcs
    have hml : len ≤ m := by rw [hm]; split <;> omega
    have each : ∀ i, i < len → ∃ q : OpD × Value, w.cells? base (a.add (i * 6)) 6 = some [.int .i64 q.1.kind, .int .i64 q.1.s, .int .i64 q.1.a, .int .u8 (q.1.f.toNat : Int), .int .u8 (q.1.t.toNat : Int), q.2] ∧ BytesAt w (fun _ => True) q.2 q.1.cs ∧
        q.1.a ≤ 9223372036854775807 ∧ q.1.cs.length ≤ 9223372036854775807 := fun i hi => by
      obtain ⟨cs', h1, h2⟩ := hx i (Nat.lt_of_lt_of_le hi hml)
      rw [cellsOf_Op] at h1
      obtain ⟨_, hlen, _⟩ := World.cells?_some h1
      obtain ⟨o, cv, rfl, hb, h3, h4⟩ := trod_op h2 hlen
      exact ⟨(o, cv), h1, hb, h3, h4⟩
    obtain ⟨Q, hQ⟩ := choose_lt (α := OpD × Value) each
    have hlen : ((List.range len).map fun i => (Q i).1).length = len := by simp
    refine ⟨(List.range len).map fun i => (Q i).1, ⟨some a, cap, by rw [hlen], by rw [hlen]; exact hl, fun hne => ?_⟩, by rw [hlen]; omega, fun o ho => ?_⟩
    · have hpos : 0 < len := by
        rcases Nat.eq_zero_or_pos len with h0 | h0
        · subst h0; exact absurd rfl hne
        · exact h0
      obtain ⟨g, off, spot⟩ := a
      have h0 := (World.cells?_some (hQ 0 hpos).1).2.2 0 (by decide)
      have hspot : spot = none := by simpa [Addr.add] using World.cell?_spot h0
      subst hspot
      refine ⟨g, off, rfl, trivial, ?_, fun i hi => ?_⟩
      · have := World.block_lt_of_cell? w _ h0
        simpa [Addr.add] using this
      · have hi' : i < len := by simpa using hi
        obtain ⟨h1, hb, _⟩ := hQ i hi'
        refine ⟨(Q i).2, ?_, by simpa using hb⟩
        simp only [List.getElem_map, List.getElem_range]
        obtain ⟨_, _, hc⟩ := World.cells?_some h1
        intro j u hj
        have hj6 : j < 6 := (List.getElem?_eq_some_iff.1 hj).1
        have := hc j hj6
        rw [addr_plain, addr_plain] at this
        rw [this]
        exact hj
    · obtain ⟨i, hi, rfl⟩ := List.mem_map.1 ho
      exact (hQ i (List.mem_range.1 hi)).2.2

theorem OpsAt.le {w : World} {v : Value} {l : List OpD} (h : OpsAt w (fun _ => True) v l) : OpsAt w (fun k => k < w.heap.size) v l := by
  obtain ⟨a, cap, rfl, hc, hr⟩ := h
  refine ⟨a, cap, rfl, hc, fun hne => ?_⟩
  obtain ⟨g, off, rfl, _, hg, hx⟩ := hr hne
  refine ⟨g, off, rfl, hg, hg, fun i hi => ?_⟩
  obtain ⟨cv, h1, h2⟩ := hx i hi
  exact ⟨cv, h1, h2.mono' (fun k hk _ => hk)⟩
theorem OpsAt.kept {w w' : World} {C F : Nat → Prop} {v : Value} {l : List OpD} (h : OpsAt w C v l) (hc : Chg F w w') (hd : ∀ k, C k → ¬ F k) : OpsAt w' C v l := by
  obtain ⟨a, cap, rfl, hcp, hr⟩ := h
  refine ⟨a, cap, rfl, hcp, fun hne => ?_⟩
  obtain ⟨g, off, rfl, hC, hg, hx⟩ := hr hne
  refine ⟨g, off, rfl, hC, Nat.lt_of_lt_of_le hg hc.size, fun i hi => ?_⟩
  obtain ⟨cv, h1, h2⟩ := hx i hi
  exact ⟨cv, fun j u hj => hc.cell (p := ⟨g, off + i * 6 + j, none⟩) (hd g hC) (h1 j u hj), h2.kept hc hd⟩

end Go.Proofs.Ytkklbmnbjmicnaa
