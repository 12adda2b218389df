/- How an argument's reading opens: bytes, parts, records. -/
import Derived.Test.YtloaenknhkfaeaaDoorRec12
import Derived.Test.YtloaenknhkfaeaaDoorRow
import Derived.ProofKit
import Derived.OpenShut
import Derived.Deep.Slices
namespace Go.Proofs.YtloaenknhkfaeaaDoor
open Go.RowKit Go.ChangeShapes Go.WideShapes Go.ChangeAt Go.Deep
set_option linter.unusedVariables false
set_option linter.unusedSimpArgs false

theorem cellsOf_u8 : Tryd.prog.cellsOf 5 = 1 := by kernel_rfl
theorem cellsOf_int : Tryd.prog.cellsOf 3 = 1 := by kernel_rfl
theorem cellsOf_bytes : Tryd.prog.cellsOf 22 = 1 := by kernel_rfl
theorem cellsOf_Part : Tryd.prog.cellsOf 24 = 6 := by kernel_rfl
theorem cellsOf_Record : Tryd.prog.cellsOf 49 = 4 := by kernel_rfl

section
variable {H : Type} {enc : TypeId × Value → H} {w : World} {base : Nat} {sp : Nat → Bool} {held : Bool} {fuel : Nat}

theorem trod_u8 {v : Value} {x : DataW H × List MemPlace}
    (h : DataW.trod enc Tryd.prog w base sp held fuel 5 [v] = some x) : ∃ b : UInt8, v = bv b := by
  obtain ⟨n, e, _, hw⟩ := DataW.trod_int Tryd.underlying5 h
  have hb : 0 ≤ n ∧ n ≤ 255 := bounds_u8 hw
  obtain ⟨k, rfl⟩ := Int.eq_ofNat_of_zero_le hb.1
  refine ⟨UInt8.ofNat k, ?_⟩
  have : v = .int .u8 (k : Int) := by simpa using e
  rw [this]
  unfold bv
  simp only [UInt8.toNat_ofNat']
  rw [Nat.mod_eq_of_lt (by omega)]

theorem trod_i64 {v : Value} {x : DataW H × List MemPlace}
    (h : DataW.trod enc Tryd.prog w base sp held fuel 3 [v] = some x) : ∃ n : Int, v = .int .i64 n ∧ -9223372036854775808 ≤ n ∧ n ≤ 9223372036854775807 := by
  obtain ⟨n, e, _, hw⟩ := DataW.trod_int Tryd.underlying3 h
  exact ⟨n, by simpa using e, bounds_i64 hw⟩

theorem trod_bytesN {v : Value} {x : DataW H × List MemPlace}
    (h : DataW.trod enc Tryd.prog w base sp held fuel 22 [v] = some x) : ∃ a len cap l, v = .slice a len cap ∧ l.length = len ∧ len ≤ maxLen ∧ BytesN w (fun _ => True) v l := by
  rcases open_slice1 Tryd.underlying22 cellsOf_u8 h with ⟨hcs, _⟩ | ⟨a, len, cap, m, n, V, D, Pl, hcs, _, hl, hcm, hm, _, hx⟩
  · simp only [List.cons.injEq, and_true] at hcs
    subst hcs
    exact ⟨none, 0, 0, [], rfl, rfl, Nat.zero_le _, bytesAt_nil _ _, fun k c e => by cases e; rfl⟩
  · simp only [List.cons.injEq, and_true] at hcs
    subst hcs
    have hml : len ≤ m := by rw [hm]; split <;> omega
    obtain ⟨B, hB⟩ := choose_lt (α := UInt8) (p := fun i b => V i = bv b) (n := len) (fun i hi => trod_u8 (hx i (Nat.lt_of_lt_of_le hi hml)).2)
    have hlen : ((List.range len).map B).length = len := by simp
    refine ⟨some a, len, cap, (List.range len).map B, rfl, hlen, by omega, ⟨some a, cap, by rw [hlen], by rw [hlen]; exact hl, fun hne => ?_⟩, fun k c e => by cases e⟩
    have hpos : 0 < len := by
      rcases Nat.eq_zero_or_pos len with h0 | h0
      · subst h0; exact absurd rfl hne
      · exact h0
    obtain ⟨g, off, spot⟩ := a
    have h0 := (hx 0 (by omega)).1
    have hspot : spot = none := by simpa [Addr.add] using World.cell?_spot h0
    subst hspot
    refine ⟨g, off, rfl, trivial, ?_, ?_⟩
    · have := World.block_lt_of_cell? w _ h0
      simpa [Addr.add] using this
    · intro j u hj
      have hjl : j < len := by have := (List.getElem?_eq_some_iff.1 hj).1; simpa using this
      have h1 := (hx j (Nat.lt_of_lt_of_le hjl hml)).1
      have hadd : (⟨g, off, none⟩ : Addr).add j = ⟨g, off + j, none⟩ := by unfold Addr.add; split <;> simp_all
      rw [hadd] at h1
      rw [h1, hB j hjl]
      rw [bvs_getElem?, List.getElem?_map, List.getElem?_range hjl] at hj
      simpa using hj

/-- The cells of a part's five numbers and its slice. -/
theorem trod_part {cs : List Value} {x : DataW H × List MemPlace}
    (h : DataW.trod enc Tryd.prog w base sp held fuel 24 cs = some x) (hlen : cs.length = 6) :
    ∃ (p : PartD) (a : Option Addr) (cap : Nat), cs = [.int .i64 p.kind, .int .i64 p.gen, .int .i64 p.num, .int .i64 p.idx, .int .i64 p.cnt, .slice a p.bytes.length cap] ∧ p.bytes.length ≤ maxLen ∧ BytesN w (fun _ => True) (.slice a p.bytes.length cap) p.bytes := by
  match cs, hlen with
  | [v0, v1, v2, v3, v4, v5], _ =>
    obtain ⟨xs, k, hk, hxy, _, hxl, hf⟩ := DataW.trod_struct Tryd.underlying24 h
    have hxl6 : xs.length = 6 := hxl
    match xs, hxl6 with
    | [y0, y1, y2, y3, y4, y5], _ =>
      have g0 := hf 0 _ rfl
      have g1 := hf 1 _ rfl
      have g2 := hf 2 _ rfl
      have g3 := hf 3 _ rfl
      have g4 := hf 4 _ rfl
      have g5 := hf 5 _ rfl
      simp [cellsOf_int, cellsOf_bytes] at g0 g1 g2 g3 g4 g5
      obtain ⟨n0, rfl, _⟩ := trod_i64 g0
      obtain ⟨n1, rfl, _⟩ := trod_i64 g1
      obtain ⟨n2, rfl, _⟩ := trod_i64 g2
      obtain ⟨n3, rfl, _⟩ := trod_i64 g3
      obtain ⟨n4, rfl, _⟩ := trod_i64 g4
      obtain ⟨a, len, cap, l, rfl, hl, hm, hb⟩ := trod_bytesN g5
      subst hl
      exact ⟨⟨n0, n1, n2, n3, n4, l⟩, a, cap, rfl, hm, hb⟩

theorem trod_record {cs : List Value} {x : DataW H × List MemPlace}
    (h : DataW.trod enc Tryd.prog w base sp held fuel 49 cs = some x) (hlen : cs.length = 4) :
    ∃ (k g n : Int) (l : List UInt8) (a : Option Addr) (cap : Nat), cs = [.int .i64 k, .int .i64 g, .int .i64 n, .slice a l.length cap] ∧ l.length ≤ maxLen ∧ BytesN w (fun _ => True) (.slice a l.length cap) l := by
  match cs, hlen with
  | [v0, v1, v2, v3], _ =>
    obtain ⟨xs, k, hk, hxy, _, hxl, hf⟩ := DataW.trod_struct Tryd.underlying49 h
    have hxl6 : xs.length = 4 := hxl
    match xs, hxl6 with
    | [y0, y1, y2, y3], _ =>
      have g0 := hf 0 _ rfl
      have g1 := hf 1 _ rfl
      have g2 := hf 2 _ rfl
      have g3 := hf 3 _ rfl
      simp [cellsOf_int, cellsOf_bytes] at g0 g1 g2 g3
      obtain ⟨n0, rfl, _⟩ := trod_i64 g0
      obtain ⟨n1, rfl, _⟩ := trod_i64 g1
      obtain ⟨n2, rfl, _⟩ := trod_i64 g2
      obtain ⟨a, len, cap, l, rfl, hl, hm, hb⟩ := trod_bytesN g3
      subst hl
      exact ⟨n0, n1, n2, l, a, cap, rfl, hm, hb⟩
end
end Go.Proofs.YtloaenknhkfaeaaDoor
