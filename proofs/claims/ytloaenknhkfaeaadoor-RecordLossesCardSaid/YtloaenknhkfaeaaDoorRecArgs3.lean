/- How an argument's reading opens: lists of bytes, runs of records. -/
import Derived.Test.YtloaenknhkfaeaaDoorRecArgs2
import Derived.Test.YtloaenknhkfaeaaDoorRec35
namespace Go.Proofs.YtloaenknhkfaeaaDoor
open Go.RowKit Go.ChangeShapes Go.WideShapes Go.ChangeAt Go.Deep
set_option linter.unusedVariables false
set_option linter.unusedSimpArgs false

theorem cellsOf_Run : Tryd.prog.cellsOf 75 = 6 := by kernel_rfl
theorem cellsOf_lists : Tryd.prog.cellsOf 52 = 1 := by kernel_rfl
theorem cellsOf_descs : Tryd.prog.cellsOf 67 = 1 := by kernel_rfl

section
variable {H : Type} {enc : TypeId × Value → H} {w : World} {base : Nat} {sp : Nat → Bool} {held : Bool} {fuel : Nat}

theorem trod_lists {v : Value} {x : DataW H × List MemPlace}
    (h : DataW.trod enc Tryd.prog w base sp held fuel 52 [v] = some x) : ∃ L : List (List UInt8), SecsAt w v L := by
  rcases open_slice1 Tryd.underlying52 cellsOf_bytes h with ⟨hcs, _⟩ | ⟨a, len, cap, m, n, V, D, Pl, hcs, _, hl, hcm, hm, _, hx⟩
  · simp only [List.cons.injEq, and_true] at hcs
    subst hcs
    exact ⟨[], secsAt_nil _ _ _ (fun _ => rfl)⟩
  · simp only [List.cons.injEq, and_true] at hcs
    subst hcs
    have hml : len ≤ m := by rw [hm]; split <;> omega
    obtain ⟨B, hB⟩ := choose_lt (α := List UInt8) (p := fun i l => BytesN w (fun _ => True) (V i) l) (n := len) (fun i hi => by
      obtain ⟨a', n', c', l, he, _, _, hb⟩ := trod_bytesN (hx i (Nat.lt_of_lt_of_le hi hml)).2
      exact ⟨l, he ▸ hb⟩)
    have hlen : ((List.range len).map B).length = len := by simp
    refine ⟨(List.range len).map B, some a, cap, (List.range len).map V, by rw [hlen], by rw [hlen]; exact hl, by simp, fun hne => ?_, (fun k c e => by cases e), fun i hi => ?_⟩
    · have hpos : 0 < len := by
        rcases Nat.eq_zero_or_pos len with h0 | h0
        · subst h0; exact absurd rfl hne
        · exact h0
      obtain ⟨g, off, spot⟩ := a
      have h0 := (hx 0 (by omega)).1
      have hspot : spot = none := by simpa [Addr.add] using World.cell?_spot h0
      subst hspot
      refine ⟨g, off, rfl, ?_, ?_⟩
      · have := World.block_lt_of_cell? w _ h0
        simpa [Addr.add] using this
      · intro j u hj
        have hjl : j < len := by have := (List.getElem?_eq_some_iff.1 hj).1; simpa using this
        have h1 := (hx j (Nat.lt_of_lt_of_le hjl hml)).1
        have hadd : (⟨g, off, none⟩ : Addr).add j = ⟨g, off + j, none⟩ := by unfold Addr.add; split <;> simp_all
        rw [hadd] at h1
        rw [h1]
        rw [List.getElem?_map, List.getElem?_range hjl] at hj
        simpa using hj
    · have hi' : i < len := by simpa using hi
      refine ⟨V i, by rw [List.getElem?_map, List.getElem?_range hi']; rfl, ?_⟩
      simp only [List.getElem_map, List.getElem_range]
      exact hB i hi'

theorem trod_run {cs : List Value} {x : DataW H × List MemPlace}
    (h : DataW.trod enc Tryd.prog w base sp held fuel 75 cs = some x) (hlen : cs.length = 6) (hs : Fits 75 x.1) : ∃ R : RunV, cs = R.cells ∧ R.At w := by
  match cs, hlen with
  | [v0, v1, v2, v3, v4, v5], _ =>
    obtain ⟨xs, k, hk, hxy, _, hxl, hf⟩ := DataW.trod_struct Tryd.underlying75 h
    have hxl6 : xs.length = 6 := hxl
    match xs, hxl6 with
    | [y0, y1, y2, y3, y4, y5], _ =>
      subst hxy
      have s3 := fits_field Tryd.underlying75 hs (j := 3) rfl rfl
      have g0 := hf 0 _ rfl
      have g1 := hf 1 _ rfl
      have g2 := hf 2 _ rfl
      have g3 := hf 3 _ rfl
      have g4 := hf 4 _ rfl
      have g5 := hf 5 _ rfl
      simp [cellsOf_u8, cellsOf_int, cellsOf_bytes, cellsOf_lists, cellsOf_descs] at g0 g1 g2 g3 g4 g5
      obtain ⟨n0, rfl, _⟩ := trod_i64 g0
      obtain ⟨n1, rfl, _⟩ := trod_i64 g1
      obtain ⟨L, hL⟩ := trod_lists g2
      obtain ⟨D, hD⟩ := trod_descs g3 s3
      obtain ⟨a, len, cap, l, rfl, hl, _, hb⟩ := trod_bytesN g4
      obtain ⟨b5, rfl⟩ := trod_u8 g5
      subst hl
      exact ⟨⟨n0, n1, v2, L, v3, D, a, cap, l, b5⟩, rfl, hL, hD, hb⟩
end
end Go.Proofs.YtloaenknhkfaeaaDoor
