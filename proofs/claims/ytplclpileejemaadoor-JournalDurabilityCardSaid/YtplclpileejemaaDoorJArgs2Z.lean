/- How an argument's reading opens: operations. -/
import Derived.Test.YtplclpileejemaaDoorJB17
import Derived.Test.YtplclpileejemaaDoorJ29Z
namespace Go.Proofs.YtplclpileejemaaDoor
open Go.RowKit Go.ChangeShapes Go.WideShapes Go.ChangeAt Go.Deep
set_option linter.unusedVariables false
set_option linter.unusedSimpArgs false

theorem cellsOf_u16 : Tryd.prog.cellsOf 22 = 1 := by kernel_rfl
theorem cellsOf_JOp : Tryd.prog.cellsOf 48 = 4 := by kernel_rfl
section
variable {H : Type} {enc : TypeId × Value → H} {w : World} {base : Nat} {sp : Nat → Bool} {held : Bool} {fuel : Nat}
theorem trod_u16 {v : Value} {x : DataW H × List MemPlace}
    (h : DataW.trod enc Tryd.prog w base sp held fuel 22 [v] = some x) : ∃ n : Nat, v = .int .u16 (n : Int) ∧ n < 65536 := by
  obtain ⟨n, e, _, hw⟩ := DataW.trod_int Tryd.underlying22 h
  have hb : 0 ≤ n ∧ n ≤ 65535 := bounds_u16 hw
  obtain ⟨k, rfl⟩ := Int.eq_ofNat_of_zero_le hb.1
  exact ⟨k, by simpa using e, by omega⟩
theorem trod_op {cs : List Value} {x : DataW H × List MemPlace}
    (h : DataW.trod enc Tryd.prog w base sp held fuel 48 cs = some x) (hlen : cs.length = 4) (hs : Fits 48 x.1) : ∃ o : JOp, cs = o.cells ∧ o.At w := by
  match cs, hlen with
  | [v0, v1, v2, v3], _ =>
    obtain ⟨xs, k, hk, hxy, _, hxl, hf⟩ := DataW.trod_struct Tryd.underlying48 h
    have hxl4 : xs.length = 4 := hxl
    match xs, hxl4 with
    | [y0, y1, y2, y3], _ =>
      subst hxy
      have s3 := fits_field Tryd.underlying48 hs (j := 3) rfl rfl
      have g0 := hf 0 _ rfl
      have g1 := hf 1 _ rfl
      have g2 := hf 2 _ rfl
      have g3 := hf 3 _ rfl
      simp [cellsOf_u8, cellsOf_u16, cellsOf_bytes] at g0 g1 g2 g3
      obtain ⟨b0, rfl⟩ := trod_u8 g0
      obtain ⟨n1, rfl, hn1⟩ := trod_u16 g1
      obtain ⟨b2, rfl⟩ := trod_u8 g2
      obtain ⟨a, len, cap, l, rfl, hl, hn, hb⟩ := trod_bytesS g3 s3
      subst hl
      exact ⟨⟨b0.toNat, n1, b2, l, a, cap⟩, rfl, ⟨b0.toNat_lt, hn1, hn, hb⟩⟩
instance : Inhabited JOp := ⟨⟨0, 0, 0, [], none, 0⟩⟩
theorem trod_ops {v : Value} {x : DataW H × List MemPlace}
    (h : DataW.trod enc Tryd.prog w base sp held fuel 43 [v] = some x) (hs : Fits 43 x.1) : ∃ L : List JOp, JOpsAt w v L := by
  rcases open_slice Tryd.underlying43 h with ⟨hcs, _⟩ | ⟨a, len, cap, m, n, D, Pl, hcs, _, hl, hcm, hm, rfl, hx⟩
  · simp only [List.cons.injEq, and_true] at hcs
    subst hcs
    exact ⟨[], none, 0, rfl, Nat.le_refl _, Nat.zero_le _, fun h => absurd rfl h⟩
  · simp only [List.cons.injEq, and_true] at hcs
    subst hcs
    have hml : len ≤ m := by rw [hm]; split <;> omega
    have hsm := (fits_slice Tryd.underlying43 hs).2
    have each : ∀ i, i < len → ∃ S : JOp, w.cells? base (a.add (i * 4)) 4 = some S.cells ∧ S.At w := fun i hi => by
      obtain ⟨cs', h1, h2⟩ := hx i (Nat.lt_of_lt_of_le hi hml)
      rw [cellsOf_JOp] at h1
      obtain ⟨_, hlen, _⟩ := World.cells?_some h1
      obtain ⟨S, rfl, hS⟩ := trod_op h2 hlen (hsm _ (List.mem_map.2 ⟨i, List.mem_range.2 hi, rfl⟩))
      exact ⟨S, h1, hS⟩
    obtain ⟨Q, hQ⟩ := choose_lt (α := JOp) each
    have hlen : ((List.range len).map Q).length = len := by simp
    refine ⟨(List.range len).map Q, some a, cap, by rw [hlen], by rw [hlen]; exact hl, hcm, fun hne => ?_⟩
    have hpos : 0 < len := by
      rcases Nat.eq_zero_or_pos len with h0 | h0
      · subst h0; exact absurd rfl hne
      · exact h0
    obtain ⟨g, off, spot⟩ := a
    have h0 := (World.cells?_some (hQ 0 hpos).1).2.2 0 (by decide)
    have hspot : spot = none := by simpa [Addr.add] using World.cell?_spot h0
    subst hspot
    have hap : ∀ (g off j : Nat), (⟨g, off, none⟩ : Addr).add j = ⟨g, off + j, none⟩ := fun g off j => by unfold Addr.add; split <;> simp_all
    refine ⟨g, off, rfl, ?_, fun i hi => ?_⟩
    · have := World.block_lt_of_cell? w _ h0
      simpa [Addr.add] using this
    · have hi' : i < len := by simpa using hi
      obtain ⟨h1, hS⟩ := hQ i hi'
      simp only [List.getElem_map, List.getElem_range]
      refine ⟨?_, hS⟩
      obtain ⟨_, _, hc⟩ := World.cells?_some h1
      intro j u hj
      have hj6 : j < 4 := (List.getElem?_eq_some_iff.1 hj).1
      have := hc j hj6
      rw [hap, hap] at this
      rw [this]
      exact hj
end
end Go.Proofs.YtplclpileejemaaDoor
