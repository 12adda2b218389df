/- How an argument's reading opens: bytes, operations on a spool. -/
import Derived.Test.YtnmdgjodbikndaaS5
import Derived.Test.YtnmdgjodbikndaaGenR
import Derived.ProofKit
import Derived.OpenShut
import Derived.Deep.Slices
import Derived.WalkKit
import Derived.Deep.Strs
import Derived.ChangeMaps5
namespace Go.Proofs.Ytnmdgjodbikndaa
open Go.RowKit Go.ChangeShapes Go.WideShapes Go.ChangeAt Go.Deep
set_option linter.unusedVariables false
set_option linter.unusedSimpArgs false

theorem cellsOf_int : Try.prog.cellsOf 3 = 1 := by kernel_rfl
theorem cellsOf_str : Try.prog.cellsOf 9 = 1 := by kernel_rfl
theorem cellsOf_A : Try.prog.cellsOf 37 = 34 := by kernel_rfl
theorem cellsOf_arr : Try.prog.cellsOf 29 = 32 := by kernel_rfl
theorem cellsOf_Op : Try.prog.cellsOf 39 = 37 := by kernel_rfl

/-- The reference's article. -/
structure RefA where
  id : IdB
  text : ByteArray
  min : Int
def RefA.cells (a : RefA) : List Value := bvs a.id.1 ++ [.string a.text, .int .i64 a.min]
theorem RefA.cells_length (a : RefA) : a.cells.length = 34 := by unfold RefA.cells; rw [List.length_append, bvs_length, a.id.2]; rfl
/-- An operation. -/
structure OpD where
  kind : Int
  a : RefA
  from' : Int
  count : Int
def OpD.cells (o : OpD) : List Value := [.int .i64 o.kind] ++ (o.a.cells ++ [.int .i64 o.from', .int .i64 o.count])
theorem OpD.cells_length (o : OpD) : o.cells.length = 37 := by unfold OpD.cells; simp [RefA.cells_length]
theorem OpD.cells_one (o : OpD) : ∀ v ∈ o.cells, v.oneCell' = true := by
  intro v hv
  unfold OpD.cells RefA.cells at hv
  simp only [List.mem_append, List.mem_cons, List.not_mem_nil, or_false] at hv
  rcases hv with rfl | (hv | rfl | rfl) | rfl | rfl
  · rfl
  · exact bvs_oneCell v hv
  · rfl
  · rfl
  · rfl
  · rfl
def zOp : OpD := ⟨0, ⟨z32, ⟨#[]⟩, 0⟩, 0, 0⟩
instance : Inhabited OpD := ⟨zOp⟩
def opE : ElemTy Try.prog 34 39 OpD where
  enc := OpD.cells
  k := 37
  hu := Try.underlying34
  hi := ⟨.agg zOp.cells.toArray, 80, by kernel_rfl, by kernel_rfl, by decide⟩
  hk := by decide
  len := OpD.cells_length
  one := OpD.cells_one

section
variable {H : Type} {enc : TypeId × Value → H} {w : World} {base : Nat} {sp : Nat → Bool} {held : Bool} {fuel : Nat}

theorem trod_u8 {v : Value} {x : DataW H × List MemPlace}
    (h : DataW.trod enc Try.prog w base sp held fuel 5 [v] = some x) : ∃ b : UInt8, v = bv b := by
  obtain ⟨n, e, _, hw⟩ := DataW.trod_int Try.underlying5 h
  have hb : 0 ≤ n ∧ n ≤ 255 := bounds_u8 hw
  obtain ⟨k, rfl⟩ := Int.eq_ofNat_of_zero_le hb.1
  refine ⟨UInt8.ofNat k, ?_⟩
  have : v = .int .u8 (k : Int) := by simpa using e
  rw [this]
  unfold bv
  simp only [UInt8.toNat_ofNat']
  rw [Nat.mod_eq_of_lt (by omega)]
theorem trod_i64 {v : Value} {x : DataW H × List MemPlace}
    (h : DataW.trod enc Try.prog w base sp held fuel 3 [v] = some x) : ∃ n : Int, v = .int .i64 n ∧ -9223372036854775808 ≤ n ∧ n ≤ 9223372036854775807 := by
  obtain ⟨n, e, _, hw⟩ := DataW.trod_int Try.underlying3 h
  exact ⟨n, by simpa using e, bounds_i64 hw⟩
theorem trod_str {v : Value} {x : DataW H × List MemPlace}
    (h : DataW.trod enc Try.prog w base sp held fuel 9 [v] = some x) : ∃ s : ByteArray, v = .string s ∧ s.size ≤ maxLen := by
  obtain ⟨s, h1, _, h3⟩ := DataW.trod_string Try.underlying9 h
  exact ⟨s, by simpa using h1, h3⟩
theorem trod_arr {n : Nat} {t : TypeId} (ht : Try.prog.underlying t = some (.array n 5)) (hc : Try.prog.cellsOf t = n) {cs : List Value} {x : DataW H × List MemPlace}
    (h : DataW.trod enc Try.prog w base sp held fuel t cs = some x) : ∃ l : List UInt8, l.length = n ∧ cs = bvs l := by
  obtain ⟨xs, m, _, _, hl, hxl, hf⟩ := DataW.trod_array ht h
  rw [hc] at hl
  have each : ∀ i, i < n → ∃ b : UInt8, cs[i]? = some (bv b) := fun i hi => by
    have h1 := hf i hi
    rw [cellsOf_u8', Nat.mul_one, List.drop_eq_getElem_cons (by omega), List.getElem?_eq_getElem (by omega), List.take_succ_cons, List.take_zero] at h1
    obtain ⟨b, hb⟩ := trod_u8 h1
    exact ⟨b, by rw [List.getElem?_eq_getElem (by omega), hb]⟩
  obtain ⟨B, hB⟩ := choose_lt each
  refine ⟨(List.range n).map B, by simp, List.ext_getElem? fun i => ?_⟩
  by_cases hi : i < n
  · rw [hB i hi, bvs_getElem?, List.getElem?_map, List.getElem?_range hi]
    rfl
  · rw [List.getElem?_eq_none (by omega), List.getElem?_eq_none (by rw [bvs_length]; simp; omega)]
theorem trod_list {α : Type} [Inhabited α] {sT T : TypeId} (E : ElemTy Try.prog sT T α) (hc : Try.prog.cellsOf T = E.k) (p : α → Prop)
    (step : ∀ (fuel : Nat) (cs : List Value) (x : DataW H × List MemPlace), cs.length = E.k → DataW.trod enc Try.prog w base sp held fuel T cs = some x → ∃ a : α, cs = E.enc a ∧ p a)
    {v : Value} {x : DataW H × List MemPlace} (h : DataW.trod enc Try.prog w base sp held fuel sT [v] = some x) : ∃ L : List α, ListAt E w v L ∧ ∀ a ∈ L, p a := by
  rcases open_slice E.hu h with ⟨hcs, _⟩ | ⟨a, len, cap, m, n, D, Pl, hcs, _, hl, hcm, hm, rfl, hx⟩
  · simp only [List.cons.injEq, and_true] at hcs
    subst hcs
    exact ⟨[], listAt_nil E w, fun a ha => by cases ha⟩
  · simp only [List.cons.injEq, and_true] at hcs
    subst hcs
    have hml : len ≤ m := by rw [hm]; split <;> omega
    have each : ∀ i, i < len → ∃ S : α, w.cells? base (a.add (i * E.k)) E.k = some (E.enc S) ∧ p S := fun i hi => by
      obtain ⟨cs', h1, h2⟩ := hx i (Nat.lt_of_lt_of_le hi hml)
      rw [hc] at h1
      obtain ⟨_, hlen, _⟩ := World.cells?_some h1
      obtain ⟨S, rfl, hS⟩ := step _ _ _ hlen h2
      exact ⟨S, h1, hS⟩
    obtain ⟨Q, hQ⟩ := choose_lt (α := α) each
    have hlen : ((List.range len).map Q).length = len := by simp
    refine ⟨(List.range len).map Q, ⟨some a, cap, by rw [hlen], by rw [hlen]; exact hl, hcm, (fun e => by cases e), fun hne => ?_⟩, fun S hS => ?_⟩
    · have hpos : 0 < len := by
        rcases Nat.eq_zero_or_pos len with h0 | h0
        · subst h0; exact absurd rfl hne
        · exact h0
      obtain ⟨g, off, spot⟩ := a
      have h0 := (World.cells?_some (hQ 0 hpos).1).2.2 0 E.hk
      obtain ⟨u0, hu0⟩ : ∃ u, (E.enc (Q 0))[0]? = some u := ⟨_, List.getElem?_eq_getElem (by rw [E.len]; exact E.hk)⟩
      rw [hu0] at h0
      have hspot : spot = none := by simpa [Addr.add] using World.cell?_spot h0
      subst hspot
      have hap : ∀ (g off j : Nat), (⟨g, off, none⟩ : Addr).add j = ⟨g, off + j, none⟩ := fun g off j => by unfold Addr.add; split <;> simp_all
      refine ⟨g, off, rfl, ?_, fun i hi => ?_⟩
      · have := World.block_lt_of_cell? w _ h0
        simpa [Addr.add] using this
      · have hi' : i < len := by simpa using hi
        obtain ⟨h1, hS⟩ := hQ i hi'
        simp only [List.getElem_map, List.getElem_range]
        obtain ⟨_, _, hcc⟩ := World.cells?_some h1
        intro j u hj
        have hj6 : j < E.k := by rw [← E.len (Q i)]; exact (List.getElem?_eq_some_iff.1 hj).1
        have := hcc j hj6
        rw [hap, hap] at this
        rw [this]
        exact hj
    · obtain ⟨i, hi, rfl⟩ := List.mem_map.1 hS
      exact (hQ i (by simpa using hi)).2
theorem trod_bytes {v : Value} {x : DataW H × List MemPlace}
    (h : DataW.trod enc Try.prog w base sp held fuel 22 [v] = some x) : ∃ l : List UInt8, l.length ≤ maxLen ∧ BytesAt w (fun _ => True) v l := by
  have cU : Try.prog.cellsOf 5 = 1 := cellsOf_u8'
  rcases open_slice1 Try.underlying22 cU h with ⟨hcs, _⟩ | ⟨a, len, cap, m, n, V, D, Pl, hcs, _, hl, hcm, hm, _, hx⟩
  · simp only [List.cons.injEq, and_true] at hcs
    subst hcs
    exact ⟨[], Nat.zero_le _, bytesAt_nil _ _⟩
  · simp only [List.cons.injEq, and_true] at hcs
    subst hcs
    have hml : len ≤ m := by rw [hm]; split <;> omega
    obtain ⟨B, hB⟩ := choose_lt (α := UInt8) (p := fun i b => V i = bv b) (n := len) (fun i hi => trod_u8 (hx i (Nat.lt_of_lt_of_le hi hml)).2)
    have hlen : ((List.range len).map B).length = len := by simp
    refine ⟨(List.range len).map B, by rw [hlen]; omega, some a, cap, by rw [hlen], by rw [hlen]; exact hl, fun hne => ?_⟩
    have hpos : 0 < len := by
      rcases Nat.eq_zero_or_pos len with h0 | h0
      · subst h0; exact absurd rfl hne
      · exact h0
    obtain ⟨g, off, spot⟩ := a
    have h0 := (hx 0 (by omega)).1
    have hspot : spot = none := by simpa [Addr.add] using World.cell?_spot h0
    subst hspot
    refine ⟨g, off, rfl, trivial, ?_, ?_⟩
    · have := World.block_lt_of_cell? w _ h0
      simpa [Addr.add] using this
    · intro j u hj
      have hjl : j < len := by have := (List.getElem?_eq_some_iff.1 hj).1; simpa using this
      have h1 := (hx j (Nat.lt_of_lt_of_le hjl hml)).1
      have hadd : (⟨g, off, none⟩ : Addr).add j = ⟨g, off + j, none⟩ := by unfold Addr.add; split <;> simp_all
      rw [hadd] at h1
      rw [h1, hB j hjl]
      rw [bvs_getElem?, List.getElem?_map, List.getElem?_range hjl] at hj
      simpa using hj
theorem trod_refA {cs : List Value} {x : DataW H × List MemPlace} (hlen : cs.length = 34) (h : DataW.trod enc Try.prog w base sp held fuel 37 cs = some x) : ∃ a : RefA, cs = a.cells ∧ a.text.size ≤ maxLen := by
  obtain ⟨xs, k, hk, hxy, _, hxl, hf⟩ := DataW.trod_struct Try.underlying37 h
  have hxl6 : xs.length = 3 := hxl
  match xs, hxl6 with
  | [y0, y1, y2], _ =>
    have g0 : DataW.trod enc Try.prog w base sp held k 29 ((cs.drop 0).take (Try.prog.cellsOf 29)) = some y0 := hf 0 _ rfl
    have g1 : DataW.trod enc Try.prog w base sp held k 9 ((cs.drop 32).take (Try.prog.cellsOf 9)) = some y1 := hf 1 _ rfl
    have g2 : DataW.trod enc Try.prog w base sp held k 3 ((cs.drop 33).take (Try.prog.cellsOf 3)) = some y2 := hf 2 _ rfl
    rw [cellsOf_arr] at g0
    rw [cellsOf_str] at g1
    rw [cellsOf_int] at g2
    have one : ∀ n, n < 34 → (cs.drop n).take 1 = [cs.getD n undef] := fun n hn => by
      rw [List.drop_eq_getElem_cons (by omega), List.take_succ_cons, List.take_zero, List.getD_eq_getElem?_getD, List.getElem?_eq_getElem (by omega)]
      rfl
    obtain ⟨l, hl, e0⟩ := trod_arr Try.underlying29 cellsOf_arr g0
    rw [one 32 (by decide)] at g1
    rw [one 33 (by decide)] at g2
    obtain ⟨s, e1, hs⟩ := trod_str g1
    obtain ⟨d, e2, _⟩ := trod_i64 g2
    refine ⟨⟨⟨l, hl⟩, s, d⟩, ?_, hs⟩
    unfold RefA.cells
    have s2 := one 32 (by decide)
    have s3 := one 33 (by decide)
    rw [e1] at s2
    rw [e2] at s3
    simp only
    rw [← e0]
    have nx : ∀ n (v : Value), (cs.drop n).take 1 = [v] → cs.drop n = v :: cs.drop (n + 1) := fun n v hv => by
      have := (List.take_append_drop 1 (cs.drop n)).symm
      rw [List.drop_drop, hv] at this
      exact this
    have h1 : cs = cs.take 32 ++ cs.drop 32 := (List.take_append_drop 32 cs).symm
    conv => lhs; rw [h1, nx 32 _ s2, nx 33 _ s3, List.drop_of_length_le (by omega)]
    rfl
theorem trod_op {cs : List Value} {x : DataW H × List MemPlace} (hlen : cs.length = 37) (h : DataW.trod enc Try.prog w base sp held fuel 39 cs = some x) : ∃ o : OpD, cs = o.cells ∧ o.a.text.size ≤ maxLen := by
  obtain ⟨xs, k, hk, hxy, _, hxl, hf⟩ := DataW.trod_struct Try.underlying39 h
  have hxl6 : xs.length = 4 := hxl
  match xs, hxl6 with
  | [y0, y1, y2, y3], _ =>
    have g0 : DataW.trod enc Try.prog w base sp held k 3 ((cs.drop 0).take (Try.prog.cellsOf 3)) = some y0 := hf 0 _ rfl
    have g1 : DataW.trod enc Try.prog w base sp held k 37 ((cs.drop 1).take (Try.prog.cellsOf 37)) = some y1 := hf 1 _ rfl
    have g2 : DataW.trod enc Try.prog w base sp held k 3 ((cs.drop 35).take (Try.prog.cellsOf 3)) = some y2 := hf 2 _ rfl
    have g3 : DataW.trod enc Try.prog w base sp held k 3 ((cs.drop 36).take (Try.prog.cellsOf 3)) = some y3 := hf 3 _ rfl
    rw [cellsOf_int] at g0 g2 g3
    rw [cellsOf_A] at g1
    have one : ∀ n, n < 37 → (cs.drop n).take 1 = [cs.getD n undef] := fun n hn => by
      rw [List.drop_eq_getElem_cons (by omega), List.take_succ_cons, List.take_zero, List.getD_eq_getElem?_getD, List.getElem?_eq_getElem (by omega)]
      rfl
    rw [one 0 (by decide)] at g0
    rw [one 35 (by decide)] at g2
    rw [one 36 (by decide)] at g3
    obtain ⟨n0, e0, _⟩ := trod_i64 g0
    obtain ⟨a, e1, ha⟩ := trod_refA (by rw [List.length_take, List.length_drop]; omega) g1
    obtain ⟨n2, e2, _⟩ := trod_i64 g2
    obtain ⟨n3, e3, _⟩ := trod_i64 g3
    refine ⟨⟨n0, a, n2, n3⟩, ?_, ha⟩
    have s0 := one 0 (by decide)
    have s2 := one 35 (by decide)
    have s3 := one 36 (by decide)
    rw [e0] at s0
    rw [e2] at s2
    rw [e3] at s3
    unfold OpD.cells
    simp only
    rw [← e1]
    have nx : ∀ n (v : Value), (cs.drop n).take 1 = [v] → cs.drop n = v :: cs.drop (n + 1) := fun n v hv => by
      have := (List.take_append_drop 1 (cs.drop n)).symm
      rw [List.drop_drop, hv] at this
      exact this
    have h0 : cs = .int .i64 n0 :: cs.drop 1 := nx 0 _ s0
    have h1 : cs.drop 1 = (cs.drop 1).take 34 ++ cs.drop 35 := by
      have := (List.take_append_drop 34 (cs.drop 1)).symm
      rw [List.drop_drop] at this
      exact this
    conv => lhs; rw [h0, h1, nx 35 _ s2, nx 36 _ s3, List.drop_of_length_le (show cs.length ≤ 36 + 1 by omega)]
    rfl
theorem trod_ops {v : Value} {x : DataW H × List MemPlace} (h : DataW.trod enc Try.prog w base sp held fuel 34 [v] = some x) : ∃ L : List OpD, ListAt opE w v L ∧ ∀ o ∈ L, o.a.text.size ≤ maxLen :=
  trod_list opE cellsOf_Op (fun o => o.a.text.size ≤ maxLen) (fun _ cs x hlen h => trod_op hlen h) h
end
end Go.Proofs.Ytnmdgjodbikndaa
