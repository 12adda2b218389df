/- How an argument's reading opens: identities, rows, lists of both. -/
import Derived.Test.YtjjanjhoaiannaaVp1
import Derived.ProofKit
import Derived.OpenShut
import Derived.Deep.Slices
import Derived.WalkKit
namespace Go.Proofs.Ytjjanjhoaiannaa
open Go.RowKit Go.ChangeShapes Go.WideShapes Go.ChangeAt Go.Deep
set_option linter.unusedVariables false
set_option linter.unusedSimpArgs false

theorem vcellsOf_int : Try.prog.cellsOf 3 = 1 := by kernel_rfl
theorem cellsOf_Author : Try.prog.cellsOf 33 = 16 := by kernel_rfl
theorem cellsOf_Row : Try.prog.cellsOf 36 = 83 := by kernel_rfl
theorem cellsOf_strs : Try.prog.cellsOf 34 = 1 := by kernel_rfl
theorem cellsOf_ids : Try.prog.cellsOf 23 = 1 := by kernel_rfl

section
variable {H : Type} {enc : TypeId × Value → H} {w : World} {base : Nat} {sp : Nat → Bool} {held : Bool} {fuel : Nat}

theorem trod_u8 {v : Value} {x : DataW H × List MemPlace}
    (h : DataW.trod enc Try.prog w base sp held fuel 5 [v] = some x) : ∃ b : UInt8, v = bv b := by
  obtain ⟨n, e, _, hw⟩ := DataW.trod_int Try.underlying5 h
  have hb : 0 ≤ n ∧ n ≤ 255 := bounds_u8 hw
  obtain ⟨k, rfl⟩ := Int.eq_ofNat_of_zero_le hb.1
  refine ⟨UInt8.ofNat k, ?_⟩
  have : v = .int .u8 (k : Int) := by simpa using e
  rw [this]
  unfold bv
  simp only [UInt8.toNat_ofNat']
  rw [Nat.mod_eq_of_lt (by omega)]

theorem trod_i64 {v : Value} {x : DataW H × List MemPlace}
    (h : DataW.trod enc Try.prog w base sp held fuel 3 [v] = some x) : ∃ n : Int, v = .int .i64 n ∧ -9223372036854775808 ≤ n ∧ n ≤ 9223372036854775807 := by
  obtain ⟨n, e, _, hw⟩ := DataW.trod_int Try.underlying3 h
  exact ⟨n, by simpa using e, bounds_i64 hw⟩

theorem trod_arr {n : Nat} {t : TypeId} (ht : Try.prog.underlying t = some (.array n 5)) (hc : Try.prog.cellsOf t = n) {cs : List Value} {x : DataW H × List MemPlace}
    (h : DataW.trod enc Try.prog w base sp held fuel t cs = some x) : ∃ l : List UInt8, l.length = n ∧ cs = bvs l := by
  obtain ⟨xs, m, _, _, hl, hxl, hf⟩ := DataW.trod_array ht h
  rw [hc] at hl
  have each : ∀ i, i < n → ∃ b : UInt8, cs[i]? = some (bv b) := fun i hi => by
    have h1 := hf i hi
    rw [cellsOf_u8', Nat.mul_one, List.drop_eq_getElem_cons (by omega), List.getElem?_eq_getElem (by omega), List.take_succ_cons, List.take_zero] at h1
    obtain ⟨b, hb⟩ := trod_u8 h1
    exact ⟨b, by rw [List.getElem?_eq_getElem (by omega), hb]⟩
  obtain ⟨B, hB⟩ := choose_lt each
  refine ⟨(List.range n).map B, by simp, List.ext_getElem? fun i => ?_⟩
  by_cases hi : i < n
  · rw [hB i hi, bvs_getElem?, List.getElem?_map, List.getElem?_range hi]
    rfl
  · rw [List.getElem?_eq_none (by omega), List.getElem?_eq_none (by rw [bvs_length]; simp; omega)]

theorem trod_id {cs : List Value} {x : DataW H × List MemPlace} (h : DataW.trod enc Try.prog w base sp held fuel 31 cs = some x) : ∃ a : IdB, cs = bvs a.1 := by
  obtain ⟨l, hl, e⟩ := trod_arr Try.underlying31 cellsOf_Id h
  exact ⟨⟨l, hl⟩, e⟩

theorem trod_list {α : Type} [Inhabited α] {sT T : TypeId} (E : ElemTy Try.prog sT T α) (hc : Try.prog.cellsOf T = E.k) (p : α → Prop)
    (step : ∀ (fuel : Nat) (cs : List Value) (x : DataW H × List MemPlace), cs.length = E.k → DataW.trod enc Try.prog w base sp held fuel T cs = some x → ∃ a : α, cs = E.enc a ∧ p a)
    {v : Value} {x : DataW H × List MemPlace} (h : DataW.trod enc Try.prog w base sp held fuel sT [v] = some x) : ∃ L : List α, ListAt E w v L ∧ ∀ a ∈ L, p a := by
  rcases open_slice E.hu h with ⟨hcs, _⟩ | ⟨a, len, cap, m, n, D, Pl, hcs, _, hl, hcm, hm, rfl, hx⟩
  · simp only [List.cons.injEq, and_true] at hcs
    subst hcs
    exact ⟨[], listAt_nil E w, fun a ha => by cases ha⟩
  · simp only [List.cons.injEq, and_true] at hcs
    subst hcs
    have hml : len ≤ m := by rw [hm]; split <;> omega
    have each : ∀ i, i < len → ∃ S : α, w.cells? base (a.add (i * E.k)) E.k = some (E.enc S) ∧ p S := fun i hi => by
      obtain ⟨cs', h1, h2⟩ := hx i (Nat.lt_of_lt_of_le hi hml)
      rw [hc] at h1
      obtain ⟨_, hlen, _⟩ := World.cells?_some h1
      obtain ⟨S, rfl, hS⟩ := step _ _ _ hlen h2
      exact ⟨S, h1, hS⟩
    obtain ⟨Q, hQ⟩ := choose_lt (α := α) each
    have hlen : ((List.range len).map Q).length = len := by simp
    refine ⟨(List.range len).map Q, ⟨some a, cap, by rw [hlen], by rw [hlen]; exact hl, hcm, (fun e => by cases e), fun hne => ?_⟩, fun S hS => ?_⟩
    · have hpos : 0 < len := by
        rcases Nat.eq_zero_or_pos len with h0 | h0
        · subst h0; exact absurd rfl hne
        · exact h0
      obtain ⟨g, off, spot⟩ := a
      have h0 := (World.cells?_some (hQ 0 hpos).1).2.2 0 E.hk
      obtain ⟨u0, hu0⟩ : ∃ u, (E.enc (Q 0))[0]? = some u := ⟨_, List.getElem?_eq_getElem (by rw [E.len]; exact E.hk)⟩
      rw [hu0] at h0
      have hspot : spot = none := by simpa [Addr.add] using World.cell?_spot h0
      subst hspot
      have hap : ∀ (g off j : Nat), (⟨g, off, none⟩ : Addr).add j = ⟨g, off + j, none⟩ := fun g off j => by unfold Addr.add; split <;> simp_all
      refine ⟨g, off, rfl, ?_, fun i hi => ?_⟩
      · have := World.block_lt_of_cell? w _ h0
        simpa [Addr.add] using this
      · have hi' : i < len := by simpa using hi
        obtain ⟨h1, hS⟩ := hQ i hi'
        simp only [List.getElem_map, List.getElem_range]
        obtain ⟨_, _, hcc⟩ := World.cells?_some h1
        intro j u hj
        have hj6 : j < E.k := by rw [← E.len (Q i)]; exact (List.getElem?_eq_some_iff.1 hj).1
        have := hcc j hj6
        rw [hap, hap] at this
        rw [this]
        exact hj
    · obtain ⟨i, hi, rfl⟩ := List.mem_map.1 hS
      exact (hQ i (by simpa using hi)).2

theorem trod_ids {v : Value} {x : DataW H × List MemPlace} (h : DataW.trod enc Try.prog w base sp held fuel 23 [v] = some x) : ∃ L : List IdB, ListAt idE w v L := by
  obtain ⟨L, hL, _⟩ := @trod_list H enc w base sp held fuel IdB ⟨z32⟩ _ _ idE cellsOf_Id (fun _ => True) (fun _ cs x _ h => by
    obtain ⟨a, e⟩ := trod_id h
    exact ⟨a, e, trivial⟩) v x h
  exact ⟨L, hL⟩

theorem trod_row {cs : List Value} {x : DataW H × List MemPlace} (hlen : cs.length = 83) (h : DataW.trod enc Try.prog w base sp held fuel 36 cs = some x) : ∃ R : RowV, cs = R.cells ∧ ListAt idE w R.rv R.refs := by
  obtain ⟨xs, k, hk, hxy, _, hxl, hf⟩ := DataW.trod_struct Try.underlying36 h
  have hxl6 : xs.length = 6 := hxl
  match xs, hxl6 with
  | [y0, y1, y2, y3, y4, y5], _ =>
    have g0 : DataW.trod enc Try.prog w base sp held k 31 ((cs.drop 0).take (Try.prog.cellsOf 31)) = some y0 := hf 0 _ rfl
    have g1 : DataW.trod enc Try.prog w base sp held k 33 ((cs.drop 32).take (Try.prog.cellsOf 33)) = some y1 := hf 1 _ rfl
    have g2 : DataW.trod enc Try.prog w base sp held k 3 ((cs.drop 48).take (Try.prog.cellsOf 3)) = some y2 := hf 2 _ rfl
    have g3 : DataW.trod enc Try.prog w base sp held k 34 ((cs.drop 49).take (Try.prog.cellsOf 34)) = some y3 := hf 3 _ rfl
    have g4 : DataW.trod enc Try.prog w base sp held k 23 ((cs.drop 50).take (Try.prog.cellsOf 23)) = some y4 := hf 4 _ rfl
    have g5 : DataW.trod enc Try.prog w base sp held k 31 ((cs.drop 51).take (Try.prog.cellsOf 31)) = some y5 := hf 5 _ rfl
    rw [cellsOf_Id] at g0 g5
    rw [cellsOf_Author] at g1
    rw [vcellsOf_int] at g2
    rw [cellsOf_strs] at g3
    rw [cellsOf_ids] at g4
    have one : ∀ n, n < 83 → (cs.drop n).take 1 = [cs.getD n undef] := fun n hn => by
      rw [List.drop_eq_getElem_cons (by omega), List.take_succ_cons, List.take_zero, List.getD_eq_getElem?_getD, List.getElem?_eq_getElem (by omega)]
      rfl
    obtain ⟨a0, e0⟩ := trod_id g0
    obtain ⟨l1, hl1, e1⟩ := trod_arr Try.underlying33 cellsOf_Author g1
    rw [one 48 (by decide)] at g2
    rw [one 49 (by decide)] at g3
    rw [one 50 (by decide)] at g4
    obtain ⟨d, e2, _⟩ := trod_i64 g2
    obtain ⟨gv, e3⟩ : ∃ gv, cs.getD 49 undef = gv := ⟨_, rfl⟩
    obtain ⟨rv, e4⟩ : ∃ rv, cs.getD 50 undef = rv := ⟨_, rfl⟩
    obtain ⟨L, hL⟩ := trod_ids g4
    obtain ⟨a5, e5⟩ := trod_id g5
    have hg1 : gv.oneCell' = true := by
      rcases open_slice Try.underlying34 g3 with ⟨hcs, _⟩ | ⟨_, _, _, _, _, _, _, hcs, _⟩
      · rw [e3] at hcs
        simp only [List.cons.injEq, and_true] at hcs
        subst hcs
        rfl
      · rw [e3] at hcs
        simp only [List.cons.injEq, and_true] at hcs
        subst hcs
        rfl
    rw [e4] at hL
    have hr1 : rv.oneCell' = true := by
      obtain ⟨_, _, rfl⟩ := hL.form
      rfl
    refine ⟨⟨a0, l1, hl1, d, gv, hg1, rv, hr1, a5, L⟩, ?_, hL⟩
    unfold RowV.cells
    have s2 := one 48 (by decide)
    have s3 := one 49 (by decide)
    have s4 := one 50 (by decide)
    rw [e2] at s2
    rw [e3] at s3
    rw [e4] at s4
    simp only
    rw [← e0, ← e1, ← e5]
    have h1 : cs = cs.take 32 ++ cs.drop 32 := (List.take_append_drop 32 cs).symm
    have h2 : cs.drop 32 = (cs.drop 32).take 16 ++ cs.drop 48 := by
      have := (List.take_append_drop 16 (cs.drop 32)).symm
      rw [List.drop_drop] at this
      exact this
    have nx : ∀ n (v : Value), (cs.drop n).take 1 = [v] → cs.drop n = v :: cs.drop (n + 1) := fun n v hv => by
      have := (List.take_append_drop 1 (cs.drop n)).symm
      rw [List.drop_drop, hv] at this
      exact this
    have h6 : (cs.drop 51).take 32 = cs.drop 51 := List.take_of_length_le (by rw [List.length_drop]; omega)
    rw [h6]
    conv => lhs; rw [h1, h2, nx 48 _ s2, nx 49 _ s3, nx 50 _ s4]
    rfl

instance : Inhabited RowV := ⟨⟨z32, List.replicate 16 0, by simp, 0, .slice none 0 0, rfl, .slice none 0 0, rfl, z32, []⟩⟩

theorem trod_rows {v : Value} {x : DataW H × List MemPlace} (h : DataW.trod enc Try.prog w base sp held fuel 22 [v] = some x) : ∃ L : List RowV, RowsAt w v L := by
  obtain ⟨L, hL, hr⟩ := trod_list rowE cellsOf_Row (fun R => ListAt idE w R.rv R.refs) (fun _ cs x hlen h => trod_row hlen h) h
  exact ⟨L, hL, hr⟩
end
end Go.Proofs.Ytjjanjhoaiannaa
