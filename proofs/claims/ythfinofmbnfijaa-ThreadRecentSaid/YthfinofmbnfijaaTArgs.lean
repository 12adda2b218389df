/- How an argument's reading opens: described articles. -/
import Derived.Test.YthfinofmbnfijaaTh16
import Derived.ProofKit
import Derived.OpenShut
import Derived.Deep.Slices
import Derived.WalkKit
namespace Go.Proofs.Ythfinofmbnfijaa
open Go.RowKit Go.ChangeShapes Go.WideShapes Go.ChangeAt Go.Deep
set_option linter.unusedVariables false
set_option linter.unusedSimpArgs false

theorem cellsOf_Raw : Try.prog.cellsOf 51 = 3 := by kernel_rfl
theorem cellsOf_u8s : Try.prog.cellsOf 45 = 1 := by kernel_rfl
theorem len3 {α : Type} {l : List α} (h : l.length = 3) : ∃ a b c, l = [a, b, c] := by
  cases l with
  | nil => cases h
  | cons a l =>
    cases l with
    | nil => cases h
    | cons b l =>
      cases l with
      | nil => cases h
      | cons c l =>
        cases l with
        | nil => exact ⟨a, b, c, rfl⟩
        | cons d l => simp at h
theorem u8_of {a : Int} (h : 0 ≤ a ∧ a ≤ 255) : ∃ n : UInt8, (n.toNat : Int) = a := by
  obtain ⟨k, rfl⟩ := Int.eq_ofNat_of_zero_le h.1
  exact ⟨UInt8.ofNat k, by rw [UInt8.toNat_ofNat', Nat.mod_eq_of_lt (by omega)]⟩
section
variable {H : Type} {enc : TypeId × Value → H} {w : World} {base : Nat} {sp : Nat → Bool} {held : Bool} {fuel : Nat}

theorem trod_u8 {v : Value} {x : DataW H × List MemPlace}
    (h : DataW.trod enc Try.prog w base sp held fuel 5 [v] = some x) : ∃ b : UInt8, v = .int .u8 (b.toNat : Int) := by
  obtain ⟨n, e, _, hw⟩ := DataW.trod_int Try.underlying5 h
  have hb : 0 ≤ n ∧ n ≤ 255 := bounds_u8 hw
  obtain ⟨k, rfl⟩ := Int.eq_ofNat_of_zero_le hb.1
  refine ⟨UInt8.ofNat k, ?_⟩
  have : v = .int .u8 (k : Int) := by simpa using e
  rw [this]
  simp only [UInt8.toNat_ofNat']
  rw [Nat.mod_eq_of_lt (by omega)]

theorem trod_list {α : Type} [Inhabited α] {sT T : TypeId} (E : ElemTy Try.prog sT T α) (hc : Try.prog.cellsOf T = E.k) (p : α → Prop)
    (step : ∀ (fuel : Nat) (cs : List Value) (x : DataW H × List MemPlace), cs.length = E.k → DataW.trod enc Try.prog w base sp held fuel T cs = some x → ∃ a : α, cs = E.enc a ∧ p a)
    {v : Value} {x : DataW H × List MemPlace} (h : DataW.trod enc Try.prog w base sp held fuel sT [v] = some x) : ∃ L : List α, ListAt E w v L ∧ ∀ a ∈ L, p a := by
  rcases open_slice E.hu h with ⟨hcs, _⟩ | ⟨a, len, cap, m, n, D, Pl, hcs, _, hl, hcm, hm, rfl, hx⟩
  · simp only [List.cons.injEq, and_true] at hcs
    subst hcs
    exact ⟨[], listAt_nil E w, fun a ha => by cases ha⟩
  · simp only [List.cons.injEq, and_true] at hcs
    subst hcs
    have hml : len ≤ m := by rw [hm]; split <;> omega
    have each : ∀ i, i < len → ∃ S : α, w.cells? base (a.add (i * E.k)) E.k = some (E.enc S) ∧ p S := fun i hi => by
      obtain ⟨cs', h1, h2⟩ := hx i (Nat.lt_of_lt_of_le hi hml)
      rw [hc] at h1
      obtain ⟨_, hlen, _⟩ := World.cells?_some h1
      obtain ⟨S, rfl, hS⟩ := step _ _ _ hlen h2
      exact ⟨S, h1, hS⟩
    obtain ⟨Q, hQ⟩ := choose_lt (α := α) each
    have hlen : ((List.range len).map Q).length = len := by simp
    refine ⟨(List.range len).map Q, ⟨some a, cap, by rw [hlen], by rw [hlen]; exact hl, hcm, (fun e => by cases e), fun hne => ?_⟩, fun S hS => ?_⟩
    · have hpos : 0 < len := by
        rcases Nat.eq_zero_or_pos len with h0 | h0
        · subst h0; exact absurd rfl hne
        · exact h0
      obtain ⟨g, off, spot⟩ := a
      have h0 := (World.cells?_some (hQ 0 hpos).1).2.2 0 E.hk
      obtain ⟨u0, hu0⟩ : ∃ u, (E.enc (Q 0))[0]? = some u := ⟨_, List.getElem?_eq_getElem (by rw [E.len]; exact E.hk)⟩
      rw [hu0] at h0
      have hspot : spot = none := by simpa [Addr.add] using World.cell?_spot h0
      subst hspot
      have hap : ∀ (g off j : Nat), (⟨g, off, none⟩ : Addr).add j = ⟨g, off + j, none⟩ := fun g off j => by unfold Addr.add; split <;> simp_all
      refine ⟨g, off, rfl, ?_, fun i hi => ?_⟩
      · have := World.block_lt_of_cell? w _ h0
        simpa [Addr.add] using this
      · have hi' : i < len := by simpa using hi
        obtain ⟨h1, hS⟩ := hQ i hi'
        simp only [List.getElem_map, List.getElem_range]
        obtain ⟨_, _, hcc⟩ := World.cells?_some h1
        intro j u hj
        have hj6 : j < E.k := by rw [← E.len (Q i)]; exact (List.getElem?_eq_some_iff.1 hj).1
        have := hcc j hj6
        rw [hap, hap] at this
        rw [this]
        exact hj
    · obtain ⟨i, hi, rfl⟩ := List.mem_map.1 hS
      exact (hQ i (by simpa using hi)).2


theorem trod_u8s {v : Value} {x : DataW H × List MemPlace} (h : DataW.trod enc Try.prog w base sp held fuel 45 [v] = some x) : ∃ L : List UInt8, ListAt u8E w v L := by
  obtain ⟨L, hL, _⟩ := trod_list u8E cellsOf_u8' (fun _ => True) (fun _ cs x hlen h => by
    match cs, hlen with
    | [c], _ =>
      obtain ⟨b, e⟩ := trod_u8 h
      exact ⟨b, by rw [e]; rfl, trivial⟩) h
  exact ⟨L, hL⟩
instance : Inhabited RawV := ⟨⟨0, 0, .slice none 0 0, rfl, []⟩⟩
theorem trod_raw {cs : List Value} {x : DataW H × List MemPlace} (hlen : cs.length = 3) (h : DataW.trod enc Try.prog w base sp held fuel 51 cs = some x) : ∃ R : RawV, cs = R.cells ∧ ListAt u8E w R.rv R.refs := by
  obtain ⟨xs, k, hk, hxy, _, hxl, hf⟩ := DataW.trod_struct Try.underlying51 h
  have hxl3 : xs.length = 3 := hxl
  obtain ⟨y0, y1, y2, rfl⟩ := len3 hxl3
  obtain ⟨c0, c1, c2, rfl⟩ := len3 hlen
  have g0 : DataW.trod enc Try.prog w base sp held k 5 (([c0, c1, c2].drop 0).take (Try.prog.cellsOf 5)) = some y0 := hf 0 _ rfl
  have g1 : DataW.trod enc Try.prog w base sp held k 5 (([c0, c1, c2].drop 1).take (Try.prog.cellsOf 5)) = some y1 := hf 1 _ rfl
  have g2 : DataW.trod enc Try.prog w base sp held k 45 (([c0, c1, c2].drop 2).take (Try.prog.cellsOf 45)) = some y2 := hf 2 _ rfl
  rw [cellsOf_u8'] at g0 g1
  rw [cellsOf_u8s] at g2
  have e0 : ([c0, c1, c2].drop 0).take 1 = [c0] := rfl
  have e1 : ([c0, c1, c2].drop 1).take 1 = [c1] := rfl
  have e2 : ([c0, c1, c2].drop 2).take 1 = [c2] := rfl
  rw [e0] at g0
  rw [e1] at g1
  rw [e2] at g2
  obtain ⟨a, rfl⟩ := trod_u8 g0
  obtain ⟨b, rfl⟩ := trod_u8 g1
  obtain ⟨L, hL⟩ := trod_u8s g2
  have h1 : c2.oneCell' = true := by
    obtain ⟨_, _, rfl⟩ := hL.form
    rfl
  exact ⟨⟨a, b, c2, h1, L⟩, rfl, hL⟩
theorem trod_raws {v : Value} {x : DataW H × List MemPlace} (h : DataW.trod enc Try.prog w base sp held fuel 22 [v] = some x) : ∃ L : List RawV, RawsAt w v L := by
  obtain ⟨L, hL, hr⟩ := trod_list rawE cellsOf_Raw (fun R => ListAt u8E w R.rv R.refs) (fun _ cs x hlen h => trod_raw hlen h) h
  exact ⟨L, hL, hr⟩
end
end Go.Proofs.Ythfinofmbnfijaa
