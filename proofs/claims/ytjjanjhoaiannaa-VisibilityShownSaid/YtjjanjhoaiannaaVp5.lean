/- Visibility, plain: the next minute at which another set is shown. -/
import Derived.Test.YtjjanjhoaiannaaVp4
import Derived.Test.YtjjanjhoaiannaaV6
namespace Go.Proofs.Ytjjanjhoaiannaa
open Go.RowKit
set_option linter.unusedVariables false
set_option linter.unusedSimpArgs false

theorem pick_marks (p : RowV → Bool) : ∀ L : List RowV, pickIds L (L.map p) true = (L.filter p).map (·.id) ∧ pickIds L (L.map p) false = (L.filter fun r => !p r).map (·.id)
  | [] => ⟨rfl, rfl⟩
  | r :: L => by
    obtain ⟨h1, h2⟩ := pick_marks p L
    unfold pickIds at h1 h2 ⊢
    rw [List.map_cons, List.zip_cons_cons]
    cases hp : p r <;> simp [hp] <;> exact ⟨by simpa using h1, by simpa using h2⟩

section
variable {L : List RowV} {G : List IdB} {now at_ : Int}
def shS (L : List RowV) (G : List IdB) (t : Int) : List IdB := sortB ((L.filter fun r => shB L G t r).map (·.id))
theorem findRow_none {q : IdB} : findRow L q = none ↔ q ∉ L.map (·.id) := by
  unfold findRow
  rw [List.find?_eq_none]
  constructor
  · intro h hq
    obtain ⟨r, hr, he⟩ := List.mem_map.1 hq
    exact h r hr (beq_iff_eq.2 he)
  · intro h r hr he
    exact h (List.mem_map.2 ⟨r, hr, beq_iff_eq.1 he⟩)
theorem term_same (h : ∀ r ∈ L, missing L G r = true → now < r.date + 2880 → at_ < r.date + 2880) (hle : now ≤ at_) {s : RowV} (hs : s ∈ L) (hst : stepR L s = none) : termR G at_ s = termR G now s := by
  unfold termR
  unfold stepR at hst
  cases hq : s.refs.getLast? with
  | none => rfl
  | some q =>
    rw [hq, Option.bind_some, findRow_none] at hst
    simp only
    by_cases hg : q ∈ G
    · rw [decide_eq_true hg, Bool.true_or, Bool.true_or]
    · rw [decide_eq_false hg, Bool.false_or, Bool.false_or]
      have hm : missing L G s = true := by
        unfold missing
        rw [hq]
        simp only
        rw [decide_eq_false hst, decide_eq_false hg]
        rfl
      by_cases hd : s.date + 2880 ≤ now
      · rw [decide_eq_true hd, decide_eq_true (Int.le_trans hd hle)]
      · rw [decide_eq_false hd, decide_eq_false]
        have := h s hs hm (by omega)
        omega
theorem shS_same (h : ∀ r ∈ L, missing L G r = true → now < r.date + 2880 → at_ < r.date + 2880) (hle : now ≤ at_) : shS L G at_ = shS L G now := by
  unfold shS
  congr 2
  refine List.filter_congr fun r hr => ?_
  apply Bool.eq_iff_iff.2
  unfold shB
  rw [dec_iff, dec_iff]
  constructor
  · rintro ⟨k, hk, s, h1, h2, h3⟩
    exact ⟨k, hk, s, h1, h2, by rw [← term_same h hle (iterR_mem hr k h1) h2]; exact h3⟩
  · rintro ⟨k, hk, s, h1, h2, h3⟩
    exact ⟨k, hk, s, h1, h2, by rw [term_same h hle (iterR_mem hr k h1) h2]; exact h3⟩
theorem shS_diff (hn : (L.map (·.id)).Nodup) {r : RowV} (hr : r ∈ L) (hm : missing L G r = true) (h1 : now < r.date + 2880) (h2 : r.date + 2880 ≤ at_) : shS L G at_ ≠ shS L G now := by
  intro he
  have hstep : stepR L r = none ∧ termR G at_ r = true ∧ termR G now r = false := by
    unfold missing at hm
    unfold stepR termR
    cases hq : r.refs.getLast? with
    | none => rw [hq] at hm; cases hm
    | some q =>
      rw [hq] at hm
      simp only [Bool.and_eq_true, Bool.not_eq_true', decide_eq_false_iff_not] at hm
      refine ⟨findRow_none.2 hm.1, ?_, ?_⟩
      · simp only
        rw [decide_eq_true h2, Bool.or_true]
      · simp only
        rw [decide_eq_false hm.2, Bool.false_or]
        exact decide_eq_false (by omega)
  have ha := (mem_shown (p := fun r => shB L G at_ r) hn hr).2 ((shB_term hn hr hstep.1).trans hstep.2.1)
  have hb := mem_shown (p := fun r => shB L G now r) hn hr
  have he' : sortB ((L.filter fun r => shB L G at_ r).map (·.id)) = sortB ((L.filter fun r => shB L G now r).map (·.id)) := he
  rw [he', hb] at ha
  rw [shB_term hn hr hstep.1, hstep.2.2] at ha
  cases ha

/-! the least limit of the rows that C picks -/
def nxC (C : RowV → Bool) (s : Int × Bool) (r : RowV) : Int × Bool := if (C r && (!s.2 || decide (r.date + 2880 < s.1))) = true then (r.date + 2880, true) else s
def lawStep (C : RowV → Bool) (s : Int) (r : RowV) : Int := if (C r && (decide (s = 0) || decide (r.date + 2880 < s))) = true then r.date + 2880 else s
def LeastS (C : RowV → Bool) (K : List RowV) (s : Int × Bool) : Prop :=
  (s.2 = false → s.1 = 0 ∧ ∀ r ∈ K, C r = false) ∧ (s.2 = true → (∃ r ∈ K, C r = true ∧ s.1 = r.date + 2880) ∧ ∀ r ∈ K, C r = true → s.1 ≤ r.date + 2880)
theorem least_fold (C : RowV → Bool) (L : List RowV) : ∀ i, i ≤ L.length → LeastS C (L.take i) ((L.take i).foldl (nxC C) (0, false))
  | 0, _ => ⟨fun _ => ⟨rfl, fun r hr => by cases hr⟩, fun h => by cases h⟩
  | i + 1, hi => by
    have ih := least_fold C L i (by omega)
    have hlt : i < L.length := hi
    rw [fold_next (nxC C) (0, false) L hlt]
    obtain ⟨s, hs⟩ : ∃ s, (L.take i).foldl (nxC C) (0, false) = s := ⟨_, rfl⟩
    rw [hs] at ih ⊢
    rw [List.take_succ_eq_append_getElem hlt]
    obtain ⟨r, hr⟩ : ∃ r, L[i] = r := ⟨_, rfl⟩
    rw [hr]
    obtain ⟨ih1, ih2⟩ := ih
    unfold nxC
    cases hC : C r with
    | false =>
      rw [Bool.false_and, if_neg (by decide)]
      refine ⟨fun h => ⟨(ih1 h).1, fun x hx => ?_⟩, fun h => ⟨?_, fun x hx hc => ?_⟩⟩
      · rcases List.mem_append.1 hx with hx | hx
        · exact (ih1 h).2 x hx
        · rw [List.mem_singleton.1 hx]; exact hC
      · obtain ⟨y, hy, h1, h2⟩ := (ih2 h).1
        exact ⟨y, List.mem_append_left _ hy, h1, h2⟩
      · rcases List.mem_append.1 hx with hx | hx
        · exact (ih2 h).2 x hx hc
        · rw [List.mem_singleton.1 hx, hC] at hc; cases hc
    | true =>
      rw [Bool.true_and]
      cases h2 : s.2 with
      | false =>
        rw [Bool.not_false, Bool.true_or, if_pos rfl]
        refine ⟨fun h => (by cases h), fun _ => ⟨⟨r, List.mem_append_right _ (List.mem_singleton.2 rfl), hC, rfl⟩, fun x hx hc => ?_⟩⟩
        rcases List.mem_append.1 hx with hx | hx
        · rw [(ih1 h2).2 x hx] at hc; cases hc
        · rw [List.mem_singleton.1 hx]; exact Int.le_refl _
      | true =>
        rw [Bool.not_true, Bool.false_or]
        obtain ⟨⟨y, hy, h3, h4⟩, h5⟩ := ih2 h2
        by_cases hd : r.date + 2880 < s.1
        · rw [if_pos (decide_eq_true hd)]
          refine ⟨fun h => (by cases h), fun _ => ⟨⟨r, List.mem_append_right _ (List.mem_singleton.2 rfl), hC, rfl⟩, fun x hx hc => ?_⟩⟩
          rcases List.mem_append.1 hx with hx | hx
          · exact Int.le_trans (Int.le_of_lt hd) (h5 x hx hc)
          · rw [List.mem_singleton.1 hx]; exact Int.le_refl _
        · rw [if_neg (by simpa using hd)]
          refine ⟨fun h => (by rw [h2] at h; cases h), fun _ => ⟨⟨y, List.mem_append_left _ hy, h3, h4⟩, fun x hx hc => ?_⟩⟩
          rcases List.mem_append.1 hx with hx | hx
          · exact h5 x hx hc
          · rw [List.mem_singleton.1 hx]; omega
theorem least_unique {C D : RowV → Bool} {K : List RowV} {s t : Int × Bool} (hs : LeastS C K s) (ht : LeastS D K t)
    (h1 : ∀ r ∈ K, C r = true → D r = true) (h2 : ∀ r ∈ K, D r = true → ∃ x ∈ K, C x = true ∧ x.date + 2880 ≤ r.date + 2880) : s = t := by
  obtain ⟨m, a⟩ := s
  obtain ⟨n, b⟩ := t
  obtain ⟨s1, s2⟩ := hs
  obtain ⟨t1, t2⟩ := ht
  cases a with
  | false =>
    obtain ⟨e1, e2⟩ := s1 rfl
    cases b with
    | false => rw [show m = 0 from e1, show n = 0 from (t1 rfl).1]
    | true =>
      obtain ⟨⟨r, hr, hd, _⟩, _⟩ := t2 rfl
      obtain ⟨x, hx, hc, _⟩ := h2 r hr hd
      rw [e2 x hx] at hc; cases hc
  | true =>
    obtain ⟨⟨r, hr, hc, e1⟩, e2⟩ := s2 rfl
    cases b with
    | false =>
      exact absurd (h1 r hr hc) (by rw [(t1 rfl).2 r hr]; decide)
    | true =>
      obtain ⟨⟨y, hy, hd, e3⟩, e4⟩ := t2 rfl
      obtain ⟨x, hx, hcx, hle⟩ := h2 y hy hd
      have g1 := e4 r hr (h1 r hr hc)
      have g2 := e2 x hx hcx
      have e1' : m = r.date + 2880 := e1
      have e3' : n = y.date + 2880 := e3
      have g1' : n ≤ r.date + 2880 := g1
      have g2' : m ≤ x.date + 2880 := g2
      rw [show m = n by omega]
theorem law_fold {C : RowV → Bool} : ∀ (K : List RowV) (s : Int × Bool), (∀ r ∈ K, 0 < r.date + 2880) → (s.2 = !decide (s.1 = 0)) → K.foldl (lawStep C) s.1 = (K.foldl (nxC C) s).1 ∧ (K.foldl (nxC C) s).2 = !decide ((K.foldl (nxC C) s).1 = 0)
  | [], _, _, h => ⟨rfl, h⟩
  | r :: K, s, hp, h => by
    rw [List.foldl_cons, List.foldl_cons]
    have e : lawStep C s.1 r = (nxC C s r).1 := by
      unfold lawStep nxC
      rw [h, Bool.not_not]
      split <;> rfl
    have h2 : (nxC C s r).2 = !decide ((nxC C s r).1 = 0) := by
      unfold nxC
      split
      · have := hp r List.mem_cons_self
        simp only
        rw [decide_eq_false (by omega)]
        rfl
      · exact h
    rw [e]
    exact law_fold K _ (fun x hx => hp x (List.mem_cons_of_mem _ hx)) h2
def lawC (L : List RowV) (G : List IdB) (now : Int) (r : RowV) : Bool := decide (now < r.date + 2880) && !decide (shS L G (r.date + 2880) = shS L G now)
theorem nextL_least (L : List RowV) (G : List IdB) (now : Int) : LeastS (fun r => missing L G r && decide (now < r.date + 2880)) L (nextL L G now) := by
  have h := least_fold (fun r => missing L G r && decide (now < r.date + 2880)) L L.length (Nat.le_refl _)
  rw [List.take_length] at h
  exact h
theorem next_law (hn : (L.map (·.id)).Nodup) (hd : ∀ r ∈ L, 0 ≤ r.date) : L.foldl (lawStep (lawC L G now)) 0 = (nextL L G now).1 ∧ (nextL L G now).2 = !decide ((nextL L G now).1 = 0) ∧ ((nextL L G now).2 = true → now < (nextL L G now).1) := by
  have hp : ∀ r ∈ L, 0 < r.date + 2880 := fun r hr => by have := hd r hr; omega
  have h2 := least_fold (lawC L G now) L L.length (Nat.le_refl _)
  rw [List.take_length] at h2
  have he : nextL L G now = L.foldl (nxC (lawC L G now)) (0, false) := by
    refine least_unique (nextL_least L G now) h2 (fun r hr hc => ?_) (fun r hr hc => ?_)
    · simp only [Bool.and_eq_true, decide_eq_true_eq] at hc
      unfold lawC
      rw [decide_eq_true hc.2, decide_eq_false (shS_diff hn hr hc.1 hc.2 (Int.le_refl _))]
      rfl
    · unfold lawC at hc
      simp only [Bool.and_eq_true, decide_eq_true_eq, Bool.not_eq_true', decide_eq_false_iff_not] at hc
      obtain ⟨h3, h4⟩ := hc
      apply Classical.byContradiction
      intro hno
      refine h4 (shS_same (fun x hx hm hlt => ?_) (by omega))
      apply Classical.byContradiction
      intro hle
      exact hno ⟨x, hx, by simp only [Bool.and_eq_true, decide_eq_true_eq]; exact ⟨hm, hlt⟩, by omega⟩
  obtain ⟨h3, h4⟩ := law_fold (C := lawC L G now) L (0, false) hp rfl
  rw [← he] at h3 h4
  refine ⟨h3, h4, fun h => ?_⟩
  obtain ⟨⟨r, hr, hc, e⟩, _⟩ := (nextL_least L G now).2 h
  simp only [Bool.and_eq_true, decide_eq_true_eq] at hc
  omega
end
end Go.Proofs.Ytjjanjhoaiannaa
