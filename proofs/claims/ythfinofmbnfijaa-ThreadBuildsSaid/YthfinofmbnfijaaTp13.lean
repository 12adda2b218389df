/- The model, plainly: the first article with a parent, the parents of missing articles, cycles. -/
import Derived.Test.YthfinofmbnfijaaTh22
import Derived.Test.YthfinofmbnfijaaTp12
namespace Go.Proofs.Ythfinofmbnfijaa
open Go.RowKit
set_option linter.unusedVariables false
set_option linter.unusedSimpArgs false

/-! ### the first article whose parent is x -/
/-- b is the best of the first n articles. -/
structure FstI (L : List RowV) (U : List (Option IdB)) (x : IdB) (n : Nat) (b : Int) : Prop where
  no : b < 0 → b = -1 ∧ ∀ i, i < n → U[i]? ≠ some (some x)
  yes : 0 ≤ b → ∃ (j : Nat) (hj : j < L.length), b = (j : Int) ∧ j < n ∧ U[j]? = some (some x) ∧ ∀ (i : Nat) (hi : i < L.length), i < n → U[i]? = some (some x) → ¬ cmpT L[i].tw L[j].tw < 0
section
variable {L : List RowV} {U : List (Option IdB)} {x : IdB} {n : Nat} {b : Int}
theorem FstI.zero (L : List RowV) (U : List (Option IdB)) (x : IdB) : FstI L U x 0 (-1) := ⟨fun _ => ⟨rfl, fun i hi => absurd hi (Nat.not_lt_zero i)⟩, fun h => absurd h (by decide)⟩
theorem FstI.skip (h : FstI L U x n b) (hu : U[n]? ≠ some (some x)) : FstI L U x (n + 1) b := by
  refine ⟨fun hb => ⟨(h.no hb).1, fun i hi => ?_⟩, fun hb => ?_⟩
  · by_cases e : i = n
    · rw [e]; exact hu
    · exact (h.no hb).2 i (by omega)
  · obtain ⟨j, hj, e, h1, h2, h3⟩ := h.yes hb
    refine ⟨j, hj, e, by omega, h2, fun i hi hin hiu => ?_⟩
    by_cases e : i = n
    · exact absurd (e ▸ hiu) hu
    · exact h3 i hi (by omega) hiu
theorem FstI.take (h : FstI L U x n b) (hn : n < L.length) (hu : U[n]? = some (some x)) (hb : b < 0 ∨ ∃ (j : Nat) (hj : j < L.length), b = (j : Int) ∧ cmpT L[n].tw L[j].tw < 0) : FstI L U x (n + 1) (n : Int) := by
  refine ⟨fun hb => absurd hb (by omega), fun _ => ⟨n, hn, rfl, by omega, hu, fun i hi hin hiu => ?_⟩⟩
  by_cases e : i = n
  · subst e; rw [cmpT_self]; decide
  · rcases hb with hb | ⟨j, hj, ej, hlt⟩
    · exact absurd hiu ((h.no hb).2 i (by omega))
    · obtain ⟨j', hj', e', h1, h2, h3⟩ := h.yes (by omega)
      obtain rfl : j = j' := by omega
      intro hc
      exact h3 i hi (by omega) hiu (cmpT_trans hc hlt)
theorem FstI.keep (h : FstI L U x n b) {j : Nat} (hn : n < L.length) (hj : j < L.length) (hb : b = (j : Int)) (hlt : ¬ cmpT L[n].tw L[j].tw < 0) : FstI L U x (n + 1) b := by
  refine ⟨fun hb => absurd hb (by omega), fun hb0 => ?_⟩
  obtain ⟨j', hj', e', h1, h2, h3⟩ := h.yes hb0
  obtain rfl : j = j' := by omega
  refine ⟨j, hj, hb, by omega, h2, fun i hi hin hiu => ?_⟩
  by_cases e : i = n
  · subst e; exact hlt
  · exact h3 i hi (by omega) hiu
end
theorem asc_find {S : List Tw} (hS : Asc S) {p : Tw → Bool} {a : Tw} (ha : a ∈ S) (hpa : p a = true) (hmin : ∀ b ∈ S, p b = true → ¬ cmpT b a < 0) : S.find? p = some a := by
  induction S with
  | nil => cases ha
  | cons s S ih =>
    rw [List.find?_cons]
    cases hs : p s with
    | true =>
      rcases List.mem_cons.1 ha with rfl | h
      · rfl
      · exact absurd (List.rel_of_pairwise_cons hS h) (hmin s (List.mem_cons_self ..) hs)
    | false =>
      rcases List.mem_cons.1 ha with rfl | h
      · rw [hpa] at hs; cases hs
      · exact ih (List.Pairwise.of_cons hS) h (fun b hb => hmin b (List.mem_cons_of_mem _ hb))
theorem mem_arrS {L : List RowV} {t : Tw} : t ∈ arrS L ↔ ∃ (i : Nat) (hi : i < L.length), L[i].tw = t := by
  rw [(arrS_perm L).mem_iff, List.mem_map]
  constructor
  · rintro ⟨r, hr, rfl⟩
    obtain ⟨i, hi, rfl⟩ := List.mem_iff_getElem.1 hr
    exact ⟨i, hi, rfl⟩
  · rintro ⟨i, hi, rfl⟩
    exact ⟨L[i], List.getElem_mem hi, rfl⟩
theorem FstI.find {L : List RowV} (hn : (L.map (·.id)).Nodup) {g : Tw → Option IdB} {x : IdB} {b : Int} (h : FstI L (L.map fun r => g r.tw) x L.length b) :
    (b = -1 ∧ (arrS L).find? (fun t => decide (g t = some x)) = none) ∨ ∃ (j : Nat) (hj : j < L.length), b = (j : Int) ∧ (arrS L).find? (fun t => decide (g t = some x)) = some L[j].tw := by
  have hU : ∀ i (hi : i < L.length), (L.map fun r => g r.tw)[i]? = some (g L[i].tw) := fun i hi => by rw [List.getElem?_map, List.getElem?_eq_getElem hi]; rfl
  by_cases hb : b < 0
  · left
    refine ⟨(h.no hb).1, List.find?_eq_none.2 fun t ht => ?_⟩
    obtain ⟨i, hi, rfl⟩ := mem_arrS.1 ht
    intro e
    exact (h.no hb).2 i hi (by rw [hU i hi, of_decide_eq_true e])
  · right
    obtain ⟨j, hj, e, _, h2, h3⟩ := h.yes (by omega)
    refine ⟨j, hj, e, asc_find (arrS_asc hn) (mem_arrS.2 ⟨j, hj, rfl⟩) (decide_eq_true ?_) fun t ht hp => ?_⟩
    · rw [hU j hj] at h2; exact Option.some.inj h2
    · obtain ⟨i, hi, rfl⟩ := mem_arrS.1 ht
      exact h3 i hi hi (by rw [hU i hi, of_decide_eq_true hp])

/-! ### the parent of a missing article, of any identity -/
def misP (L : List RowV) (x : IdB) : Option IdB := ((arrS L).find? fun r => decide (r.refs.getLast? = some x)).bind (farther (isArt (arrS L)))
def nxtP (L : List RowV) (U : List (Option IdB)) (x : IdB) : Option IdB := if 0 ≤ idxL L x then (U[(idxL L x).toNat]?).getD none else misP L x
/-- The parents before cycles are cut. -/
abbrev parP (L : List RowV) : Par := pM (isArt (arrS L)) (arrS L)
theorem isArt_idx {L : List RowV} {x : IdB} : isArt (arrS L) x = decide (0 ≤ idxL L x) := by
  rw [Bool.eq_iff_iff, decide_eq_true_eq]
  constructor
  · intro h
    obtain ⟨r, hr, e⟩ := mem_isArt.1 h
    refine Classical.byContradiction fun hc => ?_
    exact idxL_nonneg.1 (show idxL L x < 0 by omega) r hr e
  · intro h
    obtain ⟨k, hk, _, e⟩ := idxL_pos h
    exact mem_isArt.2 ⟨L[k], List.getElem_mem hk, e⟩
where
  idxL_pos {L : List RowV} {x : IdB} (h : 0 ≤ idxL L x) : ∃ (k : Nat) (hk : k < L.length), idxL L x = (k : Int) ∧ L[k].id = x := by
    unfold idxL at h ⊢
    cases hf : L.findIdx? (fun r => decide (r.id = x)) with
    | none => rw [hf] at h; exact absurd h (by decide)
    | some i =>
      obtain ⟨hi, e⟩ := idxL_some hf
      exact ⟨i, hi, rfl, e⟩
theorem misP_eq {L : List RowV} {x : IdB} (h : idxL L x < 0) : misP L x = parP L x := by
  unfold parP pM
  rw [isArt_idx, if_neg (by simp; omega)]
  rfl
theorem idx_at {L : List RowV} (hn : (L.map (·.id)).Nodup) {i : Nat} (hi : i < L.length) : idxL L L[i].id = (i : Int) := by
  unfold idxL
  rw [idxL_at hn hi]
theorem parP_art {L : List RowV} (hn : (L.map (·.id)).Nodup) {i : Nat} (hi : i < L.length) : parP L L[i].id = L[i].refs.getLast? :=
  pM_art (arrS_nodup hn) (mem_arrS.2 ⟨i, hi, rfl⟩) (mem_isArt.2 ⟨L[i], List.getElem_mem hi, rfl⟩)
theorem nxtP_dir {L : List RowV} (hn : (L.map (·.id)).Nodup) (x : IdB) : nxtP L (dirL L) x = parP L x := by
  unfold nxtP
  by_cases h : 0 ≤ idxL L x
  · obtain ⟨k, hk, e, rfl⟩ := isArt_idx.idxL_pos h
    rw [if_pos h, e, parP_art hn hk]
    unfold dirL
    rw [Int.toNat_natCast, List.getElem?_map, List.getElem?_eq_getElem hk]
    rfl
  · rw [if_neg h, misP_eq (by omega)]

/-! ### the articles of a cycle -/
/-- What is met within s steps up from x. -/
def cycAcc (L : List RowV) (p : Par) (x : IdB) (i0 : Nat) : Nat → List Nat
  | 0 => [i0]
  | s + 1 => match it p (s + 1) x with
    | some y => if 0 ≤ idxL L y then cycAcc L p x i0 s ++ [(idxL L y).toNat] else cycAcc L p x i0 s
    | none => cycAcc L p x i0 s
theorem cycAcc_len (L : List RowV) (p : Par) (x : IdB) (i0 : Nat) : ∀ s, (cycAcc L p x i0 s).length ≤ s + 1
  | 0 => Nat.le_refl _
  | s + 1 => by
    have := cycAcc_len L p x i0 s
    unfold cycAcc
    split
    · split
      · rw [List.length_append]; simp; omega
      · omega
    · omega
theorem cycAcc_pos (L : List RowV) (p : Par) (x : IdB) (i0 : Nat) : ∀ s, 0 < (cycAcc L p x i0 s).length
  | 0 => Nat.zero_lt_one
  | s + 1 => by
    have := cycAcc_pos L p x i0 s
    unfold cycAcc
    split
    · split
      · rw [List.length_append]; omega
      · omega
    · omega
theorem cycAcc_mem {L : List RowV} {p : Par} {x : IdB} {i0 : Nat} : ∀ {s k : Nat}, k ∈ cycAcc L p x i0 s ↔ k = i0 ∨ ∃ m y, 1 ≤ m ∧ m ≤ s ∧ it p m x = some y ∧ idxL L y = (k : Int)
  | 0, k => by
    unfold cycAcc
    rw [List.mem_singleton]
    refine ⟨fun h => .inl h, ?_⟩
    rintro (h | ⟨m, y, h1, h2, _⟩)
    · exact h
    · omega
  | s + 1, k => by
    have ih := @cycAcc_mem L p x i0 s k
    have hlast : ∀ m y, 1 ≤ m → m ≤ s + 1 → it p m x = some y → m ≤ s ∨ it p (s + 1) x = some y := fun m y h1 h2 h3 => by
      by_cases e : m = s + 1
      · exact .inr (e ▸ h3)
      · exact .inl (by omega)
    have hup : (∃ m y, 1 ≤ m ∧ m ≤ s ∧ it p m x = some y ∧ idxL L y = (k : Int)) → ∃ m y, 1 ≤ m ∧ m ≤ s + 1 ∧ it p m x = some y ∧ idxL L y = (k : Int) := fun ⟨m, y, h1, h2, h3⟩ => ⟨m, y, h1, by omega, h3⟩
    unfold cycAcc
    cases hs : it p (s + 1) x with
    | none =>
      dsimp only
      rw [ih]
      refine ⟨fun h => h.imp id hup, fun h => h.imp id ?_⟩
      rintro ⟨m, y, h1, h2, h3, h4⟩
      rcases hlast m y h1 h2 h3 with h | h
      · exact ⟨m, y, h1, h, h3, h4⟩
      · rw [hs] at h; cases h
    | some z =>
      dsimp only
      by_cases hz : 0 ≤ idxL L z
      · rw [if_pos hz, List.mem_append, List.mem_singleton, ih]
        constructor
        · rintro (h | h)
          · exact h.imp id hup
          · exact .inr ⟨s + 1, z, by omega, Nat.le_refl _, hs, by omega⟩
        · rintro (h | ⟨m, y, h1, h2, h3, h4⟩)
          · exact .inl (.inl h)
          · rcases hlast m y h1 h2 h3 with h | h
            · exact .inl (.inr ⟨m, y, h1, h, h3, h4⟩)
            · rw [hs] at h
              cases h
              exact .inr (by omega)
      · rw [if_neg hz, ih]
        refine ⟨fun h => h.imp id hup, fun h => h.imp id ?_⟩
        rintro ⟨m, y, h1, h2, h3, h4⟩
        rcases hlast m y h1 h2 h3 with h | h
        · exact ⟨m, y, h1, h, h3, h4⟩
        · rw [hs] at h
          cases h
          omega
/-- What cycle hands back for the article x in place i0. -/
def CycR (L : List RowV) (x : IdB) (i0 : Nat) (C : List Nat) : Prop :=
  (C = [] ∧ ∀ n, n < 3 * L.length + 3 → it (parP L) (n + 1) x ≠ some x) ∨ ∃ n, n < 3 * L.length + 3 ∧ it (parP L) (n + 1) x = some x ∧ C = cycAcc L (parP L) x i0 n
/-- A cycle is short: of two that follow one is an article. -/
theorem cycle_short {L : List RowV} (hn : (L.map (·.id)).Nodup) {x : IdB} (hx : onC (parP L) x) : ∃ n, n < 2 * L.length + 2 ∧ it (parP L) (n + 1) x = some x := by
  obtain ⟨n, h1, h2⟩ := period hx
  refine ⟨n, Classical.byContradiction fun hlt => ?_, h1⟩
  have hsome := period_some h1
  have hinj : ∀ a b y, a < b → b ≤ n → it (parP L) a x = some y → it (parP L) b x = some y → False := fun a b y hab hbn ha hb => by
    have e1 := it_add (parP L) b (n + 1 - b) x
    rw [show b + (n + 1 - b) = n + 1 by omega, h1, hb] at e1
    have e2 := it_add (parP L) a (n + 1 - b) x
    rw [ha] at e2
    have e3 : it (parP L) (a + (n + 1 - b)) x = some x := by rw [e2]; exact e1.symm
    exact h2 (a + (n - b)) (by omega) (by rw [show a + (n - b) + 1 = a + (n + 1 - b) by omega]; exact e3)
  have hpick : ∀ j, j < L.length + 1 → ∃ m y, (m = 2 * j ∨ m = 2 * j + 1) ∧ it (parP L) m x = some y ∧ isArt (arrS L) y = true := fun j hj => by
    obtain ⟨y, hy⟩ := hsome (2 * j) (by omega)
    obtain ⟨z, hz⟩ := hsome (2 * j + 1) (by omega)
    have hyz : parP L y = some z := by
      have := it_succ (parP L) (2 * j) x
      rw [hz, hy] at this
      exact this.symm
    rcases alt_pM (arrS L) y z hyz with h | h
    · exact ⟨2 * j, y, .inl rfl, hy, h⟩
    · exact ⟨2 * j + 1, z, .inr rfl, hz, h⟩
  have hch : ∀ j, ∃ y, j < L.length + 1 → ∃ m, (m = 2 * j ∨ m = 2 * j + 1) ∧ it (parP L) m x = some y ∧ isArt (arrS L) y = true := fun j => by
    by_cases hj : j < L.length + 1
    · obtain ⟨m, y, h⟩ := hpick j hj
      exact ⟨y, fun _ => ⟨m, h⟩⟩
    · exact ⟨x, fun h => absurd h hj⟩
  obtain ⟨f, hf⟩ := Classical.skolem.1 hch
  have hnd : ((List.range (L.length + 1)).map f).Nodup := by
    rw [List.nodup_iff_pairwise_ne, List.pairwise_map, List.pairwise_iff_getElem]
    intro i j hi hj hij e
    rw [List.length_range] at hi hj
    rw [List.getElem_range, List.getElem_range] at e
    obtain ⟨m, hm, h3, _⟩ := hf i hi
    obtain ⟨k, hk, h4, _⟩ := hf j hj
    rw [← e] at h4
    exact hinj m k _ (by omega) (by omega) h3 h4
  have := nodup_len _ (L.map (·.id)) hnd (fun y hy => by
    obtain ⟨j, hj, rfl⟩ := List.mem_map.1 hy
    obtain ⟨_, _, _, h5⟩ := hf j (List.mem_range.1 hj)
    obtain ⟨r, hr, e⟩ := mem_isArt.1 h5
    exact List.mem_map.2 ⟨r, hr, e⟩)
  rw [List.length_map, List.length_map, List.length_range] at this
  omega
theorem CycR.nil {L : List RowV} (hn : (L.map (·.id)).Nodup) {x : IdB} {i0 : Nat} {C : List Nat} (h : CycR L x i0 C) : C = [] ↔ ¬ onC (parP L) x := by
  rcases h with ⟨h1, h2⟩ | ⟨n, _, h1, h2⟩
  · refine ⟨fun _ hc => ?_, fun _ => h1⟩
    obtain ⟨n, hn1, hn2⟩ := cycle_short hn hc
    exact h2 n (by omega) hn2
  · refine ⟨fun e => ?_, fun hc => absurd ⟨n, h1⟩ hc⟩
    have := cycAcc_pos L (parP L) x i0 n
    rw [← h2, e] at this
    cases this
theorem acyclic_arts {L : List RowV} (h : ∀ (i : Nat) (hi : i < L.length), ¬ onC (parP L) L[i].id) (x : IdB) : ¬ onC (parP L) x := fun hx => by
  obtain ⟨y, hr, hl⟩ := cycle_least (alt_pM (arrS L)) hx
  obtain ⟨k, hk, _⟩ := hl.2
  obtain ⟨hk2, e⟩ := rk_some hk
  obtain ⟨i, hi, e2⟩ := mem_arrS.1 (List.getElem_mem hk2)
  refine h i hi ?_
  have : L[i].id = y := by rw [← e, ← e2]; rfl
  rw [this]
  exact hl.1
end Go.Proofs.Ythfinofmbnfijaa
