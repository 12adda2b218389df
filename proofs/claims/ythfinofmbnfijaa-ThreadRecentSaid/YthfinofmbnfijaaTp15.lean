/- The model, plainly: the first article with a parent, the parents of missing articles, cycles; The model's parents, plainly: the first article of a cycle; The model's knots, plainly: the children of a node, picked one by one. -/
import Derived.Test.YthfinofmbnfijaaTh22
import Derived.Test.YthfinofmbnfijaaTp12
namespace Go.Proofs.Ythfinofmbnfijaa
open Go.RowKit
set_option linter.unusedVariables false
set_option linter.unusedSimpArgs false

/-! ### the first article whose parent is x -/
/-- b is the best of the first n articles. -/
structure FstI (L : List RowV) (U : List (Option IdB)) (x : IdB) (n : Nat) (b : Int) : Prop where
  no : b < 0 → b = -1 ∧ ∀ i, i < n → U[i]? ≠ some (some x)
  yes : 0 ≤ b → ∃ (j : Nat) (hj : j < L.length), b = (j : Int) ∧ j < n ∧ U[j]? = some (some x) ∧ ∀ (i : Nat) (hi : i < L.length), i < n → U[i]? = some (some x) → ¬ cmpT L[i].tw L[j].tw < 0
section
variable {L : List RowV} {U : List (Option IdB)} {x : IdB} {n : Nat} {b : Int}
theorem FstI.zero (L : List RowV) (U : List (Option IdB)) (x : IdB) : FstI L U x 0 (-1) := ⟨fun _ => ⟨rfl, fun i hi => absurd hi (Nat.not_lt_zero i)⟩, fun h => absurd h (by decide)⟩
theorem FstI.skip (h : FstI L U x n b) (hu : U[n]? ≠ some (some x)) : FstI L U x (n + 1) b := by
  refine ⟨fun hb => ⟨(h.no hb).1, fun i hi => ?_⟩, fun hb => ?_⟩
  · by_cases e : i = n
    · rw [e]; exact hu
    · exact (h.no hb).2 i (by omega)
  · obtain ⟨j, hj, e, h1, h2, h3⟩ := h.yes hb
    refine ⟨j, hj, e, by omega, h2, fun i hi hin hiu => ?_⟩
    by_cases e : i = n
    · exact absurd (e ▸ hiu) hu
    · exact h3 i hi (by omega) hiu
theorem FstI.take (h : FstI L U x n b) (hn : n < L.length) (hu : U[n]? = some (some x)) (hb : b < 0 ∨ ∃ (j : Nat) (hj : j < L.length), b = (j : Int) ∧ cmpT L[n].tw L[j].tw < 0) : FstI L U x (n + 1) (n : Int) := by
  refine ⟨fun hb => absurd hb (by omega), fun _ => ⟨n, hn, rfl, by omega, hu, fun i hi hin hiu => ?_⟩⟩
  by_cases e : i = n
  · subst e; rw [cmpT_self]; decide
  · rcases hb with hb | ⟨j, hj, ej, hlt⟩
    · exact absurd hiu ((h.no hb).2 i (by omega))
    · obtain ⟨j', hj', e', h1, h2, h3⟩ := h.yes (by omega)
      obtain rfl : j = j' := by omega
      intro hc
      exact h3 i hi (by omega) hiu (cmpT_trans hc hlt)
theorem FstI.keep (h : FstI L U x n b) {j : Nat} (hn : n < L.length) (hj : j < L.length) (hb : b = (j : Int)) (hlt : ¬ cmpT L[n].tw L[j].tw < 0) : FstI L U x (n + 1) b := by
  refine ⟨fun hb => absurd hb (by omega), fun hb0 => ?_⟩
  obtain ⟨j', hj', e', h1, h2, h3⟩ := h.yes hb0
  obtain rfl : j = j' := by omega
  refine ⟨j, hj, hb, by omega, h2, fun i hi hin hiu => ?_⟩
  by_cases e : i = n
  · subst e; exact hlt
  · exact h3 i hi (by omega) hiu
end
theorem asc_find {S : List Tw} (hS : Asc S) {p : Tw → Bool} {a : Tw} (ha : a ∈ S) (hpa : p a = true) (hmin : ∀ b ∈ S, p b = true → ¬ cmpT b a < 0) : S.find? p = some a := by
  induction S with
  | nil => cases ha
  | cons s S ih =>
    rw [List.find?_cons]
    cases hs : p s with
    | true =>
      rcases List.mem_cons.1 ha with rfl | h
      · rfl
      · exact absurd (List.rel_of_pairwise_cons hS h) (hmin s (List.mem_cons_self ..) hs)
    | false =>
      rcases List.mem_cons.1 ha with rfl | h
      · rw [hpa] at hs; cases hs
      · exact ih (List.Pairwise.of_cons hS) h (fun b hb => hmin b (List.mem_cons_of_mem _ hb))
theorem mem_arrS {L : List RowV} {t : Tw} : t ∈ arrS L ↔ ∃ (i : Nat) (hi : i < L.length), L[i].tw = t := by
  rw [(arrS_perm L).mem_iff, List.mem_map]
  constructor
  · rintro ⟨r, hr, rfl⟩
    obtain ⟨i, hi, rfl⟩ := List.mem_iff_getElem.1 hr
    exact ⟨i, hi, rfl⟩
  · rintro ⟨i, hi, rfl⟩
    exact ⟨L[i], List.getElem_mem hi, rfl⟩
theorem FstI.find {L : List RowV} (hn : (L.map (·.id)).Nodup) {g : Tw → Option IdB} {x : IdB} {b : Int} (h : FstI L (L.map fun r => g r.tw) x L.length b) :
    (b = -1 ∧ (arrS L).find? (fun t => decide (g t = some x)) = none) ∨ ∃ (j : Nat) (hj : j < L.length), b = (j : Int) ∧ (arrS L).find? (fun t => decide (g t = some x)) = some L[j].tw := by
  have hU : ∀ i (hi : i < L.length), (L.map fun r => g r.tw)[i]? = some (g L[i].tw) := fun i hi => by rw [List.getElem?_map, List.getElem?_eq_getElem hi]; rfl
  by_cases hb : b < 0
  · left
    refine ⟨(h.no hb).1, List.find?_eq_none.2 fun t ht => ?_⟩
    obtain ⟨i, hi, rfl⟩ := mem_arrS.1 ht
    intro e
    exact (h.no hb).2 i hi (by rw [hU i hi, of_decide_eq_true e])
  · right
    obtain ⟨j, hj, e, _, h2, h3⟩ := h.yes (by omega)
    refine ⟨j, hj, e, asc_find (arrS_asc hn) (mem_arrS.2 ⟨j, hj, rfl⟩) (decide_eq_true ?_) fun t ht hp => ?_⟩
    · rw [hU j hj] at h2; exact Option.some.inj h2
    · obtain ⟨i, hi, rfl⟩ := mem_arrS.1 ht
      exact h3 i hi hi (by rw [hU i hi, of_decide_eq_true hp])

/-! ### the parent of a missing article, of any identity -/
def misP (L : List RowV) (x : IdB) : Option IdB := ((arrS L).find? fun r => decide (r.refs.getLast? = some x)).bind (farther (isArt (arrS L)))
def nxtP (L : List RowV) (U : List (Option IdB)) (x : IdB) : Option IdB := if 0 ≤ idxL L x then (U[(idxL L x).toNat]?).getD none else misP L x
/-- The parents before cycles are cut. -/
abbrev parP (L : List RowV) : Par := pM (isArt (arrS L)) (arrS L)
theorem isArt_idx {L : List RowV} {x : IdB} : isArt (arrS L) x = decide (0 ≤ idxL L x) := by
  rw [Bool.eq_iff_iff, decide_eq_true_eq]
  constructor
  · intro h
    obtain ⟨r, hr, e⟩ := mem_isArt.1 h
    refine Classical.byContradiction fun hc => ?_
    exact idxL_nonneg.1 (show idxL L x < 0 by omega) r hr e
  · intro h
    obtain ⟨k, hk, _, e⟩ := idxL_pos h
    exact mem_isArt.2 ⟨L[k], List.getElem_mem hk, e⟩
where
  idxL_pos {L : List RowV} {x : IdB} (h : 0 ≤ idxL L x) : ∃ (k : Nat) (hk : k < L.length), idxL L x = (k : Int) ∧ L[k].id = x := by
    unfold idxL at h ⊢
    cases hf : L.findIdx? (fun r => decide (r.id = x)) with
    | none => rw [hf] at h; exact absurd h (by decide)
    | some i =>
      obtain ⟨hi, e⟩ := idxL_some hf
      exact ⟨i, hi, rfl, e⟩
theorem misP_eq {L : List RowV} {x : IdB} (h : idxL L x < 0) : misP L x = parP L x := by
  unfold parP pM
  rw [isArt_idx, if_neg (by simp; omega)]
  rfl
theorem idx_at {L : List RowV} (hn : (L.map (·.id)).Nodup) {i : Nat} (hi : i < L.length) : idxL L L[i].id = (i : Int) := by
  unfold idxL
  rw [idxL_at hn hi]
theorem parP_art {L : List RowV} (hn : (L.map (·.id)).Nodup) {i : Nat} (hi : i < L.length) : parP L L[i].id = L[i].refs.getLast? :=
  pM_art (arrS_nodup hn) (mem_arrS.2 ⟨i, hi, rfl⟩) (mem_isArt.2 ⟨L[i], List.getElem_mem hi, rfl⟩)
theorem nxtP_dir {L : List RowV} (hn : (L.map (·.id)).Nodup) (x : IdB) : nxtP L (dirL L) x = parP L x := by
  unfold nxtP
  by_cases h : 0 ≤ idxL L x
  · obtain ⟨k, hk, e, rfl⟩ := isArt_idx.idxL_pos h
    rw [if_pos h, e, parP_art hn hk]
    unfold dirL
    rw [Int.toNat_natCast, List.getElem?_map, List.getElem?_eq_getElem hk]
    rfl
  · rw [if_neg h, misP_eq (by omega)]

/-! ### the articles of a cycle -/
/-- What is met within s steps up from x. -/
def cycAcc (L : List RowV) (p : Par) (x : IdB) (i0 : Nat) : Nat → List Nat
  | 0 => [i0]
  | s + 1 => match it p (s + 1) x with
    | some y => if 0 ≤ idxL L y then cycAcc L p x i0 s ++ [(idxL L y).toNat] else cycAcc L p x i0 s
    | none => cycAcc L p x i0 s
theorem cycAcc_len (L : List RowV) (p : Par) (x : IdB) (i0 : Nat) : ∀ s, (cycAcc L p x i0 s).length ≤ s + 1
  | 0 => Nat.le_refl _
  | s + 1 => by
    have := cycAcc_len L p x i0 s
    unfold cycAcc
    split
    · split
      · rw [List.length_append]; simp; omega
      · omega
    · omega
theorem cycAcc_pos (L : List RowV) (p : Par) (x : IdB) (i0 : Nat) : ∀ s, 0 < (cycAcc L p x i0 s).length
  | 0 => Nat.zero_lt_one
  | s + 1 => by
    have := cycAcc_pos L p x i0 s
    unfold cycAcc
    split
    · split
      · rw [List.length_append]; omega
      · omega
    · omega
theorem cycAcc_mem {L : List RowV} {p : Par} {x : IdB} {i0 : Nat} : ∀ {s k : Nat}, k ∈ cycAcc L p x i0 s ↔ k = i0 ∨ ∃ m y, 1 ≤ m ∧ m ≤ s ∧ it p m x = some y ∧ idxL L y = (k : Int)
  | 0, k => by
    unfold cycAcc
    rw [List.mem_singleton]
    refine ⟨fun h => .inl h, ?_⟩
    rintro (h | ⟨m, y, h1, h2, _⟩)
    · exact h
    · omega
  | s + 1, k => by
    have ih := @cycAcc_mem L p x i0 s k
    have hlast : ∀ m y, 1 ≤ m → m ≤ s + 1 → it p m x = some y → m ≤ s ∨ it p (s + 1) x = some y := fun m y h1 h2 h3 => by
      by_cases e : m = s + 1
      · exact .inr (e ▸ h3)
      · exact .inl (by omega)
    have hup : (∃ m y, 1 ≤ m ∧ m ≤ s ∧ it p m x = some y ∧ idxL L y = (k : Int)) → ∃ m y, 1 ≤ m ∧ m ≤ s + 1 ∧ it p m x = some y ∧ idxL L y = (k : Int) := fun ⟨m, y, h1, h2, h3⟩ => ⟨m, y, h1, by omega, h3⟩
    unfold cycAcc
    cases hs : it p (s + 1) x with
    | none =>
      dsimp only
      rw [ih]
      refine ⟨fun h => h.imp id hup, fun h => h.imp id ?_⟩
      rintro ⟨m, y, h1, h2, h3, h4⟩
      rcases hlast m y h1 h2 h3 with h | h
      · exact ⟨m, y, h1, h, h3, h4⟩
      · rw [hs] at h; cases h
    | some z =>
      dsimp only
      by_cases hz : 0 ≤ idxL L z
      · rw [if_pos hz, List.mem_append, List.mem_singleton, ih]
        constructor
        · rintro (h | h)
          · exact h.imp id hup
          · exact .inr ⟨s + 1, z, by omega, Nat.le_refl _, hs, by omega⟩
        · rintro (h | ⟨m, y, h1, h2, h3, h4⟩)
          · exact .inl (.inl h)
          · rcases hlast m y h1 h2 h3 with h | h
            · exact .inl (.inr ⟨m, y, h1, h, h3, h4⟩)
            · rw [hs] at h
              cases h
              exact .inr (by omega)
      · rw [if_neg hz, ih]
        refine ⟨fun h => h.imp id hup, fun h => h.imp id ?_⟩
        rintro ⟨m, y, h1, h2, h3, h4⟩
        rcases hlast m y h1 h2 h3 with h | h
        · exact ⟨m, y, h1, h, h3, h4⟩
        · rw [hs] at h
          cases h
          omega
/-- What cycle hands back for the article x in place i0. -/
def CycR (L : List RowV) (x : IdB) (i0 : Nat) (C : List Nat) : Prop :=
  (C = [] ∧ ∀ n, n < 3 * L.length + 3 → it (parP L) (n + 1) x ≠ some x) ∨ ∃ n, n < 3 * L.length + 3 ∧ it (parP L) (n + 1) x = some x ∧ C = cycAcc L (parP L) x i0 n
/-- A cycle is short: of two that follow one is an article. -/
theorem cycle_short {L : List RowV} (hn : (L.map (·.id)).Nodup) {x : IdB} (hx : onC (parP L) x) : ∃ n, n < 2 * L.length + 2 ∧ it (parP L) (n + 1) x = some x := by
  obtain ⟨n, h1, h2⟩ := period hx
  refine ⟨n, Classical.byContradiction fun hlt => ?_, h1⟩
  have hsome := period_some h1
  have hinj : ∀ a b y, a < b → b ≤ n → it (parP L) a x = some y → it (parP L) b x = some y → False := fun a b y hab hbn ha hb => by
    have e1 := it_add (parP L) b (n + 1 - b) x
    rw [show b + (n + 1 - b) = n + 1 by omega, h1, hb] at e1
    have e2 := it_add (parP L) a (n + 1 - b) x
    rw [ha] at e2
    have e3 : it (parP L) (a + (n + 1 - b)) x = some x := by rw [e2]; exact e1.symm
    exact h2 (a + (n - b)) (by omega) (by rw [show a + (n - b) + 1 = a + (n + 1 - b) by omega]; exact e3)
  have hpick : ∀ j, j < L.length + 1 → ∃ m y, (m = 2 * j ∨ m = 2 * j + 1) ∧ it (parP L) m x = some y ∧ isArt (arrS L) y = true := fun j hj => by
    obtain ⟨y, hy⟩ := hsome (2 * j) (by omega)
    obtain ⟨z, hz⟩ := hsome (2 * j + 1) (by omega)
    have hyz : parP L y = some z := by
      have := it_succ (parP L) (2 * j) x
      rw [hz, hy] at this
      exact this.symm
    rcases alt_pM (arrS L) y z hyz with h | h
    · exact ⟨2 * j, y, .inl rfl, hy, h⟩
    · exact ⟨2 * j + 1, z, .inr rfl, hz, h⟩
  have hch : ∀ j, ∃ y, j < L.length + 1 → ∃ m, (m = 2 * j ∨ m = 2 * j + 1) ∧ it (parP L) m x = some y ∧ isArt (arrS L) y = true := fun j => by
    by_cases hj : j < L.length + 1
    · obtain ⟨m, y, h⟩ := hpick j hj
      exact ⟨y, fun _ => ⟨m, h⟩⟩
    · exact ⟨x, fun h => absurd h hj⟩
  obtain ⟨f, hf⟩ := Classical.skolem.1 hch
  have hnd : ((List.range (L.length + 1)).map f).Nodup := by
    rw [List.nodup_iff_pairwise_ne, List.pairwise_map, List.pairwise_iff_getElem]
    intro i j hi hj hij e
    rw [List.length_range] at hi hj
    rw [List.getElem_range, List.getElem_range] at e
    obtain ⟨m, hm, h3, _⟩ := hf i hi
    obtain ⟨k, hk, h4, _⟩ := hf j hj
    rw [← e] at h4
    exact hinj m k _ (by omega) (by omega) h3 h4
  have := nodup_len _ (L.map (·.id)) hnd (fun y hy => by
    obtain ⟨j, hj, rfl⟩ := List.mem_map.1 hy
    obtain ⟨_, _, _, h5⟩ := hf j (List.mem_range.1 hj)
    obtain ⟨r, hr, e⟩ := mem_isArt.1 h5
    exact List.mem_map.2 ⟨r, hr, e⟩)
  rw [List.length_map, List.length_map, List.length_range] at this
  omega
theorem CycR.nil {L : List RowV} (hn : (L.map (·.id)).Nodup) {x : IdB} {i0 : Nat} {C : List Nat} (h : CycR L x i0 C) : C = [] ↔ ¬ onC (parP L) x := by
  rcases h with ⟨h1, h2⟩ | ⟨n, _, h1, h2⟩
  · refine ⟨fun _ hc => ?_, fun _ => h1⟩
    obtain ⟨n, hn1, hn2⟩ := cycle_short hn hc
    exact h2 n (by omega) hn2
  · refine ⟨fun e => ?_, fun hc => absurd ⟨n, h1⟩ hc⟩
    have := cycAcc_pos L (parP L) x i0 n
    rw [← h2, e] at this
    cases this
theorem acyclic_arts {L : List RowV} (h : ∀ (i : Nat) (hi : i < L.length), ¬ onC (parP L) L[i].id) (x : IdB) : ¬ onC (parP L) x := fun hx => by
  obtain ⟨y, hr, hl⟩ := cycle_least (alt_pM (arrS L)) hx
  obtain ⟨k, hk, _⟩ := hl.2
  obtain ⟨hk2, e⟩ := rk_some hk
  obtain ⟨i, hi, e2⟩ := mem_arrS.1 (List.getElem_mem hk2)
  refine h i hi ?_
  have : L[i].id = y := by rw [← e, ← e2]; rfl
  rw [this]
  exact hl.1
end Go.Proofs.Ythfinofmbnfijaa

namespace Go.Proofs.Ythfinofmbnfijaa
open Go.RowKit
set_option linter.unusedVariables false
set_option linter.unusedSimpArgs false

theorem id_inj {L : List RowV} (hn : (L.map (·.id)).Nodup) {i j : Nat} (hi : i < L.length) (hj : j < L.length) (h : L[i].id = L[j].id) : i = j := by
  have h1 := idxL_at hn hi
  rw [h, idxL_at hn hj] at h1
  exact (Option.some.inj h1).symm
theorem cycAcc_lt {L : List RowV} {p : Par} {x : IdB} {i0 : Nat} (hi0 : i0 < L.length) {s k : Nat} (h : k ∈ cycAcc L p x i0 s) : k < L.length := by
  rcases cycAcc_mem.1 h with rfl | ⟨m, y, _, _, _, e⟩
  · exact hi0
  · obtain ⟨j, hj, e2, _⟩ := isArt_idx.idxL_pos (L := L) (x := y) (by omega)
    omega
theorem CycR.lt {L : List RowV} {x : IdB} {i0 : Nat} {C : List Nat} (h : CycR L x i0 C) (hi0 : i0 < L.length) : ∀ k ∈ C, k < L.length := fun k hk => by
  rcases h with ⟨h1, _⟩ | ⟨n, _, _, h2⟩
  · rw [h1] at hk; cases hk
  · rw [h2] at hk; exact cycAcc_lt hi0 hk
theorem CycR.len {L : List RowV} {x : IdB} {i0 : Nat} {C : List Nat} (h : CycR L x i0 C) : C.length ≤ 3 * L.length + 3 := by
  rcases h with ⟨h1, _⟩ | ⟨n, h2, _, h3⟩
  · rw [h1]; exact Nat.zero_le _
  · rw [h3]
    have := cycAcc_len L (parP L) x i0 n
    omega
/-- Where an article stands in the order. -/
theorem rk_row {L : List RowV} (hn : (L.map (·.id)).Nodup) {i : Nat} (hi : i < L.length) : ∃ (k : Nat) (hk : k < (arrS L).length), rk (arrS L) L[i].id = some k ∧ (arrS L)[k] = L[i].tw := by
  obtain ⟨k, hk, e⟩ := List.mem_iff_getElem.1 (mem_arrS.2 ⟨i, hi, rfl⟩)
  refine ⟨k, hk, ?_, e⟩
  have h := rk_at (arrS_nodup hn) hk
  rw [e] at h
  exact h
theorem rk_le {L : List RowV} (hn : (L.map (·.id)).Nodup) {i j k m : Nat} (hi : i < L.length) (hj : j < L.length) (h1 : rk (arrS L) L[i].id = some k) (h2 : rk (arrS L) L[j].id = some m) : k ≤ m ↔ cmpT L[i].tw L[j].tw ≤ 0 := by
  obtain ⟨k', hk, e1, e2⟩ := rk_row hn hi
  obtain ⟨m', hm, e3, e4⟩ := rk_row hn hj
  rw [h1] at e1
  rw [h2] at e3
  cases e1
  cases e3
  have hS := List.pairwise_iff_getElem.1 (arrS_asc hn)
  have hsw := cmpT_swap L[i].tw L[j].tw
  constructor
  · intro h
    by_cases e : k = m
    · subst e
      rw [← e2, ← e4, cmpT_self]
      decide
    · have := hS k m hk hm (by omega)
      rw [e2, e4] at this
      omega
  · intro h
    refine Classical.byContradiction fun hlt => ?_
    have := hS m k hm hk (by omega)
    rw [e2, e4] at this
    omega
/-- The first k of the articles C of the cycle lie not ahead of the i-th article. -/
def LeastP (L : List RowV) (i : Nat) (C : List Nat) (k : Nat) : Prop := C ≠ [] ∧ ∀ j ∈ C.take k, ∀ (hi : i < L.length) (hj : j < L.length), cmpT L[i].tw L[j].tw ≤ 0
theorem LeastP.zero {L : List RowV} {i : Nat} {C : List Nat} : LeastP L i C 0 ↔ C ≠ [] := ⟨fun h => h.1, fun h => ⟨h, fun j hj => by cases hj⟩⟩
theorem LeastP.next {L : List RowV} {i : Nat} {C : List Nat} {k : Nat} (hi : i < L.length) (hk : k < C.length) (hj : C[k] < L.length) : LeastP L i C (k + 1) ↔ LeastP L i C k ∧ cmpT L[i].tw L[C[k]].tw ≤ 0 := by
  unfold LeastP
  rw [List.take_succ_eq_append_getElem hk]
  constructor
  · rintro ⟨h1, h2⟩
    exact ⟨⟨h1, fun j hj => h2 j (List.mem_append_left _ hj)⟩, h2 _ (List.mem_append_right _ (List.mem_singleton.2 rfl)) hi hj⟩
  · rintro ⟨⟨h1, h2⟩, h3⟩
    refine ⟨h1, fun j hj => ?_⟩
    rcases List.mem_append.1 hj with h | h
    · exact h2 j h
    · obtain rfl := List.mem_singleton.1 h
      exact fun _ _ => h3
theorem LeastP.lst {L : List RowV} (hn : (L.map (·.id)).Nodup) {i : Nat} (hi : i < L.length) {C : List Nat} (h : CycR L L[i].id i C) : LeastP L i C C.length ↔ Lst (parP L) (arrS L) L[i].id := by
  obtain ⟨k, hk, hrk, _⟩ := rk_row hn hi
  unfold LeastP
  rw [List.take_of_length_le (Nat.le_refl _)]
  constructor
  · rintro ⟨hC, hle⟩
    have hon : onC (parP L) L[i].id := Classical.byContradiction fun hc => hC ((h.nil hn).2 hc)
    refine ⟨hon, k, hrk, fun y m hr hm => ?_⟩
    rcases h with ⟨h1, _⟩ | ⟨n, _, h1, h2⟩
    · exact absurd h1 hC
    obtain ⟨hm2, ey⟩ := rk_some hm
    obtain ⟨j, hj, ej⟩ := mem_arrS.1 (List.getElem_mem hm2)
    have hjy : L[j].id = y := by rw [← ey, ← ej]; rfl
    have hjC : j ∈ C := by
      rw [h2, cycAcc_mem]
      obtain ⟨q, hq, hqy⟩ := period_reach h1 hr
      by_cases hq0 : q = 0
      · subst hq0
        left
        exact (id_inj hn hi hj ((Option.some.inj hqy).trans hjy.symm)).symm
      · exact .inr ⟨q, y, by omega, hq, hqy, by rw [← hjy, idx_at hn hj]⟩
    exact (rk_le hn hi hj hrk (hjy ▸ hm)).2 (hle j hjC hi hj)
  · rintro ⟨hon, k', hk', hle⟩
    rw [hrk] at hk'
    cases hk'
    refine ⟨fun e => absurd hon ((h.nil hn).1 e), fun j hjC _ hj => ?_⟩
    rcases h with ⟨h1, _⟩ | ⟨n, _, h1, h2⟩
    · rw [h1] at hjC; cases hjC
    obtain ⟨m, _, hrm, _⟩ := rk_row hn hj
    refine (rk_le hn hi hj hrk hrm).1 (hle L[j].id m ?_ hrm)
    rw [h2] at hjC
    rcases cycAcc_mem.1 hjC with e | ⟨q, y, _, _, hqy, e⟩
    · have : L[j].id = L[i].id := by simp only [e]
      rw [this]
      exact Reach.refl _ _
    · obtain ⟨j2, hj2, e2, e3⟩ := isArt_idx.idxL_pos (L := L) (x := y) (by omega)
      have : j = j2 := by omega
      subst this
      rw [e3]
      exact ⟨q, hqy⟩
/-- The parents in the forest, article by article. -/
def cutL (c : Par) (L : List RowV) : List (Option IdB) := L.map fun r => c r.id
theorem isCut_ex (p : Par) (S : List Tw) : ∃ c, IsCut p S c :=
  ⟨fun x => @ite _ (Lst p S x) (Classical.propDecidable _) none (p x), fun x => ⟨fun h => if_pos h, fun h => if_neg h⟩⟩
/-- The first i are those of the forest. -/
def mixL (c : Par) (L : List RowV) (i : Nat) : List (Option IdB) := (cutL c L).take i ++ (dirL L).drop i
theorem mixL_zero (c : Par) (L : List RowV) : mixL c L 0 = dirL L := by unfold mixL; simp
theorem mixL_all (c : Par) (L : List RowV) : mixL c L L.length = cutL c L := by
  unfold mixL
  rw [List.take_of_length_le (by unfold cutL; rw [List.length_map]; exact Nat.le_refl _), List.drop_of_length_le (by unfold dirL; rw [List.length_map]; exact Nat.le_refl _), List.append_nil]
theorem mixL_len (c : Par) (L : List RowV) {i : Nat} (hi : i ≤ L.length) : (mixL c L i).length = L.length := by
  unfold mixL cutL dirL
  rw [List.length_append, List.length_take, List.length_drop, List.length_map, List.length_map]
  omega
theorem mixL_next {c : Par} {L : List RowV} (hn : (L.map (·.id)).Nodup) (hc : IsCut (parP L) (arrS L) c) {i : Nat} (hi : i < L.length) :
    (Lst (parP L) (arrS L) L[i].id → mixL c L (i + 1) = (mixL c L i).set i none) ∧ (¬ Lst (parP L) (arrS L) L[i].id → mixL c L (i + 1) = mixL c L i) := by
  have h1 : (cutL c L).take (i + 1) = (cutL c L).take i ++ [c L[i].id] := by
    unfold cutL
    rw [List.take_succ_eq_append_getElem (by rw [List.length_map]; exact hi), List.getElem_map]
  have h2 : (dirL L).drop i = L[i].refs.getLast? :: (dirL L).drop (i + 1) := by
    unfold dirL
    rw [List.drop_eq_getElem_cons (by rw [List.length_map]; exact hi), List.getElem_map]
  have h3 : ((cutL c L).take i).length = i := by unfold cutL; rw [List.length_take, List.length_map]; omega
  unfold mixL
  rw [h1, h2]
  constructor
  · intro hl
    rw [(hc _).1 hl, List.set_append_right _ _ (by omega), h3, Nat.sub_self, List.set_cons_zero]
    simp
  · intro hl
    rw [(hc _).2 hl, parP_art hn hi]
    simp
end Go.Proofs.Ythfinofmbnfijaa

namespace Go.Proofs.Ythfinofmbnfijaa
open Go.RowKit
set_option linter.unusedVariables false
set_option linter.unusedSimpArgs false

/-- The article that determines the place of an identity. -/
def plcT (S : List Tw) (c : Par) (x : IdB) : Option Tw := if isArt S x then S.find? (fun t => decide (t.id = x)) else S.find? fun t => decide (c t.id = some x)
def PlO (S : List Tw) (c : Par) (x y : IdB) : Prop := ∃ a b, plcT S c x = some a ∧ plcT S c y = some b ∧ (cmpT a b < 0 ∨ c y = some x)
theorem tw_inj {S : List Tw} (hn : (S.map (·.id)).Nodup) {a b : Tw} (ha : a ∈ S) (hb : b ∈ S) (h : a.id = b.id) : a = b := by
  obtain ⟨i, hi, rfl⟩ := List.mem_iff_getElem.1 ha
  obtain ⟨j, hj, rfl⟩ := List.mem_iff_getElem.1 hb
  have h1 := rk_at hn hi
  rw [h, rk_at hn hj] at h1
  obtain rfl := Option.some.inj h1
  rfl
theorem plcT_art {S : List Tw} (hS : Asc S) (hn : (S.map (·.id)).Nodup) (c : Par) {r : Tw} (hr : r ∈ S) : plcT S c r.id = some r := by
  unfold plcT
  rw [if_pos (isArt_iff.2 ⟨r, hr, rfl⟩)]
  refine asc_find hS hr (decide_eq_true rfl) fun b hb e => ?_
  rw [tw_inj hn hb hr (of_decide_eq_true e), cmpT_self]
  decide
theorem place_pw {S : List Tw} (hS : Asc S) (hn : (S.map (·.id)).Nodup) (c : Par) : ∀ k, k ≤ S.length → (place (isArt S) c (S.take k)).pl.Pairwise (PlO S c) ∧ ∀ x ∈ (place (isArt S) c (S.take k)).pl, ∃ a, plcT S c x = some a ∧ a ∈ S.take k
  | 0, _ => ⟨by rw [List.take_zero]; exact List.Pairwise.nil, fun x hx => by rw [List.take_zero] at hx; cases hx⟩
  | k + 1, hk => by
    have hk' : k < S.length := by omega
    obtain ⟨ih1, ih2⟩ := place_pw hS hn c k (by omega)
    have hinv := place_inv (A := isArt S) (c := c) (S := S) (fun r hr => isArt_iff.2 ⟨r, hr, rfl⟩) hn k (by omega)
    rw [List.take_succ_eq_append_getElem hk', place_snoc]
    obtain ⟨st, hst⟩ : ∃ st, place (isArt S) c (S.take k) = st := ⟨_, rfl⟩
    rw [hst] at ih1 ih2 hinv ⊢
    obtain ⟨r, hr⟩ : ∃ r, S[k] = r := ⟨_, rfl⟩
    rw [hr]
    have hrS : r ∈ S := hr ▸ List.getElem_mem hk'
    have hpr := plcT_art hS hn c hrS
    have hlt : ∀ a ∈ S.take k, cmpT a r < 0 := fun a ha => by
      obtain ⟨j, hj, rfl⟩ := List.mem_iff_getElem.1 ha
      rw [List.length_take] at hj
      rw [List.getElem_take, ← hr]
      exact List.pairwise_iff_getElem.1 hS j k (by omega) hk' (by omega)
    have hone : (st.pl ++ [r.id]).Pairwise (PlO S c) ∧ ∀ x ∈ st.pl ++ [r.id], ∃ a, plcT S c x = some a ∧ a ∈ S.take k ++ [r] := by
      refine ⟨List.pairwise_append.2 ⟨ih1, List.pairwise_singleton _ _, fun x hx y hy => ?_⟩, fun x hx => ?_⟩
      · obtain rfl := List.mem_singleton.1 hy
        obtain ⟨a, ha, haT⟩ := ih2 x hx
        exact ⟨a, r, ha, hpr, .inl (hlt a haT)⟩
      · rcases List.mem_append.1 hx with h | h
        · obtain ⟨a, ha, haT⟩ := ih2 x h
          exact ⟨a, ha, List.mem_append_left _ haT⟩
        · obtain rfl := List.mem_singleton.1 h
          exact ⟨r, hpr, List.mem_append_right _ (List.mem_singleton.2 rfl)⟩
    unfold plStep
    cases hc : c r.id with
    | none => exact hone
    | some p =>
      dsimp only
      by_cases hAd : (isArt S p || st.done p) = true
      · rw [if_pos hAd]; exact hone
      · rw [if_neg hAd]
        rw [Bool.or_eq_true, not_or] at hAd
        obtain ⟨hA, hd⟩ := hAd
        have hA' : isArt S p = false := by simpa using hA
        have hpp : plcT S c p = some r := by
          unfold plcT
          rw [if_neg hA]
          have hno : ∀ a ∈ S.take k, ¬ c a.id = some p := fun a ha e => hd ((hinv.done p).2 ⟨hA', a, ha, e⟩)
          refine asc_find hS hrS (decide_eq_true hc) fun b hb e => ?_
          obtain ⟨j, hj, rfl⟩ := List.mem_iff_getElem.1 hb
          have hjk : ¬ j < k := fun h => hno S[j] (List.mem_take_iff_getElem.2 ⟨j, by omega, rfl⟩) (of_decide_eq_true e)
          intro hlt2
          by_cases e2 : j = k
          · subst e2
            rw [hr, cmpT_self] at hlt2
            exact absurd hlt2 (by decide)
          · have := List.pairwise_iff_getElem.1 hS k j hk' hj (by omega)
            rw [hr] at this
            have h2 := cmpT_swap S[j] r
            omega
        refine ⟨List.pairwise_append.2 ⟨List.pairwise_append.2 ⟨ih1, List.pairwise_singleton _ _, fun x hx y hy => ?_⟩, List.pairwise_singleton _ _, fun x hx y hy => ?_⟩, fun x hx => ?_⟩
        · obtain rfl := List.mem_singleton.1 hy
          obtain ⟨a, ha, haT⟩ := ih2 x hx
          exact ⟨a, r, ha, hpp, .inl (hlt a haT)⟩
        · obtain rfl := List.mem_singleton.1 hy
          rcases List.mem_append.1 hx with h | h
          · obtain ⟨a, ha, haT⟩ := ih2 x h
            exact ⟨a, r, ha, hpr, .inl (hlt a haT)⟩
          · obtain rfl := List.mem_singleton.1 h
            exact ⟨r, r, hpp, hpr, .inr hc⟩
        · rcases List.mem_append.1 hx with h | h
          · rcases List.mem_append.1 h with h | h
            · obtain ⟨a, ha, haT⟩ := ih2 x h
              exact ⟨a, ha, List.mem_append_left _ haT⟩
            · obtain rfl := List.mem_singleton.1 h
              exact ⟨r, hpp, List.mem_append_right _ (List.mem_singleton.2 rfl)⟩
          · obtain rfl := List.mem_singleton.1 h
            exact ⟨r, hpr, List.mem_append_right _ (List.mem_singleton.2 rfl)⟩
/-- The children of an identity; the roots. -/
def chl (c : Par) (pl : List IdB) : Option IdB → List IdB
  | none => rootsOf c pl
  | some x => kidsOf c pl x
theorem chl_filter (c : Par) (pl : List IdB) (p : Option IdB) : chl c pl p = pl.filter fun y => decide (c y = p) := by cases p <;> rfl
theorem mem_chl {c : Par} {pl : List IdB} {p : Option IdB} {y : IdB} : y ∈ chl c pl p ↔ y ∈ pl ∧ c y = p := by
  rw [chl_filter, List.mem_filter, decide_eq_true_eq]
theorem chl_pw {L : List RowV} (hn : (L.map (·.id)).Nodup) {c : Par} (hac : ∀ x, ¬ onC c x) (p : Option IdB) : (chl c (pls L c) p).Pairwise fun x y => ∃ a b, plcT (arrS L) c x = some a ∧ plcT (arrS L) c y = some b ∧ cmpT a b < 0 := by
  have h := (place_pw (arrS_asc hn) (arrS_nodup hn) c (arrS L).length (Nat.le_refl _)).1
  rw [List.take_of_length_le (Nat.le_refl _)] at h
  have h2 : (chl c (pls L c) p).Pairwise (PlO (arrS L) c) := by
    rw [chl_filter]
    exact List.Pairwise.filter _ h
  refine List.Pairwise.imp_of_mem (fun {x y} hx hy hxy => ?_) h2
  obtain ⟨a, b, ha, hb, hor⟩ := hxy
  rcases hor with h | h
  · exact ⟨a, b, ha, hb, h⟩
  · exfalso
    have e1 := (mem_chl.1 hx).2
    have e2 := (mem_chl.1 hy).2
    rw [h] at e2
    exact hac x ⟨0, by rw [it_one, e1, ← e2]⟩

/-! ### knots -/
structure KnV where
  id : IdB
  row : Int
  place : RowV
  up : Option IdB
structure KnOk (L : List RowV) (c : Par) (K : List KnV) : Prop where
  nodup : (K.map (·.id)).Nodup
  mem : ∀ x, x ∈ pls L c ↔ ∃ k ∈ K, k.id = x
  up : ∀ k ∈ K, k.up = c k.id
  row : ∀ k ∈ K, k.row = idxL L k.id
  plc : ∀ k ∈ K, plcT (arrS L) c k.id = some k.place.tw
/-- The knot of the j-th article. -/
def artK (L : List RowV) (c : Par) (j : Nat) (hj : j < L.length) : KnV := ⟨L[j].id, (j : Int), L[j], c L[j].id⟩
structure KnI (L : List RowV) (c : Par) (i : Nat) (K : List KnV) : Prop where
  nodup : (K.map (·.id)).Nodup
  each : ∀ k ∈ K, (∃ (j : Nat) (hj : j < L.length), j < i ∧ k = artK L c j hj) ∨ (idxL L k.id < 0 ∧ k.row = -1 ∧ k.up = misP L k.id ∧ (∃ (j : Nat) (hj : j < L.length), j < i ∧ c L[j].id = some k.id) ∧ (arrS L).find? (fun t => decide (c t.id = some k.id)) = some k.place.tw)
  arts : ∀ (j : Nat) (hj : j < L.length), j < i → ∃ k ∈ K, k.id = L[j].id
  miss : ∀ (j : Nat) (hj : j < L.length) (y : IdB), j < i → c L[j].id = some y → idxL L y < 0 → ∃ k ∈ K, k.id = y
  len : K.length ≤ 2 * i
theorem KnI.zero (L : List RowV) (c : Par) : KnI L c 0 [] :=
  ⟨List.nodup_nil, fun k hk => (by cases hk), fun j _ h => absurd h (Nat.not_lt_zero j), fun j _ _ h => absurd h (Nat.not_lt_zero j), Nat.le_refl _⟩
section
variable {L : List RowV} {c : Par} {i : Nat} {K : List KnV}
theorem KnI.fresh (h : KnI L c i K) (hn : (L.map (·.id)).Nodup) (hi : i < L.length) : ∀ k ∈ K, k.id ≠ L[i].id := fun k hk e => by
  rcases h.each k hk with ⟨j, hj, hji, rfl⟩ | ⟨h1, _⟩
  · have := id_inj hn hj hi e
    omega
  · rw [e, idx_at hn hi] at h1
    omega
theorem KnI.art (h : KnI L c i K) (hn : (L.map (·.id)).Nodup) (hi : i < L.length) :
    ((K ++ [artK L c i hi]).map (·.id)).Nodup ∧ (∀ k ∈ K ++ [artK L c i hi], (∃ (j : Nat) (hj : j < L.length), j < i + 1 ∧ k = artK L c j hj) ∨ (idxL L k.id < 0 ∧ k.row = -1 ∧ k.up = misP L k.id ∧ (∃ (j : Nat) (hj : j < L.length), j < i + 1 ∧ c L[j].id = some k.id) ∧ (arrS L).find? (fun t => decide (c t.id = some k.id)) = some k.place.tw)) ∧
    (∀ (j : Nat) (hj : j < L.length), j < i + 1 → ∃ k ∈ K ++ [artK L c i hi], k.id = L[j].id) := by
  refine ⟨?_, fun k hk => ?_, fun j hj hji => ?_⟩
  · rw [List.map_append, List.nodup_append]
    refine ⟨h.nodup, by simp, fun a ha b hb e => ?_⟩
    obtain ⟨k, hk, rfl⟩ := List.mem_map.1 ha
    rw [List.map_singleton, List.mem_singleton] at hb
    exact h.fresh hn hi k hk (e.trans hb)
  · rcases List.mem_append.1 hk with hk | hk
    · rcases h.each k hk with ⟨j, hj, hji, e⟩ | ⟨h1, h2, h3, ⟨j, hj, hji, e⟩, h5⟩
      · exact .inl ⟨j, hj, by omega, e⟩
      · exact .inr ⟨h1, h2, h3, ⟨j, hj, by omega, e⟩, h5⟩
    · exact .inl ⟨i, hi, by omega, List.mem_singleton.1 hk⟩
  · by_cases e : j = i
    · subst e
      exact ⟨_, List.mem_append_right _ (List.mem_singleton.2 rfl), rfl⟩
    · obtain ⟨k, hk, e2⟩ := h.arts j hj (by omega)
      exact ⟨k, List.mem_append_left _ hk, e2⟩
theorem KnI.plain (h : KnI L c i K) (hn : (L.map (·.id)).Nodup) (hi : i < L.length) (hno : ∀ y, c L[i].id = some y → idxL L y < 0 → ∃ k ∈ K ++ [artK L c i hi], k.id = y) : KnI L c (i + 1) (K ++ [artK L c i hi]) := by
  obtain ⟨h1, h2, h3⟩ := h.art hn hi
  refine ⟨h1, h2, h3, fun j hj y hji hy hm => ?_, by rw [List.length_append]; have := h.len; simp; omega⟩
  by_cases e : j = i
  · subst e; exact hno y hy hm
  · obtain ⟨k, hk, e2⟩ := h.miss j hj y (by omega) hy hm
    exact ⟨k, List.mem_append_left _ hk, e2⟩
theorem KnI.two (h : KnI L c i K) (hn : (L.map (·.id)).Nodup) (hi : i < L.length) {y : IdB} (hy : c L[i].id = some y) (hm : idxL L y < 0) (hf : ∀ k ∈ K ++ [artK L c i hi], k.id ≠ y) {P : RowV} (hP : (arrS L).find? (fun t => decide (c t.id = some y)) = some P.tw) :
    KnI L c (i + 1) (K ++ [artK L c i hi] ++ [⟨y, -1, P, misP L y⟩]) := by
  obtain ⟨h1, h2, h3⟩ := h.art hn hi
  refine ⟨?_, fun k hk => ?_, fun j hj hji => ?_, fun j hj z hji hz hmz => ?_, by rw [List.length_append, List.length_append]; have := h.len; simp; omega⟩
  · rw [List.map_append, List.nodup_append]
    refine ⟨h1, by simp, fun a ha b hb e => ?_⟩
    obtain ⟨k, hk, rfl⟩ := List.mem_map.1 ha
    rw [List.map_singleton, List.mem_singleton] at hb
    exact hf k hk (e.trans hb)
  · rcases List.mem_append.1 hk with hk | hk
    · exact h2 k hk
    · obtain rfl := List.mem_singleton.1 hk
      exact .inr ⟨hm, rfl, rfl, ⟨i, hi, by omega, hy⟩, hP⟩
  · obtain ⟨k, hk, e2⟩ := h3 j hj hji
    exact ⟨k, List.mem_append_left _ hk, e2⟩
  · by_cases e : j = i
    · subst e
      rw [hy] at hz
      cases hz
      exact ⟨_, List.mem_append_right _ (List.mem_singleton.2 rfl), rfl⟩
    · obtain ⟨k, hk, e2⟩ := h.miss j hj z (by omega) hz hmz
      exact ⟨k, List.mem_append_left _ (List.mem_append_left _ hk), e2⟩
theorem KnI.ok (h : KnI L c L.length K) (hn : (L.map (·.id)).Nodup) (hc : IsCut (parP L) (arrS L) c) : KnOk L c K := by
  have hinv := place_inv (A := isArt (arrS L)) (c := c) (S := arrS L) (fun r hr => isArt_iff.2 ⟨r, hr, rfl⟩) (arrS_nodup hn) (arrS L).length (Nat.le_refl _)
  rw [List.take_of_length_le (Nat.le_refl _)] at hinv
  have hmem : ∀ x, x ∈ pls L c ↔ (∃ r ∈ arrS L, r.id = x) ∨ (isArt (arrS L) x = false ∧ ∃ r ∈ arrS L, c r.id = some x) := hinv.mem
  refine ⟨h.nodup, fun x => ?_, fun k hk => ?_, fun k hk => ?_, fun k hk => ?_⟩
  · rw [hmem]
    constructor
    · rintro (⟨r, hr, rfl⟩ | ⟨hA, r, hr, hrx⟩)
      · obtain ⟨j, hj, rfl⟩ := mem_arrS.1 hr
        exact h.arts j hj hj
      · obtain ⟨j, hj, rfl⟩ := mem_arrS.1 hr
        rw [isArt_idx] at hA
        exact h.miss j hj x hj hrx (by have := of_decide_eq_false hA; omega)
    · rintro ⟨k, hk, rfl⟩
      rcases h.each k hk with ⟨j, hj, _, rfl⟩ | ⟨h1, _, _, ⟨j, hj, _, e⟩, _⟩
      · exact .inl ⟨L[j].tw, mem_arrS.2 ⟨j, hj, rfl⟩, rfl⟩
      · exact .inr ⟨by rw [isArt_idx]; exact decide_eq_false (by omega), L[j].tw, mem_arrS.2 ⟨j, hj, rfl⟩, e⟩
  · rcases h.each k hk with ⟨j, hj, _, rfl⟩ | ⟨h1, _, h3, _, _⟩
    · rfl
    · rw [h3, misP_eq h1]
      refine ((hc k.id).2 fun hl => ?_).symm
      obtain ⟨m, hm, _⟩ := hl.2
      obtain ⟨hm2, e⟩ := rk_some hm
      have : isArt (arrS L) k.id = true := isArt_iff.2 ⟨_, List.getElem_mem hm2, e⟩
      rw [isArt_idx, decide_eq_true_eq] at this
      omega
  · rcases h.each k hk with ⟨j, hj, _, rfl⟩ | ⟨h1, h2, _⟩
    · exact (idx_at hn hj).symm
    · rw [h2]
      unfold idxL at h1 ⊢
      cases hf : L.findIdx? (fun r => decide (r.id = k.id)) with
      | none => rfl
      | some m => rw [hf] at h1; exact absurd h1 (by show ¬ (m : Int) < 0; omega)
  · rcases h.each k hk with ⟨j, hj, _, rfl⟩ | ⟨h1, _, _, _, h5⟩
    · exact plcT_art (arrS_asc hn) (arrS_nodup hn) c (mem_arrS.2 ⟨j, hj, rfl⟩)
    · unfold plcT
      rw [if_neg (by rw [isArt_idx, decide_eq_true_eq]; omega)]
      exact h5
end

/-! ### the next child -/
def Cand (K : List KnV) (p : Option IdB) (D : List IdB) (i : Nat) : Prop := ∃ h : i < K.length, K[i].up = p ∧ K[i].id ∉ D
structure BestI (K : List KnV) (p : Option IdB) (D : List IdB) (n : Nat) (b : Int) : Prop where
  no : b < 0 → b = -1 ∧ ∀ i, i < n → ¬ Cand K p D i
  yes : 0 ≤ b → ∃ (j : Nat) (hj : j < K.length), b = (j : Int) ∧ j < n ∧ Cand K p D j ∧ ∀ (i : Nat) (hi : i < K.length), i < n → Cand K p D i → ¬ cmpT K[i].place.tw K[j].place.tw < 0
section
variable {K : List KnV} {p : Option IdB} {D : List IdB} {n : Nat} {b : Int}
theorem BestI.zero (K : List KnV) (p : Option IdB) (D : List IdB) : BestI K p D 0 (-1) := ⟨fun _ => ⟨rfl, fun i hi => absurd hi (Nat.not_lt_zero i)⟩, fun h => absurd h (by decide)⟩
theorem BestI.skip (h : BestI K p D n b) (hu : ¬ Cand K p D n) : BestI K p D (n + 1) b := by
  refine ⟨fun hb => ⟨(h.no hb).1, fun i hi => ?_⟩, fun hb => ?_⟩
  · by_cases e : i = n
    · rw [e]; exact hu
    · exact (h.no hb).2 i (by omega)
  · obtain ⟨j, hj, e, h1, h2, h3⟩ := h.yes hb
    refine ⟨j, hj, e, by omega, h2, fun i hi hin hiu => ?_⟩
    by_cases e : i = n
    · exact absurd (e ▸ hiu) hu
    · exact h3 i hi (by omega) hiu
theorem BestI.take (h : BestI K p D n b) (hn : n < K.length) (hu : Cand K p D n) (hb : b < 0 ∨ ∃ (j : Nat) (hj : j < K.length), b = (j : Int) ∧ cmpT K[n].place.tw K[j].place.tw < 0) : BestI K p D (n + 1) (n : Int) := by
  refine ⟨fun hb => absurd hb (by omega), fun _ => ⟨n, hn, rfl, by omega, hu, fun i hi hin hiu => ?_⟩⟩
  by_cases e : i = n
  · subst e; rw [cmpT_self]; decide
  · rcases hb with hb | ⟨j, hj, ej, hlt⟩
    · exact absurd hiu ((h.no hb).2 i (by omega))
    · obtain ⟨j', hj', e', h1, h2, h3⟩ := h.yes (by omega)
      obtain rfl : j = j' := by omega
      intro hc
      exact h3 i hi (by omega) hiu (cmpT_trans hc hlt)
theorem BestI.keep (h : BestI K p D n b) {j : Nat} (hn : n < K.length) (hj : j < K.length) (hb : b = (j : Int)) (hlt : ¬ cmpT K[n].place.tw K[j].place.tw < 0) : BestI K p D (n + 1) b := by
  refine ⟨fun hb => absurd hb (by omega), fun hb0 => ?_⟩
  obtain ⟨j', hj', e', h1, h2, h3⟩ := h.yes hb0
  obtain rfl : j = j' := by omega
  refine ⟨j, hj, hb, by omega, h2, fun i hi hin hiu => ?_⟩
  by_cases e : i = n
  · subst e; exact hlt
  · exact h3 i hi (by omega) hiu
end
theorem take_notmem {l : List IdB} (hn : l.Nodup) {k m : Nat} (hm : m < l.length) (hk : k ≤ m) : l[m] ∉ l.take k := fun h => by
  obtain ⟨j, hj, e⟩ := List.mem_iff_getElem.1 h
  rw [List.length_take] at hj
  rw [List.getElem_take] at e
  rw [List.nodup_iff_pairwise_ne, List.pairwise_iff_getElem] at hn
  exact hn j m (by omega) hm (by omega) e
/-- What is picked behind the first k children is the k-th. -/
theorem best_next {L : List RowV} {c : Par} {K : List KnV} (hn : (L.map (·.id)).Nodup) (hac : ∀ x, ¬ onC c x) (hK : KnOk L c K) {p : Option IdB} {k : Nat} {b : Int} (h : BestI K p ((chl c (pls L c) p).take k) K.length b) :
    (b = -1 ∧ (chl c (pls L c) p).length ≤ k) ∨ ∃ (j : Nat) (hj : j < K.length) (hk : k < (chl c (pls L c) p).length), b = (j : Int) ∧ K[j].id = (chl c (pls L c) p)[k] := by
  have hpw := chl_pw hn hac p
  have hnd : (chl c (pls L c) p).Nodup := by rw [chl_filter]; exact (pls_nodup hn c).sublist List.filter_sublist
  have hin : ∀ (j : Nat) (hj : j < K.length), K[j].up = p → K[j].id ∈ chl c (pls L c) p := fun j hj hu => mem_chl.2 ⟨(hK.mem _).2 ⟨K[j], List.getElem_mem hj, rfl⟩, by rw [← hK.up _ (List.getElem_mem hj)]; exact hu⟩
  have hcand : ∀ m (hm : m < (chl c (pls L c) p).length), k ≤ m → ∃ (j : Nat) (hj : j < K.length), K[j].id = (chl c (pls L c) p)[m] ∧ Cand K p ((chl c (pls L c) p).take k) j := fun m hm hkm => by
    obtain ⟨h1, h2⟩ := mem_chl.1 (List.getElem_mem hm)
    obtain ⟨kn, hkn, e⟩ := (hK.mem _).1 h1
    obtain ⟨j, hj, rfl⟩ := List.mem_iff_getElem.1 hkn
    exact ⟨j, hj, e, hj, by rw [hK.up _ (List.getElem_mem hj), e]; exact h2, by rw [e]; exact take_notmem hnd hm hkm⟩
  by_cases hb : b < 0
  · left
    refine ⟨(h.no hb).1, Classical.byContradiction fun hlt => ?_⟩
    obtain ⟨j, hj, _, hc⟩ := hcand k (by omega) (Nat.le_refl _)
    exact (h.no hb).2 j hj hc
  · right
    obtain ⟨j, hj, e, _, ⟨_, hu, hD⟩, hmin⟩ := h.yes (by omega)
    obtain ⟨m, hm, em⟩ := List.mem_iff_getElem.1 (hin j hj hu)
    have hkm : k ≤ m := Classical.byContradiction fun hlt => hD (by rw [← em]; exact List.mem_take_iff_getElem.2 ⟨m, by omega, rfl⟩)
    refine ⟨j, hj, by omega, e, ?_⟩
    by_cases ekm : k = m
    · subst ekm; exact em.symm
    · exfalso
      obtain ⟨i, hi, ei, hc⟩ := hcand k (by omega) (Nat.le_refl _)
      obtain ⟨a, b', ha, hb', hlt⟩ := List.pairwise_iff_getElem.1 hpw k m (by omega) hm (by omega)
      have h1 := hK.plc _ (List.getElem_mem hi)
      have h2 := hK.plc _ (List.getElem_mem hj)
      rw [ei, ha] at h1
      rw [← em, hb'] at h2
      refine hmin i hi hi hc ?_
      rw [← Option.some.inj h1, ← Option.some.inj h2]
      exact hlt
/-- The children of p, each with what is below it, behind a list. -/
def growL (c : Par) (pl : List IdB) (row : IdB → Int) (n : Nat) (p : Option IdB) (O : List NodeV) (at_ d : Int) : List NodeV := (chl c pl p).foldl (fun o y => visL (kidsOf c pl) row n o y at_ d) O
theorem visL_grow (c : Par) (pl : List IdB) (row : IdB → Int) (n : Nat) (o : List NodeV) (y : IdB) (at_ d : Int) : visL (kidsOf c pl) row (n + 1) o y at_ d = growL c pl row n (some y) (o ++ [⟨y, row y, at_, d⟩]) o.length (d + 1) := rfl
theorem growL_none (L : List RowV) (hn : (L.map (·.id)).Nodup) (c : Par) : growL c (pls L c) (idxL L) ((pls L c).length + 1) none [] (-1) 0 = forestV L c := by
  rw [forestV_eq hn]
  rfl
end Go.Proofs.Ythfinofmbnfijaa
