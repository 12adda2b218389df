/- Threads, plainly: the first article of a cycle, found by going round it. -/
import Derived.Test.YthfinofmbnfijaaTp3
namespace Go.Proofs.Ythfinofmbnfijaa
open Go.Shelf Go.RowKit Go.Lib Go.Sort
set_option linter.unusedVariables false
set_option linter.unusedSimpArgs false

/-- The least place so far. -/
def bst (S : List Tw) (b : Option Nat) (x : IdB) : Option Nat :=
  match rk S x with
  | none => b
  | some k => match b with
    | none => some k
    | some j => if k < j then some k else some j
/-- The least place among the first n nodes from x on. -/
def bestTo (p : Par) (S : List Tw) (x : IdB) : Nat → Option Nat
  | 0 => none
  | n + 1 => bst S (bestTo p S x n) ((it p n x).getD x)
theorem bst_le {S : List Tw} {b : Option Nat} {x : IdB} : (∀ j, b = some j → ∃ i, bst S b x = some i ∧ i ≤ j) ∧ (∀ k, rk S x = some k → ∃ i, bst S b x = some i ∧ i ≤ k) ∧ ∀ i, bst S b x = some i → b = some i ∨ rk S x = some i := by
  unfold bst
  cases hr : rk S x with
  | none => exact ⟨fun j hj => ⟨j, hj, Nat.le_refl j⟩, (fun k hk => by cases hk), fun i hi => .inl hi⟩
  | some k =>
    cases b with
    | none => exact ⟨(fun j hj => by cases hj), (fun k' hk => ⟨k, rfl, by cases hk; exact Nat.le_refl k⟩), fun i hi => .inr hi⟩
    | some j =>
      dsimp only
      by_cases h : k < j
      · rw [if_pos h]
        exact ⟨fun j' hj => ⟨k, rfl, by cases hj; omega⟩, fun k' hk => ⟨k, rfl, by cases hk; exact Nat.le_refl k⟩, fun i hi => .inr hi⟩
      · rw [if_neg h]
        exact ⟨fun j' hj => ⟨j, rfl, by cases hj; exact Nat.le_refl j⟩, fun k' hk => ⟨j, rfl, by cases hk; omega⟩, fun i hi => .inl hi⟩
theorem bestTo_le {p : Par} {S : List Tw} {x : IdB} : ∀ (n m : Nat) (y : IdB) (k : Nat), m < n → it p m x = some y → rk S y = some k → ∃ i, bestTo p S x n = some i ∧ i ≤ k
  | 0, m, _, _, h, _, _ => absurd h (Nat.not_lt_zero m)
  | n + 1, m, y, k, h, hy, hk => by
    by_cases hm : m < n
    · obtain ⟨i, hi, hik⟩ := bestTo_le n m y k hm hy hk
      obtain ⟨i', h1, h2⟩ := (bst_le (S := S) (b := bestTo p S x n) (x := (it p n x).getD x)).1 i hi
      exact ⟨i', h1, by omega⟩
    · obtain rfl : m = n := by omega
      refine (bst_le (S := S) (b := bestTo p S x m) (x := (it p m x).getD x)).2.1 k ?_
      rw [hy]
      exact hk
theorem bestTo_at {p : Par} {S : List Tw} {x : IdB} : ∀ (n : Nat), (∀ m, m < n → ∃ y, it p m x = some y) → ∀ i, bestTo p S x n = some i → ∃ y, Reach p x y ∧ rk S y = some i
  | 0, _, _, h => by cases h
  | n + 1, hall, i, h => by
    rcases (bst_le (S := S) (b := bestTo p S x n) (x := (it p n x).getD x)).2.2 i h with h1 | h1
    · exact bestTo_at n (fun m hm => hall m (by omega)) i h1
    · obtain ⟨y, hy⟩ := hall n (by omega)
      rw [hy] at h1
      exact ⟨y, ⟨n, hy⟩, h1⟩
/-- How far it is once round the cycle. -/
theorem period {p : Par} {x : IdB} (hx : onC p x) : ∃ n, it p (n + 1) x = some x ∧ ∀ m, m < n → it p (m + 1) x ≠ some x := by
  obtain ⟨n, hn, hl⟩ := exists_least hx
  exact ⟨n, hn, fun m hm e => by have := hl m e; omega⟩
theorem period_some {p : Par} {x : IdB} {n : Nat} (h : it p (n + 1) x = some x) : ∀ m, m ≤ n + 1 → ∃ y, it p m x = some y := by
  intro m hm
  cases hy : it p m x with
  | some y => exact ⟨y, rfl⟩
  | none =>
    have h1 := it_add p m (n + 1 - m) x
    rw [show m + (n + 1 - m) = n + 1 by omega, h, hy] at h1
    cases h1
theorem period_reach {p : Par} {x : IdB} {n : Nat} (h : it p (n + 1) x = some x) {y : IdB} (hr : Reach p x y) : ∃ m, m ≤ n ∧ it p m x = some y := by
  obtain ⟨k, hk⟩ := hr
  induction k using Nat.strongRecOn with
  | _ k ih =>
    by_cases hkn : k ≤ n
    · exact ⟨k, hkn, hk⟩
    · refine ih (k - (n + 1)) (by omega) ?_
      have h1 := it_add p (n + 1) (k - (n + 1)) x
      rw [show n + 1 + (k - (n + 1)) = k by omega, h, hk] at h1
      exact h1.symm
/-- Once round, the least place is that of the cycle's first article. -/
theorem best_lst {p : Par} {S : List Tw} (hn : (S.map (·.id)).Nodup) {x : IdB} {n : Nat} (h : it p (n + 1) x = some x) {k : Nat} (hb : bestTo p S x (n + 1) = some k) : ∃ hk : k < S.length, Lst p S S[k].id ∧ Reach p x S[k].id := by
  have hc : onC p x := ⟨n, h⟩
  obtain ⟨y, hy, hk⟩ := bestTo_at (n + 1) (fun m hm => period_some h m (by omega)) k hb
  obtain ⟨hkl, e⟩ := rk_some hk
  refine ⟨hkl, ⟨by rw [e]; exact hc.of_reach hy, k, rk_at hn hkl, fun z j hz hj => ?_⟩, by rw [e]; exact hy⟩
  rw [e] at hz
  obtain ⟨m, hm, hmz⟩ := period_reach h (hy.trans hz)
  obtain ⟨i, hi, hij⟩ := bestTo_le (n + 1) m z j (by omega) hmz hj
  rw [hb] at hi
  cases hi
  exact hij
theorem best_some {p : Par} {S : List Tw} (ha : Alt p S) {x : IdB} {n : Nat} (h : it p (n + 1) x = some x) : ∃ k, bestTo p S x (n + 1) = some k := by
  obtain ⟨y, hy, _, k, hk, _⟩ := cycle_least ha ⟨n, h⟩
  obtain ⟨m, hm, hmy⟩ := period_reach h hy
  obtain ⟨i, hi, _⟩ := bestTo_le (S := S) (n + 1) m y k (by omega) hmy hk
  exact ⟨i, hi⟩
/-! ### the forest -/
/-- Articles in order, each missing parent ahead of its first child. -/
structure PS where
  pl : List IdB
  done : IdB → Bool
def plStep (A : IdB → Bool) (c : Par) (st : PS) (r : Tw) : PS :=
  match c r.id with
  | some p => if A p || st.done p then ⟨st.pl ++ [r.id], st.done⟩ else ⟨st.pl ++ [p] ++ [r.id], upd st.done p true⟩
  | none => ⟨st.pl ++ [r.id], st.done⟩
def place (A : IdB → Bool) (c : Par) (S : List Tw) : PS := S.foldl (plStep A c) ⟨[], fun _ => false⟩
structure PlInv (A : IdB → Bool) (c : Par) (T : List Tw) (st : PS) : Prop where
  mem : ∀ x, x ∈ st.pl ↔ (∃ r ∈ T, r.id = x) ∨ (A x = false ∧ ∃ r ∈ T, c r.id = some x)
  done : ∀ x, st.done x = true ↔ A x = false ∧ ∃ r ∈ T, c r.id = some x
  nodup : st.pl.Nodup
theorem plInv_step {A : IdB → Bool} {c : Par} {T : List Tw} {st : PS} (h : PlInv A c T st) {r : Tw} (hr : A r.id = true) (hn : ∀ a ∈ T, a.id ≠ r.id) (hTA : ∀ a ∈ T, A a.id = true) : PlInv A c (T ++ [r]) (plStep A c st r) := by
  have hrn : r.id ∉ st.pl := fun hm => by
    rcases (h.mem _).1 hm with ⟨a, ha, e⟩ | ⟨e, _⟩
    · exact hn a ha e
    · rw [hr] at e; cases e
  have hT : ∀ (P : Tw → Prop), (∃ a ∈ T ++ [r], P a) ↔ (∃ a ∈ T, P a) ∨ P r := fun P => by
    constructor
    · rintro ⟨a, ha, hp⟩
      rcases List.mem_append.1 ha with ha | ha
      · exact .inl ⟨a, ha, hp⟩
      · obtain rfl := List.mem_singleton.1 ha; exact .inr hp
    · rintro (⟨a, ha, hp⟩ | hp)
      · exact ⟨a, List.mem_append_left _ ha, hp⟩
      · exact ⟨r, List.mem_append_right _ (List.mem_singleton.2 rfl), hp⟩
  unfold plStep
  cases hc : c r.id with
  | none =>
    dsimp only
    refine ⟨fun x => ?_, fun x => ?_, ?_⟩
    · rw [List.mem_append, List.mem_singleton, h.mem, hT, hT, hc]
      simp only [reduceCtorEq, or_false]
      constructor
      · rintro ((h1 | h1) | h1)
        · exact .inl (.inl h1)
        · exact .inr h1
        · exact .inl (.inr h1.symm)
      · rintro ((h1 | h1) | h1)
        · exact .inl (.inl h1)
        · exact .inr h1.symm
        · exact .inl (.inr h1)
    · rw [h.done, hT, hc]
      simp only [reduceCtorEq, or_false]
    · rw [List.nodup_append]
      exact ⟨h.nodup, by simp, fun a ha b hb e => by
        obtain rfl := List.mem_singleton.1 hb
        exact hrn (e ▸ ha)⟩
  | some p =>
    dsimp only
    by_cases hp : (A p || st.done p) = true
    · rw [if_pos hp]
      have hpd : A p = false → ∃ a ∈ T, c a.id = some p := fun e => by
        rw [e, Bool.false_or] at hp
        exact ((h.done p).1 hp).2
      refine ⟨fun x => ?_, fun x => ?_, ?_⟩
      · rw [List.mem_append, List.mem_singleton, h.mem, hT, hT, hc]
        constructor
        · rintro ((h1 | h1) | h1)
          · exact .inl (.inl h1)
          · exact .inr ⟨h1.1, .inl h1.2⟩
          · exact .inl (.inr h1.symm)
        · rintro ((h1 | h1) | ⟨h1, h2 | h2⟩)
          · exact .inl (.inl h1)
          · exact .inr h1.symm
          · exact .inl (.inr ⟨h1, h2⟩)
          · obtain rfl := Option.some.inj h2
            exact .inl (.inr ⟨h1, hpd h1⟩)
      · rw [h.done, hT, hc]
        constructor
        · exact fun h1 => ⟨h1.1, .inl h1.2⟩
        · rintro ⟨h1, h2 | h2⟩
          · exact ⟨h1, h2⟩
          · obtain rfl := Option.some.inj h2
            exact ⟨h1, hpd h1⟩
      · rw [List.nodup_append]
        exact ⟨h.nodup, by simp, fun a ha b hb e => by
          obtain rfl := List.mem_singleton.1 hb
          exact hrn (e ▸ ha)⟩
    · rw [if_neg hp]
      have hAp : A p = false := by cases e : A p with | true => rw [e] at hp; exact absurd rfl hp | false => rfl
      have hdp : st.done p = false := by cases e : st.done p with | true => rw [e, Bool.or_true] at hp; exact absurd rfl hp | false => rfl
      have hpn : ¬ ∃ a ∈ T, c a.id = some p := fun e => by
        have := (h.done p).2 ⟨hAp, e⟩
        rw [hdp] at this; cases this
      have hpm : p ∉ st.pl := fun hm => by
        rcases (h.mem p).1 hm with ⟨a, ha, e⟩ | ⟨_, e⟩
        · have := hTA a ha
          rw [e, hAp] at this; cases this
        · exact hpn e
      have hpr : p ≠ r.id := fun e => by rw [e, hr] at hAp; cases hAp
      refine ⟨fun x => ?_, fun x => ?_, ?_⟩
      · rw [List.mem_append, List.mem_append, List.mem_singleton, List.mem_singleton, h.mem, hT, hT, hc]
        constructor
        · rintro (((h1 | h1) | h1) | h1)
          · exact .inl (.inl h1)
          · exact .inr ⟨h1.1, .inl h1.2⟩
          · exact .inr ⟨h1 ▸ hAp, .inr (by rw [h1])⟩
          · exact .inl (.inr h1.symm)
        · rintro ((h1 | h1) | ⟨h1, h2 | h2⟩)
          · exact .inl (.inl (.inl h1))
          · exact .inr h1.symm
          · exact .inl (.inl (.inr ⟨h1, h2⟩))
          · exact .inl (.inr (Option.some.inj h2).symm)
      · by_cases hx : x = p
        · subst hx
          show upd st.done x true x = true ↔ _
          rw [upd_same, hT, hc]
          exact ⟨fun _ => ⟨hAp, .inr rfl⟩, fun _ => rfl⟩
        · show upd st.done p true x = true ↔ _
          rw [upd_other _ hx, h.done, hT, hc]
          constructor
          · exact fun h1 => ⟨h1.1, .inl h1.2⟩
          · rintro ⟨h1, h2 | h2⟩
            · exact ⟨h1, h2⟩
            · exact absurd (Option.some.inj h2).symm hx
      · rw [List.nodup_append, List.nodup_append]
        refine ⟨⟨h.nodup, by simp, fun a ha b hb e => ?_⟩, by simp, fun a ha b hb e => ?_⟩
        · obtain rfl := List.mem_singleton.1 hb
          exact hpm (e ▸ ha)
        · obtain rfl := List.mem_singleton.1 hb
          rcases List.mem_append.1 ha with ha | ha
          · exact hrn (e ▸ ha)
          · obtain rfl := List.mem_singleton.1 ha
            exact hpr e
theorem PlInv.zero (A : IdB → Bool) (c : Par) : PlInv A c [] ⟨[], fun _ => false⟩ :=
  ⟨fun x => by simp, fun x => by simp, List.nodup_nil⟩
theorem place_snoc (A : IdB → Bool) (c : Par) (T : List Tw) (r : Tw) : place A c (T ++ [r]) = plStep A c (place A c T) r := by
  unfold place
  rw [List.foldl_append]
  rfl
theorem place_inv {A : IdB → Bool} {c : Par} {S : List Tw} (hA : ∀ r ∈ S, A r.id = true) (hn : (S.map (·.id)).Nodup) : ∀ k, k ≤ S.length → PlInv A c (S.take k) (place A c (S.take k))
  | 0, _ => by rw [List.take_zero]; exact PlInv.zero A c
  | k + 1, hk => by
    have hk' : k < S.length := by omega
    rw [List.take_succ_eq_append_getElem hk', place_snoc]
    refine plInv_step (place_inv hA hn k (by omega)) (hA _ (List.getElem_mem hk')) (fun a ha e => ?_) (fun a ha => hA a (List.mem_of_mem_take ha))
    obtain ⟨j, hj, hja⟩ := List.mem_iff_getElem.1 ha
    rw [List.length_take] at hj
    rw [List.getElem_take] at hja
    rw [List.nodup_iff_pairwise_ne, List.pairwise_map, List.pairwise_iff_getElem] at hn
    exact hn j k (by omega) hk' (by omega) (by rw [hja]; exact e)
end Go.Proofs.Ythfinofmbnfijaa
