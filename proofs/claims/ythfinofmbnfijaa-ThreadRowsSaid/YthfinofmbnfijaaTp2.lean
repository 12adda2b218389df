/- Threads, plainly: the parents of articles and of missing articles; in each cycle the first article loses its parent. -/
import Derived.Test.YthfinofmbnfijaaTp1
namespace Go.Proofs.Ythfinofmbnfijaa
open Go.Shelf Go.RowKit Go.Lib Go.Sort
set_option linter.unusedVariables false
set_option linter.unusedSimpArgs false

/-! ### articles and their order -/
structure Tw where
  id : IdB
  date : Int
  refs : List IdB
def cmpT (a b : Tw) : Int := if a.date = b.date then cmpB a.id b.id else if a.date < b.date then -1 else 1
theorem cmpB_self (a : IdB) : cmpB a a = 0 := cb_self a.1
theorem cmpB_swap (a b : IdB) : cmpB b a = - cmpB a b := cb_swap a.1 b.1
theorem cmpB_eq {a b : IdB} (h : cmpB a b = 0) : a = b := Subtype.ext (cb_eq h)
theorem cmpB_trans {a b c : IdB} (h : cmpB a b < 0) (k : cmpB b c < 0) : cmpB a c < 0 := cb_trans h k
theorem cmpT_self (a : Tw) : cmpT a a = 0 := by unfold cmpT; rw [if_pos rfl]; exact cmpB_self _
theorem cmpT_swap (a b : Tw) : cmpT b a = - cmpT a b := by
  unfold cmpT
  by_cases h : a.date = b.date
  · rw [if_pos h, if_pos h.symm]; exact cmpB_swap _ _
  · rw [if_neg h, if_neg (fun e => h e.symm)]
    by_cases h2 : a.date < b.date
    · rw [if_pos h2, if_neg (by omega)]; rfl
    · rw [if_neg h2, if_pos (by omega)]
theorem cmpT_eq {a b : Tw} (h : cmpT a b = 0) : a.date = b.date ∧ a.id = b.id := by
  unfold cmpT at h
  by_cases h1 : a.date = b.date
  · rw [if_pos h1] at h; exact ⟨h1, cmpB_eq h⟩
  · rw [if_neg h1] at h
    split at h <;> cases h
theorem cmpT_neg {a b : Tw} : cmpT a b < 0 ↔ a.date < b.date ∨ a.date = b.date ∧ cmpB a.id b.id < 0 := by
  unfold cmpT
  by_cases h1 : a.date = b.date
  · rw [if_pos h1]
    constructor
    · exact fun h => .inr ⟨h1, h⟩
    · rintro (h | h)
      · omega
      · exact h.2
  · rw [if_neg h1]
    by_cases h2 : a.date < b.date
    · rw [if_pos h2]
      exact ⟨fun _ => .inl h2, fun _ => by decide⟩
    · rw [if_neg h2]
      constructor
      · intro h; exact absurd h (by decide)
      · rintro (h | h)
        · exact absurd h h2
        · exact absurd h.1 h1
theorem cmpT_trans {a b c : Tw} (h : cmpT a b < 0) (k : cmpT b c < 0) : cmpT a c < 0 := by
  rw [cmpT_neg] at *
  rcases h with h | ⟨h, h'⟩
  · rcases k with k | ⟨k, _⟩
    · exact .inl (by omega)
    · exact .inl (by omega)
  · rcases k with k | ⟨k, k'⟩
    · exact .inl (by omega)
    · exact .inr ⟨by omega, cmpB_trans h' k'⟩
theorem swoT' : SWO (ltOf cmpT) where
  irrefl x := by unfold ltOf; rw [cmpT_self]; rfl
  trans x y z h1 h2 := by
    unfold ltOf at *
    simp only [decide_eq_true_eq] at *
    exact cmpT_trans h1 h2
  ntrans x y z h1 h2 := by
    unfold ltOf at *
    simp only [decide_eq_false_iff_not] at *
    intro h3
    have hyx := cmpT_swap x y
    have hzy := cmpT_swap y z
    by_cases e1 : cmpT x y = 0
    · have e := cmpT_eq e1
      have hx : cmpT x z = cmpT y z := by unfold cmpT; rw [e.1, e.2]
      rw [hx] at h3
      exact h2 h3
    · by_cases e2 : cmpT y z = 0
      · have e := cmpT_eq e2
        have hx : cmpT x z = cmpT x y := by unfold cmpT; rw [e.1, e.2]
        rw [hx] at h3
        exact h1 h3
      · exact h2 (by
          have := cmpT_trans (a := y) (b := x) (c := z) (by omega) h3
          omega)
/-- A list in the order of articles. -/
def Asc (S : List Tw) : Prop := S.Pairwise fun a b => cmpT a b < 0
theorem Asc.nodup {S : List Tw} (h : Asc S) (hn : ∀ a ∈ S, ∀ b ∈ S, a.id = b.id → a = b) : (S.map (·.id)).Nodup := by
  rw [List.nodup_iff_pairwise_ne, List.pairwise_map]
  refine List.Pairwise.imp_of_mem ?_ h
  intro a b ha hb hab e
  obtain rfl := hn a ha b hb e
  rw [cmpT_self] at hab
  exact absurd hab (by decide)

/-! ### parents -/
def isArt (L : List Tw) (x : IdB) : Bool := L.any fun r => decide (r.id = x)
theorem isArt_iff {L : List Tw} {x : IdB} : isArt L x = true ↔ ∃ r ∈ L, r.id = x := by
  unfold isArt
  rw [List.any_eq_true]
  simp only [decide_eq_true_eq]
theorem isArt_perm {L M : List Tw} (h : L.Perm M) : isArt L = isArt M := by
  funext x
  rw [Bool.eq_iff_iff, isArt_iff, isArt_iff]
  exact ⟨fun ⟨r, hr, e⟩ => ⟨r, h.mem_iff.1 hr, e⟩, fun ⟨r, hr, e⟩ => ⟨r, h.mem_iff.2 hr, e⟩⟩
/-- The nearest article among the references of r behind its last one. -/
def farther (A : IdB → Bool) (r : Tw) : Option IdB := r.refs.dropLast.reverse.find? A
structure FS where
  par : Par
  mis : IdB → Bool
def fpStep (A : IdB → Bool) (st : FS) (r : Tw) : FS :=
  match r.refs.getLast? with
  | none => st
  | some p =>
    if A p || st.mis p then ⟨upd st.par r.id (some p), st.mis⟩
    else ⟨match farther A r with | some a => upd (upd st.par r.id (some p)) p (some a) | none => upd st.par r.id (some p), upd st.mis p true⟩
def fp0 : FS := ⟨fun _ => none, fun _ => false⟩
/-- The parents, by the list of articles in order. -/
def pM (A : IdB → Bool) (S : List Tw) (x : IdB) : Option IdB :=
  if A x then (S.find? fun r => decide (r.id = x)).bind (·.refs.getLast?) else (S.find? fun r => decide (r.refs.getLast? = some x)).bind (farther A)
def mM (A : IdB → Bool) (S : List Tw) (x : IdB) : Bool := !A x && S.any fun r => decide (r.refs.getLast? = some x)
theorem fp_snoc {A : IdB → Bool} {S : List Tw} {r : Tw} (hr : A r.id = true) (hn : ∀ a ∈ S, a.id ≠ r.id) : fpStep A ⟨pM A S, mM A S⟩ r = ⟨pM A (S ++ [r]), mM A (S ++ [r])⟩ := by
  have hfid : S.find? (fun a => decide (a.id = r.id)) = none := List.find?_eq_none.2 (fun a ha => by simpa using hn a ha)
  have hpar : ∀ x, pM A (S ++ [r]) x = if x = r.id then r.refs.getLast? else if A x then pM A S x else match S.find? (fun a => decide (a.refs.getLast? = some x)) with | some _ => pM A S x | none => if r.refs.getLast? = some x then farther A r else none := by
    intro x
    unfold pM
    by_cases hx : x = r.id
    · subst hx
      rw [if_pos rfl, if_pos hr, List.find?_append, hfid]
      simp
    · rw [if_neg hx]
      by_cases hA : A x = true
      · rw [if_pos hA, if_pos hA, List.find?_append]
        have : [r].find? (fun a => decide (a.id = x)) = none := List.find?_eq_none.2 (fun a ha => by
          obtain rfl := List.mem_singleton.1 ha
          simpa using fun e => hx e.symm)
        rw [this, Option.or_none]
        first | rfl | rw [if_pos hA]
      · rw [if_neg hA, if_neg hA, List.find?_append]
        cases hf : S.find? (fun a => decide (a.refs.getLast? = some x)) with
        | some a => simp [hA]
        | none =>
          by_cases hl : r.refs.getLast? = some x
          · simp [hl]
          · simp [hl]
  have hmis : ∀ x, mM A (S ++ [r]) x = (mM A S x || (!A x && decide (r.refs.getLast? = some x))) := by
    intro x
    unfold mM
    rw [List.any_append]
    cases A x <;> simp
  unfold fpStep
  cases hl : r.refs.getLast? with
  | none =>
    simp only
    congr 1
    · funext x
      rw [hpar x, hl]
      by_cases hx : x = r.id
      · subst hx
        rw [if_pos rfl]
        unfold pM
        rw [if_pos hr, hfid]
        rfl
      · rw [if_neg hx]
        by_cases hA : A x = true
        · rw [if_pos hA]
        · rw [if_neg hA]
          cases hf : S.find? (fun a => decide (a.refs.getLast? = some x)) with
          | some a => rfl
          | none =>
            simp only [reduceCtorEq, if_false]
            unfold pM
            rw [if_neg hA, hf]
            rfl
    · funext x
      rw [hmis x, hl]
      simp
  | some p =>
    simp only
    by_cases hc : (A p || mM A S p) = true
    · rw [if_pos hc]
      congr 1
      · funext x
        rw [hpar x, hl]
        by_cases hx : x = r.id
        · rw [if_pos hx, hx, upd_same]
        · rw [if_neg hx, upd_other _ hx]
          by_cases hA : A x = true
          · rw [if_pos hA]
          · rw [if_neg hA]
            cases hf : S.find? (fun a => decide (a.refs.getLast? = some x)) with
            | some a => rfl
            | none =>
              by_cases hpx : p = x
              · exfalso
                subst hpx
                have h2 : mM A S p = true := by
                  cases hAp : A p with
                  | true => exact absurd hAp hA
                  | false => rw [hAp, Bool.false_or] at hc; exact hc
                unfold mM at h2
                rw [Bool.and_eq_true, List.any_eq_true] at h2
                obtain ⟨a, ha, hd⟩ := h2.2
                exact List.find?_eq_none.1 hf a ha hd
              · rw [if_neg (fun e => hpx (Option.some.inj e))]
                unfold pM
                rw [if_neg hA, hf]
                rfl
      · funext x
        rw [hmis x, hl]
        by_cases hpx : p = x
        · subst hpx
          rw [decide_eq_true rfl, Bool.and_true]
          cases hAp : A p with
          | true => simp [mM, hAp]
          | false => rw [hAp, Bool.false_or] at hc; rw [hc]; rfl
        · rw [decide_eq_false (fun e => hpx (Option.some.inj e))]
          simp
    · rw [if_neg hc]
      have hAp : A p = false := by cases h : A p with | true => rw [h] at hc; exact absurd rfl hc | false => rfl
      have hmp : mM A S p = false := by cases h : mM A S p with | true => rw [h, Bool.or_true] at hc; exact absurd rfl hc | false => rfl
      have hpr : p ≠ r.id := fun e => by rw [e, hr] at hAp; cases hAp
      have hfp : S.find? (fun a => decide (a.refs.getLast? = some p)) = none := by
        rw [List.find?_eq_none]
        intro a ha hd
        unfold mM at hmp
        rw [hAp, Bool.not_false, Bool.true_and] at hmp
        rw [List.any_eq_false] at hmp
        exact hmp a ha hd
      congr 1
      · funext x
        rw [hpar x, hl]
        by_cases hx : x = r.id
        · subst hx
          rw [if_pos rfl]
          cases hfa : farther A r with
          | none => dsimp only; rw [upd_same]
          | some a => dsimp only; rw [upd_other _ (fun e => hpr e.symm), upd_same]
        · rw [if_neg hx]
          by_cases hpx : x = p
          · subst hpx
            rw [if_neg (by rw [hAp]; decide), hfp]
            simp only [if_true]
            cases hfa : farther A r with
            | none =>
              dsimp only
              rw [upd_other _ hx]
              unfold pM
              rw [if_neg (by rw [hAp]; decide), hfp]
              rfl
            | some a => dsimp only; rw [upd_same]
          · have e1 : (match farther A r with | some a => upd (upd (pM A S) r.id (some p)) p (some a) | none => upd (pM A S) r.id (some p)) x = pM A S x := by
              cases hfa : farther A r with
              | none => exact upd_other _ hx
              | some a => dsimp only; rw [upd_other _ hpx, upd_other _ hx]
            rw [e1]
            by_cases hA : A x = true
            · rw [if_pos hA]
            · rw [if_neg hA]
              cases hf : S.find? (fun a => decide (a.refs.getLast? = some x)) with
              | some a => rfl
              | none =>
                rw [if_neg (fun e => hpx (Option.some.inj e).symm)]
                unfold pM
                rw [if_neg hA, hf]
                rfl
      · funext x
        rw [hmis x, hl]
        by_cases hpx : x = p
        · subst hpx
          rw [upd_same, decide_eq_true rfl, hAp]
          simp
        · rw [upd_other _ hpx, decide_eq_false (fun e => hpx (Option.some.inj e).symm)]
          simp
/-- What is known of the parents. -/
theorem pM_art {A : IdB → Bool} {S : List Tw} (hn : (S.map (·.id)).Nodup) {r : Tw} (hr : r ∈ S) (hA : A r.id = true) : pM A S r.id = r.refs.getLast? := by
  have h1 : S.find? (fun a => decide (a.id = r.id)) = some r := by
    induction S with
    | nil => cases hr
    | cons a S ih =>
      rw [List.map_cons, List.nodup_cons] at hn
      rw [List.find?_cons]
      rcases List.mem_cons.1 hr with rfl | h
      · rw [decide_eq_true rfl]
      · have : a.id ≠ r.id := fun e => hn.1 (e ▸ List.mem_map_of_mem h)
        rw [decide_eq_false this]
        exact ih hn.2 h
  unfold pM
  rw [if_pos hA, h1]
  rfl
theorem pM_mis {A : IdB → Bool} {S : List Tw} {x y : IdB} (hA : A x = false) (h : pM A S x = some y) : A y = true ∧ ∃ r ∈ S, r.refs.getLast? = some x ∧ farther A r = some y := by
  unfold pM at h
  rw [if_neg (by rw [hA]; decide)] at h
  cases hf : S.find? (fun r => decide (r.refs.getLast? = some x)) with
  | none => rw [hf] at h; cases h
  | some r =>
    rw [hf] at h
    have h2 : farther A r = some y := h
    have h3 := List.find?_some hf
    exact ⟨List.find?_some h2, r, List.mem_of_find?_eq_some hf, by simpa using h3, h2⟩
end Go.Proofs.Ythfinofmbnfijaa
