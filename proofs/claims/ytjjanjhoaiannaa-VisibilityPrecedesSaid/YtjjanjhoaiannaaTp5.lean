/- Threads, plainly: parents, cycles cut. No program in sight; Threads, plainly: the parents of articles and of missing articles; in each cycle the first article loses its parent; Threads, plainly: the cycles are cut; Threads, plainly: the first article of a cycle, found by going round it; Threads, plainly: the identities that occur. -/
import Derived.Test.YtjjanjhoaiannaaTp0
namespace Go.Proofs.Ytjjanjhoaiannaa
open Go.RowKit
set_option linter.unusedVariables false
set_option linter.unusedSimpArgs false

/-! ### iterating a partial function -/
abbrev Par := IdB → Option IdB
def it (p : Par) : Nat → IdB → Option IdB
  | 0, x => some x
  | n + 1, x => (p x).bind (it p n)
theorem it_add (p : Par) : ∀ (n m : Nat) (x : IdB), it p (n + m) x = (it p n x).bind (it p m)
  | 0, m, x => by rw [Nat.zero_add]; rfl
  | n + 1, m, x => by
    rw [show n + 1 + m = (n + m) + 1 by omega]
    show (p x).bind (it p (n + m)) = ((p x).bind (it p n)).bind (it p m)
    cases p x with
    | none => rfl
    | some y => exact it_add p n m y
theorem it_one (p : Par) (x : IdB) : it p 1 x = p x := by
  show (p x).bind (it p 0) = p x
  cases p x <;> rfl
theorem it_succ (p : Par) (n : Nat) (x : IdB) : it p (n + 1) x = (it p n x).bind p := by
  rw [it_add p n 1 x]
  cases it p n x with
  | none => rfl
  | some y => exact it_one p y
def Reach (p : Par) (x y : IdB) : Prop := ∃ n, it p n x = some y
def onC (p : Par) (x : IdB) : Prop := ∃ n, it p (n + 1) x = some x
theorem Reach.refl (p : Par) (x : IdB) : Reach p x x := ⟨0, rfl⟩
theorem Reach.trans {p : Par} {x y z : IdB} (h : Reach p x y) (k : Reach p y z) : Reach p x z := by
  obtain ⟨n, hn⟩ := h
  obtain ⟨m, hm⟩ := k
  exact ⟨n + m, by rw [it_add, hn]; exact hm⟩
theorem Reach.step {p : Par} {x y : IdB} (h : p x = some y) : Reach p x y := ⟨1, by rw [it_one, h]⟩
theorem Reach.head {p : Par} {x y : IdB} (h : Reach p x y) : x = y ∨ ∃ z, p x = some z ∧ Reach p z y := by
  obtain ⟨n, hn⟩ := h
  cases n with
  | zero => exact .inl (Option.some.inj hn)
  | succ n =>
    right
    have hn' : (p x).bind (it p n) = some y := hn
    cases hp : p x with
    | none => rw [hp] at hn'; cases hn'
    | some z => rw [hp] at hn'; exact ⟨z, rfl, n, hn'⟩
/-- What holds of x and is handed on holds of all that is reached. -/
theorem Reach.keep {p : Par} {V : IdB → Prop} (hV : ∀ x y, V x → p x = some y → V y) {x y : IdB} (h : Reach p x y) (hx : V x) : V y := by
  obtain ⟨n, hn⟩ := h
  induction n generalizing x with
  | zero => exact Option.some.inj hn ▸ hx
  | succ n ih =>
    have hn' : (p x).bind (it p n) = some y := hn
    cases hp : p x with
    | none => rw [hp] at hn'; cases hn'
    | some z => rw [hp] at hn'; exact ih (hV x z hx hp) hn'
theorem onC_iff {p : Par} {x : IdB} : onC p x ↔ ∃ y, p x = some y ∧ Reach p y x := by
  constructor
  · rintro ⟨n, hn⟩
    have hn' : (p x).bind (it p n) = some x := hn
    cases hp : p x with
    | none => rw [hp] at hn'; cases hn'
    | some z => rw [hp] at hn'; exact ⟨z, rfl, n, hn'⟩
  · rintro ⟨y, hy, n, hn⟩
    exact ⟨n, by show (p x).bind (it p n) = some x; rw [hy]; exact hn⟩
/-- On a cycle one comes back from wherever one comes to. -/
theorem onC.back {p : Par} {x y : IdB} (hx : onC p x) (h : Reach p x y) : Reach p y x := by
  obtain ⟨n, hn⟩ := h
  induction n generalizing x y with
  | zero => obtain rfl := Option.some.inj hn; exact Reach.refl p _
  | succ n ih =>
    obtain ⟨z, hz, hr⟩ := onC_iff.1 hx
    have hn' : (p x).bind (it p n) = some y := hn
    rw [hz] at hn'
    have hcz : onC p z := by
      rcases hr.head with rfl | ⟨u, hu, hru⟩
      · exact hx
      · exact onC_iff.2 ⟨u, hu, hru.trans (Reach.step hz)⟩
    have h1 : Reach p y z := ih hcz hn'
    exact h1.trans hr
theorem onC.of_reach {p : Par} {x y : IdB} (hx : onC p x) (h : Reach p x y) : onC p y := by
  have hb := hx.back h
  rcases hb.head with rfl | ⟨z, hz, hr⟩
  · exact hx
  · exact onC_iff.2 ⟨z, hz, hr.trans h⟩
theorem onC.has {p : Par} {x : IdB} (hx : onC p x) : ∃ y, p x = some y := by
  obtain ⟨y, hy, _⟩ := onC_iff.1 hx
  exact ⟨y, hy⟩
theorem Reach.mono {p q : Par} (h : ∀ x y, p x = some y → q x = some y) {x y : IdB} (hr : Reach p x y) : Reach q x y :=
  Reach.keep (V := fun z => Reach q x z) (fun a b ha hab => ha.trans (Reach.step (h a b hab))) hr (Reach.refl q x)
theorem onC.mono {p q : Par} (h : ∀ x y, p x = some y → q x = some y) {x : IdB} (hx : onC p x) : onC q x := by
  obtain ⟨y, hy, hr⟩ := onC_iff.1 hx
  exact onC_iff.2 ⟨y, h x y hy, hr.mono h⟩

/-! ### the walk that looks for a cycle -/
def upd {α : Type} (f : IdB → α) (x : IdB) (v : α) : IdB → α := fun y => if y = x then v else f y
theorem upd_same {α : Type} (f : IdB → α) (x : IdB) (v : α) : upd f x v x = v := if_pos rfl
theorem upd_other {α : Type} {f : IdB → α} {x y : IdB} (v : α) (h : y ≠ x) : upd f x v y = f y := if_neg h
abbrev Wk := IdB → Option Nat
def walkGo (p : Par) (k : Nat) : Nat → Wk → IdB → Wk × Option IdB
  | 0, wk, _ => (wk, none)
  | n + 1, wk, x =>
    match wk x with
    | some v => if v = k then (wk, some x) else (wk, none)
    | none =>
      match p x with
      | none => (upd wk x (some k), none)
      | some y => walkGo p k n (upd wk x (some k)) y
/-- How many of U are not met yet. -/
def unmet (U : List IdB) (wk : Wk) : Nat := (U.filter fun x => (wk x).isNone).length
theorem unmet_upd {U : List IdB} {wk : Wk} {x : IdB} (hx : x ∈ U) (h : wk x = none) (k : Nat) : unmet U (upd wk x (some k)) < unmet U wk := by
  unfold unmet
  induction U with
  | nil => cases hx
  | cons a U ih =>
    have hle : ∀ V : List IdB, (V.filter fun y => (upd wk x (some k) y).isNone).length ≤ (V.filter fun y => (wk y).isNone).length := by
      intro V
      induction V with
      | nil => exact Nat.le_refl _
      | cons b V ihV =>
        rw [List.filter_cons, List.filter_cons]
        by_cases hb : b = x
        · subst hb
          rw [upd_same, h]
          simp only [Option.isNone_some, Option.isNone_none, Bool.false_eq_true, if_false, if_true, List.length_cons]
          omega
        · rw [upd_other _ hb]
          split
          · simp only [List.length_cons]; omega
          · exact ihV
    rw [List.filter_cons, List.filter_cons]
    by_cases ha : a = x
    · subst ha
      rw [upd_same, h]
      simp only [Option.isNone_some, Option.isNone_none, Bool.false_eq_true, if_false, if_true, List.length_cons]
      have := hle U
      omega
    · rw [upd_other _ ha]
      have hxU : x ∈ U := by
        rcases List.mem_cons.1 hx with e | e
        · exact absurd e.symm ha
        · exact e
      have := ih hxU
      split
      · simp only [List.length_cons]; omega
      · exact this
/-- What a walk leaves: V what was met ahead of it. -/
structure WalkRes (p : Par) (k : Nat) (wk0 : Wk) (start : IdB) (r : Wk × Option IdB) : Prop where
  old : ∀ x v, wk0 x = some v → r.1 x = some v
  new : ∀ x, wk0 x = none → r.1 x = none ∨ r.1 x = some k
  start : r.1 start ≠ none
  closed : ∀ x, wk0 x = none → r.1 x ≠ none → ∀ y, p x = some y → r.1 y ≠ none
  cyc : ∀ x, wk0 x = none → r.1 x ≠ none → onC p x → ∃ c, r.2 = some c ∧ Reach p c x
  found : ∀ c, r.2 = some c → onC p c ∧ wk0 c = none ∧ r.1 c ≠ none
/-- On the way: what is met in this walk leads to where the walk stands. -/
structure WalkInv (p : Par) (k : Nat) (wk0 wk : Wk) (x : IdB) : Prop where
  old : ∀ y v, wk0 y = some v → wk y = some v
  new : ∀ y, wk0 y = none → wk y = none ∨ wk y = some k
  lead : ∀ y, wk0 y = none → wk y ≠ none → (∃ z, p y = some z ∧ Reach p z x) ∧ ∀ z, p y = some z → wk z ≠ none ∨ z = x
theorem walk_res {p : Par} {k : Nat} {wk0 : Wk} (hlt : ∀ x v, wk0 x = some v → v < k) (hcl : ∀ x, wk0 x ≠ none → ∀ y, p x = some y → wk0 y ≠ none) {U : List IdB} (hU : ∀ x y, p x = some y → y ∈ U) {start : IdB} :
    ∀ (n : Nat) (wk : Wk) (x : IdB), unmet U wk < n → x ∈ U → WalkInv p k wk0 wk x → (wk start ≠ none ∨ x = start) → WalkRes p k wk0 start (walkGo p k n wk x)
  | 0, wk, x, hn, _, _, _ => absurd hn (Nat.not_lt_zero _)
  | n + 1, wk, x, hn, hx, hi, hs => by
    have hcycV : ∀ y, wk0 y = none → wk0 x ≠ none → wk y ≠ none → ¬ onC p y := fun y hy hx0 hwy hc => by
      obtain ⟨⟨z, hz, hr⟩, _⟩ := hi.lead y hy hwy
      have h1 : Reach p x y := hc.back ((Reach.step hz).trans hr)
      exact Reach.keep (V := fun a => wk0 a ≠ none) (fun a b ha hab => hcl a ha b hab) h1 hx0 hy
    unfold walkGo
    cases hwx : wk x with
    | some v =>
      simp only
      by_cases hv : v = k
      · rw [if_pos hv]
        subst hv
        have hx0 : wk0 x = none := by
          cases h : wk0 x with
          | none => rfl
          | some u =>
            have h1 := hi.old x u h
            rw [hwx] at h1
            have h2 := hlt x u h
            have h3 : v = u := Option.some.inj h1
            omega
        obtain ⟨⟨z, hz, hr⟩, _⟩ := hi.lead x hx0 (by rw [hwx]; exact fun e => by cases e)
        have hcx : onC p x := onC_iff.2 ⟨z, hz, hr⟩
        refine ⟨hi.old, hi.new, ?_, fun y hy hwy u hu => ?_, fun y hy hwy hc => ⟨x, rfl, ?_⟩, fun c hc => ?_⟩
        · rcases hs with hs | rfl
          · exact hs
          · show wk x ≠ none
            rw [hwx]; exact fun e => by cases e
        · rcases (hi.lead y hy hwy).2 u hu with h | rfl
          · exact h
          · show wk u ≠ none
            rw [hwx]; exact fun e => by cases e
        · obtain ⟨⟨z', hz', hr'⟩, _⟩ := hi.lead y hy hwy
          exact hc.back ((Reach.step hz').trans hr')
        · obtain rfl : x = c := Option.some.inj hc
          exact ⟨hcx, hx0, by show wk x ≠ none; rw [hwx]; exact fun e => by cases e⟩
      · rw [if_neg hv]
        have hx0 : wk0 x ≠ none := fun e => by
          rcases hi.new x e with h | h
          · rw [hwx] at h; cases h
          · rw [hwx] at h; exact hv (Option.some.inj h)
        refine ⟨hi.old, hi.new, ?_, fun y hy hwy u hu => ?_, fun y hy hwy hc => absurd hc (hcycV y hy hx0 hwy), fun c hc => by cases hc⟩
        · rcases hs with hs | rfl
          · exact hs
          · show wk x ≠ none
            rw [hwx]; exact fun e => by cases e
        · rcases (hi.lead y hy hwy).2 u hu with h | rfl
          · exact h
          · show wk u ≠ none
            rw [hwx]; exact fun e => by cases e
    | none =>
      simp only
      have hx0 : wk0 x = none := by
        cases h : wk0 x with
        | none => rfl
        | some u => rw [hi.old x u h] at hwx; cases hwx
      have hold : ∀ y v, wk0 y = some v → upd wk x (some k) y = some v := fun y v hy => by
        by_cases e : y = x
        · subst e; rw [hx0] at hy; cases hy
        · rw [upd_other _ e]; exact hi.old y v hy
      have hnew : ∀ y, wk0 y = none → upd wk x (some k) y = none ∨ upd wk x (some k) y = some k := fun y hy => by
        by_cases e : y = x
        · subst e; rw [upd_same]; exact .inr rfl
        · rw [upd_other _ e]; exact hi.new y hy
      have hsx : upd wk x (some k) start ≠ none := by
        by_cases e : start = x
        · rw [e, upd_same]; exact fun e => by cases e
        · rw [upd_other _ e]
          rcases hs with hs | hs
          · exact hs
          · exact absurd hs.symm e
      cases hp : p x with
      | none =>
        simp only
        refine ⟨hold, hnew, hsx, fun y hy hwy u hu => ?_, fun y hy hwy hc => ?_, fun c hc => by cases hc⟩
        · have hwy' : upd wk x (some k) y ≠ none := hwy
          by_cases e : y = x
          · subst e; rw [hp] at hu; cases hu
          · rw [upd_other _ e] at hwy'
            show upd wk x (some k) u ≠ none
            rcases (hi.lead y hy hwy').2 u hu with h | rfl
            · by_cases e2 : u = x
              · rw [e2, upd_same]; exact fun e => by cases e
              · rw [upd_other _ e2]; exact h
            · rw [upd_same]; exact fun e => by cases e
        · exfalso
          have hwy' : upd wk x (some k) y ≠ none := hwy
          by_cases e : y = x
          · subst e
            obtain ⟨z, hz⟩ := hc.has
            rw [hp] at hz; cases hz
          · rw [upd_other _ e] at hwy'
            obtain ⟨⟨z, hz, hr⟩, _⟩ := hi.lead y hy hwy'
            obtain ⟨u, hu⟩ := (hc.of_reach ((Reach.step hz).trans hr)).has
            rw [hp] at hu; cases hu
      | some z =>
        simp only
        refine walk_res hlt hcl hU n (upd wk x (some k)) z (by have := unmet_upd hx hwx k; omega) (hU x z hp) ⟨hold, hnew, fun y hy hwy => ?_⟩ (.inl hsx)
        by_cases e : y = x
        · subst e
          exact ⟨⟨z, hp, Reach.refl p z⟩, fun u hu => .inr (by rw [hp] at hu; exact (Option.some.inj hu).symm)⟩
        · rw [upd_other _ e] at hwy
          obtain ⟨⟨u, hu, hr⟩, h2⟩ := hi.lead y hy hwy
          refine ⟨⟨u, hu, hr.trans (Reach.step hp)⟩, fun v hv => ?_⟩
          rcases h2 v hv with h | rfl
          · left
            by_cases e2 : v = x
            · rw [e2, upd_same]; exact fun e => by cases e
            · rw [upd_other _ e2]; exact h
          · left; rw [upd_same]; exact fun e => by cases e
theorem walk_any {p : Par} {k : Nat} {wk0 : Wk} (hlt : ∀ x v, wk0 x = some v → v < k) (hcl : ∀ x, wk0 x ≠ none → ∀ y, p x = some y → wk0 y ≠ none) {U : List IdB} (hU : ∀ x y, p x = some y → y ∈ U) {start : IdB} (hs : start ∈ U) {n : Nat} (hn : U.length < n) :
    WalkRes p k wk0 start (walkGo p k n wk0 start) :=
  walk_res hlt hcl hU n wk0 start (Nat.lt_of_le_of_lt (List.length_filter_le _ _) hn) hs ⟨fun _ _ h => h, fun y hy => .inl hy, fun y hy hwy => absurd hy hwy⟩ (.inr rfl)
end Go.Proofs.Ytjjanjhoaiannaa

namespace Go.Proofs.Ytjjanjhoaiannaa
open Go.Shelf Go.RowKit Go.Lib Go.Sort
set_option linter.unusedVariables false
set_option linter.unusedSimpArgs false

/-! ### articles and their order -/
structure Tw where
  id : IdB
  date : Int
  refs : List IdB
def cmpT (a b : Tw) : Int := if a.date = b.date then cmpB a.id b.id else if a.date < b.date then -1 else 1
theorem cmpB_self (a : IdB) : cmpB a a = 0 := cb_self a.1
theorem cmpB_swap (a b : IdB) : cmpB b a = - cmpB a b := cb_swap a.1 b.1
theorem cmpB_eq {a b : IdB} (h : cmpB a b = 0) : a = b := Subtype.ext (cb_eq h)
theorem cmpB_trans {a b c : IdB} (h : cmpB a b < 0) (k : cmpB b c < 0) : cmpB a c < 0 := cb_trans h k
theorem cmpT_self (a : Tw) : cmpT a a = 0 := by unfold cmpT; rw [if_pos rfl]; exact cmpB_self _
theorem cmpT_swap (a b : Tw) : cmpT b a = - cmpT a b := by
  unfold cmpT
  by_cases h : a.date = b.date
  · rw [if_pos h, if_pos h.symm]; exact cmpB_swap _ _
  · rw [if_neg h, if_neg (fun e => h e.symm)]
    by_cases h2 : a.date < b.date
    · rw [if_pos h2, if_neg (by omega)]; rfl
    · rw [if_neg h2, if_pos (by omega)]
theorem cmpT_eq {a b : Tw} (h : cmpT a b = 0) : a.date = b.date ∧ a.id = b.id := by
  unfold cmpT at h
  by_cases h1 : a.date = b.date
  · rw [if_pos h1] at h; exact ⟨h1, cmpB_eq h⟩
  · rw [if_neg h1] at h
    split at h <;> cases h
theorem cmpT_neg {a b : Tw} : cmpT a b < 0 ↔ a.date < b.date ∨ a.date = b.date ∧ cmpB a.id b.id < 0 := by
  unfold cmpT
  by_cases h1 : a.date = b.date
  · rw [if_pos h1]
    constructor
    · exact fun h => .inr ⟨h1, h⟩
    · rintro (h | h)
      · omega
      · exact h.2
  · rw [if_neg h1]
    by_cases h2 : a.date < b.date
    · rw [if_pos h2]
      exact ⟨fun _ => .inl h2, fun _ => by decide⟩
    · rw [if_neg h2]
      constructor
      · intro h; exact absurd h (by decide)
      · rintro (h | h)
        · exact absurd h h2
        · exact absurd h.1 h1
theorem cmpT_trans {a b c : Tw} (h : cmpT a b < 0) (k : cmpT b c < 0) : cmpT a c < 0 := by
  rw [cmpT_neg] at *
  rcases h with h | ⟨h, h'⟩
  · rcases k with k | ⟨k, _⟩
    · exact .inl (by omega)
    · exact .inl (by omega)
  · rcases k with k | ⟨k, k'⟩
    · exact .inl (by omega)
    · exact .inr ⟨by omega, cmpB_trans h' k'⟩
theorem swoT' : SWO (ltOf cmpT) where
  irrefl x := by unfold ltOf; rw [cmpT_self]; rfl
  trans x y z h1 h2 := by
    unfold ltOf at *
    simp only [decide_eq_true_eq] at *
    exact cmpT_trans h1 h2
  ntrans x y z h1 h2 := by
    unfold ltOf at *
    simp only [decide_eq_false_iff_not] at *
    intro h3
    have hyx := cmpT_swap x y
    have hzy := cmpT_swap y z
    by_cases e1 : cmpT x y = 0
    · have e := cmpT_eq e1
      have hx : cmpT x z = cmpT y z := by unfold cmpT; rw [e.1, e.2]
      rw [hx] at h3
      exact h2 h3
    · by_cases e2 : cmpT y z = 0
      · have e := cmpT_eq e2
        have hx : cmpT x z = cmpT x y := by unfold cmpT; rw [e.1, e.2]
        rw [hx] at h3
        exact h1 h3
      · exact h2 (by
          have := cmpT_trans (a := y) (b := x) (c := z) (by omega) h3
          omega)
/-- A list in the order of articles. -/
def Asc (S : List Tw) : Prop := S.Pairwise fun a b => cmpT a b < 0
theorem Asc.nodup {S : List Tw} (h : Asc S) (hn : ∀ a ∈ S, ∀ b ∈ S, a.id = b.id → a = b) : (S.map (·.id)).Nodup := by
  rw [List.nodup_iff_pairwise_ne, List.pairwise_map]
  refine List.Pairwise.imp_of_mem ?_ h
  intro a b ha hb hab e
  obtain rfl := hn a ha b hb e
  rw [cmpT_self] at hab
  exact absurd hab (by decide)

/-! ### parents -/
def isArt (L : List Tw) (x : IdB) : Bool := L.any fun r => decide (r.id = x)
theorem isArt_iff {L : List Tw} {x : IdB} : isArt L x = true ↔ ∃ r ∈ L, r.id = x := by
  unfold isArt
  rw [List.any_eq_true]
  simp only [decide_eq_true_eq]
theorem isArt_perm {L M : List Tw} (h : L.Perm M) : isArt L = isArt M := by
  funext x
  rw [Bool.eq_iff_iff, isArt_iff, isArt_iff]
  exact ⟨fun ⟨r, hr, e⟩ => ⟨r, h.mem_iff.1 hr, e⟩, fun ⟨r, hr, e⟩ => ⟨r, h.mem_iff.2 hr, e⟩⟩
/-- The nearest article among the references of r behind its last one. -/
def farther (A : IdB → Bool) (r : Tw) : Option IdB := r.refs.dropLast.reverse.find? A
structure FS where
  par : Par
  mis : IdB → Bool
def fpStep (A : IdB → Bool) (st : FS) (r : Tw) : FS :=
  match r.refs.getLast? with
  | none => st
  | some p =>
    if A p || st.mis p then ⟨upd st.par r.id (some p), st.mis⟩
    else ⟨match farther A r with | some a => upd (upd st.par r.id (some p)) p (some a) | none => upd st.par r.id (some p), upd st.mis p true⟩
def fp0 : FS := ⟨fun _ => none, fun _ => false⟩
/-- The parents, by the list of articles in order. -/
def pM (A : IdB → Bool) (S : List Tw) (x : IdB) : Option IdB :=
  if A x then (S.find? fun r => decide (r.id = x)).bind (·.refs.getLast?) else (S.find? fun r => decide (r.refs.getLast? = some x)).bind (farther A)
def mM (A : IdB → Bool) (S : List Tw) (x : IdB) : Bool := !A x && S.any fun r => decide (r.refs.getLast? = some x)
theorem fp_snoc {A : IdB → Bool} {S : List Tw} {r : Tw} (hr : A r.id = true) (hn : ∀ a ∈ S, a.id ≠ r.id) : fpStep A ⟨pM A S, mM A S⟩ r = ⟨pM A (S ++ [r]), mM A (S ++ [r])⟩ := by
  have hfid : S.find? (fun a => decide (a.id = r.id)) = none := List.find?_eq_none.2 (fun a ha => by simpa using hn a ha)
  have hpar : ∀ x, pM A (S ++ [r]) x = if x = r.id then r.refs.getLast? else if A x then pM A S x else match S.find? (fun a => decide (a.refs.getLast? = some x)) with | some _ => pM A S x | none => if r.refs.getLast? = some x then farther A r else none := by
    intro x
    unfold pM
    by_cases hx : x = r.id
    · subst hx
      rw [if_pos rfl, if_pos hr, List.find?_append, hfid]
      simp
    · rw [if_neg hx]
      by_cases hA : A x = true
      · rw [if_pos hA, if_pos hA, List.find?_append]
        have : [r].find? (fun a => decide (a.id = x)) = none := List.find?_eq_none.2 (fun a ha => by
          obtain rfl := List.mem_singleton.1 ha
          simpa using fun e => hx e.symm)
        rw [this, Option.or_none]
        first | rfl | rw [if_pos hA]
      · rw [if_neg hA, if_neg hA, List.find?_append]
        cases hf : S.find? (fun a => decide (a.refs.getLast? = some x)) with
        | some a => simp [hA]
        | none =>
          by_cases hl : r.refs.getLast? = some x
          · simp [hl]
          · simp [hl]
  have hmis : ∀ x, mM A (S ++ [r]) x = (mM A S x || (!A x && decide (r.refs.getLast? = some x))) := by
    intro x
    unfold mM
    rw [List.any_append]
    cases A x <;> simp
  unfold fpStep
  cases hl : r.refs.getLast? with
  | none =>
    simp only
    congr 1
    · funext x
      rw [hpar x, hl]
      by_cases hx : x = r.id
      · subst hx
        rw [if_pos rfl]
        unfold pM
        rw [if_pos hr, hfid]
        rfl
      · rw [if_neg hx]
        by_cases hA : A x = true
        · rw [if_pos hA]
        · rw [if_neg hA]
          cases hf : S.find? (fun a => decide (a.refs.getLast? = some x)) with
          | some a => rfl
          | none =>
            simp only [reduceCtorEq, if_false]
            unfold pM
            rw [if_neg hA, hf]
            rfl
    · funext x
      rw [hmis x, hl]
      simp
  | some p =>
    simp only
    by_cases hc : (A p || mM A S p) = true
    · rw [if_pos hc]
      congr 1
      · funext x
        rw [hpar x, hl]
        by_cases hx : x = r.id
        · rw [if_pos hx, hx, upd_same]
        · rw [if_neg hx, upd_other _ hx]
          by_cases hA : A x = true
          · rw [if_pos hA]
          · rw [if_neg hA]
            cases hf : S.find? (fun a => decide (a.refs.getLast? = some x)) with
            | some a => rfl
            | none =>
              by_cases hpx : p = x
              · exfalso
                subst hpx
                have h2 : mM A S p = true := by
                  cases hAp : A p with
                  | true => exact absurd hAp hA
                  | false => rw [hAp, Bool.false_or] at hc; exact hc
                unfold mM at h2
                rw [Bool.and_eq_true, List.any_eq_true] at h2
                obtain ⟨a, ha, hd⟩ := h2.2
                exact List.find?_eq_none.1 hf a ha hd
              · rw [if_neg (fun e => hpx (Option.some.inj e))]
                unfold pM
                rw [if_neg hA, hf]
                rfl
      · funext x
        rw [hmis x, hl]
        by_cases hpx : p = x
        · subst hpx
          rw [decide_eq_true rfl, Bool.and_true]
          cases hAp : A p with
          | true => simp [mM, hAp]
          | false => rw [hAp, Bool.false_or] at hc; rw [hc]; rfl
        · rw [decide_eq_false (fun e => hpx (Option.some.inj e))]
          simp
    · rw [if_neg hc]
      have hAp : A p = false := by cases h : A p with | true => rw [h] at hc; exact absurd rfl hc | false => rfl
      have hmp : mM A S p = false := by cases h : mM A S p with | true => rw [h, Bool.or_true] at hc; exact absurd rfl hc | false => rfl
      have hpr : p ≠ r.id := fun e => by rw [e, hr] at hAp; cases hAp
      have hfp : S.find? (fun a => decide (a.refs.getLast? = some p)) = none := by
        rw [List.find?_eq_none]
        intro a ha hd
        unfold mM at hmp
        rw [hAp, Bool.not_false, Bool.true_and] at hmp
        rw [List.any_eq_false] at hmp
        exact hmp a ha hd
      congr 1
      · funext x
        rw [hpar x, hl]
        by_cases hx : x = r.id
        · subst hx
          rw [if_pos rfl]
          cases hfa : farther A r with
          | none => dsimp only; rw [upd_same]
          | some a => dsimp only; rw [upd_other _ (fun e => hpr e.symm), upd_same]
        · rw [if_neg hx]
          by_cases hpx : x = p
          · subst hpx
            rw [if_neg (by rw [hAp]; decide), hfp]
            simp only [if_true]
            cases hfa : farther A r with
            | none =>
              dsimp only
              rw [upd_other _ hx]
              unfold pM
              rw [if_neg (by rw [hAp]; decide), hfp]
              rfl
            | some a => dsimp only; rw [upd_same]
          · have e1 : (match farther A r with | some a => upd (upd (pM A S) r.id (some p)) p (some a) | none => upd (pM A S) r.id (some p)) x = pM A S x := by
              cases hfa : farther A r with
              | none => exact upd_other _ hx
              | some a => dsimp only; rw [upd_other _ hpx, upd_other _ hx]
            rw [e1]
            by_cases hA : A x = true
            · rw [if_pos hA]
            · rw [if_neg hA]
              cases hf : S.find? (fun a => decide (a.refs.getLast? = some x)) with
              | some a => rfl
              | none =>
                rw [if_neg (fun e => hpx (Option.some.inj e).symm)]
                unfold pM
                rw [if_neg hA, hf]
                rfl
      · funext x
        rw [hmis x, hl]
        by_cases hpx : x = p
        · subst hpx
          rw [upd_same, decide_eq_true rfl, hAp]
          simp
        · rw [upd_other _ hpx, decide_eq_false (fun e => hpx (Option.some.inj e).symm)]
          simp
/-- What is known of the parents. -/
theorem pM_art {A : IdB → Bool} {S : List Tw} (hn : (S.map (·.id)).Nodup) {r : Tw} (hr : r ∈ S) (hA : A r.id = true) : pM A S r.id = r.refs.getLast? := by
  have h1 : S.find? (fun a => decide (a.id = r.id)) = some r := by
    induction S with
    | nil => cases hr
    | cons a S ih =>
      rw [List.map_cons, List.nodup_cons] at hn
      rw [List.find?_cons]
      rcases List.mem_cons.1 hr with rfl | h
      · rw [decide_eq_true rfl]
      · have : a.id ≠ r.id := fun e => hn.1 (e ▸ List.mem_map_of_mem h)
        rw [decide_eq_false this]
        exact ih hn.2 h
  unfold pM
  rw [if_pos hA, h1]
  rfl
theorem pM_mis {A : IdB → Bool} {S : List Tw} {x y : IdB} (hA : A x = false) (h : pM A S x = some y) : A y = true ∧ ∃ r ∈ S, r.refs.getLast? = some x ∧ farther A r = some y := by
  unfold pM at h
  rw [if_neg (by rw [hA]; decide)] at h
  cases hf : S.find? (fun r => decide (r.refs.getLast? = some x)) with
  | none => rw [hf] at h; cases h
  | some r =>
    rw [hf] at h
    have h2 : farther A r = some y := h
    have h3 := List.find?_some hf
    exact ⟨List.find?_some h2, r, List.mem_of_find?_eq_some hf, by simpa using h3, h2⟩
end Go.Proofs.Ytjjanjhoaiannaa

namespace Go.Proofs.Ytjjanjhoaiannaa
open Go.Shelf Go.RowKit Go.Lib Go.Sort
set_option linter.unusedVariables false
set_option linter.unusedSimpArgs false

/-- The place of an article in the order. -/
def rk (S : List Tw) (x : IdB) : Option Nat := S.findIdx? fun r => decide (r.id = x)
theorem rk_some {S : List Tw} {x : IdB} {k : Nat} (h : rk S x = some k) : ∃ hk : k < S.length, S[k].id = x := by
  unfold rk at h
  rw [List.findIdx?_eq_some_iff_getElem] at h
  obtain ⟨hk, h1, _⟩ := h
  exact ⟨hk, of_decide_eq_true h1⟩
theorem rk_none {S : List Tw} {x : IdB} : rk S x = none ↔ isArt S x = false := by
  unfold rk isArt
  rw [List.findIdx?_eq_none_iff, List.any_eq_false]
  simp
theorem rk_at {S : List Tw} (hn : (S.map (·.id)).Nodup) {k : Nat} (hk : k < S.length) : rk S S[k].id = some k := by
  unfold rk
  rw [List.findIdx?_eq_some_iff_getElem]
  refine ⟨hk, decide_eq_true rfl, fun j hj => ?_⟩
  rw [decide_eq_true_eq]
  intro e
  have h1 := (List.nodup_iff_pairwise_ne.1 hn)
  rw [List.pairwise_map, List.pairwise_iff_getElem] at h1
  exact h1 j k (by omega) hk hj e
/-- x is the first article of a cycle. -/
def Lst (p : Par) (S : List Tw) (x : IdB) : Prop := onC p x ∧ ∃ k, rk S x = some k ∧ ∀ y j, Reach p x y → rk S y = some j → k ≤ j
/-- c is p, but that the first article of each cycle has no parent. -/
def IsCut (p : Par) (S : List Tw) (c : Par) : Prop := ∀ x, (Lst p S x → c x = none) ∧ (¬ Lst p S x → c x = p x)
theorem IsCut.uniq {p c d : Par} {S : List Tw} (h : IsCut p S c) (k : IsCut p S d) : c = d := by
  funext x
  by_cases hl : Lst p S x
  · rw [(h x).1 hl, (k x).1 hl]
  · rw [(h x).2 hl, (k x).2 hl]
theorem IsCut.le {p c : Par} {S : List Tw} (h : IsCut p S c) {x y : IdB} (hc : c x = some y) : p x = some y := by
  by_cases hl : Lst p S x
  · rw [(h x).1 hl] at hc; cases hc
  · rw [← (h x).2 hl]; exact hc
/-- Two first articles of one cycle are one. -/
theorem Lst.eq {p : Par} {S : List Tw} {x y : IdB} (hx : Lst p S x) (hy : Lst p S y) (h : Reach p x y) : x = y := by
  obtain ⟨hcx, k, hk, hlk⟩ := hx
  obtain ⟨hcy, j, hj, hlj⟩ := hy
  have h1 := hlk y j h hj
  have h2 := hlj x k (hcx.back h) hk
  obtain rfl : k = j := by omega
  obtain ⟨hk1, e1⟩ := rk_some hk
  obtain ⟨hk2, e2⟩ := rk_some hj
  rw [← e1, ← e2]
/-- The parents as they come of lists: a missing one's parent is an article. -/
def Alt (p : Par) (S : List Tw) : Prop := ∀ x y, p x = some y → isArt S x = true ∨ isArt S y = true
theorem alt_pM (S : List Tw) : Alt (pM (isArt S) S) S := fun x y h => by
  cases hA : isArt S x with
  | true => exact .inl rfl
  | false => exact .inr (pM_mis hA h).1
/-- Every cycle has a first article. -/
theorem exists_least {P : Nat → Prop} (h : ∃ n, P n) : ∃ n, P n ∧ ∀ m, P m → n ≤ m := by
  obtain ⟨n, hn⟩ := h
  induction n using Nat.strongRecOn with
  | _ n ih =>
    by_cases hm : ∃ m, m < n ∧ P m
    · obtain ⟨m, hmn, hpm⟩ := hm
      exact ih m hmn hpm
    · exact ⟨n, hn, fun m hpm => by
        by_cases hlt : m < n
        · exact absurd ⟨m, hlt, hpm⟩ hm
        · omega⟩
theorem cycle_least {p : Par} {S : List Tw} (ha : Alt p S) {x : IdB} (hx : onC p x) : ∃ y, Reach p x y ∧ Lst p S y := by
  have h1 : ∃ k, ∃ y, Reach p x y ∧ rk S y = some k := by
    obtain ⟨z, hz⟩ := hx.has
    rcases ha x z hz with h | h
    · cases hr : rk S x with
      | none => rw [rk_none.1 hr] at h; cases h
      | some k => exact ⟨k, x, Reach.refl p x, hr⟩
    · cases hr : rk S z with
      | none => rw [rk_none.1 hr] at h; cases h
      | some k => exact ⟨k, z, Reach.step hz, hr⟩
  obtain ⟨k, ⟨y, hxy, hk⟩, hl⟩ := exists_least h1
  exact ⟨y, hxy, hx.of_reach hxy, k, hk, fun u j hu hj => hl j ⟨u, hxy.trans hu, hj⟩⟩
/-- Cut, there is no cycle left. -/
theorem IsCut.acyclic {p c : Par} {S : List Tw} (ha : Alt p S) (h : IsCut p S c) (x : IdB) : ¬ onC c x := fun hx => by
  have hpx : onC p x := hx.mono (fun a b hab => h.le hab)
  obtain ⟨y, hxy, hy⟩ := cycle_least ha hpx
  -- along p from x one walks along c, too, as long as one does not come to y; c has no way on from y
  have hcy : Reach c x y := by
    obtain ⟨n, hn⟩ := hxy
    have key : ∀ n z, onC c z → it p n z = some y → Reach c z y := by
      intro n
      induction n with
      | zero => intro z _ hz; obtain rfl := Option.some.inj hz; exact Reach.refl c _
      | succ n ih =>
        intro z hcz hz
        obtain ⟨u, hu⟩ := hcz.has
        have hz' : (p z).bind (it p n) = some y := hz
        rw [h.le hu] at hz'
        exact (Reach.step hu).trans (ih u (hcz.of_reach (Reach.step hu)) hz')
    exact key n x hx hn
  obtain ⟨z, hz⟩ := (hx.of_reach hcy).has
  rw [(h y).1 hy] at hz
  cases hz
/-- Between two walks: par is p cut in what was met. -/
structure CutInv (p : Par) (S : List Tw) (k : Nat) (par : Par) (wk : Wk) : Prop where
  lt : ∀ x v, wk x = some v → v < k
  closed : ∀ x, wk x ≠ none → ∀ y, p x = some y → wk y ≠ none
  cut : ∀ x, (wk x ≠ none ∧ Lst p S x → par x = none) ∧ (¬ (wk x ≠ none ∧ Lst p S x) → par x = p x)
  met : ∀ j (h : j < S.length), j < k → wk S[j].id ≠ none
theorem CutInv.zero (p : Par) (S : List Tw) : CutInv p S 0 p (fun _ => none) :=
  ⟨(fun x v h => by cases h), fun x h => absurd rfl h, fun x => ⟨fun h => absurd rfl h.1, fun _ => rfl⟩, fun j _ h => absurd h (Nat.not_lt_zero j)⟩
theorem CutInv.le {p par : Par} {S : List Tw} {k : Nat} {wk : Wk} (h : CutInv p S k par wk) {x y : IdB} (hx : par x = some y) : p x = some y := by
  by_cases hl : wk x ≠ none ∧ Lst p S x
  · rw [(h.cut x).1 hl] at hx; cases hx
  · rw [← (h.cut x).2 hl]; exact hx
theorem CutInv.new {p par : Par} {S : List Tw} {k : Nat} {wk : Wk} (h : CutInv p S k par wk) {x : IdB} (hx : wk x = none) : par x = p x := (h.cut x).2 (fun e => e.1 hx)
theorem CutInv.pre {p par : Par} {S : List Tw} {k : Nat} {wk : Wk} (h : CutInv p S k par wk) : ∀ x, wk x ≠ none → ∀ y, par x = some y → wk y ≠ none := fun x hx y hy => h.closed x hx y (h.le hy)
/-- One comes to nothing met from what lies on a cycle that was not met. -/
theorem CutInv.fresh {p par : Par} {S : List Tw} {k : Nat} {wk : Wk} (h : CutInv p S k par wk) {x y : IdB} (hc : onC p x) (hx : wk x = none) (hr : Reach p x y) : wk y = none := by
  cases hy : wk y with
  | none => rfl
  | some v =>
    exfalso
    exact Reach.keep (V := fun a => wk a ≠ none) (fun a b ha hab => h.closed a ha b hab) (hc.back hr) (by rw [hy]; exact fun e => by cases e) hx
theorem reach_par {p par : Par} {S : List Tw} {k : Nat} {wk : Wk} (h : CutInv p S k par wk) {x y : IdB} (hc : onC p x) (hx : wk x = none) (hr : Reach p x y) : Reach par x y := by
  obtain ⟨n, hn⟩ := hr
  induction n generalizing x with
  | zero => obtain rfl := Option.some.inj hn; exact Reach.refl par _
  | succ n ih =>
    obtain ⟨u, hu⟩ := hc.has
    have hn' : (p x).bind (it p n) = some y := hn
    rw [hu] at hn'
    exact (Reach.step (by rw [h.new hx]; exact hu)).trans (ih (hc.of_reach (Reach.step hu)) (h.fresh hc hx (Reach.step hu)) hn')
theorem onC_par {p par : Par} {S : List Tw} {k : Nat} {wk : Wk} (h : CutInv p S k par wk) {x : IdB} (hc : onC p x) (hx : wk x = none) : onC par x := by
  obtain ⟨u, hu, hr⟩ := onC_iff.1 hc
  exact onC_iff.2 ⟨u, by rw [h.new hx]; exact hu, reach_par h (hc.of_reach (Reach.step hu)) (h.fresh hc hx (Reach.step hu)) hr⟩
/-- A walk that finds no cycle. -/
theorem CutInv.none_ {p par : Par} {S : List Tw} {k : Nat} {wk : Wk} (h : CutInv p S k par wk) {start : IdB} {r : Wk × Option IdB} (hw : WalkRes par k wk start r) (hr : r.2 = none) (hs : ∀ hk : k < S.length, S[k].id = start) : CutInv p S (k + 1) par r.1 := by
  have hold : ∀ x, wk x ≠ none → r.1 x ≠ none := fun x hx => by
    cases hv : wk x with
    | none => exact absurd hv hx
    | some v => rw [hw.old x v hv]; exact fun e => by cases e
  refine ⟨fun x v hv => ?_, fun x hx y hy => ?_, fun x => ⟨fun hx => ?_, fun hx => ?_⟩, fun j hj hjk => ?_⟩
  · cases hwx : wk x with
    | some u =>
      rw [hw.old x u hwx] at hv
      have := h.lt x u hwx
      have : u = v := Option.some.inj hv
      omega
    | none =>
      rcases hw.new x hwx with e | e
      · rw [e] at hv; cases hv
      · rw [e] at hv
        have : k = v := Option.some.inj hv
        omega
  · cases hwx : wk x with
    | some u => exact hold y (h.closed x (by rw [hwx]; exact fun e => by cases e) y hy)
    | none => exact hw.closed x hwx hx y (by rw [h.new hwx]; exact hy)
  · cases hwx : wk x with
    | some u => exact (h.cut x).1 ⟨(by rw [hwx]; exact (fun e => by cases e)), hx.2⟩
    | none =>
      obtain ⟨c, hc, _⟩ := hw.cyc x hwx hx.1 (onC_par h hx.2.1 hwx)
      rw [hr] at hc
      cases hc
  · exact (h.cut x).2 (fun e => hx ⟨hold x e.1, e.2⟩)
  · by_cases hjk2 : j < k
    · exact hold _ (h.met j hj hjk2)
    · obtain rfl : j = k := by omega
      rw [hs hj]
      exact hw.start
/-- A walk that finds a cycle, whose first article is b. -/
theorem CutInv.some_ {p par : Par} {S : List Tw} {k : Nat} {wk : Wk} (h : CutInv p S k par wk) {start : IdB} {r : Wk × Option IdB} (hw : WalkRes par k wk start r) {c b : IdB} (hr : r.2 = some c) (hb : Lst par S b) (hcb : Reach par c b) (hs : ∀ hk : k < S.length, S[k].id = start) : CutInv p S (k + 1) (upd par b none) r.1 := by
  have hold : ∀ x, wk x ≠ none → r.1 x ≠ none := fun x hx => by
    cases hv : wk x with
    | none => exact absurd hv hx
    | some v => rw [hw.old x v hv]; exact fun e => by cases e
  obtain ⟨hcc, hwc, hrc⟩ := hw.found c hr
  have hpc : onC p c := hcc.mono (fun _ _ e => h.le e)
  have hpb : Reach p c b := hcb.mono (fun _ _ e => h.le e)
  have hwb : wk b = none := h.fresh hpc hwc hpb
  have hlb : Lst p S b := by
    obtain ⟨_, j, hj, hl⟩ := hb
    exact ⟨hpc.of_reach hpb, j, hj, fun y i hy hi => hl y i (reach_par h (hpc.of_reach hpb) hwb hy) hi⟩
  have hrb : r.1 b ≠ none := by
    have hcl : ∀ x y, (wk x = none ∧ r.1 x ≠ none) ∧ onC par x → par x = some y → (wk y = none ∧ r.1 y ≠ none) ∧ onC par y := fun x y hx hy => by
      have hcy := hx.2.of_reach (Reach.step hy)
      have hwy : wk y = none := h.fresh (hx.2.mono (fun _ _ e => h.le e)) hx.1.1 (Reach.step (h.le hy))
      exact ⟨⟨hwy, hw.closed x hx.1.1 hx.1.2 y hy⟩, hcy⟩
    exact (Reach.keep hcl hcb ⟨⟨hwc, hrc⟩, hcc⟩).1.2
  refine ⟨fun x v hv => ?_, fun x hx y hy => ?_, fun x => ⟨fun hx => ?_, fun hx => ?_⟩, fun j hj hjk => ?_⟩
  · cases hwx : wk x with
    | some u =>
      rw [hw.old x u hwx] at hv
      have := h.lt x u hwx
      have : u = v := Option.some.inj hv
      omega
    | none =>
      rcases hw.new x hwx with e | e
      · rw [e] at hv; cases hv
      · rw [e] at hv
        have : k = v := Option.some.inj hv
        omega
  · cases hwx : wk x with
    | some u => exact hold y (h.closed x (by rw [hwx]; exact fun e => by cases e) y hy)
    | none => exact hw.closed x hwx hx y (by rw [h.new hwx]; exact hy)
  · by_cases e : x = b
    · rw [e, upd_same]
    · rw [upd_other _ e]
      cases hwx : wk x with
      | some u => exact (h.cut x).1 ⟨(by rw [hwx]; exact (fun e => by cases e)), hx.2⟩
      | none =>
        exfalso
        obtain ⟨c', hc', hrx⟩ := hw.cyc x hwx hx.1 (onC_par h hx.2.1 hwx)
        rw [hr] at hc'
        obtain rfl := Option.some.inj hc'
        have h1 : Reach p x b := (hpc.back (hrx.mono (fun _ _ e => h.le e))).trans hpb
        exact e (hx.2.eq hlb h1)
  · by_cases e : x = b
    · exact absurd ⟨by rw [e]; exact hrb, by rw [e]; exact hlb⟩ hx
    · rw [upd_other _ e]
      exact (h.cut x).2 (fun e2 => hx ⟨hold x e2.1, e2.2⟩)
  · by_cases hjk2 : j < k
    · exact hold _ (h.met j hj hjk2)
    · obtain rfl : j = k := by omega
      rw [hs hj]
      exact hw.start
/-- All articles were met: the cycles are cut. -/
theorem CutInv.done {S : List Tw} {par : Par} {wk : Wk} (hn : (S.map (·.id)).Nodup) (h : CutInv (pM (isArt S) S) S S.length par wk) : IsCut (pM (isArt S) S) S par := by
  have hmet : ∀ x, isArt S x = true → wk x ≠ none := fun x hx => by
    obtain ⟨r, hr, rfl⟩ := isArt_iff.1 hx
    obtain ⟨j, hj, rfl⟩ := List.mem_iff_getElem.1 hr
    exact h.met j hj hj
  intro x
  have hx : pM (isArt S) S x ≠ none → wk x ≠ none := fun hp => by
    cases hA : isArt S x with
    | true => exact hmet x hA
    | false =>
      obtain ⟨y, hy⟩ := Option.ne_none_iff_exists'.1 hp
      obtain ⟨_, r, hr, hl, _⟩ := pM_mis hA hy
      have hra : isArt S r.id = true := isArt_iff.2 ⟨r, hr, rfl⟩
      exact h.closed r.id (hmet _ hra) x (by rw [pM_art hn hr hra]; exact hl)
  refine ⟨fun hl => ?_, fun hl => (h.cut x).2 (fun e => hl e.2)⟩
  refine (h.cut x).1 ⟨hx ?_, hl⟩
  obtain ⟨y, hy⟩ := hl.1.has
  rw [hy]
  exact fun e => by cases e
end Go.Proofs.Ytjjanjhoaiannaa

namespace Go.Proofs.Ytjjanjhoaiannaa
open Go.Shelf Go.RowKit Go.Lib Go.Sort
set_option linter.unusedVariables false
set_option linter.unusedSimpArgs false

/-- The least place so far. -/
def bst (S : List Tw) (b : Option Nat) (x : IdB) : Option Nat :=
  match rk S x with
  | none => b
  | some k => match b with
    | none => some k
    | some j => if k < j then some k else some j
/-- The least place among the first n nodes from x on. -/
def bestTo (p : Par) (S : List Tw) (x : IdB) : Nat → Option Nat
  | 0 => none
  | n + 1 => bst S (bestTo p S x n) ((it p n x).getD x)
theorem bst_le {S : List Tw} {b : Option Nat} {x : IdB} : (∀ j, b = some j → ∃ i, bst S b x = some i ∧ i ≤ j) ∧ (∀ k, rk S x = some k → ∃ i, bst S b x = some i ∧ i ≤ k) ∧ ∀ i, bst S b x = some i → b = some i ∨ rk S x = some i := by
  unfold bst
  cases hr : rk S x with
  | none => exact ⟨fun j hj => ⟨j, hj, Nat.le_refl j⟩, (fun k hk => by cases hk), fun i hi => .inl hi⟩
  | some k =>
    cases b with
    | none => exact ⟨(fun j hj => by cases hj), (fun k' hk => ⟨k, rfl, by cases hk; exact Nat.le_refl k⟩), fun i hi => .inr hi⟩
    | some j =>
      dsimp only
      by_cases h : k < j
      · rw [if_pos h]
        exact ⟨fun j' hj => ⟨k, rfl, by cases hj; omega⟩, fun k' hk => ⟨k, rfl, by cases hk; exact Nat.le_refl k⟩, fun i hi => .inr hi⟩
      · rw [if_neg h]
        exact ⟨fun j' hj => ⟨j, rfl, by cases hj; exact Nat.le_refl j⟩, fun k' hk => ⟨j, rfl, by cases hk; omega⟩, fun i hi => .inl hi⟩
theorem bestTo_le {p : Par} {S : List Tw} {x : IdB} : ∀ (n m : Nat) (y : IdB) (k : Nat), m < n → it p m x = some y → rk S y = some k → ∃ i, bestTo p S x n = some i ∧ i ≤ k
  | 0, m, _, _, h, _, _ => absurd h (Nat.not_lt_zero m)
  | n + 1, m, y, k, h, hy, hk => by
    by_cases hm : m < n
    · obtain ⟨i, hi, hik⟩ := bestTo_le n m y k hm hy hk
      obtain ⟨i', h1, h2⟩ := (bst_le (S := S) (b := bestTo p S x n) (x := (it p n x).getD x)).1 i hi
      exact ⟨i', h1, by omega⟩
    · obtain rfl : m = n := by omega
      refine (bst_le (S := S) (b := bestTo p S x m) (x := (it p m x).getD x)).2.1 k ?_
      rw [hy]
      exact hk
theorem bestTo_at {p : Par} {S : List Tw} {x : IdB} : ∀ (n : Nat), (∀ m, m < n → ∃ y, it p m x = some y) → ∀ i, bestTo p S x n = some i → ∃ y, Reach p x y ∧ rk S y = some i
  | 0, _, _, h => by cases h
  | n + 1, hall, i, h => by
    rcases (bst_le (S := S) (b := bestTo p S x n) (x := (it p n x).getD x)).2.2 i h with h1 | h1
    · exact bestTo_at n (fun m hm => hall m (by omega)) i h1
    · obtain ⟨y, hy⟩ := hall n (by omega)
      rw [hy] at h1
      exact ⟨y, ⟨n, hy⟩, h1⟩
/-- How far it is once round the cycle. -/
theorem period {p : Par} {x : IdB} (hx : onC p x) : ∃ n, it p (n + 1) x = some x ∧ ∀ m, m < n → it p (m + 1) x ≠ some x := by
  obtain ⟨n, hn, hl⟩ := exists_least hx
  exact ⟨n, hn, fun m hm e => by have := hl m e; omega⟩
theorem period_some {p : Par} {x : IdB} {n : Nat} (h : it p (n + 1) x = some x) : ∀ m, m ≤ n + 1 → ∃ y, it p m x = some y := by
  intro m hm
  cases hy : it p m x with
  | some y => exact ⟨y, rfl⟩
  | none =>
    have h1 := it_add p m (n + 1 - m) x
    rw [show m + (n + 1 - m) = n + 1 by omega, h, hy] at h1
    cases h1
theorem period_reach {p : Par} {x : IdB} {n : Nat} (h : it p (n + 1) x = some x) {y : IdB} (hr : Reach p x y) : ∃ m, m ≤ n ∧ it p m x = some y := by
  obtain ⟨k, hk⟩ := hr
  induction k using Nat.strongRecOn with
  | _ k ih =>
    by_cases hkn : k ≤ n
    · exact ⟨k, hkn, hk⟩
    · refine ih (k - (n + 1)) (by omega) ?_
      have h1 := it_add p (n + 1) (k - (n + 1)) x
      rw [show n + 1 + (k - (n + 1)) = k by omega, h, hk] at h1
      exact h1.symm
/-- Once round, the least place is that of the cycle's first article. -/
theorem best_lst {p : Par} {S : List Tw} (hn : (S.map (·.id)).Nodup) {x : IdB} {n : Nat} (h : it p (n + 1) x = some x) {k : Nat} (hb : bestTo p S x (n + 1) = some k) : ∃ hk : k < S.length, Lst p S S[k].id ∧ Reach p x S[k].id := by
  have hc : onC p x := ⟨n, h⟩
  obtain ⟨y, hy, hk⟩ := bestTo_at (n + 1) (fun m hm => period_some h m (by omega)) k hb
  obtain ⟨hkl, e⟩ := rk_some hk
  refine ⟨hkl, ⟨by rw [e]; exact hc.of_reach hy, k, rk_at hn hkl, fun z j hz hj => ?_⟩, by rw [e]; exact hy⟩
  rw [e] at hz
  obtain ⟨m, hm, hmz⟩ := period_reach h (hy.trans hz)
  obtain ⟨i, hi, hij⟩ := bestTo_le (n + 1) m z j (by omega) hmz hj
  rw [hb] at hi
  cases hi
  exact hij
theorem best_some {p : Par} {S : List Tw} (ha : Alt p S) {x : IdB} {n : Nat} (h : it p (n + 1) x = some x) : ∃ k, bestTo p S x (n + 1) = some k := by
  obtain ⟨y, hy, _, k, hk, _⟩ := cycle_least ha ⟨n, h⟩
  obtain ⟨m, hm, hmy⟩ := period_reach h hy
  obtain ⟨i, hi, _⟩ := bestTo_le (S := S) (n + 1) m y k (by omega) hmy hk
  exact ⟨i, hi⟩
/-! ### the forest -/
/-- Articles in order, each missing parent ahead of its first child. -/
structure PS where
  pl : List IdB
  done : IdB → Bool
def plStep (A : IdB → Bool) (c : Par) (st : PS) (r : Tw) : PS :=
  match c r.id with
  | some p => if A p || st.done p then ⟨st.pl ++ [r.id], st.done⟩ else ⟨st.pl ++ [p] ++ [r.id], upd st.done p true⟩
  | none => ⟨st.pl ++ [r.id], st.done⟩
def place (A : IdB → Bool) (c : Par) (S : List Tw) : PS := S.foldl (plStep A c) ⟨[], fun _ => false⟩
structure PlInv (A : IdB → Bool) (c : Par) (T : List Tw) (st : PS) : Prop where
  mem : ∀ x, x ∈ st.pl ↔ (∃ r ∈ T, r.id = x) ∨ (A x = false ∧ ∃ r ∈ T, c r.id = some x)
  done : ∀ x, st.done x = true ↔ A x = false ∧ ∃ r ∈ T, c r.id = some x
  nodup : st.pl.Nodup
theorem plInv_step {A : IdB → Bool} {c : Par} {T : List Tw} {st : PS} (h : PlInv A c T st) {r : Tw} (hr : A r.id = true) (hn : ∀ a ∈ T, a.id ≠ r.id) (hTA : ∀ a ∈ T, A a.id = true) : PlInv A c (T ++ [r]) (plStep A c st r) := by
  have hrn : r.id ∉ st.pl := fun hm => by
    rcases (h.mem _).1 hm with ⟨a, ha, e⟩ | ⟨e, _⟩
    · exact hn a ha e
    · rw [hr] at e; cases e
  have hT : ∀ (P : Tw → Prop), (∃ a ∈ T ++ [r], P a) ↔ (∃ a ∈ T, P a) ∨ P r := fun P => by
    constructor
    · rintro ⟨a, ha, hp⟩
      rcases List.mem_append.1 ha with ha | ha
      · exact .inl ⟨a, ha, hp⟩
      · obtain rfl := List.mem_singleton.1 ha; exact .inr hp
    · rintro (⟨a, ha, hp⟩ | hp)
      · exact ⟨a, List.mem_append_left _ ha, hp⟩
      · exact ⟨r, List.mem_append_right _ (List.mem_singleton.2 rfl), hp⟩
  unfold plStep
  cases hc : c r.id with
  | none =>
    dsimp only
    refine ⟨fun x => ?_, fun x => ?_, ?_⟩
    · rw [List.mem_append, List.mem_singleton, h.mem, hT, hT, hc]
      simp only [reduceCtorEq, or_false]
      constructor
      · rintro ((h1 | h1) | h1)
        · exact .inl (.inl h1)
        · exact .inr h1
        · exact .inl (.inr h1.symm)
      · rintro ((h1 | h1) | h1)
        · exact .inl (.inl h1)
        · exact .inr h1.symm
        · exact .inl (.inr h1)
    · rw [h.done, hT, hc]
      simp only [reduceCtorEq, or_false]
    · rw [List.nodup_append]
      exact ⟨h.nodup, by simp, fun a ha b hb e => by
        obtain rfl := List.mem_singleton.1 hb
        exact hrn (e ▸ ha)⟩
  | some p =>
    dsimp only
    by_cases hp : (A p || st.done p) = true
    · rw [if_pos hp]
      have hpd : A p = false → ∃ a ∈ T, c a.id = some p := fun e => by
        rw [e, Bool.false_or] at hp
        exact ((h.done p).1 hp).2
      refine ⟨fun x => ?_, fun x => ?_, ?_⟩
      · rw [List.mem_append, List.mem_singleton, h.mem, hT, hT, hc]
        constructor
        · rintro ((h1 | h1) | h1)
          · exact .inl (.inl h1)
          · exact .inr ⟨h1.1, .inl h1.2⟩
          · exact .inl (.inr h1.symm)
        · rintro ((h1 | h1) | ⟨h1, h2 | h2⟩)
          · exact .inl (.inl h1)
          · exact .inr h1.symm
          · exact .inl (.inr ⟨h1, h2⟩)
          · obtain rfl := Option.some.inj h2
            exact .inl (.inr ⟨h1, hpd h1⟩)
      · rw [h.done, hT, hc]
        constructor
        · exact fun h1 => ⟨h1.1, .inl h1.2⟩
        · rintro ⟨h1, h2 | h2⟩
          · exact ⟨h1, h2⟩
          · obtain rfl := Option.some.inj h2
            exact ⟨h1, hpd h1⟩
      · rw [List.nodup_append]
        exact ⟨h.nodup, by simp, fun a ha b hb e => by
          obtain rfl := List.mem_singleton.1 hb
          exact hrn (e ▸ ha)⟩
    · rw [if_neg hp]
      have hAp : A p = false := by cases e : A p with | true => rw [e] at hp; exact absurd rfl hp | false => rfl
      have hdp : st.done p = false := by cases e : st.done p with | true => rw [e, Bool.or_true] at hp; exact absurd rfl hp | false => rfl
      have hpn : ¬ ∃ a ∈ T, c a.id = some p := fun e => by
        have := (h.done p).2 ⟨hAp, e⟩
        rw [hdp] at this; cases this
      have hpm : p ∉ st.pl := fun hm => by
        rcases (h.mem p).1 hm with ⟨a, ha, e⟩ | ⟨_, e⟩
        · have := hTA a ha
          rw [e, hAp] at this; cases this
        · exact hpn e
      have hpr : p ≠ r.id := fun e => by rw [e, hr] at hAp; cases hAp
      refine ⟨fun x => ?_, fun x => ?_, ?_⟩
      · rw [List.mem_append, List.mem_append, List.mem_singleton, List.mem_singleton, h.mem, hT, hT, hc]
        constructor
        · rintro (((h1 | h1) | h1) | h1)
          · exact .inl (.inl h1)
          · exact .inr ⟨h1.1, .inl h1.2⟩
          · exact .inr ⟨h1 ▸ hAp, .inr (by rw [h1])⟩
          · exact .inl (.inr h1.symm)
        · rintro ((h1 | h1) | ⟨h1, h2 | h2⟩)
          · exact .inl (.inl (.inl h1))
          · exact .inr h1.symm
          · exact .inl (.inl (.inr ⟨h1, h2⟩))
          · exact .inl (.inr (Option.some.inj h2).symm)
      · by_cases hx : x = p
        · subst hx
          show upd st.done x true x = true ↔ _
          rw [upd_same, hT, hc]
          exact ⟨fun _ => ⟨hAp, .inr rfl⟩, fun _ => rfl⟩
        · show upd st.done p true x = true ↔ _
          rw [upd_other _ hx, h.done, hT, hc]
          constructor
          · exact fun h1 => ⟨h1.1, .inl h1.2⟩
          · rintro ⟨h1, h2 | h2⟩
            · exact ⟨h1, h2⟩
            · exact absurd (Option.some.inj h2).symm hx
      · rw [List.nodup_append, List.nodup_append]
        refine ⟨⟨h.nodup, by simp, fun a ha b hb e => ?_⟩, by simp, fun a ha b hb e => ?_⟩
        · obtain rfl := List.mem_singleton.1 hb
          exact hpm (e ▸ ha)
        · obtain rfl := List.mem_singleton.1 hb
          rcases List.mem_append.1 ha with ha | ha
          · exact hrn (e ▸ ha)
          · obtain rfl := List.mem_singleton.1 ha
            exact hpr e
theorem PlInv.zero (A : IdB → Bool) (c : Par) : PlInv A c [] ⟨[], fun _ => false⟩ :=
  ⟨fun x => by simp, fun x => by simp, List.nodup_nil⟩
theorem place_snoc (A : IdB → Bool) (c : Par) (T : List Tw) (r : Tw) : place A c (T ++ [r]) = plStep A c (place A c T) r := by
  unfold place
  rw [List.foldl_append]
  rfl
theorem place_inv {A : IdB → Bool} {c : Par} {S : List Tw} (hA : ∀ r ∈ S, A r.id = true) (hn : (S.map (·.id)).Nodup) : ∀ k, k ≤ S.length → PlInv A c (S.take k) (place A c (S.take k))
  | 0, _ => by rw [List.take_zero]; exact PlInv.zero A c
  | k + 1, hk => by
    have hk' : k < S.length := by omega
    rw [List.take_succ_eq_append_getElem hk', place_snoc]
    refine plInv_step (place_inv hA hn k (by omega)) (hA _ (List.getElem_mem hk')) (fun a ha e => ?_) (fun a ha => hA a (List.mem_of_mem_take ha))
    obtain ⟨j, hj, hja⟩ := List.mem_iff_getElem.1 ha
    rw [List.length_take] at hj
    rw [List.getElem_take] at hja
    rw [List.nodup_iff_pairwise_ne, List.pairwise_map, List.pairwise_iff_getElem] at hn
    exact hn j k (by omega) hk' (by omega) (by rw [hja]; exact e)
end Go.Proofs.Ytjjanjhoaiannaa

namespace Go.Proofs.Ytjjanjhoaiannaa
open Go.Shelf Go.RowKit Go.Lib Go.Sort
set_option linter.unusedVariables false
set_option linter.unusedSimpArgs false

def univ (S : List Tw) : List IdB := S.map (·.id) ++ S.flatMap (·.refs)
theorem univ_id {S : List Tw} {k : Nat} (h : k < S.length) : S[k].id ∈ univ S := List.mem_append_left _ (List.mem_map_of_mem (List.getElem_mem h))
theorem pM_univ {A : IdB → Bool} {S : List Tw} {x y : IdB} (h : pM A S x = some y) : y ∈ univ S := by
  unfold pM at h
  split at h
  · cases hf : S.find? (fun r => decide (r.id = x)) with
    | none => rw [hf] at h; cases h
    | some r =>
      rw [hf] at h
      have h2 : r.refs.getLast? = some y := h
      exact List.mem_append_right _ (List.mem_flatMap.2 ⟨r, List.mem_of_find?_eq_some hf, List.mem_of_getLast? h2⟩)
  · cases hf : S.find? (fun r => decide (r.refs.getLast? = some x)) with
    | none => rw [hf] at h; cases h
    | some r =>
      rw [hf] at h
      have h2 : r.refs.dropLast.reverse.find? A = some y := h
      have h3 := List.mem_of_find?_eq_some h2
      exact List.mem_append_right _ (List.mem_flatMap.2 ⟨r, List.mem_of_find?_eq_some hf, List.dropLast_subset _ (List.mem_reverse.1 h3)⟩)
/-- The walk from the k-th article. -/
theorem walk_cut {S : List Tw} {par : Par} {wk : Wk} {k : Nat} (h : CutInv (pM (isArt S) S) S k par wk) (hk : k < S.length) {n : Nat} (hn : (univ S).length < n) : WalkRes par k wk S[k].id (walkGo par k n wk S[k].id) :=
  walk_any h.lt h.pre (U := univ S) (fun x y e => pM_univ (h.le e)) (univ_id hk) hn
theorem wk_int_inj {a b : Nat} (h : (a : Int) = (b : Int)) : a = b := by omega
end Go.Proofs.Ytjjanjhoaiannaa
