/- Threads, plainly: parents, cycles cut. No program in sight. -/
import Derived.Test.YthfinofmbnfijaaTp0
namespace Go.Proofs.Ythfinofmbnfijaa
open Go.RowKit
set_option linter.unusedVariables false
set_option linter.unusedSimpArgs false

/-! ### iterating a partial function -/
abbrev Par := IdB → Option IdB
def it (p : Par) : Nat → IdB → Option IdB
  | 0, x => some x
  | n + 1, x => (p x).bind (it p n)
theorem it_add (p : Par) : ∀ (n m : Nat) (x : IdB), it p (n + m) x = (it p n x).bind (it p m)
  | 0, m, x => by rw [Nat.zero_add]; rfl
  | n + 1, m, x => by
    rw [show n + 1 + m = (n + m) + 1 by omega]
    show (p x).bind (it p (n + m)) = ((p x).bind (it p n)).bind (it p m)
    cases p x with
    | none => rfl
    | some y => exact it_add p n m y
theorem it_one (p : Par) (x : IdB) : it p 1 x = p x := by
  show (p x).bind (it p 0) = p x
  cases p x <;> rfl
theorem it_succ (p : Par) (n : Nat) (x : IdB) : it p (n + 1) x = (it p n x).bind p := by
  rw [it_add p n 1 x]
  cases it p n x with
  | none => rfl
  | some y => exact it_one p y
def Reach (p : Par) (x y : IdB) : Prop := ∃ n, it p n x = some y
def onC (p : Par) (x : IdB) : Prop := ∃ n, it p (n + 1) x = some x
theorem Reach.refl (p : Par) (x : IdB) : Reach p x x := ⟨0, rfl⟩
theorem Reach.trans {p : Par} {x y z : IdB} (h : Reach p x y) (k : Reach p y z) : Reach p x z := by
  obtain ⟨n, hn⟩ := h
  obtain ⟨m, hm⟩ := k
  exact ⟨n + m, by rw [it_add, hn]; exact hm⟩
theorem Reach.step {p : Par} {x y : IdB} (h : p x = some y) : Reach p x y := ⟨1, by rw [it_one, h]⟩
theorem Reach.head {p : Par} {x y : IdB} (h : Reach p x y) : x = y ∨ ∃ z, p x = some z ∧ Reach p z y := by
  obtain ⟨n, hn⟩ := h
  cases n with
  | zero => exact .inl (Option.some.inj hn)
  | succ n =>
    right
    have hn' : (p x).bind (it p n) = some y := hn
    cases hp : p x with
    | none => rw [hp] at hn'; cases hn'
    | some z => rw [hp] at hn'; exact ⟨z, rfl, n, hn'⟩
/-- What holds of x and is handed on holds of all that is reached. -/
theorem Reach.keep {p : Par} {V : IdB → Prop} (hV : ∀ x y, V x → p x = some y → V y) {x y : IdB} (h : Reach p x y) (hx : V x) : V y := by
  obtain ⟨n, hn⟩ := h
  induction n generalizing x with
  | zero => exact Option.some.inj hn ▸ hx
  | succ n ih =>
    have hn' : (p x).bind (it p n) = some y := hn
    cases hp : p x with
    | none => rw [hp] at hn'; cases hn'
    | some z => rw [hp] at hn'; exact ih (hV x z hx hp) hn'
theorem onC_iff {p : Par} {x : IdB} : onC p x ↔ ∃ y, p x = some y ∧ Reach p y x := by
  constructor
  · rintro ⟨n, hn⟩
    have hn' : (p x).bind (it p n) = some x := hn
    cases hp : p x with
    | none => rw [hp] at hn'; cases hn'
    | some z => rw [hp] at hn'; exact ⟨z, rfl, n, hn'⟩
  · rintro ⟨y, hy, n, hn⟩
    exact ⟨n, by show (p x).bind (it p n) = some x; rw [hy]; exact hn⟩
/-- On a cycle one comes back from wherever one comes to. -/
theorem onC.back {p : Par} {x y : IdB} (hx : onC p x) (h : Reach p x y) : Reach p y x := by
  obtain ⟨n, hn⟩ := h
  induction n generalizing x y with
  | zero => obtain rfl := Option.some.inj hn; exact Reach.refl p _
  | succ n ih =>
    obtain ⟨z, hz, hr⟩ := onC_iff.1 hx
    have hn' : (p x).bind (it p n) = some y := hn
    rw [hz] at hn'
    have hcz : onC p z := by
      rcases hr.head with rfl | ⟨u, hu, hru⟩
      · exact hx
      · exact onC_iff.2 ⟨u, hu, hru.trans (Reach.step hz)⟩
    have h1 : Reach p y z := ih hcz hn'
    exact h1.trans hr
theorem onC.of_reach {p : Par} {x y : IdB} (hx : onC p x) (h : Reach p x y) : onC p y := by
  have hb := hx.back h
  rcases hb.head with rfl | ⟨z, hz, hr⟩
  · exact hx
  · exact onC_iff.2 ⟨z, hz, hr.trans h⟩
theorem onC.has {p : Par} {x : IdB} (hx : onC p x) : ∃ y, p x = some y := by
  obtain ⟨y, hy, _⟩ := onC_iff.1 hx
  exact ⟨y, hy⟩
theorem Reach.mono {p q : Par} (h : ∀ x y, p x = some y → q x = some y) {x y : IdB} (hr : Reach p x y) : Reach q x y :=
  Reach.keep (V := fun z => Reach q x z) (fun a b ha hab => ha.trans (Reach.step (h a b hab))) hr (Reach.refl q x)
theorem onC.mono {p q : Par} (h : ∀ x y, p x = some y → q x = some y) {x : IdB} (hx : onC p x) : onC q x := by
  obtain ⟨y, hy, hr⟩ := onC_iff.1 hx
  exact onC_iff.2 ⟨y, h x y hy, hr.mono h⟩

/-! ### the walk that looks for a cycle -/
def upd {α : Type} (f : IdB → α) (x : IdB) (v : α) : IdB → α := fun y => if y = x then v else f y
theorem upd_same {α : Type} (f : IdB → α) (x : IdB) (v : α) : upd f x v x = v := if_pos rfl
theorem upd_other {α : Type} {f : IdB → α} {x y : IdB} (v : α) (h : y ≠ x) : upd f x v y = f y := if_neg h
abbrev Wk := IdB → Option Nat
def walkGo (p : Par) (k : Nat) : Nat → Wk → IdB → Wk × Option IdB
  | 0, wk, _ => (wk, none)
  | n + 1, wk, x =>
    match wk x with
    | some v => if v = k then (wk, some x) else (wk, none)
    | none =>
      match p x with
      | none => (upd wk x (some k), none)
      | some y => walkGo p k n (upd wk x (some k)) y
/-- How many of U are not met yet. -/
def unmet (U : List IdB) (wk : Wk) : Nat := (U.filter fun x => (wk x).isNone).length
theorem unmet_upd {U : List IdB} {wk : Wk} {x : IdB} (hx : x ∈ U) (h : wk x = none) (k : Nat) : unmet U (upd wk x (some k)) < unmet U wk := by
  unfold unmet
  induction U with
  | nil => cases hx
  | cons a U ih =>
    have hle : ∀ V : List IdB, (V.filter fun y => (upd wk x (some k) y).isNone).length ≤ (V.filter fun y => (wk y).isNone).length := by
      intro V
      induction V with
      | nil => exact Nat.le_refl _
      | cons b V ihV =>
        rw [List.filter_cons, List.filter_cons]
        by_cases hb : b = x
        · subst hb
          rw [upd_same, h]
          simp only [Option.isNone_some, Option.isNone_none, Bool.false_eq_true, if_false, if_true, List.length_cons]
          omega
        · rw [upd_other _ hb]
          split
          · simp only [List.length_cons]; omega
          · exact ihV
    rw [List.filter_cons, List.filter_cons]
    by_cases ha : a = x
    · subst ha
      rw [upd_same, h]
      simp only [Option.isNone_some, Option.isNone_none, Bool.false_eq_true, if_false, if_true, List.length_cons]
      have := hle U
      omega
    · rw [upd_other _ ha]
      have hxU : x ∈ U := by
        rcases List.mem_cons.1 hx with e | e
        · exact absurd e.symm ha
        · exact e
      have := ih hxU
      split
      · simp only [List.length_cons]; omega
      · exact this
/-- What a walk leaves: V what was met ahead of it. -/
structure WalkRes (p : Par) (k : Nat) (wk0 : Wk) (start : IdB) (r : Wk × Option IdB) : Prop where
  old : ∀ x v, wk0 x = some v → r.1 x = some v
  new : ∀ x, wk0 x = none → r.1 x = none ∨ r.1 x = some k
  start : r.1 start ≠ none
  closed : ∀ x, wk0 x = none → r.1 x ≠ none → ∀ y, p x = some y → r.1 y ≠ none
  cyc : ∀ x, wk0 x = none → r.1 x ≠ none → onC p x → ∃ c, r.2 = some c ∧ Reach p c x
  found : ∀ c, r.2 = some c → onC p c ∧ wk0 c = none ∧ r.1 c ≠ none
/-- On the way: what is met in this walk leads to where the walk stands. -/
structure WalkInv (p : Par) (k : Nat) (wk0 wk : Wk) (x : IdB) : Prop where
  old : ∀ y v, wk0 y = some v → wk y = some v
  new : ∀ y, wk0 y = none → wk y = none ∨ wk y = some k
  lead : ∀ y, wk0 y = none → wk y ≠ none → (∃ z, p y = some z ∧ Reach p z x) ∧ ∀ z, p y = some z → wk z ≠ none ∨ z = x
theorem walk_res {p : Par} {k : Nat} {wk0 : Wk} (hlt : ∀ x v, wk0 x = some v → v < k) (hcl : ∀ x, wk0 x ≠ none → ∀ y, p x = some y → wk0 y ≠ none) {U : List IdB} (hU : ∀ x y, p x = some y → y ∈ U) {start : IdB} :
    ∀ (n : Nat) (wk : Wk) (x : IdB), unmet U wk < n → x ∈ U → WalkInv p k wk0 wk x → (wk start ≠ none ∨ x = start) → WalkRes p k wk0 start (walkGo p k n wk x)
  | 0, wk, x, hn, _, _, _ => absurd hn (Nat.not_lt_zero _)
  | n + 1, wk, x, hn, hx, hi, hs => by
    have hcycV : ∀ y, wk0 y = none → wk0 x ≠ none → wk y ≠ none → ¬ onC p y := fun y hy hx0 hwy hc => by
      obtain ⟨⟨z, hz, hr⟩, _⟩ := hi.lead y hy hwy
      have h1 : Reach p x y := hc.back ((Reach.step hz).trans hr)
      exact Reach.keep (V := fun a => wk0 a ≠ none) (fun a b ha hab => hcl a ha b hab) h1 hx0 hy
    unfold walkGo
    cases hwx : wk x with
    | some v =>
      simp only
      by_cases hv : v = k
      · rw [if_pos hv]
        subst hv
        have hx0 : wk0 x = none := by
          cases h : wk0 x with
          | none => rfl
          | some u =>
            have h1 := hi.old x u h
            rw [hwx] at h1
            have h2 := hlt x u h
            have h3 : v = u := Option.some.inj h1
            omega
        obtain ⟨⟨z, hz, hr⟩, _⟩ := hi.lead x hx0 (by rw [hwx]; exact fun e => by cases e)
        have hcx : onC p x := onC_iff.2 ⟨z, hz, hr⟩
        refine ⟨hi.old, hi.new, ?_, fun y hy hwy u hu => ?_, fun y hy hwy hc => ⟨x, rfl, ?_⟩, fun c hc => ?_⟩
        · rcases hs with hs | rfl
          · exact hs
          · show wk x ≠ none
            rw [hwx]; exact fun e => by cases e
        · rcases (hi.lead y hy hwy).2 u hu with h | rfl
          · exact h
          · show wk u ≠ none
            rw [hwx]; exact fun e => by cases e
        · obtain ⟨⟨z', hz', hr'⟩, _⟩ := hi.lead y hy hwy
          exact hc.back ((Reach.step hz').trans hr')
        · obtain rfl : x = c := Option.some.inj hc
          exact ⟨hcx, hx0, by show wk x ≠ none; rw [hwx]; exact fun e => by cases e⟩
      · rw [if_neg hv]
        have hx0 : wk0 x ≠ none := fun e => by
          rcases hi.new x e with h | h
          · rw [hwx] at h; cases h
          · rw [hwx] at h; exact hv (Option.some.inj h)
        refine ⟨hi.old, hi.new, ?_, fun y hy hwy u hu => ?_, fun y hy hwy hc => absurd hc (hcycV y hy hx0 hwy), fun c hc => by cases hc⟩
        · rcases hs with hs | rfl
          · exact hs
          · show wk x ≠ none
            rw [hwx]; exact fun e => by cases e
        · rcases (hi.lead y hy hwy).2 u hu with h | rfl
          · exact h
          · show wk u ≠ none
            rw [hwx]; exact fun e => by cases e
    | none =>
      simp only
      have hx0 : wk0 x = none := by
        cases h : wk0 x with
        | none => rfl
        | some u => rw [hi.old x u h] at hwx; cases hwx
      have hold : ∀ y v, wk0 y = some v → upd wk x (some k) y = some v := fun y v hy => by
        by_cases e : y = x
        · subst e; rw [hx0] at hy; cases hy
        · rw [upd_other _ e]; exact hi.old y v hy
      have hnew : ∀ y, wk0 y = none → upd wk x (some k) y = none ∨ upd wk x (some k) y = some k := fun y hy => by
        by_cases e : y = x
        · subst e; rw [upd_same]; exact .inr rfl
        · rw [upd_other _ e]; exact hi.new y hy
      have hsx : upd wk x (some k) start ≠ none := by
        by_cases e : start = x
        · rw [e, upd_same]; exact fun e => by cases e
        · rw [upd_other _ e]
          rcases hs with hs | hs
          · exact hs
          · exact absurd hs.symm e
      cases hp : p x with
      | none =>
        simp only
        refine ⟨hold, hnew, hsx, fun y hy hwy u hu => ?_, fun y hy hwy hc => ?_, fun c hc => by cases hc⟩
        · have hwy' : upd wk x (some k) y ≠ none := hwy
          by_cases e : y = x
          · subst e; rw [hp] at hu; cases hu
          · rw [upd_other _ e] at hwy'
            show upd wk x (some k) u ≠ none
            rcases (hi.lead y hy hwy').2 u hu with h | rfl
            · by_cases e2 : u = x
              · rw [e2, upd_same]; exact fun e => by cases e
              · rw [upd_other _ e2]; exact h
            · rw [upd_same]; exact fun e => by cases e
        · exfalso
          have hwy' : upd wk x (some k) y ≠ none := hwy
          by_cases e : y = x
          · subst e
            obtain ⟨z, hz⟩ := hc.has
            rw [hp] at hz; cases hz
          · rw [upd_other _ e] at hwy'
            obtain ⟨⟨z, hz, hr⟩, _⟩ := hi.lead y hy hwy'
            obtain ⟨u, hu⟩ := (hc.of_reach ((Reach.step hz).trans hr)).has
            rw [hp] at hu; cases hu
      | some z =>
        simp only
        refine walk_res hlt hcl hU n (upd wk x (some k)) z (by have := unmet_upd hx hwx k; omega) (hU x z hp) ⟨hold, hnew, fun y hy hwy => ?_⟩ (.inl hsx)
        by_cases e : y = x
        · subst e
          exact ⟨⟨z, hp, Reach.refl p z⟩, fun u hu => .inr (by rw [hp] at hu; exact (Option.some.inj hu).symm)⟩
        · rw [upd_other _ e] at hwy
          obtain ⟨⟨u, hu, hr⟩, h2⟩ := hi.lead y hy hwy
          refine ⟨⟨u, hu, hr.trans (Reach.step hp)⟩, fun v hv => ?_⟩
          rcases h2 v hv with h | rfl
          · left
            by_cases e2 : v = x
            · rw [e2, upd_same]; exact fun e => by cases e
            · rw [upd_other _ e2]; exact h
          · left; rw [upd_same]; exact fun e => by cases e
theorem walk_any {p : Par} {k : Nat} {wk0 : Wk} (hlt : ∀ x v, wk0 x = some v → v < k) (hcl : ∀ x, wk0 x ≠ none → ∀ y, p x = some y → wk0 y ≠ none) {U : List IdB} (hU : ∀ x y, p x = some y → y ∈ U) {start : IdB} (hs : start ∈ U) {n : Nat} (hn : U.length < n) :
    WalkRes p k wk0 start (walkGo p k n wk0 start) :=
  walk_res hlt hcl hU n wk0 start (Nat.lt_of_le_of_lt (List.length_filter_le _ _) hn) hs ⟨fun _ _ h => h, fun y hy => .inl hy, fun y hy hwy => absurd hy hwy⟩ (.inr rfl)
end Go.Proofs.Ythfinofmbnfijaa
