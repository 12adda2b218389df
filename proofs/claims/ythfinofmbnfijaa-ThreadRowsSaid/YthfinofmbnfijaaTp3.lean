/- Threads, plainly: the cycles are cut. -/
import Derived.Test.YthfinofmbnfijaaTp2
namespace Go.Proofs.Ythfinofmbnfijaa
open Go.Shelf Go.RowKit Go.Lib Go.Sort
set_option linter.unusedVariables false
set_option linter.unusedSimpArgs false

/-- The place of an article in the order. -/
def rk (S : List Tw) (x : IdB) : Option Nat := S.findIdx? fun r => decide (r.id = x)
theorem rk_some {S : List Tw} {x : IdB} {k : Nat} (h : rk S x = some k) : ∃ hk : k < S.length, S[k].id = x := by
  unfold rk at h
  rw [List.findIdx?_eq_some_iff_getElem] at h
  obtain ⟨hk, h1, _⟩ := h
  exact ⟨hk, of_decide_eq_true h1⟩
theorem rk_none {S : List Tw} {x : IdB} : rk S x = none ↔ isArt S x = false := by
  unfold rk isArt
  rw [List.findIdx?_eq_none_iff, List.any_eq_false]
  simp
theorem rk_at {S : List Tw} (hn : (S.map (·.id)).Nodup) {k : Nat} (hk : k < S.length) : rk S S[k].id = some k := by
  unfold rk
  rw [List.findIdx?_eq_some_iff_getElem]
  refine ⟨hk, decide_eq_true rfl, fun j hj => ?_⟩
  rw [decide_eq_true_eq]
  intro e
  have h1 := (List.nodup_iff_pairwise_ne.1 hn)
  rw [List.pairwise_map, List.pairwise_iff_getElem] at h1
  exact h1 j k (by omega) hk hj e
/-- x is the first article of a cycle. -/
def Lst (p : Par) (S : List Tw) (x : IdB) : Prop := onC p x ∧ ∃ k, rk S x = some k ∧ ∀ y j, Reach p x y → rk S y = some j → k ≤ j
/-- c is p, but that the first article of each cycle has no parent. -/
def IsCut (p : Par) (S : List Tw) (c : Par) : Prop := ∀ x, (Lst p S x → c x = none) ∧ (¬ Lst p S x → c x = p x)
theorem IsCut.uniq {p c d : Par} {S : List Tw} (h : IsCut p S c) (k : IsCut p S d) : c = d := by
  funext x
  by_cases hl : Lst p S x
  · rw [(h x).1 hl, (k x).1 hl]
  · rw [(h x).2 hl, (k x).2 hl]
theorem IsCut.le {p c : Par} {S : List Tw} (h : IsCut p S c) {x y : IdB} (hc : c x = some y) : p x = some y := by
  by_cases hl : Lst p S x
  · rw [(h x).1 hl] at hc; cases hc
  · rw [← (h x).2 hl]; exact hc
/-- Two first articles of one cycle are one. -/
theorem Lst.eq {p : Par} {S : List Tw} {x y : IdB} (hx : Lst p S x) (hy : Lst p S y) (h : Reach p x y) : x = y := by
  obtain ⟨hcx, k, hk, hlk⟩ := hx
  obtain ⟨hcy, j, hj, hlj⟩ := hy
  have h1 := hlk y j h hj
  have h2 := hlj x k (hcx.back h) hk
  obtain rfl : k = j := by omega
  obtain ⟨hk1, e1⟩ := rk_some hk
  obtain ⟨hk2, e2⟩ := rk_some hj
  rw [← e1, ← e2]
/-- The parents as they come of lists: a missing one's parent is an article. -/
def Alt (p : Par) (S : List Tw) : Prop := ∀ x y, p x = some y → isArt S x = true ∨ isArt S y = true
theorem alt_pM (S : List Tw) : Alt (pM (isArt S) S) S := fun x y h => by
  cases hA : isArt S x with
  | true => exact .inl rfl
  | false => exact .inr (pM_mis hA h).1
/-- Every cycle has a first article. -/
theorem exists_least {P : Nat → Prop} (h : ∃ n, P n) : ∃ n, P n ∧ ∀ m, P m → n ≤ m := by
  obtain ⟨n, hn⟩ := h
  induction n using Nat.strongRecOn with
  | _ n ih =>
    by_cases hm : ∃ m, m < n ∧ P m
    · obtain ⟨m, hmn, hpm⟩ := hm
      exact ih m hmn hpm
    · exact ⟨n, hn, fun m hpm => by
        by_cases hlt : m < n
        · exact absurd ⟨m, hlt, hpm⟩ hm
        · omega⟩
theorem cycle_least {p : Par} {S : List Tw} (ha : Alt p S) {x : IdB} (hx : onC p x) : ∃ y, Reach p x y ∧ Lst p S y := by
  have h1 : ∃ k, ∃ y, Reach p x y ∧ rk S y = some k := by
    obtain ⟨z, hz⟩ := hx.has
    rcases ha x z hz with h | h
    · cases hr : rk S x with
      | none => rw [rk_none.1 hr] at h; cases h
      | some k => exact ⟨k, x, Reach.refl p x, hr⟩
    · cases hr : rk S z with
      | none => rw [rk_none.1 hr] at h; cases h
      | some k => exact ⟨k, z, Reach.step hz, hr⟩
  obtain ⟨k, ⟨y, hxy, hk⟩, hl⟩ := exists_least h1
  exact ⟨y, hxy, hx.of_reach hxy, k, hk, fun u j hu hj => hl j ⟨u, hxy.trans hu, hj⟩⟩
/-- Cut, there is no cycle left. -/
theorem IsCut.acyclic {p c : Par} {S : List Tw} (ha : Alt p S) (h : IsCut p S c) (x : IdB) : ¬ onC c x := fun hx => by
  have hpx : onC p x := hx.mono (fun a b hab => h.le hab)
  obtain ⟨y, hxy, hy⟩ := cycle_least ha hpx
  -- along p from x one walks along c, too, as long as one does not come to y; c has no way on from y
  have hcy : Reach c x y := by
    obtain ⟨n, hn⟩ := hxy
    have key : ∀ n z, onC c z → it p n z = some y → Reach c z y := by
      intro n
      induction n with
      | zero => intro z _ hz; obtain rfl := Option.some.inj hz; exact Reach.refl c _
      | succ n ih =>
        intro z hcz hz
        obtain ⟨u, hu⟩ := hcz.has
        have hz' : (p z).bind (it p n) = some y := hz
        rw [h.le hu] at hz'
        exact (Reach.step hu).trans (ih u (hcz.of_reach (Reach.step hu)) hz')
    exact key n x hx hn
  obtain ⟨z, hz⟩ := (hx.of_reach hcy).has
  rw [(h y).1 hy] at hz
  cases hz
/-- Between two walks: par is p cut in what was met. -/
structure CutInv (p : Par) (S : List Tw) (k : Nat) (par : Par) (wk : Wk) : Prop where
  lt : ∀ x v, wk x = some v → v < k
  closed : ∀ x, wk x ≠ none → ∀ y, p x = some y → wk y ≠ none
  cut : ∀ x, (wk x ≠ none ∧ Lst p S x → par x = none) ∧ (¬ (wk x ≠ none ∧ Lst p S x) → par x = p x)
  met : ∀ j (h : j < S.length), j < k → wk S[j].id ≠ none
theorem CutInv.zero (p : Par) (S : List Tw) : CutInv p S 0 p (fun _ => none) :=
  ⟨(fun x v h => by cases h), fun x h => absurd rfl h, fun x => ⟨fun h => absurd rfl h.1, fun _ => rfl⟩, fun j _ h => absurd h (Nat.not_lt_zero j)⟩
theorem CutInv.le {p par : Par} {S : List Tw} {k : Nat} {wk : Wk} (h : CutInv p S k par wk) {x y : IdB} (hx : par x = some y) : p x = some y := by
  by_cases hl : wk x ≠ none ∧ Lst p S x
  · rw [(h.cut x).1 hl] at hx; cases hx
  · rw [← (h.cut x).2 hl]; exact hx
theorem CutInv.new {p par : Par} {S : List Tw} {k : Nat} {wk : Wk} (h : CutInv p S k par wk) {x : IdB} (hx : wk x = none) : par x = p x := (h.cut x).2 (fun e => e.1 hx)
theorem CutInv.pre {p par : Par} {S : List Tw} {k : Nat} {wk : Wk} (h : CutInv p S k par wk) : ∀ x, wk x ≠ none → ∀ y, par x = some y → wk y ≠ none := fun x hx y hy => h.closed x hx y (h.le hy)
/-- One comes to nothing met from what lies on a cycle that was not met. -/
theorem CutInv.fresh {p par : Par} {S : List Tw} {k : Nat} {wk : Wk} (h : CutInv p S k par wk) {x y : IdB} (hc : onC p x) (hx : wk x = none) (hr : Reach p x y) : wk y = none := by
  cases hy : wk y with
  | none => rfl
  | some v =>
    exfalso
    exact Reach.keep (V := fun a => wk a ≠ none) (fun a b ha hab => h.closed a ha b hab) (hc.back hr) (by rw [hy]; exact fun e => by cases e) hx
theorem reach_par {p par : Par} {S : List Tw} {k : Nat} {wk : Wk} (h : CutInv p S k par wk) {x y : IdB} (hc : onC p x) (hx : wk x = none) (hr : Reach p x y) : Reach par x y := by
  obtain ⟨n, hn⟩ := hr
  induction n generalizing x with
  | zero => obtain rfl := Option.some.inj hn; exact Reach.refl par _
  | succ n ih =>
    obtain ⟨u, hu⟩ := hc.has
    have hn' : (p x).bind (it p n) = some y := hn
    rw [hu] at hn'
    exact (Reach.step (by rw [h.new hx]; exact hu)).trans (ih (hc.of_reach (Reach.step hu)) (h.fresh hc hx (Reach.step hu)) hn')
theorem onC_par {p par : Par} {S : List Tw} {k : Nat} {wk : Wk} (h : CutInv p S k par wk) {x : IdB} (hc : onC p x) (hx : wk x = none) : onC par x := by
  obtain ⟨u, hu, hr⟩ := onC_iff.1 hc
  exact onC_iff.2 ⟨u, by rw [h.new hx]; exact hu, reach_par h (hc.of_reach (Reach.step hu)) (h.fresh hc hx (Reach.step hu)) hr⟩
/-- A walk that finds no cycle. -/
theorem CutInv.none_ {p par : Par} {S : List Tw} {k : Nat} {wk : Wk} (h : CutInv p S k par wk) {start : IdB} {r : Wk × Option IdB} (hw : WalkRes par k wk start r) (hr : r.2 = none) (hs : ∀ hk : k < S.length, S[k].id = start) : CutInv p S (k + 1) par r.1 := by
  have hold : ∀ x, wk x ≠ none → r.1 x ≠ none := fun x hx => by
    cases hv : wk x with
    | none => exact absurd hv hx
    | some v => rw [hw.old x v hv]; exact fun e => by cases e
  refine ⟨fun x v hv => ?_, fun x hx y hy => ?_, fun x => ⟨fun hx => ?_, fun hx => ?_⟩, fun j hj hjk => ?_⟩
  · cases hwx : wk x with
    | some u =>
      rw [hw.old x u hwx] at hv
      have := h.lt x u hwx
      have : u = v := Option.some.inj hv
      omega
    | none =>
      rcases hw.new x hwx with e | e
      · rw [e] at hv; cases hv
      · rw [e] at hv
        have : k = v := Option.some.inj hv
        omega
  · cases hwx : wk x with
    | some u => exact hold y (h.closed x (by rw [hwx]; exact fun e => by cases e) y hy)
    | none => exact hw.closed x hwx hx y (by rw [h.new hwx]; exact hy)
  · cases hwx : wk x with
    | some u => exact (h.cut x).1 ⟨(by rw [hwx]; exact (fun e => by cases e)), hx.2⟩
    | none =>
      obtain ⟨c, hc, _⟩ := hw.cyc x hwx hx.1 (onC_par h hx.2.1 hwx)
      rw [hr] at hc
      cases hc
  · exact (h.cut x).2 (fun e => hx ⟨hold x e.1, e.2⟩)
  · by_cases hjk2 : j < k
    · exact hold _ (h.met j hj hjk2)
    · obtain rfl : j = k := by omega
      rw [hs hj]
      exact hw.start
/-- A walk that finds a cycle, whose first article is b. -/
theorem CutInv.some_ {p par : Par} {S : List Tw} {k : Nat} {wk : Wk} (h : CutInv p S k par wk) {start : IdB} {r : Wk × Option IdB} (hw : WalkRes par k wk start r) {c b : IdB} (hr : r.2 = some c) (hb : Lst par S b) (hcb : Reach par c b) (hs : ∀ hk : k < S.length, S[k].id = start) : CutInv p S (k + 1) (upd par b none) r.1 := by
  have hold : ∀ x, wk x ≠ none → r.1 x ≠ none := fun x hx => by
    cases hv : wk x with
    | none => exact absurd hv hx
    | some v => rw [hw.old x v hv]; exact fun e => by cases e
  obtain ⟨hcc, hwc, hrc⟩ := hw.found c hr
  have hpc : onC p c := hcc.mono (fun _ _ e => h.le e)
  have hpb : Reach p c b := hcb.mono (fun _ _ e => h.le e)
  have hwb : wk b = none := h.fresh hpc hwc hpb
  have hlb : Lst p S b := by
    obtain ⟨_, j, hj, hl⟩ := hb
    exact ⟨hpc.of_reach hpb, j, hj, fun y i hy hi => hl y i (reach_par h (hpc.of_reach hpb) hwb hy) hi⟩
  have hrb : r.1 b ≠ none := by
    have hcl : ∀ x y, (wk x = none ∧ r.1 x ≠ none) ∧ onC par x → par x = some y → (wk y = none ∧ r.1 y ≠ none) ∧ onC par y := fun x y hx hy => by
      have hcy := hx.2.of_reach (Reach.step hy)
      have hwy : wk y = none := h.fresh (hx.2.mono (fun _ _ e => h.le e)) hx.1.1 (Reach.step (h.le hy))
      exact ⟨⟨hwy, hw.closed x hx.1.1 hx.1.2 y hy⟩, hcy⟩
    exact (Reach.keep hcl hcb ⟨⟨hwc, hrc⟩, hcc⟩).1.2
  refine ⟨fun x v hv => ?_, fun x hx y hy => ?_, fun x => ⟨fun hx => ?_, fun hx => ?_⟩, fun j hj hjk => ?_⟩
  · cases hwx : wk x with
    | some u =>
      rw [hw.old x u hwx] at hv
      have := h.lt x u hwx
      have : u = v := Option.some.inj hv
      omega
    | none =>
      rcases hw.new x hwx with e | e
      · rw [e] at hv; cases hv
      · rw [e] at hv
        have : k = v := Option.some.inj hv
        omega
  · cases hwx : wk x with
    | some u => exact hold y (h.closed x (by rw [hwx]; exact fun e => by cases e) y hy)
    | none => exact hw.closed x hwx hx y (by rw [h.new hwx]; exact hy)
  · by_cases e : x = b
    · rw [e, upd_same]
    · rw [upd_other _ e]
      cases hwx : wk x with
      | some u => exact (h.cut x).1 ⟨(by rw [hwx]; exact (fun e => by cases e)), hx.2⟩
      | none =>
        exfalso
        obtain ⟨c', hc', hrx⟩ := hw.cyc x hwx hx.1 (onC_par h hx.2.1 hwx)
        rw [hr] at hc'
        obtain rfl := Option.some.inj hc'
        have h1 : Reach p x b := (hpc.back (hrx.mono (fun _ _ e => h.le e))).trans hpb
        exact e (hx.2.eq hlb h1)
  · by_cases e : x = b
    · exact absurd ⟨by rw [e]; exact hrb, by rw [e]; exact hlb⟩ hx
    · rw [upd_other _ e]
      exact (h.cut x).2 (fun e2 => hx ⟨hold x e2.1, e2.2⟩)
  · by_cases hjk2 : j < k
    · exact hold _ (h.met j hj hjk2)
    · obtain rfl : j = k := by omega
      rw [hs hj]
      exact hw.start
/-- All articles were met: the cycles are cut. -/
theorem CutInv.done {S : List Tw} {par : Par} {wk : Wk} (hn : (S.map (·.id)).Nodup) (h : CutInv (pM (isArt S) S) S S.length par wk) : IsCut (pM (isArt S) S) S par := by
  have hmet : ∀ x, isArt S x = true → wk x ≠ none := fun x hx => by
    obtain ⟨r, hr, rfl⟩ := isArt_iff.1 hx
    obtain ⟨j, hj, rfl⟩ := List.mem_iff_getElem.1 hr
    exact h.met j hj hj
  intro x
  have hx : pM (isArt S) S x ≠ none → wk x ≠ none := fun hp => by
    cases hA : isArt S x with
    | true => exact hmet x hA
    | false =>
      obtain ⟨y, hy⟩ := Option.ne_none_iff_exists'.1 hp
      obtain ⟨_, r, hr, hl, _⟩ := pM_mis hA hy
      have hra : isArt S r.id = true := isArt_iff.2 ⟨r, hr, rfl⟩
      exact h.closed r.id (hmet _ hra) x (by rw [pM_art hn hr hra]; exact hl)
  refine ⟨fun hl => ?_, fun hl => (h.cut x).2 (fun e => hl e.2)⟩
  refine (h.cut x).1 ⟨hx ?_, hl⟩
  obtain ⟨y, hy⟩ := hl.1.has
  rw [hy]
  exact fun e => by cases e
end Go.Proofs.Ythfinofmbnfijaa
