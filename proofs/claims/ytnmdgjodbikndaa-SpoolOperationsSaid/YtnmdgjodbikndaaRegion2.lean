/- A region that draws its order, in which some operations (the last stores) wait for those that read: what holds of the world (S) need not hold once one of them has run. No program in sight. After the kit's 'wpAnyH'. -/
import Derived.Test.YtnmdgjodbikndaaRegion
namespace Go.Proofs.Ytnmdgjodbikndaa
open Go
set_option linter.unusedVariables false
set_option linter.unusedSimpArgs false

section
variable {P : Program} {ops : Array Oper} {Q : Exit → Act → World → Prop} {md : Region.Mode} {S : World → Prop} {fin : List Nat}

/-- None of 'fin' has run. -/
def notYet (fin : List Nat) (listed : Array Bool) : Bool := fin.all fun j => !listed.getD j true

/-- Whatever order is picked from here on; 'S' holds until one of 'fin' has run. -/
def wpAnyG (P : Program) (md : Region.Mode) (ops : Array Oper) (Q : Exit → Act → World → Prop) (S : World → Prop) (fin : List Nat) : Nat → Array Bool → Act → World → Prop
  | 0, listed, a, w => Region.ready md ops listed = [] ∧ Q .normal a w
  | fuel + 1, listed, a, w =>
    (Region.ready md ops listed = [] → Q .normal a w) ∧
    ∀ i ∈ Region.ready md ops listed, wpOp P ops Q i (fun a' w' => (notYet fin (listed.setIfInBounds i true) = true → S w') ∧ wpAnyG P md ops Q S fin fuel (listed.setIfInBounds i true) a' w') a w

theorem wpAny_of_G : ∀ (fuel : Nat) (listed : Array Bool) (a : Act) (w : World), wpAnyG P md ops Q S fin fuel listed a w → wpAny P md ops Q fuel listed a w
  | 0, _, _, _, h => h
  | fuel + 1, _, _, _, h => ⟨h.1, fun i hi => wpOp_mono (fun a' w' h' => wpAny_of_G fuel _ a' w' h'.2) (h.2 i hi)⟩

/-- Each of 'fin' waits for 'i'. -/
def lastBs (md : Region.Mode) (ops : Array Oper) (fin : List Nat) (i : Nat) : Bool :=
  fin.all fun j => match ops[j]? with | some o => o.after.any fun e => Region.binds md e && e.on == i | none => false

theorem lastBs_spec {i j : Nat} (h : lastBs md ops fin i = true) (hj : j ∈ fin) {o : Oper} (ho : ops[j]? = some o) : ∃ e ∈ o.after, Region.binds md e = true ∧ e.on = i := by
  unfold lastBs at h
  have h := List.all_eq_true.1 h j hj
  simp only [ho] at h
  obtain ⟨e, he, hb⟩ := Array.any_eq_true'.1 h
  simp only [Bool.and_eq_true, beq_iff_eq] at hb
  exact ⟨e, he, hb.1, hb.2⟩

theorem notYet_set {listed : Array Bool} {i : Nat} (hi : i ∉ fin) : notYet fin (listed.setIfInBounds i true) = notYet fin listed := by
  unfold notYet
  rw [Bool.eq_iff_iff, List.all_eq_true, List.all_eq_true]
  constructor
  · intro h j hj
    have := h j hj
    rwa [getD_set_ne true (fun e => hi (by subst e; exact hj))] at this
  · intro h j hj
    rw [getD_set_ne true (fun e => hi (by subst e; exact hj))]
    exact h j hj

/-- The common part: 'i' is taken first. Either it reads under S, and all of 'fin' wait for it, or it reads no memory. -/
theorem wpAnyG_first {S' : World → Prop} (kb : Bool) {i : Nat} {oi : Oper} {v : Value} (hi : ops[i]? = some oi) (hsel : ∀ (j : Nat) (o : Oper) cs b, ops[j]? = some o → o.op ≠ .select cs b)
    (hQ : ∀ c a w, Q (.panic c) (a.put oi.dst v) w → Q (.panic c) a w) (hifin : i ∉ fin) (hcase : (kb = true ∧ lastBs md ops fin i = true ∧ S' = S) ∨ (kb = false ∧ S' = fun _ => True)) :
    ∀ (fuel : Nat) (listed : Array Bool) (a : Act) (w : World),
      (∀ j oj, ops[j]? = some oj → j ≠ i → listed.getD j true = false → (∀ e ∈ oj.after, Region.binds md e = true → e.on ≠ i) → oi.apart ops oj = true) →
      i ∈ Region.ready md ops listed → YieldsIf P ops S' oi v a → (kb = true → notYet fin listed = true) → (notYet fin listed = true → S w) →
      wpAnyG P md ops Q S fin fuel (listed.setIfInBounds i true) (a.put oi.dst v) w → wpAnyG P md ops Q S fin (fuel + 1) listed a w := by
  intro fuel
  induction fuel with
  | zero =>
    intro listed a w _ hr hy hny hS H
    have hS' : S' w := by
      rcases hcase with ⟨hk, _, e⟩ | ⟨_, e⟩
      · rw [e]; exact hS (hny hk)
      · rw [e]; trivial
    refine ⟨fun h => (by rw [h] at hr; cases hr), fun j hj => ?_⟩
    by_cases hji : j = i
    · subst hji; exact hy.wpOp hi hS' ⟨fun h => hS (by rwa [notYet_set hifin] at h), H⟩
    · have := ready_mono hj hji
      rw [H.1] at this
      cases this
  | succ fuel ih =>
    intro listed a w hfree hr hy hny hS H
    have hS' : S' w := by
      rcases hcase with ⟨hk, _, e⟩ | ⟨_, e⟩
      · rw [e]; exact hS (hny hk)
      · rw [e]; trivial
    refine ⟨fun h => (by rw [h] at hr; cases hr), fun j hj => ?_⟩
    by_cases hji : j = i
    · subst hji; exact hy.wpOp hi hS' ⟨fun h => hS (by rwa [notYet_set hifin] at h), H⟩
    · have h1 := H.2 j (ready_mono hj hji)
      obtain ⟨hjun, oj, hoj, hall⟩ := mem_ready.1 hj
      have hnot : ∀ e ∈ oj.after, Region.binds md e = true → e.on ≠ i := fun e he hb heq => by
        have h1 := hall e he hb
        have h0 := (mem_ready.1 hr).1
        rw [heq] at h1
        rcases Nat.lt_or_ge i listed.size with h' | h'
        · simp [h'] at h0 h1; rw [h0] at h1; cases h1
        · simp [Array.getElem?_eq_none h'] at h1
      have h2 := wpOp_putIf hoj (hfree j oj hoj hji hjun hnot) (fun cs b => hsel i oi cs b hi) (fun cs b => hsel j oj cs b hoj) hQ hy h1
      have hfree' : ∀ k ok, ops[k]? = some ok → k ≠ i → (listed.setIfInBounds j true).getD k true = false →
          (∀ e ∈ ok.after, Region.binds md e = true → e.on ≠ i) → oi.apart ops ok = true := fun k ok hk hki hun hno => by
        refine hfree k ok hk hki ?_ hno
        by_cases hjk : j = k
        · subst hjk; exact hjun
        · rw [getD_set_ne true hjk] at hun; exact hun
      have hcm : notYet fin ((listed.setIfInBounds i true).setIfInBounds j true) = notYet fin (listed.setIfInBounds j true) := by
        rw [Array.setIfInBounds_comm _ _ (Ne.symm hji), notYet_set hifin]
      have hny' : kb = true → notYet fin (listed.setIfInBounds j true) = true := fun e => by
        rcases hcase with ⟨_, hl, _⟩ | ⟨e2, _⟩
        · have hjf : j ∉ fin := fun hm => by
            obtain ⟨e', he', hb', hon⟩ := lastBs_spec hl hm hoj
            exact hnot e' he' hb' hon
          rw [notYet_set hjf]
          exact hny e
        · rw [e] at e2; cases e2
      refine wpOp_mono (fun a' w' h3 => ⟨fun h => h3.2.1 (by rw [hcm]; exact h), ih (listed.setIfInBounds j true) a' w' hfree' (ready_mono hr (Ne.symm hji)) h3.1 hny' (fun h => h3.2.1 (by rw [hcm]; exact h)) ?_⟩) h2
      rw [Array.setIfInBounds_comm _ _ hji]
      exact h3.2.2

/-- An operation that reads under S; all of 'fin' wait for it. -/
theorem wpAnyG_take {i : Nat} {oi : Oper} {v : Value} {fuel : Nat} {listed : Array Bool} {a : Act} {w : World} (hi' : ops.toList[i]? = some oi)
    (hs : Region.noSelect ops = true) (hf : Region.free md ops listed i = true) (hr : (Region.ready md ops listed).contains i = true) (hfin : (!fin.contains i && lastBs md ops fin i && notYet fin listed) = true)
    (hQ : ∀ c a w, Q (.panic c) (a.put oi.dst v) w → Q (.panic c) a w) (hy : YieldsIf P ops S oi v a) (hS : S w)
    (h : wpAnyG P md ops Q S fin fuel (listed.setIfInBounds i true) (a.put oi.dst v) w) : wpAnyG P md ops Q S fin (fuel + 1) listed a w := by
  have hi : ops[i]? = some oi := by simpa using hi'
  simp only [Bool.and_eq_true] at hfin
  exact wpAnyG_first true hi (Region.noSelect_spec hs) hQ (by simpa using hfin.1.1) (.inl ⟨rfl, hfin.1.2, rfl⟩) fuel listed a w (Region.free_spec hi hf) (by simpa using hr) hy (fun _ => hfin.2) (fun _ => hS) h

/-- An operation that reads no memory. -/
theorem wpAnyG_pure {i : Nat} {oi : Oper} {v : Value} {fuel : Nat} {listed : Array Bool} {a : Act} {w : World} (hi' : ops.toList[i]? = some oi)
    (hs : Region.noSelect ops = true) (hf : Region.free md ops listed i = true) (hr : (Region.ready md ops listed).contains i = true) (hfin : (!fin.contains i) = true)
    (hQ : ∀ c a w, Q (.panic c) (a.put oi.dst v) w → Q (.panic c) a w) (hy : YieldsIf P ops (fun _ => True) oi v a) (hS : notYet fin listed = true → S w)
    (h : wpAnyG P md ops Q S fin fuel (listed.setIfInBounds i true) (a.put oi.dst v) w) : wpAnyG P md ops Q S fin (fuel + 1) listed a w := by
  have hi : ops[i]? = some oi := by simpa using hi'
  exact wpAnyG_first false hi (Region.noSelect_spec hs) hQ (by simpa using hfin) (.inr ⟨rfl, rfl⟩) fuel listed a w (Region.free_spec hi hf) (by simpa using hr) hy (fun e => by cases e) hS h

/-- One alone may come up. -/
theorem wpAnyG_only {i : Nat} {fuel : Nat} {listed : Array Bool} {a : Act} {w : World} (hr : Region.ready md ops listed = [i])
    (h : wpOp P ops Q i (fun a' w' => (notYet fin (listed.setIfInBounds i true) = true → S w') ∧ wpAnyG P md ops Q S fin fuel (listed.setIfInBounds i true) a' w') a w) : wpAnyG P md ops Q S fin (fuel + 1) listed a w :=
  ⟨fun h0 => absurd (hr ▸ h0) (by simp), fun j hj => by rw [hr] at hj; obtain rfl : j = i := by simpa using hj
                                                        exact h⟩
/-- .. an operation without a guard: by its own run. -/
theorem wpAnyG_do {i : Nat} {oi : Oper} {fuel : Nat} {listed : Array Bool} {a : Act} {w : World} (hr : Region.ready md ops listed = [i]) (hi' : ops.toList[i]? = some oi) (hg : oi.guard = none)
    (h : ∀ K : Act → World → Prop, (∀ a' w', S w' → wpAnyG P md ops Q S fin fuel (listed.setIfInBounds i true) a' w' → K a' w') → oi.wp P a w K Q) : wpAnyG P md ops Q S fin (fuel + 1) listed a w := by
  have hi : ops[i]? = some oi := by simpa using hi'
  refine wpAnyG_only hr ?_
  unfold wpOp
  simp only [hi]
  rw [if_pos (by simp [Region.wanted, hg])]
  exact .inl (h _ (fun a' w' h1 h2 => ⟨fun _ => h1, h2⟩))
/-- .. one of 'fin', or one behind such. -/
theorem wpAnyG_fin {i : Nat} {oi : Oper} {fuel : Nat} {listed : Array Bool} {a : Act} {w : World} (hr : Region.ready md ops listed = [i]) (hi' : ops.toList[i]? = some oi) (hg : oi.guard = none) (hn : notYet fin (listed.setIfInBounds i true) = false)
    (h : ∀ K : Act → World → Prop, (∀ a' w', wpAnyG P md ops Q S fin fuel (listed.setIfInBounds i true) a' w' → K a' w') → oi.wp P a w K Q) : wpAnyG P md ops Q S fin (fuel + 1) listed a w := by
  have hi : ops[i]? = some oi := by simpa using hi'
  refine wpAnyG_only hr ?_
  unfold wpOp
  simp only [hi]
  rw [if_pos (by simp [Region.wanted, hg])]
  exact .inl (h _ (fun a' w' h2 => ⟨fun h => (by rw [hn] at h; cases h), h2⟩))

/-- A guarded operation that is wanted (.. that is not): it yields by its run (.. nothing). -/
theorem yieldsIf_want {S' : World → Prop} {o : Oper} {v : Value} {a : Act} (hw : Region.wanted o (yielded ops a.tmps) = true) (h : ∀ w, S' w → (execOp a.eval o).run P w = .ok (.value v) w) : YieldsIf P ops S' o v a := .inl ⟨hw, h⟩
theorem yieldsIf_skip {S' : World → Prop} {o : Oper} {a : Act} (hw : Region.wanted o (yielded ops a.tmps) = false) : YieldsIf P ops S' o undef a := .inr ⟨hw, rfl⟩
/-- One alone may come up, guarded and wanted. -/
theorem wpAnyG_want {i : Nat} {oi : Oper} {fuel : Nat} {listed : Array Bool} {a : Act} {w : World} (hr : Region.ready md ops listed = [i]) (hi' : ops.toList[i]? = some oi) (hw : Region.wanted oi (yielded ops a.tmps) = true)
    (h : ∀ K : Act → World → Prop, (∀ a' w', S w' → wpAnyG P md ops Q S fin fuel (listed.setIfInBounds i true) a' w' → K a' w') → oi.wp P a w K Q) : wpAnyG P md ops Q S fin (fuel + 1) listed a w := by
  have hi : ops[i]? = some oi := by simpa using hi'
  refine wpAnyG_only hr ?_
  unfold wpOp
  simp only [hi]
  rw [if_pos hw]
  exact .inl (h _ (fun a' w' h1 h2 => ⟨fun _ => h1, h2⟩))

theorem wpAnyG_done {listed : Array Bool} {a : Act} {w : World} (hr : Region.ready md ops listed = []) (h : Q .normal a w) :
    ∀ fuel, wpAnyG P md ops Q S fin fuel listed a w
  | 0 => ⟨hr, h⟩
  | _ + 1 => ⟨fun _ => h, by rw [hr]; simp⟩

theorem wp_region_G {id : Nat} {a : Act} {w : World} (fin : List Nat) (S : World → Prop) (hm : P.follows .mixedOrders = true)
    (h : wpAnyG P .any ops Q S fin ops.size (Array.replicate ops.size false) a w.drew) : (Code.region id ops true).wp P Q a w :=
  wp_region_any hm (wpAny_of_G _ _ _ _ h)
end

end Go.Proofs.Ytnmdgjodbikndaa
