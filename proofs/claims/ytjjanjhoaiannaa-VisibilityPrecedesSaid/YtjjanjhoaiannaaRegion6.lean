/- A region that draws its order, in which some operations (the last stores) wait for those that read: what holds of the world (S) need not hold once one of them has run. No program in sight. After the kit's 'wpAnyH'; A region that draws its order: a call that leaves the world as it is may be taken first; two or three that may come up. No program in sight; A region that draws its order: an operation whose guard is met (the kit's wpAnyH). No program in sight; Drawn regions: two or three operations that may come next; A region that draws its order: some last operations (fin) wait for those that read, at once or through others of fin. -/
import Derived.Test.YtjjanjhoaiannaaRegion
import Derived.Deep.Quiet
namespace Go.Proofs.Ytjjanjhoaiannaa
open Go
set_option linter.unusedVariables false
set_option linter.unusedSimpArgs false

section
variable {P : Program} {ops : Array Oper} {Q : Exit → Act → World → Prop} {md : Region.Mode} {S : World → Prop} {fin : List Nat}

/-- None of 'fin' has run. -/
def notYet (fin : List Nat) (listed : Array Bool) : Bool := fin.all fun j => !listed.getD j true

/-- Whatever order is picked from here on; 'S' holds until one of 'fin' has run. -/
def wpAnyG (P : Program) (md : Region.Mode) (ops : Array Oper) (Q : Exit → Act → World → Prop) (S : World → Prop) (fin : List Nat) : Nat → Array Bool → Act → World → Prop
  | 0, listed, a, w => Region.ready md ops listed = [] ∧ Q .normal a w
  | fuel + 1, listed, a, w =>
    (Region.ready md ops listed = [] → Q .normal a w) ∧
    ∀ i ∈ Region.ready md ops listed, wpOp P ops Q i (fun a' w' => (notYet fin (listed.setIfInBounds i true) = true → S w') ∧ wpAnyG P md ops Q S fin fuel (listed.setIfInBounds i true) a' w') a w

theorem wpAny_of_G : ∀ (fuel : Nat) (listed : Array Bool) (a : Act) (w : World), wpAnyG P md ops Q S fin fuel listed a w → wpAny P md ops Q fuel listed a w
  | 0, _, _, _, h => h
  | fuel + 1, _, _, _, h => ⟨h.1, fun i hi => wpOp_mono (fun a' w' h' => wpAny_of_G fuel _ a' w' h'.2) (h.2 i hi)⟩

/-- Each of 'fin' waits for 'i'. -/
def lastBs (md : Region.Mode) (ops : Array Oper) (fin : List Nat) (i : Nat) : Bool :=
  fin.all fun j => match ops[j]? with | some o => o.after.any fun e => Region.binds md e && e.on == i | none => false

theorem lastBs_spec {i j : Nat} (h : lastBs md ops fin i = true) (hj : j ∈ fin) {o : Oper} (ho : ops[j]? = some o) : ∃ e ∈ o.after, Region.binds md e = true ∧ e.on = i := by
  unfold lastBs at h
  have h := List.all_eq_true.1 h j hj
  simp only [ho] at h
  obtain ⟨e, he, hb⟩ := Array.any_eq_true'.1 h
  simp only [Bool.and_eq_true, beq_iff_eq] at hb
  exact ⟨e, he, hb.1, hb.2⟩

theorem notYet_set {listed : Array Bool} {i : Nat} (hi : i ∉ fin) : notYet fin (listed.setIfInBounds i true) = notYet fin listed := by
  unfold notYet
  rw [Bool.eq_iff_iff, List.all_eq_true, List.all_eq_true]
  constructor
  · intro h j hj
    have := h j hj
    rwa [getD_set_ne true (fun e => hi (by subst e; exact hj))] at this
  · intro h j hj
    rw [getD_set_ne true (fun e => hi (by subst e; exact hj))]
    exact h j hj

/-- The common part: 'i' is taken first. Either it reads under S, and all of 'fin' wait for it, or it reads no memory. -/
theorem wpAnyG_first {S' : World → Prop} (kb : Bool) {i : Nat} {oi : Oper} {v : Value} (hi : ops[i]? = some oi) (hsel : ∀ (j : Nat) (o : Oper) cs b, ops[j]? = some o → o.op ≠ .select cs b)
    (hQ : ∀ c a w, Q (.panic c) (a.put oi.dst v) w → Q (.panic c) a w) (hifin : i ∉ fin) (hcase : (kb = true ∧ lastBs md ops fin i = true ∧ S' = S) ∨ (kb = false ∧ S' = fun _ => True)) :
    ∀ (fuel : Nat) (listed : Array Bool) (a : Act) (w : World),
      (∀ j oj, ops[j]? = some oj → j ≠ i → listed.getD j true = false → (∀ e ∈ oj.after, Region.binds md e = true → e.on ≠ i) → oi.apart ops oj = true) →
      i ∈ Region.ready md ops listed → YieldsIf P ops S' oi v a → (kb = true → notYet fin listed = true) → (notYet fin listed = true → S w) →
      wpAnyG P md ops Q S fin fuel (listed.setIfInBounds i true) (a.put oi.dst v) w → wpAnyG P md ops Q S fin (fuel + 1) listed a w := by
  intro fuel
  induction fuel with
  | zero =>
    intro listed a w _ hr hy hny hS H
    have hS' : S' w := by
      rcases hcase with ⟨hk, _, e⟩ | ⟨_, e⟩
      · rw [e]; exact hS (hny hk)
      · rw [e]; trivial
    refine ⟨fun h => (by rw [h] at hr; cases hr), fun j hj => ?_⟩
    by_cases hji : j = i
    · subst hji; exact hy.wpOp hi hS' ⟨fun h => hS (by rwa [notYet_set hifin] at h), H⟩
    · have := ready_mono hj hji
      rw [H.1] at this
      cases this
  | succ fuel ih =>
    intro listed a w hfree hr hy hny hS H
    have hS' : S' w := by
      rcases hcase with ⟨hk, _, e⟩ | ⟨_, e⟩
      · rw [e]; exact hS (hny hk)
      · rw [e]; trivial
    refine ⟨fun h => (by rw [h] at hr; cases hr), fun j hj => ?_⟩
    by_cases hji : j = i
    · subst hji; exact hy.wpOp hi hS' ⟨fun h => hS (by rwa [notYet_set hifin] at h), H⟩
    · have h1 := H.2 j (ready_mono hj hji)
      obtain ⟨hjun, oj, hoj, hall⟩ := mem_ready.1 hj
      have hnot : ∀ e ∈ oj.after, Region.binds md e = true → e.on ≠ i := fun e he hb heq => by
        have h1 := hall e he hb
        have h0 := (mem_ready.1 hr).1
        rw [heq] at h1
        rcases Nat.lt_or_ge i listed.size with h' | h'
        · simp [h'] at h0 h1; rw [h0] at h1; cases h1
        · simp [Array.getElem?_eq_none h'] at h1
      have h2 := wpOp_putIf hoj (hfree j oj hoj hji hjun hnot) (fun cs b => hsel i oi cs b hi) (fun cs b => hsel j oj cs b hoj) hQ hy h1
      have hfree' : ∀ k ok, ops[k]? = some ok → k ≠ i → (listed.setIfInBounds j true).getD k true = false →
          (∀ e ∈ ok.after, Region.binds md e = true → e.on ≠ i) → oi.apart ops ok = true := fun k ok hk hki hun hno => by
        refine hfree k ok hk hki ?_ hno
        by_cases hjk : j = k
        · subst hjk; exact hjun
        · rw [getD_set_ne true hjk] at hun; exact hun
      have hcm : notYet fin ((listed.setIfInBounds i true).setIfInBounds j true) = notYet fin (listed.setIfInBounds j true) := by
        rw [Array.setIfInBounds_comm _ _ (Ne.symm hji), notYet_set hifin]
      have hny' : kb = true → notYet fin (listed.setIfInBounds j true) = true := fun e => by
        rcases hcase with ⟨_, hl, _⟩ | ⟨e2, _⟩
        · have hjf : j ∉ fin := fun hm => by
            obtain ⟨e', he', hb', hon⟩ := lastBs_spec hl hm hoj
            exact hnot e' he' hb' hon
          rw [notYet_set hjf]
          exact hny e
        · rw [e] at e2; cases e2
      refine wpOp_mono (fun a' w' h3 => ⟨fun h => h3.2.1 (by rw [hcm]; exact h), ih (listed.setIfInBounds j true) a' w' hfree' (ready_mono hr (Ne.symm hji)) h3.1 hny' (fun h => h3.2.1 (by rw [hcm]; exact h)) ?_⟩) h2
      rw [Array.setIfInBounds_comm _ _ hji]
      exact h3.2.2

/-- An operation that reads under S; all of 'fin' wait for it. -/
theorem wpAnyG_take {i : Nat} {oi : Oper} {v : Value} {fuel : Nat} {listed : Array Bool} {a : Act} {w : World} (hi' : ops.toList[i]? = some oi)
    (hs : Region.noSelect ops = true) (hf : Region.free md ops listed i = true) (hr : (Region.ready md ops listed).contains i = true) (hfin : (!fin.contains i && lastBs md ops fin i && notYet fin listed) = true)
    (hQ : ∀ c a w, Q (.panic c) (a.put oi.dst v) w → Q (.panic c) a w) (hy : YieldsIf P ops S oi v a) (hS : S w)
    (h : wpAnyG P md ops Q S fin fuel (listed.setIfInBounds i true) (a.put oi.dst v) w) : wpAnyG P md ops Q S fin (fuel + 1) listed a w := by
  have hi : ops[i]? = some oi := by simpa using hi'
  simp only [Bool.and_eq_true] at hfin
  exact wpAnyG_first true hi (Region.noSelect_spec hs) hQ (by simpa using hfin.1.1) (.inl ⟨rfl, hfin.1.2, rfl⟩) fuel listed a w (Region.free_spec hi hf) (by simpa using hr) hy (fun _ => hfin.2) (fun _ => hS) h

/-- An operation that reads no memory. -/
theorem wpAnyG_pure {i : Nat} {oi : Oper} {v : Value} {fuel : Nat} {listed : Array Bool} {a : Act} {w : World} (hi' : ops.toList[i]? = some oi)
    (hs : Region.noSelect ops = true) (hf : Region.free md ops listed i = true) (hr : (Region.ready md ops listed).contains i = true) (hfin : (!fin.contains i) = true)
    (hQ : ∀ c a w, Q (.panic c) (a.put oi.dst v) w → Q (.panic c) a w) (hy : YieldsIf P ops (fun _ => True) oi v a) (hS : notYet fin listed = true → S w)
    (h : wpAnyG P md ops Q S fin fuel (listed.setIfInBounds i true) (a.put oi.dst v) w) : wpAnyG P md ops Q S fin (fuel + 1) listed a w := by
  have hi : ops[i]? = some oi := by simpa using hi'
  exact wpAnyG_first false hi (Region.noSelect_spec hs) hQ (by simpa using hfin) (.inr ⟨rfl, rfl⟩) fuel listed a w (Region.free_spec hi hf) (by simpa using hr) hy (fun e => by cases e) hS h

/-- One alone may come up. -/
theorem wpAnyG_only {i : Nat} {fuel : Nat} {listed : Array Bool} {a : Act} {w : World} (hr : Region.ready md ops listed = [i])
    (h : wpOp P ops Q i (fun a' w' => (notYet fin (listed.setIfInBounds i true) = true → S w') ∧ wpAnyG P md ops Q S fin fuel (listed.setIfInBounds i true) a' w') a w) : wpAnyG P md ops Q S fin (fuel + 1) listed a w :=
  ⟨fun h0 => absurd (hr ▸ h0) (by simp), fun j hj => by rw [hr] at hj; obtain rfl : j = i := by simpa using hj
                                                        exact h⟩
/-- .. an operation without a guard: by its own run. -/
theorem wpAnyG_do {i : Nat} {oi : Oper} {fuel : Nat} {listed : Array Bool} {a : Act} {w : World} (hr : Region.ready md ops listed = [i]) (hi' : ops.toList[i]? = some oi) (hg : oi.guard = none)
    (h : ∀ K : Act → World → Prop, (∀ a' w', S w' → wpAnyG P md ops Q S fin fuel (listed.setIfInBounds i true) a' w' → K a' w') → oi.wp P a w K Q) : wpAnyG P md ops Q S fin (fuel + 1) listed a w := by
  have hi : ops[i]? = some oi := by simpa using hi'
  refine wpAnyG_only hr ?_
  unfold wpOp
  simp only [hi]
  rw [if_pos (by simp [Region.wanted, hg])]
  exact .inl (h _ (fun a' w' h1 h2 => ⟨fun _ => h1, h2⟩))
/-- .. one of 'fin', or one behind such. -/
theorem wpAnyG_fin {i : Nat} {oi : Oper} {fuel : Nat} {listed : Array Bool} {a : Act} {w : World} (hr : Region.ready md ops listed = [i]) (hi' : ops.toList[i]? = some oi) (hg : oi.guard = none) (hn : notYet fin (listed.setIfInBounds i true) = false)
    (h : ∀ K : Act → World → Prop, (∀ a' w', wpAnyG P md ops Q S fin fuel (listed.setIfInBounds i true) a' w' → K a' w') → oi.wp P a w K Q) : wpAnyG P md ops Q S fin (fuel + 1) listed a w := by
  have hi : ops[i]? = some oi := by simpa using hi'
  refine wpAnyG_only hr ?_
  unfold wpOp
  simp only [hi]
  rw [if_pos (by simp [Region.wanted, hg])]
  exact .inl (h _ (fun a' w' h2 => ⟨fun h => (by rw [hn] at h; cases h), h2⟩))

/-- A guarded operation that is wanted (.. that is not): it yields by its run (.. nothing). -/
theorem yieldsIf_want {S' : World → Prop} {o : Oper} {v : Value} {a : Act} (hw : Region.wanted o (yielded ops a.tmps) = true) (h : ∀ w, S' w → (execOp a.eval o).run P w = .ok (.value v) w) : YieldsIf P ops S' o v a := .inl ⟨hw, h⟩
theorem yieldsIf_skip {S' : World → Prop} {o : Oper} {a : Act} (hw : Region.wanted o (yielded ops a.tmps) = false) : YieldsIf P ops S' o undef a := .inr ⟨hw, rfl⟩
/-- One alone may come up, guarded and wanted. -/
theorem wpAnyG_want {i : Nat} {oi : Oper} {fuel : Nat} {listed : Array Bool} {a : Act} {w : World} (hr : Region.ready md ops listed = [i]) (hi' : ops.toList[i]? = some oi) (hw : Region.wanted oi (yielded ops a.tmps) = true)
    (h : ∀ K : Act → World → Prop, (∀ a' w', S w' → wpAnyG P md ops Q S fin fuel (listed.setIfInBounds i true) a' w' → K a' w') → oi.wp P a w K Q) : wpAnyG P md ops Q S fin (fuel + 1) listed a w := by
  have hi : ops[i]? = some oi := by simpa using hi'
  refine wpAnyG_only hr ?_
  unfold wpOp
  simp only [hi]
  rw [if_pos hw]
  exact .inl (h _ (fun a' w' h1 h2 => ⟨fun _ => h1, h2⟩))

theorem wpAnyG_done {listed : Array Bool} {a : Act} {w : World} (hr : Region.ready md ops listed = []) (h : Q .normal a w) :
    ∀ fuel, wpAnyG P md ops Q S fin fuel listed a w
  | 0 => ⟨hr, h⟩
  | _ + 1 => ⟨fun _ => h, by rw [hr]; simp⟩

theorem wp_region_G {id : Nat} {a : Act} {w : World} (fin : List Nat) (S : World → Prop) (hm : P.follows .mixedOrders = true)
    (h : wpAnyG P .any ops Q S fin ops.size (Array.replicate ops.size false) a w.drew) : (Code.region id ops true).wp P Q a w :=
  wp_region_any hm (wpAny_of_G _ _ _ _ h)
end

end Go.Proofs.Ytjjanjhoaiannaa

namespace Go.Proofs.Ytjjanjhoaiannaa
open Go
set_option linter.unusedVariables false
set_option linter.unusedSimpArgs false

section
variable {P : Program} {ops : Array Oper} {Q : Exit → Act → World → Prop} {md : Region.Mode} {S : World → Prop} {fin : Nat}

/-- What an operation does to the frame: one slot, and what is deferred. -/
theorem wpOp_form {j : Nat} {oj : Oper} {a : Act} {w : World} {K : Act → World → Prop} (hj : ops[j]? = some oj) (h : wpOp P ops Q j K a w) :
    wpOp P ops Q j (fun a' w' => (∃ u, a'.tmps = (a.put oj.dst u).tmps) ∧ K a' w') a w := by
  have hd : ∀ d u, (Act.put { a with defers := d :: a.defers } oj.dst u).tmps = (a.put oj.dst u).tmps := fun d u => by unfold Act.put; cases oj.dst <;> rfl
  unfold wpOp at *
  simp only [hj] at *
  split
  · rename_i hw
    simp only [hw, if_true] at h
    rcases h with h | h
    case inr => exact .inr h
    refine .inl ?_
    unfold Oper.wp at *
    generalize (execOp a.eval oj).run P w = r at *
    cases r with
    | ok n w' =>
      cases n <;> simp only [Oper.upon] at h ⊢
      case value u => exact ⟨⟨u, rfl⟩, h⟩
      case skip => exact ⟨⟨_, rfl⟩, h⟩
      case defer d => exact ⟨⟨_, hd d _⟩, h⟩
      case enter f args => exact Calls.mono h fun e w'' he => by cases e <;> first | exact ⟨⟨_, rfl⟩, he⟩ | exact he
      case row row args => exact Rows.mono h fun u w'' he => ⟨⟨_, rfl⟩, he⟩
    | halt x w' => cases x <;> simp only [Oper.upon] at h ⊢ <;> exact h
  · rename_i hw
    simp only [hw] at h
    exact ⟨⟨_, rfl⟩, h⟩

/-- In every world that meets S the operation (a call that leaves the world alone, say) yields v. -/
def YieldsC (P : Program) (ops : Array Oper) (S : World → Prop) (o : Oper) (v : Value) (a : Act) : Prop :=
  Region.wanted o (yielded ops a.tmps) = true ∧ ∀ w, S w → o.quietAt P a (fun x => x = w) w v

theorem YieldsC.wpOp {i : Nat} {o : Oper} {v : Value} {a : Act} (hi : ops[i]? = some o) (hy : YieldsC P ops S o v a) {K : Act → World → Prop} {w : World} (hS : S w) (h : K (a.put o.dst v) w) : wpOp P ops Q i K a w := by
  unfold Go.wpOp
  simp only [hi]
  rw [if_pos hy.1]
  exact .inl (Oper.wp_of_quiet (C := fun x => x = w) (K := fun a' => K a' w) rfl (fun a' w' e hk => by rw [e]; exact hk) ⟨v, fun w' e => by rw [e]; exact hy.2 w hS, h⟩)

theorem eval_tmps {a a' : Act} (h : a'.tmps = a.tmps) : a'.eval = a.eval := by
  funext x
  cases x <;> simp [Act.eval, h]

theorem wpAnyF_firstC {i : Nat} {oi : Oper} {v : Value} (hi : ops[i]? = some oi) (hsel : ∀ (j : Nat) (o : Oper) cs b, ops[j]? = some o → o.op ≠ .select cs b)
    (hQ : ∀ c a w, Q (.panic c) (a.put oi.dst v) w → Q (.panic c) a w) (hfin : lastB md ops fin i = true) :
    ∀ (fuel : Nat) (listed : Array Bool) (a : Act) (w : World),
      (∀ j oj, ops[j]? = some oj → j ≠ i → listed.getD j true = false → (∀ e ∈ oj.after, Region.binds md e = true → e.on ≠ i) → oi.apart ops oj = true) →
      i ∈ Region.ready md ops listed → YieldsC P ops S oi v a → S w →
      wpAnyF P md ops Q S fin fuel (listed.setIfInBounds i true) (a.put oi.dst v) w → wpAnyF P md ops Q S fin (fuel + 1) listed a w := by
  intro fuel
  induction fuel with
  | zero =>
    intro listed a w _ hr hy hS H
    refine ⟨fun h => (by rw [h] at hr; cases hr), fun j hj => ?_⟩
    by_cases hji : j = i
    · subst hji; exact hy.wpOp hi hS ⟨fun _ => hS, H⟩
    · have := ready_mono hj hji
      rw [H.1] at this
      cases this
  | succ fuel ih =>
    intro listed a w hfree hr hy hS H
    refine ⟨fun h => (by rw [h] at hr; cases hr), fun j hj => ?_⟩
    by_cases hji : j = i
    · subst hji; exact hy.wpOp hi hS ⟨fun _ => hS, H⟩
    · have h1 := H.2 j (ready_mono hj hji)
      obtain ⟨hjun, oj, hoj, hall⟩ := mem_ready.1 hj
      have hnot : ∀ e ∈ oj.after, Region.binds md e = true → e.on ≠ i := fun e he hb heq => by
        have h1 := hall e he hb
        have h0 := (mem_ready.1 hr).1
        rw [heq] at h1
        rcases Nat.lt_or_ge i listed.size with h' | h'
        · simp [h'] at h0 h1; rw [h0] at h1; cases h1
        · simp [Array.getElem?_eq_none h'] at h1
      have hjf : j ≠ fin := fun e => by
        subst e
        obtain ⟨e', he', hb', hon⟩ := lastB_spec hfin hoj
        exact hnot e' he' hb' hon
      have hap := hfree j oj hoj hji hjun hnot
      obtain ⟨_, _, h3⟩ := Oper.apart_spec hap
      have h2 := wpOp_form hoj (wpOp_putIf (S := fun _ => False) hoj hap (fun cs b => hsel i oi cs b hi) (fun cs b => hsel j oj cs b hoj) hQ (.inl ⟨hy.1, fun _ h => h.elim⟩) h1)
      have hfree' : ∀ k ok, ops[k]? = some ok → k ≠ i → (listed.setIfInBounds j true).getD k true = false →
          (∀ e ∈ ok.after, Region.binds md e = true → e.on ≠ i) → oi.apart ops ok = true := fun k ok hk hki hun hno => by
        refine hfree k ok hk hki ?_ hno
        by_cases hjk : j = k
        · subst hjk; exact hjun
        · rw [getD_set_ne true hjk] at hun; exact hun
      refine wpOp_mono (fun a' w' h4 => ?_) h2
      obtain ⟨⟨u, hu⟩, _, h5, h6⟩ := h4
      have hy' : YieldsC P ops S oi v a' := by
        refine ⟨?_, fun w hw => ?_⟩
        · rw [hu, wanted_put oi a oj.dst u h3]; exact hy.1
        · have := hy.2 w hw
          unfold Oper.quietAt at *
          rw [eval_tmps hu, execOp_put oi (fun cs b => hsel i oi cs b hi) a oj.dst u h3]
          exact this
      refine ⟨h5, ih (listed.setIfInBounds j true) a' w' hfree' (ready_mono hr (Ne.symm hji)) hy' (h5 hjf) ?_⟩
      rw [Array.setIfInBounds_comm _ _ hji]
      exact h6

theorem wpAnyF_takeC {i : Nat} {oi : Oper} {v : Value} {fuel : Nat} {listed : Array Bool} {a : Act} {w : World} (hi' : ops.toList[i]? = some oi)
    (hs : Region.noSelect ops = true) (hf : Region.free md ops listed i = true) (hr : (Region.ready md ops listed).contains i = true) (hfin : lastB md ops fin i = true)
    (hQ : ∀ c a w, Q (.panic c) (a.put oi.dst v) w → Q (.panic c) a w) (hy : YieldsC P ops S oi v a) (hS : S w)
    (h : wpAnyF P md ops Q S fin fuel (listed.setIfInBounds i true) (a.put oi.dst v) w) : wpAnyF P md ops Q S fin (fuel + 1) listed a w :=
  have hi : ops[i]? = some oi := by simpa using hi'
  wpAnyF_firstC hi (Region.noSelect_spec hs) hQ hfin fuel listed a w (Region.free_spec hi hf) (by simpa using hr) hy hS h

/-- Two may come up. -/
theorem wpAnyF_two {i j : Nat} {oi oj : Oper} {fuel : Nat} {listed : Array Bool} {a : Act} {w : World} (hr : Region.ready md ops listed = [i, j]) (hi' : ops.toList[i]? = some oi) (hj' : ops.toList[j]? = some oj) (hg : oi.guard = none) (hg2 : oj.guard = none)
    (h1 : ∀ K : Act → World → Prop, (∀ a' w', (i ≠ fin → S w') → wpAnyF P md ops Q S fin fuel (listed.setIfInBounds i true) a' w' → K a' w') → oi.wp P a w K Q)
    (h2 : ∀ K : Act → World → Prop, (∀ a' w', (j ≠ fin → S w') → wpAnyF P md ops Q S fin fuel (listed.setIfInBounds j true) a' w' → K a' w') → oj.wp P a w K Q) :
    wpAnyF P md ops Q S fin (fuel + 1) listed a w := by
  have hi : ops[i]? = some oi := by simpa using hi'
  have hj : ops[j]? = some oj := by simpa using hj'
  refine ⟨fun h0 => absurd (hr ▸ h0) (by simp), fun k hk => ?_⟩
  rw [hr] at hk
  rcases List.mem_cons.1 hk with rfl | hk
  · unfold wpOp
    simp only [hi]
    rw [if_pos (by simp [Region.wanted, hg])]
    exact .inl (h1 _ (fun a' w' h1 h2 => ⟨h1, h2⟩))
  · obtain rfl := List.mem_singleton.1 hk
    unfold wpOp
    simp only [hj]
    rw [if_pos (by simp [Region.wanted, hg2])]
    exact .inl (h2 _ (fun a' w' h1 h2 => ⟨h1, h2⟩))

/-! S holds behind every operation (the kit's 'wpAnyH'). -/
theorem wpAnyH_takeI {i : Nat} {oi : Oper} {v : Value} {fuel : Nat} {listed : Array Bool} {a : Act} {w : World} (hi' : ops.toList[i]? = some oi)
    (hs : Region.noSelect ops = true) (hf : Region.free md ops listed i = true) (hr : (Region.ready md ops listed).contains i = true)
    (hQ : ∀ c a w, Q (.panic c) (a.put oi.dst v) w → Q (.panic c) a w) (hy : YieldsIf P ops S oi v a) (hS : S w)
    (h : wpAnyH P md ops Q S fuel (listed.setIfInBounds i true) (a.put oi.dst v) w) : wpAnyH P md ops Q S (fuel + 1) listed a w :=
  wpAnyH_take (by simpa using hi') hs hf hr hQ hy hS h
theorem wpAnyH_do {i : Nat} {oi : Oper} {fuel : Nat} {listed : Array Bool} {a : Act} {w : World} (hr : Region.ready md ops listed = [i]) (hi' : ops.toList[i]? = some oi) (hg : oi.guard = none)
    (h : ∀ K : Act → World → Prop, (∀ a' w', S w' → wpAnyH P md ops Q S fuel (listed.setIfInBounds i true) a' w' → K a' w') → oi.wp P a w K Q) : wpAnyH P md ops Q S (fuel + 1) listed a w := by
  have hi : ops[i]? = some oi := by simpa using hi'
  refine wpAnyH_all hr (by simp) fun j hj => ?_
  obtain rfl := List.mem_singleton.1 hj
  unfold wpOp
  simp only [hi]
  rw [if_pos (by simp [Region.wanted, hg])]
  exact .inl (h _ (fun a' w' h1 h2 => ⟨h1, h2⟩))
theorem wp_region_H {id : Nat} {a : Act} {w : World} (S : World → Prop) (hm : P.follows .mixedOrders = true)
    (h : wpAnyH P .any ops Q S ops.size (Array.replicate ops.size false) a w.drew) : (Code.region id ops true).wp P Q a w :=
  wp_region_held hm h
end

end Go.Proofs.Ytjjanjhoaiannaa

namespace Go.Proofs.Ytjjanjhoaiannaa
open Go
set_option linter.unusedVariables false
set_option linter.unusedSimpArgs false

section
variable {P : Program} {ops : Array Oper} {Q : Exit → Act → World → Prop} {md : Region.Mode} {S : World → Prop}
theorem wpAnyH_want {i : Nat} {oi : Oper} {fuel : Nat} {listed : Array Bool} {a : Act} {w : World} (hr : Region.ready md ops listed = [i]) (hi' : ops.toList[i]? = some oi) (hw : Region.wanted oi (yielded ops a.tmps) = true)
    (h : ∀ K : Act → World → Prop, (∀ a' w', S w' → wpAnyH P md ops Q S fuel (listed.setIfInBounds i true) a' w' → K a' w') → oi.wp P a w K Q) : wpAnyH P md ops Q S (fuel + 1) listed a w := by
  have hi : ops[i]? = some oi := by simpa using hi'
  refine wpAnyH_all hr (by simp) fun j hj => ?_
  obtain rfl := List.mem_singleton.1 hj
  unfold wpOp
  simp only [hi]
  rw [if_pos hw]
  exact .inl (h _ (fun a' w' h1 h2 => ⟨h1, h2⟩))
end

end Go.Proofs.Ytjjanjhoaiannaa

namespace Go.Proofs.Ytjjanjhoaiannaa
open Go
set_option linter.unusedVariables false
set_option linter.unusedSimpArgs false

section
variable {P : Program} {ops : Array Oper} {Q : Exit → Act → World → Prop} {md : Region.Mode} {S : World → Prop}
theorem wpAnyH_some {rs : List Nat} {fuel : Nat} {listed : Array Bool} {a : Act} {w : World} (hr : Region.ready md ops listed = rs) (hne : rs ≠ [])
    (h : ∀ i ∈ rs, ∃ oi, ops.toList[i]? = some oi ∧ oi.guard = none ∧ ∀ K : Act → World → Prop, (∀ a' w', S w' → wpAnyH P md ops Q S fuel (listed.setIfInBounds i true) a' w' → K a' w') → oi.wp P a w K Q) : wpAnyH P md ops Q S (fuel + 1) listed a w := by
  refine wpAnyH_all hr hne fun j hj => ?_
  obtain ⟨oj, hj', hg, h⟩ := h j hj
  have hj2 : ops[j]? = some oj := by simpa using hj'
  unfold wpOp
  simp only [hj2]
  rw [if_pos (by simp [Region.wanted, hg])]
  exact .inl (h _ (fun a' w' h1 h2 => ⟨h1, h2⟩))
theorem wpAnyH_two {i j : Nat} {oi oj : Oper} {fuel : Nat} {listed : Array Bool} {a : Act} {w : World} (hr : Region.ready md ops listed = [i, j]) (hi' : ops.toList[i]? = some oi) (hj' : ops.toList[j]? = some oj) (hg : oi.guard = none) (hg2 : oj.guard = none)
    (h1 : ∀ K : Act → World → Prop, (∀ a' w', S w' → wpAnyH P md ops Q S fuel (listed.setIfInBounds i true) a' w' → K a' w') → oi.wp P a w K Q)
    (h2 : ∀ K : Act → World → Prop, (∀ a' w', S w' → wpAnyH P md ops Q S fuel (listed.setIfInBounds j true) a' w' → K a' w') → oj.wp P a w K Q) :
    wpAnyH P md ops Q S (fuel + 1) listed a w :=
  wpAnyH_some hr (by simp) fun x hx => by
    rcases List.mem_cons.1 hx with rfl | hx
    · exact ⟨oi, hi', hg, h1⟩
    · obtain rfl := List.mem_singleton.1 hx
      exact ⟨oj, hj', hg2, h2⟩
theorem wpAnyH_three {i j l : Nat} {oi oj ol : Oper} {fuel : Nat} {listed : Array Bool} {a : Act} {w : World} (hr : Region.ready md ops listed = [i, j, l]) (hi' : ops.toList[i]? = some oi) (hj' : ops.toList[j]? = some oj) (hl' : ops.toList[l]? = some ol) (hg : oi.guard = none) (hg2 : oj.guard = none) (hg3 : ol.guard = none)
    (h1 : ∀ K : Act → World → Prop, (∀ a' w', S w' → wpAnyH P md ops Q S fuel (listed.setIfInBounds i true) a' w' → K a' w') → oi.wp P a w K Q)
    (h2 : ∀ K : Act → World → Prop, (∀ a' w', S w' → wpAnyH P md ops Q S fuel (listed.setIfInBounds j true) a' w' → K a' w') → oj.wp P a w K Q)
    (h3 : ∀ K : Act → World → Prop, (∀ a' w', S w' → wpAnyH P md ops Q S fuel (listed.setIfInBounds l true) a' w' → K a' w') → ol.wp P a w K Q) :
    wpAnyH P md ops Q S (fuel + 1) listed a w :=
  wpAnyH_some hr (by simp) fun x hx => by
    rcases List.mem_cons.1 hx with rfl | hx
    · exact ⟨oi, hi', hg, h1⟩
    · rcases List.mem_cons.1 hx with rfl | hx
      · exact ⟨oj, hj', hg2, h2⟩
      · obtain rfl := List.mem_singleton.1 hx
        exact ⟨ol, hl', hg3, h3⟩
end

end Go.Proofs.Ytjjanjhoaiannaa

namespace Go.Proofs.Ytjjanjhoaiannaa
open Go
set_option linter.unusedVariables false
set_option linter.unusedSimpArgs false

section
variable {P : Program} {ops : Array Oper} {Q : Exit → Act → World → Prop} {md : Region.Mode} {S : World → Prop} {fin : List Nat}

/-- Each of 'fin' waits for 'i', or for another of 'fin'. -/
def lastZ (md : Region.Mode) (ops : Array Oper) (fin : List Nat) (i : Nat) : Bool :=
  fin.all fun j => match ops[j]? with | some o => o.after.any fun e => Region.binds md e && (e.on == i || fin.contains e.on) | none => false

theorem lastZ_spec {i j : Nat} (h : lastZ md ops fin i = true) (hj : j ∈ fin) {o : Oper} (ho : ops[j]? = some o) : ∃ e ∈ o.after, Region.binds md e = true ∧ (e.on = i ∨ e.on ∈ fin) := by
  unfold lastZ at h
  have h := List.all_eq_true.1 h j hj
  simp only [ho] at h
  obtain ⟨e, he, hb⟩ := Array.any_eq_true'.1 h
  simp only [Bool.and_eq_true, Bool.or_eq_true, beq_iff_eq, List.contains_iff_mem] at hb
  exact ⟨e, he, hb.1, hb.2⟩

/-- The common part: 'i' is taken first. Either it reads under S, and all of 'fin' wait for it, or it reads no memory. -/
theorem wpAnyG_firstZ {S' : World → Prop} (kb : Bool) {i : Nat} {oi : Oper} {v : Value} (hi : ops[i]? = some oi) (hsel : ∀ (j : Nat) (o : Oper) cs b, ops[j]? = some o → o.op ≠ .select cs b)
    (hQ : ∀ c a w, Q (.panic c) (a.put oi.dst v) w → Q (.panic c) a w) (hifin : i ∉ fin) (hcase : (kb = true ∧ lastZ md ops fin i = true ∧ S' = S) ∨ (kb = false ∧ S' = fun _ => True)) :
    ∀ (fuel : Nat) (listed : Array Bool) (a : Act) (w : World),
      (∀ j oj, ops[j]? = some oj → j ≠ i → listed.getD j true = false → (∀ e ∈ oj.after, Region.binds md e = true → e.on ≠ i) → oi.apart ops oj = true) →
      i ∈ Region.ready md ops listed → YieldsIf P ops S' oi v a → (kb = true → notYet fin listed = true) → (notYet fin listed = true → S w) →
      wpAnyG P md ops Q S fin fuel (listed.setIfInBounds i true) (a.put oi.dst v) w → wpAnyG P md ops Q S fin (fuel + 1) listed a w := by
  intro fuel
  induction fuel with
  | zero =>
    intro listed a w _ hr hy hny hS H
    have hS' : S' w := by
      rcases hcase with ⟨hk, _, e⟩ | ⟨_, e⟩
      · rw [e]; exact hS (hny hk)
      · rw [e]; trivial
    refine ⟨fun h => (by rw [h] at hr; cases hr), fun j hj => ?_⟩
    by_cases hji : j = i
    · subst hji; exact hy.wpOp hi hS' ⟨fun h => hS (by rwa [notYet_set hifin] at h), H⟩
    · have := ready_mono hj hji
      rw [H.1] at this
      cases this
  | succ fuel ih =>
    intro listed a w hfree hr hy hny hS H
    have hS' : S' w := by
      rcases hcase with ⟨hk, _, e⟩ | ⟨_, e⟩
      · rw [e]; exact hS (hny hk)
      · rw [e]; trivial
    refine ⟨fun h => (by rw [h] at hr; cases hr), fun j hj => ?_⟩
    by_cases hji : j = i
    · subst hji; exact hy.wpOp hi hS' ⟨fun h => hS (by rwa [notYet_set hifin] at h), H⟩
    · have h1 := H.2 j (ready_mono hj hji)
      obtain ⟨hjun, oj, hoj, hall⟩ := mem_ready.1 hj
      have hnot : ∀ e ∈ oj.after, Region.binds md e = true → e.on ≠ i := fun e he hb heq => by
        have h1 := hall e he hb
        have h0 := (mem_ready.1 hr).1
        rw [heq] at h1
        rcases Nat.lt_or_ge i listed.size with h' | h'
        · simp [h'] at h0 h1; rw [h0] at h1; cases h1
        · simp [Array.getElem?_eq_none h'] at h1
      have h2 := wpOp_putIf hoj (hfree j oj hoj hji hjun hnot) (fun cs b => hsel i oi cs b hi) (fun cs b => hsel j oj cs b hoj) hQ hy h1
      have hfree' : ∀ k ok, ops[k]? = some ok → k ≠ i → (listed.setIfInBounds j true).getD k true = false →
          (∀ e ∈ ok.after, Region.binds md e = true → e.on ≠ i) → oi.apart ops ok = true := fun k ok hk hki hun hno => by
        refine hfree k ok hk hki ?_ hno
        by_cases hjk : j = k
        · subst hjk; exact hjun
        · rw [getD_set_ne true hjk] at hun; exact hun
      have hcm : notYet fin ((listed.setIfInBounds i true).setIfInBounds j true) = notYet fin (listed.setIfInBounds j true) := by
        rw [Array.setIfInBounds_comm _ _ (Ne.symm hji), notYet_set hifin]
      have hny' : kb = true → notYet fin (listed.setIfInBounds j true) = true := fun e => by
        rcases hcase with ⟨_, hl, _⟩ | ⟨e2, _⟩
        · have hjf : j ∉ fin := fun hm => by
            obtain ⟨e', he', hb', hon⟩ := lastZ_spec hl hm hoj
            rcases hon with hon | hon
            · exact hnot e' he' hb' hon
            · have h1 := hall e' he' hb'
              have h0 := List.all_eq_true.1 (hny e) _ hon
              simp only [Bool.not_eq_true'] at h0
              rcases Nat.lt_or_ge e'.on listed.size with h' | h'
              · simp [h'] at h0 h1; rw [h0] at h1; cases h1
              · simp [Array.getElem?_eq_none h'] at h1
          rw [notYet_set hjf]
          exact hny e
        · rw [e] at e2; cases e2
      refine wpOp_mono (fun a' w' h3 => ⟨fun h => h3.2.1 (by rw [hcm]; exact h), ih (listed.setIfInBounds j true) a' w' hfree' (ready_mono hr (Ne.symm hji)) h3.1 hny' (fun h => h3.2.1 (by rw [hcm]; exact h)) ?_⟩) h2
      rw [Array.setIfInBounds_comm _ _ hji]
      exact h3.2.2

/-- An operation that reads under S; all of 'fin' wait for it, at once or through others of 'fin'. -/
theorem wpAnyG_takeZ {i : Nat} {oi : Oper} {v : Value} {fuel : Nat} {listed : Array Bool} {a : Act} {w : World} (hi' : ops.toList[i]? = some oi)
    (hs : Region.noSelect ops = true) (hf : Region.free md ops listed i = true) (hr : (Region.ready md ops listed).contains i = true) (hfin : (!fin.contains i && lastZ md ops fin i && notYet fin listed) = true)
    (hQ : ∀ c a w, Q (.panic c) (a.put oi.dst v) w → Q (.panic c) a w) (hy : YieldsIf P ops S oi v a) (hS : S w)
    (h : wpAnyG P md ops Q S fin fuel (listed.setIfInBounds i true) (a.put oi.dst v) w) : wpAnyG P md ops Q S fin (fuel + 1) listed a w := by
  have hi : ops[i]? = some oi := by simpa using hi'
  simp only [Bool.and_eq_true] at hfin
  exact wpAnyG_firstZ true hi (Region.noSelect_spec hs) hQ (by simpa using hfin.1.1) (.inl ⟨rfl, hfin.1.2, rfl⟩) fuel listed a w (Region.free_spec hi hf) (by simpa using hr) hy (fun _ => hfin.2) (fun _ => hS) h

/-- An operation without memory behind one of 'fin'. -/
theorem wpAnyG_late {i : Nat} {oi : Oper} {v : Value} {fuel : Nat} {listed : Array Bool} {a : Act} {w : World} (hi' : ops.toList[i]? = some oi)
    (hs : Region.noSelect ops = true) (hf : Region.free md ops listed i = true) (hr : (Region.ready md ops listed).contains i = true) (hfin : (!fin.contains i) = true) (hn : notYet fin listed = false)
    (hQ : ∀ c a w, Q (.panic c) (a.put oi.dst v) w → Q (.panic c) a w) (hy : YieldsIf P ops (fun _ => True) oi v a)
    (h : wpAnyG P md ops Q S fin fuel (listed.setIfInBounds i true) (a.put oi.dst v) w) : wpAnyG P md ops Q S fin (fuel + 1) listed a w :=
  wpAnyG_pure hi' hs hf hr hfin hQ hy (fun h => by rw [hn] at h; cases h) h
end
end Go.Proofs.Ytjjanjhoaiannaa
