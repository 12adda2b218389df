/- A region that draws its order, in which some operations (the last stores) wait for those that read: what holds of the world (S) need not hold once one of them has run. No program in sight. After the kit's 'wpAnyH'; A region that draws its order: a call that leaves the world as it is may be taken first; two or three that may come up. No program in sight; A region that draws its order: an operation whose guard is met (the kit's wpAnyH). No program in sight; Drawn regions: two or three operations that may come next; A region that draws its order: some last operations (fin) wait for those that read, at once or through others of fin; sha256: the rounds of a block, as they run (the words in a ring of sixteen); sha256: a block's words; a digest's bytes; the initial state; sha256: a hash in memory, what it has absorbed. Plain law; no walk. -/
import Derived.Test.YtplclpileejemaaDoorJB1
import Derived.Deep.Quiet
import Derived.Test.YtplclpileejemaaDoorJB3
import Derived.Deep.RegionHeld3
namespace Go.Proofs.YtplclpileejemaaDoor
open Go
set_option linter.unusedVariables false
set_option linter.unusedSimpArgs false

section
variable {P : Program} {ops : Array Oper} {Q : Exit → Act → World → Prop} {md : Region.Mode} {S : World → Prop} {fin : List Nat}

/-- None of 'fin' has run. -/
def notYet (fin : List Nat) (listed : Array Bool) : Bool := fin.all fun j => !listed.getD j true

/-- Whatever order is picked from here on; 'S' holds until one of 'fin' has run. -/
def wpAnyG (P : Program) (md : Region.Mode) (ops : Array Oper) (Q : Exit → Act → World → Prop) (S : World → Prop) (fin : List Nat) : Nat → Array Bool → Act → World → Prop
  | 0, listed, a, w => Region.ready md ops listed = [] ∧ Q .normal a w
  | fuel + 1, listed, a, w =>
    (Region.ready md ops listed = [] → Q .normal a w) ∧
    ∀ i ∈ Region.ready md ops listed, wpOp P ops Q i (fun a' w' => (notYet fin (listed.setIfInBounds i true) = true → S w') ∧ wpAnyG P md ops Q S fin fuel (listed.setIfInBounds i true) a' w') a w

theorem wpAny_of_G : ∀ (fuel : Nat) (listed : Array Bool) (a : Act) (w : World), wpAnyG P md ops Q S fin fuel listed a w → wpAny P md ops Q fuel listed a w
  | 0, _, _, _, h => h
  | fuel + 1, _, _, _, h => ⟨h.1, fun i hi => wpOp_mono (fun a' w' h' => wpAny_of_G fuel _ a' w' h'.2) (h.2 i hi)⟩

/-- Each of 'fin' waits for 'i'. -/
def lastBs (md : Region.Mode) (ops : Array Oper) (fin : List Nat) (i : Nat) : Bool :=
  fin.all fun j => match ops[j]? with | some o => o.after.any fun e => Region.binds md e && e.on == i | none => false

theorem lastBs_spec {i j : Nat} (h : lastBs md ops fin i = true) (hj : j ∈ fin) {o : Oper} (ho : ops[j]? = some o) : ∃ e ∈ o.after, Region.binds md e = true ∧ e.on = i := by
  unfold lastBs at h
  have h := List.all_eq_true.1 h j hj
  simp only [ho] at h
  obtain ⟨e, he, hb⟩ := Array.any_eq_true'.1 h
  simp only [Bool.and_eq_true, beq_iff_eq] at hb
  exact ⟨e, he, hb.1, hb.2⟩

theorem notYet_set {listed : Array Bool} {i : Nat} (hi : i ∉ fin) : notYet fin (listed.setIfInBounds i true) = notYet fin listed := by
  unfold notYet
  rw [Bool.eq_iff_iff, List.all_eq_true, List.all_eq_true]
  constructor
  · intro h j hj
    have := h j hj
    rwa [getD_set_ne true (fun e => hi (by subst e; exact hj))] at this
  · intro h j hj
    rw [getD_set_ne true (fun e => hi (by subst e; exact hj))]
    exact h j hj

/-- The common part: 'i' is taken first. Either it reads under S, and all of 'fin' wait for it, or it reads no memory. -/
theorem wpAnyG_first {S' : World → Prop} (kb : Bool) {i : Nat} {oi : Oper} {v : Value} (hi : ops[i]? = some oi) (hsel : ∀ (j : Nat) (o : Oper) cs b, ops[j]? = some o → o.op ≠ .select cs b)
    (hQ : ∀ c a w, Q (.panic c) (a.put oi.dst v) w → Q (.panic c) a w) (hifin : i ∉ fin) (hcase : (kb = true ∧ lastBs md ops fin i = true ∧ S' = S) ∨ (kb = false ∧ S' = fun _ => True)) :
    ∀ (fuel : Nat) (listed : Array Bool) (a : Act) (w : World),
      (∀ j oj, ops[j]? = some oj → j ≠ i → listed.getD j true = false → (∀ e ∈ oj.after, Region.binds md e = true → e.on ≠ i) → oi.apart ops oj = true) →
      i ∈ Region.ready md ops listed → YieldsIf P ops S' oi v a → (kb = true → notYet fin listed = true) → (notYet fin listed = true → S w) →
      wpAnyG P md ops Q S fin fuel (listed.setIfInBounds i true) (a.put oi.dst v) w → wpAnyG P md ops Q S fin (fuel + 1) listed a w := by
  intro fuel
  induction fuel with
  | zero =>
    intro listed a w _ hr hy hny hS H
    have hS' : S' w := by
      rcases hcase with ⟨hk, _, e⟩ | ⟨_, e⟩
      · rw [e]; exact hS (hny hk)
      · rw [e]; trivial
    refine ⟨fun h => (by rw [h] at hr; cases hr), fun j hj => ?_⟩
    by_cases hji : j = i
    · subst hji; exact hy.wpOp hi hS' ⟨fun h => hS (by rwa [notYet_set hifin] at h), H⟩
    · have := ready_mono hj hji
      rw [H.1] at this
      cases this
  | succ fuel ih =>
    intro listed a w hfree hr hy hny hS H
    have hS' : S' w := by
      rcases hcase with ⟨hk, _, e⟩ | ⟨_, e⟩
      · rw [e]; exact hS (hny hk)
      · rw [e]; trivial
    refine ⟨fun h => (by rw [h] at hr; cases hr), fun j hj => ?_⟩
    by_cases hji : j = i
    · subst hji; exact hy.wpOp hi hS' ⟨fun h => hS (by rwa [notYet_set hifin] at h), H⟩
    · have h1 := H.2 j (ready_mono hj hji)
      obtain ⟨hjun, oj, hoj, hall⟩ := mem_ready.1 hj
      have hnot : ∀ e ∈ oj.after, Region.binds md e = true → e.on ≠ i := fun e he hb heq => by
        have h1 := hall e he hb
        have h0 := (mem_ready.1 hr).1
        rw [heq] at h1
        rcases Nat.lt_or_ge i listed.size with h' | h'
        · simp [h'] at h0 h1; rw [h0] at h1; cases h1
        · simp [Array.getElem?_eq_none h'] at h1
      have h2 := wpOp_putIf hoj (hfree j oj hoj hji hjun hnot) (fun cs b => hsel i oi cs b hi) (fun cs b => hsel j oj cs b hoj) hQ hy h1
      have hfree' : ∀ k ok, ops[k]? = some ok → k ≠ i → (listed.setIfInBounds j true).getD k true = false →
          (∀ e ∈ ok.after, Region.binds md e = true → e.on ≠ i) → oi.apart ops ok = true := fun k ok hk hki hun hno => by
        refine hfree k ok hk hki ?_ hno
        by_cases hjk : j = k
        · subst hjk; exact hjun
        · rw [getD_set_ne true hjk] at hun; exact hun
      have hcm : notYet fin ((listed.setIfInBounds i true).setIfInBounds j true) = notYet fin (listed.setIfInBounds j true) := by
        rw [Array.setIfInBounds_comm _ _ (Ne.symm hji), notYet_set hifin]
      have hny' : kb = true → notYet fin (listed.setIfInBounds j true) = true := fun e => by
        rcases hcase with ⟨_, hl, _⟩ | ⟨e2, _⟩
        · have hjf : j ∉ fin := fun hm => by
            obtain ⟨e', he', hb', hon⟩ := lastBs_spec hl hm hoj
            exact hnot e' he' hb' hon
          rw [notYet_set hjf]
          exact hny e
        · rw [e] at e2; cases e2
      refine wpOp_mono (fun a' w' h3 => ⟨fun h => h3.2.1 (by rw [hcm]; exact h), ih (listed.setIfInBounds j true) a' w' hfree' (ready_mono hr (Ne.symm hji)) h3.1 hny' (fun h => h3.2.1 (by rw [hcm]; exact h)) ?_⟩) h2
      rw [Array.setIfInBounds_comm _ _ hji]
      exact h3.2.2

/-- An operation that reads under S; all of 'fin' wait for it. -/
theorem wpAnyG_take {i : Nat} {oi : Oper} {v : Value} {fuel : Nat} {listed : Array Bool} {a : Act} {w : World} (hi' : ops.toList[i]? = some oi)
    (hs : Region.noSelect ops = true) (hf : Region.free md ops listed i = true) (hr : (Region.ready md ops listed).contains i = true) (hfin : (!fin.contains i && lastBs md ops fin i && notYet fin listed) = true)
    (hQ : ∀ c a w, Q (.panic c) (a.put oi.dst v) w → Q (.panic c) a w) (hy : YieldsIf P ops S oi v a) (hS : S w)
    (h : wpAnyG P md ops Q S fin fuel (listed.setIfInBounds i true) (a.put oi.dst v) w) : wpAnyG P md ops Q S fin (fuel + 1) listed a w := by
  have hi : ops[i]? = some oi := by simpa using hi'
  simp only [Bool.and_eq_true] at hfin
  exact wpAnyG_first true hi (Region.noSelect_spec hs) hQ (by simpa using hfin.1.1) (.inl ⟨rfl, hfin.1.2, rfl⟩) fuel listed a w (Region.free_spec hi hf) (by simpa using hr) hy (fun _ => hfin.2) (fun _ => hS) h

/-- An operation that reads no memory. -/
theorem wpAnyG_pure {i : Nat} {oi : Oper} {v : Value} {fuel : Nat} {listed : Array Bool} {a : Act} {w : World} (hi' : ops.toList[i]? = some oi)
    (hs : Region.noSelect ops = true) (hf : Region.free md ops listed i = true) (hr : (Region.ready md ops listed).contains i = true) (hfin : (!fin.contains i) = true)
    (hQ : ∀ c a w, Q (.panic c) (a.put oi.dst v) w → Q (.panic c) a w) (hy : YieldsIf P ops (fun _ => True) oi v a) (hS : notYet fin listed = true → S w)
    (h : wpAnyG P md ops Q S fin fuel (listed.setIfInBounds i true) (a.put oi.dst v) w) : wpAnyG P md ops Q S fin (fuel + 1) listed a w := by
  have hi : ops[i]? = some oi := by simpa using hi'
  exact wpAnyG_first false hi (Region.noSelect_spec hs) hQ (by simpa using hfin) (.inr ⟨rfl, rfl⟩) fuel listed a w (Region.free_spec hi hf) (by simpa using hr) hy (fun e => by cases e) hS h

/-- One alone may come up. -/
theorem wpAnyG_only {i : Nat} {fuel : Nat} {listed : Array Bool} {a : Act} {w : World} (hr : Region.ready md ops listed = [i])
    (h : wpOp P ops Q i (fun a' w' => (notYet fin (listed.setIfInBounds i true) = true → S w') ∧ wpAnyG P md ops Q S fin fuel (listed.setIfInBounds i true) a' w') a w) : wpAnyG P md ops Q S fin (fuel + 1) listed a w :=
  ⟨fun h0 => absurd (hr ▸ h0) (by simp), fun j hj => by rw [hr] at hj; obtain rfl : j = i := by simpa using hj
                                                        exact h⟩
/-- .. an operation without a guard: by its own run. -/
theorem wpAnyG_do {i : Nat} {oi : Oper} {fuel : Nat} {listed : Array Bool} {a : Act} {w : World} (hr : Region.ready md ops listed = [i]) (hi' : ops.toList[i]? = some oi) (hg : oi.guard = none)
    (h : ∀ K : Act → World → Prop, (∀ a' w', S w' → wpAnyG P md ops Q S fin fuel (listed.setIfInBounds i true) a' w' → K a' w') → oi.wp P a w K Q) : wpAnyG P md ops Q S fin (fuel + 1) listed a w := by
  have hi : ops[i]? = some oi := by simpa using hi'
  refine wpAnyG_only hr ?_
  unfold wpOp
  simp only [hi]
  rw [if_pos (by simp [Region.wanted, hg])]
  exact .inl (h _ (fun a' w' h1 h2 => ⟨fun _ => h1, h2⟩))
/-- .. one of 'fin', or one behind such. -/
theorem wpAnyG_fin {i : Nat} {oi : Oper} {fuel : Nat} {listed : Array Bool} {a : Act} {w : World} (hr : Region.ready md ops listed = [i]) (hi' : ops.toList[i]? = some oi) (hg : oi.guard = none) (hn : notYet fin (listed.setIfInBounds i true) = false)
    (h : ∀ K : Act → World → Prop, (∀ a' w', wpAnyG P md ops Q S fin fuel (listed.setIfInBounds i true) a' w' → K a' w') → oi.wp P a w K Q) : wpAnyG P md ops Q S fin (fuel + 1) listed a w := by
  have hi : ops[i]? = some oi := by simpa using hi'
  refine wpAnyG_only hr ?_
  unfold wpOp
  simp only [hi]
  rw [if_pos (by simp [Region.wanted, hg])]
  exact .inl (h _ (fun a' w' h2 => ⟨fun h => (by rw [hn] at h; cases h), h2⟩))

/-- A guarded operation that is wanted (.. that is not): it yields by its run (.. nothing). -/
theorem yieldsIf_want {S' : World → Prop} {o : Oper} {v : Value} {a : Act} (hw : Region.wanted o (yielded ops a.tmps) = true) (h : ∀ w, S' w → (execOp a.eval o).run P w = .ok (.value v) w) : YieldsIf P ops S' o v a := .inl ⟨hw, h⟩
theorem yieldsIf_skip {S' : World → Prop} {o : Oper} {a : Act} (hw : Region.wanted o (yielded ops a.tmps) = false) : YieldsIf P ops S' o undef a := .inr ⟨hw, rfl⟩
/-- One alone may come up, guarded and wanted. -/
theorem wpAnyG_want {i : Nat} {oi : Oper} {fuel : Nat} {listed : Array Bool} {a : Act} {w : World} (hr : Region.ready md ops listed = [i]) (hi' : ops.toList[i]? = some oi) (hw : Region.wanted oi (yielded ops a.tmps) = true)
    (h : ∀ K : Act → World → Prop, (∀ a' w', S w' → wpAnyG P md ops Q S fin fuel (listed.setIfInBounds i true) a' w' → K a' w') → oi.wp P a w K Q) : wpAnyG P md ops Q S fin (fuel + 1) listed a w := by
  have hi : ops[i]? = some oi := by simpa using hi'
  refine wpAnyG_only hr ?_
  unfold wpOp
  simp only [hi]
  rw [if_pos hw]
  exact .inl (h _ (fun a' w' h1 h2 => ⟨fun _ => h1, h2⟩))

theorem wpAnyG_done {listed : Array Bool} {a : Act} {w : World} (hr : Region.ready md ops listed = []) (h : Q .normal a w) :
    ∀ fuel, wpAnyG P md ops Q S fin fuel listed a w
  | 0 => ⟨hr, h⟩
  | _ + 1 => ⟨fun _ => h, by rw [hr]; simp⟩

theorem wp_region_G {id : Nat} {a : Act} {w : World} (fin : List Nat) (S : World → Prop) (hm : P.follows .mixedOrders = true)
    (h : wpAnyG P .any ops Q S fin ops.size (Array.replicate ops.size false) a w.drew) : (Code.region id ops true).wp P Q a w :=
  wp_region_any hm (wpAny_of_G _ _ _ _ h)
end

end Go.Proofs.YtplclpileejemaaDoor

namespace Go.Proofs.YtplclpileejemaaDoor
open Go
set_option linter.unusedVariables false
set_option linter.unusedSimpArgs false

section
variable {P : Program} {ops : Array Oper} {Q : Exit → Act → World → Prop} {md : Region.Mode} {S : World → Prop} {fin : Nat}

/-- What an operation does to the frame: one slot, and what is deferred. -/
theorem wpOp_form {j : Nat} {oj : Oper} {a : Act} {w : World} {K : Act → World → Prop} (hj : ops[j]? = some oj) (h : wpOp P ops Q j K a w) :
    wpOp P ops Q j (fun a' w' => (∃ u, a'.tmps = (a.put oj.dst u).tmps) ∧ K a' w') a w := by
  have hd : ∀ d u, (Act.put { a with defers := d :: a.defers } oj.dst u).tmps = (a.put oj.dst u).tmps := fun d u => by unfold Act.put; cases oj.dst <;> rfl
  unfold wpOp at *
  simp only [hj] at *
  split
  · rename_i hw
    simp only [hw, if_true] at h
    rcases h with h | h
    case inr => exact .inr h
    refine .inl ?_
    unfold Oper.wp at *
    generalize (execOp a.eval oj).run P w = r at *
    cases r with
    | ok n w' =>
      cases n <;> simp only [Oper.upon] at h ⊢
      case value u => exact ⟨⟨u, rfl⟩, h⟩
      case skip => exact ⟨⟨_, rfl⟩, h⟩
      case defer d => exact ⟨⟨_, hd d _⟩, h⟩
      case enter f args => exact Calls.mono h fun e w'' he => by cases e <;> first | exact ⟨⟨_, rfl⟩, he⟩ | exact he
      case row row args => exact Rows.mono h fun u w'' he => ⟨⟨_, rfl⟩, he⟩
    | halt x w' => cases x <;> simp only [Oper.upon] at h ⊢ <;> exact h
  · rename_i hw
    simp only [hw] at h
    exact ⟨⟨_, rfl⟩, h⟩

/-- In every world that meets S the operation (a call that leaves the world alone, say) yields v. -/
def YieldsC (P : Program) (ops : Array Oper) (S : World → Prop) (o : Oper) (v : Value) (a : Act) : Prop :=
  Region.wanted o (yielded ops a.tmps) = true ∧ ∀ w, S w → o.quietAt P a (fun x => x = w) w v

theorem YieldsC.wpOp {i : Nat} {o : Oper} {v : Value} {a : Act} (hi : ops[i]? = some o) (hy : YieldsC P ops S o v a) {K : Act → World → Prop} {w : World} (hS : S w) (h : K (a.put o.dst v) w) : wpOp P ops Q i K a w := by
  unfold Go.wpOp
  simp only [hi]
  rw [if_pos hy.1]
  exact .inl (Oper.wp_of_quiet (C := fun x => x = w) (K := fun a' => K a' w) rfl (fun a' w' e hk => by rw [e]; exact hk) ⟨v, fun w' e => by rw [e]; exact hy.2 w hS, h⟩)

theorem eval_tmps {a a' : Act} (h : a'.tmps = a.tmps) : a'.eval = a.eval := by
  funext x
  cases x <;> simp [Act.eval, h]

theorem wpAnyF_firstC {i : Nat} {oi : Oper} {v : Value} (hi : ops[i]? = some oi) (hsel : ∀ (j : Nat) (o : Oper) cs b, ops[j]? = some o → o.op ≠ .select cs b)
    (hQ : ∀ c a w, Q (.panic c) (a.put oi.dst v) w → Q (.panic c) a w) (hfin : lastB md ops fin i = true) :
    ∀ (fuel : Nat) (listed : Array Bool) (a : Act) (w : World),
      (∀ j oj, ops[j]? = some oj → j ≠ i → listed.getD j true = false → (∀ e ∈ oj.after, Region.binds md e = true → e.on ≠ i) → oi.apart ops oj = true) →
      i ∈ Region.ready md ops listed → YieldsC P ops S oi v a → S w →
      wpAnyF P md ops Q S fin fuel (listed.setIfInBounds i true) (a.put oi.dst v) w → wpAnyF P md ops Q S fin (fuel + 1) listed a w := by
  intro fuel
  induction fuel with
  | zero =>
    intro listed a w _ hr hy hS H
    refine ⟨fun h => (by rw [h] at hr; cases hr), fun j hj => ?_⟩
    by_cases hji : j = i
    · subst hji; exact hy.wpOp hi hS ⟨fun _ => hS, H⟩
    · have := ready_mono hj hji
      rw [H.1] at this
      cases this
  | succ fuel ih =>
    intro listed a w hfree hr hy hS H
    refine ⟨fun h => (by rw [h] at hr; cases hr), fun j hj => ?_⟩
    by_cases hji : j = i
    · subst hji; exact hy.wpOp hi hS ⟨fun _ => hS, H⟩
    · have h1 := H.2 j (ready_mono hj hji)
      obtain ⟨hjun, oj, hoj, hall⟩ := mem_ready.1 hj
      have hnot : ∀ e ∈ oj.after, Region.binds md e = true → e.on ≠ i := fun e he hb heq => by
        have h1 := hall e he hb
        have h0 := (mem_ready.1 hr).1
        rw [heq] at h1
        rcases Nat.lt_or_ge i listed.size with h' | h'
        · simp [h'] at h0 h1; rw [h0] at h1; cases h1
        · simp [Array.getElem?_eq_none h'] at h1
      have hjf : j ≠ fin := fun e => by
        subst e
        obtain ⟨e', he', hb', hon⟩ := lastB_spec hfin hoj
        exact hnot e' he' hb' hon
      have hap := hfree j oj hoj hji hjun hnot
      obtain ⟨_, _, h3⟩ := Oper.apart_spec hap
      have h2 := wpOp_form hoj (wpOp_putIf (S := fun _ => False) hoj hap (fun cs b => hsel i oi cs b hi) (fun cs b => hsel j oj cs b hoj) hQ (.inl ⟨hy.1, fun _ h => h.elim⟩) h1)
      have hfree' : ∀ k ok, ops[k]? = some ok → k ≠ i → (listed.setIfInBounds j true).getD k true = false →
          (∀ e ∈ ok.after, Region.binds md e = true → e.on ≠ i) → oi.apart ops ok = true := fun k ok hk hki hun hno => by
        refine hfree k ok hk hki ?_ hno
        by_cases hjk : j = k
        · subst hjk; exact hjun
        · rw [getD_set_ne true hjk] at hun; exact hun
      refine wpOp_mono (fun a' w' h4 => ?_) h2
      obtain ⟨⟨u, hu⟩, _, h5, h6⟩ := h4
      have hy' : YieldsC P ops S oi v a' := by
        refine ⟨?_, fun w hw => ?_⟩
        · rw [hu, wanted_put oi a oj.dst u h3]; exact hy.1
        · have := hy.2 w hw
          unfold Oper.quietAt at *
          rw [eval_tmps hu, execOp_put oi (fun cs b => hsel i oi cs b hi) a oj.dst u h3]
          exact this
      refine ⟨h5, ih (listed.setIfInBounds j true) a' w' hfree' (ready_mono hr (Ne.symm hji)) hy' (h5 hjf) ?_⟩
      rw [Array.setIfInBounds_comm _ _ hji]
      exact h6

theorem wpAnyF_takeC {i : Nat} {oi : Oper} {v : Value} {fuel : Nat} {listed : Array Bool} {a : Act} {w : World} (hi' : ops.toList[i]? = some oi)
    (hs : Region.noSelect ops = true) (hf : Region.free md ops listed i = true) (hr : (Region.ready md ops listed).contains i = true) (hfin : lastB md ops fin i = true)
    (hQ : ∀ c a w, Q (.panic c) (a.put oi.dst v) w → Q (.panic c) a w) (hy : YieldsC P ops S oi v a) (hS : S w)
    (h : wpAnyF P md ops Q S fin fuel (listed.setIfInBounds i true) (a.put oi.dst v) w) : wpAnyF P md ops Q S fin (fuel + 1) listed a w :=
  have hi : ops[i]? = some oi := by simpa using hi'
  wpAnyF_firstC hi (Region.noSelect_spec hs) hQ hfin fuel listed a w (Region.free_spec hi hf) (by simpa using hr) hy hS h

/-- Two may come up. -/
theorem wpAnyF_two {i j : Nat} {oi oj : Oper} {fuel : Nat} {listed : Array Bool} {a : Act} {w : World} (hr : Region.ready md ops listed = [i, j]) (hi' : ops.toList[i]? = some oi) (hj' : ops.toList[j]? = some oj) (hg : oi.guard = none) (hg2 : oj.guard = none)
    (h1 : ∀ K : Act → World → Prop, (∀ a' w', (i ≠ fin → S w') → wpAnyF P md ops Q S fin fuel (listed.setIfInBounds i true) a' w' → K a' w') → oi.wp P a w K Q)
    (h2 : ∀ K : Act → World → Prop, (∀ a' w', (j ≠ fin → S w') → wpAnyF P md ops Q S fin fuel (listed.setIfInBounds j true) a' w' → K a' w') → oj.wp P a w K Q) :
    wpAnyF P md ops Q S fin (fuel + 1) listed a w := by
  have hi : ops[i]? = some oi := by simpa using hi'
  have hj : ops[j]? = some oj := by simpa using hj'
  refine ⟨fun h0 => absurd (hr ▸ h0) (by simp), fun k hk => ?_⟩
  rw [hr] at hk
  rcases List.mem_cons.1 hk with rfl | hk
  · unfold wpOp
    simp only [hi]
    rw [if_pos (by simp [Region.wanted, hg])]
    exact .inl (h1 _ (fun a' w' h1 h2 => ⟨h1, h2⟩))
  · obtain rfl := List.mem_singleton.1 hk
    unfold wpOp
    simp only [hj]
    rw [if_pos (by simp [Region.wanted, hg2])]
    exact .inl (h2 _ (fun a' w' h1 h2 => ⟨h1, h2⟩))

/-! S holds behind every operation (the kit's 'wpAnyH'). -/
theorem wpAnyH_takeI {i : Nat} {oi : Oper} {v : Value} {fuel : Nat} {listed : Array Bool} {a : Act} {w : World} (hi' : ops.toList[i]? = some oi)
    (hs : Region.noSelect ops = true) (hf : Region.free md ops listed i = true) (hr : (Region.ready md ops listed).contains i = true)
    (hQ : ∀ c a w, Q (.panic c) (a.put oi.dst v) w → Q (.panic c) a w) (hy : YieldsIf P ops S oi v a) (hS : S w)
    (h : wpAnyH P md ops Q S fuel (listed.setIfInBounds i true) (a.put oi.dst v) w) : wpAnyH P md ops Q S (fuel + 1) listed a w :=
  wpAnyH_take (by simpa using hi') hs hf hr hQ hy hS h
theorem wpAnyH_do {i : Nat} {oi : Oper} {fuel : Nat} {listed : Array Bool} {a : Act} {w : World} (hr : Region.ready md ops listed = [i]) (hi' : ops.toList[i]? = some oi) (hg : oi.guard = none)
    (h : ∀ K : Act → World → Prop, (∀ a' w', S w' → wpAnyH P md ops Q S fuel (listed.setIfInBounds i true) a' w' → K a' w') → oi.wp P a w K Q) : wpAnyH P md ops Q S (fuel + 1) listed a w := by
  have hi : ops[i]? = some oi := by simpa using hi'
  refine wpAnyH_all hr (by simp) fun j hj => ?_
  obtain rfl := List.mem_singleton.1 hj
  unfold wpOp
  simp only [hi]
  rw [if_pos (by simp [Region.wanted, hg])]
  exact .inl (h _ (fun a' w' h1 h2 => ⟨h1, h2⟩))
theorem wp_region_H {id : Nat} {a : Act} {w : World} (S : World → Prop) (hm : P.follows .mixedOrders = true)
    (h : wpAnyH P .any ops Q S ops.size (Array.replicate ops.size false) a w.drew) : (Code.region id ops true).wp P Q a w :=
  wp_region_held hm h
end

end Go.Proofs.YtplclpileejemaaDoor

namespace Go.Proofs.YtplclpileejemaaDoor
open Go
set_option linter.unusedVariables false
set_option linter.unusedSimpArgs false

section
variable {P : Program} {ops : Array Oper} {Q : Exit → Act → World → Prop} {md : Region.Mode} {S : World → Prop}
theorem wpAnyH_want {i : Nat} {oi : Oper} {fuel : Nat} {listed : Array Bool} {a : Act} {w : World} (hr : Region.ready md ops listed = [i]) (hi' : ops.toList[i]? = some oi) (hw : Region.wanted oi (yielded ops a.tmps) = true)
    (h : ∀ K : Act → World → Prop, (∀ a' w', S w' → wpAnyH P md ops Q S fuel (listed.setIfInBounds i true) a' w' → K a' w') → oi.wp P a w K Q) : wpAnyH P md ops Q S (fuel + 1) listed a w := by
  have hi : ops[i]? = some oi := by simpa using hi'
  refine wpAnyH_all hr (by simp) fun j hj => ?_
  obtain rfl := List.mem_singleton.1 hj
  unfold wpOp
  simp only [hi]
  rw [if_pos hw]
  exact .inl (h _ (fun a' w' h1 h2 => ⟨h1, h2⟩))
end

end Go.Proofs.YtplclpileejemaaDoor

namespace Go.Proofs.YtplclpileejemaaDoor
open Go
set_option linter.unusedVariables false
set_option linter.unusedSimpArgs false

section
variable {P : Program} {ops : Array Oper} {Q : Exit → Act → World → Prop} {md : Region.Mode} {S : World → Prop}
theorem wpAnyH_some {rs : List Nat} {fuel : Nat} {listed : Array Bool} {a : Act} {w : World} (hr : Region.ready md ops listed = rs) (hne : rs ≠ [])
    (h : ∀ i ∈ rs, ∃ oi, ops.toList[i]? = some oi ∧ oi.guard = none ∧ ∀ K : Act → World → Prop, (∀ a' w', S w' → wpAnyH P md ops Q S fuel (listed.setIfInBounds i true) a' w' → K a' w') → oi.wp P a w K Q) : wpAnyH P md ops Q S (fuel + 1) listed a w := by
  refine wpAnyH_all hr hne fun j hj => ?_
  obtain ⟨oj, hj', hg, h⟩ := h j hj
  have hj2 : ops[j]? = some oj := by simpa using hj'
  unfold wpOp
  simp only [hj2]
  rw [if_pos (by simp [Region.wanted, hg])]
  exact .inl (h _ (fun a' w' h1 h2 => ⟨h1, h2⟩))
theorem wpAnyH_two {i j : Nat} {oi oj : Oper} {fuel : Nat} {listed : Array Bool} {a : Act} {w : World} (hr : Region.ready md ops listed = [i, j]) (hi' : ops.toList[i]? = some oi) (hj' : ops.toList[j]? = some oj) (hg : oi.guard = none) (hg2 : oj.guard = none)
    (h1 : ∀ K : Act → World → Prop, (∀ a' w', S w' → wpAnyH P md ops Q S fuel (listed.setIfInBounds i true) a' w' → K a' w') → oi.wp P a w K Q)
    (h2 : ∀ K : Act → World → Prop, (∀ a' w', S w' → wpAnyH P md ops Q S fuel (listed.setIfInBounds j true) a' w' → K a' w') → oj.wp P a w K Q) :
    wpAnyH P md ops Q S (fuel + 1) listed a w :=
  wpAnyH_some hr (by simp) fun x hx => by
    rcases List.mem_cons.1 hx with rfl | hx
    · exact ⟨oi, hi', hg, h1⟩
    · obtain rfl := List.mem_singleton.1 hx
      exact ⟨oj, hj', hg2, h2⟩
theorem wpAnyH_three {i j l : Nat} {oi oj ol : Oper} {fuel : Nat} {listed : Array Bool} {a : Act} {w : World} (hr : Region.ready md ops listed = [i, j, l]) (hi' : ops.toList[i]? = some oi) (hj' : ops.toList[j]? = some oj) (hl' : ops.toList[l]? = some ol) (hg : oi.guard = none) (hg2 : oj.guard = none) (hg3 : ol.guard = none)
    (h1 : ∀ K : Act → World → Prop, (∀ a' w', S w' → wpAnyH P md ops Q S fuel (listed.setIfInBounds i true) a' w' → K a' w') → oi.wp P a w K Q)
    (h2 : ∀ K : Act → World → Prop, (∀ a' w', S w' → wpAnyH P md ops Q S fuel (listed.setIfInBounds j true) a' w' → K a' w') → oj.wp P a w K Q)
    (h3 : ∀ K : Act → World → Prop, (∀ a' w', S w' → wpAnyH P md ops Q S fuel (listed.setIfInBounds l true) a' w' → K a' w') → ol.wp P a w K Q) :
    wpAnyH P md ops Q S (fuel + 1) listed a w :=
  wpAnyH_some hr (by simp) fun x hx => by
    rcases List.mem_cons.1 hx with rfl | hx
    · exact ⟨oi, hi', hg, h1⟩
    · rcases List.mem_cons.1 hx with rfl | hx
      · exact ⟨oj, hj', hg2, h2⟩
      · obtain rfl := List.mem_singleton.1 hx
        exact ⟨ol, hl', hg3, h3⟩
end

end Go.Proofs.YtplclpileejemaaDoor

namespace Go.Proofs.YtplclpileejemaaDoor
open Go
set_option linter.unusedVariables false
set_option linter.unusedSimpArgs false

section
variable {P : Program} {ops : Array Oper} {Q : Exit → Act → World → Prop} {md : Region.Mode} {S : World → Prop} {fin : List Nat}

/-- Each of 'fin' waits for 'i', or for another of 'fin'. -/
def lastZ (md : Region.Mode) (ops : Array Oper) (fin : List Nat) (i : Nat) : Bool :=
  fin.all fun j => match ops[j]? with | some o => o.after.any fun e => Region.binds md e && (e.on == i || fin.contains e.on) | none => false

theorem lastZ_spec {i j : Nat} (h : lastZ md ops fin i = true) (hj : j ∈ fin) {o : Oper} (ho : ops[j]? = some o) : ∃ e ∈ o.after, Region.binds md e = true ∧ (e.on = i ∨ e.on ∈ fin) := by
  unfold lastZ at h
  have h := List.all_eq_true.1 h j hj
  simp only [ho] at h
  obtain ⟨e, he, hb⟩ := Array.any_eq_true'.1 h
  simp only [Bool.and_eq_true, Bool.or_eq_true, beq_iff_eq, List.contains_iff_mem] at hb
  exact ⟨e, he, hb.1, hb.2⟩

/-- The common part: 'i' is taken first. Either it reads under S, and all of 'fin' wait for it, or it reads no memory. -/
theorem wpAnyG_firstZ {S' : World → Prop} (kb : Bool) {i : Nat} {oi : Oper} {v : Value} (hi : ops[i]? = some oi) (hsel : ∀ (j : Nat) (o : Oper) cs b, ops[j]? = some o → o.op ≠ .select cs b)
    (hQ : ∀ c a w, Q (.panic c) (a.put oi.dst v) w → Q (.panic c) a w) (hifin : i ∉ fin) (hcase : (kb = true ∧ lastZ md ops fin i = true ∧ S' = S) ∨ (kb = false ∧ S' = fun _ => True)) :
    ∀ (fuel : Nat) (listed : Array Bool) (a : Act) (w : World),
      (∀ j oj, ops[j]? = some oj → j ≠ i → listed.getD j true = false → (∀ e ∈ oj.after, Region.binds md e = true → e.on ≠ i) → oi.apart ops oj = true) →
      i ∈ Region.ready md ops listed → YieldsIf P ops S' oi v a → (kb = true → notYet fin listed = true) → (notYet fin listed = true → S w) →
      wpAnyG P md ops Q S fin fuel (listed.setIfInBounds i true) (a.put oi.dst v) w → wpAnyG P md ops Q S fin (fuel + 1) listed a w := by
  intro fuel
  induction fuel with
  | zero =>
    intro listed a w _ hr hy hny hS H
    have hS' : S' w := by
      rcases hcase with ⟨hk, _, e⟩ | ⟨_, e⟩
      · rw [e]; exact hS (hny hk)
      · rw [e]; trivial
    refine ⟨fun h => (by rw [h] at hr; cases hr), fun j hj => ?_⟩
    by_cases hji : j = i
    · subst hji; exact hy.wpOp hi hS' ⟨fun h => hS (by rwa [notYet_set hifin] at h), H⟩
    · have := ready_mono hj hji
      rw [H.1] at this
      cases this
  | succ fuel ih =>
    intro listed a w hfree hr hy hny hS H
    have hS' : S' w := by
      rcases hcase with ⟨hk, _, e⟩ | ⟨_, e⟩
      · rw [e]; exact hS (hny hk)
      · rw [e]; trivial
    refine ⟨fun h => (by rw [h] at hr; cases hr), fun j hj => ?_⟩
    by_cases hji : j = i
    · subst hji; exact hy.wpOp hi hS' ⟨fun h => hS (by rwa [notYet_set hifin] at h), H⟩
    · have h1 := H.2 j (ready_mono hj hji)
      obtain ⟨hjun, oj, hoj, hall⟩ := mem_ready.1 hj
      have hnot : ∀ e ∈ oj.after, Region.binds md e = true → e.on ≠ i := fun e he hb heq => by
        have h1 := hall e he hb
        have h0 := (mem_ready.1 hr).1
        rw [heq] at h1
        rcases Nat.lt_or_ge i listed.size with h' | h'
        · simp [h'] at h0 h1; rw [h0] at h1; cases h1
        · simp [Array.getElem?_eq_none h'] at h1
      have h2 := wpOp_putIf hoj (hfree j oj hoj hji hjun hnot) (fun cs b => hsel i oi cs b hi) (fun cs b => hsel j oj cs b hoj) hQ hy h1
      have hfree' : ∀ k ok, ops[k]? = some ok → k ≠ i → (listed.setIfInBounds j true).getD k true = false →
          (∀ e ∈ ok.after, Region.binds md e = true → e.on ≠ i) → oi.apart ops ok = true := fun k ok hk hki hun hno => by
        refine hfree k ok hk hki ?_ hno
        by_cases hjk : j = k
        · subst hjk; exact hjun
        · rw [getD_set_ne true hjk] at hun; exact hun
      have hcm : notYet fin ((listed.setIfInBounds i true).setIfInBounds j true) = notYet fin (listed.setIfInBounds j true) := by
        rw [Array.setIfInBounds_comm _ _ (Ne.symm hji), notYet_set hifin]
      have hny' : kb = true → notYet fin (listed.setIfInBounds j true) = true := fun e => by
        rcases hcase with ⟨_, hl, _⟩ | ⟨e2, _⟩
        · have hjf : j ∉ fin := fun hm => by
            obtain ⟨e', he', hb', hon⟩ := lastZ_spec hl hm hoj
            rcases hon with hon | hon
            · exact hnot e' he' hb' hon
            · have h1 := hall e' he' hb'
              have h0 := List.all_eq_true.1 (hny e) _ hon
              simp only [Bool.not_eq_true'] at h0
              rcases Nat.lt_or_ge e'.on listed.size with h' | h'
              · simp [h'] at h0 h1; rw [h0] at h1; cases h1
              · simp [Array.getElem?_eq_none h'] at h1
          rw [notYet_set hjf]
          exact hny e
        · rw [e] at e2; cases e2
      refine wpOp_mono (fun a' w' h3 => ⟨fun h => h3.2.1 (by rw [hcm]; exact h), ih (listed.setIfInBounds j true) a' w' hfree' (ready_mono hr (Ne.symm hji)) h3.1 hny' (fun h => h3.2.1 (by rw [hcm]; exact h)) ?_⟩) h2
      rw [Array.setIfInBounds_comm _ _ hji]
      exact h3.2.2

/-- An operation that reads under S; all of 'fin' wait for it, at once or through others of 'fin'. -/
theorem wpAnyG_takeZ {i : Nat} {oi : Oper} {v : Value} {fuel : Nat} {listed : Array Bool} {a : Act} {w : World} (hi' : ops.toList[i]? = some oi)
    (hs : Region.noSelect ops = true) (hf : Region.free md ops listed i = true) (hr : (Region.ready md ops listed).contains i = true) (hfin : (!fin.contains i && lastZ md ops fin i && notYet fin listed) = true)
    (hQ : ∀ c a w, Q (.panic c) (a.put oi.dst v) w → Q (.panic c) a w) (hy : YieldsIf P ops S oi v a) (hS : S w)
    (h : wpAnyG P md ops Q S fin fuel (listed.setIfInBounds i true) (a.put oi.dst v) w) : wpAnyG P md ops Q S fin (fuel + 1) listed a w := by
  have hi : ops[i]? = some oi := by simpa using hi'
  simp only [Bool.and_eq_true] at hfin
  exact wpAnyG_firstZ true hi (Region.noSelect_spec hs) hQ (by simpa using hfin.1.1) (.inl ⟨rfl, hfin.1.2, rfl⟩) fuel listed a w (Region.free_spec hi hf) (by simpa using hr) hy (fun _ => hfin.2) (fun _ => hS) h

/-- An operation without memory behind one of 'fin'. -/
theorem wpAnyG_late {i : Nat} {oi : Oper} {v : Value} {fuel : Nat} {listed : Array Bool} {a : Act} {w : World} (hi' : ops.toList[i]? = some oi)
    (hs : Region.noSelect ops = true) (hf : Region.free md ops listed i = true) (hr : (Region.ready md ops listed).contains i = true) (hfin : (!fin.contains i) = true) (hn : notYet fin listed = false)
    (hQ : ∀ c a w, Q (.panic c) (a.put oi.dst v) w → Q (.panic c) a w) (hy : YieldsIf P ops (fun _ => True) oi v a)
    (h : wpAnyG P md ops Q S fin fuel (listed.setIfInBounds i true) (a.put oi.dst v) w) : wpAnyG P md ops Q S fin (fuel + 1) listed a w :=
  wpAnyG_pure hi' hs hf hr hfin hQ hy (fun h => by rw [hn] at h; cases h) h
end
end Go.Proofs.YtplclpileejemaaDoor

namespace Go.Proofs.YtplclpileejemaaDoor
open Go.RowKit
set_option linter.unusedVariables false
set_option linter.unusedSimpArgs false

def kTab : List UInt32 := [
  0x428a2f98, 0x71374491, 0xb5c0fbcf, 0xe9b5dba5, 0x3956c25b, 0x59f111f1, 0x923f82a4, 0xab1c5ed5,
  0xd807aa98, 0x12835b01, 0x243185be, 0x550c7dc3, 0x72be5d74, 0x80deb1fe, 0x9bdc06a7, 0xc19bf174,
  0xe49b69c1, 0xefbe4786, 0x0fc19dc6, 0x240ca1cc, 0x2de92c6f, 0x4a7484aa, 0x5cb0a9dc, 0x76f988da,
  0x983e5152, 0xa831c66d, 0xb00327c8, 0xbf597fc7, 0xc6e00bf3, 0xd5a79147, 0x06ca6351, 0x14292967,
  0x27b70a85, 0x2e1b2138, 0x4d2c6dfc, 0x53380d13, 0x650a7354, 0x766a0abb, 0x81c2c92e, 0x92722c85,
  0xa2bfe8a1, 0xa81a664b, 0xc24b8b70, 0xc76c51a3, 0xd192e819, 0xd6990624, 0xf40e3585, 0x106aa070,
  0x19a4c116, 0x1e376c08, 0x2748774c, 0x34b0bcb5, 0x391c0cb3, 0x4ed8aa4a, 0x5b9cca4f, 0x682e6ff3,
  0x748f82ee, 0x78a5636f, 0x84c87814, 0x8cc70208, 0x90befffa, 0xa4506ceb, 0xbef9a3f7, 0xc67178f2]

/-- The table of the constants, where the program keeps it. -/
structure KAt (w : World) : Prop where
  size : 0 < w.heap.size
  cell : ∀ j, j < 64 → w.cell? ⟨0, j, none⟩ = some (.int .u32 (wN (kTab.getD j 0)))

/-- The words in a ring, behind the step t. -/
def ringStep (ws : List UInt32) (t : Nat) : List UInt32 :=
  if t < 16 then ws else ws.set (t % 16) (ws.getD (t % 16) 0 + (ss0 (ws.getD ((t - 15) % 16) 0) + ss1 (ws.getD ((t - 2) % 16) 0) + ws.getD ((t - 7) % 16) 0))
def ringAt (h : W8) (m : List UInt32) : Nat → W8 × List UInt32
  | 0 => (h, m)
  | t + 1 => ((ringAt h m t).1.round (kTab.getD t 0) ((ringStep (ringAt h m t).2 t).getD (t % 16) 0), ringStep (ringAt h m t).2 t)
theorem ringStep_length (ws : List UInt32) (t : Nat) : (ringStep ws t).length = ws.length := by
  unfold ringStep; split <;> simp
theorem ringAt_length (h : W8) (m : List UInt32) : ∀ t, (ringAt h m t).2.length = m.length
  | 0 => rfl
  | t + 1 => by rw [ringAt, ringStep_length]; exact ringAt_length h m t
def procW (h : W8) (m : List UInt32) : W8 := h.plus (ringAt h m 64).1

theorem wvs_at (ws : List UInt32) (i : Nat) (h : i < ws.length) : (wvs ws).toArray[i]? = some (.int .u32 (wN (ws.getD i 0))) := by
  simp [wvs, h, wv, List.getD]
theorem heap_four {w : World} {A B C D : Obj} : ((((w.alloc A).alloc B).alloc C).alloc D).heap[w.heap.size]? = some A ∧ ((((w.alloc A).alloc B).alloc C).alloc D).heap[w.heap.size + 1]? = some B ∧
    ((((w.alloc A).alloc B).alloc C).alloc D).heap[w.heap.size + 2]? = some C ∧ ((((w.alloc A).alloc B).alloc C).alloc D).heap[w.heap.size + 3]? = some D := by
  have h1 := heap_alloc_new w A
  have h2 := heap_alloc_new (w.alloc A) B
  have h3 := heap_alloc_new ((w.alloc A).alloc B) C
  have h4 := heap_alloc_new (((w.alloc A).alloc B).alloc C) D
  simp only [World.size_alloc] at h2 h3 h4
  refine ⟨?_, ?_, ?_, h4⟩
  · rw [Below.heap_alloc _ _ _ (by simp; omega), Below.heap_alloc _ _ _ (by simp; omega), Below.heap_alloc _ _ _ (by simp)]; exact h1
  · rw [Below.heap_alloc _ _ _ (by simp), Below.heap_alloc _ _ _ (by simp)]; exact h2
  · rw [Below.heap_alloc _ _ _ (by simp)]; exact h3

theorem oneCell_w8 (v : W8) : v.cells.toArray.all (·.oneCell') = true := by simp [W8.cells, wv, Value.oneCell']
theorem cells8 {w : World} {b : Nat} {v : W8} {T : TypeId} (h : w.heap[b]? = some (.cells v.cells.toArray T (0, 0))) :
    w.cell? ⟨b, 0, none⟩ = some (.int .u32 (wN v.a)) ∧ w.cell? ⟨b, 1, none⟩ = some (.int .u32 (wN v.b)) ∧ w.cell? ⟨b, 2, none⟩ = some (.int .u32 (wN v.c)) ∧ w.cell? ⟨b, 3, none⟩ = some (.int .u32 (wN v.d)) ∧
      w.cell? ⟨b, 4, none⟩ = some (.int .u32 (wN v.e)) ∧ w.cell? ⟨b, 5, none⟩ = some (.int .u32 (wN v.f)) ∧ w.cell? ⟨b, 6, none⟩ = some (.int .u32 (wN v.g)) ∧ w.cell? ⟨b, 7, none⟩ = some (.int .u32 (wN v.i)) := by
  simp [World.cell?, h, W8.cells, wv]

set_option maxRecDepth 100000 in
set_option maxHeartbeats 2000000 in
theorem process_any (h : W8) (m : List UInt32) (hm : m.length = 16) (w : World) (hK : KAt w) :
    Calls Tryd.prog 80 #[h.val, .agg (wvs m).toArray] w fun e w' => e = .returned (procW h m).val ∧ Below w.heap.size w w' := by
  have h4 := heap_four (w := w) (A := .cells h.cells.toArray 145) (B := .cells (wvs m).toArray 151) (C := .cells #[.int .u32 0, .int .u32 0, .int .u32 0, .int .u32 0, .int .u32 0, .int .u32 0, .int .u32 0, .int .u32 0] 145) (D := .cells h.cells.toArray 145)
  have hb4 : Below w.heap.size w ((((w.alloc (.cells h.cells.toArray 145)).alloc (.cells (wvs m).toArray 151)).alloc (.cells #[.int .u32 0, .int .u32 0, .int .u32 0, .int .u32 0, .int .u32 0, .int .u32 0, .int .u32 0, .int .u32 0] 145)).alloc (.cells h.cells.toArray 145)) := ((((Below.refl _ w).alloc (Nat.le_refl _) _).alloc (by simp) _).alloc (by simp; omega) _).alloc (by simp; omega) _
  have H4 := Lib.hid h4
  have HB4 := Lib.hid hb4
  clear h4 hb4
  unfold W8.val W8.cells wv
  go_enter Tryd.func80, Tryd.ntmps80
  go_wp2
  obtain ⟨w1, hw1⟩ : ∃ w1, _ = w1 := ⟨(((w.alloc (.cells h.cells.toArray 145)).alloc (.cells (wvs m).toArray 151)).alloc (.cells #[.int .u32 0, .int .u32 0, .int .u32 0, .int .u32 0, .int .u32 0, .int .u32 0, .int .u32 0, .int .u32 0] 145)).alloc (.cells h.cells.toArray 145), rfl⟩
  rw [hw1] at H4 HB4
  unfold W8.cells wv at hw1
  rw [hw1]
  clear hw1
  go_loopw [12] (fun i wr => ∃ k : Nat, k ≤ 64 ∧ i = .int .i64 (k : Int) ∧ wr.heap[w.heap.size + 1]? = some (.cells (wvs (ringAt h m k).2).toArray 151 (0, 0)) ∧
      wr.heap[w.heap.size + 3]? = some (.cells (ringAt h m k).1.cells.toArray 145 (0, 0)) ∧ Below w.heap.size w wr ∧ wr.heap[w.heap.size]? = w1.heap[w.heap.size]? ∧ wr.heap[w.heap.size + 2]? = w1.heap[w.heap.size + 2]?)
    (fun i _ => 64 - (intOf i).toNat)
  case atStart => exact ⟨0, Nat.zero_le _, rfl, H4.out.2.1, H4.out.2.2.2, HB4.out, rfl, rfl⟩
  case round =>
    obtain ⟨k, hk, rfl, hW, hV, hB, h0, h2⟩ := hrel
    obtain ⟨v, hv⟩ : ∃ v, (ringAt h m k).1 = v := ⟨_, rfl⟩
    obtain ⟨ws, hws⟩ : ∃ ws, (ringAt h m k).2 = ws := ⟨_, rfl⟩
    have hwl : ws.length = 16 := by rw [← hws, ringAt_length, hm]
    rw [hws] at hW
    rw [hv] at hV
    by_cases hlt : k < 64
    · obtain ⟨kk, hkk⟩ : ∃ kk, kTab.getD k 0 = kk := ⟨_, rfl⟩
      have hkc := hK.cell k hlt
      rw [hkk] at hkc
      have hk1 := (hB.cell (p := ⟨0, k, none⟩) hK.size).trans hkc
      by_cases h16 : 16 ≤ k
      · obtain ⟨i0, hi0⟩ : ∃ i0, i0 = k % 16 := ⟨_, rfl⟩
        obtain ⟨ia, hia⟩ : ∃ i, i = (k - 15) % 16 := ⟨_, rfl⟩
        obtain ⟨ib, hib⟩ : ∃ i, i = (k - 2) % 16 := ⟨_, rfl⟩
        obtain ⟨ic, hic⟩ : ∃ i, i = (k - 7) % 16 := ⟨_, rfl⟩
        have hi16 : i0 < 16 := by omega
        obtain ⟨xo, hxo⟩ : ∃ x, ws.getD i0 0 = x := ⟨_, rfl⟩
        obtain ⟨xa, hxa⟩ : ∃ x, ws.getD ia 0 = x := ⟨_, rfl⟩
        obtain ⟨xb, hxb⟩ : ∃ x, ws.getD ib 0 = x := ⟨_, rfl⟩
        obtain ⟨xc, hxc⟩ : ∃ x, ws.getD ic 0 = x := ⟨_, rfl⟩
        have co : wr.cell? ⟨w.heap.size + 1, i0, none⟩ = some (.int .u32 (wN xo)) := by rw [cell_of_row wr _ _ _ _ _ hW, wvs_at ws i0 (by omega), hxo]
        have ca : wr.cell? ⟨w.heap.size + 1, ia, none⟩ = some (.int .u32 (wN xa)) := by rw [cell_of_row wr _ _ _ _ _ hW, wvs_at ws ia (by omega), hxa]
        have cb : wr.cell? ⟨w.heap.size + 1, ib, none⟩ = some (.int .u32 (wN xb)) := by rw [cell_of_row wr _ _ _ _ _ hW, wvs_at ws ib (by omega), hxb]
        have cc : wr.cell? ⟨w.heap.size + 1, ic, none⟩ = some (.int .u32 (wN xc)) := by rw [cell_of_row wr _ _ _ _ _ hW, wvs_at ws ic (by omega), hxc]
        have fo := frozen_of_row wr _ i0 _ _ hW
        have ea1 : IntKind.i64.wrap ((k : Int) - 15) = (k : Int) - 15 := IntWalk.i64_in _ (by omega)
        have eb1 : IntKind.i64.wrap ((k : Int) - 2) = (k : Int) - 2 := IntWalk.i64_in _ (by omega)
        have ec1 : IntKind.i64.wrap ((k : Int) - 7) = (k : Int) - 7 := IntWalk.i64_in _ (by omega)
        have ea2 : ((k : Int) - 15).tmod 16 = (ia : Int) := by rw [Int.tmod_eq_emod_of_nonneg (by omega)]; omega
        have eb2 : ((k : Int) - 2).tmod 16 = (ib : Int) := by rw [Int.tmod_eq_emod_of_nonneg (by omega)]; omega
        have ec2 : ((k : Int) - 7).tmod 16 = (ic : Int) := by rw [Int.tmod_eq_emod_of_nonneg (by omega)]; omega
        have eo2 : ((k : Int)).tmod 16 = (i0 : Int) := by rw [Int.tmod_eq_emod_of_nonneg (by omega)]; omega
        have hi3 : (i0 : Int) < 16 := by omega
        have ha3 : (ia : Int) < 16 := by omega
        have hb3 : (ib : Int) < 16 := by omega
        have hc3 : (ic : Int) < 16 := by omega
        have hadd := n_add
        have hx := n_xor
        have hsa : ∀ a : UInt32, Op.shift .shr .u32 (wN a) .u64 3 = (pure (.int .u32 (wN (a >>> 3))) : Sem Value) := fun a => n_shift a .u64 3 (by decide)
        have hsb : ∀ a : UInt32, Op.shift .shr .u32 (wN a) .u64 10 = (pure (.int .u32 (wN (a >>> 10))) : Sem Value) := fun a => n_shift a .u64 10 (by decide)
        have h16' : (16 : Int) ≤ (k : Int) := by omega
        have HI0 := Lib.hid hi0
        have HIA := Lib.hid hia
        have HIB := Lib.hid hib
        have HIC := Lib.hid hic
        have HXO := Lib.hid hxo
        have HXA := Lib.hid hxa
        have HXB := Lib.hid hxb
        have HXC := Lib.hid hxc
        have HVE := Lib.hid hv
        have HWE := Lib.hid hws
        have HWL := Lib.hid hwl
        have HKE := Lib.hid hkk
        have HW := Lib.hid hW
        have HV := Lib.hid hV
        have HB := Lib.hid hB
        have H0 := Lib.hid h0
        have H2 := Lib.hid h2
        have HK1 := Lib.hid hk1
        clear hi0 hia hib hic hxo hxa hxb hxc hv hws hwl hkk hkc hW hV hB h0 h2 hk1 h16
        go_wp2_with fail
        go_quiet (fail)
        go_wp2_with (first | (go_at_call 83; (with_reducible refine (rot_q _ _ (by decide) (by decide) _).mono ?_); rintro e w' ⟨rfl, rfl⟩))
        obtain ⟨Wq, hWq⟩ : ∃ Wq, wr.drewN nq = Wq := ⟨_, rfl⟩
        have hq : ∀ j : Nat, Wq.heap[j]? = wr.heap[j]? := fun j => by rw [← hWq]; rfl
        have co1 : Wq.drew.cell? ⟨w.heap.size + 1, i0, none⟩ = some (.int .u32 (wN xo)) := (World.cell?_of_block (hq _)).trans co
        have cc1 : Wq.drew.cell? ⟨w.heap.size + 1, ic, none⟩ = some (.int .u32 (wN xc)) := (World.cell?_of_block (hq _)).trans cc
        have hWQ : Wq.heap[w.heap.size + 1]? = _ := (hq _).trans HW.out
        have fo1 : Wq.drew.frozen? ⟨w.heap.size + 1, i0, none⟩ = false := frozen_of_row Wq.drew _ i0 _ _ hWQ
        have hVQ : Wq.heap[w.heap.size + 3]? = _ := (hq _).trans HV.out
        have h0Q : Wq.heap[w.heap.size]? = _ := (hq _).trans H0.out
        have h2Q : Wq.heap[w.heap.size + 2]? = _ := (hq _).trans H2.out
        have hBQ : Below w.heap.size w Wq := by rw [← hWq]; exact below_drewN HB.out _
        rw [hWq]
        have HWQ := Lib.hid hWQ
        have HVQ := Lib.hid hVQ
        have H0Q := Lib.hid h0Q
        have H2Q := Lib.hid h2Q
        have HBQ := Lib.hid hBQ
        clear hWq hq hWQ hVQ h0Q h2Q hBQ co ca cb cc fo
        go_region
        obtain ⟨W1, hW1e⟩ : ∃ W1, (Wq.setCell ⟨w.heap.size + 1, i0, none⟩ (.int .u32 (wN (xo + ((rotr xa 7 ^^^ rotr xa 18 ^^^ xa >>> 3) + (rotr xb 17 ^^^ rotr xb 19 ^^^ xb >>> 10) + xc))))).drew = W1 := ⟨_, rfl⟩
        obtain ⟨x0, hx0e⟩ : ∃ x0, xo + ((rotr xa 7 ^^^ rotr xa 18 ^^^ xa >>> 3) + (rotr xb 17 ^^^ rotr xb 19 ^^^ xb >>> 10) + xc) = x0 := ⟨_, rfl⟩
        have hws := HWE.out
        have hwl := HWL.out
        have hv := HVE.out
        have hkk := HKE.out
        have hws2 : ringStep ws k = ws.set i0 x0 := by
          unfold ringStep
          rw [if_neg (by omega), ← HI0.out, ← HIA.out, ← HIB.out, ← HIC.out, HXO.out, HXA.out, HXB.out, HXC.out, ← hx0e]
          rfl
        rw [hx0e] at hW1e
        have hW : W1.heap[w.heap.size + 1]? = some (.cells (wvs (ws.set i0 x0)).toArray 151 (0, 0)) := by
          rw [← hW1e]
          have := heap_setCell_same Wq (w.heap.size + 1) i0 _ _ (.int .u32 (wN x0)) HWQ.out
          refine this.trans ?_
          simp [wvs, wv]
        have hot : ∀ j : Nat, j ≠ w.heap.size + 1 → W1.heap[j]? = Wq.heap[j]? := fun j hj => by rw [← hW1e]; exact heap_setCell_other Wq ⟨w.heap.size + 1, i0, none⟩ j _ hj
        have hV : W1.heap[w.heap.size + 3]? = _ := (hot _ (by omega)).trans HVQ.out
        have h0 : W1.heap[w.heap.size]? = _ := (hot _ (by omega)).trans H0Q.out
        have h2 : W1.heap[w.heap.size + 2]? = _ := (hot _ (by omega)).trans H2Q.out
        have hB : Below w.heap.size w W1 := by rw [← hW1e]; exact (HBQ.out.setCell (Nat.le_succ _) _).drew
        have hk1 := (hB.cell (p := ⟨0, k, none⟩) hK.size).trans (hkk ▸ hK.cell k hlt)
        have hx0 : W1.cell? ⟨w.heap.size + 1, i0, none⟩ = some (.int .u32 (wN x0)) := by rw [cell_of_row W1 _ _ _ _ _ hW, wvs_at _ i0 (by simp; omega)]; simp [show i0 < ws.length by omega]
        have hst : ringAt h m (k + 1) = (v.round kk x0, ws.set i0 x0) := by
          rw [ringAt, hv, hws, hws2, hkk, ← HI0.out]
          simp [show i0 < ws.length by omega]
        rw [hx0e, hW1e]
        have hm1 := eo2
        have hm2 : ((k : Int)) % 16 = (i0 : Int) := by have := HI0.out; omega
        have hlt3 : (0 < W1.heap.size ∧ w.heap.size + 1 < W1.heap.size) ∧ w.heap.size + 3 < W1.heap.size := ⟨⟨Nat.lt_of_lt_of_le hK.size hB.size, (Array.getElem?_eq_some_iff.1 hW).1⟩, (Array.getElem?_eq_some_iff.1 hV).1⟩
        have HLT := Lib.hid hlt3
        have HKK := Lib.hid hk1
        have HX0 := Lib.hid hx0
        have HV1 := Lib.hid hV
        have HW1 := Lib.hid hW
        have HB1 := Lib.hid hB
        have HST := Lib.hid hst
        have H01 := Lib.hid h0
        have H21 := Lib.hid h2

        clear hlt3 hk1 hx0 hV hW hst h0 h2 hB hv hws hwl hkk hot hws2 hW1e hx0e co1 cc1 fo1 HWQ HVQ H0Q H2Q HBQ ea1 eb1 ec1 ea2 eb2 ec2 hadd hx hsa hsb eo2
        go_wp2_with fail
        refine wp_region_noPanic ?_
        refine wp_region_G [8, 9] (fun w' => Below W1.heap.size W1 w') (by kernel_rfl) ?_
        have hS0 : (fun w' => Below W1.heap.size W1 w') W1.drew := (Below.refl _ _).drew
        refine wpAnyG_take (i := 0) (v := ?v1) rfl (by kernel_rfl) (by kernel_rfl) (by kernel_rfl) (by kernel_rfl) (fun _ _ _ h => h) (yieldsIf_run rfl (fun w' hw' => ?y1)) hS0 ?_
        case y1 => (obtain ⟨e0, e1, e2, e3, e4, e5, e6, e7⟩ := cells8 ((hw'.block _ HLT.out.2).trans HV1.out); clear hw'; first | (go_simp; rfl) | (go_simp; done))
        simp only [Act.put, List.setIfInBounds_toArray, List.set_cons_zero, List.set_cons_succ]
        refine wpAnyG_pure (i := 1) (v := ?v2) rfl (by kernel_rfl) (by kernel_rfl) (by kernel_rfl) (by kernel_rfl) (fun _ _ _ h => h) (yieldsIf_run rfl (fun w' hw' => ?y2)) (fun _ => hS0) ?_
        case y2 => first | (go_simp; rfl) | (go_simp; done) | rfl
        simp only [Act.put, List.setIfInBounds_toArray, List.set_cons_zero, List.set_cons_succ]
        refine wpAnyG_pure (i := 2) (v := ?v3) rfl (by kernel_rfl) (by kernel_rfl) (by kernel_rfl) (by kernel_rfl) (fun _ _ _ h => h) (yieldsIf_run rfl (fun w' hw' => ?y3)) (fun _ => hS0) ?_
        case y3 => first | (go_simp; rfl) | (go_simp; done) | rfl
        simp only [Act.put, List.setIfInBounds_toArray, List.set_cons_zero, List.set_cons_succ]
        refine wpAnyG_take (i := 3) (v := ?v4) rfl (by kernel_rfl) (by kernel_rfl) (by kernel_rfl) (by kernel_rfl) (fun _ _ _ h => h) (yieldsIf_run rfl (fun w' hw' => ?y4)) hS0 ?_
        case y4 => (have hk := (hw'.cell (p := ⟨0, k, none⟩) HLT.out.1.1).trans HKK.out; clear hw'; first | (go_simp; rfl) | (go_simp; done))
        simp only [Act.put, List.setIfInBounds_toArray, List.set_cons_zero, List.set_cons_succ]
        refine wpAnyG_pure (i := 4) (v := ?v5) rfl (by kernel_rfl) (by kernel_rfl) (by kernel_rfl) (by kernel_rfl) (fun _ _ _ h => h) (yieldsIf_run rfl (fun w' hw' => ?y5)) (fun _ => hS0) ?_
        case y5 => first | (go_simp; rfl) | (go_simp; done) | rfl
        simp only [Act.put, List.setIfInBounds_toArray, List.set_cons_zero, List.set_cons_succ]
        refine wpAnyG_pure (i := 5) (v := ?v6) rfl (by kernel_rfl) (by kernel_rfl) (by kernel_rfl) (by kernel_rfl) (fun _ _ _ h => h) (yieldsIf_run rfl (fun w' hw' => ?y6)) (fun _ => hS0) ?_
        case y6 => first | (go_simp; rfl) | (go_simp; done) | rfl
        simp only [Act.put, List.setIfInBounds_toArray, List.set_cons_zero, List.set_cons_succ]
        refine wpAnyG_pure (i := 6) (v := ?v7) rfl (by kernel_rfl) (by kernel_rfl) (by kernel_rfl) (by kernel_rfl) (fun _ _ _ h => h) (yieldsIf_run rfl (fun w' hw' => ?y7)) (fun _ => hS0) ?_
        case y7 => first | (go_simp; rfl) | (go_simp; done) | rfl
        simp only [Act.put, List.setIfInBounds_toArray, List.set_cons_zero, List.set_cons_succ]
        refine wpAnyG_take (i := 7) (v := ?v8) rfl (by kernel_rfl) (by kernel_rfl) (by kernel_rfl) (by kernel_rfl) (fun _ _ _ h => h) (yieldsIf_run rfl (fun w' hw' => ?y8)) hS0 ?_
        case y8 => (have hk := (hw'.cell (p := ⟨w.heap.size + 1, i0, none⟩) HLT.out.1.2).trans HX0.out; clear hw'; first | (go_simp; rfl) | (go_simp; done))
        simp only [Act.put, List.setIfInBounds_toArray, List.set_cons_zero, List.set_cons_succ]
        refine wpAnyG_do (i := 8) (by kernel_rfl) rfl rfl (fun K hK => ?_)
        go_simp
        have hrd : Calls Tryd.prog 84 #[Value.agg #[.int .u32 (wN v.a), .int .u32 (wN v.b), .int .u32 (wN v.c), .int .u32 (wN v.d), .int .u32 (wN v.e), .int .u32 (wN v.f), .int .u32 (wN v.g), .int .u32 (wN v.i)], .int .u32 (wN kk), .int .u32 (wN x0)] W1.drew _ := round_any v kk x0 W1.drew
        refine hrd.mono ?_
        rintro e w2 ⟨rfl, hb2⟩
        have k2 : Below W1.heap.size W1 w2 := (Below.refl _ W1).drew.trans hb2
        have hv2 := (k2.block _ HLT.out.2).trans HV1.out
        refine hK _ _ k2 ?_
        clear hK K
        try simp only [Act.put, List.setIfInBounds_toArray, List.set_cons_zero, List.set_cons_succ]
        refine wpAnyG_fin (i := 9) (by kernel_rfl) rfl rfl (by kernel_rfl) (fun K hK => ?_)
        refine wp_store_row 145 _ _ rfl (w.heap.size + 3) (v.round kk x0).cells.toArray rfl rfl 145 v.cells.toArray hv2 sizeWords rfl (oneCell_w8 _) ?_
        refine hK _ _ ?_
        clear hK K
        try simp only [Act.put, List.setIfInBounds_toArray, List.set_cons_zero, List.set_cons_succ]
        refine wpAnyG_done (by kernel_rfl) ?_ _
        refine NoPanic.normal ?_
        have hv3 := setRow_heap w2 (w.heap.size + 3) _ (v.round kk x0).cells.toArray _ _ hv2
        have ho3 := fun j => setRow_other w2 (w.heap.size + 3) j (v.round kk x0).cells.toArray
        have hb3 : Below w.heap.size w (w2.setRow (w.heap.size + 3) (v.round kk x0).cells.toArray) := below_setRow (HB1.out.trans (k2.mono HB1.out.size)) (by omega) _
        obtain ⟨w3, hw3⟩ : ∃ w3, w2.setRow (w.heap.size + 3) (v.round kk x0).cells.toArray = w3 := ⟨_, rfl⟩
        rw [hw3] at hv3 hb3 ⊢
        have hn3 : ∀ j, j < W1.heap.size → j ≠ w.heap.size + 3 → w3.heap[j]? = W1.heap[j]? := fun j hj hne => by rw [← hw3]; exact (ho3 j hne).trans (k2.block j hj)
        have HN3 := Lib.hid hn3
        have HV3 := Lib.hid hv3
        have HB3 := Lib.hid hb3
        clear hn3 hv3 hb3 ho3 hw3 hv2 hb2 k2 hS0
        go_wp2_with fail
        go_roundw
        case rel =>
          have hl := HLT.out
          have hl0 : w.heap.size < W1.heap.size := by omega
          refine ⟨k + 1, by omega, by go_num, ?_, ?_, HB3.out, (HN3.out _ hl0 (by omega)).trans H01.out, (HN3.out _ (by omega) (by omega)).trans H21.out⟩
          · rw [HST.out]; exact (HN3.out _ hl.1.2 (by omega)).trans HW1.out
          · rw [HST.out]; exact HV3.out
        case measure => simp [intOf]; omega

      · obtain ⟨W1, rfl⟩ : ∃ W1, W1 = wr := ⟨_, rfl⟩
        obtain ⟨i0, hi0⟩ : ∃ i0, i0 = k % 16 := ⟨_, rfl⟩
        have hi16 : i0 < 16 := by omega
        obtain ⟨x0, hx0e⟩ : ∃ x0, ws.getD i0 0 = x0 := ⟨_, rfl⟩
        have hx0 : W1.cell? ⟨w.heap.size + 1, i0, none⟩ = some (.int .u32 (wN x0)) := by rw [cell_of_row W1 _ _ _ _ _ hW, wvs_at ws i0 (by omega), hx0e]
        have hst : ringAt h m (k + 1) = (v.round kk x0, ws) := by
          have e1 : ringStep ws k = ws := by unfold ringStep; rw [if_pos (by omega)]
          rw [ringAt, hv, hws, e1, hkk, ← hi0, hx0e]
        have hlt3 : (0 < W1.heap.size ∧ w.heap.size + 1 < W1.heap.size) ∧ w.heap.size + 3 < W1.heap.size := ⟨⟨Nat.lt_of_lt_of_le hK.size hB.size, (Array.getElem?_eq_some_iff.1 hW).1⟩, (Array.getElem?_eq_some_iff.1 hV).1⟩
        have HLT := Lib.hid hlt3
        have HKK := Lib.hid hk1
        have HX0 := Lib.hid hx0
        have HV1 := Lib.hid hV
        have HW1 := Lib.hid hW
        have HB1 := Lib.hid hB
        have HST := Lib.hid hst
        have H01 := Lib.hid h0
        have H21 := Lib.hid h2

        have hm1 : ((k : Int)).tmod 16 = (i0 : Int) := by rw [Int.tmod_eq_emod_of_nonneg (by omega)]; omega
        have hm2 : ((k : Int)) % 16 = (i0 : Int) := by omega
        have hi3 : (i0 : Int) < 16 := by omega
        clear hlt3 hk1 hx0 hV hW hst h0 h2 hB hv hws hwl hkk hkc hi0 hx0e
        go_wp2_with fail
        refine wp_region_noPanic ?_
        refine wp_region_G [8, 9] (fun w' => Below W1.heap.size W1 w') (by kernel_rfl) ?_
        have hS0 : (fun w' => Below W1.heap.size W1 w') W1.drew := (Below.refl _ _).drew
        refine wpAnyG_take (i := 0) (v := ?v9) rfl (by kernel_rfl) (by kernel_rfl) (by kernel_rfl) (by kernel_rfl) (fun _ _ _ h => h) (yieldsIf_run rfl (fun w' hw' => ?y9)) hS0 ?_
        case y9 => (obtain ⟨e0, e1, e2, e3, e4, e5, e6, e7⟩ := cells8 ((hw'.block _ HLT.out.2).trans HV1.out); clear hw'; first | (go_simp; rfl) | (go_simp; done))
        simp only [Act.put, List.setIfInBounds_toArray, List.set_cons_zero, List.set_cons_succ]
        refine wpAnyG_pure (i := 1) (v := ?v10) rfl (by kernel_rfl) (by kernel_rfl) (by kernel_rfl) (by kernel_rfl) (fun _ _ _ h => h) (yieldsIf_run rfl (fun w' hw' => ?y10)) (fun _ => hS0) ?_
        case y10 => first | (go_simp; rfl) | (go_simp; done) | rfl
        simp only [Act.put, List.setIfInBounds_toArray, List.set_cons_zero, List.set_cons_succ]
        refine wpAnyG_pure (i := 2) (v := ?v11) rfl (by kernel_rfl) (by kernel_rfl) (by kernel_rfl) (by kernel_rfl) (fun _ _ _ h => h) (yieldsIf_run rfl (fun w' hw' => ?y11)) (fun _ => hS0) ?_
        case y11 => first | (go_simp; rfl) | (go_simp; done) | rfl
        simp only [Act.put, List.setIfInBounds_toArray, List.set_cons_zero, List.set_cons_succ]
        refine wpAnyG_take (i := 3) (v := ?v12) rfl (by kernel_rfl) (by kernel_rfl) (by kernel_rfl) (by kernel_rfl) (fun _ _ _ h => h) (yieldsIf_run rfl (fun w' hw' => ?y12)) hS0 ?_
        case y12 => (have hk := (hw'.cell (p := ⟨0, k, none⟩) HLT.out.1.1).trans HKK.out; clear hw'; first | (go_simp; rfl) | (go_simp; done))
        simp only [Act.put, List.setIfInBounds_toArray, List.set_cons_zero, List.set_cons_succ]
        refine wpAnyG_pure (i := 4) (v := ?v13) rfl (by kernel_rfl) (by kernel_rfl) (by kernel_rfl) (by kernel_rfl) (fun _ _ _ h => h) (yieldsIf_run rfl (fun w' hw' => ?y13)) (fun _ => hS0) ?_
        case y13 => first | (go_simp; rfl) | (go_simp; done) | rfl
        simp only [Act.put, List.setIfInBounds_toArray, List.set_cons_zero, List.set_cons_succ]
        refine wpAnyG_pure (i := 5) (v := ?v14) rfl (by kernel_rfl) (by kernel_rfl) (by kernel_rfl) (by kernel_rfl) (fun _ _ _ h => h) (yieldsIf_run rfl (fun w' hw' => ?y14)) (fun _ => hS0) ?_
        case y14 => first | (go_simp; rfl) | (go_simp; done) | rfl
        simp only [Act.put, List.setIfInBounds_toArray, List.set_cons_zero, List.set_cons_succ]
        refine wpAnyG_pure (i := 6) (v := ?v15) rfl (by kernel_rfl) (by kernel_rfl) (by kernel_rfl) (by kernel_rfl) (fun _ _ _ h => h) (yieldsIf_run rfl (fun w' hw' => ?y15)) (fun _ => hS0) ?_
        case y15 => first | (go_simp; rfl) | (go_simp; done) | rfl
        simp only [Act.put, List.setIfInBounds_toArray, List.set_cons_zero, List.set_cons_succ]
        refine wpAnyG_take (i := 7) (v := ?v16) rfl (by kernel_rfl) (by kernel_rfl) (by kernel_rfl) (by kernel_rfl) (fun _ _ _ h => h) (yieldsIf_run rfl (fun w' hw' => ?y16)) hS0 ?_
        case y16 => (have hk := (hw'.cell (p := ⟨w.heap.size + 1, i0, none⟩) HLT.out.1.2).trans HX0.out; clear hw'; first | (go_simp; rfl) | (go_simp; done))
        simp only [Act.put, List.setIfInBounds_toArray, List.set_cons_zero, List.set_cons_succ]
        refine wpAnyG_do (i := 8) (by kernel_rfl) rfl rfl (fun K hK => ?_)
        go_simp
        have hrd : Calls Tryd.prog 84 #[Value.agg #[.int .u32 (wN v.a), .int .u32 (wN v.b), .int .u32 (wN v.c), .int .u32 (wN v.d), .int .u32 (wN v.e), .int .u32 (wN v.f), .int .u32 (wN v.g), .int .u32 (wN v.i)], .int .u32 (wN kk), .int .u32 (wN x0)] W1.drew _ := round_any v kk x0 W1.drew
        refine hrd.mono ?_
        rintro e w2 ⟨rfl, hb2⟩
        have k2 : Below W1.heap.size W1 w2 := (Below.refl _ W1).drew.trans hb2
        have hv2 := (k2.block _ HLT.out.2).trans HV1.out
        refine hK _ _ k2 ?_
        clear hK K
        try simp only [Act.put, List.setIfInBounds_toArray, List.set_cons_zero, List.set_cons_succ]
        refine wpAnyG_fin (i := 9) (by kernel_rfl) rfl rfl (by kernel_rfl) (fun K hK => ?_)
        refine wp_store_row 145 _ _ rfl (w.heap.size + 3) (v.round kk x0).cells.toArray rfl rfl 145 v.cells.toArray hv2 sizeWords rfl (oneCell_w8 _) ?_
        refine hK _ _ ?_
        clear hK K
        try simp only [Act.put, List.setIfInBounds_toArray, List.set_cons_zero, List.set_cons_succ]
        refine wpAnyG_done (by kernel_rfl) ?_ _
        refine NoPanic.normal ?_

        have hv3 := setRow_heap w2 (w.heap.size + 3) _ (v.round kk x0).cells.toArray _ _ hv2
        have ho3 := fun j => setRow_other w2 (w.heap.size + 3) j (v.round kk x0).cells.toArray
        have hb3 : Below w.heap.size w (w2.setRow (w.heap.size + 3) (v.round kk x0).cells.toArray) := below_setRow (HB1.out.trans (k2.mono HB1.out.size)) (by omega) _
        obtain ⟨w3, hw3⟩ : ∃ w3, w2.setRow (w.heap.size + 3) (v.round kk x0).cells.toArray = w3 := ⟨_, rfl⟩
        rw [hw3] at hv3 hb3 ⊢
        have hn3 : ∀ j, j < W1.heap.size → j ≠ w.heap.size + 3 → w3.heap[j]? = W1.heap[j]? := fun j hj hne => by rw [← hw3]; exact (ho3 j hne).trans (k2.block j hj)
        have HN3 := Lib.hid hn3
        have HV3 := Lib.hid hv3
        have HB3 := Lib.hid hb3
        clear hn3 hv3 hb3 ho3 hw3 hv2 hb2 k2 hS0
        go_wp2_with fail
        go_roundw
        case rel =>
          have hl := HLT.out
          have hl0 : w.heap.size < W1.heap.size := by omega
          refine ⟨k + 1, by omega, by go_num, ?_, ?_, HB3.out, (HN3.out _ hl0 (by omega)).trans H01.out, (HN3.out _ (by omega) (by omega)).trans H21.out⟩
          · rw [HST.out]; exact (HN3.out _ hl.1.2 (by omega)).trans HW1.out
          · rw [HST.out]; exact HV3.out
        case measure => simp [intOf]; omega

    · obtain rfl : k = 64 := by omega
      have n0 := h0.trans H4.out.1
      have n2 := h2.trans H4.out.2.2.1
      obtain ⟨a0, a1, a2, a3, a4, a5, a6, a7⟩ := cells8 n0
      obtain ⟨b0, b1, b2, b3, b4, b5, b6, b7⟩ := cells8 hV
      have hl2 := (Array.getElem?_eq_some_iff.1 n2).1
      have hpl : Calls Tryd.prog 85 #[Value.agg #[.int .u32 (wN h.a), .int .u32 (wN h.b), .int .u32 (wN h.c), .int .u32 (wN h.d), .int .u32 (wN h.e), .int .u32 (wN h.f), .int .u32 (wN h.g), .int .u32 (wN h.i)], Value.agg #[.int .u32 (wN v.a), .int .u32 (wN v.b), .int .u32 (wN v.c), .int .u32 (wN v.d), .int .u32 (wN v.e), .int .u32 (wN v.f), .int .u32 (wN v.g), .int .u32 (wN v.i)]] wr (fun e w' => e = .returned (.agg (h.plus v).cells.toArray) ∧ Below wr.heap.size wr w') := plus_any h v wr
      have HPL := Lib.hid hpl
      have HN2 := Lib.hid n2
      have HB := Lib.hid hB
      have HVE := Lib.hid hv
      clear hpl n0 n2 hB hv hws hW hV h0 h2 hwl
      go_wp2_with fail
      refine HPL.out.mono ?_
      rintro e w2 ⟨rfl, hb2⟩
      have m2 : w2.heap[w.heap.size + 1 + 1]? = _ := (hb2.block _ hl2).trans HN2.out
      have hb := HB.out.trans (hb2.mono HB.out.size)
      have hsz : (Tryd.prog.info? 145).map (·.size) = some (h.plus v).cells.toArray.size := sizeWords
      have hzs : (#[.int .u32 0, .int .u32 0, .int .u32 0, .int .u32 0, .int .u32 0, .int .u32 0, .int .u32 0, .int .u32 0] : Array Value).size = (h.plus v).cells.toArray.size := rfl
      have HSZ := Lib.hid hsz
      have HZS := Lib.hid hzs
      have HM2 := Lib.hid m2
      clear hsz hzs
      have HB2 := Lib.hid hb
      clear m2 hb hb2 a0 a1 a2 a3 a4 a5 a6 a7 b0 b1 b2 b3 b4 b5 b6 b7
      go_wp2_with (with_reducible refine wpList_store_row rfl 145 _ _ rfl (w.heap.size + 1 + 1) (h.plus v).cells.toArray rfl rfl 145 _ HM2.out HSZ.out HZS.out (oneCell_w8 _) ?_)
      refine bodyPost_ret (v := .agg (h.plus v).cells.toArray) ?r1 rfl ?r2
      case r1 => exact results_cell_row (g := w.heap.size + 1 + 1) rfl _ _ _ _ _ _ rfl (setRow_heap _ _ _ _ _ _ HM2.out) Tryd.underlying145 rfl sizeWords
      case r2 =>
        refine ⟨?_, below_setRow HB2.out (by omega) _⟩
        rw [procW, HVE.out]
        rfl

end Go.Proofs.YtplclpileejemaaDoor

namespace Go.Proofs.YtplclpileejemaaDoor
open Go.RowKit
set_option linter.unusedVariables false
set_option linter.unusedSimpArgs false

/-- An array of one-cell elements at an index. -/
theorem run_index_arr {P : Program} {T E : TypeId} {n : Nat} (hT : P.underlying T = some (.array n E)) (hs : ∀ w, (sizeOf E).run P w = .ok 1 w) (ha : ∀ w, (isAgg E).run P w = .ok false w) {cs : Array Value} {v : Value} (k : Nat) (hk : k < n) (hv : cs[k]? = some v) (w : World) :
    (Instr.index T (.agg cs) (.int .i64 (k : Int))).run P w = .ok v w := by
  have hc : (0 : Int) ≤ (k : Int) ∧ (k : Int) < (n : Int) := by omega
  simp [Instr.index, asIntOf, run_underlying hT, hs, hc, Sem.run_bind, part, ha, hv]
  omega
theorem size_u8 (w : World) : (sizeOf 5).run Tryd.prog w = .ok 1 w := by kernel_rfl
theorem agg_u8 (w : World) : (isAgg 5).run Tryd.prog w = .ok false w := by kernel_rfl
theorem size_u32 (w : World) : (sizeOf 143).run Tryd.prog w = .ok 1 w := by kernel_rfl
theorem agg_u32 (w : World) : (isAgg 143).run Tryd.prog w = .ok false w := by kernel_rfl

theorem oneCell_wvs (l : List UInt32) : (wvs l).toArray.all (·.oneCell') = true := by simp [wvs, wv, Value.oneCell']
theorem run_index_block {l : List UInt8} (hl : l.length = 64) (k : Nat) (hk : k < 64) (w : World) :
    (Instr.index 146 (.agg (bvs l).toArray) (.int .i64 (k : Int))).run Tryd.prog w = .ok (.int .u8 ((l.getD k 0).toNat : Int)) w :=
  run_index_arr Tryd.underlying146 size_u8 agg_u8 k hk (by simp [bvs, bv, hl, hk]) w

/-- The words of a block, when the first k bytes have been taken. -/
def ldAt (l : List UInt8) : Nat → List UInt32
  | 0 => List.replicate 16 0
  | k + 1 => (ldAt l k).set (k / 4) (((ldAt l k).getD (k / 4) 0 <<< 8) ||| (l.getD k 0).toUInt32)
theorem ldAt_length (l : List UInt8) : ∀ k, (ldAt l k).length = 16
  | 0 => by simp [ldAt]
  | k + 1 => by simp [ldAt, ldAt_length l k]
def loadW (l : List UInt8) : List UInt32 := ldAt l 64
theorem wN_byte (b : UInt8) : ((b.toNat : Nat) : Int) = wN b.toUInt32 := by unfold wN; simp
theorem n_shl8 (a : UInt32) (yk : IntKind) : Op.shift .shl .u32 (wN a) yk 8 = (pure (.int .u32 (wN (a <<< 8))) : Sem Value) := by
  rw [shift_shl_any _ _ _ _ (by omega)]
  have := n_shl a 8 (by decide)
  rw [← IntKind.wrap_u32'] at this
  exact congrArg _ (congrArg _ this)

set_option maxRecDepth 100000 in
set_option maxHeartbeats 2000000 in
theorem load_any (l : List UInt8) (hl : l.length = 64) (w : World) :
    Calls Tryd.prog 81 #[.agg (bvs l).toArray] w fun e w' => e = .returned (.agg (wvs (loadW l)).toArray) ∧ Below w.heap.size w w' := by
  obtain ⟨w1, hw1⟩ : ∃ w1, ((w.alloc (.cells (bvs l).toArray 146)).alloc (.cells #[.int .u32 0, .int .u32 0, .int .u32 0, .int .u32 0, .int .u32 0, .int .u32 0, .int .u32 0, .int .u32 0, .int .u32 0, .int .u32 0, .int .u32 0, .int .u32 0, .int .u32 0, .int .u32 0, .int .u32 0, .int .u32 0] 151)).alloc (.cells #[.int .u32 0, .int .u32 0, .int .u32 0, .int .u32 0, .int .u32 0, .int .u32 0, .int .u32 0, .int .u32 0, .int .u32 0, .int .u32 0, .int .u32 0, .int .u32 0, .int .u32 0, .int .u32 0, .int .u32 0, .int .u32 0] 151) = w1 := ⟨_, rfl⟩
  have hb1 : Below w.heap.size w w1 := hw1 ▸ (((Below.refl _ w).alloc (Nat.le_refl _) _).alloc (by simp) _).alloc (by simp; omega) _
  have hs1 : w1.heap.size = w.heap.size + 3 := by rw [← hw1]; simp
  have h3 := heap3 w (.cells (bvs l).toArray 146) (.cells #[.int .u32 0, .int .u32 0, .int .u32 0, .int .u32 0, .int .u32 0, .int .u32 0, .int .u32 0, .int .u32 0, .int .u32 0, .int .u32 0, .int .u32 0, .int .u32 0, .int .u32 0, .int .u32 0, .int .u32 0, .int .u32 0] 151) (.cells #[.int .u32 0, .int .u32 0, .int .u32 0, .int .u32 0, .int .u32 0, .int .u32 0, .int .u32 0, .int .u32 0, .int .u32 0, .int .u32 0, .int .u32 0, .int .u32 0, .int .u32 0, .int .u32 0, .int .u32 0, .int .u32 0] 151)
  have hsz : (Tryd.prog.info? 146).map (·.size) = some (bvs l).toArray.size := by
    have : (Tryd.prog.info? 146).map (·.size) = some 64 := by kernel_rfl
    rw [this, List.size_toArray, bvs_length, hl]
  have H3 := Lib.hid h3
  have HB1 := Lib.hid hb1
  have HSZ := Lib.hid hsz
  have HW1 := Lib.hid hw1
  have HS1 := Lib.hid hs1
  have HL := Lib.hid hl
  clear h3 hb1 hsz hw1 hs1 hl
  go_enter Tryd.func81, Tryd.ntmps81
  go_wp2_with (with_reducible refine wpList_load_row rfl 146 _ rfl w.heap.size rfl 146 (bvs l).toArray (0, 0) _ H3.out.1 Tryd.underlying146 rfl HSZ.out ?_)
  rw [HW1.out] at H3 ⊢
  go_loopw [7] (fun i wr => ∃ k : Nat, k ≤ 64 ∧ i = .int .i64 (k : Int) ∧ wr.heap[w.heap.size + 1 + 1]? = some (.cells (wvs (ldAt l k)).toArray 151 (0, 0)) ∧
      wr.heap[w.heap.size + 1]? = some (.cells #[.int .u32 0, .int .u32 0, .int .u32 0, .int .u32 0, .int .u32 0, .int .u32 0, .int .u32 0, .int .u32 0, .int .u32 0, .int .u32 0, .int .u32 0, .int .u32 0, .int .u32 0, .int .u32 0, .int .u32 0, .int .u32 0] 151 (0, 0)) ∧ Below w.heap.size w wr)
    (fun i _ => 64 - (intOf i).toNat)
  case atStart => exact ⟨0, Nat.zero_le _, rfl, H3.out.2.2, H3.out.2.1, HB1.out⟩
  case round =>
    obtain ⟨k, hk, rfl, hW, hR, hB⟩ := hrel
    by_cases hlt : k < 64
    · have hix := fun w => run_index_block HL.out k hlt w
      have hwl := ldAt_length l k
      obtain ⟨x, hx⟩ : ∃ x, (ldAt l k).getD (k / 4) 0 = x := ⟨_, rfl⟩
      obtain ⟨c, hc⟩ : ∃ c : Int, ((l.getD k 0).toNat : Int) = c := ⟨_, rfl⟩
      have hc0 : 0 ≤ c := by omega
      have hc1 : c < 256 := by have := (l.getD k 0).toNat_lt; omega
      rw [hc] at hix
      have hor : ∀ a, bits .or .u32 (wN a) c = wN (a ||| (l.getD k 0).toUInt32) := fun a => by rw [← hc, wN_byte, n_or]
      have hsh := fun a => n_shl8 a .u64
      have hcell : wr.cell? ⟨w.heap.size + 1 + 1, k / 4, none⟩ = some (.int .u32 (wN x)) := by rw [cell_of_row wr _ _ _ _ _ hW, wvs_at _ _ (by omega), hx]
      have hfr := frozen_of_row wr _ (k / 4) _ _ hW
      obtain ⟨y, hy⟩ : ∃ y, x <<< 8 ||| (l.getD k 0).toUInt32 = y := ⟨_, rfl⟩
      have hor2 : bits .or .u32 (wN (x <<< 8)) c = wN y := by rw [hor, hy]
      have hst : ldAt l (k + 1) = (ldAt l k).set (k / 4) y := by rw [ldAt, hx, hy]
      have hW2 : ∀ w2, w2 = wr.setCell ⟨w.heap.size + 1 + 1, k / 4, none⟩ (.int .u32 (wN y)) → w2.heap[w.heap.size + 1 + 1]? = some (.cells (wvs (ldAt l (k + 1))).toArray 151 (0, 0)) := by
        rintro _ rfl
        refine (heap_setCell_same wr _ _ _ _ _ hW).trans ?_
        rw [hst]; simp [wvs, wv]
      have hR2 : (wr.setCell ⟨w.heap.size + 1 + 1, k / 4, none⟩ (.int .u32 (wN y))).heap[w.heap.size + 1]? = _ := (heap_setCell_other wr _ _ _ (by show w.heap.size + 1 ≠ w.heap.size + 1 + 1; omega)).trans hR
      have HW2 := Lib.hid hW2
      have HR2 := Lib.hid hR2
      have HB := Lib.hid hB
      clear hor hwl hx hc hy hst hW2 hR2 hB hW hR
      go_wp2_with fail
      go_roundw
      case rel => exact ⟨k + 1, by omega, by go_num, HW2.out _ rfl, HR2.out, HB.out.setCell (by show w.heap.size ≤ w.heap.size + 1 + 1; omega) _⟩
      case measure => simp [intOf]; omega
    · obtain rfl : k = 64 := by omega
      have hsz : (Tryd.prog.info? 151).map (·.size) = some (wvs (loadW l)).toArray.size := by
        have : (Tryd.prog.info? 151).map (·.size) = some 16 := by kernel_rfl
        rw [this, List.size_toArray, wvs_length]; unfold loadW; rw [ldAt_length]
      have hzs : (#[.int .u32 0, .int .u32 0, .int .u32 0, .int .u32 0, .int .u32 0, .int .u32 0, .int .u32 0, .int .u32 0, .int .u32 0, .int .u32 0, .int .u32 0, .int .u32 0, .int .u32 0, .int .u32 0, .int .u32 0, .int .u32 0] : Array Value).size = (wvs (loadW l)).toArray.size := by
        show 16 = _
        rw [List.size_toArray, wvs_length]; unfold loadW; rw [ldAt_length]
      have hWl : wr.heap[w.heap.size + 1 + 1]? = some (.cells (wvs (loadW l)).toArray 151 (0, 0)) := hW
      have HSZ := Lib.hid hsz
      have HZS := Lib.hid hzs
      have HWl := Lib.hid hWl
      have HR := Lib.hid hR
      have HB := Lib.hid hB
      clear hsz hzs hWl hW hR hB
      go_wp2_with (first | (with_reducible refine wpList_load_row rfl 151 _ rfl (w.heap.size + 1 + 1) rfl 151 (wvs (loadW l)).toArray (0, 0) _ HWl.out Tryd.underlying151 rfl HSZ.out ?_) | (with_reducible refine wpList_store_row rfl 151 _ _ rfl (w.heap.size + 1) (wvs (loadW l)).toArray rfl rfl 151 _ HR.out HSZ.out HZS.out (oneCell_wvs _) ?_))
      refine bodyPost_ret (v := .agg (wvs (loadW l)).toArray) ?r1 rfl ?r2
      case r1 => exact results_cell_row (g := w.heap.size + 1) rfl _ _ _ _ _ _ rfl (setRow_heap _ _ _ _ _ _ HR.out) Tryd.underlying151 rfl HSZ.out
      case r2 => exact ⟨rfl, below_setRow HB.out (by omega) _⟩

/-! ### the initial state, the digest -/
def w8init : W8 := ⟨0x6a09e667, 0xbb67ae85, 0x3c6ef372, 0xa54ff53a, 0x510e527f, 0x9b05688c, 0x1f83d9ab, 0x5be0cd19⟩
set_option maxHeartbeats 400000 in
theorem initial_any (w : World) : Calls Tryd.prog 79 #[] w fun e w' => e = .returned w8init.val ∧ Below w.heap.size w w' := by
  go_enter Tryd.func79, Tryd.ntmps79
  go_wp2
  refine bodyPost_ret (v := .agg #[.int .u32 1779033703, .int .u32 3144134277, .int .u32 1013904242, .int .u32 2773480762, .int .u32 1359893119, .int .u32 2600822924, .int .u32 528734635, .int .u32 1541459225]) ?r1 rfl ?r2
  case r1 => simp [results, Tryd.results79, go_sem]
  case r2 => exact ⟨rfl, (Below.refl _ w).alloc (Nat.le_refl _) _⟩

def W8.list (v : W8) : List UInt32 := [v.a, v.b, v.c, v.d, v.e, v.f, v.g, v.i]
/-- The byte j of a state. -/
def dgB (v : W8) (j : Nat) : UInt8 := (v.list.getD (j / 4) 0 >>> (UInt32.ofNat (24 - 8 * (j % 4)))).toUInt8
def digestL (v : W8) : List UInt8 := (List.range 32).map (dgB v)
@[simp] theorem digestL_length (v : W8) : (digestL v).length = 32 := by simp [digestL]
def dgAt (v : W8) (n : Nat) : List UInt8 := (List.range 32).map (fun j => if j < n then dgB v j else 0)
theorem dgAt_set (v : W8) (n : Nat) (h : n < 32) : (dgAt v n).set n (dgB v n) = dgAt v (n + 1) := by
  apply List.ext_getElem?
  intro i
  simp only [dgAt, List.getElem?_set, List.length_map, List.length_range, List.getElem?_map]
  by_cases hi : n = i
  · subst hi
    simp [h]
  · by_cases h2 : i < 32
    · simp [hi, h2]
      have e : (i < n + 1) ↔ (i < n) := by omega
      simp [e]
    · simp [hi, h2]
theorem dgAt_end (v : W8) : dgAt v 32 = digestL v := by
  unfold dgAt digestL
  refine List.map_congr_left fun j hj => ?_
  rw [if_pos (List.mem_range.1 hj)]
theorem dgAt_zero (v : W8) : (bvs (dgAt v 0)).toArray = #[.int .u8 0, .int .u8 0, .int .u8 0, .int .u8 0, .int .u8 0, .int .u8 0, .int .u8 0, .int .u8 0, .int .u8 0, .int .u8 0, .int .u8 0, .int .u8 0, .int .u8 0, .int .u8 0, .int .u8 0, .int .u8 0, .int .u8 0, .int .u8 0, .int .u8 0, .int .u8 0, .int .u8 0, .int .u8 0, .int .u8 0, .int .u8 0, .int .u8 0, .int .u8 0, .int .u8 0, .int .u8 0, .int .u8 0, .int .u8 0, .int .u8 0, .int .u8 0] := rfl
theorem dgAt_length (v : W8) (n : Nat) : (dgAt v n).length = 32 := by simp [dgAt]
theorem run_index_w8 (v : W8) (k : Nat) (hk : k < 8) (w : World) :
    (Instr.index 157 (.agg #[.int .u32 (wN v.a), .int .u32 (wN v.b), .int .u32 (wN v.c), .int .u32 (wN v.d), .int .u32 (wN v.e), .int .u32 (wN v.f), .int .u32 (wN v.g), .int .u32 (wN v.i)]) (.int .i64 (k : Int))).run Tryd.prog w = .ok (.int .u32 (wN (v.list.getD k 0))) w :=
  run_index_arr Tryd.underlying157 size_u32 agg_u32 k hk (by rcases k with _ | _ | _ | _ | _ | _ | _ | _ | k <;> first | rfl | omega) w

set_option maxRecDepth 100000 in
set_option maxHeartbeats 2000000 in
theorem digest_any (v : W8) (w : World) : Calls Tryd.prog 82 #[v.val] w fun e w' => e = .returned (cval (digestL v)) ∧ Below w.heap.size w w' := by
  obtain ⟨w1, hw1⟩ : ∃ w1, ((w.alloc (.cells #[.int .u32 (wN v.a), .int .u32 (wN v.b), .int .u32 (wN v.c), .int .u32 (wN v.d), .int .u32 (wN v.e), .int .u32 (wN v.f), .int .u32 (wN v.g), .int .u32 (wN v.i)] 145)).alloc (.cells #[.int .u8 0, .int .u8 0, .int .u8 0, .int .u8 0, .int .u8 0, .int .u8 0, .int .u8 0, .int .u8 0, .int .u8 0, .int .u8 0, .int .u8 0, .int .u8 0, .int .u8 0, .int .u8 0, .int .u8 0, .int .u8 0, .int .u8 0, .int .u8 0, .int .u8 0, .int .u8 0, .int .u8 0, .int .u8 0, .int .u8 0, .int .u8 0, .int .u8 0, .int .u8 0, .int .u8 0, .int .u8 0, .int .u8 0, .int .u8 0, .int .u8 0, .int .u8 0] 130)).alloc (.cells #[.int .u8 0, .int .u8 0, .int .u8 0, .int .u8 0, .int .u8 0, .int .u8 0, .int .u8 0, .int .u8 0, .int .u8 0, .int .u8 0, .int .u8 0, .int .u8 0, .int .u8 0, .int .u8 0, .int .u8 0, .int .u8 0, .int .u8 0, .int .u8 0, .int .u8 0, .int .u8 0, .int .u8 0, .int .u8 0, .int .u8 0, .int .u8 0, .int .u8 0, .int .u8 0, .int .u8 0, .int .u8 0, .int .u8 0, .int .u8 0, .int .u8 0, .int .u8 0] 130) = w1 := ⟨_, rfl⟩
  have hb1 : Below w.heap.size w w1 := hw1 ▸ (((Below.refl _ w).alloc (Nat.le_refl _) _).alloc (by simp) _).alloc (by simp; omega) _
  have h3 := heap3 w (.cells #[.int .u32 (wN v.a), .int .u32 (wN v.b), .int .u32 (wN v.c), .int .u32 (wN v.d), .int .u32 (wN v.e), .int .u32 (wN v.f), .int .u32 (wN v.g), .int .u32 (wN v.i)] 145) (.cells #[.int .u8 0, .int .u8 0, .int .u8 0, .int .u8 0, .int .u8 0, .int .u8 0, .int .u8 0, .int .u8 0, .int .u8 0, .int .u8 0, .int .u8 0, .int .u8 0, .int .u8 0, .int .u8 0, .int .u8 0, .int .u8 0, .int .u8 0, .int .u8 0, .int .u8 0, .int .u8 0, .int .u8 0, .int .u8 0, .int .u8 0, .int .u8 0, .int .u8 0, .int .u8 0, .int .u8 0, .int .u8 0, .int .u8 0, .int .u8 0, .int .u8 0, .int .u8 0] 130) (.cells #[.int .u8 0, .int .u8 0, .int .u8 0, .int .u8 0, .int .u8 0, .int .u8 0, .int .u8 0, .int .u8 0, .int .u8 0, .int .u8 0, .int .u8 0, .int .u8 0, .int .u8 0, .int .u8 0, .int .u8 0, .int .u8 0, .int .u8 0, .int .u8 0, .int .u8 0, .int .u8 0, .int .u8 0, .int .u8 0, .int .u8 0, .int .u8 0, .int .u8 0, .int .u8 0, .int .u8 0, .int .u8 0, .int .u8 0, .int .u8 0, .int .u8 0, .int .u8 0] 130)
  rw [hw1] at h3
  have H3 := Lib.hid h3
  have HB1 := Lib.hid hb1
  have HW1 := Lib.hid hw1
  clear h3 hb1 hw1
  unfold W8.val W8.cells wv
  go_enter Tryd.func82, Tryd.ntmps82
  go_wp2
  rw [HW1.out]
  clear HW1
  go_loopw [24] (fun i wr => ∃ k : Nat, k ≤ 8 ∧ i = .int .i64 (k : Int) ∧ wr.heap[w.heap.size + 1 + 1]? = some (.cells (bvs (dgAt v (4 * k))).toArray 130 (0, 0)) ∧
      wr.heap[w.heap.size + 1]? = some (.cells #[.int .u8 0, .int .u8 0, .int .u8 0, .int .u8 0, .int .u8 0, .int .u8 0, .int .u8 0, .int .u8 0, .int .u8 0, .int .u8 0, .int .u8 0, .int .u8 0, .int .u8 0, .int .u8 0, .int .u8 0, .int .u8 0, .int .u8 0, .int .u8 0, .int .u8 0, .int .u8 0, .int .u8 0, .int .u8 0, .int .u8 0, .int .u8 0, .int .u8 0, .int .u8 0, .int .u8 0, .int .u8 0, .int .u8 0, .int .u8 0, .int .u8 0, .int .u8 0] 130 (0, 0)) ∧ Below w.heap.size w wr)
    (fun i _ => 8 - (intOf i).toNat)
  case atStart => exact ⟨0, Nat.zero_le _, rfl, H3.out.2.2, H3.out.2.1, HB1.out⟩
  case round =>
    obtain ⟨k, hk, rfl, hW, hR, hB⟩ := hrel
    by_cases hlt : k < 8
    · obtain ⟨wo, rfl⟩ : ∃ wo : World, wo = wr := ⟨_, rfl⟩
      have hix := fun w => run_index_w8 v k hlt w
      obtain ⟨x, hx⟩ : ∃ x, v.list.getD k 0 = x := ⟨_, rfl⟩
      rw [hx] at hix
      have HX := Lib.hid hx
      have HW := Lib.hid hW
      have HR := Lib.hid hR
      have HB := Lib.hid hB
      clear hx hW hR hB
      go_wp2_with fail
      clear hix
      go_loopw [28] (fun i wr => ∃ j : Nat, j ≤ 4 ∧ i = .int .i64 (j : Int) ∧ wr.heap[w.heap.size + 1 + 1]? = some (.cells (bvs (dgAt v (4 * k + j))).toArray 130 (0, 0)) ∧
          wr.heap[w.heap.size + 1]? = some (.cells #[.int .u8 0, .int .u8 0, .int .u8 0, .int .u8 0, .int .u8 0, .int .u8 0, .int .u8 0, .int .u8 0, .int .u8 0, .int .u8 0, .int .u8 0, .int .u8 0, .int .u8 0, .int .u8 0, .int .u8 0, .int .u8 0, .int .u8 0, .int .u8 0, .int .u8 0, .int .u8 0, .int .u8 0, .int .u8 0, .int .u8 0, .int .u8 0, .int .u8 0, .int .u8 0, .int .u8 0, .int .u8 0, .int .u8 0, .int .u8 0, .int .u8 0, .int .u8 0] 130 (0, 0)) ∧ Below w.heap.size w wr)
        (fun i _ => 4 - (intOf i).toNat)
      case atStart => exact ⟨0, Nat.zero_le _, rfl, HW.out, HR.out, HB.out⟩
      case round =>
        obtain ⟨j, hj, rfl, hW, hR, hB⟩ := hrel
        by_cases hj4 : j < 4
        · obtain ⟨y, hy⟩ : ∃ y, x >>> (UInt32.ofNat (24 - 8 * j)) = y := ⟨_, rfl⟩
          obtain ⟨c, hc⟩ : ∃ c : Int, ((dgB v (4 * k + j)).toNat : Int) = c := ⟨_, rfl⟩
          have hby : wN x / 2 ^ (24 - 8 * j) % 256 = c := by
            rw [n_shr x (24 - 8 * j) (by omega), ← hc]
            unfold dgB wN
            rw [show (4 * k + j) / 4 = k by omega, show (4 * k + j) % 4 = j by omega, HX.out]
            simp
          have hcell : wr.cell? ⟨w.heap.size + 1 + 1, 4 * k + j, none⟩ = some (.int .u8 0) := by
            rw [cell_of_row wr _ _ _ _ _ hW]
            simp [bvs, bv, dgAt, show 4 * k + j < 32 by omega]
          have hfr := frozen_of_row wr _ (4 * k + j) _ _ hW
          have hW2 : (wr.setCell ⟨w.heap.size + 1 + 1, 4 * k + j, none⟩ (.int .u8 c)).heap[w.heap.size + 1 + 1]? = some (.cells (bvs (dgAt v (4 * k + (j + 1)))).toArray 130 (0, 0)) := by
            refine (heap_setCell_same wr _ _ _ _ _ hW).trans ?_
            rw [show 4 * k + (j + 1) = 4 * k + j + 1 by omega, ← dgAt_set v _ (by omega), ← hc]
            simp [bvs, bv]
          have hR2 : (wr.setCell ⟨w.heap.size + 1 + 1, 4 * k + j, none⟩ (.int .u8 c)).heap[w.heap.size + 1]? = _ := (heap_setCell_other wr _ _ _ (by show w.heap.size + 1 ≠ w.heap.size + 1 + 1; omega)).trans hR
          have HW2 := Lib.hid hW2
          have HR2 := Lib.hid hR2
          have HBr := Lib.hid hB
          have HBY := Lib.hid hby
          clear hW2 hR2 hB hW hR hc hby
          go_wp2_with fail
          go_roundw
          case rel => exact ⟨j + 1, by omega, by go_num, by rw [HBY.out]; exact HW2.out, by rw [HBY.out]; exact HR2.out, HBr.out.setCell (by show w.heap.size ≤ w.heap.size + 1 + 1; omega) _⟩
          case measure => simp [intOf]; omega
        · obtain rfl : j = 4 := by omega
          have HW2 := Lib.hid hW
          have HR2 := Lib.hid hR
          have HBr := Lib.hid hB
          clear hB hW hR
          go_wp2_with fail
          go_roundw
          case rel => exact ⟨k + 1, by omega, by go_num, HW2.out, HR2.out, HBr.out⟩
          case measure => simp [intOf]; omega
    · obtain rfl : k = 8 := by omega
      have e32 := dgAt_end v
      have hWl : wr.heap[w.heap.size + 1 + 1]? = some (.cells (bvs (digestL v)).toArray 130 (0, 0)) := by rw [← e32]; exact hW
      have hsz : (Tryd.prog.info? 130).map (·.size) = some (bvs (digestL v)).toArray.size := by
        have : (Tryd.prog.info? 130).map (·.size) = some 32 := by kernel_rfl
        rw [this, List.size_toArray, bvs_length, digestL_length]
      have hzs : (#[.int .u8 0, .int .u8 0, .int .u8 0, .int .u8 0, .int .u8 0, .int .u8 0, .int .u8 0, .int .u8 0, .int .u8 0, .int .u8 0, .int .u8 0, .int .u8 0, .int .u8 0, .int .u8 0, .int .u8 0, .int .u8 0, .int .u8 0, .int .u8 0, .int .u8 0, .int .u8 0, .int .u8 0, .int .u8 0, .int .u8 0, .int .u8 0, .int .u8 0, .int .u8 0, .int .u8 0, .int .u8 0, .int .u8 0, .int .u8 0, .int .u8 0, .int .u8 0] : Array Value).size = (bvs (digestL v)).toArray.size := by
        show 32 = _
        rw [List.size_toArray, bvs_length, digestL_length]
      have HSZ := Lib.hid hsz
      have HZS := Lib.hid hzs
      have HWl := Lib.hid hWl
      have HR := Lib.hid hR
      have HB := Lib.hid hB
      clear hsz hzs hWl hW hR hB e32
      go_wp2_with (first | (with_reducible refine wpList_load_row rfl 130 _ rfl (w.heap.size + 1 + 1) rfl 130 (bvs (digestL v)).toArray (0, 0) _ HWl.out Tryd.underlying130 rfl HSZ.out ?_) | (with_reducible refine wpList_store_row rfl 130 _ _ rfl (w.heap.size + 1) (bvs (digestL v)).toArray rfl rfl 130 _ HR.out HSZ.out HZS.out (oneCell_bvs _) ?_))
      refine bodyPost_ret (v := .agg (bvs (digestL v)).toArray) ?r1 rfl ?r2
      case r1 => exact results_cell_row (g := w.heap.size + 1) rfl _ _ _ _ _ _ rfl (setRow_heap _ _ _ _ _ _ HR.out) Tryd.underlying130 rfl HSZ.out
      case r2 => exact ⟨rfl, below_setRow HB.out (by omega) _⟩

end Go.Proofs.YtplclpileejemaaDoor

namespace Go.Proofs.YtplclpileejemaaDoor
open Go.RowKit
set_option linter.unusedVariables false
set_option linter.unusedSimpArgs false

/-- The state behind the first k blocks of a message. -/
def blkW (v : W8) (ms : List UInt8) : Nat → W8
  | 0 => v
  | k + 1 => procW (blkW v ms k) (loadW ((ms.drop (64 * k)).take 64))
theorem blkW_append (v : W8) (ms l : List UInt8) : ∀ k, 64 * k ≤ ms.length → blkW v (ms ++ l) k = blkW v ms k
  | 0, _ => rfl
  | k + 1, h => by
    rw [blkW, blkW, blkW_append v ms l k (by omega)]
    congr 2
    rw [List.drop_append_of_le_length (by omega), List.take_append_of_le_length (by simp; omega)]

/-- A hash that has absorbed the message M. -/
structure HS (v : W8) (buf M : List UInt8) : Prop where
  len : buf.length = 64
  st : v = blkW w8init M (M.length / 64)
  buf : buf.take (M.length % 64) = M.drop (64 * (M.length / 64))

/-- The buffer when k more bytes have been copied into it at r. -/
def bufP (buf : List UInt8) (r : Nat) (c : List UInt8) : List UInt8 := buf.take r ++ c ++ buf.drop (r + c.length)
theorem bufP_length {buf c : List UInt8} {r : Nat} (h : buf.length = 64) (hr : r + c.length ≤ 64) : (bufP buf r c).length = 64 := by
  simp [bufP]; omega

theorem HS.part {v : W8} {buf M c : List UInt8} (h : HS v buf M) (hc : M.length % 64 + c.length < 64) : HS v (bufP buf (M.length % 64) c) (M ++ c) := by
  have e1 : (M ++ c).length / 64 = M.length / 64 := by rw [List.length_append]; omega
  have e2 : (M ++ c).length % 64 = M.length % 64 + c.length := by rw [List.length_append]; omega
  refine ⟨bufP_length h.len (by omega), ?_, ?_⟩
  · rw [e1, blkW_append _ _ _ _ (by omega)]; exact h.st
  · rw [e1, e2, List.drop_append_of_le_length (by omega), ← h.buf, bufP]
    have hl : (buf.take (M.length % 64) ++ c).length = M.length % 64 + c.length := by simp [h.len]; omega
    rw [List.take_append_of_le_length (by omega), ← hl, List.take_length]
theorem HS.full {v : W8} {buf M c : List UInt8} (h : HS v buf M) (hc : M.length % 64 + c.length = 64) : HS (procW v (loadW (bufP buf (M.length % 64) c))) (bufP buf (M.length % 64) c) (M ++ c) := by
  have e1 : (M ++ c).length / 64 = M.length / 64 + 1 := by rw [List.length_append]; omega
  have e2 : (M ++ c).length % 64 = 0 := by rw [List.length_append]; omega
  have hb : bufP buf (M.length % 64) c = (M ++ c).drop (64 * (M.length / 64)) := by
    rw [List.drop_append_of_le_length (by omega), ← h.buf, bufP, List.drop_of_length_le (by rw [h.len]; omega), List.append_nil]
  refine ⟨bufP_length h.len (by omega), ?_, ?_⟩
  · rw [e1, blkW, blkW_append _ _ _ _ (by omega), ← h.st]
    congr 2
    rw [hb, List.take_of_length_le]
    simp; omega
  · rw [e1, e2, List.drop_of_length_le (by simp; omega)]; rfl

def hcells (v : W8) (buf : List UInt8) (n : Nat) : List Value := v.cells ++ (bvs buf ++ [.int .i64 (n : Int)])
theorem hcells_length {v : W8} {buf : List UInt8} {n : Nat} (h : buf.length = 64) : (hcells v buf n).length = 73 := by simp [hcells, W8.cells, h]

/-- Block b is a hash with that state. -/
structure HashAt (w : World) (b : Nat) (v : W8) (buf : List UInt8) (n : Nat) : Prop where
  len : buf.length = 64
  hb : w.heap[b]? = some (.cells (hcells v buf n).toArray 148 (0, 0))

section
variable {w w' : World} {b : Nat} {v v' : W8} {buf : List UInt8} {n : Nat}
theorem HashAt.lt (h : HashAt w b v buf n) : b < w.heap.size := (Array.getElem?_eq_some_iff.1 h.hb).1
theorem HashAt.kept (h : HashAt w b v buf n) (hk : w'.heap[b]? = w.heap[b]?) : HashAt w' b v buf n := ⟨h.len, hk.trans h.hb⟩
theorem HashAt.frozen (h : HashAt w b v buf n) (i : Nat) : w.frozen? ⟨b, i, none⟩ = false := frozen_of_row w b i _ _ h.hb
theorem HashAt.state (h : HashAt w b v buf n) :
    w.cell? ⟨b, 0, none⟩ = some (.int .u32 (wN v.a)) ∧ w.cell? ⟨b, 1, none⟩ = some (.int .u32 (wN v.b)) ∧ w.cell? ⟨b, 2, none⟩ = some (.int .u32 (wN v.c)) ∧ w.cell? ⟨b, 3, none⟩ = some (.int .u32 (wN v.d)) ∧
      w.cell? ⟨b, 4, none⟩ = some (.int .u32 (wN v.e)) ∧ w.cell? ⟨b, 5, none⟩ = some (.int .u32 (wN v.f)) ∧ w.cell? ⟨b, 6, none⟩ = some (.int .u32 (wN v.g)) ∧ w.cell? ⟨b, 7, none⟩ = some (.int .u32 (wN v.i)) := by
  have h0 := fun i => cell_of_row w b i _ _ _ h.hb
  refine ⟨?_, ?_, ?_, ?_, ?_, ?_, ?_, ?_⟩ <;> rw [h0] <;> rfl
theorem HashAt.length (h : HashAt w b v buf n) : w.cell? ⟨b, 72, none⟩ = some (.int .i64 (n : Int)) := by
  rw [cell_of_row w b 72 _ _ _ h.hb, List.getElem?_toArray]
  unfold hcells
  rw [List.getElem?_append_right (by simp [W8.cells]), List.getElem?_append_right (by simp [W8.cells, h.len])]
  simp [W8.cells, h.len]
theorem HashAt.range (h : HashAt w b v buf n) : w.rangeAt b 8 (bvs buf) := fun j u hu => by
  rw [cell_of_row w b (8 + j) _ _ _ h.hb, List.getElem?_toArray]
  unfold hcells
  rw [List.getElem?_append_right (by simp [W8.cells])]
  have e : 8 + j - v.cells.length = j := by simp [W8.cells]
  rw [e, List.getElem?_append_left (List.getElem?_eq_some_iff.1 hu).1]
  exact hu

/-- The state is written. -/
theorem HashAt.setState (h : HashAt w b v buf n) (v' : W8) :
    HashAt ((((((((w.setCell ⟨b, 0, none⟩ (.int .u32 (wN v'.a))).setCell ⟨b, 1, none⟩ (.int .u32 (wN v'.b))).setCell ⟨b, 2, none⟩ (.int .u32 (wN v'.c))).setCell ⟨b, 3, none⟩ (.int .u32 (wN v'.d))).setCell ⟨b, 4, none⟩ (.int .u32 (wN v'.e))).setCell
      ⟨b, 5, none⟩ (.int .u32 (wN v'.f))).setCell ⟨b, 6, none⟩ (.int .u32 (wN v'.g))).setCell ⟨b, 7, none⟩ (.int .u32 (wN v'.i))) b v' buf n := by
  refine ⟨h.len, ?_⟩
  have h0 := heap_setCell_same _ b 0 _ _ (.int .u32 (wN v'.a)) h.hb
  have h1 := heap_setCell_same _ b 1 _ _ (.int .u32 (wN v'.b)) h0
  have h2 := heap_setCell_same _ b 2 _ _ (.int .u32 (wN v'.c)) h1
  have h3 := heap_setCell_same _ b 3 _ _ (.int .u32 (wN v'.d)) h2
  have h4 := heap_setCell_same _ b 4 _ _ (.int .u32 (wN v'.e)) h3
  have h5 := heap_setCell_same _ b 5 _ _ (.int .u32 (wN v'.f)) h4
  have h6 := heap_setCell_same _ b 6 _ _ (.int .u32 (wN v'.g)) h5
  have h7 := heap_setCell_same _ b 7 _ _ (.int .u32 (wN v'.i)) h6
  refine h7.trans ?_
  simp [hcells, W8.cells, wv]
/-- The length is written. -/
theorem HashAt.setLength (h : HashAt w b v buf n) (m : Nat) : HashAt (w.setCell ⟨b, 72, none⟩ (.int .i64 (m : Int))) b v buf m := by
  refine ⟨h.len, (heap_setCell_same _ b 72 _ _ _ h.hb).trans ?_⟩
  have e : ((hcells v buf n).toArray.setIfInBounds 72 (.int .i64 (m : Int))) = (hcells v buf m).toArray := by
    rw [List.setIfInBounds_toArray]
    unfold hcells
    rw [List.set_append_right _ _ (by simp [W8.cells]), List.set_append_right _ _ (by simp [W8.cells, h.len])]
    simp [W8.cells, h.len]
  rw [e]
theorem grown_states (w : World) (b : Nat) (x0 x1 x2 x3 x4 x5 x6 x7 : Value) : w.grownBy ((((((((w.setCell ⟨b, 0, none⟩ x0).setCell ⟨b, 1, none⟩ x1).setCell ⟨b, 2, none⟩ x2).setCell ⟨b, 3, none⟩ x3).setCell ⟨b, 4, none⟩ x4).setCell ⟨b, 5, none⟩ x5).setCell ⟨b, 6, none⟩ x6).setCell ⟨b, 7, none⟩ x7) (some b) := by
  have h := grownBy_setCell
  exact grownBy_trans (grownBy_trans (grownBy_trans (grownBy_trans (grownBy_trans (grownBy_trans (grownBy_trans (h w b 0 x0) (h _ b 1 x1)) (h _ b 2 x2)) (h _ b 3 x3)) (h _ b 4 x4)) (h _ b 5 x5)) (h _ b 6 x6)) (h _ b 7 x7)
end

end Go.Proofs.YtplclpileejemaaDoor
