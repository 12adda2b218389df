/- A region that draws its order: some last operations (fin) wait for those that read, at once or through others of fin. -/
import Derived.Test.YtnmdgjodbikndaaRegion2
namespace Go.Proofs.Ytnmdgjodbikndaa
open Go
set_option linter.unusedVariables false
set_option linter.unusedSimpArgs false

section
variable {P : Program} {ops : Array Oper} {Q : Exit → Act → World → Prop} {md : Region.Mode} {S : World → Prop} {fin : List Nat}

/-- Each of 'fin' waits for 'i', or for another of 'fin'. -/
def lastZ (md : Region.Mode) (ops : Array Oper) (fin : List Nat) (i : Nat) : Bool :=
  fin.all fun j => match ops[j]? with | some o => o.after.any fun e => Region.binds md e && (e.on == i || fin.contains e.on) | none => false

theorem lastZ_spec {i j : Nat} (h : lastZ md ops fin i = true) (hj : j ∈ fin) {o : Oper} (ho : ops[j]? = some o) : ∃ e ∈ o.after, Region.binds md e = true ∧ (e.on = i ∨ e.on ∈ fin) := by
  unfold lastZ at h
  have h := List.all_eq_true.1 h j hj
  simp only [ho] at h
  obtain ⟨e, he, hb⟩ := Array.any_eq_true'.1 h
  simp only [Bool.and_eq_true, Bool.or_eq_true, beq_iff_eq, List.contains_iff_mem] at hb
  exact ⟨e, he, hb.1, hb.2⟩

/-- The common part: 'i' is taken first. Either it reads under S, and all of 'fin' wait for it, or it reads no memory. -/
theorem wpAnyG_firstZ {S' : World → Prop} (kb : Bool) {i : Nat} {oi : Oper} {v : Value} (hi : ops[i]? = some oi) (hsel : ∀ (j : Nat) (o : Oper) cs b, ops[j]? = some o → o.op ≠ .select cs b)
    (hQ : ∀ c a w, Q (.panic c) (a.put oi.dst v) w → Q (.panic c) a w) (hifin : i ∉ fin) (hcase : (kb = true ∧ lastZ md ops fin i = true ∧ S' = S) ∨ (kb = false ∧ S' = fun _ => True)) :
    ∀ (fuel : Nat) (listed : Array Bool) (a : Act) (w : World),
      (∀ j oj, ops[j]? = some oj → j ≠ i → listed.getD j true = false → (∀ e ∈ oj.after, Region.binds md e = true → e.on ≠ i) → oi.apart ops oj = true) →
      i ∈ Region.ready md ops listed → YieldsIf P ops S' oi v a → (kb = true → notYet fin listed = true) → (notYet fin listed = true → S w) →
      wpAnyG P md ops Q S fin fuel (listed.setIfInBounds i true) (a.put oi.dst v) w → wpAnyG P md ops Q S fin (fuel + 1) listed a w := by
  intro fuel
  induction fuel with
  | zero =>
    intro listed a w _ hr hy hny hS H
    have hS' : S' w := by
      rcases hcase with ⟨hk, _, e⟩ | ⟨_, e⟩
      · rw [e]; exact hS (hny hk)
      · rw [e]; trivial
    refine ⟨fun h => (by rw [h] at hr; cases hr), fun j hj => ?_⟩
    by_cases hji : j = i
    · subst hji; exact hy.wpOp hi hS' ⟨fun h => hS (by rwa [notYet_set hifin] at h), H⟩
    · have := ready_mono hj hji
      rw [H.1] at this
      cases this
  | succ fuel ih =>
    intro listed a w hfree hr hy hny hS H
    have hS' : S' w := by
      rcases hcase with ⟨hk, _, e⟩ | ⟨_, e⟩
      · rw [e]; exact hS (hny hk)
      · rw [e]; trivial
    refine ⟨fun h => (by rw [h] at hr; cases hr), fun j hj => ?_⟩
    by_cases hji : j = i
    · subst hji; exact hy.wpOp hi hS' ⟨fun h => hS (by rwa [notYet_set hifin] at h), H⟩
    · have h1 := H.2 j (ready_mono hj hji)
      obtain ⟨hjun, oj, hoj, hall⟩ := mem_ready.1 hj
      have hnot : ∀ e ∈ oj.after, Region.binds md e = true → e.on ≠ i := fun e he hb heq => by
        have h1 := hall e he hb
        have h0 := (mem_ready.1 hr).1
        rw [heq] at h1
        rcases Nat.lt_or_ge i listed.size with h' | h'
        · simp [h'] at h0 h1; rw [h0] at h1; cases h1
        · simp [Array.getElem?_eq_none h'] at h1
      have h2 := wpOp_putIf hoj (hfree j oj hoj hji hjun hnot) (fun cs b => hsel i oi cs b hi) (fun cs b => hsel j oj cs b hoj) hQ hy h1
      have hfree' : ∀ k ok, ops[k]? = some ok → k ≠ i → (listed.setIfInBounds j true).getD k true = false →
          (∀ e ∈ ok.after, Region.binds md e = true → e.on ≠ i) → oi.apart ops ok = true := fun k ok hk hki hun hno => by
        refine hfree k ok hk hki ?_ hno
        by_cases hjk : j = k
        · subst hjk; exact hjun
        · rw [getD_set_ne true hjk] at hun; exact hun
      have hcm : notYet fin ((listed.setIfInBounds i true).setIfInBounds j true) = notYet fin (listed.setIfInBounds j true) := by
        rw [Array.setIfInBounds_comm _ _ (Ne.symm hji), notYet_set hifin]
      have hny' : kb = true → notYet fin (listed.setIfInBounds j true) = true := fun e => by
        rcases hcase with ⟨_, hl, _⟩ | ⟨e2, _⟩
        · have hjf : j ∉ fin := fun hm => by
            obtain ⟨e', he', hb', hon⟩ := lastZ_spec hl hm hoj
            rcases hon with hon | hon
            · exact hnot e' he' hb' hon
            · have h1 := hall e' he' hb'
              have h0 := List.all_eq_true.1 (hny e) _ hon
              simp only [Bool.not_eq_true'] at h0
              rcases Nat.lt_or_ge e'.on listed.size with h' | h'
              · simp [h'] at h0 h1; rw [h0] at h1; cases h1
              · simp [Array.getElem?_eq_none h'] at h1
          rw [notYet_set hjf]
          exact hny e
        · rw [e] at e2; cases e2
      refine wpOp_mono (fun a' w' h3 => ⟨fun h => h3.2.1 (by rw [hcm]; exact h), ih (listed.setIfInBounds j true) a' w' hfree' (ready_mono hr (Ne.symm hji)) h3.1 hny' (fun h => h3.2.1 (by rw [hcm]; exact h)) ?_⟩) h2
      rw [Array.setIfInBounds_comm _ _ hji]
      exact h3.2.2

/-- An operation that reads under S; all of 'fin' wait for it, at once or through others of 'fin'. -/
theorem wpAnyG_takeZ {i : Nat} {oi : Oper} {v : Value} {fuel : Nat} {listed : Array Bool} {a : Act} {w : World} (hi' : ops.toList[i]? = some oi)
    (hs : Region.noSelect ops = true) (hf : Region.free md ops listed i = true) (hr : (Region.ready md ops listed).contains i = true) (hfin : (!fin.contains i && lastZ md ops fin i && notYet fin listed) = true)
    (hQ : ∀ c a w, Q (.panic c) (a.put oi.dst v) w → Q (.panic c) a w) (hy : YieldsIf P ops S oi v a) (hS : S w)
    (h : wpAnyG P md ops Q S fin fuel (listed.setIfInBounds i true) (a.put oi.dst v) w) : wpAnyG P md ops Q S fin (fuel + 1) listed a w := by
  have hi : ops[i]? = some oi := by simpa using hi'
  simp only [Bool.and_eq_true] at hfin
  exact wpAnyG_firstZ true hi (Region.noSelect_spec hs) hQ (by simpa using hfin.1.1) (.inl ⟨rfl, hfin.1.2, rfl⟩) fuel listed a w (Region.free_spec hi hf) (by simpa using hr) hy (fun _ => hfin.2) (fun _ => hS) h

/-- An operation without memory behind one of 'fin'. -/
theorem wpAnyG_late {i : Nat} {oi : Oper} {v : Value} {fuel : Nat} {listed : Array Bool} {a : Act} {w : World} (hi' : ops.toList[i]? = some oi)
    (hs : Region.noSelect ops = true) (hf : Region.free md ops listed i = true) (hr : (Region.ready md ops listed).contains i = true) (hfin : (!fin.contains i) = true) (hn : notYet fin listed = false)
    (hQ : ∀ c a w, Q (.panic c) (a.put oi.dst v) w → Q (.panic c) a w) (hy : YieldsIf P ops (fun _ => True) oi v a)
    (h : wpAnyG P md ops Q S fin fuel (listed.setIfInBounds i true) (a.put oi.dst v) w) : wpAnyG P md ops Q S fin (fuel + 1) listed a w :=
  wpAnyG_pure hi' hs hf hr hfin hQ hy (fun h => by rw [hn] at h; cases h) h
end
end Go.Proofs.Ytnmdgjodbikndaa
