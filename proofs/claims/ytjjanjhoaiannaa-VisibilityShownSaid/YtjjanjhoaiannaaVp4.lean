/- Visibility, plain: an article without references that arrives shows what its being gone would show. -/
import Derived.Test.YtjjanjhoaiannaaV14
namespace Go.Proofs.Ytjjanjhoaiannaa
open Go.RowKit
set_option linter.unusedVariables false
set_option linter.unusedSimpArgs false

section
variable {L : List RowV} {G : List IdB} {now : Int} {x : RowV}
theorem findRow_snoc (q : IdB) : findRow (L ++ [x]) q = (findRow L q).or (if x.id = q then some x else none) := by
  unfold findRow
  rw [List.find?_append]
  congr 1
  by_cases h : x.id = q
  · rw [if_pos h, List.find?_cons, beq_iff_eq.2 h]
  · rw [if_neg h, List.find?_cons, beq_false_of_ne h]
    rfl
theorem hole_to (hx : x.refs = []) : ∀ (n : Nat) (r : RowV), dec (L ++ [x]) G now n r = true → r ∈ L → dec L (G ++ [x.id]) now n r = true
  | 0, _, h, _ => h
  | n + 1, r, h, hr => by
    unfold dec at h ⊢
    unfold stepR at h ⊢
    cases hq : r.refs.getLast? with
    | none =>
      simp only [Option.bind_none]
      unfold termR
      rw [hq]
    | some q =>
      rw [hq, Option.bind_some, findRow_snoc] at h
      rw [Option.bind_some]
      cases hf : findRow L q with
      | some p =>
        rw [hf, Option.some_or] at h
        exact hole_to hx n p h (findRow_mem hf).1
      | none =>
        rw [hf, Option.none_or] at h
        simp only
        unfold termR
        rw [hq]
        simp only [Bool.or_eq_true, decide_eq_true_eq, List.mem_append, List.mem_singleton]
        by_cases he : x.id = q
        · exact .inl (.inr he.symm)
        · rw [if_neg he] at h
          simp only at h
          unfold termR at h
          rw [hq] at h
          simp only [Bool.or_eq_true, decide_eq_true_eq] at h
          exact h.elim (fun h => .inl (.inl h)) .inr
theorem dec_root (hx : x.refs = []) (n : Nat) : dec L G now (n + 1) x = true := by
  unfold dec stepR termR
  rw [hx]
  rfl
theorem hole_of (hx : x.refs = []) : ∀ (n : Nat) (r : RowV), dec L (G ++ [x.id]) now n r = true → dec (L ++ [x]) G now (n + 1) r = true
  | 0, _, h => by cases h
  | n + 1, r, h => by
    unfold dec at h ⊢
    unfold stepR at h ⊢
    cases hq : r.refs.getLast? with
    | none =>
      simp only [Option.bind_none]
      unfold termR
      rw [hq]
    | some q =>
      rw [hq, Option.bind_some] at h
      rw [Option.bind_some, findRow_snoc]
      cases hf : findRow L q with
      | some p =>
        rw [hf] at h
        rw [Option.some_or]
        exact hole_of hx n p h
      | none =>
        rw [hf] at h
        rw [Option.none_or]
        by_cases he : x.id = q
        · rw [if_pos he]
          exact dec_root hx n
        · rw [if_neg he]
          simp only at h ⊢
          unfold termR at h ⊢
          rw [hq] at h ⊢
          simp only [Bool.or_eq_true, decide_eq_true_eq, List.mem_append, List.mem_singleton] at h ⊢
          exact h.elim (fun h => h.elim .inl (fun e => absurd e.symm he)) .inr
theorem hole_shB (hn : (L.map (·.id)).Nodup) (hx : x.refs = []) {r : RowV} (hr : r ∈ L) : shB (L ++ [x]) G now r = shB L (G ++ [x.id]) now r := by
  apply Bool.eq_iff_iff.2
  constructor
  · intro h
    unfold shB at h
    have h1 := hole_to hx _ r h hr
    obtain ⟨k, _, s, h2, h3, h4⟩ := (dec_iff _ _).1 h1
    exact (shB_iff hn hr).2 ⟨k, s, h2, h3, h4⟩
  · intro h
    unfold shB at h ⊢
    rw [List.length_append]
    exact hole_of hx _ r h
theorem hole_filter (hn : (L.map (·.id)).Nodup) (hx : x.refs = []) : (L ++ [x]).filter (fun r => shB (L ++ [x]) G now r) = (L.filter fun r => shB L (G ++ [x.id]) now r) ++ [x] := by
  rw [List.filter_append]
  congr 1
  · exact List.filter_congr fun r hr => hole_shB hn hx hr
  · have h : shB (L ++ [x]) G now x = true := by
      unfold shB
      rw [List.length_append]
      exact dec_root hx _
    simp [h]
theorem hole_facts (hn : (L.map (·.id)).Nodup) (hx : x.refs = []) : ∀ I A X : List IdB, sortB (((L ++ [x]).filter fun r => shB (L ++ [x]) G now r).map (·.id)) = I → sortB ((L.filter fun r => shB L (G ++ [x.id]) now r).map (·.id)) = A →
    sortB ((L.filter fun r => shB L G now r).map (·.id)) = X → x.id ∈ I ∧ I.length = A.length + 1 ∧ (∀ a ∈ A, a ∈ I) ∧ (∀ a ∈ X, a ∈ I) := by
  rintro I A X rfl rfl rfl
  rw [hole_filter hn hx]
  have hA : ∀ a, a ∈ sortB ((L.filter fun r => shB L (G ++ [x.id]) now r).map (·.id)) → a ∈ sortB (((L.filter fun r => shB L (G ++ [x.id]) now r) ++ [x]).map (·.id)) := fun a ha => by
    rw [(sortB_perm _).mem_iff] at ha ⊢
    rw [List.map_append]
    exact List.mem_append_left _ ha
  refine ⟨?_, ?_, hA, fun a ha => hA a ?_⟩
  · rw [(sortB_perm _).mem_iff, List.map_append]
    exact List.mem_append_right _ (List.mem_singleton.2 rfl)
  · rw [sort_len, sort_len, List.map_append, List.length_append]
    rfl
  · rw [mem_sorted] at ha ⊢
    obtain ⟨r, h1, h2, h3⟩ := ha
    exact ⟨r, h1, dec_mono (fun y hy => List.mem_append_left _ hy) (Int.le_refl _) (Nat.le_refl _) h2, h3⟩
end

theorem chkGo_prefix {R : RowV} : ∀ {L : List RowV} {seen : List IdB}, chkGo seen (L ++ [R]) = 0 → chkGo seen L = 0
  | [], _, _ => rfl
  | r :: L, seen, h => by
    rw [List.cons_append] at h
    unfold chkGo at h ⊢
    split at h
    · cases h
    · rename_i h1
      rw [if_neg h1]
      split at h
      · cases h
      · rename_i h2
        rw [if_neg h2]
        split at h
        · cases h
        · rename_i h3
          rw [if_neg h3]
          exact chkGo_prefix h
theorem chk_prefix {R : RowV} {L : List RowV} (h : chkL (L ++ [R]) = 0) : chkL L = 0 := by
  unfold chkL at h ⊢
  split at h
  · cases h
  · rename_i h1
    rw [List.length_append, List.length_singleton] at h1
    rw [if_neg (by omega)]
    exact chkGo_prefix h

/-! a region whose outcome is named before it is walked -/
theorem cut_region {P : Program} {Q : Exit → Act → World → Prop} {id : Nat} {ops : Array Oper} {b : Bool} {a : Act} {w : World} (T : Act → Act → World → Prop)
    (h1 : (Code.region id ops b).wp P (fun e a' w' => e = .normal ∧ T a a' w') a w) (h2 : ∀ a' w', T a a' w' → Q .normal a' w') : (Code.region id ops b).wp P Q a w :=
  Code.wp_mono (fun e a' w' h => by obtain ⟨rfl, h⟩ := h; exact h2 _ _ h) h1
theorem list_block1 {P : Program} {sT T : TypeId} {α : Type} (E : ElemTy P sT T α) {w : World} {b : Nat} {x : α} (h : w.heap[b]? = some (.cells (E.enc x).toArray T (0, 0))) : ListAt E w (.slice (some ⟨b, 0, none⟩) 1 1) [x] :=
  list_of_block E (M := [x]) (by simpa using h) (le_max4 (by simp))
end Go.Proofs.Ytjjanjhoaiannaa
