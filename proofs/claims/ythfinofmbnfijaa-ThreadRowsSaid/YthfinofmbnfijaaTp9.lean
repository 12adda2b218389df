/- The forest passes the check. -/
import Derived.Test.YthfinofmbnfijaaTp7
import Derived.Test.YthfinofmbnfijaaTh12
namespace Go.Proofs.Ythfinofmbnfijaa
open Go.RowKit
set_option linter.unusedVariables false
set_option linter.unusedSimpArgs false

/-- What a node must be, behind the nodes out, on the path P. -/
structure CkN (out : List NodeV) (P : List Nat) (n : NodeV) : Prop where
  row : -1 ≤ n.row
  par : -1 ≤ n.parent ∧ n.parent < (out.length : Int)
  path : n.parent ≠ -1 → popL n.parent P ≠ []
  dep : n.depth = depOf out n.parent
  new : ∀ m ∈ out, m.id ≠ n.id
/-- The nodes so far pass the check, and leave the path P. -/
inductive Ck : List NodeV → List Nat → Prop
  | nil : Ck [] []
  | snoc {out P n} : Ck out P → CkN out P n → Ck (out ++ [n]) (out.length :: popL n.parent P)
theorem depOf_pre {A B : List NodeV} {p : Int} (h : p < (A.length : Int)) (h0 : -1 ≤ p) : depOf (A ++ B) p = depOf A p := by
  unfold depOf
  by_cases e : p = -1
  · rw [if_pos e, if_pos e]
  · rw [if_neg e, if_neg e, List.getElem?_append_left (by omega)]
theorem Ck.go {A : List NodeV} {P : List Nat} (h : Ck A P) : ∀ (B : List NodeV) (f : Nat), chkGo (A ++ B) (f + A.length) 0 [] = chkGo (A ++ B) f A.length P := by
  induction h with
  | nil => intro B f; rfl
  | @snoc out P n h hn ih =>
    intro B f
    have h1 := ih (n :: B) (f + 1)
    rw [List.append_assoc, List.singleton_append, List.length_append, List.length_singleton]
    rw [show f + (out.length + 1) = f + 1 + out.length by omega, h1]
    have hg : (out ++ n :: B)[out.length]? = some n := by rw [List.getElem?_append_right (Nat.le_refl _), Nat.sub_self]; rfl
    conv => lhs; unfold chkGo
    rw [hg]
    dsimp only
    rw [if_neg (by have := hn.row; have := hn.par; omega), if_neg (fun h => hn.path h.1 h.2), depOf_pre hn.par.2 hn.par.1, if_neg (fun h => h hn.dep), if_neg]
    rw [List.take_left' rfl, List.any_eq_true]
    rintro ⟨m, hm, e⟩
    exact hn.new m hm (of_decide_eq_true e)
theorem Ck.check {A : List NodeV} {P : List Nat} (h : Ck A P) : checkP A = 0 := by
  have h1 := h.go [] 0
  rw [List.append_nil, Nat.zero_add] at h1
  unfold checkP
  rw [h1]
  rfl
theorem popL_app {p : Int} {T P : List Nat} (h : ∀ t ∈ T, (t : Int) ≠ p) : popL p (T ++ P) = popL p P := by
  induction T with
  | nil => rfl
  | cons t T ih =>
    rw [List.cons_append, popL_cons, if_neg (h t (List.mem_cons_self ..))]
    exact ih fun u hu => h u (List.mem_cons_of_mem _ hu)
theorem popL_idem (p : Int) (P : List Nat) : popL p (popL p P) = popL p P := by
  induction P with
  | nil => rfl
  | cons q Q ih =>
    rw [popL_cons]
    by_cases e : (q : Int) = p
    · rw [if_pos e, popL_cons, if_pos e]
    · rw [if_neg e]; exact ih
theorem visL_pre (ch : Kid) (row : IdB → Int) : ∀ (n : Nat) (out : List NodeV) (x : IdB) (p d : Int), out <+: visL ch row n out x p d
  | 0, _, _, _, _ => List.prefix_refl _
  | n + 1, out, x, p, d => by
    unfold visL
    have hf : ∀ (M : List IdB) (k : Int) (o : List NodeV), o <+: M.foldl (fun o y => visL ch row n o y k (d + 1)) o := by
      intro M k
      induction M with
      | nil => intro o; exact List.prefix_refl _
      | cons y M ih =>
        intro o
        rw [List.foldl_cons]
        exact (visL_pre ch row n o y k (d + 1)).trans (ih _)
    exact (List.prefix_append _ _).trans (hf _ _ _)
/-- One node and what is below it. -/
theorem vis_ck (ch : Kid) (row : IdB → Int) (hrow : ∀ x, -1 ≤ row x) : ∀ (n : Nat) (out : List NodeV) (x : IdB) (p d : Int) (P : List Nat), FinK ch n x → Ck out P → (-1 ≤ p ∧ p < (out.length : Int)) → (p ≠ -1 → popL p P ≠ []) → d = depOf out p → (out.map (·.id) ++ descL ch n x).Nodup →
    ∃ T, Ck (visL ch row n out x p d) (T ++ popL p P) ∧ ∀ t ∈ T, out.length ≤ t
  | 0, _, _, _, _, _, hfin, _, _, _, _, _ => hfin.elim
  | n + 1, out, x, p, d, P, hfin, hck, hp, hpp, hd, hnd => by
    have hnew : ∀ m ∈ out, m.id ≠ x := fun m hm e => by
      rw [List.nodup_append] at hnd
      exact hnd.2.2 _ (List.mem_map.2 ⟨m, hm, rfl⟩) x (by unfold descL; exact List.mem_cons_self ..) e
    have h1 : Ck (out ++ [⟨x, row x, p, d⟩]) (out.length :: popL p P) := Ck.snoc hck ⟨hrow x, hp, hpp, hd, hnew⟩
    have hfold : ∀ (M : List IdB) (o : List NodeV) (T : List Nat), (∀ y ∈ M, FinK ch n y) → (out ++ [⟨x, row x, p, d⟩]) <+: o → Ck o (T ++ (out.length :: popL p P)) → (∀ t ∈ T, out.length < t) → (o.map (·.id) ++ M.flatMap (descL ch n)).Nodup →
        ∃ T', Ck (M.foldl (fun o y => visL ch row n o y out.length (d + 1)) o) (T' ++ (out.length :: popL p P)) ∧ ∀ t ∈ T', out.length < t := by
      intro M
      induction M with
      | nil => intro o T _ _ h2 h3 _; exact ⟨T, h2, h3⟩
      | cons y M ih =>
        intro o T hM hpre h2 h3 h4
        rw [List.foldl_cons]
        obtain ⟨s, rfl⟩ := hpre
        have hpop : popL (out.length : Int) (T ++ (out.length :: popL p P)) = out.length :: popL p P := by
          rw [popL_app (fun t ht => by have := h3 t ht; omega), popL_cons, if_pos rfl]
        have hlen : out.length < ((out ++ [⟨x, row x, p, d⟩]) ++ s : List NodeV).length := by simp
        rw [List.flatMap_cons, ← List.append_assoc] at h4
        obtain ⟨T2, h5, h6⟩ := vis_ck ch row hrow n ((out ++ [⟨x, row x, p, d⟩]) ++ s) y out.length (d + 1) _ (hM y (List.mem_cons_self ..)) h2 ⟨by omega, by omega⟩ (fun _ => by rw [hpop]; exact List.cons_ne_nil _ _) (by
          unfold depOf
          rw [if_neg (by omega), Int.toNat_natCast, List.append_assoc, List.getElem?_append_right (Nat.le_refl _), Nat.sub_self]
          rfl) (List.nodup_append.1 h4).1
        rw [hpop] at h5
        refine ih _ T2 (fun z hz => hM z (List.mem_cons_of_mem _ hz)) ((List.prefix_append _ _).trans (visL_pre ch row n _ y _ _)) h5 (fun t ht => Nat.lt_of_lt_of_le hlen (h6 t ht)) ?_
        rw [visL_ids]
        exact h4
    obtain ⟨T', h7, h8⟩ := hfold (ch x) _ [] hfin (List.prefix_refl _) h1 (fun t ht => by cases ht) (by
      rw [List.map_append, List.append_assoc]
      have e : descL ch (n + 1) x = x :: (ch x).flatMap (descL ch n) := rfl
      rw [e] at hnd
      exact hnd)
    refine ⟨T' ++ [out.length], ?_, fun t ht => ?_⟩
    · unfold visL
      rw [List.append_assoc]
      exact h7
    · rcases List.mem_append.1 ht with h | h
      · exact Nat.le_of_lt (h8 t h)
      · rw [List.mem_singleton.1 h]; exact Nat.le_refl _
theorem for_ck {c : Par} {pl : List IdB} (hac : ∀ x, ¬ onC c x) (hpl : pl.Nodup) (row : IdB → Int) (hrow : ∀ x, -1 ≤ row x) : checkP (forL c pl row (pl.length + 1)) = 0 := by
  have hfold : ∀ (M : List IdB) (o : List NodeV) (P : List Nat), Ck o P → (o.map (·.id) ++ M.flatMap (descL (kidsOf c pl) (pl.length + 1))).Nodup →
      ∃ P', Ck (M.foldl (fun o x => visL (kidsOf c pl) row (pl.length + 1) o x (-1) 0) o) P' := by
    intro M
    induction M with
    | nil => intro o P h _; exact ⟨P, h⟩
    | cons y M ih =>
      intro o P h h4
      rw [List.foldl_cons]
      rw [List.flatMap_cons, ← List.append_assoc] at h4
      obtain ⟨T, h5, _⟩ := vis_ck (kidsOf c pl) row hrow (pl.length + 1) o y (-1) 0 P (fin_all hac y) h ⟨Int.le_refl _, by omega⟩ (fun e => absurd rfl e) (by unfold depOf; rw [if_pos rfl]) (List.nodup_append.1 h4).1
      refine ih _ _ h5 ?_
      rw [visL_ids]
      exact h4
  obtain ⟨P', h⟩ := hfold (rootsOf c pl) [] [] Ck.nil (by rw [List.map_nil, List.nil_append]; exact all_nodup hac hpl _)
  exact h.check
end Go.Proofs.Ythfinofmbnfijaa
