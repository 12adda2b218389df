/- The forest does not hang on the order of the articles; The forest passes the check; Every placed identity stands in the forest; Parents in the forest; the first child follows; What is known of the forest of articles. -/
import Derived.Test.YtjjanjhoaiannaaTh16
import Derived.Test.YtjjanjhoaiannaaTp7
import Derived.Test.YtjjanjhoaiannaaTh12
namespace Go.Proofs.Ytjjanjhoaiannaa
open Go.RowKit
set_option linter.unusedVariables false
set_option linter.unusedSimpArgs false

/-- A node with another row. -/
def NodeV.re (f : IdB → Int) (x : NodeV) : NodeV := ⟨x.id, f x.id, x.parent, x.depth⟩
theorem visL_re (ch : Kid) (row : IdB → Int) : ∀ (n : Nat) (out : List NodeV) (x : IdB) (p d : Int), visL ch row n (out.map (NodeV.re row)) x p d = (visL ch (fun _ => 0) n out x p d).map (NodeV.re row)
  | 0, _, _, _, _ => rfl
  | n + 1, out, x, p, d => by
    have hf : ∀ (M : List IdB) (k : Int) (o : List NodeV), M.foldl (fun o y => visL ch row n o y k (d + 1)) (o.map (NodeV.re row)) = (M.foldl (fun o y => visL ch (fun _ => 0) n o y k (d + 1)) o).map (NodeV.re row) := by
      intro M k
      induction M with
      | nil => intro o; rfl
      | cons y M ih =>
        intro o
        rw [List.foldl_cons, List.foldl_cons, visL_re ch row n o y k (d + 1)]
        exact ih _
    unfold visL
    rw [List.length_map, ← hf, List.map_append]
    rfl
theorem forL_re (c : Par) (pl : List IdB) (row : IdB → Int) (n : Nat) : forL c pl row n = (forL c pl (fun _ => 0) n).map (NodeV.re row) := by
  unfold forL
  have hf : ∀ (M : List IdB) (o : List NodeV), M.foldl (fun o y => visL (kidsOf c pl) row n o y (-1) 0) (o.map (NodeV.re row)) = (M.foldl (fun o y => visL (kidsOf c pl) (fun _ => 0) n o y (-1) 0) o).map (NodeV.re row) := by
    intro M
    induction M with
    | nil => intro o; rfl
    | cons y M ih =>
      intro o
      rw [List.foldl_cons, List.foldl_cons, visL_re]
      exact ih _
  exact hf _ []
theorem arrS_of_perm {M Y : List RowV} (hp : Y.Perm M) (hn : (M.map (·.id)).Nodup) : arrS Y = arrS M := by
  have hny : (Y.map (·.id)).Nodup := (hp.map _).nodup_iff.2 hn
  exact asc_unique ((arrS_perm Y).trans ((hp.map _).trans (arrS_perm M).symm)) (arrS_asc hny) (arrS_asc hn)
theorem idxL_perm {M Y : List RowV} (hp : Y.Perm M) (x : IdB) : idxL M x < 0 ↔ idxL Y x < 0 := by
  rw [idxL_nonneg, idxL_nonneg]
  exact ⟨fun h r hr => h r (hp.mem_iff.1 hr), fun h r hr => h r (hp.mem_iff.2 hr)⟩
/-- Two forests of the same articles. -/
theorem order_plain {M Y : List RowV} (hp : Y.Perm M) (hn : (M.map (·.id)).Nodup) {c1 c2 : Par} (h1 : IsCut (pM (isArt (arrS M)) (arrS M)) (arrS M) c1) (h2 : IsCut (pM (isArt (arrS Y)) (arrS Y)) (arrS Y) c2) :
    ∃ F : List NodeV, forestV M c1 = F.map (NodeV.re (idxL M)) ∧ forestV Y c2 = F.map (NodeV.re (idxL Y)) := by
  have hny : (Y.map (·.id)).Nodup := (hp.map _).nodup_iff.2 hn
  rw [arrS_of_perm hp hn] at h2
  obtain rfl := h1.uniq h2
  rw [forestV_eq hn, forestV_eq hny, arrS_of_perm hp hn]
  unfold forestS
  exact ⟨_, forL_re _ _ _ _, forL_re _ _ _ _⟩
theorem swap_perm {α : Type} (L : List α) (a b : Nat) (ha : a < L.length) (hb : b < L.length) : ((L.set a L[b]).set b L[a]).Perm L := by
  have h := Array.swap_perm (xs := L.toArray) (i := a) (j := b) (by simpa using ha) (by simpa using hb)
  have h2 := h.toList
  rw [Array.toList_swap] at h2
  exact h2
end Go.Proofs.Ytjjanjhoaiannaa

namespace Go.Proofs.Ytjjanjhoaiannaa
open Go.RowKit
set_option linter.unusedVariables false
set_option linter.unusedSimpArgs false

/-- What a node must be, behind the nodes out, on the path P. -/
structure CkN (out : List NodeV) (P : List Nat) (n : NodeV) : Prop where
  row : -1 ≤ n.row
  par : -1 ≤ n.parent ∧ n.parent < (out.length : Int)
  path : n.parent ≠ -1 → popL n.parent P ≠ []
  dep : n.depth = depOf out n.parent
  new : ∀ m ∈ out, m.id ≠ n.id
/-- The nodes so far pass the check, and leave the path P. -/
inductive Ck : List NodeV → List Nat → Prop
  | nil : Ck [] []
  | snoc {out P n} : Ck out P → CkN out P n → Ck (out ++ [n]) (out.length :: popL n.parent P)
theorem depOf_pre {A B : List NodeV} {p : Int} (h : p < (A.length : Int)) (h0 : -1 ≤ p) : depOf (A ++ B) p = depOf A p := by
  unfold depOf
  by_cases e : p = -1
  · rw [if_pos e, if_pos e]
  · rw [if_neg e, if_neg e, List.getElem?_append_left (by omega)]
theorem Ck.go {A : List NodeV} {P : List Nat} (h : Ck A P) : ∀ (B : List NodeV) (f : Nat), chkGo (A ++ B) (f + A.length) 0 [] = chkGo (A ++ B) f A.length P := by
  induction h with
  | nil => intro B f; rfl
  | @snoc out P n h hn ih =>
    intro B f
    have h1 := ih (n :: B) (f + 1)
    rw [List.append_assoc, List.singleton_append, List.length_append, List.length_singleton]
    rw [show f + (out.length + 1) = f + 1 + out.length by omega, h1]
    have hg : (out ++ n :: B)[out.length]? = some n := by rw [List.getElem?_append_right (Nat.le_refl _), Nat.sub_self]; rfl
    conv => lhs; unfold chkGo
    rw [hg]
    dsimp only
    rw [if_neg (by have := hn.row; have := hn.par; omega), if_neg (fun h => hn.path h.1 h.2), depOf_pre hn.par.2 hn.par.1, if_neg (fun h => h hn.dep), if_neg]
    rw [List.take_left' rfl, List.any_eq_true]
    rintro ⟨m, hm, e⟩
    exact hn.new m hm (of_decide_eq_true e)
theorem Ck.check {A : List NodeV} {P : List Nat} (h : Ck A P) : checkP A = 0 := by
  have h1 := h.go [] 0
  rw [List.append_nil, Nat.zero_add] at h1
  unfold checkP
  rw [h1]
  rfl
theorem popL_app {p : Int} {T P : List Nat} (h : ∀ t ∈ T, (t : Int) ≠ p) : popL p (T ++ P) = popL p P := by
  induction T with
  | nil => rfl
  | cons t T ih =>
    rw [List.cons_append, popL_cons, if_neg (h t (List.mem_cons_self ..))]
    exact ih fun u hu => h u (List.mem_cons_of_mem _ hu)
theorem popL_idem (p : Int) (P : List Nat) : popL p (popL p P) = popL p P := by
  induction P with
  | nil => rfl
  | cons q Q ih =>
    rw [popL_cons]
    by_cases e : (q : Int) = p
    · rw [if_pos e, popL_cons, if_pos e]
    · rw [if_neg e]; exact ih
theorem visL_pre (ch : Kid) (row : IdB → Int) : ∀ (n : Nat) (out : List NodeV) (x : IdB) (p d : Int), out <+: visL ch row n out x p d
  | 0, _, _, _, _ => List.prefix_refl _
  | n + 1, out, x, p, d => by
    unfold visL
    have hf : ∀ (M : List IdB) (k : Int) (o : List NodeV), o <+: M.foldl (fun o y => visL ch row n o y k (d + 1)) o := by
      intro M k
      induction M with
      | nil => intro o; exact List.prefix_refl _
      | cons y M ih =>
        intro o
        rw [List.foldl_cons]
        exact (visL_pre ch row n o y k (d + 1)).trans (ih _)
    exact (List.prefix_append _ _).trans (hf _ _ _)
/-- One node and what is below it. -/
theorem vis_ck (ch : Kid) (row : IdB → Int) (hrow : ∀ x, -1 ≤ row x) : ∀ (n : Nat) (out : List NodeV) (x : IdB) (p d : Int) (P : List Nat), FinK ch n x → Ck out P → (-1 ≤ p ∧ p < (out.length : Int)) → (p ≠ -1 → popL p P ≠ []) → d = depOf out p → (out.map (·.id) ++ descL ch n x).Nodup →
    ∃ T, Ck (visL ch row n out x p d) (T ++ popL p P) ∧ ∀ t ∈ T, out.length ≤ t
  | 0, _, _, _, _, _, hfin, _, _, _, _, _ => hfin.elim
  | n + 1, out, x, p, d, P, hfin, hck, hp, hpp, hd, hnd => by
    have hnew : ∀ m ∈ out, m.id ≠ x := fun m hm e => by
      rw [List.nodup_append] at hnd
      exact hnd.2.2 _ (List.mem_map.2 ⟨m, hm, rfl⟩) x (by unfold descL; exact List.mem_cons_self ..) e
    have h1 : Ck (out ++ [⟨x, row x, p, d⟩]) (out.length :: popL p P) := Ck.snoc hck ⟨hrow x, hp, hpp, hd, hnew⟩
    have hfold : ∀ (M : List IdB) (o : List NodeV) (T : List Nat), (∀ y ∈ M, FinK ch n y) → (out ++ [⟨x, row x, p, d⟩]) <+: o → Ck o (T ++ (out.length :: popL p P)) → (∀ t ∈ T, out.length < t) → (o.map (·.id) ++ M.flatMap (descL ch n)).Nodup →
        ∃ T', Ck (M.foldl (fun o y => visL ch row n o y out.length (d + 1)) o) (T' ++ (out.length :: popL p P)) ∧ ∀ t ∈ T', out.length < t := by
      intro M
      induction M with
      | nil => intro o T _ _ h2 h3 _; exact ⟨T, h2, h3⟩
      | cons y M ih =>
        intro o T hM hpre h2 h3 h4
        rw [List.foldl_cons]
        obtain ⟨s, rfl⟩ := hpre
        have hpop : popL (out.length : Int) (T ++ (out.length :: popL p P)) = out.length :: popL p P := by
          rw [popL_app (fun t ht => by have := h3 t ht; omega), popL_cons, if_pos rfl]
        have hlen : out.length < ((out ++ [⟨x, row x, p, d⟩]) ++ s : List NodeV).length := by simp
        rw [List.flatMap_cons, ← List.append_assoc] at h4
        obtain ⟨T2, h5, h6⟩ := vis_ck ch row hrow n ((out ++ [⟨x, row x, p, d⟩]) ++ s) y out.length (d + 1) _ (hM y (List.mem_cons_self ..)) h2 ⟨by omega, by omega⟩ (fun _ => by rw [hpop]; exact List.cons_ne_nil _ _) (by
          unfold depOf
          rw [if_neg (by omega), Int.toNat_natCast, List.append_assoc, List.getElem?_append_right (Nat.le_refl _), Nat.sub_self]
          rfl) (List.nodup_append.1 h4).1
        rw [hpop] at h5
        refine ih _ T2 (fun z hz => hM z (List.mem_cons_of_mem _ hz)) ((List.prefix_append _ _).trans (visL_pre ch row n _ y _ _)) h5 (fun t ht => Nat.lt_of_lt_of_le hlen (h6 t ht)) ?_
        rw [visL_ids]
        exact h4
    obtain ⟨T', h7, h8⟩ := hfold (ch x) _ [] hfin (List.prefix_refl _) h1 (fun t ht => by cases ht) (by
      rw [List.map_append, List.append_assoc]
      have e : descL ch (n + 1) x = x :: (ch x).flatMap (descL ch n) := rfl
      rw [e] at hnd
      exact hnd)
    refine ⟨T' ++ [out.length], ?_, fun t ht => ?_⟩
    · unfold visL
      rw [List.append_assoc]
      exact h7
    · rcases List.mem_append.1 ht with h | h
      · exact Nat.le_of_lt (h8 t h)
      · rw [List.mem_singleton.1 h]; exact Nat.le_refl _
theorem for_ck {c : Par} {pl : List IdB} (hac : ∀ x, ¬ onC c x) (hpl : pl.Nodup) (row : IdB → Int) (hrow : ∀ x, -1 ≤ row x) : checkP (forL c pl row (pl.length + 1)) = 0 := by
  have hfold : ∀ (M : List IdB) (o : List NodeV) (P : List Nat), Ck o P → (o.map (·.id) ++ M.flatMap (descL (kidsOf c pl) (pl.length + 1))).Nodup →
      ∃ P', Ck (M.foldl (fun o x => visL (kidsOf c pl) row (pl.length + 1) o x (-1) 0) o) P' := by
    intro M
    induction M with
    | nil => intro o P h _; exact ⟨P, h⟩
    | cons y M ih =>
      intro o P h h4
      rw [List.foldl_cons]
      rw [List.flatMap_cons, ← List.append_assoc] at h4
      obtain ⟨T, h5, _⟩ := vis_ck (kidsOf c pl) row hrow (pl.length + 1) o y (-1) 0 P (fin_all hac y) h ⟨Int.le_refl _, by omega⟩ (fun e => absurd rfl e) (by unfold depOf; rw [if_pos rfl]) (List.nodup_append.1 h4).1
      refine ih _ _ h5 ?_
      rw [visL_ids]
      exact h4
  obtain ⟨P', h⟩ := hfold (rootsOf c pl) [] [] Ck.nil (by rw [List.map_nil, List.nil_append]; exact all_nodup hac hpl _)
  exact h.check
end Go.Proofs.Ytjjanjhoaiannaa

namespace Go.Proofs.Ytjjanjhoaiannaa
set_option linter.unusedVariables false
set_option linter.unusedSimpArgs false

theorem desc_self {ch : Kid} : ∀ {n : Nat} {x : IdB}, FinK ch n x → x ∈ descL ch n x
  | 0, _, h => h.elim
  | n + 1, _, _ => by unfold descL; exact List.mem_cons_self ..
/-- Below a node stands what answers to what is below it. -/
theorem desc_step {c : Par} {pl : List IdB} : ∀ {n : Nat} {x z y : IdB}, FinK (kidsOf c pl) n x → z ∈ descL (kidsOf c pl) n x → c y = some z → y ∈ pl → y ∈ descL (kidsOf c pl) n x
  | 0, _, _, _, h, _, _, _ => h.elim
  | n + 1, x, z, y, h, hz, hc, hy => by
    unfold descL at hz ⊢
    rcases List.mem_cons.1 hz with rfl | hz
    · have hk := mem_kidsOf.2 ⟨hy, hc⟩
      exact List.mem_cons_of_mem _ (List.mem_flatMap.2 ⟨y, hk, desc_self (h y hk)⟩)
    · obtain ⟨u, hu, hzu⟩ := List.mem_flatMap.1 hz
      exact List.mem_cons_of_mem _ (List.mem_flatMap.2 ⟨u, hu, desc_step (h u hu) hzu hc hy⟩)
theorem up_ends {c : Par} {pl : List IdB} (hac : ∀ x, ¬ onC c x) (hcl : ∀ y ∈ pl, ∀ z, c y = some z → z ∈ pl) {y : IdB} (hy : y ∈ pl) : ∃ m, it c m y = none := by
  refine Classical.byContradiction fun hno => ?_
  have hall : ∀ m, ∃ z, it c m y = some z ∧ z ∈ pl := by
    intro m
    induction m with
    | zero => exact ⟨y, rfl, hy⟩
    | succ m ih =>
      obtain ⟨z, hz, hzp⟩ := ih
      have h1 : it c (m + 1) y = c z := by rw [it_succ, hz]; rfl
      cases hcz : c z with
      | none => exact absurd ⟨m + 1, h1.trans hcz⟩ hno
      | some u => exact ⟨u, h1.trans hcz, hcl z hzp u hcz⟩
  have key : ∀ i, ((it c i y).getD z32) ∈ pl ∧ it c i y = some ((it c i y).getD z32) := fun i => by
    obtain ⟨z, hz, hp⟩ := hall i
    rw [hz]
    exact ⟨hp, rfl⟩
  have hnd : ((List.range (pl.length + 1)).map fun i => (it c i y).getD z32).Nodup := by
    rw [List.nodup_iff_pairwise_ne, List.pairwise_map, List.pairwise_iff_getElem]
    intro i j hi hj hij e
    simp only [List.getElem_range] at e
    have h1 := (key i).2
    have h2 := (key j).2
    rw [← e] at h2
    exact hac _ (it_cyc hij h1 h2)
  have hlen := nodup_len _ pl hnd (fun z hz => by
    obtain ⟨i, hi, rfl⟩ := List.mem_map.1 hz
    exact (key i).1)
  rw [List.length_map, List.length_range] at hlen
  omega
theorem all_mem {c : Par} {pl : List IdB} (hac : ∀ x, ¬ onC c x) (hcl : ∀ y ∈ pl, ∀ z, c y = some z → z ∈ pl) {y : IdB} (hy : y ∈ pl) : y ∈ allL c pl (pl.length + 1) := by
  obtain ⟨m, hm⟩ := up_ends hac hcl hy
  induction m generalizing y with
  | zero => cases hm
  | succ m ih =>
    cases hc : c y with
    | none => exact List.mem_flatMap.2 ⟨y, mem_rootsOf.2 ⟨hy, hc⟩, desc_self (fin_all hac y)⟩
    | some z =>
      have h1 : it c m z = none := by
        have h2 : it c (m + 1) y = (c y).bind (it c m) := rfl
        rw [h2, hc] at hm
        exact hm
      obtain ⟨u, hu, hzu⟩ := List.mem_flatMap.1 (ih (hcl y hy z hc) h1)
      exact List.mem_flatMap.2 ⟨u, hu, desc_step (fin_all hac u) hzu hc hy⟩
end Go.Proofs.Ytjjanjhoaiannaa

namespace Go.Proofs.Ytjjanjhoaiannaa
set_option linter.unusedVariables false
set_option linter.unusedSimpArgs false

/-- Each node's parent stands before it, and is what c says. -/
def OkF (c : Par) (F : List NodeV) : Prop := ∀ (j : Nat) (n : NodeV), F[j]? = some n → (n.parent = -1 ∧ c n.id = none) ∨ ∃ (q : Nat) (m : NodeV), q < j ∧ F[q]? = some m ∧ n.parent = (q : Int) ∧ c n.id = some m.id
theorem OkF.snoc {c : Par} {F : List NodeV} (h : OkF c F) {n : NodeV} (hn : (n.parent = -1 ∧ c n.id = none) ∨ ∃ (q : Nat) (m : NodeV), F[q]? = some m ∧ n.parent = (q : Int) ∧ c n.id = some m.id) : OkF c (F ++ [n]) := by
  intro j n' hj
  by_cases hjl : j < F.length
  · rw [List.getElem?_append_left hjl] at hj
    rcases h j n' hj with h1 | ⟨q, m, h1, h2, h3⟩
    · exact .inl h1
    · exact .inr ⟨q, m, h1, by rw [List.getElem?_append_left (by omega)]; exact h2, h3⟩
  · rw [List.getElem?_append_right (by omega)] at hj
    obtain rfl : j = F.length := by
      by_cases e : j = F.length
      · exact e
      · rw [List.getElem?_eq_none (by simp; omega)] at hj
        cases hj
    rw [Nat.sub_self] at hj
    obtain rfl : n = n' := Option.some.inj hj
    rcases hn with h1 | ⟨q, m, h2, h3⟩
    · exact .inl h1
    · have hq : q < F.length := (List.getElem?_eq_some_iff.1 h2).1
      exact .inr ⟨q, m, hq, by rw [List.getElem?_append_left hq]; exact h2, h3⟩
theorem pre_get {A B : List NodeV} (h : A <+: B) {j : Nat} {n : NodeV} (hj : A[j]? = some n) : B[j]? = some n := by
  obtain ⟨s, rfl⟩ := h
  rw [List.getElem?_append_left (List.getElem?_eq_some_iff.1 hj).1]
  exact hj
theorem vis_ok {c : Par} {pl : List IdB} (row : IdB → Int) : ∀ (n : Nat) (out : List NodeV) (x : IdB) (p d : Int), OkF c out → ((p = -1 ∧ c x = none) ∨ ∃ (q : Nat) (m : NodeV), out[q]? = some m ∧ p = (q : Int) ∧ c x = some m.id) → OkF c (visL (kidsOf c pl) row n out x p d)
  | 0, _, _, _, _, h, _ => h
  | n + 1, out, x, p, d, h, hp => by
    have h1 : OkF c (out ++ [⟨x, row x, p, d⟩]) := h.snoc hp
    have hfold : ∀ (M : List IdB) (o : List NodeV), (∀ y ∈ M, c y = some x) → (out ++ [⟨x, row x, p, d⟩]) <+: o → OkF c o → OkF c (M.foldl (fun o y => visL (kidsOf c pl) row n o y out.length (d + 1)) o) := by
      intro M
      induction M with
      | nil => intro o _ _ h2; exact h2
      | cons y M ih =>
        intro o hM hpre h2
        rw [List.foldl_cons]
        have hk : o[out.length]? = some (⟨x, row x, p, d⟩ : NodeV) := pre_get hpre (by rw [List.getElem?_append_right (Nat.le_refl _), Nat.sub_self]; rfl)
        exact ih _ (fun z hz => hM z (List.mem_cons_of_mem _ hz)) (hpre.trans (visL_pre _ row n o y _ _)) (vis_ok row n o y _ _ h2 (.inr ⟨out.length, _, hk, rfl, hM y (List.mem_cons_self ..)⟩))
    exact hfold _ _ (fun y hy => (mem_kidsOf.1 hy).2) (List.prefix_refl _) h1
theorem for_ok (c : Par) (pl : List IdB) (row : IdB → Int) (n : Nat) : OkF c (forL c pl row n) := by
  have hfold : ∀ (M : List IdB) (o : List NodeV), (∀ y ∈ M, c y = none) → OkF c o → OkF c (M.foldl (fun o x => visL (kidsOf c pl) row n o x (-1) 0) o) := by
    intro M
    induction M with
    | nil => intro o _ h; exact h
    | cons y M ih =>
      intro o hM h
      rw [List.foldl_cons]
      exact ih _ (fun z hz => hM z (List.mem_cons_of_mem _ hz)) (vis_ok row n o y (-1) 0 h (.inl ⟨rfl, hM y (List.mem_cons_self ..)⟩))
  exact hfold _ _ (fun y hy => (mem_rootsOf.1 hy).2) (fun j n hj => by cases hj)
/-- The node at j has a child at once behind it, if it has any. -/
def FirstAt (ch : Kid) (F : List NodeV) (j : Nat) : Prop := ∀ n, F[j]? = some n → ch n.id ≠ [] → ∃ m, F[j + 1]? = some m ∧ m.parent = (j : Int)
theorem FirstAt.pre {ch : Kid} {A B : List NodeV} (h : A <+: B) {j : Nat} (hj : j < A.length) (k : FirstAt ch A j) : FirstAt ch B j := fun n hn hne => by
  obtain ⟨n', hn'⟩ : ∃ n', A[j]? = some n' := ⟨_, List.getElem?_eq_getElem hj⟩
  have e := pre_get h hn'
  rw [hn] at e
  cases e
  obtain ⟨m, h1, h2⟩ := k n hn' hne
  exact ⟨m, pre_get h h1, h2⟩
theorem vis_first {ch : Kid} (row : IdB → Int) : ∀ (n : Nat) (out : List NodeV) (x : IdB) (p d : Int), FinK ch n x → (∃ s, visL ch row n out x p d = out ++ ⟨x, row x, p, d⟩ :: s) ∧ ∀ j, out.length ≤ j → FirstAt ch (visL ch row n out x p d) j
  | 0, _, _, _, _, h => h.elim
  | n + 1, out, x, p, d, hfin => by
    have hpre : ∀ (M : List IdB) (o : List NodeV), o <+: M.foldl (fun o y => visL ch row n o y out.length (d + 1)) o := by
      intro M
      induction M with
      | nil => intro o; exact List.prefix_refl _
      | cons y M ih => intro o; rw [List.foldl_cons]; exact (visL_pre ch row n o y _ _).trans (ih _)
    have hfold : ∀ (M : List IdB) (o : List NodeV) (a : Nat), (∀ y ∈ M, FinK ch n y) → (∀ j, a ≤ j → j < o.length → FirstAt ch o j) → ∀ j, a ≤ j → j < (M.foldl (fun o y => visL ch row n o y out.length (d + 1)) o).length → o.length ≤ j ∨ a ≤ j → FirstAt ch (M.foldl (fun o y => visL ch row n o y out.length (d + 1)) o) j := by
      intro M
      induction M with
      | nil => intro o a _ h j h1 h2 _; exact h j h1 h2
      | cons y M ih =>
        intro o a hM h j h1 h2 _
        rw [List.foldl_cons] at h2 ⊢
        refine ih _ a (fun z hz => hM z (List.mem_cons_of_mem _ hz)) (fun i hi1 hi2 => ?_) j h1 h2 (.inr h1)
        by_cases hio : i < o.length
        · exact (h i hi1 hio).pre (visL_pre ch row n o y _ _) hio
        · exact (vis_first row n o y _ _ (hM y (List.mem_cons_self ..))).2 i (by omega)
    have hv : visL ch row (n + 1) out x p d = (ch x).foldl (fun o y => visL ch row n o y out.length (d + 1)) (out ++ [⟨x, row x, p, d⟩]) := rfl
    refine ⟨?_, fun j hj => ?_⟩
    · obtain ⟨s, hs⟩ := hpre (ch x) (out ++ [⟨x, row x, p, d⟩])
      exact ⟨s, by rw [hv, ← hs, List.append_assoc]; rfl⟩
    · by_cases hjl : j < (visL ch row (n + 1) out x p d).length
      · by_cases hjk : j = out.length
        · subst hjk
          intro m hm hne
          have hx : (visL ch row (n + 1) out x p d)[out.length]? = some (⟨x, row x, p, d⟩ : NodeV) := by
            rw [hv]
            exact pre_get (hpre _ _) (by rw [List.getElem?_append_right (Nat.le_refl _), Nat.sub_self]; rfl)
          rw [hx] at hm
          obtain rfl := Option.some.inj hm
          dsimp only at hne
          cases hch : ch x with
          | nil => exact absurd hch hne
          | cons y M =>
            obtain ⟨s, hs⟩ := (vis_first row n (out ++ [⟨x, row x, p, d⟩]) y out.length (d + 1) (hfin y (by rw [hch]; exact List.mem_cons_self ..))).1
            refine ⟨⟨y, row y, out.length, d + 1⟩, ?_, rfl⟩
            rw [hv, hch, List.foldl_cons]
            refine pre_get (hpre M _) ?_
            rw [hs, List.getElem?_append_right (by simp)]
            simp
        · rw [hv] at hjl ⊢
          exact hfold (ch x) _ (out.length + 1) hfin (fun i h1 h2 => by simp at h2; omega) j (by omega) hjl (.inr (by omega))
      · intro m hm
        rw [List.getElem?_eq_none (by omega)] at hm
        cases hm
theorem for_first {c : Par} {pl : List IdB} (hac : ∀ x, ¬ onC c x) (row : IdB → Int) (j : Nat) : FirstAt (kidsOf c pl) (forL c pl row (pl.length + 1)) j := by
  have hfold : ∀ (M : List IdB) (o : List NodeV), (∀ i, i < o.length → FirstAt (kidsOf c pl) o i) → ∀ i, i < (M.foldl (fun o x => visL (kidsOf c pl) row (pl.length + 1) o x (-1) 0) o).length → FirstAt (kidsOf c pl) (M.foldl (fun o x => visL (kidsOf c pl) row (pl.length + 1) o x (-1) 0) o) i := by
    intro M
    induction M with
    | nil => intro o h; exact h
    | cons y M ih =>
      intro o h
      rw [List.foldl_cons]
      refine ih _ fun i hi => ?_
      by_cases hio : i < o.length
      · exact (h i hio).pre (visL_pre _ row _ o y _ _) hio
      · exact (vis_first row _ o y _ _ (fin_all hac y)).2 i (by omega)
  by_cases hj : j < (forL c pl row (pl.length + 1)).length
  · exact hfold _ [] (fun i hi => absurd hi (Nat.not_lt_zero i)) j hj
  · intro m hm
    rw [List.getElem?_eq_none (by omega)] at hm
    cases hm
end Go.Proofs.Ytjjanjhoaiannaa

namespace Go.Proofs.Ytjjanjhoaiannaa
set_option linter.unusedVariables false
set_option linter.unusedSimpArgs false

theorem idxL_ge (L : List RowV) (x : IdB) : -1 ≤ idxL L x := by
  unfold idxL
  cases L.findIdx? (fun r => decide (r.id = x)) with
  | none => exact Int.le_refl _
  | some i => show (-1 : Int) ≤ (i : Int); omega
theorem visL_row (ch : Kid) (row : IdB → Int) : ∀ (n : Nat) (out : List NodeV) (x : IdB) (p d : Int), (∀ m ∈ out, m.row = row m.id) → ∀ m ∈ visL ch row n out x p d, m.row = row m.id
  | 0, _, _, _, _, h => h
  | n + 1, out, x, p, d, h => by
    have hf : ∀ (M : List IdB) (o : List NodeV), (∀ m ∈ o, m.row = row m.id) → ∀ m ∈ M.foldl (fun o y => visL ch row n o y out.length (d + 1)) o, m.row = row m.id := by
      intro M
      induction M with
      | nil => intro o h; exact h
      | cons y M ih => intro o h; rw [List.foldl_cons]; exact ih _ (visL_row ch row n o y _ _ h)
    refine hf _ _ fun m hm => ?_
    rcases List.mem_append.1 hm with h1 | h1
    · exact h m h1
    · rw [List.mem_singleton.1 h1]
theorem forL_row (c : Par) (pl : List IdB) (row : IdB → Int) (n : Nat) : ∀ m ∈ forL c pl row n, m.row = row m.id := by
  have hf : ∀ (M : List IdB) (o : List NodeV), (∀ m ∈ o, m.row = row m.id) → ∀ m ∈ M.foldl (fun o y => visL (kidsOf c pl) row n o y (-1) 0) o, m.row = row m.id := by
    intro M
    induction M with
    | nil => intro o h; exact h
    | cons y M ih => intro o h; rw [List.foldl_cons]; exact ih _ (visL_row _ row n o y _ _ h)
  exact hf _ _ (fun m hm => by cases hm)
/-- The forest F of the articles L, the parents c. -/
structure Good (L : List RowV) (c : Par) (F : List NodeV) : Prop where
  check : checkP F = 0
  nodup : (F.map (·.id)).Nodup
  row : ∀ n ∈ F, n.row = idxL L n.id
  all : ∀ r ∈ L, r.id ∈ F.map (·.id)
  ok : OkF c F
  first : ∀ (j : Nat) (n : NodeV), F[j]? = some n → n.row < 0 → ∃ m, F[j + 1]? = some m ∧ m.parent = (j : Int) ∧ 0 ≤ m.row
  last : ∀ r ∈ L, ∀ x, c r.id = some x → r.refs.getLast? = some x
theorem mem_isArt {L : List RowV} {x : IdB} : isArt (arrS L) x = true ↔ ∃ r ∈ L, r.id = x := by
  rw [isArt_arrS, isArt_iff]
  constructor
  · rintro ⟨t, ht, e⟩
    obtain ⟨r, hr, rfl⟩ := List.mem_map.1 ht
    exact ⟨r, hr, e⟩
  · rintro ⟨r, hr, e⟩
    exact ⟨r.tw, List.mem_map.2 ⟨r, hr, rfl⟩, e⟩
theorem good {L : List RowV} (hn : (L.map (·.id)).Nodup) {c : Par} (hc : IsCut (pM (isArt (arrS L)) (arrS L)) (arrS L) c) : Good L c (forestV L c) := by
  have hac := cut_acyclic hc
  have hpl := pls_nodup hn c
  have hinv := place_inv (A := isArt (arrS L)) (c := c) (S := arrS L) (fun r hr => isArt_iff.2 ⟨r, hr, rfl⟩) (arrS_nodup hn) (arrS L).length (Nat.le_refl _)
  rw [List.take_of_length_le (Nat.le_refl _)] at hinv
  have hmem : ∀ x, x ∈ pls L c ↔ (∃ r ∈ arrS L, r.id = x) ∨ (isArt (arrS L) x = false ∧ ∃ r ∈ arrS L, c r.id = some x) := hinv.mem
  have hart : ∀ x, isArt (arrS L) x = true → x ∈ pls L c := fun x h => (hmem x).2 (.inl (isArt_iff.1 h))
  have hcl : ∀ y ∈ pls L c, ∀ z, c y = some z → z ∈ pls L c := fun y hy z hz => by
    cases hA : isArt (arrS L) z with
    | true => exact hart z hA
    | false =>
      rcases (hmem y).1 hy with ⟨r, hr, rfl⟩ | ⟨hy2, _⟩
      · exact (hmem z).2 (.inr ⟨hA, r, hr, hz⟩)
      · rcases alt_pM (arrS L) y z (hc.le hz) with h | h
        · rw [hy2] at h; cases h
        · rw [hA] at h; cases h
  have hF : forestV L c = forL c (pls L c) (idxL L) ((pls L c).length + 1) := by
    rw [forestV_eq hn]
    rfl
  have hids : (forestV L c).map (·.id) = allL c (pls L c) ((pls L c).length + 1) := by rw [hF]; exact forL_ids _ _ _ _
  have hrow : ∀ n ∈ forestV L c, n.row = idxL L n.id := by rw [hF]; exact forL_row _ _ _ _
  have hok : OkF c (forestV L c) := by rw [hF]; exact for_ok _ _ _ _
  refine ⟨by rw [hF]; exact for_ck hac hpl _ (idxL_ge L), by rw [hids]; exact all_nodup hac hpl _, hrow, fun r hr => ?_, hok, fun j n hj hneg => ?_, fun r hr x hx => ?_⟩
  · rw [hids]
    exact all_mem hac hcl (hart _ (mem_isArt.2 ⟨r, hr, rfl⟩))
  · have hnF : n ∈ forestV L c := List.mem_iff_getElem?.2 ⟨j, hj⟩
    have hnp : n.id ∈ pls L c := by
      have h1 : n.id ∈ (forestV L c).map (·.id) := List.mem_map.2 ⟨n, hnF, rfl⟩
      rw [hids] at h1
      exact all_pl h1
    rw [hrow n hnF] at hneg
    have hA : isArt (arrS L) n.id = false := by
      cases h : isArt (arrS L) n.id with
      | false => rfl
      | true =>
        obtain ⟨r, hr, e⟩ := mem_isArt.1 h
        exact absurd e (idxL_nonneg.1 hneg r hr)
    have hkid : kidsOf c (pls L c) n.id ≠ [] := by
      rcases (hmem n.id).1 hnp with ⟨r, hr, e⟩ | ⟨_, r, hr, e⟩
      · rw [← e, isArt_iff.2 ⟨r, hr, rfl⟩] at hA
        cases hA
      · exact List.ne_nil_of_mem (mem_kidsOf.2 ⟨hart _ (isArt_iff.2 ⟨r, hr, rfl⟩), e⟩)
    have hfirst : FirstAt (kidsOf c (pls L c)) (forestV L c) j := by rw [hF]; exact for_first hac _ j
    obtain ⟨m, hm, hmp⟩ := hfirst n hj hkid
    refine ⟨m, hm, hmp, ?_⟩
    have hmF : m ∈ forestV L c := List.mem_iff_getElem?.2 ⟨j + 1, hm⟩
    rw [hrow m hmF]
    rcases hok (j + 1) m hm with ⟨h1, _⟩ | ⟨q, u, _, h2, h3, h4⟩
    · omega
    · obtain rfl : q = j := by omega
      rw [hj] at h2
      cases h2
      refine Classical.byContradiction fun hneg2 => ?_
      have hA2 : isArt (arrS L) m.id = false := by
        cases h : isArt (arrS L) m.id with
        | false => rfl
        | true =>
          obtain ⟨r, hr, e⟩ := mem_isArt.1 h
          exact absurd e (idxL_nonneg.1 (by omega) r hr)
      rcases alt_pM (arrS L) m.id n.id (hc.le h4) with h | h
      · rw [hA2] at h; cases h
      · rw [hA] at h; cases h
  · have hrt : r.tw ∈ arrS L := (arrS_perm L).mem_iff.2 (List.mem_map.2 ⟨r, hr, rfl⟩)
    have h1 := pM_art (A := isArt (arrS L)) (arrS_nodup hn) hrt (isArt_iff.2 ⟨r.tw, hrt, rfl⟩)
    have h2 := hc.le hx
    exact h1.symm.trans h2
end Go.Proofs.Ytjjanjhoaiannaa
