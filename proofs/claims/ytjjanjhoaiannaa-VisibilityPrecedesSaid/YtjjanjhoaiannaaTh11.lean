/- Threads, plainly: the nodes below a node; every node is met once; Build. -/
import Derived.Test.YtjjanjhoaiannaaTh10
import Derived.Laws.EntriesVeiled
namespace Go.Proofs.Ytjjanjhoaiannaa
open Go.Shelf Go.RowKit Go.Lib Go.Sort
set_option linter.unusedVariables false
set_option linter.unusedSimpArgs false

/-! ### lists without repetition -/
theorem nodup_len {α : Type} [DecidableEq α] : ∀ (l D : List α), l.Nodup → (∀ x ∈ l, x ∈ D) → l.length ≤ D.length
  | [], _, _, _ => Nat.zero_le _
  | a :: l, D, hn, hD => by
    have ha := hD a (List.mem_cons_self ..)
    rw [List.nodup_cons] at hn
    have h1 := nodup_len l (D.erase a) hn.2 (fun x hx => (List.mem_erase_of_ne (fun e => hn.1 (by rw [← e]; exact hx))).2 (hD x (List.mem_cons_of_mem _ hx)))
    rw [List.length_erase_of_mem ha] at h1
    have h2 : 0 < D.length := List.length_pos_of_mem ha
    rw [List.length_cons]
    omega
instance : DecidableEq IdB := fun a b => decidable_of_iff (a.1 = b.1) ⟨Subtype.ext, fun h => by rw [h]⟩

/-! ### children and roots out of the list of places -/
def kidsOf (c : Par) (pl : List IdB) : Kid := fun x => pl.filter fun y => decide (c y = some x)
def rootsOf (c : Par) (pl : List IdB) : List IdB := pl.filter fun y => decide (c y = none)
theorem putK_snoc (c : Par) (pl : List IdB) (x : IdB) : putK c (kidsOf c pl, rootsOf c pl) x = (kidsOf c (pl ++ [x]), rootsOf c (pl ++ [x])) := by
  unfold putK
  cases hc : c x with
  | none =>
    dsimp only
    congr 1
    · funext y
      unfold kidsOf
      rw [List.filter_append]
      simp [hc]
    · unfold rootsOf
      rw [List.filter_append]
      simp [hc]
  | some p =>
    dsimp only
    congr 1
    · funext y
      unfold upd kidsOf
      rw [List.filter_append]
      by_cases hy : y = p
      · subst hy
        rw [if_pos rfl]
        simp [hc]
      · rw [if_neg hy]
        have : ¬ p = y := fun e => hy e.symm
        simp [hc, this]
    · unfold rootsOf
      rw [List.filter_append]
      simp [hc]
theorem mem_kidsOf {c : Par} {pl : List IdB} {x y : IdB} : y ∈ kidsOf c pl x ↔ y ∈ pl ∧ c y = some x := by
  unfold kidsOf
  rw [List.mem_filter, decide_eq_true_eq]
theorem mem_rootsOf {c : Par} {pl : List IdB} {y : IdB} : y ∈ rootsOf c pl ↔ y ∈ pl ∧ c y = none := by
  unfold rootsOf
  rw [List.mem_filter, decide_eq_true_eq]
theorem kidsOf_len (c : Par) (pl : List IdB) (x : IdB) : (kidsOf c pl x).length ≤ pl.length := List.length_filter_le _ _
theorem rootsOf_len (c : Par) (pl : List IdB) : (rootsOf c pl).length ≤ pl.length := List.length_filter_le _ _
/-- What is not finished within n levels has a chain of n below it. -/
theorem not_fin {c : Par} {pl : List IdB} : ∀ (n : Nat) (x : IdB), ¬ FinK (kidsOf c pl) n x → ∃ z, it c n z = some x ∧ ∀ i, i < n → ∃ y, it c i z = some y ∧ y ∈ pl
  | 0, x, _ => ⟨x, rfl, fun i hi => absurd hi (Nat.not_lt_zero i)⟩
  | n + 1, x, h => by
    unfold FinK at h
    have ⟨y, hy⟩ := Classical.not_forall.1 h
    have ⟨hym, hyf⟩ := Classical.not_imp.1 hy
    obtain ⟨z, hz, hall⟩ := not_fin n y hyf
    obtain ⟨hp, hc⟩ := mem_kidsOf.1 hym
    refine ⟨z, by rw [it_succ, hz]; exact hc, fun i hi => ?_⟩
    by_cases hin : i < n
    · exact hall i hin
    · obtain rfl : i = n := by omega
      exact ⟨y, hz, hp⟩
theorem it_cyc {c : Par} {z y : IdB} {i j : Nat} (hij : i < j) (hi : it c i z = some y) (hj : it c j z = some y) : onC c y := by
  refine ⟨j - i - 1, ?_⟩
  have h := it_add c i (j - i) z
  rw [show i + (j - i) = j by omega, hj, hi] at h
  rw [show j - i - 1 + 1 = j - i by omega]
  exact h.symm
theorem fin_all {c : Par} {pl : List IdB} (hac : ∀ x, ¬ onC c x) (x : IdB) : FinK (kidsOf c pl) (pl.length + 1) x := by
  refine Classical.byContradiction fun h => ?_
  obtain ⟨z, _, hall⟩ := not_fin (pl.length + 1) x h
  have key : ∀ i, i < pl.length + 1 → ((it c i z).getD z32) ∈ pl ∧ it c i z = some ((it c i z).getD z32) := fun i hi => by
    obtain ⟨y, hy, hp⟩ := hall i hi
    rw [hy]
    exact ⟨hp, rfl⟩
  have hnd : ((List.range (pl.length + 1)).map fun i => (it c i z).getD z32).Nodup := by
    rw [List.nodup_iff_pairwise_ne, List.pairwise_map, List.pairwise_iff_getElem]
    intro i j hi hj hij e
    simp only [List.length_range] at hi hj
    simp only [List.getElem_range] at e
    have h1 := (key i hi).2
    have h2 := (key j hj).2
    rw [← e] at h2
    exact hac _ (it_cyc hij h1 h2)
  have hlen := nodup_len _ pl hnd (fun y hy => by
    obtain ⟨i, hi, rfl⟩ := List.mem_map.1 hy
    exact (key i (List.mem_range.1 hi)).1)
  rw [List.length_map, List.length_range] at hlen
  omega

/-! ### the identities of a list of nodes -/
def descL (ch : Kid) : Nat → IdB → List IdB
  | 0, _ => []
  | n + 1, x => x :: (ch x).flatMap (descL ch n)
theorem fold_ids {f : List NodeV → IdB → List NodeV} {g : IdB → List IdB} (h : ∀ o y, (f o y).map (·.id) = o.map (·.id) ++ g y) : ∀ (M : List IdB) (o : List NodeV), (M.foldl f o).map (·.id) = o.map (·.id) ++ M.flatMap g
  | [], o => by simp
  | y :: M, o => by
    rw [List.foldl_cons, fold_ids h M, h, List.flatMap_cons, List.append_assoc]
theorem visL_ids (ch : Kid) (row : IdB → Int) : ∀ (n : Nat) (out : List NodeV) (x : IdB) (p d : Int), (visL ch row n out x p d).map (·.id) = out.map (·.id) ++ descL ch n x
  | 0, out, _, _, _ => by simp [visL, descL]
  | n + 1, out, x, p, d => by
    unfold visL descL
    rw [fold_ids (g := descL ch n) (fun o y => visL_ids ch row n o y _ _), List.map_append]
    simp
theorem desc_reach {c : Par} {pl : List IdB} : ∀ {n : Nat} {x y : IdB}, y ∈ descL (kidsOf c pl) n x → Reach c y x
  | 0, _, _, h => by cases h
  | n + 1, x, y, h => by
    unfold descL at h
    rcases List.mem_cons.1 h with rfl | h
    · exact Reach.refl c _
    · obtain ⟨z, hz, hy⟩ := List.mem_flatMap.1 h
      exact (desc_reach hy).trans (Reach.step (mem_kidsOf.1 hz).2)
/-- From one place two ways up: one of them is a part of the other. -/
theorem reach_two {c : Par} {y a b : IdB} (ha : Reach c y a) (hb : Reach c y b) : Reach c a b ∨ Reach c b a := by
  obtain ⟨n, hn⟩ := ha
  obtain ⟨m, hm⟩ := hb
  rcases Nat.le_total n m with h | h
  · left
    have h1 := it_add c n (m - n) y
    rw [show n + (m - n) = m by omega, hm, hn] at h1
    exact ⟨m - n, h1.symm⟩
  · right
    have h1 := it_add c m (n - m) y
    rw [show m + (n - m) = n by omega, hn, hm] at h1
    exact ⟨n - m, h1.symm⟩
theorem flat_nodup {c : Par} {pl : List IdB} {M : List IdB} (g : IdB → List IdB) (hM : M.Nodup) (hg : ∀ x ∈ M, (g x).Nodup) (hd : ∀ x ∈ M, ∀ y ∈ M, x ≠ y → ∀ z, z ∈ g x → z ∉ g y) : (M.flatMap g).Nodup := by
  induction M with
  | nil => simp
  | cons x M ih =>
    rw [List.nodup_cons] at hM
    rw [List.flatMap_cons, List.nodup_append]
    refine ⟨hg x (List.mem_cons_self ..), ih hM.2 (fun y hy => hg y (List.mem_cons_of_mem _ hy)) (fun a ha b hb => hd a (List.mem_cons_of_mem _ ha) b (List.mem_cons_of_mem _ hb)), fun a ha b hb e => ?_⟩
    subst e
    obtain ⟨y, hy, hb⟩ := List.mem_flatMap.1 hb
    exact hd x (List.mem_cons_self ..) y (List.mem_cons_of_mem _ hy) (fun e => hM.1 (e ▸ hy)) a ha hb
theorem desc_nodup {c : Par} {pl : List IdB} (hac : ∀ x, ¬ onC c x) (hpl : pl.Nodup) : ∀ (n : Nat) (x : IdB), (descL (kidsOf c pl) n x).Nodup
  | 0, _ => List.nodup_nil
  | n + 1, x => by
    unfold descL
    rw [List.nodup_cons]
    refine ⟨fun h => ?_, flat_nodup (c := c) (pl := pl) _ (hpl.sublist List.filter_sublist) (fun y _ => desc_nodup hac hpl n y) (fun a ha b hb hab z hza hzb => ?_)⟩
    · obtain ⟨z, hz, hx⟩ := List.mem_flatMap.1 h
      exact hac z (onC_iff.2 ⟨x, (mem_kidsOf.1 hz).2, desc_reach hx⟩)
    · have hca := (mem_kidsOf.1 ha).2
      have hcb := (mem_kidsOf.1 hb).2
      rcases reach_two (desc_reach hza) (desc_reach hzb) with h | h
      · rcases h.head with e | ⟨u, hu, hr⟩
        · exact hab e
        · rw [hca] at hu
          cases hu
          exact hac b (onC_iff.2 ⟨x, hcb, hr⟩)
      · rcases h.head with e | ⟨u, hu, hr⟩
        · exact hab e.symm
        · rw [hcb] at hu
          cases hu
          exact hac a (onC_iff.2 ⟨x, hca, hr⟩)
theorem desc_pl {c : Par} {pl : List IdB} : ∀ {n : Nat} {x y : IdB}, x ∈ pl → y ∈ descL (kidsOf c pl) n x → y ∈ pl
  | 0, _, _, _, h => by cases h
  | n + 1, x, y, hx, h => by
    unfold descL at h
    rcases List.mem_cons.1 h with rfl | h
    · exact hx
    · obtain ⟨z, hz, hy⟩ := List.mem_flatMap.1 h
      exact desc_pl (mem_kidsOf.1 hz).1 hy
/-- All nodes of the forest. -/
def allL (c : Par) (pl : List IdB) (n : Nat) : List IdB := (rootsOf c pl).flatMap (descL (kidsOf c pl) n)
theorem all_nodup {c : Par} {pl : List IdB} (hac : ∀ x, ¬ onC c x) (hpl : pl.Nodup) (n : Nat) : (allL c pl n).Nodup := by
  refine flat_nodup (c := c) (pl := pl) _ (hpl.sublist List.filter_sublist) (fun y _ => desc_nodup hac hpl n y) (fun a ha b hb hab z hza hzb => ?_)
  have hca := (mem_rootsOf.1 ha).2
  have hcb := (mem_rootsOf.1 hb).2
  rcases reach_two (desc_reach hza) (desc_reach hzb) with h | h
  · rcases h.head with e | ⟨u, hu, _⟩
    · exact hab e
    · rw [hca] at hu; cases hu
  · rcases h.head with e | ⟨u, hu, _⟩
    · exact hab e.symm
    · rw [hcb] at hu; cases hu
theorem all_pl {c : Par} {pl : List IdB} {n : Nat} {y : IdB} (h : y ∈ allL c pl n) : y ∈ pl := by
  obtain ⟨x, hx, hy⟩ := List.mem_flatMap.1 h
  exact desc_pl (mem_rootsOf.1 hx).1 hy
theorem all_len {c : Par} {pl : List IdB} (hac : ∀ x, ¬ onC c x) (hpl : pl.Nodup) (n : Nat) : (allL c pl n).length ≤ pl.length := nodup_len _ _ (all_nodup hac hpl n) (fun _ h => all_pl h)
/-- The forest: nodes in order, what is below each behind it. -/
def forL (c : Par) (pl : List IdB) (row : IdB → Int) (n : Nat) : List NodeV := (rootsOf c pl).foldl (fun o x => visL (kidsOf c pl) row n o x (-1) 0) []
theorem forL_ids (c : Par) (pl : List IdB) (row : IdB → Int) (n : Nat) : (forL c pl row n).map (·.id) = allL c pl n := by
  unfold forL allL
  rw [fold_ids (g := descL (kidsOf c pl) n) (fun o y => visL_ids _ row n o y _ _)]
  rfl
theorem forL_len {c : Par} {pl : List IdB} (hac : ∀ x, ¬ onC c x) (hpl : pl.Nodup) (row : IdB → Int) (n : Nat) : (forL c pl row n).length ≤ pl.length := by
  have h := congrArg List.length (forL_ids c pl row n)
  rw [List.length_map] at h
  rw [h]
  exact all_len hac hpl n
theorem place_len (A : IdB → Bool) (c : Par) : ∀ (S : List Tw) (st : PS), (S.foldl (plStep A c) st).pl.length ≤ st.pl.length + 2 * S.length
  | [], st => Nat.le_refl _
  | r :: S, st => by
    rw [List.foldl_cons]
    refine Nat.le_trans (place_len A c S _) ?_
    have : (plStep A c st r).pl.length ≤ st.pl.length + 2 := by
      unfold plStep
      split
      · split <;> simp
      · simp
    rw [List.length_cons]
    omega
end Go.Proofs.Ytjjanjhoaiannaa

namespace Go.Proofs.Ytjjanjhoaiannaa
open Go.Shelf Go.RowKit Go.Lib Go.Sort
set_option linter.unusedVariables false
set_option linter.unusedSimpArgs false

section
variable {ops : Array Oper} {rest : List Oper} {o : Oper} {a : Act} {w : World} {Q : Exit → Act → World → Prop}
/-- A new variable of one cell. -/
theorem wpList_newC (hg : o.guard = none) (dst : Option Tmp) (hdst : o.dst = dst) (t : TypeId) (ho : o.op = .alloc t) (z : Value) (hz : z.cells = #[z]) (hi : (Try.prog.info? t).map (fun i => i.zero) = some (some z))
    (h : ∀ w', w'.heap[w.heap.size]? = some (.cells #[z] t (0, 0)) → Below w.heap.size w w' → w'.heap.size = w.heap.size + 1 → wpList Try.prog ops Q rest (a.put dst (.pointer (some ⟨w.heap.size, 0, none⟩))) w') : wpList Try.prog ops Q (o :: rest) a w := by
  refine wpList_runI hg dst hdst _ (w.alloc (.cells #[z] t)) ?_ (h _ (heap_alloc_new _ _) ((Below.refl _ _).alloc (Nat.le_refl _) _) (by simp))
  cases hq : Try.prog.info? t with
  | none => simp [hq] at hi
  | some i =>
    simp only [hq, Option.map_some, Option.some.injEq] at hi
    have h1 : (newVar t z).run Try.prog w = .ok ⟨w.heap.size, 0, none⟩ (w.alloc (.cells #[z] t)) := by
      unfold newVar
      rw [hz]
      rfl
    unfold execOp
    simp [ho, Instr.alloc, zeroValue, typeInfo, program, Sem.run, hq, hi, h1]
theorem wpList_mapS {kt : TypeId} {κ : Type} [DecidableEq κ] (E : KeyEnc Try.prog kt κ) (hg : o.guard = none) (dst : Option Tmp) (hdst : o.dst = dst) (t : TypeId) {et : TypeId} (hu : Try.prog.underlying t = some (.map kt et)) (ho : o.op = .makeMap t none)
    (h : ∀ w', KMapS E w' w.heap.size (fun _ => none) → Below w.heap.size w w' → w'.heap.size = w.heap.size + 1 → wpList Try.prog ops Q rest (a.put dst (.map (some w.heap.size))) w') : wpList Try.prog ops Q (o :: rest) a w := by
  refine wpList_runI hg dst hdst _ (w.alloc (.map #[] 0)) ?_ (h _ (KMapS.new _) ((Below.refl _ _).alloc (Nat.le_refl _) _) (by simp))
  unfold execOp
  simp only [ho, Sem.run_bind, Option.map_none, mkMap0 hu, Result.andThen_ok]
  rfl
/-- make([]T, 0, c): the new world is named. -/
theorem wpList_mkL {sT T : TypeId} {α : Type} (E : ElemTy Try.prog sT T α) (hg : o.guard = none) (dst : Option Tmp) (hdst : o.dst = dst) (l c : Operand) (ho : o.op = .makeSlice sT l c) (n : Nat) (hn : n ≤ 1000000000) (hl : a.eval l = .int .i64 0) (hc : a.eval c = .int .i64 (n : Int))
    (h : ∀ w', OwnL E w' w.heap.size (.slice (some ⟨w.heap.size, 0, none⟩) 0 n) [] → Below w.heap.size w w' → wpList Try.prog ops Q rest (a.put dst (.slice (some ⟨w.heap.size, 0, none⟩) 0 n)) w') : wpList Try.prog ops Q (o :: rest) a w := by
  obtain ⟨w', hr, h1, h2⟩ := run_mkL E w (B := w.heap.size) n hn (Nat.le_refl _)
  refine wpList_runI hg dst hdst _ w' ?_ (h w' h1 h2)
  unfold execOp
  simp only [ho, hl, hc, Sem.run_bind, hr, Result.andThen_ok]
  rfl
end
/-- A map has no more entries than there are keys. -/
theorem KMap.card {P : Program} {kt : TypeId} {κ : Type} [DecidableEq κ] {E : KeyEnc P kt κ} {w : World} {b : Nat} {f : κ → Option Value} (h : KMap E w b f) (D : List κ) (hD : ∀ k, f k ≠ none → k ∈ D) : ∃ es clock, w.heap[b]? = some (.map es clock) ∧ es.size ≤ D.length := by
  obtain ⟨es, clock, L, hb, h1, h2, h3⟩ := h.ex
  refine ⟨es, clock, hb, ?_⟩
  have hlen : es.size = L.length := by have := congrArg List.length h1; simpa using this
  have h4 := nodup_len (L.map (·.1)) D h2 (fun k hk => by
    obtain ⟨p, hp, rfl⟩ := List.mem_map.1 hk
    obtain ⟨j, hj⟩ := List.mem_iff_getElem?.1 hp
    refine hD _ ?_
    rw [← h3, lk_at h2 hj]
    exact fun e => by cases e)
  rw [List.length_map] at h4
  omega
theorem len_map {w : World} {b : Nat} {es : Array MapEntry} {clock : Nat} {t kt et : TypeId} (hu : Try.prog.underlying t = some (.map kt et)) (h : w.heap[b]? = some (.map es clock)) (ty : TypeId) : (Builtin.len_ #[t] ty #[.map (some b)]).run Try.prog w = .ok (.int .i64 (es.size : Int)) w := by
  unfold Builtin.len_
  simp [run_underlying hu, MapKept.run_getObj_map h, Result.andThen, goInt]
def pls (L : List RowV) (c : Par) : List IdB := (place (isArt (arrS L)) c (arrS L)).pl
def forestV (L : List RowV) (c : Par) : List NodeV := forL c (pls L c) (rowF (arrO L) (rk (arrS L))) ((pls L c).length + 1)
def BuildPost (w : World) (L : List RowV) (e : Ending) (w' : World) : Prop :=
  (¬ (L.map (·.id)).Nodup ∧ e = .returned (.tuple #[.slice none 0 0, .int .i64 7]) ∧ Below w.heap.size w w') ∨
  ((L.map (·.id)).Nodup ∧ ∃ fv c, e = .returned (.tuple #[fv, .int .i64 0]) ∧ IsCut (pM (isArt (arrS L)) (arrS L)) (arrS L) c ∧ OwnL nodeE w' w.heap.size fv (forestV L c) ∧ Below w.heap.size w w')
theorem pls_nodup {L : List RowV} (hn : (L.map (·.id)).Nodup) (c : Par) : (pls L c).Nodup := by
  have h := place_inv (A := isArt (arrS L)) (c := c) (S := arrS L) (fun r hr => isArt_iff.2 ⟨r, hr, rfl⟩) (arrS_nodup hn) (arrS L).length (Nat.le_refl _)
  rw [List.take_of_length_le (Nat.le_refl _)] at h
  exact h.nodup
theorem pls_len (L : List RowV) (c : Par) : (pls L c).length ≤ 2 * L.length := by
  have h : ((arrS L).foldl (plStep (isArt (arrS L)) c) ⟨[], fun _ => false⟩).pl.length ≤ 0 + 2 * (arrS L).length := place_len (isArt (arrS L)) c (arrS L) ⟨[], fun _ => false⟩
  rw [arrS_len, Nat.zero_add] at h
  exact h
theorem plsk_len (L : List RowV) (c : Par) (k : Nat) : (place (isArt (arrS L)) c ((arrS L).take k)).pl.length ≤ 2 * L.length := by
  have h : (place (isArt (arrS L)) c ((arrS L).take k)).pl.length ≤ 0 + 2 * ((arrS L).take k).length := place_len (isArt (arrS L)) c ((arrS L).take k) ⟨[], fun _ => false⟩
  have h2 : ((arrS L).take k).length ≤ L.length := by rw [List.length_take, arrS_len]; omega
  omega
theorem cut_acyclic {S : List Tw} {c : Par} (h : IsCut (pM (isArt S) S) S c) : ∀ x, ¬ onC c x := h.acyclic (alt_pM S)
set_option maxRecDepth 100000 in
set_option maxHeartbeats 2000000 in
theorem Build_any {w : World} (v : Value) (L : List RowV) (hv : RowsAt w v L) (hl : L.length ≤ 100000) : Calls Try.prog 21 #[v] w (BuildPost w L) := by
  obtain ⟨va, vc, rfl⟩ := hv.l.form
  obtain ⟨N, hN⟩ : ∃ N, L.length = N := ⟨_, rfl⟩
  rw [hN] at hv hl ⊢
  have HV := Lib.hid hv
  have HN := Lib.hid hN
  clear hv hN
  go_enter Try.func21, Try.ntmps21
  go_wp2_with fail
  refine (arrange_any _ L HV.out (by rw [HN.out]; exact hl)).mono ?_
  rintro e Wa (⟨hno, rfl, hb⟩ | ⟨hnd, a, rb, pb, ov, c, rfl, hcut, harr, hb⟩)
  case inl =>
    have HNO := Lib.hid hno
    have HB := Lib.hid hb
    clear hno hb
    go_wp2_with fail
    exact bodyPost_ret (v := .tuple #[.slice none 0 0, .int .i64 7]) (by simp [results, Try.results21, go_sem]) rfl (.inl ⟨HNO.out, rfl, HB.out.alloc HB.out.size _⟩)
  have HND := Lib.hid hnd
  have HCUT := Lib.hid hcut
  have HA := Lib.hid harr
  have HBA := Lib.hid hb
  obtain ⟨oa, oc, rfl⟩ := harr.ord.form
  clear hnd hcut harr hb
  go_wp2_with (refine wpList_newC rfl (some 4) rfl 69 rfl (.pointer none) rfl (by kernel_rfl) ?_; refine Stop.on ?_)
  refine Stop.go ?_
  try simp only [Act.put, List.setIfInBounds_toArray, List.set_cons_zero, List.set_cons_succ]
  intro w1 x1 bx1 sx1
  try simp only [Act.put, List.setIfInBounds_toArray, List.set_cons_zero, List.set_cons_succ]
  obtain ⟨ab, hab⟩ : ∃ ab, Wa.heap.size = ab := ⟨_, rfl⟩
  rw [hab] at x1 ⊢
  have X1 := Lib.hid x1
  have BX1 := Lib.hid bx1
  have SX1 := Lib.hid sx1
  clear x1 bx1 sx1
  go_wp2_with (refine wpList_putC rfl rfl 69 (.tmp 4) (.tmp 24) rfl ab 0 (.pointer (some ⟨a, 0, none⟩)) rfl rfl X1.out (by show 0 < 1; decide) rfl (by kernel_rfl) ?_; refine Stop.on ?_)
  refine Stop.go ?_
  try simp only [Act.put, List.setIfInBounds_toArray, List.set_cons_zero, List.set_cons_succ]
  intro w2 h2 ch2 sh2
  try simp only [Act.put, List.setIfInBounds_toArray, List.set_cons_zero, List.set_cons_succ]
  have X2 := Lib.hid (show w2.heap[ab]? = some (.cells #[.pointer (some ⟨a, 0, none⟩)] 69 (0, 0)) from h2)
  have B2 := Lib.hid (BX1.out.trans (ch2.below (B := Wa.heap.size) (fun k e => by omega) BX1.out.size))
  have S2 := Lib.hid (show w2.heap.size = ab + 1 by have := SX1.out; omega)
  clear h2 ch2 sh2 X1 BX1 SX1
  go_wp2_with (refine wpList_newC rfl (some 6) rfl 23 rfl (.slice none 0 0) rfl (by kernel_rfl) ?_; refine Stop.on ?_)
  refine Stop.go ?_
  try simp only [Act.put, List.setIfInBounds_toArray, List.set_cons_zero, List.set_cons_succ]
  intro w3 x3 bx3 sx3
  try simp only [Act.put, List.setIfInBounds_toArray, List.set_cons_zero, List.set_cons_succ]
  obtain ⟨tb, htb⟩ : ∃ tb, w2.heap.size = tb := ⟨_, rfl⟩
  rw [htb] at x3 ⊢
  have X3 := Lib.hid x3
  have Y2 := Lib.hid ((bx3.block _ (Array.getElem?_eq_some_iff.1 X2.out).1).trans X2.out)
  have B3 := Lib.hid (B2.out.trans (bx3.mono B2.out.size))
  have S3 := Lib.hid (show w3.heap.size = ab + 2 ∧ tb = ab + 1 by have := S2.out; omega)
  clear x3 bx3 sx3 htb X2 B2 S2
  go_wp2_with (refine wpList_mapS idKey rfl (some 29) rfl 72 Try.underlying72 rfl ?_; refine Stop.on ?_)
  refine Stop.go ?_
  try simp only [Act.put, List.setIfInBounds_toArray, List.set_cons_zero, List.set_cons_succ]
  intro w4 km bm sm
  try simp only [Act.put, List.setIfInBounds_toArray, List.set_cons_zero, List.set_cons_succ]
  obtain ⟨cb, hcb⟩ : ∃ cb, w3.heap.size = cb := ⟨_, rfl⟩
  rw [hcb] at km ⊢
  have X4 := Lib.hid km
  have Y3 := Lib.hid ((bm.block _ (Array.getElem?_eq_some_iff.1 X3.out).1).trans X3.out)
  have Z2 := Lib.hid ((bm.block _ (Array.getElem?_eq_some_iff.1 Y2.out).1).trans Y2.out)
  have B4 := Lib.hid (B3.out.trans (bm.mono B3.out.size))
  have S4 := Lib.hid (show w4.heap.size = ab + 3 ∧ tb = ab + 1 ∧ cb = ab + 2 by have := S3.out; omega)
  clear km bm sm hcb X3 Y2 B3 S3
  go_wp2_with (refine wpList_newC rfl (some 7) rfl 72 rfl (.map none) rfl (by kernel_rfl) ?_; refine Stop.on ?_)
  refine Stop.go ?_
  try simp only [Act.put, List.setIfInBounds_toArray, List.set_cons_zero, List.set_cons_succ]
  intro w5 x5 bx5 sx5
  try simp only [Act.put, List.setIfInBounds_toArray, List.set_cons_zero, List.set_cons_succ]
  obtain ⟨kb, hkb⟩ : ∃ kb, w4.heap.size = kb := ⟨_, rfl⟩
  rw [hkb] at x5 ⊢
  have X5 := Lib.hid x5
  have Y4 := Lib.hid (X4.out.below bx5)
  have Z3 := Lib.hid ((bx5.block _ (Array.getElem?_eq_some_iff.1 Y3.out).1).trans Y3.out)
  have V2 := Lib.hid ((bx5.block _ (Array.getElem?_eq_some_iff.1 Z2.out).1).trans Z2.out)
  have B5 := Lib.hid (B4.out.trans (bx5.mono B4.out.size))
  have S5 := Lib.hid (show w5.heap.size = ab + 4 ∧ tb = ab + 1 ∧ cb = ab + 2 ∧ kb = ab + 3 by have := S4.out; omega)
  clear x5 bx5 sx5 hkb X4 Y3 Z2 B4 S4
  go_wp2_with (refine wpList_putC rfl rfl 72 (.tmp 7) (.tmp 29) rfl kb 0 (.map (some cb)) rfl rfl X5.out (by show 0 < 1; decide) rfl (by kernel_rfl) ?_; refine Stop.on ?_)
  refine Stop.go ?_
  try simp only [Act.put, List.setIfInBounds_toArray, List.set_cons_zero, List.set_cons_succ]
  intro w6 h6 ch6 sh6
  try simp only [Act.put, List.setIfInBounds_toArray, List.set_cons_zero, List.set_cons_succ]
  have S6 := S5
  have X6 := Lib.hid (show w6.heap[kb]? = some (.cells #[.map (some cb)] 72 (0, 0)) from h6)
  have Y6 := Lib.hid (Y4.out.chg ch6 (fun e => by have := S6.out; omega))
  have Z6 := Lib.hid ((ch6.block tb (Array.getElem?_eq_some_iff.1 Z3.out).1 (fun e => by have := S6.out; omega)).trans Z3.out)
  have V6 := Lib.hid ((ch6.block ab (Array.getElem?_eq_some_iff.1 V2.out).1 (fun e => by have := S6.out; omega)).trans V2.out)
  have B6 := Lib.hid (B5.out.trans (ch6.below (B := Wa.heap.size) (fun k e => by have := S6.out; omega) B5.out.size))
  have S7 := Lib.hid (show w6.heap.size = ab + 4 by have := S6.out; omega)
  clear h6 ch6 sh6 X5 Y4 Z3 V2 B5 S5
  go_wp2_with (refine wpList_mapV idKey rfl (some 31) rfl 64 Try.underlying64 none rfl (.inl rfl) ?_; refine Stop.on ?_)
  refine Stop.go ?_
  try simp only [Act.put, List.setIfInBounds_toArray, List.set_cons_zero, List.set_cons_succ]
  intro V1 km bm sm
  try simp only [Act.put, List.setIfInBounds_toArray, List.set_cons_zero, List.set_cons_succ]
  obtain ⟨mb, hmb⟩ : ∃ mb, w6.heap.size = mb := ⟨_, rfl⟩
  rw [hmb] at km ⊢
  obtain ⟨B, hB⟩ : ∃ B, V1.heap.size = B := ⟨_, rfl⟩
  have HS := Lib.hid (show Wa.heap.size = ab ∧ tb = ab + 1 ∧ cb = ab + 2 ∧ kb = ab + 3 ∧ mb = ab + 4 ∧ B = ab + 5 ∧ w6.heap.size = mb by have h1 := S6.out; have h2 := S7.out; omega)
  have HM0 := Lib.hid (km.ext (g := misF (place (isArt (arrS L)) c ((arrS L).take 0)).done) (fun x => rfl))
  have HK0 := Lib.hid (show BSt V1 B ab kb tb cb a (kidsOf c (place (isArt (arrS L)) c ((arrS L).take 0)).pl) (rootsOf c (place (isArt (arrS L)) c ((arrS L).take 0)).pl) (fun _ => none) (.slice none 0 0) from
    ⟨(bm.block _ (Array.getElem?_eq_some_iff.1 V6.out).1).trans V6.out, (bm.block _ (Array.getElem?_eq_some_iff.1 X6.out).1).trans X6.out, (bm.block _ (Array.getElem?_eq_some_iff.1 Z6.out).1).trans Z6.out, Y6.out.below bm, (fun x v h => by cases h), fun x _ => rfl, (fun x y v u _ h => by cases h), ownL_nil idE _ _, (fun x v h => by cases h), by have := HS.out; omega⟩)
  have HB0 := Lib.hid (B6.out.trans (bm.mono B6.out.size))
  have HBG0 := Lib.hid (show B ≤ V1.heap.size by omega)
  have c1 := HK0.out.cab.1
  have c2 := (HA.out.below HB0.out).cells.2.1
  have hOL : (arrO L).length = N := by rw [arrO_len, HN.out]
  rw [hOL] at c2
  have HOL := Lib.hid hOL
  clear km bm sm hmb hB X6 Y6 Z6 V6 B6 S6 S7 hOL hab
  go_wp2_with fail
  clear c1 c2
  go_loopw [37] (fun iv wr => ∃ (k : Nat) (vf : IdB → Option Value) (rtv : Value), k ≤ N ∧ iv = .int .i64 (k : Int) ∧ Hid (BSt wr B ab kb tb cb a (kidsOf c (place (isArt (arrS L)) c ((arrS L).take k)).pl) (rootsOf c (place (isArt (arrS L)) c ((arrS L).take k)).pl) vf rtv) ∧ Hid (KMap idKey wr mb (misF (place (isArt (arrS L)) c ((arrS L).take k)).done)) ∧ Hid (Below Wa.heap.size Wa wr) ∧ Hid (B ≤ wr.heap.size)) (fun iv _ => N - (intOf iv).toNat)
  case atStart => exact ⟨0, _, _, Nat.zero_le _, rfl, HK0, HM0, HB0, HBG0⟩
  case round =>
    obtain ⟨k, vf, rtv, hk, rfl, HK, HM, HB, HBG⟩ := hrel
    obtain ⟨W0, rfl⟩ : ∃ W0, W0 = wr := ⟨_, rfl⟩
    clear HK0 HM0 HB0 HBG0
    by_cases hlt : k < N
    case neg =>
      obtain rfl : k = N := by omega
      have htk : (arrS L).take k = arrS L := List.take_of_length_le (by rw [arrS_len, HN.out]; exact Nat.le_refl _)
      have hk0 := HK.out
      have hm0 := HM.out
      rw [htk] at hk0 hm0
      have HK' := Lib.hid (show BSt W0 B ab kb tb cb a (kidsOf c (pls L c)) (rootsOf c (pls L c)) vf rtv from hk0)
      obtain ⟨es, clk, hes, hel⟩ := hm0.card ((arrS L).filterMap fun r => c r.id) (fun x hx => by
        have h1 := (place_inv (A := isArt (arrS L)) (c := c) (S := arrS L) (fun r hr => isArt_iff.2 ⟨r, hr, rfl⟩) (arrS_nodup HND.out) (arrS L).length (Nat.le_refl _)).done x
        rw [List.take_of_length_le (Nat.le_refl _)] at h1
        have h2 : (place (isArt (arrS L)) c (arrS L)).done x = true := by
          unfold misF at hx
          cases hd : (place (isArt (arrS L)) c (arrS L)).done x with
          | true => rfl
          | false => rw [hd] at hx; exact absurd rfl hx
        obtain ⟨_, r, hr, hc⟩ := h1.1 h2
        exact List.mem_filterMap.2 ⟨r, hr, hc⟩)
      have hel2 : es.size ≤ k := Nat.le_trans hel (by have h1 := List.length_filterMap_le (fun r : Tw => c r.id) (arrS L); rw [arrS_len, HN.out] at h1; exact h1)
      have hlen := len_map Try.underlying64 hes 3
      obtain ⟨n0, hn0⟩ : ∃ n0, es.size = n0 := ⟨_, rfl⟩
      rw [hn0] at hlen hel2
      have HVE := Lib.hid (show VEnv W0 ab kb cb a rb pb _ _ L (arrO L) (rk (arrS L)) c (kidsOf c (pls L c)) vf from ⟨HA.out.below HB.out, HK'.out.hab, HK'.out.hkb, HK'.out.km.kmap, fun x => (HK'.out.vown x).at_⟩)
      clear htk hk0 hm0 hes hel hn0
      go_wp2_with (refine wpList_mkL nodeE rfl (some 87) rfl (.const (.int .i64 0)) (.tmp 86) rfl (k + n0) (by omega) rfl (by show Value.int .i64 _ = Value.int .i64 _; rw [Int.natCast_add]) ?_; refine Stop.on ?_)
      refine Stop.go ?_
      try simp only [Act.put, List.setIfInBounds_toArray, List.set_cons_zero, List.set_cons_succ]
      intro W1 ho1 hb1
      try simp only [Act.put, List.setIfInBounds_toArray, List.set_cons_zero, List.set_cons_succ]
      clear hlen
      obtain ⟨B2, hB2⟩ : ∃ B2, W0.heap.size = B2 := ⟨_, rfl⟩
      rw [hB2] at ho1 ⊢
      have HO1 := Lib.hid ho1
      have HB1 := Lib.hid hb1
      have HB2_ := Lib.hid hB2
      clear ho1 hb1 hB2
      go_wp2_with (refine wpList_newC rfl (some 17) rfl 48 rfl (.slice none 0 0) rfl (by kernel_rfl) ?_; refine Stop.on ?_)
      refine Stop.go ?_
      try simp only [Act.put, List.setIfInBounds_toArray, List.set_cons_zero, List.set_cons_succ]
      intro W2 x17 bx17 sx17
      try simp only [Act.put, List.setIfInBounds_toArray, List.set_cons_zero, List.set_cons_succ]
      obtain ⟨fb, hfb⟩ : ∃ fb, W1.heap.size = fb := ⟨_, rfl⟩
      rw [hfb] at x17 ⊢
      have X17 := Lib.hid x17
      have O2 := Lib.hid (HO1.out.below bx17)
      have BB2 := Lib.hid (HB1.out.trans (bx17.mono HB1.out.size))
      have SS2 := Lib.hid (show B2 < fb ∧ W2.heap.size = fb + 1 by have h1 := HB1.out.size; have h2 := HB2_.out; have h3 := (HO1.out.lt (k := B2) rfl).2; omega)
      clear x17 bx17 sx17 hfb
      go_wp2_with (refine wpList_putC rfl rfl 48 (.tmp 17) (.tmp 87) rfl fb 0 (.slice (some ⟨B2, 0, none⟩) 0 (k + n0)) rfl rfl X17.out (by show 0 < 1; decide) rfl (by kernel_rfl) ?_; refine Stop.on ?_)
      refine Stop.go ?_
      try simp only [Act.put, List.setIfInBounds_toArray, List.set_cons_zero, List.set_cons_succ]
      intro W3 h17 ch17 sh17
      try simp only [Act.put, List.setIfInBounds_toArray, List.set_cons_zero, List.set_cons_succ]
      have X3 := Lib.hid (show W3.heap[fb]? = some (.cells #[.slice (some ⟨B2, 0, none⟩) 0 (k + n0)] 48 (0, 0)) from h17)
      have O3 := Lib.hid (O2.out.chg ch17 (fun j hj e => by have h1 : B2 = j := Option.some.inj hj; have h2 := SS2.out; omega))
      have BB3 := Lib.hid (BB2.out.trans (ch17.below (B := W0.heap.size) (fun j e => by have h1 := SS2.out; have h2 := HB2_.out; omega) BB2.out.size))
      have SS3 := Lib.hid (show B2 < fb ∧ W3.heap.size = fb + 1 by have h1 := SS2.out; omega)
      clear h17 ch17 sh17 X17 O2 BB2 SS2
      go_wp2_with (refine wpList_newC rfl (some 18) rfl 80 rfl (.nilFunc) rfl (by kernel_rfl) ?_; refine Stop.on ?_)
      refine Stop.go ?_
      try simp only [Act.put, List.setIfInBounds_toArray, List.set_cons_zero, List.set_cons_succ]
      intro W4 x18 bx18 sx18
      try simp only [Act.put, List.setIfInBounds_toArray, List.set_cons_zero, List.set_cons_succ]
      obtain ⟨vb, hvb⟩ : ∃ vb, W3.heap.size = vb := ⟨_, rfl⟩
      rw [hvb] at x18 ⊢
      have X18 := Lib.hid x18
      have O4 := Lib.hid (O3.out.below bx18)
      have X4 := Lib.hid ((bx18.block _ (Array.getElem?_eq_some_iff.1 X3.out).1).trans X3.out)
      have BB4 := Lib.hid (BB3.out.trans (bx18.mono BB3.out.size))
      have SS4 := Lib.hid (show B2 < fb ∧ fb < vb ∧ W4.heap.size = vb + 1 by have h1 := SS3.out; omega)
      clear x18 bx18 sx18 hvb O3 BB3 SS3 X3
      go_wp2_with (refine wpList_putC rfl rfl 80 (.tmp 18) (.tmp 88) rfl vb 0 (.func (.func 34) #[] #[.pointer (some ⟨ab, 0, none⟩), .pointer (some ⟨fb, 0, none⟩), .pointer (some ⟨kb, 0, none⟩), .pointer (some ⟨vb, 0, none⟩)]) rfl rfl X18.out (by show 0 < 1; decide) rfl (by kernel_rfl) ?_; refine Stop.on ?_)
      refine Stop.go ?_
      try simp only [Act.put, List.setIfInBounds_toArray, List.set_cons_zero, List.set_cons_succ]
      intro W5 h18 ch18 sh18
      try simp only [Act.put, List.setIfInBounds_toArray, List.set_cons_zero, List.set_cons_succ]
      have hVS : VSt W0 W5 B2 ab fb kb vb (.slice (some ⟨B2, 0, none⟩) 0 (k + n0)) [] :=
        ⟨(ch18.block fb (Array.getElem?_eq_some_iff.1 X4.out).1 (by have := SS4.out; omega)).trans X4.out, h18, O4.out.chg ch18 (fun j hj e => by have h1 : B2 = j := Option.some.inj hj; have h2 := SS4.out; omega), BB4.out.trans (ch18.below (B := W0.heap.size) (fun j e => by have h1 := SS4.out; have h2 := HB2_.out; omega) BB4.out.size), ⟨by have := HB2_.out; omega, by have h1 := SS4.out; have h2 := HB2_.out; omega, by have := SS4.out; omega, by have := SS4.out; omega⟩, fun j hj => by have h1 : B2 = j := Option.some.inj hj; have h2 := SS4.out; omega⟩
      have HVS := Lib.hid hVS
      clear h18 ch18 sh18 X18 O4 BB4 X4 hVS
      obtain ⟨ra, rc, hrt⟩ := HK'.out.roots.form
      obtain ⟨R, hR⟩ : ∃ R, (rootsOf c (pls L c)).length = R := ⟨_, rfl⟩
      rw [hR] at hrt
      have HRL := Lib.hid (show ListAt idE W0 (.slice ra R rc) (rootsOf c (pls L c)) by rw [← hrt]; exact HK'.out.roots.at_)
      have hct := (HK'.out.below HVS.out.hb).cab.2.2
      rw [hrt] at hct
      have hRl : R ≤ 2 * k := by rw [← hR]; have h1 := rootsOf_len c (pls L c); have h2 := pls_len L c; rw [HN.out] at h2; omega
      have HR := Lib.hid hR
      clear hrt hR
      go_wp2_with fail
      clear hct
      have HV0 := Lib.hid (show VSt W0 W5 B2 ab fb kb vb (.slice (some ⟨B2, 0, none⟩) 0 (k + n0)) (((rootsOf c (pls L c)).take 0).foldl (fun o x => visL (kidsOf c (pls L c)) (rowF (arrO L) (rk (arrS L))) ((pls L c).length + 1) o x (-1) 0) []) from HVS.out)
      have HPLN := Lib.hid (show (pls L c).length ≤ 2 * k by have h2 := pls_len L c; rw [HN.out] at h2; exact h2)
      have HFL := Lib.hid (show (forestV L c).length < 1000000 by have h1 := forL_len (cut_acyclic HCUT.out) (pls_nodup HND.out c) (rowF (arrO L) (rk (arrS L))) ((pls L c).length + 1); have h2 := HPLN.out; unfold forestV; omega)
      go_loopw [91] (fun iv wr => ∃ (i : Nat) (fvi : Value), i ≤ R ∧ iv = .int .i64 (i : Int) ∧ Hid (VSt W0 wr B2 ab fb kb vb fvi (((rootsOf c (pls L c)).take i).foldl (fun o x => visL (kidsOf c (pls L c)) (rowF (arrO L) (rk (arrS L))) ((pls L c).length + 1) o x (-1) 0) []))) (fun iv _ => R - (intOf iv).toNat)
      case atStart => exact ⟨0, _, Nat.zero_le _, rfl, HV0⟩
      case round =>
        obtain ⟨i, fvi, hi, rfl, HVi⟩ := hrel
        obtain ⟨W6, rfl⟩ : ∃ W6, W6 = wr := ⟨_, rfl⟩
        clear HV0 HVS
        by_cases hlr : i < R
        case neg =>
          obtain rfl : i = R := by omega
          have HFF := Lib.hid (show OwnL nodeE W6 w.heap.size fvi (forestV L c) by
            have h1 := HVi.out.own
            rw [List.take_of_length_le (by rw [HR.out]; exact Nat.le_refl _)] at h1
            exact OwnL.base h1 (by have h2 := HB2_.out; have h3 := HB.out.size; have h4 := HBA.out.size; omega))
          obtain ⟨c1, _⟩ := HVi.out.cells
          have HBE := Lib.hid (show Below w.heap.size w W6 from HBA.out.trans ((HB.out.trans (HVi.out.hb.mono HB.out.size)).mono HBA.out.size))
          go_wp2_with fail
          exact bodyPost_ret (v := .tuple #[fvi, .int .i64 0]) (by simp [results, Try.results21, go_sem]) rfl (.inr ⟨HND.out, fvi, c, rfl, HCUT.out, HFF.out, HBE.out⟩)
        have hir : i < (rootsOf c (pls L c)).length := by rw [HR.out]; exact hlr
        obtain ⟨gk, ok_, eva, hgk, hrk_⟩ := (HRL.out.below HVi.out.hb).get hir
        subst eva
        obtain ⟨y, hy⟩ : ∃ y, (rootsOf c (pls L c))[i] = y := ⟨_, rfl⟩
        rw [hy] at hrk_
        have HRK0 := Lib.hid (show W6.rangeAt gk (ok_ + i * 32) (bvs y.1) from hrk_)
        have HY := Lib.hid hy
        clear hrk_ hy hgk
        refine hide_postT ?_
        intro Q4 HQ4
        go_wp2_with (with_reducible refine wpList_load_mid rfl 31 (.tmp 93) rfl gk (ok_ + i * 32) rfl (bvs y.1) _ HRK0.out Try.underlying31 rfl (sizeId y) ?_; refine Stop.on ?_)
        refine Stop.go ?_
        try simp only [Act.put, List.setIfInBounds_toArray, List.set_cons_zero, List.set_cons_succ]
        go_wp2_with (refine wpList_newV rfl (some 20) rfl 31 rfl #[.int .u8 0, .int .u8 0, .int .u8 0, .int .u8 0, .int .u8 0, .int .u8 0, .int .u8 0, .int .u8 0, .int .u8 0, .int .u8 0, .int .u8 0, .int .u8 0, .int .u8 0, .int .u8 0, .int .u8 0, .int .u8 0, .int .u8 0, .int .u8 0, .int .u8 0, .int .u8 0, .int .u8 0, .int .u8 0, .int .u8 0, .int .u8 0, .int .u8 0, .int .u8 0, .int .u8 0, .int .u8 0, .int .u8 0, .int .u8 0, .int .u8 0, .int .u8 0] 32 (by kernel_rfl) ?_; refine Stop.on ?_)
        refine Stop.go ?_
        try simp only [Act.put, List.setIfInBounds_toArray, List.set_cons_zero, List.set_cons_succ]
        intro wn xn bi sn
        try simp only [Act.put, List.setIfInBounds_toArray, List.set_cons_zero, List.set_cons_succ]
        refine wpList_putV rfl rfl 31 (.tmp 20) (.tmp 94) rfl _ (bvs y.1).toArray rfl rfl 31 _ xn (sizeIdA y) (zsId y) (all_oneCell_toArray bvs_oneCell) ?_
        intro W7 xi ci si
        try simp only [Act.put, List.setIfInBounds_toArray, List.set_cons_zero, List.set_cons_succ]
        clear xn
        have hb7 : Below W6.heap.size W6 W7 := bi.trans (ci.below (B := W6.heap.size) (fun k e => by omega) bi.size)
        have HX7 := Lib.hid xi
        have HS7 := Lib.hid (HVi.out.below hb7)
        obtain ⟨_, d2⟩ := HS7.out.cells
        have hts : ((rootsOf c (pls L c)).take (i + 1)).foldl (fun o x => visL (kidsOf c (pls L c)) (rowF (arrO L) (rk (arrS L))) ((pls L c).length + 1) o x (-1) 0) [] = visL (kidsOf c (pls L c)) (rowF (arrO L) (rk (arrS L))) ((pls L c).length + 1) (((rootsOf c (pls L c)).take i).foldl (fun o x => visL (kidsOf c (pls L c)) (rowF (arrO L) (rk (arrS L))) ((pls L c).length + 1) o x (-1) 0) []) y (-1) 0 := by
          rw [List.take_succ_eq_append_getElem hir, List.foldl_append, HY.out]
          rfl
        have hll := fold_take (f := fun o x => visL (kidsOf c (pls L c)) (rowF (arrO L) (rk (arrS L))) ((pls L c).length + 1) o x (-1) 0) (fun o y => visL_len _ _ _ o y _ _) (rootsOf c (pls L c)) (i + 1) []
        rw [hts] at hll
        have HCALL := Lib.hid (visit_any HVE.out (fun x j h => by obtain ⟨h1, _⟩ := rk_some h; rw [arrS_len] at h1; rw [arrO_len]; exact h1) (by rw [arrO_len, HN.out]; omega) (fun x => by have h1 := kidsOf_len c (pls L c) x; have h2 := HPLN.out; omega) ((pls L c).length + 1) W7 y fvi _ (-1) 0 (fin_all (cut_acyclic HCUT.out) y) HS7.out (Nat.lt_of_le_of_lt hll HFL.out) (by omega) (by have h2 := HPLN.out; omega))
        have HTS := Lib.hid hts
        unfold vcaps at d2
        clear xi bi ci si sn hb7 hts hll
        go_wp2_with (refine wpList_loadV rfl (some 96) rfl 31 (.tmp 20) rfl _ rfl 31 (bvs y.1).toArray (0, 0) _ HX7.out Try.underlying31 rfl (sizeIdA y) ?_; refine Stop.on ?_)
        refine Stop.go ?_
        try simp only [Act.put, List.setIfInBounds_toArray, List.set_cons_zero, List.set_cons_succ]
        go_wp2_with fail
        have hcall : Calls Try.prog 34 #[.agg (bvs y.1).toArray, .int .i64 (-1), .int .i64 0, .pointer (some ⟨ab, 0, none⟩), .pointer (some ⟨fb, 0, none⟩), .pointer (some ⟨kb, 0, none⟩), .pointer (some ⟨vb, 0, none⟩)] W7 _ := HCALL.out
        refine hcall.mono ?_
        rintro e W8 ⟨rfl, fv8, hS8, _, _⟩
        have HS8 := Lib.hid (show VSt W0 W8 B2 ab fb kb vb fv8 (((rootsOf c (pls L c)).take (i + 1)).foldl (fun o x => visL (kidsOf c (pls L c)) (rowF (arrO L) (rk (arrS L))) ((pls L c).length + 1) o x (-1) 0) []) by rw [HTS.out]; exact hS8)
        clear hS8 hcall d2
        go_wp2_with fail
        rw [HQ4.out]
        change _ ∧ _
        go_roundw
        case rel => exact ⟨i + 1, fv8, by omega, by go_num, HS8⟩
        case measure => simp [intOf]; omega
    have hka := HA.out.below HB.out
    have hkO : k < (arrO L).length := by rw [HOL.out]; exact hlt
    have hkS : k < (arrS L).length := by rw [arrS_len, HN.out]; exact hlt
    obtain ⟨gr, or_, go_, oo, o, z, era, eoa, ho1, ho2, ⟨_, hz⟩, hgo, hgr, hco, hrz, _⟩ := ArrAt.art (ra := va) (oa := oa) (rc := vc) (oc := oc) (by rw [HN.out, HOL.out]; rw [HOL.out] at hka; exact hka) hkO ⟨hkS, arr_at L k hkO hkS⟩
    subst era
    subst eoa
    rw [HN.out] at ho2
    have HRZ := Lib.hid hrz
    have HZ := Lib.hid hz
    have hoI : (o : Int) < (k : Int) + ((N : Int) - (k : Int)) := by omega
    have hoN : (o : Int) < (N : Int) := by omega
    clear hka hrz hz ho1 hkO hgo hgr hoI
    refine hide_postT ?_
    intro Q3 HQ3
    go_wp2_with (with_reducible refine wpList_load_mid rfl 31 (.tmp 44) rfl gr (or_ + o * 83) rfl (bvs z.1) _ HRZ.out Try.underlying31 rfl (sizeId z) ?_; refine Stop.on ?_)
    refine Stop.go ?_
    try simp only [Act.put, List.setIfInBounds_toArray, List.set_cons_zero, List.set_cons_succ]
    go_wp2_with (refine wpList_newV rfl (some 12) rfl 31 rfl #[.int .u8 0, .int .u8 0, .int .u8 0, .int .u8 0, .int .u8 0, .int .u8 0, .int .u8 0, .int .u8 0, .int .u8 0, .int .u8 0, .int .u8 0, .int .u8 0, .int .u8 0, .int .u8 0, .int .u8 0, .int .u8 0, .int .u8 0, .int .u8 0, .int .u8 0, .int .u8 0, .int .u8 0, .int .u8 0, .int .u8 0, .int .u8 0, .int .u8 0, .int .u8 0, .int .u8 0, .int .u8 0, .int .u8 0, .int .u8 0, .int .u8 0, .int .u8 0] 32 (by kernel_rfl) ?_; refine Stop.on ?_)
    refine Stop.go ?_
    try simp only [Act.put, List.setIfInBounds_toArray, List.set_cons_zero, List.set_cons_succ]
    intro wn xn bi sn
    try simp only [Act.put, List.setIfInBounds_toArray, List.set_cons_zero, List.set_cons_succ]
    refine wpList_putV rfl rfl 31 (.tmp 12) (.tmp 45) rfl _ (bvs z.1).toArray rfl rfl 31 _ xn (sizeIdA z) (zsId z) (all_oneCell_toArray bvs_oneCell) ?_
    intro W1 xi ci si
    try simp only [Act.put, List.setIfInBounds_toArray, List.set_cons_zero, List.set_cons_succ]
    clear xn
    have hb1 : Below W0.heap.size W0 W1 := bi.trans (ci.below (B := W0.heap.size) (fun k e => by omega) bi.size)
    have HZ1 := Lib.hid xi
    have HS1 := Lib.hid (show W1.heap.size = W0.heap.size + 1 by omega)
    have HK1 := Lib.hid (HK.out.below hb1)
    have HM1 := Lib.hid (HM.out.below hb1)
    have HB1 := Lib.hid (HB.out.trans (hb1.mono HB.out.size))
    obtain ⟨B12, hB12⟩ : ∃ B12, W0.heap.size = B12 := ⟨_, rfl⟩
    rw [hB12] at HZ1 HS1 ⊢
    have HOW := Lib.hid (show ∀ j, BOwn vf rtv j → j < B12 from fun j hj => by have := (HK.out.own_lt hj).2; omega)
    have H12 := Lib.hid (show B ≤ B12 by have := HBG.out; omega)
    clear xi bi ci si sn hb1 hB12 hco
    obtain ⟨y0, hy0⟩ : ∃ y0, (c z).getD z32 = y0 := ⟨_, rfl⟩
    obtain ⟨ok, hok⟩ : ∃ ok, (c z).isSome = ok := ⟨_, rfl⟩
    have HF := Lib.hid (show ∀ w', Below W1.heap.size W1 w' → w'.cell? ⟨ab, 0, none⟩ = some (.pointer (some ⟨a, 0, none⟩)) ∧ w'.cell? ⟨a, 3, none⟩ = some (.map (some pb)) ∧ (Instr.lookup 75 (.map (some pb)) (.agg (bvs z.1).toArray) true).run Try.prog w' = .ok (.tuple #[.agg (bvs y0.1).toArray, .bool ok]) w' ∧ w'.rangeAt B12 0 (bvs z.1) from fun w' hw' => by
      have ha := HA.out.below (HB1.out.trans (hw'.mono HB1.out.size))
      have h2 := ha.lookP z true
      rw [if_pos rfl, hy0, hok] at h2
      exact ⟨(HK1.out.below hw').cab.1, ha.cells.2.2.2, h2, range_block ((hw'.block _ (Array.getElem?_eq_some_iff.1 HZ1.out).1).trans HZ1.out)⟩)
    have HY0 := Lib.hid hy0
    have HOK := Lib.hid hok
    clear hy0 hok
    go_wp2_with fail
    refine wp_region_noPanic ?_
    refine wp_region_H (fun w' => Below W1.heap.size W1 w' ∧ W1.heap.size ≤ w'.heap.size) (by kernel_rfl) ?_
    have hS0 : (fun w' => Below W1.heap.size W1 w' ∧ W1.heap.size ≤ w'.heap.size) W1.drew := ⟨(Below.refl _ _).drew, Nat.le_refl _⟩
    obtain ⟨wd, hwd⟩ : ∃ wd, W1.drew = wd := ⟨_, rfl⟩
    have hzd : wd.heap.size = W1.heap.size := hwd ▸ rfl
    rw [hwd] at hS0 ⊢
    clear hwd
    refine wpAnyH_takeI (i := 0) (v := ?v1) rfl (by kernel_rfl) (by kernel_rfl) (by kernel_rfl) (fun _ _ _ h => h) (yieldsIf_run rfl (fun w' hw' => ?y1)) hS0 ?_
    case y1 => (obtain ⟨q1, q2, q3, _⟩ := HF.out w' hw'.1; clear hw'; first | (go_simp; rfl) | (go_simp; done))
    simp only [Act.put, List.setIfInBounds_toArray, List.set_cons_zero, List.set_cons_succ]
    refine wpAnyH_takeI (i := 1) (v := ?v2) rfl (by kernel_rfl) (by kernel_rfl) (by kernel_rfl) (fun _ _ _ h => h) (yieldsIf_run rfl (fun w' hw' => ?y2)) hS0 ?_
    case y2 => first | (go_simp; rfl) | (go_simp; done) | rfl
    simp only [Act.put, List.setIfInBounds_toArray, List.set_cons_zero, List.set_cons_succ]
    refine wpAnyH_takeI (i := 2) (v := ?v3) rfl (by kernel_rfl) (by kernel_rfl) (by kernel_rfl) (fun _ _ _ h => h) (yieldsIf_run rfl (fun w' hw' => ?y3)) hS0 ?_
    case y3 => first | (go_simp; rfl) | (go_simp; done) | rfl
    simp only [Act.put, List.setIfInBounds_toArray, List.set_cons_zero, List.set_cons_succ]
    refine wpAnyH_takeI (i := 3) (v := ?v4) rfl (by kernel_rfl) (by kernel_rfl) (by kernel_rfl) (fun _ _ _ h => h) (yieldsIf_run rfl (fun w' hw' => ?y4)) hS0 ?_
    case y4 => (obtain ⟨q1, q2, q3, _⟩ := HF.out w' hw'.1; clear hw'; first | (go_simp; rfl) | (go_simp; done))
    simp only [Act.put, List.setIfInBounds_toArray, List.set_cons_zero, List.set_cons_succ]
    refine wpAnyH_takeI (i := 4) (v := .agg (bvs z.1).toArray) rfl (by kernel_rfl) (by kernel_rfl) (by kernel_rfl) (fun _ _ _ h => h) (yieldsIf_load_mid rfl 31 (.tmp 12) rfl B12 0 rfl (bvs z.1) _ (fun w' hw' => (HF.out w' hw'.1).2.2.2) Try.underlying31 rfl (sizeId z)) hS0 ?_
    simp only [Act.put, List.setIfInBounds_toArray, List.set_cons_zero, List.set_cons_succ]
    refine wpAnyH_takeI (i := 5) (v := .tuple #[.agg (bvs y0.1).toArray, .bool ok]) rfl (by kernel_rfl) (by kernel_rfl) (by kernel_rfl) (fun _ _ _ h => h) (yieldsIf_run rfl (fun w' hw' => ?y5)) hS0 ?_
    case y5 => (obtain ⟨q1, q2, q3, _⟩ := HF.out w' hw'.1; clear hw'; first | (go_simp; rfl) | (go_simp; done))
    simp only [Act.put, List.setIfInBounds_toArray, List.set_cons_zero, List.set_cons_succ]
    refine wpAnyH_takeI (i := 6) (v := .tuple #[.agg (bvs y0.1).toArray, .bool ok]) rfl (by kernel_rfl) (by kernel_rfl) (by kernel_rfl) (fun _ _ _ h => h) (yieldsIf_run rfl (fun w' hw' => ?y6)) hS0 ?_
    case y6 => first | (go_simp; rfl) | (go_simp; done) | rfl
    simp only [Act.put, List.setIfInBounds_toArray, List.set_cons_zero, List.set_cons_succ]
    refine wpAnyH_takeI (i := 7) (v := .agg (bvs y0.1).toArray) rfl (by kernel_rfl) (by kernel_rfl) (by kernel_rfl) (fun _ _ _ h => h) (yieldsIf_run rfl (fun w' hw' => ?y7)) hS0 ?_
    case y7 => first | (go_simp; rfl) | (go_simp; done) | rfl
    simp only [Act.put, List.setIfInBounds_toArray, List.set_cons_zero, List.set_cons_succ]
    refine wpAnyH_takeI (i := 8) (v := .bool ok) rfl (by kernel_rfl) (by kernel_rfl) (by kernel_rfl) (fun _ _ _ h => h) (yieldsIf_run rfl (fun w' hw' => ?y8)) hS0 ?_
    case y8 => first | (go_simp; rfl) | (go_simp; done) | rfl
    simp only [Act.put, List.setIfInBounds_toArray, List.set_cons_zero, List.set_cons_succ]
    refine wpAnyH_do (i := 9) (by kernel_rfl) rfl rfl (fun K hK => ?_)
    refine wp_newV (some 13) rfl 31 rfl #[.int .u8 0, .int .u8 0, .int .u8 0, .int .u8 0, .int .u8 0, .int .u8 0, .int .u8 0, .int .u8 0, .int .u8 0, .int .u8 0, .int .u8 0, .int .u8 0, .int .u8 0, .int .u8 0, .int .u8 0, .int .u8 0, .int .u8 0, .int .u8 0, .int .u8 0, .int .u8 0, .int .u8 0, .int .u8 0, .int .u8 0, .int .u8 0, .int .u8 0, .int .u8 0, .int .u8 0, .int .u8 0, .int .u8 0, .int .u8 0, .int .u8 0, .int .u8 0] 32 (by kernel_rfl) ?_
    intro wn xn bi sn
    have hS1 : (fun w' => Below W1.heap.size W1 w' ∧ W1.heap.size ≤ w'.heap.size) wn := ⟨hS0.1.trans (bi.mono hS0.2), by have h1 := hS0.2; omega⟩
    refine hK _ _ hS1 ?_
    clear hK K
    try simp only [Act.put, List.setIfInBounds_toArray, List.set_cons_zero, List.set_cons_succ]
    refine wpAnyH_do (i := 10) (by kernel_rfl) rfl rfl (fun K hK => ?_)
    refine wp_putV rfl 31 (.tmp 13) (.tmp 53) rfl _ (bvs y0.1).toArray rfl rfl 31 _ xn (sizeIdA y0) (zsId y0) (all_oneCell_toArray bvs_oneCell) ?_
    intro W2 xi ci si
    have hS2 : (fun w' => Below W1.heap.size W1 w' ∧ W1.heap.size ≤ w'.heap.size) W2 := ⟨hS1.1.trans (ci.below (B := W1.heap.size) (fun k e => by omega) hS1.2), by have h1 := hS1.2; omega⟩
    refine hK _ _ hS2 ?_
    clear hK K
    try simp only [Act.put, List.setIfInBounds_toArray, List.set_cons_zero, List.set_cons_succ]
    refine wpAnyH_takeI (i := 11) (v := .bool ok) rfl (by kernel_rfl) (by kernel_rfl) (by kernel_rfl) (fun _ _ _ h => h) (yieldsIf_run rfl (fun w' hw' => ?y9)) hS2 ?_
    case y9 => first | (go_simp; rfl) | (go_simp; done) | rfl
    simp only [Act.put, List.setIfInBounds_toArray, List.set_cons_zero, List.set_cons_succ]
    refine wpAnyH_done (by kernel_rfl) ?_ _
    refine NoPanic.normal ?_
    rw [hzd] at xi sn ⊢
    have HZN := Lib.hid xi
    have HSN := Lib.hid hS2.1
    have HSZN := Lib.hid (show W2.heap.size = W1.heap.size + 1 by omega)
    clear xn xi bi ci si sn hS0 hS1 hS2 hzd
    have HK2 := Lib.hid (HK1.out.below HSN.out)
    have HM2 := Lib.hid (HM1.out.below HSN.out)
    have HB2 := Lib.hid (HB1.out.trans (HSN.out.mono HB1.out.size))
    have HZ2 := Lib.hid ((HSN.out.block _ (Array.getElem?_eq_some_iff.1 HZ1.out).1).trans HZ1.out)
    obtain ⟨B13, hB13⟩ : ∃ B13, W1.heap.size = B13 := ⟨_, rfl⟩
    rw [hB13] at HZN ⊢
    have HS2 := Lib.hid (show B12 < B13 ∧ B13 < W2.heap.size ∧ B ≤ W2.heap.size by have h1 := HSZN.out; have h2 := HS1.out; have h3 := H12.out; omega)
    clear HF hB13 HZ1 HK1 HM1 HB1 HSN HSZN HS1
    have hstep : place (isArt (arrS L)) c ((arrS L).take (k + 1)) = plStep (isArt (arrS L)) c (place (isArt (arrS L)) c ((arrS L).take k)) (arrS L)[k] := by rw [List.take_succ_eq_append_getElem hkS, place_snoc]
    unfold plStep at hstep
    rw [HZ.out] at hstep
    obtain ⟨PS_, hPS⟩ : ∃ PS_, place (isArt (arrS L)) c ((arrS L).take k) = PS_ := ⟨_, rfl⟩
    rw [hPS] at hstep
    have HPL := Lib.hid (show PS_.pl.length ≤ 2 * N by rw [← hPS, ← HN.out]; exact plsk_len L c k)
    have HK2' := Lib.hid (show BSt W2 B ab kb tb cb a (kidsOf c PS_.pl) (rootsOf c PS_.pl) vf rtv by rw [← hPS]; exact HK2.out)
    have HM2' := Lib.hid (show KMap idKey W2 mb (misF PS_.done) by rw [← hPS]; exact HM2.out)
    have HSTEP := Lib.hid hstep
    clear hstep hPS HK2 HM2
    cases hp : c z with
    | none =>
      obtain rfl : ok = false := by rw [← HOK.out, hp]; rfl
      have HE := Lib.hid (show place (isArt (arrS L)) c ((arrS L).take (k + 1)) = ⟨PS_.pl ++ [z], PS_.done⟩ by have h1 := HSTEP.out; rw [hp] at h1; exact h1)
      clear hp
      go_wp2_with (refine wpList_loadV rfl (some 79) rfl 31 (.tmp 12) rfl _ rfl 31 (bvs z.1).toArray (0, 0) _ HZ2.out Try.underlying31 rfl (sizeIdA z) ?_; refine Stop.on ?_)
      refine Stop.go ?_
      try simp only [Act.put, List.setIfInBounds_toArray, List.set_cons_zero, List.set_cons_succ]
      go_wp2_with fail
      refine (place_any HK2'.out (HA.out.below HB2.out) HS2.out.2.2 (fun y => by have h1 := kidsOf_len c (PS_.pl) y; have h2 := HPL.out; have h3 : (PS_.pl).length ≤ PS_.pl.length + 1 := (by simp); omega) (by have h1 := rootsOf_len c (PS_.pl); have h2 := HPL.out; have h3 : (PS_.pl).length ≤ PS_.pl.length + 1 := (by simp); omega) z).mono ?_
      rintro e W9 ⟨rfl, vf9, rtv9, hk9, hc9, ho9⟩
      rw [putK_snoc] at hk9
      have HK9 := Lib.hid (show BSt W9 B ab kb tb cb a (kidsOf c (place (isArt (arrS L)) c ((arrS L).take (k + 1))).pl) (rootsOf c (place (isArt (arrS L)) c ((arrS L).take (k + 1))).pl) vf9 rtv9 by rw [HE.out]; exact hk9)
      have HM9 := Lib.hid (show KMap idKey W9 mb (misF (place (isArt (arrS L)) c ((arrS L).take (k + 1))).done) by
        rw [HE.out]
        refine HM2'.out.chg hc9 (fun e => ?_)
        have h1 := HS.out
        rcases e with e | e | e
        · omega
        · omega
        · have h2 := (HK2'.out.own_lt e).1
          omega)
      have HB9 := Lib.hid (HB2.out.trans (hc9.below (B := Wa.heap.size) (fun j e => by
        have h1 := HS.out
        rcases e with e | e | e
        · omega
        · omega
        · have h2 := (HK2'.out.own_lt e).1
          omega) HB2.out.size))
      have HBG9 := Lib.hid (Nat.le_trans (HS2.out.2.2) hc9.size)
      clear hk9 hc9 ho9
      go_wp2_with fail
      rw [HQ3.out]
      change _ ∧ _
      go_roundw
      case rel => exact ⟨k + 1, vf9, rtv9, by omega, by go_num, HK9, HM9, HB9, HBG9⟩
      case measure => simp [intOf]; omega
    | some p =>
      obtain rfl : ok = true := by rw [← HOK.out, hp]; rfl
      obtain rfl : y0 = p := by rw [← HY0.out, hp]; rfl
      have hstep := HSTEP.out
      rw [hp] at hstep
      dsimp only at hstep
      obtain ⟨kv, hkv⟩ : ∃ kv : Int, (((rk (arrS L) y0).getD 0 : Nat) : Int) = kv := ⟨_, rfl⟩
      obtain ⟨ok2, hok2⟩ : ∃ ok, isArt (arrS L) y0 = ok := ⟨_, rfl⟩
      rw [hok2] at hstep
      have HST2 := Lib.hid hstep
      have HKV := Lib.hid hkv
      have HOK2 := Lib.hid hok2
      clear hp hstep hkv hok2 HSTEP
      go_wp2_with fail
      refine wp_region_seq 10 (by kernel_rfl) (by kernel_rfl) ?_
      simp only [List.take_succ_cons, List.take_zero, List.drop_succ_cons, List.drop_zero]
      obtain ⟨W3, hwd⟩ : ∃ W3, W2.drew = W3 := ⟨_, rfl⟩
      have hd_W3 : Below W2.heap.size W2 W3 ∧ W3.heap.size = W2.heap.size := hwd ▸ ⟨(Below.refl _ _).drew, rfl⟩
      rw [hwd]
      clear hwd
      have HK3 := Lib.hid (HK2'.out.below hd_W3.1)
      have HM3 := Lib.hid (HM2'.out.below hd_W3.1)
      have HB3 := Lib.hid (HB2.out.trans (hd_W3.1.mono HB2.out.size))
      have HZ3 := Lib.hid ((hd_W3.1.block _ (Array.getElem?_eq_some_iff.1 HZ2.out).1).trans HZ2.out)
      have HP3 := Lib.hid ((hd_W3.1.block _ (Array.getElem?_eq_some_iff.1 HZN.out).1).trans HZN.out)
      have HS3 := Lib.hid (show B12 < B13 ∧ B13 < W3.heap.size ∧ B ≤ W3.heap.size by have h1 := HS2.out; have h2 := hd_W3.2; omega)
      have c1 := HK3.out.cab.1
      have c2 := (HA.out.below HB3.out).cells.2.2.1
      have hlk := (HA.out.below HB3.out).lookR y0
      rw [rk_isSome, HKV.out, HOK2.out] at hlk
      clear hd_W3 HK2' HM2' HB2 HZ2 HZN HS2
      go_wp2_with (refine wpList_loadV rfl (some 61) rfl 31 (.tmp 13) rfl _ rfl 31 (bvs y0.1).toArray (0, 0) _ HP3.out Try.underlying31 rfl (sizeIdA y0) ?_; refine Stop.on ?_)
      refine Stop.go ?_
      try simp only [Act.put, List.setIfInBounds_toArray, List.set_cons_zero, List.set_cons_succ]
      go_wp2_with fail
      refine HeadPost.mk ?_
      clear c1 c2 hlk
      cases ok2 with
      | true =>
        have HE := Lib.hid (show place (isArt (arrS L)) c ((arrS L).take (k + 1)) = ⟨PS_.pl ++ [z], PS_.done⟩ by have h1 := HST2.out; rw [Bool.true_or, if_pos rfl] at h1; exact h1)
        go_wp2_with (refine wpList_loadV rfl (some 79) rfl 31 (.tmp 12) rfl _ rfl 31 (bvs z.1).toArray (0, 0) _ HZ3.out Try.underlying31 rfl (sizeIdA z) ?_; refine Stop.on ?_)
        refine Stop.go ?_
        try simp only [Act.put, List.setIfInBounds_toArray, List.set_cons_zero, List.set_cons_succ]
        go_wp2_with fail
        refine (place_any HK3.out (HA.out.below HB3.out) HS3.out.2.2 (fun y => by have h1 := kidsOf_len c (PS_.pl) y; have h2 := HPL.out; have h3 : (PS_.pl).length ≤ PS_.pl.length + 1 := (by simp); omega) (by have h1 := rootsOf_len c (PS_.pl); have h2 := HPL.out; have h3 : (PS_.pl).length ≤ PS_.pl.length + 1 := (by simp); omega) z).mono ?_
        rintro e W9 ⟨rfl, vf9, rtv9, hk9, hc9, ho9⟩
        rw [putK_snoc] at hk9
        have HK9 := Lib.hid (show BSt W9 B ab kb tb cb a (kidsOf c (place (isArt (arrS L)) c ((arrS L).take (k + 1))).pl) (rootsOf c (place (isArt (arrS L)) c ((arrS L).take (k + 1))).pl) vf9 rtv9 by rw [HE.out]; exact hk9)
        have HM9 := Lib.hid (show KMap idKey W9 mb (misF (place (isArt (arrS L)) c ((arrS L).take (k + 1))).done) by
          rw [HE.out]
          refine HM3.out.chg hc9 (fun e => ?_)
          have h1 := HS.out
          rcases e with e | e | e
          · omega
          · omega
          · have h2 := (HK3.out.own_lt e).1
            omega)
        have HB9 := Lib.hid (HB3.out.trans (hc9.below (B := Wa.heap.size) (fun j e => by
          have h1 := HS.out
          rcases e with e | e | e
          · omega
          · omega
          · have h2 := (HK3.out.own_lt e).1
            omega) HB3.out.size))
        have HBG9 := Lib.hid (Nat.le_trans (HS3.out.2.2) hc9.size)
        clear hk9 hc9 ho9
        go_wp2_with fail
        rw [HQ3.out]
        change _ ∧ _
        go_roundw
        case rel => exact ⟨k + 1, vf9, rtv9, by omega, by go_num, HK9, HM9, HB9, HBG9⟩
        case measure => simp [intOf]; omega
      | false =>
        have hlk2 := look_mis HM3.out y0
        obtain ⟨mi, hmi⟩ : ∃ mi, PS_.done y0 = mi := ⟨_, rfl⟩
        have hst := HST2.out
        rw [Bool.false_or, hmi] at hst
        rw [hmi] at hlk2
        have HST3 := Lib.hid hst
        clear hmi hst
        cases mi with
        | true =>
          have HE := Lib.hid (show place (isArt (arrS L)) c ((arrS L).take (k + 1)) = ⟨PS_.pl ++ [z], PS_.done⟩ by have h1 := HST3.out; rw [if_pos rfl] at h1; exact h1)
          go_wp2_with (refine wpList_met rfl ?_; refine wpList_loadV rfl (some 69) rfl 31 (.tmp 13) rfl _ rfl 31 (bvs y0.1).toArray (0, 0) _ HP3.out Try.underlying31 rfl (sizeIdA y0) ?_; refine Stop.on ?_)
          refine Stop.go ?_
          try simp only [Act.put, List.setIfInBounds_toArray, List.set_cons_zero, List.set_cons_succ]
          go_wp2_with (refine wpList_loadV rfl (some 79) rfl 31 (.tmp 12) rfl _ rfl 31 (bvs z.1).toArray (0, 0) _ HZ3.out Try.underlying31 rfl (sizeIdA z) ?_; refine Stop.on ?_)
          refine Stop.go ?_
          try simp only [Act.put, List.setIfInBounds_toArray, List.set_cons_zero, List.set_cons_succ]
          go_wp2_with fail
          refine (place_any HK3.out (HA.out.below HB3.out) HS3.out.2.2 (fun y => by have h1 := kidsOf_len c (PS_.pl) y; have h2 := HPL.out; have h3 : (PS_.pl).length ≤ PS_.pl.length + 1 := (by simp); omega) (by have h1 := rootsOf_len c (PS_.pl); have h2 := HPL.out; have h3 : (PS_.pl).length ≤ PS_.pl.length + 1 := (by simp); omega) z).mono ?_
          rintro e W9 ⟨rfl, vf9, rtv9, hk9, hc9, ho9⟩
          rw [putK_snoc] at hk9
          have HK9 := Lib.hid (show BSt W9 B ab kb tb cb a (kidsOf c (place (isArt (arrS L)) c ((arrS L).take (k + 1))).pl) (rootsOf c (place (isArt (arrS L)) c ((arrS L).take (k + 1))).pl) vf9 rtv9 by rw [HE.out]; exact hk9)
          have HM9 := Lib.hid (show KMap idKey W9 mb (misF (place (isArt (arrS L)) c ((arrS L).take (k + 1))).done) by
            rw [HE.out]
            refine HM3.out.chg hc9 (fun e => ?_)
            have h1 := HS.out
            rcases e with e | e | e
            · omega
            · omega
            · have h2 := (HK3.out.own_lt e).1
              omega)
          have HB9 := Lib.hid (HB3.out.trans (hc9.below (B := Wa.heap.size) (fun j e => by
            have h1 := HS.out
            rcases e with e | e | e
            · omega
            · omega
            · have h2 := (HK3.out.own_lt e).1
              omega) HB3.out.size))
          have HBG9 := Lib.hid (Nat.le_trans (HS3.out.2.2) hc9.size)
          clear hk9 hc9 ho9
          go_wp2_with fail
          rw [HQ3.out]
          change _ ∧ _
          go_roundw
          case rel => exact ⟨k + 1, vf9, rtv9, by omega, by go_num, HK9, HM9, HB9, HBG9⟩
          case measure => simp [intOf]; omega
        | false =>
          have HE := Lib.hid (show place (isArt (arrS L)) c ((arrS L).take (k + 1)) = ⟨PS_.pl ++ [y0] ++ [z], upd PS_.done y0 true⟩ by have h1 := HST3.out; rw [if_neg (by decide)] at h1; exact h1)
          go_wp2_with (refine wpList_met rfl ?_; refine wpList_loadV rfl (some 69) rfl 31 (.tmp 13) rfl _ rfl 31 (bvs y0.1).toArray (0, 0) _ HP3.out Try.underlying31 rfl (sizeIdA y0) ?_; refine Stop.on ?_)
          refine Stop.go ?_
          try simp only [Act.put, List.setIfInBounds_toArray, List.set_cons_zero, List.set_cons_succ]
          go_wp2_with (refine wpList_loadV rfl (some 74) rfl 31 (.tmp 13) rfl _ rfl 31 (bvs y0.1).toArray (0, 0) _ HP3.out Try.underlying31 rfl (sizeIdA y0) ?_; refine Stop.on ?_)
          refine Stop.go ?_
          try simp only [Act.put, List.setIfInBounds_toArray, List.set_cons_zero, List.set_cons_succ]
          refine wpList_updV HM3.out rfl rfl 64 Try.underlying64 (.tmp 73) (.tmp 74) (.const (.bool true)) rfl rfl y0 rfl (.bool true) rfl ?_
          intro W4 hm4 hc4 hs4
          try simp only [Act.put, List.setIfInBounds_toArray, List.set_cons_zero, List.set_cons_succ]
          have HM4 := Lib.hid (hm4.ext (g := misF (upd PS_.done y0 true)) (fun u => misF_upd PS_.done y0 u))
          have hmbn := HS.out
          have hKm : ∀ j, j < B → j ≠ mb → j < W3.heap.size → W4.heap[j]? = W3.heap[j]? := fun j _ hj hl => hc4.block j hl hj
          have HK4 := Lib.hid (show BSt W4 B ab kb tb cb a (kidsOf c PS_.pl) (rootsOf c PS_.pl) vf rtv from
            ⟨(hc4.block ab (Array.getElem?_eq_some_iff.1 HK3.out.hab).1 (by omega)).trans HK3.out.hab, (hc4.block kb (Array.getElem?_eq_some_iff.1 HK3.out.hkb).1 (by omega)).trans HK3.out.hkb, (hc4.block tb (Array.getElem?_eq_some_iff.1 HK3.out.htb).1 (by omega)).trans HK3.out.htb, HK3.out.km.chg hc4 (by omega), fun x v h => (HK3.out.kids x v h).chg hc4 (fun j hj e => by have := ((HK3.out.kids x v h).lt hj).1; omega), HK3.out.none_, HK3.out.disj, HK3.out.roots.chg hc4 (fun j hj e => by have := (HK3.out.roots.lt hj).1; omega), HK3.out.rdisj, HK3.out.lt⟩)
          have HB4 := Lib.hid (HB3.out.trans (hc4.below (B := Wa.heap.size) (fun j e => by omega) HB3.out.size))
          have HZ4 := Lib.hid ((hc4.block B12 (Array.getElem?_eq_some_iff.1 HZ3.out).1 (by have := H12.out; omega)).trans HZ3.out)
          have HP4 := Lib.hid ((hc4.block B13 (Array.getElem?_eq_some_iff.1 HP3.out).1 (by have := H12.out; have := HS3.out; omega)).trans HP3.out)
          have HS4 := Lib.hid (show B12 < B13 ∧ B13 < W4.heap.size ∧ B ≤ W4.heap.size by have h1 := HS3.out; omega)
          clear hm4 hc4 hs4 hmbn hKm hlk2
          go_wp2_with (refine wpList_loadV rfl (some 76) rfl 31 (.tmp 13) rfl _ rfl 31 (bvs y0.1).toArray (0, 0) _ HP4.out Try.underlying31 rfl (sizeIdA y0) ?_; refine Stop.on ?_)
          refine Stop.go ?_
          try simp only [Act.put, List.setIfInBounds_toArray, List.set_cons_zero, List.set_cons_succ]
          go_wp2_with fail
          refine (place_any HK4.out (HA.out.below HB4.out) HS4.out.2.2 (fun y => by have h1 := kidsOf_len c (PS_.pl) y; have h2 := HPL.out; have h3 : (PS_.pl).length ≤ PS_.pl.length + 1 := (by simp); omega) (by have h1 := rootsOf_len c (PS_.pl); have h2 := HPL.out; have h3 : (PS_.pl).length ≤ PS_.pl.length + 1 := (by simp); omega) y0).mono ?_
          rintro e W5 ⟨rfl, vf5, rtv5, hk5, hc5, ho5⟩
          rw [putK_snoc] at hk5
          have HK5 := Lib.hid hk5
          have HM5 := Lib.hid (HM4.out.chg hc5 (fun e => by
            have h1 := HS.out
            rcases e with e | e | e
            · omega
            · omega
            · have h2 := (HK4.out.own_lt e).1
              omega))
          have HB5 := Lib.hid (HB4.out.trans (hc5.below (B := Wa.heap.size) (fun j e => by
            have h1 := HS.out
            rcases e with e | e | e
            · omega
            · omega
            · have h2 := (HK4.out.own_lt e).1
              omega) HB4.out.size))
          have HZ5 := Lib.hid ((hc5.block B12 (Array.getElem?_eq_some_iff.1 HZ4.out).1 (fun e => by
            have h1 := HS.out
            have h3 := H12.out
            rcases e with e | e | e
            · omega
            · omega
            · have h2 := HOW.out _ e
              omega)).trans HZ4.out)
          have HS5 := Lib.hid (Nat.le_trans HS4.out.2.2 hc5.size)
          clear hk5 hc5 ho5
          go_wp2_with (refine wpList_loadV rfl (some 79) rfl 31 (.tmp 12) rfl _ rfl 31 (bvs z.1).toArray (0, 0) _ HZ5.out Try.underlying31 rfl (sizeIdA z) ?_; refine Stop.on ?_)
          refine Stop.go ?_
          try simp only [Act.put, List.setIfInBounds_toArray, List.set_cons_zero, List.set_cons_succ]
          go_wp2_with fail
          refine (place_any HK5.out (HA.out.below HB5.out) HS5.out (fun y => by have h1 := kidsOf_len c (PS_.pl ++ [y0]) y; have h2 := HPL.out; have h3 : (PS_.pl ++ [y0]).length ≤ PS_.pl.length + 1 := (by simp); omega) (by have h1 := rootsOf_len c (PS_.pl ++ [y0]); have h2 := HPL.out; have h3 : (PS_.pl ++ [y0]).length ≤ PS_.pl.length + 1 := (by simp); omega) z).mono ?_
          rintro e W9 ⟨rfl, vf9, rtv9, hk9, hc9, ho9⟩
          rw [putK_snoc] at hk9
          have HK9 := Lib.hid (show BSt W9 B ab kb tb cb a (kidsOf c (place (isArt (arrS L)) c ((arrS L).take (k + 1))).pl) (rootsOf c (place (isArt (arrS L)) c ((arrS L).take (k + 1))).pl) vf9 rtv9 by rw [HE.out]; exact hk9)
          have HM9 := Lib.hid (show KMap idKey W9 mb (misF (place (isArt (arrS L)) c ((arrS L).take (k + 1))).done) by
            rw [HE.out]
            refine HM5.out.chg hc9 (fun e => ?_)
            have h1 := HS.out
            rcases e with e | e | e
            · omega
            · omega
            · have h2 := (HK5.out.own_lt e).1
              omega)
          have HB9 := Lib.hid (HB5.out.trans (hc9.below (B := Wa.heap.size) (fun j e => by
            have h1 := HS.out
            rcases e with e | e | e
            · omega
            · omega
            · have h2 := (HK5.out.own_lt e).1
              omega) HB5.out.size))
          have HBG9 := Lib.hid (Nat.le_trans (HS5.out) hc9.size)
          clear hk9 hc9 ho9
          go_wp2_with fail
          rw [HQ3.out]
          change _ ∧ _
          go_roundw
          case rel => exact ⟨k + 1, vf9, rtv9, by omega, by go_num, HK9, HM9, HB9, HBG9⟩
          case measure => simp [intOf]; omega
end Go.Proofs.Ytjjanjhoaiannaa
