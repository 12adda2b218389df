/- The arrangement of a list of articles. -/
import Derived.Test.YtjjanjhoaiannaaTh7
import Derived.Test.YtjjanjhoaiannaaTs2
import Derived.Deep.OwnRows
namespace Go.Proofs.Ytjjanjhoaiannaa
open Go.Shelf Go.RowKit Go.Lib Go.Sort
set_option linter.unusedVariables false
set_option linter.unusedSimpArgs false

/-! ### the order -/
def arrF (L : List RowV) : List (Fin L.length) := srtF L (List.finRange L.length)
def arrO (L : List RowV) : List Nat := (arrF L).map (·.val)
def arrS (L : List RowV) : List Tw := (arrF L).map fun i => L[i].tw
theorem arrF_len (L : List RowV) : (arrF L).length = L.length := by unfold arrF srtF; rw [List.length_mergeSort, List.length_finRange]
theorem arrO_len (L : List RowV) : (arrO L).length = L.length := by unfold arrO; rw [List.length_map, arrF_len]
theorem arrS_len (L : List RowV) : (arrS L).length = L.length := by unfold arrS; rw [List.length_map, arrF_len]
theorem arr_at (L : List RowV) : ∀ k (h1 : k < (arrO L).length) (h2 : k < (arrS L).length), ∃ h3 : (arrO L)[k] < L.length, L[(arrO L)[k]].tw = (arrS L)[k] := by
  intro k h1 h2
  have h3 : k < (arrF L).length := by rw [arrF_len, ← arrO_len]; exact h1
  have e1 : (arrO L)[k] = (arrF L)[k].val := List.getElem_map _
  have e2 : (arrS L)[k] = L[(arrF L)[k]].tw := List.getElem_map _
  refine ⟨by rw [e1]; exact (arrF L)[k].isLt, ?_⟩
  rw [e2]
  congr 1
  simp only [e1]
  rfl
theorem arrS_perm (L : List RowV) : (arrS L).Perm (L.map (·.tw)) := by
  have h1 : (arrF L).Perm (List.finRange L.length) := List.mergeSort_perm _ _
  have h2 := h1.map fun i => L[i].tw
  have h3 : (List.finRange L.length).map (fun i => L[i].tw) = L.map (·.tw) := by
    apply List.ext_getElem
    · simp
    · intro i h1 h2; simp
  rw [h3] at h2
  exact h2
theorem arrS_ids (L : List RowV) : ((arrS L).map (·.id)).Perm (L.map (·.id)) := by
  have h := (arrS_perm L).map (·.id)
  rw [List.map_map] at h
  exact h
theorem arrS_nodup {L : List RowV} (hn : (L.map (·.id)).Nodup) : ((arrS L).map (·.id)).Nodup := (arrS_ids L).nodup_iff.2 hn
theorem arrS_asc {L : List RowV} (hn : (L.map (·.id)).Nodup) : Asc (arrS L) := by
  have hp : (arrF L).Pairwise fun x y => (!(ltOf (cfF L) y x)) = true := by
    unfold arrF srtF
    refine List.pairwise_mergeSort (fun a b c h1 h2 => ?_) (fun a b => ?_) _
    · simp only [Bool.not_eq_true'] at *
      exact (swoF L).ntrans _ _ _ h2 h1
    · cases h1 : ltOf (cfF L) b a with
      | false => rfl
      | true =>
        cases h2 : ltOf (cfF L) a b with
        | false => rfl
        | true =>
          have := (swoF L).trans _ _ _ h1 h2
          rw [(swoF L).irrefl] at this
          cases this
  have hd : (arrF L).Nodup := (List.mergeSort_perm _ _).nodup_iff.2 (List.nodup_finRange _)
  unfold Asc arrS
  rw [List.pairwise_map]
  refine List.Pairwise.imp₂ ?_ hp hd
  intro x y h1 h2
  simp only [Bool.not_eq_true'] at h1
  cases h3 : ltOf (cfF L) x y with
  | true =>
    unfold ltOf cfF at h3
    exact of_decide_eq_true h3
  | false => exact absurd (fin_eq hn x y h3 h1) h2
theorem isArt_arrS (L : List RowV) : isArt (arrS L) = isArt (L.map (·.tw)) := isArt_perm (arrS_perm L)

/-! ### steps -/
def natV (n : Nat) : Value := .int .i64 (n : Int)
theorem zerosN (n : Nat) : madeCells #[Value.int .i64 0] n = ((List.replicate n 0).map natV).toArray := by
  apply Array.ext'
  unfold madeCells
  rw [List.map_replicate]
  apply List.ext_getElem
  · simp
  · intro j h1 h2
    simp [Nat.mod_one, natV]
section
variable {o : Oper} {a : Act} {w : World} {K : Act → World → Prop} {Q : Exit → Act → World → Prop}
theorem wp_runV (dst : Option Tmp) (hdst : o.dst = dst) (v : Value) (w' : World) (hrun : (execOp a.eval o).run Try.prog w = .ok (.value v) w') (h : K (a.put dst v) w') : o.wp Try.prog a w K Q := by
  unfold Oper.wp
  rw [hrun, Oper.upon_value, hdst]
  exact h
theorem wp_mkNat (dst : Option Tmp) (hdst : o.dst = dst) (l : Operand) (ho : o.op = .makeSlice 73 l l) (n : Nat) (hn : n ≤ 1000000000) (hl : a.eval l = .int .i64 (n : Int))
    (h : ∀ w', w'.heap[w.heap.size]? = some (.cells ((List.replicate n 0).map natV).toArray 3 (0, 0)) → Below w.heap.size w w' → w'.heap.size = w.heap.size + 1 → K (a.put dst (.slice (some ⟨w.heap.size, 0, none⟩) n n)) w') : o.wp Try.prog a w K Q := by
  have hr := run_make_row' (P := Try.prog) 73 3 (.int .i64 0) 8 Try.underlying73 (by kernel_rfl) rfl .i64 .i64 n (by omega) (by omega) w
  rw [zerosN] at hr
  refine wp_runV dst hdst _ _ ?_ (h _ (heap_alloc_new _ _) ((Below.refl _ _).alloc (Nat.le_refl _) _) (by simp))
  unfold execOp
  simp only [ho, hl, Sem.run_bind, hr, Result.andThen_ok]
  rfl
theorem wp_mapV {kt : TypeId} {κ : Type} [DecidableEq κ] (E : KeyEnc Try.prog kt κ) (dst : Option Tmp) (hdst : o.dst = dst) (t : TypeId) {et : TypeId} (hu : Try.prog.underlying t = some (.map kt et)) (r : Option Operand) (ho : o.op = .makeMap t r) (hr : r = none ∨ ∃ x n, r = some x ∧ a.eval x = .int .i64 n)
    (h : ∀ w', KMap E w' w.heap.size (fun _ => none) → Below w.heap.size w w' → w'.heap.size = w.heap.size + 1 → K (a.put dst (.map (some w.heap.size))) w') : o.wp Try.prog a w K Q := by
  refine wp_runV dst hdst _ (w.alloc (.map #[] 0)) ?_ (h _ (KMap.new _) ((Below.refl _ _).alloc (Nat.le_refl _) _) (by simp))
  unfold execOp
  simp only [ho, Sem.run_bind]
  rcases hr with rfl | ⟨x, n, rfl, hx⟩
  · simp only [Option.map_none, mkMap0 hu, Result.andThen_ok]; rfl
  · simp only [Option.map_some, hx, mkMap hu, Result.andThen_ok]; rfl
end
/-- What is made at first. -/
structure Arr0 (w wc : World) (a ob rb pb : Nat) (v : Value) (N : Nat) : Prop where
  ha : wc.heap[a]? = some (.cells #[v, .slice (some ⟨ob, 0, none⟩) N N, .map (some rb), .map (some pb)] 77 (0, 0))
  ho : wc.heap[ob]? = some (.cells ((List.replicate N 0).map natV).toArray 3 (0, 0))
  hr : KMap idKey wc rb (fun _ => none)
  hp : KMap idKey wc pb (fun _ => none)
  hne : rb ≠ pb
  hao : a ≠ ob
  hb : Below w.heap.size w wc
  g1 : w.heap.size ≤ a
  g2 : w.heap.size ≤ ob
  g3 : w.heap.size ≤ rb
  g4 : w.heap.size ≤ pb
def zeroF (T : List RowV) (x : IdB) : Option Value := if T.any (fun r => decide (r.id = x)) then some (.int .i64 0) else none
theorem zeroF_snoc (T : List RowV) (r : RowV) (x : IdB) : (if x = r.id then some (Value.int .i64 0) else zeroF T x) = zeroF (T ++ [r]) x := by
  unfold zeroF
  rw [List.any_append]
  by_cases h : x = r.id
  · subst h
    simp
  · have : ¬ r.id = x := fun e => h e.symm
    simp [h, this]
theorem zeroF_some {T : List RowV} {x : IdB} : (zeroF T x).isSome = T.any (fun r => decide (r.id = x)) := by
  unfold zeroF
  cases T.any (fun r => decide (r.id = x)) <;> rfl
/-- While the indices are laid. -/
structure Arr1 (w wr : World) (a ob rb pb : Nat) (v : Value) (N : Nat) (L : List RowV) (i : Nat) : Prop where
  ha : wr.heap[a]? = some (.cells #[v, .slice (some ⟨ob, 0, none⟩) N N, .map (some rb), .map (some pb)] 77 (0, 0))
  ho : wr.heap[ob]? = some (.cells ((List.range i ++ List.replicate (N - i) 0).map natV).toArray 3 (0, 0))
  hr : KMap idKey wr rb (zeroF (L.take i))
  hp : KMap idKey wr pb (fun _ => none)
  hne : rb ≠ pb
  hao : a ≠ ob
  hb : Below w.heap.size w wr
  g1 : w.heap.size ≤ a
  g2 : w.heap.size ≤ ob
  g3 : w.heap.size ≤ rb
  g4 : w.heap.size ≤ pb
section
variable {w wr w' : World} {a ob rb pb : Nat} {v : Value} {N : Nat} {L : List RowV} {i : Nat}
theorem Arr0.one (h : Arr0 w wr a ob rb pb v N) : Arr1 w wr a ob rb pb v N L 0 :=
  ⟨h.ha, by simpa using h.ho, h.hr.ext (fun x => by unfold zeroF; simp), h.hp, h.hne, h.hao, h.hb, h.g1, h.g2, h.g3, h.g4⟩
theorem Arr1.below (h : Arr1 w wr a ob rb pb v N L i) (hb : Below wr.heap.size wr w') : Arr1 w w' a ob rb pb v N L i :=
  ⟨(hb.block _ (Array.getElem?_eq_some_iff.1 h.ha).1).trans h.ha, (hb.block _ (Array.getElem?_eq_some_iff.1 h.ho).1).trans h.ho, h.hr.below hb, h.hp.below hb, h.hne, h.hao, h.hb.trans (hb.mono h.hb.size), h.g1, h.g2, h.g3, h.g4⟩
theorem Arr1.cells (h : Arr1 w wr a ob rb pb v N L i) : wr.cell? ⟨a, 1, none⟩ = some (.slice (some ⟨ob, 0, none⟩) N N) ∧ wr.cell? ⟨a, 2, none⟩ = some (.map (some rb)) := by
  refine ⟨?_, ?_⟩ <;> rw [cell_of_row _ _ _ _ _ _ h.ha] <;> rfl
/-- One more identity, then its index. -/
theorem Arr1.next {w'' : World} (h : Arr1 w wr a ob rb pb v N L i) (hi : i < N) (hL : i < L.length) (hm : KMap idKey w' rb (fun z => if z = L[i].id then some (.int .i64 0) else zeroF (L.take i) z)) (hc : Chg (fun k => k = rb) wr w')
    (ho : w''.heap[ob]? = some (.cells ((((List.range i ++ List.replicate (N - i) 0).map natV).toArray).setIfInBounds i (natV i)) 3 (0, 0))) (hd : Chg (fun k => k = ob) w' w'') : Arr1 w w'' a ob rb pb v N L (i + 1) := by
  have ha' : w'.heap[a]? = some (.cells #[v, .slice (some ⟨ob, 0, none⟩) N N, .map (some rb), .map (some pb)] 77 (0, 0)) := (hc.block _ (Array.getElem?_eq_some_iff.1 h.ha).1 (cells_ne h.hr h.ha)).trans h.ha
  have ho' : w'.heap[ob]? = some (.cells ((List.range i ++ List.replicate (N - i) 0).map natV).toArray 3 (0, 0)) := (hc.block _ (Array.getElem?_eq_some_iff.1 h.ho).1 (cells_ne h.hr h.ho)).trans h.ho
  have hp' := h.hp.chg hc (fun e => h.hne e.symm)
  have hb' : Below w.heap.size w w' := h.hb.trans (hc.below (B := w.heap.size) (fun k e => by rw [e]; exact h.g3) h.hb.size)
  refine ⟨(hd.block _ (Array.getElem?_eq_some_iff.1 ha').1 h.hao).trans ha', ?_, (hm.chg hd (fun e => cells_ne hm ho' e.symm)).ext (fun x => ?_), hp'.chg hd (fun e => cells_ne hp' ho' e.symm), h.hne, h.hao, hb'.trans (hd.below (B := w.heap.size) (fun k e => by rw [e]; exact h.g2) hb'.size), h.g1, h.g2, h.g3, h.g4⟩
  · rw [ho]
    congr 2
    rw [List.setIfInBounds_toArray]
    congr 1
    rw [List.set_eq_take_append_cons_drop, if_pos (by simp; omega), List.range_succ]
    obtain ⟨m, rfl⟩ : ∃ m, N = i + 1 + m := ⟨N - (i + 1), by omega⟩
    rw [show i + 1 + m - i = m + 1 by omega, show i + 1 + m - (i + 1) = m by omega, List.replicate_succ]
    simp [List.take_append, List.drop_append]
  · rw [zeroF_snoc, List.take_succ_eq_append_getElem hL]
end

def rkTo (L : List RowV) (k : Nat) (x : IdB) : Option Value := (rk (arrS L) x).map fun j => .int .i64 ((if j < k then j else 0 : Nat) : Int)
theorem rkTo_zero (L : List RowV) (x : IdB) : zeroF L x = rkTo L 0 x := by
  unfold zeroF rkTo
  have h1 : L.any (fun r => decide (r.id = x)) = isArt (arrS L) x := by
    rw [isArt_arrS]
    unfold isArt
    rw [List.any_map]
    rfl
  rw [h1]
  cases h : rk (arrS L) x with
  | none => rw [rk_none.1 h]; rfl
  | some j =>
    have h2 := rk_isSome (arrS L) x
    rw [h] at h2
    rw [← h2]
    simp
theorem rkTo_next {L : List RowV} (hn : (L.map (·.id)).Nodup) {k : Nat} (hk : k < (arrS L).length) (x : IdB) : (if x = (arrS L)[k].id then some (Value.int .i64 (k : Int)) else rkTo L k x) = rkTo L (k + 1) x := by
  unfold rkTo
  by_cases h : x = (arrS L)[k].id
  · subst h
    rw [if_pos rfl, rk_at (arrS_nodup hn) hk]
    simp
  · rw [if_neg h]
    cases hr : rk (arrS L) x with
    | none => rfl
    | some j =>
      obtain ⟨hj, e⟩ := rk_some hr
      have hjk : j ≠ k := fun e2 => by subst e2; exact h e.symm
      simp only [Option.map_some]
      have : (j < k) = (j < k + 1) := by rw [eq_iff_iff]; omega
      simp only [this]
theorem rkTo_all (L : List RowV) (x : IdB) : rkTo L L.length x = (rk (arrS L) x).map fun j => .int .i64 (j : Int) := by
  unfold rkTo
  cases hr : rk (arrS L) x with
  | none => rfl
  | some j =>
    obtain ⟨hj, _⟩ := rk_some hr
    rw [arrS_len] at hj
    simp [hj]
/-- While the places are laid. -/
structure Arr2 (w wr : World) (a ob rb pb : Nat) (v : Value) (N : Nat) (L : List RowV) (k : Nat) : Prop where
  ha : wr.heap[a]? = some (.cells #[v, .slice (some ⟨ob, 0, none⟩) N N, .map (some rb), .map (some pb)] 77 (0, 0))
  ho : OwnL natE wr w.heap.size (.slice (some ⟨ob, 0, none⟩) N N) (arrO L)
  hr : KMap idKey wr rb (rkTo L k)
  hp : KMap idKey wr pb (fun _ => none)
  hne : rb ≠ pb
  hb : Below w.heap.size w wr
  g3 : w.heap.size ≤ rb
section
variable {w wr w' : World} {a ob rb pb : Nat} {v : Value} {N : Nat} {L : List RowV} {i k : Nat}
theorem Arr2.below (h : Arr2 w wr a ob rb pb v N L k) (hb : Below wr.heap.size wr w') : Arr2 w w' a ob rb pb v N L k :=
  ⟨(hb.block _ (Array.getElem?_eq_some_iff.1 h.ha).1).trans h.ha, h.ho.below hb, h.hr.below hb, h.hp.below hb, h.hne, h.hb.trans (hb.mono h.hb.size), h.g3⟩
theorem Arr2.cells (h : Arr2 w wr a ob rb pb v N L k) : wr.cell? ⟨a, 1, none⟩ = some (.slice (some ⟨ob, 0, none⟩) N N) ∧ wr.cell? ⟨a, 2, none⟩ = some (.map (some rb)) := by
  refine ⟨?_, ?_⟩ <;> rw [cell_of_row _ _ _ _ _ _ h.ha] <;> rfl
theorem Arr2.next (h : Arr2 w wr a ob rb pb v N L k) (hn : (L.map (·.id)).Nodup) (hk : k < (arrS L).length) (hm : KMap idKey w' rb (fun z => if z = (arrS L)[k].id then some (.int .i64 (k : Int)) else rkTo L k z)) (hc : Chg (fun k => k = rb) wr w') : Arr2 w w' a ob rb pb v N L (k + 1) := by
  refine ⟨(hc.block _ (Array.getElem?_eq_some_iff.1 h.ha).1 (cells_ne h.hr h.ha)).trans h.ha, h.ho.chg hc (fun j hj e => ?_), hm.ext (rkTo_next hn hk), h.hp.chg hc (fun e => h.hne e.symm), h.hne, h.hb.trans (hc.below (B := w.heap.size) (fun k e => by rw [e]; exact h.g3) h.hb.size), h.g3⟩
  have hob : ob = j := Option.some.inj hj
  have hh : wr.ownsRow w.heap.size 3 1 (.slice (some ⟨ob, 0, none⟩) N N) (arrO L).length ((arrO L).flatMap natE.enc) := h.ho
  rcases hh.2 with ⟨e2, _⟩ | ⟨g, cap, cur, e2, _, hg, _⟩
  · cases e2
  · cases e2
    exact cells_ne h.hr hg (hob.trans e)
theorem Arr1.two (h : Arr1 w wr a ob rb pb v N L N) (hN : L.length = N) (ho : OwnL natE w' w.heap.size (.slice (some ⟨ob, 0, none⟩) N N) (arrO L)) (hb : Below w.heap.size wr w') (hc : Chg (fun k => (Value.slice (some ⟨ob, 0, none⟩) N N).ownBlock = some k) wr w') : Arr2 w w' a ob rb pb v N L 0 := by
  have hno : ∀ k, (Value.slice (some ⟨ob, 0, none⟩) N N).ownBlock = some k → ob = k := fun k e => Option.some.inj e
  refine ⟨(hc.block _ (Array.getElem?_eq_some_iff.1 h.ha).1 (fun e => h.hao (hno _ e).symm)).trans h.ha, ho, (h.hr.chg hc (fun e => cells_ne h.hr h.ho (hno _ e))).ext (fun x => ?_), h.hp.chg hc (fun e => cells_ne h.hp h.ho (hno _ e)), h.hne, h.hb.trans hb, h.g3⟩
  rw [List.take_of_length_le (by omega)]
  exact rkTo_zero L x
theorem Arr1.own (h : Arr1 w wr a ob rb pb v N L N) (hN : L.length = N) (hm : N ≤ 1000000000) : OwnL natE wr w.heap.size (.slice (some ⟨ob, 0, none⟩) N N) ((List.finRange L.length).map (·.val)) := by
  have e : (List.finRange L.length).map (·.val) = List.range N := by
    rw [← hN]
    apply List.ext_getElem
    · simp
    · intro i h1 h2; simp
  have ho := h.ho
  rw [Nat.sub_self, List.replicate_zero, List.append_nil] at ho
  rw [e]
  have hf : (List.range N).flatMap natE.enc = (List.range N).map natV := natE_flat _
  show wr.ownsRow _ _ 1 _ _ _
  rw [List.length_range, hf]
  exact ⟨by simp, .inr ⟨ob, N, _, rfl, h.g2, ho, Nat.le_refl _, by unfold maxLen; omega, by simp, by simp [List.take_of_length_le]⟩⟩
end

/-- What arrange hands back. -/
def ArrPost (w : World) (v : Value) (L : List RowV) (e : Ending) (w' : World) : Prop :=
  (¬ (L.map (·.id)).Nodup ∧ e = .returned (.tuple #[.pointer none, .int .i64 7]) ∧ Below w.heap.size w w') ∨
  ((L.map (·.id)).Nodup ∧ ∃ a rb pb ov c, e = .returned (.tuple #[.pointer (some ⟨a, 0, none⟩), .int .i64 0]) ∧ IsCut (pM (isArt (arrS L)) (arrS L)) (arrS L) c ∧ ArrAt w' a rb pb v ov L (arrO L) (rk (arrS L)) c ∧ Below w.heap.size w w')
set_option maxRecDepth 100000 in
set_option maxHeartbeats 2000000 in
theorem arrange_any {w : World} (v : Value) (L : List RowV) (hv : RowsAt w v L) (hl : L.length ≤ 100000) : Calls Try.prog 32 #[v] w (ArrPost w v L) := by
  obtain ⟨va, vc, rfl⟩ := hv.l.form
  obtain ⟨N, hN⟩ : ∃ N, L.length = N := ⟨_, rfl⟩
  rw [hN] at hv hl ⊢
  obtain ⟨w1, hw1⟩ : ∃ w1, w.alloc (.cells #[.slice va N vc] 22) = w1 := ⟨_, rfl⟩
  have hb1 : Below w.heap.size w w1 := hw1 ▸ (Below.refl _ _).alloc (Nat.le_refl _) _
  have hs1 : w1.heap.size = w.heap.size + 1 := by rw [← hw1]; simp
  have x1 : w1.heap[w.heap.size]? = some (.cells #[.slice va N vc] 22 (0, 0)) := by rw [← hw1]; exact heap_alloc_new _ _
  obtain ⟨bx, hbx⟩ : ∃ bx, w.heap.size = bx := ⟨_, rfl⟩
  rw [hbx] at x1
  have HQ1 := Lib.hid (show ∀ w', Below w1.heap.size w1 w' → w'.cell? ⟨bx, 0, none⟩ = some (.slice va N vc) from fun w' hw' => by
    rw [cell_of_row _ _ _ _ _ _ ((hw'.block _ (Array.getElem?_eq_some_iff.1 x1).1).trans x1)]; rfl)
  have HX1 := Lib.hid x1
  have HV := Lib.hid (hv.below hb1)
  have HB1 := Lib.hid hb1
  have HS1 := Lib.hid hs1
  have HBX := Lib.hid hbx
  have HN := Lib.hid hN
  have hnl : (N : Int) ≤ 100000 := by omega
  have q0 := HQ1.out w1 (Below.refl _ _)
  clear hv hb1 hs1 x1 hN
  go_enter Try.func32, Try.ntmps32
  go_upto_region 3 with (fail)
  obtain ⟨W, rfl⟩ : ∃ W, W = w1 := ⟨_, rfl⟩
  go_cut [4] from 14 to 25 (fun t4 wc => ∃ a ob rb pb : Nat, t4 = .pointer (some ⟨a, 0, none⟩) ∧ Hid (Arr0 W wc a ob rb pb (.slice va N vc) N))
  case first =>
    refine wp_region_noPanic ?_
    refine wp_region_H (Below W.heap.size W) (by kernel_rfl) ?_
    have hS0 : (Below W.heap.size W) W.drew := (Below.refl _ _).drew
    obtain ⟨wd, hwd⟩ : ∃ wd, W.drew = wd := ⟨_, rfl⟩
    rw [hwd] at hS0 ⊢
    clear hwd
    refine wpAnyH_takeI (i := 0) (v := .slice va N vc) rfl (by kernel_rfl) (by kernel_rfl) (by kernel_rfl) (fun _ _ _ h => h) (yieldsIf_run rfl (fun w' hw' => ?y1)) hS0 ?_
    case y1 => (have q1 := HQ1.out w' hw'; clear hw'; first | (go_simp; rfl) | (go_simp; done))
    simp only [Act.put, List.setIfInBounds_toArray, List.set_cons_zero, List.set_cons_succ]
    refine wpAnyH_takeI (i := 1) (v := .slice va N vc) rfl (by kernel_rfl) (by kernel_rfl) (by kernel_rfl) (fun _ _ _ h => h) (yieldsIf_run rfl (fun w' hw' => ?y2)) hS0 ?_
    case y2 => (have q1 := HQ1.out w' hw'; clear hw'; first | (go_simp; rfl) | (go_simp; done))
    simp only [Act.put, List.setIfInBounds_toArray, List.set_cons_zero, List.set_cons_succ]
    refine wpAnyH_takeI (i := 2) (v := .int .i64 (N : Int)) rfl (by kernel_rfl) (by kernel_rfl) (by kernel_rfl) (fun _ _ _ h => h) (yieldsIf_run rfl (fun w' hw' => ?y3)) hS0 ?_
    case y3 => first | (go_simp; rfl) | (go_simp; done) | rfl
    simp only [Act.put, List.setIfInBounds_toArray, List.set_cons_zero, List.set_cons_succ]
    refine wpAnyH_takeI (i := 4) (v := .slice va N vc) rfl (by kernel_rfl) (by kernel_rfl) (by kernel_rfl) (fun _ _ _ h => h) (yieldsIf_run rfl (fun w' hw' => ?y4)) hS0 ?_
    case y4 => (have q1 := HQ1.out w' hw'; clear hw'; first | (go_simp; rfl) | (go_simp; done))
    simp only [Act.put, List.setIfInBounds_toArray, List.set_cons_zero, List.set_cons_succ]
    refine wpAnyH_takeI (i := 5) (v := .int .i64 (N : Int)) rfl (by kernel_rfl) (by kernel_rfl) (by kernel_rfl) (fun _ _ _ h => h) (yieldsIf_run rfl (fun w' hw' => ?y5)) hS0 ?_
    case y5 => first | (go_simp; rfl) | (go_simp; done) | rfl
    simp only [Act.put, List.setIfInBounds_toArray, List.set_cons_zero, List.set_cons_succ]
    refine wpAnyH_takeI (i := 7) (v := .slice va N vc) rfl (by kernel_rfl) (by kernel_rfl) (by kernel_rfl) (fun _ _ _ h => h) (yieldsIf_run rfl (fun w' hw' => ?y6)) hS0 ?_
    case y6 => (have q1 := HQ1.out w' hw'; clear hw'; first | (go_simp; rfl) | (go_simp; done))
    simp only [Act.put, List.setIfInBounds_toArray, List.set_cons_zero, List.set_cons_succ]
    refine wpAnyH_takeI (i := 8) (v := .int .i64 (N : Int)) rfl (by kernel_rfl) (by kernel_rfl) (by kernel_rfl) (fun _ _ _ h => h) (yieldsIf_run rfl (fun w' hw' => ?y7)) hS0 ?_
    case y7 => first | (go_simp; rfl) | (go_simp; done) | rfl
    simp only [Act.put, List.setIfInBounds_toArray, List.set_cons_zero, List.set_cons_succ]
    have hS := hS0
    clear hS0
    refine wpAnyH_three (i := 3) (j := 6) (l := 9) (by kernel_rfl) rfl rfl rfl rfl rfl rfl (fun K hK => ?_) (fun K hK => ?_) (fun K hK => ?_)
    · refine wp_mkNat (some 17) rfl (.tmp 16) rfl N (by omega) rfl ?_
      intro wdn hO hb hs
      obtain ⟨ob, hob⟩ : ∃ ob, wd.heap.size = ob := ⟨_, rfl⟩
      rw [hob] at hO ⊢
      have gob : W.heap.size ≤ ob ∧ ob < wdn.heap.size := ⟨by have := hS.size; omega, by omega⟩
      replace hS := hS.trans (hb.mono hS.size)
      clear hb hs hob
      refine hK _ _ hS ?_
      clear hK K
      try simp only [Act.put, List.setIfInBounds_toArray, List.set_cons_zero, List.set_cons_succ]
      refine wpAnyH_two (i := 6) (j := 9) (by kernel_rfl) rfl rfl rfl rfl (fun K hK => ?_) (fun K hK => ?_)
      · refine wp_mapV idKey (some 20) rfl 74 Try.underlying74 (some (.tmp 19)) rfl (.inr ⟨_, _, rfl, rfl⟩) ?_
        intro wdnn hR hb hs
        obtain ⟨rb, hrb⟩ : ∃ rb, wdn.heap.size = rb := ⟨_, rfl⟩
        rw [hrb] at hR ⊢
        have grb : W.heap.size ≤ rb ∧ rb < wdnn.heap.size := ⟨by have := hS.size; omega, by omega⟩
        replace hO := (hb.block _ (Array.getElem?_eq_some_iff.1 hO).1).trans hO
        have nobrb : ob ≠ rb := by omega
        replace gob : W.heap.size ≤ ob ∧ ob < wdnn.heap.size := ⟨gob.1, by omega⟩
        replace hS := hS.trans (hb.mono hS.size)
        clear hb hs hrb
        refine hK _ _ hS ?_
        clear hK K
        try simp only [Act.put, List.setIfInBounds_toArray, List.set_cons_zero, List.set_cons_succ]
        refine wpAnyH_do (i := 9) (by kernel_rfl) rfl rfl (fun K hK => ?_)
        refine wp_mapV idKey (some 23) rfl 75 Try.underlying75 (some (.tmp 22)) rfl (.inr ⟨_, _, rfl, rfl⟩) ?_
        intro wdnnn hP hb hs
        obtain ⟨pb, hpb⟩ : ∃ pb, wdnn.heap.size = pb := ⟨_, rfl⟩
        rw [hpb] at hP ⊢
        have gpb : W.heap.size ≤ pb ∧ pb < wdnnn.heap.size := ⟨by have := hS.size; omega, by omega⟩
        replace hO := (hb.block _ (Array.getElem?_eq_some_iff.1 hO).1).trans hO
        have nobpb : ob ≠ pb := by omega
        replace gob : W.heap.size ≤ ob ∧ ob < wdnnn.heap.size := ⟨gob.1, by omega⟩
        replace hR := hR.below hb
        have nrbpb : rb ≠ pb := by omega
        replace grb : W.heap.size ≤ rb ∧ rb < wdnnn.heap.size := ⟨grb.1, by omega⟩
        replace hS := hS.trans (hb.mono hS.size)
        clear hb hs hpb
        refine hK _ _ hS ?_
        clear hK K
        try simp only [Act.put, List.setIfInBounds_toArray, List.set_cons_zero, List.set_cons_succ]
        refine wpAnyH_takeI (i := 10) (v := .agg #[.slice va N vc, .slice (some ⟨ob, 0, none⟩) N N, .map (some rb), .map (some pb)]) rfl (by kernel_rfl) (by kernel_rfl) (by kernel_rfl) (fun _ _ _ h => h) (yieldsIf_run rfl (fun w' hw' => ?y8)) hS ?_
        case y8 => first | (go_simp; rfl) | (go_simp; done) | rfl
        simp only [Act.put, List.setIfInBounds_toArray, List.set_cons_zero, List.set_cons_succ]
        refine wpAnyH_do (i := 11) (by kernel_rfl) rfl rfl (fun K hK => ?_)
        go_simp
        obtain ⟨wz, hwz⟩ : ∃ wz, wdnnn.alloc (.cells #[.slice va N vc, .slice (some ⟨ob, 0, none⟩) N N, .map (some rb), .map (some pb)] 77) = wz := ⟨_, rfl⟩
        have hb : Below wdnnn.heap.size wdnnn wz := hwz ▸ (Below.refl _ _).alloc (Nat.le_refl _) _
        have hA : wz.heap[wdnnn.heap.size]? = some (.cells #[.slice va N vc, .slice (some ⟨ob, 0, none⟩) N N, .map (some rb), .map (some pb)] 77 (0, 0)) := by rw [← hwz]; exact heap_alloc_new _ _
        have hge := hS.size
        have HZ := Lib.hid (show Arr0 W wz wdnnn.heap.size ob rb pb (.slice va N vc) N from ⟨hA, (hb.block _ (Array.getElem?_eq_some_iff.1 hO).1).trans hO, hR.below hb, hP.below hb, nrbpb, by omega, hS.trans (hb.mono hS.size), hge, gob.1, grb.1, gpb.1⟩)
        rw [hwz]
        replace hS := hS.trans (hb.mono hS.size)
        refine hK _ _ hS ?_
        clear hK K hwz hA
        try simp only [Act.put, List.setIfInBounds_toArray, List.set_cons_zero, List.set_cons_succ]
        refine wpAnyH_takeI (i := 12) (v := ?v9) rfl (by kernel_rfl) (by kernel_rfl) (by kernel_rfl) (fun _ _ _ h => h) (yieldsIf_run rfl (fun w' hw' => ?y9)) hS ?_
        case y9 => first | (go_simp; rfl) | (go_simp; done) | rfl
        simp only [Act.put, List.setIfInBounds_toArray, List.set_cons_zero, List.set_cons_succ]
        refine wpAnyH_done (by kernel_rfl) ?_ _
        refine NoPanic.normal ?_
        go_wp2_with fail
        go_meet
        case rel => exact ⟨_, ob, rb, pb, rfl, HZ⟩
      · refine wp_mapV idKey (some 23) rfl 75 Try.underlying75 (some (.tmp 22)) rfl (.inr ⟨_, _, rfl, rfl⟩) ?_
        intro wdnn hP hb hs
        obtain ⟨pb, hpb⟩ : ∃ pb, wdn.heap.size = pb := ⟨_, rfl⟩
        rw [hpb] at hP ⊢
        have gpb : W.heap.size ≤ pb ∧ pb < wdnn.heap.size := ⟨by have := hS.size; omega, by omega⟩
        replace hO := (hb.block _ (Array.getElem?_eq_some_iff.1 hO).1).trans hO
        have nobpb : ob ≠ pb := by omega
        replace gob : W.heap.size ≤ ob ∧ ob < wdnn.heap.size := ⟨gob.1, by omega⟩
        replace hS := hS.trans (hb.mono hS.size)
        clear hb hs hpb
        refine hK _ _ hS ?_
        clear hK K
        try simp only [Act.put, List.setIfInBounds_toArray, List.set_cons_zero, List.set_cons_succ]
        refine wpAnyH_do (i := 6) (by kernel_rfl) rfl rfl (fun K hK => ?_)
        refine wp_mapV idKey (some 20) rfl 74 Try.underlying74 (some (.tmp 19)) rfl (.inr ⟨_, _, rfl, rfl⟩) ?_
        intro wdnnn hR hb hs
        obtain ⟨rb, hrb⟩ : ∃ rb, wdnn.heap.size = rb := ⟨_, rfl⟩
        rw [hrb] at hR ⊢
        have grb : W.heap.size ≤ rb ∧ rb < wdnnn.heap.size := ⟨by have := hS.size; omega, by omega⟩
        replace hO := (hb.block _ (Array.getElem?_eq_some_iff.1 hO).1).trans hO
        have nobrb : ob ≠ rb := by omega
        replace gob : W.heap.size ≤ ob ∧ ob < wdnnn.heap.size := ⟨gob.1, by omega⟩
        replace hP := hP.below hb
        have npbrb : pb ≠ rb := by omega
        replace gpb : W.heap.size ≤ pb ∧ pb < wdnnn.heap.size := ⟨gpb.1, by omega⟩
        replace hS := hS.trans (hb.mono hS.size)
        clear hb hs hrb
        refine hK _ _ hS ?_
        clear hK K
        try simp only [Act.put, List.setIfInBounds_toArray, List.set_cons_zero, List.set_cons_succ]
        refine wpAnyH_takeI (i := 10) (v := .agg #[.slice va N vc, .slice (some ⟨ob, 0, none⟩) N N, .map (some rb), .map (some pb)]) rfl (by kernel_rfl) (by kernel_rfl) (by kernel_rfl) (fun _ _ _ h => h) (yieldsIf_run rfl (fun w' hw' => ?y10)) hS ?_
        case y10 => first | (go_simp; rfl) | (go_simp; done) | rfl
        simp only [Act.put, List.setIfInBounds_toArray, List.set_cons_zero, List.set_cons_succ]
        refine wpAnyH_do (i := 11) (by kernel_rfl) rfl rfl (fun K hK => ?_)
        go_simp
        obtain ⟨wz, hwz⟩ : ∃ wz, wdnnn.alloc (.cells #[.slice va N vc, .slice (some ⟨ob, 0, none⟩) N N, .map (some rb), .map (some pb)] 77) = wz := ⟨_, rfl⟩
        have hb : Below wdnnn.heap.size wdnnn wz := hwz ▸ (Below.refl _ _).alloc (Nat.le_refl _) _
        have hA : wz.heap[wdnnn.heap.size]? = some (.cells #[.slice va N vc, .slice (some ⟨ob, 0, none⟩) N N, .map (some rb), .map (some pb)] 77 (0, 0)) := by rw [← hwz]; exact heap_alloc_new _ _
        have hge := hS.size
        have HZ := Lib.hid (show Arr0 W wz wdnnn.heap.size ob rb pb (.slice va N vc) N from ⟨hA, (hb.block _ (Array.getElem?_eq_some_iff.1 hO).1).trans hO, hR.below hb, hP.below hb, (fun e => npbrb e.symm), by omega, hS.trans (hb.mono hS.size), hge, gob.1, grb.1, gpb.1⟩)
        rw [hwz]
        replace hS := hS.trans (hb.mono hS.size)
        refine hK _ _ hS ?_
        clear hK K hwz hA
        try simp only [Act.put, List.setIfInBounds_toArray, List.set_cons_zero, List.set_cons_succ]
        refine wpAnyH_takeI (i := 12) (v := ?v11) rfl (by kernel_rfl) (by kernel_rfl) (by kernel_rfl) (fun _ _ _ h => h) (yieldsIf_run rfl (fun w' hw' => ?y11)) hS ?_
        case y11 => first | (go_simp; rfl) | (go_simp; done) | rfl
        simp only [Act.put, List.setIfInBounds_toArray, List.set_cons_zero, List.set_cons_succ]
        refine wpAnyH_done (by kernel_rfl) ?_ _
        refine NoPanic.normal ?_
        go_wp2_with fail
        go_meet
        case rel => exact ⟨_, ob, rb, pb, rfl, HZ⟩
    · refine wp_mapV idKey (some 20) rfl 74 Try.underlying74 (some (.tmp 19)) rfl (.inr ⟨_, _, rfl, rfl⟩) ?_
      intro wdn hR hb hs
      obtain ⟨rb, hrb⟩ : ∃ rb, wd.heap.size = rb := ⟨_, rfl⟩
      rw [hrb] at hR ⊢
      have grb : W.heap.size ≤ rb ∧ rb < wdn.heap.size := ⟨by have := hS.size; omega, by omega⟩
      replace hS := hS.trans (hb.mono hS.size)
      clear hb hs hrb
      refine hK _ _ hS ?_
      clear hK K
      try simp only [Act.put, List.setIfInBounds_toArray, List.set_cons_zero, List.set_cons_succ]
      refine wpAnyH_two (i := 3) (j := 9) (by kernel_rfl) rfl rfl rfl rfl (fun K hK => ?_) (fun K hK => ?_)
      · refine wp_mkNat (some 17) rfl (.tmp 16) rfl N (by omega) rfl ?_
        intro wdnn hO hb hs
        obtain ⟨ob, hob⟩ : ∃ ob, wdn.heap.size = ob := ⟨_, rfl⟩
        rw [hob] at hO ⊢
        have gob : W.heap.size ≤ ob ∧ ob < wdnn.heap.size := ⟨by have := hS.size; omega, by omega⟩
        replace hR := hR.below hb
        have nrbob : rb ≠ ob := by omega
        replace grb : W.heap.size ≤ rb ∧ rb < wdnn.heap.size := ⟨grb.1, by omega⟩
        replace hS := hS.trans (hb.mono hS.size)
        clear hb hs hob
        refine hK _ _ hS ?_
        clear hK K
        try simp only [Act.put, List.setIfInBounds_toArray, List.set_cons_zero, List.set_cons_succ]
        refine wpAnyH_do (i := 9) (by kernel_rfl) rfl rfl (fun K hK => ?_)
        refine wp_mapV idKey (some 23) rfl 75 Try.underlying75 (some (.tmp 22)) rfl (.inr ⟨_, _, rfl, rfl⟩) ?_
        intro wdnnn hP hb hs
        obtain ⟨pb, hpb⟩ : ∃ pb, wdnn.heap.size = pb := ⟨_, rfl⟩
        rw [hpb] at hP ⊢
        have gpb : W.heap.size ≤ pb ∧ pb < wdnnn.heap.size := ⟨by have := hS.size; omega, by omega⟩
        replace hO := (hb.block _ (Array.getElem?_eq_some_iff.1 hO).1).trans hO
        have nobpb : ob ≠ pb := by omega
        replace gob : W.heap.size ≤ ob ∧ ob < wdnnn.heap.size := ⟨gob.1, by omega⟩
        replace hR := hR.below hb
        have nrbpb : rb ≠ pb := by omega
        replace grb : W.heap.size ≤ rb ∧ rb < wdnnn.heap.size := ⟨grb.1, by omega⟩
        replace hS := hS.trans (hb.mono hS.size)
        clear hb hs hpb
        refine hK _ _ hS ?_
        clear hK K
        try simp only [Act.put, List.setIfInBounds_toArray, List.set_cons_zero, List.set_cons_succ]
        refine wpAnyH_takeI (i := 10) (v := .agg #[.slice va N vc, .slice (some ⟨ob, 0, none⟩) N N, .map (some rb), .map (some pb)]) rfl (by kernel_rfl) (by kernel_rfl) (by kernel_rfl) (fun _ _ _ h => h) (yieldsIf_run rfl (fun w' hw' => ?y12)) hS ?_
        case y12 => first | (go_simp; rfl) | (go_simp; done) | rfl
        simp only [Act.put, List.setIfInBounds_toArray, List.set_cons_zero, List.set_cons_succ]
        refine wpAnyH_do (i := 11) (by kernel_rfl) rfl rfl (fun K hK => ?_)
        go_simp
        obtain ⟨wz, hwz⟩ : ∃ wz, wdnnn.alloc (.cells #[.slice va N vc, .slice (some ⟨ob, 0, none⟩) N N, .map (some rb), .map (some pb)] 77) = wz := ⟨_, rfl⟩
        have hb : Below wdnnn.heap.size wdnnn wz := hwz ▸ (Below.refl _ _).alloc (Nat.le_refl _) _
        have hA : wz.heap[wdnnn.heap.size]? = some (.cells #[.slice va N vc, .slice (some ⟨ob, 0, none⟩) N N, .map (some rb), .map (some pb)] 77 (0, 0)) := by rw [← hwz]; exact heap_alloc_new _ _
        have hge := hS.size
        have HZ := Lib.hid (show Arr0 W wz wdnnn.heap.size ob rb pb (.slice va N vc) N from ⟨hA, (hb.block _ (Array.getElem?_eq_some_iff.1 hO).1).trans hO, hR.below hb, hP.below hb, nrbpb, by omega, hS.trans (hb.mono hS.size), hge, gob.1, grb.1, gpb.1⟩)
        rw [hwz]
        replace hS := hS.trans (hb.mono hS.size)
        refine hK _ _ hS ?_
        clear hK K hwz hA
        try simp only [Act.put, List.setIfInBounds_toArray, List.set_cons_zero, List.set_cons_succ]
        refine wpAnyH_takeI (i := 12) (v := ?v13) rfl (by kernel_rfl) (by kernel_rfl) (by kernel_rfl) (fun _ _ _ h => h) (yieldsIf_run rfl (fun w' hw' => ?y13)) hS ?_
        case y13 => first | (go_simp; rfl) | (go_simp; done) | rfl
        simp only [Act.put, List.setIfInBounds_toArray, List.set_cons_zero, List.set_cons_succ]
        refine wpAnyH_done (by kernel_rfl) ?_ _
        refine NoPanic.normal ?_
        go_wp2_with fail
        go_meet
        case rel => exact ⟨_, ob, rb, pb, rfl, HZ⟩
      · refine wp_mapV idKey (some 23) rfl 75 Try.underlying75 (some (.tmp 22)) rfl (.inr ⟨_, _, rfl, rfl⟩) ?_
        intro wdnn hP hb hs
        obtain ⟨pb, hpb⟩ : ∃ pb, wdn.heap.size = pb := ⟨_, rfl⟩
        rw [hpb] at hP ⊢
        have gpb : W.heap.size ≤ pb ∧ pb < wdnn.heap.size := ⟨by have := hS.size; omega, by omega⟩
        replace hR := hR.below hb
        have nrbpb : rb ≠ pb := by omega
        replace grb : W.heap.size ≤ rb ∧ rb < wdnn.heap.size := ⟨grb.1, by omega⟩
        replace hS := hS.trans (hb.mono hS.size)
        clear hb hs hpb
        refine hK _ _ hS ?_
        clear hK K
        try simp only [Act.put, List.setIfInBounds_toArray, List.set_cons_zero, List.set_cons_succ]
        refine wpAnyH_do (i := 3) (by kernel_rfl) rfl rfl (fun K hK => ?_)
        refine wp_mkNat (some 17) rfl (.tmp 16) rfl N (by omega) rfl ?_
        intro wdnnn hO hb hs
        obtain ⟨ob, hob⟩ : ∃ ob, wdnn.heap.size = ob := ⟨_, rfl⟩
        rw [hob] at hO ⊢
        have gob : W.heap.size ≤ ob ∧ ob < wdnnn.heap.size := ⟨by have := hS.size; omega, by omega⟩
        replace hR := hR.below hb
        have nrbob : rb ≠ ob := by omega
        replace grb : W.heap.size ≤ rb ∧ rb < wdnnn.heap.size := ⟨grb.1, by omega⟩
        replace hP := hP.below hb
        have npbob : pb ≠ ob := by omega
        replace gpb : W.heap.size ≤ pb ∧ pb < wdnnn.heap.size := ⟨gpb.1, by omega⟩
        replace hS := hS.trans (hb.mono hS.size)
        clear hb hs hob
        refine hK _ _ hS ?_
        clear hK K
        try simp only [Act.put, List.setIfInBounds_toArray, List.set_cons_zero, List.set_cons_succ]
        refine wpAnyH_takeI (i := 10) (v := .agg #[.slice va N vc, .slice (some ⟨ob, 0, none⟩) N N, .map (some rb), .map (some pb)]) rfl (by kernel_rfl) (by kernel_rfl) (by kernel_rfl) (fun _ _ _ h => h) (yieldsIf_run rfl (fun w' hw' => ?y14)) hS ?_
        case y14 => first | (go_simp; rfl) | (go_simp; done) | rfl
        simp only [Act.put, List.setIfInBounds_toArray, List.set_cons_zero, List.set_cons_succ]
        refine wpAnyH_do (i := 11) (by kernel_rfl) rfl rfl (fun K hK => ?_)
        go_simp
        obtain ⟨wz, hwz⟩ : ∃ wz, wdnnn.alloc (.cells #[.slice va N vc, .slice (some ⟨ob, 0, none⟩) N N, .map (some rb), .map (some pb)] 77) = wz := ⟨_, rfl⟩
        have hb : Below wdnnn.heap.size wdnnn wz := hwz ▸ (Below.refl _ _).alloc (Nat.le_refl _) _
        have hA : wz.heap[wdnnn.heap.size]? = some (.cells #[.slice va N vc, .slice (some ⟨ob, 0, none⟩) N N, .map (some rb), .map (some pb)] 77 (0, 0)) := by rw [← hwz]; exact heap_alloc_new _ _
        have hge := hS.size
        have HZ := Lib.hid (show Arr0 W wz wdnnn.heap.size ob rb pb (.slice va N vc) N from ⟨hA, (hb.block _ (Array.getElem?_eq_some_iff.1 hO).1).trans hO, hR.below hb, hP.below hb, nrbpb, by omega, hS.trans (hb.mono hS.size), hge, gob.1, grb.1, gpb.1⟩)
        rw [hwz]
        replace hS := hS.trans (hb.mono hS.size)
        refine hK _ _ hS ?_
        clear hK K hwz hA
        try simp only [Act.put, List.setIfInBounds_toArray, List.set_cons_zero, List.set_cons_succ]
        refine wpAnyH_takeI (i := 12) (v := ?v15) rfl (by kernel_rfl) (by kernel_rfl) (by kernel_rfl) (fun _ _ _ h => h) (yieldsIf_run rfl (fun w' hw' => ?y15)) hS ?_
        case y15 => first | (go_simp; rfl) | (go_simp; done) | rfl
        simp only [Act.put, List.setIfInBounds_toArray, List.set_cons_zero, List.set_cons_succ]
        refine wpAnyH_done (by kernel_rfl) ?_ _
        refine NoPanic.normal ?_
        go_wp2_with fail
        go_meet
        case rel => exact ⟨_, ob, rb, pb, rfl, HZ⟩
    · refine wp_mapV idKey (some 23) rfl 75 Try.underlying75 (some (.tmp 22)) rfl (.inr ⟨_, _, rfl, rfl⟩) ?_
      intro wdn hP hb hs
      obtain ⟨pb, hpb⟩ : ∃ pb, wd.heap.size = pb := ⟨_, rfl⟩
      rw [hpb] at hP ⊢
      have gpb : W.heap.size ≤ pb ∧ pb < wdn.heap.size := ⟨by have := hS.size; omega, by omega⟩
      replace hS := hS.trans (hb.mono hS.size)
      clear hb hs hpb
      refine hK _ _ hS ?_
      clear hK K
      try simp only [Act.put, List.setIfInBounds_toArray, List.set_cons_zero, List.set_cons_succ]
      refine wpAnyH_two (i := 3) (j := 6) (by kernel_rfl) rfl rfl rfl rfl (fun K hK => ?_) (fun K hK => ?_)
      · refine wp_mkNat (some 17) rfl (.tmp 16) rfl N (by omega) rfl ?_
        intro wdnn hO hb hs
        obtain ⟨ob, hob⟩ : ∃ ob, wdn.heap.size = ob := ⟨_, rfl⟩
        rw [hob] at hO ⊢
        have gob : W.heap.size ≤ ob ∧ ob < wdnn.heap.size := ⟨by have := hS.size; omega, by omega⟩
        replace hP := hP.below hb
        have npbob : pb ≠ ob := by omega
        replace gpb : W.heap.size ≤ pb ∧ pb < wdnn.heap.size := ⟨gpb.1, by omega⟩
        replace hS := hS.trans (hb.mono hS.size)
        clear hb hs hob
        refine hK _ _ hS ?_
        clear hK K
        try simp only [Act.put, List.setIfInBounds_toArray, List.set_cons_zero, List.set_cons_succ]
        refine wpAnyH_do (i := 6) (by kernel_rfl) rfl rfl (fun K hK => ?_)
        refine wp_mapV idKey (some 20) rfl 74 Try.underlying74 (some (.tmp 19)) rfl (.inr ⟨_, _, rfl, rfl⟩) ?_
        intro wdnnn hR hb hs
        obtain ⟨rb, hrb⟩ : ∃ rb, wdnn.heap.size = rb := ⟨_, rfl⟩
        rw [hrb] at hR ⊢
        have grb : W.heap.size ≤ rb ∧ rb < wdnnn.heap.size := ⟨by have := hS.size; omega, by omega⟩
        replace hO := (hb.block _ (Array.getElem?_eq_some_iff.1 hO).1).trans hO
        have nobrb : ob ≠ rb := by omega
        replace gob : W.heap.size ≤ ob ∧ ob < wdnnn.heap.size := ⟨gob.1, by omega⟩
        replace hP := hP.below hb
        have npbrb : pb ≠ rb := by omega
        replace gpb : W.heap.size ≤ pb ∧ pb < wdnnn.heap.size := ⟨gpb.1, by omega⟩
        replace hS := hS.trans (hb.mono hS.size)
        clear hb hs hrb
        refine hK _ _ hS ?_
        clear hK K
        try simp only [Act.put, List.setIfInBounds_toArray, List.set_cons_zero, List.set_cons_succ]
        refine wpAnyH_takeI (i := 10) (v := .agg #[.slice va N vc, .slice (some ⟨ob, 0, none⟩) N N, .map (some rb), .map (some pb)]) rfl (by kernel_rfl) (by kernel_rfl) (by kernel_rfl) (fun _ _ _ h => h) (yieldsIf_run rfl (fun w' hw' => ?y16)) hS ?_
        case y16 => first | (go_simp; rfl) | (go_simp; done) | rfl
        simp only [Act.put, List.setIfInBounds_toArray, List.set_cons_zero, List.set_cons_succ]
        refine wpAnyH_do (i := 11) (by kernel_rfl) rfl rfl (fun K hK => ?_)
        go_simp
        obtain ⟨wz, hwz⟩ : ∃ wz, wdnnn.alloc (.cells #[.slice va N vc, .slice (some ⟨ob, 0, none⟩) N N, .map (some rb), .map (some pb)] 77) = wz := ⟨_, rfl⟩
        have hb : Below wdnnn.heap.size wdnnn wz := hwz ▸ (Below.refl _ _).alloc (Nat.le_refl _) _
        have hA : wz.heap[wdnnn.heap.size]? = some (.cells #[.slice va N vc, .slice (some ⟨ob, 0, none⟩) N N, .map (some rb), .map (some pb)] 77 (0, 0)) := by rw [← hwz]; exact heap_alloc_new _ _
        have hge := hS.size
        have HZ := Lib.hid (show Arr0 W wz wdnnn.heap.size ob rb pb (.slice va N vc) N from ⟨hA, (hb.block _ (Array.getElem?_eq_some_iff.1 hO).1).trans hO, hR.below hb, hP.below hb, (fun e => npbrb e.symm), by omega, hS.trans (hb.mono hS.size), hge, gob.1, grb.1, gpb.1⟩)
        rw [hwz]
        replace hS := hS.trans (hb.mono hS.size)
        refine hK _ _ hS ?_
        clear hK K hwz hA
        try simp only [Act.put, List.setIfInBounds_toArray, List.set_cons_zero, List.set_cons_succ]
        refine wpAnyH_takeI (i := 12) (v := ?v17) rfl (by kernel_rfl) (by kernel_rfl) (by kernel_rfl) (fun _ _ _ h => h) (yieldsIf_run rfl (fun w' hw' => ?y17)) hS ?_
        case y17 => first | (go_simp; rfl) | (go_simp; done) | rfl
        simp only [Act.put, List.setIfInBounds_toArray, List.set_cons_zero, List.set_cons_succ]
        refine wpAnyH_done (by kernel_rfl) ?_ _
        refine NoPanic.normal ?_
        go_wp2_with fail
        go_meet
        case rel => exact ⟨_, ob, rb, pb, rfl, HZ⟩
      · refine wp_mapV idKey (some 20) rfl 74 Try.underlying74 (some (.tmp 19)) rfl (.inr ⟨_, _, rfl, rfl⟩) ?_
        intro wdnn hR hb hs
        obtain ⟨rb, hrb⟩ : ∃ rb, wdn.heap.size = rb := ⟨_, rfl⟩
        rw [hrb] at hR ⊢
        have grb : W.heap.size ≤ rb ∧ rb < wdnn.heap.size := ⟨by have := hS.size; omega, by omega⟩
        replace hP := hP.below hb
        have npbrb : pb ≠ rb := by omega
        replace gpb : W.heap.size ≤ pb ∧ pb < wdnn.heap.size := ⟨gpb.1, by omega⟩
        replace hS := hS.trans (hb.mono hS.size)
        clear hb hs hrb
        refine hK _ _ hS ?_
        clear hK K
        try simp only [Act.put, List.setIfInBounds_toArray, List.set_cons_zero, List.set_cons_succ]
        refine wpAnyH_do (i := 3) (by kernel_rfl) rfl rfl (fun K hK => ?_)
        refine wp_mkNat (some 17) rfl (.tmp 16) rfl N (by omega) rfl ?_
        intro wdnnn hO hb hs
        obtain ⟨ob, hob⟩ : ∃ ob, wdnn.heap.size = ob := ⟨_, rfl⟩
        rw [hob] at hO ⊢
        have gob : W.heap.size ≤ ob ∧ ob < wdnnn.heap.size := ⟨by have := hS.size; omega, by omega⟩
        replace hR := hR.below hb
        have nrbob : rb ≠ ob := by omega
        replace grb : W.heap.size ≤ rb ∧ rb < wdnnn.heap.size := ⟨grb.1, by omega⟩
        replace hP := hP.below hb
        have npbob : pb ≠ ob := by omega
        replace gpb : W.heap.size ≤ pb ∧ pb < wdnnn.heap.size := ⟨gpb.1, by omega⟩
        replace hS := hS.trans (hb.mono hS.size)
        clear hb hs hob
        refine hK _ _ hS ?_
        clear hK K
        try simp only [Act.put, List.setIfInBounds_toArray, List.set_cons_zero, List.set_cons_succ]
        refine wpAnyH_takeI (i := 10) (v := .agg #[.slice va N vc, .slice (some ⟨ob, 0, none⟩) N N, .map (some rb), .map (some pb)]) rfl (by kernel_rfl) (by kernel_rfl) (by kernel_rfl) (fun _ _ _ h => h) (yieldsIf_run rfl (fun w' hw' => ?y18)) hS ?_
        case y18 => first | (go_simp; rfl) | (go_simp; done) | rfl
        simp only [Act.put, List.setIfInBounds_toArray, List.set_cons_zero, List.set_cons_succ]
        refine wpAnyH_do (i := 11) (by kernel_rfl) rfl rfl (fun K hK => ?_)
        go_simp
        obtain ⟨wz, hwz⟩ : ∃ wz, wdnnn.alloc (.cells #[.slice va N vc, .slice (some ⟨ob, 0, none⟩) N N, .map (some rb), .map (some pb)] 77) = wz := ⟨_, rfl⟩
        have hb : Below wdnnn.heap.size wdnnn wz := hwz ▸ (Below.refl _ _).alloc (Nat.le_refl _) _
        have hA : wz.heap[wdnnn.heap.size]? = some (.cells #[.slice va N vc, .slice (some ⟨ob, 0, none⟩) N N, .map (some rb), .map (some pb)] 77 (0, 0)) := by rw [← hwz]; exact heap_alloc_new _ _
        have hge := hS.size
        have HZ := Lib.hid (show Arr0 W wz wdnnn.heap.size ob rb pb (.slice va N vc) N from ⟨hA, (hb.block _ (Array.getElem?_eq_some_iff.1 hO).1).trans hO, hR.below hb, hP.below hb, (fun e => npbrb e.symm), by omega, hS.trans (hb.mono hS.size), hge, gob.1, grb.1, gpb.1⟩)
        rw [hwz]
        replace hS := hS.trans (hb.mono hS.size)
        refine hK _ _ hS ?_
        clear hK K hwz hA
        try simp only [Act.put, List.setIfInBounds_toArray, List.set_cons_zero, List.set_cons_succ]
        refine wpAnyH_takeI (i := 12) (v := ?v19) rfl (by kernel_rfl) (by kernel_rfl) (by kernel_rfl) (fun _ _ _ h => h) (yieldsIf_run rfl (fun w' hw' => ?y19)) hS ?_
        case y19 => first | (go_simp; rfl) | (go_simp; done) | rfl
        simp only [Act.put, List.setIfInBounds_toArray, List.set_cons_zero, List.set_cons_succ]
        refine wpAnyH_done (by kernel_rfl) ?_ _
        refine NoPanic.normal ?_
        go_wp2_with fail
        go_meet
        case rel => exact ⟨_, ob, rb, pb, rfl, HZ⟩
  case rest =>
  obtain ⟨a, ob, rb, pb, rfl, HZ⟩ := hcut
  have HZ1 := Lib.hid (HZ.out.one (L := L))
  have HD0 := Lib.hid (show ((L.take 0).map (·.id)).Nodup from List.nodup_nil)
  have hcq := HQ1.out wc HZ.out.hb
  clear HZ q0
  go_wp2_with fail
  go_loopw [28] (fun iv wr => ∃ i : Nat, i ≤ N ∧ iv = .int .i64 (i : Int) ∧ Hid (((L.take i).map (·.id)).Nodup) ∧ Hid (Arr1 W wr a ob rb pb (.slice va N vc) N L i)) (fun iv _ => N - (intOf iv).toNat)
  case atStart => exact ⟨0, Nat.zero_le _, rfl, HD0, HZ1⟩
  case round =>
    obtain ⟨i, hi, rfl, HD, HZ⟩ := hrel
    obtain ⟨W0, rfl⟩ : ∃ W0, W0 = wr := ⟨_, rfl⟩
    clear HZ1 HD0 hcq
    by_cases hlt : i < N
    case neg =>
      obtain rfl : i = N := by omega
      have hnd : (L.map (·.id)).Nodup := by
        have h1 := HD.out
        rw [List.take_of_length_le (by rw [HN.out]; exact Nat.le_refl _)] at h1
        exact h1
      have HND := Lib.hid hnd
      have HOW := Lib.hid (HZ.out.own HN.out (by omega))
      obtain ⟨c1, c2⟩ := HZ.out.cells
      clear hnd c2
      go_wp2_with fail
      refine (sortOrd_any HX1.out HV.out HZ.out.hb (Nat.le_refl _) HZ.out.hb.size (by rw [HN.out]; omega) HND.out (List.finRange L.length) HOW.out (by rw [List.length_finRange, HN.out]; omega)).mono ?_
      rintro e W3 ⟨rfl, ho3, hb3, hc3⟩
      have HZ3 := Lib.hid (HZ.out.two HN.out ho3 hb3 hc3)
      obtain ⟨c1, c2⟩ := HZ3.out.cells
      clear ho3 hb3 hc3 c2 HOW
      go_wp2_with fail
      go_loopw [69] (fun iv wr => ∃ k : Nat, k ≤ i ∧ iv = .int .i64 (k : Int) ∧ Hid (Arr2 W wr a ob rb pb (.slice va i vc) i L k)) (fun iv _ => i - (intOf iv).toNat)
      case atStart => exact ⟨0, Nat.zero_le _, rfl, HZ3⟩
      case round =>
        obtain ⟨k, hk, rfl, HK⟩ := hrel
        obtain ⟨W4, rfl⟩ : ∃ W4, W4 = wr := ⟨_, rfl⟩
        clear HZ3
        by_cases hlk : k < i
        case neg =>
          obtain rfl : k = i := by omega
          have HAR := Lib.hid (show ArrAt W4 a rb pb (.slice va k vc) (.slice (some ⟨ob, 0, none⟩) k k) L (arrO L) (rk (arrS L)) (fun _ => none) from ⟨HK.out.ha, HV.out.below HK.out.hb, HK.out.ho.at_, HK.out.hr.ext (fun x => by have h1 := rkTo_all L x; rw [HN.out] at h1; rw [h1]; cases rk (arrS L) x <;> rfl), HK.out.hp.ext (fun x => rfl), HK.out.hne⟩)
          have HOS := Lib.hid (show (arrO L).length = (arrS L).length by rw [arrO_len, arrS_len])
          have HSL := Lib.hid (show (arrS L).length < 1000000 by rw [arrS_len, HN.out]; omega)
          go_wp2_with fail
          refine (findParents_any HAR.out HOS.out (arr_at L) HSL.out (arrS_nodup HND.out)).mono ?_
          rintro e W5 ⟨rfl, ha5, hc5⟩
          have HA5 := Lib.hid ha5
          have HC5 := Lib.hid hc5
          clear ha5 hc5
          go_wp2_with fail
          refine (cutCycles_any HA5.out HOS.out (arr_at L) HSL.out (arrS_nodup HND.out)).mono ?_
          rintro e W6 ⟨rfl, c, hcut, ha6, hc6⟩
          have HA6 := Lib.hid ha6
          have HC6 := Lib.hid hc6
          have HCUT := Lib.hid hcut
          clear ha6 hc6 hcut
          go_wp2_with fail
          try simp only [Exit.inBlock, Exit.then]
          have hbb : Below w.heap.size w W6 := by
            have h1 := HB1.out.trans (HK.out.hb.mono HB1.out.size)
            have hpb : w.heap.size ≤ pb := by have h2 := HZ.out.g4; have h3 := HS1.out; omega
            have h2 := h1.trans (HC5.out.below (B := w.heap.size) (fun k e => by rw [e]; exact hpb) h1.size)
            exact h2.trans (HC6.out.below (B := w.heap.size) (fun k e => by rw [e]; exact hpb) h2.size)
          exact bodyPost_ret (v := .tuple #[.pointer (some ⟨a, 0, none⟩), .int .i64 0]) (by simp [results, Try.results32, go_sem]) rfl (.inr ⟨HND.out, a, rb, pb, _, c, rfl, HCUT.out, HA6.out, hbb⟩)
        have hkS : k < (arrS L).length := by rw [arrS_len, HN.out]; exact hlk
        have hkO : k < (arrO L).length := by rw [arrO_len, HN.out]; exact hlk
        obtain ⟨ho1, ho2⟩ := arr_at L k hkO hkS
        obtain ⟨go_, oo, eo, _, hro⟩ := HK.out.ho.at_.get hkO
        cases eo
        obtain ⟨o, hoo⟩ : ∃ o, (arrO L)[k] = o := ⟨_, rfl⟩
        have hcell : W4.cell? ⟨ob, 0 + k * 1 + 0, none⟩ = some (.int .i64 (((arrO L)[k] : Nat) : Int)) := hro 0 _ rfl
        rw [Nat.mul_one, Nat.add_zero, Nat.zero_add, hoo] at hcell
        obtain ⟨g, off, eva, hg, hrr⟩ := (HV.out.below HK.out.hb).l.get ho1
        subst eva
        obtain ⟨z, hz⟩ : ∃ z, (arrS L)[k].id = z := ⟨_, rfl⟩
        have hzr : L[(arrO L)[k]].id = z := by rw [← hz, ← ho2]; rfl
        have hrid := row_id hrr
        rw [hzr, hoo] at hrid
        have HRI := Lib.hid (show ∀ w', Below W4.heap.size W4 w' → w'.rangeAt g (off + o * 83) (bvs z.1) from fun w' hw' => range_below hrid hg hw')
        have hoI : (o : Int) < (i : Int) := by rw [hoo, HN.out] at ho1; omega
        have HZ_ := Lib.hid hz
        obtain ⟨c1, c2⟩ := HK.out.cells
        clear hro hg hrr hrid hzr hz ho2 ho1 hoo c1 c2
        refine hide_postT ?_
        intro Q4 HQ4
        go_wp2_with fail
        refine wp_region_seq 10 (by kernel_rfl) (by kernel_rfl) ?_
        simp only [List.take_succ_cons, List.take_zero, List.drop_succ_cons, List.drop_zero]
        obtain ⟨we, hwd⟩ : ∃ we, W4.drew = we := ⟨_, rfl⟩
        have hd_we : Below W4.heap.size W4 we ∧ we.heap.size = W4.heap.size := hwd ▸ ⟨(Below.refl _ _).drew, rfl⟩
        rw [hwd]
        clear hwd
        have HKe := Lib.hid (HK.out.below hd_we.1)
        have HRe := Lib.hid (HRI.out we hd_we.1)
        have hcx := HQ1.out we HKe.out.hb
        obtain ⟨c1, c2⟩ := HKe.out.cells
        clear hd_we hcell c1
        go_wp2_with (with_reducible refine wpList_load_mid rfl 31 (.tmp 81) rfl g (off + o * 83) rfl (bvs z.1) _ HRe.out Try.underlying31 rfl (sizeId z) ?_; refine Stop.on ?_)
        refine Stop.go ?_
        try simp only [Act.put, List.setIfInBounds_toArray, List.set_cons_zero, List.set_cons_succ]
        go_wp2_with fail
        refine HeadPost.mk ?_
        refine wpList_updV HKe.out.hr rfl rfl 74 Try.underlying74 (.tmp 77) (.tmp 82) (.tmp 83) rfl rfl z rfl (.int .i64 (k : Int)) rfl ?_
        intro W5 hm3 hc3 hs3
        try simp only [Act.put, List.setIfInBounds_toArray, List.set_cons_zero, List.set_cons_succ]
        have HK5 := Lib.hid (HKe.out.next HND.out hkS (by rw [HZ_.out]; exact hm3) hc3)
        clear hm3 hc3 hs3 c2 hcx hoI
        go_wp2_with fail
        rw [HQ4.out]
        change _ ∧ _
        go_roundw
        case rel => exact ⟨k + 1, by omega, by go_num, HK5⟩
        case measure => simp [intOf]; omega
    have hL : i < L.length := by rw [HN.out]; exact hlt
    obtain ⟨g, off, eva, hg, hrr⟩ := (HV.out.below HZ.out.hb).l.get hL
    subst eva
    obtain ⟨R, hR⟩ : ∃ R, L[i] = R := ⟨_, rfl⟩
    rw [hR] at hrr
    have HRR := Lib.hid (show W0.rangeAt g (off + i * 83) R.cells from hrr)
    have HR := Lib.hid hR
    have hcx := HQ1.out W0 HZ.out.hb
    clear hrr hR hg
    refine hide_postT ?_
    intro Q3 HQ3
    go_wp2_with (with_reducible refine wpList_load_mid rfl 36 (.tmp 31) rfl g (off + i * 83) rfl R.cells _ HRR.out Try.underlying36 rfl (sizeRow R) ?_; refine Stop.on ?_)
    refine Stop.go ?_
    try simp only [Act.put, List.setIfInBounds_toArray, List.set_cons_zero, List.set_cons_succ]
    go_wp2_with (refine wpList_newV rfl (some 6) rfl 36 rfl Try.zeroCells36 83 (by kernel_rfl) ?_; refine Stop.on ?_)
    refine Stop.go ?_
    try simp only [Act.put, List.setIfInBounds_toArray, List.set_cons_zero, List.set_cons_succ]
    intro wn xn bi sn
    try simp only [Act.put, List.setIfInBounds_toArray, List.set_cons_zero, List.set_cons_succ]
    go_wp2_with (refine wpList_putV rfl rfl 36 (.tmp 6) (.tmp 32) rfl _ (R.cells).toArray rfl rfl 36 _ xn (sizeRowA R) (zsRow R) (oneRow R) ?_; refine Stop.on ?_)
    refine Stop.go ?_
    try simp only [Act.put, List.setIfInBounds_toArray, List.set_cons_zero, List.set_cons_succ]
    intro W1 xi ci si
    try simp only [Act.put, List.setIfInBounds_toArray, List.set_cons_zero, List.set_cons_succ]
    clear xn
    have hb2 : Below W0.heap.size W0 W1 := bi.trans (ci.below (B := W0.heap.size) (fun k e => by omega) bi.size)
    have HZ1 := Lib.hid (HZ.out.below hb2)
    have HID := Lib.hid (show ∀ w', Below W1.heap.size W1 w' → w'.rangeAt W0.heap.size 0 (bvs R.id.1) from fun w' hw' => row_id (range_block ((hw'.block _ (Array.getElem?_eq_some_iff.1 xi).1).trans xi)))
    obtain ⟨B6, hB6⟩ : ∃ B6, W0.heap.size = B6 := ⟨_, rfl⟩
    rw [hB6] at HID ⊢
    clear xi bi ci si sn hb2 hB6 hcx
    go_wp2_with fail
    refine wp_region_seq 11 (by kernel_rfl) (by kernel_rfl) ?_
    simp only [List.take_succ_cons, List.take_zero, List.drop_succ_cons, List.drop_zero]
    obtain ⟨wd, hwd⟩ : ∃ wd, W1.drew = wd := ⟨_, rfl⟩
    have hd_wd : Below W1.heap.size W1 wd ∧ wd.heap.size = W1.heap.size := hwd ▸ ⟨(Below.refl _ _).drew, rfl⟩
    rw [hwd]
    clear hwd
    have HZd := Lib.hid (HZ1.out.below hd_wd.1)
    have HIDd := Lib.hid (HID.out wd hd_wd.1)
    have HBd := Lib.hid hd_wd.1
    obtain ⟨c1, c2⟩ := HZd.out.cells
    have hlk := HZd.out.hr.look Try.underlying74 zeroInt R.id true
    rw [if_pos rfl, zeroF_some] at hlk
    obtain ⟨kv, hkv⟩ : ∃ kv, (zeroF (L.take i) R.id).getD (.int .i64 0) = kv := ⟨_, rfl⟩
    obtain ⟨ok, hok⟩ : ∃ ok, (L.take i).any (fun r => decide (r.id = R.id)) = ok := ⟨_, rfl⟩
    rw [hkv, hok] at hlk
    have hlk : (Instr.lookup 74 (.map (some rb)) (.agg (bvs R.id.1).toArray) true).run Try.prog wd = .ok (.tuple #[kv, .bool ok]) wd := hlk
    have HOK := Lib.hid hok
    clear hd_wd hkv hok c1
    go_wp2_with (with_reducible refine wpList_load_mid rfl 31 (.tmp 38) rfl B6 0 rfl (bvs R.id.1) _ HIDd.out Try.underlying31 rfl (sizeId R.id) ?_; refine Stop.on ?_)
    refine Stop.go ?_
    try simp only [Act.put, List.setIfInBounds_toArray, List.set_cons_zero, List.set_cons_succ]
    go_wp2_with fail
    refine HeadPost.mk ?_
    clear hlk c2
    cases ok with
    | true =>
      have hno : ¬ (L.map (·.id)).Nodup := fun hn => by
        obtain ⟨r, hr, he⟩ := List.any_eq_true.1 HOK.out
        obtain ⟨j, hj, rfl⟩ := List.mem_iff_getElem.1 hr
        rw [List.length_take] at hj
        rw [List.getElem_take, ← HR.out] at he
        rw [List.nodup_iff_pairwise_ne, List.pairwise_map, List.pairwise_iff_getElem] at hn
        exact hn j i (by omega) (by rw [HN.out]; exact hlt) (by omega) (of_decide_eq_true he)
      have HNO := Lib.hid hno
      clear hno
      go_wp2_with fail
      rw [HQ3.out]
      try simp only [Exit.inBlock, Exit.then]
      exact bodyPost_ret (v := .tuple #[.pointer none, .int .i64 7]) (by simp [results, Try.results32, go_sem]) rfl (.inl ⟨HNO.out, rfl, HB1.out.trans (HZd.out.hb.mono HB1.out.size)⟩)
    | false =>
      go_wp2_with fail
      refine wp_region_seq 6 (by kernel_rfl) (by kernel_rfl) ?_
      simp only [List.take_succ_cons, List.take_zero, List.drop_succ_cons, List.drop_zero]
      obtain ⟨we, hwd⟩ : ∃ we, wd.drew = we := ⟨_, rfl⟩
      have hd_we : Below wd.heap.size wd we ∧ we.heap.size = wd.heap.size := hwd ▸ ⟨(Below.refl _ _).drew, rfl⟩
      rw [hwd]
      clear hwd
      have HZe := Lib.hid (HZd.out.below hd_we.1)
      have HIDe := Lib.hid (HID.out we (HBd.out.trans (hd_we.1.mono HBd.out.size)))
      obtain ⟨c1, c2⟩ := HZe.out.cells
      clear hd_we
      go_wp2_with (with_reducible refine wpList_load_mid rfl 31 (.tmp 48) rfl B6 0 rfl (bvs R.id.1) _ HIDe.out Try.underlying31 rfl (sizeId R.id) ?_; refine Stop.on ?_)
      refine Stop.go ?_
      try simp only [Act.put, List.setIfInBounds_toArray, List.set_cons_zero, List.set_cons_succ]
      refine HeadPost.mk ?_
      refine wpList_updV HZe.out.hr rfl rfl 74 Try.underlying74 (.tmp 47) (.tmp 49) (.const (.int .i64 0)) rfl rfl R.id rfl (.int .i64 0) rfl ?_
      intro W2 hm3 hc3 hs3
      try simp only [Act.put, List.setIfInBounds_toArray, List.set_cons_zero, List.set_cons_succ]
      have HM3 := Lib.hid hm3
      have HC3 := Lib.hid hc3
      have r1 := hc3.cell_ne HZe.out.hr c1
      have ho2 := (hc3.block ob (Array.getElem?_eq_some_iff.1 HZe.out.ho).1 (cells_ne HZe.out.hr HZe.out.ho)).trans HZe.out.ho
      have HO2 := Lib.hid ho2
      have hcell : W2.cell? ⟨ob, i, none⟩ = some (.int .i64 0) := by
        rw [cell_of_row _ _ _ _ _ _ ho2, List.getElem?_toArray, List.getElem?_map, List.getElem?_append_right (by simp), List.length_range, Nat.sub_self, List.getElem?_replicate, if_pos (by omega)]
        rfl
      have hiI : (i : Int) < (N : Int) := by omega
      clear hm3 hc3 hs3 c1 c2 ho2
      go_wp2_with (refine wpList_putC rfl rfl 3 (.tmp 56) (.tmp 55) rfl ob i (.int .i64 (i : Int)) rfl rfl HO2.out (by simp; omega) rfl (by kernel_rfl) ?_; refine Stop.on ?_)
      refine Stop.go ?_
      try simp only [Act.put, List.setIfInBounds_toArray, List.set_cons_zero, List.set_cons_succ]
      intro W3 ho3 hd3 hs3
      try simp only [Act.put, List.setIfInBounds_toArray, List.set_cons_zero, List.set_cons_succ]
      have HZ3 := Lib.hid (HZe.out.next hlt hL (by rw [HR.out]; exact HM3.out) HC3.out (by rw [List.setIfInBounds_toArray]; exact ho3) hd3)
      have HD3 := Lib.hid (show ((L.take (i + 1)).map (·.id)).Nodup by
        rw [List.take_succ_eq_append_getElem hL, List.map_append, List.nodup_append]
        refine ⟨HD.out, by simp, fun x hx y hy e => ?_⟩
        obtain ⟨r, hr, rfl⟩ := List.mem_map.1 hx
        simp at hy
        have h1 := List.any_eq_false.1 HOK.out r hr
        rw [hy, HR.out] at e
        exact h1 (decide_eq_true e))
      clear ho3 hd3 hs3 r1 hcell hiI
      go_wp2_with fail
      rw [HQ3.out]
      change _ ∧ _
      go_roundw
      case rel => exact ⟨i + 1, by omega, by go_num, HD3, HZ3⟩
      case measure => simp [intOf]; omega
end Go.Proofs.Ytjjanjhoaiannaa
