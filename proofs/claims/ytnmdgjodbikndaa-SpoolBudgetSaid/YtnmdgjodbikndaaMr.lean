/- Ranging over a map from numbers to byte arrays while the rounds make memory: the iterator's state, its step. -/
import Derived.Test.YtnmdgjodbikndaaBase
import Derived.Maps.RangeWalk
namespace Go.Proofs.Ytnmdgjodbikndaa
open Go.RowKit Go.ChangeMaps Go.MapKept
set_option linter.unusedVariables false
set_option linter.unusedSimpArgs false

/-- An iterator (block r) under way over the map in block m, of which the entries at the places of got have been handed out. -/
structure RgAt (w : World) (m r : Nat) (es : Array MapEntry) (clock : Nat) (got : Nat → Bool) : Prop where
  hm : w.heap[m]? = some (.map es clock)
  st : Stamped es clock
  ex : ∃ seen, w.heap[r]? = some (.mapIter (some m) clock seen clock) ∧ ∀ i (h : i < es.size), seen.contains es[i].born = got i

section
variable {w w' : World} {m r : Nat} {es : Array MapEntry} {clock : Nat} {got : Nat → Bool}

theorem RgAt.ne (h : RgAt w m r es clock got) : r ≠ m := by
  intro e
  obtain ⟨seen, hr, _⟩ := h.ex
  rw [e, h.hm] at hr
  cases hr
theorem RgAt.lt (h : RgAt w m r es clock got) : m < w.heap.size ∧ r < w.heap.size := by
  obtain ⟨seen, hr, _⟩ := h.ex
  exact ⟨(Array.getElem?_eq_some_iff.1 h.hm).1, (Array.getElem?_eq_some_iff.1 hr).1⟩
theorem RgAt.kept (h : RgAt w m r es clock got) (h1 : w'.heap[m]? = w.heap[m]?) (h2 : w'.heap[r]? = w.heap[r]?) : RgAt w' m r es clock got := by
  obtain ⟨seen, hr, hs⟩ := h.ex
  exact ⟨h1.trans h.hm, h.st, seen, h2.trans hr, hs⟩
theorem RgAt.below (h : RgAt w m r es clock got) (hb : Below w.heap.size w w') : RgAt w' m r es clock got := h.kept (hb.block m h.lt.1) (hb.block r h.lt.2)
theorem RgAt.grown {row : Option Nat} (h : RgAt w m r es clock got) (hg : w.grownBy w' row) (h1 : some m ≠ row) (h2 : some r ≠ row) : RgAt w' m r es clock got := h.kept (hg.block m h.lt.1 h1) (hg.block r h.lt.2 h2)

theorem born_inj_at (st : Stamped es clock) {i j : Nat} (hi : i < es.size) (hj : j < es.size) (h : es[i].born = es[j].born) : i = j := by
  have hn := st.2
  rw [List.nodup_iff_pairwise_ne] at hn
  rw [List.pairwise_iff_getElem] at hn
  by_cases hij : i = j
  · exact hij
  · exfalso
    rcases Nat.lt_or_gt_of_ne hij with h1 | h1
    · have := hn i j (by simpa using hi) (by simpa using hj) h1
      simp at this
      exact this h
    · have := hn j i (by simpa using hj) (by simpa using hi) h1
      simp at this
      exact this h.symm

/-- The step. -/
theorem RgAt.next {P : Program} (h : RgAt w m r es clock got) (ty : TypeId) :
    ((∀ i, i < es.size → got i = true) ∧ (Instr.next (.pointer (some ⟨r, 0, none⟩)) false ty).run P w = .ok (.tuple #[.bool false]) w) ∨
    ∃ (j : Nat) (hj : j < es.size) (w' : World), got j = false ∧ (Instr.next (.pointer (some ⟨r, 0, none⟩)) false ty).run P w = .ok (.tuple #[.bool true, es[j].key, es[j].val]) w' ∧
      RgAt w' m r es clock (fun i => got i || i == j) ∧ w'.rangeLeft m r < w.rangeLeft m r ∧ w.grownBy w' (some r) ∧ w'.heap.size = w.heap.size ∧
      (Instr.entry (.pointer (some ⟨r, 0, none⟩))).run P w' = .ok (.tuple #[es[j].key, es[j].val]) w' := by
  have hne := h.ne
  obtain ⟨hm, st, seen, hr, hs⟩ := h
  rcases run_next_at (P := P) w ty r m clock clock seen es clock hr hm st.1 (Nat.le_refl _) with ⟨h0, hrun⟩ | ⟨e, he, w1, hal, hrun⟩
  · refine Or.inl ⟨fun i hi => ?_, hrun⟩
    rw [← hs i hi]
    exact all_seen es seen h0 es[i] (Array.getElem_mem_toList hi)
  · obtain ⟨hem, hes⟩ := mem_left he
    obtain ⟨j, hj, rfl⟩ := List.getElem_of_mem hem
    have hj' : j < es.size := by simpa using hj
    simp only [Array.getElem_toList] at he hem hes hrun
    have hr1 : w1.heap[r]? = some (.mapIter (some m) clock seen clock) := by rcases hal with rfl | rfl <;> exact hr
    have hm1 : w1.heap[m]? = some (.map es clock) := by rcases hal with rfl | rfl <;> exact hm
    have hset := heap_set (o' := .mapIter (some m) clock (seen.push es[j].born) clock) hr1
    have hm' : (setBlock w1 r (.mapIter (some m) clock (seen.push es[j].born) clock)).heap[m]? = some (.map es clock) := (hset.2 m (fun e1 => hne e1.symm)).trans hm1
    refine Or.inr ⟨j, hj', _, by rw [← hs j hj']; exact hes, hrun, ⟨hm', st, seen.push es[j].born, hset.1, fun i hi => ?_⟩, ?_, ?_, ?_, run_entry_at _ r m clock seen es clock es[j] hset.1 hm' hem st.2⟩
    · rw [contains_push, hs i hi]
      congr 1
      by_cases hij : i = j
      · subst hij; simp
      · have h1 : (i == j) = false := by simpa using hij
        have h2 : ¬ es[i].born = es[j].born := fun e1 => hij (born_inj_at st hi hj' e1)
        rw [h1]
        simpa using h2
    · have hr' : (setBlock w1 r (.mapIter (some m) clock (seen.push es[j].born) clock)).heap[r]? = some (.mapIter (some m) clock (seen.push es[j].born) clock) := hset.1
      simp only [World.rangeLeft, hm, hr, hm', hr']
      exact left_shrinks es seen _ he
    · rcases hal with rfl | rfl <;> exact ⟨rfl, rfl, rfl, by simp [setBlock], fun i _ hi => hset.2 i (fun e1 => hi (by rw [e1]))⟩
    · rcases hal with rfl | rfl <;> simp [setBlock]

/-- The iterator is made. -/
theorem RgAt.make {P : Program} {t k e : TypeId} (ht : P.underlying t = some (.map k e)) (hm : w.heap[m]? = some (.map es clock)) (st : Stamped es clock) :
    ∃ w', (Instr.range t (.map (some m))).run P w = .ok (.pointer (some ⟨w.heap.size, 0, none⟩)) w' ∧ RgAt w' m w.heap.size es clock (fun _ => false) ∧ Below w.heap.size w w' ∧ w'.heap.size = w.heap.size + 1 := by
  refine ⟨_, run_range_map w t k e m es clock ht hm, ⟨((MapKept.heap_alloc w _).2 m (Array.getElem?_eq_some_iff.1 hm).1).trans hm, st, #[], (MapKept.heap_alloc w _).1, by simp⟩, (Below.refl _ _).alloc (Nat.le_refl _) _, by simp⟩
end

theorem rangeLeft_kept {w w' : World} {m r : Nat} (h1 : w'.heap[m]? = w.heap[m]?) (h2 : w'.heap[r]? = w.heap[r]?) : w'.rangeLeft m r = w.rangeLeft m r := by
  simp only [World.rangeLeft, h1, h2]

section
variable {P : Program} {w : World} {ops : Array Oper} {rest : List Oper} {o : Oper} {a : Act} {Q : Exit → Act → World → Prop}
theorem wpList_rangeM (hg : o.guard = none) (x : Operand) (t : TypeId) (hop : o.op = Op.range t x) {k e : TypeId} (ht : P.underlying t = some (.map k e)) {m : Nat} {es : Array MapEntry} {clock : Nat}
    (hx : a.eval x = .map (some m)) (hm : w.heap[m]? = some (.map es clock)) (st : Stamped es clock)
    (hK : ∀ w', RgAt w' m w.heap.size es clock (fun _ => false) → Below w.heap.size w w' → w'.heap.size = w.heap.size + 1 → wpList P ops Q rest (a.put o.dst (.pointer (some ⟨w.heap.size, 0, none⟩))) w') :
    wpList P ops Q (o :: rest) a w := by
  refine wpList_plain hg fun K' hK' => ?_
  obtain ⟨w', hrun, r1, r2, r3⟩ := RgAt.make (P := P) ht hm st
  unfold Oper.wp
  simp [execOp, hop, hx, hrun, Result.andThen]
  exact hK' _ _ (hK w' r1 r2 r3)
theorem wpList_nextM (hg : o.guard = none) (x : Operand) (hop : o.op = Op.next x false) {m r : Nat} {es : Array MapEntry} {clock : Nat} {got : Nat → Bool}
    (hx : a.eval x = .pointer (some ⟨r, 0, none⟩)) (h : RgAt w m r es clock got)
    (hDone : (∀ i, i < es.size → got i = true) → wpList P ops Q rest (a.put o.dst (.tuple #[.bool false])) w)
    (hMore : ∀ (j : Nat) (hj : j < es.size) (w' : World), got j = false → RgAt w' m r es clock (fun i => got i || i == j) → w'.rangeLeft m r < w.rangeLeft m r → w.grownBy w' (some r) → w'.heap.size = w.heap.size →
      (Instr.entry (.pointer (some ⟨r, 0, none⟩))).run P w' = .ok (.tuple #[es[j].key, es[j].val]) w' → wpList P ops Q rest (a.put o.dst (.tuple #[.bool true, es[j].key, es[j].val])) w') :
    wpList P ops Q (o :: rest) a w := by
  refine wpList_plain hg fun K' hK' => ?_
  unfold Oper.wp
  rcases h.next (P := P) o.type with ⟨h0, hrun⟩ | ⟨j, hj, w', h1, hrun, h2, h3, h4, h5, h6⟩
  · simp [execOp, hop, hx, hrun, Result.andThen]
    exact hK' _ _ (hDone h0)
  · simp [execOp, hop, hx, hrun, Result.andThen]
    exact hK' _ _ (hMore j hj w' h1 h2 h3 h4 h5 h6)
end

theorem nodup_lt_length {xs : List Nat} {n : Nat} (h : xs.Nodup) (hk : ∀ k ∈ xs, k < n) : xs.length ≤ n := by
  have hp : xs.Perm ((List.range n).filter (fun k => decide (k ∈ xs))) := by
    refine (List.perm_ext_iff_of_nodup h (List.nodup_range.filter _)).2 fun k => ?_
    rw [List.mem_filter, List.mem_range]
    simp only [decide_eq_true_eq]
    exact ⟨fun hx => ⟨hk k hx, hx⟩, fun hx => hx.2⟩
  have := List.length_filter_le (fun k => decide (k ∈ xs)) (List.range n)
  rw [hp.length_eq]
  simpa using this

/-- What has been gathered of the places handed out. -/
def Gathered (L : List (Nat × List UInt8)) (ok : List UInt8 → Bool) (got : Nat → Bool) (xs : List Nat) : Prop :=
  xs.Nodup ∧ ∀ k, k ∈ xs ↔ ∃ i, ∃ h : i < L.length, got i = true ∧ L[i].1 = k ∧ ok L[i].2 = true
theorem Gathered.nil (L : List (Nat × List UInt8)) (ok : List UInt8 → Bool) : Gathered L ok (fun _ => false) [] := ⟨List.nodup_nil, fun k => by simp⟩
theorem Gathered.skip {L : List (Nat × List UInt8)} {ok : List UInt8 → Bool} {got : Nat → Bool} {xs : List Nat} (h : Gathered L ok got xs) {j : Nat} (hj : j < L.length) (hn : ok L[j].2 = false) :
    Gathered L ok (fun i => got i || i == j) xs := by
  refine ⟨h.1, fun k => (h.2 k).trans ⟨?_, ?_⟩⟩
  · rintro ⟨i, hi, h1, h2⟩
    exact ⟨i, hi, by simp [h1], h2⟩
  · rintro ⟨i, hi, h1, h2, h3⟩
    refine ⟨i, hi, ?_, h2, h3⟩
    rcases Bool.or_eq_true_iff.1 h1 with h1 | h1
    · exact h1
    · have e := beq_iff_eq.1 h1
      subst e
      rw [hn] at h3
      cases h3
theorem Gathered.take {L : List (Nat × List UInt8)} (hL : (L.map (·.1)).Nodup) {ok : List UInt8 → Bool} {got : Nat → Bool} {xs : List Nat} (h : Gathered L ok got xs) {j : Nat} (hj : j < L.length) (hg : got j = false) (hn : ok L[j].2 = true) :
    Gathered L ok (fun i => got i || i == j) (xs ++ [L[j].1]) := by
  have hinj : ∀ i (hi : i < L.length), L[i].1 = L[j].1 → i = j := by
    intro i hi e
    rw [List.nodup_iff_pairwise_ne, List.pairwise_iff_getElem] at hL
    by_cases hij : i = j
    · exact hij
    · exfalso
      rcases Nat.lt_or_gt_of_ne hij with h1 | h1
      · have := hL i j (by simpa using hi) (by simpa using hj) h1
        simp at this
        exact this e
      · have := hL j i (by simpa using hj) (by simpa using hi) h1
        simp at this
        exact this e.symm
  refine ⟨?_, fun k => ?_⟩
  · rw [List.nodup_append]
    refine ⟨h.1, by simp, ?_⟩
    intro a ha b hb e
    obtain rfl := List.mem_singleton.1 hb
    obtain ⟨i, hi, h1, h2, _⟩ := (h.2 a).1 ha
    have := hinj i hi (h2.trans e)
    subst this
    rw [hg] at h1
    cases h1
  · rw [List.mem_append, h.2 k]
    constructor
    · rintro (⟨i, hi, h1, h2⟩ | hk)
      · exact ⟨i, hi, by simp [h1], h2⟩
      · obtain rfl := List.mem_singleton.1 hk
        exact ⟨j, hj, by simp, rfl, hn⟩
    · rintro ⟨i, hi, h1, h2, h3⟩
      rcases Bool.or_eq_true_iff.1 h1 with h1 | h1
      · exact .inl ⟨i, hi, h1, h2, h3⟩
      · have e := beq_iff_eq.1 h1
        subst e
        exact .inr (by simp [h2])

theorem Gathered.length_le {L : List (Nat × List UInt8)} {ok : List UInt8 → Bool} {got : Nat → Bool} {xs : List Nat} {n : Nat} (h : Gathered L ok got xs) (hk : ∀ p ∈ L, p.1 < n) : xs.length ≤ n :=
  nodup_lt_length h.1 fun k hx => by
    obtain ⟨i, hi, _, rfl, _⟩ := (h.2 k).1 hx
    exact hk _ (List.getElem_mem hi)

theorem mem_assoc {L : List (Nat × List UInt8)} (hL : (L.map (·.1)).Nodup) {i : Nat} (hi : i < L.length) : assoc L L[i].1 = some L[i].2 := by
  unfold assoc
  have : L.find? (fun p => p.1 == L[i].1) = some L[i] := by
    rw [List.find?_eq_some_iff_getElem]
    refine ⟨by simp, i, hi, rfl, fun j hj => ?_⟩
    rw [List.nodup_iff_pairwise_ne, List.pairwise_iff_getElem] at hL
    have := hL j i (by simp; omega) (by simpa using hi) hj
    simpa using this
  rw [this]
  rfl

/-- All gathered: the numbers whose bytes are not all zero. -/
theorem Gathered.perm {L : List (Nat × List UInt8)} (hL : (L.map (·.1)).Nodup) {got : Nat → Bool} {xs : List Nat} {n : Nat} {z : List UInt8} {dur : Nat → List UInt8} (hz : z.all (· == 0) = true)
    (hk : ∀ p ∈ L, p.1 < n) (hd : ∀ i, i < n → (assoc L i).getD z = dur i) (hall : ∀ i, i < L.length → got i = true)
    (h : Gathered L (fun b => !b.all (· == 0)) got xs) : xs.Perm ((List.range n).filter (fun i => !(dur i).all (· == 0))) := by
  refine (List.perm_ext_iff_of_nodup h.1 (List.nodup_range.filter _)).2 fun k => ?_
  rw [h.2 k, List.mem_filter, List.mem_range]
  constructor
  · rintro ⟨i, hi, _, rfl, h3⟩
    have hlt := hk _ (List.getElem_mem hi)
    refine ⟨hlt, ?_⟩
    rw [← hd _ hlt, mem_assoc hL hi]
    exact h3
  · rintro ⟨hlt, h3⟩
    rw [← hd k hlt] at h3
    cases ha : assoc L k with
    | none => rw [ha] at h3; simp [hz] at h3
    | some v =>
      rw [ha] at h3
      unfold assoc at ha
      obtain ⟨p, hp, hpv⟩ := Option.map_eq_some_iff.1 ha
      obtain ⟨h4, i, hi, h5, _⟩ := List.find?_eq_some_iff_getElem.1 hp
      subst h5
      exact ⟨i, hi, hall i hi, by simpa using h4, by rw [hpv]; exact h3⟩

end Go.Proofs.Ytnmdgjodbikndaa
