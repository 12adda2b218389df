/- Lists whose elements take k cells each: in memory, of a row of their own, one list behind another. No function in sight. -/
import Derived.Test.YtjjanjhoaiannaaGenR
import Derived.Maps.AppendAt
namespace Go.Proofs.Ytjjanjhoaiannaa
open Go.RowKit
set_option linter.unusedVariables false
set_option linter.unusedSimpArgs false

/-- What an element type looks like. -/
structure ElemTy (P : Program) (sT T : TypeId) (α : Type) where
  enc : α → List Value
  k : Nat
  hu : P.underlying sT = some (.slice T)
  hi : ∃ z bytes, (P.info? T).map (fun i => (i.zero, i.size, i.bytes)) = some (some z, k, bytes) ∧ z.cells.size = k ∧ bytes ≤ 100000
  hk : 0 < k
  len : ∀ x, (enc x).length = k
  one : ∀ x, ∀ v ∈ enc x, v.oneCell' = true

section
variable {P : Program} {sT T : TypeId} {α : Type} (E : ElemTy P sT T α) {w w' : World} {B : Nat} {v : Value} {L M : List α}

theorem flat_length (L : List α) : (L.flatMap E.enc).length = L.length * E.k := by
  induction L with
  | nil => simp
  | cons x L ih => rw [List.flatMap_cons, List.length_append, ih, E.len, List.length_cons, Nat.add_mul, Nat.one_mul, Nat.add_comm]
theorem flat_get {L : List α} {i : Nat} (hi : i < L.length) {j : Nat} (hj : j < E.k) : (L.flatMap E.enc)[i * E.k + j]? = (E.enc L[i])[j]? := by
  induction L generalizing i with
  | nil => simp at hi
  | cons x L ih =>
    rw [List.flatMap_cons]
    cases i with
    | zero =>
      rw [Nat.zero_mul, Nat.zero_add, List.getElem?_append_left (by rw [E.len]; exact hj)]
      rfl
    | succ i =>
      have e : (i + 1) * E.k + j = E.k + (i * E.k + j) := by rw [Nat.add_mul, Nat.one_mul]; omega
      rw [e, List.getElem?_append_right (by rw [E.len]; omega), E.len, Nat.add_sub_cancel_left]
      exact ih (by simpa using hi)
theorem flat_one (L : List α) : ∀ v ∈ L.flatMap E.enc, v.oneCell' = true := by
  intro v hv
  obtain ⟨x, _, hx⟩ := List.mem_flatMap.1 hv
  exact E.one x v hx
theorem flat_take (L : List α) (n : Nat) : (L.take n).flatMap E.enc = (L.flatMap E.enc).take (n * E.k) := by
  induction L generalizing n with
  | nil => simp
  | cons x L ih =>
    cases n with
    | zero => simp
    | succ n =>
      rw [List.take_succ_cons, List.flatMap_cons, List.flatMap_cons, ih, List.take_append, E.len, List.take_of_length_le (l := E.enc x) (by rw [E.len, Nat.add_mul]; omega)]
      congr 2
      rw [Nat.add_mul]
      omega

/-- The slice value v is a row of its own, from block B on, of the list L. -/
def OwnL (w : World) (B : Nat) (v : Value) (L : List α) : Prop := w.ownsRow B T E.k v L.length (L.flatMap E.enc)
/-- The slice value v reads as the list L. -/
structure ListAt (w : World) (v : Value) (L : List α) : Prop where
  ex : ∃ a cap, v = .slice a L.length cap ∧ L.length ≤ cap ∧ cap ≤ maxLen ∧ (a = none → cap = 0) ∧ (L ≠ [] → ∃ g off, a = some ⟨g, off, none⟩ ∧ g < w.heap.size ∧ ∀ i (h : i < L.length), w.rangeAt g (off + i * E.k) (E.enc L[i]))
variable {E}
theorem OwnL.form (h : OwnL E w B v L) : ∃ a cap, v = .slice a L.length cap := ownsRow_form h
theorem OwnL.below (h : OwnL E w B v L) (hb : Below w.heap.size w w') : OwnL E w' B v L := own_kept h hb
theorem OwnL.base (h : OwnL E w B v L) {B' : Nat} (hB : B' ≤ B) : OwnL E w B' v L := ownsRow_base h hB
theorem OwnL.chg {F : Nat → Prop} (h : OwnL E w B v L) (hc : Chg F w w') (hd : ∀ k, v.ownBlock = some k → ¬ F k) : OwnL E w' B v L := ownsRow_chg' h hc hd
theorem OwnL.lt (h : OwnL E w B v L) {k : Nat} (hk : v.ownBlock = some k) : B ≤ k ∧ k < w.heap.size := ownsRow_lt h k hk
theorem ownL_nil (E : ElemTy P sT T α) (w : World) (B : Nat) : OwnL E w B (.slice none 0 0) [] := ⟨by simp, .inl ⟨rfl, rfl⟩⟩
theorem ownL_zero (E : ElemTy P sT T α) {B : Nat} (hB : B ≤ w.heap.size) : OwnL E (w.alloc (.cells #[] T)) B (.slice (some ⟨w.heap.size, 0, none⟩) 0 0) [] :=
  ⟨by simp, .inr ⟨w.heap.size, 0, #[], rfl, hB, heap_alloc_new _ _, Nat.le_refl _, by unfold maxLen; omega, by simp, by simp⟩⟩
theorem ListAt.form (h : ListAt E w v L) : ∃ a cap, v = .slice a L.length cap := by obtain ⟨a, c, e, _⟩ := h.ex; exact ⟨a, c, e⟩
theorem ListAt.len {a : Option Addr} {n c : Nat} (h : ListAt E w (.slice a n c) L) : n = L.length ∧ n ≤ c ∧ c ≤ maxLen ∧ (a = none → c = 0) := by
  obtain ⟨a', c', e, h1, h2, h3, _⟩ := h.ex
  cases e
  exact ⟨rfl, h1, h2, h3⟩
theorem listAt_nil (E : ElemTy P sT T α) (w : World) : ListAt E w (.slice none 0 0) [] := ⟨none, 0, rfl, Nat.le_refl _, Nat.zero_le _, fun _ => rfl, fun h => absurd rfl h⟩
theorem OwnL.at_ (h : OwnL E w B v L) : ListAt E w v L := by
  obtain ⟨a, cap, rfl⟩ := h.form
  have hh : w.ownsRow B T E.k (.slice a L.length cap) L.length (L.flatMap E.enc) := h
  rcases hh.2 with ⟨e, h0⟩ | ⟨g, cap', cur, e, _, hg, hc, hm, hs, ht⟩
  · simp only [Value.slice.injEq] at e
    obtain ⟨rfl, _, rfl⟩ := e
    exact ⟨none, 0, rfl, by omega, Nat.zero_le _, fun _ => rfl, fun hne => absurd (List.eq_nil_of_length_eq_zero h0) hne⟩
  · simp only [Value.slice.injEq] at e
    obtain ⟨rfl, _, rfl⟩ := e
    refine ⟨_, cap, rfl, hc, hm, (fun e => by cases e), fun _ => ⟨g, 0, rfl, (Array.getElem?_eq_some_iff.1 hg).1, fun i hi j u hu => ?_⟩⟩
    have hj : j < E.k := by have := (List.getElem?_eq_some_iff.1 hu).1; rw [E.len] at this; exact this
    rw [cell_of_row w g _ cur _ _ hg, Nat.zero_add]
    have h2 := flat_get E hi hj
    have hlt : i * E.k + j < L.length * E.k := by
      calc i * E.k + j < i * E.k + E.k := by omega
        _ = (i + 1) * E.k := by rw [Nat.add_mul, Nat.one_mul]
        _ ≤ L.length * E.k := Nat.mul_le_mul_right _ hi
    rw [← ht, List.getElem?_take, if_pos hlt, hu] at h2
    simpa using h2
theorem ListAt.below (h : ListAt E w v L) (hb : Below w.heap.size w w') : ListAt E w' v L := by
  obtain ⟨a, c, e, h1, h2, h3, h4⟩ := h.ex
  refine ⟨a, c, e, h1, h2, h3, fun hne => ?_⟩
  obtain ⟨g, off, e, hg, hr⟩ := h4 hne
  exact ⟨g, off, e, Nat.lt_of_lt_of_le hg hb.size, fun i hi j u hu => (hb.cell (p := ⟨g, off + i * E.k + j, none⟩) hg).trans (hr i hi j u hu)⟩
/-- Where an element lies. -/
theorem ListAt.get {a : Option Addr} {n c : Nat} (h : ListAt E w (.slice a n c) L) {i : Nat} (hi : i < L.length) : ∃ g off, a = some ⟨g, off, none⟩ ∧ g < w.heap.size ∧ w.rangeAt g (off + i * E.k) (E.enc L[i]) := by
  obtain ⟨a', c', e, _, _, _, h4⟩ := h.ex
  cases e
  obtain ⟨g, off, e, hg, hr⟩ := h4 (fun e => by rw [e] at hi; simp at hi)
  exact ⟨g, off, e, hg, hr i hi⟩
/-- The first k of them. -/
theorem ListAt.take {a : Option Addr} {n c k : Nat} (h : ListAt E w (.slice a n c) L) (hk : k ≤ n) : ListAt E w (.slice a k c) (L.take k) := by
  obtain ⟨a', c', e, h1, h2, h3, h4⟩ := h.ex
  cases e
  have hl : (L.take k).length = k := by rw [List.length_take]; omega
  refine ⟨a, c, by rw [hl], by omega, h2, h3, fun hne => ?_⟩
  obtain ⟨g, off, e, hg, hr⟩ := h4 (fun e => hne (by rw [e, List.take_nil]))
  refine ⟨g, off, e, hg, fun i hi => ?_⟩
  rw [hl] at hi
  rw [List.getElem_take]
  exact hr i (by omega)
/-- What is behind the first k of them. -/
theorem ListAt.drop {g off n c k : Nat} (h : ListAt E w (.slice (some ⟨g, off, none⟩) n c) L) (hk : k ≤ n) : ListAt E w (.slice (some ⟨g, off + k * E.k, none⟩) (n - k) (c - k)) (L.drop k) := by
  obtain ⟨a', c', e, h1, h2, h3, h4⟩ := h.ex
  cases e
  refine ⟨_, _, by rw [List.length_drop], by rw [List.length_drop]; omega, by omega, (fun e => by cases e), fun hne => ?_⟩
  obtain ⟨g', off', e, hg, hr⟩ := h4 (fun e => hne (by rw [e, List.drop_nil]))
  cases e
  refine ⟨g, _, rfl, hg, fun i hi => ?_⟩
  rw [List.length_drop] at hi
  rw [List.getElem_drop]
  have := hr (k + i) (by omega)
  rwa [Nat.add_mul, ← Nat.add_assoc] at this
/-- A block made out of one element. -/
theorem listAt_one (E : ElemTy P sT T α) (w : World) (x : α) : ListAt E (w.alloc (.cells (E.enc x).toArray T)) (.slice (some ⟨w.heap.size, 0, none⟩) 1 1) [x] := by
  refine ⟨_, 1, rfl, Nat.le_refl _, by unfold maxLen; omega, (fun e => by cases e), fun _ => ⟨w.heap.size, 0, rfl, by simp, fun i hi j u hu => ?_⟩⟩
  obtain rfl : i = 0 := by simpa using hi
  rw [cell_of_row _ _ _ _ _ _ (heap_alloc_new w (.cells (E.enc x).toArray T))]
  simpa using hu
theorem one_below (E : ElemTy P sT T α) (w : World) (x : α) : Below w.heap.size w (w.alloc (.cells (E.enc x).toArray T)) := (Below.refl _ _).alloc (Nat.le_refl _) _

/-- append(s, t...), as a run. -/
theorem run_appL (E : ElemTy P sT T α) {ty : TypeId} {xv : Value} (hown : OwnL E w B v L) (hM : ListAt E w xv M) (hn : L.length + M.length < 1000000000) (hB : B ≤ w.heap.size) :
    ∃ a' cap' w', (Builtin.append_ #[sT, sT] ty #[v, xv]).run P w = .ok (.slice a' (L.length + M.length) cap') w' ∧ OwnL E w' B (.slice a' (L.length + M.length) cap') (L ++ M) ∧ w.grownBy w' v.ownBlock ∧
      (∀ k, (Value.slice a' (L.length + M.length) cap').ownBlock = some k → v.ownBlock = some k ∨ w.heap.size ≤ k) := by
  obtain ⟨z, bytes, hinfo, hz, hb⟩ := E.hi
  obtain ⟨i0, hi, hz0, hz1, hz2⟩ := info_parts hinfo
  obtain ⟨a, c, rfl, h1, h2, h3, h4⟩ := hM.ex
  cases a with
  | none =>
    obtain rfl := h3 rfl
    have hM0 : M.length = 0 := by omega
    have hM1 : M = [] := List.eq_nil_of_length_eq_zero hM0
    subst hM1
    obtain ⟨va, vc, rfl⟩ := hown.form
    have hrun := run_append_owned_none (P := P) (w := w) B sT ty T i0 E.k E.hu hi _ L.length _ hown
    exact ⟨va, vc, w, by simpa using hrun, by simpa using hown, ⟨rfl, rfl, rfl, Nat.le_refl _, fun _ _ _ => rfl⟩, fun k hk => .inl (by simpa using hk)⟩
  | some ad =>
    have hcells : ∀ j u, (M.flatMap E.enc)[j]? = some u → w.cell? (ad.add j) = some u := by
      intro j u hj
      have hjl : j < M.length * E.k := by have := (List.getElem?_eq_some_iff.1 hj).1; rw [flat_length] at this; exact this
      have hk := E.hk
      have hne : M ≠ [] := fun e => by rw [e] at hjl; simp at hjl
      obtain ⟨g, off, e, hg, hr⟩ := h4 hne
      cases e
      rw [Addr.add_mid]
      have hi : j / E.k < M.length := Nat.div_lt_of_lt_mul (by rw [Nat.mul_comm]; exact hjl)
      have hjj : j % E.k < E.k := Nat.mod_lt _ hk
      have hdm : j / E.k * E.k + j % E.k = j := by rw [Nat.mul_comm]; exact Nat.div_add_mod j E.k
      have h5 := flat_get E hi hjj
      rw [hdm, hj] at h5
      have h6 := hr (j / E.k) hi (j % E.k) u h5.symm
      rwa [Nat.add_assoc, hdm] at h6
    have hbb : (L.length + M.length) * bytes ≤ 140737488355328 := Nat.le_trans (Nat.mul_le_mul (show _ ≤ 1000000000 by omega) hb) (by decide)
    obtain ⟨v1, w1, hrun, hown', hg1, _, h5⟩ := run_append_own_at (P := P) w B sT ty T i0 z E.k bytes E.hu hi hz0 hz1 hz2 hz E.hk v L.length _ hown ad M.length c (M.flatMap E.enc) (flat_length E M) hcells (flat_one E M) (by unfold maxLen; omega) hbb hB
    have hblk : ∀ k, v1.ownBlock = some k → v.ownBlock = some k ∨ w.heap.size ≤ k := by
      intro k hk
      rcases h5 with h5 | h5
      · exact .inl (h5 ▸ hk)
      · rw [h5] at hk; cases hk; exact .inr (Nat.le_refl _)
    obtain ⟨a', cap', rfl⟩ := ownsRow_form hown'
    refine ⟨a', cap', w1, hrun, ?_, hg1, hblk⟩
    show w1.ownsRow B T E.k _ (L ++ M).length ((L ++ M).flatMap E.enc)
    rw [List.length_append, List.flatMap_append]
    exact hown'
theorem OwnL.grown_below (h : OwnL E w B v L) (hg : w.grownBy w' v.ownBlock) (hB : B ≤ w.heap.size) : Below B w w' := (Below.refl _ _).grown hg hB (fun j hj => (h.lt hj).1)
theorem OwnL.grown_chg (hg : w.grownBy w' v.ownBlock) : Chg (fun k => v.ownBlock = some k) w w' := Chg.grown hg (fun k hk => .inl hk)
/-- append(s, t...), as an operation. -/
theorem wp_appL {o : Oper} {a : Act} {Q : Exit → Act → World → Prop} {K : Act → World → Prop} (E : ElemTy P sT T α) (s x : Operand) (ho : o.op = .call { callee := .builtin .append, args := #[s, x], argTypes := #[sT, sT] })
    {xv : Value} (hs : a.eval s = v) (hown : OwnL E w B v L) (hx : a.eval x = xv) (hM : ListAt E w xv M) {n m : Nat} (hL : L.length = n) (hm : M.length = m) (hn : n + m < 1000000000) (hB : B ≤ w.heap.size)
    (h : ∀ a' cap' w', OwnL E w' B (.slice a' (n + m) cap') (L ++ M) → w.grownBy w' v.ownBlock → (∀ k, (Value.slice a' (n + m) cap').ownBlock = some k → v.ownBlock = some k ∨ w.heap.size ≤ k) → K (a.put o.dst (.slice a' (n + m) cap')) w') : o.wp P a w K Q := by
  subst hL
  subst hm
  obtain ⟨a', cap', w', hrun, h1, h2, h3⟩ := run_appL E (ty := o.type) hown hM hn hB
  unfold Oper.wp execOp
  simp only [ho, resolve, invoke, builtin, Sem.run_bind, Sem.run_pure, Result.andThen_ok, List.map_toArray, List.map_cons, List.map_nil, hs, hx, hrun]
  exact h a' cap' w' h1 h2 h3
theorem wpList_appL {ops : Array Oper} {rest : List Oper} {o : Oper} {a : Act} {Q : Exit → Act → World → Prop} (E : ElemTy P sT T α) (hgd : o.guard = none) (s x : Operand) (ho : o.op = .call { callee := .builtin .append, args := #[s, x], argTypes := #[sT, sT] })
    {xv : Value} (hs : a.eval s = v) (hown : OwnL E w B v L) (hx : a.eval x = xv) (hM : ListAt E w xv M) {n m : Nat} (hL : L.length = n) (hm : M.length = m) (hn : n + m < 1000000000) (hB : B ≤ w.heap.size)
    (h : ∀ a' cap' w', OwnL E w' B (.slice a' (n + m) cap') (L ++ M) → w.grownBy w' v.ownBlock → (∀ k, (Value.slice a' (n + m) cap').ownBlock = some k → v.ownBlock = some k ∨ w.heap.size ≤ k) → wpList P ops Q rest (a.put o.dst (.slice a' (n + m) cap')) w') : wpList P ops Q (o :: rest) a w :=
  wpList_plain hgd fun _ hK => wp_appL E s x ho hs hown hx hM hL hm hn hB fun a' cap' w' h1 h2 h3 => hK _ _ (h a' cap' w' h1 h2 h3)
end

end Go.Proofs.Ytjjanjhoaiannaa
