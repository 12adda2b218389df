/- Visibility: who is shown, in plain lists. No walk. -/
import Derived.Test.YtjjanjhoaiannaaV2
namespace Go.Proofs.Ytjjanjhoaiannaa
open Go.RowKit
set_option linter.unusedVariables false
set_option linter.unusedSimpArgs false

theorem nodup_sub_length {α : Type} [DecidableEq α] : ∀ {l m : List α}, l.Nodup → (∀ x ∈ l, x ∈ m) → l.length ≤ m.length
  | [], m, _, _ => Nat.zero_le _
  | a :: l, m, hn, hs => by
    rw [List.nodup_cons] at hn
    have ha := hs a (by simp)
    have h1 : l.length ≤ (m.erase a).length := nodup_sub_length hn.2 (fun x hx => by
      have hxa : x ≠ a := fun e => hn.1 (e ▸ hx)
      exact (List.mem_erase_of_ne hxa).2 (hs x (by simp [hx])))
    rw [List.length_erase_of_mem ha] at h1
    have := List.length_pos_of_mem ha
    rw [List.length_cons]
    omega

section
variable (L : List RowV) (G : List IdB) (now : Int)
def findRow (q : IdB) : Option RowV := L.find? (fun r => r.id == q)
def stepR (r : RowV) : Option RowV := r.refs.getLast?.bind (findRow L)
def termR (r : RowV) : Bool := match r.refs.getLast? with | none => true | some q => decide (q ∈ G) || decide (r.date + 2880 ≤ now)
def dec : Nat → RowV → Bool
  | 0, _ => false
  | n + 1, r => match stepR L r with | some p => dec n p | none => termR G now r
def shB (r : RowV) : Bool := dec L G now L.length r
def iterR : Nat → RowV → Option RowV
  | 0, r => some r
  | k + 1, r => (stepR L r).bind (iterR k)
variable {L} {G} {now}
theorem findRow_mem {q : IdB} {p : RowV} (h : findRow L q = some p) : p ∈ L ∧ p.id = q := ⟨List.mem_of_find?_eq_some h, eq_of_beq (by simpa only using List.find?_some h)⟩
theorem stepR_mem {r p : RowV} (h : stepR L r = some p) : p ∈ L := by
  unfold stepR at h
  obtain ⟨q, _, hq⟩ := Option.bind_eq_some_iff.1 h
  exact (findRow_mem hq).1
theorem findRow_of (hn : (L.map (·.id)).Nodup) {r : RowV} (hr : r ∈ L) : findRow L r.id = some r := by
  unfold findRow
  induction L with
  | nil => cases hr
  | cons a L ih =>
    rw [List.map_cons, List.nodup_cons] at hn
    rw [List.find?_cons]
    rcases List.mem_cons.1 hr with rfl | h
    · simp
    · have hne : (a.id == r.id) = false := by
        rw [beq_eq_false_iff_ne]
        intro e
        exact hn.1 (by rw [e]; exact List.mem_map_of_mem h)
      rw [hne]
      exact ih hn.2 h
theorem row_eq (hn : (L.map (·.id)).Nodup) {a b : RowV} (ha : a ∈ L) (hb : b ∈ L) (h : a.id = b.id) : a = b := by
  have h1 := findRow_of hn ha
  have h2 := findRow_of hn hb
  rw [h] at h1
  exact Option.some.inj (h1.symm.trans h2)
theorem iterR_add (i : Nat) : ∀ (j : Nat) (r : RowV), iterR L (j + i) r = (iterR L j r).bind (iterR L i)
  | 0, r => by rw [Nat.zero_add, iterR]; rfl
  | j + 1, r => by
    rw [show j + 1 + i = (j + i) + 1 by omega, iterR, iterR]
    cases stepR L r with
    | none => rfl
    | some p => exact iterR_add i j p
theorem iterR_mem {r : RowV} (hr : r ∈ L) : ∀ (k : Nat) {s : RowV}, iterR L k r = some s → s ∈ L := by
  intro k
  induction k generalizing r with
  | zero => intro s h; cases h; exact hr
  | succ k ih =>
    intro s h
    rw [iterR] at h
    obtain ⟨p, h1, h2⟩ := Option.bind_eq_some_iff.1 h
    exact ih (stepR_mem h1) h2
theorem dec_iff : ∀ (n : Nat) (r : RowV), dec L G now n r = true ↔ ∃ k, k < n ∧ ∃ s, iterR L k r = some s ∧ stepR L s = none ∧ termR G now s = true
  | 0, r => by simp [dec]
  | n + 1, r => by
    rw [dec]
    cases h : stepR L r with
    | none =>
      simp only
      constructor
      · intro ht
        exact ⟨0, by omega, r, rfl, h, ht⟩
      · rintro ⟨k, _, s, h1, h2, h3⟩
        cases k with
        | zero => cases h1; exact h3
        | succ k => rw [iterR, h] at h1; cases h1
    | some p =>
      simp only
      rw [dec_iff n p]
      constructor
      · rintro ⟨k, hk, s, h1, h2, h3⟩
        exact ⟨k + 1, by omega, s, by rw [iterR, h]; exact h1, h2, h3⟩
      · rintro ⟨k, hk, s, h1, h2, h3⟩
        cases k with
        | zero => cases h1; rw [h] at h2; cases h2
        | succ k => rw [iterR, h] at h1; exact ⟨k, by omega, s, h1, h2, h3⟩
/-- Where a way ends, it does not come back. -/
theorem iterR_inj {r a s : RowV} {i j k : Nat} (hij : i < j) (hjk : j ≤ k) (hi : iterR L i r = some a) (hj : iterR L j r = some a) (hk : iterR L k r = some s) (hs : stepR L s = none) : False := by
  have h1 : iterR L (k - j) a = some s := by
    have := iterR_add (L := L) (k - j) j r
    rw [show j + (k - j) = k by omega, hk, hj] at this
    exact this.symm
  have h2 : iterR L (i + (k - j)) r = some s := by rw [iterR_add, hi]; exact h1
  have h3 : iterR L (i + (k - j) + 1) r = none := by
    rw [iterR_add, h2]
    show iterR L 1 s = none
    rw [iterR, hs]
    rfl
  have h4 := iterR_add (L := L) (k - (i + (k - j) + 1)) (i + (k - j) + 1) r
  rw [show i + (k - j) + 1 + (k - (i + (k - j) + 1)) = k by omega, hk, h3] at h4
  cases h4
theorem iterR_pre {r s : RowV} {k : Nat} (hk : iterR L k r = some s) {i : Nat} (hi : i ≤ k) : ∃ a, iterR L i r = some a := by
  have h := iterR_add (L := L) (k - i) i r
  rw [show i + (k - i) = k by omega, hk] at h
  cases hq : iterR L i r with
  | none => rw [hq] at h; cases h
  | some a => exact ⟨a, rfl⟩
theorem iterR_short (hn : (L.map (·.id)).Nodup) {r s : RowV} (hr : r ∈ L) {k : Nat} (hk : iterR L k r = some s) (hs : stepR L s = none) : k < L.length := by
  have hex : ∀ i, i < k + 1 → ∃ a, iterR L i r = some a := fun i hi => iterR_pre hk (by omega)
  have hid : ∀ i, i < k + 1 → ∃ q, (iterR L i r).map (·.id) = some q := fun i hi => by obtain ⟨a, ha⟩ := hex i hi; exact ⟨a.id, by rw [ha]; rfl⟩
  let f : Nat → IdB := fun i => ((iterR L i r).map (·.id)).getD default
  have hf : ∀ i, i < k + 1 → ∃ a, iterR L i r = some a ∧ f i = a.id := fun i hi => by
    obtain ⟨a, ha⟩ := hex i hi
    exact ⟨a, ha, by show ((iterR L i r).map (·.id)).getD default = _; rw [ha]; rfl⟩
  have hnd : ((List.range (k + 1)).map f).Nodup := by
    unfold List.Nodup
    rw [List.pairwise_iff_getElem]
    intro i j hi' hj0 hij e
    have hj' : j < k + 1 := by simpa using hj0
    simp only [List.getElem_map, List.getElem_range] at e
    obtain ⟨a, ha, hfa⟩ := hf i (by omega)
    obtain ⟨b, hb, hfb⟩ := hf j hj'
    have hab : a = b := row_eq hn (iterR_mem hr i ha) (iterR_mem hr j hb) (by rw [← hfa, ← hfb, e])
    subst hab
    exact iterR_inj hij (by omega) ha hb hk hs
  have := nodup_sub_length (m := L.map (·.id)) hnd (fun x hx => by
    obtain ⟨i, hi, rfl⟩ := List.mem_map.1 hx
    obtain ⟨a, ha, hfa⟩ := hf i (List.mem_range.1 hi)
    rw [hfa]
    exact List.mem_map_of_mem (iterR_mem hr i ha))
  simp at this
  omega
theorem shB_iff (hn : (L.map (·.id)).Nodup) {r : RowV} (hr : r ∈ L) : shB L G now r = true ↔ ∃ k s, iterR L k r = some s ∧ stepR L s = none ∧ termR G now s = true := by
  unfold shB
  rw [dec_iff]
  constructor
  · rintro ⟨k, _, s, h⟩; exact ⟨k, s, h⟩
  · rintro ⟨k, s, h1, h2, h3⟩; exact ⟨k, iterR_short hn hr h1 h2, s, h1, h2, h3⟩
theorem shB_step (hn : (L.map (·.id)).Nodup) {r p : RowV} (hr : r ∈ L) (h : stepR L r = some p) : shB L G now r = shB L G now p := by
  rw [Bool.eq_iff_iff, shB_iff hn hr, shB_iff hn (stepR_mem h)]
  constructor
  · rintro ⟨k, s, h1, h2, h3⟩
    cases k with
    | zero => cases h1; rw [h] at h2; cases h2
    | succ k => rw [iterR, h] at h1; exact ⟨k, s, h1, h2, h3⟩
  · rintro ⟨k, s, h1, h2, h3⟩
    exact ⟨k + 1, s, by rw [iterR, h]; exact h1, h2, h3⟩
theorem shB_term (hn : (L.map (·.id)).Nodup) {r : RowV} (hr : r ∈ L) (h : stepR L r = none) : shB L G now r = termR G now r := by
  rw [Bool.eq_iff_iff, shB_iff hn hr]
  constructor
  · rintro ⟨k, s, h1, h2, h3⟩
    cases k with
    | zero => cases h1; exact h3
    | succ k => rw [iterR, h] at h1; cases h1
  · intro ht; exact ⟨0, r, rfl, h, ht⟩
theorem shB_cycle (hn : (L.map (·.id)).Nodup) {r : RowV} (hr : r ∈ L) {k : Nat} (hk : 1 ≤ k) (h : iterR L k r = some r) : shB L G now r = false := by
  have hno : ¬ shB L G now r = true := by
    rw [shB_iff hn hr]
    rintro ⟨m, s, h1, h2, _⟩
    have hcyc : ∀ q, iterR L (q * k) r = some r := by
      intro q
      induction q with
      | zero => rw [Nat.zero_mul]; rfl
      | succ q ih => rw [Nat.add_mul, Nat.one_mul, iterR_add, ih]; exact h
    have hle : m ≤ m * k := by
      calc m = m * 1 := by omega
        _ ≤ m * k := Nat.mul_le_mul_left _ hk
    have h5 := iterR_add (L := L) (m * k - m) m r
    rw [show m + (m * k - m) = m * k by omega, hcyc, h1] at h5
    have h6 : iterR L (m * k - m) s = some r := h5.symm
    cases hz : m * k - m with
    | zero =>
      rw [hz] at h6
      cases h6
      cases k with
      | zero => omega
      | succ k => rw [iterR, h2] at h; cases h
    | succ z => rw [hz, iterR, h2] at h6; cases h6
  simpa using hno
end

end Go.Proofs.Ytjjanjhoaiannaa
