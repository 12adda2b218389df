/- DiskFlushed. -/
import Derived.Test.YtkklbmnbjmicnaaLaw2
namespace Go.Proofs.Ytkklbmnbjmicnaa
open Go.RowKit Go.Shelf
set_option linter.unusedVariables false
set_option linter.unusedSimpArgs false

/-- Nothing is pending for sector i, whose durable bytes are D. -/
structure Unt (i : Nat) (D : List UInt8) (S : DS) : Prop where
  dur : S.dur.getD i zeros = D
  pend : ∀ x ∈ S.pend, x.1 ≠ i
theorem rdur_unt {i : Nat} {D : List UInt8} {S : DS} (h : Unt i D S) (cs : List UInt8) : ∀ k, (rdur S cs k).getD i zeros = D
  | 0 => h.dur
  | k + 1 => by
    unfold rdur
    cases hp : S.pend[k]? with
    | none => exact rdur_unt h cs k
    | some x =>
      have hx := h.pend x (List.mem_of_getElem? hp)
      simp only
      rw [List.getD_eq_getElem?_getD, List.getElem?_set, if_neg hx, ← List.getD_eq_getElem?_getD]
      exact rdur_unt h cs k
theorem Unt.operate {i : Nat} {D : List UInt8} {S : DS} (h : Unt i D S) : Unt i D S.operate.1 := ⟨by rw [(operate_pend S).2]; exact h.dur, by rw [(operate_pend S).1]; exact h.pend⟩
theorem Unt.write {i : Nat} {D : List UInt8} {S : DS} (h : Unt i D S) (s : Int) (hs : s ≠ i) (l : List UInt8) : Unt i D (S.write s l).1 := by
  unfold DS.write
  have ho := h.operate
  split
  · exact h
  · split
    · rename_i hh
      have h0 : 0 ≤ s ∧ s < (S.dur.length : Int) := by simpa [DS.has] using hh
      split
      · split
        · refine ⟨ho.dur, fun x hx => ?_⟩
          rcases List.mem_append.1 hx with hx | hx
          · exact ho.pend x hx
          · simp only [List.mem_singleton] at hx
            subst hx
            show s.toNat ≠ i
            omega
        · exact ho
      · exact h
    · exact h
theorem Unt.doOp {i : Nat} {D : List UInt8} {S : DS} (h : Unt i D S) (o : OpD) (ho : o.s ≠ i) : Unt i D (S.doOp o) := by
  unfold DS.doOp
  split
  · exact h.write _ ho _
  split
  · unfold DS.flush
    split
    · exact h
    · split
      · exact ⟨rdur_unt h _ _, by simp⟩
      · exact h.operate
  split
  · exact h
  split
  · exact ⟨h.dur, h.pend⟩
  split
  · unfold DS.restart
    split
    · exact ⟨rdur_unt h _ _, by simp⟩
    · exact h
  split
  · exact ⟨h.dur, h.pend⟩
  split
  · unfold DS.damage
    split
    · rename_i hh
      have h0 : 0 ≤ o.s ∧ o.s < (S.dur.length : Int) := by simpa [DS.has] using hh
      split
      · refine ⟨?_, fun x hx => ?_⟩
        · have hne : o.s.toNat ≠ i := by omega
          show (S.dur.set _ _).getD i zeros = D
          rw [List.getD_eq_getElem?_getD, List.getElem?_set, if_neg hne, ← List.getD_eq_getElem?_getD]
          exact h.dur
        · obtain ⟨y, hy, rfl⟩ := List.mem_map.1 hx
          rw [(dmg_length _ _ _).2]
          exact h.pend y hy
      · exact h
    · exact h
  split
  · exact h.write _ ho _
  · exact h

theorem flush_cases (S : DS) : S.flush.2 = 28 ∨ (S.flush.2 = 0 ∧ S.flush.1.down = false ∧ S.flush.1.pend = [] ∧ S.flush.1.dur = fdur S S.pend.length) := by
  unfold DS.flush
  cases hd : S.down with
  | true => left; simp
  | false =>
    cases ho : S.operate.2 with
    | false => left; simp
    | true =>
      right
      simp only [Bool.false_eq_true, if_false, if_true, true_and, and_true]
      have : S.operate.1.down = S.down := by
        unfold DS.operate at ho ⊢
        cases hl : S.limit with
        | none => rfl
        | some m => cases m with
          | zero => rw [hl] at ho; simp at ho
          | succ m => rfl
      rw [this, hd]

def afterDS (S : DS) (l : List OpD) : DS := l.foldl DS.doOp S
theorem afterDS_succ (S : DS) (l : List OpD) (k : Nat) (hk : k < l.length) : afterDS S (l.take (k + 1)) = (afterDS S (l.take k)).doOp l[k] := by
  unfold afterDS
  rw [List.take_add_one, List.getElem?_eq_getElem hk, List.foldl_append]
  rfl
theorem afterDS_bnd {S : DS} {q : Nat} (hS : Bnd q S) (l : List OpD) (ha : ∀ o ∈ l, o.a ≤ 9223372036854775807) : ∀ k, k ≤ l.length → Bnd (q + k) (afterDS S (l.take k))
  | 0, _ => by simpa [afterDS] using hS
  | k + 1, hk => by
    rw [afterDS_succ S l k (by omega)]
    exact (afterDS_bnd hS l ha k (by omega)).doOp _ (ha _ (List.getElem_mem _))
theorem doOp_len (S : DS) (o : OpD) : (S.doOp o).dur.length = S.dur.length := by
  have hw : ∀ s l, (S.write s l).1.dur.length = S.dur.length := fun s l => by
    have := (operate_pend S).2
    unfold DS.write
    split
    · rfl
    · split
      · split
        · split
          · show S.operate.1.dur.length = _; rw [this]
          · rw [this]
        · rfl
      · rfl
  unfold DS.doOp
  split
  · exact hw _ _
  split
  · unfold DS.flush
    split
    · rfl
    · split
      · exact rdur_length _ _ _
      · rw [(operate_pend S).2]
  split
  · rfl
  split
  · rfl
  split
  · unfold DS.restart
    split
    · exact rdur_length _ _ _
    · rfl
  split
  · rfl
  split
  · unfold DS.damage
    split
    · split
      · simp
      · rfl
    · rfl
  split
  · exact hw _ _
  · rfl
theorem afterDS_len (S : DS) (l : List OpD) : ∀ k, k ≤ l.length → (afterDS S (l.take k)).dur.length = S.dur.length
  | 0, _ => by simp [afterDS]
  | k + 1, hk => by rw [afterDS_succ S l k (by omega), doOp_len]; exact afterDS_len S l k (by omega)
theorem runDS_len (n : Nat) (l : List OpD) : (runDS n l).dur.length = n := by
  have h := afterDS_len (newDS n) l l.length (Nat.le_refl _)
  rw [List.take_length] at h
  unfold runDS
  unfold afterDS at h
  rw [h]
  simp [newDS]

set_option maxRecDepth 100000 in
theorem make_bools (n : Nat) (h1 : 1 ≤ n) (h2 : n ≤ 12) : ∀ w, (Instr.makeSlice 34 (.int .i64 (n : Int)) (.int .i64 (n : Int))).run Try.prog w = .ok (.slice (some ⟨w.heap.size, 0, none⟩) n n) (w.alloc (.cells (Array.replicate n (Value.bool false)) 4)) := by
  rcases (by omega : n = 1 ∨ n = 2 ∨ n = 3 ∨ n = 4 ∨ n = 5 ∨ n = 6 ∨ n = 7 ∨ n = 8 ∨ n = 9 ∨ n = 10 ∨ n = 11 ∨ n = 12) with h | h | h | h | h | h | h | h | h | h | h | h <;> subst h <;> intro w <;> kernel_rfl


theorem unt_after {S1 : DS} {i : Nat} {D : List UInt8} (h0 : Unt i D S1) (la' : List OpD) : ∀ k, k ≤ la'.length → (∀ m, ∀ hm : m < la'.length, m < k → la'[m].s ≠ (i : Int)) → Unt i D (afterDS S1 (la'.take k))
  | 0, _, _ => by simpa [afterDS] using h0
  | k + 1, hk, hn => by
    rw [afterDS_succ S1 la' k (by omega)]
    exact (unt_after h0 la' k (by omega) (fun m hm hmk => hn m hm (by omega))).doOp _ (hn k (by omega) (by omega))
theorem tinv_set {la' : List OpD} {T : List Bool} {n k : Nat} (hTl : T.length = n) (h : ∀ i : Nat, T.getD i false = false → i < n → ∀ m, ∀ hm : m < la'.length, m < k → la'[m].s ≠ (i : Int)) (hk : k < la'.length) (h0 : 0 ≤ la'[k].s) :
    ∀ i : Nat, (T.set la'[k].s.toNat true).getD i false = false → i < n → ∀ m, ∀ hm : m < la'.length, m < k + 1 → la'[m].s ≠ (i : Int) := by
  intro i hf hi m hm hmk
  have hne : la'[k].s.toNat ≠ i := by
    intro e
    rw [List.getD_eq_getElem?_getD, List.getElem?_set, if_pos e, if_pos (by omega)] at hf
    cases hf
  by_cases hmk2 : m = k
  · subst hmk2; omega
  · refine h i ?_ hi m hm (by omega)
    rw [List.getD_eq_getElem?_getD, List.getElem?_set, if_neg hne, ← List.getD_eq_getElem?_getD] at hf
    exact hf
theorem tinv_skip {la' : List OpD} {T : List Bool} {n k : Nat} (h : ∀ i : Nat, T.getD i false = false → i < n → ∀ m, ∀ hm : m < la'.length, m < k → la'[m].s ≠ (i : Int)) (hk : k < la'.length) (h0 : ¬ (0 ≤ la'[k].s ∧ la'[k].s < (n : Int))) :
    ∀ i : Nat, T.getD i false = false → i < n → ∀ m, ∀ hm : m < la'.length, m < k + 1 → la'[m].s ≠ (i : Int) := by
  intro i hf hi m hm hmk
  by_cases hmk2 : m = k
  · subst hmk2; omega
  · exact h i hf hi m hm (by omega)

end Go.Proofs.Ytkklbmnbjmicnaa
