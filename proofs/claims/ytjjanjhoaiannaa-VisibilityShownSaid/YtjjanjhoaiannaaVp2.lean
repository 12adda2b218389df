/- Visibility: the marks of the law's own search end where the program's decision ends. No walk. -/
import Derived.Test.YtjjanjhoaiannaaV9
import Derived.Test.YtjjanjhoaiannaaVp1
namespace Go.Proofs.Ytjjanjhoaiannaa
open Go.RowKit
set_option linter.unusedVariables false
set_option linter.unusedSimpArgs false

section
variable (L : List RowV) (G : List IdB) (now : Int)
def okM (M : List Bool) (r : RowV) : Bool := match r.refs.getLast? with
  | none => true
  | some q => match L.findIdx? (fun r => r.id == q) with
    | some k => M.getD k false
    | none => decide (q ∈ G) || decide (r.date + 2880 ≤ now)
def Snd (M : List Bool) : Prop := ∀ i (h : i < L.length), M.getD i false = true → shB L G now L[i] = true
def ClosedTo (M : List Bool) (j : Nat) : Prop := ∀ i (h : i < L.length), i < j → okM L G now M L[i] = true → M.getD i false = true
variable {L G now}
theorem find_idx {q : IdB} : (∀ {k : Nat}, L.findIdx? (fun r => r.id == q) = some k → ∃ h : k < L.length, findRow L q = some L[k]) ∧ (L.findIdx? (fun r => r.id == q) = none → findRow L q = none) := by
  constructor
  · intro k hk
    obtain ⟨h, h1, h2⟩ := List.findIdx?_eq_some_iff_getElem.1 hk
    refine ⟨h, ?_⟩
    unfold findRow
    rw [List.find?_eq_some_iff_getElem]
    exact ⟨h1, k, h, rfl, fun j hj => by simpa using h2 j hj⟩
  · intro hn
    unfold findRow
    rw [List.find?_eq_none]
    intro x hx hb
    have := List.findIdx?_eq_none_iff.1 hn x hx
    rw [this] at hb
    cases hb
theorem okM_shB (hn : (L.map (·.id)).Nodup) {M : List Bool} (hs : Snd L G now M) {r : RowV} (hr : r ∈ L) (h : okM L G now M r = true) : shB L G now r = true := by
  unfold okM at h
  cases hq : r.refs.getLast? with
  | none =>
    have : stepR L r = none := by unfold stepR; rw [hq]; rfl
    rw [shB_term hn hr this]
    unfold termR
    rw [hq]
  | some q =>
    rw [hq] at h
    cases hk : L.findIdx? (fun r => r.id == q) with
    | some k =>
      simp only [hk] at h
      obtain ⟨hlt, hf⟩ := find_idx.1 hk
      have hst : stepR L r = some L[k] := by unfold stepR; rw [hq]; exact hf
      rw [shB_step hn hr hst]
      exact hs k hlt h
    | none =>
      simp only [hk] at h
      have hst : stepR L r = none := by unfold stepR; rw [hq]; exact find_idx.2 hk
      rw [shB_term hn hr hst]
      unfold termR
      rw [hq]
      exact h
theorem dec_closed {M : List Bool} (hc : ClosedTo L G now M L.length) : ∀ (n : Nat) (i : Nat) (h : i < L.length), dec L G now n L[i] = true → M.getD i false = true
  | 0, i, h, hd => by simp [dec] at hd
  | n + 1, i, h, hd => by
    refine hc i h h ?_
    unfold okM
    rw [dec] at hd
    cases hq : L[i].refs.getLast? with
    | none => rfl
    | some q =>
      cases hk : L.findIdx? (fun r => r.id == q) with
      | some k =>
        obtain ⟨hlt, hf⟩ := find_idx.1 hk
        have hst : stepR L L[i] = some L[k] := by unfold stepR; rw [hq]; exact hf
        rw [hst] at hd
        simp only [hk]
        exact dec_closed hc n k hlt hd
      | none =>
        have hst : stepR L L[i] = none := by unfold stepR; rw [hq]; exact find_idx.2 hk
        rw [hst] at hd
        simp only [hk]
        unfold termR at hd
        rw [hq] at hd
        exact hd
theorem marks_eq {M : List Bool} (hl : M.length = L.length) (hs : Snd L G now M) (hc : ClosedTo L G now M L.length) : M = L.map (shB L G now) := by
  apply List.ext_getElem (by rw [List.length_map, hl])
  intro i h1 h2
  have h3 : i < L.length := by omega
  rw [List.getElem_map]
  have hg : M.getD i false = M[i] := by rw [List.getD_eq_getElem?_getD, List.getElem?_eq_getElem h1]; rfl
  rw [Bool.eq_iff_iff]
  constructor
  · intro h; exact hs i h3 (hg.trans h)
  · intro h; rw [← hg]; exact dec_closed hc _ i h3 h
end

theorem count_set {M : List Bool} {i : Nat} (h : i < M.length) (hf : M[i] = false) : (M.set i true).count false + 1 = M.count false := by
  induction M generalizing i with
  | nil => simp at h
  | cons b M ih =>
    cases i with
    | zero =>
      simp only [List.getElem_cons_zero] at hf
      subst hf
      rw [List.set_cons_zero, List.count_cons, List.count_cons]
      simp
    | succ i =>
      rw [List.set_cons_succ, List.count_cons, List.count_cons]
      have := ih (i := i) (by simpa using h) (by simpa using hf)
      omega
def isF : Value → Bool | .bool false => true | _ => false
def cntW (b : Nat) (w : World) : Nat := match w.heap[b]? with | some (.cells c _ _) => c.toList.countP isF | _ => 0
theorem cntW_of {w : World} {b : Nat} {M : List Bool} {T : TypeId} (h : w.heap[b]? = some (.cells (M.map Value.bool).toArray T (0, 0))) : cntW b w = M.count false := by
  unfold cntW
  rw [h]
  show ((M.map Value.bool).toArray.toList).countP isF = _
  rw [List.countP_map, List.count]
  apply List.countP_congr
  intro x _
  cases x <;> simp [isF]
theorem Snd.set {L : List RowV} {G : List IdB} {now : Int} (hn : (L.map (·.id)).Nodup) {M : List Bool} (hs : Snd L G now M) {i : Nat} (hi : i < L.length) (hok : okM L G now M L[i] = true) : Snd L G now (M.set i true) := by
  intro j hj h
  by_cases e : i = j
  · subst e
    exact okM_shB hn hs (List.getElem_mem hj) hok
  · refine hs j hj ?_
    rw [List.getD_eq_getElem?_getD, List.getElem?_set_ne e] at h
    rw [List.getD_eq_getElem?_getD]
    exact h
theorem getD_map_bool {M : List Bool} {i : Nat} (h : i < M.length) : (M.map Value.bool)[i]? = some (.bool (M.getD i false)) := by
  rw [List.getElem?_map, List.getElem?_eq_getElem h, List.getD_eq_getElem?_getD, List.getElem?_eq_getElem h]
  rfl
theorem own_marks {w : World} {B g : Nat} {M : List Bool} (h : w.heap[g]? = some (.cells (M.map Value.bool).toArray 4 (0, 0))) (hB : B ≤ g) (hm : M.length ≤ maxLen) : OwnL boolE w B (.slice (some ⟨g, 0, none⟩) M.length M.length) M := by
  show World.ownsRow _ B 4 1 _ M.length (M.flatMap boolE.enc)
  rw [flat_bool]
  exact ⟨by simp, .inr ⟨g, M.length, _, rfl, hB, h, Nat.le_refl _, hm, by simp, by rw [Nat.mul_one, List.take_of_length_le (by simp)]⟩⟩
theorem make_marks (n : Nat) (hn : n ≤ 1000000000) : ∀ w, (Instr.makeSlice 44 (.int .i64 (n : Int)) (.int .i64 (n : Int))).run Try.prog w = .ok (.slice (some ⟨w.heap.size, 0, none⟩) n n) (w.alloc (.cells ((List.replicate n false).map Value.bool).toArray 4)) := by
  intro w
  obtain ⟨z, bytes, hinfo, hz, hb⟩ := boolE.hi
  obtain ⟨i0, hi, hz0, hz1, hz2⟩ := info_parts (show (Try.prog.info? 4).map (fun i => (i.zero, i.size, i.bytes)) = some (some (.bool false), 1, 1) by kernel_rfl)
  have h := run_make (P := Try.prog) w 44 4 i0 _ Try.underlying44 hi hz0 .i64 .i64 (n : Int) (n : Int) (by omega) (Int.le_refl _) (by rw [hz2]; omega) (by omega)
  rw [h, hz1]
  have e : madeCells (Value.bool false).cells ((n : Int).toNat * 1) = ((List.replicate n false).map Value.bool).toArray := by
    apply Array.ext'
    unfold madeCells
    rw [List.map_replicate]
    apply List.ext_getElem
    · simp
    · intro j h1 h2
      simp [Value.cells, Nat.mod_one]
  rw [e]
  rfl

end Go.Proofs.Ytjjanjhoaiannaa
