/- Visibility: the law's before; lists of marks; Visibility: the marks of the law's own search end where the program's decision ends. No walk. -/
import Derived.Test.YtjjanjhoaiannaaV8
import Derived.Test.YtjjanjhoaiannaaGenP
import Derived.Test.YtjjanjhoaiannaaVp1
namespace Go.Proofs.Ytjjanjhoaiannaa
open Go.RowKit Go.Lib Go.Sort
set_option linter.unusedVariables false
set_option linter.unusedSimpArgs false

theorem less_cmp : ∀ a b : List UInt8, Op.bytesLess a b = decide (compareBytes a b < 0)
  | [], [] => rfl
  | [], _ :: _ => rfl
  | _ :: _, [] => rfl
  | a :: x, b :: y => by
    unfold Op.bytesLess compareBytes
    rw [less_cmp x y]
    by_cases h1 : a < b
    · simp [h1]
    · by_cases h2 : b < a
      · have hne : a ≠ b := fun e => UInt8.lt_irrefl b (e ▸ h2)
        simp [h1, h2, hne]
      · have he : a = b := UInt8.le_antisymm (UInt8.not_lt.1 h2) (UInt8.not_lt.1 h1)
        simp [h1, h2, he]
theorem str_id {w : World} {g : Nat} {a : IdB} (h : w.rangeAt g 0 (bvs a.1)) : (convert 87 9 (.slice (some ⟨g, 0, none⟩) 32 32)).run Try.prog w = .ok (.string ⟨a.1.toArray⟩) w := by
  have hb : BytesAt w (fun _ => True) (.slice (some ⟨g, 0, none⟩) a.1.length 32) a.1 := ⟨_, _, rfl, by rw [a.2]; exact Nat.le_refl _, fun _ => ⟨g, 0, rfl, trivial, id_lt h, h⟩⟩
  have h2 := hb.str
  rw [a.2] at h2
  exact h2
set_option maxHeartbeats 2000000 in
theorem before_any {w : World} (a b : IdB) :
    Calls Try.prog 31 #[.agg (bvs a.1).toArray, .agg (bvs b.1).toArray] w fun e w' => e = .returned (.bool (ltOf cmpB a b)) ∧ Below w.heap.size w w' := by
  obtain ⟨w1, hw1⟩ : ∃ w1, w.alloc (.cells (bvs a.1).toArray 31) = w1 := ⟨_, rfl⟩
  obtain ⟨w2, hw2⟩ : ∃ w2, w1.alloc (.cells (bvs b.1).toArray 31) = w2 := ⟨_, rfl⟩
  have hx1 : w1.heap[w.heap.size]? = some (.cells (bvs a.1).toArray 31 (0, 0)) := by rw [← hw1]; exact heap_alloc_new _ _
  have hx2 : w2.heap[w1.heap.size]? = some (.cells (bvs b.1).toArray 31 (0, 0)) := by rw [← hw2]; exact heap_alloc_new _ _
  have hb1 : Below w.heap.size w w1 := hw1 ▸ (Below.refl _ _).alloc (Nat.le_refl _) _
  have hb2 : Below w1.heap.size w1 w2 := hw2 ▸ (Below.refl _ _).alloc (Nat.le_refl _) _
  have hx1 := (hb2.block _ (Array.getElem?_eq_some_iff.1 hx1).1).trans hx1
  obtain ⟨sa, hsa⟩ : ∃ sa : ByteArray, (⟨a.1.toArray⟩ : ByteArray) = sa := ⟨_, rfl⟩
  obtain ⟨sb, hsb⟩ : ∃ sb : ByteArray, (⟨b.1.toArray⟩ : ByteArray) = sb := ⟨_, rfl⟩
  have h1 : ∀ w', Below w2.heap.size w2 w' → (convert 87 9 (.slice (some ⟨w.heap.size, 0, none⟩) 32 32)).run Try.prog w' = .ok (.string sa) w' := fun w' hw' => by
    rw [← hsa]
    exact str_id (range_block ((hw'.block _ (Array.getElem?_eq_some_iff.1 hx1).1).trans hx1))
  have h2 : ∀ w', Below w2.heap.size w2 w' → (convert 87 9 (.slice (some ⟨w1.heap.size, 0, none⟩) 32 32)).run Try.prog w' = .ok (.string sb) w' := fun w' hw' => by
    rw [← hsb]
    exact str_id (range_block ((hw'.block _ (Array.getElem?_eq_some_iff.1 hx2).1).trans hx2))
  have hless : Op.bytesLess sa.toList sb.toList = ltOf cmpB a b := by
    rw [← hsa, ← hsb, ByteArray.toList_mk, ByteArray.toList_mk, less_cmp]
    rfl
  obtain ⟨bb, hbb⟩ : ∃ bb, ltOf cmpB a b = bb := ⟨_, rfl⟩
  rw [hbb] at hless ⊢
  have HS1 := Lib.hid h1
  have HS2 := Lib.hid h2
  have HB := Lib.hid (hb1.trans (hb2.mono hb1.size))
  clear hx1 hx2 hb1 hb2 h1 h2 hsa hsb hbb
  go_enter Try.func31, Try.ntmps31
  go_wp2_with fail
  refine wp_region_noPanic ?_
  refine wp_region_H (Below w2.heap.size w2) (by kernel_rfl) ?_
  have hS0 : (Below w2.heap.size w2) w2.drew := (Below.refl _ _).drew
  obtain ⟨wd, hwd⟩ : ∃ wd, w2.drew = wd := ⟨_, rfl⟩
  rw [hwd] at hS0 ⊢
  clear hwd
  refine wpAnyH_takeI (i := 0) (v := ?v1) rfl (by kernel_rfl) (by kernel_rfl) (by kernel_rfl) (fun _ _ _ h => h) (yieldsIf_run rfl (fun w' hw' => ?y1)) hS0 ?_
  case y1 => first | (go_simp; rfl) | (go_simp; done) | rfl
  simp only [Act.put, List.setIfInBounds_toArray, List.set_cons_zero, List.set_cons_succ]
  refine wpAnyH_takeI (i := 1) (v := .string sa) rfl (by kernel_rfl) (by kernel_rfl) (by kernel_rfl) (fun _ _ _ h => h) (yieldsIf_run rfl (fun w' hw' => ?y2)) hS0 ?_
  case y2 => (have HS := HS1.out w' hw'; clear hw'; first | (go_simp; rfl) | (go_simp; done))
  simp only [Act.put, List.setIfInBounds_toArray, List.set_cons_zero, List.set_cons_succ]
  refine wpAnyH_takeI (i := 2) (v := ?v3) rfl (by kernel_rfl) (by kernel_rfl) (by kernel_rfl) (fun _ _ _ h => h) (yieldsIf_run rfl (fun w' hw' => ?y3)) hS0 ?_
  case y3 => first | (go_simp; rfl) | (go_simp; done) | rfl
  simp only [Act.put, List.setIfInBounds_toArray, List.set_cons_zero, List.set_cons_succ]
  refine wpAnyH_takeI (i := 3) (v := .string sb) rfl (by kernel_rfl) (by kernel_rfl) (by kernel_rfl) (fun _ _ _ h => h) (yieldsIf_run rfl (fun w' hw' => ?y4)) hS0 ?_
  case y4 => (have HS := HS2.out w' hw'; clear hw'; first | (go_simp; rfl) | (go_simp; done))
  simp only [Act.put, List.setIfInBounds_toArray, List.set_cons_zero, List.set_cons_succ]
  refine wpAnyH_takeI (i := 4) (v := .bool bb) rfl (by kernel_rfl) (by kernel_rfl) (by kernel_rfl) (fun _ _ _ h => h) (yieldsIf_run rfl (fun w' hw' => ?y5)) hS0 ?_
  case y5 => first | (go_simp; rfl) | (go_simp; done) | rfl
  simp only [Act.put, List.setIfInBounds_toArray, List.set_cons_zero, List.set_cons_succ]
  refine wpAnyH_takeI (i := 5) (v := ?v6) rfl (by kernel_rfl) (by kernel_rfl) (by kernel_rfl) (fun _ _ _ h => h) (yieldsIf_run rfl (fun w' hw' => ?y6)) hS0 ?_
  case y6 => first | (go_simp; rfl) | (go_simp; done) | rfl
  simp only [Act.put, List.setIfInBounds_toArray, List.set_cons_zero, List.set_cons_succ]
  refine wpAnyH_done (by kernel_rfl) ?_ _
  refine NoPanic.normal ?_

  go_wp2_with fail
  exact bodyPost_ret (v := .bool bb) (by simp [results, Try.results31, go_sem]) rfl ⟨rfl, HB.out.trans (hS0.mono HB.out.size)⟩

def boolE : ElemTy Try.prog 44 4 Bool where
  enc b := [.bool b]
  k := 1
  hu := Try.underlying44
  hi := ⟨.bool false, 1, by kernel_rfl, rfl, by decide⟩
  hk := by decide
  len _ := rfl
  one b v hv := by rw [List.mem_singleton.1 hv]; rfl
theorem flat_bool (M : List Bool) : M.flatMap boolE.enc = M.map Value.bool := by
  induction M with
  | nil => rfl
  | cons b M ih => rw [List.flatMap_cons, ih]; rfl
theorem ownB_row {w : World} {B : Nat} {a : Option Addr} {n c : Nat} {M : List Bool} (h : OwnL boolE w B (.slice a n c) M) {i : Nat} (hi : i < M.length) :
    ∃ g cur, a = some ⟨g, 0, none⟩ ∧ n = M.length ∧ w.heap[g]? = some (.cells cur 4 (0, 0)) ∧ cur[i]? = some (.bool M[i]) ∧ B ≤ g ∧
      OwnL boolE (w.setCell ⟨g, i, none⟩ (.bool true)) B (.slice a n c) (M.set i true) := by
  have hh : w.ownsRow B 4 1 (.slice a n c) M.length (M.flatMap boolE.enc) := h
  rcases hh.2 with ⟨e, h0⟩ | ⟨g, cap, cur, e, hb, hg, h1, h2, h3, h4⟩
  · omega
  · simp only [Value.slice.injEq] at e
    obtain ⟨rfl, rfl, rfl⟩ := e
    rw [Nat.mul_one, flat_bool] at h4
    have hget : cur[i]? = some (.bool M[i]) := by
      have : (cur.toList.take M.length)[i]? = (M.map Value.bool)[i]? := by rw [h4]
      rw [List.getElem?_take, if_pos hi, Array.getElem?_toList, List.getElem?_map, List.getElem?_eq_getElem hi] at this
      exact this
    refine ⟨g, cur, rfl, rfl, hg, hget, hb, ?_⟩
    show World.ownsRow _ B 4 1 _ (M.set i true).length ((M.set i true).flatMap boolE.enc)
    rw [flat_bool, List.length_set]
    refine ⟨by simp, .inr ⟨g, c, _, rfl, hb, heap_setCell_same _ _ _ _ _ _ hg, h1, h2, by simpa using h3, ?_⟩⟩
    rw [Nat.mul_one, Array.toList_setIfInBounds, List.take_set, h4, List.map_set]

end Go.Proofs.Ytjjanjhoaiannaa

namespace Go.Proofs.Ytjjanjhoaiannaa
open Go.RowKit
set_option linter.unusedVariables false
set_option linter.unusedSimpArgs false

section
variable (L : List RowV) (G : List IdB) (now : Int)
def okM (M : List Bool) (r : RowV) : Bool := match r.refs.getLast? with
  | none => true
  | some q => match L.findIdx? (fun r => r.id == q) with
    | some k => M.getD k false
    | none => decide (q ∈ G) || decide (r.date + 2880 ≤ now)
def Snd (M : List Bool) : Prop := ∀ i (h : i < L.length), M.getD i false = true → shB L G now L[i] = true
def ClosedTo (M : List Bool) (j : Nat) : Prop := ∀ i (h : i < L.length), i < j → okM L G now M L[i] = true → M.getD i false = true
variable {L G now}
theorem find_idx {q : IdB} : (∀ {k : Nat}, L.findIdx? (fun r => r.id == q) = some k → ∃ h : k < L.length, findRow L q = some L[k]) ∧ (L.findIdx? (fun r => r.id == q) = none → findRow L q = none) := by
  constructor
  · intro k hk
    obtain ⟨h, h1, h2⟩ := List.findIdx?_eq_some_iff_getElem.1 hk
    refine ⟨h, ?_⟩
    unfold findRow
    rw [List.find?_eq_some_iff_getElem]
    exact ⟨h1, k, h, rfl, fun j hj => by simpa using h2 j hj⟩
  · intro hn
    unfold findRow
    rw [List.find?_eq_none]
    intro x hx hb
    have := List.findIdx?_eq_none_iff.1 hn x hx
    rw [this] at hb
    cases hb
theorem okM_shB (hn : (L.map (·.id)).Nodup) {M : List Bool} (hs : Snd L G now M) {r : RowV} (hr : r ∈ L) (h : okM L G now M r = true) : shB L G now r = true := by
  unfold okM at h
  cases hq : r.refs.getLast? with
  | none =>
    have : stepR L r = none := by unfold stepR; rw [hq]; rfl
    rw [shB_term hn hr this]
    unfold termR
    rw [hq]
  | some q =>
    rw [hq] at h
    cases hk : L.findIdx? (fun r => r.id == q) with
    | some k =>
      simp only [hk] at h
      obtain ⟨hlt, hf⟩ := find_idx.1 hk
      have hst : stepR L r = some L[k] := by unfold stepR; rw [hq]; exact hf
      rw [shB_step hn hr hst]
      exact hs k hlt h
    | none =>
      simp only [hk] at h
      have hst : stepR L r = none := by unfold stepR; rw [hq]; exact find_idx.2 hk
      rw [shB_term hn hr hst]
      unfold termR
      rw [hq]
      exact h
theorem dec_closed {M : List Bool} (hc : ClosedTo L G now M L.length) : ∀ (n : Nat) (i : Nat) (h : i < L.length), dec L G now n L[i] = true → M.getD i false = true
  | 0, i, h, hd => by simp [dec] at hd
  | n + 1, i, h, hd => by
    refine hc i h h ?_
    unfold okM
    rw [dec] at hd
    cases hq : L[i].refs.getLast? with
    | none => rfl
    | some q =>
      cases hk : L.findIdx? (fun r => r.id == q) with
      | some k =>
        obtain ⟨hlt, hf⟩ := find_idx.1 hk
        have hst : stepR L L[i] = some L[k] := by unfold stepR; rw [hq]; exact hf
        rw [hst] at hd
        simp only [hk]
        exact dec_closed hc n k hlt hd
      | none =>
        have hst : stepR L L[i] = none := by unfold stepR; rw [hq]; exact find_idx.2 hk
        rw [hst] at hd
        simp only [hk]
        unfold termR at hd
        rw [hq] at hd
        exact hd
theorem marks_eq {M : List Bool} (hl : M.length = L.length) (hs : Snd L G now M) (hc : ClosedTo L G now M L.length) : M = L.map (shB L G now) := by
  apply List.ext_getElem (by rw [List.length_map, hl])
  intro i h1 h2
  have h3 : i < L.length := by omega
  rw [List.getElem_map]
  have hg : M.getD i false = M[i] := by rw [List.getD_eq_getElem?_getD, List.getElem?_eq_getElem h1]; rfl
  rw [Bool.eq_iff_iff]
  constructor
  · intro h; exact hs i h3 (hg.trans h)
  · intro h; rw [← hg]; exact dec_closed hc _ i h3 h
end

theorem count_set {M : List Bool} {i : Nat} (h : i < M.length) (hf : M[i] = false) : (M.set i true).count false + 1 = M.count false := by
  induction M generalizing i with
  | nil => simp at h
  | cons b M ih =>
    cases i with
    | zero =>
      simp only [List.getElem_cons_zero] at hf
      subst hf
      rw [List.set_cons_zero, List.count_cons, List.count_cons]
      simp
    | succ i =>
      rw [List.set_cons_succ, List.count_cons, List.count_cons]
      have := ih (i := i) (by simpa using h) (by simpa using hf)
      omega
def isF : Value → Bool | .bool false => true | _ => false
def cntW (b : Nat) (w : World) : Nat := match w.heap[b]? with | some (.cells c _ _) => c.toList.countP isF | _ => 0
theorem cntW_of {w : World} {b : Nat} {M : List Bool} {T : TypeId} (h : w.heap[b]? = some (.cells (M.map Value.bool).toArray T (0, 0))) : cntW b w = M.count false := by
  unfold cntW
  rw [h]
  show ((M.map Value.bool).toArray.toList).countP isF = _
  rw [List.countP_map, List.count]
  apply List.countP_congr
  intro x _
  cases x <;> simp [isF]
theorem Snd.set {L : List RowV} {G : List IdB} {now : Int} (hn : (L.map (·.id)).Nodup) {M : List Bool} (hs : Snd L G now M) {i : Nat} (hi : i < L.length) (hok : okM L G now M L[i] = true) : Snd L G now (M.set i true) := by
  intro j hj h
  by_cases e : i = j
  · subst e
    exact okM_shB hn hs (List.getElem_mem hj) hok
  · refine hs j hj ?_
    rw [List.getD_eq_getElem?_getD, List.getElem?_set_ne e] at h
    rw [List.getD_eq_getElem?_getD]
    exact h
theorem getD_map_bool {M : List Bool} {i : Nat} (h : i < M.length) : (M.map Value.bool)[i]? = some (.bool (M.getD i false)) := by
  rw [List.getElem?_map, List.getElem?_eq_getElem h, List.getD_eq_getElem?_getD, List.getElem?_eq_getElem h]
  rfl
theorem own_marks {w : World} {B g : Nat} {M : List Bool} (h : w.heap[g]? = some (.cells (M.map Value.bool).toArray 4 (0, 0))) (hB : B ≤ g) (hm : M.length ≤ maxLen) : OwnL boolE w B (.slice (some ⟨g, 0, none⟩) M.length M.length) M := by
  show World.ownsRow _ B 4 1 _ M.length (M.flatMap boolE.enc)
  rw [flat_bool]
  exact ⟨by simp, .inr ⟨g, M.length, _, rfl, hB, h, Nat.le_refl _, hm, by simp, by rw [Nat.mul_one, List.take_of_length_le (by simp)]⟩⟩
theorem make_marks (n : Nat) (hn : n ≤ 1000000000) : ∀ w, (Instr.makeSlice 44 (.int .i64 (n : Int)) (.int .i64 (n : Int))).run Try.prog w = .ok (.slice (some ⟨w.heap.size, 0, none⟩) n n) (w.alloc (.cells ((List.replicate n false).map Value.bool).toArray 4)) := by
  intro w
  obtain ⟨z, bytes, hinfo, hz, hb⟩ := boolE.hi
  obtain ⟨i0, hi, hz0, hz1, hz2⟩ := info_parts (show (Try.prog.info? 4).map (fun i => (i.zero, i.size, i.bytes)) = some (some (.bool false), 1, 1) by kernel_rfl)
  have h := run_make (P := Try.prog) w 44 4 i0 _ Try.underlying44 hi hz0 .i64 .i64 (n : Int) (n : Int) (by omega) (Int.le_refl _) (by rw [hz2]; omega) (by omega)
  rw [h, hz1]
  have e : madeCells (Value.bool false).cells ((n : Int).toNat * 1) = ((List.replicate n false).map Value.bool).toArray := by
    apply Array.ext'
    unfold madeCells
    rw [List.map_replicate]
    apply List.ext_getElem
    · simp
    · intro j h1 h2
      simp [Value.cells, Nat.mod_one]
  rw [e]
  rfl

end Go.Proofs.Ytjjanjhoaiannaa
