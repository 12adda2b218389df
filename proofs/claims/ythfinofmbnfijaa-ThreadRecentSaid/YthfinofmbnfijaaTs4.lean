/- A store of many cells into the midst of a block; lists whose elements are set; lists that are made; Cutting lists of rows. -/
import Derived.Test.YthfinofmbnfijaaTs2
import Derived.Test.YthfinofmbnfijaaTh8
namespace Go.Proofs.Ythfinofmbnfijaa
open Go.RowKit
set_option linter.unusedVariables false
set_option linter.unusedSimpArgs false

/-- Cells from o on are written. -/
def wrC (cs : Array Value) : Nat → List Value → Array Value
  | _, [] => cs
  | o, v :: r => wrC (cs.setIfInBounds o v) (o + 1) r
theorem wrC_size : ∀ (vs : List Value) (o : Nat) (cs : Array Value), (wrC cs o vs).size = cs.size
  | [], _, _ => rfl
  | v :: r, o, cs => by rw [wrC, wrC_size r]; simp
theorem wrC_list : ∀ (vs : List Value) (o : Nat) (cs : Array Value), o + vs.length ≤ cs.size → (wrC cs o vs).toList = cs.toList.take o ++ (vs ++ cs.toList.drop (o + vs.length))
  | [], o, cs, _ => by simp [wrC]
  | v :: r, o, cs, h => by
    have hl : o + 1 + r.length ≤ (cs.setIfInBounds o v).size := by simp at h ⊢; omega
    rw [wrC, wrC_list r (o + 1) _ hl]
    have ho : o < cs.toList.length := by simp at h ⊢; omega
    rw [Array.toList_setIfInBounds]
    rw [List.take_succ_eq_append_getElem (by simpa using ho), List.getElem_set_self, List.take_set_of_le (Nat.le_refl _), List.drop_set_of_lt (by omega), List.append_assoc]
    rw [show o + (v :: r).length = o + 1 + r.length by simp; omega]
    rfl
theorem heap_setCells {b : Nat} {T : TypeId} : ∀ (vs : List Value) (o : Nat) (cs : Array Value) (w : World), w.heap[b]? = some (.cells cs T (0, 0)) → (w.setCells b o vs).heap[b]? = some (.cells (wrC cs o vs) T (0, 0))
  | [], _, _, _, h => h
  | v :: r, o, cs, w, h => heap_setCells r (o + 1) _ _ (heap_setCell_same _ _ _ _ _ _ h)
theorem Chg.setCells {b : Nat} : ∀ (vs : List Value) (o : Nat) (w : World), Chg (fun k => k = b) w (w.setCells b o vs)
  | [], _, _ => Chg.refl _ _
  | v :: r, o, w => (show Chg (fun k => k = b) w (w.setCell ⟨b, o, none⟩ v) from Chg.setCell _ _ rfl).trans (Chg.setCells r (o + 1) _) (fun i e => .inl e)
theorem size_setC (b : Nat) : ∀ (vs : List Value) (o : Nat) (w : World), (w.setCells b o vs).heap.size = w.heap.size
  | [], _, _ => rfl
  | v :: r, o, w => by rw [World.setCells, size_setC b r]; simp [World.setCell]
theorem wp_putM {P : Program} {o : Oper} {a : Act} {w : World} {K : Act → World → Prop} {Q : Exit → Act → World → Prop} (hdst : o.dst = none) (ty : TypeId) (x y : Operand) (ho : o.op = .store ty x y)
    (g i : Nat) (vs : List Value) (hx : a.eval x = .pointer (some ⟨g, i, none⟩)) (hy : a.eval y = .agg vs.toArray) {T : TypeId} {cs : Array Value} (hg : w.heap[g]? = some (.cells cs T (0, 0))) (hi : i + vs.length ≤ cs.size) (h1 : ∀ v ∈ vs, v.oneCell' = true) (hsz : (P.info? ty).map (·.size) = some vs.length)
    (h : ∀ w', w'.heap[g]? = some (.cells (wrC cs i vs) T (0, 0)) → Chg (fun k => k = g) w w' → w'.heap.size = w.heap.size → K a w') : o.wp P a w K Q := by
  refine wp_store_mid ty x y ho g i vs.toArray hx hy (fun j hj => ⟨?_, frozen_of_row w g _ cs T hg⟩) (by simpa using hsz) (all_oneCell_toArray h1) ?_
  · rw [cell_of_row _ _ _ _ _ _ hg, Array.getElem?_eq_getElem (by simp at hj; omega)]
    rfl
  · rw [hdst]
    exact h _ (heap_setCells _ _ _ _ hg) (Chg.setCells _ _ _) (size_setC _ _ _ _)
theorem wpList_putM {P : Program} {ops : Array Oper} {rest : List Oper} {o : Oper} {a : Act} {w : World} {Q : Exit → Act → World → Prop} (hgd : o.guard = none) (hdst : o.dst = none) (ty : TypeId) (x y : Operand) (ho : o.op = .store ty x y)
    (g i : Nat) (vs : List Value) (hx : a.eval x = .pointer (some ⟨g, i, none⟩)) (hy : a.eval y = .agg vs.toArray) {T : TypeId} {cs : Array Value} (hg : w.heap[g]? = some (.cells cs T (0, 0))) (hi : i + vs.length ≤ cs.size) (h1 : ∀ v ∈ vs, v.oneCell' = true) (hsz : (P.info? ty).map (·.size) = some vs.length)
    (h : ∀ w', w'.heap[g]? = some (.cells (wrC cs i vs) T (0, 0)) → Chg (fun k => k = g) w w' → w'.heap.size = w.heap.size → wpList P ops Q rest a w') : wpList P ops Q (o :: rest) a w :=
  wpList_plain hgd fun _ hK => wp_putM hdst ty x y ho g i vs hx hy hg hi h1 hsz fun w' a1 a2 a3 => hK _ _ (h w' a1 a2 a3)
section
variable {P : Program} {sT T : TypeId} {α : Type} {E : ElemTy P sT T α}
theorem flat_set (L : List α) (i : Nat) (hi : i < L.length) (x : α) : (L.set i x).flatMap E.enc = (L.flatMap E.enc).take (i * E.k) ++ (E.enc x ++ (L.flatMap E.enc).drop (i * E.k + (E.enc x).length)) := by
  rw [List.set_eq_take_append_cons_drop, if_pos hi, List.flatMap_append, List.flatMap_cons, flat_take, E.len]
  congr 2
  have h1 : L.flatMap E.enc = (L.take (i + 1)).flatMap E.enc ++ (L.drop (i + 1)).flatMap E.enc := by rw [← List.flatMap_append, List.take_append_drop]
  rw [h1, List.drop_left' (by rw [flat_length, List.length_take, Nat.min_eq_left (by omega), Nat.succ_mul])]
theorem take_splice {β : Type} (C v : List β) (p m : Nat) (h1 : p + v.length ≤ m) (h2 : m ≤ C.length) : (C.take p ++ (v ++ C.drop (p + v.length))).take m = (C.take m).take p ++ (v ++ (C.take m).drop (p + v.length)) := by
  have e1 : (C.take p).length = p := by rw [List.length_take]; omega
  have e2 : ((C.take m).take p).length = p := by rw [List.length_take, List.length_take]; omega
  apply List.ext_getElem?
  intro j
  simp only [List.getElem?_append, e1, e2, List.getElem?_take, List.getElem?_drop]
  repeat' split
  all_goals first | rfl | omega | (exfalso; omega)
/-- An element of a list of one's own is set. -/
theorem wp_setL {o : Oper} {a : Act} {w : World} {K : Act → World → Prop} {Q : Exit → Act → World → Prop} (hdst : o.dst = none) (x y : Operand) (ho : o.op = .store T x y) {B g n c : Nat} {L : List α} (hL : OwnL E w B (.slice (some ⟨g, 0, none⟩) n c) L) (i : Nat) (hi : i < L.length) (z : α)
    (hx : a.eval x = .pointer (some ⟨g, i * E.k, none⟩)) (hy : a.eval y = .agg (E.enc z).toArray) (hsz : (P.info? T).map (·.size) = some E.k)
    (h : ∀ w', OwnL E w' B (.slice (some ⟨g, 0, none⟩) n c) (L.set i z) → Chg (fun k => k = g) w w' → w'.heap.size = w.heap.size → K a w') : o.wp P a w K Q := by
  have hL' : w.ownsRow B T E.k (.slice (some ⟨g, 0, none⟩) n c) L.length (L.flatMap E.enc) := hL
  rcases hL'.2 with ⟨e, _⟩ | ⟨g', cap', cur, e, hb, hg, h1, h2, h3, h4⟩
  · cases e
  simp only [Value.slice.injEq, Option.some.injEq, Addr.mk.injEq] at e
  obtain ⟨⟨rfl, _⟩, rfl, rfl⟩ := e
  have hbd : i * E.k + (E.enc z).length ≤ L.length * E.k := by
    rw [E.len, ← Nat.succ_mul]
    exact Nat.mul_le_mul_right _ hi
  have hle : L.length * E.k ≤ cur.size := by rw [h3]; exact Nat.mul_le_mul_right _ h1
  refine wp_putM hdst T x y ho g _ (E.enc z) hx hy hg (by omega) (E.one z) (by rw [hsz, E.len]) fun w' a1 a2 a3 => h w' ?_ a2 a3
  show w'.ownsRow B T E.k _ _ _
  refine ⟨by rw [flat_length], .inr ⟨g, c, _, by rw [List.length_set], hb, a1, by rw [List.length_set]; exact h1, h2, by rw [wrC_size]; exact h3, ?_⟩⟩
  rw [wrC_list _ _ _ (by omega), List.length_set, flat_set _ _ hi, ← h4]
  have e0 : cur.toList.length = cur.size := by simp
  have e1 : i * E.k + (E.enc z).length ≤ cur.toList.length := by omega
  exact take_splice cur.toList (E.enc z) (i * E.k) (L.length * E.k) hbd (by omega)
theorem wpList_setL {ops : Array Oper} {rest : List Oper} {o : Oper} {a : Act} {w : World} {Q : Exit → Act → World → Prop} (hgd : o.guard = none) (hdst : o.dst = none) (x y : Operand) (ho : o.op = .store T x y) {B g n c : Nat} {L : List α} (hL : OwnL E w B (.slice (some ⟨g, 0, none⟩) n c) L) (i : Nat) (hi : i < L.length) (z : α)
    (hx : a.eval x = .pointer (some ⟨g, i * E.k, none⟩)) (hy : a.eval y = .agg (E.enc z).toArray) (hsz : (P.info? T).map (·.size) = some E.k)
    (h : ∀ w', OwnL E w' B (.slice (some ⟨g, 0, none⟩) n c) (L.set i z) → Chg (fun k => k = g) w w' → w'.heap.size = w.heap.size → wpList P ops Q rest a w') : wpList P ops Q (o :: rest) a w :=
  wpList_plain hgd fun _ hK => wp_setL hdst x y ho hL i hi z hx hy hsz fun w' a1 a2 a3 => hK _ _ (h w' a1 a2 a3)
end
theorem zeros_rep (zs : List Value) (hz : 0 < zs.length) (n : Nat) : madeCells zs.toArray (n * zs.length) = ((List.replicate n zs).flatten).toArray := by
  apply Array.ext'
  unfold madeCells
  apply List.ext_getElem?
  intro j
  by_cases hj : j < n * zs.length
  · have h1 : ((List.replicate n zs).flatten).length = n * zs.length := by simp
    have h2 : (List.replicate n zs).flatten[j]? = zs[j % zs.length]? := by
      induction n generalizing j with
      | zero => simp at hj
      | succ n ih =>
        rw [List.replicate_succ, List.flatten_cons]
        by_cases h : j < zs.length
        · rw [List.getElem?_append_left h, Nat.mod_eq_of_lt h]
        · rw [List.getElem?_append_right (by omega), ih (j - zs.length) (by rw [Nat.succ_mul] at hj; omega) (by simp), ← Nat.mod_eq_sub_mod (by omega)]
    rw [h2]
    have h3 : j % zs.length < zs.length := Nat.mod_lt _ hz
    rw [List.getElem?_eq_getElem h3, List.getElem?_eq_getElem (by simpa using hj)]
    simp [h3]
  · have h1 : ((List.replicate n zs).flatten).length = n * zs.length := by simp
    rw [List.getElem?_eq_none (by simpa using hj), List.getElem?_eq_none (by rw [h1]; omega)]
/-- make([]T, n): n zeros of one's own. -/
theorem wpList_mkR {sT T : TypeId} {α : Type} (E : ElemTy Try.prog sT T α) (z : α) (sz : Nat) {ops : Array Oper} {rest : List Oper} {o : Oper} {a : Act} {w : World} {Q : Exit → Act → World → Prop} (hgd : o.guard = none) (dst : Option Tmp) (hdst : o.dst = dst) (l : Operand) (ho : o.op = .makeSlice sT l l) (n : Nat) (hn : n ≤ 1000000) (hl : a.eval l = .int .i64 (n : Int))
    (hi : (Try.prog.info? T).map (fun i => (i.zero, i.size, i.bytes)) = some (some (.agg (E.enc z).toArray), E.k, sz)) (hb : sz ≤ 1000000)
    (h : ∀ w', OwnL E w' w.heap.size (.slice (some ⟨w.heap.size, 0, none⟩) n n) (List.replicate n z) → Below w.heap.size w w' → w'.heap.size = w.heap.size + 1 → wpList Try.prog ops Q rest (a.put dst (.slice (some ⟨w.heap.size, 0, none⟩) n n)) w') : wpList Try.prog ops Q (o :: rest) a w := by
  obtain ⟨i0, h0, hzz⟩ := Option.map_eq_some_iff.1 hi
  simp only [Prod.mk.injEq] at hzz
  obtain ⟨z1, z2, z3⟩ := hzz
  have hm : i0.bytes * n ≤ 1000000 * 1000000 := Nat.mul_le_mul (by omega) hn
  have hb' : (i0.bytes : Int) * (n : Int) ≤ 281474976710656 := by
    have h : ((i0.bytes * n : Nat) : Int) ≤ 281474976710656 := by omega
    rwa [Int.natCast_mul] at h
  have hr := run_make (P := Try.prog) w sT T i0 _ E.hu h0 z1 .i64 .i64 n n (by omega) (Int.le_refl _) hb' (by omega)
  have hk : E.k = (E.enc z).length := (E.len z).symm
  simp only [Int.toNat_natCast, z2, Value.cells] at hr
  rw [hk, zeros_rep _ (by rw [← hk]; exact E.hk)] at hr
  have hfl : (List.replicate n (E.enc z)).flatten = (List.replicate n z).flatMap E.enc := by rw [List.flatMap_def, List.map_replicate]
  rw [hfl] at hr
  obtain ⟨w', hw'⟩ : ∃ w', w.alloc (.cells ((List.replicate n z).flatMap E.enc).toArray T) = w' := ⟨_, rfl⟩
  rw [hw'] at hr
  refine wpList_runI hgd dst hdst _ w' ?_ (h w' ?_ (hw' ▸ (Below.refl _ _).alloc (Nat.le_refl _) _) (by rw [← hw']; simp))
  · unfold execOp
    simp only [ho, hl, Sem.run_bind, hr, Result.andThen_ok]
    rfl
  · show World.ownsRow _ _ T E.k _ _ _
    refine ⟨by rw [flat_length], .inr ⟨_, n, _, by rw [List.length_replicate], Nat.le_refl _, hw' ▸ heap_alloc_new _ _, by rw [List.length_replicate]; exact Nat.le_refl _, by unfold maxLen; omega, ?_, ?_⟩⟩
    · rw [List.size_toArray, flat_length, List.length_replicate]
    · rw [List.length_replicate, List.take_of_length_le]
      rw [flat_length, List.length_replicate]
      exact Nat.le_refl _
end Go.Proofs.Ythfinofmbnfijaa

namespace Go.Proofs.Ythfinofmbnfijaa
open Go.RowKit
set_option linter.unusedVariables false
set_option linter.unusedSimpArgs false

theorem cut_R (a : Option Addr) (n c m : Nat) (hm : m ≤ c) (hz : a = none → c = 0) (w : World) :
    (Instr.sliceAt 23 (.slice a n c) none (some (.int .i64 (m : Int))) none).run Try.prog w = .ok (.slice a m c) w := by
  cases a with
  | none =>
    obtain rfl := hz rfl
    obtain rfl : m = 0 := by omega
    have h0 : ∀ w, (Instr.sliceAt 23 (.slice none n 0) none (some (.int .i64 0)) none).run Try.prog w = .ok (.slice none 0 0) w := fun w => by go_simp
    exact h0 w
  | some ad =>
    have h1 : (m : Int) ≤ (c : Int) := by omega
    go_simp
theorem from_R {w0 : World} {a : Option Addr} {n c k : Nat} {L : List RowV} (h : ListAt rowE w0 (.slice a n c) L) (hk : k ≤ n) :
    ∃ v, (∀ w, (Instr.sliceAt 23 (.slice a n c) (some (.int .i64 (k : Int))) none none).run Try.prog w = .ok v w) ∧ ListAt rowE w0 v (L.drop k) := by
  obtain ⟨hn, hc, hm, hz⟩ := h.len
  cases a with
  | none =>
    obtain rfl := hz rfl
    obtain rfl : n = 0 := by omega
    obtain rfl : k = 0 := by omega
    refine ⟨.slice none 0 0, fun w => ?_, by simpa using h⟩
    have h0 : ∀ w, (Instr.sliceAt 23 (.slice none 0 0) (some (.int .i64 0)) none none).run Try.prog w = .ok (.slice none 0 0) w := fun w => by go_simp
    exact h0 w
  | some ad =>
    have h1 : (k : Int) ≤ (n : Int) := by omega
    have h2 : (n : Int) ≤ (c : Int) := by omega
    have hnil : ∀ (x : Addr) (cc : Nat), cc ≤ maxLen → ListAt rowE w0 (.slice (some x) 0 cc) [] := fun x cc hcc => ⟨_, _, rfl, Nat.zero_le _, hcc, (fun e => by cases e), fun e => absurd rfl e⟩
    by_cases he : c = k
    · subst he
      obtain rfl : n = c := by omega
      refine ⟨.slice (some ad) 0 0, fun w => by clear hn h hnil hm hz; go_simp, ?_⟩
      rw [List.drop_of_length_le (by omega)]
      exact hnil _ _ (Nat.zero_le _)
    · refine ⟨.slice (some (ad.add (k * 83))) (n - k) (c - k), fun w => by clear hn h hnil hm hz; go_simp, ?_⟩
      by_cases hL : L = []
      · subst hL
        obtain rfl : n = 0 := hn
        obtain rfl : k = 0 := by omega
        exact hnil _ _ (by omega)
      · obtain ⟨a', cap', e, h3, h4, h5, h6⟩ := h.ex
        cases e
        obtain ⟨g, off, e, hg, hr⟩ := h6 hL
        cases e
        have := h.drop hk
        rw [Addr.add_mid]
        exact this
end Go.Proofs.Ythfinofmbnfijaa
