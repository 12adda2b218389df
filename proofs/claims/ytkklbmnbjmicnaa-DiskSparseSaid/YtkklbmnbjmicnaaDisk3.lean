/- slices.Backward over the pending writes, and (*Disk).visible. -/
import Derived.Test.YtkklbmnbjmicnaaDisk2
import Derived.RangeFuncNested
import Derived.RangeFuncBound
import Derived.RangeFuncCalls
import Derived.RangeFuncLeaves
import Derived.RangeFuncBox
import Derived.Shelf.Abstract
import Derived.Shelf.RegionOpen
import Derived.Deep.WholeRow
import Derived.Laws.CopyOwn
import Derived.OwnWalkIn
import Derived.TacticsInMore
import Derived.LoopNIn
import Derived.LoopIn
namespace Go.Proofs.Ytkklbmnbjmicnaa
open Go.RowKit Go.Shelf
set_option linter.unusedVariables false
set_option linter.unusedSimpArgs false
attribute [local go_sem] Oper.semAt_some

theorem wpListIn_run {F : Fence} {n : Nat} {P : Program} {w : World} {ops : Array Oper} {rest : List Oper} {o : Oper} {a : Act} {Q : Exit → Act → World → Prop}
    (hg : o.guard = none) (hab : ∀ f, o.about P w a.eval = some f → F.fn f) (hnd : ∀ c, o.op ≠ .defer c) {x : Next} {w' : World} (hrun : (execOp a.eval o).run P w = .ok x w')
    (h : ∀ K : Act → World → Prop, (∀ a w, wpListIn F n P ops Q rest a w → K a w) → o.uponIn F n P a K Q (.ok x w')) : wpListIn F n P ops Q (o :: rest) a w := by
  refine wpListIn_plain hg fun K hK' => ?_
  unfold Oper.wpIn
  refine ⟨hab, ?_⟩
  rw [Oper.semAt_plain F _ _ hnd, hrun]
  exact h K hK'

theorem wpListIn_load_mid {F : Fence} {n : Nat} {P : Program} {w : World} {ops : Array Oper} {rest : List Oper} {o : Oper} {a : Act} {Q : Exit → Act → World → Prop}
    (hg : o.guard = none) (ty : TypeId) (x : Operand) (ho : o.op = .load ty x)
    (b off : Nat) (hx : a.eval x = .pointer (some ⟨b, off, none⟩)) (cs : List Value) (d : TypeDesc) (hc : w.rangeAt b off cs)
    (hu : P.underlying ty = some d) (hd : d.isRow = true) (hi : (P.info? ty).map (·.size) = some cs.length)
    (h : wpListIn F n P ops Q rest (a.put o.dst (.agg cs.toArray)) w) : wpListIn F n P ops Q (o :: rest) a w := by
  refine wpListIn_run hg (by simp [Oper.about, ho]) (by rw [ho]; intro c hc'; cases hc') (x := .value (.agg cs.toArray)) (w' := w) ?_ (fun K hK => hK _ _ h)
  unfold execOp
  simp only [ho, hx, Instr.loadAt, Instr.sureAddr, Sem.run_bind, Sem.run_pure, Result.andThen_ok, run_loadVar_mid w b off ty cs d hc hu hd hi]

theorem wcells_length {x : Nat × List UInt8} (h : x.2.length = 256) : (wcells x).length = 257 := by simp [wcells, h]
theorem prow_length {l : List (Nat × List UInt8)} (h : ∀ x ∈ l, x.2.length = 256) : (prow l).length = l.length * 257 := by
  induction l with
  | nil => rfl
  | cons x l ih =>
    have := ih (fun y hy => h y (by simp [hy]))
    simp only [prow, List.flatMap_cons, List.length_append, List.length_cons] at this ⊢
    rw [this, wcells_length (h x (by simp))]
    omega
theorem prow_at {l : List (Nat × List UInt8)} (h : ∀ x ∈ l, x.2.length = 256) {i : Nat} (hi : i < l.length) (j : Nat) (hj : j < 257) : (prow l)[i * 257 + j]? = (wcells l[i])[j]? := by
  induction l generalizing i with
  | nil => simp at hi
  | cons x l ih =>
    have hx := wcells_length (h x (by simp))
    have hl : ∀ y ∈ l, y.2.length = 256 := fun y hy => h y (by simp [hy])
    simp only [prow, List.flatMap_cons]
    cases i with
    | zero => simp only [Nat.zero_mul, Nat.zero_add]; rw [List.getElem?_append_left (by omega)]; rfl
    | succ i =>
      rw [List.getElem?_append_right (by omega), hx]
      have := ih hl (i := i) (by simpa using hi)
      rw [show (i + 1) * 257 + j - 257 = i * 257 + j by omega]
      exact this

/-- The pending writes lie in w as the slice value pv says. -/
def PendAt (w : World) (pv : Value) (l : List (Nat × List UInt8)) : Prop :=
  (pv = .slice none 0 0 ∧ l = []) ∨ ∃ g cap, pv = .slice (some ⟨g, 0, none⟩) l.length cap ∧ g < w.heap.size ∧ ∀ i (h : i < l.length), w.rangeAt g (i * 257) (wcells l[i])

theorem pendAt_of {w : World} {pv : Value} {l : List (Nat × List UInt8)} (hl : ∀ x ∈ l, x.2.length = 256) (h : w.ownsRow 0 82 257 pv l.length (prow l)) : PendAt w pv l := by
  rcases h.2 with ⟨rfl, h0⟩ | ⟨g, cap, cur, rfl, _, hg, _, _, hcs, ht⟩
  · exact .inl ⟨rfl, List.eq_nil_of_length_eq_zero h0⟩
  · refine .inr ⟨g, cap, rfl, (Array.getElem?_eq_some_iff.1 hg).1, fun i hi j v hv => ?_⟩
    have hj : j < 257 := by rw [← wcells_length (hl _ (List.getElem_mem hi))]; exact (List.getElem?_eq_some_iff.1 hv).1
    rw [cell_of_row w g _ cur _ _ hg, ← prow_at hl hi j hj, ← ht, List.getElem?_take] at *
    split at hv
    · simpa using hv
    · cases hv

theorem PendAt.below {w w' : World} {pv : Value} {l : List (Nat × List UInt8)} {n₀ : Nat} (h : PendAt w pv l) (hp : ∀ g, pv.ownBlock = some g → g < n₀) (hb : Below n₀ w w') : PendAt w' pv l := by
  rcases h with h | ⟨g, cap, rfl, hg, hr⟩
  · exact .inl h
  · exact .inr ⟨g, cap, rfl, Nat.lt_of_lt_of_le hg hb.size, fun i hi j v hv => (hb.cell (p := ⟨g, i * 257 + j, none⟩) (hp g rfl)).trans (hr i hi j v hv)⟩

/-- An element that the iterator hands over: its index and the write. -/
abbrev PE := { x : Nat × Nat × List UInt8 // x.2.2.length = 256 }
def encPE (x : PE) : Array Value := #[.int .i64 (x.1.1 : Int), .agg (wcells x.1.2).toArray]

/-- The writes in the iterator's order. -/
def backL : (l : List (Nat × List UInt8)) → (∀ x ∈ l, x.2.length = 256) → List PE
  | l, h => (List.finRange l.length).map fun j => ⟨(l.length - 1 - j.1, l[l.length - 1 - j.1]'(by have := j.2; omega)), h _ (List.getElem_mem _)⟩

theorem backL_length (l : List (Nat × List UInt8)) (h) : (backL l h).length = l.length := by simp [backL]
theorem backL_at (l : List (Nat × List UInt8)) (h) (k : Nat) (hk : k < l.length) :
    (backL l h)[k]? = some ⟨(l.length - 1 - k, l[l.length - 1 - k]'(by omega)), h _ (List.getElem_mem _)⟩ := by
  simp [backL, List.getElem?_map, hk]
theorem backL_vals (l : List (Nat × List UInt8)) (h) : (backL l h).map (fun x => x.1.2) = l.reverse := by
  apply List.ext_getElem?
  intro i
  by_cases hi : i < l.length
  · rw [List.getElem?_map, backL_at l h i hi]
    simp [List.getElem?_reverse hi, show l.length - 1 - i < l.length by omega]
  · rw [List.getElem?_eq_none (by simp [backL_length]; omega), List.getElem?_eq_none (by simp; omega)]

theorem sizeWrite : (Try.prog.info? 82).map (·.size) = some 257 := by kernel_rfl

set_option maxRecDepth 100000 in
set_option maxHeartbeats 2000000 in
theorem back1_in (F : Fence) (n : Nat) (hF : F.fn 61) (hro : F.round = none) (hn : 1 ≤ n) (lp Bs n₀ : Nat) (pv : Value) (l : List (Nat × List UInt8)) (hl : ∀ x ∈ l, x.2.length = 256)
    (hlen : l.length < 1000000000000) (hp : ∀ g, pv.ownBlock = some g → g < n₀) (J Jx : List PE → World → Prop)
    (hY : ∀ pre x W, J pre W → pre.length < l.length → YieldAt F (n - 1) Try.prog lp (encPE x) W fun e W' =>
      (e = .returned (.bool true) ∧ J (pre ++ [x]) W' ∧ Below n₀ W W') ∨ (e = .returned (.bool false) ∧ Jx (pre ++ [x]) W'))
    (W : World) (hBs : Bs < n₀) (hc : W.cell? ⟨Bs, 0, none⟩ = some pv) (hP : PendAt W pv l) (h0 : J [] W) :
    CallsIn F n Try.prog 61 #[.func (.yield lp) #[] #[], .pointer (some ⟨Bs, 0, none⟩)] W fun e W' => (∃ v, e = .returned v) ∧
      ((∃ ys, ys = backL l hl ∧ J ys W') ∨ (∃ pre, pre <+: backL l hl ∧ Jx pre W')) := by
  refine callsIn_of_wp Try.func61 rfl hF ?_ hro
  simp only [Try.ntmps61, List.size_toArray, List.length_cons, List.length_nil, Nat.reduceAdd, Nat.reduceSub, Array.replicate_succ, Array.replicate_zero, List.push_toArray, List.append_toArray, List.nil_append, List.cons_append]
  have hpv : ∃ a cap, pv = .slice a l.length cap := by
    rcases hP with ⟨rfl, rfl⟩ | ⟨g, cap, rfl, _⟩
    · exact ⟨none, 0, rfl⟩
    · exact ⟨_, _, rfl⟩
  obtain ⟨a, cap, rfl⟩ := hpv
  gi_wp2
  gi_loopw [3] (fun i wr => ∃ k : Nat, k ≤ l.length ∧ i = .int .i64 ((l.length : Int) - 1 - (k : Int)) ∧ J ((backL l hl).take k) wr ∧ Below n₀ W wr)
    (fun i _ => (intOf i + 1).toNat)
  case atStart => exact ⟨0, Nat.zero_le _, by simp, by simpa using h0, Below.refl _ _⟩
  case round =>
    obtain ⟨k, hk, rfl, hJs, hnx⟩ := hrel
    have hcx : wr.cell? ⟨Bs, 0, none⟩ = some (.slice a l.length cap) := (hnx.cell (p := ⟨Bs, 0, none⟩) hBs).trans hc
    by_cases hlt : k < l.length
    · obtain ⟨q, hq⟩ : ∃ q : Nat, q = l.length - 1 - k := ⟨_, rfl⟩
      have hql : q < l.length := by omega
      have hzq : ((l.length : Int) - 1 - (k : Int)) = (q : Int) := by omega
      rw [hzq]
      have hPr := hP.below hp hnx
      rcases hPr with ⟨e1, e2⟩ | ⟨g, cap', e1, hg, hr⟩
      · rw [e2] at hlt; simp at hlt
      · simp only [Value.slice.injEq] at e1
        obtain ⟨rfl, _, rfl⟩ := e1
        have hrq := hr q hql
        obtain ⟨fn, tmps, assign, body, hy, hR⟩ := hY _ ⟨(q, l[q]), hl _ (List.getElem_mem _)⟩ wr hJs (by simp [backL_length]; omega)
        have hsz : (Try.prog.info? 82).map (·.size) = some (wcells l[q]).length := by rw [wcells_length (hl _ (List.getElem_mem _))]; exact sizeWrite
        have hstep : (backL l hl).take (k + 1) = (backL l hl).take k ++ [⟨(q, l[q]), hl _ (List.getElem_mem _)⟩] := by
          rw [List.take_add_one, backL_at l hl k hlt]
          subst hq
          rfl
        have HS := Lib.hid hstep
        have HQ := Lib.hid hq
        clear hr hq hzq hstep
        dsimp only [encPE] at hy
        gi_wp2_with (first | (with_reducible refine wpListIn_load_mid rfl 82 _ rfl g (q * 257) rfl (wcells l[q]) _ hrq Try.underlying82 rfl hsz ?_) | fail)
        refine hR.mono ?_
        rintro e W3 (⟨rfl, hJ3, hk3⟩ | ⟨rfl, hJx3⟩)
        · gi_wp2
          go_roundw
          case rel => exact ⟨k + 1, by omega, by have := HQ.out; first | (go_num; done) | (congr 1; omega), by rw [HS.out]; exact hJ3, hnx.trans hk3⟩
          case measure => simp [intOf]
        · gi_wp2
          refine bodyPost_ret (results_none rfl _ _ _) rfl ?_
          exact ⟨⟨_, rfl⟩, .inr ⟨_, by rw [← HS.out]; exact List.take_prefix _ _, hJx3⟩⟩
    · obtain rfl : k = l.length := by omega
      have e1 : ((l.length : Int) - 1 - (l.length : Int)) = -1 := by omega
      rw [e1]
      clear e1
      gi_wp2
      go_end0
      exact ⟨⟨_, rfl⟩, .inl ⟨_, rfl, by rw [List.take_of_length_le (by rw [backL_length]; exact Nat.le_refl _)] at hJs; exact hJs⟩⟩

set_option maxHeartbeats 1000000 in
theorem Backward_in (F : Fence) (n : Nat) (hF : F.fn 57) (hro : F.round = none) (a : Option Addr) (len cap : Nat) (w : World) :
    CallsIn F n Try.prog 57 #[.slice a len cap] w fun e w' => e = .returned (.func (.func 61) #[] #[.pointer (some ⟨w.heap.size, 0, none⟩)]) ∧ w' = w.alloc (.cells #[.slice a len cap] 76) := by
  refine callsIn_of_wp Try.func57 rfl hF ?_ hro
  simp only [Try.ntmps57, List.size_toArray, List.length_cons, List.length_nil, Nat.reduceAdd, Nat.reduceSub, Array.replicate_succ, Array.replicate_zero, List.push_toArray, List.append_toArray, List.nil_append, List.cons_append]
  gi_wp2
  go_ret
  exact ⟨rfl, rfl⟩

theorem back_stops (F : Fence) (n : Nat) (hF : F.fn 61) (hro : F.round = none) (hn : 1 ≤ n) (Bs n₀ : Nat) (pv : Value) (l : List (Nat × List UInt8)) (hl : ∀ x ∈ l, x.2.length = 256)
    (hlen : l.length < 1000000000000) (w : World) (hBs : Bs < n₀) (hn₀ : n₀ ≤ w.heap.size) (hp : ∀ g, pv.ownBlock = some g → g < n₀) (hc : w.cell? ⟨Bs, 0, none⟩ = some pv) (hP : PendAt w pv l) :
    SeqStopsK F n Try.prog 61 #[.pointer (some ⟨Bs, 0, none⟩)] encPE (Below n₀) (fun ys => ys = backL l hl) (fun pre => pre <+: backL l hl) l.length w := fun lp J Jx W hW _ _ hY h0 =>
  back1_in F n hF hro hn lp Bs n₀ pv l hl hlen hp J Jx hY W hBs ((hW.cell (p := ⟨Bs, 0, none⟩) (Nat.lt_of_lt_of_le hBs hn₀)).trans hc) (hP.below hp (hW.mono hn₀)) h0

/-! ### visible -/
def visP (l : List (Nat × List UInt8)) (s : Nat) : Option (List UInt8) := (l.reverse.find? (fun x => x.1 == s)).map (·.2)
def DS.visible (S : DS) (s : Nat) : List UInt8 := (visP S.pend s).getD (S.dur.getD s zeros)

theorem visible_length {S : DS} (h : S.ok) {s : Nat} (hs : s < S.dur.length) : (S.visible s).length = 256 := by
  unfold DS.visible visP
  cases hf : S.pend.reverse.find? (fun x => x.1 == s) with
  | none => simp [hs]; exact h.dur _ (List.getElem_mem _)
  | some x => simp; exact (h.pend x (by simpa using List.mem_of_find?_eq_some hf)).2

theorem zc80 : Try.zeroCells80 = (bvs zeros).toArray := by kernel_rfl
theorem zc82 : Try.zeroCells82 = (wcells (0, zeros)).toArray := by kernel_rfl
theorem infoContents : (Try.prog.info? 80).map (fun i => (i.zero, i.size)) = some (some (cval zeros), 256) := by kernel_rfl
theorem infoWrite : (Try.prog.info? 82).map (fun i => (i.zero, i.size)) = some (some (.agg (wcells (0, zeros)).toArray), 257) := by kernel_rfl

theorem wpListIn_alloc_row {F : Fence} {n : Nat} {P : Program} {w : World} {ops : Array Oper} {rest : List Oper} {o : Oper} {a : Act} {Q : Exit → Act → World → Prop}
    (hg : o.guard = none) (ty : TypeId) (ho : o.op = .alloc ty) (z : Array Value) (sz : Nat) (hi : (P.info? ty).map (fun i => (i.zero, i.size)) = some (some (.agg z), sz))
    (h : wpListIn F n P ops Q rest (a.put o.dst (.pointer (some ⟨w.heap.size, 0, none⟩))) (w.alloc (.cells z ty))) : wpListIn F n P ops Q (o :: rest) a w := by
  refine wpListIn_run hg (by simp [Oper.about, ho]) (by rw [ho]; intro c hc'; cases hc') (x := .value (.pointer (some ⟨w.heap.size, 0, none⟩))) (w' := w.alloc (.cells z ty)) ?_ (fun K hK => hK _ _ h)
  cases hq : P.info? ty with
  | none => simp [hq] at hi
  | some i =>
    simp only [hq, Option.map_some, Option.some.injEq, Prod.mk.injEq] at hi
    unfold execOp
    simp [ho, Instr.alloc, zeroValue, typeInfo, hq, hi.1, newVar, newRow, newObj, go_sem, Value.cells]
    rfl

theorem wpListIn_store_row {F : Fence} {n : Nat} {P : Program} {w : World} {ops : Array Oper} {rest : List Oper} {o : Oper} {a : Act} {Q : Exit → Act → World → Prop} (hgd : o.guard = none) (ty : TypeId) (x y : Operand) (ho : o.op = .store ty x y)
    (g : Nat) (cells : Array Value) (hx : a.eval x = .pointer (some ⟨g, 0, none⟩)) (hy : a.eval y = .agg cells)
    (t : TypeId) (old : Array Value) (hg : w.heap[g]? = some (.cells old t (0, 0))) (hi : (P.info? ty).map (·.size) = some cells.size)
    (hold : old.size = cells.size) (h1 : cells.all (·.oneCell') = true)
    (h : wpListIn F n P ops Q rest (a.put o.dst undef) (w.setRow g cells)) : wpListIn F n P ops Q (o :: rest) a w := by
  refine wpListIn_run hgd (by simp [Oper.about, ho]) (by rw [ho]; intro c hc'; cases hc') (x := .skip) (w' := w.setRow g cells) ?_ (fun K hK => hK _ _ h)
  unfold execOp
  simp only [ho, hx, hy, Instr.storeAt, Instr.sureAddr, Sem.run_bind, Sem.run_pure, Result.andThen_ok, run_storeVar_row w g t ty old cells hg hi hold h1]

theorem find_of_prefix {α : Type} {f : α → Bool} {ini L : List α} {last : α} (h : (ini ++ [last]) <+: L) (h1 : ∀ x ∈ ini, f x = false) (h2 : f last = true) : L.find? f = some last := by
  obtain ⟨t, rfl⟩ := h
  rw [List.append_assoc, List.find?_append, List.find?_eq_none.2 (fun x hx => by simp [h1 x hx])]
  simp [h2]

theorem visP_of_back {l : List (Nat × List UInt8)} (hl : ∀ x ∈ l, x.2.length = 256) {s : Nat} {ini : List PE} {last : PE} (h : (ini ++ [last]) <+: backL l hl) (h1 : ∀ x ∈ ini, x.1.2.1 ≠ s) (h2 : last.1.2.1 = s) :
    visP l s = some last.1.2.2 := by
  unfold visP
  have e := find_of_prefix (f := fun x : PE => x.1.2.1 == s) h (fun x hx => by simpa using h1 x hx) (by simpa using h2)
  rw [← backL_vals l hl, List.find?_map]
  show Option.map _ (Option.map _ (List.find? (fun x : PE => x.1.2.1 == s) (backL l hl))) = _
  rw [e]
  rfl
theorem visP_none {l : List (Nat × List UInt8)} (hl : ∀ x ∈ l, x.2.length = 256) {s : Nat} (h1 : ∀ x ∈ backL l hl, x.1.2.1 ≠ s) : visP l s = none := by
  unfold visP
  rw [← backL_vals l hl, List.find?_map]
  show Option.map _ (Option.map _ (List.find? (fun x : PE => x.1.2.1 == s) (backL l hl))) = _
  rw [List.find?_eq_none.2 (fun x hx => by simpa using h1 x hx)]
  rfl

theorem zeroLookup : ∀ w, (zeroValue 80).run Try.prog w = .ok (cval zeros) w := fun w => by rw [Try.zeroValue80, zc80]; rfl

theorem sizeContents {l : List UInt8} (h : l.length = 256) : (Try.prog.info? 80).map (·.size) = some (bvs l).toArray.size := by
  have : (bvs l).toArray.size = 256 := by simp [h]
  rw [this]
  have h2 := infoContents
  cases hq : Try.prog.info? 80 with
  | none => rw [hq] at h2; cases h2
  | some i =>
    simp only [hq, Option.map_some, Option.some.injEq, Prod.mk.injEq] at h2 ⊢
    exact h2.2
theorem sizeWriteA {x : Nat × List UInt8} (h : x.2.length = 256) : (Try.prog.info? 82).map (·.size) = some (wcells x).toArray.size := by
  have : (wcells x).toArray.size = 257 := by simp [wcells_length h]
  rw [this]
  exact sizeWrite
theorem oneCell_bvs (l : List UInt8) : (bvs l).toArray.all (·.oneCell') = true := all_oneCell_toArray bvs_oneCell
theorem oneCell_wcells (x : Nat × List UInt8) : (wcells x).toArray.all (·.oneCell') = true := by
  apply all_oneCell_toArray
  intro v hv
  rcases List.mem_cons.1 hv with rfl | hv
  · rfl
  · exact bvs_oneCell v hv

def VisI (w : World) (s : Nat) (pre : List PE) (W : World) : Prop :=
  (Below w.heap.size w W ∧ w.heap.size + 3 ≤ W.heap.size) ∧ Boxed W w.heap.size 3 (.int .i64 (s : Int)) ∧ W.heap[w.heap.size + 1]? = some (.cells (bvs zeros).toArray 80 (0, 0)) ∧ ∀ x ∈ pre, x.1.2.1 ≠ s
def VisX (w : World) (s : Nat) (c : Code) (pre : List PE) (W : World) : Prop :=
  c = .ret ∧ Below w.heap.size w W ∧ ∃ ini last, pre = ini ++ [last] ∧ (∀ x ∈ ini, x.1.2.1 ≠ s) ∧ last.1.2.1 = s ∧ W.heap[w.heap.size + 1]? = some (.cells (bvs last.1.2.2).toArray 80 (0, 0))
def VisA (w : World) (S : DS) (s b : Nat) (a : Option Addr) (cap : Nat) (x : PE) (a' : Act) (W : World) : Prop :=
  ∃ Bx, w.heap.size + 3 ≤ Bx ∧ W.heap[Bx]? = some (.cells (wcells x.1.2).toArray 82 (0, 0)) ∧ a' = { tmps := #[.pointer (some ⟨b, 0, none⟩), .int .i64 (s : Int), undef, .pointer (some ⟨w.heap.size, 0, none⟩),
    .pointer (some ⟨w.heap.size + 1, 0, none⟩), undef, .pointer (some ⟨Bx, 0, none⟩), .pointer (some ⟨b, 0, none⟩), .pointer (some ⟨b, 0, none⟩), .pointer (some ⟨b, 2, none⟩), .slice a S.pend.length cap,
    .func (.func 61) #[] #[.pointer (some ⟨w.heap.size + 1 + 1, 0, none⟩)], .int .i64 (x.1.1 : Int), .agg (wcells x.1.2).toArray, undef, undef, undef, undef, undef, undef, undef, undef, undef, undef, undef, undef], defers := [] }

theorem heap3 (w : World) (A B C : Obj) : (((w.alloc A).alloc B).alloc C).heap[w.heap.size]? = some A ∧ (((w.alloc A).alloc B).alloc C).heap[w.heap.size + 1]? = some B ∧ (((w.alloc A).alloc B).alloc C).heap[w.heap.size + 2]? = some C := by
  have h1 : (w.alloc A).heap.size = w.heap.size + 1 := by simp
  have h2 : ((w.alloc A).alloc B).heap.size = w.heap.size + 2 := by simp
  refine ⟨?_, ?_, ?_⟩
  · rw [Below.heap_alloc _ _ _ (by omega), Below.heap_alloc _ _ _ (by omega), heap_alloc_new]
  · rw [Below.heap_alloc _ _ _ (by omega), ← h1, heap_alloc_new]
  · rw [← h2, heap_alloc_new]

set_option maxRecDepth 100000 in
set_option maxHeartbeats 2000000 in
theorem visible_any {w : World} {F : Nat → Prop} {b : Nat} {S : DS} (s : Nat) (h : DiskAt w F b S) (hs : s < S.dur.length) (hlen : S.pend.length < 1000000000000) :
    Calls Try.prog 39 #[.pointer (some ⟨b, 0, none⟩), .int .i64 (s : Int)] w fun e w' => e = .returned (cval (S.visible s)) ∧ Below w.heap.size w w' := by
  obtain ⟨hok, m, pv, hx⟩ := h
  obtain ⟨c0, c1, c2, c3, c4, c5, c6, f⟩ := hx.cells
  have hl : ∀ x ∈ S.pend, x.2.length = 256 := fun x h => (hok.pend x h).2
  have hP := pendAt_of hl hx.hp
  have hpl := hx.hp.lt
  obtain ⟨a, cap, hpv⟩ : ∃ a cap, pv = .slice a S.pend.length cap := by
    rcases hP with ⟨rfl, e⟩ | ⟨g, cap, rfl, _⟩
    · exact ⟨none, 0, by rw [e]; rfl⟩
    · exact ⟨_, _, rfl⟩
  subst hpv
  refine (callsIn_wide (n := 4)).1 ?_
  refine callsIn_of_wp_marks Try.func39 rfl trivial ?_ rfl
  simp only [Try.ntmps39, List.size_toArray, List.length_cons, List.length_nil, Nat.reduceAdd, Nat.reduceSub, Array.replicate_succ, Array.replicate_zero, List.push_toArray, List.append_toArray, List.nil_append, List.cons_append]
  have HX := Lib.hid hx
  have HOK := Lib.hid hok
  have HL := Lib.hid hl
  have HPL := Lib.hid hpl
  have hbl := hx.lt
  clear hx hok hl hpl
  gi_wp2_with (first | (refine ⟨trivial, ?_⟩; gi_at_call 57; refine (Backward_in Fence.wide 3 trivial rfl _ _ _ _).mono ?_; rintro e w' ⟨rfl, rfl⟩))
  have h3 := heap3 w (.cells #[.int .i64 (s : Int)] 3) (.cells Try.zeroCells80 80) (.cells #[.slice a S.pend.length cap] 76)
  obtain ⟨W0, hW0⟩ : ∃ W0, ((w.alloc (.cells #[.int .i64 (s : Int)] 3)).alloc (.cells Try.zeroCells80 80)).alloc (.cells #[.slice a S.pend.length cap] 76) = W0 := ⟨_, rfl⟩
  have hsz0 : W0.heap.size = w.heap.size + 3 := by rw [← hW0]; simp
  have hB0 : Below w.heap.size w W0 := by rw [← hW0]; exact (((Below.refl _ w).alloc (Nat.le_refl _) _).alloc (by simp) _).alloc (by simp; omega) _
  rw [hW0] at h3 ⊢
  clear hW0
  obtain ⟨g0, g1, g2⟩ := h3
  rw [zc80] at g1
  have hbp : ∀ g, (Value.slice a S.pend.length cap).ownBlock = some g → g < W0.heap.size := fun g hg => by have := (HPL.out g hg).2; omega
  refine wpIn_rangeFunc_ownH (α := PE) rfl (by decide) (gf := 61) (lb := #[.pointer (some ⟨w.heap.size + 1 + 1, 0, none⟩)]) rfl trivial (enters_of Try.func61 (by kernel_rfl) rfl)
    (back_stops Fence.wide 3 trivial rfl (by decide) (w.heap.size + 1 + 1) W0.heap.size _ S.pend HL.out hlen W0 (by omega) (Nat.le_refl _) hbp (cell_of_row W0 _ _ _ _ _ g2) (hP.below (n₀ := w.heap.size) (fun g hg => (HPL.out g hg).2) hB0)) belowK_t (belowK_b (Nat.le_refl _)) (Below.refl _ _) (fun _ => rfl)
    (VisI w s) (VisX w s) ?hI ?hIx ⟨⟨hB0, by omega⟩, g0, g1, by simp⟩ (VisA w S s b a cap) ?hAx ?assign ?body ?done ?stop
  case hI =>
    rintro pre A B row ⟨⟨h1, h0⟩, h2, h3, h4⟩ hg hr
    refine ⟨⟨h1.grown hg h1.size (fun k e => by have := (hr k e).1; omega), Nat.le_trans h0 hg.size⟩, h2.kept hg (fun e => by have := (hr _ e.symm).1; omega), ?_, h4⟩
    exact (hg.block _ (Array.getElem?_eq_some_iff.1 h3).1 (fun e => by have := (hr _ e.symm).1; omega)).trans h3
  case hIx =>
    rintro c pre A B row ⟨h1, h2, ini, last, e1, e2, e3, h3⟩ hg hr
    refine ⟨h1, h2.grown hg h2.size (fun k e => by have := (hr k e).1; omega), ini, last, e1, e2, e3, ?_⟩
    exact (hg.block _ (Array.getElem?_eq_some_iff.1 h3).1 (fun e => by have := (hr _ e.symm).1; omega)).trans h3
  case hAx =>
    rintro x a' _ A B row ⟨Bx, h1, h2, h3⟩ hg hr
    refine ⟨Bx, h1, ?_, h3⟩
    refine (hg.block _ (Array.getElem?_eq_some_iff.1 h2).1 (fun e => ?_)).trans h2
    obtain ⟨_, o, ho, hoc⟩ := hr _ e.symm
    rw [h2] at ho
    cases ho
    cases hoc
  case assign =>
    rintro l pre x W K hI hK
    unfold encPE
    gi_wp2_with (first | (with_reducible refine wpListIn_store_row rfl 82 _ _ rfl W.heap.size (wcells x.1.2).toArray rfl rfl 82 Try.zeroCells82 (heap_alloc_new W _) (sizeWriteA x.2) (by rw [zc82]; simp [wcells, x.2, zeros_length]) (oneCell_wcells _) ?_))
    rw [World.setRow_alloc_new]
    obtain ⟨⟨i1, i0⟩, i2, i3, i4⟩ := hI
    refine hK _ _ ((KeepsOthers.alloc _ _).from _) ((Below.refl _ W).alloc (by omega) _) ⟨⟨i1.alloc i1.size _, by simp; omega⟩, i2.alloc _, (Below.heap_alloc _ _ _ (Array.getElem?_eq_some_iff.1 i3).1).trans i3, i4⟩ ⟨W.heap.size, i0, heap_alloc_new _ _, rfl⟩
  case body =>
    rintro l pre x a' W hl ⟨r, hr⟩ ⟨⟨i1, i0⟩, i2, i3, i4⟩ ⟨Bx, hBx, bX, rfl⟩ hlt
    have cx : W.cell? ⟨Bx, 0, none⟩ = some (.int .i64 (x.1.2.1 : Int)) := by rw [cell_of_row W _ _ _ _ _ bX]; rfl
    have cs := i2.cell
    by_cases hxs : x.1.2.1 = s
    · have ht : ((x.1.2.1 : Int) == (s : Int)) = true := by simp [hxs]
      have hrg : W.rangeAt Bx 1 (bvs x.1.2.2) := fun j v hv => by
        rw [cell_of_row W _ _ _ _ _ bX]
        simp only [wcells, List.getElem?_toArray, Nat.add_comm 1 j, List.getElem?_cons_succ]
        exact hv
      gi_wp2_with (first | (with_reducible refine wpListIn_load_mid rfl 80 _ rfl Bx 1 rfl (bvs x.1.2.2) _ hrg Try.underlying80 rfl (by have := sizeContents x.2; simpa using this) ?_) | (with_reducible refine wpListIn_store_row rfl 80 _ _ rfl (w.heap.size + 1) (bvs x.1.2.2).toArray rfl rfl 80 (bvs zeros).toArray i3 (sizeContents x.2) (by simp [x.2, zeros_length]) (oneCell_bvs _) ?_))
      have hgr : W.grownBy (W.setRow (w.heap.size + 1) (bvs x.1.2.2).toArray) (some (w.heap.size + 1)) := ⟨rfl, rfl, rfl, by simp, fun k _ hk => setRow_other W _ k _ (fun e => hk (by rw [e]))⟩
      exact ⟨KeepsFrom.of_grownBy hgr (fun j e => by cases e; omega), rfl, i1.grown hgr i1.size (fun k e => by cases e; omega), pre, x, rfl, i4, hxs, setRow_heap W _ _ _ _ _ i3⟩
    · have ht : ((x.1.2.1 : Int) == (s : Int)) = false := by simp; omega
      gi_wp2
      exact ⟨KeepsFrom.refl _ _, Below.refl _ _, ⟨i1, i0⟩, i2, i3, fun y hy => (List.mem_append.1 hy).elim (i4 y) (fun e => by simp at e; subst e; exact hxs)⟩
  case done =>
    rintro D ys W hD rfl ⟨⟨i1, i0⟩, i2, i3, i4⟩ hK
    have hx := HX.out
    have hdb : W.cell? ⟨b, 1, none⟩ = some (.map (some m)) := (i1.cell (p := ⟨b, 1, none⟩) hbl).trans c1
    have hbx := i2.cell
    have hmap : MapIs W m S.dur.length zeros (fun i => S.dur.getD i zeros) := hx.hm.kept (i1.block m hx.hm.lt)
    have hlk : (Instr.lookup 75 (.map (some m)) (.int .i64 (s : Int)) false).run Try.prog W.drew = .ok (cval (S.dur.getD s zeros)) W.drew :=
      MapIs.lookup (hmap.kept (w' := W.drew) rfl) Try.underlying75 Try.underlying3 zeroLookup hs
    have hvis : S.visible s = S.dur.getD s zeros := by unfold DS.visible; rw [visP_none HL.out i4]; rfl
    have hv256 : (S.dur.getD s zeros).length = 256 := by rw [← hvis]; exact visible_length HOK.out hs
    obtain ⟨v, hv⟩ : ∃ v, v = S.dur.getD s zeros := ⟨_, rfl⟩
    rw [← hv] at hlk hvis hv256
    clear hmap hv
    have HX2 := Lib.hid hx
    have HV := Lib.hid hvis
    have H256 := Lib.hid hv256
    clear hx hvis hv256
    gi_wp2
    refine wpIn_wide.2 ?_
    go_still_tail 6, (by kernel_rfl)
    have e256 := H256.out
    refine wpList_store_row rfl 80 _ _ rfl (w.heap.size + 1) (bvs v).toArray rfl rfl 80 (bvs zeros).toArray i3 (sizeContents e256) (by simp only [List.size_toArray, bvs_length, e256, zeros_length]) (oneCell_bvs _) ?_
    clear e256
    go_wp2
    obtain ⟨Wz, hWz⟩ : ∃ Wz : World, ({ W with drawn := W.drawn + 1 } : World).setRow (w.heap.size + 1) (bvs v).toArray = Wz := ⟨_, rfl⟩
    have hKz : Wz.heap[D]? = some (.deferred (some [])) := by rw [← hWz, setRow_other _ _ _ _ (by omega)]; exact hK
    have hRz : Wz.heap[w.heap.size + 1]? = some (.cells (bvs v).toArray 80 (0, 0)) := by rw [← hWz]; exact setRow_heap _ _ _ _ _ _ i3
    have hBz : Below w.heap.size w Wz := by rw [← hWz]; exact below_setRow (w := { W with drawn := W.drawn + 1 }) i1.drew (by omega) _
    rw [hWz]
    clear hWz
    gi_wp2
    refine ⟨by simp, .inl ⟨_, _, rfl, run_takeDeferred hKz, ?_⟩⟩
    have hg' : (Wz.putObj D (.deferred none)).heap[w.heap.size + 1]? = some (.cells (bvs v).toArray 80 (0, 0)) := (World.putObj_heap_other (by omega)).trans hRz
    refine ⟨_, results_cell_row (g := w.heap.size + 1) rfl _ _ _ _ _ _ rfl hg' Try.underlying80 rfl (sizeContents H256.out), ?_, hBz.trans (belowK_b (w := w) (Nat.le_refl _) Wz D _ _ (by omega) hKz rfl rfl)⟩
    rw [HV.out]
    rfl
  case stop =>
    rintro D c pre W hD hpre ⟨rfl, i1, ini, last, e1, e2, e3, i3⟩ hK
    gi_wp2
    have hv : S.visible s = last.1.2.2 := by unfold DS.visible; rw [visP_of_back HL.out (e1 ▸ hpre) e2 e3]; rfl
    refine ⟨by simp, .inl ⟨_, _, rfl, run_takeDeferred hK, ?_⟩⟩
    have hg' : (W.putObj D (.deferred none)).heap[w.heap.size + 1]? = some (.cells (bvs last.1.2.2).toArray 80 (0, 0)) := (World.putObj_heap_other (by omega)).trans i3
    refine ⟨_, results_cell_row (g := w.heap.size + 1) rfl _ _ _ _ _ _ rfl hg' Try.underlying80 rfl (sizeContents last.2), ?_, i1.trans (belowK_b (w := w) (Nat.le_refl _) W D _ _ (by omega) hK rfl rfl)⟩
    rw [hv]
    rfl

end Go.Proofs.Ytkklbmnbjmicnaa
