/- Generic notions for every seat: byte slices, owned rows, what is kept. No program in sight. -/
import Derived.Test.YtjjanjhoaiannaaBase
import Derived.RangeFuncNested
import Derived.Deep.WholeRow
import Derived.Laws.CopyOwn
namespace Go.Proofs.Ytjjanjhoaiannaa
open Go.RowKit
set_option linter.unusedVariables false
set_option linter.unusedSimpArgs false

theorem grownBy_setCell (w : World) (b i : Nat) (v : Value) : w.grownBy (w.setCell ⟨b, i, none⟩ v) (some b) :=
  ⟨rfl, rfl, rfl, by simp [World.setCell], fun _ _ hk => heap_setCell_other w _ _ v (fun e => hk (by rw [e]))⟩
theorem grownBy_trans {w w1 w2 : World} {row : Option Nat} (h : w.grownBy w1 row) (k : w1.grownBy w2 row) : w.grownBy w2 row :=
  ⟨k.os.trans h.os, k.tape.trans h.tape, k.output.trans h.output, Nat.le_trans h.size k.size, fun i hi hr => (k.block i (Nat.lt_of_lt_of_le hi h.size) hr).trans (h.block i hi hr)⟩
/-- The slice value v holds the bytes l in a block of its own, which is in F. -/
def OwnBytes (w : World) (F : Nat → Prop) (v : Value) (l : List UInt8) : Prop :=
  ∃ g T, v = .slice (some ⟨g, 0, none⟩) l.length l.length ∧ F g ∧ w.heap[g]? = some (.cells (bvs l).toArray T (0, 0))
/-- The slice value v reads as the bytes l; where there are any, they lie in a block of F. -/
def BytesAt (w : World) (F : Nat → Prop) (v : Value) (l : List UInt8) : Prop :=
  ∃ a cap, v = .slice a l.length cap ∧ l.length ≤ cap ∧ (l ≠ [] → ∃ g off, a = some ⟨g, off, none⟩ ∧ F g ∧ g < w.heap.size ∧ w.rangeAt g off (bvs l))
theorem OwnBytes.bytes {w : World} {F : Nat → Prop} {v : Value} {l : List UInt8} (h : OwnBytes w F v l) : BytesAt w F v l := by
  obtain ⟨g, T, rfl, hF, hg⟩ := h
  refine ⟨_, _, rfl, Nat.le_refl _, fun _ => ⟨g, 0, rfl, hF, (Array.getElem?_eq_some_iff.1 hg).1, fun j u hu => ?_⟩⟩
  rw [cell_of_row w _ _ _ _ _ hg]
  simpa using hu
theorem OwnBytes.kept {w w' : World} {F G : Nat → Prop} {v : Value} {l : List UInt8} (h : OwnBytes w F v l) (hc : Chg G w w') (hd : ∀ k, F k → ¬ G k) : OwnBytes w' F v l := by
  obtain ⟨g, T, rfl, hF, hg⟩ := h
  exact ⟨g, T, rfl, hF, (hc.block g (Array.getElem?_eq_some_iff.1 hg).1 (hd g hF)).trans hg⟩
theorem BytesAt.kept {w w' : World} {F G : Nat → Prop} {v : Value} {l : List UInt8} (h : BytesAt w F v l) (hc : Chg G w w') (hd : ∀ k, F k → ¬ G k) : BytesAt w' F v l := by
  obtain ⟨a, cap, rfl, hcap, hr⟩ := h
  refine ⟨a, cap, rfl, hcap, fun hl => ?_⟩
  obtain ⟨g, off, rfl, hF, hg, hr⟩ := hr hl
  exact ⟨g, off, rfl, hF, Nat.lt_of_lt_of_le hg hc.size, fun j u hu => hc.cell (p := ⟨g, off + j, none⟩) (hd g hF) (hr j u hu)⟩
theorem BytesAt.mono {w : World} {F G : Nat → Prop} {v : Value} {l : List UInt8} (h : BytesAt w F v l) (hFG : ∀ k, F k → G k) : BytesAt w G v l := by
  obtain ⟨a, cap, rfl, hcap, hr⟩ := h
  refine ⟨a, cap, rfl, hcap, fun hl => ?_⟩
  obtain ⟨g, off, rfl, hF, hg, hr⟩ := hr hl
  exact ⟨g, off, rfl, hFG g hF, hg, hr⟩
theorem bytesAt_nil (w : World) (F : Nat → Prop) : BytesAt w F (.slice none 0 0) [] := ⟨none, 0, rfl, Nat.le_refl _, fun h => absurd rfl h⟩
theorem BytesAt.mono' {w : World} {F G : Nat → Prop} {v : Value} {l : List UInt8} (h : BytesAt w F v l) (hFG : ∀ k, k < w.heap.size → F k → G k) : BytesAt w G v l := by
  obtain ⟨a, cap, rfl, hcap, hr⟩ := h
  refine ⟨a, cap, rfl, hcap, fun hl => ?_⟩
  obtain ⟨g, off, rfl, hF, hg, hr⟩ := hr hl
  exact ⟨g, off, rfl, hFG g hg hF, hg, hr⟩
theorem ownsRow_lt {w : World} {B n s : Nat} {T : TypeId} {v : Value} {xs : List Value} (h : w.ownsRow B T s v n xs) : ∀ g, v.ownBlock = some g → B ≤ g ∧ g < w.heap.size := by
  intro g hg
  rcases h.2 with ⟨rfl, _⟩ | ⟨g', cap, cur, rfl, hb, hh, _⟩
  · cases hg
  · obtain rfl : g' = g := by simpa [Value.ownBlock] using hg
    exact ⟨hb, (Array.getElem?_eq_some_iff.1 hh).1⟩
theorem ownsRow_chg {w w' : World} {G : Nat → Prop} {B n s : Nat} {T : TypeId} {v : Value} {xs : List Value} (h : w.ownsRow B T s v n xs) (hc : Chg G w w') (hd : ∀ k, B ≤ k → k < w.heap.size → ¬ G k) : w'.ownsRow B T s v n xs := by
  refine ⟨h.1, ?_⟩
  rcases h.2 with hn | ⟨g, cap, cur, e, hbg, hg, rest⟩
  · exact .inl hn
  · have hlt := (Array.getElem?_eq_some_iff.1 hg).1
    exact .inr ⟨g, cap, cur, e, hbg, (hc.block g hlt (hd g hbg hlt)).trans hg, rest⟩
/-- What is read of a row: element i at s cells an element. -/
theorem ownsRow_at {w : World} {B n s : Nat} {T : TypeId} {v : Value} {xs : List Value} (h : w.ownsRow B T s v n xs) (hn : 0 < n) :
    ∃ g cap, v = .slice (some ⟨g, 0, none⟩) n cap ∧ g < w.heap.size ∧ v.ownBlock = some g ∧ ∀ j u, xs[j]? = some u → w.cell? ⟨g, j, none⟩ = some u := by
  rcases h.2 with ⟨rfl, h0⟩ | ⟨g, cap, cur, rfl, _, hg, _, _, _, ht⟩
  · omega
  · refine ⟨g, cap, rfl, (Array.getElem?_eq_some_iff.1 hg).1, rfl, fun j u hu => ?_⟩
    rw [cell_of_row w g _ cur _ _ hg]
    rw [← ht, List.getElem?_take] at hu
    split at hu
    · simpa using hu
    · cases hu
theorem ownsRow_chg' {w w' : World} {G : Nat → Prop} {B n s : Nat} {T : TypeId} {v : Value} {xs : List Value} (h : w.ownsRow B T s v n xs) (hc : Chg G w w') (hd : ∀ k, v.ownBlock = some k → ¬ G k) : w'.ownsRow B T s v n xs := by
  refine ⟨h.1, ?_⟩
  rcases h.2 with hn | ⟨g, cap, cur, e, hbg, hg, rest⟩
  · exact .inl hn
  · exact .inr ⟨g, cap, cur, e, hbg, (hc.block g (Array.getElem?_eq_some_iff.1 hg).1 (hd g (by rw [e]; rfl))).trans hg, rest⟩
theorem ownsRow_base {w : World} {B B' n s : Nat} {T : TypeId} {v : Value} {xs : List Value} (h : w.ownsRow B T s v n xs) (hB : B' ≤ B) : w.ownsRow B' T s v n xs := by
  refine ⟨h.1, ?_⟩
  rcases h.2 with h | ⟨g, cap, cur, e, hb, rest⟩
  · exact .inl h
  · exact .inr ⟨g, cap, cur, e, Nat.le_trans hB hb, rest⟩
theorem oneCell_bvs (l : List UInt8) : (bvs l).toArray.all (·.oneCell') = true := all_oneCell_toArray bvs_oneCell
theorem run_call_enter {P : Program} {f : FuncId} {fn : Func} {c : Code} (hf : P.funcs[f]? = some fn) (hname : (fn.name == "runtime.NumGoroutine") = false) (hb : fn.body = some c) (args : Array Value) (w : World) :
    (callFunc f args).run P w = .ok (.enter f args) w := by
  have h1 : fn.name ≠ "runtime.NumGoroutine" := by simpa using hname
  simp [callFunc, hf, h1, hb]
theorem mid_of_row {w : World} {g : Nat} {c : Value} {l : List Value} {T : TypeId} (h : w.heap[g]? = some (.cells (c :: l).toArray T (0, 0))) : w.cell? ⟨g, 0, none⟩ = some c ∧ w.rangeAt g 1 l := by
  refine ⟨by rw [cell_of_row w _ _ _ _ _ h]; rfl, fun j v hv => ?_⟩
  rw [cell_of_row w _ _ _ _ _ h]
  simp only [List.getElem?_toArray, Nat.add_comm 1 j, List.getElem?_cons_succ]
  exact hv
/-- Every block of cells at or beyond n lies as it lay. -/
def CellsKept (n : Nat) (A B : World) : Prop := A.heap.size ≤ B.heap.size ∧ ∀ k cs t fr, n ≤ k → A.heap[k]? = some (.cells cs t fr) → B.heap[k]? = some (.cells cs t fr)
theorem CellsKept.refl (n : Nat) (A : World) : CellsKept n A A := ⟨Nat.le_refl _, fun _ _ _ _ _ h => h⟩
theorem CellsKept.trans {n : Nat} {A B C : World} (h : CellsKept n A B) (h' : CellsKept n B C) : CellsKept n A C :=
  ⟨Nat.le_trans h.1 h'.1, fun k cs t fr hk hc => h'.2 k cs t fr hk (h.2 k cs t fr hk hc)⟩
theorem CellsKept.putObj {n : Nat} (W : World) (l : Nat) (o o' : Obj) (h : W.heap[l]? = some o) (ho : o.isCells = false) : CellsKept n W (W.putObj l o') := by
  refine ⟨by simp [World.putObj], fun k cs t fr _ hk => ?_⟩
  refine (World.putObj_heap_other (fun e => ?_)).trans hk
  subst e
  rw [h] at hk
  cases hk
  cases ho
theorem CellsKept.row {n B k s : Nat} {T : TypeId} {v : Value} {xs : List Value} {w w' : World} (h : w.ownsRow B T s v k xs) (hc : CellsKept n w w') (hB : n ≤ B) : w'.ownsRow B T s v k xs := by
  refine ⟨h.1, ?_⟩
  rcases h.2 with hn | ⟨g, cap, cur, e, hbg, hg, rest⟩
  · exact .inl hn
  · exact .inr ⟨g, cap, cur, e, hbg, hc.2 g _ _ _ (Nat.le_trans hB hbg) hg, rest⟩
theorem ownsRow_form {B k s : Nat} {T : TypeId} {v : Value} {xs : List Value} {w : World} (h : w.ownsRow B T s v k xs) : ∃ a cap, v = .slice a k cap := by
  rcases h.2 with ⟨rfl, rfl⟩ | ⟨g, cap, cur, rfl, _⟩
  · exact ⟨none, 0, rfl⟩
  · exact ⟨_, _, rfl⟩
theorem grownBy_below {W W' : World} (h : Below W.heap.size W W') : W.grownBy W' none := ⟨h.os, h.tape, h.output, h.size, fun k hk _ => h.block k hk⟩
theorem heap3 (w : World) (A B C : Obj) : (((w.alloc A).alloc B).alloc C).heap[w.heap.size]? = some A ∧ (((w.alloc A).alloc B).alloc C).heap[w.heap.size + 1]? = some B ∧ (((w.alloc A).alloc B).alloc C).heap[w.heap.size + 2]? = some C := by
  have h1 : (w.alloc A).heap.size = w.heap.size + 1 := by simp
  have h2 : ((w.alloc A).alloc B).heap.size = w.heap.size + 2 := by simp
  refine ⟨?_, ?_, ?_⟩
  · rw [Below.heap_alloc _ _ _ (by omega), Below.heap_alloc _ _ _ (by omega), heap_alloc_new]
  · rw [Below.heap_alloc _ _ _ (by omega), ← h1, heap_alloc_new]
  · rw [← h2, heap_alloc_new]
theorem run_load_op {P : Program} {w : World} {ρ : Operand → Value} {o : Oper} (ty : TypeId) (x : Operand) (b off : Nat) (cs : List Value) (d : TypeDesc) (ho : o.op = .load ty x) (hx : ρ x = .pointer (some ⟨b, off, none⟩)) (hc : w.rangeAt b off cs)
    (hu : P.underlying ty = some d) (hd : d.isRow = true) (hi : (P.info? ty).map (·.size) = some cs.length) : (execOp ρ o).run P w = .ok (.value (.agg cs.toArray)) w := by
  unfold execOp
  simp only [ho, hx, Instr.loadAt, Instr.sureAddr, Sem.run_bind, Sem.run_pure, Result.andThen_ok, run_loadVar_mid w b off ty cs d hc hu hd hi]

end Go.Proofs.Ytjjanjhoaiannaa
