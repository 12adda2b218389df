/- Steps: new variables within regions, maps that keep the number of blocks; A store into one cell of a block. -/
import Derived.Test.YtjjanjhoaiannaaSteps
import Derived.Test.YtjjanjhoaiannaaIdv
import Derived.Test.YtjjanjhoaiannaaRowb
import Derived.Test.YtjjanjhoaiannaaSeq
namespace Go.Proofs.Ytjjanjhoaiannaa
open Go.RowKit
set_option linter.unusedVariables false
set_option linter.unusedSimpArgs false

section
variable {P : Program} {o : Oper} {a : Act} {w : World} {K : Act → World → Prop} {Q : Exit → Act → World → Prop}
theorem wp_newV (dst : Option Tmp) (hdst : o.dst = dst) (t : TypeId) (ho : o.op = .alloc t) (zs : Array Value) (sz : Nat) (hi : (P.info? t).map (fun i => (i.zero, i.size)) = some (some (.agg zs), sz))
    (h : ∀ w', w'.heap[w.heap.size]? = some (.cells zs t (0, 0)) → Below w.heap.size w w' → w'.heap.size = w.heap.size + 1 → K (a.put dst (.pointer (some ⟨w.heap.size, 0, none⟩))) w') : o.wp P a w K Q := by
  have hrun : (execOp a.eval o).run P w = .ok (.value (.pointer (some ⟨w.heap.size, 0, none⟩))) (w.alloc (.cells zs t)) := by
    cases hq : P.info? t with
    | none => simp [hq] at hi
    | some i =>
      simp only [hq, Option.map_some, Option.some.injEq, Prod.mk.injEq] at hi
      unfold execOp
      simp [ho, Instr.alloc, zeroValue, typeInfo, hq, hi.1, newVar, newRow, newObj, go_sem, Value.cells]
      rfl
  unfold Oper.wp
  rw [hrun, Oper.upon_value, hdst]
  exact h _ (heap_alloc_new _ _) ((Below.refl _ _).alloc (Nat.le_refl _) _) (by simp)
theorem wp_putV (hdst : o.dst = none) (ty : TypeId) (x y : Operand) (ho : o.op = .store ty x y)
    (g : Nat) (cells : Array Value) (hx : a.eval x = .pointer (some ⟨g, 0, none⟩)) (hy : a.eval y = .agg cells)
    (t : TypeId) (old : Array Value) (hg : w.heap[g]? = some (.cells old t (0, 0))) (hi : (P.info? ty).map (·.size) = some cells.size)
    (hold : old.size = cells.size) (h1 : cells.all (·.oneCell') = true)
    (h : ∀ w', w'.heap[g]? = some (.cells cells t (0, 0)) → Chg (fun k => k = g) w w' → w'.heap.size = w.heap.size → K a w') : o.wp P a w K Q := by
  refine wp_store_row ty x y ho g cells hx hy t old hg hi hold h1 ?_
  rw [hdst]
  exact h _ (setRow_heap _ _ _ _ _ _ hg) ⟨rfl, rfl, rfl, by simp [World.setRow], fun k _ hk => setRow_other _ _ _ _ hk⟩ (by simp [World.setRow])
end
section
open Go.Maps
variable {P : Program} {kt et t : TypeId} {κ : Type} [DecidableEq κ] {E : KeyEnc P kt κ} {w w' : World} {b : Nat} {f : κ → Option Value}
/-- An update makes no block. -/
theorem KMap.updS (h : KMap E w b f) (ht : P.underlying t = some (.map kt et)) (k : κ) (v : Value) :
    ∃ w', (Instr.mapUpdate t (.map (some b)) (E.kv k) v).run P w = .ok () w' ∧ KMap E w' b (fun x => if x = k then some v else f x) ∧ Chg (fun j => j = b) w w' ∧ w'.heap.size = w.heap.size := by
  obtain ⟨w', h1, h2, h3⟩ := h.upd ht k v
  refine ⟨w', h1, h2, h3, ?_⟩
  obtain ⟨es, clock, L, hb, e1, e2, e3⟩ := h.ex
  obtain ⟨l, hl⟩ := E.lit k
  have key : ∀ o : Obj, (setObjW w b o).heap.size = w.heap.size := fun o => by simp [setObjW]
  rcases E.K.find w hl es.toList (ents_hall E e1) with ⟨h4, h5⟩ | ⟨j, e, h4, h5, h6⟩
  · have h7 : (Instr.mapUpdate t (.map (some b)) (E.kv k) v).run P w = .ok () (setObjW w b (.map (es.push ⟨E.kv k, v, clock⟩) (clock + 1))) := by
      simp [Instr.mapUpdate, run_underlying ht, MapKept.run_getObj_map hb, E.K.check w false hl, h4, MapKept.run_setObj_map _ hb, Result.andThen, setObjW]
    rw [h7] at h1
    cases h1
    exact key _
  · have hj : es[j]? = some e := by simpa using h5
    have h7 : (Instr.mapUpdate t (.map (some b)) (E.kv k) v).run P w = .ok () (setObjW w b (.map (es.modify j fun e' => { e' with key := E.kv k, val := v }) clock)) := by
      simp [Instr.mapUpdate, run_underlying ht, MapKept.run_getObj_map hb, E.K.check w false hl, h4, hj, h6, E.K.stays w hl, MapKept.run_setObj_map _ hb, Result.andThen, setObjW]
    rw [h7] at h1
    cases h1
    exact key _
end
theorem mkMap {t kt et : TypeId} (hu : Try.prog.underlying t = some (.map kt et)) (n : Int) (w : World) : (Instr.makeMap t (some (.int .i64 n))).run Try.prog w = .ok (.map (some w.heap.size)) (w.alloc (.map #[] 0)) := by
  unfold Instr.makeMap
  simp only [Sem.run_bind, run_underlying hu, Result.andThen_ok, asInt, Sem.run_pure]
  rfl
theorem mkMap0 {t kt et : TypeId} (hu : Try.prog.underlying t = some (.map kt et)) (w : World) : (Instr.makeMap t none).run Try.prog w = .ok (.map (some w.heap.size)) (w.alloc (.map #[] 0)) := by
  unfold Instr.makeMap
  simp only [Sem.run_bind, run_underlying hu, Result.andThen_ok, asInt, Sem.run_pure]
  rfl
/-- A map is made: the new world is named. -/
theorem wpList_mapV {ops : Array Oper} {rest : List Oper} {o : Oper} {a : Act} {w : World} {Q : Exit → Act → World → Prop} {kt : TypeId} {κ : Type} [DecidableEq κ] (E : KeyEnc Try.prog kt κ) (hg : o.guard = none) (dst : Option Tmp) (hdst : o.dst = dst) (t : TypeId) {et : TypeId} (hu : Try.prog.underlying t = some (.map kt et)) (r : Option Operand) (ho : o.op = .makeMap t r) (hr : r = none ∨ ∃ x n, r = some x ∧ a.eval x = .int .i64 n)
    (h : ∀ w', KMap E w' w.heap.size (fun _ => none) → Below w.heap.size w w' → w'.heap.size = w.heap.size + 1 → wpList Try.prog ops Q rest (a.put dst (.map (some w.heap.size))) w') : wpList Try.prog ops Q (o :: rest) a w := by
  refine wpList_runI hg dst hdst _ (w.alloc (.map #[] 0)) ?_ (h _ (KMap.new _) ((Below.refl _ _).alloc (Nat.le_refl _) _) (by simp))
  unfold execOp
  simp only [ho, Sem.run_bind]
  rcases hr with rfl | ⟨x, n, rfl, hx⟩
  · simp only [Option.map_none, mkMap0 hu, Result.andThen_ok]; rfl
  · simp only [Option.map_some, hx, mkMap hu, Result.andThen_ok]; rfl
/-- An update of a map: the new world is named. -/
theorem wpList_updV {ops : Array Oper} {rest : List Oper} {o : Oper} {a : Act} {w : World} {Q : Exit → Act → World → Prop} {kt : TypeId} {κ : Type} [DecidableEq κ] {E : KeyEnc Try.prog kt κ} {b : Nat} {f : κ → Option Value} (hm : KMap E w b f) (hg : o.guard = none) (hdst : o.dst = none) (t : TypeId) {et : TypeId} (hu : Try.prog.underlying t = some (.map kt et)) (m k v : Operand) (ho : o.op = .mapUpdate t m k v) (hmm : a.eval m = .map (some b)) (x : κ) (hk : a.eval k = E.kv x) (y : Value) (hv : a.eval v = y)
    (h : ∀ w', KMap E w' b (fun z => if z = x then some y else f z) → Chg (fun j => j = b) w w' → w'.heap.size = w.heap.size → wpList Try.prog ops Q rest a w') : wpList Try.prog ops Q (o :: rest) a w := by
  obtain ⟨w', h1, h2, h3, h4⟩ := hm.updS hu x y
  refine wpList_plain hg fun K hK => ?_
  unfold Oper.wp execOp
  simp only [ho, hmm, hk, hv, Sem.run_bind, h1, Result.andThen_ok, Sem.run_pure, Oper.upon_skip, hdst]
  exact hK _ _ (h w' h2 h3 h4)
end Go.Proofs.Ytjjanjhoaiannaa

namespace Go.Proofs.Ytjjanjhoaiannaa
open Go.RowKit
set_option linter.unusedVariables false
set_option linter.unusedSimpArgs false
section
variable {P : Program} {w : World}
theorem run_storeC {g i : Nat} {cs : Array Value} {T ty : TypeId} {v : Value} (hg : w.heap[g]? = some (.cells cs T (0, 0))) (hi : i < cs.size) (hv : v.oneCell' = true) (hsz : (P.info? ty).map (·.size) = some 1) : (Instr.storeAt ty (.pointer (some ⟨g, i, none⟩)) v).run P w = .ok () (w.setCell ⟨g, i, none⟩ v) := by
  have hc : w.cell? ⟨g, i, none⟩ = some cs[i] := by rw [cell_of_row _ _ _ _ _ _ hg, Array.getElem?_eq_getElem hi]
  have hf := frozen_of_row w g i cs T hg
  cases hq : P.info? ty with
  | none => simp [hq] at hsz
  | some t =>
    simp only [hq, Option.map_some, Option.some.injEq] at hsz
    cases v <;> simp_all [Value.oneCell', Instr.storeAt, Instr.sureAddr, storeVar, sizeOf, typeInfo, program, store, storeCells, Sem.run, Value.cells, Addr.add]
end
theorem wpList_putC {P : Program} {ops : Array Oper} {rest : List Oper} {o : Oper} {a : Act} {w : World} {Q : Exit → Act → World → Prop} (hgd : o.guard = none) (hdst : o.dst = none) (ty : TypeId) (x y : Operand) (ho : o.op = .store ty x y)
    (g i : Nat) (v : Value) (hx : a.eval x = .pointer (some ⟨g, i, none⟩)) (hy : a.eval y = v) {T : TypeId} {cs : Array Value} (hg : w.heap[g]? = some (.cells cs T (0, 0))) (hi : i < cs.size) (hv : v.oneCell' = true) (hsz : (P.info? ty).map (·.size) = some 1)
    (h : ∀ w', w'.heap[g]? = some (.cells (cs.setIfInBounds i v) T (0, 0)) → Chg (fun k => k = g) w w' → w'.heap.size = w.heap.size → wpList P ops Q rest a w') : wpList P ops Q (o :: rest) a w := by
  refine wpList_plain hgd fun K hK => ?_
  unfold Oper.wp execOp
  simp only [ho, hx, hy, Sem.run_bind, run_storeC hg hi hv hsz, Result.andThen_ok, Sem.run_pure, Oper.upon_skip, hdst]
  exact hK _ _ (h _ (heap_setCell_same _ _ _ _ _ _ hg) (Chg.setCell _ _ rfl) (by simp [World.setCell]))
end Go.Proofs.Ytjjanjhoaiannaa
