/- Regions in the body of a range over a function: what the plain laws tell of a region holds there, too; Steps over rows in the body of a range over a function; A range over a function whose variable is a row of its own in every round. -/
import Derived.Test.YtnmdgjodbikndaaRegion6
import Derived.OrdersIn
import Derived.Deep.RegionHeld3
import Derived.ControlIn
import Derived.RangeFuncCalls
import Derived.TacticsIn
import Derived.Test.YtnmdgjodbikndaaSteps
import Derived.Deep.MidRow
import Derived.Test.YtnmdgjodbikndaaGen
import Derived.RangeFuncNested
namespace Go.Proofs.Ytnmdgjodbikndaa
open Go.RowKit
set_option linter.unusedVariables false
set_option linter.unusedSimpArgs false

def noDefer (o : Oper) : Bool := match o.op with | .defer _ => false | _ => true
theorem noDefer_spec {o : Oper} (h : noDefer o = true) (c : Call) : o.op ≠ .defer c := by
  intro e
  unfold noDefer at h
  rw [e] at h
  cases h
theorem rowsIn_wide {n : Nat} {P : Program} {row : String} {args : Array Value} {w : World} {R : Value → World → Prop} (h : Rows P row args w R) : RowsIn Fence.wide n P row args w R :=
  fun c cs _ => let ⟨v, w', r, s⟩ := h c cs; ⟨v, w', r, stepsIn_wide.2 s⟩
/-- A fence that bars nothing, in a round or not. -/
structure WideF (P : Program) (F : Fence) : Prop where
  fn : ∀ f, F.fn f
  depth : F.depth.isSome = false
  calls : ∀ {n : Nat} {f : FuncId} {args : Array Value} {w : World} {R : Ending → World → Prop}, Calls P f args w R → CallsIn F n P f args w R
  rows : ∀ {n : Nat} {row : String} {args : Array Value} {w : World} {R : Value → World → Prop}, Rows P row args w R → RowsIn F n P row args w R
  sem : ∀ (ρ : Operand → Value) (o : Oper), noDefer o = true → o.semAt F.round ρ = execOp ρ o
theorem wideF {P : Program} : WideF P Fence.wide := ⟨fun _ => trivial, rfl, fun h => callsIn_wide.2 h, fun h => rowsIn_wide h, fun ρ o _ => by rw [Fence.wide_round, Oper.semAt_none]⟩
theorem wideR {P : Program} {l : Nat} : WideF P (Fence.wide.inRound l) := ⟨fun _ => trivial, rfl, fun h => CallsIn.inRound l (callsIn_wide.2 h), fun h => rowsIn_wide h, fun ρ o h => by rw [show (Fence.wide.inRound l).round = some l from rfl, Oper.semAt_some l ρ o (noDefer_spec h)]⟩
section
variable {P : Program} {ops : Array Oper} {Q : Exit → Act → World → Prop} {n : Nat} {F : Fence}
theorem oper_lift (hW : WideF P F) {o : Oper} {a : Act} {w : World} {next : Act → World → Prop} (hd : noDefer o = true) (h : o.wp P a w next Q) : o.wpIn F n P a w next Q := by
  refine ⟨fun _ _ => hW.fn _, ?_⟩
  rw [hW.sem _ _ hd]
  unfold Oper.wp at h
  generalize (execOp a.eval o).run P w = r at *
  cases r with
  | ok r w' =>
    cases r <;> simp only [Oper.upon] at h
    case value v => exact h
    case skip => exact h
    case defer d => exact h
    case enter f args => exact ⟨fun e => (by rw [hW.depth] at e; cases e), hW.calls h⟩
    case row r args => exact ⟨fun e => (by rw [hW.depth] at e; cases e), hW.rows h⟩
  | halt x w' => cases x <;> simp only [Oper.upon] at h <;> exact h
theorem wpOpIn_lift (hW : WideF P F) (hd : ops.all noDefer = true) (hQ : ∀ a w, ¬ Q .outgrown a w) {i : Nat} {K K' : Act → World → Prop} {a : Act} {w : World} (hK : ∀ a w, K a w → K' a w) (h : wpOp P ops Q i K a w) : wpOpIn F n P ops Q i K' a w := by
  unfold wpOp at h
  unfold wpOpIn
  cases ho : ops[i]? with
  | none => rw [ho] at h; exact hK _ _ h
  | some o =>
    rw [ho] at h
    simp only at h ⊢
    have hdo : noDefer o = true := by
      obtain ⟨hi, e⟩ := Array.getElem?_eq_some_iff.1 ho
      rw [← e]
      exact Array.all_eq_true.1 hd i hi
    split
    · rename_i hw
      rw [if_pos hw] at h
      rcases h with h | ⟨_, a', w', h⟩
      · have h2 := oper_lift (n := n) hW hdo h
        refine ⟨fun _ _ => hW.fn _, ?_⟩
        have h3 := h2.2
        generalize (o.semAt F.round a.eval).run P w = r at *
        cases r with
        | ok r w' =>
          cases r <;> simp only [Oper.uponIn] at h3 ⊢
          case value v => exact hK _ _ h3
          case skip => exact hK _ _ h3
          case defer d => exact hK _ _ h3
          case enter f args => exact ⟨h3.1, CallsIn.mono h3.2 fun e w'' he => by cases e <;> first | exact hK _ _ he | exact he⟩
          case row r args => exact ⟨h3.1, RowsIn.mono h3.2 fun e w'' he => hK _ _ he⟩
          case round l' f tmps asg body => exact ⟨h3.1, RoundIn.mono h3.2 fun e w'' he => by cases e <;> first | exact hK _ _ he | exact he⟩
        | halt x w' => cases x <;> simp only [Oper.uponIn] at h3 ⊢ <;> exact h3
      · exact absurd h (hQ _ _)
    · rename_i hw
      rw [if_neg hw] at h
      exact ⟨fun _ _ => hW.fn _, hK _ _ h⟩
theorem wpAnyIn_lift (hW : WideF P F) (hd : ops.all noDefer = true) (hQ : ∀ a w, ¬ Q .outgrown a w) {md : Region.Mode} : ∀ (fuel : Nat) (listed : Array Bool) (a : Act) (w : World), wpAny P md ops Q fuel listed a w → wpAnyIn F n P md ops Q fuel listed a w
  | 0, _, _, _, h => h
  | fuel + 1, listed, a, w, h => ⟨h.1, fun i hi => wpOpIn_lift hW hd hQ (fun a w h => wpAnyIn_lift hW hd hQ fuel _ a w h) (h.2 i hi)⟩
theorem wpOpsIn_lift (hW : WideF P F) (hd : ops.all noDefer = true) (hQ : ∀ a w, ¬ Q .outgrown a w) : ∀ (L : List Nat) (a : Act) (w : World), wpOps P ops Q L a w → wpOpsIn F n P ops Q L a w
  | [], _, _, h => h
  | i :: L, a, w, h => by
    rw [wpOps_cons] at h
    rw [wpOpsIn_cons]
    exact wpOpIn_lift hW hd hQ (fun a w h => wpOpsIn_lift hW hd hQ L a w h) h
/-- A region whose order is fixed. -/
theorem wpIn_region_lift (hW : WideF P F) {id : Nat} {a : Act} {w : World} (hd : ops.all noDefer = true) (hQ : ∀ a w, ¬ Q .outgrown a w) (h : wpList P ops Q ops.toList a w) : (Code.region id ops false).wpIn F n P Q a w :=
  wpIn_region (wpOpsIn_lift hW hd hQ _ a w (by rw [List.range_eq_range', ← Array.length_toList, wpOps_eq_wpList ops.toList 0 (by simp)]; exact h))
/-- A region that draws its order. -/
theorem wpIn_region_liftG (hW : WideF P F) {id : Nat} {a : Act} {w : World} (hd : ops.all noDefer = true) (hQ : ∀ a w, ¬ Q .outgrown a w) (fin : List Nat) (S : World → Prop) (hm : P.follows .mixedOrders = true)
    (h : wpAnyG P .any ops Q S fin ops.size (Array.replicate ops.size false) a w.drew) : (Code.region id ops true).wpIn F n P Q a w :=
  wpIn_region_any hm (wpAnyIn_lift hW hd hQ _ _ _ _ (wpAny_of_G _ _ _ _ h))
theorem wpIn_region_liftH (hW : WideF P F) {id : Nat} {a : Act} {w : World} (hd : ops.all noDefer = true) (hQ : ∀ a w, ¬ Q .outgrown a w) (S : World → Prop) (hm : P.follows .mixedOrders = true)
    (h : wpAnyH P .any ops Q S ops.size (Array.replicate ops.size false) a w.drew) : (Code.region id ops true).wpIn F n P Q a w :=
  wpIn_region_any hm (wpAnyIn_lift hW hd hQ _ _ _ _ (wpAny_of_held _ _ _ _ h))
theorem noPanic_out (hQ : ∀ a w, ¬ Q .outgrown a w) (a : Act) (w : World) : ¬ NoPanic Q .outgrown a w := fun h => hQ a w (NoPanic.imp _ _ _ h)
theorem wpIn_region_liftGN (hW : WideF P F) {id : Nat} {a : Act} {w : World} (hd : ops.all noDefer = true) (hQ : ∀ a w, ¬ Q .outgrown a w) (fin : List Nat) (S : World → Prop) (hm : P.follows .mixedOrders = true)
    (h : wpAnyG P .any ops (NoPanic Q) S fin ops.size (Array.replicate ops.size false) a w.drew) : (Code.region id ops true).wpIn F n P Q a w :=
  Go.wpIn_mono (wpIn_region_liftG hW hd (noPanic_out hQ) fin S hm h) NoPanic.imp
theorem wpIn_region_liftHN (hW : WideF P F) {id : Nat} {a : Act} {w : World} (hd : ops.all noDefer = true) (hQ : ∀ a w, ¬ Q .outgrown a w) (S : World → Prop) (hm : P.follows .mixedOrders = true)
    (h : wpAnyH P .any ops (NoPanic Q) S ops.size (Array.replicate ops.size false) a w.drew) : (Code.region id ops true).wpIn F n P Q a w :=
  Go.wpIn_mono (wpIn_region_liftH hW hd (noPanic_out hQ) S hm h) NoPanic.imp
/-- One operation of a list, by the plain laws. -/
theorem wpListIn_one (hW : WideF P F) {rest : List Oper} {o : Oper} {a : Act} {w : World} (hd : noDefer o = true) (hQ : ∀ a w, ¬ Q .outgrown a w)
    (h : wpList P ops (Exit.then (fun a w => wpListIn F n P ops Q rest a w) Q) [o] a w) : wpListIn F n P ops Q (o :: rest) a w := by
  unfold wpList at h
  unfold wpListIn
  split
  · rename_i hw
    rw [if_pos hw] at h
    rcases h with h | ⟨_, a', w', h⟩
    · have h2 := oper_lift (n := n) hW hd h
      refine ⟨fun _ _ => hW.fn _, ?_⟩
      have h3 := h2.2
      generalize (o.semAt F.round a.eval).run P w = r at *
      cases r with
      | ok r w' =>
        cases r <;> simp only [Oper.uponIn] at h3 ⊢
        case value v => exact h3
        case skip => exact h3
        case defer d => exact h3
        case enter f args => exact ⟨h3.1, CallsIn.mono h3.2 fun e w'' he => by cases e <;> first | exact he | exact absurd he (by rintro ⟨a, w, h⟩; exact hQ _ _ h)⟩
        case row r args => exact ⟨h3.1, RowsIn.mono h3.2 fun e w'' he => he⟩
        case round l' f tmps asg body => exact ⟨h3.1, RoundIn.mono h3.2 fun e w'' he => by cases e <;> first | exact he | exact absurd he (by rintro ⟨a, w, h⟩; exact hQ _ _ h)⟩
      | halt x w' => cases x <;> simp only [Oper.uponIn] at h3 ⊢ <;> exact h3
    · exact absurd h (hQ _ _)
  · rename_i hw
    rw [if_neg hw] at h
    exact ⟨fun _ _ => hW.fn _, h⟩
end
end Go.Proofs.Ytnmdgjodbikndaa

namespace Go.Proofs.Ytnmdgjodbikndaa
open Go.RowKit
set_option linter.unusedVariables false
set_option linter.unusedSimpArgs false

section
variable {P : Program} {ops : Array Oper} {Q : Exit → Act → World → Prop} {n : Nat} {F : Fence} {rest : List Oper} {o : Oper} {a : Act} {w : World}
theorem wpListIn_load_mid (hW : WideF P F) (hQ : ∀ a w, ¬ Q .outgrown a w) (hgd : o.guard = none) (ty : TypeId) (x : Operand) (ho : o.op = .load ty x)
    (b off : Nat) (hx : a.eval x = .pointer (some ⟨b, off, none⟩)) (cs : List Value) (d : TypeDesc) (hc : w.rangeAt b off cs)
    (hu : P.underlying ty = some d) (hd : d.isRow = true) (hi : (P.info? ty).map (·.size) = some cs.length)
    (h : wpListIn F n P ops Q rest (a.put o.dst (.agg cs.toArray)) w) : wpListIn F n P ops Q (o :: rest) a w :=
  wpListIn_one hW (by unfold noDefer; rw [ho]) hQ (wpList_load_mid hgd ty x ho b off hx cs d hc hu hd hi h)
theorem wpListIn_loadV (hW : WideF P F) (hQ : ∀ a w, ¬ Q .outgrown a w) (hgd : o.guard = none) (dst : Option Tmp) (hdst : o.dst = dst) (ty : TypeId) (x : Operand) (ho : o.op = .load ty x)
    (g : Nat) (hx : a.eval x = .pointer (some ⟨g, 0, none⟩)) (t : TypeId) (cs : Array Value) (fr : Nat × Nat) (d : TypeDesc) (hg : w.heap[g]? = some (.cells cs t fr))
    (hu : P.underlying ty = some d) (hd : (match d with | .struct _ | .array _ _ => true | _ => false) = true) (hi : (P.info? ty).map (·.size) = some cs.size)
    (h : wpListIn F n P ops Q rest (a.put dst (.agg cs)) w) : wpListIn F n P ops Q (o :: rest) a w :=
  wpListIn_one hW (by unfold noDefer; rw [ho]) hQ (wpList_loadV hgd dst hdst ty x ho g hx t cs fr d hg hu hd hi h)
theorem wpListIn_newV (hW : WideF P F) (hQ : ∀ a w, ¬ Q .outgrown a w) (hg : o.guard = none) (dst : Option Tmp) (hdst : o.dst = dst) (t : TypeId) (ho : o.op = .alloc t) (zs : Array Value) (sz : Nat) (hi : (P.info? t).map (fun i => (i.zero, i.size)) = some (some (.agg zs), sz))
    (h : ∀ w', w'.heap[w.heap.size]? = some (.cells zs t (0, 0)) → Below w.heap.size w w' → w'.heap.size = w.heap.size + 1 → wpListIn F n P ops Q rest (a.put dst (.pointer (some ⟨w.heap.size, 0, none⟩))) w') : wpListIn F n P ops Q (o :: rest) a w :=
  wpListIn_one hW (by unfold noDefer; rw [ho]) hQ (wpList_newV hg dst hdst t ho zs sz hi h)
theorem wpListIn_putV (hW : WideF P F) (hQ : ∀ a w, ¬ Q .outgrown a w) (hgd : o.guard = none) (hdst : o.dst = none) (ty : TypeId) (x y : Operand) (ho : o.op = .store ty x y)
    (g : Nat) (cells : Array Value) (hx : a.eval x = .pointer (some ⟨g, 0, none⟩)) (hy : a.eval y = .agg cells)
    (t : TypeId) (old : Array Value) (hg : w.heap[g]? = some (.cells old t (0, 0))) (hi : (P.info? ty).map (·.size) = some cells.size)
    (hold : old.size = cells.size) (h1 : cells.all (·.oneCell') = true)
    (h : ∀ w', w'.heap[g]? = some (.cells cells t (0, 0)) → Chg (fun k => k = g) w w' → w'.heap.size = w.heap.size → wpListIn F n P ops Q rest a w') : wpListIn F n P ops Q (o :: rest) a w :=
  wpListIn_one hW (by unfold noDefer; rw [ho]) hQ (wpList_putV hgd hdst ty x y ho g cells hx hy t old hg hi hold h1 h)
end
end Go.Proofs.Ytnmdgjodbikndaa

namespace Go.Proofs.Ytnmdgjodbikndaa
open Go.RowKit
set_option linter.unusedVariables false
set_option linter.unusedSimpArgs false

theorem CellsKept.of_below {n : Nat} {w w' : World} (h : Below w.heap.size w w') : CellsKept n w w' := ⟨h.size, fun k cs t fr _ hc => (h.block k (Array.getElem?_eq_some_iff.1 hc).1).trans hc⟩
theorem KeepsFrom.of_below {B : Nat} {w w' : World} (h : Below w.heap.size w w') : KeepsFrom B w w' := KeepsFrom.of_grownBy (grownBy_below h) (fun j e => by cases e)
theorem KeepsFrom.of_chg {B : Nat} {F : Nat → Prop} {w w' : World} (h : Chg F w w') (hF : ∀ k, F k → k < B) : KeepsFrom B w w' := ⟨h.size, fun k o hk ho _ => (h.block k (Array.getElem?_eq_some_iff.1 ho).1 (fun e => by have := hF k e; omega)).trans ho⟩
theorem CellsKept.of_chg {B : Nat} {F : Nat → Prop} {w w' : World} (h : Chg F w w') (hF : ∀ k, F k → k < B) : CellsKept B w w' := ⟨h.size, fun k cs t fr hk hc => (h.block k (Array.getElem?_eq_some_iff.1 hc).1 (fun e => by have := hF k e; omega)).trans hc⟩
theorem own_below {β : Type} {B : Nat} {I : β → World → Prop} (h : OwnFrom B I) {s : β} {w w' : World} (hs : I s w) (hb : Below w.heap.size w w') : I s w' := h s w w' none hs (grownBy_below hb) (fun r e => by cases e)
theorem grown_cells {B : Nat} {W W' : World} {row : Option Nat} {r : Nat} {cs : Array Value} {t : TypeId} {fr : Nat × Nat} (hg : W.grownBy W' row) (hr : ∀ q, row = some q → B ≤ q ∧ ∃ o : Obj, W.heap[q]? = some o ∧ o.isCells = false) (h : W.heap[r]? = some (.cells cs t fr)) : W'.heap[r]? = some (.cells cs t fr) :=
  (hg.block _ (Array.getElem?_eq_some_iff.1 h).1 (fun e => by
    obtain ⟨_, o, ho, hc⟩ := hr r e.symm
    rw [h] at ho
    cases ho
    cases hc)).trans h
theorem wpIn_range_boxed {P : Program} {α : Type} {g : Operand} {p0 q : Tmp} {T : TypeId} (row : α → Array Value) {id : Nat} {ops : Array Oper} {o1 o2 : Oper} {body : Code} {Q : Exit → Act → World → Prop} {a : Act} {w : World}
    (hops : ops.toList = [o1, o2]) (ho1 : o1.op = .alloc T) (hd1 : o1.dst = some q) (hg1 : o1.guard = none) (ho2 : o2.op = .store T (.tmp q) (.tmp p0)) (hd2 : o2.dst = none) (hg2 : o2.guard = none) (hpq : p0 ≠ q) (hpl : p0 < a.tmps.size) (hql : q < a.tmps.size)
    (zs : Array Value) (sz : Nat) (hi : (P.info? T).map (fun i => (i.zero, i.size)) = some (some (.agg zs), sz)) (hz : zs.size = sz) (hrow : ∀ x, (row x).size = sz) (hone : ∀ x, (row x).all (·.oneCell') = true)
    {gf : Nat} {lb : Array Value} (hg : a.eval g = .func (.func gf) #[] lb) (eg : ∀ args w, (callFunc gf args).run P w = .ok (.enter gf args) w)
    {n₀ : Nat} {S Sp : List α → Prop} {N : Nat} {w0 : World} (hseq : SeqStopsK Fence.wide 3 P gf lb (fun x => #[.agg (row x)]) (CellsKept n₀) S Sp N w0) (hb0 : Below w0.heap.size w0 w)
    (I : List α → World → Prop) (Ix : Code → List α → World → Prop) (hI : OwnFrom w.heap.size I) (hIx : ∀ c, OwnFrom w.heap.size (Ix c)) (h0 : I [] w) (hIs : ∀ pre W, I pre W → w.heap.size ≤ W.heap.size)
    (hbody : ∀ (l : Nat) (pre : List α) (x : α) (r : Nat) (W : World), w.heap.size ≤ l → (∃ r, W.heap[l]? = some (.loop r)) → I pre W → w.heap.size ≤ r → W.heap[r]? = some (.cells (row x) T (0, 0)) → pre.length < N →
      body.wpIn (Fence.wide.inRound l) 2 P (ownPostG w.heap.size (CellsKept n₀) I Ix (pre ++ [x]) W) { tmps := (a.tmps.setIfInBounds p0 (.agg (row x))).setIfInBounds q (.pointer (some ⟨r, 0, none⟩)), defers := [] } W)
    (hdone : ∀ (D : Nat) (xs : List α) (W : World), w.heap.size ≤ D → S xs → I xs W → W.heap[D]? = some (.deferred (some [])) → Q .normal { a with defers := { target := .collected D, args := #[] } :: a.defers } W)
    (hstop : ∀ (D : Nat) (c : Code) (pre : List α) (W : World), w.heap.size ≤ D → Sp pre → Ix c pre W → W.heap[D]? = some (.deferred (some [])) → c.wpIn Fence.wide 4 P Q { a with defers := { target := .collected D, args := #[] } :: a.defers } W) :
    (Code.rangeFunc g #[p0] (Code.region id ops false) body).wpIn Fence.wide 4 P Q a w := by
  refine wpIn_rangeFunc_ownH rfl (by decide) hg trivial eg hseq CellsKept.trans (fun W l o o' _ h ho _ => CellsKept.putObj W l o o' h ho) hb0 (fun x => rfl) I Ix hI hIx h0
    (fun x a' W => ∃ r, w.heap.size ≤ r ∧ a' = { tmps := (a.tmps.setIfInBounds p0 (.agg (row x))).setIfInBounds q (.pointer (some ⟨r, 0, none⟩)), defers := [] } ∧ W.heap[r]? = some (.cells (row x) T (0, 0))) ?hAx ?assign ?body hdone hstop
  case hAx =>
    rintro x a' ⟨⟩ W W' row' ⟨r, h1, h2, h3⟩ hg hr
    exact ⟨r, h1, h2, grown_cells hg hr h3⟩
  case assign =>
    intro l pre x W K hI' hK
    rw [show (#[p0].zip #[Value.agg (row x)]).foldl (fun t (x : Tmp × Value) => t.setIfInBounds x.1 x.2) a.tmps = a.tmps.setIfInBounds p0 (.agg (row x)) by simp]
    refine wpIn_region_lift wideR (by rw [← Array.all_toList, hops]; simp [noDefer, ho1, ho2]) (fun _ _ h => h) ?_
    rw [hops]
    refine wpList_newV hg1 (some q) hd1 T ho1 zs sz hi ?_
    intro w1 x1 b1 s1
    have hp : (Act.put { tmps := a.tmps.setIfInBounds p0 (.agg (row x)), defers := [] } (some q) (.pointer (some ⟨W.heap.size, 0, none⟩))) = { tmps := (a.tmps.setIfInBounds p0 (.agg (row x))).setIfInBounds q (.pointer (some ⟨W.heap.size, 0, none⟩)), defers := [] } := rfl
    have hsz : (P.info? T).map (·.size) = some (row x).size := by
      rw [hrow]
      cases hq : P.info? T with
      | none => simp [hq] at hi
      | some i => simp only [hq, Option.map_some, Option.some.injEq, Prod.mk.injEq] at hi ⊢; exact hi.2
    refine wpList_putV hg2 hd2 T (.tmp q) (.tmp p0) ho2 W.heap.size (row x) ?_ ?_ T zs x1 hsz (by rw [hz, hrow]) (hone x) ?_
    · show (Act.put { tmps := a.tmps.setIfInBounds p0 (.agg (row x)), defers := [] } (some q) (.pointer (some ⟨W.heap.size, 0, none⟩))).eval (.tmp q) = _
      rw [hp]
      simp [Act.eval, hql]
    · show (Act.put { tmps := a.tmps.setIfInBounds p0 (.agg (row x)), defers := [] } (some q) (.pointer (some ⟨W.heap.size, 0, none⟩))).eval (.tmp p0) = _
      rw [hp]
      simp [Act.eval, hpl, Ne.symm hpq]
    intro w2 x2 c2 s2
    have hb : Below W.heap.size W w2 := b1.trans (c2.below (B := W.heap.size) (fun k e => by omega) b1.size)
    exact hK _ _ (KeepsFrom.of_below hb) (CellsKept.of_below hb) (own_below hI hI' hb) ⟨W.heap.size, hIs _ _ hI', rfl, x2⟩
  case body =>
    rintro l pre x a' W hl hr hI' ⟨r, h1, rfl, h3⟩ hN
    exact hbody l pre x r W hl hr hI' h1 h3 hN
end Go.Proofs.Ytnmdgjodbikndaa
