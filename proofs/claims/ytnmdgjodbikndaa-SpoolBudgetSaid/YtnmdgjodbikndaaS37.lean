/- Ranges over a function whose bodies append to a slice. -/
import Derived.Test.YtnmdgjodbikndaaS36
namespace Go.Proofs.Ytnmdgjodbikndaa
open Go.RowKit
set_option linter.unusedVariables false
set_option linter.unusedSimpArgs false

theorem wpIn_range_boxedK {P : Program} {α : Type} {g : Operand} {p0 q : Tmp} {T : TypeId} (row : α → Array Value) {id : Nat} {ops : Array Oper} {o1 o2 : Oper} {body : Code} {Q : Exit → Act → World → Prop} {a : Act} {w : World}
    (hops : ops.toList = [o1, o2]) (ho1 : o1.op = .alloc T) (hd1 : o1.dst = some q) (hg1 : o1.guard = none) (ho2 : o2.op = .store T (.tmp q) (.tmp p0)) (hd2 : o2.dst = none) (hg2 : o2.guard = none) (hpq : p0 ≠ q) (hpl : p0 < a.tmps.size) (hql : q < a.tmps.size)
    (zs : Array Value) (sz : Nat) (hi : (P.info? T).map (fun i => (i.zero, i.size)) = some (some (.agg zs), sz)) (hz : zs.size = sz) (hrow : ∀ x, (row x).size = sz) (hone : ∀ x, (row x).all (·.oneCell') = true)
    {gf : Nat} {lb : Array Value} (hg : a.eval g = .func (.func gf) #[] lb) (eg : ∀ args w, (callFunc gf args).run P w = .ok (.enter gf args) w)
    {Kp : World → World → Prop} (hKt : ∀ {A B C : World}, Kp A B → Kp B C → Kp A C) (hKb : ∀ (W : World) (l : Nat) (o o' : Obj), W.heap[l]? = some o → o.isCells = false → Kp W (W.putObj l o')) (hKw : ∀ W W' : World, Below W.heap.size W W' → Kp W W') {S Sp : List α → Prop} {N : Nat} {w0 : World} (hseq : SeqStopsK Fence.wide 3 P gf lb (fun x => #[.agg (row x)]) Kp S Sp N w0) (hb0 : Below w0.heap.size w0 w)
    (I : List α → World → Prop) (Ix : Code → List α → World → Prop) (hI : OwnFrom w.heap.size I) (hIx : ∀ c, OwnFrom w.heap.size (Ix c)) (h0 : I [] w) (hIs : ∀ pre W, I pre W → w.heap.size ≤ W.heap.size)
    (hbody : ∀ (l : Nat) (pre : List α) (x : α) (r : Nat) (W : World), w.heap.size ≤ l → (∃ r, W.heap[l]? = some (.loop r)) → I pre W → w.heap.size ≤ r → W.heap[r]? = some (.cells (row x) T (0, 0)) → pre.length < N →
      body.wpIn (Fence.wide.inRound l) 2 P (ownPostG w.heap.size Kp I Ix (pre ++ [x]) W) { tmps := (a.tmps.setIfInBounds p0 (.agg (row x))).setIfInBounds q (.pointer (some ⟨r, 0, none⟩)), defers := [] } W)
    (hdone : ∀ (D : Nat) (xs : List α) (W : World), w.heap.size ≤ D → S xs → I xs W → W.heap[D]? = some (.deferred (some [])) → Q .normal { a with defers := { target := .collected D, args := #[] } :: a.defers } W)
    (hstop : ∀ (D : Nat) (c : Code) (pre : List α) (W : World), w.heap.size ≤ D → Sp pre → Ix c pre W → W.heap[D]? = some (.deferred (some [])) → c.wpIn Fence.wide 4 P Q { a with defers := { target := .collected D, args := #[] } :: a.defers } W) :
    (Code.rangeFunc g #[p0] (Code.region id ops false) body).wpIn Fence.wide 4 P Q a w := by
  refine wpIn_rangeFunc_ownH rfl (by decide) hg trivial eg hseq hKt (fun W l o o' _ h ho _ => hKb W l o o' h ho) hb0 (fun x => rfl) I Ix hI hIx h0
    (fun x a' W => ∃ r, w.heap.size ≤ r ∧ a' = { tmps := (a.tmps.setIfInBounds p0 (.agg (row x))).setIfInBounds q (.pointer (some ⟨r, 0, none⟩)), defers := [] } ∧ W.heap[r]? = some (.cells (row x) T (0, 0))) ?hAx ?assign ?body hdone hstop
  case hAx =>
    rintro x a' ⟨⟩ W W' row' ⟨r, h1, h2, h3⟩ hg hr
    exact ⟨r, h1, h2, grown_cells hg hr h3⟩
  case assign =>
    intro l pre x W K hI' hK
    rw [show (#[p0].zip #[Value.agg (row x)]).foldl (fun t (x : Tmp × Value) => t.setIfInBounds x.1 x.2) a.tmps = a.tmps.setIfInBounds p0 (.agg (row x)) by simp]
    refine wpIn_region_lift wideR (by rw [← Array.all_toList, hops]; simp [noDefer, ho1, ho2]) (fun _ _ h => h) ?_
    rw [hops]
    refine wpList_newV hg1 (some q) hd1 T ho1 zs sz hi ?_
    intro w1 x1 b1 s1
    have hp : (Act.put { tmps := a.tmps.setIfInBounds p0 (.agg (row x)), defers := [] } (some q) (.pointer (some ⟨W.heap.size, 0, none⟩))) = { tmps := (a.tmps.setIfInBounds p0 (.agg (row x))).setIfInBounds q (.pointer (some ⟨W.heap.size, 0, none⟩)), defers := [] } := rfl
    have hsz : (P.info? T).map (·.size) = some (row x).size := by
      rw [hrow]
      cases hq : P.info? T with
      | none => simp [hq] at hi
      | some i => simp only [hq, Option.map_some, Option.some.injEq, Prod.mk.injEq] at hi ⊢; exact hi.2
    refine wpList_putV hg2 hd2 T (.tmp q) (.tmp p0) ho2 W.heap.size (row x) ?_ ?_ T zs x1 hsz (by rw [hz, hrow]) (hone x) ?_
    · show (Act.put { tmps := a.tmps.setIfInBounds p0 (.agg (row x)), defers := [] } (some q) (.pointer (some ⟨W.heap.size, 0, none⟩))).eval (.tmp q) = _
      rw [hp]
      simp [Act.eval, hql]
    · show (Act.put { tmps := a.tmps.setIfInBounds p0 (.agg (row x)), defers := [] } (some q) (.pointer (some ⟨W.heap.size, 0, none⟩))).eval (.tmp p0) = _
      rw [hp]
      simp [Act.eval, hpl, Ne.symm hpq]
    intro w2 x2 c2 s2
    have hb : Below W.heap.size W w2 := b1.trans (c2.below (B := W.heap.size) (fun k e => by omega) b1.size)
    exact hK _ _ (KeepsFrom.of_below hb) (hKw _ _ hb) (own_below hI hI' hb) ⟨W.heap.size, hIs _ _ hI', rfl, x2⟩
  case body =>
    rintro l pre x a' W hl hr hI' ⟨r, h1, rfl, h3⟩ hN
    exact hbody l pre x r W hl hr hI' h1 h3 hN

/-- The rows of entries are kept. -/
def RowsKept (n : Nat) (A B : World) : Prop := A.heap.size ≤ B.heap.size ∧ ∀ k cs fr, n ≤ k → A.heap[k]? = some (.cells cs 44 fr) → B.heap[k]? = some (.cells cs 44 fr)
theorem RowsKept.trans {n : Nat} {A B C : World} (h : RowsKept n A B) (h' : RowsKept n B C) : RowsKept n A C := ⟨Nat.le_trans h.1 h'.1, fun k cs fr hk hc => h'.2 k cs fr hk (h.2 k cs fr hk hc)⟩
theorem CellsKept.rows {n : Nat} {A B : World} (h : CellsKept n A B) : RowsKept n A B := ⟨h.1, fun k cs fr hk hc => h.2 k cs _ fr hk hc⟩
theorem OwnL.keptR {w w' : World} {n₀ B : Nat} {v : Value} {L : List ArtD} (h : OwnL entE w B v L) (hk : RowsKept n₀ w w') (hn : n₀ ≤ B) : OwnL entE w' B v L := by
  refine ⟨h.1, ?_⟩
  rcases h.2 with hn | ⟨g, cap, cur, e, hbg, hg, rest⟩
  · exact .inl hn
  · exact .inr ⟨g, cap, cur, e, hbg, hk.2 g _ _ (Nat.le_trans hn hbg) hg, rest⟩
/-- What a range's body changes: bytes and one cell of a slice of bytes. -/
theorem own_cells {w : World} {B k : Nat} {v : Value} {L : List UInt8} (h : OwnL byE w B v L) (hk : v.ownBlock = some k) : ∃ cs fr, w.heap[k]? = some (.cells cs 5 fr) := by
  rcases h.2 with ⟨rfl, _⟩ | ⟨g, cap, cur, rfl, _, hgg, _⟩
  · cases hk
  · simp only [Value.ownBlock, Option.some.injEq] at hk
    subst hk
    exact ⟨_, _, hgg⟩
theorem own_ne {w : World} {B A : Nat} {v : Value} {L : List UInt8} {cs : Array Value} {T : TypeId} {fr : Nat × Nat} (h : OwnL byE w B v L) (hA : w.heap[A]? = some (.cells cs T fr)) (hT : T ≠ 5) : ∀ k, v.ownBlock = some k → ¬ k = A := fun k hk e => by
  subst e
  obtain ⟨cs2, fr2, h2⟩ := own_cells h hk
  rw [h2] at hA
  cases hA
  exact hT rfl
structure EI (w1 : World) (A3 : Nat) (L : List UInt8) (a : Option Addr) (n c : Nat) (W : World) : Prop where
  cell : W.heap[A3]? = some (.cells #[.slice a n c] 22 (0, 0))
  own : OwnL byE W w1.heap.size (.slice a n c) L
  len : L.length = n
  below : Below w1.heap.size w1 W
theorem EI.to {w1 W W' : World} {A3 n c : Nat} {L : List UInt8} {a : Option Addr} (h : EI w1 A3 L a n c W) (hb : Below W.heap.size W W') : EI w1 A3 L a n c W' :=
  ⟨(hb.block _ (Array.getElem?_eq_some_iff.1 h.cell).1).trans h.cell, h.own.below hb, h.len, h.below.trans (hb.mono h.below.size)⟩
theorem EI.other {w1 W W2 : World} {A3 n c : Nat} {L : List UInt8} {a : Option Addr} (h : EI w1 A3 L a n c W) (hg : Chg (fun k => (Value.slice a n c).ownBlock = some k) W W2) {cs : Array Value} {k : Nat} {fr : Nat × Nat} {T : TypeId} (hT : T ≠ 5) (hc : W.heap[k]? = some (.cells cs T fr)) : W2.heap[k]? = some (.cells cs T fr) :=
  (hg.block k (Array.getElem?_eq_some_iff.1 hc).1 (fun e => own_ne h.own hc hT k e rfl)).trans hc
theorem EI.grew {w1 W W2 : World} {A3 n c : Nat} {L : List UInt8} {a : Option Addr} (h : EI w1 A3 L a n c W) (hg : Chg (fun k => (Value.slice a n c).ownBlock = some k) W W2) : Below w1.heap.size w1 W2 :=
  h.below.trans (hg.below (B := w1.heap.size) (fun k e => (h.own.lt e).1) h.below.size)
theorem EI.objs {w1 W W2 : World} {A3 n c : Nat} {L : List UInt8} {a : Option Addr} (h : EI w1 A3 L a n c W) (hg : Chg (fun k => (Value.slice a n c).ownBlock = some k) W W2) {k : Nat} {o : Obj} (hk : W.heap[k]? = some o) (ho : o.isCells = false) : W2.heap[k]? = some o :=
  (hg.block k (Array.getElem?_eq_some_iff.1 hk).1 (fun e => by
    obtain ⟨cs2, fr2, h2⟩ := own_cells h.own e
    rw [h2] at hk
    cases hk
    cases ho)).trans hk
/-- Storing what has grown. -/
theorem EI.put {w1 W2 : World} {A3 c2 n : Nat} {L2 : List UInt8} {a2 : Option Addr} {old : Value} (h1 : W2.heap[A3]? = some (.cells #[old] 22 (0, 0))) (ho : OwnL byE W2 w1.heap.size (.slice a2 n c2) L2) (hn : L2.length = n) (hb : Below w1.heap.size w1 W2) (hA : w1.heap.size ≤ A3) :
    EI w1 A3 L2 a2 n c2 (W2.setCell ⟨A3, 0, none⟩ (.slice a2 n c2)) := by
  have hcs := Chg.setCell (F := fun k => k = A3) W2 (a := ⟨A3, 0, none⟩) (.slice a2 n c2) rfl
  refine ⟨?_, ho.chg hcs (own_ne ho h1 (by decide)), hn, hb.trans (hcs.below (B := w1.heap.size) (fun k e => by rw [e]; exact hA) hb.size)⟩
  rw [heap_setCell_same _ _ _ _ _ _ h1]; simp
theorem EI.from {w1 W W' : World} {A3 n c B0 : Nat} {L : List UInt8} {a : Option Addr} {row : Option Nat} (h : EI w1 A3 L a n c W) (hg : W.grownBy W' row) (hr : ∀ r, row = some r → B0 ≤ r ∧ ∃ o : Obj, W.heap[r]? = some o ∧ o.isCells = false) (hB : w1.heap.size ≤ B0) : EI w1 A3 L a n c W' := by
  refine ⟨grown_cells hg hr h.cell, World.ownsRow.kept h.own hg ?_, h.len, h.below.grown hg h.below.size (fun j e => by have := (hr j e).1; omega)⟩
  by_cases hv : (Value.slice a n c).ownBlock = row
  · cases hrow : row with
    | none => exact .inl (hv.trans hrow)
    | some q =>
      exfalso
      obtain ⟨_, o, ho, hc⟩ := hr q hrow
      obtain ⟨cs, fr, h2⟩ := own_cells h.own (hv.trans hrow)
      rw [h2] at ho
      cases ho
      cases hc
  · exact .inr hv
/-- Within a round: what is kept of the round's begin. -/
structure BI (w1 W : World) (A3 B6 r : Nat) (row : Array Value) (L : List UInt8) (a : Option Addr) (n c : Nat) (V : World) : Prop where
  ei : EI w1 A3 L a n c V
  hr : V.heap[r]? = some (.cells row 44 (0, 0))
  kf : KeepsFrom B6 W V
  kr : RowsKept B6 W V
theorem BI.to {w1 W V V' : World} {A3 B6 r n c : Nat} {row : Array Value} {L : List UInt8} {a : Option Addr} (h : BI w1 W A3 B6 r row L a n c V) (hb : Below V.heap.size V V') : BI w1 W A3 B6 r row L a n c V' :=
  ⟨h.ei.to hb, (hb.block _ (Array.getElem?_eq_some_iff.1 h.hr).1).trans h.hr, h.kf.trans (KeepsFrom.of_below hb), h.kr.trans (CellsKept.of_below hb).rows⟩
theorem BI.cells {w1 W V : World} {A3 B6 r n c : Nat} {L : List UInt8} {a : Option Addr} {x : ArtD} (h : BI w1 W A3 B6 r (entC x).toArray L a n c V) : V.cell? ⟨A3, 0, none⟩ = some (.slice a n c) ∧ V.cell? ⟨r, 32, none⟩ = some (.int .i64 x.arr) ∧ V.cell? ⟨r, 33, none⟩ = some (.int .i64 (x.text.size : Int)) :=
  ⟨by rw [cell_of_row _ _ _ _ _ _ h.ei.cell]; rfl, by rw [cell_of_row _ _ _ _ _ _ h.hr]; exact (entC_parts x).1, by rw [cell_of_row _ _ _ _ _ _ h.hr]; exact (entC_parts x).2⟩
theorem BI.at2 {w1 W V V2 : World} {A3 B6 r n c : Nat} {row : Array Value} {L : List UInt8} {a : Option Addr} (h : BI w1 W A3 B6 r row L a n c V) (hg : Chg (fun k => (Value.slice a n c).ownBlock = some k) V V2) :
    V2.heap[A3]? = some (.cells #[.slice a n c] 22 (0, 0)) ∧ V2.heap[r]? = some (.cells row 44 (0, 0)) ∧ V2.cell? ⟨A3, 0, none⟩ = some (.slice a n c) ∧ V2.frozen? ⟨A3, 0, none⟩ = false := by
  have h1 := h.ei.other hg (by decide) h.ei.cell
  exact ⟨h1, h.ei.other hg (by decide) h.hr, by rw [cell_of_row _ _ _ _ _ _ h1]; rfl, frozen_of_row V2 _ 0 _ _ h1⟩
theorem BI.step {w1 W V V2 : World} {A3 B6 r n c n2 c2 : Nat} {row : Array Value} {L L2 : List UInt8} {a a2 : Option Addr} (h : BI w1 W A3 B6 r row L a n c V) (hg : Chg (fun k => (Value.slice a n c).ownBlock = some k) V V2) (ho : OwnL byE V2 w1.heap.size (.slice a2 n2 c2) L2) (hn : L2.length = n2) (hA : w1.heap.size ≤ A3) (hAB : A3 < B6) (hrB : B6 ≤ r) :
    BI w1 W A3 B6 r row L2 a2 n2 c2 (V2.setCell ⟨A3, 0, none⟩ (.slice a2 n2 c2)) := by
  obtain ⟨h1, h2, _, _⟩ := h.at2 hg
  have hcs := Chg.setCell (F := fun k => k = A3) V2 (a := ⟨A3, 0, none⟩) (.slice a2 n2 c2) rfl
  refine ⟨EI.put h1 ho hn (h.ei.grew hg) hA, (heap_setCell_other V2 ⟨A3, 0, none⟩ _ _ (show r ≠ A3 by omega)).trans h2, ⟨Nat.le_trans h.kf.size (Nat.le_trans hg.size hcs.size), fun k o hk ho2 hc => ?_⟩, ⟨Nat.le_trans h.kr.1 (Nat.le_trans hg.size hcs.size), fun k cs fr hk hc => ?_⟩⟩
  · exact (heap_setCell_other V2 ⟨A3, 0, none⟩ _ _ (show k ≠ A3 by omega)).trans (h.ei.objs hg (h.kf.same k o hk ho2 hc) hc)
  · exact (heap_setCell_other V2 ⟨A3, 0, none⟩ _ _ (show k ≠ A3 by omega)).trans (h.ei.other hg (by decide) (h.kr.2 k cs fr hk hc))
theorem id_list {w : World} {r : Nat} {x : ArtD} (h : w.heap[r]? = some (.cells (entC x).toArray 44 (0, 0))) : ListAt byE w (.slice (some ⟨r, 0, none⟩) 32 32) x.id.1 := by
  refine ⟨_, 32, by rw [x.id.2], by rw [x.id.2]; exact Nat.le_refl _, by unfold maxLen; omega, (fun e => by cases e), fun _ => ⟨r, 0, rfl, (Array.getElem?_eq_some_iff.1 h).1, ?_⟩⟩
  intro i hi j u hj
  have hj0 : j = 0 := by
    have := (List.getElem?_eq_some_iff.1 hj).1
    have h3 : (byE.enc x.id.1[i]).length = 1 := rfl
    omega
  subst hj0
  have hk := range_idE h i u (by
    rw [← hj]
    unfold bvs
    rw [List.getElem?_map, List.getElem?_eq_getElem hi]
    rfl)
  show w.cell? ⟨r, 0 + i * 1 + 0, none⟩ = some u
  rw [show 0 + i * 1 + 0 = 0 + i by omega]
  exact hk
theorem byE_flat : ∀ l : List UInt8, l.flatMap byE.enc = l.map (fun b => Value.int .u8 (b.toNat : Int))
  | [] => rfl
  | b :: l => by rw [List.flatMap_cons, byE_flat l, List.map_cons]; rfl
theorem wp_appS {o : Oper} {a : Act} {Q : Exit → Act → World → Prop} {K : Act → World → Prop} {w : World} {B n : Nat} {v : Value} {L : List UInt8} (s x : Operand) (ho : o.op = .call { callee := .builtin .append, args := #[s, x], argTypes := #[22, 9] })
    (hs : a.eval s = v) (hown : OwnL byE w B v L) {t : ByteArray} (hx : a.eval x = .string t) (hL : L.length = n) (hn : n + t.size < 1000000000) (hB : B ≤ w.heap.size)
    (h : ∀ a' cap' w', OwnL byE w' B (.slice a' (n + t.size) cap') (L ++ t.data.toList) → w.grownBy w' v.ownBlock → K (a.put o.dst (.slice a' (n + t.size) cap')) w') : o.wp Try.prog a w K Q := by
  subst hL
  obtain ⟨z, bytes, hinfo, hz, hb⟩ := byE.hi
  obtain ⟨i0, hi, hz0, hz1, hz2⟩ := info_parts (P := Try.prog) (e := 5) (z := .int .u8 0) (size := 1) (bytes := 1) (by kernel_rfl)
  obtain ⟨v', w', hr, h2, h3, _⟩ := Lib.run_append_own_string (P := Try.prog) w B 22 9 o.type 5 i0 Try.underlying22 Try.underlying9 hi hz0 hz1 hz2 v L.length _ hown t (by unfold maxLen; omega) (by omega) hB
  obtain ⟨a', c', rfl⟩ := ownsRow_form h2
  unfold Oper.wp execOp
  simp only [ho, resolve, invoke, builtin, Sem.run_bind, Sem.run_pure, Result.andThen_ok, List.map_toArray, List.map_cons, List.map_nil, hs, hx, hr]
  refine h a' c' w' ?_ h3
  have e1 : (L ++ t.data.toList).flatMap byE.enc = L.flatMap byE.enc ++ Lib.strCells t := by
    rw [List.flatMap_append, byE_flat t.data.toList]
    rfl
  show w'.ownsRow B _ 1 _ (L ++ t.data.toList).length ((L ++ t.data.toList).flatMap byE.enc)
  rw [e1, List.length_append, Array.length_toList]
  exact h2
set_option maxRecDepth 100000 in
set_option maxHeartbeats 2000000 in
theorem all1_inR (lp g n₀ : Nat) (bv : Value) {β : Type} (fb : β → ArtD) (l' : List β) (l : List ArtD) (hll : l = l'.map fb) (hl : l.length < 1000000) (J Jx : List β → World → Prop)
    (hY : ∀ pre x W, J pre W → pre.length < l'.length → YieldAt Fence.wide 2 Try.prog lp (encEn (fb x)) W fun e W' =>
      (e = .returned (.bool true) ∧ J (pre ++ [x]) W' ∧ RowsKept n₀ W W') ∨ (e = .returned (.bool false) ∧ Jx (pre ++ [x]) W'))
    (W : World) (hn : n₀ ≤ W.heap.size) (hc : W.cell? ⟨g, 0, none⟩ = some bv) (hJ : AbidesFrom W.heap.size J)
    (hs : Calls Try.prog 37 #[bv] W (EntPost W l)) (h0 : J [] W) :
    CallsIn Fence.wide 3 Try.prog 36 #[.func (.yield lp) #[] #[], .pointer (some ⟨g, 0, none⟩)] W fun e W' => (∃ v, e = .returned v) ∧
      ((∃ ys, ys = l' ∧ J ys W') ∨ (∃ pre, pre <+: l' ∧ Jx pre W')) := by
  have HLL := Lib.hid hll
  refine callsIn_of_wp Try.func36 rfl trivial ?_ rfl
  simp only [Try.ntmps36, List.size_toArray, List.length_cons, List.length_nil, Nat.reduceAdd, Nat.reduceSub, Array.replicate_succ, Array.replicate_zero, List.push_toArray, List.append_toArray, List.nil_append, List.cons_append]
  gi_wp2_with (first | (refine ⟨trivial, ?_⟩; gi_at_call 37; refine ((callsIn_wide (n := 2)).2 hs).mono ?_; rintro e W1 ⟨v, rfl, hown, hb⟩; obtain ⟨va, vc, rfl⟩ := hown.form))
  have hJ1 : J [] W1 := hJ [] W W1 none h0 (grownBy_below hb) (fun r e => by cases e)
  gi_loopw [8] (fun i wr => ∃ k : Nat, k ≤ l.length ∧ i = .int .i64 (k : Int) ∧ J (l'.take k) wr ∧ OwnL entE wr W.heap.size (.slice va l.length vc) l) (fun i _ => l.length - (intOf i).toNat)
  case atStart => exact ⟨0, Nat.zero_le _, rfl, by simpa using hJ1, hown⟩
  case round =>
    obtain ⟨k, hk, rfl, hJs, hrow⟩ := hrel
    by_cases hlt : k < l.length
    · have hkI : (k : Int) < (l.length : Int) := by omega
      have hk0 : (0 : Int) ≤ (k : Int) := by omega
      obtain ⟨gv, off, rfl, hgl, hr⟩ := hrow.at_.get hlt
      obtain ⟨x, hx⟩ : ∃ x, l[k] = x := ⟨_, rfl⟩
      rw [hx] at hr
      have hlt2 : k < l'.length := by rw [hll, List.length_map] at hlt; exact hlt
      obtain ⟨y, hy⟩ : ∃ y, l'[k] = y := ⟨_, rfl⟩
      have hyx : fb y = x := by rw [← hx, ← hy]; simp only [hll, List.getElem_map]
      have hstep : l'.take (k + 1) = l'.take k ++ [y] := by rw [List.take_add_one, List.getElem?_eq_getElem hlt2, hy]; rfl
      have HYX := Lib.hid hyx
      have HLT2 := Lib.hid hlt2
      clear hyx hy hlt2
      have HS := Lib.hid hstep
      have HROW := Lib.hid hrow
      have HR := Lib.hid hr
      have HJS := Lib.hid hJs
      have HX := Lib.hid hx
      clear hstep hrow hr hJs hx
      gi_wp2_with (refine wpListIn_load_mid wideF (fun _ _ h => by obtain ⟨⟨v, e⟩, _⟩ := h; cases e) rfl 44 _ rfl gv (off + k * 34) rfl (entC x) _ HR.out Try.underlying44 rfl (sizeEntL x) ?_; refine Stop.on ?_)
      refine Stop.go ?_
      try simp only [Act.put, List.setIfInBounds_toArray, List.set_cons_zero, List.set_cons_succ]
      refine wpListIn_newV wideF (fun _ _ h => by obtain ⟨⟨v, e⟩, _⟩ := h; cases e) rfl (some 4) rfl 44 rfl (entC zA).toArray 34 (by kernel_rfl) ?_
      intro w2 x2 b2 s2
      try simp only [Act.put, List.setIfInBounds_toArray, List.set_cons_zero, List.set_cons_succ]
      refine wpListIn_putV wideF (fun _ _ h => by obtain ⟨⟨v, e⟩, _⟩ := h; cases e) rfl rfl 44 (.tmp 4) (.tmp 11) rfl _ (entC x).toArray rfl rfl 44 _ x2 (sizeEnt x) (by rw [List.size_toArray, List.size_toArray, entC_length, entC_length]) (all_oneCell_toArray (entC_one x)) ?_
      intro w3 x3 c3 s3
      try simp only [Act.put, List.setIfInBounds_toArray, List.set_cons_zero, List.set_cons_succ]
      have hb3 : Below wr.heap.size wr w3 := b2.trans (c3.below (B := wr.heap.size) (fun k e => by omega) b2.size)
      have HJ3 := Lib.hid (hJ (l'.take k) wr w3 none HJS.out (grownBy_below hb3) (fun r e => by cases e))
      have HX3 := Lib.hid x3
      have HROW3 := Lib.hid (HROW.out.below hb3)
      clear x2 b2 s2 x3 c3 s3 hb3
      gi_wp2_with (refine wpListIn_loadV wideF (fun _ _ h => by obtain ⟨⟨v, e⟩, _⟩ := h; cases e) rfl (some 13) rfl 44 (.tmp 4) rfl _ rfl 44 (entC x).toArray (0, 0) _ HX3.out Try.underlying44 rfl (sizeEnt x) ?_; refine Stop.on ?_)
      refine Stop.go ?_
      try simp only [Act.put, List.setIfInBounds_toArray, List.set_cons_zero, List.set_cons_succ]
      obtain ⟨fn, tmps, assign, body, hy, hR⟩ := hY _ y w3 HJ3.out (by rw [List.length_take]; have := HLT2.out; omega)
      dsimp only [encEn] at hy
      rw [HYX.out] at hy
      gi_wp2_with fail
      refine hR.mono ?_
      rintro e W3 (⟨rfl, hJ4, hk4⟩ | ⟨rfl, hJx4⟩)
      · have HJ4 := Lib.hid hJ4
        have HR4 := Lib.hid (HROW3.out.keptR hk4 hn)
        clear hJ4 hk4
        gi_wp2
        go_roundw
        case rel => exact ⟨k + 1, by omega, by go_num, by rw [HS.out]; exact HJ4.out, HR4.out⟩
        case measure => simp [intOf]; omega
      · gi_wp2
        refine bodyPost_ret (results_none rfl _ _ _) rfl ?_
        exact ⟨⟨_, rfl⟩, .inr ⟨_, by rw [← HS.out]; exact List.take_prefix _ _, hJx4⟩⟩
    · obtain rfl : k = l.length := by omega
      gi_wp2
      go_end0
      exact ⟨⟨_, rfl⟩, .inl ⟨_, rfl, by rw [HLL.out, List.length_map, List.take_length] at hJs; exact hJs⟩⟩
theorem all_stopsR (g n₀ : Nat) (bv : Value) {β : Type} (fb : β → ArtD) (l' : List β) (l : List ArtD) (hll : l = l'.map fb) (hl : l.length < 1000000) (w : World) (hg : g < w.heap.size) (hn : n₀ ≤ w.heap.size) (hc : w.cell? ⟨g, 0, none⟩ = some bv)
    (hs : ∀ W, Below w.heap.size w W → Calls Try.prog 37 #[bv] W (EntPost W l)) :
    SeqStopsK Fence.wide 3 Try.prog 36 #[.pointer (some ⟨g, 0, none⟩)] (fun x => encEn (fb x)) (RowsKept n₀) (fun ys => ys = l') (fun pre => pre <+: l') l'.length w := fun lp J Jx W hW hJ _ hY h0 =>
  all1_inR lp g n₀ bv fb l' l hll hl J Jx hY W (Nat.le_trans hn hW.size) ((hW.cell (p := ⟨g, 0, none⟩) hg).trans hc) hJ (hs W hW) h0
end Go.Proofs.Ytnmdgjodbikndaa
