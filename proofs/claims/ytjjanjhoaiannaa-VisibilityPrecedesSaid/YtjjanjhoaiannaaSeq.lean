/- A region that draws its order, walked in the order of the text: what its operations ahead of the last one do to a world can be seen from the world that is left. No program in sight. -/
import Derived.StillTail
import Derived.Laws.Sem
namespace Go.Proofs.Ytjjanjhoaiannaa
open Go
set_option linter.unusedVariables false
set_option linter.unusedSimpArgs false

/-- Nothing that lies is written: memory may be made, and draws be made. -/
def NW {α : Type} : Sem α → Prop
  | .pure _ => True
  | .load _ _ k => ∀ v, NW (k v)
  | .store _ _ _ _ => False
  | .new _ k => ∀ r, NW (k r)
  | .shape _ k => ∀ s, NW (k s)
  | .freeze _ _ _ => False
  | .frozen _ k => ∀ b, NW (k b)
  | .getObj _ k => ∀ o, NW (k o)
  | .setObj _ _ _ => False
  | .choose _ k => ∀ n, NW (k n)
  | .sys _ _ => False
  | .program k => ∀ p, NW (k p)
  | .mark _ k => NW k
  | .halt _ => True
theorem NW.bind {α β : Type} {s : Sem α} {f : α → Sem β} (h : NW s) (hf : ∀ a, NW (f a)) : NW (s >>= f) := by
  show NW (s.bind f)
  induction s with
  | pure a => exact hf a
  | load m a k ih => exact fun v => ih v (h v)
  | store m a v k ih => exact h.elim
  | new o k ih => exact fun v => ih v (h v)
  | shape r k ih => exact fun v => ih v (h v)
  | freeze a n k ih => exact h.elim
  | frozen a k ih => exact fun v => ih v (h v)
  | getObj r k ih => exact fun v => ih v (h v)
  | setObj r o k ih => exact h.elim
  | choose q k ih => exact fun v => ih v (h v)
  | sys c k ih => exact h.elim
  | program k ih => exact fun v => ih v (h v)
  | mark m k ih => exact ih h
  | halt h => trivial
theorem NW.map {α β : Type} {s : Sem α} {f : α → β} (h : NW s) : NW (f <$> s) := NW.bind (f := fun a => Sem.pure (f a)) h (fun _ => trivial)
/-- What such a run does: draws and blocks only grow in number; where neither does, nothing has changed. -/
structure Gr (w w' : World) : Prop where
  d : w.drawn ≤ w'.drawn
  s : w.heap.size ≤ w'.heap.size
  eq : w'.drawn ≤ w.drawn → w'.heap.size ≤ w.heap.size → w' = w
theorem Gr.refl (w : World) : Gr w w := ⟨Nat.le_refl _, Nat.le_refl _, fun _ _ => rfl⟩
theorem Gr.trans {a b c : World} (h : Gr a b) (k : Gr b c) : Gr a c :=
  ⟨Nat.le_trans h.d k.d, Nat.le_trans h.s k.s, fun h1 h2 => by
    have e1 := h.d; have e2 := h.s; have e3 := k.d; have e4 := k.s
    have e := k.eq (by omega) (by omega)
    subst e
    exact h.eq (by omega) (by omega)⟩
theorem NW.run {α : Type} {P : Program} {s : Sem α} (h : NW s) : ∀ {w w' : World} {a : α}, s.run P w = .ok a w' → Gr w w' := by
  induction s with
  | pure a => intro w w' b e; cases e; exact Gr.refl w
  | load m a k ih =>
    intro w w' b e
    simp only [Sem.run] at e
    split at e
    · exact ih _ (h _) e
    · split at e
      · exact ih _ (h _) e
      · cases e
  | store m a v k ih => exact h.elim
  | new o k ih =>
    intro w w' b e
    simp only [Sem.run] at e
    have h1 := ih _ (h _) e
    have h0 : Gr w { heap := w.heap.push o, tape := w.tape, drawn := w.drawn, os := w.os, output := w.output } := by
      refine ⟨Nat.le_refl _, ?_, fun _ h2 => ?_⟩
      · show w.heap.size ≤ (w.heap.push o).size
        simp
      · have h2 : (w.heap.push o).size ≤ w.heap.size := h2
        simp at h2
        omega
    exact h0.trans h1
  | shape r k ih => intro w w' b e; simp only [Sem.run] at e; exact ih _ (h _) e
  | freeze a n k ih => exact h.elim
  | frozen a k ih => intro w w' b e; simp only [Sem.run] at e; exact ih _ (h _) e
  | getObj r k ih =>
    intro w w' b e
    simp only [Sem.run] at e
    split at e
    · cases e
    · exact ih _ (h _) e
    · cases e
  | setObj r o k ih => exact h.elim
  | choose q k ih =>
    intro w w' b e
    simp only [Sem.run] at e
    split at e
    · exact ih _ (h _) e
    · have h0 : Gr w { heap := w.heap, tape := w.tape, drawn := w.drawn + 1, os := w.os, output := w.output } := ⟨Nat.le_succ _, Nat.le_refl _, fun h1 _ => by
        have h1 : w.drawn + 1 ≤ w.drawn := h1
        omega⟩
      exact h0.trans (ih _ (h _) e)
  | sys c k ih => exact h.elim
  | program k ih => intro w w' b e; simp only [Sem.run] at e; exact ih _ (h _) e
  | mark m k ih => intro w w' b e; simp only [Sem.run] at e; exact ih h e
  | halt h => intro w w' b e; cases e

/-! ### the operations -/
theorem nw_halt {α : Type} (h : Halt) : NW (Sem.halt h : Sem α) := trivial
theorem nw_pure {α : Type} (a : α) : NW (Pure.pure a : Sem α) := trivial
theorem nw_stuck {α : Type} (s : String) : NW (stuck s : Sem α) := trivial
theorem nw_unsup {α : Type} (s : Unsupported) : NW (unsupported s : Sem α) := trivial
theorem nw_goPanic {α : Type} (s : Value) : NW (goPanic s : Sem α) := trivial
theorem nw_program : NW program := fun _ => trivial
theorem nw_shape (r : Nat) : NW (shape r) := fun _ => trivial
theorem nw_frozen (a : Addr) : NW (frozen a) := fun _ => trivial
theorem nw_getObj (r : Nat) : NW (getObj r) := fun _ => trivial
theorem nw_load (a : Addr) (m : Mode) : NW (load a m) := fun _ => trivial
theorem nw_newObj (o : Obj) : NW (newObj o) := fun _ => trivial
theorem nw_choose (q : Question) : NW (choose q) := fun _ => trivial
theorem nw_underlying (t : TypeId) : NW (underlying t) := by
  unfold underlying
  refine NW.bind nw_program fun p => ?_
  split <;> trivial
theorem nw_typeInfo (t : TypeId) : NW (typeInfo t) := by
  unfold typeInfo
  refine NW.bind nw_program fun p => ?_
  split <;> trivial
theorem nw_sizeOf (t : TypeId) : NW (sizeOf t) := by
  unfold sizeOf
  exact NW.bind (nw_typeInfo t) fun _ => trivial
theorem nw_zeroValue (t : TypeId) : NW (zeroValue t) := by
  unfold zeroValue
  refine NW.bind (nw_typeInfo t) fun p => ?_
  split <;> trivial
theorem nw_isAgg (t : TypeId) : NW (isAgg t) := by
  unfold isAgg
  refine NW.bind (nw_underlying t) fun p => ?_
  split <;> trivial
theorem nw_loadCellsFrom (a : Addr) : ∀ (n i : Nat) (acc : Array Value), NW (loadCellsFrom a i n acc)
  | 0, _, _ => trivial
  | n + 1, i, acc => NW.bind (nw_load _ _) fun v => nw_loadCellsFrom a n (i + 1) _
theorem nw_loadVar (t : TypeId) (a : Addr) : NW (loadVar t a) := by
  unfold loadVar
  refine NW.bind (nw_isAgg t) fun b => ?_
  split
  · exact NW.bind (nw_sizeOf t) fun n => NW.bind (nw_loadCellsFrom a n 0 #[]) fun _ => trivial
  · exact nw_load _ _
theorem nw_part (t : TypeId) (cs : Array Value) (off : Nat) : NW (part t cs off) := by
  unfold part
  refine NW.bind (nw_isAgg t) fun b => ?_
  split
  · exact NW.bind (nw_sizeOf t) fun n => trivial
  · split <;> trivial
theorem nw_sureAddr (v : Value) : NW (Instr.sureAddr v) := by unfold Instr.sureAddr; split <;> trivial
theorem nw_loadAt (t : TypeId) (v : Value) : NW (Instr.loadAt t v) := NW.bind (nw_sureAddr v) fun a => nw_loadVar t a
theorem nw_asIntOf (v : Value) : NW (asIntOf v) := by unfold asIntOf; split <;> trivial
theorem nw_asBool (v : Value) : NW (asBool v) := by unfold asBool; split <;> trivial
theorem nw_asAgg (v : Value) : NW (asAgg v) := by unfold asAgg; split <;> trivial
theorem nw_extract (v : Value) (i : Nat) : NW (Instr.extract v i) := by unfold Instr.extract; split <;> (try split) <;> trivial
theorem nw_elemOf (t : TypeId) : NW (elemOf t) := by
  unfold elemOf
  refine NW.bind (nw_underlying t) fun p => ?_
  split <;> trivial
theorem nw_newVar (t : TypeId) (v : Value) : NW (newVar t v) := by
  unfold newVar newRow
  exact NW.bind (nw_newObj _) fun _ => trivial
theorem NW.forIn_list {α β : Type} (f : α → β → Sem (ForInStep β)) (h : ∀ a b, NW (f a b)) : ∀ (l : List α) (b : β), NW (forIn l b f)
  | [], _ => trivial
  | a :: l, b => by
    rw [List.forIn_cons]
    refine NW.bind (h a b) fun r => ?_
    cases r with
    | done b => trivial
    | yield b => exact NW.forIn_list f h l b
theorem NW.forIn_array {α β : Type} (f : α → β → Sem (ForInStep β)) (h : ∀ a b, NW (f a b)) (l : Array α) (b : β) : NW (forIn l b f) := by
  rw [← Array.forIn_toList]
  exact NW.forIn_list f h _ _
theorem NW.forIn_range {β : Type} (f : Nat → β → Sem (ForInStep β)) (h : ∀ a b, NW (f a b)) (n : Nat) (b : β) : NW (forIn [0:n] b f) := by
  rw [Std.Legacy.Range.forIn_eq_forIn_range']
  exact NW.forIn_list f h _ _
theorem NW.mapM_list {α β : Type} (f : α → Sem β) (h : ∀ a, NW (f a)) : ∀ (l : List α), NW (l.mapM f)
  | [] => trivial
  | a :: l => by
    rw [List.mapM_cons]
    exact NW.bind (h a) fun _ => NW.bind (NW.mapM_list f h l) fun _ => trivial
theorem NW.mapM_array {α β : Type} (f : α → Sem β) (h : ∀ a, NW (f a)) (l : Array α) : NW (l.mapM f) := by
  rw [Array.mapM_eq_mapM_toList]
  exact NW.map (NW.mapM_list f h _)
theorem nw_runtimePanic {α : Type} (e : RuntimeError) : NW (runtimePanic e : Sem α) := by
  unfold runtimePanic
  repeat' (first | (with_reducible first | exact nw_pure _ | exact nw_stuck _ | exact nw_unsup _ | exact nw_goPanic _ | exact nw_program | exact nw_shape _ | exact nw_frozen _ | exact nw_getObj _ | exact nw_load _ _ | exact nw_newObj _ | exact nw_choose _ | exact nw_underlying _ | exact nw_typeInfo _ | exact nw_sizeOf _ | exact nw_zeroValue _ | exact nw_isAgg _ | exact nw_loadVar _ _ | exact nw_part _ _ _ | exact nw_sureAddr _ | exact nw_asIntOf _ | exact nw_asBool _ | exact nw_asAgg _ | exact nw_elemOf _ | exact nw_newVar _ _ | exact NW.map (nw_choose _) | (refine NW.bind ?_ (fun _ => ?_)) | (refine NW.forIn_array _ (fun _ _ => ?_) _ _) | (refine NW.forIn_range _ (fun _ _ => ?_) _ _) | (refine NW.mapM_array _ (fun _ => ?_) _)) | split | dsimp only | exact trivial)
theorem nw_boundsPanic {α : Type} (k : IntKind) (x y : Int) (c : BoundsCode) : NW (boundsPanic k x y c : Sem α) := by
  unfold boundsPanic
  repeat' (first | (with_reducible first | exact nw_pure _ | exact nw_stuck _ | exact nw_unsup _ | exact nw_goPanic _ | exact nw_program | exact nw_shape _ | exact nw_frozen _ | exact nw_getObj _ | exact nw_load _ _ | exact nw_newObj _ | exact nw_choose _ | exact nw_underlying _ | exact nw_typeInfo _ | exact nw_sizeOf _ | exact nw_zeroValue _ | exact nw_isAgg _ | exact nw_loadVar _ _ | exact nw_part _ _ _ | exact nw_sureAddr _ | exact nw_asIntOf _ | exact nw_asBool _ | exact nw_asAgg _ | exact nw_elemOf _ | exact nw_newVar _ _ | exact nw_runtimePanic _ | exact NW.map (nw_choose _) | (refine NW.bind ?_ (fun _ => ?_)) | (refine NW.forIn_array _ (fun _ _ => ?_) _ _) | (refine NW.forIn_range _ (fun _ _ => ?_) _ _) | (refine NW.mapM_array _ (fun _ => ?_) _)) | split | dsimp only | exact trivial)
theorem nw_asAddr (v : Value) : NW (asAddr v) := by
  unfold asAddr
  repeat' (first | (with_reducible first | exact nw_pure _ | exact nw_stuck _ | exact nw_unsup _ | exact nw_goPanic _ | exact nw_program | exact nw_shape _ | exact nw_frozen _ | exact nw_getObj _ | exact nw_load _ _ | exact nw_newObj _ | exact nw_choose _ | exact nw_underlying _ | exact nw_typeInfo _ | exact nw_sizeOf _ | exact nw_zeroValue _ | exact nw_isAgg _ | exact nw_loadVar _ _ | exact nw_part _ _ _ | exact nw_sureAddr _ | exact nw_asIntOf _ | exact nw_asBool _ | exact nw_asAgg _ | exact nw_elemOf _ | exact nw_newVar _ _ | exact nw_runtimePanic _ | exact nw_boundsPanic _ _ _ _ | exact NW.map (nw_choose _) | (refine NW.bind ?_ (fun _ => ?_)) | (refine NW.forIn_array _ (fun _ _ => ?_) _ _) | (refine NW.forIn_range _ (fun _ _ => ?_) _ _) | (refine NW.mapM_array _ (fun _ => ?_) _)) | split | dsimp only | exact trivial)
theorem nw_asInt (v : Value) : NW (asInt v) := by
  unfold asInt
  repeat' (first | (with_reducible first | exact nw_pure _ | exact nw_stuck _ | exact nw_unsup _ | exact nw_goPanic _ | exact nw_program | exact nw_shape _ | exact nw_frozen _ | exact nw_getObj _ | exact nw_load _ _ | exact nw_newObj _ | exact nw_choose _ | exact nw_underlying _ | exact nw_typeInfo _ | exact nw_sizeOf _ | exact nw_zeroValue _ | exact nw_isAgg _ | exact nw_loadVar _ _ | exact nw_part _ _ _ | exact nw_sureAddr _ | exact nw_asIntOf _ | exact nw_asBool _ | exact nw_asAgg _ | exact nw_asAddr _ | exact nw_elemOf _ | exact nw_newVar _ _ | exact nw_runtimePanic _ | exact nw_boundsPanic _ _ _ _ | exact NW.map (nw_choose _) | (refine NW.bind ?_ (fun _ => ?_)) | (refine NW.forIn_array _ (fun _ _ => ?_) _ _) | (refine NW.forIn_range _ (fun _ _ => ?_) _ _) | (refine NW.mapM_array _ (fun _ => ?_) _)) | split | dsimp only | exact trivial)
theorem nw_viewAt (r : Nat) : NW (viewAt r) := by
  unfold viewAt
  repeat' (first | (with_reducible first | exact nw_pure _ | exact nw_stuck _ | exact nw_unsup _ | exact nw_goPanic _ | exact nw_program | exact nw_shape _ | exact nw_frozen _ | exact nw_getObj _ | exact nw_load _ _ | exact nw_newObj _ | exact nw_choose _ | exact nw_underlying _ | exact nw_typeInfo _ | exact nw_sizeOf _ | exact nw_zeroValue _ | exact nw_isAgg _ | exact nw_loadVar _ _ | exact nw_part _ _ _ | exact nw_sureAddr _ | exact nw_asIntOf _ | exact nw_asInt _ | exact nw_asBool _ | exact nw_asAgg _ | exact nw_asAddr _ | exact nw_elemOf _ | exact nw_newVar _ _ | exact nw_runtimePanic _ | exact nw_boundsPanic _ _ _ _ | exact NW.map (nw_choose _) | (refine NW.bind ?_ (fun _ => ?_)) | (refine NW.forIn_array _ (fun _ _ => ?_) _ _) | (refine NW.forIn_range _ (fun _ _ => ?_) _ _) | (refine NW.mapM_array _ (fun _ => ?_) _)) | split | dsimp only | exact trivial)
theorem nw_noView (a : Addr) : NW (noView a) := by
  unfold noView
  repeat' (first | (with_reducible first | exact nw_pure _ | exact nw_stuck _ | exact nw_unsup _ | exact nw_goPanic _ | exact nw_program | exact nw_shape _ | exact nw_frozen _ | exact nw_getObj _ | exact nw_load _ _ | exact nw_newObj _ | exact nw_choose _ | exact nw_underlying _ | exact nw_typeInfo _ | exact nw_sizeOf _ | exact nw_zeroValue _ | exact nw_isAgg _ | exact nw_loadVar _ _ | exact nw_part _ _ _ | exact nw_sureAddr _ | exact nw_asIntOf _ | exact nw_asInt _ | exact nw_asBool _ | exact nw_asAgg _ | exact nw_asAddr _ | exact nw_elemOf _ | exact nw_newVar _ _ | exact nw_runtimePanic _ | exact nw_boundsPanic _ _ _ _ | exact nw_viewAt _ | exact NW.map (nw_choose _) | (refine NW.bind ?_ (fun _ => ?_)) | (refine NW.forIn_array _ (fun _ _ => ?_) _ _) | (refine NW.forIn_range _ (fun _ _ => ?_) _ _) | (refine NW.mapM_array _ (fun _ => ?_) _)) | split | dsimp only | exact trivial)
theorem nw_numberAt (r : Nat) : NW (numberAt r) := by
  unfold numberAt
  repeat' (first | (with_reducible first | exact nw_pure _ | exact nw_stuck _ | exact nw_unsup _ | exact nw_goPanic _ | exact nw_program | exact nw_shape _ | exact nw_frozen _ | exact nw_getObj _ | exact nw_load _ _ | exact nw_newObj _ | exact nw_choose _ | exact nw_underlying _ | exact nw_typeInfo _ | exact nw_sizeOf _ | exact nw_zeroValue _ | exact nw_isAgg _ | exact nw_loadVar _ _ | exact nw_part _ _ _ | exact nw_sureAddr _ | exact nw_asIntOf _ | exact nw_asInt _ | exact nw_asBool _ | exact nw_asAgg _ | exact nw_asAddr _ | exact nw_elemOf _ | exact nw_newVar _ _ | exact nw_runtimePanic _ | exact nw_boundsPanic _ _ _ _ | exact nw_viewAt _ | exact nw_noView _ | exact NW.map (nw_choose _) | (refine NW.bind ?_ (fun _ => ?_)) | (refine NW.forIn_array _ (fun _ _ => ?_) _ _) | (refine NW.forIn_range _ (fun _ _ => ?_) _ _) | (refine NW.mapM_array _ (fun _ => ?_) _)) | split | dsimp only | exact trivial)
theorem nw_behindNumber (a : Addr) : NW (behindNumber a) := by
  unfold behindNumber
  repeat' (first | (with_reducible first | exact nw_pure _ | exact nw_stuck _ | exact nw_unsup _ | exact nw_goPanic _ | exact nw_program | exact nw_shape _ | exact nw_frozen _ | exact nw_getObj _ | exact nw_load _ _ | exact nw_newObj _ | exact nw_choose _ | exact nw_underlying _ | exact nw_typeInfo _ | exact nw_sizeOf _ | exact nw_zeroValue _ | exact nw_isAgg _ | exact nw_loadVar _ _ | exact nw_part _ _ _ | exact nw_sureAddr _ | exact nw_asIntOf _ | exact nw_asInt _ | exact nw_asBool _ | exact nw_asAgg _ | exact nw_asAddr _ | exact nw_elemOf _ | exact nw_newVar _ _ | exact nw_runtimePanic _ | exact nw_boundsPanic _ _ _ _ | exact nw_viewAt _ | exact nw_noView _ | exact nw_numberAt _ | exact NW.map (nw_choose _) | (refine NW.bind ?_ (fun _ => ?_)) | (refine NW.forIn_array _ (fun _ _ => ?_) _ _) | (refine NW.forIn_range _ (fun _ _ => ?_) _ _) | (refine NW.mapM_array _ (fun _ => ?_) _)) | split | dsimp only | exact trivial)
theorem nw_byteOf (a : Addr) : NW (byteOf a) := by
  unfold byteOf
  repeat' (first | (with_reducible first | exact nw_pure _ | exact nw_stuck _ | exact nw_unsup _ | exact nw_goPanic _ | exact nw_program | exact nw_shape _ | exact nw_frozen _ | exact nw_getObj _ | exact nw_load _ _ | exact nw_newObj _ | exact nw_choose _ | exact nw_underlying _ | exact nw_typeInfo _ | exact nw_sizeOf _ | exact nw_zeroValue _ | exact nw_isAgg _ | exact nw_loadVar _ _ | exact nw_part _ _ _ | exact nw_sureAddr _ | exact nw_asIntOf _ | exact nw_asInt _ | exact nw_asBool _ | exact nw_asAgg _ | exact nw_asAddr _ | exact nw_elemOf _ | exact nw_newVar _ _ | exact nw_runtimePanic _ | exact nw_boundsPanic _ _ _ _ | exact nw_viewAt _ | exact nw_noView _ | exact nw_numberAt _ | exact nw_behindNumber _ | exact NW.map (nw_choose _) | (refine NW.bind ?_ (fun _ => ?_)) | (refine NW.forIn_array _ (fun _ _ => ?_) _ _) | (refine NW.forIn_range _ (fun _ _ => ?_) _ _) | (refine NW.mapM_array _ (fun _ => ?_) _)) | split | dsimp only | exact trivial)
theorem nw_fieldPlace (a : Addr) (f : Field) : NW (fieldPlace a f) := by
  unfold fieldPlace partAt
  repeat' (first | (with_reducible first | exact nw_pure _ | exact nw_stuck _ | exact nw_unsup _ | exact nw_goPanic _ | exact nw_program | exact nw_shape _ | exact nw_frozen _ | exact nw_getObj _ | exact nw_load _ _ | exact nw_newObj _ | exact nw_choose _ | exact nw_underlying _ | exact nw_typeInfo _ | exact nw_sizeOf _ | exact nw_zeroValue _ | exact nw_isAgg _ | exact nw_loadVar _ _ | exact nw_part _ _ _ | exact nw_sureAddr _ | exact nw_asIntOf _ | exact nw_asInt _ | exact nw_asBool _ | exact nw_asAgg _ | exact nw_asAddr _ | exact nw_elemOf _ | exact nw_newVar _ _ | exact nw_runtimePanic _ | exact nw_boundsPanic _ _ _ _ | exact nw_viewAt _ | exact nw_noView _ | exact nw_numberAt _ | exact nw_behindNumber _ | exact nw_byteOf _ | exact NW.map (nw_choose _) | (refine NW.bind ?_ (fun _ => ?_)) | (refine NW.forIn_array _ (fun _ _ => ?_) _ _) | (refine NW.forIn_range _ (fun _ _ => ?_) _ _) | (refine NW.mapM_array _ (fun _ => ?_) _)) | split | dsimp only | exact trivial)
theorem nw_fieldAt (s : TypeId) (v : Value) (f : Nat) : NW (Instr.fieldAt s v f) := by
  unfold Instr.fieldAt
  repeat' (first | (with_reducible first | exact nw_pure _ | exact nw_stuck _ | exact nw_unsup _ | exact nw_goPanic _ | exact nw_program | exact nw_shape _ | exact nw_frozen _ | exact nw_getObj _ | exact nw_load _ _ | exact nw_newObj _ | exact nw_choose _ | exact nw_underlying _ | exact nw_typeInfo _ | exact nw_sizeOf _ | exact nw_zeroValue _ | exact nw_isAgg _ | exact nw_loadVar _ _ | exact nw_part _ _ _ | exact nw_sureAddr _ | exact nw_asIntOf _ | exact nw_asInt _ | exact nw_asBool _ | exact nw_asAgg _ | exact nw_asAddr _ | exact nw_elemOf _ | exact nw_newVar _ _ | exact nw_runtimePanic _ | exact nw_boundsPanic _ _ _ _ | exact nw_viewAt _ | exact nw_noView _ | exact nw_numberAt _ | exact nw_behindNumber _ | exact nw_byteOf _ | exact nw_fieldPlace _ _ | exact NW.map (nw_choose _) | (refine NW.bind ?_ (fun _ => ?_)) | (refine NW.forIn_array _ (fun _ _ => ?_) _ _) | (refine NW.forIn_range _ (fun _ _ => ?_) _ _) | (refine NW.mapM_array _ (fun _ => ?_) _)) | split | dsimp only | exact trivial)
theorem nw_field (t : TypeId) (v : Value) (f : Nat) : NW (Instr.field t v f) := by
  unfold Instr.field
  repeat' (first | (with_reducible first | exact nw_pure _ | exact nw_stuck _ | exact nw_unsup _ | exact nw_goPanic _ | exact nw_program | exact nw_shape _ | exact nw_frozen _ | exact nw_getObj _ | exact nw_load _ _ | exact nw_newObj _ | exact nw_choose _ | exact nw_underlying _ | exact nw_typeInfo _ | exact nw_sizeOf _ | exact nw_zeroValue _ | exact nw_isAgg _ | exact nw_loadVar _ _ | exact nw_part _ _ _ | exact nw_sureAddr _ | exact nw_asIntOf _ | exact nw_asInt _ | exact nw_asBool _ | exact nw_asAgg _ | exact nw_asAddr _ | exact nw_elemOf _ | exact nw_newVar _ _ | exact nw_runtimePanic _ | exact nw_boundsPanic _ _ _ _ | exact nw_viewAt _ | exact nw_noView _ | exact nw_numberAt _ | exact nw_behindNumber _ | exact nw_byteOf _ | exact nw_fieldPlace _ _ | exact NW.map (nw_choose _) | (refine NW.bind ?_ (fun _ => ?_)) | (refine NW.forIn_array _ (fun _ _ => ?_) _ _) | (refine NW.forIn_range _ (fun _ _ => ?_) _ _) | (refine NW.mapM_array _ (fun _ => ?_) _)) | split | dsimp only | exact trivial)
theorem nw_indexAt (t : TypeId) (x i : Value) : NW (Instr.indexAt t x i) := by
  unfold Instr.indexAt
  repeat' (first | (with_reducible first | exact nw_pure _ | exact nw_stuck _ | exact nw_unsup _ | exact nw_goPanic _ | exact nw_program | exact nw_shape _ | exact nw_frozen _ | exact nw_getObj _ | exact nw_load _ _ | exact nw_newObj _ | exact nw_choose _ | exact nw_underlying _ | exact nw_typeInfo _ | exact nw_sizeOf _ | exact nw_zeroValue _ | exact nw_isAgg _ | exact nw_loadVar _ _ | exact nw_part _ _ _ | exact nw_sureAddr _ | exact nw_asIntOf _ | exact nw_asInt _ | exact nw_asBool _ | exact nw_asAgg _ | exact nw_asAddr _ | exact nw_elemOf _ | exact nw_newVar _ _ | exact nw_runtimePanic _ | exact nw_boundsPanic _ _ _ _ | exact nw_viewAt _ | exact nw_noView _ | exact nw_numberAt _ | exact nw_behindNumber _ | exact nw_byteOf _ | exact nw_fieldPlace _ _ | exact NW.map (nw_choose _) | (refine NW.bind ?_ (fun _ => ?_)) | (refine NW.forIn_array _ (fun _ _ => ?_) _ _) | (refine NW.forIn_range _ (fun _ _ => ?_) _ _) | (refine NW.mapM_array _ (fun _ => ?_) _)) | split | dsimp only | exact trivial)
theorem nw_index (t : TypeId) (x i : Value) : NW (Instr.index t x i) := by
  unfold Instr.index
  repeat' (first | (with_reducible first | exact nw_pure _ | exact nw_stuck _ | exact nw_unsup _ | exact nw_goPanic _ | exact nw_program | exact nw_shape _ | exact nw_frozen _ | exact nw_getObj _ | exact nw_load _ _ | exact nw_newObj _ | exact nw_choose _ | exact nw_underlying _ | exact nw_typeInfo _ | exact nw_sizeOf _ | exact nw_zeroValue _ | exact nw_isAgg _ | exact nw_loadVar _ _ | exact nw_part _ _ _ | exact nw_sureAddr _ | exact nw_asIntOf _ | exact nw_asInt _ | exact nw_asBool _ | exact nw_asAgg _ | exact nw_asAddr _ | exact nw_elemOf _ | exact nw_newVar _ _ | exact nw_runtimePanic _ | exact nw_boundsPanic _ _ _ _ | exact nw_viewAt _ | exact nw_noView _ | exact nw_numberAt _ | exact nw_behindNumber _ | exact nw_byteOf _ | exact nw_fieldPlace _ _ | exact NW.map (nw_choose _) | (refine NW.bind ?_ (fun _ => ?_)) | (refine NW.forIn_array _ (fun _ _ => ?_) _ _) | (refine NW.forIn_range _ (fun _ _ => ?_) _ _) | (refine NW.mapM_array _ (fun _ => ?_) _)) | split | dsimp only | exact trivial)
theorem nw_asNumber (a : Addr) (l : Bool) : NW (asNumber a l) := by
  unfold asNumber
  repeat' (first | (with_reducible first | exact nw_pure _ | exact nw_stuck _ | exact nw_unsup _ | exact nw_goPanic _ | exact nw_program | exact nw_shape _ | exact nw_frozen _ | exact nw_getObj _ | exact nw_load _ _ | exact nw_newObj _ | exact nw_choose _ | exact nw_underlying _ | exact nw_typeInfo _ | exact nw_sizeOf _ | exact nw_zeroValue _ | exact nw_isAgg _ | exact nw_loadVar _ _ | exact nw_part _ _ _ | exact nw_sureAddr _ | exact nw_asIntOf _ | exact nw_asInt _ | exact nw_asBool _ | exact nw_asAgg _ | exact nw_asAddr _ | exact nw_elemOf _ | exact nw_newVar _ _ | exact nw_runtimePanic _ | exact nw_boundsPanic _ _ _ _ | exact nw_viewAt _ | exact nw_noView _ | exact nw_numberAt _ | exact nw_behindNumber _ | exact nw_byteOf _ | exact nw_fieldPlace _ _ | exact NW.map (nw_choose _) | (refine NW.bind ?_ (fun _ => ?_)) | (refine NW.forIn_array _ (fun _ _ => ?_) _ _) | (refine NW.forIn_range _ (fun _ _ => ?_) _ _) | (refine NW.mapM_array _ (fun _ => ?_) _)) | split | dsimp only | exact trivial)
theorem nw_unsafeAdd (a : Array TypeId) (t : TypeId) (x y : Value) : NW (Builtin.unsafeAdd_ a t #[x, y]) := by
  unfold Builtin.unsafeAdd_
  cases x
  all_goals first | exact trivial | (refine NW.bind (nw_asInt y) fun n => ?_)
  repeat' (first | (with_reducible first | exact nw_pure _ | exact nw_stuck _ | exact nw_unsup _ | exact nw_goPanic _ | exact nw_program | exact nw_shape _ | exact nw_frozen _ | exact nw_getObj _ | exact nw_load _ _ | exact nw_newObj _ | exact nw_choose _ | exact nw_underlying _ | exact nw_typeInfo _ | exact nw_sizeOf _ | exact nw_zeroValue _ | exact nw_isAgg _ | exact nw_loadVar _ _ | exact nw_part _ _ _ | exact nw_sureAddr _ | exact nw_asIntOf _ | exact nw_asInt _ | exact nw_asBool _ | exact nw_asAgg _ | exact nw_asAddr _ | exact nw_elemOf _ | exact nw_newVar _ _ | exact nw_runtimePanic _ | exact nw_boundsPanic _ _ _ _ | exact nw_viewAt _ | exact nw_noView _ | exact nw_numberAt _ | exact nw_behindNumber _ | exact nw_byteOf _ | exact nw_fieldPlace _ _ | exact nw_asNumber _ _ | exact NW.map (nw_choose _) | (refine NW.bind ?_ (fun _ => ?_)) | (refine NW.forIn_array _ (fun _ _ => ?_) _ _) | (refine NW.forIn_range _ (fun _ _ => ?_) _ _) | (refine NW.mapM_array _ (fun _ => ?_) _)) | split | dsimp only | exact trivial)
theorem nw_movedNumber (t : TypeId) (x y : Value) : NW (movedNumber t x y) := by
  unfold movedNumber
  repeat' (first | (with_reducible first | exact nw_pure _ | exact nw_stuck _ | exact nw_unsup _ | exact nw_goPanic _ | exact nw_program | exact nw_shape _ | exact nw_frozen _ | exact nw_getObj _ | exact nw_load _ _ | exact nw_newObj _ | exact nw_choose _ | exact nw_underlying _ | exact nw_typeInfo _ | exact nw_sizeOf _ | exact nw_zeroValue _ | exact nw_isAgg _ | exact nw_loadVar _ _ | exact nw_part _ _ _ | exact nw_sureAddr _ | exact nw_asIntOf _ | exact nw_asInt _ | exact nw_asBool _ | exact nw_asAgg _ | exact nw_asAddr _ | exact nw_elemOf _ | exact nw_newVar _ _ | exact nw_runtimePanic _ | exact nw_boundsPanic _ _ _ _ | exact nw_viewAt _ | exact nw_noView _ | exact nw_numberAt _ | exact nw_behindNumber _ | exact nw_byteOf _ | exact nw_fieldPlace _ _ | exact nw_unsafeAdd _ _ _ _ | exact nw_asNumber _ _ | exact NW.map (nw_choose _) | (refine NW.bind ?_ (fun _ => ?_)) | (refine NW.forIn_array _ (fun _ _ => ?_) _ _) | (refine NW.forIn_range _ (fun _ _ => ?_) _ _) | (refine NW.mapM_array _ (fun _ => ?_) _)) | split | dsimp only | exact trivial)
theorem nw_movedPointer (t : TypeId) (x y : Value) : NW (movedPointer t x y) := by
  unfold movedPointer
  repeat' (first | (with_reducible first | exact nw_pure _ | exact nw_stuck _ | exact nw_unsup _ | exact nw_goPanic _ | exact nw_program | exact nw_shape _ | exact nw_frozen _ | exact nw_getObj _ | exact nw_load _ _ | exact nw_newObj _ | exact nw_choose _ | exact nw_underlying _ | exact nw_typeInfo _ | exact nw_sizeOf _ | exact nw_zeroValue _ | exact nw_isAgg _ | exact nw_loadVar _ _ | exact nw_part _ _ _ | exact nw_sureAddr _ | exact nw_asIntOf _ | exact nw_asInt _ | exact nw_asBool _ | exact nw_asAgg _ | exact nw_asAddr _ | exact nw_elemOf _ | exact nw_newVar _ _ | exact nw_runtimePanic _ | exact nw_boundsPanic _ _ _ _ | exact nw_viewAt _ | exact nw_noView _ | exact nw_numberAt _ | exact nw_behindNumber _ | exact nw_byteOf _ | exact nw_fieldPlace _ _ | exact nw_unsafeAdd _ _ _ _ | exact nw_asNumber _ _ | exact nw_movedNumber _ _ _ | exact NW.map (nw_choose _) | (refine NW.bind ?_ (fun _ => ?_)) | (refine NW.forIn_array _ (fun _ _ => ?_) _ _) | (refine NW.forIn_range _ (fun _ _ => ?_) _ _) | (refine NW.mapM_array _ (fun _ => ?_) _)) | split | dsimp only | exact trivial)
theorem nw_typeStr (t : TypeId) : NW (typeStr t) := by
  unfold typeStr
  repeat' (first | (with_reducible first | exact nw_pure _ | exact nw_stuck _ | exact nw_unsup _ | exact nw_goPanic _ | exact nw_program | exact nw_shape _ | exact nw_frozen _ | exact nw_getObj _ | exact nw_load _ _ | exact nw_newObj _ | exact nw_choose _ | exact nw_underlying _ | exact nw_typeInfo _ | exact nw_sizeOf _ | exact nw_zeroValue _ | exact nw_isAgg _ | exact nw_loadVar _ _ | exact nw_part _ _ _ | exact nw_sureAddr _ | exact nw_asIntOf _ | exact nw_asInt _ | exact nw_asBool _ | exact nw_asAgg _ | exact nw_asAddr _ | exact nw_elemOf _ | exact nw_newVar _ _ | exact nw_runtimePanic _ | exact nw_boundsPanic _ _ _ _ | exact nw_viewAt _ | exact nw_noView _ | exact nw_numberAt _ | exact nw_behindNumber _ | exact nw_byteOf _ | exact nw_fieldPlace _ _ | exact nw_unsafeAdd _ _ _ _ | exact nw_asNumber _ _ | exact nw_movedNumber _ _ _ | exact nw_movedPointer _ _ _ | exact NW.map (nw_choose _) | (refine NW.bind ?_ (fun _ => ?_)) | (refine NW.forIn_array _ (fun _ _ => ?_) _ _) | (refine NW.forIn_range _ (fun _ _ => ?_) _ _) | (refine NW.mapM_array _ (fun _ => ?_) _)) | split | dsimp only | exact trivial)
theorem nw_stringish (a : Addr) : NW (stringish a) := by
  unfold stringish
  repeat' (first | (with_reducible first | exact nw_pure _ | exact nw_stuck _ | exact nw_unsup _ | exact nw_goPanic _ | exact nw_program | exact nw_shape _ | exact nw_frozen _ | exact nw_getObj _ | exact nw_load _ _ | exact nw_newObj _ | exact nw_choose _ | exact nw_underlying _ | exact nw_typeInfo _ | exact nw_sizeOf _ | exact nw_zeroValue _ | exact nw_isAgg _ | exact nw_loadVar _ _ | exact nw_part _ _ _ | exact nw_sureAddr _ | exact nw_asIntOf _ | exact nw_asInt _ | exact nw_asBool _ | exact nw_asAgg _ | exact nw_asAddr _ | exact nw_elemOf _ | exact nw_newVar _ _ | exact nw_runtimePanic _ | exact nw_boundsPanic _ _ _ _ | exact nw_viewAt _ | exact nw_noView _ | exact nw_numberAt _ | exact nw_behindNumber _ | exact nw_byteOf _ | exact nw_fieldPlace _ _ | exact nw_unsafeAdd _ _ _ _ | exact nw_asNumber _ _ | exact nw_typeStr _ | exact nw_movedNumber _ _ _ | exact nw_movedPointer _ _ _ | exact NW.map (nw_choose _) | (refine NW.bind ?_ (fun _ => ?_)) | (refine NW.forIn_array _ (fun _ _ => ?_) _ _) | (refine NW.forIn_range _ (fun _ _ => ?_) _ _) | (refine NW.mapM_array _ (fun _ => ?_) _)) | split | dsimp only | exact trivial)
theorem nw_mayBeOne (a b : Addr) : NW (mayBeOne a b) := by
  unfold mayBeOne
  repeat' (first | (with_reducible first | exact nw_pure _ | exact nw_stuck _ | exact nw_unsup _ | exact nw_goPanic _ | exact nw_program | exact nw_shape _ | exact nw_frozen _ | exact nw_getObj _ | exact nw_load _ _ | exact nw_newObj _ | exact nw_choose _ | exact nw_underlying _ | exact nw_typeInfo _ | exact nw_sizeOf _ | exact nw_zeroValue _ | exact nw_isAgg _ | exact nw_loadVar _ _ | exact nw_part _ _ _ | exact nw_sureAddr _ | exact nw_asIntOf _ | exact nw_asInt _ | exact nw_asBool _ | exact nw_asAgg _ | exact nw_asAddr _ | exact nw_elemOf _ | exact nw_newVar _ _ | exact nw_runtimePanic _ | exact nw_boundsPanic _ _ _ _ | exact nw_viewAt _ | exact nw_noView _ | exact nw_numberAt _ | exact nw_behindNumber _ | exact nw_byteOf _ | exact nw_fieldPlace _ _ | exact nw_unsafeAdd _ _ _ _ | exact nw_asNumber _ _ | exact nw_typeStr _ | exact nw_stringish _ | exact nw_movedNumber _ _ _ | exact nw_movedPointer _ _ _ | exact NW.map (nw_choose _) | (refine NW.bind ?_ (fun _ => ?_)) | (refine NW.forIn_array _ (fun _ _ => ?_) _ _) | (refine NW.forIn_range _ (fun _ _ => ?_) _ _) | (refine NW.mapM_array _ (fun _ => ?_) _)) | split | dsimp only | exact trivial)
theorem nw_sameAddr (a b : Addr) : NW (sameAddr a b) := by
  unfold sameAddr
  repeat' (first | (with_reducible first | exact nw_pure _ | exact nw_stuck _ | exact nw_unsup _ | exact nw_goPanic _ | exact nw_program | exact nw_shape _ | exact nw_frozen _ | exact nw_getObj _ | exact nw_load _ _ | exact nw_newObj _ | exact nw_choose _ | exact nw_underlying _ | exact nw_typeInfo _ | exact nw_sizeOf _ | exact nw_zeroValue _ | exact nw_isAgg _ | exact nw_loadVar _ _ | exact nw_part _ _ _ | exact nw_sureAddr _ | exact nw_asIntOf _ | exact nw_asInt _ | exact nw_asBool _ | exact nw_asAgg _ | exact nw_asAddr _ | exact nw_elemOf _ | exact nw_newVar _ _ | exact nw_runtimePanic _ | exact nw_boundsPanic _ _ _ _ | exact nw_viewAt _ | exact nw_noView _ | exact nw_numberAt _ | exact nw_behindNumber _ | exact nw_byteOf _ | exact nw_fieldPlace _ _ | exact nw_unsafeAdd _ _ _ _ | exact nw_asNumber _ _ | exact nw_typeStr _ | exact nw_stringish _ | exact nw_mayBeOne _ _ | exact nw_movedNumber _ _ _ | exact nw_movedPointer _ _ _ | exact NW.map (nw_choose _) | (refine NW.bind ?_ (fun _ => ?_)) | (refine NW.forIn_array _ (fun _ _ => ?_) _ _) | (refine NW.forIn_range _ (fun _ _ => ?_) _ _) | (refine NW.mapM_array _ (fun _ => ?_) _)) | split | dsimp only | exact trivial)
theorem nw_samePointer (a b : Option Addr) : NW (samePointer a b) := by
  unfold samePointer
  repeat' (first | (with_reducible first | exact nw_pure _ | exact nw_stuck _ | exact nw_unsup _ | exact nw_goPanic _ | exact nw_program | exact nw_shape _ | exact nw_frozen _ | exact nw_getObj _ | exact nw_load _ _ | exact nw_newObj _ | exact nw_choose _ | exact nw_underlying _ | exact nw_typeInfo _ | exact nw_sizeOf _ | exact nw_zeroValue _ | exact nw_isAgg _ | exact nw_loadVar _ _ | exact nw_part _ _ _ | exact nw_sureAddr _ | exact nw_asIntOf _ | exact nw_asInt _ | exact nw_asBool _ | exact nw_asAgg _ | exact nw_asAddr _ | exact nw_elemOf _ | exact nw_newVar _ _ | exact nw_runtimePanic _ | exact nw_boundsPanic _ _ _ _ | exact nw_viewAt _ | exact nw_noView _ | exact nw_numberAt _ | exact nw_behindNumber _ | exact nw_byteOf _ | exact nw_fieldPlace _ _ | exact nw_unsafeAdd _ _ _ _ | exact nw_asNumber _ _ | exact nw_typeStr _ | exact nw_stringish _ | exact nw_mayBeOne _ _ | exact nw_sameAddr _ _ | exact nw_movedNumber _ _ _ | exact nw_movedPointer _ _ _ | exact NW.map (nw_choose _) | (refine NW.bind ?_ (fun _ => ?_)) | (refine NW.forIn_array _ (fun _ _ => ?_) _ _) | (refine NW.forIn_range _ (fun _ _ => ?_) _ _) | (refine NW.mapM_array _ (fun _ => ?_) _)) | split | dsimp only | exact trivial)
theorem nw_sliceBound (x : Value) (y : Nat) (c : BoundsCode) : NW (Instr.sliceBound x y c) := by
  unfold Instr.sliceBound
  repeat' (first | (with_reducible first | exact nw_pure _ | exact nw_stuck _ | exact nw_unsup _ | exact nw_goPanic _ | exact nw_program | exact nw_shape _ | exact nw_frozen _ | exact nw_getObj _ | exact nw_load _ _ | exact nw_newObj _ | exact nw_choose _ | exact nw_underlying _ | exact nw_typeInfo _ | exact nw_sizeOf _ | exact nw_zeroValue _ | exact nw_isAgg _ | exact nw_loadVar _ _ | exact nw_part _ _ _ | exact nw_sureAddr _ | exact nw_asIntOf _ | exact nw_asInt _ | exact nw_asBool _ | exact nw_asAgg _ | exact nw_asAddr _ | exact nw_elemOf _ | exact nw_newVar _ _ | exact nw_runtimePanic _ | exact nw_boundsPanic _ _ _ _ | exact nw_viewAt _ | exact nw_noView _ | exact nw_numberAt _ | exact nw_behindNumber _ | exact nw_byteOf _ | exact nw_fieldPlace _ _ | exact nw_unsafeAdd _ _ _ _ | exact nw_asNumber _ _ | exact nw_typeStr _ | exact nw_stringish _ | exact nw_mayBeOne _ _ | exact nw_sameAddr _ _ | exact nw_samePointer _ _ | exact nw_movedNumber _ _ _ | exact nw_movedPointer _ _ _ | exact NW.map (nw_choose _) | (refine NW.bind ?_ (fun _ => ?_)) | (refine NW.forIn_array _ (fun _ _ => ?_) _ _) | (refine NW.forIn_range _ (fun _ _ => ?_) _ _) | (refine NW.mapM_array _ (fun _ => ?_) _)) | split | dsimp only | exact trivial)
theorem nw_sliceBounds (b : Bool) (l c : Nat) (x y z : Option Value) : NW (Instr.sliceBounds b l c x y z) := by
  unfold Instr.sliceBounds
  repeat' (first | (with_reducible first | exact nw_pure _ | exact nw_stuck _ | exact nw_unsup _ | exact nw_goPanic _ | exact nw_program | exact nw_shape _ | exact nw_frozen _ | exact nw_getObj _ | exact nw_load _ _ | exact nw_newObj _ | exact nw_choose _ | exact nw_underlying _ | exact nw_typeInfo _ | exact nw_sizeOf _ | exact nw_zeroValue _ | exact nw_isAgg _ | exact nw_loadVar _ _ | exact nw_part _ _ _ | exact nw_sureAddr _ | exact nw_asIntOf _ | exact nw_asInt _ | exact nw_asBool _ | exact nw_asAgg _ | exact nw_asAddr _ | exact nw_elemOf _ | exact nw_newVar _ _ | exact nw_runtimePanic _ | exact nw_boundsPanic _ _ _ _ | exact nw_viewAt _ | exact nw_noView _ | exact nw_numberAt _ | exact nw_behindNumber _ | exact nw_byteOf _ | exact nw_fieldPlace _ _ | exact nw_unsafeAdd _ _ _ _ | exact nw_asNumber _ _ | exact nw_typeStr _ | exact nw_sliceBound _ _ _ | exact nw_stringish _ | exact nw_mayBeOne _ _ | exact nw_sameAddr _ _ | exact nw_samePointer _ _ | exact nw_movedNumber _ _ _ | exact nw_movedPointer _ _ _ | exact NW.map (nw_choose _) | (refine NW.bind ?_ (fun _ => ?_)) | (refine NW.forIn_array _ (fun _ _ => ?_) _ _) | (refine NW.forIn_range _ (fun _ _ => ?_) _ _) | (refine NW.mapM_array _ (fun _ => ?_) _)) | split | dsimp only | exact trivial)
theorem nw_slice (t : TypeId) (v : Value) (x y z : Option Value) : NW (Instr.slice t v x y z) := by
  unfold Instr.slice
  repeat' (first | (with_reducible first | exact nw_pure _ | exact nw_stuck _ | exact nw_unsup _ | exact nw_goPanic _ | exact nw_program | exact nw_shape _ | exact nw_frozen _ | exact nw_getObj _ | exact nw_load _ _ | exact nw_newObj _ | exact nw_choose _ | exact nw_underlying _ | exact nw_typeInfo _ | exact nw_sizeOf _ | exact nw_zeroValue _ | exact nw_isAgg _ | exact nw_loadVar _ _ | exact nw_part _ _ _ | exact nw_sureAddr _ | exact nw_asIntOf _ | exact nw_asInt _ | exact nw_asBool _ | exact nw_asAgg _ | exact nw_asAddr _ | exact nw_elemOf _ | exact nw_newVar _ _ | exact nw_runtimePanic _ | exact nw_boundsPanic _ _ _ _ | exact nw_viewAt _ | exact nw_noView _ | exact nw_numberAt _ | exact nw_behindNumber _ | exact nw_byteOf _ | exact nw_fieldPlace _ _ | exact nw_unsafeAdd _ _ _ _ | exact nw_asNumber _ _ | exact nw_typeStr _ | exact nw_sliceBound _ _ _ | exact nw_sliceBounds _ _ _ _ _ _ | exact nw_stringish _ | exact nw_mayBeOne _ _ | exact nw_sameAddr _ _ | exact nw_samePointer _ _ | exact nw_movedNumber _ _ _ | exact nw_movedPointer _ _ _ | exact NW.map (nw_choose _) | (refine NW.bind ?_ (fun _ => ?_)) | (refine NW.forIn_array _ (fun _ _ => ?_) _ _) | (refine NW.forIn_range _ (fun _ _ => ?_) _ _) | (refine NW.mapM_array _ (fun _ => ?_) _)) | split | dsimp only | exact trivial)
theorem nw_sliceAt (t : TypeId) (v : Value) (x y z : Option Value) : NW (Instr.sliceAt t v x y z) := by
  unfold Instr.sliceAt
  repeat' (first | (with_reducible first | exact nw_pure _ | exact nw_stuck _ | exact nw_unsup _ | exact nw_goPanic _ | exact nw_program | exact nw_shape _ | exact nw_frozen _ | exact nw_getObj _ | exact nw_load _ _ | exact nw_newObj _ | exact nw_choose _ | exact nw_underlying _ | exact nw_typeInfo _ | exact nw_sizeOf _ | exact nw_zeroValue _ | exact nw_isAgg _ | exact nw_loadVar _ _ | exact nw_part _ _ _ | exact nw_sureAddr _ | exact nw_asIntOf _ | exact nw_asInt _ | exact nw_asBool _ | exact nw_asAgg _ | exact nw_asAddr _ | exact nw_elemOf _ | exact nw_newVar _ _ | exact nw_runtimePanic _ | exact nw_boundsPanic _ _ _ _ | exact nw_viewAt _ | exact nw_noView _ | exact nw_numberAt _ | exact nw_behindNumber _ | exact nw_byteOf _ | exact nw_fieldPlace _ _ | exact nw_unsafeAdd _ _ _ _ | exact nw_asNumber _ _ | exact nw_typeStr _ | exact nw_sliceBound _ _ _ | exact nw_sliceBounds _ _ _ _ _ _ | exact nw_stringish _ | exact nw_mayBeOne _ _ | exact nw_sameAddr _ _ | exact nw_samePointer _ _ | exact nw_movedNumber _ _ _ | exact nw_movedPointer _ _ _ | exact nw_slice _ _ _ _ _ | exact NW.map (nw_choose _) | (refine NW.bind ?_ (fun _ => ?_)) | (refine NW.forIn_array _ (fun _ _ => ?_) _ _) | (refine NW.forIn_range _ (fun _ _ => ?_) _ _) | (refine NW.mapM_array _ (fun _ => ?_) _)) | split | dsimp only | exact trivial)
theorem nw_len (a : Array TypeId) (t : TypeId) (x : Array Value) : NW (Builtin.len_ a t x) := by
  unfold Builtin.len_
  repeat' (first | (with_reducible first | exact nw_pure _ | exact nw_stuck _ | exact nw_unsup _ | exact nw_goPanic _ | exact nw_program | exact nw_shape _ | exact nw_frozen _ | exact nw_getObj _ | exact nw_load _ _ | exact nw_newObj _ | exact nw_choose _ | exact nw_underlying _ | exact nw_typeInfo _ | exact nw_sizeOf _ | exact nw_zeroValue _ | exact nw_isAgg _ | exact nw_loadVar _ _ | exact nw_part _ _ _ | exact nw_sureAddr _ | exact nw_asIntOf _ | exact nw_asInt _ | exact nw_asBool _ | exact nw_asAgg _ | exact nw_asAddr _ | exact nw_elemOf _ | exact nw_newVar _ _ | exact nw_runtimePanic _ | exact nw_boundsPanic _ _ _ _ | exact nw_viewAt _ | exact nw_noView _ | exact nw_numberAt _ | exact nw_behindNumber _ | exact nw_byteOf _ | exact nw_fieldPlace _ _ | exact nw_unsafeAdd _ _ _ _ | exact nw_asNumber _ _ | exact nw_typeStr _ | exact nw_sliceBound _ _ _ | exact nw_sliceBounds _ _ _ _ _ _ | exact nw_stringish _ | exact nw_mayBeOne _ _ | exact nw_sameAddr _ _ | exact nw_samePointer _ _ | exact nw_movedNumber _ _ _ | exact nw_movedPointer _ _ _ | exact nw_slice _ _ _ _ _ | exact NW.map (nw_choose _) | (refine NW.bind ?_ (fun _ => ?_)) | (refine NW.forIn_array _ (fun _ _ => ?_) _ _) | (refine NW.forIn_range _ (fun _ _ => ?_) _ _) | (refine NW.mapM_array _ (fun _ => ?_) _)) | split | dsimp only | exact trivial)
theorem nw_cap (a : Array TypeId) (t : TypeId) (x : Array Value) : NW (Builtin.cap_ a t x) := by
  unfold Builtin.cap_
  repeat' (first | (with_reducible first | exact nw_pure _ | exact nw_stuck _ | exact nw_unsup _ | exact nw_goPanic _ | exact nw_program | exact nw_shape _ | exact nw_frozen _ | exact nw_getObj _ | exact nw_load _ _ | exact nw_newObj _ | exact nw_choose _ | exact nw_underlying _ | exact nw_typeInfo _ | exact nw_sizeOf _ | exact nw_zeroValue _ | exact nw_isAgg _ | exact nw_loadVar _ _ | exact nw_part _ _ _ | exact nw_sureAddr _ | exact nw_asIntOf _ | exact nw_asInt _ | exact nw_asBool _ | exact nw_asAgg _ | exact nw_asAddr _ | exact nw_elemOf _ | exact nw_newVar _ _ | exact nw_runtimePanic _ | exact nw_boundsPanic _ _ _ _ | exact nw_viewAt _ | exact nw_noView _ | exact nw_numberAt _ | exact nw_behindNumber _ | exact nw_byteOf _ | exact nw_fieldPlace _ _ | exact nw_unsafeAdd _ _ _ _ | exact nw_asNumber _ _ | exact nw_typeStr _ | exact nw_sliceBound _ _ _ | exact nw_sliceBounds _ _ _ _ _ _ | exact nw_stringish _ | exact nw_mayBeOne _ _ | exact nw_sameAddr _ _ | exact nw_samePointer _ _ | exact nw_movedNumber _ _ _ | exact nw_movedPointer _ _ _ | exact nw_slice _ _ _ _ _ | exact NW.map (nw_choose _) | (refine NW.bind ?_ (fun _ => ?_)) | (refine NW.forIn_array _ (fun _ _ => ?_) _ _) | (refine NW.forIn_range _ (fun _ _ => ?_) _ _) | (refine NW.mapM_array _ (fun _ => ?_) _)) | split | dsimp only | exact trivial)
theorem nw_intArith (o : BinOp) (k : IntKind) (x y : Int) : NW (Op.intArith o k x y) := by
  unfold Op.intArith
  repeat' (first | (with_reducible first | exact nw_pure _ | exact nw_stuck _ | exact nw_unsup _ | exact nw_goPanic _ | exact nw_program | exact nw_shape _ | exact nw_frozen _ | exact nw_getObj _ | exact nw_load _ _ | exact nw_newObj _ | exact nw_choose _ | exact nw_underlying _ | exact nw_typeInfo _ | exact nw_sizeOf _ | exact nw_zeroValue _ | exact nw_isAgg _ | exact nw_loadVar _ _ | exact nw_part _ _ _ | exact nw_sureAddr _ | exact nw_asIntOf _ | exact nw_asInt _ | exact nw_asBool _ | exact nw_asAgg _ | exact nw_asAddr _ | exact nw_elemOf _ | exact nw_newVar _ _ | exact nw_runtimePanic _ | exact nw_boundsPanic _ _ _ _ | exact nw_viewAt _ | exact nw_noView _ | exact nw_numberAt _ | exact nw_behindNumber _ | exact nw_byteOf _ | exact nw_fieldPlace _ _ | exact nw_unsafeAdd _ _ _ _ | exact nw_asNumber _ _ | exact nw_typeStr _ | exact nw_sliceBound _ _ _ | exact nw_sliceBounds _ _ _ _ _ _ | exact nw_stringish _ | exact nw_mayBeOne _ _ | exact nw_sameAddr _ _ | exact nw_samePointer _ _ | exact nw_movedNumber _ _ _ | exact nw_movedPointer _ _ _ | exact nw_slice _ _ _ _ _ | exact NW.map (nw_choose _) | (refine NW.bind ?_ (fun _ => ?_)) | (refine NW.forIn_array _ (fun _ _ => ?_) _ _) | (refine NW.forIn_range _ (fun _ _ => ?_) _ _) | (refine NW.mapM_array _ (fun _ => ?_) _)) | split | dsimp only | exact trivial)
theorem nw_intBits (o : BinOp) (k : IntKind) (x y : Int) : NW (Op.intBits o k x y) := by
  unfold Op.intBits
  repeat' (first | (with_reducible first | exact nw_pure _ | exact nw_stuck _ | exact nw_unsup _ | exact nw_goPanic _ | exact nw_program | exact nw_shape _ | exact nw_frozen _ | exact nw_getObj _ | exact nw_load _ _ | exact nw_newObj _ | exact nw_choose _ | exact nw_underlying _ | exact nw_typeInfo _ | exact nw_sizeOf _ | exact nw_zeroValue _ | exact nw_isAgg _ | exact nw_loadVar _ _ | exact nw_part _ _ _ | exact nw_sureAddr _ | exact nw_asIntOf _ | exact nw_asInt _ | exact nw_asBool _ | exact nw_asAgg _ | exact nw_asAddr _ | exact nw_elemOf _ | exact nw_newVar _ _ | exact nw_runtimePanic _ | exact nw_boundsPanic _ _ _ _ | exact nw_viewAt _ | exact nw_noView _ | exact nw_numberAt _ | exact nw_behindNumber _ | exact nw_byteOf _ | exact nw_fieldPlace _ _ | exact nw_unsafeAdd _ _ _ _ | exact nw_asNumber _ _ | exact nw_typeStr _ | exact nw_sliceBound _ _ _ | exact nw_sliceBounds _ _ _ _ _ _ | exact nw_stringish _ | exact nw_mayBeOne _ _ | exact nw_sameAddr _ _ | exact nw_samePointer _ _ | exact nw_movedNumber _ _ _ | exact nw_movedPointer _ _ _ | exact nw_intArith _ _ _ _ | exact nw_slice _ _ _ _ _ | exact NW.map (nw_choose _) | (refine NW.bind ?_ (fun _ => ?_)) | (refine NW.forIn_array _ (fun _ _ => ?_) _ _) | (refine NW.forIn_range _ (fun _ _ => ?_) _ _) | (refine NW.mapM_array _ (fun _ => ?_) _)) | split | dsimp only | exact trivial)
theorem nw_unary (o : UnOp) (x : Value) : NW (Op.unary o x) := by
  unfold Op.unary
  repeat' (first | (with_reducible first | exact nw_pure _ | exact nw_stuck _ | exact nw_unsup _ | exact nw_goPanic _ | exact nw_program | exact nw_shape _ | exact nw_frozen _ | exact nw_getObj _ | exact nw_load _ _ | exact nw_newObj _ | exact nw_choose _ | exact nw_underlying _ | exact nw_typeInfo _ | exact nw_sizeOf _ | exact nw_zeroValue _ | exact nw_isAgg _ | exact nw_loadVar _ _ | exact nw_part _ _ _ | exact nw_sureAddr _ | exact nw_asIntOf _ | exact nw_asInt _ | exact nw_asBool _ | exact nw_asAgg _ | exact nw_asAddr _ | exact nw_elemOf _ | exact nw_newVar _ _ | exact nw_runtimePanic _ | exact nw_boundsPanic _ _ _ _ | exact nw_viewAt _ | exact nw_noView _ | exact nw_numberAt _ | exact nw_behindNumber _ | exact nw_byteOf _ | exact nw_fieldPlace _ _ | exact nw_unsafeAdd _ _ _ _ | exact nw_asNumber _ _ | exact nw_typeStr _ | exact nw_sliceBound _ _ _ | exact nw_sliceBounds _ _ _ _ _ _ | exact nw_stringish _ | exact nw_mayBeOne _ _ | exact nw_sameAddr _ _ | exact nw_samePointer _ _ | exact nw_movedNumber _ _ _ | exact nw_movedPointer _ _ _ | exact nw_intArith _ _ _ _ | exact nw_intBits _ _ _ _ | exact nw_slice _ _ _ _ _ | exact NW.map (nw_choose _) | (refine NW.bind ?_ (fun _ => ?_)) | (refine NW.forIn_array _ (fun _ _ => ?_) _ _) | (refine NW.forIn_range _ (fun _ _ => ?_) _ _) | (refine NW.mapM_array _ (fun _ => ?_) _)) | split | dsimp only | exact trivial)
theorem nw_intDiv (o : BinOp) (k : IntKind) (x y : Int) : NW (Op.intDiv o k x y) := by
  unfold Op.intDiv
  repeat' (first | (with_reducible first | exact nw_pure _ | exact nw_stuck _ | exact nw_unsup _ | exact nw_goPanic _ | exact nw_program | exact nw_shape _ | exact nw_frozen _ | exact nw_getObj _ | exact nw_load _ _ | exact nw_newObj _ | exact nw_choose _ | exact nw_underlying _ | exact nw_typeInfo _ | exact nw_sizeOf _ | exact nw_zeroValue _ | exact nw_isAgg _ | exact nw_loadVar _ _ | exact nw_part _ _ _ | exact nw_sureAddr _ | exact nw_asIntOf _ | exact nw_asInt _ | exact nw_asBool _ | exact nw_asAgg _ | exact nw_asAddr _ | exact nw_elemOf _ | exact nw_newVar _ _ | exact nw_runtimePanic _ | exact nw_boundsPanic _ _ _ _ | exact nw_viewAt _ | exact nw_noView _ | exact nw_numberAt _ | exact nw_behindNumber _ | exact nw_byteOf _ | exact nw_fieldPlace _ _ | exact nw_unsafeAdd _ _ _ _ | exact nw_asNumber _ _ | exact nw_typeStr _ | exact nw_sliceBound _ _ _ | exact nw_sliceBounds _ _ _ _ _ _ | exact nw_stringish _ | exact nw_mayBeOne _ _ | exact nw_sameAddr _ _ | exact nw_samePointer _ _ | exact nw_movedNumber _ _ _ | exact nw_movedPointer _ _ _ | exact nw_intArith _ _ _ _ | exact nw_intBits _ _ _ _ | exact nw_slice _ _ _ _ _ | exact NW.map (nw_choose _) | (refine NW.bind ?_ (fun _ => ?_)) | (refine NW.forIn_array _ (fun _ _ => ?_) _ _) | (refine NW.forIn_range _ (fun _ _ => ?_) _ _) | (refine NW.mapM_array _ (fun _ => ?_) _)) | split | dsimp only | exact trivial)
theorem nw_intCmp (o : BinOp) (x y : Int) : NW (Op.intCmp o x y) := by
  unfold Op.intCmp
  repeat' (first | (with_reducible first | exact nw_pure _ | exact nw_stuck _ | exact nw_unsup _ | exact nw_goPanic _ | exact nw_program | exact nw_shape _ | exact nw_frozen _ | exact nw_getObj _ | exact nw_load _ _ | exact nw_newObj _ | exact nw_choose _ | exact nw_underlying _ | exact nw_typeInfo _ | exact nw_sizeOf _ | exact nw_zeroValue _ | exact nw_isAgg _ | exact nw_loadVar _ _ | exact nw_part _ _ _ | exact nw_sureAddr _ | exact nw_asIntOf _ | exact nw_asInt _ | exact nw_asBool _ | exact nw_asAgg _ | exact nw_asAddr _ | exact nw_elemOf _ | exact nw_newVar _ _ | exact nw_runtimePanic _ | exact nw_boundsPanic _ _ _ _ | exact nw_viewAt _ | exact nw_noView _ | exact nw_numberAt _ | exact nw_behindNumber _ | exact nw_byteOf _ | exact nw_fieldPlace _ _ | exact nw_unsafeAdd _ _ _ _ | exact nw_asNumber _ _ | exact nw_typeStr _ | exact nw_sliceBound _ _ _ | exact nw_sliceBounds _ _ _ _ _ _ | exact nw_stringish _ | exact nw_mayBeOne _ _ | exact nw_sameAddr _ _ | exact nw_samePointer _ _ | exact nw_movedNumber _ _ _ | exact nw_movedPointer _ _ _ | exact nw_intArith _ _ _ _ | exact nw_intBits _ _ _ _ | exact nw_slice _ _ _ _ _ | exact nw_intDiv _ _ _ _ | exact NW.map (nw_choose _) | (refine NW.bind ?_ (fun _ => ?_)) | (refine NW.forIn_array _ (fun _ _ => ?_) _ _) | (refine NW.forIn_range _ (fun _ _ => ?_) _ _) | (refine NW.mapM_array _ (fun _ => ?_) _)) | split | dsimp only | exact trivial)
theorem nw_shift (o : BinOp) (k : IntKind) (x : Int) (q : IntKind) (y : Int) : NW (Op.shift o k x q y) := by
  unfold Op.shift
  repeat' (first | (with_reducible first | exact nw_pure _ | exact nw_stuck _ | exact nw_unsup _ | exact nw_goPanic _ | exact nw_program | exact nw_shape _ | exact nw_frozen _ | exact nw_getObj _ | exact nw_load _ _ | exact nw_newObj _ | exact nw_choose _ | exact nw_underlying _ | exact nw_typeInfo _ | exact nw_sizeOf _ | exact nw_zeroValue _ | exact nw_isAgg _ | exact nw_loadVar _ _ | exact nw_part _ _ _ | exact nw_sureAddr _ | exact nw_asIntOf _ | exact nw_asInt _ | exact nw_asBool _ | exact nw_asAgg _ | exact nw_asAddr _ | exact nw_elemOf _ | exact nw_newVar _ _ | exact nw_runtimePanic _ | exact nw_boundsPanic _ _ _ _ | exact nw_viewAt _ | exact nw_noView _ | exact nw_numberAt _ | exact nw_behindNumber _ | exact nw_byteOf _ | exact nw_fieldPlace _ _ | exact nw_unsafeAdd _ _ _ _ | exact nw_asNumber _ _ | exact nw_typeStr _ | exact nw_sliceBound _ _ _ | exact nw_sliceBounds _ _ _ _ _ _ | exact nw_stringish _ | exact nw_mayBeOne _ _ | exact nw_sameAddr _ _ | exact nw_samePointer _ _ | exact nw_movedNumber _ _ _ | exact nw_movedPointer _ _ _ | exact nw_intArith _ _ _ _ | exact nw_intBits _ _ _ _ | exact nw_slice _ _ _ _ _ | exact nw_intDiv _ _ _ _ | exact nw_intCmp _ _ _ | exact NW.map (nw_choose _) | (refine NW.bind ?_ (fun _ => ?_)) | (refine NW.forIn_array _ (fun _ _ => ?_) _ _) | (refine NW.forIn_range _ (fun _ _ => ?_) _ _) | (refine NW.mapM_array _ (fun _ => ?_) _)) | split | dsimp only | exact trivial)
theorem nw_stringOp (o : BinOp) (x y : ByteArray) : NW (Op.stringOp o x y) := by
  unfold Op.stringOp
  repeat' (first | (with_reducible first | exact nw_pure _ | exact nw_stuck _ | exact nw_unsup _ | exact nw_goPanic _ | exact nw_program | exact nw_shape _ | exact nw_frozen _ | exact nw_getObj _ | exact nw_load _ _ | exact nw_newObj _ | exact nw_choose _ | exact nw_underlying _ | exact nw_typeInfo _ | exact nw_sizeOf _ | exact nw_zeroValue _ | exact nw_isAgg _ | exact nw_loadVar _ _ | exact nw_part _ _ _ | exact nw_sureAddr _ | exact nw_asIntOf _ | exact nw_asInt _ | exact nw_asBool _ | exact nw_asAgg _ | exact nw_asAddr _ | exact nw_elemOf _ | exact nw_newVar _ _ | exact nw_runtimePanic _ | exact nw_boundsPanic _ _ _ _ | exact nw_viewAt _ | exact nw_noView _ | exact nw_numberAt _ | exact nw_behindNumber _ | exact nw_byteOf _ | exact nw_fieldPlace _ _ | exact nw_unsafeAdd _ _ _ _ | exact nw_asNumber _ _ | exact nw_typeStr _ | exact nw_sliceBound _ _ _ | exact nw_sliceBounds _ _ _ _ _ _ | exact nw_stringish _ | exact nw_mayBeOne _ _ | exact nw_sameAddr _ _ | exact nw_samePointer _ _ | exact nw_movedNumber _ _ _ | exact nw_movedPointer _ _ _ | exact nw_intArith _ _ _ _ | exact nw_intBits _ _ _ _ | exact nw_slice _ _ _ _ _ | exact nw_intDiv _ _ _ _ | exact nw_intCmp _ _ _ | exact nw_shift _ _ _ _ _ | exact NW.map (nw_choose _) | (refine NW.bind ?_ (fun _ => ?_)) | (refine NW.forIn_array _ (fun _ _ => ?_) _ _) | (refine NW.forIn_range _ (fun _ _ => ?_) _ _) | (refine NW.mapM_array _ (fun _ => ?_) _)) | split | dsimp only | exact trivial)
theorem nw_floatArith (o : BinOp) (k : FloatKind) (x y : Nat) : NW (Op.floatArith o k x y) := by
  unfold Op.floatArith
  repeat' (first | (with_reducible first | exact nw_pure _ | exact nw_stuck _ | exact nw_unsup _ | exact nw_goPanic _ | exact nw_program | exact nw_shape _ | exact nw_frozen _ | exact nw_getObj _ | exact nw_load _ _ | exact nw_newObj _ | exact nw_choose _ | exact nw_underlying _ | exact nw_typeInfo _ | exact nw_sizeOf _ | exact nw_zeroValue _ | exact nw_isAgg _ | exact nw_loadVar _ _ | exact nw_part _ _ _ | exact nw_sureAddr _ | exact nw_asIntOf _ | exact nw_asInt _ | exact nw_asBool _ | exact nw_asAgg _ | exact nw_asAddr _ | exact nw_elemOf _ | exact nw_newVar _ _ | exact nw_runtimePanic _ | exact nw_boundsPanic _ _ _ _ | exact nw_viewAt _ | exact nw_noView _ | exact nw_numberAt _ | exact nw_behindNumber _ | exact nw_byteOf _ | exact nw_fieldPlace _ _ | exact nw_unsafeAdd _ _ _ _ | exact nw_asNumber _ _ | exact nw_typeStr _ | exact nw_sliceBound _ _ _ | exact nw_sliceBounds _ _ _ _ _ _ | exact nw_stringish _ | exact nw_mayBeOne _ _ | exact nw_sameAddr _ _ | exact nw_samePointer _ _ | exact nw_movedNumber _ _ _ | exact nw_movedPointer _ _ _ | exact nw_intArith _ _ _ _ | exact nw_intBits _ _ _ _ | exact nw_slice _ _ _ _ _ | exact nw_intDiv _ _ _ _ | exact nw_intCmp _ _ _ | exact nw_shift _ _ _ _ _ | exact nw_stringOp _ _ _ | exact NW.map (nw_choose _) | (refine NW.bind ?_ (fun _ => ?_)) | (refine NW.forIn_array _ (fun _ _ => ?_) _ _) | (refine NW.forIn_range _ (fun _ _ => ?_) _ _) | (refine NW.mapM_array _ (fun _ => ?_) _)) | split | dsimp only | exact trivial)
theorem nw_floatCmp (o : BinOp) (k : FloatKind) (x y : Nat) : NW (Op.floatCmp o k x y) := by
  unfold Op.floatCmp
  repeat' (first | (with_reducible first | exact nw_pure _ | exact nw_stuck _ | exact nw_unsup _ | exact nw_goPanic _ | exact nw_program | exact nw_shape _ | exact nw_frozen _ | exact nw_getObj _ | exact nw_load _ _ | exact nw_newObj _ | exact nw_choose _ | exact nw_underlying _ | exact nw_typeInfo _ | exact nw_sizeOf _ | exact nw_zeroValue _ | exact nw_isAgg _ | exact nw_loadVar _ _ | exact nw_part _ _ _ | exact nw_sureAddr _ | exact nw_asIntOf _ | exact nw_asInt _ | exact nw_asBool _ | exact nw_asAgg _ | exact nw_asAddr _ | exact nw_elemOf _ | exact nw_newVar _ _ | exact nw_runtimePanic _ | exact nw_boundsPanic _ _ _ _ | exact nw_viewAt _ | exact nw_noView _ | exact nw_numberAt _ | exact nw_behindNumber _ | exact nw_byteOf _ | exact nw_fieldPlace _ _ | exact nw_unsafeAdd _ _ _ _ | exact nw_asNumber _ _ | exact nw_typeStr _ | exact nw_sliceBound _ _ _ | exact nw_sliceBounds _ _ _ _ _ _ | exact nw_stringish _ | exact nw_mayBeOne _ _ | exact nw_sameAddr _ _ | exact nw_samePointer _ _ | exact nw_movedNumber _ _ _ | exact nw_movedPointer _ _ _ | exact nw_intArith _ _ _ _ | exact nw_intBits _ _ _ _ | exact nw_slice _ _ _ _ _ | exact nw_intDiv _ _ _ _ | exact nw_intCmp _ _ _ | exact nw_shift _ _ _ _ _ | exact nw_stringOp _ _ _ | exact nw_floatArith _ _ _ _ | exact NW.map (nw_choose _) | (refine NW.bind ?_ (fun _ => ?_)) | (refine NW.forIn_array _ (fun _ _ => ?_) _ _) | (refine NW.forIn_range _ (fun _ _ => ?_) _ _) | (refine NW.mapM_array _ (fun _ => ?_) _)) | split | dsimp only | exact trivial)
theorem nw_twoPlaces (a b : Addr) : NW (Op.twoPlaces a b) := by
  unfold Op.twoPlaces
  repeat' (first | (with_reducible first | exact nw_pure _ | exact nw_stuck _ | exact nw_unsup _ | exact nw_goPanic _ | exact nw_program | exact nw_shape _ | exact nw_frozen _ | exact nw_getObj _ | exact nw_load _ _ | exact nw_newObj _ | exact nw_choose _ | exact nw_underlying _ | exact nw_typeInfo _ | exact nw_sizeOf _ | exact nw_zeroValue _ | exact nw_isAgg _ | exact nw_loadVar _ _ | exact nw_part _ _ _ | exact nw_sureAddr _ | exact nw_asIntOf _ | exact nw_asInt _ | exact nw_asBool _ | exact nw_asAgg _ | exact nw_asAddr _ | exact nw_elemOf _ | exact nw_newVar _ _ | exact nw_runtimePanic _ | exact nw_boundsPanic _ _ _ _ | exact nw_viewAt _ | exact nw_noView _ | exact nw_numberAt _ | exact nw_behindNumber _ | exact nw_byteOf _ | exact nw_fieldPlace _ _ | exact nw_unsafeAdd _ _ _ _ | exact nw_asNumber _ _ | exact nw_typeStr _ | exact nw_sliceBound _ _ _ | exact nw_sliceBounds _ _ _ _ _ _ | exact nw_stringish _ | exact nw_mayBeOne _ _ | exact nw_sameAddr _ _ | exact nw_samePointer _ _ | exact nw_movedNumber _ _ _ | exact nw_movedPointer _ _ _ | exact nw_intArith _ _ _ _ | exact nw_intBits _ _ _ _ | exact nw_slice _ _ _ _ _ | exact nw_intDiv _ _ _ _ | exact nw_intCmp _ _ _ | exact nw_shift _ _ _ _ _ | exact nw_stringOp _ _ _ | exact nw_floatArith _ _ _ _ | exact nw_floatCmp _ _ _ _ | exact NW.map (nw_choose _) | (refine NW.bind ?_ (fun _ => ?_)) | (refine NW.forIn_array _ (fun _ _ => ?_) _ _) | (refine NW.forIn_range _ (fun _ _ => ?_) _ _) | (refine NW.mapM_array _ (fun _ => ?_) _)) | split | dsimp only | exact trivial)
theorem nw_addrSub (k : IntKind) (a b : Addr) : NW (Op.addrSub k a b) := by
  unfold Op.addrSub
  repeat' (first | (with_reducible first | exact nw_pure _ | exact nw_stuck _ | exact nw_unsup _ | exact nw_goPanic _ | exact nw_program | exact nw_shape _ | exact nw_frozen _ | exact nw_getObj _ | exact nw_load _ _ | exact nw_newObj _ | exact nw_choose _ | exact nw_underlying _ | exact nw_typeInfo _ | exact nw_sizeOf _ | exact nw_zeroValue _ | exact nw_isAgg _ | exact nw_loadVar _ _ | exact nw_part _ _ _ | exact nw_sureAddr _ | exact nw_asIntOf _ | exact nw_asInt _ | exact nw_asBool _ | exact nw_asAgg _ | exact nw_asAddr _ | exact nw_elemOf _ | exact nw_newVar _ _ | exact nw_runtimePanic _ | exact nw_boundsPanic _ _ _ _ | exact nw_viewAt _ | exact nw_noView _ | exact nw_numberAt _ | exact nw_behindNumber _ | exact nw_byteOf _ | exact nw_fieldPlace _ _ | exact nw_unsafeAdd _ _ _ _ | exact nw_asNumber _ _ | exact nw_typeStr _ | exact nw_sliceBound _ _ _ | exact nw_sliceBounds _ _ _ _ _ _ | exact nw_stringish _ | exact nw_mayBeOne _ _ | exact nw_sameAddr _ _ | exact nw_samePointer _ _ | exact nw_movedNumber _ _ _ | exact nw_movedPointer _ _ _ | exact nw_intArith _ _ _ _ | exact nw_intBits _ _ _ _ | exact nw_slice _ _ _ _ _ | exact nw_intDiv _ _ _ _ | exact nw_intCmp _ _ _ | exact nw_shift _ _ _ _ _ | exact nw_stringOp _ _ _ | exact nw_floatArith _ _ _ _ | exact nw_floatCmp _ _ _ _ | exact nw_twoPlaces _ _ | exact NW.map (nw_choose _) | (refine NW.bind ?_ (fun _ => ?_)) | (refine NW.forIn_array _ (fun _ _ => ?_) _ _) | (refine NW.forIn_range _ (fun _ _ => ?_) _ _) | (refine NW.mapM_array _ (fun _ => ?_) _)) | split | dsimp only | exact trivial)
theorem nw_addrCmp (o : BinOp) (a b : Addr) : NW (Op.addrCmp o a b) := by
  unfold Op.addrCmp
  repeat' (first | (with_reducible first | exact nw_pure _ | exact nw_stuck _ | exact nw_unsup _ | exact nw_goPanic _ | exact nw_program | exact nw_shape _ | exact nw_frozen _ | exact nw_getObj _ | exact nw_load _ _ | exact nw_newObj _ | exact nw_choose _ | exact nw_underlying _ | exact nw_typeInfo _ | exact nw_sizeOf _ | exact nw_zeroValue _ | exact nw_isAgg _ | exact nw_loadVar _ _ | exact nw_part _ _ _ | exact nw_sureAddr _ | exact nw_asIntOf _ | exact nw_asInt _ | exact nw_asBool _ | exact nw_asAgg _ | exact nw_asAddr _ | exact nw_elemOf _ | exact nw_newVar _ _ | exact nw_runtimePanic _ | exact nw_boundsPanic _ _ _ _ | exact nw_viewAt _ | exact nw_noView _ | exact nw_numberAt _ | exact nw_behindNumber _ | exact nw_byteOf _ | exact nw_fieldPlace _ _ | exact nw_unsafeAdd _ _ _ _ | exact nw_asNumber _ _ | exact nw_typeStr _ | exact nw_sliceBound _ _ _ | exact nw_sliceBounds _ _ _ _ _ _ | exact nw_stringish _ | exact nw_mayBeOne _ _ | exact nw_sameAddr _ _ | exact nw_samePointer _ _ | exact nw_movedNumber _ _ _ | exact nw_movedPointer _ _ _ | exact nw_intArith _ _ _ _ | exact nw_intBits _ _ _ _ | exact nw_slice _ _ _ _ _ | exact nw_intDiv _ _ _ _ | exact nw_intCmp _ _ _ | exact nw_shift _ _ _ _ _ | exact nw_stringOp _ _ _ | exact nw_floatArith _ _ _ _ | exact nw_floatCmp _ _ _ _ | exact nw_twoPlaces _ _ | exact nw_addrSub _ _ _ | exact NW.map (nw_choose _) | (refine NW.bind ?_ (fun _ => ?_)) | (refine NW.forIn_array _ (fun _ _ => ?_) _ _) | (refine NW.forIn_range _ (fun _ _ => ?_) _ _) | (refine NW.mapM_array _ (fun _ => ?_) _)) | split | dsimp only | exact trivial)
theorem nw_addrMod (k : IntKind) (a : Addr) (n : Int) : NW (Op.addrMod k a n) := by
  unfold Op.addrMod
  repeat' (first | (with_reducible first | exact nw_pure _ | exact nw_stuck _ | exact nw_unsup _ | exact nw_goPanic _ | exact nw_program | exact nw_shape _ | exact nw_frozen _ | exact nw_getObj _ | exact nw_load _ _ | exact nw_newObj _ | exact nw_choose _ | exact nw_underlying _ | exact nw_typeInfo _ | exact nw_sizeOf _ | exact nw_zeroValue _ | exact nw_isAgg _ | exact nw_loadVar _ _ | exact nw_part _ _ _ | exact nw_sureAddr _ | exact nw_asIntOf _ | exact nw_asInt _ | exact nw_asBool _ | exact nw_asAgg _ | exact nw_asAddr _ | exact nw_elemOf _ | exact nw_newVar _ _ | exact nw_runtimePanic _ | exact nw_boundsPanic _ _ _ _ | exact nw_viewAt _ | exact nw_noView _ | exact nw_numberAt _ | exact nw_behindNumber _ | exact nw_byteOf _ | exact nw_fieldPlace _ _ | exact nw_unsafeAdd _ _ _ _ | exact nw_asNumber _ _ | exact nw_typeStr _ | exact nw_sliceBound _ _ _ | exact nw_sliceBounds _ _ _ _ _ _ | exact nw_stringish _ | exact nw_mayBeOne _ _ | exact nw_sameAddr _ _ | exact nw_samePointer _ _ | exact nw_movedNumber _ _ _ | exact nw_movedPointer _ _ _ | exact nw_intArith _ _ _ _ | exact nw_intBits _ _ _ _ | exact nw_slice _ _ _ _ _ | exact nw_intDiv _ _ _ _ | exact nw_intCmp _ _ _ | exact nw_shift _ _ _ _ _ | exact nw_stringOp _ _ _ | exact nw_floatArith _ _ _ _ | exact nw_floatCmp _ _ _ _ | exact nw_twoPlaces _ _ | exact nw_addrSub _ _ _ | exact nw_addrCmp _ _ _ | exact NW.map (nw_choose _) | (refine NW.bind ?_ (fun _ => ?_)) | (refine NW.forIn_array _ (fun _ _ => ?_) _ _) | (refine NW.forIn_range _ (fun _ _ => ?_) _ _) | (refine NW.mapM_array _ (fun _ => ?_) _)) | split | dsimp only | exact trivial)
theorem nw_equalIn : ∀ (d : Nat) (t : TypeId) (x y : Value), NW (Op.equalIn d t x y)
  | 0, _, _, _ => trivial
  | d + 1, t, x, y => by
    have ih := nw_equalIn d
    unfold Op.equalIn
    repeat' (first | (with_reducible first | exact nw_pure _ | exact nw_stuck _ | exact nw_unsup _ | exact nw_goPanic _ | exact ih _ _ _ | exact nw_runtimePanic _ | exact nw_choose _ | exact nw_sameAddr _ _ | exact nw_samePointer _ _ | exact nw_behindNumber _ | exact nw_byteOf _ | exact nw_typeInfo _ | exact nw_typeStr _ | exact nw_sizeOf _ | exact nw_part _ _ _ | exact nw_program | exact nw_underlying _ | (refine NW.bind ?_ (fun _ => ?_)) | (refine NW.forIn_array _ (fun _ _ => ?_) _ _) | (refine NW.forIn_range _ (fun _ _ => ?_) _ _) | (refine NW.mapM_array _ (fun _ => ?_) _)) | split | dsimp only | exact trivial)
theorem nw_equal (t : TypeId) (x y : Value) : NW (Op.equal t x y) := nw_equalIn _ t x y
theorem nw_eqGuardIn : ∀ (d : Nat) (t : TypeId) (x y : Value), NW (Op.eqGuardIn d t x y)
  | 0, _, _, _ => trivial
  | d + 1, t, x, y => by
    have ih := nw_eqGuardIn d
    unfold Op.eqGuardIn
    repeat' (first | (with_reducible first | exact nw_pure _ | exact nw_stuck _ | exact nw_unsup _ | exact nw_goPanic _ | exact ih _ _ _ | exact nw_sizeOf _ | exact nw_part _ _ _ | exact nw_program | exact nw_underlying _ | (refine NW.bind ?_ (fun _ => ?_)) | (refine NW.forIn_array _ (fun _ _ => ?_) _ _) | (refine NW.forIn_range _ (fun _ _ => ?_) _ _) | (refine NW.mapM_array _ (fun _ => ?_) _)) | split | dsimp only | exact trivial)
theorem nw_eqGuard (o : BinOp) (t : TypeId) (x y : Operand) (a b : Value) : NW (eqGuard o t x y a b) := by
  unfold eqGuard
  repeat' (first | (with_reducible first | exact nw_pure _ | exact nw_stuck _ | exact nw_unsup _ | exact nw_goPanic _ | exact nw_eqGuardIn _ _ _ _ | exact nw_program | (refine NW.bind ?_ (fun _ => ?_)) | (refine NW.forIn_array _ (fun _ _ => ?_) _ _) | (refine NW.forIn_range _ (fun _ _ => ?_) _ _) | (refine NW.mapM_array _ (fun _ => ?_) _)) | split | dsimp only | exact trivial)
theorem nw_checkKey (e : Bool) : ∀ (d : Nat) (t : TypeId) (x : Value), NW (Instr.checkKey e d t x)
  | 0, _, _ => trivial
  | d + 1, t, x => by
    have ih := nw_checkKey e d
    unfold Instr.checkKey
    repeat' (first | (with_reducible first | exact nw_pure _ | exact nw_stuck _ | exact nw_unsup _ | exact nw_goPanic _ | exact ih _ _ | exact nw_runtimePanic _ | exact nw_typeInfo _ | exact nw_typeStr _ | exact nw_sizeOf _ | exact nw_part _ _ _ | exact nw_program | exact nw_underlying _ | (refine NW.bind ?_ (fun _ => ?_)) | (refine NW.forIn_array _ (fun _ _ => ?_) _ _) | (refine NW.forIn_range _ (fun _ _ => ?_) _ _) | (refine NW.mapM_array _ (fun _ => ?_) _)) | split | dsimp only | exact trivial)
theorem nw_findAsking (t : TypeId) (k : Value) : ∀ (l : List MapEntry) (i : Nat), NW (Instr.findAsking t k l i)
  | [], _ => trivial
  | e :: l, i => by
    unfold Instr.findAsking
    refine NW.bind (nw_equal _ _ _) fun b => ?_
    split
    · trivial
    · exact nw_findAsking t k l (i + 1)
theorem nw_findKey (t : TypeId) (k : Value) (l : List MapEntry) : NW (Instr.findKey t k l) := by
  unfold Instr.findKey
  refine NW.bind (nw_underlying _) fun d => ?_
  split
  · trivial
  · exact nw_findAsking t k l 0
theorem nw_lookup (t : TypeId) (x i : Value) (c : Bool) : NW (Instr.lookup t x i c) := by
  unfold Instr.lookup
  repeat' (first | (with_reducible first | exact nw_pure _ | exact nw_stuck _ | exact nw_unsup _ | exact nw_goPanic _ | exact nw_checkKey _ _ _ _ | exact nw_findKey _ _ _ | exact nw_zeroValue _ | exact nw_getObj _ | exact nw_underlying _ | (refine NW.bind ?_ (fun _ => ?_)) | (refine NW.forIn_array _ (fun _ _ => ?_) _ _) | (refine NW.forIn_range _ (fun _ _ => ?_) _ _) | (refine NW.mapM_array _ (fun _ => ?_) _)) | split | dsimp only | exact trivial)
theorem nw_followBlind : ∀ (l : List FieldStep) (t : TypeId) (x : Option Value), NW (followBlind l t x)
  | [], _, _ => trivial
  | s :: l, t, x => by
    have ih := nw_followBlind l
    unfold followBlind
    repeat' (first | (with_reducible first | exact nw_pure _ | exact nw_stuck _ | exact nw_unsup _ | exact nw_goPanic _ | exact ih _ _ | exact nw_part _ _ _ | exact nw_underlying _ | (refine NW.bind ?_ (fun _ => ?_)) | (refine NW.forIn_array _ (fun _ _ => ?_) _ _) | (refine NW.forIn_range _ (fun _ _ => ?_) _ _) | (refine NW.mapM_array _ (fun _ => ?_) _)) | split | dsimp only | exact trivial)
theorem nw_nilAhead : ∀ (d : Nat) (t : TypeId) (x : Value) (n : String), NW (nilAhead d t x n)
  | 0, _, _, _ => trivial
  | d + 1, t, x, n => by
    have ih := nw_nilAhead d
    unfold nilAhead
    repeat' (first | (with_reducible first | exact nw_pure _ | exact nw_stuck _ | exact nw_unsup _ | exact nw_goPanic _ | exact ih _ _ _ | exact nw_followBlind _ _ _ | exact nw_typeInfo _ | exact nw_underlying _ | (refine NW.bind ?_ (fun _ => ?_)) | (refine NW.forIn_array _ (fun _ _ => ?_) _ _) | (refine NW.forIn_range _ (fun _ _ => ?_) _ _) | (refine NW.mapM_array _ (fun _ => ?_) _)) | split | dsimp only | exact trivial)
theorem nw_build (t : TypeId) (l : Array (Nat × Value)) : NW (Instr.build t l) := by
  unfold Instr.build
  repeat' (first | (with_reducible first | exact nw_pure _ | exact nw_stuck _ | exact nw_unsup _ | exact nw_goPanic _ | exact nw_sizeOf _ | exact nw_zeroValue _ | exact nw_underlying _ | (refine NW.bind ?_ (fun _ => ?_)) | (refine NW.forIn_array _ (fun _ _ => ?_) _ _) | (refine NW.forIn_range _ (fun _ _ => ?_) _ _) | (refine NW.mapM_array _ (fun _ => ?_) _)) | split | dsimp only | exact trivial)
theorem nw_f2f (k : FloatKind) (a : Nat) (l : FloatKind) : NW (Conv.floatToFloat k a l) := by
  unfold Conv.floatToFloat
  repeat' (first | (with_reducible first | exact nw_pure _ | exact nw_stuck _ | exact nw_unsup _ | exact nw_goPanic _ | exact nw_choose _ | (refine NW.bind ?_ (fun _ => ?_)) | (refine NW.forIn_array _ (fun _ _ => ?_) _ _) | (refine NW.forIn_range _ (fun _ _ => ?_) _ _) | (refine NW.mapM_array _ (fun _ => ?_) _)) | split | dsimp only | exact trivial)
theorem nw_cconv (k : FloatKind) (a : Nat) (l : FloatKind) : NW (Op.Complex.conv k a l) := by
  unfold Op.Complex.conv
  repeat' (first | (with_reducible first | exact nw_pure _ | exact nw_stuck _ | exact nw_unsup _ | exact nw_goPanic _ | exact nw_f2f _ _ _ | exact nw_choose _ | (refine NW.bind ?_ (fun _ => ?_)) | (refine NW.forIn_array _ (fun _ _ => ?_) _ _) | (refine NW.forIn_range _ (fun _ _ => ?_) _ _) | (refine NW.mapM_array _ (fun _ => ?_) _)) | split | dsimp only | exact trivial)
theorem nw_carith (o : BinOp) (k : FloatKind) (a b : Nat) : NW (Op.Complex.arith o k a b) := by
  unfold Op.Complex.arith
  repeat' (first | (with_reducible first | exact nw_pure _ | exact nw_stuck _ | exact nw_unsup _ | exact nw_goPanic _ | exact nw_floatArith _ _ _ _ | (refine NW.bind ?_ (fun _ => ?_)) | (refine NW.forIn_array _ (fun _ _ => ?_) _ _) | (refine NW.forIn_range _ (fun _ _ => ?_) _ _) | (refine NW.mapM_array _ (fun _ => ?_) _)) | split | dsimp only | exact trivial)
theorem nw_ccmp (o : BinOp) (k : FloatKind) (a b : Nat) : NW (Op.Complex.cmp o k a b) := by
  unfold Op.Complex.cmp
  repeat' (first | (with_reducible first | exact nw_pure _ | exact nw_stuck _ | exact nw_unsup _ | exact nw_goPanic _ | exact nw_floatCmp _ _ _ _ | exact nw_asBool _ | (refine NW.bind ?_ (fun _ => ?_)) | (refine NW.forIn_array _ (fun _ _ => ?_) _ _) | (refine NW.forIn_range _ (fun _ _ => ?_) _ _) | (refine NW.mapM_array _ (fun _ => ?_) _)) | split | dsimp only | exact trivial)
theorem nw_cprod (a b c d : Nat) : NW (Op.Complex.product a b c d) := by
  unfold Op.Complex.product Op.Complex.sub Op.Complex.add Op.Complex.mul
  repeat' (first | (with_reducible first | exact nw_pure _ | exact nw_stuck _ | exact nw_unsup _ | exact nw_goPanic _ | exact nw_carith _ _ _ _ | (refine NW.bind ?_ (fun _ => ?_)) | (refine NW.forIn_array _ (fun _ _ => ?_) _ _) | (refine NW.forIn_range _ (fun _ _ => ?_) _ _) | (refine NW.mapM_array _ (fun _ => ?_) _)) | split | dsimp only | exact trivial)
theorem nw_ccorr (s a b c d : Nat) : NW (Op.Complex.corrected s a b c d) := by
  unfold Op.Complex.corrected Op.Complex.sub Op.Complex.add Op.Complex.mul
  repeat' (first | (with_reducible first | exact nw_pure _ | exact nw_stuck _ | exact nw_unsup _ | exact nw_goPanic _ | exact nw_carith _ _ _ _ | (refine NW.bind ?_ (fun _ => ?_)) | (refine NW.forIn_array _ (fun _ _ => ?_) _ _) | (refine NW.forIn_range _ (fun _ _ => ?_) _ _) | (refine NW.mapM_array _ (fun _ => ?_) _)) | split | dsimp only | exact trivial)
theorem nw_cquo (a b c d : Nat) : NW (Op.Complex.quotient a b c d) := by
  unfold Op.Complex.quotient Op.Complex.sub Op.Complex.add Op.Complex.mul Op.Complex.quo
  repeat' (first | (with_reducible first | exact nw_pure _ | exact nw_stuck _ | exact nw_unsup _ | exact nw_goPanic _ | exact nw_carith _ _ _ _ | exact nw_ccmp _ _ _ _ | exact nw_ccorr _ _ _ _ _ | (refine NW.bind ?_ (fun _ => ?_)) | (refine NW.forIn_array _ (fun _ _ => ?_) _ _) | (refine NW.forIn_range _ (fun _ _ => ?_) _ _) | (refine NW.mapM_array _ (fun _ => ?_) _)) | split | dsimp only | exact trivial)
set_option maxHeartbeats 2000000 in
theorem nw_complexOp (o : BinOp) (k : FloatKind) (a b c d : Nat) : NW (Op.complexOp o k a b c d) := by
  unfold Op.complexOp
  repeat' (first | (with_reducible first | exact nw_pure _ | exact nw_stuck _ | exact nw_unsup _ | exact nw_goPanic _ | exact nw_runtimePanic _ | exact nw_choose _ | exact nw_floatArith _ _ _ _ | exact nw_cconv _ _ _ | exact nw_carith _ _ _ _ | exact nw_ccmp _ _ _ _ | exact nw_cprod _ _ _ _ | exact nw_cquo _ _ _ _ | (refine NW.bind ?_ (fun _ => ?_)) | (refine NW.forIn_array _ (fun _ _ => ?_) _ _) | (refine NW.forIn_range _ (fun _ _ => ?_) _ _) | (refine NW.mapM_array _ (fun _ => ?_) _)) | split | dsimp only | exact trivial)
set_option maxHeartbeats 2000000 in
theorem nw_binOp (o : BinOp) (t : TypeId) (x y : Value) : NW (binOp o t x y) := by
  unfold binOp
  repeat' (first | (with_reducible first | exact nw_pure _ | exact nw_stuck _ | exact nw_unsup _ | exact nw_goPanic _ | exact nw_complexOp _ _ _ _ _ _ | exact nw_program | exact nw_shape _ | exact nw_frozen _ | exact nw_getObj _ | exact nw_load _ _ | exact nw_newObj _ | exact nw_choose _ | exact nw_underlying _ | exact nw_typeInfo _ | exact nw_sizeOf _ | exact nw_zeroValue _ | exact nw_isAgg _ | exact nw_loadVar _ _ | exact nw_part _ _ _ | exact nw_sureAddr _ | exact nw_asIntOf _ | exact nw_asInt _ | exact nw_asBool _ | exact nw_asAgg _ | exact nw_asAddr _ | exact nw_elemOf _ | exact nw_newVar _ _ | exact nw_runtimePanic _ | exact nw_boundsPanic _ _ _ _ | exact nw_viewAt _ | exact nw_noView _ | exact nw_numberAt _ | exact nw_behindNumber _ | exact nw_byteOf _ | exact nw_fieldPlace _ _ | exact nw_unsafeAdd _ _ _ _ | exact nw_asNumber _ _ | exact nw_typeStr _ | exact nw_sliceBound _ _ _ | exact nw_sliceBounds _ _ _ _ _ _ | exact nw_stringish _ | exact nw_mayBeOne _ _ | exact nw_sameAddr _ _ | exact nw_samePointer _ _ | exact nw_movedNumber _ _ _ | exact nw_movedPointer _ _ _ | exact nw_equal _ _ _ | exact nw_intArith _ _ _ _ | exact nw_intBits _ _ _ _ | exact nw_slice _ _ _ _ _ | exact nw_intDiv _ _ _ _ | exact nw_intCmp _ _ _ | exact nw_shift _ _ _ _ _ | exact nw_stringOp _ _ _ | exact nw_floatArith _ _ _ _ | exact nw_floatCmp _ _ _ _ | exact nw_twoPlaces _ _ | exact nw_addrSub _ _ _ | exact nw_addrCmp _ _ _ | exact nw_addrMod _ _ _ | (refine NW.bind ?_ (fun _ => ?_)) | (refine NW.forIn_array _ (fun _ _ => ?_) _ _) | (refine NW.forIn_range _ (fun _ _ => ?_) _ _) | (refine NW.mapM_array _ (fun _ => ?_) _)) | split | dsimp only | exact trivial)
/-- The operations that write nothing. -/
def noWriteB : Op → Bool
  | .move _ | .assign _ | .pick _ _ _ | .nilCheck _ | .binOp _ _ _ _ _ | .unOp _ _ _ | .load _ _ | .fieldAddr _ _ _ | .field _ _ _ | .indexAddr _ _ _ | .index _ _ _ | .lookup _ _ _ _ | .extract _ _ | .slice _ _ _ _ _ | .build _ _ => true
  | .call c => match c.callee with | .builtin .len => true | .builtin .cap => true | _ => false
  | _ => false
theorem val_of {P : Program} {s : Sem Value} (h : NW s) {w w' : World} {n : Next} (e : (do pure (.value (← s)) : Sem Next).run P w = .ok n w') : (∃ v, n = .value v) ∧ Gr w w' := by
  rw [Sem.run_bind] at e
  cases hs : s.run P w with
  | halt h w1 => rw [hs] at e; cases e
  | ok v w1 =>
    rw [hs] at e
    cases e
    exact ⟨⟨v, rfl⟩, h.run hs⟩
theorem val_of' {P : Program} {s : Sem Value} (h : NW s) {w w' : World} {n : Next} (e : ((s.run P w).andThen fun a w' => .ok (.value a) w') = .ok n w') : (∃ v, n = .value v) ∧ Gr w w' := by
  cases hs : s.run P w with
  | halt h w1 => rw [hs] at e; cases e
  | ok v w1 =>
    rw [hs] at e
    cases e
    exact ⟨⟨v, rfl⟩, h.run hs⟩
theorem nil_case {P : Program} {t : TypeId} {v : Value} {name : String} {x : Value} {u : Unsupported} {w w' : World} {n : Next} (e : (do
    if (← nilAhead ((← program).types.size + Made.depth) t v name) != some false then
      unsupported u
    pure (.value x) : Sem Next).run P w = .ok n w') : (∃ v, n = .value v) ∧ Gr w w' := by
  rw [Sem.run_bind] at e
  simp only [program, Sem.run, Result.andThen_ok] at e
  rw [Sem.run_bind] at e
  cases hs : (nilAhead (P.types.size + Made.depth) t v name).run P w with
  | halt h w1 => rw [hs] at e; cases e
  | ok r w1 =>
    rw [hs] at e
    simp only [Result.andThen_ok] at e
    split at e
    · exact absurd e (by simp [unsupported, Sem.run_bind, Sem.run])
    · cases e
      exact ⟨⟨_, rfl⟩, (nw_nilAhead _ _ _ _).run hs⟩
theorem exec_nw {P : Program} {ρ : Operand → Value} {o : Oper} (h : noWriteB o.op = true) {w w' : World} {n : Next} (e : (execOp ρ o).run P w = .ok n w') : (∃ v, n = .value v) ∧ Gr w w' := by
  unfold execOp at e
  dsimp only at e
  cases ho : o.op with
  | move x => rw [ho] at e; cases e; exact ⟨⟨_, rfl⟩, Gr.refl _⟩
  | assign x => rw [ho] at e; cases e; exact ⟨⟨_, rfl⟩, Gr.refl _⟩
  | pick c a b =>
    rw [ho] at e
    dsimp only at e
    rw [Sem.run_bind] at e
    cases hs : (asBool (ρ c)).run P w with
    | halt h w1 => rw [hs] at e; cases e
    | ok v w1 =>
      rw [hs] at e
      cases e
      exact ⟨⟨_, rfl⟩, (nw_asBool _).run hs⟩
  | nilCheck x =>
    rw [ho] at e
    dsimp only at e
    split at e
    · exact absurd e (by simp [runtimePanic, Sem.run_bind, program, Sem.run, goPanic])
    · exact absurd e (by simp [runtimePanic, Sem.run_bind, program, Sem.run, goPanic])
    · exact absurd e (by simp [runtimePanic, Sem.run_bind, program, Sem.run, goPanic])
    · split at e
      · exact absurd e (by simp [runtimePanic, Sem.run_bind, program, Sem.run, goPanic])
      · exact nil_case e
      · cases e; exact ⟨⟨_, rfl⟩, Gr.refl _⟩
    · cases e; exact ⟨⟨_, rfl⟩, Gr.refl _⟩
  | binOp op t x y t2 => rw [ho] at e; exact val_of (NW.bind (nw_eqGuard _ _ _ _ _ _) fun _ => nw_binOp _ _ _ _) e
  | unOp op t x => rw [ho] at e; exact val_of (nw_unary _ _) e
  | load t x => rw [ho] at e; exact val_of (nw_loadAt _ _) e
  | fieldAddr t x f => rw [ho] at e; exact val_of (nw_fieldAt _ _ _) e
  | field t x f => rw [ho] at e; exact val_of (nw_field _ _ _) e
  | indexAddr t x i => rw [ho] at e; exact val_of (nw_indexAt _ _ _) e
  | index t x i => rw [ho] at e; exact val_of (nw_index _ _ _) e
  | lookup t x i c => rw [ho] at e; exact val_of (nw_lookup _ _ _ _) e
  | extract x i => rw [ho] at e; exact val_of (nw_extract _ _) e
  | slice t x a b c => rw [ho] at e; exact val_of (nw_sliceAt _ _ _ _ _) e
  | build t ps => rw [ho] at e; exact val_of (nw_build _ _) e
  | call c =>
    rw [ho] at h
    rw [ho] at e
    dsimp only at e
    obtain ⟨callee, args, types⟩ := c
    cases callee with
    | builtin b =>
      cases b with
      | len =>
        simp only [resolve, Sem.run_bind, Sem.run_pure, Result.andThen_ok, invoke, builtin] at e
        exact val_of' (nw_len _ _ _) e
      | cap =>
        simp only [resolve, Sem.run_bind, Sem.run_pure, Result.andThen_ok, invoke, builtin] at e
        exact val_of' (nw_cap _ _ _) e
      | _ => cases h
    | _ => cases h
  | _ => rw [ho] at h; cases h

section
variable {P : Program} {ops : Array Oper} {W : World} {L : Act → Prop}
/-- What is asked where the head has run: the world is the old one, and L holds of the frame. -/
def HeadPost (W : World) (L : Act → Prop) (e : Exit) (a : Act) (w : World) : Prop := e = .normal ∧ w = W ∧ L a
theorem HeadPost.mk {W : World} {L : Act → Prop} {a : Act} (h : L a) : HeadPost W L .normal a W := ⟨rfl, rfl, h⟩
theorem headPost_out : ¬ LetsOut (HeadPost W L) := fun ⟨_, _, h, _⟩ => by cases h
theorem wp_head {o : Oper} (h : noWriteB o.op = true) {a : Act} {w : World} {K : Act → World → Prop} (hw : o.wp P a w K (HeadPost W L)) : ∃ v w', (execOp a.eval o).run P w = .ok (.value v) w' ∧ Gr w w' ∧ K (a.put o.dst v) w' := by
  unfold Oper.wp at hw
  cases hr : (execOp a.eval o).run P w with
  | ok n w' =>
    obtain ⟨⟨v, rfl⟩, hg⟩ := exec_nw h hr
    rw [hr] at hw
    exact ⟨v, w', rfl, hg, hw⟩
  | halt x w' =>
    rw [hr] at hw
    cases x <;> first | exact hw.elim | (obtain ⟨h, _⟩ := (hw : HeadPost W L _ _ _); cases h)
theorem head_gr : ∀ (l : List Oper) (a : Act) (w : World), l.all (fun o => noWriteB o.op) = true → wpList P ops (HeadPost W L) l a w → Gr w W
  | [], a, w, _, h => by obtain ⟨_, e, _⟩ := h; subst e; exact Gr.refl _
  | o :: l, a, w, hl, h => by
    simp only [List.all_cons, Bool.and_eq_true] at hl
    unfold wpList at h
    split at h
    · rcases h with h | ⟨_, h⟩
      · obtain ⟨v, w', _, hg, hk⟩ := wp_head hl.1 h
        exact hg.trans (head_gr l _ _ hl.2 hk)
      · exact (headPost_out h).elim
    · exact head_gr l _ _ hl.2 h
theorem head_still : ∀ (l : List Oper) (a : Act), l.all (fun o => noWriteB o.op) = true → wpList P ops (HeadPost W L) l a W → wpStill P ops W L l a
  | [], a, _, h => h.2.2
  | o :: l, a, hl, h => by
    simp only [List.all_cons, Bool.and_eq_true] at hl
    unfold wpList at h
    unfold wpStill
    split at h
    · rename_i hwant
      rw [if_pos hwant]
      rcases h with h | ⟨_, h⟩
      · obtain ⟨v, w', hr, hg, hk⟩ := wp_head hl.1 h
        have hg2 := head_gr l _ _ hl.2 hk
        have e : w' = W := hg.eq hg2.d hg2.s
        rw [e] at hr hk
        unfold Oper.still
        rw [hr, Oper.stillUpon_value]
        exact head_still l _ hl.2 hk
      · exact (headPost_out h).elim
    · rename_i hwant
      rw [if_neg hwant]
      exact head_still l _ hl.2 h
end
/-- A region that draws its order: its first n operations write nothing and are waited for; it is walked in the order of the text. -/
theorem wp_region_seq {P : Program} {id : Nat} {Q : Exit → Act → World → Prop} {a : Act} {w : World} {l : List Oper} (n : Nat) (hm : P.follows .mixedOrders = true) (hB : (Region.lexTailB .any l.toArray n && (l.take n).all fun o => noWriteB o.op) = true)
    (h : wpList P l.toArray (HeadPost w.drew (fun a' => wpList P l.toArray Q (l.drop n) a' w.drew)) (l.take n) a w.drew) : (Code.region id l.toArray true).wp P Q a w := by
  rw [Bool.and_eq_true] at hB
  exact wp_region_still_tail n hm hB.1 (head_still _ _ hB.2 h)
end Go.Proofs.Ytjjanjhoaiannaa
