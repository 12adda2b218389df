/- The law's rows. -/
import Derived.Test.YtjjanjhoaiannaaTh15
namespace Go.Proofs.Ytjjanjhoaiannaa
open Go.Shelf Go.RowKit Go.Lib Go.Sort Go.Maps
set_option linter.unusedVariables false
set_option linter.unusedSimpArgs false

/-- A described article. -/
structure RawV where
  id : UInt8
  date : UInt8
  rv : Value
  hrv : rv.oneCell' = true
  refs : List UInt8
def RawV.cells (R : RawV) : List Value := [.int .u8 (R.id.toNat : Int), .int .u8 (R.date.toNat : Int), R.rv]
def u8E : ElemTy Try.prog 87 5 UInt8 where
  enc n := [.int .u8 (n.toNat : Int)]
  k := 1
  hu := Try.underlying87
  hi := ⟨.int .u8 0, 1, by kernel_rfl, rfl, by decide⟩
  hk := by decide
  len _ := rfl
  one n := by
    intro v hv
    simp only [List.mem_cons, List.not_mem_nil, or_false] at hv
    rw [hv]
    rfl
/-! ### what rows gives -/
def rawTw (R : RawV) : Tw := ⟨idOf R.id, (R.date.toNat : Int), (R.refs.take 5).map idOf⟩
def rowStep (acc : List Tw) (R : RawV) : List Tw := if acc.any (fun t => decide (t.id = idOf R.id)) then acc else acc ++ [rawTw R]
def rowsT (L : List RawV) : List Tw := (L.take 14).foldl rowStep []
/-- Rows of their own, with references of their own. -/
structure RowsOwn (w : World) (B : Nat) (v : Value) (M : List RowV) : Prop where
  own : OwnL rowE w B v M
  refs : ∀ R ∈ M, OwnL idE w B R.rv R.refs
  disj : ∀ R ∈ M, ∀ k, R.rv.ownBlock = some k → v.ownBlock ≠ some k
section
variable {w w' : World} {B : Nat} {v : Value} {M : List RowV}
theorem RowsOwn.below (h : RowsOwn w B v M) (hb : Below w.heap.size w w') : RowsOwn w' B v M := ⟨h.own.below hb, fun R hR => (h.refs R hR).below hb, h.disj⟩
theorem RowsOwn.at_ (h : RowsOwn w B v M) : RowsAt w v M := ⟨h.own.at_, fun R hR => (h.refs R hR).at_⟩
theorem RowsOwn.nil (w : World) (B : Nat) : RowsOwn w B (.slice none 0 0) [] := ⟨ownL_nil _ _ _, fun R hR => (by cases hR), fun R hR => (by cases hR)⟩
theorem RowsOwn.snoc (h : RowsOwn w B v M) {R : RowV} {v' : Value} {N : Nat} (hr : OwnL idE w N R.rv R.refs) (hN : B ≤ N) (hlt : ∀ k, v.ownBlock = some k → k < N) (ho : OwnL rowE w' B v' (M ++ [R])) (hg : w.grownBy w' v.ownBlock) (hat : ∀ k, v'.ownBlock = some k → v.ownBlock = some k ∨ w.heap.size ≤ k) : RowsOwn w' B v' (M ++ [R]) := by
  have hc := OwnL.grown_chg (v := v) hg
  refine ⟨ho, fun R' hR' => ?_, fun R' hR' k hk e => ?_⟩
  · rcases List.mem_append.1 hR' with hR' | hR'
    · exact (h.refs R' hR').chg hc (fun k hk e => h.disj R' hR' k hk e)
    · rw [List.mem_singleton.1 hR']
      exact (hr.chg hc (fun k hk e => by have := (hr.lt hk).1; have := hlt k e; omega)).base hN
  · rcases List.mem_append.1 hR' with hR' | hR'
    · rcases hat k e with e | e
      · exact h.disj R' hR' k hk e
      · have := ((h.refs R' hR').lt hk).2
        omega
    · rw [List.mem_singleton.1 hR'] at hk
      rcases hat k e with e | e
      · have := (hr.lt hk).1
        have := hlt k e
        omega
      · have := (hr.lt hk).2
        omega
end
theorem kRow_set (a : IdB) (d : Int) (v u : Value) (h : v.oneCell' = true) (h' : u.oneCell' = true) (M M' : List IdB) : (kRow a d v h M).cells.toArray.setIfInBounds 50 u = (kRow a d u h' M').cells.toArray := by
  obtain ⟨l, hl⟩ := a
  obtain ⟨x0, x1, x2, x3, x4, x5, x6, x7, x8, x9, x10, x11, x12, x13, x14, x15, x16, x17, x18, x19, x20, x21, x22, x23, x24, x25, x26, x27, x28, x29, x30, x31, rfl⟩ := list32 hl
  rfl
theorem idxL_nonneg {L : List RowV} {x : IdB} : idxL L x < 0 ↔ ∀ r ∈ L, r.id ≠ x := by
  constructor
  · intro h r hr e
    unfold idxL at h
    cases hf : L.findIdx? (fun r => decide (r.id = x)) with
    | none => rw [List.findIdx?_eq_none_iff] at hf; have := hf r hr; rw [decide_eq_false_iff_not] at this; exact this e
    | some i => rw [hf] at h; dsimp only at h; omega
  · intro h
    rw [idxL_none2 h]
    decide
theorem rowStep_idx {M : List RowV} {R : RawV} : rowStep (M.map RowV.tw) R = if idxL M (idOf R.id) < 0 then M.map RowV.tw ++ [rawTw R] else M.map RowV.tw := by
  unfold rowStep
  by_cases h : idxL M (idOf R.id) < 0
  · rw [if_pos h, if_neg]
    rw [List.any_eq_true]
    rintro ⟨t, ht, e⟩
    obtain ⟨r, hr, rfl⟩ := List.mem_map.1 ht
    exact idxL_nonneg.1 h r hr (of_decide_eq_true e)
  · rw [if_neg h, if_pos]
    rw [List.any_eq_true]
    refine Classical.byContradiction fun hn => h (idxL_nonneg.2 fun r hr e => hn ⟨r.tw, List.mem_map.2 ⟨r, hr, rfl⟩, decide_eq_true e⟩)
theorem exec_buildL {o : Oper} {w : World} {ρ : Operand → Value} (t : TypeId) (parts : Array (Nat × Operand)) (ho : o.op = .build t parts) (ps : List (Nat × Value)) (hps : (parts.toList.map fun (i, x) => (i, ρ x)) = ps) {v : Value} (h : (Instr.build t ps.toArray).run Try.prog w = .ok v w) : (execOp ρ o).run Try.prog w = .ok (.value v) w :=
  exec_build ho (by rw [← hps, ← List.map_toArray]) h
theorem conv_u8 (n : Nat) (h : n < 256) (w : World) : (convert 5 3 (.int .u8 (n : Int))).run Try.prog w = .ok (.int .i64 (n : Int)) w := by
  have h1 : IntKind.wrap .i64 (n : Int) = (n : Int) := by
    simp [IntKind.wrap, IntKind.bits, IntKind.signed]
    omega
  unfold convert
  simp [run_underlying Try.underlying5, run_underlying Try.underlying3, Conv.intToInt, h1]
theorem exec_conv {o : Oper} {w : World} {ρ : Operand → Value} (n : Nat) (h : n < 256) (x : Operand) (ho : o.op = .convert 5 3 x) (hx : ρ x = .int .u8 (n : Int)) : (execOp ρ o).run Try.prog w = .ok (.value (.int .i64 (n : Int))) w := by
  unfold execOp
  simp only [ho, hx, Sem.run_bind, conv_u8 n h, Result.andThen_ok]
  rfl
theorem wp_putC {P : Program} {o : Oper} {a : Act} {w : World} {K : Act → World → Prop} {Q : Exit → Act → World → Prop} (hdst : o.dst = none) (ty : TypeId) (x y : Operand) (ho : o.op = .store ty x y)
    (g i : Nat) (v : Value) (hx : a.eval x = .pointer (some ⟨g, i, none⟩)) (hy : a.eval y = v) {T : TypeId} {cs : Array Value} (hg : w.heap[g]? = some (.cells cs T (0, 0))) (hi : i < cs.size) (hv : v.oneCell' = true) (hsz : (P.info? ty).map (·.size) = some 1)
    (h : ∀ w', w'.heap[g]? = some (.cells (cs.setIfInBounds i v) T (0, 0)) → Chg (fun k => k = g) w w' → w'.heap.size = w.heap.size → K a w') : o.wp P a w K Q := by
  unfold Oper.wp execOp
  simp only [ho, hx, hy, Sem.run_bind, run_storeC hg hi hv hsz, Result.andThen_ok, Sem.run_pure, Oper.upon_skip, hdst]
  exact h _ (heap_setCell_same _ _ _ _ _ _ hg) (Chg.setCell _ _ rfl) (by simp [World.setCell])
end Go.Proofs.Ytjjanjhoaiannaa
