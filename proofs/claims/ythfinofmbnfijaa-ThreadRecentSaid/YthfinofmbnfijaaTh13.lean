/- Nodes are compared; lists of nodes are. -/
import Derived.Test.YthfinofmbnfijaaTh12
import Derived.Test.YthfinofmbnfijaaTp7
namespace Go.Proofs.Ythfinofmbnfijaa
open Go.Shelf Go.RowKit Go.Lib Go.Sort Go.ChangeShapes Go.Maps
set_option linter.unusedVariables false
set_option linter.unusedSimpArgs false

theorem keyLits_i64 (d : Nat) {n : Int} (h : -9223372036854775808 ≤ n ∧ n ≤ 9223372036854775807) : Try.prog.keyLits (d + 1) 3 [.int .i64 n] = some [.int .i64 n] := by
  have hw : (Lit.int .i64 n).wf = true := by
    simp [Lit.wf, IntKind.min, IntKind.max, IntKind.signed, IntKind.bits]
    omega
  simp [Program.keyLits, Try.underlying3, hw]
theorem cellsOf_int : Try.prog.cellsOf 3 = 1 := by kernel_rfl
theorem cellsOf_Node : Try.prog.cellsOf 37 = 35 := by kernel_rfl
/-- Its numbers are small. -/
def NSm (n : NodeV) : Prop := (-1000000000 ≤ n.row ∧ n.row ≤ 1000000000) ∧ (-1000000000 ≤ n.parent ∧ n.parent ≤ 1000000000) ∧ (-1000000000 ≤ n.depth ∧ n.depth ≤ 1000000000)
theorem keyLits_Node {x : NodeV} (h : NSm x) : Try.prog.keyLits 3 37 x.cells = some (x.id.1.map bl ++ [.int .i64 x.row, .int .i64 x.parent, .int .i64 x.depth]) := by
  have h0 : (bvs x.id.1).length = 32 := by rw [bvs_length, x.id.2]
  have e0 : (x.cells.drop 0).take 32 = bvs x.id.1 := by unfold NodeV.cells; rw [List.drop_zero, List.take_left' h0]
  have e1 : (x.cells.drop 32).take 1 = [.int .i64 x.row] := by unfold NodeV.cells; rw [List.drop_left' h0]; rfl
  have e2 : (x.cells.drop 33).take 1 = [.int .i64 x.parent] := by
    unfold NodeV.cells
    rw [show 33 = 32 + 1 from rfl, ← List.drop_drop, List.drop_left' h0]
    rfl
  have e3 : (x.cells.drop 34).take 1 = [.int .i64 x.depth] := by
    unfold NodeV.cells
    rw [show 34 = 32 + 2 from rfl, ← List.drop_drop, List.drop_left' h0]
    rfl
  have b1 : -9223372036854775808 ≤ x.row ∧ x.row ≤ 9223372036854775807 := by have := h.1; omega
  have b2 : -9223372036854775808 ≤ x.parent ∧ x.parent ≤ 9223372036854775807 := by have := h.2.1; omega
  have b3 : -9223372036854775808 ≤ x.depth ∧ x.depth ≤ 9223372036854775807 := by have := h.2.2; omega
  unfold Program.keyLits
  rw [Try.underlying37]
  simp only [NodeV.cells_length, cellsOf_Node]
  rw [if_pos ⟨trivial, by decide +kernel⟩]
  simp only [List.mapM_cons, List.mapM_nil, cellsOf_Id, cellsOf_int, e0, e1, e2, e3, keyLits_Id 0 x.id.2, keyLits_i64 1 b1, keyLits_i64 1 b2, keyLits_i64 1 b3]
  rfl
theorem keyType_Node : Try.prog.keyTypeAt 5 37 = true := by kernel_rfl
theorem deep_Node : EqAt Try.prog 10000 37 := by
  have := run_equalIn_deep 9995 5 37 keyType_Node
  simpa only [Nat.reduceAdd] using this
theorem formed_Node (x : NodeV) : (Value.agg x.cells.toArray).formed Try.prog 37 = true := by
  unfold Value.formed
  rw [Try.underlying37]
  simp [cellsOf_Node, x.cells_length]
instance : DecidableEq NodeV := fun a b => if h : a.id = b.id ∧ a.row = b.row ∧ a.parent = b.parent ∧ a.depth = b.depth then isTrue (by
    obtain ⟨h1, h2, h3, h4⟩ := h
    cases a
    cases b
    simp only at h1 h2 h3 h4
    rw [h1, h2, h3, h4]) else isFalse (fun e => h (by rw [e]; exact ⟨rfl, rfl, rfl, rfl⟩))
theorem app_inj2 {a b : List UInt8} (ha : a.length = 32) (hb : b.length = 32) {p q : List Lit} (h : a.map bl ++ p = b.map bl ++ q) : a = b ∧ p = q := by
  have h2 := List.append_inj h (by rw [List.length_map, List.length_map, ha, hb])
  exact ⟨bl_inj h2.1, h2.2⟩
theorem neq_Node {x y : NodeV} (hx : NSm x) (hy : NSm y) (w : World) : (binOp .neq 37 (.agg x.cells.toArray) (.agg y.cells.toArray)).run Try.prog w = .ok (.bool (!decide (x = y))) w := by
  rw [run_neq_struct (P := Try.prog) w 37 x.cells.toArray y.cells.toArray]
  obtain ⟨r, h1, h2⟩ := deep_Node w 3 3 (.agg x.cells.toArray) (.agg y.cells.toArray) _ _ (formed_Node x) (formed_Node y) (keyLits_Node hx) (keyLits_Node hy)
  have e : r = decide (x = y) := by
    rw [Bool.eq_iff_iff, h2, decide_eq_true_iff]
    constructor
    · intro h
      obtain ⟨h3, h4⟩ := app_inj2 x.id.2 y.id.2 h
      simp only [List.cons.injEq, Lit.int.injEq, true_and, and_true] at h4
      cases x
      cases y
      simp only at h3 h4
      obtain ⟨r1, r2, r3⟩ := h4
      have h5 := Subtype.ext h3
      subst r1
      subst r2
      subst r3
      rw [NodeV.mk.injEq]
      exact ⟨h5, rfl, rfl, rfl⟩
    · intro h; rw [h]
  rw [h1, e]
  rfl
theorem guard_Node : Try.prog.eqGuardType Try.prog.depth 37 = false := by kernel_rfl
set_option maxRecDepth 100000 in
set_option maxHeartbeats 2000000 in
theorem same_any {w : World} (v u : Value) (L M : List NodeV) (hv : ListAt nodeE w v L) (hu : ListAt nodeE w u M) (hl : L.length < 1000000) (hm : M.length < 1000000) (hsl : ∀ n ∈ L, NSm n) (hsm : ∀ n ∈ M, NSm n) :
    Calls Try.prog 19 #[v, u] w fun e w' => e = .returned (.bool (decide (L = M))) ∧ Below w.heap.size w w' := by
  obtain ⟨va, vc, rfl⟩ := hv.form
  obtain ⟨ua, uc, rfl⟩ := hu.form
  by_cases hlm : L.length = M.length
  case neg =>
    have hb : ((L.length : Int) != (M.length : Int)) = true := by simp; omega
    have HF := Lib.hid (show ¬ L = M from fun e => hlm (by rw [e]))
    clear hlm
    go_enter Try.func19, Try.ntmps19
    go_wp2
    rw [decide_eq_false HF.out]
    exact bodyPost_ret (v := .bool false) (by simp [results, Try.results19, go_sem]) rfl ⟨rfl, Below.refl _ _⟩
  obtain ⟨N, hN⟩ : ∃ N, L.length = N := ⟨_, rfl⟩
  have hNM : M.length = N := by rw [← hN, hlm]
  rw [hN] at hv hl ⊢
  rw [hNM] at hu hm ⊢
  have HV := Lib.hid hv
  have HU := Lib.hid hu
  have HN := Lib.hid hN
  have HM := Lib.hid hNM
  have HSL := Lib.hid hsl
  have HSM := Lib.hid hsm
  clear hv hu hN hNM hlm hsl hsm hm
  go_enter Try.func19, Try.ntmps19
  go_wp2_with fail
  have HB0 := Lib.hid (Below.refl w.heap.size w)
  go_loopw [5] (fun iv wr => ∃ i : Nat, i ≤ N ∧ iv = .int .i64 (i : Int) ∧ Hid (L.take i = M.take i) ∧ Hid (Below w.heap.size w wr)) (fun iv _ => N - (intOf iv).toNat)
  case atStart => exact ⟨0, Nat.zero_le _, rfl, Lib.hid rfl, HB0⟩
  case round =>
    obtain ⟨i, hi, rfl, HE, HB⟩ := hrel
    obtain ⟨W0, rfl⟩ : ∃ W0, W0 = wr := ⟨_, rfl⟩
    clear HB0
    by_cases hlt : i < N
    case neg =>
      obtain rfl : i = N := by omega
      have HF := Lib.hid (show L = M by
        have h1 := HE.out
        rw [List.take_of_length_le (by rw [HN.out]; exact Nat.le_refl _), List.take_of_length_le (by rw [HM.out]; exact Nat.le_refl _)] at h1
        exact h1)
      go_wp2_with fail
      rw [decide_eq_true HF.out]
      exact bodyPost_ret (v := .bool true) (by simp [results, Try.results19, go_sem]) rfl ⟨rfl, HB.out⟩
    have hiL : i < L.length := by rw [HN.out]; exact hlt
    have hiM : i < M.length := by rw [HM.out]; exact hlt
    obtain ⟨g1, o1, e1, hg1, hr1⟩ := (HV.out.below HB.out).get hiL
    obtain ⟨g2, o2, e2, hg2, hr2⟩ := (HU.out.below HB.out).get hiM
    subst e1
    subst e2
    obtain ⟨x, hx⟩ : ∃ x, L[i] = x := ⟨_, rfl⟩
    obtain ⟨y, hy⟩ : ∃ y, M[i] = y := ⟨_, rfl⟩
    have hsx : NSm x := hx ▸ HSL.out _ (List.getElem_mem hiL)
    have hsy : NSm y := hy ▸ HSM.out _ (List.getElem_mem hiM)
    rw [hx] at hr1
    rw [hy] at hr2
    have HX := Lib.hid hx
    have HY := Lib.hid hy
    have HSX := Lib.hid hsx
    have HSY := Lib.hid hsy
    have HR1 := Lib.hid (show ∀ w', Below W0.heap.size W0 w' → w'.rangeAt g1 (o1 + i * 35) x.cells from fun w' hw' => range_below hr1 hg1 hw')
    have HR2 := Lib.hid (show ∀ w', Below W0.heap.size W0 w' → w'.rangeAt g2 (o2 + i * 35) y.cells from fun w' hw' => range_below hr2 hg2 hw')
    clear hr1 hr2 hx hy hsx hsy hg1 hg2
    go_wp2_with fail
    refine wp_region_seq 8 (by kernel_rfl) (by kernel_rfl) ?_
    simp only [List.take_succ_cons, List.take_zero, List.drop_succ_cons, List.drop_zero]
    obtain ⟨wd, hwd⟩ : ∃ wd, W0.drew = wd := ⟨_, rfl⟩
    have hd_wd : Below W0.heap.size W0 wd ∧ wd.heap.size = W0.heap.size := hwd ▸ ⟨(Below.refl _ _).drew, rfl⟩
    rw [hwd]
    clear hwd
    have HR1d := Lib.hid (HR1.out wd hd_wd.1)
    have HR2d := Lib.hid (HR2.out wd hd_wd.1)
    have HBd := Lib.hid (HB.out.trans (hd_wd.1.mono HB.out.size))
    clear hd_wd
    go_wp2_with (with_reducible refine wpList_load_mid rfl 37 (.tmp 19) rfl g1 (o1 + i * 35) rfl (x.cells) _ HR1d.out Try.underlying37 rfl (sizeNode x) ?_; refine Stop.on ?_)
    refine Stop.go ?_
    try simp only [Act.put, List.setIfInBounds_toArray, List.set_cons_zero, List.set_cons_succ]
    go_wp2_with (with_reducible refine wpList_load_mid rfl 37 (.tmp 23) rfl g2 (o2 + i * 35) rfl (y.cells) _ HR2d.out Try.underlying37 rfl (sizeNode y) ?_; refine Stop.on ?_)
    refine Stop.go ?_
    try simp only [Act.put, List.setIfInBounds_toArray, List.set_cons_zero, List.set_cons_succ]
    refine HeadPost.mk ?_
    refine wpList_runI rfl (some 25) rfl (.bool (!decide (x = y))) _ (op_neq 37 (.tmp 20) (.tmp 24) 37 rfl rfl rfl guard_Node (neq_Node HSX.out HSY.out _)) ?_
    try simp only [Act.put, List.setIfInBounds_toArray, List.set_cons_zero, List.set_cons_succ]
    by_cases hxy : x = y
    case neg =>
      rw [decide_eq_false hxy]
      have HF := Lib.hid (show ¬ L = M from fun e => hxy (by rw [← HX.out, ← HY.out]; simp only [e]))
      clear hxy
      go_wp2_with fail
      rw [decide_eq_false HF.out]
      exact bodyPost_ret (v := .bool false) (by simp [results, Try.results19, go_sem]) rfl ⟨rfl, HBd.out⟩
    rw [decide_eq_true hxy]
    have HE1 := Lib.hid (show L.take (i + 1) = M.take (i + 1) by rw [List.take_succ_eq_append_getElem hiL, List.take_succ_eq_append_getElem hiM, HE.out, HX.out, HY.out, hxy])
    clear hxy
    go_wp2_with fail
    go_roundw
    case rel => exact ⟨i + 1, by omega, by go_num, HE1, HBd⟩
    case measure => simp [intOf]; omega
end Go.Proofs.Ythfinofmbnfijaa
