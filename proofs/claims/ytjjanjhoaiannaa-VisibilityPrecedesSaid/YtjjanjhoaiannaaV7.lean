/- Visibility: the law's own searches. -/
import Derived.Test.YtjjanjhoaiannaaV6
import Derived.Test.YtjjanjhoaiannaaRegion6
import Derived.Deep.RegionHeld3
namespace Go.Proofs.Ytjjanjhoaiannaa
open Go.RowKit
set_option linter.unusedVariables false
set_option linter.unusedSimpArgs false

theorem vop_neq {P : Program} {w : World} {ρ : Operand → Value} {o : Oper} {xs ys : Array Value} {b : Bool} (t : TypeId) (x y : Operand) (u : TypeId) (ho : o.op = .binOp .neq t x y u) (hx : ρ x = .agg xs) (hy : ρ y = .agg ys) (hg : P.eqGuardType P.depth t = false)
    (h : (binOp .neq t (.agg xs) (.agg ys)).run P w = .ok (.bool b) w) : (execOp ρ o).run P w = .ok (.value (.bool b)) w := by
  unfold execOp
  simp only [ho, hx, hy, Sem.run_bind, run_eqGuard_agg w .neq t x y xs ys hg, h, Result.andThen_ok]
  rfl
theorem vop_eql {P : Program} {w : World} {ρ : Operand → Value} {o : Oper} {xs ys : Array Value} {b : Bool} (t : TypeId) (x y : Operand) (u : TypeId) (ho : o.op = .binOp .eql t x y u) (hx : ρ x = .agg xs) (hy : ρ y = .agg ys) (hg : P.eqGuardType P.depth t = false)
    (h : (binOp .eql t (.agg xs) (.agg ys)).run P w = .ok (.bool b) w) : (execOp ρ o).run P w = .ok (.value (.bool b)) w := by
  unfold execOp
  simp only [ho, hx, hy, Sem.run_bind, run_eqGuard_agg w .eql t x y xs ys hg, h, Result.andThen_ok]
  rfl
theorem id_lt {w : World} {g off : Nat} {q : IdB} (h : w.rangeAt g off (bvs q.1)) : g < w.heap.size := by
  have hl : 0 < (bvs q.1).length := by rw [bvs_length, q.2]; decide
  have h1 := h 0 _ (List.getElem?_eq_getElem hl)
  apply Decidable.byContradiction
  intro hn
  have h2 : w.heap[g]? = none := Array.getElem?_eq_none (by omega)
  simp [World.cell?, h2] at h1
/-- The place of the first row with an identity, or -1. -/
def rowIx (L : List RowV) (a : IdB) : Int := match L.findIdx? (fun r => r.id == a) with | some i => (i : Int) | none => -1
theorem rowIx_no {L : List RowV} {a : IdB} (h : ∀ x ∈ L, x.id ≠ a) : rowIx L a = -1 := by
  unfold rowIx
  rw [List.findIdx?_eq_none_iff.2 (fun x hx => beq_eq_false_iff_ne.2 (h x hx))]
theorem rowIx_at {L : List RowV} {a : IdB} {i : Nat} (hi : i < L.length) (h : ∀ x ∈ L.take i, x.id ≠ a) (he : L[i].id = a) : rowIx L a = (i : Int) := by
  unfold rowIx
  have : L.findIdx? (fun r => r.id == a) = some i := by
    rw [List.findIdx?_eq_some_iff_getElem]
    refine ⟨hi, beq_iff_eq.2 he, fun j hj => ?_⟩
    have := h L[j] (List.mem_iff_getElem.2 ⟨j, by rw [List.length_take]; omega, by rw [List.getElem_take]⟩)
    intro h2
    exact this (beq_iff_eq.1 h2)
  rw [this]

set_option maxRecDepth 100000 in
set_option maxHeartbeats 2000000 in
theorem has_any {w : World} (v : Value) (L : List IdB) (a : IdB) (hv : ListAt idE w v L) (hl : L.length < 1000000000) :
    Calls Try.prog 15 #[v, .agg (bvs a.1).toArray] w fun e w' => e = .returned (.bool (decide (a ∈ L))) ∧ Below w.heap.size w w' := by
  obtain ⟨va, vc, rfl⟩ := hv.form
  obtain ⟨N, hN⟩ : ∃ N, L.length = N := ⟨_, rfl⟩
  obtain ⟨w1, hw1⟩ : ∃ w1, w.alloc (.cells (bvs a.1).toArray 31) = w1 := ⟨_, rfl⟩
  have hb1 : Below w.heap.size w w1 := hw1 ▸ (Below.refl _ _).alloc (Nat.le_refl _) _
  have hx1 : w1.heap[w.heap.size]? = some (.cells (bvs a.1).toArray 31 (0, 0)) := by rw [← hw1]; exact heap_alloc_new _ _
  rw [hN] at hv hl ⊢
  have HV := Lib.hid hv
  have HN := Lib.hid hN
  have HB01 := Lib.hid hb1
  have HX1 := Lib.hid hx1
  clear hv hN hb1 hx1
  go_enter Try.func15, Try.ntmps15
  go_wp2_with fail
  clear hw1
  go_loopw [5] (fun iv wr => ∃ i : Nat, i ≤ N ∧ iv = .int .i64 (i : Int) ∧ a ∉ L.take i ∧ Below w1.heap.size w1 wr) (fun iv _ => N - (intOf iv).toNat)
  case atStart => exact ⟨0, Nat.zero_le _, rfl, by simp, Below.refl _ _⟩
  case round =>
    obtain ⟨i, hi, rfl, hno, hB⟩ := hrel
    have HNO := Lib.hid hno
    have HB := Lib.hid hB
    clear hno hB
    by_cases hlt : i < N
    · have hiI : (i : Int) < (N : Int) := by omega
      have hiI0 : (0 : Int) ≤ (i : Int) := by omega
      have hlt' : i < L.length := by rw [HN.out]; exact hlt
      obtain ⟨g, off, rfl, hg, hr⟩ := (HV.out.below (HB01.out.trans (HB.out.mono HB01.out.size))).get (i := i) hlt'
      have hr : wr.rangeAt g (off + i * 32) (bvs L[i].1) := hr
      have hsn : (L.take (i + 1)) = L.take i ++ [L[i]] := List.take_succ_eq_append_getElem hlt'
      have hmem : L[i] ∈ L := List.getElem_mem hlt'
      obtain ⟨q, hq⟩ : ∃ q, L[i] = q := ⟨_, rfl⟩
      rw [hq] at hr
      have hcell : ∀ w', Below wr.heap.size wr w' → w'.rangeAt g (off + i * 32) (bvs q.1) ∧ w'.rangeAt w.heap.size 0 (bvs a.1) := fun w' hw' =>
        ⟨range_below hr (id_lt hr) hw', range_block ((hw'.block _ (Nat.lt_of_lt_of_le (Array.getElem?_eq_some_iff.1 HX1.out).1 HB.out.size)).trans ((HB.out.block _ (Array.getElem?_eq_some_iff.1 HX1.out).1).trans HX1.out))⟩
      have HCELL := Lib.hid hcell
      have HSQ := Lib.hid (sizeId q)
      have HSA := Lib.hid (sizeId a)
      have HSN := Lib.hid hsn
      have HMEM := Lib.hid hmem
      have HQ := Lib.hid hq
      clear hr hcell hsn hmem hq
      go_wp2_with fail
      by_cases heq : q = a
      · have HEQ := Lib.hid (fun w' => (eql_Id q a w').trans (by rw [decide_eq_true heq]))
        have HE := Lib.hid heq
        clear heq
        refine wp_region_noPanic ?_
        refine wp_region_H (Below wr.heap.size wr) (by kernel_rfl) ?_
        have hS0 : (Below wr.heap.size wr) wr.drew := (Below.refl _ _).drew
        obtain ⟨wd, hwd⟩ : ∃ wd, wr.drew = wd := ⟨_, rfl⟩
        rw [hwd] at hS0 ⊢
        clear hwd
        refine wpAnyH_takeI (i := 0) (v := ?v1) rfl (by kernel_rfl) (by kernel_rfl) (by kernel_rfl) (fun _ _ _ h => h) (yieldsIf_run rfl (fun w' hw' => ?y1)) hS0 ?_
        case y1 => first | (go_simp; rfl) | (go_simp; done) | rfl
        simp only [Act.put, List.setIfInBounds_toArray, List.set_cons_zero, List.set_cons_succ]
        refine wpAnyH_takeI (i := 1) (v := ?v2) rfl (by kernel_rfl) (by kernel_rfl) (by kernel_rfl) (fun _ _ _ h => h) (yieldsIf_run rfl (fun w' hw' => ?y2)) hS0 ?_
        case y2 => first | (go_simp; rfl) | (go_simp; done) | rfl
        simp only [Act.put, List.setIfInBounds_toArray, List.set_cons_zero, List.set_cons_succ]
        refine wpAnyH_takeI (i := 2) (v := ?v3) rfl (by kernel_rfl) (by kernel_rfl) (by kernel_rfl) (fun _ _ _ h => h) (yieldsIf_run rfl (fun w' hw' => ?y3)) hS0 ?_
        case y3 => first | (go_simp; rfl) | (go_simp; done) | rfl
        simp only [Act.put, List.setIfInBounds_toArray, List.set_cons_zero, List.set_cons_succ]
        refine wpAnyH_takeI (i := 3) (v := .agg (bvs q.1).toArray) rfl (by kernel_rfl) (by kernel_rfl) (by kernel_rfl) (fun _ _ _ h => h) (yieldsIf_load_mid rfl 31 (.tmp 14) rfl g (off + i * 32) rfl (bvs q.1) _ (fun w' hw' => (HCELL.out w' hw').1) Try.underlying31 rfl HSQ.out) hS0 ?_
        simp only [Act.put, List.setIfInBounds_toArray, List.set_cons_zero, List.set_cons_succ]
        refine wpAnyH_takeI (i := 4) (v := .agg (bvs a.1).toArray) rfl (by kernel_rfl) (by kernel_rfl) (by kernel_rfl) (fun _ _ _ h => h) (yieldsIf_load_mid rfl 31 (.tmp 3) rfl w.heap.size (0) rfl (bvs a.1) _ (fun w' hw' => (HCELL.out w' hw').2) Try.underlying31 rfl HSA.out) hS0 ?_
        simp only [Act.put, List.setIfInBounds_toArray, List.set_cons_zero, List.set_cons_succ]
        refine wpAnyH_takeI (i := 5) (v := .bool true) rfl (by kernel_rfl) (by kernel_rfl) (by kernel_rfl) (fun _ _ _ h => h) (yieldsIf_run rfl (fun w' hw' => ?ye1)) hS0 ?_
        case ye1 => exact vop_eql 31 (.tmp 15) (.tmp 16) 31 rfl rfl rfl guard_Id (HEQ.out w')
        simp only [Act.put, List.setIfInBounds_toArray, List.set_cons_zero, List.set_cons_succ]
        refine wpAnyH_done (by kernel_rfl) ?_ _
        refine NoPanic.normal ?_
        go_wp2_with fail
        exact bodyPost_ret (v := .bool true) (by simp [results, Try.results15, go_sem]) rfl ⟨by rw [decide_eq_true (by rw [← HE.out, ← HQ.out]; exact HMEM.out)], HB01.out.trans ((HB.out.trans (hS0.mono HB.out.size)).mono HB01.out.size)⟩
      · have HEQ := Lib.hid (fun w' => (eql_Id q a w').trans (by rw [decide_eq_false heq]))
        have HE := Lib.hid heq
        clear heq
        refine wp_region_noPanic ?_
        refine wp_region_H (Below wr.heap.size wr) (by kernel_rfl) ?_
        have hS0 : (Below wr.heap.size wr) wr.drew := (Below.refl _ _).drew
        obtain ⟨wd, hwd⟩ : ∃ wd, wr.drew = wd := ⟨_, rfl⟩
        rw [hwd] at hS0 ⊢
        clear hwd
        refine wpAnyH_takeI (i := 0) (v := ?v4) rfl (by kernel_rfl) (by kernel_rfl) (by kernel_rfl) (fun _ _ _ h => h) (yieldsIf_run rfl (fun w' hw' => ?y4)) hS0 ?_
        case y4 => first | (go_simp; rfl) | (go_simp; done) | rfl
        simp only [Act.put, List.setIfInBounds_toArray, List.set_cons_zero, List.set_cons_succ]
        refine wpAnyH_takeI (i := 1) (v := ?v5) rfl (by kernel_rfl) (by kernel_rfl) (by kernel_rfl) (fun _ _ _ h => h) (yieldsIf_run rfl (fun w' hw' => ?y5)) hS0 ?_
        case y5 => first | (go_simp; rfl) | (go_simp; done) | rfl
        simp only [Act.put, List.setIfInBounds_toArray, List.set_cons_zero, List.set_cons_succ]
        refine wpAnyH_takeI (i := 2) (v := ?v6) rfl (by kernel_rfl) (by kernel_rfl) (by kernel_rfl) (fun _ _ _ h => h) (yieldsIf_run rfl (fun w' hw' => ?y6)) hS0 ?_
        case y6 => first | (go_simp; rfl) | (go_simp; done) | rfl
        simp only [Act.put, List.setIfInBounds_toArray, List.set_cons_zero, List.set_cons_succ]
        refine wpAnyH_takeI (i := 3) (v := .agg (bvs q.1).toArray) rfl (by kernel_rfl) (by kernel_rfl) (by kernel_rfl) (fun _ _ _ h => h) (yieldsIf_load_mid rfl 31 (.tmp 14) rfl g (off + i * 32) rfl (bvs q.1) _ (fun w' hw' => (HCELL.out w' hw').1) Try.underlying31 rfl HSQ.out) hS0 ?_
        simp only [Act.put, List.setIfInBounds_toArray, List.set_cons_zero, List.set_cons_succ]
        refine wpAnyH_takeI (i := 4) (v := .agg (bvs a.1).toArray) rfl (by kernel_rfl) (by kernel_rfl) (by kernel_rfl) (fun _ _ _ h => h) (yieldsIf_load_mid rfl 31 (.tmp 3) rfl w.heap.size (0) rfl (bvs a.1) _ (fun w' hw' => (HCELL.out w' hw').2) Try.underlying31 rfl HSA.out) hS0 ?_
        simp only [Act.put, List.setIfInBounds_toArray, List.set_cons_zero, List.set_cons_succ]
        refine wpAnyH_takeI (i := 5) (v := .bool false) rfl (by kernel_rfl) (by kernel_rfl) (by kernel_rfl) (fun _ _ _ h => h) (yieldsIf_run rfl (fun w' hw' => ?ye2)) hS0 ?_
        case ye2 => exact vop_eql 31 (.tmp 15) (.tmp 16) 31 rfl rfl rfl guard_Id (HEQ.out w')
        simp only [Act.put, List.setIfInBounds_toArray, List.set_cons_zero, List.set_cons_succ]
        refine wpAnyH_done (by kernel_rfl) ?_ _
        refine NoPanic.normal ?_
        go_wp2_with fail
        go_roundw
        case rel => exact ⟨i + 1, by omega, by go_num, (by rw [HSN.out, List.mem_append, List.mem_singleton, HQ.out]; exact fun h => h.elim HNO.out (fun h => HE.out h.symm)), HB.out.trans (hS0.mono HB.out.size)⟩
        case measure => simp [intOf]; omega
    · obtain rfl : N = i := by omega
      have he : L.take N = L := List.take_of_length_le (by rw [HN.out]; omega)
      have hno := HNO.out
      rw [he] at hno
      have HNO2 := Lib.hid hno
      clear hno he
      go_wp2_with fail
      exact bodyPost_ret (v := .bool false) (by simp [results, Try.results15, go_sem]) rfl ⟨by rw [decide_eq_false HNO2.out], HB01.out.trans (HB.out.mono HB01.out.size)⟩

set_option maxRecDepth 100000 in
set_option maxHeartbeats 2000000 in
theorem row_any {w : World} (v : Value) (L : List RowV) (a : IdB) (hv : RowsAt w v L) (hl : L.length < 1000000000) :
    Calls Try.prog 16 #[v, .agg (bvs a.1).toArray] w fun e w' => e = .returned (.int .i64 (rowIx L a)) ∧ Below w.heap.size w w' := by
  obtain ⟨va, vc, rfl⟩ := hv.l.form
  obtain ⟨N, hN⟩ : ∃ N, L.length = N := ⟨_, rfl⟩
  obtain ⟨w1, hw1⟩ : ∃ w1, w.alloc (.cells (bvs a.1).toArray 31) = w1 := ⟨_, rfl⟩
  have hb1 : Below w.heap.size w w1 := hw1 ▸ (Below.refl _ _).alloc (Nat.le_refl _) _
  have hx1 : w1.heap[w.heap.size]? = some (.cells (bvs a.1).toArray 31 (0, 0)) := by rw [← hw1]; exact heap_alloc_new _ _
  rw [hN] at hv hl ⊢
  have HV := Lib.hid hv
  have HN := Lib.hid hN
  have HB01 := Lib.hid hb1
  have HX1 := Lib.hid hx1
  clear hv hN hb1 hx1
  go_enter Try.func16, Try.ntmps16
  go_wp2_with fail
  clear hw1
  go_loopw [5] (fun iv wr => ∃ i : Nat, i ≤ N ∧ iv = .int .i64 (i : Int) ∧ (∀ x ∈ L.take i, x.id ≠ a) ∧ Below w1.heap.size w1 wr) (fun iv _ => N - (intOf iv).toNat)
  case atStart => exact ⟨0, Nat.zero_le _, rfl, by simp, Below.refl _ _⟩
  case round =>
    obtain ⟨i, hi, rfl, hno, hB⟩ := hrel
    have HNO := Lib.hid hno
    have HB := Lib.hid hB
    clear hno hB
    by_cases hlt : i < N
    · have hiI : (i : Int) < (N : Int) := by omega
      have hiI0 : (0 : Int) ≤ (i : Int) := by omega
      have hlt' : i < L.length := by rw [HN.out]; exact hlt
      obtain ⟨g, off, n9, c9, e9, hr, _⟩ := row_at (HV.out.below (HB01.out.trans (HB.out.mono HB01.out.size))) hlt'
      cases e9
      have hr : wr.rangeAt g (off + i * 83) (bvs L[i].id.1) := row_id hr
      have hsn : (L.take (i + 1)) = L.take i ++ [L[i]] := List.take_succ_eq_append_getElem hlt'
      have hmem : L[i] ∈ L := List.getElem_mem hlt'
      obtain ⟨q, hq⟩ : ∃ q, L[i].id = q := ⟨_, rfl⟩
      rw [hq] at hr
      have hcell : ∀ w', Below wr.heap.size wr w' → w'.rangeAt g (off + i * 83) (bvs q.1) ∧ w'.rangeAt w.heap.size 0 (bvs a.1) := fun w' hw' =>
        ⟨range_below hr (id_lt hr) hw', range_block ((hw'.block _ (Nat.lt_of_lt_of_le (Array.getElem?_eq_some_iff.1 HX1.out).1 HB.out.size)).trans ((HB.out.block _ (Array.getElem?_eq_some_iff.1 HX1.out).1).trans HX1.out))⟩
      have HCELL := Lib.hid hcell
      have HSQ := Lib.hid (sizeId q)
      have HSA := Lib.hid (sizeId a)
      have HSN := Lib.hid hsn
      have HMEM := Lib.hid hmem
      have HQ := Lib.hid hq
      clear hr hcell hsn hmem hq
      go_wp2_with fail
      by_cases heq : q = a
      · have HEQ := Lib.hid (fun w' => (eql_Id q a w').trans (by rw [decide_eq_true heq]))
        have HE := Lib.hid heq
        clear heq
        refine wp_region_noPanic ?_
        refine wp_region_H (Below wr.heap.size wr) (by kernel_rfl) ?_
        have hS0 : (Below wr.heap.size wr) wr.drew := (Below.refl _ _).drew
        obtain ⟨wd, hwd⟩ : ∃ wd, wr.drew = wd := ⟨_, rfl⟩
        rw [hwd] at hS0 ⊢
        clear hwd
        refine wpAnyH_takeI (i := 0) (v := ?v7) rfl (by kernel_rfl) (by kernel_rfl) (by kernel_rfl) (fun _ _ _ h => h) (yieldsIf_run rfl (fun w' hw' => ?y7)) hS0 ?_
        case y7 => first | (go_simp; rfl) | (go_simp; done) | rfl
        simp only [Act.put, List.setIfInBounds_toArray, List.set_cons_zero, List.set_cons_succ]
        refine wpAnyH_takeI (i := 1) (v := ?v8) rfl (by kernel_rfl) (by kernel_rfl) (by kernel_rfl) (fun _ _ _ h => h) (yieldsIf_run rfl (fun w' hw' => ?y8)) hS0 ?_
        case y8 => first | (go_simp; rfl) | (go_simp; done) | rfl
        simp only [Act.put, List.setIfInBounds_toArray, List.set_cons_zero, List.set_cons_succ]
        refine wpAnyH_takeI (i := 2) (v := ?v9) rfl (by kernel_rfl) (by kernel_rfl) (by kernel_rfl) (fun _ _ _ h => h) (yieldsIf_run rfl (fun w' hw' => ?y9)) hS0 ?_
        case y9 => first | (go_simp; rfl) | (go_simp; done) | rfl
        simp only [Act.put, List.setIfInBounds_toArray, List.set_cons_zero, List.set_cons_succ]
        refine wpAnyH_takeI (i := 3) (v := ?v10) rfl (by kernel_rfl) (by kernel_rfl) (by kernel_rfl) (fun _ _ _ h => h) (yieldsIf_run rfl (fun w' hw' => ?y10)) hS0 ?_
        case y10 => first | (go_simp; rfl) | (go_simp; done) | rfl
        simp only [Act.put, List.setIfInBounds_toArray, List.set_cons_zero, List.set_cons_succ]
        refine wpAnyH_takeI (i := 4) (v := .agg (bvs q.1).toArray) rfl (by kernel_rfl) (by kernel_rfl) (by kernel_rfl) (fun _ _ _ h => h) (yieldsIf_load_mid rfl 31 (.tmp 15) rfl g (off + i * 83) rfl (bvs q.1) _ (fun w' hw' => (HCELL.out w' hw').1) Try.underlying31 rfl HSQ.out) hS0 ?_
        simp only [Act.put, List.setIfInBounds_toArray, List.set_cons_zero, List.set_cons_succ]
        refine wpAnyH_takeI (i := 5) (v := .agg (bvs a.1).toArray) rfl (by kernel_rfl) (by kernel_rfl) (by kernel_rfl) (fun _ _ _ h => h) (yieldsIf_load_mid rfl 31 (.tmp 3) rfl w.heap.size (0) rfl (bvs a.1) _ (fun w' hw' => (HCELL.out w' hw').2) Try.underlying31 rfl HSA.out) hS0 ?_
        simp only [Act.put, List.setIfInBounds_toArray, List.set_cons_zero, List.set_cons_succ]
        refine wpAnyH_takeI (i := 6) (v := .bool true) rfl (by kernel_rfl) (by kernel_rfl) (by kernel_rfl) (fun _ _ _ h => h) (yieldsIf_run rfl (fun w' hw' => ?ye3)) hS0 ?_
        case ye3 => exact vop_eql 31 (.tmp 16) (.tmp 17) 31 rfl rfl rfl guard_Id (HEQ.out w')
        simp only [Act.put, List.setIfInBounds_toArray, List.set_cons_zero, List.set_cons_succ]
        refine wpAnyH_done (by kernel_rfl) ?_ _
        refine NoPanic.normal ?_
        go_wp2_with fail
        exact bodyPost_ret (v := .int .i64 (i : Int)) (by simp [results, Try.results16, go_sem]) rfl ⟨by rw [rowIx_at (by rw [HN.out]; exact hlt) HNO.out (HQ.out.trans HE.out)], HB01.out.trans ((HB.out.trans (hS0.mono HB.out.size)).mono HB01.out.size)⟩
      · have HEQ := Lib.hid (fun w' => (eql_Id q a w').trans (by rw [decide_eq_false heq]))
        have HE := Lib.hid heq
        clear heq
        refine wp_region_noPanic ?_
        refine wp_region_H (Below wr.heap.size wr) (by kernel_rfl) ?_
        have hS0 : (Below wr.heap.size wr) wr.drew := (Below.refl _ _).drew
        obtain ⟨wd, hwd⟩ : ∃ wd, wr.drew = wd := ⟨_, rfl⟩
        rw [hwd] at hS0 ⊢
        clear hwd
        refine wpAnyH_takeI (i := 0) (v := ?v11) rfl (by kernel_rfl) (by kernel_rfl) (by kernel_rfl) (fun _ _ _ h => h) (yieldsIf_run rfl (fun w' hw' => ?y11)) hS0 ?_
        case y11 => first | (go_simp; rfl) | (go_simp; done) | rfl
        simp only [Act.put, List.setIfInBounds_toArray, List.set_cons_zero, List.set_cons_succ]
        refine wpAnyH_takeI (i := 1) (v := ?v12) rfl (by kernel_rfl) (by kernel_rfl) (by kernel_rfl) (fun _ _ _ h => h) (yieldsIf_run rfl (fun w' hw' => ?y12)) hS0 ?_
        case y12 => first | (go_simp; rfl) | (go_simp; done) | rfl
        simp only [Act.put, List.setIfInBounds_toArray, List.set_cons_zero, List.set_cons_succ]
        refine wpAnyH_takeI (i := 2) (v := ?v13) rfl (by kernel_rfl) (by kernel_rfl) (by kernel_rfl) (fun _ _ _ h => h) (yieldsIf_run rfl (fun w' hw' => ?y13)) hS0 ?_
        case y13 => first | (go_simp; rfl) | (go_simp; done) | rfl
        simp only [Act.put, List.setIfInBounds_toArray, List.set_cons_zero, List.set_cons_succ]
        refine wpAnyH_takeI (i := 3) (v := ?v14) rfl (by kernel_rfl) (by kernel_rfl) (by kernel_rfl) (fun _ _ _ h => h) (yieldsIf_run rfl (fun w' hw' => ?y14)) hS0 ?_
        case y14 => first | (go_simp; rfl) | (go_simp; done) | rfl
        simp only [Act.put, List.setIfInBounds_toArray, List.set_cons_zero, List.set_cons_succ]
        refine wpAnyH_takeI (i := 4) (v := .agg (bvs q.1).toArray) rfl (by kernel_rfl) (by kernel_rfl) (by kernel_rfl) (fun _ _ _ h => h) (yieldsIf_load_mid rfl 31 (.tmp 15) rfl g (off + i * 83) rfl (bvs q.1) _ (fun w' hw' => (HCELL.out w' hw').1) Try.underlying31 rfl HSQ.out) hS0 ?_
        simp only [Act.put, List.setIfInBounds_toArray, List.set_cons_zero, List.set_cons_succ]
        refine wpAnyH_takeI (i := 5) (v := .agg (bvs a.1).toArray) rfl (by kernel_rfl) (by kernel_rfl) (by kernel_rfl) (fun _ _ _ h => h) (yieldsIf_load_mid rfl 31 (.tmp 3) rfl w.heap.size (0) rfl (bvs a.1) _ (fun w' hw' => (HCELL.out w' hw').2) Try.underlying31 rfl HSA.out) hS0 ?_
        simp only [Act.put, List.setIfInBounds_toArray, List.set_cons_zero, List.set_cons_succ]
        refine wpAnyH_takeI (i := 6) (v := .bool false) rfl (by kernel_rfl) (by kernel_rfl) (by kernel_rfl) (fun _ _ _ h => h) (yieldsIf_run rfl (fun w' hw' => ?ye4)) hS0 ?_
        case ye4 => exact vop_eql 31 (.tmp 16) (.tmp 17) 31 rfl rfl rfl guard_Id (HEQ.out w')
        simp only [Act.put, List.setIfInBounds_toArray, List.set_cons_zero, List.set_cons_succ]
        refine wpAnyH_done (by kernel_rfl) ?_ _
        refine NoPanic.normal ?_
        go_wp2_with fail
        go_roundw
        case rel => exact ⟨i + 1, by omega, by go_num, (by rw [HSN.out]; intro x hx; rcases List.mem_append.1 hx with h | h; exact HNO.out x h; rw [List.mem_singleton.1 h, HQ.out]; exact HE.out), HB.out.trans (hS0.mono HB.out.size)⟩
        case measure => simp [intOf]; omega
    · obtain rfl : N = i := by omega
      have he : L.take N = L := List.take_of_length_le (by rw [HN.out]; omega)
      have hno := HNO.out
      rw [he] at hno
      have HNO2 := Lib.hid hno
      clear hno he
      go_wp2_with fail
      exact bodyPost_ret (v := .int .i64 (-1)) (by simp [results, Try.results16, go_sem]) rfl ⟨by rw [rowIx_no HNO2.out], HB01.out.trans (HB.out.mono HB01.out.size)⟩

end Go.Proofs.Ytjjanjhoaiannaa
