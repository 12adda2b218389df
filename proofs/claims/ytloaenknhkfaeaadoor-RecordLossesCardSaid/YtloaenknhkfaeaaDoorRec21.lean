/- Records: what the laws convert and compare. -/
import Derived.Test.YtloaenknhkfaeaaDoorRec20
import Derived.Deep.QuietTactic
import Derived.BigQuiet
namespace Go.Proofs.YtloaenknhkfaeaaDoor
open Go.RowKit
set_option linter.unusedVariables false
set_option linter.unusedSimpArgs false

theorem BytesN.take {w : World} {F : Nat → Prop} {a : Option Addr} {n cap : Nat} {l : List UInt8} (h : BytesN w F (.slice a n cap) l) (k : Nat) (hk : k ≤ n) : BytesN w F (.slice a k cap) (l.take k) := by
  obtain ⟨⟨a', c', e, hc, hr⟩, hnil⟩ := h
  cases e
  have hl : (l.take k).length = k := by simp; omega
  refine ⟨⟨a, cap, by rw [hl], by omega, fun hne => ?_⟩, fun k' c e => hnil _ c (by cases e; rfl)⟩
  obtain ⟨g, off, rfl, hF, hg, hr⟩ := hr (by intro e; rw [e] at hne; simp at hne)
  refine ⟨g, off, rfl, hF, hg, fun j u hu => hr j u ?_⟩
  rw [bvs_getElem?, List.getElem?_take] at hu
  split at hu
  · rw [bvs_getElem?]; exact hu
  · cases hu
/-- Bytes behind a row of bytes, as one operation. -/
theorem wp_appN {o : Oper} {a : Act} {Q : Exit → Act → World → Prop} {K : Act → World → Prop} {w : World} (s x : Operand) (ho : o.op = .call { callee := .builtin .append, args := #[s, x], argTypes := #[22, 22] })
    {B n m : Nat} {v xv : Value} {F : Nat → Prop} {xs ys : List UInt8} (hs : a.eval s = v) (hown : w.ownsRow B 5 1 v n (bvs xs)) (hx : a.eval x = xv)
    (hb : BytesN w F xv ys) (hm : ys.length = m) (hn : n + m < 1000000000000) (hB : B ≤ w.heap.size)
    (h : ∀ a' cap' w', w'.ownsRow B 5 1 (.slice a' (n + m) cap') (n + m) (bvs (xs ++ ys)) → w.grownBy w' v.ownBlock → K (a.put o.dst (.slice a' (n + m) cap')) w') :
    o.wp Tryd.prog a w K Q := by
  subst hm
  obtain ⟨i0, hi, hz0, hz1, hz2⟩ := info_parts infoByte
  obtain ⟨hb, hnil⟩ := hb
  obtain ⟨xa, xc, rfl, hxc, hxr⟩ := hb
  cases xa with
  | none =>
    have hc0 := hnil _ _ rfl
    subst hc0
    have hy : ys = [] := List.eq_nil_of_length_eq_zero (by omega)
    subst hy
    obtain ⟨va, vc, rfl⟩ := ownsRow_form hown
    have hrun := run_append_owned_none (P := Tryd.prog) (w := w) B 22 o.type 5 i0 1 Tryd.underlying22 hi _ n (bvs xs) hown
    have := h va vc w (by simpa using hown) ⟨rfl, rfl, rfl, Nat.le_refl _, fun _ _ _ => rfl⟩
    unfold Oper.wp execOp
    simp only [ho, resolve, invoke, builtin, Sem.run_bind, Sem.run_pure, Result.andThen_ok, List.map_toArray, List.map_cons, List.map_nil, hs, hx]
    have hx0 : Value.slice none ([] : List UInt8).length 0 = .slice none 0 0 := rfl
    rw [hx0, hrun]
    exact this
  | some ad =>
    refine wp_append_own _ s x 22 ho B 5 i0 _ 1 1 Tryd.underlying22 hi hz0 hz1 hz2 rfl (by decide) v n (bvs xs) hs hown ad ys.length xc (bvs ys) hx (by simp) ?_ bvs_oneCell (by unfold maxLen; omega) (by omega) hB ?_
    · intro j u hu
      obtain ⟨g, off, e, _, _, hr⟩ := hxr (by intro e; rw [e] at hu; simp [bvs] at hu)
      cases e
      have hadd : (⟨g, off, none⟩ : Addr).add j = ⟨g, off + j, none⟩ := by unfold Addr.add; split <;> simp_all
      rw [hadd]
      exact hr j u hu
    · intro v' w' hown' hg _
      rw [← bvs_append] at hown'
      obtain ⟨a', cap', rfl⟩ := ownsRow_form hown'
      exact h a' cap' w' hown' hg

set_option maxHeartbeats 1000000 in
theorem to_any (x0 x1 x2 : Int) (a : Option Addr) (n c : Nat) (w : World) : Calls Tryd.prog 30 #[.agg #[.int .i64 x0, .int .i64 x1, .int .i64 x2, .slice a n c]] w fun e w' => e = .returned (.agg #[.int .i64 x0, .int .i64 x1, .int .i64 x2, .slice a n c]) ∧ Below w.heap.size w w' := by
  go_enter Tryd.func30, Tryd.ntmps30
  go_wp2_with fail
  refine bodyPost_ret (v := .agg #[.int .i64 x0, .int .i64 x1, .int .i64 x2, .slice a n c]) (by simp [results, Tryd.results30, go_sem]) rfl ⟨rfl, ?_⟩
  exact ((Below.refl _ w).alloc (Nat.le_refl _) _).alloc (by simp) _

set_option maxHeartbeats 1000000 in
theorem back_any (x0 x1 x2 x3 x4 : Int) (a : Option Addr) (n c : Nat) (w : World) : Calls Tryd.prog 16 #[.agg #[.int .i64 x0, .int .i64 x1, .int .i64 x2, .int .i64 x3, .int .i64 x4, .slice a n c]] w fun e w' => e = .returned (.agg #[.int .i64 x0, .int .i64 x1, .int .i64 x2, .int .i64 x3, .int .i64 x4, .slice a n c]) ∧ Below w.heap.size w w' := by
  go_enter Tryd.func16, Tryd.ntmps16
  go_wp2_with fail
  refine bodyPost_ret (v := .agg #[.int .i64 x0, .int .i64 x1, .int .i64 x2, .int .i64 x3, .int .i64 x4, .slice a n c]) (by simp [results, Tryd.results16, go_sem]) rfl ⟨rfl, ?_⟩
  exact ((Below.refl _ w).alloc (Nat.le_refl _) _).alloc (by simp) _

set_option maxRecDepth 100000 in
set_option maxHeartbeats 2000000 in
theorem of_any {w : World} {F : Nat → Prop} (x0 x1 x2 : Int) (a : Option Addr) (n c : Nat) (l : List UInt8) (hv : BytesN w F (.slice a n c) l) (hl : l.length = n) (hn : n ≤ 9223372036854775807) :
    Calls Tryd.prog 27 #[.agg #[.int .i64 x0, .int .i64 x1, .int .i64 x2, .slice a n c]] w fun e w' => ∃ a' m c', e = .returned (.agg #[.int .i64 x0, .int .i64 x1, .int .i64 x2, .slice a' m c']) ∧ m = min l.length 2000 ∧ w'.ownsRow w.heap.size 5 1 (.slice a' m c') m (bvs (l.take m)) ∧ Below w.heap.size w w' := by
  obtain ⟨w1, hw1⟩ : ∃ w1, (w.alloc (.cells #[.int .i64 x0, .int .i64 x1, .int .i64 x2, .slice a n c] 49)).alloc (.cells #[.int .i64 0, .int .i64 0, .int .i64 0, .slice none 0 0] 50) = w1 := ⟨_, rfl⟩
  have hb1 : Below w.heap.size w w1 := hw1 ▸ ((Below.refl _ w).alloc (Nat.le_refl _) _).alloc (by simp) _
  have hx1 : w1.heap[w.heap.size]? = some (.cells #[.int .i64 x0, .int .i64 x1, .int .i64 x2, .slice a n c] 49 (0, 0)) := by rw [← hw1]; exact (Below.heap_alloc _ _ _ (by simp)).trans (heap_alloc_new _ _)
  have hR1 : w1.heap[w.heap.size + 1]? = some (.cells #[.int .i64 0, .int .i64 0, .int .i64 0, .slice none 0 0] 50 (0, 0)) := by
    have := heap_alloc_new (w.alloc (.cells #[.int .i64 x0, .int .i64 x1, .int .i64 x2, .slice a n c] 49)) (.cells #[.int .i64 0, .int .i64 0, .int .i64 0, .slice none 0 0] 50)
    rw [World.size_alloc] at this
    rw [← hw1]; exact this
  have hlt1 := (Array.getElem?_eq_some_iff.1 hR1).1
  have hcell : ∀ w' : World, Below w1.heap.size w1 w' → w'.cell? ⟨w.heap.size, 0, none⟩ = some (.int .i64 x0) ∧ w'.cell? ⟨w.heap.size, 1, none⟩ = some (.int .i64 x1) ∧ w'.cell? ⟨w.heap.size, 2, none⟩ = some (.int .i64 x2) ∧ w'.cell? ⟨w.heap.size, 3, none⟩ = some (.slice a n c) := by
    intro w' hb
    have hh := (hb.block w.heap.size (by omega)).trans hx1
    refine ⟨?_, ?_, ?_, ?_⟩ <;> (rw [cell_of_row _ _ _ _ _ _ hh]; rfl)
  have hv1 := hv.below hb1
  have HW1 := Lib.hid hw1
  have HBD := Lib.hid hb1
  have HR := Lib.hid hR1
  have HLT := Lib.hid hlt1
  have HCELL := Lib.hid hcell
  have HV := Lib.hid hv1
  have HL := Lib.hid hl
  have HN := Lib.hid hv.nil
  clear hw1 hb1 hx1 hR1 hlt1 hcell hv1 hl hv
  by_cases hbig : 2000 < n
  · have hbI : (2000 : Int) < (n : Int) := by omega
    obtain ⟨aa, rfl⟩ : ∃ aa, a = some aa := by
      cases a with
      | none =>
        have h0 := HN.out _ _ rfl
        have h1 := HV.out.at_.len
        omega
      | some aa => exact ⟨aa, rfl⟩
    have hcn : (2000 : Int) ≤ (c : Int) := by have h1 := HV.out.at_.len; omega
    go_enter Tryd.func27, Tryd.ntmps27
    go_wp2_with fail
    rw [HW1.out]
    refine wp_region_noPanic ?_
    refine wp_region_F 16 (Below w1.heap.size w1) (by kernel_rfl) ?_
    have hS0 : (Below w1.heap.size w1) w1.drew := (Below.refl _ _).drew
    obtain ⟨wd, hwd⟩ : ∃ wd, w1.drew = wd := ⟨_, rfl⟩
    rw [hwd] at hS0 ⊢
    clear hwd
    refine wpAnyF_take (i := 0) (fin := 16) (v := ?v1) rfl (by kernel_rfl) (by kernel_rfl) (by kernel_rfl) (by kernel_rfl) (fun _ _ _ h => h) (yieldsIf_run rfl (fun w' hw' => ?y1)) hS0 ?_
    case y1 => first | (go_simp; rfl) | (go_simp; done) | rfl
    simp only [Act.put, List.setIfInBounds_toArray, List.set_cons_zero, List.set_cons_succ]
    refine wpAnyF_take (i := 1) (fin := 16) (v := ?v2) rfl (by kernel_rfl) (by kernel_rfl) (by kernel_rfl) (by kernel_rfl) (fun _ _ _ h => h) (yieldsIf_run rfl (fun w' hw' => ?y2)) hS0 ?_
    case y2 => (obtain ⟨z0, z1, z2, z3⟩ := HCELL.out w' hw'; clear hw'; first | (go_simp; rfl) | (go_simp; done))
    simp only [Act.put, List.setIfInBounds_toArray, List.set_cons_zero, List.set_cons_succ]
    refine wpAnyF_take (i := 2) (fin := 16) (v := ?v3) rfl (by kernel_rfl) (by kernel_rfl) (by kernel_rfl) (by kernel_rfl) (fun _ _ _ h => h) (yieldsIf_run rfl (fun w' hw' => ?y3)) hS0 ?_
    case y3 => first | (go_simp; rfl) | (go_simp; done) | rfl
    simp only [Act.put, List.setIfInBounds_toArray, List.set_cons_zero, List.set_cons_succ]
    refine wpAnyF_take (i := 3) (fin := 16) (v := ?v4) rfl (by kernel_rfl) (by kernel_rfl) (by kernel_rfl) (by kernel_rfl) (fun _ _ _ h => h) (yieldsIf_run rfl (fun w' hw' => ?y4)) hS0 ?_
    case y4 => (obtain ⟨z0, z1, z2, z3⟩ := HCELL.out w' hw'; clear hw'; first | (go_simp; rfl) | (go_simp; done))
    simp only [Act.put, List.setIfInBounds_toArray, List.set_cons_zero, List.set_cons_succ]
    refine wpAnyF_take (i := 4) (fin := 16) (v := ?v5) rfl (by kernel_rfl) (by kernel_rfl) (by kernel_rfl) (by kernel_rfl) (fun _ _ _ h => h) (yieldsIf_run rfl (fun w' hw' => ?y5)) hS0 ?_
    case y5 => first | (go_simp; rfl) | (go_simp; done) | rfl
    simp only [Act.put, List.setIfInBounds_toArray, List.set_cons_zero, List.set_cons_succ]
    refine wpAnyF_take (i := 5) (fin := 16) (v := ?v6) rfl (by kernel_rfl) (by kernel_rfl) (by kernel_rfl) (by kernel_rfl) (fun _ _ _ h => h) (yieldsIf_run rfl (fun w' hw' => ?y6)) hS0 ?_
    case y6 => (obtain ⟨z0, z1, z2, z3⟩ := HCELL.out w' hw'; clear hw'; first | (go_simp; rfl) | (go_simp; done))
    simp only [Act.put, List.setIfInBounds_toArray, List.set_cons_zero, List.set_cons_succ]
    refine wpAnyF_take (i := 7) (fin := 16) (v := ?v7) rfl (by kernel_rfl) (by kernel_rfl) (by kernel_rfl) (by kernel_rfl) (fun _ _ _ h => h) (yieldsIf_run rfl (fun w' hw' => ?y7)) hS0 ?_
    case y7 => first | (go_simp; rfl) | (go_simp; done) | rfl
    simp only [Act.put, List.setIfInBounds_toArray, List.set_cons_zero, List.set_cons_succ]
    refine wpAnyF_take (i := 8) (fin := 16) (v := ?v8) rfl (by kernel_rfl) (by kernel_rfl) (by kernel_rfl) (by kernel_rfl) (fun _ _ _ h => h) (yieldsIf_run rfl (fun w' hw' => ?y8)) hS0 ?_
    case y8 => (obtain ⟨z0, z1, z2, z3⟩ := HCELL.out w' hw'; clear hw'; first | (go_simp; rfl) | (go_simp; done))
    simp only [Act.put, List.setIfInBounds_toArray, List.set_cons_zero, List.set_cons_succ]
    refine wpAnyF_take (i := 9) (fin := 16) (v := ?v9) rfl (by kernel_rfl) (by kernel_rfl) (by kernel_rfl) (by kernel_rfl) (fun _ _ _ h => h) (yieldsIf_run rfl (fun w' hw' => ?y9)) hS0 ?_
    case y9 => first | (go_simp; rfl) | (go_simp; done) | rfl
    simp only [Act.put, List.setIfInBounds_toArray, List.set_cons_zero, List.set_cons_succ]
    refine wpAnyF_take (i := 10) (fin := 16) (v := ?v10) rfl (by kernel_rfl) (by kernel_rfl) (by kernel_rfl) (by kernel_rfl) (fun _ _ _ h => h) (yieldsIf_run rfl (fun w' hw' => ?y10)) hS0 ?_
    case y10 => (obtain ⟨z0, z1, z2, z3⟩ := HCELL.out w' hw'; clear hw'; first | (go_simp; rfl) | (go_simp; done))
    simp only [Act.put, List.setIfInBounds_toArray, List.set_cons_zero, List.set_cons_succ]
    refine wpAnyF_take (i := 11) (fin := 16) (v := ?v11) rfl (by kernel_rfl) (by kernel_rfl) (by kernel_rfl) (by kernel_rfl) (fun _ _ _ h => h) (yieldsIf_run rfl (fun w' hw' => ?y11)) hS0 ?_
    case y11 => first | (go_simp; rfl) | (go_simp; done) | rfl
    simp only [Act.put, List.setIfInBounds_toArray, List.set_cons_zero, List.set_cons_succ]
    refine wpAnyF_take (i := 12) (fin := 16) (v := (.int .i64 (2000 : Nat))) rfl (by kernel_rfl) (by kernel_rfl) (by kernel_rfl) (by kernel_rfl) (fun _ _ _ h => h) (yieldsIf_run rfl (fun w' hw' => ?y12)) hS0 ?_
    case y12 => first | (clear hw'; go_simp; intro hlt0; omega) | (clear hw'; go_simp; omega) | (go_simp; rfl) | (go_simp; done) | rfl
    simp only [Act.put, List.setIfInBounds_toArray, List.set_cons_zero, List.set_cons_succ]
    refine wpAnyF_take (i := 13) (fin := 16) (v := (.slice (some aa) (2000) c)) rfl (by kernel_rfl) (by kernel_rfl) (by kernel_rfl) (by kernel_rfl) (fun _ _ _ h => h) (yieldsIf_run rfl (fun w' hw' => ?y13)) hS0 ?_
    case y13 => first | (go_simp; rfl) | (go_simp; done) | rfl
    simp only [Act.put, List.setIfInBounds_toArray, List.set_cons_zero, List.set_cons_succ]
    refine wpAnyF_do (i := 6) (by kernel_rfl) rfl rfl (fun K hK => ?_)
    go_simp
    obtain ⟨we, hwe⟩ : ∃ we, wd.alloc (.cells #[] 5) = we := ⟨_, rfl⟩
    have hSe : Below w1.heap.size w1 we := hwe ▸ hS0.alloc hS0.size _
    have hoe : we.ownsRow w1.heap.size 5 1 (.slice (some ⟨wd.heap.size, 0, none⟩) 0 0) 0 (bvs []) := hwe ▸ own_zero hS0.size 5
    try rw [hwe]
    refine hK _ _ (fun _ => hSe) ?_
    clear hK K
    try simp only [Act.put, List.setIfInBounds_toArray, List.set_cons_zero, List.set_cons_succ]
    refine wpAnyF_do (i := 14) (by kernel_rfl) rfl rfl (fun K hK => ?_)
    have hbx := (HV.out.below hSe).take (2000) (by omega)
    refine wp_appN (m := 2000) _ _ rfl rfl hoe rfl hbx (by rw [List.length_take, HL.out]; omega) (by omega) hSe.size ?_
    intro a' c' wa hoa hga
    have hSa : Below w1.heap.size w1 wa := hSe.grown hga hSe.size (fun j hj => (ownsRow_lt hoe j hj).1)
    rw [List.nil_append] at hoa
    simp only [Nat.zero_add] at hoa ⊢
    clear hbx
    refine hK _ _ (fun _ => hSa) ?_
    clear hK K
    try simp only [Act.put, List.setIfInBounds_toArray, List.set_cons_zero, List.set_cons_succ]
    refine wpAnyF_take (i := 15) (fin := 16) (v := ?v14) rfl (by kernel_rfl) (by kernel_rfl) (by kernel_rfl) (by kernel_rfl) (fun _ _ _ h => h) (yieldsIf_run rfl (fun w' hw' => ?y14)) hSa ?_
    case y14 => first | (go_simp; rfl) | (go_simp; done) | rfl
    simp only [Act.put, List.setIfInBounds_toArray, List.set_cons_zero, List.set_cons_succ]
    have hRa := (hSa.block _ HLT.out).trans HR.out
    have hrf : ∀ j : Nat, wa.frozen? ⟨w.heap.size + 1, j, none⟩ = false := fun j => frozen_of_row _ _ _ _ _ hRa
    have hz0 : wa.cell? ⟨w.heap.size + 1, 0, none⟩ = some (.int .i64 0) := by rw [cell_of_row _ _ _ _ _ _ hRa]; rfl
    have hz1 : wa.cell? ⟨w.heap.size + 1, 1, none⟩ = some (.int .i64 0) := by rw [cell_of_row _ _ _ _ _ _ hRa]; rfl
    have hz2 : wa.cell? ⟨w.heap.size + 1, 2, none⟩ = some (.int .i64 0) := by rw [cell_of_row _ _ _ _ _ _ hRa]; rfl
    have hz3 : wa.cell? ⟨w.heap.size + 1, 3, none⟩ = some (.slice none 0 0) := by rw [cell_of_row _ _ _ _ _ _ hRa]; rfl
    refine wpAnyF_do (i := 16) (by kernel_rfl) rfl rfl (fun K hK => ?_)
    go_simp
    refine hK _ _ (fun h => absurd rfl h) ?_
    clear hK K
    refine wpAnyF_done (by kernel_rfl) ?_ _
    refine NoPanic.normal ?_
    go_wp2_with fail
    refine bodyPost_ret (v := .agg #[.int .i64 x0, .int .i64 x1, .int .i64 x2, .slice a' (2000) c']) (by simp [results, Tryd.results27, go_sem, hz0, hz1, hz2, hz3]) rfl ?_
    have hcz := chg4 wa (w.heap.size + 1) (.int .i64 x0) (.int .i64 x1) (.int .i64 x2) (.slice a' (2000) c')
    refine ⟨a', 2000, c', rfl, ?_, ownsRow_base (ownsRow_chg' hoa hcz (fun k hk h => own_ne hoa hRa (by decide) k hk h)) HBD.out.size, (HBD.out.trans (hSa.mono HBD.out.size)).trans (hcz.below (fun k h => by have : k = w.heap.size + 1 := h; omega) (HBD.out.trans (hSa.mono HBD.out.size)).size)⟩
    rw [HL.out]; omega
  · have hbI : ¬ (2000 : Int) < (n : Int) := by omega
    have hbI2 : (n : Int) ≤ (2000 : Int) := by omega
    have hcn : (n : Int) ≤ (c : Int) := by have h1 := HV.out.at_.len; omega
    cases a with
    | none =>
      have h0 := HN.out _ _ rfl
      have h1 := HV.out.at_.len
      obtain rfl : c = 0 := h0
      obtain rfl : n = 0 := by omega
      try clear h0
      try clear h1
      go_enter Tryd.func27, Tryd.ntmps27
      go_wp2_with fail
      rw [HW1.out]
      refine wp_region_noPanic ?_
      refine wp_region_F 16 (Below w1.heap.size w1) (by kernel_rfl) ?_
      have hS0 : (Below w1.heap.size w1) w1.drew := (Below.refl _ _).drew
      obtain ⟨wd, hwd⟩ : ∃ wd, w1.drew = wd := ⟨_, rfl⟩
      rw [hwd] at hS0 ⊢
      clear hwd
      refine wpAnyF_take (i := 0) (fin := 16) (v := ?v15) rfl (by kernel_rfl) (by kernel_rfl) (by kernel_rfl) (by kernel_rfl) (fun _ _ _ h => h) (yieldsIf_run rfl (fun w' hw' => ?y15)) hS0 ?_
      case y15 => first | (go_simp; rfl) | (go_simp; done) | rfl
      simp only [Act.put, List.setIfInBounds_toArray, List.set_cons_zero, List.set_cons_succ]
      refine wpAnyF_take (i := 1) (fin := 16) (v := ?v16) rfl (by kernel_rfl) (by kernel_rfl) (by kernel_rfl) (by kernel_rfl) (fun _ _ _ h => h) (yieldsIf_run rfl (fun w' hw' => ?y16)) hS0 ?_
      case y16 => (obtain ⟨z0, z1, z2, z3⟩ := HCELL.out w' hw'; clear hw'; first | (go_simp; rfl) | (go_simp; done))
      simp only [Act.put, List.setIfInBounds_toArray, List.set_cons_zero, List.set_cons_succ]
      refine wpAnyF_take (i := 2) (fin := 16) (v := ?v17) rfl (by kernel_rfl) (by kernel_rfl) (by kernel_rfl) (by kernel_rfl) (fun _ _ _ h => h) (yieldsIf_run rfl (fun w' hw' => ?y17)) hS0 ?_
      case y17 => first | (go_simp; rfl) | (go_simp; done) | rfl
      simp only [Act.put, List.setIfInBounds_toArray, List.set_cons_zero, List.set_cons_succ]
      refine wpAnyF_take (i := 3) (fin := 16) (v := ?v18) rfl (by kernel_rfl) (by kernel_rfl) (by kernel_rfl) (by kernel_rfl) (fun _ _ _ h => h) (yieldsIf_run rfl (fun w' hw' => ?y18)) hS0 ?_
      case y18 => (obtain ⟨z0, z1, z2, z3⟩ := HCELL.out w' hw'; clear hw'; first | (go_simp; rfl) | (go_simp; done))
      simp only [Act.put, List.setIfInBounds_toArray, List.set_cons_zero, List.set_cons_succ]
      refine wpAnyF_take (i := 4) (fin := 16) (v := ?v19) rfl (by kernel_rfl) (by kernel_rfl) (by kernel_rfl) (by kernel_rfl) (fun _ _ _ h => h) (yieldsIf_run rfl (fun w' hw' => ?y19)) hS0 ?_
      case y19 => first | (go_simp; rfl) | (go_simp; done) | rfl
      simp only [Act.put, List.setIfInBounds_toArray, List.set_cons_zero, List.set_cons_succ]
      refine wpAnyF_take (i := 5) (fin := 16) (v := ?v20) rfl (by kernel_rfl) (by kernel_rfl) (by kernel_rfl) (by kernel_rfl) (fun _ _ _ h => h) (yieldsIf_run rfl (fun w' hw' => ?y20)) hS0 ?_
      case y20 => (obtain ⟨z0, z1, z2, z3⟩ := HCELL.out w' hw'; clear hw'; first | (go_simp; rfl) | (go_simp; done))
      simp only [Act.put, List.setIfInBounds_toArray, List.set_cons_zero, List.set_cons_succ]
      refine wpAnyF_take (i := 7) (fin := 16) (v := ?v21) rfl (by kernel_rfl) (by kernel_rfl) (by kernel_rfl) (by kernel_rfl) (fun _ _ _ h => h) (yieldsIf_run rfl (fun w' hw' => ?y21)) hS0 ?_
      case y21 => first | (go_simp; rfl) | (go_simp; done) | rfl
      simp only [Act.put, List.setIfInBounds_toArray, List.set_cons_zero, List.set_cons_succ]
      refine wpAnyF_take (i := 8) (fin := 16) (v := ?v22) rfl (by kernel_rfl) (by kernel_rfl) (by kernel_rfl) (by kernel_rfl) (fun _ _ _ h => h) (yieldsIf_run rfl (fun w' hw' => ?y22)) hS0 ?_
      case y22 => (obtain ⟨z0, z1, z2, z3⟩ := HCELL.out w' hw'; clear hw'; first | (go_simp; rfl) | (go_simp; done))
      simp only [Act.put, List.setIfInBounds_toArray, List.set_cons_zero, List.set_cons_succ]
      refine wpAnyF_take (i := 9) (fin := 16) (v := ?v23) rfl (by kernel_rfl) (by kernel_rfl) (by kernel_rfl) (by kernel_rfl) (fun _ _ _ h => h) (yieldsIf_run rfl (fun w' hw' => ?y23)) hS0 ?_
      case y23 => first | (go_simp; rfl) | (go_simp; done) | rfl
      simp only [Act.put, List.setIfInBounds_toArray, List.set_cons_zero, List.set_cons_succ]
      refine wpAnyF_take (i := 10) (fin := 16) (v := ?v24) rfl (by kernel_rfl) (by kernel_rfl) (by kernel_rfl) (by kernel_rfl) (fun _ _ _ h => h) (yieldsIf_run rfl (fun w' hw' => ?y24)) hS0 ?_
      case y24 => (obtain ⟨z0, z1, z2, z3⟩ := HCELL.out w' hw'; clear hw'; first | (go_simp; rfl) | (go_simp; done))
      simp only [Act.put, List.setIfInBounds_toArray, List.set_cons_zero, List.set_cons_succ]
      refine wpAnyF_take (i := 11) (fin := 16) (v := ?v25) rfl (by kernel_rfl) (by kernel_rfl) (by kernel_rfl) (by kernel_rfl) (fun _ _ _ h => h) (yieldsIf_run rfl (fun w' hw' => ?y25)) hS0 ?_
      case y25 => first | (go_simp; rfl) | (go_simp; done) | rfl
      simp only [Act.put, List.setIfInBounds_toArray, List.set_cons_zero, List.set_cons_succ]
      refine wpAnyF_take (i := 12) (fin := 16) (v := (.int .i64 (0 : Nat))) rfl (by kernel_rfl) (by kernel_rfl) (by kernel_rfl) (by kernel_rfl) (fun _ _ _ h => h) (yieldsIf_run rfl (fun w' hw' => ?y26)) hS0 ?_
      case y26 => first | (clear hw'; go_simp; intro hlt0; omega) | (clear hw'; go_simp; omega) | (go_simp; rfl) | (go_simp; done) | rfl
      simp only [Act.put, List.setIfInBounds_toArray, List.set_cons_zero, List.set_cons_succ]
      refine wpAnyF_take (i := 13) (fin := 16) (v := (.slice none (0) 0)) rfl (by kernel_rfl) (by kernel_rfl) (by kernel_rfl) (by kernel_rfl) (fun _ _ _ h => h) (yieldsIf_run rfl (fun w' hw' => ?y27)) hS0 ?_
      case y27 => first | (go_simp; rfl) | (go_simp; done) | rfl
      simp only [Act.put, List.setIfInBounds_toArray, List.set_cons_zero, List.set_cons_succ]
      refine wpAnyF_do (i := 6) (by kernel_rfl) rfl rfl (fun K hK => ?_)
      go_simp
      obtain ⟨we, hwe⟩ : ∃ we, wd.alloc (.cells #[] 5) = we := ⟨_, rfl⟩
      have hSe : Below w1.heap.size w1 we := hwe ▸ hS0.alloc hS0.size _
      have hoe : we.ownsRow w1.heap.size 5 1 (.slice (some ⟨wd.heap.size, 0, none⟩) 0 0) 0 (bvs []) := hwe ▸ own_zero hS0.size 5
      try rw [hwe]
      refine hK _ _ (fun _ => hSe) ?_
      clear hK K
      try simp only [Act.put, List.setIfInBounds_toArray, List.set_cons_zero, List.set_cons_succ]
      refine wpAnyF_do (i := 14) (by kernel_rfl) rfl rfl (fun K hK => ?_)
      have hbx := (HV.out.below hSe).take 0 (by omega)
      refine wp_appN (m := 0) _ _ rfl rfl hoe rfl hbx (by rw [List.length_take, HL.out]; omega) (by omega) hSe.size ?_
      intro a' c' wa hoa hga
      have hSa : Below w1.heap.size w1 wa := hSe.grown hga hSe.size (fun j hj => (ownsRow_lt hoe j hj).1)
      rw [List.nil_append] at hoa
      simp only [Nat.zero_add] at hoa ⊢
      clear hbx
      refine hK _ _ (fun _ => hSa) ?_
      clear hK K
      try simp only [Act.put, List.setIfInBounds_toArray, List.set_cons_zero, List.set_cons_succ]
      refine wpAnyF_take (i := 15) (fin := 16) (v := ?v28) rfl (by kernel_rfl) (by kernel_rfl) (by kernel_rfl) (by kernel_rfl) (fun _ _ _ h => h) (yieldsIf_run rfl (fun w' hw' => ?y28)) hSa ?_
      case y28 => first | (go_simp; rfl) | (go_simp; done) | rfl
      simp only [Act.put, List.setIfInBounds_toArray, List.set_cons_zero, List.set_cons_succ]
      have hRa := (hSa.block _ HLT.out).trans HR.out
      have hrf : ∀ j : Nat, wa.frozen? ⟨w.heap.size + 1, j, none⟩ = false := fun j => frozen_of_row _ _ _ _ _ hRa
      have hz0 : wa.cell? ⟨w.heap.size + 1, 0, none⟩ = some (.int .i64 0) := by rw [cell_of_row _ _ _ _ _ _ hRa]; rfl
      have hz1 : wa.cell? ⟨w.heap.size + 1, 1, none⟩ = some (.int .i64 0) := by rw [cell_of_row _ _ _ _ _ _ hRa]; rfl
      have hz2 : wa.cell? ⟨w.heap.size + 1, 2, none⟩ = some (.int .i64 0) := by rw [cell_of_row _ _ _ _ _ _ hRa]; rfl
      have hz3 : wa.cell? ⟨w.heap.size + 1, 3, none⟩ = some (.slice none 0 0) := by rw [cell_of_row _ _ _ _ _ _ hRa]; rfl
      refine wpAnyF_do (i := 16) (by kernel_rfl) rfl rfl (fun K hK => ?_)
      go_simp
      refine hK _ _ (fun h => absurd rfl h) ?_
      clear hK K
      refine wpAnyF_done (by kernel_rfl) ?_ _
      refine NoPanic.normal ?_
      go_wp2_with fail
      refine bodyPost_ret (v := .agg #[.int .i64 x0, .int .i64 x1, .int .i64 x2, .slice a' 0 c']) (by simp [results, Tryd.results27, go_sem, hz0, hz1, hz2, hz3]) rfl ?_
      have hcz := chg4 wa (w.heap.size + 1) (.int .i64 x0) (.int .i64 x1) (.int .i64 x2) (.slice a' 0 c')
      refine ⟨a', 0, c', rfl, ?_, ownsRow_base (ownsRow_chg' hoa hcz (fun k hk h => own_ne hoa hRa (by decide) k hk h)) HBD.out.size, (HBD.out.trans (hSa.mono HBD.out.size)).trans (hcz.below (fun k h => by have : k = w.heap.size + 1 := h; omega) (HBD.out.trans (hSa.mono HBD.out.size)).size)⟩
      rw [HL.out]; omega
    | some aa =>
      go_enter Tryd.func27, Tryd.ntmps27
      go_wp2_with fail
      rw [HW1.out]
      refine wp_region_noPanic ?_
      refine wp_region_F 16 (Below w1.heap.size w1) (by kernel_rfl) ?_
      have hS0 : (Below w1.heap.size w1) w1.drew := (Below.refl _ _).drew
      obtain ⟨wd, hwd⟩ : ∃ wd, w1.drew = wd := ⟨_, rfl⟩
      rw [hwd] at hS0 ⊢
      clear hwd
      refine wpAnyF_take (i := 0) (fin := 16) (v := ?v29) rfl (by kernel_rfl) (by kernel_rfl) (by kernel_rfl) (by kernel_rfl) (fun _ _ _ h => h) (yieldsIf_run rfl (fun w' hw' => ?y29)) hS0 ?_
      case y29 => first | (go_simp; rfl) | (go_simp; done) | rfl
      simp only [Act.put, List.setIfInBounds_toArray, List.set_cons_zero, List.set_cons_succ]
      refine wpAnyF_take (i := 1) (fin := 16) (v := ?v30) rfl (by kernel_rfl) (by kernel_rfl) (by kernel_rfl) (by kernel_rfl) (fun _ _ _ h => h) (yieldsIf_run rfl (fun w' hw' => ?y30)) hS0 ?_
      case y30 => (obtain ⟨z0, z1, z2, z3⟩ := HCELL.out w' hw'; clear hw'; first | (go_simp; rfl) | (go_simp; done))
      simp only [Act.put, List.setIfInBounds_toArray, List.set_cons_zero, List.set_cons_succ]
      refine wpAnyF_take (i := 2) (fin := 16) (v := ?v31) rfl (by kernel_rfl) (by kernel_rfl) (by kernel_rfl) (by kernel_rfl) (fun _ _ _ h => h) (yieldsIf_run rfl (fun w' hw' => ?y31)) hS0 ?_
      case y31 => first | (go_simp; rfl) | (go_simp; done) | rfl
      simp only [Act.put, List.setIfInBounds_toArray, List.set_cons_zero, List.set_cons_succ]
      refine wpAnyF_take (i := 3) (fin := 16) (v := ?v32) rfl (by kernel_rfl) (by kernel_rfl) (by kernel_rfl) (by kernel_rfl) (fun _ _ _ h => h) (yieldsIf_run rfl (fun w' hw' => ?y32)) hS0 ?_
      case y32 => (obtain ⟨z0, z1, z2, z3⟩ := HCELL.out w' hw'; clear hw'; first | (go_simp; rfl) | (go_simp; done))
      simp only [Act.put, List.setIfInBounds_toArray, List.set_cons_zero, List.set_cons_succ]
      refine wpAnyF_take (i := 4) (fin := 16) (v := ?v33) rfl (by kernel_rfl) (by kernel_rfl) (by kernel_rfl) (by kernel_rfl) (fun _ _ _ h => h) (yieldsIf_run rfl (fun w' hw' => ?y33)) hS0 ?_
      case y33 => first | (go_simp; rfl) | (go_simp; done) | rfl
      simp only [Act.put, List.setIfInBounds_toArray, List.set_cons_zero, List.set_cons_succ]
      refine wpAnyF_take (i := 5) (fin := 16) (v := ?v34) rfl (by kernel_rfl) (by kernel_rfl) (by kernel_rfl) (by kernel_rfl) (fun _ _ _ h => h) (yieldsIf_run rfl (fun w' hw' => ?y34)) hS0 ?_
      case y34 => (obtain ⟨z0, z1, z2, z3⟩ := HCELL.out w' hw'; clear hw'; first | (go_simp; rfl) | (go_simp; done))
      simp only [Act.put, List.setIfInBounds_toArray, List.set_cons_zero, List.set_cons_succ]
      refine wpAnyF_take (i := 7) (fin := 16) (v := ?v35) rfl (by kernel_rfl) (by kernel_rfl) (by kernel_rfl) (by kernel_rfl) (fun _ _ _ h => h) (yieldsIf_run rfl (fun w' hw' => ?y35)) hS0 ?_
      case y35 => first | (go_simp; rfl) | (go_simp; done) | rfl
      simp only [Act.put, List.setIfInBounds_toArray, List.set_cons_zero, List.set_cons_succ]
      refine wpAnyF_take (i := 8) (fin := 16) (v := ?v36) rfl (by kernel_rfl) (by kernel_rfl) (by kernel_rfl) (by kernel_rfl) (fun _ _ _ h => h) (yieldsIf_run rfl (fun w' hw' => ?y36)) hS0 ?_
      case y36 => (obtain ⟨z0, z1, z2, z3⟩ := HCELL.out w' hw'; clear hw'; first | (go_simp; rfl) | (go_simp; done))
      simp only [Act.put, List.setIfInBounds_toArray, List.set_cons_zero, List.set_cons_succ]
      refine wpAnyF_take (i := 9) (fin := 16) (v := ?v37) rfl (by kernel_rfl) (by kernel_rfl) (by kernel_rfl) (by kernel_rfl) (fun _ _ _ h => h) (yieldsIf_run rfl (fun w' hw' => ?y37)) hS0 ?_
      case y37 => first | (go_simp; rfl) | (go_simp; done) | rfl
      simp only [Act.put, List.setIfInBounds_toArray, List.set_cons_zero, List.set_cons_succ]
      refine wpAnyF_take (i := 10) (fin := 16) (v := ?v38) rfl (by kernel_rfl) (by kernel_rfl) (by kernel_rfl) (by kernel_rfl) (fun _ _ _ h => h) (yieldsIf_run rfl (fun w' hw' => ?y38)) hS0 ?_
      case y38 => (obtain ⟨z0, z1, z2, z3⟩ := HCELL.out w' hw'; clear hw'; first | (go_simp; rfl) | (go_simp; done))
      simp only [Act.put, List.setIfInBounds_toArray, List.set_cons_zero, List.set_cons_succ]
      refine wpAnyF_take (i := 11) (fin := 16) (v := ?v39) rfl (by kernel_rfl) (by kernel_rfl) (by kernel_rfl) (by kernel_rfl) (fun _ _ _ h => h) (yieldsIf_run rfl (fun w' hw' => ?y39)) hS0 ?_
      case y39 => first | (go_simp; rfl) | (go_simp; done) | rfl
      simp only [Act.put, List.setIfInBounds_toArray, List.set_cons_zero, List.set_cons_succ]
      refine wpAnyF_take (i := 12) (fin := 16) (v := (.int .i64 (n : Nat))) rfl (by kernel_rfl) (by kernel_rfl) (by kernel_rfl) (by kernel_rfl) (fun _ _ _ h => h) (yieldsIf_run rfl (fun w' hw' => ?y40)) hS0 ?_
      case y40 => first | (clear hw'; go_simp; intro hlt0; omega) | (clear hw'; go_simp; omega) | (go_simp; rfl) | (go_simp; done) | rfl
      simp only [Act.put, List.setIfInBounds_toArray, List.set_cons_zero, List.set_cons_succ]
      refine wpAnyF_take (i := 13) (fin := 16) (v := (.slice (some aa) (n) c)) rfl (by kernel_rfl) (by kernel_rfl) (by kernel_rfl) (by kernel_rfl) (fun _ _ _ h => h) (yieldsIf_run rfl (fun w' hw' => ?y41)) hS0 ?_
      case y41 => first | (go_simp; rfl) | (go_simp; done) | rfl
      simp only [Act.put, List.setIfInBounds_toArray, List.set_cons_zero, List.set_cons_succ]
      refine wpAnyF_do (i := 6) (by kernel_rfl) rfl rfl (fun K hK => ?_)
      go_simp
      obtain ⟨we, hwe⟩ : ∃ we, wd.alloc (.cells #[] 5) = we := ⟨_, rfl⟩
      have hSe : Below w1.heap.size w1 we := hwe ▸ hS0.alloc hS0.size _
      have hoe : we.ownsRow w1.heap.size 5 1 (.slice (some ⟨wd.heap.size, 0, none⟩) 0 0) 0 (bvs []) := hwe ▸ own_zero hS0.size 5
      try rw [hwe]
      refine hK _ _ (fun _ => hSe) ?_
      clear hK K
      try simp only [Act.put, List.setIfInBounds_toArray, List.set_cons_zero, List.set_cons_succ]
      refine wpAnyF_do (i := 14) (by kernel_rfl) rfl rfl (fun K hK => ?_)
      have hbx := (HV.out.below hSe).take (n) (by omega)
      refine wp_appN (m := n) _ _ rfl rfl hoe rfl hbx (by rw [List.length_take, HL.out]; omega) (by omega) hSe.size ?_
      intro a' c' wa hoa hga
      have hSa : Below w1.heap.size w1 wa := hSe.grown hga hSe.size (fun j hj => (ownsRow_lt hoe j hj).1)
      rw [List.nil_append] at hoa
      simp only [Nat.zero_add] at hoa ⊢
      clear hbx
      refine hK _ _ (fun _ => hSa) ?_
      clear hK K
      try simp only [Act.put, List.setIfInBounds_toArray, List.set_cons_zero, List.set_cons_succ]
      refine wpAnyF_take (i := 15) (fin := 16) (v := ?v42) rfl (by kernel_rfl) (by kernel_rfl) (by kernel_rfl) (by kernel_rfl) (fun _ _ _ h => h) (yieldsIf_run rfl (fun w' hw' => ?y42)) hSa ?_
      case y42 => first | (go_simp; rfl) | (go_simp; done) | rfl
      simp only [Act.put, List.setIfInBounds_toArray, List.set_cons_zero, List.set_cons_succ]
      have hRa := (hSa.block _ HLT.out).trans HR.out
      have hrf : ∀ j : Nat, wa.frozen? ⟨w.heap.size + 1, j, none⟩ = false := fun j => frozen_of_row _ _ _ _ _ hRa
      have hz0 : wa.cell? ⟨w.heap.size + 1, 0, none⟩ = some (.int .i64 0) := by rw [cell_of_row _ _ _ _ _ _ hRa]; rfl
      have hz1 : wa.cell? ⟨w.heap.size + 1, 1, none⟩ = some (.int .i64 0) := by rw [cell_of_row _ _ _ _ _ _ hRa]; rfl
      have hz2 : wa.cell? ⟨w.heap.size + 1, 2, none⟩ = some (.int .i64 0) := by rw [cell_of_row _ _ _ _ _ _ hRa]; rfl
      have hz3 : wa.cell? ⟨w.heap.size + 1, 3, none⟩ = some (.slice none 0 0) := by rw [cell_of_row _ _ _ _ _ _ hRa]; rfl
      refine wpAnyF_do (i := 16) (by kernel_rfl) rfl rfl (fun K hK => ?_)
      go_simp
      refine hK _ _ (fun h => absurd rfl h) ?_
      clear hK K
      refine wpAnyF_done (by kernel_rfl) ?_ _
      refine NoPanic.normal ?_
      go_wp2_with fail
      refine bodyPost_ret (v := .agg #[.int .i64 x0, .int .i64 x1, .int .i64 x2, .slice a' (n) c']) (by simp [results, Tryd.results27, go_sem, hz0, hz1, hz2, hz3]) rfl ?_
      have hcz := chg4 wa (w.heap.size + 1) (.int .i64 x0) (.int .i64 x1) (.int .i64 x2) (.slice a' (n) c')
      refine ⟨a', n, c', rfl, ?_, ownsRow_base (ownsRow_chg' hoa hcz (fun k hk h => own_ne hoa hRa (by decide) k hk h)) HBD.out.size, (HBD.out.trans (hSa.mono HBD.out.size)).trans (hcz.below (fun k h => by have : k = w.heap.size + 1 := h; omega) (HBD.out.trans (hSa.mono HBD.out.size)).size)⟩
      rw [HL.out]; omega

set_option maxRecDepth 100000 in
set_option maxHeartbeats 2000000 in
theorem part_any {w : World} {F : Nat → Prop} (x0 x1 x2 x3 x4 : Int) (a : Option Addr) (n c : Nat) (l : List UInt8) (hv : BytesN w F (.slice a n c) l) (hl : l.length = n) (hn : n ≤ 9223372036854775807) :
    Calls Tryd.prog 15 #[.agg #[.int .i64 x0, .int .i64 x1, .int .i64 x2, .int .i64 x3, .int .i64 x4, .slice a n c]] w fun e w' => ∃ a' m c', e = .returned (.agg #[.int .i64 x0, .int .i64 x1, .int .i64 x2, .int .i64 x3, .int .i64 x4, .slice a' m c']) ∧ m = min l.length 300 ∧ w'.ownsRow w.heap.size 5 1 (.slice a' m c') m (bvs (l.take m)) ∧ Below w.heap.size w w' := by
  obtain ⟨w1, hw1⟩ : ∃ w1, (w.alloc (.cells #[.int .i64 x0, .int .i64 x1, .int .i64 x2, .int .i64 x3, .int .i64 x4, .slice a n c] 24)).alloc (.cells #[.int .i64 0, .int .i64 0, .int .i64 0, .int .i64 0, .int .i64 0, .slice none 0 0] 25) = w1 := ⟨_, rfl⟩
  have hb1 : Below w.heap.size w w1 := hw1 ▸ ((Below.refl _ w).alloc (Nat.le_refl _) _).alloc (by simp) _
  have hx1 : w1.heap[w.heap.size]? = some (.cells #[.int .i64 x0, .int .i64 x1, .int .i64 x2, .int .i64 x3, .int .i64 x4, .slice a n c] 24 (0, 0)) := by rw [← hw1]; exact (Below.heap_alloc _ _ _ (by simp)).trans (heap_alloc_new _ _)
  have hR1 : w1.heap[w.heap.size + 1]? = some (.cells #[.int .i64 0, .int .i64 0, .int .i64 0, .int .i64 0, .int .i64 0, .slice none 0 0] 25 (0, 0)) := by
    have := heap_alloc_new (w.alloc (.cells #[.int .i64 x0, .int .i64 x1, .int .i64 x2, .int .i64 x3, .int .i64 x4, .slice a n c] 24)) (.cells #[.int .i64 0, .int .i64 0, .int .i64 0, .int .i64 0, .int .i64 0, .slice none 0 0] 25)
    rw [World.size_alloc] at this
    rw [← hw1]; exact this
  have hlt1 := (Array.getElem?_eq_some_iff.1 hR1).1
  have hcell : ∀ w' : World, Below w1.heap.size w1 w' → w'.cell? ⟨w.heap.size, 0, none⟩ = some (.int .i64 x0) ∧ w'.cell? ⟨w.heap.size, 1, none⟩ = some (.int .i64 x1) ∧ w'.cell? ⟨w.heap.size, 2, none⟩ = some (.int .i64 x2) ∧ w'.cell? ⟨w.heap.size, 3, none⟩ = some (.int .i64 x3) ∧ w'.cell? ⟨w.heap.size, 4, none⟩ = some (.int .i64 x4) ∧ w'.cell? ⟨w.heap.size, 5, none⟩ = some (.slice a n c) := by
    intro w' hb
    have hh := (hb.block w.heap.size (by omega)).trans hx1
    refine ⟨?_, ?_, ?_, ?_, ?_, ?_⟩ <;> (rw [cell_of_row _ _ _ _ _ _ hh]; rfl)
  have hv1 := hv.below hb1
  have HW1 := Lib.hid hw1
  have HBD := Lib.hid hb1
  have HR := Lib.hid hR1
  have HLT := Lib.hid hlt1
  have HCELL := Lib.hid hcell
  have HV := Lib.hid hv1
  have HL := Lib.hid hl
  have HN := Lib.hid hv.nil
  clear hw1 hb1 hx1 hR1 hlt1 hcell hv1 hl hv
  by_cases hbig : 300 < n
  · have hbI : (300 : Int) < (n : Int) := by omega
    obtain ⟨aa, rfl⟩ : ∃ aa, a = some aa := by
      cases a with
      | none =>
        have h0 := HN.out _ _ rfl
        have h1 := HV.out.at_.len
        omega
      | some aa => exact ⟨aa, rfl⟩
    have hcn : (300 : Int) ≤ (c : Int) := by have h1 := HV.out.at_.len; omega
    go_enter Tryd.func15, Tryd.ntmps15
    go_wp2_with fail
    rw [HW1.out]
    refine wp_region_noPanic ?_
    refine wp_region_F 20 (Below w1.heap.size w1) (by kernel_rfl) ?_
    have hS0 : (Below w1.heap.size w1) w1.drew := (Below.refl _ _).drew
    obtain ⟨wd, hwd⟩ : ∃ wd, w1.drew = wd := ⟨_, rfl⟩
    rw [hwd] at hS0 ⊢
    clear hwd
    refine wpAnyF_take (i := 0) (fin := 20) (v := ?v43) rfl (by kernel_rfl) (by kernel_rfl) (by kernel_rfl) (by kernel_rfl) (fun _ _ _ h => h) (yieldsIf_run rfl (fun w' hw' => ?y43)) hS0 ?_
    case y43 => first | (go_simp; rfl) | (go_simp; done) | rfl
    simp only [Act.put, List.setIfInBounds_toArray, List.set_cons_zero, List.set_cons_succ]
    refine wpAnyF_take (i := 1) (fin := 20) (v := ?v44) rfl (by kernel_rfl) (by kernel_rfl) (by kernel_rfl) (by kernel_rfl) (fun _ _ _ h => h) (yieldsIf_run rfl (fun w' hw' => ?y44)) hS0 ?_
    case y44 => (obtain ⟨z0, z1, z2, z3, z4, z5⟩ := HCELL.out w' hw'; clear hw'; first | (go_simp; rfl) | (go_simp; done))
    simp only [Act.put, List.setIfInBounds_toArray, List.set_cons_zero, List.set_cons_succ]
    refine wpAnyF_take (i := 2) (fin := 20) (v := ?v45) rfl (by kernel_rfl) (by kernel_rfl) (by kernel_rfl) (by kernel_rfl) (fun _ _ _ h => h) (yieldsIf_run rfl (fun w' hw' => ?y45)) hS0 ?_
    case y45 => first | (go_simp; rfl) | (go_simp; done) | rfl
    simp only [Act.put, List.setIfInBounds_toArray, List.set_cons_zero, List.set_cons_succ]
    refine wpAnyF_take (i := 3) (fin := 20) (v := ?v46) rfl (by kernel_rfl) (by kernel_rfl) (by kernel_rfl) (by kernel_rfl) (fun _ _ _ h => h) (yieldsIf_run rfl (fun w' hw' => ?y46)) hS0 ?_
    case y46 => (obtain ⟨z0, z1, z2, z3, z4, z5⟩ := HCELL.out w' hw'; clear hw'; first | (go_simp; rfl) | (go_simp; done))
    simp only [Act.put, List.setIfInBounds_toArray, List.set_cons_zero, List.set_cons_succ]
    refine wpAnyF_take (i := 4) (fin := 20) (v := ?v47) rfl (by kernel_rfl) (by kernel_rfl) (by kernel_rfl) (by kernel_rfl) (fun _ _ _ h => h) (yieldsIf_run rfl (fun w' hw' => ?y47)) hS0 ?_
    case y47 => first | (go_simp; rfl) | (go_simp; done) | rfl
    simp only [Act.put, List.setIfInBounds_toArray, List.set_cons_zero, List.set_cons_succ]
    refine wpAnyF_take (i := 5) (fin := 20) (v := ?v48) rfl (by kernel_rfl) (by kernel_rfl) (by kernel_rfl) (by kernel_rfl) (fun _ _ _ h => h) (yieldsIf_run rfl (fun w' hw' => ?y48)) hS0 ?_
    case y48 => (obtain ⟨z0, z1, z2, z3, z4, z5⟩ := HCELL.out w' hw'; clear hw'; first | (go_simp; rfl) | (go_simp; done))
    simp only [Act.put, List.setIfInBounds_toArray, List.set_cons_zero, List.set_cons_succ]
    refine wpAnyF_take (i := 6) (fin := 20) (v := ?v49) rfl (by kernel_rfl) (by kernel_rfl) (by kernel_rfl) (by kernel_rfl) (fun _ _ _ h => h) (yieldsIf_run rfl (fun w' hw' => ?y49)) hS0 ?_
    case y49 => first | (go_simp; rfl) | (go_simp; done) | rfl
    simp only [Act.put, List.setIfInBounds_toArray, List.set_cons_zero, List.set_cons_succ]
    refine wpAnyF_take (i := 7) (fin := 20) (v := ?v50) rfl (by kernel_rfl) (by kernel_rfl) (by kernel_rfl) (by kernel_rfl) (fun _ _ _ h => h) (yieldsIf_run rfl (fun w' hw' => ?y50)) hS0 ?_
    case y50 => (obtain ⟨z0, z1, z2, z3, z4, z5⟩ := HCELL.out w' hw'; clear hw'; first | (go_simp; rfl) | (go_simp; done))
    simp only [Act.put, List.setIfInBounds_toArray, List.set_cons_zero, List.set_cons_succ]
    refine wpAnyF_take (i := 8) (fin := 20) (v := ?v51) rfl (by kernel_rfl) (by kernel_rfl) (by kernel_rfl) (by kernel_rfl) (fun _ _ _ h => h) (yieldsIf_run rfl (fun w' hw' => ?y51)) hS0 ?_
    case y51 => first | (go_simp; rfl) | (go_simp; done) | rfl
    simp only [Act.put, List.setIfInBounds_toArray, List.set_cons_zero, List.set_cons_succ]
    refine wpAnyF_take (i := 9) (fin := 20) (v := ?v52) rfl (by kernel_rfl) (by kernel_rfl) (by kernel_rfl) (by kernel_rfl) (fun _ _ _ h => h) (yieldsIf_run rfl (fun w' hw' => ?y52)) hS0 ?_
    case y52 => (obtain ⟨z0, z1, z2, z3, z4, z5⟩ := HCELL.out w' hw'; clear hw'; first | (go_simp; rfl) | (go_simp; done))
    simp only [Act.put, List.setIfInBounds_toArray, List.set_cons_zero, List.set_cons_succ]
    refine wpAnyF_take (i := 11) (fin := 20) (v := ?v53) rfl (by kernel_rfl) (by kernel_rfl) (by kernel_rfl) (by kernel_rfl) (fun _ _ _ h => h) (yieldsIf_run rfl (fun w' hw' => ?y53)) hS0 ?_
    case y53 => first | (go_simp; rfl) | (go_simp; done) | rfl
    simp only [Act.put, List.setIfInBounds_toArray, List.set_cons_zero, List.set_cons_succ]
    refine wpAnyF_take (i := 12) (fin := 20) (v := ?v54) rfl (by kernel_rfl) (by kernel_rfl) (by kernel_rfl) (by kernel_rfl) (fun _ _ _ h => h) (yieldsIf_run rfl (fun w' hw' => ?y54)) hS0 ?_
    case y54 => (obtain ⟨z0, z1, z2, z3, z4, z5⟩ := HCELL.out w' hw'; clear hw'; first | (go_simp; rfl) | (go_simp; done))
    simp only [Act.put, List.setIfInBounds_toArray, List.set_cons_zero, List.set_cons_succ]
    refine wpAnyF_take (i := 13) (fin := 20) (v := ?v55) rfl (by kernel_rfl) (by kernel_rfl) (by kernel_rfl) (by kernel_rfl) (fun _ _ _ h => h) (yieldsIf_run rfl (fun w' hw' => ?y55)) hS0 ?_
    case y55 => first | (go_simp; rfl) | (go_simp; done) | rfl
    simp only [Act.put, List.setIfInBounds_toArray, List.set_cons_zero, List.set_cons_succ]
    refine wpAnyF_take (i := 14) (fin := 20) (v := ?v56) rfl (by kernel_rfl) (by kernel_rfl) (by kernel_rfl) (by kernel_rfl) (fun _ _ _ h => h) (yieldsIf_run rfl (fun w' hw' => ?y56)) hS0 ?_
    case y56 => (obtain ⟨z0, z1, z2, z3, z4, z5⟩ := HCELL.out w' hw'; clear hw'; first | (go_simp; rfl) | (go_simp; done))
    simp only [Act.put, List.setIfInBounds_toArray, List.set_cons_zero, List.set_cons_succ]
    refine wpAnyF_take (i := 15) (fin := 20) (v := ?v57) rfl (by kernel_rfl) (by kernel_rfl) (by kernel_rfl) (by kernel_rfl) (fun _ _ _ h => h) (yieldsIf_run rfl (fun w' hw' => ?y57)) hS0 ?_
    case y57 => first | (go_simp; rfl) | (go_simp; done) | rfl
    simp only [Act.put, List.setIfInBounds_toArray, List.set_cons_zero, List.set_cons_succ]
    refine wpAnyF_take (i := 16) (fin := 20) (v := (.int .i64 (300 : Nat))) rfl (by kernel_rfl) (by kernel_rfl) (by kernel_rfl) (by kernel_rfl) (fun _ _ _ h => h) (yieldsIf_run rfl (fun w' hw' => ?y58)) hS0 ?_
    case y58 => first | (clear hw'; go_simp; intro hlt0; omega) | (clear hw'; go_simp; omega) | (go_simp; rfl) | (go_simp; done) | rfl
    simp only [Act.put, List.setIfInBounds_toArray, List.set_cons_zero, List.set_cons_succ]
    refine wpAnyF_take (i := 17) (fin := 20) (v := (.slice (some aa) (300) c)) rfl (by kernel_rfl) (by kernel_rfl) (by kernel_rfl) (by kernel_rfl) (fun _ _ _ h => h) (yieldsIf_run rfl (fun w' hw' => ?y59)) hS0 ?_
    case y59 => first | (go_simp; rfl) | (go_simp; done) | rfl
    simp only [Act.put, List.setIfInBounds_toArray, List.set_cons_zero, List.set_cons_succ]
    refine wpAnyF_do (i := 10) (by kernel_rfl) rfl rfl (fun K hK => ?_)
    go_simp
    obtain ⟨we, hwe⟩ : ∃ we, wd.alloc (.cells #[] 5) = we := ⟨_, rfl⟩
    have hSe : Below w1.heap.size w1 we := hwe ▸ hS0.alloc hS0.size _
    have hoe : we.ownsRow w1.heap.size 5 1 (.slice (some ⟨wd.heap.size, 0, none⟩) 0 0) 0 (bvs []) := hwe ▸ own_zero hS0.size 5
    try rw [hwe]
    refine hK _ _ (fun _ => hSe) ?_
    clear hK K
    try simp only [Act.put, List.setIfInBounds_toArray, List.set_cons_zero, List.set_cons_succ]
    refine wpAnyF_do (i := 18) (by kernel_rfl) rfl rfl (fun K hK => ?_)
    have hbx := (HV.out.below hSe).take (300) (by omega)
    refine wp_appN (m := 300) _ _ rfl rfl hoe rfl hbx (by rw [List.length_take, HL.out]; omega) (by omega) hSe.size ?_
    intro a' c' wa hoa hga
    have hSa : Below w1.heap.size w1 wa := hSe.grown hga hSe.size (fun j hj => (ownsRow_lt hoe j hj).1)
    rw [List.nil_append] at hoa
    simp only [Nat.zero_add] at hoa ⊢
    clear hbx
    refine hK _ _ (fun _ => hSa) ?_
    clear hK K
    try simp only [Act.put, List.setIfInBounds_toArray, List.set_cons_zero, List.set_cons_succ]
    refine wpAnyF_take (i := 19) (fin := 20) (v := ?v60) rfl (by kernel_rfl) (by kernel_rfl) (by kernel_rfl) (by kernel_rfl) (fun _ _ _ h => h) (yieldsIf_run rfl (fun w' hw' => ?y60)) hSa ?_
    case y60 => first | (go_simp; rfl) | (go_simp; done) | rfl
    simp only [Act.put, List.setIfInBounds_toArray, List.set_cons_zero, List.set_cons_succ]
    have hRa := (hSa.block _ HLT.out).trans HR.out
    have hrf : ∀ j : Nat, wa.frozen? ⟨w.heap.size + 1, j, none⟩ = false := fun j => frozen_of_row _ _ _ _ _ hRa
    have hz0 : wa.cell? ⟨w.heap.size + 1, 0, none⟩ = some (.int .i64 0) := by rw [cell_of_row _ _ _ _ _ _ hRa]; rfl
    have hz1 : wa.cell? ⟨w.heap.size + 1, 1, none⟩ = some (.int .i64 0) := by rw [cell_of_row _ _ _ _ _ _ hRa]; rfl
    have hz2 : wa.cell? ⟨w.heap.size + 1, 2, none⟩ = some (.int .i64 0) := by rw [cell_of_row _ _ _ _ _ _ hRa]; rfl
    have hz3 : wa.cell? ⟨w.heap.size + 1, 3, none⟩ = some (.int .i64 0) := by rw [cell_of_row _ _ _ _ _ _ hRa]; rfl
    have hz4 : wa.cell? ⟨w.heap.size + 1, 4, none⟩ = some (.int .i64 0) := by rw [cell_of_row _ _ _ _ _ _ hRa]; rfl
    have hz5 : wa.cell? ⟨w.heap.size + 1, 5, none⟩ = some (.slice none 0 0) := by rw [cell_of_row _ _ _ _ _ _ hRa]; rfl
    refine wpAnyF_do (i := 20) (by kernel_rfl) rfl rfl (fun K hK => ?_)
    go_simp
    refine hK _ _ (fun h => absurd rfl h) ?_
    clear hK K
    refine wpAnyF_done (by kernel_rfl) ?_ _
    refine NoPanic.normal ?_
    go_wp2_with fail
    refine bodyPost_ret (v := .agg #[.int .i64 x0, .int .i64 x1, .int .i64 x2, .int .i64 x3, .int .i64 x4, .slice a' (300) c']) (by simp [results, Tryd.results15, go_sem, hz0, hz1, hz2, hz3, hz4, hz5]) rfl ?_
    have hcz := chg6 wa (w.heap.size + 1) (.int .i64 x0) (.int .i64 x1) (.int .i64 x2) (.int .i64 x3) (.int .i64 x4) (.slice a' (300) c')
    refine ⟨a', 300, c', rfl, ?_, ownsRow_base (ownsRow_chg' hoa hcz (fun k hk h => own_ne hoa hRa (by decide) k hk h)) HBD.out.size, (HBD.out.trans (hSa.mono HBD.out.size)).trans (hcz.below (fun k h => by have : k = w.heap.size + 1 := h; omega) (HBD.out.trans (hSa.mono HBD.out.size)).size)⟩
    rw [HL.out]; omega
  · have hbI : ¬ (300 : Int) < (n : Int) := by omega
    have hbI2 : (n : Int) ≤ (300 : Int) := by omega
    have hcn : (n : Int) ≤ (c : Int) := by have h1 := HV.out.at_.len; omega
    cases a with
    | none =>
      have h0 := HN.out _ _ rfl
      have h1 := HV.out.at_.len
      obtain rfl : c = 0 := h0
      obtain rfl : n = 0 := by omega
      try clear h0
      try clear h1
      go_enter Tryd.func15, Tryd.ntmps15
      go_wp2_with fail
      rw [HW1.out]
      refine wp_region_noPanic ?_
      refine wp_region_F 20 (Below w1.heap.size w1) (by kernel_rfl) ?_
      have hS0 : (Below w1.heap.size w1) w1.drew := (Below.refl _ _).drew
      obtain ⟨wd, hwd⟩ : ∃ wd, w1.drew = wd := ⟨_, rfl⟩
      rw [hwd] at hS0 ⊢
      clear hwd
      refine wpAnyF_take (i := 0) (fin := 20) (v := ?v61) rfl (by kernel_rfl) (by kernel_rfl) (by kernel_rfl) (by kernel_rfl) (fun _ _ _ h => h) (yieldsIf_run rfl (fun w' hw' => ?y61)) hS0 ?_
      case y61 => first | (go_simp; rfl) | (go_simp; done) | rfl
      simp only [Act.put, List.setIfInBounds_toArray, List.set_cons_zero, List.set_cons_succ]
      refine wpAnyF_take (i := 1) (fin := 20) (v := ?v62) rfl (by kernel_rfl) (by kernel_rfl) (by kernel_rfl) (by kernel_rfl) (fun _ _ _ h => h) (yieldsIf_run rfl (fun w' hw' => ?y62)) hS0 ?_
      case y62 => (obtain ⟨z0, z1, z2, z3, z4, z5⟩ := HCELL.out w' hw'; clear hw'; first | (go_simp; rfl) | (go_simp; done))
      simp only [Act.put, List.setIfInBounds_toArray, List.set_cons_zero, List.set_cons_succ]
      refine wpAnyF_take (i := 2) (fin := 20) (v := ?v63) rfl (by kernel_rfl) (by kernel_rfl) (by kernel_rfl) (by kernel_rfl) (fun _ _ _ h => h) (yieldsIf_run rfl (fun w' hw' => ?y63)) hS0 ?_
      case y63 => first | (go_simp; rfl) | (go_simp; done) | rfl
      simp only [Act.put, List.setIfInBounds_toArray, List.set_cons_zero, List.set_cons_succ]
      refine wpAnyF_take (i := 3) (fin := 20) (v := ?v64) rfl (by kernel_rfl) (by kernel_rfl) (by kernel_rfl) (by kernel_rfl) (fun _ _ _ h => h) (yieldsIf_run rfl (fun w' hw' => ?y64)) hS0 ?_
      case y64 => (obtain ⟨z0, z1, z2, z3, z4, z5⟩ := HCELL.out w' hw'; clear hw'; first | (go_simp; rfl) | (go_simp; done))
      simp only [Act.put, List.setIfInBounds_toArray, List.set_cons_zero, List.set_cons_succ]
      refine wpAnyF_take (i := 4) (fin := 20) (v := ?v65) rfl (by kernel_rfl) (by kernel_rfl) (by kernel_rfl) (by kernel_rfl) (fun _ _ _ h => h) (yieldsIf_run rfl (fun w' hw' => ?y65)) hS0 ?_
      case y65 => first | (go_simp; rfl) | (go_simp; done) | rfl
      simp only [Act.put, List.setIfInBounds_toArray, List.set_cons_zero, List.set_cons_succ]
      refine wpAnyF_take (i := 5) (fin := 20) (v := ?v66) rfl (by kernel_rfl) (by kernel_rfl) (by kernel_rfl) (by kernel_rfl) (fun _ _ _ h => h) (yieldsIf_run rfl (fun w' hw' => ?y66)) hS0 ?_
      case y66 => (obtain ⟨z0, z1, z2, z3, z4, z5⟩ := HCELL.out w' hw'; clear hw'; first | (go_simp; rfl) | (go_simp; done))
      simp only [Act.put, List.setIfInBounds_toArray, List.set_cons_zero, List.set_cons_succ]
      refine wpAnyF_take (i := 6) (fin := 20) (v := ?v67) rfl (by kernel_rfl) (by kernel_rfl) (by kernel_rfl) (by kernel_rfl) (fun _ _ _ h => h) (yieldsIf_run rfl (fun w' hw' => ?y67)) hS0 ?_
      case y67 => first | (go_simp; rfl) | (go_simp; done) | rfl
      simp only [Act.put, List.setIfInBounds_toArray, List.set_cons_zero, List.set_cons_succ]
      refine wpAnyF_take (i := 7) (fin := 20) (v := ?v68) rfl (by kernel_rfl) (by kernel_rfl) (by kernel_rfl) (by kernel_rfl) (fun _ _ _ h => h) (yieldsIf_run rfl (fun w' hw' => ?y68)) hS0 ?_
      case y68 => (obtain ⟨z0, z1, z2, z3, z4, z5⟩ := HCELL.out w' hw'; clear hw'; first | (go_simp; rfl) | (go_simp; done))
      simp only [Act.put, List.setIfInBounds_toArray, List.set_cons_zero, List.set_cons_succ]
      refine wpAnyF_take (i := 8) (fin := 20) (v := ?v69) rfl (by kernel_rfl) (by kernel_rfl) (by kernel_rfl) (by kernel_rfl) (fun _ _ _ h => h) (yieldsIf_run rfl (fun w' hw' => ?y69)) hS0 ?_
      case y69 => first | (go_simp; rfl) | (go_simp; done) | rfl
      simp only [Act.put, List.setIfInBounds_toArray, List.set_cons_zero, List.set_cons_succ]
      refine wpAnyF_take (i := 9) (fin := 20) (v := ?v70) rfl (by kernel_rfl) (by kernel_rfl) (by kernel_rfl) (by kernel_rfl) (fun _ _ _ h => h) (yieldsIf_run rfl (fun w' hw' => ?y70)) hS0 ?_
      case y70 => (obtain ⟨z0, z1, z2, z3, z4, z5⟩ := HCELL.out w' hw'; clear hw'; first | (go_simp; rfl) | (go_simp; done))
      simp only [Act.put, List.setIfInBounds_toArray, List.set_cons_zero, List.set_cons_succ]
      refine wpAnyF_take (i := 11) (fin := 20) (v := ?v71) rfl (by kernel_rfl) (by kernel_rfl) (by kernel_rfl) (by kernel_rfl) (fun _ _ _ h => h) (yieldsIf_run rfl (fun w' hw' => ?y71)) hS0 ?_
      case y71 => first | (go_simp; rfl) | (go_simp; done) | rfl
      simp only [Act.put, List.setIfInBounds_toArray, List.set_cons_zero, List.set_cons_succ]
      refine wpAnyF_take (i := 12) (fin := 20) (v := ?v72) rfl (by kernel_rfl) (by kernel_rfl) (by kernel_rfl) (by kernel_rfl) (fun _ _ _ h => h) (yieldsIf_run rfl (fun w' hw' => ?y72)) hS0 ?_
      case y72 => (obtain ⟨z0, z1, z2, z3, z4, z5⟩ := HCELL.out w' hw'; clear hw'; first | (go_simp; rfl) | (go_simp; done))
      simp only [Act.put, List.setIfInBounds_toArray, List.set_cons_zero, List.set_cons_succ]
      refine wpAnyF_take (i := 13) (fin := 20) (v := ?v73) rfl (by kernel_rfl) (by kernel_rfl) (by kernel_rfl) (by kernel_rfl) (fun _ _ _ h => h) (yieldsIf_run rfl (fun w' hw' => ?y73)) hS0 ?_
      case y73 => first | (go_simp; rfl) | (go_simp; done) | rfl
      simp only [Act.put, List.setIfInBounds_toArray, List.set_cons_zero, List.set_cons_succ]
      refine wpAnyF_take (i := 14) (fin := 20) (v := ?v74) rfl (by kernel_rfl) (by kernel_rfl) (by kernel_rfl) (by kernel_rfl) (fun _ _ _ h => h) (yieldsIf_run rfl (fun w' hw' => ?y74)) hS0 ?_
      case y74 => (obtain ⟨z0, z1, z2, z3, z4, z5⟩ := HCELL.out w' hw'; clear hw'; first | (go_simp; rfl) | (go_simp; done))
      simp only [Act.put, List.setIfInBounds_toArray, List.set_cons_zero, List.set_cons_succ]
      refine wpAnyF_take (i := 15) (fin := 20) (v := ?v75) rfl (by kernel_rfl) (by kernel_rfl) (by kernel_rfl) (by kernel_rfl) (fun _ _ _ h => h) (yieldsIf_run rfl (fun w' hw' => ?y75)) hS0 ?_
      case y75 => first | (go_simp; rfl) | (go_simp; done) | rfl
      simp only [Act.put, List.setIfInBounds_toArray, List.set_cons_zero, List.set_cons_succ]
      refine wpAnyF_take (i := 16) (fin := 20) (v := (.int .i64 (0 : Nat))) rfl (by kernel_rfl) (by kernel_rfl) (by kernel_rfl) (by kernel_rfl) (fun _ _ _ h => h) (yieldsIf_run rfl (fun w' hw' => ?y76)) hS0 ?_
      case y76 => first | (clear hw'; go_simp; intro hlt0; omega) | (clear hw'; go_simp; omega) | (go_simp; rfl) | (go_simp; done) | rfl
      simp only [Act.put, List.setIfInBounds_toArray, List.set_cons_zero, List.set_cons_succ]
      refine wpAnyF_take (i := 17) (fin := 20) (v := (.slice none (0) 0)) rfl (by kernel_rfl) (by kernel_rfl) (by kernel_rfl) (by kernel_rfl) (fun _ _ _ h => h) (yieldsIf_run rfl (fun w' hw' => ?y77)) hS0 ?_
      case y77 => first | (go_simp; rfl) | (go_simp; done) | rfl
      simp only [Act.put, List.setIfInBounds_toArray, List.set_cons_zero, List.set_cons_succ]
      refine wpAnyF_do (i := 10) (by kernel_rfl) rfl rfl (fun K hK => ?_)
      go_simp
      obtain ⟨we, hwe⟩ : ∃ we, wd.alloc (.cells #[] 5) = we := ⟨_, rfl⟩
      have hSe : Below w1.heap.size w1 we := hwe ▸ hS0.alloc hS0.size _
      have hoe : we.ownsRow w1.heap.size 5 1 (.slice (some ⟨wd.heap.size, 0, none⟩) 0 0) 0 (bvs []) := hwe ▸ own_zero hS0.size 5
      try rw [hwe]
      refine hK _ _ (fun _ => hSe) ?_
      clear hK K
      try simp only [Act.put, List.setIfInBounds_toArray, List.set_cons_zero, List.set_cons_succ]
      refine wpAnyF_do (i := 18) (by kernel_rfl) rfl rfl (fun K hK => ?_)
      have hbx := (HV.out.below hSe).take 0 (by omega)
      refine wp_appN (m := 0) _ _ rfl rfl hoe rfl hbx (by rw [List.length_take, HL.out]; omega) (by omega) hSe.size ?_
      intro a' c' wa hoa hga
      have hSa : Below w1.heap.size w1 wa := hSe.grown hga hSe.size (fun j hj => (ownsRow_lt hoe j hj).1)
      rw [List.nil_append] at hoa
      simp only [Nat.zero_add] at hoa ⊢
      clear hbx
      refine hK _ _ (fun _ => hSa) ?_
      clear hK K
      try simp only [Act.put, List.setIfInBounds_toArray, List.set_cons_zero, List.set_cons_succ]
      refine wpAnyF_take (i := 19) (fin := 20) (v := ?v78) rfl (by kernel_rfl) (by kernel_rfl) (by kernel_rfl) (by kernel_rfl) (fun _ _ _ h => h) (yieldsIf_run rfl (fun w' hw' => ?y78)) hSa ?_
      case y78 => first | (go_simp; rfl) | (go_simp; done) | rfl
      simp only [Act.put, List.setIfInBounds_toArray, List.set_cons_zero, List.set_cons_succ]
      have hRa := (hSa.block _ HLT.out).trans HR.out
      have hrf : ∀ j : Nat, wa.frozen? ⟨w.heap.size + 1, j, none⟩ = false := fun j => frozen_of_row _ _ _ _ _ hRa
      have hz0 : wa.cell? ⟨w.heap.size + 1, 0, none⟩ = some (.int .i64 0) := by rw [cell_of_row _ _ _ _ _ _ hRa]; rfl
      have hz1 : wa.cell? ⟨w.heap.size + 1, 1, none⟩ = some (.int .i64 0) := by rw [cell_of_row _ _ _ _ _ _ hRa]; rfl
      have hz2 : wa.cell? ⟨w.heap.size + 1, 2, none⟩ = some (.int .i64 0) := by rw [cell_of_row _ _ _ _ _ _ hRa]; rfl
      have hz3 : wa.cell? ⟨w.heap.size + 1, 3, none⟩ = some (.int .i64 0) := by rw [cell_of_row _ _ _ _ _ _ hRa]; rfl
      have hz4 : wa.cell? ⟨w.heap.size + 1, 4, none⟩ = some (.int .i64 0) := by rw [cell_of_row _ _ _ _ _ _ hRa]; rfl
      have hz5 : wa.cell? ⟨w.heap.size + 1, 5, none⟩ = some (.slice none 0 0) := by rw [cell_of_row _ _ _ _ _ _ hRa]; rfl
      refine wpAnyF_do (i := 20) (by kernel_rfl) rfl rfl (fun K hK => ?_)
      go_simp
      refine hK _ _ (fun h => absurd rfl h) ?_
      clear hK K
      refine wpAnyF_done (by kernel_rfl) ?_ _
      refine NoPanic.normal ?_
      go_wp2_with fail
      refine bodyPost_ret (v := .agg #[.int .i64 x0, .int .i64 x1, .int .i64 x2, .int .i64 x3, .int .i64 x4, .slice a' 0 c']) (by simp [results, Tryd.results15, go_sem, hz0, hz1, hz2, hz3, hz4, hz5]) rfl ?_
      have hcz := chg6 wa (w.heap.size + 1) (.int .i64 x0) (.int .i64 x1) (.int .i64 x2) (.int .i64 x3) (.int .i64 x4) (.slice a' 0 c')
      refine ⟨a', 0, c', rfl, ?_, ownsRow_base (ownsRow_chg' hoa hcz (fun k hk h => own_ne hoa hRa (by decide) k hk h)) HBD.out.size, (HBD.out.trans (hSa.mono HBD.out.size)).trans (hcz.below (fun k h => by have : k = w.heap.size + 1 := h; omega) (HBD.out.trans (hSa.mono HBD.out.size)).size)⟩
      rw [HL.out]; omega
    | some aa =>
      go_enter Tryd.func15, Tryd.ntmps15
      go_wp2_with fail
      rw [HW1.out]
      refine wp_region_noPanic ?_
      refine wp_region_F 20 (Below w1.heap.size w1) (by kernel_rfl) ?_
      have hS0 : (Below w1.heap.size w1) w1.drew := (Below.refl _ _).drew
      obtain ⟨wd, hwd⟩ : ∃ wd, w1.drew = wd := ⟨_, rfl⟩
      rw [hwd] at hS0 ⊢
      clear hwd
      refine wpAnyF_take (i := 0) (fin := 20) (v := ?v79) rfl (by kernel_rfl) (by kernel_rfl) (by kernel_rfl) (by kernel_rfl) (fun _ _ _ h => h) (yieldsIf_run rfl (fun w' hw' => ?y79)) hS0 ?_
      case y79 => first | (go_simp; rfl) | (go_simp; done) | rfl
      simp only [Act.put, List.setIfInBounds_toArray, List.set_cons_zero, List.set_cons_succ]
      refine wpAnyF_take (i := 1) (fin := 20) (v := ?v80) rfl (by kernel_rfl) (by kernel_rfl) (by kernel_rfl) (by kernel_rfl) (fun _ _ _ h => h) (yieldsIf_run rfl (fun w' hw' => ?y80)) hS0 ?_
      case y80 => (obtain ⟨z0, z1, z2, z3, z4, z5⟩ := HCELL.out w' hw'; clear hw'; first | (go_simp; rfl) | (go_simp; done))
      simp only [Act.put, List.setIfInBounds_toArray, List.set_cons_zero, List.set_cons_succ]
      refine wpAnyF_take (i := 2) (fin := 20) (v := ?v81) rfl (by kernel_rfl) (by kernel_rfl) (by kernel_rfl) (by kernel_rfl) (fun _ _ _ h => h) (yieldsIf_run rfl (fun w' hw' => ?y81)) hS0 ?_
      case y81 => first | (go_simp; rfl) | (go_simp; done) | rfl
      simp only [Act.put, List.setIfInBounds_toArray, List.set_cons_zero, List.set_cons_succ]
      refine wpAnyF_take (i := 3) (fin := 20) (v := ?v82) rfl (by kernel_rfl) (by kernel_rfl) (by kernel_rfl) (by kernel_rfl) (fun _ _ _ h => h) (yieldsIf_run rfl (fun w' hw' => ?y82)) hS0 ?_
      case y82 => (obtain ⟨z0, z1, z2, z3, z4, z5⟩ := HCELL.out w' hw'; clear hw'; first | (go_simp; rfl) | (go_simp; done))
      simp only [Act.put, List.setIfInBounds_toArray, List.set_cons_zero, List.set_cons_succ]
      refine wpAnyF_take (i := 4) (fin := 20) (v := ?v83) rfl (by kernel_rfl) (by kernel_rfl) (by kernel_rfl) (by kernel_rfl) (fun _ _ _ h => h) (yieldsIf_run rfl (fun w' hw' => ?y83)) hS0 ?_
      case y83 => first | (go_simp; rfl) | (go_simp; done) | rfl
      simp only [Act.put, List.setIfInBounds_toArray, List.set_cons_zero, List.set_cons_succ]
      refine wpAnyF_take (i := 5) (fin := 20) (v := ?v84) rfl (by kernel_rfl) (by kernel_rfl) (by kernel_rfl) (by kernel_rfl) (fun _ _ _ h => h) (yieldsIf_run rfl (fun w' hw' => ?y84)) hS0 ?_
      case y84 => (obtain ⟨z0, z1, z2, z3, z4, z5⟩ := HCELL.out w' hw'; clear hw'; first | (go_simp; rfl) | (go_simp; done))
      simp only [Act.put, List.setIfInBounds_toArray, List.set_cons_zero, List.set_cons_succ]
      refine wpAnyF_take (i := 6) (fin := 20) (v := ?v85) rfl (by kernel_rfl) (by kernel_rfl) (by kernel_rfl) (by kernel_rfl) (fun _ _ _ h => h) (yieldsIf_run rfl (fun w' hw' => ?y85)) hS0 ?_
      case y85 => first | (go_simp; rfl) | (go_simp; done) | rfl
      simp only [Act.put, List.setIfInBounds_toArray, List.set_cons_zero, List.set_cons_succ]
      refine wpAnyF_take (i := 7) (fin := 20) (v := ?v86) rfl (by kernel_rfl) (by kernel_rfl) (by kernel_rfl) (by kernel_rfl) (fun _ _ _ h => h) (yieldsIf_run rfl (fun w' hw' => ?y86)) hS0 ?_
      case y86 => (obtain ⟨z0, z1, z2, z3, z4, z5⟩ := HCELL.out w' hw'; clear hw'; first | (go_simp; rfl) | (go_simp; done))
      simp only [Act.put, List.setIfInBounds_toArray, List.set_cons_zero, List.set_cons_succ]
      refine wpAnyF_take (i := 8) (fin := 20) (v := ?v87) rfl (by kernel_rfl) (by kernel_rfl) (by kernel_rfl) (by kernel_rfl) (fun _ _ _ h => h) (yieldsIf_run rfl (fun w' hw' => ?y87)) hS0 ?_
      case y87 => first | (go_simp; rfl) | (go_simp; done) | rfl
      simp only [Act.put, List.setIfInBounds_toArray, List.set_cons_zero, List.set_cons_succ]
      refine wpAnyF_take (i := 9) (fin := 20) (v := ?v88) rfl (by kernel_rfl) (by kernel_rfl) (by kernel_rfl) (by kernel_rfl) (fun _ _ _ h => h) (yieldsIf_run rfl (fun w' hw' => ?y88)) hS0 ?_
      case y88 => (obtain ⟨z0, z1, z2, z3, z4, z5⟩ := HCELL.out w' hw'; clear hw'; first | (go_simp; rfl) | (go_simp; done))
      simp only [Act.put, List.setIfInBounds_toArray, List.set_cons_zero, List.set_cons_succ]
      refine wpAnyF_take (i := 11) (fin := 20) (v := ?v89) rfl (by kernel_rfl) (by kernel_rfl) (by kernel_rfl) (by kernel_rfl) (fun _ _ _ h => h) (yieldsIf_run rfl (fun w' hw' => ?y89)) hS0 ?_
      case y89 => first | (go_simp; rfl) | (go_simp; done) | rfl
      simp only [Act.put, List.setIfInBounds_toArray, List.set_cons_zero, List.set_cons_succ]
      refine wpAnyF_take (i := 12) (fin := 20) (v := ?v90) rfl (by kernel_rfl) (by kernel_rfl) (by kernel_rfl) (by kernel_rfl) (fun _ _ _ h => h) (yieldsIf_run rfl (fun w' hw' => ?y90)) hS0 ?_
      case y90 => (obtain ⟨z0, z1, z2, z3, z4, z5⟩ := HCELL.out w' hw'; clear hw'; first | (go_simp; rfl) | (go_simp; done))
      simp only [Act.put, List.setIfInBounds_toArray, List.set_cons_zero, List.set_cons_succ]
      refine wpAnyF_take (i := 13) (fin := 20) (v := ?v91) rfl (by kernel_rfl) (by kernel_rfl) (by kernel_rfl) (by kernel_rfl) (fun _ _ _ h => h) (yieldsIf_run rfl (fun w' hw' => ?y91)) hS0 ?_
      case y91 => first | (go_simp; rfl) | (go_simp; done) | rfl
      simp only [Act.put, List.setIfInBounds_toArray, List.set_cons_zero, List.set_cons_succ]
      refine wpAnyF_take (i := 14) (fin := 20) (v := ?v92) rfl (by kernel_rfl) (by kernel_rfl) (by kernel_rfl) (by kernel_rfl) (fun _ _ _ h => h) (yieldsIf_run rfl (fun w' hw' => ?y92)) hS0 ?_
      case y92 => (obtain ⟨z0, z1, z2, z3, z4, z5⟩ := HCELL.out w' hw'; clear hw'; first | (go_simp; rfl) | (go_simp; done))
      simp only [Act.put, List.setIfInBounds_toArray, List.set_cons_zero, List.set_cons_succ]
      refine wpAnyF_take (i := 15) (fin := 20) (v := ?v93) rfl (by kernel_rfl) (by kernel_rfl) (by kernel_rfl) (by kernel_rfl) (fun _ _ _ h => h) (yieldsIf_run rfl (fun w' hw' => ?y93)) hS0 ?_
      case y93 => first | (go_simp; rfl) | (go_simp; done) | rfl
      simp only [Act.put, List.setIfInBounds_toArray, List.set_cons_zero, List.set_cons_succ]
      refine wpAnyF_take (i := 16) (fin := 20) (v := (.int .i64 (n : Nat))) rfl (by kernel_rfl) (by kernel_rfl) (by kernel_rfl) (by kernel_rfl) (fun _ _ _ h => h) (yieldsIf_run rfl (fun w' hw' => ?y94)) hS0 ?_
      case y94 => first | (clear hw'; go_simp; intro hlt0; omega) | (clear hw'; go_simp; omega) | (go_simp; rfl) | (go_simp; done) | rfl
      simp only [Act.put, List.setIfInBounds_toArray, List.set_cons_zero, List.set_cons_succ]
      refine wpAnyF_take (i := 17) (fin := 20) (v := (.slice (some aa) (n) c)) rfl (by kernel_rfl) (by kernel_rfl) (by kernel_rfl) (by kernel_rfl) (fun _ _ _ h => h) (yieldsIf_run rfl (fun w' hw' => ?y95)) hS0 ?_
      case y95 => first | (go_simp; rfl) | (go_simp; done) | rfl
      simp only [Act.put, List.setIfInBounds_toArray, List.set_cons_zero, List.set_cons_succ]
      refine wpAnyF_do (i := 10) (by kernel_rfl) rfl rfl (fun K hK => ?_)
      go_simp
      obtain ⟨we, hwe⟩ : ∃ we, wd.alloc (.cells #[] 5) = we := ⟨_, rfl⟩
      have hSe : Below w1.heap.size w1 we := hwe ▸ hS0.alloc hS0.size _
      have hoe : we.ownsRow w1.heap.size 5 1 (.slice (some ⟨wd.heap.size, 0, none⟩) 0 0) 0 (bvs []) := hwe ▸ own_zero hS0.size 5
      try rw [hwe]
      refine hK _ _ (fun _ => hSe) ?_
      clear hK K
      try simp only [Act.put, List.setIfInBounds_toArray, List.set_cons_zero, List.set_cons_succ]
      refine wpAnyF_do (i := 18) (by kernel_rfl) rfl rfl (fun K hK => ?_)
      have hbx := (HV.out.below hSe).take (n) (by omega)
      refine wp_appN (m := n) _ _ rfl rfl hoe rfl hbx (by rw [List.length_take, HL.out]; omega) (by omega) hSe.size ?_
      intro a' c' wa hoa hga
      have hSa : Below w1.heap.size w1 wa := hSe.grown hga hSe.size (fun j hj => (ownsRow_lt hoe j hj).1)
      rw [List.nil_append] at hoa
      simp only [Nat.zero_add] at hoa ⊢
      clear hbx
      refine hK _ _ (fun _ => hSa) ?_
      clear hK K
      try simp only [Act.put, List.setIfInBounds_toArray, List.set_cons_zero, List.set_cons_succ]
      refine wpAnyF_take (i := 19) (fin := 20) (v := ?v96) rfl (by kernel_rfl) (by kernel_rfl) (by kernel_rfl) (by kernel_rfl) (fun _ _ _ h => h) (yieldsIf_run rfl (fun w' hw' => ?y96)) hSa ?_
      case y96 => first | (go_simp; rfl) | (go_simp; done) | rfl
      simp only [Act.put, List.setIfInBounds_toArray, List.set_cons_zero, List.set_cons_succ]
      have hRa := (hSa.block _ HLT.out).trans HR.out
      have hrf : ∀ j : Nat, wa.frozen? ⟨w.heap.size + 1, j, none⟩ = false := fun j => frozen_of_row _ _ _ _ _ hRa
      have hz0 : wa.cell? ⟨w.heap.size + 1, 0, none⟩ = some (.int .i64 0) := by rw [cell_of_row _ _ _ _ _ _ hRa]; rfl
      have hz1 : wa.cell? ⟨w.heap.size + 1, 1, none⟩ = some (.int .i64 0) := by rw [cell_of_row _ _ _ _ _ _ hRa]; rfl
      have hz2 : wa.cell? ⟨w.heap.size + 1, 2, none⟩ = some (.int .i64 0) := by rw [cell_of_row _ _ _ _ _ _ hRa]; rfl
      have hz3 : wa.cell? ⟨w.heap.size + 1, 3, none⟩ = some (.int .i64 0) := by rw [cell_of_row _ _ _ _ _ _ hRa]; rfl
      have hz4 : wa.cell? ⟨w.heap.size + 1, 4, none⟩ = some (.int .i64 0) := by rw [cell_of_row _ _ _ _ _ _ hRa]; rfl
      have hz5 : wa.cell? ⟨w.heap.size + 1, 5, none⟩ = some (.slice none 0 0) := by rw [cell_of_row _ _ _ _ _ _ hRa]; rfl
      refine wpAnyF_do (i := 20) (by kernel_rfl) rfl rfl (fun K hK => ?_)
      go_simp
      refine hK _ _ (fun h => absurd rfl h) ?_
      clear hK K
      refine wpAnyF_done (by kernel_rfl) ?_ _
      refine NoPanic.normal ?_
      go_wp2_with fail
      refine bodyPost_ret (v := .agg #[.int .i64 x0, .int .i64 x1, .int .i64 x2, .int .i64 x3, .int .i64 x4, .slice a' (n) c']) (by simp [results, Tryd.results15, go_sem, hz0, hz1, hz2, hz3, hz4, hz5]) rfl ?_
      have hcz := chg6 wa (w.heap.size + 1) (.int .i64 x0) (.int .i64 x1) (.int .i64 x2) (.int .i64 x3) (.int .i64 x4) (.slice a' (n) c')
      refine ⟨a', n, c', rfl, ?_, ownsRow_base (ownsRow_chg' hoa hcz (fun k hk h => own_ne hoa hRa (by decide) k hk h)) HBD.out.size, (HBD.out.trans (hSa.mono HBD.out.size)).trans (hcz.below (fun k h => by have : k = w.heap.size + 1 := h; omega) (HBD.out.trans (hSa.mono HBD.out.size)).size)⟩
      rw [HL.out]; omega

set_option maxRecDepth 100000 in
set_option maxHeartbeats 1000000 in
theorem bytesSame_any {w : World} (L : List (List UInt8)) (v u : Value) (hv : SecsAt w v L) (hu : SecsAt w u L) (hM0 : L.length < 1000000000) :
    Calls Tryd.prog 32 #[v, u] w fun e w' => e = .returned (.bool true) ∧ Below w.heap.size w w' := by
  obtain ⟨va, vc, rfl⟩ := hv.form
  obtain ⟨ua, uc, rfl⟩ := hu.form
  obtain ⟨M, hM⟩ : ∃ M, L.length = M := ⟨_, rfl⟩
  rw [hM] at hv hu hM0 ⊢
  have HM := Lib.hid hM
  have HV := Lib.hid hv
  have HU := Lib.hid hu
  clear hM hv hu
  go_enter Tryd.func32, Tryd.ntmps32
  go_wp2_with fail
  go_loopw [5] (fun iv wr => ∃ i : Nat, i ≤ M ∧ iv = .int .i64 (i : Int) ∧ Below w.heap.size w wr) (fun iv _ => M - (intOf iv).toNat)
  case atStart => exact ⟨0, Nat.zero_le _, rfl, Below.refl _ _⟩
  case round =>
    obtain ⟨i, hi, rfl, hB⟩ := hrel
    have HB := Lib.hid hB
    by_cases hlt : i < M
    · have hiM : (i : Int) < (M : Int) := by omega
      have hv := HV.out.below hB
      have hu := HU.out.below hB
      obtain ⟨vg, vo, x, n, c, rfl, hcv, hsv⟩ := hv.get (i := i) (by rw [HM.out]; exact hlt)
      obtain ⟨ug, uo, y, m, d, rfl, hcu, hsu⟩ := hu.get (i := i) (by rw [HM.out]; exact hlt)
      obtain ⟨b, hb⟩ : ∃ b, L[i]'(by rw [HM.out]; exact hlt) = b := ⟨_, rfl⟩
      rw [hb] at hsv hsu
      have s1 := fun n => (hsv.at_.drewN n).str
      have s2 := fun n => (hsu.at_.drewN n).str
      clear hv hu hb hsv hsu hB
      go_wp2_with fail
      go_quiet (fail)
      go_wp2_with fail
      go_roundw
      case rel => exact ⟨i + 1, by omega, by go_num, HB.out.trans (below_drewN2 _ _ _)⟩
      case measure => simp [intOf]; omega
    · obtain rfl : i = M := by omega
      go_wp2_with fail
      go_ret
      exact ⟨rfl, HB.out⟩

end Go.Proofs.YtloaenknhkfaeaaDoor
