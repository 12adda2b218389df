/- The spool: Clone; lists of entries compared; the reference's Same; The reference's Same. -/
import Derived.Test.YtnmdgjodbikndaaEnq
import Derived.Test.YtnmdgjodbikndaaS23
import Derived.Test.YtnmdgjodbikndaaS10
import Derived.Shelf.SlMaps.Clone
namespace Go.Proofs.Ytnmdgjodbikndaa
open Go.RowKit
set_option linter.unusedVariables false
set_option linter.unusedSimpArgs false

set_option maxRecDepth 100000 in
set_option maxHeartbeats 2000000 in
theorem MapsClone_any (b : Nat) (es : Array MapEntry) (clock : Nat) (w : World) (hb : w.heap[b]? = some (.map es clock)) :
    Calls Try.prog 43 #[.map (some b)] w fun e w' => e = .returned (.map (some w.heap.size)) ∧ w' = w.alloc (.map es clock) := by
  have hq := fun w => run_eql_map_nil_sl (P := Try.prog) w 76 _ _ (some b) Try.underlying76
  go_enter Try.func43, Try.ntmps43
  go_wp2
  rw [run_callFunc_extern Try.func62 (by kernel_rfl) (by kernel_rfl) (by kernel_rfl) (e := Extern.MapsClone.clone) (by kernel_rfl), run_maps_clone_sl w 76 hb]
  simp only [Result.andThen]
  rw [Oper.upon_value]
  go_wp2
  rw [run_typeAssert_map_sl _ 76 20 _ _ _ Try.underlying76]
  simp only [Result.andThen]
  rw [Oper.upon_value]
  go_wp2
  go_ret
  exact ⟨rfl, rfl⟩
set_option maxRecDepth 100000 in
set_option maxHeartbeats 2000000 in
theorem Clone_any {w : World} {b m : Nat} {S : SpD} (h : SpAt w b m S) :
    Calls Try.prog 27 #[.pointer (some ⟨b, 0, none⟩)] w fun e w' => ∃ b' m', e = .returned (.pointer (some ⟨b', 0, none⟩)) ∧ SpAt w' b' m' S ∧ w.heap.size ≤ b' ∧ w.heap.size ≤ m' ∧ Below w.heap.size w w' := by
  have hbl := h.lt
  have hml := h.hm.lt
  obtain ⟨es, clock, hm, hE, hL, hA⟩ := h.hm.ex
  obtain ⟨w1, hw1⟩ : ∃ w1, w.alloc (.cells #[.int .i64 S.budget, .int .i64 (S.size : Int), .int .i64 S.next, .map (some m)] 78) = w1 := ⟨_, rfl⟩
  have hb1 : Below w.heap.size w w1 := hw1 ▸ (Below.refl _ w).alloc (Nat.le_refl _) _
  have hn1 : w1.heap[w.heap.size]? = some (.cells #[.int .i64 S.budget, .int .i64 (S.size : Int), .int .i64 S.next, .map (some m)] 78 (0, 0)) := by rw [← hw1]; exact heap_alloc_new _ _
  have hs1 : w1.heap.size = w.heap.size + 1 := by rw [← hw1, World.size_alloc]
  obtain ⟨c0, c1, c2, c3⟩ := h.cells
  have HW1 := Lib.hid hw1
  have HN1 := Lib.hid hn1
  have HM1 := Lib.hid ((hb1.block m hml).trans hm)
  have HB1 := Lib.hid hb1
  have HS1 := Lib.hid hs1
  have HK := Lib.hid (fun (w' : World) (m' : Nat) (hq : w'.heap[m']? = some (.map es clock)) => (⟨es, clock, hq, hE, hL, hA⟩ : KMS idKey w' m' S.kl))
  have c3b := ((h.below hb1).cells).2.2.2
  clear hw1 hn1 hs1 hE hL hA hm h
  go_enter Try.func27, Try.ntmps27
  go_wp2_with fail
  try rw [HW1.out]
  refine (MapsClone_any m es clock w1 HM1.out).mono ?_
  rintro e w2 ⟨rfl, hw2⟩
  have hb2 : Below w1.heap.size w1 w2 := by rw [hw2]; exact (Below.refl _ _).alloc (Nat.le_refl _) _
  have hn2 := (hb2.block _ (by have := HS1.out; omega)).trans HN1.out
  have hm2 : w2.heap[w1.heap.size]? = some (.map es clock) := by rw [hw2]; exact heap_alloc_new _ _
  have f2 := frozen_of_row w2 _ 3 _ _ hn2
  have d3 := cell_of_row w2 _ 3 _ _ _ hn2
  simp only [List.getElem?_toArray, List.getElem?_cons_zero, List.getElem?_cons_succ] at d3
  have hn3 : (w2.setCell ⟨w.heap.size, 3, none⟩ (.map (some w1.heap.size))).heap[w.heap.size]? = some (.cells #[.int .i64 S.budget, .int .i64 (S.size : Int), .int .i64 S.next, .map (some w1.heap.size)] 78 (0, 0)) := by
    rw [heap_setCell_same _ _ _ _ _ _ hn2]; simp
  have hm3 : (w2.setCell ⟨w.heap.size, 3, none⟩ (.map (some w1.heap.size))).heap[w1.heap.size]? = some (.map es clock) := (heap_setCell_other w2 ⟨w.heap.size, 3, none⟩ _ _ (show w1.heap.size ≠ w.heap.size by have := HS1.out; omega)).trans hm2
  have hB3 : Below w.heap.size w (w2.setCell ⟨w.heap.size, 3, none⟩ (.map (some w1.heap.size))) := (HB1.out.trans (hb2.mono HB1.out.size)).setCell (Nat.le_refl _) _
  have HE := Lib.hid (show SpAt (w2.setCell ⟨w.heap.size, 3, none⟩ (.map (some w1.heap.size))) w.heap.size w1.heap.size S ∧ Below w.heap.size w (w2.setCell ⟨w.heap.size, 3, none⟩ (.map (some w1.heap.size))) from ⟨⟨hn3, HK.out _ _ hm3⟩, hB3⟩)
  have HL := Lib.hid (show w.heap.size ≤ w1.heap.size by have := HS1.out; omega)
  clear hn3 hm3 hB3 hw2 hb2 hn2 hm2
  go_wp2_with fail
  exact bodyPost_ret (v := .pointer (some ⟨w.heap.size, 0, none⟩)) (by simp [results, Try.results27, go_sem]) rfl ⟨w.heap.size, w1.heap.size, rfl, HE.out.1, Nat.le_refl _, HL.out, HE.out.2⟩
set_option maxRecDepth 100000 in
set_option maxHeartbeats 2000000 in
theorem SlEqEnt {w : World} (v u : Value) (L K : List ArtD) (hv : ListAt entE w v L) (hu : ListAt entE w u K) (hl : L.length < 1000000) (hk : K.length < 1000000)
    (hL : ∀ x ∈ L, (-9223372036854775808 ≤ x.arr ∧ x.arr ≤ 9223372036854775807) ∧ x.text.size ≤ 65536) (hK : ∀ x ∈ K, (-9223372036854775808 ≤ x.arr ∧ x.arr ≤ 9223372036854775807) ∧ x.text.size ≤ 65536) :
    Calls Try.prog 50 #[v, u] w fun e w' => e = .returned (.bool (decide (L.map entK = K.map entK))) ∧ Below w.heap.size w w' := by
  obtain ⟨va, vc, rfl⟩ := hv.form
  obtain ⟨ua, uc, rfl⟩ := hu.form
  obtain ⟨N, hN⟩ : ∃ N, L.length = N := ⟨_, rfl⟩
  obtain ⟨M, hM⟩ : ∃ M, K.length = M := ⟨_, rfl⟩
  obtain ⟨r, hr⟩ : ∃ r, decide (L.map entK = K.map entK) = r := ⟨_, rfl⟩
  rw [hN] at hv hl ⊢
  rw [hM] at hu hk ⊢
  rw [hr]
  have HV := Lib.hid hv
  have HU := Lib.hid hu
  have HN := Lib.hid hN
  have HM := Lib.hid hM
  have HRR := Lib.hid hr
  have HLL := Lib.hid hL
  have HKK := Lib.hid hK
  clear hv hu hN hM hr hL hK
  go_enter Try.func50, Try.ntmps50
  by_cases hNM : N = M
  case neg =>
    have hne : ((N : Int) != (M : Int)) = true := by simp; omega
    have hrf : r = false := by
      rw [← HRR.out]
      refine decide_eq_false (fun h => hNM ?_)
      have := congrArg List.length h
      rw [List.length_map, List.length_map, HN.out, HM.out] at this
      exact this
    subst hrf
    clear hNM
    go_wp2_with fail
    exact bodyPost_ret (v := .bool false) (by simp [results, Try.results50, go_sem]) rfl ⟨rfl, Below.refl _ _⟩
  subst hNM
  have hne : ((N : Int) != (N : Int)) = false := by simp
  go_wp2_with fail
  clear hne
  go_loopw [13] (fun iv wr => ∃ i : Nat, i ≤ N ∧ iv = .int .i64 (i : Int) ∧ Below w.heap.size w wr ∧ Hid ((L.map entK).take i = (K.map entK).take i)) (fun iv _ => N - (intOf iv).toNat)
  case atStart => exact ⟨0, Nat.zero_le _, rfl, Below.refl _ _, Lib.hid rfl⟩
  case round =>
    obtain ⟨i, hi, rfl, hB, HP⟩ := hrel
    have HB := Lib.hid hB
    clear hB
    by_cases hlt : i < N
    · have hiI : (i : Int) < (N : Int) := by omega
      have hiI0 : (0 : Int) ≤ (i : Int) := by omega
      have hlt1 : i < L.length := by rw [HN.out]; exact hlt
      have hlt2 : i < K.length := by rw [HM.out]; exact hlt
      obtain ⟨g, off, rfl, hg, hr⟩ := (HV.out.below HB.out).get hlt1
      obtain ⟨g2, off2, rfl, hg2, hr2⟩ := (HU.out.below HB.out).get hlt2
      have hx0 := HLL.out _ (List.getElem_mem hlt1)
      have hy0 := HKK.out _ (List.getElem_mem hlt2)
      obtain ⟨x, hx⟩ : ∃ x, L[i] = x := ⟨_, rfl⟩
      obtain ⟨y, hy⟩ : ∃ y, K[i] = y := ⟨_, rfl⟩
      have hex : (L.map entK)[i]? = some (entK x) := by rw [List.getElem?_map, List.getElem?_eq_getElem hlt1, hx]; rfl
      have hey : (K.map entK)[i]? = some (entK y) := by rw [List.getElem?_map, List.getElem?_eq_getElem hlt2, hy]; rfl
      rw [hx] at hr hx0
      rw [hy] at hr2 hy0
      have hr : wr.rangeAt g (off + i * 34) (entC x) := hr
      have hr2 : wr.rangeAt g2 (off2 + i * 34) (entC y) := hr2
      have HR := Lib.hid (show ∀ w', Below wr.heap.size wr w' → w'.rangeAt g (off + i * 34) (entC x) ∧ w'.rangeAt g2 (off2 + i * 34) (entC y) from fun w' hw' => ⟨fun j u hu => (hw'.cell (p := ⟨g, off + i * 34 + j, none⟩) hg).trans (hr j u hu), fun j u hu => (hw'.cell (p := ⟨g2, off2 + i * 34 + j, none⟩) hg2).trans (hr2 j u hu)⟩)
      have HQ := Lib.hid (fun w' => neq_Ent hx0.1 hx0.2 hy0.1 hy0.2 w')
      have HEX := Lib.hid hex
      have HEY := Lib.hid hey
      clear hr hr2 hx hy hg hg2 hex hey hx0 hy0
      go_wp2_with fail
      by_cases hxy : entK x = entK y
      · have HEQ := Lib.hid (fun w' => (HQ.out w').trans (by rw [decide_eq_true hxy]; try rfl))
        have HP2 := Lib.hid (show (L.map entK).take (i + 1) = (K.map entK).take (i + 1) by rw [List.take_add_one, List.take_add_one, HP.out, HEX.out, HEY.out, hxy])
        clear hxy
        refine wp_region_noPanic ?_
        refine wp_region_H (Below wr.heap.size wr) (by kernel_rfl) ?_
        have hS0 : (Below wr.heap.size wr) wr.drew := (Below.refl _ _).drew
        obtain ⟨wd, hwd⟩ : ∃ wd, wr.drew = wd := ⟨_, rfl⟩
        rw [hwd] at hS0 ⊢
        clear hwd
        refine wpAnyH_takeI (i := 0) (v := ?v1) rfl (by kernel_rfl) (by kernel_rfl) (by kernel_rfl) (fun _ _ _ h => h) (yieldsIf_run rfl (fun w' hw' => ?y1)) hS0 ?_
        case y1 => first | (go_simp; rfl) | (go_simp; done) | rfl
        simp only [Act.put, List.setIfInBounds_toArray, List.set_cons_zero, List.set_cons_succ]
        refine wpAnyH_takeI (i := 1) (v := ?v2) rfl (by kernel_rfl) (by kernel_rfl) (by kernel_rfl) (fun _ _ _ h => h) (yieldsIf_run rfl (fun w' hw' => ?y2)) hS0 ?_
        case y2 => first | (go_simp; rfl) | (go_simp; done) | rfl
        simp only [Act.put, List.setIfInBounds_toArray, List.set_cons_zero, List.set_cons_succ]
        refine wpAnyH_takeI (i := 2) (v := ?v3) rfl (by kernel_rfl) (by kernel_rfl) (by kernel_rfl) (fun _ _ _ h => h) (yieldsIf_run rfl (fun w' hw' => ?y3)) hS0 ?_
        case y3 => first | (go_simp; rfl) | (go_simp; done) | rfl
        simp only [Act.put, List.setIfInBounds_toArray, List.set_cons_zero, List.set_cons_succ]
        refine wpAnyH_takeI (i := 3) (v := .agg (entC x).toArray) rfl (by kernel_rfl) (by kernel_rfl) (by kernel_rfl) (fun _ _ _ h => h) (yieldsIf_load_mid rfl 44 (.tmp 18) rfl g (off + i * 34) rfl (entC x) _ (fun w' hw' => (HR.out w' hw').1) Try.underlying44 rfl (sizeEntL x)) hS0 ?_
        simp only [Act.put, List.setIfInBounds_toArray, List.set_cons_zero, List.set_cons_succ]
        refine wpAnyH_takeI (i := 4) (v := ?v4) rfl (by kernel_rfl) (by kernel_rfl) (by kernel_rfl) (fun _ _ _ h => h) (yieldsIf_run rfl (fun w' hw' => ?y4)) hS0 ?_
        case y4 => first | (go_simp; rfl) | (go_simp; done) | rfl
        simp only [Act.put, List.setIfInBounds_toArray, List.set_cons_zero, List.set_cons_succ]
        refine wpAnyH_takeI (i := 5) (v := ?v5) rfl (by kernel_rfl) (by kernel_rfl) (by kernel_rfl) (fun _ _ _ h => h) (yieldsIf_run rfl (fun w' hw' => ?y5)) hS0 ?_
        case y5 => first | (go_simp; rfl) | (go_simp; done) | rfl
        simp only [Act.put, List.setIfInBounds_toArray, List.set_cons_zero, List.set_cons_succ]
        refine wpAnyH_takeI (i := 6) (v := ?v6) rfl (by kernel_rfl) (by kernel_rfl) (by kernel_rfl) (fun _ _ _ h => h) (yieldsIf_run rfl (fun w' hw' => ?y6)) hS0 ?_
        case y6 => first | (go_simp; rfl) | (go_simp; done) | rfl
        simp only [Act.put, List.setIfInBounds_toArray, List.set_cons_zero, List.set_cons_succ]
        refine wpAnyH_takeI (i := 7) (v := .agg (entC y).toArray) rfl (by kernel_rfl) (by kernel_rfl) (by kernel_rfl) (fun _ _ _ h => h) (yieldsIf_load_mid rfl 44 (.tmp 22) rfl g2 (off2 + i * 34) rfl (entC y) _ (fun w' hw' => (HR.out w' hw').2) Try.underlying44 rfl (sizeEntL y)) hS0 ?_
        simp only [Act.put, List.setIfInBounds_toArray, List.set_cons_zero, List.set_cons_succ]
        refine wpAnyH_takeI (i := 8) (v := .bool false) rfl (by kernel_rfl) (by kernel_rfl) (by kernel_rfl) (fun _ _ _ h => h) (yieldsIf_run rfl (fun w' hw' => op_neq 44 (.tmp 19) (.tmp 23) 44 rfl rfl rfl guardEnt (HEQ.out w'))) hS0 ?_
        simp only [Act.put, List.setIfInBounds_toArray, List.set_cons_zero, List.set_cons_succ]
        refine wpAnyH_done (by kernel_rfl) ?_ _
        refine NoPanic.normal ?_
        go_wp2_with fail
        go_roundw
        case rel => exact ⟨i + 1, by omega, by go_num, HB.out.trans (hS0.mono HB.out.size), HP2⟩
        case measure => simp [intOf]; omega
      · have HEQ := Lib.hid (fun w' => (HQ.out w').trans (by rw [decide_eq_false hxy]; try rfl))
        have hrf : r = false := by
          rw [← HRR.out]
          refine decide_eq_false (fun h => hxy ?_)
          have h2 := HEX.out
          rw [h, HEY.out] at h2
          exact (Option.some.inj h2).symm
        subst hrf
        clear hxy
        refine wp_region_noPanic ?_
        refine wp_region_H (Below wr.heap.size wr) (by kernel_rfl) ?_
        have hS0 : (Below wr.heap.size wr) wr.drew := (Below.refl _ _).drew
        obtain ⟨wd, hwd⟩ : ∃ wd, wr.drew = wd := ⟨_, rfl⟩
        rw [hwd] at hS0 ⊢
        clear hwd
        refine wpAnyH_takeI (i := 0) (v := ?v7) rfl (by kernel_rfl) (by kernel_rfl) (by kernel_rfl) (fun _ _ _ h => h) (yieldsIf_run rfl (fun w' hw' => ?y7)) hS0 ?_
        case y7 => first | (go_simp; rfl) | (go_simp; done) | rfl
        simp only [Act.put, List.setIfInBounds_toArray, List.set_cons_zero, List.set_cons_succ]
        refine wpAnyH_takeI (i := 1) (v := ?v8) rfl (by kernel_rfl) (by kernel_rfl) (by kernel_rfl) (fun _ _ _ h => h) (yieldsIf_run rfl (fun w' hw' => ?y8)) hS0 ?_
        case y8 => first | (go_simp; rfl) | (go_simp; done) | rfl
        simp only [Act.put, List.setIfInBounds_toArray, List.set_cons_zero, List.set_cons_succ]
        refine wpAnyH_takeI (i := 2) (v := ?v9) rfl (by kernel_rfl) (by kernel_rfl) (by kernel_rfl) (fun _ _ _ h => h) (yieldsIf_run rfl (fun w' hw' => ?y9)) hS0 ?_
        case y9 => first | (go_simp; rfl) | (go_simp; done) | rfl
        simp only [Act.put, List.setIfInBounds_toArray, List.set_cons_zero, List.set_cons_succ]
        refine wpAnyH_takeI (i := 3) (v := .agg (entC x).toArray) rfl (by kernel_rfl) (by kernel_rfl) (by kernel_rfl) (fun _ _ _ h => h) (yieldsIf_load_mid rfl 44 (.tmp 18) rfl g (off + i * 34) rfl (entC x) _ (fun w' hw' => (HR.out w' hw').1) Try.underlying44 rfl (sizeEntL x)) hS0 ?_
        simp only [Act.put, List.setIfInBounds_toArray, List.set_cons_zero, List.set_cons_succ]
        refine wpAnyH_takeI (i := 4) (v := ?v10) rfl (by kernel_rfl) (by kernel_rfl) (by kernel_rfl) (fun _ _ _ h => h) (yieldsIf_run rfl (fun w' hw' => ?y10)) hS0 ?_
        case y10 => first | (go_simp; rfl) | (go_simp; done) | rfl
        simp only [Act.put, List.setIfInBounds_toArray, List.set_cons_zero, List.set_cons_succ]
        refine wpAnyH_takeI (i := 5) (v := ?v11) rfl (by kernel_rfl) (by kernel_rfl) (by kernel_rfl) (fun _ _ _ h => h) (yieldsIf_run rfl (fun w' hw' => ?y11)) hS0 ?_
        case y11 => first | (go_simp; rfl) | (go_simp; done) | rfl
        simp only [Act.put, List.setIfInBounds_toArray, List.set_cons_zero, List.set_cons_succ]
        refine wpAnyH_takeI (i := 6) (v := ?v12) rfl (by kernel_rfl) (by kernel_rfl) (by kernel_rfl) (fun _ _ _ h => h) (yieldsIf_run rfl (fun w' hw' => ?y12)) hS0 ?_
        case y12 => first | (go_simp; rfl) | (go_simp; done) | rfl
        simp only [Act.put, List.setIfInBounds_toArray, List.set_cons_zero, List.set_cons_succ]
        refine wpAnyH_takeI (i := 7) (v := .agg (entC y).toArray) rfl (by kernel_rfl) (by kernel_rfl) (by kernel_rfl) (fun _ _ _ h => h) (yieldsIf_load_mid rfl 44 (.tmp 22) rfl g2 (off2 + i * 34) rfl (entC y) _ (fun w' hw' => (HR.out w' hw').2) Try.underlying44 rfl (sizeEntL y)) hS0 ?_
        simp only [Act.put, List.setIfInBounds_toArray, List.set_cons_zero, List.set_cons_succ]
        refine wpAnyH_takeI (i := 8) (v := .bool true) rfl (by kernel_rfl) (by kernel_rfl) (by kernel_rfl) (fun _ _ _ h => h) (yieldsIf_run rfl (fun w' hw' => op_neq 44 (.tmp 19) (.tmp 23) 44 rfl rfl rfl guardEnt (HEQ.out w'))) hS0 ?_
        simp only [Act.put, List.setIfInBounds_toArray, List.set_cons_zero, List.set_cons_succ]
        refine wpAnyH_done (by kernel_rfl) ?_ _
        refine NoPanic.normal ?_
        go_wp2_with fail
        exact bodyPost_ret (v := .bool false) (by simp [results, Try.results50, go_sem]) rfl ⟨rfl, HB.out.trans (hS0.mono HB.out.size)⟩
    · obtain rfl : N = i := by omega
      have hrt : r = true := by
        rw [← HRR.out]
        have h := HP.out
        rw [List.take_of_length_le (by rw [List.length_map, HN.out]; exact Nat.le_refl _), List.take_of_length_le (by rw [List.length_map, HM.out]; exact Nat.le_refl _)] at h
        exact decide_eq_true h
      subst hrt
      go_wp2_with fail
      exact bodyPost_ret (v := .bool true) (by simp [results, Try.results50, go_sem]) rfl ⟨rfl, HB.out⟩
end Go.Proofs.Ytnmdgjodbikndaa

namespace Go.Proofs.Ytnmdgjodbikndaa
open Go.RowKit
set_option linter.unusedVariables false
set_option linter.unusedSimpArgs false

theorem guardRefA : Try.prog.eqGuardType Try.prog.depth 37 = false := by kernel_rfl
theorem sizeAL {x : RefA} : (Try.prog.info? 37).map (·.size) = some x.cells.length := by rw [RefA.cells_length]; kernel_rfl
set_option maxRecDepth 100000 in
set_option maxHeartbeats 2000000 in
theorem Same_any {w : World} (B1 B2 : Int) (v u : Value) (L K : List RefA) (hv : ListAt refE w v L) (hu : ListAt refE w u K) (hl : L.length < 1000000)
    (hL : ∀ x ∈ L, (-9223372036854775808 ≤ x.min ∧ x.min ≤ 9223372036854775807) ∧ x.text.size ≤ maxLen) (hK : ∀ x ∈ K, (-9223372036854775808 ≤ x.min ∧ x.min ≤ 9223372036854775807) ∧ x.text.size ≤ maxLen) :
    Calls Try.prog 30 #[.agg #[.int .i64 B1, v], .agg #[.int .i64 B2, u]] w fun e w' => e = .returned (.bool (decide (B1 = B2 ∧ L = K))) ∧ Below w.heap.size w w' := by
  obtain ⟨va, vc, rfl⟩ := hv.form
  obtain ⟨ua, uc, rfl⟩ := hu.form
  obtain ⟨N, hN⟩ : ∃ N, L.length = N := ⟨_, rfl⟩
  obtain ⟨M, hM⟩ : ∃ M, K.length = M := ⟨_, rfl⟩
  obtain ⟨r, hr⟩ : ∃ r, decide (B1 = B2 ∧ L = K) = r := ⟨_, rfl⟩
  rw [hN] at hv hl ⊢
  rw [hM] at hu ⊢
  rw [hr]
  obtain ⟨w1, hw1⟩ : ∃ w1, (w.alloc (.cells #[.int .i64 B1, .slice va N vc] 50)).alloc (.cells #[.int .i64 B2, .slice ua M uc] 50) = w1 := ⟨_, rfl⟩
  have hb1 : Below w.heap.size w w1 := hw1 ▸ (((Below.refl _ _).alloc (Nat.le_refl _) _).alloc (by simp only [World.size_alloc]; omega) _)
  have n1 : w1.heap[w.heap.size]? = some (.cells #[.int .i64 B1, .slice va N vc] 50 (0, 0)) := by rw [← hw1, Below.heap_alloc _ _ _ (by simp only [World.size_alloc]; omega)]; exact heap_alloc_new w _
  have n2 : w1.heap[w.heap.size + 1]? = some (.cells #[.int .i64 B2, .slice ua M uc] 50 (0, 0)) := by
    have := heap_alloc_new (w.alloc (.cells #[.int .i64 B1, .slice va N vc] 50)) (.cells #[.int .i64 B2, .slice ua M uc] 50)
    rw [World.size_alloc] at this
    rw [← hw1]; exact this
  have HW1 := Lib.hid hw1
  have HB1 := Lib.hid hb1
  have HV := Lib.hid (hv.below hb1)
  have HU := Lib.hid (hu.below hb1)
  have HN := Lib.hid hN
  have HM := Lib.hid hM
  have HRR := Lib.hid hr
  have HLL := Lib.hid hL
  have HKK := Lib.hid hK
  have HC1 := Lib.hid (show ∀ w', Below w1.heap.size w1 w' → w'.cell? ⟨w.heap.size, 1, none⟩ = some (.slice va N vc) ∧ w'.cell? ⟨w.heap.size + 1, 1, none⟩ = some (.slice ua M uc) from fun w' hw' => by
    have h0 := (hw'.block _ (Array.getElem?_eq_some_iff.1 n1).1).trans n1
    have h1 := (hw'.block _ (Array.getElem?_eq_some_iff.1 n2).1).trans n2
    exact ⟨by rw [cell_of_row _ _ _ _ _ _ h0]; rfl, by rw [cell_of_row _ _ _ _ _ _ h1]; rfl⟩)
  clear hv hu hN hM hr hL hK hb1 n1 n2 hw1
  go_enter Try.func30, Try.ntmps30
  by_cases hBB : B1 = B2
  case neg =>
    have hne : (B1 != B2) = true := by simpa using hBB
    have hrf : r = false := by rw [← HRR.out]; exact decide_eq_false (fun h => hBB h.1)
    subst hrf
    clear hBB
    go_wp2_with fail
    try rw [HW1.out]
    exact bodyPost_ret (v := .bool false) (by simp [results, Try.results30, go_sem]) rfl ⟨rfl, HB1.out⟩
  have hBe : (B1 != B2) = false := by simpa using hBB
  have HBB := Lib.hid hBB
  clear hBB
  by_cases hNM : N = M
  case neg =>
    have hne : ((N : Int) != (M : Int)) = true := by simp; omega
    have hrf : r = false := by
      rw [← HRR.out]
      refine decide_eq_false (fun h => hNM ?_)
      rw [← HN.out, ← HM.out, h.2]
    subst hrf
    clear hNM
    go_wp2_with fail
    try rw [HW1.out]
    exact bodyPost_ret (v := .bool false) (by simp [results, Try.results30, go_sem]) rfl ⟨rfl, HB1.out⟩
  subst hNM
  have hne : ((N : Int) != (N : Int)) = false := by simp
  go_wp2_with fail
  try rw [HW1.out]
  clear hne hBe
  go_loopw [5] (fun iv wr => ∃ i : Nat, i ≤ N ∧ iv = .int .i64 (i : Int) ∧ Below w1.heap.size w1 wr ∧ Hid (L.take i = K.take i)) (fun iv _ => N - (intOf iv).toNat)
  case atStart => exact ⟨0, Nat.zero_le _, rfl, Below.refl _ _, Lib.hid rfl⟩
  case round =>
    obtain ⟨i, hi, rfl, hB, HP⟩ := hrel
    have HB := Lib.hid hB
    have c1 := (HC1.out _ hB).1
    clear hB
    by_cases hlt : i < N
    · have hiI : (i : Int) < (N : Int) := by omega
      have hiI0 : (0 : Int) ≤ (i : Int) := by omega
      have hwi : IntKind.i64.wrap ((i : Int) + 1) = (i : Int) + 1 := IntWalk.i64_in _ (by omega)
      have hlt1 : i < L.length := by rw [HN.out]; exact hlt
      have hlt2 : i < K.length := by rw [HM.out]; exact hlt
      obtain ⟨g, off, rfl, hg, hr⟩ := (HV.out.below HB.out).get hlt1
      obtain ⟨g2, off2, rfl, hg2, hr2⟩ := (HU.out.below HB.out).get hlt2
      have hx0 := HLL.out _ (List.getElem_mem hlt1)
      have hy0 := HKK.out _ (List.getElem_mem hlt2)
      obtain ⟨x, hx⟩ : ∃ x, L[i] = x := ⟨_, rfl⟩
      obtain ⟨y, hy⟩ : ∃ y, K[i] = y := ⟨_, rfl⟩
      have hex : L[i]? = some x := by rw [List.getElem?_eq_getElem hlt1, hx]
      have hey : K[i]? = some y := by rw [List.getElem?_eq_getElem hlt2, hy]
      rw [hx] at hr hx0
      rw [hy] at hr2 hy0
      have hr : wr.rangeAt g (off + i * 34) x.cells := hr
      have hr2 : wr.rangeAt g2 (off2 + i * 34) y.cells := hr2
      have HR := Lib.hid (show ∀ w', Below wr.heap.size wr w' → w'.rangeAt g (off + i * 34) x.cells ∧ w'.rangeAt g2 (off2 + i * 34) y.cells from fun w' hw' => ⟨fun j u hu => (hw'.cell (p := ⟨g, off + i * 34 + j, none⟩) hg).trans (hr j u hu), fun j u hu => (hw'.cell (p := ⟨g2, off2 + i * 34 + j, none⟩) hg2).trans (hr2 j u hu)⟩)
      have HC := Lib.hid (fun w' (hw' : Below wr.heap.size wr w') => HC1.out w' (HB.out.trans (hw'.mono HB.out.size)))
      have HQ := Lib.hid (fun w' => neq_RefA hx0.1 hx0.2 hy0.1 hy0.2 w')
      have HEX := Lib.hid hex
      have HEY := Lib.hid hey
      clear hr hr2 hx hy hg hg2 hex hey hx0 hy0
      go_wp2_with fail
      clear c1
      by_cases hxy : x = y
      · have HEQ := Lib.hid (fun w' => (HQ.out w').trans (by rw [decide_eq_true hxy]; try rfl))
        have HP2 := Lib.hid (show L.take (i + 1) = K.take (i + 1) by rw [List.take_add_one, List.take_add_one, HP.out, HEX.out, HEY.out, hxy])
        clear hxy
        refine wp_region_noPanic ?_
        refine wp_region_H (Below wr.heap.size wr) (by kernel_rfl) ?_
        have hS0 : (Below wr.heap.size wr) wr.drew := (Below.refl _ _).drew
        obtain ⟨wd, hwd⟩ : ∃ wd, wr.drew = wd := ⟨_, rfl⟩
        rw [hwd] at hS0 ⊢
        clear hwd
        refine wpAnyH_takeI (i := 0) (v := ?v38) rfl (by kernel_rfl) (by kernel_rfl) (by kernel_rfl) (fun _ _ _ h => h) (yieldsIf_run rfl (fun w' hw' => ?y38)) hS0 ?_
        case y38 => first | (go_simp; rfl) | (go_simp; done) | rfl
        simp only [Act.put, List.setIfInBounds_toArray, List.set_cons_zero, List.set_cons_succ]
        refine wpAnyH_takeI (i := 1) (v := ?v39) rfl (by kernel_rfl) (by kernel_rfl) (by kernel_rfl) (fun _ _ _ h => h) (yieldsIf_run rfl (fun w' hw' => ?y39)) hS0 ?_
        case y39 => (obtain ⟨h0, h1⟩ := HC.out w' hw'; clear hw'; first | (go_simp; rfl) | (go_simp; done))
        simp only [Act.put, List.setIfInBounds_toArray, List.set_cons_zero, List.set_cons_succ]
        refine wpAnyH_takeI (i := 2) (v := ?v40) rfl (by kernel_rfl) (by kernel_rfl) (by kernel_rfl) (fun _ _ _ h => h) (yieldsIf_run rfl (fun w' hw' => ?y40)) hS0 ?_
        case y40 => first | (go_simp; rfl) | (go_simp; done) | rfl
        simp only [Act.put, List.setIfInBounds_toArray, List.set_cons_zero, List.set_cons_succ]
        refine wpAnyH_takeI (i := 3) (v := ?v41) rfl (by kernel_rfl) (by kernel_rfl) (by kernel_rfl) (fun _ _ _ h => h) (yieldsIf_run rfl (fun w' hw' => ?y41)) hS0 ?_
        case y41 => first | (go_simp; rfl) | (go_simp; done) | rfl
        simp only [Act.put, List.setIfInBounds_toArray, List.set_cons_zero, List.set_cons_succ]
        refine wpAnyH_takeI (i := 4) (v := .agg (x.cells).toArray) rfl (by kernel_rfl) (by kernel_rfl) (by kernel_rfl) (fun _ _ _ h => h) (yieldsIf_load_mid rfl 37 (.tmp 30) rfl g (off + i * 34) rfl (x.cells) _ (fun w' hw' => (HR.out w' hw').1) Try.underlying37 rfl sizeAL) hS0 ?_
        simp only [Act.put, List.setIfInBounds_toArray, List.set_cons_zero, List.set_cons_succ]
        refine wpAnyH_takeI (i := 5) (v := ?v42) rfl (by kernel_rfl) (by kernel_rfl) (by kernel_rfl) (fun _ _ _ h => h) (yieldsIf_run rfl (fun w' hw' => ?y42)) hS0 ?_
        case y42 => first | (go_simp; rfl) | (go_simp; done) | rfl
        simp only [Act.put, List.setIfInBounds_toArray, List.set_cons_zero, List.set_cons_succ]
        refine wpAnyH_takeI (i := 6) (v := ?v43) rfl (by kernel_rfl) (by kernel_rfl) (by kernel_rfl) (fun _ _ _ h => h) (yieldsIf_run rfl (fun w' hw' => ?y43)) hS0 ?_
        case y43 => (obtain ⟨h0, h1⟩ := HC.out w' hw'; clear hw'; first | (go_simp; rfl) | (go_simp; done))
        simp only [Act.put, List.setIfInBounds_toArray, List.set_cons_zero, List.set_cons_succ]
        refine wpAnyH_takeI (i := 7) (v := ?v44) rfl (by kernel_rfl) (by kernel_rfl) (by kernel_rfl) (fun _ _ _ h => h) (yieldsIf_run rfl (fun w' hw' => ?y44)) hS0 ?_
        case y44 => first | (go_simp; rfl) | (go_simp; done) | rfl
        simp only [Act.put, List.setIfInBounds_toArray, List.set_cons_zero, List.set_cons_succ]
        refine wpAnyH_takeI (i := 8) (v := ?v45) rfl (by kernel_rfl) (by kernel_rfl) (by kernel_rfl) (fun _ _ _ h => h) (yieldsIf_run rfl (fun w' hw' => ?y45)) hS0 ?_
        case y45 => first | (go_simp; rfl) | (go_simp; done) | rfl
        simp only [Act.put, List.setIfInBounds_toArray, List.set_cons_zero, List.set_cons_succ]
        refine wpAnyH_takeI (i := 9) (v := .agg (y.cells).toArray) rfl (by kernel_rfl) (by kernel_rfl) (by kernel_rfl) (fun _ _ _ h => h) (yieldsIf_load_mid rfl 37 (.tmp 35) rfl g2 (off2 + i * 34) rfl (y.cells) _ (fun w' hw' => (HR.out w' hw').2) Try.underlying37 rfl sizeAL) hS0 ?_
        simp only [Act.put, List.setIfInBounds_toArray, List.set_cons_zero, List.set_cons_succ]
        refine wpAnyH_takeI (i := 10) (v := .bool false) rfl (by kernel_rfl) (by kernel_rfl) (by kernel_rfl) (fun _ _ _ h => h) (yieldsIf_run rfl (fun w' hw' => op_neq 37 (.tmp 31) (.tmp 36) 37 rfl rfl rfl guardRefA (HEQ.out w'))) hS0 ?_
        simp only [Act.put, List.setIfInBounds_toArray, List.set_cons_zero, List.set_cons_succ]
        refine wpAnyH_done (by kernel_rfl) ?_ _
        refine NoPanic.normal ?_
        have HB3 := Lib.hid (HB.out.trans (hS0.mono HB.out.size))
        clear hS0
        go_wp2_with fail
        go_roundw
        case rel => exact ⟨i + 1, by omega, by go_num, HB3.out, HP2⟩
        case measure => simp [intOf]; omega
      · have HEQ := Lib.hid (fun w' => (HQ.out w').trans (by rw [decide_eq_false hxy]; try rfl))
        have hrf : r = false := by
          rw [← HRR.out]
          refine decide_eq_false (fun h => hxy ?_)
          have h2 := HEX.out
          rw [h.2, HEY.out] at h2
          exact (Option.some.inj h2).symm
        subst hrf
        clear hxy
        refine wp_region_noPanic ?_
        refine wp_region_H (Below wr.heap.size wr) (by kernel_rfl) ?_
        have hS0 : (Below wr.heap.size wr) wr.drew := (Below.refl _ _).drew
        obtain ⟨wd, hwd⟩ : ∃ wd, wr.drew = wd := ⟨_, rfl⟩
        rw [hwd] at hS0 ⊢
        clear hwd
        refine wpAnyH_takeI (i := 0) (v := ?v46) rfl (by kernel_rfl) (by kernel_rfl) (by kernel_rfl) (fun _ _ _ h => h) (yieldsIf_run rfl (fun w' hw' => ?y46)) hS0 ?_
        case y46 => first | (go_simp; rfl) | (go_simp; done) | rfl
        simp only [Act.put, List.setIfInBounds_toArray, List.set_cons_zero, List.set_cons_succ]
        refine wpAnyH_takeI (i := 1) (v := ?v47) rfl (by kernel_rfl) (by kernel_rfl) (by kernel_rfl) (fun _ _ _ h => h) (yieldsIf_run rfl (fun w' hw' => ?y47)) hS0 ?_
        case y47 => (obtain ⟨h0, h1⟩ := HC.out w' hw'; clear hw'; first | (go_simp; rfl) | (go_simp; done))
        simp only [Act.put, List.setIfInBounds_toArray, List.set_cons_zero, List.set_cons_succ]
        refine wpAnyH_takeI (i := 2) (v := ?v48) rfl (by kernel_rfl) (by kernel_rfl) (by kernel_rfl) (fun _ _ _ h => h) (yieldsIf_run rfl (fun w' hw' => ?y48)) hS0 ?_
        case y48 => first | (go_simp; rfl) | (go_simp; done) | rfl
        simp only [Act.put, List.setIfInBounds_toArray, List.set_cons_zero, List.set_cons_succ]
        refine wpAnyH_takeI (i := 3) (v := ?v49) rfl (by kernel_rfl) (by kernel_rfl) (by kernel_rfl) (fun _ _ _ h => h) (yieldsIf_run rfl (fun w' hw' => ?y49)) hS0 ?_
        case y49 => first | (go_simp; rfl) | (go_simp; done) | rfl
        simp only [Act.put, List.setIfInBounds_toArray, List.set_cons_zero, List.set_cons_succ]
        refine wpAnyH_takeI (i := 4) (v := .agg (x.cells).toArray) rfl (by kernel_rfl) (by kernel_rfl) (by kernel_rfl) (fun _ _ _ h => h) (yieldsIf_load_mid rfl 37 (.tmp 30) rfl g (off + i * 34) rfl (x.cells) _ (fun w' hw' => (HR.out w' hw').1) Try.underlying37 rfl sizeAL) hS0 ?_
        simp only [Act.put, List.setIfInBounds_toArray, List.set_cons_zero, List.set_cons_succ]
        refine wpAnyH_takeI (i := 5) (v := ?v50) rfl (by kernel_rfl) (by kernel_rfl) (by kernel_rfl) (fun _ _ _ h => h) (yieldsIf_run rfl (fun w' hw' => ?y50)) hS0 ?_
        case y50 => first | (go_simp; rfl) | (go_simp; done) | rfl
        simp only [Act.put, List.setIfInBounds_toArray, List.set_cons_zero, List.set_cons_succ]
        refine wpAnyH_takeI (i := 6) (v := ?v51) rfl (by kernel_rfl) (by kernel_rfl) (by kernel_rfl) (fun _ _ _ h => h) (yieldsIf_run rfl (fun w' hw' => ?y51)) hS0 ?_
        case y51 => (obtain ⟨h0, h1⟩ := HC.out w' hw'; clear hw'; first | (go_simp; rfl) | (go_simp; done))
        simp only [Act.put, List.setIfInBounds_toArray, List.set_cons_zero, List.set_cons_succ]
        refine wpAnyH_takeI (i := 7) (v := ?v52) rfl (by kernel_rfl) (by kernel_rfl) (by kernel_rfl) (fun _ _ _ h => h) (yieldsIf_run rfl (fun w' hw' => ?y52)) hS0 ?_
        case y52 => first | (go_simp; rfl) | (go_simp; done) | rfl
        simp only [Act.put, List.setIfInBounds_toArray, List.set_cons_zero, List.set_cons_succ]
        refine wpAnyH_takeI (i := 8) (v := ?v53) rfl (by kernel_rfl) (by kernel_rfl) (by kernel_rfl) (fun _ _ _ h => h) (yieldsIf_run rfl (fun w' hw' => ?y53)) hS0 ?_
        case y53 => first | (go_simp; rfl) | (go_simp; done) | rfl
        simp only [Act.put, List.setIfInBounds_toArray, List.set_cons_zero, List.set_cons_succ]
        refine wpAnyH_takeI (i := 9) (v := .agg (y.cells).toArray) rfl (by kernel_rfl) (by kernel_rfl) (by kernel_rfl) (fun _ _ _ h => h) (yieldsIf_load_mid rfl 37 (.tmp 35) rfl g2 (off2 + i * 34) rfl (y.cells) _ (fun w' hw' => (HR.out w' hw').2) Try.underlying37 rfl sizeAL) hS0 ?_
        simp only [Act.put, List.setIfInBounds_toArray, List.set_cons_zero, List.set_cons_succ]
        refine wpAnyH_takeI (i := 10) (v := .bool true) rfl (by kernel_rfl) (by kernel_rfl) (by kernel_rfl) (fun _ _ _ h => h) (yieldsIf_run rfl (fun w' hw' => op_neq 37 (.tmp 31) (.tmp 36) 37 rfl rfl rfl guardRefA (HEQ.out w'))) hS0 ?_
        simp only [Act.put, List.setIfInBounds_toArray, List.set_cons_zero, List.set_cons_succ]
        refine wpAnyH_done (by kernel_rfl) ?_ _
        refine NoPanic.normal ?_
        have HB3 := Lib.hid (HB1.out.trans ((HB.out.trans (hS0.mono HB.out.size)).mono HB1.out.size))
        clear hS0
        go_wp2_with fail
        exact bodyPost_ret (v := .bool false) (by simp [results, Try.results30, go_sem]) rfl ⟨rfl, HB3.out⟩
    · obtain rfl : N = i := by omega
      have hrt : r = true := by
        rw [← HRR.out]
        have h := HP.out
        rw [List.take_of_length_le (by rw [HN.out]; exact Nat.le_refl _), List.take_of_length_le (by rw [HM.out]; exact Nat.le_refl _)] at h
        exact decide_eq_true ⟨HBB.out, h⟩
      have HB3 := Lib.hid (HB1.out.trans (HB.out.mono HB1.out.size))
      subst hrt
      go_wp2_with fail
      exact bodyPost_ret (v := .bool true) (by simp [results, Try.results30, go_sem]) rfl ⟨rfl, HB3.out⟩
end Go.Proofs.Ytnmdgjodbikndaa
