/- The law's view: the spool looks as the reference says. -/
import Derived.Test.YtnmdgjodbikndaaS20
namespace Go.Proofs.Ytnmdgjodbikndaa
open Go.RowKit
set_option linter.unusedVariables false
set_option linter.unusedSimpArgs false

theorem find_inn {w : World} {b m : Nat} {S : SpD} (h : SpAt w b m S) {a : ArtD} (ha : a ∈ S.list) : S.find a.id = some a := by
  have hnd := h.hm.nodup
  unfold SpD.kl at hnd
  rw [List.map_map] at hnd
  have hnd : (S.list.map (·.id)).Nodup := hnd
  unfold SpD.find
  rw [List.find?_eq_some_iff_getElem]
  obtain ⟨i, hi, e⟩ := List.getElem_of_mem ha
  refine ⟨decide_eq_true rfl, i, hi, e, fun j hj => ?_⟩
  simp only [Bool.not_eq_true', decide_eq_false_iff_not]
  intro e2
  have h1 := List.pairwise_iff_getElem.1 hnd j i (by simp; omega) (by simpa using hi) hj
  simp only [List.getElem_map] at h1
  rw [e] at h1
  exact h1 e2
theorem entC_parts (x : ArtD) : (entC x).toArray[32]? = some (.int .i64 x.arr) ∧ (entC x).toArray[33]? = some (.int .i64 (x.text.size : Int)) := by
  have hl : (bvs x.id.1).length = 32 := by rw [bvs_length, x.id.2]
  unfold entC
  constructor
  · rw [List.getElem?_toArray, List.getElem?_append_right (by omega), hl]; rfl
  · rw [List.getElem?_toArray, List.getElem?_append_right (by omega), hl]; rfl
theorem range_idE {w : World} {g : Nat} {x : ArtD} (h : w.heap[g]? = some (.cells (entC x).toArray 44 (0, 0))) : w.rangeAt g 0 (bvs x.id.1) := fun j u hj => range_block h j u (by
  unfold entC
  rw [List.getElem?_append_left (List.getElem?_eq_some_iff.1 hj).1]
  exact hj)
set_option maxRecDepth 100000 in
set_option maxHeartbeats 2000000 in
theorem view_any {w : World} {b m : Nat} {S : SpD} (h : SpAt w b m S) (hok : S.Ok) (hn : S.list.length < 10000) (v : Value) (hv : ListAt refE w v S.ref) :
    Calls Try.prog 24 #[.pointer (some ⟨b, 0, none⟩), .agg #[.int .i64 S.budget, v]] w fun e w' => e = .returned (.bool true) ∧ Below w.heap.size w w' := by
  obtain ⟨va, vc, rfl⟩ := hv.form
  obtain ⟨N, hN⟩ : ∃ N, S.ref.length = N := ⟨_, rfl⟩
  obtain ⟨B, hB⟩ : ∃ B, S.budget = B := ⟨_, rfl⟩
  obtain ⟨Z, hZ⟩ : ∃ Z, S.size = Z := ⟨_, rfl⟩
  have hNl : S.list.length = N := by rw [← hN, ref_length]
  rw [hN] at hv ⊢
  rw [hB]
  obtain ⟨w1, hw1⟩ : ∃ w1, w.alloc (.cells #[.int .i64 B, .slice va N vc] 50) = w1 := ⟨_, rfl⟩
  have hx1 : w1.heap[w.heap.size]? = some (.cells #[.int .i64 B, .slice va N vc] 50 (0, 0)) := by rw [← hw1]; exact heap_alloc_new _ _
  have hb1 : Below w.heap.size w w1 := hw1 ▸ (Below.refl _ _).alloc (Nat.le_refl _) _
  have hs1 := h.below hb1
  have HO := Lib.hid (show ∀ w', Below w1.heap.size w1 w' → w'.heap[w.heap.size]? = some (.cells #[.int .i64 B, .slice va N vc] 50 (0, 0)) ∧ w'.cell? ⟨w.heap.size, 1, none⟩ = some (.slice va N vc) ∧ w'.cell? ⟨w.heap.size, 0, none⟩ = some (.int .i64 B) ∧ ListAt refE w' (.slice va N vc) S.ref ∧ SpAt w' b m S from fun w' hw' => by
    have h0 := (hw'.block _ (Array.getElem?_eq_some_iff.1 hx1).1).trans hx1
    exact ⟨h0, by rw [cell_of_row _ _ _ _ _ _ h0]; rfl, by rw [cell_of_row _ _ _ _ _ _ h0]; rfl, (hv.below hb1).below hw', hs1.below hw'⟩)
  have hlen := fun w' (hw' : Below w1.heap.size w1 w') => Len_any (HO.out w' hw').2.2.2.2
  have hbyt := fun w' (hw' : Below w1.heap.size w1 w') => Bytes_any (HO.out w' hw').2.2.2.2
  have hfre := fun w' (hw' : Below w1.heap.size w1 w') => Free_any (HO.out w' hw').2.2.2.2 hok
  have hrby := fun w' (hw' : Below w1.heap.size w1 w') => rBytes_any B (.slice va N vc) S.ref (HO.out w' hw').2.2.2.1 (by rw [ref_length]; omega) (ref_tx hok)
  rw [hNl] at hlen
  rw [hZ] at hbyt
  rw [hZ, hB] at hfre
  rw [ref_size, hZ] at hrby
  have hwr : IntKind.i64.wrap (B - (Z : Int)) = B - (Z : Int) := IntWalk.i64_in _ (by have h1 := hok.b0; have h2 := hok.b1; have h3 := hok.sz; rw [hB] at h1 h2 h3; rw [hZ] at h3; omega)
  have HLEN := Lib.hid hlen
  have HBYT := Lib.hid hbyt
  have HFRE := Lib.hid hfre
  have HRBY := Lib.hid hrby
  have HB1 := Lib.hid hb1
  have HS := Lib.hid h
  have HOK := Lib.hid hok
  have HN := Lib.hid hN
  have HNL := Lib.hid hNl
  have HNN := Lib.hid (show N < 10000 by omega)
  clear hx1 hb1 hs1 hlen hbyt hfre hrby h hok hn hv hN hNl hB hZ
  go_enter Try.func24, Try.ntmps24
  go_wp2_with fail
  refine wp_region_noPanic ?_
  refine wp_region_H (Below w1.heap.size w1) (by kernel_rfl) ?_
  have hS0 : (Below w1.heap.size w1) w1.drew := (Below.refl _ _).drew
  obtain ⟨wd, hwd⟩ : ∃ wd, w1.drew = wd := ⟨_, rfl⟩
  rw [hwd] at hS0 ⊢
  clear hwd
  refine wpAnyH_takeI (i := 0) (v := ?v1) rfl (by kernel_rfl) (by kernel_rfl) (by kernel_rfl) (fun _ _ _ h => h) (yieldsIf_run rfl (fun w' hw' => ?y1)) hS0 ?_
  case y1 => first | (go_simp; rfl) | (go_simp; done) | rfl
  simp only [Act.put, List.setIfInBounds_toArray, List.set_cons_zero, List.set_cons_succ]
  refine wpAnyH_takeI (i := 2) (v := ?v2) rfl (by kernel_rfl) (by kernel_rfl) (by kernel_rfl) (fun _ _ _ h => h) (yieldsIf_run rfl (fun w' hw' => ?y2)) hS0 ?_
  case y2 => first | (go_simp; rfl) | (go_simp; done) | rfl
  simp only [Act.put, List.setIfInBounds_toArray, List.set_cons_zero, List.set_cons_succ]
  refine wpAnyH_takeI (i := 3) (v := ?v3) rfl (by kernel_rfl) (by kernel_rfl) (by kernel_rfl) (fun _ _ _ h => h) (yieldsIf_run rfl (fun w' hw' => ?y3)) hS0 ?_
  case y3 => (have hc := (HO.out w' hw').2.1; have hc2 := (HO.out w' hw').2.2.1; clear hw'; first | (go_simp; rfl) | (go_simp; done))
  simp only [Act.put, List.setIfInBounds_toArray, List.set_cons_zero, List.set_cons_succ]
  refine wpAnyH_takeI (i := 4) (v := ?v4) rfl (by kernel_rfl) (by kernel_rfl) (by kernel_rfl) (fun _ _ _ h => h) (yieldsIf_run rfl (fun w' hw' => ?y4)) hS0 ?_
  case y4 => first | (go_simp; rfl) | (go_simp; done) | rfl
  simp only [Act.put, List.setIfInBounds_toArray, List.set_cons_zero, List.set_cons_succ]
  refine wpAnyH_do (i := 1) (by kernel_rfl) rfl rfl (fun K hK => ?_)
  go_simp
  go_at_call 22
  refine (HLEN.out _ hS0).mono ?_
  rintro e wa ⟨rfl, hbwa⟩
  have hSwa := hS0.trans (hbwa.mono hS0.size)
  refine hK _ _ (hSwa) ?_
  clear hK K
  try simp only [Act.put, List.setIfInBounds_toArray, List.set_cons_zero, List.set_cons_succ]
  refine wpAnyH_takeI (i := 5) (v := ?v5) rfl (by kernel_rfl) (by kernel_rfl) (by kernel_rfl) (fun _ _ _ h => h) (yieldsIf_run rfl (fun w' hw' => ?y5)) hSwa ?_
  case y5 => first | (go_simp; rfl) | (go_simp; done) | rfl
  simp only [Act.put, List.setIfInBounds_toArray, List.set_cons_zero, List.set_cons_succ]
  refine wpAnyH_takeI (i := 6) (v := ?v6) rfl (by kernel_rfl) (by kernel_rfl) (by kernel_rfl) (fun _ _ _ h => h) (yieldsIf_run rfl (fun w' hw' => ?y6)) hSwa ?_
  case y6 => first | (go_simp; rfl) | (go_simp; done) | rfl
  simp only [Act.put, List.setIfInBounds_toArray, List.set_cons_zero, List.set_cons_succ]
  refine wpAnyH_takeI (i := 7) (v := ?v7) rfl (by kernel_rfl) (by kernel_rfl) (by kernel_rfl) (fun _ _ _ h => h) (yieldsIf_want rfl (fun w' hw' => ?y7)) hSwa ?_
  case y7 => first | (go_simp; rfl) | (go_simp; done) | rfl
  simp only [Act.put, List.setIfInBounds_toArray, List.set_cons_zero, List.set_cons_succ]
  refine wpAnyH_takeI (i := 9) (v := .agg ([Value.int .i64 B, .slice va N vc]).toArray) rfl (by kernel_rfl) (by kernel_rfl) (by kernel_rfl) (fun _ _ _ h => h) (yieldsIf_load_mid rfl 50 (.tmp 3) rfl w.heap.size (0) rfl ([Value.int .i64 B, .slice va N vc]) _ (fun w' hw' => range_block (HO.out w' hw').1) Try.underlying50 rfl sizeSL) hSwa ?_
  simp only [Act.put, List.setIfInBounds_toArray, List.set_cons_zero, List.set_cons_succ]
  refine wpAnyH_want (i := 8) (by kernel_rfl) rfl rfl (fun K hK => ?_)
  go_simp
  go_at_call 20
  refine (HBYT.out _ hSwa).mono ?_
  rintro e wb ⟨rfl, hbwb⟩
  have hSwb := hSwa.trans (hbwb.mono hSwa.size)
  refine hK _ _ (hSwb) ?_
  clear hK K
  try simp only [Act.put, List.setIfInBounds_toArray, List.set_cons_zero, List.set_cons_succ]
  refine wpAnyH_want (i := 10) (by kernel_rfl) rfl rfl (fun K hK => ?_)
  go_simp
  go_at_call 39
  refine (HRBY.out _ hSwb).mono ?_
  rintro e wc ⟨rfl, hbwc⟩
  have hSwc := hSwb.trans (hbwc.mono hSwb.size)
  refine hK _ _ (hSwc) ?_
  clear hK K
  try simp only [Act.put, List.setIfInBounds_toArray, List.set_cons_zero, List.set_cons_succ]
  refine wpAnyH_takeI (i := 11) (v := ?v8) rfl (by kernel_rfl) (by kernel_rfl) (by kernel_rfl) (fun _ _ _ h => h) (yieldsIf_want rfl (fun w' hw' => ?y8)) hSwc ?_
  case y8 => first | (go_simp; rfl) | (go_simp; done) | rfl
  simp only [Act.put, List.setIfInBounds_toArray, List.set_cons_zero, List.set_cons_succ]
  refine wpAnyH_takeI (i := 12) (v := ?v9) rfl (by kernel_rfl) (by kernel_rfl) (by kernel_rfl) (fun _ _ _ h => h) (yieldsIf_run rfl (fun w' hw' => ?y9)) hSwc ?_
  case y9 => first | (go_simp; rfl) | (go_simp; done) | rfl
  simp only [Act.put, List.setIfInBounds_toArray, List.set_cons_zero, List.set_cons_succ]
  refine wpAnyH_takeI (i := 13) (v := ?v10) rfl (by kernel_rfl) (by kernel_rfl) (by kernel_rfl) (fun _ _ _ h => h) (yieldsIf_run rfl (fun w' hw' => ?y10)) hSwc ?_
  case y10 => first | (go_simp; rfl) | (go_simp; done) | rfl
  simp only [Act.put, List.setIfInBounds_toArray, List.set_cons_zero, List.set_cons_succ]
  refine wpAnyH_takeI (i := 14) (v := ?v11) rfl (by kernel_rfl) (by kernel_rfl) (by kernel_rfl) (fun _ _ _ h => h) (yieldsIf_want rfl (fun w' hw' => ?y11)) hSwc ?_
  case y11 => first | (go_simp; rfl) | (go_simp; done) | rfl
  simp only [Act.put, List.setIfInBounds_toArray, List.set_cons_zero, List.set_cons_succ]
  refine wpAnyH_takeI (i := 16) (v := ?v12) rfl (by kernel_rfl) (by kernel_rfl) (by kernel_rfl) (fun _ _ _ h => h) (yieldsIf_want rfl (fun w' hw' => ?y12)) hSwc ?_
  case y12 => first | (go_simp; rfl) | (go_simp; done) | rfl
  simp only [Act.put, List.setIfInBounds_toArray, List.set_cons_zero, List.set_cons_succ]
  refine wpAnyH_takeI (i := 17) (v := ?v13) rfl (by kernel_rfl) (by kernel_rfl) (by kernel_rfl) (fun _ _ _ h => h) (yieldsIf_want rfl (fun w' hw' => ?y13)) hSwc ?_
  case y13 => (have hc := (HO.out w' hw').2.1; have hc2 := (HO.out w' hw').2.2.1; clear hw'; first | (go_simp; rfl) | (go_simp; done))
  simp only [Act.put, List.setIfInBounds_toArray, List.set_cons_zero, List.set_cons_succ]
  refine wpAnyH_takeI (i := 18) (v := .agg ([Value.int .i64 B, .slice va N vc]).toArray) rfl (by kernel_rfl) (by kernel_rfl) (by kernel_rfl) (fun _ _ _ h => h) (yieldsIf_load_mid rfl 50 (.tmp 3) rfl w.heap.size (0) rfl ([Value.int .i64 B, .slice va N vc]) _ (fun w' hw' => range_block (HO.out w' hw').1) Try.underlying50 rfl sizeSL) hSwc ?_
  simp only [Act.put, List.setIfInBounds_toArray, List.set_cons_zero, List.set_cons_succ]
  refine wpAnyH_want (i := 15) (by kernel_rfl) rfl rfl (fun K hK => ?_)
  go_simp
  go_at_call 21
  refine (HFRE.out _ hSwc).mono ?_
  rintro e wd2 ⟨rfl, hbwd2⟩
  have hSwd2 := hSwc.trans (hbwd2.mono hSwc.size)
  refine hK _ _ (hSwd2) ?_
  clear hK K
  try simp only [Act.put, List.setIfInBounds_toArray, List.set_cons_zero, List.set_cons_succ]
  refine wpAnyH_want (i := 19) (by kernel_rfl) rfl rfl (fun K hK => ?_)
  go_simp
  go_at_call 39
  refine (HRBY.out _ hSwd2).mono ?_
  rintro e we ⟨rfl, hbwe⟩
  have hSwe := hSwd2.trans (hbwe.mono hSwd2.size)
  refine hK _ _ (hSwe) ?_
  clear hK K
  try simp only [Act.put, List.setIfInBounds_toArray, List.set_cons_zero, List.set_cons_succ]
  refine wpAnyH_takeI (i := 20) (v := .int .i64 (B - (Z : Int))) rfl (by kernel_rfl) (by kernel_rfl) (by kernel_rfl) (fun _ _ _ h => h) (yieldsIf_want rfl (fun w' hw' => ?y14)) hSwe ?_
  case y14 => (have h99 := hwr; clear hw'; first | (go_simp; rfl) | (go_simp; done))
  simp only [Act.put, List.setIfInBounds_toArray, List.set_cons_zero, List.set_cons_succ]
  refine wpAnyH_takeI (i := 21) (v := ?v15) rfl (by kernel_rfl) (by kernel_rfl) (by kernel_rfl) (fun _ _ _ h => h) (yieldsIf_want rfl (fun w' hw' => ?y15)) hSwe ?_
  case y15 => first | (go_simp; rfl) | (go_simp; done) | rfl
  simp only [Act.put, List.setIfInBounds_toArray, List.set_cons_zero, List.set_cons_succ]
  refine wpAnyH_takeI (i := 22) (v := ?v16) rfl (by kernel_rfl) (by kernel_rfl) (by kernel_rfl) (fun _ _ _ h => h) (yieldsIf_run rfl (fun w' hw' => ?y16)) hSwe ?_
  case y16 => first | (go_simp; rfl) | (go_simp; done) | rfl
  simp only [Act.put, List.setIfInBounds_toArray, List.set_cons_zero, List.set_cons_succ]
  refine wpAnyH_done (by kernel_rfl) ?_ _
  refine NoPanic.normal ?_
  have HBE := Lib.hid hSwe
  clear hwr hSwe
  have hcl := (HO.out _ HBE.out).2.1
  go_wp2_with fail
  clear hcl
  go_loopw [5] (fun iv wr => ∃ i : Nat, i ≤ N ∧ iv = .int .i64 (i : Int) ∧ Below w1.heap.size w1 wr) (fun iv _ => N - (intOf iv).toNat)
  case atStart => exact ⟨0, Nat.zero_le _, rfl, HBE.out⟩
  case round =>
    obtain ⟨i, hi, rfl, hbr⟩ := hrel
    have HBR := Lib.hid hbr
    clear hbr
    have hcl := (HO.out _ HBR.out).2.1
    by_cases hlt : i < N
    · have hiI : (i : Int) < (N : Int) := by omega
      have hiI0 : (0 : Int) ≤ (i : Int) := by omega
      have hwi : IntKind.i64.wrap ((i : Int) + 1) = (i : Int) + 1 := IntWalk.i64_in _ (by have := HNN.out; omega)
      have hlt' : i < S.ref.length := by rw [HN.out]; exact hlt
      have hlt2 : i < S.list.length := by rw [HNL.out]; exact hlt
      have hge : S.ref[i] = toR S.list[i] := List.getElem_map toR
      have hfm := find_inn HS.out (List.getElem_mem hlt2)
      have htx := HOK.out.tx _ (List.getElem_mem hlt2)
      obtain ⟨g, off, rfl, hg, hr⟩ := (HO.out _ HBR.out).2.2.2.1.get hlt'
      obtain ⟨x, hx⟩ : ∃ x, S.list[i] = x := ⟨_, rfl⟩
      rw [hge, hx] at hr
      rw [hx] at hfm htx
      have hr : wr.rangeAt g (off + i * 34) (toR x).cells := hr
      have hent := fun w' (hw' : Below w1.heap.size w1 w') => Entry_any (HO.out w' hw').2.2.2.2 HOK.out x.id
      have hget := fun w' (hw' : Below w1.heap.size w1 w') => Get_any (HO.out w' hw').2.2.2.2 x.id
      have hhas := fun w' (hw' : Below w1.heap.size w1 w') => Has_any (HO.out w' hw').2.2.2.2 x.id
      rw [hfm] at hent hget hhas
      have hent : ∀ w', Below w1.heap.size w1 w' → Calls Try.prog 26 #[.pointer (some ⟨b, 0, none⟩), .agg (bvs x.id.1).toArray] w' fun e w'' => e = .returned (.tuple #[.agg (entC x).toArray, .bool true]) ∧ Below w'.heap.size w' w'' := hent
      have hget : ∀ w', Below w1.heap.size w1 w' → Calls Try.prog 19 #[.pointer (some ⟨b, 0, none⟩), .agg (bvs x.id.1).toArray] w' fun e w'' => e = .returned (.tuple #[.string x.text, .int .i64 0]) ∧ Below w'.heap.size w' w'' := hget
      have hhas : ∀ w', Below w1.heap.size w1 w' → Calls Try.prog 34 #[.pointer (some ⟨b, 0, none⟩), .agg (bvs x.id.1).toArray] w' fun e w'' => e = .returned (.bool true) ∧ Below w'.heap.size w' w'' := hhas
      have HENT := Lib.hid hent
      have HGET := Lib.hid hget
      have HHAS := Lib.hid hhas
      have HR := Lib.hid hr
      clear hent hget hhas hr hge hfm hx hlt' hlt2
      go_wp2_with (with_reducible refine wpList_load_mid rfl 37 _ rfl g (off + i * 34) rfl (toR x).cells _ HR.out Try.underlying37 rfl sizeA ?_; refine Stop.on ?_)
      refine Stop.go ?_
      try simp only [Act.put, List.setIfInBounds_toArray, List.set_cons_zero, List.set_cons_succ]
      refine wpList_newV rfl (some 6) rfl 37 rfl zR.cells.toArray 34 (by kernel_rfl) ?_
      intro wn xn bn sn
      try simp only [Act.put, List.setIfInBounds_toArray, List.set_cons_zero, List.set_cons_succ]
      refine wpList_putV rfl rfl 37 (.tmp 6) (.tmp 45) rfl _ (toR x).cells.toArray rfl rfl 37 _ xn sizeAA (by simp only [List.size_toArray, RefA.cells_length]) (all_oneCell_cells refE (toR x)) ?_
      intro wm xm cm sm
      try simp only [Act.put, List.setIfInBounds_toArray, List.set_cons_zero, List.set_cons_succ]
      have hbm : Below wr.heap.size wr wm := bn.trans (cm.below (B := wr.heap.size) (fun k e => by omega) (by omega))
      have HBM := Lib.hid (HBR.out.trans (hbm.mono HBR.out.size))
      obtain ⟨A6, hA6⟩ : ∃ A6, wr.heap.size = A6 := ⟨_, rfl⟩
      rw [hA6] at xm ⊢
      have HX6 := Lib.hid (show ∀ w', Below wm.heap.size wm w' → w'.heap[A6]? = some (.cells (toR x).cells.toArray 37 (0, 0)) ∧ w'.rangeAt A6 0 (bvs x.id.1) ∧ w'.cell? ⟨A6, 32, none⟩ = some (.string x.text) ∧ w'.cell? ⟨A6, 33, none⟩ = some (.int .i64 x.arr) from fun w' hw' => by
        have h0 := (hw'.block _ (Array.getElem?_eq_some_iff.1 xm).1).trans xm
        exact ⟨h0, range_idA h0, by rw [cell_of_row _ _ _ _ _ _ h0]; exact (toR x).parts.1, by rw [cell_of_row _ _ _ _ _ _ h0]; exact (toR x).parts.2⟩)
      have HLA := Lib.hid (show w1.heap.size ≤ A6 ∧ A6 < wm.heap.size from ⟨by rw [← hA6]; exact HBR.out.size, (Array.getElem?_eq_some_iff.1 xm).1⟩)
      clear xn bn sn xm cm sm hbm hcl hA6 hg
      go_wp2_with (with_reducible refine wpList_load_mid rfl 29 _ rfl A6 0 rfl (bvs x.id.1) _ (HX6.out _ (Below.refl _ _)).2.1 Try.underlying29 rfl (sizeArr x.id) ?_; refine Stop.on ?_)
      refine Stop.go ?_
      try simp only [Act.put, List.setIfInBounds_toArray, List.set_cons_zero, List.set_cons_succ]
      go_wp2_with fail
      refine (HENT.out _ HBM.out).mono ?_
      rintro e wp ⟨rfl, hbp⟩
      have HBP := Lib.hid hbp
      clear hbp
      go_wp2_with (refine wpList_newV rfl (some 7) rfl 44 rfl (entC zA).toArray 34 (by kernel_rfl) ?_; refine Stop.on ?_)
      refine Stop.go ?_
      try simp only [Act.put, List.setIfInBounds_toArray, List.set_cons_zero, List.set_cons_succ]
      intro wn xn bn sn
      try simp only [Act.put, List.setIfInBounds_toArray, List.set_cons_zero, List.set_cons_succ]
      refine wpList_putV rfl rfl 44 (.tmp 7) (.tmp 51) rfl _ (entC x).toArray rfl rfl 44 _ xn (sizeEnt x) (by simp only [List.size_toArray, entC_length]) (all_oneCell_cells entE x) ?_
      intro wo xo co so
      try simp only [Act.put, List.setIfInBounds_toArray, List.set_cons_zero, List.set_cons_succ]
      have hbo : Below wp.heap.size wp wo := bn.trans (co.below (B := wp.heap.size) (fun k e => by omega) (by omega))
      obtain ⟨A7, hA7⟩ : ∃ A7, wp.heap.size = A7 := ⟨_, rfl⟩
      have HBO := Lib.hid (HBP.out.trans (hbo.mono HBP.out.size))
      rw [hA7] at xo ⊢
      have HX7 := Lib.hid (show ∀ w', Below wo.heap.size wo w' → w'.rangeAt A7 0 (bvs x.id.1) ∧ w'.cell? ⟨A7, 32, none⟩ = some (.int .i64 x.arr) ∧ w'.cell? ⟨A7, 33, none⟩ = some (.int .i64 (x.text.size : Int)) from fun w' hw' => by
        have h0 := (hw'.block _ (Array.getElem?_eq_some_iff.1 xo).1).trans xo
        exact ⟨range_idE h0, by rw [cell_of_row _ _ _ _ _ _ h0]; exact (entC_parts x).1, by rw [cell_of_row _ _ _ _ _ _ h0]; exact (entC_parts x).2⟩)
      clear xn bn sn xo co so hbo hA7
      go_wp2_with (with_reducible refine wpList_load_mid rfl 29 _ rfl A6 0 rfl (bvs x.id.1) _ (HX6.out _ HBO.out).2.1 Try.underlying29 rfl (sizeArr x.id) ?_; refine Stop.on ?_)
      refine Stop.go ?_
      try simp only [Act.put, List.setIfInBounds_toArray, List.set_cons_zero, List.set_cons_succ]
      go_wp2_with fail
      refine (HGET.out _ (HBM.out.trans (HBO.out.mono HBM.out.size))).mono ?_
      rintro e wg ⟨rfl, hbg⟩
      have HBG := Lib.hid hbg
      clear hbg
      have hc6 := HX6.out wg (HBO.out.trans (HBG.out.mono HBO.out.size))
      have hc7 := HX7.out wg HBG.out
      have h6t := hc6.2.2.1
      have h6m := hc6.2.2.2
      have h7a := hc7.2.1
      have h7s := hc7.2.2
      have H6I := Lib.hid hc6.2.1
      have H7I := Lib.hid hc7.1
      clear hc6 hc7
      go_wp2_with (refine wpList_met rfl ?_; with_reducible refine wpList_load_mid rfl 30 _ rfl A7 0 rfl (bvs x.id.1) _ H7I.out Try.underlying30 rfl (sizeId x.id) ?_; refine Stop.on ?_)
      refine Stop.go ?_
      try simp only [Act.put, List.setIfInBounds_toArray, List.set_cons_zero, List.set_cons_succ]
      go_wp2_with (refine wpList_met rfl ?_; with_reducible refine wpList_load_mid rfl 29 _ rfl A6 0 rfl (bvs x.id.1) _ H6I.out Try.underlying29 rfl (sizeArr x.id) ?_; refine Stop.on ?_)
      refine Stop.go ?_
      try simp only [Act.put, List.setIfInBounds_toArray, List.set_cons_zero, List.set_cons_succ]
      refine wpList_met rfl ?_
      refine wpList_runI rfl (some 67) rfl (.bool false) _ (op_neq 30 (.tmp 64) (.tmp 66) 30 rfl rfl rfl guard_Id ((neq_Id x.id x.id _).trans (by rw [decide_eq_true rfl]; rfl))) ?_
      try simp only [Act.put, List.setIfInBounds_toArray, List.set_cons_zero, List.set_cons_succ]
      go_wp2_with (refine wpList_met rfl ?_; with_reducible refine wpList_load_mid rfl 29 _ rfl A6 0 rfl (bvs x.id.1) _ H6I.out Try.underlying29 rfl (sizeArr x.id) ?_; refine Stop.on ?_)
      refine Stop.go ?_
      try simp only [Act.put, List.setIfInBounds_toArray, List.set_cons_zero, List.set_cons_succ]
      go_wp2_with fail
      refine (HHAS.out wg (HBM.out.trans ((HBO.out.trans (HBG.out.mono HBO.out.size)).mono HBM.out.size))).mono ?_
      rintro e wh ⟨rfl, hbh⟩
      have HBH := Lib.hid (HBM.out.trans ((HBO.out.trans ((HBG.out.trans (hbh.mono HBG.out.size)).mono HBO.out.size)).mono HBM.out.size))
      clear hbh h6t h6m h7a h7s
      go_wp2_with fail
      go_roundw
      case rel => exact ⟨i + 1, by omega, by go_num, HBH.out⟩
      case measure => simp [intOf]; omega
    · obtain rfl : N = i := by omega
      go_wp2_with fail
      exact bodyPost_ret (v := .bool true) (by simp [results, Try.results24, go_sem]) rfl ⟨rfl, HB1.out.trans (HBR.out.mono HB1.out.size)⟩
end Go.Proofs.Ytnmdgjodbikndaa
