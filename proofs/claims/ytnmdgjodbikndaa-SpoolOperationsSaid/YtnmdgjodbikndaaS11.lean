/- The reference: New, Find, Bytes. -/
import Derived.Test.YtnmdgjodbikndaaS10
namespace Go.Proofs.Ytnmdgjodbikndaa
open Go.RowKit
set_option linter.unusedVariables false
set_option linter.unusedSimpArgs false

instance : Inhabited RefA := ⟨⟨z32, ⟨#[]⟩, 0⟩⟩
theorem RefA.cells_one (a : RefA) : ∀ v ∈ a.cells, v.oneCell' = true := by
  intro v hv
  unfold RefA.cells at hv
  simp only [List.mem_append, List.mem_cons, List.not_mem_nil, or_false] at hv
  rcases hv with hv | rfl | rfl
  · exact bvs_oneCell v hv
  · rfl
  · rfl
def zR : RefA := ⟨z32, ⟨#[]⟩, 0⟩
/-- The reference's articles as elements of slices. -/
def refE : ElemTy Try.prog 48 37 RefA where
  enc := RefA.cells
  k := 34
  hu := Try.underlying48
  hi := ⟨.agg zR.cells.toArray, 56, by kernel_rfl, by kernel_rfl, by decide⟩
  hk := by decide
  len := RefA.cells_length
  one := RefA.cells_one
theorem ref_at {w : World} {L : List RefA} {n c : Nat} {a : Option Addr} (h : ListAt refE w (.slice a n c) L) {i : Nat} (hi : i < L.length) : ∃ g off, a = some ⟨g, off, none⟩ ∧ g < w.heap.size ∧ w.rangeAt g (off + i * 34) (bvs L[i].id.1) ∧ w.cell? ⟨g, off + i * 34 + 32, none⟩ = some (.string L[i].text) ∧ w.cell? ⟨g, off + i * 34 + 33, none⟩ = some (.int .i64 L[i].min) := by
  obtain ⟨g, off, e, hg, hr⟩ := h.get hi
  have hr : w.rangeAt g (off + i * 34) L[i].cells := hr
  have hl : (bvs L[i].id.1).length = 32 := by rw [bvs_length, L[i].id.2]
  refine ⟨g, off, e, hg, fun j u hu => hr j u ?_, hr 32 _ ?_, hr 33 _ ?_⟩
  · unfold RefA.cells
    rw [List.getElem?_append_left (List.getElem?_eq_some_iff.1 hu).1]
    exact hu
  · unfold RefA.cells
    rw [List.getElem?_append_right (by omega), hl]
    rfl
  · unfold RefA.cells
    rw [List.getElem?_append_right (by omega), hl]
    rfl
theorem guard_Arr : Try.prog.eqGuardType Try.prog.depth 29 = false := by kernel_rfl
theorem keyType_Arr : Try.prog.keyTypeAt 5 29 = true := by kernel_rfl
theorem cellsOf_Arr : Try.prog.cellsOf 29 = 32 := by kernel_rfl
theorem deep_Arr : EqAt Try.prog 10000 29 := by
  have := run_equalIn_deep 9995 5 29 keyType_Arr
  simpa only [Nat.reduceAdd] using this
theorem formed_Arr (a : IdB) : (idv a).formed Try.prog 29 = true := by
  unfold idv Value.formed
  rw [Try.underlying29]
  simp [cellsOf_Arr, a.2]
theorem keyLits_Arr (d : Nat) {a : List UInt8} (h : a.length = 32) : Try.prog.keyLits (d + 2) 29 (bvs a) = some (a.map bl) := by
  unfold Program.keyLits
  rw [Try.underlying29]
  simp only [bvs_length, h, cellsOf_Arr, if_true, cellsOf_u8', Nat.mul_one]
  have hm : (List.range 32).mapM (fun i => Try.prog.keyLits (d + 1) 5 (((bvs a).drop i).take 1)) = some ((List.range 32).map (fun i => [bl (a.getD i 0)])) := by
    refine ChangeShapes.mapM_range_of 32 (fun i hi => ?_)
    have e : ((bvs a).drop i).take 1 = [bv (a.getD i 0)] := by
      rw [List.drop_eq_getElem_cons (by rw [bvs_length]; omega)]
      simp [bvs, List.getD, List.getElem?_eq_getElem (show i < a.length by omega)]
    rw [e, keyLits_byte]
  rw [hm]
  simp only [Option.map_some, Option.some.injEq]
  apply List.ext_getElem?
  intro i
  have e1 : ((List.range 32).map (fun i => [bl (a.getD i 0)])).flatten = (List.range 32).map (fun i => bl (a.getD i 0)) := by
    generalize List.range 32 = l
    induction l with
    | nil => rfl
    | cons x l ih => rw [List.map_cons, List.flatten_cons, ih]; rfl
  rw [e1]
  by_cases hi : i < 32
  · simp [hi, List.getD, List.getElem?_eq_getElem (show i < a.length by omega)]
  · rw [List.getElem?_eq_none (by simp; omega), List.getElem?_eq_none (by simp; omega)]
theorem eqIn_Arr (a b : IdB) (w : World) : (Op.equalIn 10000 29 (idv a) (idv b)).run Try.prog w = .ok (decide (a = b)) w := by
  obtain ⟨r, h1, h2⟩ := deep_Arr w 2 2 (idv a) (idv b) _ _ (formed_Arr a) (formed_Arr b) (keyLits_Arr 0 a.2) (keyLits_Arr 0 b.2)
  have e : r = decide (a = b) := by
    rw [Bool.eq_iff_iff, h2, decide_eq_true_iff]
    exact ⟨fun h => Subtype.ext (bl_inj h), fun h => by rw [h]⟩
  rw [h1, e]
theorem eql_Arr (a b : IdB) (w : World) : (binOp .eql 29 (idv a) (idv b)).run Try.prog w = .ok (.bool (decide (a = b))) w := by
  have := run_eql_struct (P := Try.prog) w 29 (bvs a.1).toArray (bvs b.1).toArray
  unfold idv
  rw [this]
  have h := eqIn_Arr a b w
  unfold idv at h
  rw [h]
  rfl
theorem zeroArrV (w : World) : (Instr.build 29 #[]).run Try.prog w = .ok (.agg (bvs z32.1).toArray) w := by kernel_rfl
theorem oneS {x : Int} {a : Option Addr} {n c : Nat} : (#[.int .i64 x, .slice a n c] : Array Value).all (·.oneCell') = true := by kernel_rfl
theorem sizeS {x : Int} {v : Value} : (Try.prog.info? 50).map (·.size) = some (#[.int .i64 x, v] : Array Value).size := by kernel_rfl
def fIx (L : List RefA) (k : IdB) : Int := match L.findIdx? (fun a => decide (a.id = k)) with | some i => (i : Int) | none => -1
set_option maxRecDepth 100000 in
set_option maxHeartbeats 2000000 in
theorem rNew_any {w : World} (n : Int) :
    Calls Try.prog 38 #[.int .i64 n] w fun e w' => e = .returned (.tuple #[.agg #[.int .i64 (if 1 ≤ n ∧ n ≤ 1073741824 then n else 0), .slice none 0 0], .int .i64 (if 1 ≤ n ∧ n ≤ 1073741824 then 0 else 2)]) ∧ Below w.heap.size w w' := by
  obtain ⟨x, hx⟩ : ∃ x, (if 1 ≤ n ∧ n ≤ 1073741824 then n else 0) = x := ⟨_, rfl⟩
  obtain ⟨c, hc⟩ : ∃ c : Int, (if 1 ≤ n ∧ n ≤ 1073741824 then (0 : Int) else 2) = c := ⟨_, rfl⟩
  rw [hx, hc]
  have HX := Lib.hid hx
  have HC := Lib.hid hc
  clear hx hc
  by_cases h1 : n < 1
  · obtain rfl : 0 = x := by rw [← HX.out, if_neg (by omega)]
    obtain rfl : 2 = c := by rw [← HC.out, if_neg (by omega)]
    go_enter Try.func38, Try.ntmps38
    go_wp2_with (refine wpList_newV rfl (some 2) rfl 50 rfl #[.int .i64 0, .slice none 0 0] 2 (by kernel_rfl) ?_; refine Stop.on ?_)
    refine Stop.go ?_
    intro w1 x1 b1 s1
    try simp only [Act.put, List.setIfInBounds_toArray, List.set_cons_zero, List.set_cons_succ]
    have HX1 := Lib.hid x1
    have HB1 := Lib.hid b1
    clear x1 b1 s1
    go_wp2_with (refine wpList_putV rfl rfl 50 (.tmp 2) (.tmp 10) rfl _ #[.int .i64 0, .slice none 0 0] rfl rfl 50 _ HX1.out sizeS rfl oneS ?_; refine Stop.on ?_)
    refine Stop.go ?_
    intro w2 x2 c2 s2
    try simp only [Act.put, List.setIfInBounds_toArray, List.set_cons_zero, List.set_cons_succ]
    have HX2 := Lib.hid x2
    have HB2 := Lib.hid (HB1.out.trans (c2.below (B := w.heap.size) (fun k e => by rw [e]; exact Nat.le_refl _) HB1.out.size))
    clear x2 c2 s2
    go_wp2_with fail
    exact bodyPost_ret (results_cell_tmp_row (g := w.heap.size) rfl _ _ _ _ _ _ rfl HX2.out Try.underlying50 rfl sizeS) rfl ⟨rfl, HB2.out⟩
  by_cases h2 : 1073741824 < n
  · obtain rfl : 0 = x := by rw [← HX.out, if_neg (by omega)]
    obtain rfl : 2 = c := by rw [← HC.out, if_neg (by omega)]
    go_enter Try.func38, Try.ntmps38
    go_wp2_with (refine wpList_newV rfl (some 2) rfl 50 rfl #[.int .i64 0, .slice none 0 0] 2 (by kernel_rfl) ?_; refine Stop.on ?_)
    refine Stop.go ?_
    intro w1 x1 b1 s1
    try simp only [Act.put, List.setIfInBounds_toArray, List.set_cons_zero, List.set_cons_succ]
    have HX1 := Lib.hid x1
    have HB1 := Lib.hid b1
    clear x1 b1 s1
    go_wp2_with (refine wpList_putV rfl rfl 50 (.tmp 2) (.tmp 10) rfl _ #[.int .i64 0, .slice none 0 0] rfl rfl 50 _ HX1.out sizeS rfl oneS ?_; refine Stop.on ?_)
    refine Stop.go ?_
    intro w2 x2 c2 s2
    try simp only [Act.put, List.setIfInBounds_toArray, List.set_cons_zero, List.set_cons_succ]
    have HX2 := Lib.hid x2
    have HB2 := Lib.hid (HB1.out.trans (c2.below (B := w.heap.size) (fun k e => by rw [e]; exact Nat.le_refl _) HB1.out.size))
    clear x2 c2 s2
    go_wp2_with fail
    exact bodyPost_ret (results_cell_tmp_row (g := w.heap.size) rfl _ _ _ _ _ _ rfl HX2.out Try.underlying50 rfl sizeS) rfl ⟨rfl, HB2.out⟩
  · obtain rfl : n = x := by rw [← HX.out, if_pos (by omega)]
    obtain rfl : 0 = c := by rw [← HC.out, if_pos (by omega)]
    go_enter Try.func38, Try.ntmps38
    go_wp2_with (refine wpList_newV rfl (some 2) rfl 50 rfl #[.int .i64 0, .slice none 0 0] 2 (by kernel_rfl) ?_; refine Stop.on ?_)
    refine Stop.go ?_
    intro w1 x1 b1 s1
    try simp only [Act.put, List.setIfInBounds_toArray, List.set_cons_zero, List.set_cons_succ]
    have HX1 := Lib.hid x1
    have HB1 := Lib.hid b1
    clear x1 b1 s1
    go_wp2_with (refine wpList_putV rfl rfl 50 (.tmp 2) (.tmp 12) rfl _ #[.int .i64 n, .slice none 0 0] rfl rfl 50 _ HX1.out sizeS rfl oneS ?_; refine Stop.on ?_)
    refine Stop.go ?_
    intro w2 x2 c2 s2
    try simp only [Act.put, List.setIfInBounds_toArray, List.set_cons_zero, List.set_cons_succ]
    have HX2 := Lib.hid x2
    have HB2 := Lib.hid (HB1.out.trans (c2.below (B := w.heap.size) (fun k e => by rw [e]; exact Nat.le_refl _) HB1.out.size))
    clear x2 c2 s2
    go_wp2_with fail
    exact bodyPost_ret (results_cell_tmp_row (g := w.heap.size) rfl _ _ _ _ _ _ rfl HX2.out Try.underlying50 rfl sizeS) rfl ⟨rfl, HB2.out⟩

theorem fIx_no {L : List RefA} {k : IdB} (h : ∀ a ∈ L, a.id ≠ k) : fIx L k = -1 := by
  unfold fIx
  rw [List.findIdx?_eq_none_iff.2 (fun a ha => decide_eq_false (h a ha))]
theorem fIx_at {L : List RefA} {k : IdB} {i : Nat} (hi : i < L.length) (h : ∀ a ∈ L.take i, a.id ≠ k) (he : L[i].id = k) : fIx L k = (i : Int) := by
  unfold fIx
  have h2 : L.findIdx? (fun a => decide (a.id = k)) = some i := by
    rw [List.findIdx?_eq_some_iff_getElem]
    refine ⟨hi, decide_eq_true he, fun j hj => ?_⟩
    have : L[j] ∈ L.take i := List.mem_take_iff_getElem.2 ⟨j, by omega, rfl⟩
    simp [h _ this]
  rw [h2]
set_option maxRecDepth 100000 in
set_option maxHeartbeats 2000000 in
theorem rFind_any {w : World} (B : Int) (v : Value) (L : List RefA) (k : IdB) (hv : ListAt refE w v L) (hl : L.length < 1000000000) :
    Calls Try.prog 46 #[.agg #[.int .i64 B, v], .agg (bvs k.1).toArray] w fun e w' => e = .returned (.int .i64 (fIx L k)) ∧ Below w.heap.size w w' := by
  obtain ⟨va, vc, rfl⟩ := hv.form
  obtain ⟨N, hN⟩ : ∃ N, L.length = N := ⟨_, rfl⟩
  obtain ⟨c, hc⟩ : ∃ c, fIx L k = c := ⟨_, rfl⟩
  rw [hN] at hv hl ⊢
  rw [hc]
  obtain ⟨w1, hw1⟩ : ∃ w1, w.alloc (.cells #[.int .i64 B, .slice va N vc] 50) = w1 := ⟨_, rfl⟩
  obtain ⟨w2, hw2⟩ : ∃ w2, w1.alloc (.cells (bvs k.1).toArray 29) = w2 := ⟨_, rfl⟩
  have hx1 : w1.heap[w.heap.size]? = some (.cells #[.int .i64 B, .slice va N vc] 50 (0, 0)) := by rw [← hw1]; exact heap_alloc_new _ _
  have hx2 : w2.heap[w1.heap.size]? = some (.cells (bvs k.1).toArray 29 (0, 0)) := by rw [← hw2]; exact heap_alloc_new _ _
  have hb1 : Below w.heap.size w w1 := hw1 ▸ (Below.refl _ _).alloc (Nat.le_refl _) _
  have hb2 : Below w1.heap.size w1 w2 := hw2 ▸ (Below.refl _ _).alloc (Nat.le_refl _) _
  have hx1 := (hb2.block _ (Array.getElem?_eq_some_iff.1 hx1).1).trans hx1
  have HX1 := Lib.hid hx1
  have HX2 := Lib.hid hx2
  have HB := Lib.hid (hb1.trans (hb2.mono hb1.size))
  have HV := Lib.hid (hv.below (hb1.trans (hb2.mono hb1.size)))
  have HN := Lib.hid hN
  have HC := Lib.hid hc
  clear hx1 hx2 hb1 hb2 hv hN hc
  go_enter Try.func46, Try.ntmps46
  go_wp2_with fail
  go_loopw [5] (fun iv wr => ∃ i : Nat, i ≤ N ∧ iv = .int .i64 (i : Int) ∧ (∀ a ∈ L.take i, a.id ≠ k) ∧ Below w2.heap.size w2 wr) (fun iv _ => N - (intOf iv).toNat)
  case atStart => exact ⟨0, Nat.zero_le _, rfl, by simp, Below.refl _ _⟩
  case round =>
    obtain ⟨i, hi, rfl, hno, hB⟩ := hrel
    have HNO := Lib.hid hno
    have HBR := Lib.hid hB
    have hcl : wr.cell? ⟨w.heap.size, 1, none⟩ = some (.slice va N vc) := by rw [cell_of_row _ _ _ _ _ _ ((hB.block _ (Array.getElem?_eq_some_iff.1 HX1.out).1).trans HX1.out)]; rfl
    clear hB hno
    by_cases hlt : i < N
    · have hiI : (i : Int) < (N : Int) := by omega
      have hiI0 : (0 : Int) ≤ (i : Int) := by omega
      have hlt' : i < L.length := by rw [HN.out]; exact hlt
      obtain ⟨g, off, rfl, hg, hr, _, _⟩ := ref_at (HV.out.below HBR.out) hlt'
      have hsn : (L.take (i + 1)) = L.take i ++ [L[i]] := List.take_succ_eq_append_getElem hlt'
      have hfa : L[i].id = k → fIx L k = (i : Int) := fun e => fIx_at hlt' HNO.out e
      obtain ⟨a, ha⟩ : ∃ a, L[i] = a := ⟨_, rfl⟩
      rw [ha] at hr hsn hfa
      have HR := Lib.hid (show ∀ w', Below wr.heap.size wr w' → w'.rangeAt g (off + i * 34) (bvs a.id.1) ∧ w'.rangeAt w1.heap.size 0 (bvs k.1) from fun w' hw' => ⟨fun j u hu => (hw'.cell (p := ⟨g, off + i * 34 + j, none⟩) hg).trans (hr j u hu), range_block ((hw'.block _ (Nat.lt_of_lt_of_le (Array.getElem?_eq_some_iff.1 HX2.out).1 HBR.out.size)).trans ((HBR.out.block _ (Array.getElem?_eq_some_iff.1 HX2.out).1).trans HX2.out))⟩)
      have HC2 := Lib.hid (show ∀ w', Below wr.heap.size wr w' → w'.cell? ⟨w.heap.size, 1, none⟩ = some (.slice (some ⟨g, off, none⟩) N vc) from fun w' hw' => (hw'.cell (p := ⟨w.heap.size, 1, none⟩) (World.block_lt_of_cell? _ _ hcl)).trans hcl)
      have HSN := Lib.hid hsn
      have HFA := Lib.hid hfa
      clear hr hsn hfa ha hg
      go_wp2_with fail
      by_cases heq : a.id = k
      · have HEQ := Lib.hid (fun w' => (eql_Arr a.id k w').trans (by rw [decide_eq_true heq]))
        have HE := Lib.hid (HC.out.symm.trans (HFA.out heq))
        clear heq
        refine wp_region_noPanic ?_
        refine wp_region_H (Below wr.heap.size wr) (by kernel_rfl) ?_
        have hS0 : (Below wr.heap.size wr) wr.drew := (Below.refl _ _).drew
        obtain ⟨wd, hwd⟩ : ∃ wd, wr.drew = wd := ⟨_, rfl⟩
        rw [hwd] at hS0 ⊢
        clear hwd
        refine wpAnyH_takeI (i := 0) (v := ?v1) rfl (by kernel_rfl) (by kernel_rfl) (by kernel_rfl) (fun _ _ _ h => h) (yieldsIf_run rfl (fun w' hw' => ?y1)) hS0 ?_
        case y1 => first | (go_simp; rfl) | (go_simp; done) | rfl
        simp only [Act.put, List.setIfInBounds_toArray, List.set_cons_zero, List.set_cons_succ]
        refine wpAnyH_takeI (i := 1) (v := .slice (some ⟨g, off, none⟩) N vc) rfl (by kernel_rfl) (by kernel_rfl) (by kernel_rfl) (fun _ _ _ h => h) (yieldsIf_run rfl (fun w' hw' => ?y2)) hS0 ?_
        case y2 => (have hc := HC2.out w' hw'; clear hw'; first | (go_simp; rfl) | (go_simp; done))
        simp only [Act.put, List.setIfInBounds_toArray, List.set_cons_zero, List.set_cons_succ]
        refine wpAnyH_takeI (i := 2) (v := ?v3) rfl (by kernel_rfl) (by kernel_rfl) (by kernel_rfl) (fun _ _ _ h => h) (yieldsIf_run rfl (fun w' hw' => ?y3)) hS0 ?_
        case y3 => first | (go_simp; rfl) | (go_simp; done) | rfl
        simp only [Act.put, List.setIfInBounds_toArray, List.set_cons_zero, List.set_cons_succ]
        refine wpAnyH_takeI (i := 3) (v := ?v4) rfl (by kernel_rfl) (by kernel_rfl) (by kernel_rfl) (fun _ _ _ h => h) (yieldsIf_run rfl (fun w' hw' => ?y4)) hS0 ?_
        case y4 => first | (go_simp; rfl) | (go_simp; done) | rfl
        simp only [Act.put, List.setIfInBounds_toArray, List.set_cons_zero, List.set_cons_succ]
        refine wpAnyH_takeI (i := 4) (v := ?v5) rfl (by kernel_rfl) (by kernel_rfl) (by kernel_rfl) (fun _ _ _ h => h) (yieldsIf_run rfl (fun w' hw' => ?y5)) hS0 ?_
        case y5 => first | (go_simp; rfl) | (go_simp; done) | rfl
        simp only [Act.put, List.setIfInBounds_toArray, List.set_cons_zero, List.set_cons_succ]
        refine wpAnyH_takeI (i := 5) (v := .agg (bvs a.id.1).toArray) rfl (by kernel_rfl) (by kernel_rfl) (by kernel_rfl) (fun _ _ _ h => h) (yieldsIf_load_mid rfl 29 (.tmp 17) rfl g (off + i * 34) rfl (bvs a.id.1) _ (fun w' hw' => (HR.out w' hw').1) Try.underlying29 rfl (sizeArr a.id)) hS0 ?_
        simp only [Act.put, List.setIfInBounds_toArray, List.set_cons_zero, List.set_cons_succ]
        refine wpAnyH_takeI (i := 6) (v := .agg (bvs k.1).toArray) rfl (by kernel_rfl) (by kernel_rfl) (by kernel_rfl) (fun _ _ _ h => h) (yieldsIf_load_mid rfl 29 (.tmp 3) rfl w1.heap.size (0) rfl (bvs k.1) _ (fun w' hw' => (HR.out w' hw').2) Try.underlying29 rfl (sizeArr k)) hS0 ?_
        simp only [Act.put, List.setIfInBounds_toArray, List.set_cons_zero, List.set_cons_succ]
        refine wpAnyH_takeI (i := 7) (v := .bool true) rfl (by kernel_rfl) (by kernel_rfl) (by kernel_rfl) (fun _ _ _ h => h) (yieldsIf_run rfl (fun w' hw' => op_eql 29 (.tmp 18) (.tmp 19) 29 rfl rfl rfl guard_Arr (HEQ.out w'))) hS0 ?_
        simp only [Act.put, List.setIfInBounds_toArray, List.set_cons_zero, List.set_cons_succ]
        refine wpAnyH_done (by kernel_rfl) ?_ _
        refine NoPanic.normal ?_
        go_wp2_with fail
        exact bodyPost_ret (v := .int .i64 (i : Int)) (by simp [results, Try.results46, go_sem]) rfl ⟨by rw [HE.out], HB.out.trans ((HBR.out.trans (hS0.mono HBR.out.size)).mono HB.out.size)⟩
      · have HEQ := Lib.hid (fun w' => (eql_Arr a.id k w').trans (by rw [decide_eq_false heq]))
        have HE := Lib.hid heq
        clear heq
        refine wp_region_noPanic ?_
        refine wp_region_H (Below wr.heap.size wr) (by kernel_rfl) ?_
        have hS0 : (Below wr.heap.size wr) wr.drew := (Below.refl _ _).drew
        obtain ⟨wd, hwd⟩ : ∃ wd, wr.drew = wd := ⟨_, rfl⟩
        rw [hwd] at hS0 ⊢
        clear hwd
        refine wpAnyH_takeI (i := 0) (v := ?v1b) rfl (by kernel_rfl) (by kernel_rfl) (by kernel_rfl) (fun _ _ _ h => h) (yieldsIf_run rfl (fun w' hw' => ?y1b)) hS0 ?_
        case y1b => first | (go_simp; rfl) | (go_simp; done) | rfl
        simp only [Act.put, List.setIfInBounds_toArray, List.set_cons_zero, List.set_cons_succ]
        refine wpAnyH_takeI (i := 1) (v := .slice (some ⟨g, off, none⟩) N vc) rfl (by kernel_rfl) (by kernel_rfl) (by kernel_rfl) (fun _ _ _ h => h) (yieldsIf_run rfl (fun w' hw' => ?y2b)) hS0 ?_
        case y2b => (have hc := HC2.out w' hw'; clear hw'; first | (go_simp; rfl) | (go_simp; done))
        simp only [Act.put, List.setIfInBounds_toArray, List.set_cons_zero, List.set_cons_succ]
        refine wpAnyH_takeI (i := 2) (v := ?v3b) rfl (by kernel_rfl) (by kernel_rfl) (by kernel_rfl) (fun _ _ _ h => h) (yieldsIf_run rfl (fun w' hw' => ?y3b)) hS0 ?_
        case y3b => first | (go_simp; rfl) | (go_simp; done) | rfl
        simp only [Act.put, List.setIfInBounds_toArray, List.set_cons_zero, List.set_cons_succ]
        refine wpAnyH_takeI (i := 3) (v := ?v4b) rfl (by kernel_rfl) (by kernel_rfl) (by kernel_rfl) (fun _ _ _ h => h) (yieldsIf_run rfl (fun w' hw' => ?y4b)) hS0 ?_
        case y4b => first | (go_simp; rfl) | (go_simp; done) | rfl
        simp only [Act.put, List.setIfInBounds_toArray, List.set_cons_zero, List.set_cons_succ]
        refine wpAnyH_takeI (i := 4) (v := ?v5b) rfl (by kernel_rfl) (by kernel_rfl) (by kernel_rfl) (fun _ _ _ h => h) (yieldsIf_run rfl (fun w' hw' => ?y5b)) hS0 ?_
        case y5b => first | (go_simp; rfl) | (go_simp; done) | rfl
        simp only [Act.put, List.setIfInBounds_toArray, List.set_cons_zero, List.set_cons_succ]
        refine wpAnyH_takeI (i := 5) (v := .agg (bvs a.id.1).toArray) rfl (by kernel_rfl) (by kernel_rfl) (by kernel_rfl) (fun _ _ _ h => h) (yieldsIf_load_mid rfl 29 (.tmp 17) rfl g (off + i * 34) rfl (bvs a.id.1) _ (fun w' hw' => (HR.out w' hw').1) Try.underlying29 rfl (sizeArr a.id)) hS0 ?_
        simp only [Act.put, List.setIfInBounds_toArray, List.set_cons_zero, List.set_cons_succ]
        refine wpAnyH_takeI (i := 6) (v := .agg (bvs k.1).toArray) rfl (by kernel_rfl) (by kernel_rfl) (by kernel_rfl) (fun _ _ _ h => h) (yieldsIf_load_mid rfl 29 (.tmp 3) rfl w1.heap.size (0) rfl (bvs k.1) _ (fun w' hw' => (HR.out w' hw').2) Try.underlying29 rfl (sizeArr k)) hS0 ?_
        simp only [Act.put, List.setIfInBounds_toArray, List.set_cons_zero, List.set_cons_succ]
        refine wpAnyH_takeI (i := 7) (v := .bool false) rfl (by kernel_rfl) (by kernel_rfl) (by kernel_rfl) (fun _ _ _ h => h) (yieldsIf_run rfl (fun w' hw' => op_eql 29 (.tmp 18) (.tmp 19) 29 rfl rfl rfl guard_Arr (HEQ.out w'))) hS0 ?_
        simp only [Act.put, List.setIfInBounds_toArray, List.set_cons_zero, List.set_cons_succ]
        refine wpAnyH_done (by kernel_rfl) ?_ _
        refine NoPanic.normal ?_
        go_wp2_with fail
        go_roundw
        case rel => exact ⟨i + 1, by omega, by go_num, (by rw [HSN.out]; intro x hx; rcases List.mem_append.1 hx with h | h; exact HNO.out x h; rw [List.mem_singleton.1 h]; exact HE.out), HBR.out.trans (hS0.mono HBR.out.size)⟩
        case measure => simp [intOf]; omega
    · obtain rfl : N = i := by omega
      have hcc : -1 = c := by
        rw [← HC.out]
        refine (fIx_no ?_).symm
        have h := HNO.out
        rw [List.take_of_length_le (by rw [HN.out]; exact Nat.le_refl _)] at h
        exact h
      subst hcc
      go_wp2_with fail
      exact bodyPost_ret (v := .int .i64 (-1)) (by simp [results, Try.results46, go_sem]) rfl ⟨rfl, HB.out.trans (HBR.out.mono HB.out.size)⟩
def rSize (L : List RefA) : Nat := (L.map (·.text.size)).sum
set_option maxRecDepth 100000 in
set_option maxHeartbeats 2000000 in
theorem rBytes_any {w : World} (B : Int) (v : Value) (L : List RefA) (hv : ListAt refE w v L) (hl : L.length < 1000000) (ht : ∀ a ∈ L, a.text.size ≤ 65536) :
    Calls Try.prog 39 #[.agg #[.int .i64 B, v]] w fun e w' => e = .returned (.int .i64 (rSize L : Int)) ∧ Below w.heap.size w w' := by
  obtain ⟨va, vc, rfl⟩ := hv.form
  obtain ⟨N, hN⟩ : ∃ N, L.length = N := ⟨_, rfl⟩
  rw [hN] at hv hl ⊢
  obtain ⟨w1, hw1⟩ : ∃ w1, w.alloc (.cells #[.int .i64 B, .slice va N vc] 50) = w1 := ⟨_, rfl⟩
  have hx1 : w1.heap[w.heap.size]? = some (.cells #[.int .i64 B, .slice va N vc] 50 (0, 0)) := by rw [← hw1]; exact heap_alloc_new _ _
  have hb1 : Below w.heap.size w w1 := hw1 ▸ (Below.refl _ _).alloc (Nat.le_refl _) _
  have hcl : w1.cell? ⟨w.heap.size, 1, none⟩ = some (.slice va N vc) := by rw [cell_of_row _ _ _ _ _ _ hx1]; rfl
  have HB := Lib.hid hb1
  have HV := Lib.hid (hv.below hb1)
  have HN := Lib.hid hN
  have HT := Lib.hid ht
  obtain ⟨TT, hTT⟩ : ∃ TT : Int, (rSize L : Int) = TT := ⟨_, rfl⟩
  rw [hTT]
  have HTT := Lib.hid hTT
  clear hx1 hb1 hv hN ht hTT
  go_enter Try.func39, Try.ntmps39
  go_wp2_with fail
  go_loopw [3, 4] (fun nv iv wr => ∃ (i n : Nat), i ≤ N ∧ iv = .int .i64 (i : Int) ∧ nv = .int .i64 (n : Int) ∧ n = rSize (L.take i) ∧ n ≤ 65536 * i ∧ wr = w1) (fun _ iv _ => N - (intOf iv).toNat)
  case atStart => exact ⟨0, 0, Nat.zero_le _, rfl, rfl, rfl, Nat.zero_le _, rfl⟩
  case round =>
    obtain ⟨i, n, hi, rfl, rfl, hn, hnb, rfl⟩ := hrel
    have HNN := Lib.hid hn
    clear hn
    by_cases hlt : i < N
    · have hiI : (i : Int) < (N : Int) := by omega
      have hiI0 : (0 : Int) ≤ (i : Int) := by omega
      have hlt' : i < L.length := by rw [HN.out]; exact hlt
      obtain ⟨g, off, rfl, hg, _, htx, _⟩ := ref_at HV.out hlt'
      have hsn : rSize (L.take (i + 1)) = rSize (L.take i) + L[i].text.size := by
        unfold rSize
        rw [List.take_succ_eq_append_getElem hlt', List.map_append, List.sum_append]
        simp
      have hts := HT.out _ (List.getElem_mem hlt')
      obtain ⟨t, hte⟩ : ∃ t, L[i].text = t := ⟨_, rfl⟩
      rw [hte] at htx hsn hts
      have HSN := Lib.hid hsn
      clear hsn hte hg
      go_wp2_with fail
      go_roundw
      case rel => exact ⟨i + 1, n + t.size, by omega, by go_num, by go_num, by rw [HSN.out, HNN.out], by omega, by first | trivial | rfl⟩
      case measure => simp [intOf]; omega
    · obtain rfl : N = i := by omega
      have hTn : (n : Int) = TT := by
        rw [← HTT.out, HNN.out, List.take_of_length_le (by rw [HN.out]; exact Nat.le_refl _)]
      subst hTn
      go_wp2_with fail
      exact bodyPost_ret (v := .int .i64 (n : Int)) (by simp [results, Try.results39, go_sem]) rfl ⟨rfl, HB.out⟩
end Go.Proofs.Ytnmdgjodbikndaa
