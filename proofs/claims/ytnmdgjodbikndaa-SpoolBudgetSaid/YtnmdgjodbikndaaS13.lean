/- The reference: New, Find, Bytes; The reference: Put, Remove; The reference: Remove. -/
import Derived.Test.YtnmdgjodbikndaaS10
namespace Go.Proofs.Ytnmdgjodbikndaa
open Go.RowKit
set_option linter.unusedVariables false
set_option linter.unusedSimpArgs false

instance : Inhabited RefA := ⟨⟨z32, ⟨#[]⟩, 0⟩⟩
theorem RefA.cells_one (a : RefA) : ∀ v ∈ a.cells, v.oneCell' = true := by
  intro v hv
  unfold RefA.cells at hv
  simp only [List.mem_append, List.mem_cons, List.not_mem_nil, or_false] at hv
  rcases hv with hv | rfl | rfl
  · exact bvs_oneCell v hv
  · rfl
  · rfl
def zR : RefA := ⟨z32, ⟨#[]⟩, 0⟩
/-- The reference's articles as elements of slices. -/
def refE : ElemTy Try.prog 48 37 RefA where
  enc := RefA.cells
  k := 34
  hu := Try.underlying48
  hi := ⟨.agg zR.cells.toArray, 56, by kernel_rfl, by kernel_rfl, by decide⟩
  hk := by decide
  len := RefA.cells_length
  one := RefA.cells_one
theorem ref_at {w : World} {L : List RefA} {n c : Nat} {a : Option Addr} (h : ListAt refE w (.slice a n c) L) {i : Nat} (hi : i < L.length) : ∃ g off, a = some ⟨g, off, none⟩ ∧ g < w.heap.size ∧ w.rangeAt g (off + i * 34) (bvs L[i].id.1) ∧ w.cell? ⟨g, off + i * 34 + 32, none⟩ = some (.string L[i].text) ∧ w.cell? ⟨g, off + i * 34 + 33, none⟩ = some (.int .i64 L[i].min) := by
  obtain ⟨g, off, e, hg, hr⟩ := h.get hi
  have hr : w.rangeAt g (off + i * 34) L[i].cells := hr
  have hl : (bvs L[i].id.1).length = 32 := by rw [bvs_length, L[i].id.2]
  refine ⟨g, off, e, hg, fun j u hu => hr j u ?_, hr 32 _ ?_, hr 33 _ ?_⟩
  · unfold RefA.cells
    rw [List.getElem?_append_left (List.getElem?_eq_some_iff.1 hu).1]
    exact hu
  · unfold RefA.cells
    rw [List.getElem?_append_right (by omega), hl]
    rfl
  · unfold RefA.cells
    rw [List.getElem?_append_right (by omega), hl]
    rfl
theorem guard_Arr : Try.prog.eqGuardType Try.prog.depth 29 = false := by kernel_rfl
theorem keyType_Arr : Try.prog.keyTypeAt 5 29 = true := by kernel_rfl
theorem cellsOf_Arr : Try.prog.cellsOf 29 = 32 := by kernel_rfl
theorem deep_Arr : EqAt Try.prog 10000 29 := by
  have := run_equalIn_deep 9995 5 29 keyType_Arr
  simpa only [Nat.reduceAdd] using this
theorem formed_Arr (a : IdB) : (idv a).formed Try.prog 29 = true := by
  unfold idv Value.formed
  rw [Try.underlying29]
  simp [cellsOf_Arr, a.2]
theorem keyLits_Arr (d : Nat) {a : List UInt8} (h : a.length = 32) : Try.prog.keyLits (d + 2) 29 (bvs a) = some (a.map bl) := by
  unfold Program.keyLits
  rw [Try.underlying29]
  simp only [bvs_length, h, cellsOf_Arr, if_true, cellsOf_u8', Nat.mul_one]
  have hm : (List.range 32).mapM (fun i => Try.prog.keyLits (d + 1) 5 (((bvs a).drop i).take 1)) = some ((List.range 32).map (fun i => [bl (a.getD i 0)])) := by
    refine ChangeShapes.mapM_range_of 32 (fun i hi => ?_)
    have e : ((bvs a).drop i).take 1 = [bv (a.getD i 0)] := by
      rw [List.drop_eq_getElem_cons (by rw [bvs_length]; omega)]
      simp [bvs, List.getD, List.getElem?_eq_getElem (show i < a.length by omega)]
    rw [e, keyLits_byte]
  rw [hm]
  simp only [Option.map_some, Option.some.injEq]
  apply List.ext_getElem?
  intro i
  have e1 : ((List.range 32).map (fun i => [bl (a.getD i 0)])).flatten = (List.range 32).map (fun i => bl (a.getD i 0)) := by
    generalize List.range 32 = l
    induction l with
    | nil => rfl
    | cons x l ih => rw [List.map_cons, List.flatten_cons, ih]; rfl
  rw [e1]
  by_cases hi : i < 32
  · simp [hi, List.getD, List.getElem?_eq_getElem (show i < a.length by omega)]
  · rw [List.getElem?_eq_none (by simp; omega), List.getElem?_eq_none (by simp; omega)]
theorem eqIn_Arr (a b : IdB) (w : World) : (Op.equalIn 10000 29 (idv a) (idv b)).run Try.prog w = .ok (decide (a = b)) w := by
  obtain ⟨r, h1, h2⟩ := deep_Arr w 2 2 (idv a) (idv b) _ _ (formed_Arr a) (formed_Arr b) (keyLits_Arr 0 a.2) (keyLits_Arr 0 b.2)
  have e : r = decide (a = b) := by
    rw [Bool.eq_iff_iff, h2, decide_eq_true_iff]
    exact ⟨fun h => Subtype.ext (bl_inj h), fun h => by rw [h]⟩
  rw [h1, e]
theorem eql_Arr (a b : IdB) (w : World) : (binOp .eql 29 (idv a) (idv b)).run Try.prog w = .ok (.bool (decide (a = b))) w := by
  have := run_eql_struct (P := Try.prog) w 29 (bvs a.1).toArray (bvs b.1).toArray
  unfold idv
  rw [this]
  have h := eqIn_Arr a b w
  unfold idv at h
  rw [h]
  rfl
theorem zeroArrV (w : World) : (Instr.build 29 #[]).run Try.prog w = .ok (.agg (bvs z32.1).toArray) w := by kernel_rfl
theorem oneS {x : Int} {a : Option Addr} {n c : Nat} : (#[.int .i64 x, .slice a n c] : Array Value).all (·.oneCell') = true := by kernel_rfl
theorem sizeS {x : Int} {v : Value} : (Try.prog.info? 50).map (·.size) = some (#[.int .i64 x, v] : Array Value).size := by kernel_rfl
def fIx (L : List RefA) (k : IdB) : Int := match L.findIdx? (fun a => decide (a.id = k)) with | some i => (i : Int) | none => -1
set_option maxRecDepth 100000 in
set_option maxHeartbeats 2000000 in
theorem rNew_any {w : World} (n : Int) :
    Calls Try.prog 38 #[.int .i64 n] w fun e w' => e = .returned (.tuple #[.agg #[.int .i64 (if 1 ≤ n ∧ n ≤ 1073741824 then n else 0), .slice none 0 0], .int .i64 (if 1 ≤ n ∧ n ≤ 1073741824 then 0 else 2)]) ∧ Below w.heap.size w w' := by
  obtain ⟨x, hx⟩ : ∃ x, (if 1 ≤ n ∧ n ≤ 1073741824 then n else 0) = x := ⟨_, rfl⟩
  obtain ⟨c, hc⟩ : ∃ c : Int, (if 1 ≤ n ∧ n ≤ 1073741824 then (0 : Int) else 2) = c := ⟨_, rfl⟩
  rw [hx, hc]
  have HX := Lib.hid hx
  have HC := Lib.hid hc
  clear hx hc
  by_cases h1 : n < 1
  · obtain rfl : 0 = x := by rw [← HX.out, if_neg (by omega)]
    obtain rfl : 2 = c := by rw [← HC.out, if_neg (by omega)]
    go_enter Try.func38, Try.ntmps38
    go_wp2_with (refine wpList_newV rfl (some 2) rfl 50 rfl #[.int .i64 0, .slice none 0 0] 2 (by kernel_rfl) ?_; refine Stop.on ?_)
    refine Stop.go ?_
    intro w1 x1 b1 s1
    try simp only [Act.put, List.setIfInBounds_toArray, List.set_cons_zero, List.set_cons_succ]
    have HX1 := Lib.hid x1
    have HB1 := Lib.hid b1
    clear x1 b1 s1
    go_wp2_with (refine wpList_putV rfl rfl 50 (.tmp 2) (.tmp 10) rfl _ #[.int .i64 0, .slice none 0 0] rfl rfl 50 _ HX1.out sizeS rfl oneS ?_; refine Stop.on ?_)
    refine Stop.go ?_
    intro w2 x2 c2 s2
    try simp only [Act.put, List.setIfInBounds_toArray, List.set_cons_zero, List.set_cons_succ]
    have HX2 := Lib.hid x2
    have HB2 := Lib.hid (HB1.out.trans (c2.below (B := w.heap.size) (fun k e => by rw [e]; exact Nat.le_refl _) HB1.out.size))
    clear x2 c2 s2
    go_wp2_with fail
    exact bodyPost_ret (results_cell_tmp_row (g := w.heap.size) rfl _ _ _ _ _ _ rfl HX2.out Try.underlying50 rfl sizeS) rfl ⟨rfl, HB2.out⟩
  by_cases h2 : 1073741824 < n
  · obtain rfl : 0 = x := by rw [← HX.out, if_neg (by omega)]
    obtain rfl : 2 = c := by rw [← HC.out, if_neg (by omega)]
    go_enter Try.func38, Try.ntmps38
    go_wp2_with (refine wpList_newV rfl (some 2) rfl 50 rfl #[.int .i64 0, .slice none 0 0] 2 (by kernel_rfl) ?_; refine Stop.on ?_)
    refine Stop.go ?_
    intro w1 x1 b1 s1
    try simp only [Act.put, List.setIfInBounds_toArray, List.set_cons_zero, List.set_cons_succ]
    have HX1 := Lib.hid x1
    have HB1 := Lib.hid b1
    clear x1 b1 s1
    go_wp2_with (refine wpList_putV rfl rfl 50 (.tmp 2) (.tmp 10) rfl _ #[.int .i64 0, .slice none 0 0] rfl rfl 50 _ HX1.out sizeS rfl oneS ?_; refine Stop.on ?_)
    refine Stop.go ?_
    intro w2 x2 c2 s2
    try simp only [Act.put, List.setIfInBounds_toArray, List.set_cons_zero, List.set_cons_succ]
    have HX2 := Lib.hid x2
    have HB2 := Lib.hid (HB1.out.trans (c2.below (B := w.heap.size) (fun k e => by rw [e]; exact Nat.le_refl _) HB1.out.size))
    clear x2 c2 s2
    go_wp2_with fail
    exact bodyPost_ret (results_cell_tmp_row (g := w.heap.size) rfl _ _ _ _ _ _ rfl HX2.out Try.underlying50 rfl sizeS) rfl ⟨rfl, HB2.out⟩
  · obtain rfl : n = x := by rw [← HX.out, if_pos (by omega)]
    obtain rfl : 0 = c := by rw [← HC.out, if_pos (by omega)]
    go_enter Try.func38, Try.ntmps38
    go_wp2_with (refine wpList_newV rfl (some 2) rfl 50 rfl #[.int .i64 0, .slice none 0 0] 2 (by kernel_rfl) ?_; refine Stop.on ?_)
    refine Stop.go ?_
    intro w1 x1 b1 s1
    try simp only [Act.put, List.setIfInBounds_toArray, List.set_cons_zero, List.set_cons_succ]
    have HX1 := Lib.hid x1
    have HB1 := Lib.hid b1
    clear x1 b1 s1
    go_wp2_with (refine wpList_putV rfl rfl 50 (.tmp 2) (.tmp 12) rfl _ #[.int .i64 n, .slice none 0 0] rfl rfl 50 _ HX1.out sizeS rfl oneS ?_; refine Stop.on ?_)
    refine Stop.go ?_
    intro w2 x2 c2 s2
    try simp only [Act.put, List.setIfInBounds_toArray, List.set_cons_zero, List.set_cons_succ]
    have HX2 := Lib.hid x2
    have HB2 := Lib.hid (HB1.out.trans (c2.below (B := w.heap.size) (fun k e => by rw [e]; exact Nat.le_refl _) HB1.out.size))
    clear x2 c2 s2
    go_wp2_with fail
    exact bodyPost_ret (results_cell_tmp_row (g := w.heap.size) rfl _ _ _ _ _ _ rfl HX2.out Try.underlying50 rfl sizeS) rfl ⟨rfl, HB2.out⟩

theorem fIx_no {L : List RefA} {k : IdB} (h : ∀ a ∈ L, a.id ≠ k) : fIx L k = -1 := by
  unfold fIx
  rw [List.findIdx?_eq_none_iff.2 (fun a ha => decide_eq_false (h a ha))]
theorem fIx_at {L : List RefA} {k : IdB} {i : Nat} (hi : i < L.length) (h : ∀ a ∈ L.take i, a.id ≠ k) (he : L[i].id = k) : fIx L k = (i : Int) := by
  unfold fIx
  have h2 : L.findIdx? (fun a => decide (a.id = k)) = some i := by
    rw [List.findIdx?_eq_some_iff_getElem]
    refine ⟨hi, decide_eq_true he, fun j hj => ?_⟩
    have : L[j] ∈ L.take i := List.mem_take_iff_getElem.2 ⟨j, by omega, rfl⟩
    simp [h _ this]
  rw [h2]
set_option maxRecDepth 100000 in
set_option maxHeartbeats 2000000 in
theorem rFind_any {w : World} (B : Int) (v : Value) (L : List RefA) (k : IdB) (hv : ListAt refE w v L) (hl : L.length < 1000000000) :
    Calls Try.prog 46 #[.agg #[.int .i64 B, v], .agg (bvs k.1).toArray] w fun e w' => e = .returned (.int .i64 (fIx L k)) ∧ Below w.heap.size w w' := by
  obtain ⟨va, vc, rfl⟩ := hv.form
  obtain ⟨N, hN⟩ : ∃ N, L.length = N := ⟨_, rfl⟩
  obtain ⟨c, hc⟩ : ∃ c, fIx L k = c := ⟨_, rfl⟩
  rw [hN] at hv hl ⊢
  rw [hc]
  obtain ⟨w1, hw1⟩ : ∃ w1, w.alloc (.cells #[.int .i64 B, .slice va N vc] 50) = w1 := ⟨_, rfl⟩
  obtain ⟨w2, hw2⟩ : ∃ w2, w1.alloc (.cells (bvs k.1).toArray 29) = w2 := ⟨_, rfl⟩
  have hx1 : w1.heap[w.heap.size]? = some (.cells #[.int .i64 B, .slice va N vc] 50 (0, 0)) := by rw [← hw1]; exact heap_alloc_new _ _
  have hx2 : w2.heap[w1.heap.size]? = some (.cells (bvs k.1).toArray 29 (0, 0)) := by rw [← hw2]; exact heap_alloc_new _ _
  have hb1 : Below w.heap.size w w1 := hw1 ▸ (Below.refl _ _).alloc (Nat.le_refl _) _
  have hb2 : Below w1.heap.size w1 w2 := hw2 ▸ (Below.refl _ _).alloc (Nat.le_refl _) _
  have hx1 := (hb2.block _ (Array.getElem?_eq_some_iff.1 hx1).1).trans hx1
  have HX1 := Lib.hid hx1
  have HX2 := Lib.hid hx2
  have HB := Lib.hid (hb1.trans (hb2.mono hb1.size))
  have HV := Lib.hid (hv.below (hb1.trans (hb2.mono hb1.size)))
  have HN := Lib.hid hN
  have HC := Lib.hid hc
  clear hx1 hx2 hb1 hb2 hv hN hc
  go_enter Try.func46, Try.ntmps46
  go_wp2_with fail
  go_loopw [5] (fun iv wr => ∃ i : Nat, i ≤ N ∧ iv = .int .i64 (i : Int) ∧ (∀ a ∈ L.take i, a.id ≠ k) ∧ Below w2.heap.size w2 wr) (fun iv _ => N - (intOf iv).toNat)
  case atStart => exact ⟨0, Nat.zero_le _, rfl, by simp, Below.refl _ _⟩
  case round =>
    obtain ⟨i, hi, rfl, hno, hB⟩ := hrel
    have HNO := Lib.hid hno
    have HBR := Lib.hid hB
    have hcl : wr.cell? ⟨w.heap.size, 1, none⟩ = some (.slice va N vc) := by rw [cell_of_row _ _ _ _ _ _ ((hB.block _ (Array.getElem?_eq_some_iff.1 HX1.out).1).trans HX1.out)]; rfl
    clear hB hno
    by_cases hlt : i < N
    · have hiI : (i : Int) < (N : Int) := by omega
      have hiI0 : (0 : Int) ≤ (i : Int) := by omega
      have hlt' : i < L.length := by rw [HN.out]; exact hlt
      obtain ⟨g, off, rfl, hg, hr, _, _⟩ := ref_at (HV.out.below HBR.out) hlt'
      have hsn : (L.take (i + 1)) = L.take i ++ [L[i]] := List.take_succ_eq_append_getElem hlt'
      have hfa : L[i].id = k → fIx L k = (i : Int) := fun e => fIx_at hlt' HNO.out e
      obtain ⟨a, ha⟩ : ∃ a, L[i] = a := ⟨_, rfl⟩
      rw [ha] at hr hsn hfa
      have HR := Lib.hid (show ∀ w', Below wr.heap.size wr w' → w'.rangeAt g (off + i * 34) (bvs a.id.1) ∧ w'.rangeAt w1.heap.size 0 (bvs k.1) from fun w' hw' => ⟨fun j u hu => (hw'.cell (p := ⟨g, off + i * 34 + j, none⟩) hg).trans (hr j u hu), range_block ((hw'.block _ (Nat.lt_of_lt_of_le (Array.getElem?_eq_some_iff.1 HX2.out).1 HBR.out.size)).trans ((HBR.out.block _ (Array.getElem?_eq_some_iff.1 HX2.out).1).trans HX2.out))⟩)
      have HC2 := Lib.hid (show ∀ w', Below wr.heap.size wr w' → w'.cell? ⟨w.heap.size, 1, none⟩ = some (.slice (some ⟨g, off, none⟩) N vc) from fun w' hw' => (hw'.cell (p := ⟨w.heap.size, 1, none⟩) (World.block_lt_of_cell? _ _ hcl)).trans hcl)
      have HSN := Lib.hid hsn
      have HFA := Lib.hid hfa
      clear hr hsn hfa ha hg
      go_wp2_with fail
      by_cases heq : a.id = k
      · have HEQ := Lib.hid (fun w' => (eql_Arr a.id k w').trans (by rw [decide_eq_true heq]))
        have HE := Lib.hid (HC.out.symm.trans (HFA.out heq))
        clear heq
        refine wp_region_noPanic ?_
        refine wp_region_H (Below wr.heap.size wr) (by kernel_rfl) ?_
        have hS0 : (Below wr.heap.size wr) wr.drew := (Below.refl _ _).drew
        obtain ⟨wd, hwd⟩ : ∃ wd, wr.drew = wd := ⟨_, rfl⟩
        rw [hwd] at hS0 ⊢
        clear hwd
        refine wpAnyH_takeI (i := 0) (v := ?v1) rfl (by kernel_rfl) (by kernel_rfl) (by kernel_rfl) (fun _ _ _ h => h) (yieldsIf_run rfl (fun w' hw' => ?y1)) hS0 ?_
        case y1 => first | (go_simp; rfl) | (go_simp; done) | rfl
        simp only [Act.put, List.setIfInBounds_toArray, List.set_cons_zero, List.set_cons_succ]
        refine wpAnyH_takeI (i := 1) (v := .slice (some ⟨g, off, none⟩) N vc) rfl (by kernel_rfl) (by kernel_rfl) (by kernel_rfl) (fun _ _ _ h => h) (yieldsIf_run rfl (fun w' hw' => ?y2)) hS0 ?_
        case y2 => (have hc := HC2.out w' hw'; clear hw'; first | (go_simp; rfl) | (go_simp; done))
        simp only [Act.put, List.setIfInBounds_toArray, List.set_cons_zero, List.set_cons_succ]
        refine wpAnyH_takeI (i := 2) (v := ?v3) rfl (by kernel_rfl) (by kernel_rfl) (by kernel_rfl) (fun _ _ _ h => h) (yieldsIf_run rfl (fun w' hw' => ?y3)) hS0 ?_
        case y3 => first | (go_simp; rfl) | (go_simp; done) | rfl
        simp only [Act.put, List.setIfInBounds_toArray, List.set_cons_zero, List.set_cons_succ]
        refine wpAnyH_takeI (i := 3) (v := ?v4) rfl (by kernel_rfl) (by kernel_rfl) (by kernel_rfl) (fun _ _ _ h => h) (yieldsIf_run rfl (fun w' hw' => ?y4)) hS0 ?_
        case y4 => first | (go_simp; rfl) | (go_simp; done) | rfl
        simp only [Act.put, List.setIfInBounds_toArray, List.set_cons_zero, List.set_cons_succ]
        refine wpAnyH_takeI (i := 4) (v := ?v5) rfl (by kernel_rfl) (by kernel_rfl) (by kernel_rfl) (fun _ _ _ h => h) (yieldsIf_run rfl (fun w' hw' => ?y5)) hS0 ?_
        case y5 => first | (go_simp; rfl) | (go_simp; done) | rfl
        simp only [Act.put, List.setIfInBounds_toArray, List.set_cons_zero, List.set_cons_succ]
        refine wpAnyH_takeI (i := 5) (v := .agg (bvs a.id.1).toArray) rfl (by kernel_rfl) (by kernel_rfl) (by kernel_rfl) (fun _ _ _ h => h) (yieldsIf_load_mid rfl 29 (.tmp 17) rfl g (off + i * 34) rfl (bvs a.id.1) _ (fun w' hw' => (HR.out w' hw').1) Try.underlying29 rfl (sizeArr a.id)) hS0 ?_
        simp only [Act.put, List.setIfInBounds_toArray, List.set_cons_zero, List.set_cons_succ]
        refine wpAnyH_takeI (i := 6) (v := .agg (bvs k.1).toArray) rfl (by kernel_rfl) (by kernel_rfl) (by kernel_rfl) (fun _ _ _ h => h) (yieldsIf_load_mid rfl 29 (.tmp 3) rfl w1.heap.size (0) rfl (bvs k.1) _ (fun w' hw' => (HR.out w' hw').2) Try.underlying29 rfl (sizeArr k)) hS0 ?_
        simp only [Act.put, List.setIfInBounds_toArray, List.set_cons_zero, List.set_cons_succ]
        refine wpAnyH_takeI (i := 7) (v := .bool true) rfl (by kernel_rfl) (by kernel_rfl) (by kernel_rfl) (fun _ _ _ h => h) (yieldsIf_run rfl (fun w' hw' => op_eql 29 (.tmp 18) (.tmp 19) 29 rfl rfl rfl guard_Arr (HEQ.out w'))) hS0 ?_
        simp only [Act.put, List.setIfInBounds_toArray, List.set_cons_zero, List.set_cons_succ]
        refine wpAnyH_done (by kernel_rfl) ?_ _
        refine NoPanic.normal ?_
        go_wp2_with fail
        exact bodyPost_ret (v := .int .i64 (i : Int)) (by simp [results, Try.results46, go_sem]) rfl ⟨by rw [HE.out], HB.out.trans ((HBR.out.trans (hS0.mono HBR.out.size)).mono HB.out.size)⟩
      · have HEQ := Lib.hid (fun w' => (eql_Arr a.id k w').trans (by rw [decide_eq_false heq]))
        have HE := Lib.hid heq
        clear heq
        refine wp_region_noPanic ?_
        refine wp_region_H (Below wr.heap.size wr) (by kernel_rfl) ?_
        have hS0 : (Below wr.heap.size wr) wr.drew := (Below.refl _ _).drew
        obtain ⟨wd, hwd⟩ : ∃ wd, wr.drew = wd := ⟨_, rfl⟩
        rw [hwd] at hS0 ⊢
        clear hwd
        refine wpAnyH_takeI (i := 0) (v := ?v1b) rfl (by kernel_rfl) (by kernel_rfl) (by kernel_rfl) (fun _ _ _ h => h) (yieldsIf_run rfl (fun w' hw' => ?y1b)) hS0 ?_
        case y1b => first | (go_simp; rfl) | (go_simp; done) | rfl
        simp only [Act.put, List.setIfInBounds_toArray, List.set_cons_zero, List.set_cons_succ]
        refine wpAnyH_takeI (i := 1) (v := .slice (some ⟨g, off, none⟩) N vc) rfl (by kernel_rfl) (by kernel_rfl) (by kernel_rfl) (fun _ _ _ h => h) (yieldsIf_run rfl (fun w' hw' => ?y2b)) hS0 ?_
        case y2b => (have hc := HC2.out w' hw'; clear hw'; first | (go_simp; rfl) | (go_simp; done))
        simp only [Act.put, List.setIfInBounds_toArray, List.set_cons_zero, List.set_cons_succ]
        refine wpAnyH_takeI (i := 2) (v := ?v3b) rfl (by kernel_rfl) (by kernel_rfl) (by kernel_rfl) (fun _ _ _ h => h) (yieldsIf_run rfl (fun w' hw' => ?y3b)) hS0 ?_
        case y3b => first | (go_simp; rfl) | (go_simp; done) | rfl
        simp only [Act.put, List.setIfInBounds_toArray, List.set_cons_zero, List.set_cons_succ]
        refine wpAnyH_takeI (i := 3) (v := ?v4b) rfl (by kernel_rfl) (by kernel_rfl) (by kernel_rfl) (fun _ _ _ h => h) (yieldsIf_run rfl (fun w' hw' => ?y4b)) hS0 ?_
        case y4b => first | (go_simp; rfl) | (go_simp; done) | rfl
        simp only [Act.put, List.setIfInBounds_toArray, List.set_cons_zero, List.set_cons_succ]
        refine wpAnyH_takeI (i := 4) (v := ?v5b) rfl (by kernel_rfl) (by kernel_rfl) (by kernel_rfl) (fun _ _ _ h => h) (yieldsIf_run rfl (fun w' hw' => ?y5b)) hS0 ?_
        case y5b => first | (go_simp; rfl) | (go_simp; done) | rfl
        simp only [Act.put, List.setIfInBounds_toArray, List.set_cons_zero, List.set_cons_succ]
        refine wpAnyH_takeI (i := 5) (v := .agg (bvs a.id.1).toArray) rfl (by kernel_rfl) (by kernel_rfl) (by kernel_rfl) (fun _ _ _ h => h) (yieldsIf_load_mid rfl 29 (.tmp 17) rfl g (off + i * 34) rfl (bvs a.id.1) _ (fun w' hw' => (HR.out w' hw').1) Try.underlying29 rfl (sizeArr a.id)) hS0 ?_
        simp only [Act.put, List.setIfInBounds_toArray, List.set_cons_zero, List.set_cons_succ]
        refine wpAnyH_takeI (i := 6) (v := .agg (bvs k.1).toArray) rfl (by kernel_rfl) (by kernel_rfl) (by kernel_rfl) (fun _ _ _ h => h) (yieldsIf_load_mid rfl 29 (.tmp 3) rfl w1.heap.size (0) rfl (bvs k.1) _ (fun w' hw' => (HR.out w' hw').2) Try.underlying29 rfl (sizeArr k)) hS0 ?_
        simp only [Act.put, List.setIfInBounds_toArray, List.set_cons_zero, List.set_cons_succ]
        refine wpAnyH_takeI (i := 7) (v := .bool false) rfl (by kernel_rfl) (by kernel_rfl) (by kernel_rfl) (fun _ _ _ h => h) (yieldsIf_run rfl (fun w' hw' => op_eql 29 (.tmp 18) (.tmp 19) 29 rfl rfl rfl guard_Arr (HEQ.out w'))) hS0 ?_
        simp only [Act.put, List.setIfInBounds_toArray, List.set_cons_zero, List.set_cons_succ]
        refine wpAnyH_done (by kernel_rfl) ?_ _
        refine NoPanic.normal ?_
        go_wp2_with fail
        go_roundw
        case rel => exact ⟨i + 1, by omega, by go_num, (by rw [HSN.out]; intro x hx; rcases List.mem_append.1 hx with h | h; exact HNO.out x h; rw [List.mem_singleton.1 h]; exact HE.out), HBR.out.trans (hS0.mono HBR.out.size)⟩
        case measure => simp [intOf]; omega
    · obtain rfl : N = i := by omega
      have hcc : -1 = c := by
        rw [← HC.out]
        refine (fIx_no ?_).symm
        have h := HNO.out
        rw [List.take_of_length_le (by rw [HN.out]; exact Nat.le_refl _)] at h
        exact h
      subst hcc
      go_wp2_with fail
      exact bodyPost_ret (v := .int .i64 (-1)) (by simp [results, Try.results46, go_sem]) rfl ⟨rfl, HB.out.trans (HBR.out.mono HB.out.size)⟩
def rSize (L : List RefA) : Nat := (L.map (·.text.size)).sum
set_option maxRecDepth 100000 in
set_option maxHeartbeats 2000000 in
theorem rBytes_any {w : World} (B : Int) (v : Value) (L : List RefA) (hv : ListAt refE w v L) (hl : L.length < 1000000) (ht : ∀ a ∈ L, a.text.size ≤ 65536) :
    Calls Try.prog 39 #[.agg #[.int .i64 B, v]] w fun e w' => e = .returned (.int .i64 (rSize L : Int)) ∧ Below w.heap.size w w' := by
  obtain ⟨va, vc, rfl⟩ := hv.form
  obtain ⟨N, hN⟩ : ∃ N, L.length = N := ⟨_, rfl⟩
  rw [hN] at hv hl ⊢
  obtain ⟨w1, hw1⟩ : ∃ w1, w.alloc (.cells #[.int .i64 B, .slice va N vc] 50) = w1 := ⟨_, rfl⟩
  have hx1 : w1.heap[w.heap.size]? = some (.cells #[.int .i64 B, .slice va N vc] 50 (0, 0)) := by rw [← hw1]; exact heap_alloc_new _ _
  have hb1 : Below w.heap.size w w1 := hw1 ▸ (Below.refl _ _).alloc (Nat.le_refl _) _
  have hcl : w1.cell? ⟨w.heap.size, 1, none⟩ = some (.slice va N vc) := by rw [cell_of_row _ _ _ _ _ _ hx1]; rfl
  have HB := Lib.hid hb1
  have HV := Lib.hid (hv.below hb1)
  have HN := Lib.hid hN
  have HT := Lib.hid ht
  obtain ⟨TT, hTT⟩ : ∃ TT : Int, (rSize L : Int) = TT := ⟨_, rfl⟩
  rw [hTT]
  have HTT := Lib.hid hTT
  clear hx1 hb1 hv hN ht hTT
  go_enter Try.func39, Try.ntmps39
  go_wp2_with fail
  go_loopw [3, 4] (fun nv iv wr => ∃ (i n : Nat), i ≤ N ∧ iv = .int .i64 (i : Int) ∧ nv = .int .i64 (n : Int) ∧ n = rSize (L.take i) ∧ n ≤ 65536 * i ∧ wr = w1) (fun _ iv _ => N - (intOf iv).toNat)
  case atStart => exact ⟨0, 0, Nat.zero_le _, rfl, rfl, rfl, Nat.zero_le _, rfl⟩
  case round =>
    obtain ⟨i, n, hi, rfl, rfl, hn, hnb, rfl⟩ := hrel
    have HNN := Lib.hid hn
    clear hn
    by_cases hlt : i < N
    · have hiI : (i : Int) < (N : Int) := by omega
      have hiI0 : (0 : Int) ≤ (i : Int) := by omega
      have hlt' : i < L.length := by rw [HN.out]; exact hlt
      obtain ⟨g, off, rfl, hg, _, htx, _⟩ := ref_at HV.out hlt'
      have hsn : rSize (L.take (i + 1)) = rSize (L.take i) + L[i].text.size := by
        unfold rSize
        rw [List.take_succ_eq_append_getElem hlt', List.map_append, List.sum_append]
        simp
      have hts := HT.out _ (List.getElem_mem hlt')
      obtain ⟨t, hte⟩ : ∃ t, L[i].text = t := ⟨_, rfl⟩
      rw [hte] at htx hsn hts
      have HSN := Lib.hid hsn
      clear hsn hte hg
      go_wp2_with fail
      go_roundw
      case rel => exact ⟨i + 1, n + t.size, by omega, by go_num, by go_num, by rw [HSN.out, HNN.out], by omega, by first | trivial | rfl⟩
      case measure => simp [intOf]; omega
    · obtain rfl : N = i := by omega
      have hTn : (n : Int) = TT := by
        rw [← HTT.out, HNN.out, List.take_of_length_le (by rw [HN.out]; exact Nat.le_refl _)]
      subst hTn
      go_wp2_with fail
      exact bodyPost_ret (v := .int .i64 (n : Int)) (by simp [results, Try.results39, go_sem]) rfl ⟨rfl, HB.out⟩
end Go.Proofs.Ytnmdgjodbikndaa

namespace Go.Proofs.Ytnmdgjodbikndaa
open Go.RowKit
set_option linter.unusedVariables false
set_option linter.unusedSimpArgs false

theorem sizeSL {x : Int} {v : Value} : (Try.prog.info? 50).map (·.size) = some [Value.int .i64 x, v].length := by kernel_rfl
theorem sizeA {a : RefA} : (Try.prog.info? 37).map (·.size) = some a.cells.length := by rw [RefA.cells_length]; kernel_rfl
theorem sizeAA {a : RefA} : (Try.prog.info? 37).map (·.size) = some a.cells.toArray.size := by rw [List.size_toArray]; exact sizeA
theorem zOkA : ((Try.prog.info? 37).bind (·.zero)).isSome = true := by kernel_rfl
theorem ListAt.later {P : Program} {sT T : TypeId} {α : Type} {E : ElemTy P sT T α} {w0 w w' : World} {v : Value} {L : List α} {g : Nat} (h0 : ListAt E w0 v L) (h : ListAt E w v L) (hc : Chg (fun k => k = g) w w') (hn : w0.heap.size ≤ g) : ListAt E w' v L := by
  obtain ⟨a0, cap0, e0, _, _, _, h40⟩ := h0.ex
  obtain ⟨a, cap, e, h1, h2, h3, h4⟩ := h.ex
  refine ⟨a, cap, e, h1, h2, h3, fun hne => ?_⟩
  obtain ⟨g0, off0, e0', hl0, _⟩ := h40 hne
  obtain ⟨g', off, e', hl, hr⟩ := h4 hne
  have hg : g' < w0.heap.size := by
    rw [e, e', e0'] at e0
    simp only [Value.slice.injEq, Option.some.injEq, Addr.mk.injEq] at e0
    omega
  exact ⟨g', off, e', Nat.lt_of_lt_of_le hl hc.size, fun i hi j u hu => hc.cell (p := ⟨g', off + i * E.k + j, none⟩) (by show ¬ g' = g; omega) (hr i hi j u hu)⟩
theorem ba_em {t : ByteArray} (h : t.size = 0) : t.toList.isEmpty = true := by
  obtain rfl : t = ⟨#[]⟩ := ByteArray.ext (Array.eq_empty_of_size_eq_zero h)
  rw [ByteArray.toList_mk (l := [])]
  rfl
theorem rSize_le {L : List RefA} (h : ∀ x ∈ L, x.text.size ≤ 65536) : rSize L ≤ 65536 * L.length := by
  unfold rSize
  induction L with
  | nil => simp
  | cons x L ih =>
    have h1 := h x List.mem_cons_self
    have h2 := ih (fun y hy => h y (List.mem_cons_of_mem _ hy))
    rw [List.map_cons, List.sum_cons, List.length_cons]
    omega
def putRC (B : Int) (L : List RefA) (a : RefA) : Int :=
  if a.id = z32 ∨ a.text.size = 0 then 1 else if 65536 < a.text.size then 5 else if a.min < 0 ∨ 105190559 < a.min then 2 else if 0 ≤ fIx L a.id then 7 else if B < (rSize L : Int) + (a.text.size : Int) then 9 else 0
def RPost (w : World) (B : Int) (c : Int) (L : List RefA) (e : Ending) (w' : World) : Prop := ∃ v, e = .returned (.tuple #[.agg #[.int .i64 B, v], .int .i64 c]) ∧ ListAt refE w' v L ∧ Below w.heap.size w w'
set_option maxRecDepth 100000 in
set_option maxHeartbeats 2000000 in
theorem rPut_any {w : World} (B : Int) (v : Value) (L : List RefA) (a : RefA) (hv : ListAt refE w v L) (hl : L.length < 1000000) (ht : ∀ x ∈ L, x.text.size ≤ 65536) :
    Calls Try.prog 44 #[.agg #[.int .i64 B, v], .agg a.cells.toArray] w (RPost w B (putRC B L a) (if putRC B L a = 0 then L ++ [a] else L)) := by
  obtain ⟨va, vc, rfl⟩ := hv.form
  obtain ⟨N, hN⟩ : ∃ N, L.length = N := ⟨_, rfl⟩
  obtain ⟨c, hc⟩ : ∃ c, putRC B L a = c := ⟨_, rfl⟩
  obtain ⟨L', hL'⟩ : ∃ L', (if c = 0 then L ++ [a] else L) = L' := ⟨_, rfl⟩
  rw [hN] at hv hl ⊢
  rw [hc, hL']
  unfold putRC at hc
  obtain ⟨w1, hw1⟩ : ∃ w1, w.alloc (.cells #[.int .i64 B, .slice va N vc] 50) = w1 := ⟨_, rfl⟩
  obtain ⟨w2, hw2⟩ : ∃ w2, w1.alloc (.cells a.cells.toArray 37) = w2 := ⟨_, rfl⟩
  have hx1 : w1.heap[w.heap.size]? = some (.cells #[.int .i64 B, .slice va N vc] 50 (0, 0)) := by rw [← hw1]; exact heap_alloc_new _ _
  have hx2 : w2.heap[w1.heap.size]? = some (.cells a.cells.toArray 37 (0, 0)) := by rw [← hw2]; exact heap_alloc_new _ _
  have hb1 : Below w.heap.size w w1 := hw1 ▸ (Below.refl _ _).alloc (Nat.le_refl _) _
  have hb2 : Below w1.heap.size w1 w2 := hw2 ▸ (Below.refl _ _).alloc (Nat.le_refl _) _
  have hb12 := hb1.trans (hb2.mono hb1.size)
  have hx1' := (hb2.block _ (Array.getElem?_eq_some_iff.1 hx1).1).trans hx1
  have hl1 : w.heap.size < w1.heap.size := (Array.getElem?_eq_some_iff.1 hx1).1
  have hl2 : w1.heap.size < w2.heap.size := (Array.getElem?_eq_some_iff.1 hx2).1
  have HV0 := Lib.hid hv
  have HV := Lib.hid (hv.below hb12)
  have HX1 := Lib.hid hx1'
  have HX2 := Lib.hid hx2
  have HB12 := Lib.hid hb12
  have HN := Lib.hid hN
  have HT := Lib.hid ht
  have HL' := Lib.hid hL'
  have HLZ := Lib.hid (And.intro hl1 hl2)
  clear hx1 hx1' hx2 hb1 hb2 hb12 hv hN ht hL' hl1 hl2
  go_enter Try.func44, Try.ntmps44
  go_wp2_with (refine wpList_newV rfl (some 4) rfl 50 rfl #[.int .i64 0, .slice none 0 0] 2 (by kernel_rfl) ?_; refine Stop.on ?_)
  refine Stop.go ?_
  intro wi xi bi si
  try simp only [Act.put, List.setIfInBounds_toArray, List.set_cons_zero, List.set_cons_succ]
  have HBI := Lib.hid (HB12.out.trans (bi.mono HB12.out.size))
  have HVI := Lib.hid (HV.out.below bi)
  have HLT := Lib.hid (show w.heap.size < w1.heap.size ∧ w1.heap.size < w2.heap.size ∧ w2.heap.size < wi.heap.size from ⟨HLZ.out.1, HLZ.out.2, (Array.getElem?_eq_some_iff.1 xi).1⟩)
  have HO := Lib.hid (show ∀ w', Below wi.heap.size wi w' → w'.heap[w.heap.size]? = some (.cells #[.int .i64 B, .slice va N vc] 50 (0, 0)) ∧ w'.heap[w1.heap.size]? = some (.cells a.cells.toArray 37 (0, 0)) ∧ w'.heap[w2.heap.size]? = some (.cells #[.int .i64 0, .slice none 0 0] 50 (0, 0)) from fun w' hw' =>
    ⟨(hw'.block _ (by have := HLT.out; omega)).trans ((bi.block _ (by have := HLT.out; omega)).trans HX1.out), (hw'.block _ (by have := HLT.out; omega)).trans ((bi.block _ (by have := HLT.out; omega)).trans HX2.out), (hw'.block _ (by have := HLT.out; omega)).trans xi⟩)
  have hid : ∀ {w' : World}, w'.heap[w1.heap.size]? = some (.cells a.cells.toArray 37 (0, 0)) → w'.rangeAt w1.heap.size 0 (bvs a.id.1) ∧ w'.cell? ⟨w1.heap.size, 32, none⟩ = some (.string a.text) ∧ w'.cell? ⟨w1.heap.size, 33, none⟩ = some (.int .i64 a.min) := fun {w'} h1 => by
    have hl : (bvs a.id.1).length = 32 := by rw [bvs_length, a.id.2]
    refine ⟨fun j u hu => range_block h1 j u ?_, ?_, ?_⟩
    · unfold RefA.cells
      rw [List.getElem?_append_left (List.getElem?_eq_some_iff.1 hu).1]
      exact hu
    · rw [cell_of_row _ _ _ _ _ _ h1, List.getElem?_toArray]
      unfold RefA.cells
      rw [List.getElem?_append_right (by omega), hl]
      rfl
    · rw [cell_of_row _ _ _ _ _ _ h1, List.getElem?_toArray]
      unfold RefA.cells
      rw [List.getElem?_append_right (by omega), hl]
      rfl
  have HID := Lib.hid (show ∀ w', Below wi.heap.size wi w' → w'.rangeAt w1.heap.size 0 (bvs a.id.1) ∧ w'.cell? ⟨w1.heap.size, 32, none⟩ = some (.string a.text) ∧ w'.cell? ⟨w1.heap.size, 33, none⟩ = some (.int .i64 a.min) from fun w' hw' => hid (HO.out w' hw').2.1)
  clear xi bi si hid
  obtain ⟨hri, hct, hcm⟩ := HID.out wi (Below.refl _ _)
  have HRI := Lib.hid hri
  clear hri
  obtain ⟨t, hte⟩ : ∃ t, a.text = t := ⟨_, rfl⟩
  obtain ⟨d, hde⟩ : ∃ d, a.min = d := ⟨_, rfl⟩
  rw [hte] at hct hc
  rw [hde] at hcm hc
  have HTE := Lib.hid hte
  have HDE := Lib.hid hde
  clear hte hde
  go_wp2_with (with_reducible refine wpList_load_mid rfl 29 _ rfl w1.heap.size 0 rfl (bvs a.id.1) _ HRI.out Try.underlying29 rfl (sizeArr a.id) ?_; refine Stop.on ?_)
  refine Stop.go ?_
  try simp only [Act.put, List.setIfInBounds_toArray, List.set_cons_zero, List.set_cons_succ]
  refine wpList_buildV rfl (some 8) rfl 29 #[] rfl [] rfl (.agg (bvs z32.1).toArray) (zeroArrV _) ?_
  try simp only [Act.put, List.setIfInBounds_toArray, List.set_cons_zero, List.set_cons_succ]
  refine wpList_runI rfl (some 9) rfl (.bool (decide (a.id = z32))) _ (op_eql 29 (.tmp 7) (.tmp 8) 29 rfl rfl rfl guard_Arr (eql_Arr a.id z32 _)) ?_
  try simp only [Act.put, List.setIfInBounds_toArray, List.set_cons_zero, List.set_cons_succ]
  have HH0 := Lib.hid (show ∀ x : Int, x ≠ 0 → c = x → L = L' from fun x hx e => by rw [← HL'.out, if_neg (by rw [e]; exact hx)])
  by_cases hk0 : a.id = z32
  · obtain rfl : 1 = c := by rw [← hc, if_pos (.inl hk0)]
    obtain rfl := HH0.out 1 (by decide) rfl
    clear HL' HH0 hc
    rw [decide_eq_true hk0]
    go_wp2_with (refine wpList_loadV rfl (some 15) rfl 50 (.tmp 2) rfl _ rfl 50 #[.int .i64 B, .slice va N vc] (0, 0) _ (HO.out _ (Below.refl _ _)).1 Try.underlying50 rfl sizeS ?_; refine Stop.on ?_)
    refine Stop.go ?_
    try simp only [Act.put, List.setIfInBounds_toArray, List.set_cons_zero, List.set_cons_succ]
    refine wpList_putV rfl rfl 50 (.tmp 4) (.tmp 15) rfl _ #[.int .i64 B, .slice va N vc] rfl rfl 50 _ (HO.out _ (Below.refl _ _)).2.2 sizeS rfl oneS ?_
    intro wq xq cq sq
    try simp only [Act.put, List.setIfInBounds_toArray, List.set_cons_zero, List.set_cons_succ]
    have HXQ := Lib.hid xq
    have HBQ := Lib.hid ((HBI.out).trans (cq.below (B := w.heap.size) (fun k e => by rw [e]; have := HLT.out; omega) (HBI.out).size))
    have HLQ := Lib.hid (HV0.out.later (HVI.out.below ((Below.refl _ _))) cq (by have := HLT.out; omega))
    clear xq cq sq
    go_wp2_with fail
    exact bodyPost_ret (results_cell_tmp_row (g := w2.heap.size) rfl _ _ _ _ _ _ rfl HXQ.out Try.underlying50 rfl sizeS) rfl ⟨_, rfl, HLQ.out, HBQ.out⟩
  rw [decide_eq_false hk0]
  by_cases ht0 : t.size = 0
  · obtain rfl : 1 = c := by rw [← hc, if_pos (.inr ht0)]
    obtain rfl := HH0.out 1 (by decide) rfl
    clear HL' HH0 hc
    have htl : t.toList.isEmpty = true := ba_em ht0
    go_wp2_with (refine wpList_loadV rfl (some 15) rfl 50 (.tmp 2) rfl _ rfl 50 #[.int .i64 B, .slice va N vc] (0, 0) _ (HO.out _ (Below.refl _ _)).1 Try.underlying50 rfl sizeS ?_; refine Stop.on ?_)
    refine Stop.go ?_
    try simp only [Act.put, List.setIfInBounds_toArray, List.set_cons_zero, List.set_cons_succ]
    refine wpList_putV rfl rfl 50 (.tmp 4) (.tmp 15) rfl _ #[.int .i64 B, .slice va N vc] rfl rfl 50 _ (HO.out _ (Below.refl _ _)).2.2 sizeS rfl oneS ?_
    intro wq xq cq sq
    try simp only [Act.put, List.setIfInBounds_toArray, List.set_cons_zero, List.set_cons_succ]
    have HXQ := Lib.hid xq
    have HBQ := Lib.hid ((HBI.out).trans (cq.below (B := w.heap.size) (fun k e => by rw [e]; have := HLT.out; omega) (HBI.out).size))
    have HLQ := Lib.hid (HV0.out.later (HVI.out.below ((Below.refl _ _))) cq (by have := HLT.out; omega))
    clear xq cq sq
    go_wp2_with fail
    exact bodyPost_ret (results_cell_tmp_row (g := w2.heap.size) rfl _ _ _ _ _ _ rfl HXQ.out Try.underlying50 rfl sizeS) rfl ⟨_, rfl, HLQ.out, HBQ.out⟩
  have htl : t.toList.isEmpty = false := ba_ne ht0
  rw [if_neg (by rintro (h | h); exact hk0 h; exact ht0 h)] at hc
  by_cases ht1 : 65536 < t.size
  · obtain rfl : 5 = c := by rw [← hc, if_pos ht1]
    obtain rfl := HH0.out 5 (by decide) rfl
    have htI : (65536 : Int) < (t.size : Int) := by omega
    clear HL' HH0 hc
    go_wp2_with (refine wpList_loadV rfl (some 20) rfl 50 (.tmp 2) rfl _ rfl 50 #[.int .i64 B, .slice va N vc] (0, 0) _ (HO.out _ (Below.refl _ _)).1 Try.underlying50 rfl sizeS ?_; refine Stop.on ?_)
    refine Stop.go ?_
    try simp only [Act.put, List.setIfInBounds_toArray, List.set_cons_zero, List.set_cons_succ]
    refine wpList_putV rfl rfl 50 (.tmp 4) (.tmp 20) rfl _ #[.int .i64 B, .slice va N vc] rfl rfl 50 _ (HO.out _ (Below.refl _ _)).2.2 sizeS rfl oneS ?_
    intro wq xq cq sq
    try simp only [Act.put, List.setIfInBounds_toArray, List.set_cons_zero, List.set_cons_succ]
    have HXQ := Lib.hid xq
    have HBQ := Lib.hid ((HBI.out).trans (cq.below (B := w.heap.size) (fun k e => by rw [e]; have := HLT.out; omega) (HBI.out).size))
    have HLQ := Lib.hid (HV0.out.later (HVI.out.below ((Below.refl _ _))) cq (by have := HLT.out; omega))
    clear xq cq sq
    go_wp2_with fail
    exact bodyPost_ret (results_cell_tmp_row (g := w2.heap.size) rfl _ _ _ _ _ _ rfl HXQ.out Try.underlying50 rfl sizeS) rfl ⟨_, rfl, HLQ.out, HBQ.out⟩
  have htI : ¬ (65536 : Int) < (t.size : Int) := by omega
  rw [if_neg ht1] at hc
  by_cases hd0 : d < 0
  · obtain rfl : 2 = c := by rw [← hc, if_pos (.inl hd0)]
    obtain rfl := HH0.out 2 (by decide) rfl
    clear HL' HH0 hc
    go_wp2_with (refine wpList_loadV rfl (some 29) rfl 50 (.tmp 2) rfl _ rfl 50 #[.int .i64 B, .slice va N vc] (0, 0) _ (HO.out _ (Below.refl _ _)).1 Try.underlying50 rfl sizeS ?_; refine Stop.on ?_)
    refine Stop.go ?_
    try simp only [Act.put, List.setIfInBounds_toArray, List.set_cons_zero, List.set_cons_succ]
    refine wpList_putV rfl rfl 50 (.tmp 4) (.tmp 29) rfl _ #[.int .i64 B, .slice va N vc] rfl rfl 50 _ (HO.out _ (Below.refl _ _)).2.2 sizeS rfl oneS ?_
    intro wq xq cq sq
    try simp only [Act.put, List.setIfInBounds_toArray, List.set_cons_zero, List.set_cons_succ]
    have HXQ := Lib.hid xq
    have HBQ := Lib.hid ((HBI.out).trans (cq.below (B := w.heap.size) (fun k e => by rw [e]; have := HLT.out; omega) (HBI.out).size))
    have HLQ := Lib.hid (HV0.out.later (HVI.out.below ((Below.refl _ _))) cq (by have := HLT.out; omega))
    clear xq cq sq
    go_wp2_with fail
    exact bodyPost_ret (results_cell_tmp_row (g := w2.heap.size) rfl _ _ _ _ _ _ rfl HXQ.out Try.underlying50 rfl sizeS) rfl ⟨_, rfl, HLQ.out, HBQ.out⟩
  by_cases hd1 : 105190559 < d
  · obtain rfl : 2 = c := by rw [← hc, if_pos (.inr hd1)]
    obtain rfl := HH0.out 2 (by decide) rfl
    clear HL' HH0 hc
    go_wp2_with (refine wpList_loadV rfl (some 29) rfl 50 (.tmp 2) rfl _ rfl 50 #[.int .i64 B, .slice va N vc] (0, 0) _ (HO.out _ (Below.refl _ _)).1 Try.underlying50 rfl sizeS ?_; refine Stop.on ?_)
    refine Stop.go ?_
    try simp only [Act.put, List.setIfInBounds_toArray, List.set_cons_zero, List.set_cons_succ]
    refine wpList_putV rfl rfl 50 (.tmp 4) (.tmp 29) rfl _ #[.int .i64 B, .slice va N vc] rfl rfl 50 _ (HO.out _ (Below.refl _ _)).2.2 sizeS rfl oneS ?_
    intro wq xq cq sq
    try simp only [Act.put, List.setIfInBounds_toArray, List.set_cons_zero, List.set_cons_succ]
    have HXQ := Lib.hid xq
    have HBQ := Lib.hid ((HBI.out).trans (cq.below (B := w.heap.size) (fun k e => by rw [e]; have := HLT.out; omega) (HBI.out).size))
    have HLQ := Lib.hid (HV0.out.later (HVI.out.below ((Below.refl _ _))) cq (by have := HLT.out; omega))
    clear xq cq sq
    go_wp2_with fail
    exact bodyPost_ret (results_cell_tmp_row (g := w2.heap.size) rfl _ _ _ _ _ _ rfl HXQ.out Try.underlying50 rfl sizeS) rfl ⟨_, rfl, HLQ.out, HBQ.out⟩
  rw [if_neg (by rintro (h | h); exact hd0 h; exact hd1 h)] at hc
  obtain ⟨fx, hfx⟩ : ∃ fx, fIx L a.id = fx := ⟨_, rfl⟩
  rw [hfx] at hc
  have HFX := Lib.hid hfx
  have HCC := Lib.hid hc
  clear hfx hc
  go_wp2_with (refine wpList_loadV rfl (some 30) rfl 50 (.tmp 2) rfl _ rfl 50 #[.int .i64 B, .slice va N vc] (0, 0) _ (HO.out _ (Below.refl _ _)).1 Try.underlying50 rfl sizeS ?_; refine Stop.on ?_)
  refine Stop.go ?_
  try simp only [Act.put, List.setIfInBounds_toArray, List.set_cons_zero, List.set_cons_succ]
  go_wp2_with (with_reducible refine wpList_load_mid rfl 29 _ rfl w1.heap.size 0 rfl (bvs a.id.1) _ HRI.out Try.underlying29 rfl (sizeArr a.id) ?_; refine Stop.on ?_)
  refine Stop.go ?_
  try simp only [Act.put, List.setIfInBounds_toArray, List.set_cons_zero, List.set_cons_succ]
  go_wp2_with fail
  refine (rFind_any B _ L a.id HVI.out (by rw [HN.out]; omega)).mono ?_
  rintro e wf ⟨rfl, hbf⟩
  rw [HFX.out]
  have HBF := Lib.hid hbf
  have HBIF := Lib.hid (HBI.out.trans (hbf.mono HBI.out.size))
  clear hbf hct hcm
  by_cases hf0 : 0 ≤ fx
  · obtain rfl : 7 = c := by rw [← HCC.out, if_pos hf0]
    obtain rfl := HH0.out 7 (by decide) rfl
    clear HL' HH0 HCC
    go_wp2_with (refine wpList_loadV rfl (some 35) rfl 50 (.tmp 2) rfl _ rfl 50 #[.int .i64 B, .slice va N vc] (0, 0) _ (HO.out _ HBF.out).1 Try.underlying50 rfl sizeS ?_; refine Stop.on ?_)
    refine Stop.go ?_
    try simp only [Act.put, List.setIfInBounds_toArray, List.set_cons_zero, List.set_cons_succ]
    refine wpList_putV rfl rfl 50 (.tmp 4) (.tmp 35) rfl _ #[.int .i64 B, .slice va N vc] rfl rfl 50 _ (HO.out _ HBF.out).2.2 sizeS rfl oneS ?_
    intro wq xq cq sq
    try simp only [Act.put, List.setIfInBounds_toArray, List.set_cons_zero, List.set_cons_succ]
    have HXQ := Lib.hid xq
    have HBQ := Lib.hid ((HBIF.out).trans (cq.below (B := w.heap.size) (fun k e => by rw [e]; have := HLT.out; omega) (HBIF.out).size))
    have HLQ := Lib.hid (HV0.out.later (HVI.out.below (HBF.out)) cq (by have := HLT.out; omega))
    clear xq cq sq
    go_wp2_with fail
    exact bodyPost_ret (results_cell_tmp_row (g := w2.heap.size) rfl _ _ _ _ _ _ rfl HXQ.out Try.underlying50 rfl sizeS) rfl ⟨_, rfl, HLQ.out, HBQ.out⟩
  have hfI : ¬ 0 ≤ fx := hf0
  have HFO := Lib.hid (show ∀ w', Below wf.heap.size wf w' → w'.heap[w.heap.size]? = some (.cells #[.int .i64 B, .slice va N vc] 50 (0, 0)) ∧ w'.heap[w1.heap.size]? = some (.cells a.cells.toArray 37 (0, 0)) ∧ w'.heap[w2.heap.size]? = some (.cells #[.int .i64 0, .slice none 0 0] 50 (0, 0)) ∧ w'.cell? ⟨w1.heap.size, 32, none⟩ = some (.string t) ∧ w'.cell? ⟨w.heap.size, 0, none⟩ = some (.int .i64 B) ∧ w'.cell? ⟨w.heap.size, 1, none⟩ = some (.slice va N vc) from fun w' hw' => by
    have h := HO.out w' (HBF.out.trans (hw'.mono HBF.out.size))
    have h2 := HID.out w' (HBF.out.trans (hw'.mono HBF.out.size))
    rw [HTE.out] at h2
    refine ⟨h.1, h.2.1, h.2.2, h2.2.1, ?_, ?_⟩ <;> rw [cell_of_row _ _ _ _ _ _ h.1] <;> rfl)
  have HVF := Lib.hid (HVI.out.below HBF.out)
  have hrs : rSize L ≤ 65536 * N := by rw [← HN.out]; exact rSize_le HT.out
  obtain ⟨RZ, hRZ⟩ : ∃ RZ, rSize L = RZ := ⟨_, rfl⟩
  have HRZ := Lib.hid hRZ
  rw [hRZ] at hrs
  have hwr9 : IntKind.i64.wrap ((RZ : Int) + (t.size : Int)) = (RZ : Int) + (t.size : Int) := IntWalk.i64_in _ (by omega)
  have hcc := HCC.out
  rw [if_neg hf0, hRZ] at hcc
  have HCC2 := Lib.hid hcc
  clear hRZ hcc HCC
  go_wp2_with fail
  refine wp_region_noPanic ?_
  refine wp_region_H (Below wf.heap.size wf) (by kernel_rfl) ?_
  have hS0 : (Below wf.heap.size wf) wf.drew := (Below.refl _ _).drew
  obtain ⟨wd, hwd⟩ : ∃ wd, wf.drew = wd := ⟨_, rfl⟩
  rw [hwd] at hS0 ⊢
  clear hwd
  refine wpAnyH_takeI (i := 0) (v := .agg ([Value.int .i64 B, .slice va N vc]).toArray) rfl (by kernel_rfl) (by kernel_rfl) (by kernel_rfl) (fun _ _ _ h => h) (yieldsIf_load_mid rfl 50 (.tmp 2) rfl w.heap.size (0) rfl ([Value.int .i64 B, .slice va N vc]) _ (fun w' hw' => range_block (HFO.out w' hw').1) Try.underlying50 rfl sizeSL) hS0 ?_
  simp only [Act.put, List.setIfInBounds_toArray, List.set_cons_zero, List.set_cons_succ]
  refine wpAnyH_takeI (i := 2) (v := ?v1) rfl (by kernel_rfl) (by kernel_rfl) (by kernel_rfl) (fun _ _ _ h => h) (yieldsIf_run rfl (fun w' hw' => ?y1)) hS0 ?_
  case y1 => first | (go_simp; rfl) | (go_simp; done) | rfl
  simp only [Act.put, List.setIfInBounds_toArray, List.set_cons_zero, List.set_cons_succ]
  refine wpAnyH_takeI (i := 3) (v := .string t) rfl (by kernel_rfl) (by kernel_rfl) (by kernel_rfl) (fun _ _ _ h => h) (yieldsIf_run rfl (fun w' hw' => ?y2)) hS0 ?_
  case y2 => (have hc := (HFO.out w' hw').2.2.2.1; clear hw'; first | (go_simp; rfl) | (go_simp; done))
  simp only [Act.put, List.setIfInBounds_toArray, List.set_cons_zero, List.set_cons_succ]
  refine wpAnyH_takeI (i := 4) (v := ?v3) rfl (by kernel_rfl) (by kernel_rfl) (by kernel_rfl) (fun _ _ _ h => h) (yieldsIf_run rfl (fun w' hw' => ?y3)) hS0 ?_
  case y3 => first | (go_simp; rfl) | (go_simp; done) | rfl
  simp only [Act.put, List.setIfInBounds_toArray, List.set_cons_zero, List.set_cons_succ]
  refine wpAnyH_takeI (i := 6) (v := ?v4) rfl (by kernel_rfl) (by kernel_rfl) (by kernel_rfl) (fun _ _ _ h => h) (yieldsIf_run rfl (fun w' hw' => ?y4)) hS0 ?_
  case y4 => first | (go_simp; rfl) | (go_simp; done) | rfl
  simp only [Act.put, List.setIfInBounds_toArray, List.set_cons_zero, List.set_cons_succ]
  refine wpAnyH_takeI (i := 7) (v := .int .i64 B) rfl (by kernel_rfl) (by kernel_rfl) (by kernel_rfl) (fun _ _ _ h => h) (yieldsIf_run rfl (fun w' hw' => ?y5)) hS0 ?_
  case y5 => (have hc := (HFO.out w' hw').2.2.2.2.1; clear hw'; first | (go_simp; rfl) | (go_simp; done))
  simp only [Act.put, List.setIfInBounds_toArray, List.set_cons_zero, List.set_cons_succ]
  refine wpAnyH_do (i := 1) (by kernel_rfl) rfl rfl (fun K hK => ?_)
  go_simp
  go_at_call 39
  refine (rBytes_any B _ L (HVF.out.below hS0) (by rw [HN.out]; exact hl) HT.out).mono ?_
  rintro e w9 ⟨rfl, hbw9⟩
  rw [HRZ.out]
  have hSw9 := hS0.trans (hbw9.mono hS0.size)
  refine hK _ _ (hSw9) ?_
  clear hK K
  try simp only [Act.put, List.setIfInBounds_toArray, List.set_cons_zero, List.set_cons_succ]
  refine wpAnyH_takeI (i := 5) (v := .int .i64 ((RZ : Int) + (t.size : Int))) rfl (by kernel_rfl) (by kernel_rfl) (by kernel_rfl) (fun _ _ _ h => h) (yieldsIf_run rfl (fun w' hw' => ?y6)) hSw9 ?_
  case y6 => (have h99 := hwr9; clear hw'; first | (go_simp; rfl) | (go_simp; done))
  simp only [Act.put, List.setIfInBounds_toArray, List.set_cons_zero, List.set_cons_succ]
  refine wpAnyH_takeI (i := 8) (v := ?v7) rfl (by kernel_rfl) (by kernel_rfl) (by kernel_rfl) (fun _ _ _ h => h) (yieldsIf_run rfl (fun w' hw' => ?y7)) hSw9 ?_
  case y7 => first | (go_simp; rfl) | (go_simp; done) | rfl
  simp only [Act.put, List.setIfInBounds_toArray, List.set_cons_zero, List.set_cons_succ]
  refine wpAnyH_done (by kernel_rfl) ?_ _
  refine NoPanic.normal ?_
  have HB9 := Lib.hid hSw9
  have HLF := Lib.hid (show w2.heap.size < wf.heap.size from by have := HLT.out; have := HBF.out.size; omega)
  by_cases hgt : B < (RZ : Int) + (t.size : Int)
  · obtain rfl : 9 = c := by rw [← HCC2.out, if_pos hgt]
    obtain rfl := HH0.out 9 (by decide) rfl
    clear HL' HH0 HCC2
    go_wp2_with (refine wpList_loadV rfl (some 45) rfl 50 (.tmp 2) rfl _ rfl 50 #[.int .i64 B, .slice va N vc] (0, 0) _ (HO.out _ (HBF.out.trans (HB9.out.mono HBF.out.size))).1 Try.underlying50 rfl sizeS ?_; refine Stop.on ?_)
    refine Stop.go ?_
    try simp only [Act.put, List.setIfInBounds_toArray, List.set_cons_zero, List.set_cons_succ]
    refine wpList_putV rfl rfl 50 (.tmp 4) (.tmp 45) rfl _ #[.int .i64 B, .slice va N vc] rfl rfl 50 _ (HO.out _ (HBF.out.trans (HB9.out.mono HBF.out.size))).2.2 sizeS rfl oneS ?_
    intro wq xq cq sq
    try simp only [Act.put, List.setIfInBounds_toArray, List.set_cons_zero, List.set_cons_succ]
    have HXQ := Lib.hid xq
    have HBQ := Lib.hid (((HBIF.out.trans (HB9.out.mono HBIF.out.size))).trans (cq.below (B := w.heap.size) (fun k e => by rw [e]; have := HLT.out; omega) ((HBIF.out.trans (HB9.out.mono HBIF.out.size))).size))
    have HLQ := Lib.hid (HV0.out.later (HVI.out.below ((HBF.out.trans (HB9.out.mono HBF.out.size)))) cq (by have := HLT.out; omega))
    clear xq cq sq
    go_wp2_with fail
    exact bodyPost_ret (results_cell_tmp_row (g := w2.heap.size) rfl _ _ _ _ _ _ rfl HXQ.out Try.underlying50 rfl sizeS) rfl ⟨_, rfl, HLQ.out, HBQ.out⟩
  obtain rfl : 0 = c := by rw [← HCC2.out, if_neg hgt]
  obtain rfl : L ++ [a] = L' := by rw [← HL'.out, if_pos rfl]
  clear HL' HH0 HCC2
  have HAO := Lib.hid (show ∀ w', Below w9.heap.size w9 w' → w'.heap[w.heap.size]? = some (.cells #[.int .i64 B, .slice va N vc] 50 (0, 0)) ∧ w'.heap[w1.heap.size]? = some (.cells a.cells.toArray 37 (0, 0)) ∧ w'.heap[w2.heap.size]? = some (.cells #[.int .i64 0, .slice none 0 0] 50 (0, 0)) ∧ w'.cell? ⟨w.heap.size, 1, none⟩ = some (.slice va N vc) from fun w' hw' => ⟨(HFO.out w' (HB9.out.trans (hw'.mono HB9.out.size))).1, (HFO.out w' (HB9.out.trans (hw'.mono HB9.out.size))).2.1, (HFO.out w' (HB9.out.trans (hw'.mono HB9.out.size))).2.2.1, (HFO.out w' (HB9.out.trans (hw'.mono HB9.out.size))).2.2.2.2.2⟩)
  have HV9 := Lib.hid (HVF.out.below HB9.out)
  have HLA := Lib.hid (show w.heap.size < w2.heap.size ∧ w2.heap.size < w9.heap.size from ⟨by have := HLT.out; omega, by have := HLF.out; have := HB9.out.size; omega⟩)
  clear hS0 hbw9
  go_wp2_with fail
  refine cut_region (fun a0 a' w' => ∃ v46 v47 v48 v49 v50 v51 v53 al cl, a' = ((((((((a0.put (some 46) v46).put (some 47) v47).put (some 48) v48).put (some 49) v49).put (some 50) v50).put (some 51) v51).put (some 52) (.slice al (N + 1) cl)).put (some 53) v53) ∧ (∀ w'', Chg (fun k => k = w2.heap.size) w' w'' → ListAt refE w'' (.slice al (N + 1) cl) (L ++ [a])) ∧ w'.heap[w.heap.size]? = some (.cells #[.int .i64 B, .slice al (N + 1) cl] 50 (0, 0)) ∧ w'.heap[w2.heap.size]? = some (.cells #[.int .i64 0, .slice none 0 0] 50 (0, 0)) ∧ Below w.heap.size w w') ?_ ?_
  ·
    refine wp_region_noPanic ?_
    refine wp_region_F 8 (Below w9.heap.size w9) (by kernel_rfl) ?_
    have hS0 : (Below w9.heap.size w9) w9.drew := (Below.refl _ _).drew
    obtain ⟨wd, hwd⟩ : ∃ wd, w9.drew = wd := ⟨_, rfl⟩
    rw [hwd] at hS0 ⊢
    clear hwd
    refine wpAnyF_take (i := 1) (fin := 8) (v := ?v8) rfl (by kernel_rfl) (by kernel_rfl) (by kernel_rfl) (by kernel_rfl) (fun _ _ _ h => h) (yieldsIf_run rfl (fun w' hw' => ?y8)) hS0 ?_
    case y8 => first | (go_simp; rfl) | (go_simp; done) | rfl
    simp only [Act.put, List.setIfInBounds_toArray, List.set_cons_zero, List.set_cons_succ]
    refine wpAnyF_take (i := 2) (fin := 8) (v := .slice va N vc) rfl (by kernel_rfl) (by kernel_rfl) (by kernel_rfl) (by kernel_rfl) (fun _ _ _ h => h) (yieldsIf_run rfl (fun w' hw' => ?y9)) hS0 ?_
    case y9 => (have hc := (HAO.out w' hw').2.2.2; clear hw'; first | (go_simp; rfl) | (go_simp; done))
    simp only [Act.put, List.setIfInBounds_toArray, List.set_cons_zero, List.set_cons_succ]
    refine wpAnyF_take (i := 4) (fin := 8) (v := .agg (a.cells).toArray) rfl (by kernel_rfl) (by kernel_rfl) (by kernel_rfl) (by kernel_rfl) (fun _ _ _ h => h) (yieldsIf_load_mid rfl 37 (.tmp 3) rfl w1.heap.size (0) rfl (a.cells) _ (fun w' hw' => range_block (HAO.out w' hw').2.1) Try.underlying37 rfl sizeA) hS0 ?_
    simp only [Act.put, List.setIfInBounds_toArray, List.set_cons_zero, List.set_cons_succ]
    have hS := hS0
    clear hS0
    refine wpAnyF_two (i := 0) (j := 5) (by kernel_rfl) rfl rfl rfl rfl (fun K hK => ?_) (fun K hK => ?_)
    · go_simp
      obtain ⟨wdn, hwn⟩ : ∃ wdn, wd.alloc (.cells #[] 37) = wdn := ⟨_, rfl⟩
      have hb : Below wd.heap.size wd wdn := hwn ▸ (Below.refl _ _).alloc (Nat.le_refl _) _
      have hE : OwnL refE wdn w9.heap.size (Value.slice (some ⟨wd.heap.size, 0, none⟩) 0 0) [] := hwn ▸ ownL_zero refE hS.size
      rw [hwn]
      clear hwn
      replace hS := hS.trans (hb.mono hS.size)
      clear hb
      refine hK _ _ (fun _ => hS) ?_
      clear hK K
      try simp only [Act.put, List.setIfInBounds_toArray, List.set_cons_zero, List.set_cons_succ]
      refine wpAnyF_two (i := 3) (j := 5) (by kernel_rfl) rfl rfl rfl rfl (fun K hK => ?_) (fun K hK => ?_)
      · refine wp_appL refE (.tmp 46) (.tmp 48) rfl rfl hE rfl ((HV9.out).below hS) (n := 0) (m := N) rfl HN.out (by omega) hS.size ?_
        intro aA cA wdnn ho9 hgr hat
        have hb := hE.grown_below hgr hS.size
        rw [Nat.zero_add] at ho9 hat ⊢
        rw [List.nil_append] at ho9
        clear hE hgr hat
        have hE := ho9
        clear ho9
        replace hS := hS.trans hb
        clear hb
        refine hK _ _ (fun _ => hS) ?_
        clear hK K
        try simp only [Act.put, List.setIfInBounds_toArray, List.set_cons_zero, List.set_cons_succ]
        refine wpAnyF_do (i := 5) (by kernel_rfl) rfl rfl (fun K hK => ?_)
        refine wp_lit1 48 37 (.tmp 50) rfl (a.cells).toArray rfl Try.underlying48 sizeAA zOkA (by rw [(show a.cells.toArray.size = 34 by rw [List.size_toArray, RefA.cells_length])]; decide) (by rw [(show a.cells.toArray.size = 34 by rw [List.size_toArray, RefA.cells_length])]; decide) ?_
        obtain ⟨wdnnn, hwn⟩ : ∃ wdnnn, wdnn.alloc (.cells (a.cells).toArray 37) = wdnnn := ⟨_, rfl⟩
        have hb : Below wdnn.heap.size wdnn wdnnn := hwn ▸ (Below.refl _ _).alloc (Nat.le_refl _) _
        have hL : wdnnn.heap[wdnn.heap.size]? = some (.cells (a.cells).toArray 37 (0, 0)) := by rw [← hwn]; exact heap_alloc_new _ _
        rw [hwn]
        have hD0 : ∀ x, (Value.slice aA N cA).ownBlock = some x → wdnn.heap.size ≠ x := fun x hx e => by have h1 := (hE.lt hx).2; omega
        replace hE := hE.below hb
        obtain ⟨b10, hb10⟩ : ∃ b10, wdnn.heap.size = b10 := ⟨_, rfl⟩
        rw [hb10] at hL ⊢
        have hD : ∀ x, (Value.slice aA N cA).ownBlock = some x → b10 ≠ x := fun x hx => hb10 ▸ hD0 x hx
        clear hD0
        replace hS := hS.trans (hb.mono hS.size)
        clear hb hwn hb10
        refine hK _ _ (fun _ => hS) ?_
        clear hK K
        try simp only [Act.put, List.setIfInBounds_toArray, List.set_cons_zero, List.set_cons_succ]
        refine wpAnyF_do (i := 6) (by kernel_rfl) rfl rfl (fun K hK => ?_)
        refine wp_appL refE (.tmp 49) (.tmp 51) rfl rfl hE rfl (list_block1 refE hL) (n := N) (m := 1) HN.out rfl (by omega) hS.size ?_
        intro aB cB wdnnnn ho9 hgr hat
        have hb := hE.grown_below hgr hS.size
        clear hE hgr hat
        have hE := ho9
        clear ho9
        replace hS := hS.trans hb
        clear hb
        clear hL hD
        refine hK _ _ (fun _ => hS) ?_
        clear hK K
        try simp only [Act.put, List.setIfInBounds_toArray, List.set_cons_zero, List.set_cons_succ]
        refine wpAnyF_take (i := 7) (fin := 8) (v := ?v10) rfl (by kernel_rfl) (by kernel_rfl) (by kernel_rfl) (by kernel_rfl) (fun _ _ _ h => h) (yieldsIf_run rfl (fun w' hw' => ?y10)) hS ?_
        case y10 => first | (go_simp; rfl) | (go_simp; done) | rfl
        simp only [Act.put, List.setIfInBounds_toArray, List.set_cons_zero, List.set_cons_succ]
        obtain ⟨hq1, _, hq3, hq4⟩ := HAO.out _ hS
        have hfz := frozen_of_row _ w.heap.size 1 _ _ hq1
        refine wpAnyF_do (i := 8) (by kernel_rfl) rfl rfl (fun K hK => ?_)
        go_simp
        refine hK _ _ (fun h => absurd rfl h) ?_
        clear hK K
        refine wpAnyF_done (by kernel_rfl) ?_ _
        refine NoPanic.normal ?_
        have hset := heap_setCell_same wdnnnn w.heap.size 1 _ _ (.slice aB (N + 1) cB) hq1
        have hcs : Chg (fun k => k = w.heap.size) wdnnnn (wdnnnn.setCell ⟨w.heap.size, 1, none⟩ (.slice aB (N + 1) cB)) := Chg.setCell wdnnnn (a := ⟨w.heap.size, 1, none⟩) _ rfl
        have hown := hE.chg hcs (fun k hk e => by have h1 := (hE.lt hk).1; have h2 := HLA.out; omega)
        refine ⟨rfl, _, _, _, _, _, _, _, aB, cB, (by first | rfl | (simp only [Act.put, List.setIfInBounds_toArray, List.set_cons_zero, List.set_cons_succ]; rfl)), fun w'' hw'' => (hown.chg hw'' (fun k hk e => by have h1 := (hE.lt hk).1; have h2 := HLA.out; omega)).at_, hset, (hcs.block _ (Array.getElem?_eq_some_iff.1 hq3).1 (fun e => by have h2 := HLA.out; omega)).trans hq3, ?_⟩
        exact (HBIF.out.trans (HB9.out.mono HBIF.out.size)).trans ((hS.mono (HBIF.out.trans (HB9.out.mono HBIF.out.size)).size).setCell (Nat.le_refl _) _)
      · refine wp_lit1 48 37 (.tmp 50) rfl (a.cells).toArray rfl Try.underlying48 sizeAA zOkA (by rw [(show a.cells.toArray.size = 34 by rw [List.size_toArray, RefA.cells_length])]; decide) (by rw [(show a.cells.toArray.size = 34 by rw [List.size_toArray, RefA.cells_length])]; decide) ?_
        obtain ⟨wdnn, hwn⟩ : ∃ wdnn, wdn.alloc (.cells (a.cells).toArray 37) = wdnn := ⟨_, rfl⟩
        have hb : Below wdn.heap.size wdn wdnn := hwn ▸ (Below.refl _ _).alloc (Nat.le_refl _) _
        have hL : wdnn.heap[wdn.heap.size]? = some (.cells (a.cells).toArray 37 (0, 0)) := by rw [← hwn]; exact heap_alloc_new _ _
        rw [hwn]
        have hD0 : ∀ x, (Value.slice (some ⟨wd.heap.size, 0, none⟩) 0 0).ownBlock = some x → wdn.heap.size ≠ x := fun x hx e => by have h1 := (hE.lt hx).2; omega
        replace hE := hE.below hb
        obtain ⟨b10, hb10⟩ : ∃ b10, wdn.heap.size = b10 := ⟨_, rfl⟩
        rw [hb10] at hL ⊢
        have hD : ∀ x, (Value.slice (some ⟨wd.heap.size, 0, none⟩) 0 0).ownBlock = some x → b10 ≠ x := fun x hx => hb10 ▸ hD0 x hx
        clear hD0
        replace hS := hS.trans (hb.mono hS.size)
        clear hb hwn hb10
        refine hK _ _ (fun _ => hS) ?_
        clear hK K
        try simp only [Act.put, List.setIfInBounds_toArray, List.set_cons_zero, List.set_cons_succ]
        refine wpAnyF_do (i := 3) (by kernel_rfl) rfl rfl (fun K hK => ?_)
        refine wp_appL refE (.tmp 46) (.tmp 48) rfl rfl hE rfl ((HV9.out).below hS) (n := 0) (m := N) rfl HN.out (by omega) hS.size ?_
        intro aA cA wdnnn ho9 hgr hat
        have hb := hE.grown_below hgr hS.size
        rw [Nat.zero_add] at ho9 hat ⊢
        rw [List.nil_append] at ho9
        have hlb := (Array.getElem?_eq_some_iff.1 hL).1
        replace hL := (hgr.block b10 hlb (fun e => hD _ e.symm rfl)).trans hL
        replace hD : ∀ x, (Value.slice aA N cA).ownBlock = some x → b10 ≠ x := fun x hx e => (hat x hx).elim (fun h => hD x h e) (fun h => by omega)
        clear hlb
        clear hE hgr hat
        have hE := ho9
        clear ho9
        replace hS := hS.trans hb
        clear hb
        refine hK _ _ (fun _ => hS) ?_
        clear hK K
        try simp only [Act.put, List.setIfInBounds_toArray, List.set_cons_zero, List.set_cons_succ]
        refine wpAnyF_do (i := 6) (by kernel_rfl) rfl rfl (fun K hK => ?_)
        refine wp_appL refE (.tmp 49) (.tmp 51) rfl rfl hE rfl (list_block1 refE hL) (n := N) (m := 1) HN.out rfl (by omega) hS.size ?_
        intro aB cB wdnnnn ho9 hgr hat
        have hb := hE.grown_below hgr hS.size
        clear hE hgr hat
        have hE := ho9
        clear ho9
        replace hS := hS.trans hb
        clear hb
        clear hL hD
        refine hK _ _ (fun _ => hS) ?_
        clear hK K
        try simp only [Act.put, List.setIfInBounds_toArray, List.set_cons_zero, List.set_cons_succ]
        refine wpAnyF_take (i := 7) (fin := 8) (v := ?v11) rfl (by kernel_rfl) (by kernel_rfl) (by kernel_rfl) (by kernel_rfl) (fun _ _ _ h => h) (yieldsIf_run rfl (fun w' hw' => ?y11)) hS ?_
        case y11 => first | (go_simp; rfl) | (go_simp; done) | rfl
        simp only [Act.put, List.setIfInBounds_toArray, List.set_cons_zero, List.set_cons_succ]
        obtain ⟨hq1, _, hq3, hq4⟩ := HAO.out _ hS
        have hfz := frozen_of_row _ w.heap.size 1 _ _ hq1
        refine wpAnyF_do (i := 8) (by kernel_rfl) rfl rfl (fun K hK => ?_)
        go_simp
        refine hK _ _ (fun h => absurd rfl h) ?_
        clear hK K
        refine wpAnyF_done (by kernel_rfl) ?_ _
        refine NoPanic.normal ?_
        have hset := heap_setCell_same wdnnnn w.heap.size 1 _ _ (.slice aB (N + 1) cB) hq1
        have hcs : Chg (fun k => k = w.heap.size) wdnnnn (wdnnnn.setCell ⟨w.heap.size, 1, none⟩ (.slice aB (N + 1) cB)) := Chg.setCell wdnnnn (a := ⟨w.heap.size, 1, none⟩) _ rfl
        have hown := hE.chg hcs (fun k hk e => by have h1 := (hE.lt hk).1; have h2 := HLA.out; omega)
        refine ⟨rfl, _, _, _, _, _, _, _, aB, cB, (by first | rfl | (simp only [Act.put, List.setIfInBounds_toArray, List.set_cons_zero, List.set_cons_succ]; rfl)), fun w'' hw'' => (hown.chg hw'' (fun k hk e => by have h1 := (hE.lt hk).1; have h2 := HLA.out; omega)).at_, hset, (hcs.block _ (Array.getElem?_eq_some_iff.1 hq3).1 (fun e => by have h2 := HLA.out; omega)).trans hq3, ?_⟩
        exact (HBIF.out.trans (HB9.out.mono HBIF.out.size)).trans ((hS.mono (HBIF.out.trans (HB9.out.mono HBIF.out.size)).size).setCell (Nat.le_refl _) _)
    · refine wp_lit1 48 37 (.tmp 50) rfl (a.cells).toArray rfl Try.underlying48 sizeAA zOkA (by rw [(show a.cells.toArray.size = 34 by rw [List.size_toArray, RefA.cells_length])]; decide) (by rw [(show a.cells.toArray.size = 34 by rw [List.size_toArray, RefA.cells_length])]; decide) ?_
      obtain ⟨wdn, hwn⟩ : ∃ wdn, wd.alloc (.cells (a.cells).toArray 37) = wdn := ⟨_, rfl⟩
      have hb : Below wd.heap.size wd wdn := hwn ▸ (Below.refl _ _).alloc (Nat.le_refl _) _
      have hL : wdn.heap[wd.heap.size]? = some (.cells (a.cells).toArray 37 (0, 0)) := by rw [← hwn]; exact heap_alloc_new _ _
      rw [hwn]
      obtain ⟨b10, hb10⟩ : ∃ b10, wd.heap.size = b10 := ⟨_, rfl⟩
      rw [hb10] at hL ⊢
      replace hS := hS.trans (hb.mono hS.size)
      clear hb hwn hb10
      refine hK _ _ (fun _ => hS) ?_
      clear hK K
      try simp only [Act.put, List.setIfInBounds_toArray, List.set_cons_zero, List.set_cons_succ]
      refine wpAnyF_do (i := 0) (by kernel_rfl) rfl rfl (fun K hK => ?_)
      go_simp
      obtain ⟨wdnn, hwn⟩ : ∃ wdnn, wdn.alloc (.cells #[] 37) = wdnn := ⟨_, rfl⟩
      have hb : Below wdn.heap.size wdn wdnn := hwn ▸ (Below.refl _ _).alloc (Nat.le_refl _) _
      have hE : OwnL refE wdnn w9.heap.size (Value.slice (some ⟨wdn.heap.size, 0, none⟩) 0 0) [] := hwn ▸ ownL_zero refE hS.size
      rw [hwn]
      clear hwn
      have hD : ∀ x, (Value.slice (some ⟨wdn.heap.size, 0, none⟩) 0 0).ownBlock = some x → b10 ≠ x := fun x hx e => by have h1 := (Array.getElem?_eq_some_iff.1 hL).1; have e2 : wdn.heap.size = x := Option.some.inj hx; omega
      replace hL := (hb.block _ (Array.getElem?_eq_some_iff.1 hL).1).trans hL
      replace hS := hS.trans (hb.mono hS.size)
      clear hb
      refine hK _ _ (fun _ => hS) ?_
      clear hK K
      try simp only [Act.put, List.setIfInBounds_toArray, List.set_cons_zero, List.set_cons_succ]
      refine wpAnyF_do (i := 3) (by kernel_rfl) rfl rfl (fun K hK => ?_)
      refine wp_appL refE (.tmp 46) (.tmp 48) rfl rfl hE rfl ((HV9.out).below hS) (n := 0) (m := N) rfl HN.out (by omega) hS.size ?_
      intro aA cA wdnnn ho9 hgr hat
      have hb := hE.grown_below hgr hS.size
      rw [Nat.zero_add] at ho9 hat ⊢
      rw [List.nil_append] at ho9
      have hlb := (Array.getElem?_eq_some_iff.1 hL).1
      replace hL := (hgr.block b10 hlb (fun e => hD _ e.symm rfl)).trans hL
      replace hD : ∀ x, (Value.slice aA N cA).ownBlock = some x → b10 ≠ x := fun x hx e => (hat x hx).elim (fun h => hD x h e) (fun h => by omega)
      clear hlb
      clear hE hgr hat
      have hE := ho9
      clear ho9
      replace hS := hS.trans hb
      clear hb
      refine hK _ _ (fun _ => hS) ?_
      clear hK K
      try simp only [Act.put, List.setIfInBounds_toArray, List.set_cons_zero, List.set_cons_succ]
      refine wpAnyF_do (i := 6) (by kernel_rfl) rfl rfl (fun K hK => ?_)
      refine wp_appL refE (.tmp 49) (.tmp 51) rfl rfl hE rfl (list_block1 refE hL) (n := N) (m := 1) HN.out rfl (by omega) hS.size ?_
      intro aB cB wdnnnn ho9 hgr hat
      have hb := hE.grown_below hgr hS.size
      clear hE hgr hat
      have hE := ho9
      clear ho9
      replace hS := hS.trans hb
      clear hb
      clear hL hD
      refine hK _ _ (fun _ => hS) ?_
      clear hK K
      try simp only [Act.put, List.setIfInBounds_toArray, List.set_cons_zero, List.set_cons_succ]
      refine wpAnyF_take (i := 7) (fin := 8) (v := ?v12) rfl (by kernel_rfl) (by kernel_rfl) (by kernel_rfl) (by kernel_rfl) (fun _ _ _ h => h) (yieldsIf_run rfl (fun w' hw' => ?y12)) hS ?_
      case y12 => first | (go_simp; rfl) | (go_simp; done) | rfl
      simp only [Act.put, List.setIfInBounds_toArray, List.set_cons_zero, List.set_cons_succ]
      obtain ⟨hq1, _, hq3, hq4⟩ := HAO.out _ hS
      have hfz := frozen_of_row _ w.heap.size 1 _ _ hq1
      refine wpAnyF_do (i := 8) (by kernel_rfl) rfl rfl (fun K hK => ?_)
      go_simp
      refine hK _ _ (fun h => absurd rfl h) ?_
      clear hK K
      refine wpAnyF_done (by kernel_rfl) ?_ _
      refine NoPanic.normal ?_
      have hset := heap_setCell_same wdnnnn w.heap.size 1 _ _ (.slice aB (N + 1) cB) hq1
      have hcs : Chg (fun k => k = w.heap.size) wdnnnn (wdnnnn.setCell ⟨w.heap.size, 1, none⟩ (.slice aB (N + 1) cB)) := Chg.setCell wdnnnn (a := ⟨w.heap.size, 1, none⟩) _ rfl
      have hown := hE.chg hcs (fun k hk e => by have h1 := (hE.lt hk).1; have h2 := HLA.out; omega)
      refine ⟨rfl, _, _, _, _, _, _, _, aB, cB, (by first | rfl | (simp only [Act.put, List.setIfInBounds_toArray, List.set_cons_zero, List.set_cons_succ]; rfl)), fun w'' hw'' => (hown.chg hw'' (fun k hk e => by have h1 := (hE.lt hk).1; have h2 := HLA.out; omega)).at_, hset, (hcs.block _ (Array.getElem?_eq_some_iff.1 hq3).1 (fun e => by have h2 := HLA.out; omega)).trans hq3, ?_⟩
      exact (HBIF.out.trans (HB9.out.mono HBIF.out.size)).trans ((hS.mono (HBIF.out.trans (HB9.out.mono HBIF.out.size)).size).setCell (Nat.le_refl _) _)

  rintro a' wz ⟨v46, v47, v48, v49, v50, v51, v53, al, cl, rfl, hlz, hsz, h4z, hbz⟩
  simp only [Act.put, List.setIfInBounds_toArray, List.set_cons_zero, List.set_cons_succ]
  have HLZ2 := Lib.hid hlz
  have HSZ2 := Lib.hid hsz
  have H4Z := Lib.hid h4z
  have HBZ := Lib.hid hbz
  clear hlz hsz h4z hbz
  go_wp2_with (refine wpList_loadV rfl (some 54) rfl 50 (.tmp 2) rfl _ rfl 50 #[.int .i64 B, .slice al (N + 1) cl] (0, 0) _ HSZ2.out Try.underlying50 rfl sizeS ?_; refine Stop.on ?_)
  refine Stop.go ?_
  try simp only [Act.put, List.setIfInBounds_toArray, List.set_cons_zero, List.set_cons_succ]
  refine wpList_putV rfl rfl 50 (.tmp 4) (.tmp 54) rfl _ #[.int .i64 B, .slice al (N + 1) cl] rfl rfl 50 _ H4Z.out sizeS rfl oneS ?_
  intro wq xq cq sq
  try simp only [Act.put, List.setIfInBounds_toArray, List.set_cons_zero, List.set_cons_succ]
  have HXQ := Lib.hid xq
  have HBQ := Lib.hid (HBZ.out.trans (cq.below (B := w.heap.size) (fun k e => by rw [e]; have := HLA.out; omega) HBZ.out.size))
  have HLQ := Lib.hid (HLZ2.out wq cq)
  clear xq cq sq
  go_wp2_with fail
  exact bodyPost_ret (results_cell_tmp_row (g := w2.heap.size) rfl _ _ _ _ _ _ rfl HXQ.out Try.underlying50 rfl sizeS) rfl ⟨_, rfl, HLQ.out, HBQ.out⟩
end Go.Proofs.Ytnmdgjodbikndaa

namespace Go.Proofs.Ytnmdgjodbikndaa
open Go.RowKit
set_option linter.unusedVariables false
set_option linter.unusedSimpArgs false

theorem cut_A (a : Option Addr) (n c m : Nat) (hm : m ≤ c) (hz : a = none → c = 0) (w : World) :
    (Instr.sliceAt 48 (.slice a n c) none (some (.int .i64 (m : Int))) none).run Try.prog w = .ok (.slice a m c) w := by
  cases a with
  | none =>
    obtain rfl := hz rfl
    obtain rfl : m = 0 := by omega
    have h0 : ∀ w, (Instr.sliceAt 48 (.slice none n 0) none (some (.int .i64 0)) none).run Try.prog w = .ok (.slice none 0 0) w := fun w => by go_simp
    exact h0 w
  | some ad =>
    have h1 : (m : Int) ≤ (c : Int) := by omega
    go_simp
theorem from_A {w0 : World} {g off n c k : Nat} {L : List RefA} (h : ListAt refE w0 (.slice (some ⟨g, off, none⟩) n c) L) (hk : k ≤ n) :
    ∃ v, (∀ w, (Instr.sliceAt 48 (.slice (some ⟨g, off, none⟩) n c) (some (.int .i64 (k : Int))) none none).run Try.prog w = .ok v w) ∧ ListAt refE w0 v (L.drop k) := by
  obtain ⟨hn, hc, hm, hz⟩ := h.len
  have h1 : (k : Int) ≤ (n : Int) := by omega
  have h2 : (n : Int) ≤ (c : Int) := by omega
  by_cases he : c = k
  · subst he
    obtain rfl : n = c := by omega
    refine ⟨.slice (some ⟨g, off, none⟩) 0 0, fun w => by clear hn h hm hz; go_simp, ?_⟩
    rw [List.drop_of_length_le (by omega)]
    exact ⟨_, _, rfl, Nat.zero_le _, Nat.zero_le _, (fun e => by cases e), fun e => absurd rfl e⟩
  · refine ⟨.slice (some ((⟨g, off, none⟩ : Addr).add (k * 34))) (n - k) (c - k), fun w => by clear hn h hm hz; go_simp, ?_⟩
    have h3 := h.drop hk
    have e2 : (⟨g, off, none⟩ : Addr).add (k * 34) = ⟨g, off + k * 34, none⟩ := by unfold Addr.add; split <;> simp_all
    rw [e2]
    exact h3
def rmC (L : List RefA) (k : IdB) : Int := if fIx L k < 0 then 8 else 0
def rmL (L : List RefA) (k : IdB) : List RefA := L.eraseP (fun a => decide (a.id = k))
theorem fIx_cases (L : List RefA) (k : IdB) : (fIx L k = -1 ∧ rmL L k = L ∧ ∀ a ∈ L, a.id ≠ k) ∨ ∃ i, ∃ h : i < L.length, fIx L k = (i : Int) ∧ rmL L k = L.take i ++ L.drop (i + 1) ∧ L[i].id = k := by
  unfold fIx rmL
  rw [List.eraseP_eq_eraseIdx]
  cases h : L.findIdx? (fun a => decide (a.id = k)) with
  | none => exact .inl ⟨rfl, rfl, fun a ha e => by rw [List.findIdx?_eq_none_iff] at h; have := h a ha; rw [e] at this; simp at this⟩
  | some i =>
    rw [List.findIdx?_eq_some_iff_getElem] at h
    obtain ⟨hi, he, _⟩ := h
    exact .inr ⟨i, hi, rfl, List.eraseIdx_eq_take_drop_succ _ _, of_decide_eq_true he⟩
set_option maxRecDepth 100000 in
set_option maxHeartbeats 2000000 in
theorem rRemove_any {w : World} (B : Int) (v : Value) (L : List RefA) (k : IdB) (hv : ListAt refE w v L) (hl : L.length < 1000000) :
    Calls Try.prog 45 #[.agg #[.int .i64 B, v], .agg (bvs k.1).toArray] w (RPost w B (rmC L k) (rmL L k)) := by
  obtain ⟨va, vc, rfl⟩ := hv.form
  obtain ⟨N, hN⟩ : ∃ N, L.length = N := ⟨_, rfl⟩
  obtain ⟨c, hc⟩ : ∃ c, rmC L k = c := ⟨_, rfl⟩
  obtain ⟨L', hL'⟩ : ∃ L', rmL L k = L' := ⟨_, rfl⟩
  rw [hN] at hv hl ⊢
  rw [hc, hL']
  unfold rmC at hc
  obtain ⟨w1, hw1⟩ : ∃ w1, w.alloc (.cells #[.int .i64 B, .slice va N vc] 50) = w1 := ⟨_, rfl⟩
  obtain ⟨w2, hw2⟩ : ∃ w2, w1.alloc (.cells (bvs k.1).toArray 29) = w2 := ⟨_, rfl⟩
  have hx1 : w1.heap[w.heap.size]? = some (.cells #[.int .i64 B, .slice va N vc] 50 (0, 0)) := by rw [← hw1]; exact heap_alloc_new _ _
  have hx2 : w2.heap[w1.heap.size]? = some (.cells (bvs k.1).toArray 29 (0, 0)) := by rw [← hw2]; exact heap_alloc_new _ _
  have hb1 : Below w.heap.size w w1 := hw1 ▸ (Below.refl _ _).alloc (Nat.le_refl _) _
  have hb2 : Below w1.heap.size w1 w2 := hw2 ▸ (Below.refl _ _).alloc (Nat.le_refl _) _
  have hb12 := hb1.trans (hb2.mono hb1.size)
  have hx1' := (hb2.block _ (Array.getElem?_eq_some_iff.1 hx1).1).trans hx1
  have HLZ := Lib.hid (show w.heap.size < w1.heap.size ∧ w1.heap.size < w2.heap.size from ⟨(Array.getElem?_eq_some_iff.1 hx1).1, (Array.getElem?_eq_some_iff.1 hx2).1⟩)
  have HV0 := Lib.hid hv
  have HV := Lib.hid (hv.below hb12)
  have HX1 := Lib.hid hx1'
  have HX2 := Lib.hid (range_block hx2)
  have HX2b := Lib.hid hx2
  have HB12 := Lib.hid hb12
  have HN := Lib.hid hN
  have HC := Lib.hid hc
  have HL' := Lib.hid hL'
  clear hx1 hx1' hx2 hb1 hb2 hb12 hv hN hc hL'
  go_enter Try.func45, Try.ntmps45
  go_wp2_with (refine wpList_newV rfl (some 4) rfl 50 rfl #[.int .i64 0, .slice none 0 0] 2 (by kernel_rfl) ?_; refine Stop.on ?_)
  refine Stop.go ?_
  intro wi xi bi si
  try simp only [Act.put, List.setIfInBounds_toArray, List.set_cons_zero, List.set_cons_succ]
  have HBI := Lib.hid (HB12.out.trans (bi.mono HB12.out.size))
  have HVI := Lib.hid (HV.out.below bi)
  have HLT := Lib.hid (show w.heap.size < w1.heap.size ∧ w1.heap.size < w2.heap.size ∧ w2.heap.size < wi.heap.size from ⟨HLZ.out.1, HLZ.out.2, (Array.getElem?_eq_some_iff.1 xi).1⟩)
  have HXK := Lib.hid ((bi.block _ HLZ.out.2).trans HX2b.out)
  have HO := Lib.hid (show ∀ w', Below wi.heap.size wi w' → w'.heap[w.heap.size]? = some (.cells #[.int .i64 B, .slice va N vc] 50 (0, 0)) ∧ True ∧ w'.heap[w2.heap.size]? = some (.cells #[.int .i64 0, .slice none 0 0] 50 (0, 0)) from fun w' hw' =>
    ⟨(hw'.block _ (by have := HLT.out; omega)).trans ((bi.block _ (by have := HLT.out; omega)).trans HX1.out), trivial, (hw'.block _ (by have := HLT.out; omega)).trans xi⟩)
  clear xi bi si
  go_wp2_with (refine wpList_loadV rfl (some 7) rfl 50 (.tmp 2) rfl _ rfl 50 #[.int .i64 B, .slice va N vc] (0, 0) _ (HO.out _ (Below.refl _ _)).1 Try.underlying50 rfl sizeS ?_; refine Stop.on ?_)
  refine Stop.go ?_
  try simp only [Act.put, List.setIfInBounds_toArray, List.set_cons_zero, List.set_cons_succ]
  refine wpList_loadV rfl (some 8) rfl 29 (.tmp 3) rfl _ rfl 29 (bvs k.1).toArray (0, 0) _ HXK.out Try.underlying29 rfl (by rw [List.size_toArray]; exact sizeArr k) ?_
  try simp only [Act.put, List.setIfInBounds_toArray, List.set_cons_zero, List.set_cons_succ]
  go_wp2_with fail
  refine (rFind_any B _ L k HVI.out (by rw [HN.out]; omega)).mono ?_
  rintro e wf ⟨rfl, hbf⟩
  have HBF := Lib.hid hbf
  have HBIF := Lib.hid (HBI.out.trans (hbf.mono HBI.out.size))
  clear hbf
  rcases fIx_cases L k with ⟨h1, h2, _⟩ | ⟨i, hi, h1, h2, _⟩
  · rw [h1]
    obtain rfl : 8 = c := by rw [← HC.out, h1, if_pos (by decide)]
    obtain rfl : L = L' := by rw [← HL'.out, h2]
    clear HL' HC h1 h2
    go_wp2_with (refine wpList_loadV rfl (some 12) rfl 50 (.tmp 2) rfl _ rfl 50 #[.int .i64 B, .slice va N vc] (0, 0) _ (HO.out _ HBF.out).1 Try.underlying50 rfl sizeS ?_; refine Stop.on ?_)
    refine Stop.go ?_
    try simp only [Act.put, List.setIfInBounds_toArray, List.set_cons_zero, List.set_cons_succ]
    refine wpList_putV rfl rfl 50 (.tmp 4) (.tmp 12) rfl _ #[.int .i64 B, .slice va N vc] rfl rfl 50 _ (HO.out _ HBF.out).2.2 sizeS rfl oneS ?_
    intro wq xq cq sq
    try simp only [Act.put, List.setIfInBounds_toArray, List.set_cons_zero, List.set_cons_succ]
    have HXQ := Lib.hid xq
    have HBQ := Lib.hid ((HBIF.out).trans (cq.below (B := w.heap.size) (fun k e => by rw [e]; have := HLT.out; omega) (HBIF.out).size))
    have HLQ := Lib.hid (HV0.out.later (HVI.out.below (HBF.out)) cq (by have := HLT.out; omega))
    clear xq cq sq
    go_wp2_with fail
    exact bodyPost_ret (results_cell_tmp_row (g := w2.heap.size) rfl _ _ _ _ _ _ rfl HXQ.out Try.underlying50 rfl sizeS) rfl ⟨_, rfl, HLQ.out, HBQ.out⟩
  rw [h1]
  obtain rfl : 0 = c := by rw [← HC.out, h1, if_neg (by omega)]
  obtain rfl : L.take i ++ L.drop (i + 1) = L' := by rw [← HL'.out, h2]
  clear HL' HC h1 h2
  rw [HN.out] at hi
  have hiI : ¬ ((i : Int) < 0) := by omega
  have hVF := HVI.out.below HBF.out
  obtain ⟨g, off, rfl, _⟩ := hVF.get (i := i) (by rw [HN.out]; exact hi)
  have hcut := cut_A (some ⟨g, off, none⟩) N vc i (by have := hVF.len; omega) (fun e => by cases e)
  obtain ⟨vd, hfrom, hld⟩ := from_A hVF (show i + 1 ≤ N by omega)
  have hwr : IntKind.i64.wrap ((i : Int) + 1) = (i : Int) + 1 := IntWalk.i64_in _ (by omega)
  rw [show ((i + 1 : Nat) : Int) = (i : Int) + 1 from by omega] at hfrom
  have HTK := Lib.hid (hVF.take (k := i) (by omega))
  have HDR := Lib.hid hld
  have HLT1 := Lib.hid (show (L.take i).length = i by rw [List.length_take, HN.out]; omega)
  have HLD1 := Lib.hid (show (L.drop (i + 1)).length = N - (i + 1) by rw [List.length_drop, HN.out])
  have HFO := Lib.hid (show ∀ w', Below wf.heap.size wf w' → w'.heap[w.heap.size]? = some (.cells #[.int .i64 B, .slice (some ⟨g, off, none⟩) N vc] 50 (0, 0)) ∧ w'.heap[w2.heap.size]? = some (.cells #[.int .i64 0, .slice none 0 0] 50 (0, 0)) ∧ w'.cell? ⟨w.heap.size, 1, none⟩ = some (.slice (some ⟨g, off, none⟩) N vc) from fun w' hw' => by
    have h := HO.out w' (HBF.out.trans (hw'.mono HBF.out.size))
    refine ⟨h.1, h.2.2, ?_⟩
    rw [cell_of_row _ _ _ _ _ _ h.1]
    rfl)
  have HLA := Lib.hid (show w.heap.size < w2.heap.size ∧ w2.heap.size < wf.heap.size from ⟨by have := HLT.out; omega, by have := HLT.out; have := HBF.out.size; omega⟩)
  clear hVF hld
  go_wp2_with fail
  refine cut_region (fun a0 a' w' => ∃ v13 v14 v15 v16 v17 v18 v19 v20 v21 v22 v23 v25 al cl, a' = (((((((((((((a0.put (some 13) v13).put (some 14) v14).put (some 15) v15).put (some 16) v16).put (some 17) v17).put (some 18) v18).put (some 19) v19).put (some 20) v20).put (some 21) v21).put (some 22) v22).put (some 23) v23).put (some 24) (.slice al (i + (N - (i + 1))) cl)).put (some 25) v25) ∧ (∀ w'', Chg (fun k => k = w2.heap.size) w' w'' → ListAt refE w'' (.slice al (i + (N - (i + 1))) cl) (L.take i ++ L.drop (i + 1))) ∧ w'.heap[w.heap.size]? = some (.cells #[.int .i64 B, .slice al (i + (N - (i + 1))) cl] 50 (0, 0)) ∧ w'.heap[w2.heap.size]? = some (.cells #[.int .i64 0, .slice none 0 0] 50 (0, 0)) ∧ Below w.heap.size w w') ?_ ?_
  ·
    refine wp_region_noPanic ?_
    refine wp_region_F 13 (Below wf.heap.size wf) (by kernel_rfl) ?_
    have hS0 : (Below wf.heap.size wf) wf.drew := (Below.refl _ _).drew
    obtain ⟨wd, hwd⟩ : ∃ wd, wf.drew = wd := ⟨_, rfl⟩
    rw [hwd] at hS0 ⊢
    clear hwd
    refine wpAnyF_take (i := 1) (fin := 13) (v := ?v1) rfl (by kernel_rfl) (by kernel_rfl) (by kernel_rfl) (by kernel_rfl) (fun _ _ _ h => h) (yieldsIf_run rfl (fun w' hw' => ?y1)) hS0 ?_
    case y1 => first | (go_simp; rfl) | (go_simp; done) | rfl
    simp only [Act.put, List.setIfInBounds_toArray, List.set_cons_zero, List.set_cons_succ]
    refine wpAnyF_take (i := 2) (fin := 13) (v := .slice (some ⟨g, off, none⟩) N vc) rfl (by kernel_rfl) (by kernel_rfl) (by kernel_rfl) (by kernel_rfl) (fun _ _ _ h => h) (yieldsIf_run rfl (fun w' hw' => ?y2)) hS0 ?_
    case y2 => (have hc := (HFO.out w' hw').2.2; clear hw'; first | (go_simp; rfl) | (go_simp; done))
    simp only [Act.put, List.setIfInBounds_toArray, List.set_cons_zero, List.set_cons_succ]
    refine wpAnyF_take (i := 3) (fin := 13) (v := ?v3) rfl (by kernel_rfl) (by kernel_rfl) (by kernel_rfl) (by kernel_rfl) (fun _ _ _ h => h) (yieldsIf_run rfl (fun w' hw' => ?y3)) hS0 ?_
    case y3 => first | (go_simp; rfl) | (go_simp; done) | rfl
    simp only [Act.put, List.setIfInBounds_toArray, List.set_cons_zero, List.set_cons_succ]
    refine wpAnyF_take (i := 4) (fin := 13) (v := .slice (some ⟨g, off, none⟩) i vc) rfl (by kernel_rfl) (by kernel_rfl) (by kernel_rfl) (by kernel_rfl) (fun _ _ _ h => h) (yieldsIf_run rfl (fun w' hw' => ?y4)) hS0 ?_
    case y4 => (have h99 := hcut; clear hw'; first | (go_simp; rfl) | (go_simp; done))
    simp only [Act.put, List.setIfInBounds_toArray, List.set_cons_zero, List.set_cons_succ]
    refine wpAnyF_take (i := 6) (fin := 13) (v := ?v5) rfl (by kernel_rfl) (by kernel_rfl) (by kernel_rfl) (by kernel_rfl) (fun _ _ _ h => h) (yieldsIf_run rfl (fun w' hw' => ?y5)) hS0 ?_
    case y5 => first | (go_simp; rfl) | (go_simp; done) | rfl
    simp only [Act.put, List.setIfInBounds_toArray, List.set_cons_zero, List.set_cons_succ]
    refine wpAnyF_take (i := 7) (fin := 13) (v := .slice (some ⟨g, off, none⟩) N vc) rfl (by kernel_rfl) (by kernel_rfl) (by kernel_rfl) (by kernel_rfl) (fun _ _ _ h => h) (yieldsIf_run rfl (fun w' hw' => ?y6)) hS0 ?_
    case y6 => (have hc := (HFO.out w' hw').2.2; clear hw'; first | (go_simp; rfl) | (go_simp; done))
    simp only [Act.put, List.setIfInBounds_toArray, List.set_cons_zero, List.set_cons_succ]
    refine wpAnyF_take (i := 8) (fin := 13) (v := ?v7) rfl (by kernel_rfl) (by kernel_rfl) (by kernel_rfl) (by kernel_rfl) (fun _ _ _ h => h) (yieldsIf_run rfl (fun w' hw' => ?y7)) hS0 ?_
    case y7 => first | (go_simp; rfl) | (go_simp; done) | rfl
    simp only [Act.put, List.setIfInBounds_toArray, List.set_cons_zero, List.set_cons_succ]
    refine wpAnyF_take (i := 9) (fin := 13) (v := .int .i64 ((i : Int) + 1)) rfl (by kernel_rfl) (by kernel_rfl) (by kernel_rfl) (by kernel_rfl) (fun _ _ _ h => h) (yieldsIf_run rfl (fun w' hw' => ?y8)) hS0 ?_
    case y8 => (have h99 := hwr; clear hw'; first | (go_simp; rfl) | (go_simp; done))
    simp only [Act.put, List.setIfInBounds_toArray, List.set_cons_zero, List.set_cons_succ]
    refine wpAnyF_take (i := 10) (fin := 13) (v := vd) rfl (by kernel_rfl) (by kernel_rfl) (by kernel_rfl) (by kernel_rfl) (fun _ _ _ h => h) (yieldsIf_run rfl (fun w' hw' => ?y9)) hS0 ?_
    case y9 => (have h99 := hfrom; clear hw'; first | (go_simp; rfl) | (go_simp; done))
    simp only [Act.put, List.setIfInBounds_toArray, List.set_cons_zero, List.set_cons_succ]
    have hS := hS0
    clear hS0 hcut hfrom hwr
    refine wpAnyF_do (i := 0) (by kernel_rfl) rfl rfl (fun K hK => ?_)
    go_simp
    obtain ⟨wdn, hwn⟩ : ∃ wdn, wd.alloc (.cells #[] 37) = wdn := ⟨_, rfl⟩
    have hb : Below wd.heap.size wd wdn := hwn ▸ (Below.refl _ _).alloc (Nat.le_refl _) _
    have hE : OwnL refE wdn wf.heap.size (Value.slice (some ⟨wd.heap.size, 0, none⟩) 0 0) [] := hwn ▸ ownL_zero refE hS.size
    rw [hwn]
    clear hwn
    replace hS := hS.trans (hb.mono hS.size)
    clear hb
    refine hK _ _ (fun _ => hS) ?_
    clear hK K
    try simp only [Act.put, List.setIfInBounds_toArray, List.set_cons_zero, List.set_cons_succ]
    refine wpAnyF_do (i := 5) (by kernel_rfl) rfl rfl (fun K hK => ?_)
    refine wp_appL refE (.tmp 13) (.tmp 17) rfl rfl hE rfl ((HTK.out.below hS)) (n := 0) (m := i) rfl HLT1.out (by omega) hS.size ?_
    intro aA cA wdnn ho9 hgr hat
    have hb := hE.grown_below hgr hS.size
    rw [Nat.zero_add] at ho9 ⊢
    rw [List.nil_append] at ho9
    clear hE hgr hat
    have hE := ho9
    clear ho9
    replace hS := hS.trans hb
    clear hb
    refine hK _ _ (fun _ => hS) ?_
    clear hK K
    try simp only [Act.put, List.setIfInBounds_toArray, List.set_cons_zero, List.set_cons_succ]
    refine wpAnyF_do (i := 11) (by kernel_rfl) rfl rfl (fun K hK => ?_)
    refine wp_appL refE (.tmp 18) (.tmp 23) rfl rfl hE rfl ((HDR.out.below hS)) (n := i) (m := N - (i + 1)) HLT1.out HLD1.out (by omega) hS.size ?_
    intro aB cB wdnnn ho9 hgr hat
    have hb := hE.grown_below hgr hS.size
    clear hE hgr hat
    have hE := ho9
    clear ho9
    replace hS := hS.trans hb
    clear hb
    refine hK _ _ (fun _ => hS) ?_
    clear hK K
    try simp only [Act.put, List.setIfInBounds_toArray, List.set_cons_zero, List.set_cons_succ]
    refine wpAnyF_take (i := 12) (fin := 13) (v := ?v10) rfl (by kernel_rfl) (by kernel_rfl) (by kernel_rfl) (by kernel_rfl) (fun _ _ _ h => h) (yieldsIf_run rfl (fun w' hw' => ?y10)) hS ?_
    case y10 => first | (go_simp; rfl) | (go_simp; done) | rfl
    simp only [Act.put, List.setIfInBounds_toArray, List.set_cons_zero, List.set_cons_succ]
    obtain ⟨hq1, hq3, hq4⟩ := HFO.out _ hS
    have hfz := frozen_of_row _ w.heap.size 1 _ _ hq1
    refine wpAnyF_do (i := 13) (by kernel_rfl) rfl rfl (fun K hK => ?_)
    go_simp
    refine hK _ _ (fun h => absurd rfl h) ?_
    clear hK K
    refine wpAnyF_done (by kernel_rfl) ?_ _
    refine NoPanic.normal ?_
    have hset := heap_setCell_same wdnnn w.heap.size 1 _ _ (.slice aB (i + (N - (i + 1))) cB) hq1
    have hcs : Chg (fun k => k = w.heap.size) wdnnn (wdnnn.setCell ⟨w.heap.size, 1, none⟩ (.slice aB (i + (N - (i + 1))) cB)) := Chg.setCell wdnnn (a := ⟨w.heap.size, 1, none⟩) _ rfl
    have hown := hE.chg hcs (fun k hk e => by have h1 := (hE.lt hk).1; have h2 := HLA.out; omega)
    refine ⟨rfl, _, _, _, _, _, _, _, _, _, _, _, _, aB, cB, (by first | rfl | (simp only [Act.put, List.setIfInBounds_toArray, List.set_cons_zero, List.set_cons_succ]; rfl)), fun w'' hw'' => (hown.chg hw'' (fun k hk e => by have h1 := (hE.lt hk).1; have h2 := HLA.out; omega)).at_, hset, (hcs.block _ (Array.getElem?_eq_some_iff.1 hq3).1 (fun e => by have h2 := HLA.out; omega)).trans hq3, ?_⟩
    exact HBIF.out.trans ((hS.mono HBIF.out.size).setCell (Nat.le_refl _) _)

  rintro a' wz ⟨v13, v14, v15, v16, v17, v18, v19, v20, v21, v22, v23, v25, al, cl, rfl, hlz, hsz, h4z, hbz⟩
  simp only [Act.put, List.setIfInBounds_toArray, List.set_cons_zero, List.set_cons_succ]
  have HLZ2 := Lib.hid hlz
  have HSZ2 := Lib.hid hsz
  have H4Z := Lib.hid h4z
  have HBZ := Lib.hid hbz
  have HLEN := Lib.hid (show i + (N - (i + 1)) = (L.take i ++ L.drop (i + 1)).length by rw [List.length_append, HLT1.out, HLD1.out])
  clear hlz hsz h4z hbz hcut hfrom hwr
  go_wp2_with (refine wpList_loadV rfl (some 26) rfl 50 (.tmp 2) rfl _ rfl 50 #[.int .i64 B, .slice al (i + (N - (i + 1))) cl] (0, 0) _ HSZ2.out Try.underlying50 rfl sizeS ?_; refine Stop.on ?_)
  refine Stop.go ?_
  try simp only [Act.put, List.setIfInBounds_toArray, List.set_cons_zero, List.set_cons_succ]
  refine wpList_putV rfl rfl 50 (.tmp 4) (.tmp 26) rfl _ #[.int .i64 B, .slice al (i + (N - (i + 1))) cl] rfl rfl 50 _ H4Z.out sizeS rfl oneS ?_
  intro wq xq cq sq
  try simp only [Act.put, List.setIfInBounds_toArray, List.set_cons_zero, List.set_cons_succ]
  have HXQ := Lib.hid xq
  have HBQ := Lib.hid (HBZ.out.trans (cq.below (B := w.heap.size) (fun k e => by rw [e]; have := HLA.out; omega) HBZ.out.size))
  have HLQ := Lib.hid (HLZ2.out wq cq)
  clear xq cq sq
  go_wp2_with fail
  exact bodyPost_ret (results_cell_tmp_row (g := w2.heap.size) rfl _ _ _ _ _ _ rfl HXQ.out Try.underlying50 rfl sizeS) rfl ⟨_, rfl, HLQ.out, HBQ.out⟩
end Go.Proofs.Ytnmdgjodbikndaa
