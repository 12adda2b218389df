/- ThreadBuilds, ThreadChecks. -/
import Derived.Test.YthfinofmbnfijaaTp17
namespace Go.Proofs.Ythfinofmbnfijaa
open Go.Shelf Go.RowKit Go.Lib Go.Sort
set_option linter.unusedVariables false
set_option linter.unusedSimpArgs false

set_option maxRecDepth 100000 in
set_option maxHeartbeats 2000000 in
theorem Builds_law {w : World} (v : Value) (L : List RawV) (hv : RawsAt w v L) : Calls Try.prog 3 #[v] w fun e w' => e = .returned (.bool true) ∧ Below w.heap.size w w' := by
  have HV := Lib.hid hv
  clear hv
  go_enter Try.func3, Try.ntmps3
  go_wp2_with fail
  refine (rows_any _ L HV.out).mono ?_
  rintro e Wa ⟨xv, M, rfl, ho, ht, hb⟩
  obtain ⟨hN14, hnd⟩ := rows_facts ht
  obtain ⟨xa, xc, rfl⟩ := ho.own.form
  obtain ⟨N, hN⟩ : ∃ N, M.length = N := ⟨_, rfl⟩
  rw [hN] at ho hN14 ⊢
  have HM := Lib.hid ho
  have HN := Lib.hid hN
  have HND := Lib.hid hnd
  have HBA := Lib.hid hb
  clear ho ht hN hb hnd
  go_wp2_with fail
  refine (Build_any _ M HM.out.at_ (by rw [HN.out]; omega)).mono ?_
  rintro e Wf (⟨hno, _⟩ | ⟨hnd2, fv, c, rfl, hc1, hof, hb⟩)
  case inl => exact absurd HND.out hno
  have hgood := good hnd2 hc1
  obtain ⟨F, hF⟩ : ∃ F, forestV M c = F := ⟨_, rfl⟩
  rw [hF] at hof hgood
  have hFl : F.length ≤ 28 := by
    rw [← hF, forestV_eq hnd2]
    unfold forestS
    refine Nat.le_trans (forL_len (cut_acyclic hc1) (pls_nodup hnd2 c) _ _) ?_
    have := pls_len M c
    have h2 := HN.out
    omega
  obtain ⟨fa, fc, rfl⟩ := hof.form
  obtain ⟨n, hn⟩ : ∃ n, F.length = n := ⟨_, rfl⟩
  rw [hn] at hof hFl ⊢
  obtain ⟨hz1, hnfc, hfcm, hz2⟩ := hof.at_.len
  unfold maxLen at hfcm
  have HG := Lib.hid hgood
  have HC1 := Lib.hid hc1
  have HFE := Lib.hid hF
  have HFN := Lib.hid hn
  have HF0 := Lib.hid hof.at_
  have HM0 := Lib.hid (HM.out.below hb)
  have HB0 := Lib.hid (HBA.out.trans (hb.mono HBA.out.size))
  clear hc1 hof hb hnd2 hgood hF hn hz1 hz2 HM HBA
  go_wp2_with fail
  refine known_any.mono ?_
  rintro e Wk ⟨rfl, hb⟩
  have HF0 := Lib.hid (HF0.out.below hb)
  have HM0 := Lib.hid (HM0.out.below hb)
  have HB0 := Lib.hid (HB0.out.trans (hb.mono HB0.out.size))
  clear hb
  go_wp2_with fail
  refine (forest_any _ M c HC1.out HM0.out.at_ HND.out (by rw [HN.out]; omega)).mono ?_
  rintro e Wg ⟨gv, rfl, hog, hb⟩
  rw [HFE.out] at hog
  have HG0 := Lib.hid hog.at_
  have HF0 := Lib.hid (HF0.out.below hb)
  have HB0 := Lib.hid (HB0.out.trans (hb.mono HB0.out.size))
  have HSM := Lib.hid (HG.out.nsm (by rw [HN.out]; omega) (by rw [HFN.out]; omega))
  clear hog hb
  go_wp2_with fail
  refine (same_any _ _ F F HF0.out HG0.out (by rw [HFN.out]; omega) (by rw [HFN.out]; omega) HSM.out HSM.out).mono ?_
  rintro e Ws ⟨rfl, hb⟩
  rw [decide_eq_true rfl]
  have HB0 := Lib.hid (HB0.out.trans (hb.mono HB0.out.size))
  clear hb
  go_wp2_with fail
  exact bodyPost_ret (v := .bool true) (by simp [results, Try.results3, go_sem]) rfl ⟨rfl, HB0.out⟩
theorem exec_rem8 {o : Oper} {w : World} {ρ : Operand → Value} (a b : Nat) (hb : 0 < b) (x y : Operand) (ho : o.op = .binOp .rem 5 x y 5) (hx : ρ x = .int .u8 (a : Int)) (hy : ρ y = .int .u8 (b : Int)) : (execOp ρ o).run Try.prog w = .ok (.value (.int .u8 ((a % b : Nat) : Int))) w := by
  have h1 : ¬ ((b : Int) = 0) := by omega
  have h2 : (a : Int).tmod (b : Int) = ((a % b : Nat) : Int) := rfl
  have h3 : (binOp .rem 5 (.int .u8 (a : Int)) (.int .u8 (b : Int))).run Try.prog w = .ok (.int .u8 ((a % b : Nat) : Int)) w := by
    rw [← h2]
    simp [binOp, Op.intDiv, h1]
    try (intro e; omega)
  have h4 : (eqGuard .rem 5 x y (.int .u8 (a : Int)) (.int .u8 (b : Int))).run Try.prog w = .ok () w := by
    simp [eqGuard]
  unfold execOp
  simp only [ho, hx, hy, Sem.run_bind, h3, h4, Result.andThen_ok]
  rfl
def NodeV.wRow (n : NodeV) (v : Int) : NodeV := ⟨n.id, v, n.parent, n.depth⟩
def NodeV.wPar (n : NodeV) (v : Int) : NodeV := ⟨n.id, n.row, v, n.depth⟩
def NodeV.wDep (n : NodeV) (v : Int) : NodeV := ⟨n.id, n.row, n.parent, v⟩
def NodeV.wId (n : NodeV) (y : IdB) : NodeV := ⟨y, n.row, n.parent, n.depth⟩
theorem enc_wRow (n : NodeV) (v : Int) : nodeE.enc (n.wRow v) = (nodeE.enc n).set 32 (.int .i64 v) := by
  show NodeV.cells _ = (NodeV.cells n).set 32 _
  unfold NodeV.cells
  rw [List.set_append_right _ _ (by rw [bvs_length, n.id.2]; omega), bvs_length, n.id.2]
  rfl
theorem enc_wPar (n : NodeV) (v : Int) : nodeE.enc (n.wPar v) = (nodeE.enc n).set 33 (.int .i64 v) := by
  show NodeV.cells _ = (NodeV.cells n).set 33 _
  unfold NodeV.cells
  rw [List.set_append_right _ _ (by rw [bvs_length, n.id.2]; omega), bvs_length, n.id.2]
  rfl
theorem enc_wDep (n : NodeV) (v : Int) : nodeE.enc (n.wDep v) = (nodeE.enc n).set 34 (.int .i64 v) := by
  show NodeV.cells _ = (NodeV.cells n).set 34 _
  unfold NodeV.cells
  rw [List.set_append_right _ _ (by rw [bvs_length, n.id.2]; omega), bvs_length, n.id.2]
  rfl
theorem enc_wId (n : NodeV) (y : IdB) (q : Nat) (hq : q < nodeE.k) : (nodeE.enc (n.wId y))[q]? = if 0 ≤ q ∧ q < 0 + (bvs y.1).length then (bvs y.1)[q - 0]? else (nodeE.enc n)[q]? := by
  show (NodeV.cells _)[q]? = if _ then _ else (NodeV.cells n)[q]?
  unfold NodeV.cells
  have h1 : (bvs y.1).length = 32 := by rw [bvs_length, y.2]
  have h2 : (bvs n.id.1).length = 32 := by rw [bvs_length, n.id.2]
  by_cases h : q < 32
  · rw [if_pos (by omega), Nat.sub_zero]
    exact List.getElem?_append_left (by rw [show (n.wId y).id = y from rfl, h1]; exact h)
  · rw [if_neg (by omega), List.getElem?_append_right (by rw [show (n.wId y).id = y from rfl, h1]; omega), List.getElem?_append_right (by rw [h2]; omega), show (n.wId y).id = y from rfl, h1, h2]
    rfl
theorem cut_N (a : Option Addr) (n c m : Nat) (hm : m ≤ c) (hz : a = none → c = 0) (w : World) :
    (Instr.sliceAt 25 (.slice a n c) none (some (.int .i64 (m : Int))) none).run Try.prog w = .ok (.slice a m c) w := by
  cases a with
  | none =>
    obtain rfl := hz rfl
    obtain rfl : m = 0 := by omega
    have h0 : ∀ w, (Instr.sliceAt 25 (.slice none n 0) none (some (.int .i64 0)) none).run Try.prog w = .ok (.slice none 0 0) w := fun w => by go_simp
    exact h0 w
  | some ad =>
    have h1 : (m : Int) ≤ (c : Int) := by omega
    go_simp
theorem from_N {a : Option Addr} {n c k : Nat} {L : List NodeV} (h : ∃ w, ListAt nodeE w (.slice a n c) L) (hk : k ≤ n) :
    ∃ v, (∀ w, (Instr.sliceAt 25 (.slice a n c) (some (.int .i64 (k : Int))) none none).run Try.prog w = .ok v w) ∧ ∀ w0, ListAt nodeE w0 (.slice a n c) L → ListAt nodeE w0 v (L.drop k) := by
  obtain ⟨w9, h9⟩ := h
  obtain ⟨hn, hc, hm, hz⟩ := h9.len
  have hL9 : n = L.length := hn
  cases a with
  | none =>
    obtain rfl := hz rfl
    obtain rfl : n = 0 := by omega
    obtain rfl : k = 0 := by omega
    refine ⟨.slice none 0 0, fun w => ?_, fun w0 h => by simpa using h⟩
    have h0 : ∀ w, (Instr.sliceAt 25 (.slice none 0 0) (some (.int .i64 0)) none none).run Try.prog w = .ok (.slice none 0 0) w := fun w => by go_simp
    exact h0 w
  | some ad =>
    have h1 : (k : Int) ≤ (n : Int) := by omega
    have h2 : (n : Int) ≤ (c : Int) := by omega
    have hnil : ∀ (w0 : World) (x : Addr) (cc : Nat), cc ≤ maxLen → ListAt nodeE w0 (.slice (some x) 0 cc) [] := fun w0 x cc hcc => ⟨_, _, rfl, Nat.zero_le _, hcc, (fun e => by cases e), fun e => absurd rfl e⟩
    by_cases he : c = k
    · subst he
      obtain rfl : n = c := by omega
      refine ⟨.slice (some ad) 0 0, fun w => by clear hn hnil h9 hm hz hL9; go_simp, fun w0 h => ?_⟩
      rw [List.drop_of_length_le (by omega)]
      exact hnil _ _ _ (Nat.zero_le _)
    · refine ⟨.slice (some (ad.add (k * 35))) (n - k) (c - k), fun w => by clear hn hnil h9 hm hz hL9; go_simp, fun w0 h => ?_⟩
      by_cases hL : L = []
      · subst hL
        obtain rfl : n = 0 := hL9
        obtain rfl : k = 0 := by omega
        exact hnil _ _ _ (by omega)
      · obtain ⟨a', cap', e, h3, h4, h5, h6⟩ := h.ex
        cases e
        obtain ⟨g, off, e, hg, hr⟩ := h6 hL
        cases e
        have := h.drop hk
        rw [Addr.add_mid]
        exact this
set_option maxRecDepth 100000 in
set_option maxHeartbeats 2000000 in
theorem Checks_law {w : World} (v : Value) (L : List RawV) (hv : RawsAt w v L) (s0 s1 s2 : Nat) (hs0 : s0 < 256) (hs1 : s1 < 256) (hs2 : s2 < 256) : Calls Try.prog 7 #[v, .agg #[.int .u8 (s0 : Int), .int .u8 (s1 : Int), .int .u8 (s2 : Int)]] w fun e w' => e = .returned (.bool true) ∧ Below w.heap.size w w' := by
  obtain ⟨w1, hw1⟩ : ∃ w1, w.alloc (.cells #[.int .u8 (s0 : Int), .int .u8 (s1 : Int), .int .u8 (s2 : Int)] 48) = w1 := ⟨_, rfl⟩
  have hb1 : Below w.heap.size w w1 := hw1 ▸ (Below.refl _ w).alloc (Nat.le_refl _) _
  have hx1 : w1.heap[w.heap.size]? = some (.cells #[.int .u8 (s0 : Int), .int .u8 (s1 : Int), .int .u8 (s2 : Int)] 48 (0, 0)) := by rw [← hw1]; exact heap_alloc_new _ _
  obtain ⟨sb, hsb⟩ : ∃ sb, w.heap.size = sb := ⟨_, rfl⟩
  have HSB := Lib.hid (show w.heap.size = sb ∧ sb < w1.heap.size from ⟨hsb, by rw [← hw1, ← hsb]; simp⟩)
  have HV := Lib.hid (hv.below hb1)
  have HB1 := Lib.hid hb1
  have HSP := Lib.hid (show ∀ w', Below w1.heap.size w1 w' → w'.cell? ⟨sb, 0, none⟩ = some (.int .u8 (s0 : Int)) ∧ w'.cell? ⟨sb, 1, none⟩ = some (.int .u8 (s1 : Int)) ∧ w'.cell? ⟨sb, 2, none⟩ = some (.int .u8 (s2 : Int)) from fun w' hw' => by
    have h1 := (hw'.block _ (Array.getElem?_eq_some_iff.1 hx1).1).trans hx1
    rw [hsb] at h1
    exact ⟨by rw [cell_of_row _ _ _ _ _ _ h1]; rfl, by rw [cell_of_row _ _ _ _ _ _ h1]; rfl, by rw [cell_of_row _ _ _ _ _ _ h1]; rfl⟩)
  clear hv hb1 hx1 hsb
  go_enter Try.func7, Try.ntmps7
  go_wp2_with fail
  refine (rows_any _ L HV.out).mono ?_
  rintro e Wa ⟨xv, M, rfl, ho, ht, hb⟩
  obtain ⟨hN14, hnd⟩ := rows_facts ht
  obtain ⟨xa, xc, rfl⟩ := ho.own.form
  obtain ⟨N, hN⟩ : ∃ N, M.length = N := ⟨_, rfl⟩
  rw [hN] at ho hN14 ⊢
  have HM := Lib.hid ho
  have HN := Lib.hid hN
  have HND := Lib.hid hnd
  have HBA := Lib.hid hb
  clear ho ht hN hb hnd
  rw [HSB.out.1]
  clear hw1
  have HSW := Lib.hid HBA.out.size
  obtain ⟨c, hc⟩ := isCut_ex (parP M) (arrS M)
  have hgood := good HND.out hc
  obtain ⟨F, hF⟩ : ∃ F, forestV M c = F := ⟨_, rfl⟩
  rw [hF] at hgood
  have hFl : F.length ≤ 28 := by
    rw [← hF, forestV_eq HND.out]
    unfold forestS
    refine Nat.le_trans (forL_len (cut_acyclic hc) (pls_nodup HND.out c) _ _) ?_
    have := pls_len M c
    have h2 := HN.out
    omega
  go_wp2_with fail
  refine (forest_any _ M c hc HM.out.at_ HND.out (by rw [HN.out]; omega)).mono ?_
  rintro e Wf ⟨fv, rfl, hof, hb⟩
  rw [hF] at hof
  obtain ⟨fa, fc, rfl⟩ := hof.form
  obtain ⟨n, hn⟩ : ∃ n, F.length = n := ⟨_, rfl⟩
  rw [hn] at hof hFl ⊢
  obtain ⟨hz1, hnfc, hfcm, hz2⟩ := hof.at_.len
  unfold maxLen at hfcm
  have HFN := Lib.hid hn
  have HF0 := Lib.hid hof
  have HB0 := Lib.hid (HBA.out.trans (hb.mono HBA.out.size))
  clear hof hb hgood hF hn hz1 hz2 HM HBA hc
  by_cases h0 : n = 0
  case pos =>
    subst h0
    have HFZ := Lib.hid HF0.out.at_
    have HBZ := Lib.hid (HB1.out.trans (HB0.out.mono HB1.out.size))
    have HLZ := Lib.hid (show (F).length < 1000000 by rw [HFN.out]; omega)
    go_wp2_with fail
    refine known_any.mono ?_
    rintro e Wk ⟨rfl, hb⟩
    have HFZ := Lib.hid (HFZ.out.below hb)
    have HBZ := Lib.hid (HBZ.out.trans (hb.mono HBZ.out.size))
    clear hb
    go_wp2_with fail
    refine (Check_any _ _ HFZ.out HLZ.out).mono ?_
    rintro e Wc ⟨rfl, hb⟩
    have HFZ := Lib.hid (HFZ.out.below hb)
    have HBZ := Lib.hid (HBZ.out.trans (hb.mono HBZ.out.size))
    clear hb
    obtain ⟨cr, hcr⟩ : ∃ cr, checkP (F) = cr := ⟨_, rfl⟩
    rw [hcr]
    go_wp2_with fail
    refine (check_any _ _ HFZ.out HLZ.out).mono ?_
    rintro e Wd ⟨rfl, hb⟩
    have HBZ := Lib.hid (HBZ.out.trans (hb.mono HBZ.out.size))
    rw [hcr]
    clear hb hcr
    go_wp2_with fail
    exact bodyPost_ret (v := .bool true) (by simp [results, Try.results7, go_sem]) rfl ⟨rfl, HBZ.out⟩
  have hN0 : 0 < n := by omega
  have hnd : decide ((0 : Int) < (n : Int)) = true := decide_eq_true (by omega)
  obtain ⟨fg, rfl⟩ := HF0.out.addr hN0
  obtain ⟨q0, q1, q2⟩ := HSP.out Wf HB0.out
  clear h0
  go_wp2_with (refine wpList_runI rfl (some 19) rfl (.int .i64 ((s0 % n : Nat) : Int)) _ (exec_rem s0 n hN0 (.tmp 16) (.tmp 18) rfl rfl rfl) ?_; refine Stop.on ?_)
  refine Stop.go ?_
  try simp only [Act.put, List.setIfInBounds_toArray, List.set_cons_zero, List.set_cons_succ]
  obtain ⟨i, hi⟩ : ∃ i, s0 % n = i := ⟨_, rfl⟩
  have hin : i < n := by rw [← hi]; exact Nat.mod_lt _ hN0
  rw [hi]
  clear hi
  go_wp2_with (refine wpList_runI rfl (some 26) rfl (.int .i64 ((s2 % (n + 3) : Nat) : Int)) _ (exec_rem s2 (n + 3) (by omega) (.tmp 22) (.tmp 25) rfl rfl rfl) ?_; refine Stop.on ?_)
  refine Stop.go ?_
  try simp only [Act.put, List.setIfInBounds_toArray, List.set_cons_zero, List.set_cons_succ]
  obtain ⟨m0, hm0⟩ : ∃ m0, s2 % (n + 3) = m0 := ⟨_, rfl⟩
  have hmn : m0 < n + 3 := by rw [← hm0]; exact Nat.mod_lt _ (by omega)
  rw [hm0]
  clear hm0
  go_wp2_with (refine wpList_runI rfl (some 30) rfl (.int .u8 ((s1 % 6 : Nat) : Int)) _ (exec_rem8 s1 6 (by omega) (.tmp 29) (.const (.int .u8 6)) rfl rfl rfl) ?_; refine Stop.on ?_)
  refine Stop.go ?_
  try simp only [Act.put, List.setIfInBounds_toArray, List.set_cons_zero, List.set_cons_succ]
  obtain ⟨r, hr⟩ : ∃ r, s1 % 6 = r := ⟨_, rfl⟩
  have hr6 : r < 6 := by rw [← hr]; exact Nat.mod_lt _ (by omega)
  rw [hr]
  clear hr
  have hiF : i < F.length := by rw [HFN.out]; exact hin
  have hinI : (i : Int) < (n : Int) := by omega
  rcases (show r = 5 ∨ r = 0 ∨ r = 1 ∨ r = 2 ∨ r = 3 ∨ r = 4 by omega) with rfl | rfl | rfl | rfl | rfl | rfl
  · skip
    have HFZ := Lib.hid HF0.out.at_
    have HBZ := Lib.hid (HB1.out.trans (HB0.out.mono HB1.out.size))
    have HLZ := Lib.hid (show (F).length < 1000000 by rw [HFN.out]; omega)
    go_wp2_with fail
    refine known_any.mono ?_
    rintro e Wk ⟨rfl, hb⟩
    have HFZ := Lib.hid (HFZ.out.below hb)
    have HBZ := Lib.hid (HBZ.out.trans (hb.mono HBZ.out.size))
    clear hb
    go_wp2_with fail
    refine (Check_any _ _ HFZ.out HLZ.out).mono ?_
    rintro e Wc ⟨rfl, hb⟩
    have HFZ := Lib.hid (HFZ.out.below hb)
    have HBZ := Lib.hid (HBZ.out.trans (hb.mono HBZ.out.size))
    clear hb
    obtain ⟨cr, hcr⟩ : ∃ cr, checkP (F) = cr := ⟨_, rfl⟩
    rw [hcr]
    go_wp2_with fail
    refine (check_any _ _ HFZ.out HLZ.out).mono ?_
    rintro e Wd ⟨rfl, hb⟩
    have HBZ := Lib.hid (HBZ.out.trans (hb.mono HBZ.out.size))
    rw [hcr]
    clear hb hcr
    go_wp2_with fail
    exact bodyPost_ret (v := .bool true) (by simp [results, Try.results7, go_sem]) rfl ⟨rfl, HBZ.out⟩
  · have hsz : (Try.prog.info? 3).map (·.size) = some 1 := by kernel_rfl
    go_wp2_with (refine wpList_setC rfl rfl 3 (.tmp 37) (.tmp 35) rfl HF0.out i hiF 32 (by decide) (.int .i64 ((m0 : Int) - 2)) (F[i].wRow ((m0 : Int) - 2)) rfl rfl rfl hsz (enc_wRow _ _) ?_; refine Stop.on ?_)
    refine Stop.go ?_
    try simp only [Act.put, List.setIfInBounds_toArray, List.set_cons_zero, List.set_cons_succ]
    intro W9 x9 c9 s9
    try simp only [Act.put, List.setIfInBounds_toArray, List.set_cons_zero, List.set_cons_succ]
    have HF9 := Lib.hid x9
    have HB9 := Lib.hid (show Below w1.heap.size w1 W9 from HB0.out.trans (c9.below (fun k e => by have h1 := (HF0.out.lt (k := fg) rfl).1; have h2 := HSW.out; omega) HB0.out.size))
    clear x9 c9 s9 hsz
    have HFZ := Lib.hid HF9.out.at_
    have HBZ := Lib.hid (HB1.out.trans (HB9.out.mono HB1.out.size))
    have HLZ := Lib.hid (show (F.set i (F[i].wRow ((m0 : Int) - 2))).length < 1000000 by rw [List.length_set, HFN.out]; omega)
    go_wp2_with fail
    refine known_any.mono ?_
    rintro e Wk ⟨rfl, hb⟩
    have HFZ := Lib.hid (HFZ.out.below hb)
    have HBZ := Lib.hid (HBZ.out.trans (hb.mono HBZ.out.size))
    clear hb
    go_wp2_with fail
    refine (Check_any _ _ HFZ.out HLZ.out).mono ?_
    rintro e Wc ⟨rfl, hb⟩
    have HFZ := Lib.hid (HFZ.out.below hb)
    have HBZ := Lib.hid (HBZ.out.trans (hb.mono HBZ.out.size))
    clear hb
    obtain ⟨cr, hcr⟩ : ∃ cr, checkP (F.set i (F[i].wRow ((m0 : Int) - 2))) = cr := ⟨_, rfl⟩
    rw [hcr]
    go_wp2_with fail
    refine (check_any _ _ HFZ.out HLZ.out).mono ?_
    rintro e Wd ⟨rfl, hb⟩
    have HBZ := Lib.hid (HBZ.out.trans (hb.mono HBZ.out.size))
    rw [hcr]
    clear hb hcr
    go_wp2_with fail
    exact bodyPost_ret (v := .bool true) (by simp [results, Try.results7, go_sem]) rfl ⟨rfl, HBZ.out⟩
  · have hsz : (Try.prog.info? 3).map (·.size) = some 1 := by kernel_rfl
    go_wp2_with (refine wpList_setC rfl rfl 3 (.tmp 44) (.tmp 42) rfl HF0.out i hiF 33 (by decide) (.int .i64 ((m0 : Int) - 2)) (F[i].wPar ((m0 : Int) - 2)) rfl rfl rfl hsz (enc_wPar _ _) ?_; refine Stop.on ?_)
    refine Stop.go ?_
    try simp only [Act.put, List.setIfInBounds_toArray, List.set_cons_zero, List.set_cons_succ]
    intro W9 x9 c9 s9
    try simp only [Act.put, List.setIfInBounds_toArray, List.set_cons_zero, List.set_cons_succ]
    have HF9 := Lib.hid x9
    have HB9 := Lib.hid (show Below w1.heap.size w1 W9 from HB0.out.trans (c9.below (fun k e => by have h1 := (HF0.out.lt (k := fg) rfl).1; have h2 := HSW.out; omega) HB0.out.size))
    clear x9 c9 s9 hsz
    have HFZ := Lib.hid HF9.out.at_
    have HBZ := Lib.hid (HB1.out.trans (HB9.out.mono HB1.out.size))
    have HLZ := Lib.hid (show (F.set i (F[i].wPar ((m0 : Int) - 2))).length < 1000000 by rw [List.length_set, HFN.out]; omega)
    go_wp2_with fail
    refine known_any.mono ?_
    rintro e Wk ⟨rfl, hb⟩
    have HFZ := Lib.hid (HFZ.out.below hb)
    have HBZ := Lib.hid (HBZ.out.trans (hb.mono HBZ.out.size))
    clear hb
    go_wp2_with fail
    refine (Check_any _ _ HFZ.out HLZ.out).mono ?_
    rintro e Wc ⟨rfl, hb⟩
    have HFZ := Lib.hid (HFZ.out.below hb)
    have HBZ := Lib.hid (HBZ.out.trans (hb.mono HBZ.out.size))
    clear hb
    obtain ⟨cr, hcr⟩ : ∃ cr, checkP (F.set i (F[i].wPar ((m0 : Int) - 2))) = cr := ⟨_, rfl⟩
    rw [hcr]
    go_wp2_with fail
    refine (check_any _ _ HFZ.out HLZ.out).mono ?_
    rintro e Wd ⟨rfl, hb⟩
    have HBZ := Lib.hid (HBZ.out.trans (hb.mono HBZ.out.size))
    rw [hcr]
    clear hb hcr
    go_wp2_with fail
    exact bodyPost_ret (v := .bool true) (by simp [results, Try.results7, go_sem]) rfl ⟨rfl, HBZ.out⟩
  · have hsz : (Try.prog.info? 3).map (·.size) = some 1 := by kernel_rfl
    go_wp2_with (refine wpList_setC rfl rfl 3 (.tmp 51) (.tmp 49) rfl HF0.out i hiF 34 (by decide) (.int .i64 ((m0 : Int) - 2)) (F[i].wDep ((m0 : Int) - 2)) rfl rfl rfl hsz (enc_wDep _ _) ?_; refine Stop.on ?_)
    refine Stop.go ?_
    try simp only [Act.put, List.setIfInBounds_toArray, List.set_cons_zero, List.set_cons_succ]
    intro W9 x9 c9 s9
    try simp only [Act.put, List.setIfInBounds_toArray, List.set_cons_zero, List.set_cons_succ]
    have HF9 := Lib.hid x9
    have HB9 := Lib.hid (show Below w1.heap.size w1 W9 from HB0.out.trans (c9.below (fun k e => by have h1 := (HF0.out.lt (k := fg) rfl).1; have h2 := HSW.out; omega) HB0.out.size))
    clear x9 c9 s9 hsz
    have HFZ := Lib.hid HF9.out.at_
    have HBZ := Lib.hid (HB1.out.trans (HB9.out.mono HB1.out.size))
    have HLZ := Lib.hid (show (F.set i (F[i].wDep ((m0 : Int) - 2))).length < 1000000 by rw [List.length_set, HFN.out]; omega)
    go_wp2_with fail
    refine known_any.mono ?_
    rintro e Wk ⟨rfl, hb⟩
    have HFZ := Lib.hid (HFZ.out.below hb)
    have HBZ := Lib.hid (HBZ.out.trans (hb.mono HBZ.out.size))
    clear hb
    go_wp2_with fail
    refine (Check_any _ _ HFZ.out HLZ.out).mono ?_
    rintro e Wc ⟨rfl, hb⟩
    have HFZ := Lib.hid (HFZ.out.below hb)
    have HBZ := Lib.hid (HBZ.out.trans (hb.mono HBZ.out.size))
    clear hb
    obtain ⟨cr, hcr⟩ : ∃ cr, checkP (F.set i (F[i].wDep ((m0 : Int) - 2))) = cr := ⟨_, rfl⟩
    rw [hcr]
    go_wp2_with fail
    refine (check_any _ _ HFZ.out HLZ.out).mono ?_
    rintro e Wd ⟨rfl, hb⟩
    have HBZ := Lib.hid (HBZ.out.trans (hb.mono HBZ.out.size))
    rw [hcr]
    clear hb hcr
    go_wp2_with fail
    exact bodyPost_ret (v := .bool true) (by simp [results, Try.results7, go_sem]) rfl ⟨rfl, HBZ.out⟩
  · have hsz : (Try.prog.info? 35).map (·.size) = some (bvs z32.1).length := sizeId z32
    clear hsz
    go_wp2_with (refine wpList_runI rfl (some 62) rfl (.int .i64 ((s2 % n : Nat) : Int)) _ (exec_rem s2 n hN0 (.tmp 59) (.tmp 61) rfl rfl rfl) ?_; refine Stop.on ?_)
    refine Stop.go ?_
    try simp only [Act.put, List.setIfInBounds_toArray, List.set_cons_zero, List.set_cons_succ]
    obtain ⟨i2, hi2⟩ : ∃ i2, s2 % n = i2 := ⟨_, rfl⟩
    have hin2 : i2 < n := by rw [← hi2]; exact Nat.mod_lt _ hN0
    rw [hi2]
    clear hi2
    have hin2I : (i2 : Int) < (n : Int) := by omega
    obtain ⟨fg', fo', ef, hfg, hfr⟩ := HF0.out.at_.get (i := i2) (by rw [HFN.out]; exact hin2)
    cases ef
    obtain ⟨y, hy⟩ : ∃ y, (F[i2]'(by rw [HFN.out]; exact hin2)).id = y := ⟨_, rfl⟩
    have hyr : Wf.rangeAt fg (0 + i2 * 35) (bvs y.1) := by rw [← hy]; exact node_id hfr
    rw [Nat.zero_add] at hyr
    have HYR := Lib.hid hyr
    clear hyr hfr hfg hy
    go_wp2_with (with_reducible refine wpList_load_mid rfl 35 (.tmp 64) rfl fg (i2 * 35) rfl (bvs y.1) _ HYR.out Try.underlying35 rfl (sizeId y) ?_; refine Stop.on ?_)
    refine Stop.go ?_
    try simp only [Act.put, List.setIfInBounds_toArray, List.set_cons_zero, List.set_cons_succ]
    go_wp2_with (refine wpList_setK rfl rfl 35 (.tmp 67) (.tmp 65) rfl HF0.out i hiF 0 (bvs y.1) (by rw [bvs_length, y.2]; decide) (F[i].wId y) rfl rfl (fun v hv => bvs_oneCell v hv) (sizeId y) (enc_wId _ _) ?_; refine Stop.on ?_)
    refine Stop.go ?_
    try simp only [Act.put, List.setIfInBounds_toArray, List.set_cons_zero, List.set_cons_succ]
    intro W9 x9 c9 s9
    try simp only [Act.put, List.setIfInBounds_toArray, List.set_cons_zero, List.set_cons_succ]
    have HF9 := Lib.hid x9
    have HB9 := Lib.hid (show Below w1.heap.size w1 W9 from HB0.out.trans (c9.below (fun k e => by have h1 := (HF0.out.lt (k := fg) rfl).1; have h2 := HSW.out; omega) HB0.out.size))
    clear x9 c9 s9
    have HFZ := Lib.hid HF9.out.at_
    have HBZ := Lib.hid (HB1.out.trans (HB9.out.mono HB1.out.size))
    have HLZ := Lib.hid (show (F.set i (F[i].wId y)).length < 1000000 by rw [List.length_set, HFN.out]; omega)
    go_wp2_with fail
    refine known_any.mono ?_
    rintro e Wk ⟨rfl, hb⟩
    have HFZ := Lib.hid (HFZ.out.below hb)
    have HBZ := Lib.hid (HBZ.out.trans (hb.mono HBZ.out.size))
    clear hb
    go_wp2_with fail
    refine (Check_any _ _ HFZ.out HLZ.out).mono ?_
    rintro e Wc ⟨rfl, hb⟩
    have HFZ := Lib.hid (HFZ.out.below hb)
    have HBZ := Lib.hid (HBZ.out.trans (hb.mono HBZ.out.size))
    clear hb
    obtain ⟨cr, hcr⟩ : ∃ cr, checkP (F.set i (F[i].wId y)) = cr := ⟨_, rfl⟩
    rw [hcr]
    go_wp2_with fail
    refine (check_any _ _ HFZ.out HLZ.out).mono ?_
    rintro e Wd ⟨rfl, hb⟩
    have HBZ := Lib.hid (HBZ.out.trans (hb.mono HBZ.out.size))
    rw [hcr]
    clear hb hcr
    go_wp2_with fail
    exact bodyPost_ret (v := .bool true) (by simp [results, Try.results7, go_sem]) rfl ⟨rfl, HBZ.out⟩
  · obtain ⟨dv, hdv, hdl⟩ := from_N (k := i + 1) ⟨Wf, HF0.out.at_⟩ (by omega)
    have hcut := cut_N (some ⟨fg, 0, none⟩) n fc i (by omega) (fun e => by cases e)
    have HCT := Lib.hid (HF0.out.cut (k := i) (by omega))
    have HDR := Lib.hid (hdl Wf HF0.out.at_)
    have hdv2 : ∀ w, (Instr.sliceAt 25 (.slice (some ⟨fg, 0, none⟩) n fc) (some (.int .i64 ((i : Int) + 1))) none none).run Try.prog w = .ok dv w := fun w => hdv w
    clear hdv
    have hii : IntKind.i64.wrap ((i : Int) + 1) = (i : Int) + 1 := IntWalk.i64_in _ (by omega)
    have HTK := Lib.hid (show (F.take i).length = i by rw [List.length_take, HFN.out]; omega)
    have HDL := Lib.hid (show (F.drop (i + 1)).length = n - (i + 1) by rw [List.length_drop, HFN.out])
    clear hdl
    go_wp2_with fail
    refine wp_region_noPanic ?_
    refine wp_region_H (Below w1.heap.size w1) (by kernel_rfl) ?_
    have hS0 : (Below w1.heap.size w1) Wf.drew := HB0.out.trans ((Below.refl Wf.heap.size Wf).drew.mono HB0.out.size)
    have hCt := HCT.out.below (Below.refl Wf.heap.size Wf).drew
    have hDr := HDR.out.below (Below.refl Wf.heap.size Wf).drew
    obtain ⟨wd, hwd⟩ : ∃ wd, Wf.drew = wd := ⟨_, rfl⟩
    rw [hwd] at hS0 hCt hDr ⊢
    clear hwd
    refine wpAnyH_takeI (i := 0) (v := ?v1) rfl (by kernel_rfl) (by kernel_rfl) (by kernel_rfl) (fun _ _ _ h => h) (yieldsIf_run rfl (fun w' hw' => ?y1)) hS0 ?_
    case y1 => first | (go_simp; rfl) | (go_simp; done) | rfl
    simp only [Act.put, List.setIfInBounds_toArray, List.set_cons_zero, List.set_cons_succ]
    refine wpAnyH_takeI (i := 1) (v := ?v2) rfl (by kernel_rfl) (by kernel_rfl) (by kernel_rfl) (fun _ _ _ h => h) (yieldsIf_run rfl (fun w' hw' => ?y2)) hS0 ?_
    case y2 => first | (go_simp; rfl) | (go_simp; done) | rfl
    simp only [Act.put, List.setIfInBounds_toArray, List.set_cons_zero, List.set_cons_succ]
    refine wpAnyH_takeI (i := 2) (v := .slice (some ⟨fg, 0, none⟩) i fc) rfl (by kernel_rfl) (by kernel_rfl) (by kernel_rfl) (fun _ _ _ h => h) (yieldsIf_run rfl (fun w' hw' => ?y3)) hS0 ?_
    case y3 => first | (go_simp; rfl) | (go_simp; done) | rfl
    simp only [Act.put, List.setIfInBounds_toArray, List.set_cons_zero, List.set_cons_succ]
    refine wpAnyH_takeI (i := 3) (v := ?v4) rfl (by kernel_rfl) (by kernel_rfl) (by kernel_rfl) (fun _ _ _ h => h) (yieldsIf_run rfl (fun w' hw' => ?y4)) hS0 ?_
    case y4 => first | (go_simp; rfl) | (go_simp; done) | rfl
    simp only [Act.put, List.setIfInBounds_toArray, List.set_cons_zero, List.set_cons_succ]
    refine wpAnyH_takeI (i := 4) (v := ?v5) rfl (by kernel_rfl) (by kernel_rfl) (by kernel_rfl) (fun _ _ _ h => h) (yieldsIf_run rfl (fun w' hw' => ?y5)) hS0 ?_
    case y5 => first | (go_simp; rfl) | (go_simp; done) | rfl
    simp only [Act.put, List.setIfInBounds_toArray, List.set_cons_zero, List.set_cons_succ]
    refine wpAnyH_takeI (i := 5) (v := .int .i64 ((i : Int) + 1)) rfl (by kernel_rfl) (by kernel_rfl) (by kernel_rfl) (fun _ _ _ h => h) (yieldsIf_run rfl (fun w' hw' => ?y6)) hS0 ?_
    case y6 => first | (go_simp; rfl) | (go_simp; done) | rfl
    simp only [Act.put, List.setIfInBounds_toArray, List.set_cons_zero, List.set_cons_succ]
    refine wpAnyH_takeI (i := 6) (v := dv) rfl (by kernel_rfl) (by kernel_rfl) (by kernel_rfl) (fun _ _ _ h => h) (yieldsIf_run rfl (fun w' hw' => ?y7)) hS0 ?_
    case y7 => first | (go_simp; rfl) | (go_simp; done) | rfl
    simp only [Act.put, List.setIfInBounds_toArray, List.set_cons_zero, List.set_cons_succ]
    refine wpAnyH_do (i := 7) (by kernel_rfl) rfl rfl (fun K hK => ?_)
    refine wp_appL nodeE (.tmp 72) (.tmp 76) rfl rfl hCt rfl hDr (n := i) (m := n - (i + 1)) HTK.out HDL.out (by omega) (by have h1 := (hCt.lt (k := fg) rfl); omega) ?_
    intro a9 c9 W9 hO9 hg9 ha9
    obtain ⟨nn, hnn⟩ : ∃ nn, i + (n - (i + 1)) = nn := ⟨_, rfl⟩
    rw [hnn] at hO9 ha9 ⊢
    have HNN := Lib.hid (show nn = n - 1 by omega)
    clear hnn
    have hs9 := hS0.trans ((hCt.grown_below hg9 (by have h1 := (hCt.lt (k := fg) rfl); omega)).mono HSW.out)
    refine hK _ _ (hs9) ?_
    clear hK K
    try simp only [Act.put, List.setIfInBounds_toArray, List.set_cons_zero, List.set_cons_succ]
    refine wpAnyH_takeI (i := 8) (v := ?v8) rfl (by kernel_rfl) (by kernel_rfl) (by kernel_rfl) (fun _ _ _ h => h) (yieldsIf_run rfl (fun w' hw' => ?y8)) hs9 ?_
    case y8 => first | (go_simp; rfl) | (go_simp; done) | rfl
    simp only [Act.put, List.setIfInBounds_toArray, List.set_cons_zero, List.set_cons_succ]
    refine wpAnyH_done (by kernel_rfl) ?_ _
    refine NoPanic.normal ?_
    have HF9 := Lib.hid hO9
    have HB9 := Lib.hid hs9
    clear hO9 hg9 ha9 hs9 hCt hDr hS0 hcut hdv2 hii
    have HFZ := Lib.hid HF9.out.at_
    have HBZ := Lib.hid (HB1.out.trans (HB9.out.mono HB1.out.size))
    have HLZ := Lib.hid (show (F.take i ++ F.drop (i + 1)).length < 1000000 by rw [List.length_append, HTK.out, HDL.out]; omega)
    go_wp2_with fail
    refine known_any.mono ?_
    rintro e Wk ⟨rfl, hb⟩
    have HFZ := Lib.hid (HFZ.out.below hb)
    have HBZ := Lib.hid (HBZ.out.trans (hb.mono HBZ.out.size))
    clear hb
    go_wp2_with fail
    refine (Check_any _ _ HFZ.out HLZ.out).mono ?_
    rintro e Wc ⟨rfl, hb⟩
    have HFZ := Lib.hid (HFZ.out.below hb)
    have HBZ := Lib.hid (HBZ.out.trans (hb.mono HBZ.out.size))
    clear hb
    obtain ⟨cr, hcr⟩ : ∃ cr, checkP (F.take i ++ F.drop (i + 1)) = cr := ⟨_, rfl⟩
    rw [hcr]
    go_wp2_with fail
    refine (check_any _ _ HFZ.out HLZ.out).mono ?_
    rintro e Wd ⟨rfl, hb⟩
    have HBZ := Lib.hid (HBZ.out.trans (hb.mono HBZ.out.size))
    rw [hcr]
    clear hb hcr
    go_wp2_with fail
    exact bodyPost_ret (v := .bool true) (by simp [results, Try.results7, go_sem]) rfl ⟨rfl, HBZ.out⟩
end Go.Proofs.Ythfinofmbnfijaa
