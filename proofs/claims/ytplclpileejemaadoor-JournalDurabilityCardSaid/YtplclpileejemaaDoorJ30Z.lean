/- The laws' helpers: fits, step, Fates. -/
import Derived.Test.YtplclpileejemaaDoorJ29Z
namespace Go.Proofs.YtplclpileejemaaDoor
open Go.RowKit
set_option linter.unusedVariables false
set_option linter.unusedSimpArgs false

def fitsB (L : List JOp) : Bool := L.all (fun o => decide (o.cs.length ≤ 100)) && decide (L.length ≤ 30)
set_option maxRecDepth 100000 in
set_option maxHeartbeats 2000000 in
theorem fits_any {w : World} {a : Option Addr} {cap : Nat} {L : List JOp} (h : JOpsAt w (.slice a L.length cap) L) : Calls Tryd.prog 22 #[.slice a L.length cap] w fun e w' => e = .returned (.bool (fitsB L)) ∧ Below w.heap.size w w' := by
  obtain ⟨m, hm⟩ : ∃ m, L.length = m := ⟨_, rfl⟩
  have HO := Lib.hid h
  have hmm : m ≤ 9223372036854775807 := by
    obtain ⟨a', c', e, h1, h2, _⟩ := h
    unfold maxLen at h2
    omega
  rw [hm] at HO ⊢
  have HM := Lib.hid hm
  obtain ⟨r, hr⟩ : ∃ r, fitsB L = r := ⟨_, rfl⟩
  have HR := Lib.hid hr
  rw [hr]
  have HP0 := Lib.hid (show ∀ j (hj : j < L.length), j < 0 → L[j].cs.length ≤ 100 from fun j _ h => absurd h (by omega))
  clear hr hm h
  go_enter Tryd.func22, Tryd.ntmps22
  go_wp2_with fail
  go_loopw [3] (fun iv wr => ∃ (i : Nat), i ≤ m ∧ iv = .int .i64 (i : Int) ∧ wr = w ∧ Hid (∀ j (hj : j < L.length), j < i → L[j].cs.length ≤ 100)) (fun iv _ => m - (intOf iv).toNat)
  case atStart => exact ⟨0, Nat.zero_le _, rfl, rfl, HP0⟩
  case round =>
    obtain ⟨i, hi, rfl, rfl, HPR⟩ := hrel
    clear HP0
    by_cases hlt : i < m
    case neg =>
      obtain rfl : m = i := by omega
      have HRE := Lib.hid (show r = decide (m ≤ 30) by
        rw [← HR.out]
        unfold fitsB
        rw [List.all_eq_true.2 (fun o ho => by
          obtain ⟨j, hj, rfl⟩ := List.getElem_of_mem ho
          exact decide_eq_true (HPR.out j hj (by have := HM.out; omega))), HM.out]
        rfl)
      go_wp2_with fail
      go_ret
      exact ⟨by rw [HRE.out]; first | rfl | exact congrArg (fun q => Ending.returned (.bool q)) (decide_eq_decide.2 (by omega)), Below.refl _ _⟩
    have hiI : (i : Int) < (m : Int) := by omega
    have hiL : i < L.length := by rw [HM.out]; exact hlt
    obtain ⟨g, off, e9, hg, k0, k1, k2, k3, hat⟩ := HO.out.get hiL
    subst e9
    obtain ⟨o, ho⟩ : ∃ o, L[i] = o := ⟨_, rfl⟩
    rw [ho] at k3 hat
    have HOE := Lib.hid ho
    have hcl := hat.len
    obtain ⟨cn, hcn⟩ : ∃ cn, o.cs.length = cn := ⟨_, rfl⟩
    rw [hcn] at k3 hcl
    have HCN := Lib.hid hcn
    obtain ⟨ca, hca⟩ : ∃ ca, o.a = ca := ⟨_, rfl⟩
    obtain ⟨cp, hcp⟩ : ∃ cp, o.cap = cp := ⟨_, rfl⟩
    rw [hca, hcp] at k3
    clear k0 k1 k2 hat ho hcn hca hcp
    by_cases hbig : 100 < cn
    · have hbI : (100 : Int) < (cn : Int) := by omega
      have HRE := Lib.hid (show r = false by
        rw [← HR.out]
        unfold fitsB
        rw [Bool.and_eq_false_iff]
        refine .inl (List.all_eq_false.2 ⟨o, ?_, ?_⟩)
        · rw [← HOE.out]; exact List.getElem_mem _
        · rw [HCN.out]; simp; omega)
      go_wp2_with fail
      go_ret
      exact ⟨by rw [HRE.out]; rfl, Below.refl _ _⟩
    · have hbI : ¬ (100 : Int) < (cn : Int) := by omega
      have HPS := Lib.hid (show ∀ j (hj : j < L.length), j < i + 1 → L[j].cs.length ≤ 100 from fun j hj h1 => by
        by_cases h2 : j < i
        · exact HPR.out j hj h2
        · obtain rfl : j = i := by omega
          rw [HOE.out, HCN.out]; omega)
      go_wp2_with fail
      go_roundw
      case rel => exact ⟨i + 1, by omega, by go_num, by first | rfl | trivial, HPS⟩
      case measure => simp [intOf] <;> omega
/-- One step of a law. -/
def stepJ (S : DS) (R : JR) (J : JD) (o : JOp) : DS × JD × Int :=
  if o.kind % 3 = 0 then ((appJ S R J (lawB o.n o.b)).1, (appJ S R J (lawB o.n o.b)).2.1, (appJ S R J (lawB o.n o.b)).2.2.1)
  else if o.kind % 3 = 1 then synJ S J else trnJ S R J ((J.first : Int) + ((o.n % 12 : Nat) : Int) - 2)
set_option maxRecDepth 100000 in
set_option maxHeartbeats 2000000 in
theorem step_any {w W : World} {U : Nat → Prop} {b g : Nat} {S : DS} {R : JR} {J : JD} (h : JAll w W U b g S R J) (hU : ∀ k, U k → k < W.heap.size) (hK : KAt w) (hn : Num S R J) (o : JOp) (hkd : o.kind < 256) (hon : o.n < 65536) :
    Calls Tryd.prog 23 #[.pointer (some ⟨g, 0, none⟩), .agg o.cells.toArray] W fun e W' => e = .returned (.int .i64 (stepJ S R J o).2.2) ∧ JAll w W' (fun k => U k ∨ W.heap.size ≤ k) b g (stepJ S R J o).1 R (stepJ S R J o).2.1 ∧ Chg U W W' := by
  obtain ⟨w1, hw1⟩ : ∃ w1, W.alloc (.cells o.cells.toArray 48) = w1 := ⟨_, rfl⟩
  have hb1 : Below W.heap.size W w1 := hw1 ▸ (Below.refl _ _).alloc (Nat.le_refl _) _
  have hx1 : w1.heap[W.heap.size]? = some (.cells o.cells.toArray 48 (0, 0)) := by rw [← hw1]; exact heap_alloc_new _ _
  have HB1 := Lib.hid hb1
  have HW1 := Lib.hid hw1
  obtain ⟨B, hB⟩ : ∃ B, W.heap.size = B := ⟨_, rfl⟩
  rw [hB] at hx1 hU
  have HQ := Lib.hid hB
  have hBlt := (Array.getElem?_eq_some_iff.1 hx1).1
  obtain ⟨kd, hkdE⟩ : ∃ kd, o.kind = kd := ⟨_, rfl⟩
  obtain ⟨n, hnE⟩ : ∃ n, o.n = n := ⟨_, rfl⟩
  obtain ⟨bt, hbE⟩ : ∃ bt, o.b = bt := ⟨_, rfl⟩
  have HZ := Lib.hid (show stepJ S R J o = if kd % 3 = 0 then ((appJ S R J (lawB n bt)).1, (appJ S R J (lawB n bt)).2.1, (appJ S R J (lawB n bt)).2.2.1)
  else if kd % 3 = 1 then synJ S J else trnJ S R J ((J.first : Int) + ((n % 12 : Nat) : Int) - 2) by unfold stepJ; rw [hkdE, hnE, hbE])
  obtain ⟨cs3, hcs3⟩ : ∃ cs3, Value.slice o.a o.cs.length o.cap = cs3 := ⟨_, rfl⟩
  have hcells : o.cells = [.int .u8 (kd : Int), .int .u16 (n : Int), .int .u8 (bt.toNat : Int), .slice o.a o.cs.length o.cap] := by unfold JOp.cells; rw [hkdE, hnE, hbE]
  rw [hkdE] at hkd
  rw [hnE] at hon
  rw [hcells] at hx1 HW1 ⊢
  have HBY := Lib.hid (fun V : World => bytes_any (w := V) n hon bt)
  have HLL := Lib.hid (show (lawB n bt).length ≤ 100000000 by rw [lawB_length]; omega)
  obtain ⟨btn, hbtn⟩ : ∃ btn, bt.toNat = btn := ⟨_, rfl⟩
  rw [hbtn] at HBY hx1 HW1 ⊢
  have HLC := Lib.hid (show ∀ w', Chg U w1 w' → w'.cell? ⟨B, 0, none⟩ = some (.int .u8 (kd : Int)) ∧ w'.cell? ⟨B, 1, none⟩ = some (.int .u16 (n : Int)) ∧ w'.cell? ⟨B, 2, none⟩ = some (.int .u8 (btn : Int)) from fun w' hw' => by
    have h1 := (hw'.block B hBlt (fun e => by have := hU B e; omega)).trans hx1
    refine ⟨?_, ?_, ?_⟩ <;> rw [cell_of_row _ _ _ _ _ _ h1] <;> rfl)
  have HJ1 := Lib.hid (h.step hb1)
  have HWL := Lib.hid (show ∀ k, U k ∨ W.heap.size ≤ k → w.heap.size ≤ k from fun k hk => hk.elim (h.lo k) (fun h2 => Nat.le_trans h.below.size h2))
  have HUU := Lib.hid hU
  have HK := Lib.hid hK
  have HN := Lib.hid hn
  have HS1 := Lib.hid (show B < w1.heap.size from hBlt)
  obtain ⟨z, hz⟩ : ∃ z, stepJ S R J o = z := ⟨_, rfl⟩
  rw [hz] at HZ ⊢
  obtain ⟨oa, hoa⟩ : ∃ oa, o.a = oa := ⟨_, rfl⟩
  obtain ⟨ol, hol⟩ : ∃ ol, o.cs.length = ol := ⟨_, rfl⟩
  obtain ⟨oc, hoc⟩ : ∃ oc, o.cap = oc := ⟨_, rfl⟩
  rw [hoa, hol, hoc] at HW1 ⊢
  obtain ⟨k0, k1, k2⟩ := HLC.out w1 (Chg.refl _ _)
  have hkI : (kd : Int) % 3 = ((kd % 3 : Nat) : Int) := by omega
  clear hz hoa hol hoc hcells hcs3 cs3 hw1 hb1 hx1 hB hkdE hnE hbE hbtn h hK hn hBlt hU
  rcases (show kd % 3 = 0 ∨ kd % 3 = 1 ∨ kd % 3 = 2 by omega) with hk | hk | hk
  · rw [hk] at hkI
    have hkI : (kd : Int) % 3 = 0 := hkI
    have HZE := Lib.hid (show z = ((appJ S R J (lawB n bt)).1, (appJ S R J (lawB n bt)).2.1, (appJ S R J (lawB n bt)).2.2.1) by rw [HZ.out, if_pos hk])
    go_enter Tryd.func23, Tryd.ntmps23
    go_wp2_with fail
    rw [HW1.out, HQ.out]
    refine (HBY.out w1).mono ?_
    rintro e V1 ⟨ba, bc, rfl, hbv, hb⟩
    have HJ2 := Lib.hid (HJ1.out.step hb)
    have HBV := Lib.hid (hbv.weak (G := fun k => w1.heap.size ≤ k) (fun k _ h => h))
    have HBB := Lib.hid hb
    clear hbv hb
    go_wp2_with fail
    refine (App_all HJ2.out HK.out HN.out HBV.out (fun k _ h1 h2 => by have := HUU.out k h2; have := HS1.out; omega) HLL.out).mono ?_
    rintro e V2 ⟨rfl, hj, hc⟩
    have HJ3 := Lib.hid hj
    have HC3 := Lib.hid hc
    obtain ⟨y, hy⟩ : ∃ y, appJ S R J (lawB n bt) = y := ⟨_, rfl⟩
    rw [hy] at HJ3 HZE ⊢
    clear hj hc hy
    go_wp2_with fail
    exact bodyPost_ret (v := .int .i64 y.2.2.1) (by simp [results, Tryd.results23, go_sem]) rfl ⟨by rw [HZE.out], by rw [HZE.out]; exact HJ3.out.wide (fun k h => h.elim .inl (fun h2 => .inr (Nat.le_trans HB1.out.size (Nat.le_trans HBB.out.size h2)))) HWL.out, (Chg.of_below (F := U) HB1.out).trans ((Chg.of_below (F := U) HBB.out).trans HC3.out (fun k e => .inl e)) (fun k e => .inl e)⟩
  · rw [hk] at hkI
    have hkI : (kd : Int) % 3 = 1 := hkI
    have HZE := Lib.hid (show z = synJ S J by rw [HZ.out, if_neg (by omega), if_pos hk])
    go_enter Tryd.func23, Tryd.ntmps23
    go_wp2_with fail
    rw [HW1.out, HQ.out]
    refine (Syn_all HJ1.out HN.out).mono ?_
    rintro e V2 ⟨rfl, hj, hc⟩
    have HJ3 := Lib.hid hj
    have HC3 := Lib.hid hc
    obtain ⟨y, hy⟩ : ∃ y, synJ S J = y := ⟨_, rfl⟩
    rw [hy] at HJ3 HZE ⊢
    clear hj hc hy
    go_wp2_with fail
    exact bodyPost_ret (v := .int .i64 y.2.2) (by simp [results, Tryd.results23, go_sem]) rfl ⟨by rw [HZE.out], by rw [HZE.out]; exact HJ3.out.wide (fun k h => h.elim .inl (fun h2 => .inr (Nat.le_trans HB1.out.size h2))) HWL.out, (Chg.of_below (F := U) HB1.out).trans HC3.out (fun k e => .inl e)⟩
  · rw [hk] at hkI
    have hkI : (kd : Int) % 3 = 2 := hkI
    have HZE := Lib.hid (show z = trnJ S R J ((J.first : Int) + (n : Int) % 12 - 2) by rw [HZ.out, if_neg (by omega), if_neg (by omega), show ((n % 12 : Nat) : Int) = (n : Int) % 12 by omega])
    have hfb : J.first ≤ 2147483640 := by have := HN.out.nx; omega
    obtain ⟨fi, hfi⟩ : ∃ fi, J.first = fi := ⟨_, rfl⟩
    have HFI := Lib.hid hfi
    rw [hfi] at hfb HZE
    clear hfi
    go_enter Tryd.func23, Tryd.ntmps23
    go_wp2_with fail
    rw [HW1.out, HQ.out]
    refine wp_region_noPanic ?_
    refine wp_region_H (Chg U w1) (by kernel_rfl) ?_
    have hS0 : (Chg U w1) w1.drew := Chg.of_below ((Below.refl _ _).drew)
    obtain ⟨wd, hwd⟩ : ∃ wd, w1.drew = wd := ⟨_, rfl⟩
    rw [hwd] at hS0 ⊢
    have hd0 : Below w1.heap.size w1 wd := hwd ▸ (Below.refl _ _).drew
    clear hwd
    refine wpAnyH_takeI (i := 0) (v := ?v1) rfl (by kernel_rfl) (by kernel_rfl) (by kernel_rfl) (fun _ _ _ h => h) (yieldsIf_run rfl (fun w' hw' => ?y1)) hS0 ?_
    case y1 => first | (go_simp; rfl) | (go_simp; done) | rfl
    simp only [Act.put, List.setIfInBounds_toArray, List.set_cons_zero, List.set_cons_succ]
    refine wpAnyH_takeI (i := 1) (v := ?v2) rfl (by kernel_rfl) (by kernel_rfl) (by kernel_rfl) (fun _ _ _ h => h) (yieldsIf_run rfl (fun w' hw' => ?y2)) hS0 ?_
    case y2 => first | (go_simp; rfl) | (go_simp; done) | rfl
    simp only [Act.put, List.setIfInBounds_toArray, List.set_cons_zero, List.set_cons_succ]
    refine wpAnyH_takeI (i := 3) (v := ?v3) rfl (by kernel_rfl) (by kernel_rfl) (by kernel_rfl) (fun _ _ _ h => h) (yieldsIf_run rfl (fun w' hw' => ?y3)) hS0 ?_
    case y3 => first | (go_simp; rfl) | (go_simp; done) | rfl
    simp only [Act.put, List.setIfInBounds_toArray, List.set_cons_zero, List.set_cons_succ]
    refine wpAnyH_takeI (i := 4) (v := ?v4) rfl (by kernel_rfl) (by kernel_rfl) (by kernel_rfl) (fun _ _ _ h => h) (yieldsIf_run rfl (fun w' hw' => ?y4)) hS0 ?_
    case y4 => (obtain ⟨h0, h1, h2⟩ := HLC.out w' hw'; clear hw'; first | (go_simp; rfl) | (go_simp; done))
    simp only [Act.put, List.setIfInBounds_toArray, List.set_cons_zero, List.set_cons_succ]
    refine wpAnyH_takeI (i := 5) (v := .int .u16 ((n : Int) % 12)) rfl (by kernel_rfl) (by kernel_rfl) (by kernel_rfl) (fun _ _ _ h => h) (yieldsIf_run rfl (fun w' hw' => ?y5)) hS0 ?_
    case y5 => first | (go_simp; rfl) | (go_simp; done) | rfl
    simp only [Act.put, List.setIfInBounds_toArray, List.set_cons_zero, List.set_cons_succ]
    refine wpAnyH_takeI (i := 6) (v := .int .i64 ((n : Int) % 12)) rfl (by kernel_rfl) (by kernel_rfl) (by kernel_rfl) (fun _ _ _ h => h) (yieldsIf_run rfl (fun w' hw' => ?y6)) hS0 ?_
    case y6 => (have hwr : IntKind.i64.wrap ((n : Int) % 12) = (n : Int) % 12 := IntWalk.i64_in _ (by omega); clear hw'; first | (go_simp; rfl) | (go_simp; done))
    simp only [Act.put, List.setIfInBounds_toArray, List.set_cons_zero, List.set_cons_succ]
    refine wpAnyH_do (i := 2) (by kernel_rfl) rfl rfl (fun K hK => ?_)
    go_simp
    go_at_call 21
    refine (First_all (HJ1.out.step hd0)).mono ?_
    rintro e V2 ⟨rfl, hb2⟩
    rw [HFI.out]
    have hb02 := hd0.trans (hb2.mono hd0.size)
    have hs2 := Chg.of_below (F := U) hb02
    refine hK _ _ (hs2) ?_
    clear hK K
    try simp only [Act.put, List.setIfInBounds_toArray, List.set_cons_zero, List.set_cons_succ]
    refine wpAnyH_takeI (i := 7) (v := .int .i64 ((fi : Int) + (n : Int) % 12)) rfl (by kernel_rfl) (by kernel_rfl) (by kernel_rfl) (fun _ _ _ h => h) (yieldsIf_run rfl (fun w' hw' => ?y7)) hs2 ?_
    case y7 => (have hwr : IntKind.i64.wrap ((fi : Int) + (n : Int) % 12) = (fi : Int) + (n : Int) % 12 := IntWalk.i64_in _ (by omega); clear hw'; first | (go_simp; rfl) | (go_simp; done))
    simp only [Act.put, List.setIfInBounds_toArray, List.set_cons_zero, List.set_cons_succ]
    refine wpAnyH_takeI (i := 8) (v := .int .i64 ((fi : Int) + (n : Int) % 12 - 2)) rfl (by kernel_rfl) (by kernel_rfl) (by kernel_rfl) (fun _ _ _ h => h) (yieldsIf_run rfl (fun w' hw' => ?y8)) hs2 ?_
    case y8 => (have hwr : IntKind.i64.wrap ((fi : Int) + (n : Int) % 12 - 2) = (fi : Int) + (n : Int) % 12 - 2 := IntWalk.i64_in _ (by omega); clear hw'; first | (go_simp; rfl) | (go_simp; done))
    simp only [Act.put, List.setIfInBounds_toArray, List.set_cons_zero, List.set_cons_succ]
    refine wpAnyH_do (i := 9) (by kernel_rfl) rfl rfl (fun K hK => ?_)
    go_simp
    go_at_call 20
    refine (Trn_all (HJ1.out.step hb02) HK.out HN.out _).mono ?_
    rintro e V3 ⟨rfl, hj3, hc3⟩
    have hs3 := hs2.trans hc3 (fun k e => .inl e)
    refine hK _ _ (hs3) ?_
    clear hK K
    try simp only [Act.put, List.setIfInBounds_toArray, List.set_cons_zero, List.set_cons_succ]
    refine wpAnyH_takeI (i := 10) (v := ?v9) rfl (by kernel_rfl) (by kernel_rfl) (by kernel_rfl) (fun _ _ _ h => h) (yieldsIf_run rfl (fun w' hw' => ?y9)) hs3 ?_
    case y9 => first | (go_simp; rfl) | (go_simp; done) | rfl
    simp only [Act.put, List.setIfInBounds_toArray, List.set_cons_zero, List.set_cons_succ]
    refine wpAnyH_done (by kernel_rfl) ?_ _
    refine NoPanic.normal ?_
    have HJ3 := Lib.hid hj3
    have HC3 := Lib.hid hs3
    obtain ⟨y, hy⟩ : ∃ y, trnJ S R J ((fi : Int) + (n : Int) % 12 - 2) = y := ⟨_, rfl⟩
    rw [hy] at HJ3 HZE ⊢
    have HB02 := Lib.hid hb02
    clear hj3 hc3 hs3 hs2 hb02 hb2 hd0 hS0 hy
    go_wp2_with fail
    exact bodyPost_ret (v := .int .i64 y.2.2) (by simp [results, Tryd.results23, go_sem]) rfl ⟨by rw [HZE.out], by rw [HZE.out]; exact HJ3.out.wide (fun k h => h.elim .inl (fun h2 => .inr (Nat.le_trans HB1.out.size (Nat.le_trans HB02.out.size h2)))) HWL.out, (Chg.of_below (F := U) HB1.out).trans HC3.out (fun k e => .inl e)⟩
end Go.Proofs.YtplclpileejemaaDoor
