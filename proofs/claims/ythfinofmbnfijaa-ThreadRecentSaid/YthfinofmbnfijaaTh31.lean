/- Walks in a forest: the program's and the model's. -/
import Derived.Test.YthfinofmbnfijaaTp17
import Derived.Test.YthfinofmbnfijaaTh30
import Derived.Shelf.Slices.Reverse
namespace Go.Proofs
set_option linter.unusedVariables false
set_option linter.unusedSimpArgs false
def Ythfinofmbnfijaa.lays112_ren : Go.Shelf.Ren := ⟨fun | 112 => 52 | n => n, fun | 28 => 71 | 3 => 3 | 4 => 4 | 0 => 0 | n => n, fun | n => n⟩
theorem Ythfinofmbnfijaa.lays112 : Go.Proofs.Lays.n112 Try.prog Ythfinofmbnfijaa.lays112_ren := {
  mixed := by kernel_rfl
  f112 := Try.func52.trans (congrArg some (by kernel_rfl))
  t0 := Try.underlying0
  a0 := Try.isAgg0
  z0 := Try.sizeOf0
  v0 := Try.zeroValue0
  t3 := Try.underlying3
  a3 := Try.isAgg3
  z3 := Try.sizeOf3
  v3 := Try.zeroValue3
  t4 := Try.underlying4
  a4 := Try.isAgg4
  z4 := Try.sizeOf4
  v4 := Try.zeroValue4
  t28 := Try.underlying71
  a28 := Try.isAgg71
  z28 := Try.sizeOf71
  v28 := Try.zeroValue71 }
end Go.Proofs
namespace Go.Proofs.Ythfinofmbnfijaa
open Go.Shelf Go.RowKit Go.Lib Go.Sort
set_option linter.unusedVariables false
set_option linter.unusedSimpArgs false
theorem node_at {w : World} {a : Option Addr} {n c : Nat} {F : List NodeV} (h : ListAt nodeE w (.slice a n c) F) {i : Nat} (hi : i < F.length) : ∃ g o, a = some ⟨g, o, none⟩ ∧ ∀ w', Below w.heap.size w w' → w'.cell? ⟨g, o + i * 35 + 32, none⟩ = some (.int .i64 F[i].row) ∧ w'.cell? ⟨g, o + i * 35 + 33, none⟩ = some (.int .i64 F[i].parent) ∧ w'.cell? ⟨g, o + i * 35 + 34, none⟩ = some (.int .i64 F[i].depth) ∧ w'.rangeAt g (o + i * 35) (bvs F[i].id.1) ∧ w'.rangeAt g (o + i * 35) F[i].cells := by
  obtain ⟨g, o, e, hg, hr⟩ := h.get hi
  refine ⟨g, o, e, fun w' hw' => ?_⟩
  have h1 : w'.rangeAt g (o + i * 35) F[i].cells := range_below (show w.rangeAt g (o + i * 35) F[i].cells from hr) hg hw'
  obtain ⟨m1, m2, m3⟩ := node_mid h1
  exact ⟨m1, m2, m3, node_id h1, h1⟩
set_option maxRecDepth 100000 in
set_option maxHeartbeats 2000000 in
theorem within_any {w : World} (v : Value) (F : List NodeV) (hv : ListAt nodeE w v F) (hc : checkP F = 0) (hl : F.length < 1000000) (i t : Nat) (hi : i < F.length) (ht : t < 1000000) : Calls Try.prog 34 #[v, .int .i64 (i : Int), .int .i64 (t : Int)] w fun e w' => e = .returned (.bool (decide (t ∈ chn F i))) ∧ w = w' := by
  obtain ⟨va, vc, rfl⟩ := hv.form
  obtain ⟨N, hN⟩ : ∃ N, F.length = N := ⟨_, rfl⟩
  have HN := Lib.hid hN
  rw [hN] at hv hl hi ⊢
  obtain ⟨R, hR⟩ : ∃ R, decide (t ∈ chn F i) = R := ⟨_, rfl⟩
  rw [hR]
  have HR0 := Lib.hid (show R = true ↔ ∃ j : Nat, (i : Int) = (j : Int) ∧ t ∈ chn F j by
    rw [← hR, decide_eq_true_eq]
    constructor
    · exact fun h => ⟨i, rfl, h⟩
    · rintro ⟨j, e, h⟩
      obtain rfl : i = j := by omega
      exact h)
  have HV := Lib.hid hv
  have HC := Lib.hid hc
  clear hv hc hR hN
  go_enter Try.func34, Try.ntmps34
  go_wp2_with fail
  go_loop [1] (fun iv => ∃ z : Int, -1 ≤ z ∧ z < (N : Int) ∧ iv = .int .i64 z ∧ Hid (R = true ↔ ∃ j : Nat, z = (j : Int) ∧ t ∈ chn F j)) (fun iv => (intOf iv + 1).toNat)
  case atStart => exact ⟨(i : Int), by omega, by omega, rfl, HR0⟩
  case round =>
    obtain ⟨z, hz1, hz2, rfl, HR⟩ := hrel
    clear HR0
    by_cases hz0 : 0 ≤ z
    case neg =>
      obtain rfl : z = -1 := by omega
      have hRf : R = false := by
        cases R with
        | false => rfl
        | true =>
          obtain ⟨j, e, _⟩ := HR.out.1 rfl
          omega
      subst hRf
      have hd1 : ((-1 : Int) == (t : Int)) = false := by simp <;> omega
      go_wp2_with fail
      exact bodyPost_ret (v := .bool false) (by simp [results, Try.results34, go_sem]) rfl ⟨rfl, rfl⟩
    obtain ⟨m, rfl⟩ : ∃ m : Nat, z = (m : Int) := ⟨z.toNat, by omega⟩
    have hmF : m < F.length := by rw [HN.out]; omega
    have hz0d : decide (0 ≤ (m : Int)) = true := decide_eq_true hz0
    by_cases hmt : m = t
    case pos =>
      subst hmt
      have hRt : R = true := HR.out.2 ⟨m, rfl, chn_self F m⟩
      subst hRt
      have hd1 : ((m : Int) == (m : Int)) = true := by simp
      have hd2 : ((m : Int) != (m : Int)) = false := by simp
      go_wp2_with fail
      exact bodyPost_ret (v := .bool true) (by simp [results, Try.results34, go_sem]) rfl ⟨rfl, rfl⟩
    have hd2 : ((m : Int) != (t : Int)) = true := by simp; omega
    have hd1 : ((m : Int) == (t : Int)) = false := by simp; omega
    obtain ⟨g, o, eg, hcell⟩ := node_at HV.out hmF
    subst eg
    obtain ⟨p, hp⟩ : ∃ p, F[m].parent = p := ⟨_, rfl⟩
    have hpc := (hcell w (Below.refl _ _)).2.1
    rw [hp] at hpc
    have hck := chk_all HC.out m hmF
    have hb1 := hck.par
    have hb2 := hck.lt
    rw [hp] at hb1 hb2
    have HRN := Lib.hid (show R = true ↔ ∃ j : Nat, p = (j : Int) ∧ t ∈ chn F j by
      rw [HR.out]
      refine ⟨?_, ?_⟩
      · rintro ⟨j, e, hj⟩
        obtain rfl : m = j := by omega
        rw [chn_step HC.out hmF, hp] at hj
        rcases List.mem_cons.1 hj with e | hj
        · exact absurd e.symm hmt
        · by_cases hp1 : p = -1
          · rw [if_pos hp1] at hj; cases hj
          · rw [if_neg hp1] at hj
            exact ⟨p.toNat, by omega, hj⟩
      · rintro ⟨j, e, hj⟩
        refine ⟨m, rfl, ?_⟩
        rw [chn_step HC.out hmF, hp, if_neg (by omega), e, Int.toNat_natCast]
        exact List.mem_cons_of_mem _ hj)
    clear hcell hp hck
    go_wp2_with fail
    go_round
    case rel => exact ⟨p, by omega, by omega, rfl, HRN⟩
    case measure => simp [intOf] <;> omega
set_option maxRecDepth 100000 in
set_option maxHeartbeats 2000000 in
theorem numbers_any {w : World} (v u : Value) (A B : List Nat) (hv : ListAt natE w v A) (hu : ListAt natE w u B) (hl : A.length < 1000000) (hl2 : B.length < 1000000) : Calls Try.prog 35 #[v, u] w fun e w' => e = .returned (.bool (decide (A = B))) ∧ Below w.heap.size w w' := by
  obtain ⟨va, vc, rfl⟩ := hv.form
  obtain ⟨ua, uc, rfl⟩ := hu.form
  by_cases hlm : A.length = B.length
  case neg =>
    have hb : ((A.length : Int) != (B.length : Int)) = true := by simp; omega
    have HF := Lib.hid (show ¬ A = B from fun e => hlm (by rw [e]))
    clear hlm
    go_enter Try.func35, Try.ntmps35
    go_wp2
    rw [decide_eq_false HF.out]
    exact bodyPost_ret (v := .bool false) (by simp [results, Try.results35, go_sem]) rfl ⟨rfl, Below.refl _ _⟩
  obtain ⟨N, hN⟩ : ∃ N, A.length = N := ⟨_, rfl⟩
  have hNM : B.length = N := by rw [← hN, hlm]
  rw [hN] at hv hl ⊢
  rw [hNM] at hu hl2 ⊢
  have HA := Lib.hid hN
  have HBn := Lib.hid hNM
  have HV := Lib.hid hv
  have HU := Lib.hid hu
  have hnn : ((N : Int) != (N : Int)) = false := by simp
  clear hv hu hlm hN hNM
  go_enter Try.func35, Try.ntmps35
  go_wp2_with fail
  have HB0 := Lib.hid (Below.refl w.heap.size w)
  have HE0 := Lib.hid (show A.take 0 = B.take 0 by rw [List.take_zero, List.take_zero])
  go_loopw [5] (fun iv wr => ∃ i : Nat, i ≤ N ∧ iv = .int .i64 (i : Int) ∧ Hid (A.take i = B.take i) ∧ Hid (Below w.heap.size w wr)) (fun iv _ => N - (intOf iv).toNat)
  case atStart => exact ⟨0, Nat.zero_le _, rfl, HE0, HB0⟩
  case round =>
    obtain ⟨i, hi, rfl, HE, HB⟩ := hrel
    obtain ⟨W0, rfl⟩ : ∃ W0, W0 = wr := ⟨_, rfl⟩
    clear HB0 HE0
    by_cases hlt : i < N
    case neg =>
      obtain rfl : i = N := by omega
      have HF := Lib.hid (show A = B by
        have h := HE.out
        rwa [List.take_of_length_le (by rw [HA.out]; exact Nat.le_refl _), List.take_of_length_le (by rw [HBn.out]; exact Nat.le_refl _)] at h)
      go_wp2_with fail
      rw [decide_eq_true HF.out]
      exact bodyPost_ret (v := .bool true) (by simp [results, Try.results35, go_sem]) rfl ⟨rfl, HB.out⟩
    have hiI : (i : Int) < (N : Int) := by omega
    have hiA : i < A.length := by rw [HA.out]; exact hlt
    have hiB : i < B.length := by rw [HBn.out]; exact hlt
    obtain ⟨g1, o1, e1, hg1, hr1⟩ := (HV.out.below HB.out).get hiA
    subst e1
    obtain ⟨g2, o2, e2, hg2, hr2⟩ := (HU.out.below HB.out).get hiB
    subst e2
    have hc1 : W0.cell? ⟨g1, o1 + i * 1 + 0, none⟩ = some (.int .i64 ((A[i] : Nat) : Int)) := hr1 0 _ rfl
    have hc2 : W0.cell? ⟨g2, o2 + i * 1 + 0, none⟩ = some (.int .i64 ((B[i] : Nat) : Int)) := hr2 0 _ rfl
    rw [Nat.mul_one, Nat.add_zero] at hc1 hc2
    obtain ⟨x, hx⟩ : ∃ x, A[i] = x := ⟨_, rfl⟩
    obtain ⟨y, hy⟩ : ∃ y, B[i] = y := ⟨_, rfl⟩
    rw [hx] at hc1
    rw [hy] at hc2
    have HCC := Lib.hid (show ∀ w', Below W0.heap.size W0 w' → w'.cell? ⟨g1, o1 + i, none⟩ = some (.int .i64 (x : Int)) ∧ w'.cell? ⟨g2, o2 + i, none⟩ = some (.int .i64 (y : Int)) from fun w' hw' => ⟨(hw'.cell (p := ⟨g1, o1 + i, none⟩) hg1).trans hc1, (hw'.cell (p := ⟨g2, o2 + i, none⟩) hg2).trans hc2⟩)
    have HX := Lib.hid hx
    have HY := Lib.hid hy
    clear hr1 hr2 hg1 hg2 hc1 hc2 hx hy
    go_wp2_with fail
    refine wp_region_seq 8 (by kernel_rfl) (by kernel_rfl) ?_
    simp only [List.take_succ_cons, List.take_zero, List.drop_succ_cons, List.drop_zero]
    obtain ⟨wd, hwd⟩ : ∃ wd, W0.drew = wd := ⟨_, rfl⟩
    have hd_wd : Below W0.heap.size W0 wd ∧ wd.heap.size = W0.heap.size := hwd ▸ ⟨(Below.refl _ _).drew, rfl⟩
    rw [hwd]
    clear hwd
    obtain ⟨c1, c2⟩ := HCC.out wd hd_wd.1
    have HBd := Lib.hid (HB.out.trans (hd_wd.1.mono HB.out.size))
    clear hd_wd
    by_cases hxy : x = y
    case neg =>
      have hd : ((x : Int) != (y : Int)) = true := by simp; omega
      have HF := Lib.hid (show ¬ A = B from fun e => hxy (by rw [← HX.out, ← HY.out]; simp only [e]))
      go_wp2_with fail
      refine HeadPost.mk ?_
      go_wp2_with fail
      rw [decide_eq_false HF.out]
      exact bodyPost_ret (v := .bool false) (by simp [results, Try.results35, go_sem]) rfl ⟨rfl, HBd.out⟩
    subst hxy
    have hd : ((x : Int) != (x : Int)) = false := by simp
    have HEN := Lib.hid (show A.take (i + 1) = B.take (i + 1) by rw [List.take_succ_eq_append_getElem hiA, List.take_succ_eq_append_getElem hiB, HE.out, HX.out, HY.out])
    go_wp2_with fail
    refine HeadPost.mk ?_
    go_wp2_with fail
    go_roundw
    case rel => exact ⟨i + 1, by omega, by go_num, HEN, HBd⟩
    case measure => simp [intOf] <;> omega
def NatsPost (w : World) (R : List Nat) (e : Ending) (w' : World) : Prop := ∃ v', e = .returned v' ∧ OwnL natE w' w.heap.size v' R ∧ Below w.heap.size w w'
set_option maxRecDepth 100000 in
set_option maxHeartbeats 2000000 in
theorem below_any {w : World} (v : Value) (F : List NodeV) (hv : ListAt nodeE w v F) (hl : F.length < 1000000) (p : Int) (hp : -1 ≤ p) (hpl : p < 1000000) : Calls Try.prog 51 #[v, .int .i64 p] w (NatsPost w (belowL F p F.length)) := by
  obtain ⟨va, vc, rfl⟩ := hv.form
  obtain ⟨N, hN⟩ : ∃ N, F.length = N := ⟨_, rfl⟩
  have HN := Lib.hid hN
  rw [hN] at hv hl ⊢
  have HV := Lib.hid hv
  clear hv hN
  go_enter Try.func51, Try.ntmps51
  go_wp2_with fail
  have HB0 := Lib.hid (Below.refl w.heap.size w)
  have HO0 := Lib.hid (show OwnL natE w w.heap.size (.slice none 0 0) (belowL F p 0) from ownL_nil natE w w.heap.size)
  go_loopw [5, 10] (fun ov iv wr => ∃ (i : Nat) (oa : Option Addr) (on oc : Nat), i ≤ N ∧ on ≤ i ∧ iv = .int .i64 (i : Int) ∧ ov = .slice oa on oc ∧ Hid (OwnL natE wr w.heap.size (.slice oa on oc) (belowL F p i)) ∧ Hid (Below w.heap.size w wr)) (fun _ iv _ => N - (intOf iv).toNat)
  case atStart => exact ⟨0, none, 0, 0, Nat.zero_le _, Nat.zero_le _, rfl, rfl, HO0, HB0⟩
  case round =>
    obtain ⟨i, oa, on, oc, hi, hon, rfl, rfl, HO, HB⟩ := hrel
    obtain ⟨W0, rfl⟩ : ∃ W0, W0 = wr := ⟨_, rfl⟩
    clear HB0 HO0
    by_cases hlt : i < N
    case neg =>
      obtain rfl : i = N := by omega
      go_wp2_with fail
      exact bodyPost_ret (v := .slice oa on oc) (by simp [results, Try.results51, go_sem]) rfl ⟨_, rfl, HO.out, HB.out⟩
    have hiI : (i : Int) < (N : Int) := by omega
    have hiF : i < F.length := by rw [HN.out]; exact hlt
    obtain ⟨g, o, eg, hcell⟩ := node_at (HV.out.below HB.out) hiF
    subst eg
    obtain ⟨n, hn⟩ : ∃ n, F[i] = n := ⟨_, rfl⟩
    have hr := (hcell W0 (Below.refl _ _)).2.2.2.2
    rw [hn] at hr
    have HRR := Lib.hid hr
    have HPA := Lib.hid (show parA F i = n.parent by rw [parA_at hiF, hn])
    have HNX := Lib.hid (belowL_next F p i)
    have HLEN := Lib.hid (show (belowL F p i).length = on by obtain ⟨a', c', e⟩ := HO.out.form; cases e; rfl)
    clear hcell hr hn
    go_wp2_with (with_reducible refine wpList_load_mid rfl 37 (.tmp 13) rfl g (o + i * 35) rfl n.cells _ HRR.out Try.underlying37 rfl (sizeNode n) ?_; refine Stop.on ?_)
    refine Stop.go ?_
    try simp only [Act.put, List.setIfInBounds_toArray, List.set_cons_zero, List.set_cons_succ]
    go_wp2_with (refine wpList_newV rfl (some 7) rfl 37 rfl (NodeV.cells ⟨z32, 0, 0, 0⟩).toArray 35 (by kernel_rfl) ?_; refine Stop.on ?_)
    refine Stop.go ?_
    try simp only [Act.put, List.setIfInBounds_toArray, List.set_cons_zero, List.set_cons_succ]
    intro wn xn bi sn
    try simp only [Act.put, List.setIfInBounds_toArray, List.set_cons_zero, List.set_cons_succ]
    go_wp2_with (refine wpList_putV rfl rfl 37 (.tmp 7) (.tmp 14) rfl _ (n.cells).toArray rfl rfl 37 _ xn (sizeNodeA n) (zsNode n) (oneNode n) ?_; refine Stop.on ?_)
    refine Stop.go ?_
    try simp only [Act.put, List.setIfInBounds_toArray, List.set_cons_zero, List.set_cons_succ]
    intro W2 xi ci si
    try simp only [Act.put, List.setIfInBounds_toArray, List.set_cons_zero, List.set_cons_succ]
    clear xn
    obtain ⟨B6, hB6⟩ : ∃ B6, W0.heap.size = B6 := ⟨_, rfl⟩
    rw [hB6] at xi ⊢
    have hb2 : Below W0.heap.size W0 W2 := bi.trans (ci.below (B := W0.heap.size) (fun k e => by omega) bi.size)
    have hm := (node_mid (range_block (cs := n.cells) xi)).2.1
    simp only [Nat.zero_add] at hm
    have HO2 := Lib.hid (HO.out.below hb2)
    have HB2 := Lib.hid (HB.out.trans (hb2.mono HB.out.size))
    obtain ⟨q, hq⟩ : ∃ q, n.parent = q := ⟨_, rfl⟩
    rw [hq] at hm
    have HQ := Lib.hid hq
    clear xi bi ci si sn hb2 hB6 hq
    by_cases hqp : q = p
    case neg =>
      have hd : (q == p) = false := by simp [hqp]
      have HON := Lib.hid (show OwnL natE W2 w.heap.size (.slice oa on oc) (belowL F p (i + 1)) by rw [HNX.out, HPA.out, HQ.out, if_neg hqp]; exact HO2.out)
      go_wp2_with fail
      go_roundw
      case rel => exact ⟨i + 1, oa, on, oc, by omega, by omega, by go_num, rfl, HON, HB2⟩
      case measure => simp [intOf] <;> omega
    subst hqp
    have hd : (q == q) = true := by simp
    go_wp2_with (refine wpList_litN rfl (some 21) rfl (.tmp 20) rfl i rfl ?_; refine Stop.on ?_)
    refine Stop.go ?_
    try simp only [Act.put, List.setIfInBounds_toArray, List.set_cons_zero, List.set_cons_succ]
    intro Wl xl bl sl
    try simp only [Act.put, List.setIfInBounds_toArray, List.set_cons_zero, List.set_cons_succ]
    have HLL := Lib.hid xl.at_
    have HOl := Lib.hid (HO2.out.below bl)
    have HBl := Lib.hid (HB2.out.trans (bl.mono HB2.out.size))
    clear xl bl sl
    go_wp2_with (refine wpList_appL natE rfl (.tmp 19) (.tmp 21) rfl rfl HOl.out rfl HLL.out (n := on) (m := 1) HLEN.out rfl (by omega) HBl.out.size ?_; refine Stop.on ?_)
    refine Stop.go ?_
    try simp only [Act.put, List.setIfInBounds_toArray, List.set_cons_zero, List.set_cons_succ]
    intro a5 c5 W5 ho5 hg5 hat5
    try simp only [Act.put, List.setIfInBounds_toArray, List.set_cons_zero, List.set_cons_succ]
    have HON := Lib.hid (show OwnL natE W5 w.heap.size (.slice a5 (on + 1) c5) (belowL F q (i + 1)) by rw [HNX.out, HPA.out, HQ.out, if_pos rfl]; exact ho5)
    have HBN := Lib.hid (HBl.out.trans (HOl.out.grown_below hg5 HBl.out.size))
    clear ho5 hg5 hat5
    go_wp2_with fail
    go_roundw
    case rel => exact ⟨i + 1, a5, on + 1, c5, by omega, by omega, by go_num, rfl, HON, HBN⟩
    case measure => simp [intOf] <;> omega
set_option maxRecDepth 100000 in
set_option maxHeartbeats 2000000 in
theorem Roots_any {w : World} (v : Value) (F : List NodeV) (hv : ListAt nodeE w v F) (hl : F.length < 1000000) : Calls Try.prog 36 #[v] w (NatsPost w (belowL F (-1) F.length)) := by
  have HV := Lib.hid hv
  have HL := Lib.hid hl
  clear hv hl
  go_enter Try.func36, Try.ntmps36
  go_wp2_with fail
  refine (below_any v F HV.out HL.out (-1) (by omega) (by omega)).mono ?_
  rintro e W1 ⟨v', rfl, ho, hb⟩
  have HO := Lib.hid ho
  have HB := Lib.hid hb
  clear ho hb
  go_wp2_with fail
  exact bodyPost_ret (v := v') (by simp [results, Try.results36, go_sem]) rfl ⟨_, rfl, HO.out, HB.out⟩
/-- Is a place one of a list's? -/
def inL (n : Nat) (a : Int) : Bool := decide (0 ≤ a ∧ a < (n : Int))
theorem inL_out {n : Nat} {a : Int} (h : inL n a = false) : a < 0 ∨ (0 ≤ a ∧ (n : Int) ≤ a) := by
  have := of_decide_eq_false h
  omega
set_option maxRecDepth 100000 in
set_option maxHeartbeats 2000000 in
theorem Children_any {w : World} (v : Value) (F : List NodeV) (hv : ListAt nodeE w v F) (hl : F.length < 1000000) (a : Int) : Calls Try.prog 37 #[v, .int .i64 a] w (NatsPost w (if inL F.length a then belowL F a F.length else [])) := by
  obtain ⟨va, vc, rfl⟩ := hv.form
  obtain ⟨N, hN⟩ : ∃ N, F.length = N := ⟨_, rfl⟩
  have HN := Lib.hid hN
  have HL := Lib.hid hl
  have HV := Lib.hid (show ListAt nodeE w (.slice va N vc) F by rw [← hN]; exact hv)
  rw [hN] at hl ⊢
  clear hv hN
  cases hin : inL N a with
  | false =>
    rw [if_neg (by simp)]
    have HO := Lib.hid (ownL_nil natE w w.heap.size)
    rcases inL_out hin with h | ⟨h1, h2⟩
    · have hd : decide (a < 0) = true := decide_eq_true h
      clear hin
      go_enter Try.func37, Try.ntmps37
      go_wp2_with fail
      exact bodyPost_ret (v := .slice none 0 0) (by simp [results, Try.results37, go_sem]) rfl ⟨_, rfl, HO.out, Below.refl _ _⟩
    · have hd : decide (a < 0) = false := decide_eq_false (by omega)
      have hd2 : decide ((N : Int) ≤ a) = true := decide_eq_true h2
      clear hin
      go_enter Try.func37, Try.ntmps37
      go_wp2_with fail
      exact bodyPost_ret (v := .slice none 0 0) (by simp [results, Try.results37, go_sem]) rfl ⟨_, rfl, HO.out, Below.refl _ _⟩
  | true =>
    rw [if_pos rfl]
    have hr := of_decide_eq_true hin
    have hd : decide (a < 0) = false := decide_eq_false (by omega)
    have hd2 : decide ((N : Int) ≤ a) = false := decide_eq_false (by omega)
    clear hin
    go_enter Try.func37, Try.ntmps37
    go_wp2_with fail
    refine (below_any _ F HV.out HL.out a (by omega) (by omega)).mono ?_
    rintro e W1 ⟨v', rfl, ho, hb⟩
    rw [HN.out] at ho
    have HO := Lib.hid ho
    have HB := Lib.hid hb
    clear ho hb
    go_wp2_with fail
    exact bodyPost_ret (v := v') (by simp [results, Try.results37, go_sem]) rfl ⟨_, rfl, HO.out, HB.out⟩
def EndPost (w : World) (F : List NodeV) (a : Int) (e : Ending) (w' : World) : Prop := Below w.heap.size w w' ∧ ((inL F.length a = false ∧ e = .returned (.int .i64 0)) ∨ ∃ k n : Nat, a = (k : Int) ∧ k < F.length ∧ EndAt F k n ∧ e = .returned (.int .i64 (n : Int)))
set_option maxRecDepth 100000 in
set_option maxHeartbeats 2000000 in
theorem End_any {w : World} (v : Value) (F : List NodeV) (hv : ListAt nodeE w v F) (hl : F.length < 1000000) (a : Int) : Calls Try.prog 39 #[v, .int .i64 a] w (EndPost w F a) := by
  obtain ⟨va, vc, rfl⟩ := hv.form
  obtain ⟨N, hN⟩ : ∃ N, F.length = N := ⟨_, rfl⟩
  have HN := Lib.hid hN
  have HV := Lib.hid (show ListAt nodeE w (.slice va N vc) F by rw [← hN]; exact hv)
  rw [hN] at hl ⊢
  clear hv hN
  cases hin : inL N a with
  | false =>
    have HIN := Lib.hid (show inL F.length a = false by rw [HN.out]; exact hin)
    rcases inL_out hin with h | ⟨h1, h2⟩
    · have hd : decide (a < 0) = true := decide_eq_true h
      clear hin
      go_enter Try.func39, Try.ntmps39
      go_wp2_with fail
      exact bodyPost_ret (v := .int .i64 0) (by simp [results, Try.results39, go_sem]) rfl ⟨Below.refl _ _, .inl ⟨HIN.out, rfl⟩⟩
    · have hd : decide (a < 0) = false := decide_eq_false (by omega)
      have hd2 : decide ((N : Int) ≤ a) = true := decide_eq_true h2
      clear hin
      go_enter Try.func39, Try.ntmps39
      go_wp2_with fail
      exact bodyPost_ret (v := .int .i64 0) (by simp [results, Try.results39, go_sem]) rfl ⟨Below.refl _ _, .inl ⟨HIN.out, rfl⟩⟩
  | true =>
    have hr := of_decide_eq_true hin
    obtain ⟨k, rfl⟩ : ∃ k : Nat, a = (k : Int) := ⟨a.toNat, by omega⟩
    have hkN : k < N := by omega
    have hkF : k < F.length := by rw [HN.out]; exact hkN
    have hd : decide ((k : Int) < 0) = false := decide_eq_false (by omega)
    have hd2 : decide ((N : Int) ≤ (k : Int)) = false := decide_eq_false (by omega)
    have HD0 := Lib.hid (show ∀ j (hj : j < F.length), k < j → j < k + 1 → F[k].depth < F[j].depth from fun j _ h1 h2 => by omega)
    have HB0 := Lib.hid (Below.refl w.heap.size w)
    clear hin hr
    go_enter Try.func39, Try.ntmps39
    go_wp2_with fail
    go_loopw [5] (fun ev wr => ∃ n : Nat, k < n ∧ n ≤ N ∧ ev = .int .i64 (n : Int) ∧ Hid (∀ j (hj : j < F.length), k < j → j < n → F[k].depth < F[j].depth) ∧ Hid (Below w.heap.size w wr)) (fun ev _ => N - (intOf ev).toNat)
    case atStart => exact ⟨k + 1, by omega, by omega, by go_num, HD0, HB0⟩
    case round =>
      obtain ⟨n, hkn, hnN, rfl, HD, HB⟩ := hrel
      obtain ⟨W0, rfl⟩ : ∃ W0, W0 = wr := ⟨_, rfl⟩
      clear HD0 HB0
      obtain ⟨g, o, eg, hck⟩ := node_at (HV.out.below HB.out) hkF
      subst eg
      obtain ⟨d0, hd0⟩ : ∃ d, F[k].depth = d := ⟨_, rfl⟩
      by_cases hlt : n < N
      case neg =>
        obtain rfl : n = N := by omega
        have HE := Lib.hid (show EndAt F k n from ⟨hkn, by rw [HN.out]; exact Nat.le_refl _, fun j hj _ h1 h2 => HD.out j hj h1 h2, fun he _ => by rw [HN.out] at he; omega⟩)
        have hnd : decide ((n : Int) < (n : Int)) = false := by simp
        clear hck hd0
        go_wp2_with fail
        refine wp_region_seq 16 (by kernel_rfl) (by kernel_rfl) ?_
        simp only [List.take_succ_cons, List.take_zero, List.drop_succ_cons, List.drop_zero]
        obtain ⟨wd, hwd⟩ : ∃ wd, W0.drew = wd := ⟨_, rfl⟩
        have hd_wd : Below W0.heap.size W0 wd ∧ wd.heap.size = W0.heap.size := hwd ▸ ⟨(Below.refl _ _).drew, rfl⟩
        rw [hwd]
        clear hwd
        have HBd := Lib.hid (HB.out.trans (hd_wd.1.mono HB.out.size))
        clear hd_wd
        go_wp2_with fail
        refine HeadPost.mk ?_
        go_wp2_with fail
        exact bodyPost_ret (v := .int .i64 (n : Int)) (by simp [results, Try.results39, go_sem]) rfl ⟨HBd.out, .inr ⟨k, n, rfl, hkF, HE.out, rfl⟩⟩
      have hnF : n < F.length := by rw [HN.out]; exact hlt
      have hnI : (n : Int) < (N : Int) := by omega
      have hnd : decide ((n : Int) < (N : Int)) = true := decide_eq_true hnI
      have hkI : (k : Int) < (N : Int) := by omega
      obtain ⟨g', o', eg', hcn⟩ := node_at (HV.out.below HB.out) hnF
      cases eg'
      obtain ⟨d1, hd1⟩ : ∃ d, F[n].depth = d := ⟨_, rfl⟩
      have HCC := Lib.hid (show ∀ w', Below W0.heap.size W0 w' → w'.cell? ⟨g, o + k * 35 + 34, none⟩ = some (.int .i64 d0) ∧ w'.cell? ⟨g, o + n * 35 + 34, none⟩ = some (.int .i64 d1) from fun w' hw' => ⟨hd0 ▸ (hck w' hw').2.2.1, hd1 ▸ (hcn w' hw').2.2.1⟩)
      have HD0 := Lib.hid hd0
      have HD1 := Lib.hid hd1
      clear hck hcn hd0 hd1
      go_wp2_with fail
      refine wp_region_seq 16 (by kernel_rfl) (by kernel_rfl) ?_
      simp only [List.take_succ_cons, List.take_zero, List.drop_succ_cons, List.drop_zero]
      obtain ⟨wd, hwd⟩ : ∃ wd, W0.drew = wd := ⟨_, rfl⟩
      have hd_wd : Below W0.heap.size W0 wd ∧ wd.heap.size = W0.heap.size := hwd ▸ ⟨(Below.refl _ _).drew, rfl⟩
      rw [hwd]
      clear hwd
      obtain ⟨c1, c2⟩ := HCC.out wd hd_wd.1
      have HBd := Lib.hid (HB.out.trans (hd_wd.1.mono HB.out.size))
      clear hd_wd
      by_cases hdd : d0 < d1
      case neg =>
        have hdd2 : decide (d0 < d1) = false := decide_eq_false hdd
        have HE := Lib.hid (show EndAt F k n from ⟨hkn, by rw [HN.out]; exact hnN, fun j hj _ h1 h2 => HD.out j hj h1 h2, fun he _ => by rw [HD0.out, HD1.out]; exact hdd⟩)
        go_wp2_with fail
        refine HeadPost.mk ?_
        go_wp2_with fail
        exact bodyPost_ret (v := .int .i64 (n : Int)) (by simp [results, Try.results39, go_sem]) rfl ⟨HBd.out, .inr ⟨k, n, rfl, hkF, HE.out, rfl⟩⟩
      have hdd2 : decide (d0 < d1) = true := decide_eq_true hdd
      have HDN := Lib.hid (show ∀ j (hj : j < F.length), k < j → j < n + 1 → F[k].depth < F[j].depth from fun j hj h1 h2 => by
        by_cases e : j = n
        · subst e
          rw [HD0.out, HD1.out]
          exact hdd
        · exact HD.out j hj h1 (by omega))
      go_wp2_with fail
      refine HeadPost.mk ?_
      go_wp2_with fail
      go_roundw
      case rel => exact ⟨n + 1, by omega, by omega, by go_num, HDN, HBd⟩
      case measure => simp [intOf] <;> omega
def FindPost (w : World) (F : List NodeV) (x : IdB) (e : Ending) (w' : World) : Prop := Below w.heap.size w w' ∧ (((∀ n ∈ F, n.id ≠ x) ∧ e = .returned (.tuple #[.int .i64 0, .bool false])) ∨ ∃ (k : Nat) (hk : k < F.length), F[k].id = x ∧ (∀ j (hj : j < F.length), j < k → F[j].id ≠ x) ∧ e = .returned (.tuple #[.int .i64 (k : Int), .bool true]))
set_option maxRecDepth 100000 in
set_option maxHeartbeats 2000000 in
theorem Find_any {w : World} (v : Value) (F : List NodeV) (hv : ListAt nodeE w v F) (hl : F.length < 1000000) (x : IdB) : Calls Try.prog 27 #[v, idv x] w (FindPost w F x) := by
  obtain ⟨va, vc, rfl⟩ := hv.form
  obtain ⟨N, hN⟩ : ∃ N, F.length = N := ⟨_, rfl⟩
  have HN := Lib.hid hN
  rw [hN] at hv hl ⊢
  obtain ⟨w1, hw1⟩ : ∃ w1, w.alloc (.cells (bvs x.1).toArray 35) = w1 := ⟨_, rfl⟩
  have hb1 : Below w.heap.size w w1 := hw1 ▸ (Below.refl _ w).alloc (Nat.le_refl _) _
  have hx1 : w1.heap[w.heap.size]? = some (.cells (bvs x.1).toArray 35 (0, 0)) := by rw [← hw1]; exact heap_alloc_new _ _
  have HV := Lib.hid (hv.below hb1)
  have HB1 := Lib.hid hb1
  have HX1 := Lib.hid hx1
  clear hv hN hb1 hx1
  unfold idv
  go_enter Try.func27, Try.ntmps27
  go_wp2_with fail
  have HR1 := Lib.hid (Below.refl w1.heap.size w1)
  have HE0 := Lib.hid (show ∀ j (hj : j < F.length), j < 0 → F[j].id ≠ x from fun j _ h => absurd h (Nat.not_lt_zero j))
  go_loopw [10] (fun iv wr => ∃ i : Nat, i ≤ N ∧ iv = .int .i64 (i : Int) ∧ Hid (∀ j (hj : j < F.length), j < i → F[j].id ≠ x) ∧ Hid (Below w1.heap.size w1 wr)) (fun iv _ => N - (intOf iv).toNat)
  case atStart => exact ⟨0, Nat.zero_le _, rfl, HE0, HR1⟩
  case round =>
    obtain ⟨i, hi, rfl, HE, HB⟩ := hrel
    obtain ⟨W0, rfl⟩ : ∃ W0, W0 = wr := ⟨_, rfl⟩
    clear HR1 HE0
    by_cases hlt : i < N
    case neg =>
      obtain rfl : i = N := by omega
      have HF := Lib.hid (show ∀ n ∈ F, n.id ≠ x from fun n hn => by
        obtain ⟨j, hj, rfl⟩ := List.mem_iff_getElem.1 hn
        exact HE.out j hj (by rw [← HN.out]; exact hj))
      have HBE := Lib.hid (HB1.out.trans (HB.out.mono HB1.out.size))
      go_wp2_with fail
      exact bodyPost_ret (v := .tuple #[.int .i64 0, .bool false]) (by simp [results, Try.results27, go_sem]) rfl ⟨HBE.out, .inl ⟨HF.out, rfl⟩⟩
    have hiI : (i : Int) < (N : Int) := by omega
    have hiF : i < F.length := by rw [HN.out]; exact hlt
    obtain ⟨g, o, eg, hcell⟩ := node_at (HV.out.below HB.out) hiF
    subst eg
    obtain ⟨n, hn⟩ : ∃ n, F[i] = n := ⟨_, rfl⟩
    have hr := (hcell W0 (Below.refl _ _)).2.2.2.2
    rw [hn] at hr
    have HRR := Lib.hid hr
    have HNI := Lib.hid hn
    clear hcell hr hn
    go_wp2_with (with_reducible refine wpList_load_mid rfl 37 (.tmp 13) rfl g (o + i * 35) rfl n.cells _ HRR.out Try.underlying37 rfl (sizeNode n) ?_; refine Stop.on ?_)
    refine Stop.go ?_
    try simp only [Act.put, List.setIfInBounds_toArray, List.set_cons_zero, List.set_cons_succ]
    go_wp2_with (refine wpList_newV rfl (some 7) rfl 37 rfl (NodeV.cells ⟨z32, 0, 0, 0⟩).toArray 35 (by kernel_rfl) ?_; refine Stop.on ?_)
    refine Stop.go ?_
    try simp only [Act.put, List.setIfInBounds_toArray, List.set_cons_zero, List.set_cons_succ]
    intro wn xn bi sn
    try simp only [Act.put, List.setIfInBounds_toArray, List.set_cons_zero, List.set_cons_succ]
    go_wp2_with (refine wpList_putV rfl rfl 37 (.tmp 7) (.tmp 14) rfl _ (n.cells).toArray rfl rfl 37 _ xn (sizeNodeA n) (zsNode n) (oneNode n) ?_; refine Stop.on ?_)
    refine Stop.go ?_
    try simp only [Act.put, List.setIfInBounds_toArray, List.set_cons_zero, List.set_cons_succ]
    intro W2 xi ci si
    try simp only [Act.put, List.setIfInBounds_toArray, List.set_cons_zero, List.set_cons_succ]
    clear xn
    obtain ⟨B6, hB6⟩ : ∃ B6, W0.heap.size = B6 := ⟨_, rfl⟩
    rw [hB6] at xi ⊢
    have hb2 : Below W0.heap.size W0 W2 := bi.trans (ci.below (B := W0.heap.size) (fun k e => by omega) bi.size)
    have HIR := Lib.hid (node_id (range_block (cs := n.cells) xi))
    have hbx := HB.out.trans (hb2.mono HB.out.size)
    have HXR := Lib.hid ((hbx.block _ (Array.getElem?_eq_some_iff.1 HX1.out).1).trans HX1.out)
    have HB2 := Lib.hid hbx
    have HBE := Lib.hid (HB1.out.trans (hbx.mono HB1.out.size))
    clear xi bi ci si sn hb2 hB6 hbx
    go_wp2_with (with_reducible refine wpList_load_mid rfl 35 (.tmp 15) rfl B6 0 rfl (bvs n.id.1) _ HIR.out Try.underlying35 rfl (sizeId n.id) ?_; refine Stop.on ?_)
    refine Stop.go ?_
    try simp only [Act.put, List.setIfInBounds_toArray, List.set_cons_zero, List.set_cons_succ]
    go_wp2_with (refine wpList_loadV rfl (some 17) rfl 35 (.tmp 3) rfl _ rfl 35 (bvs x.1).toArray (0, 0) _ HXR.out Try.underlying35 rfl (sizeIdA x) ?_; refine Stop.on ?_)
    refine Stop.go ?_
    try simp only [Act.put, List.setIfInBounds_toArray, List.set_cons_zero, List.set_cons_succ]
    refine wpList_runI rfl (some 18) rfl (.bool (decide (n.id = x))) _ (op_eql 35 (.tmp 16) (.tmp 17) 35 rfl rfl rfl guard_Id (eql_Id n.id x _)) ?_
    try simp only [Act.put, List.setIfInBounds_toArray, List.set_cons_zero, List.set_cons_succ]
    by_cases hxy : n.id = x
    case pos =>
      rw [decide_eq_true hxy]
      have HF := Lib.hid (show F[i].id = x by rw [HNI.out]; exact hxy)
      clear hxy
      go_wp2_with fail
      exact bodyPost_ret (v := .tuple #[.int .i64 (i : Int), .bool true]) (by simp [results, Try.results27, go_sem]) rfl ⟨HBE.out, .inr ⟨i, hiF, HF.out, fun j hj hji => HE.out j hj hji, rfl⟩⟩
    rw [decide_eq_false hxy]
    have HE2 := Lib.hid (show ∀ j (hj : j < F.length), j < i + 1 → F[j].id ≠ x from fun j hj hji => by
      by_cases e : j = i
      · subst e
        rw [HNI.out]
        exact hxy
      · exact HE.out j hj (by omega))
    clear hxy
    go_wp2_with fail
    go_roundw
    case rel => exact ⟨i + 1, by omega, by go_num, HE2, HB2⟩
    case measure => simp [intOf] <;> omega
end Go.Proofs.Ythfinofmbnfijaa
