/- The model's direct. -/
import Derived.Test.YthfinofmbnfijaaTh15
namespace Go.Proofs.Ythfinofmbnfijaa
open Go.Shelf Go.RowKit Go.Lib Go.Sort
set_option linter.unusedVariables false
set_option linter.unusedSimpArgs false

def pvC : Option IdB → List Value
  | none => .bool false :: bvs z32.1
  | some y => .bool true :: bvs y.1
def parE : ElemTy Try.prog 60 63 (Option IdB) where
  enc := pvC
  k := 33
  hu := Try.underlying60
  hi := ⟨.agg (pvC none).toArray, 33, by kernel_rfl, by kernel_rfl, by decide⟩
  hk := by decide
  len a := by
    cases a with
    | none => rfl
    | some y => show (bvs y.1).length + 1 = 33; rw [bvs_length, y.2]
  one a := by
    intro v hv
    cases a with
    | none =>
      rcases List.mem_cons.1 hv with rfl | h
      · rfl
      · exact bvs_oneCell v h
    | some y =>
      rcases List.mem_cons.1 hv with rfl | h
      · rfl
      · exact bvs_oneCell v h
theorem build_par0 (w : World) : (Instr.build 63 #[]).run Try.prog w = .ok (.agg (pvC none).toArray) w := by kernel_rfl
theorem build_par1 (a : IdB) (w : World) : (Instr.build 63 #[(0, .bool true), (1, .agg (bvs a.1).toArray)]).run Try.prog w = .ok (.agg (pvC (some a)).toArray) w := by
  obtain ⟨l, hl⟩ := a
  obtain ⟨x0, x1, x2, x3, x4, x5, x6, x7, x8, x9, x10, x11, x12, x13, x14, x15, x16, x17, x18, x19, x20, x21, x22, x23, x24, x25, x26, x27, x28, x29, x30, x31, rfl⟩ := list32 hl
  kernel_rfl
def dirL (L : List RowV) : List (Option IdB) := L.map fun r => r.refs.getLast?
set_option maxRecDepth 100000 in
set_option maxHeartbeats 2000000 in
theorem direct_any {w : World} (v : Value) (L : List RowV) (hv : RowsAt w v L) (hl : L.length < 1000000) : Calls Try.prog 46 #[v] w fun e w' => ∃ v', e = .returned v' ∧ OwnL parE w' w.heap.size v' (dirL L) ∧ Below w.heap.size w w' := by
  obtain ⟨va, vc, rfl⟩ := hv.l.form
  obtain ⟨N, hN⟩ : ∃ N, L.length = N := ⟨_, rfl⟩
  rw [hN] at hv hl ⊢
  have HV := Lib.hid hv
  have HN := Lib.hid hN
  clear hv hN
  go_enter Try.func46, Try.ntmps46
  go_wp2_with fail
  have HO0 := Lib.hid (ownL_nil parE w w.heap.size)
  have HB0 := Lib.hid (Below.refl w.heap.size w)
  go_loopw [3, 4, 5] (fun ov iv rv wr => ∃ (i : Nat) (oa : Option Addr) (oc : Nat), i ≤ N ∧ iv = .int .i64 (i : Int) ∧ ov = .slice oa i oc ∧ Hid (OwnL parE wr w.heap.size (.slice oa i oc) (dirL (L.take i))) ∧ Hid (Below w.heap.size w wr)) (fun _ iv _ _ => N - (intOf iv).toNat)
  case atStart => exact ⟨0, none, 0, Nat.zero_le _, rfl, rfl, HO0, HB0⟩
  case round =>
    obtain ⟨i, oa, oc, hi, rfl, rfl, HO, HB⟩ := hrel
    obtain ⟨W0, rfl⟩ : ∃ W0, W0 = wr := ⟨_, rfl⟩
    clear HO0 HB0
    by_cases hlt : i < N
    case neg =>
      obtain rfl : i = N := by omega
      have HF := Lib.hid (show OwnL parE W0 w.heap.size (.slice oa i oc) (dirL L) by
        have h1 := HO.out
        rw [List.take_of_length_le (by rw [HN.out]; exact Nat.le_refl _)] at h1
        exact h1)
      go_wp2_with fail
      exact bodyPost_ret (v := .slice oa i oc) (by simp [results, Try.results46, go_sem]) rfl ⟨_, rfl, HF.out, HB.out⟩
    have hiL : i < L.length := by rw [HN.out]; exact hlt
    have hvw := HV.out.below HB.out
    obtain ⟨g1, o1, e1, hg1, hr1⟩ := hvw.l.get hiL
    subst e1
    have hro := hvw.r L[i] (List.getElem_mem hiL)
    obtain ⟨ra, rc, hrv⟩ := hro.form
    have hc := (row_mid (show W0.rangeAt g1 (o1 + i * 83) L[i].cells from hr1)).2.2
    rw [hrv] at hro hc
    have hlen : (dirL (L.take i)).length = i := by unfold dirL; rw [List.length_map, List.length_take, HN.out]; omega
    have HLEN := Lib.hid hlen
    have hnext : dirL (L.take (i + 1)) = dirL (L.take i) ++ [L[i].refs.getLast?] := by
      unfold dirL
      rw [List.take_succ_eq_append_getElem hiL, List.map_append]
      rfl
    have HNX := Lib.hid hnext
    obtain ⟨K, hK⟩ : ∃ K, L[i].refs.length = K := ⟨_, rfl⟩
    rw [hK] at hro hc
    obtain ⟨hz1, hrc1, hrc2, hz2⟩ := hro.len
    unfold maxLen at hrc2
    clear hz1 hz2 hr1 hg1 hrv hlen hnext hvw
    cases K with
    | zero =>
      obtain ⟨y, hy⟩ : ∃ y, L[i].refs.getLast? = y := ⟨_, rfl⟩
      obtain rfl : y = none := by rw [← hy, List.getLast?_eq_none_iff]; exact List.eq_nil_of_length_eq_zero hK
      rw [hy] at HNX
      clear hy hK hro
      go_wp2_with (refine wpList_buildV rfl (some 21) rfl 63 _ rfl [] rfl (.agg (pvC none).toArray) (build_par0 _) ?_; refine Stop.on ?_)
      refine Stop.go ?_
      try simp only [Act.put, List.setIfInBounds_toArray, List.set_cons_zero, List.set_cons_succ]
      go_wp2_with (refine wpList_litsV parE rfl (some 22) rfl 1 _ rfl [(none : Option IdB)] rfl rfl (by decide) (by decide) ?_; refine Stop.on ?_)
      refine Stop.go ?_
      try simp only [Act.put, List.setIfInBounds_toArray, List.set_cons_zero, List.set_cons_succ]
      intro Wl xl bl sl
      try simp only [Act.put, List.setIfInBounds_toArray, List.set_cons_zero, List.set_cons_succ]
      have HLL := Lib.hid (list_of_block parE (M := [(none : Option IdB)]) xl (by unfold maxLen; simp))
      have HO1 := Lib.hid (HO.out.below bl)
      have HBL := Lib.hid (HB.out.trans (bl.mono HB.out.size))
      clear xl bl sl
      go_wp2_with (refine wpList_appL parE rfl (.tmp 20) (.tmp 22) rfl rfl HO1.out rfl HLL.out (n := i) (m := 1) HLEN.out rfl (by omega) HBL.out.size ?_; refine Stop.on ?_)
      refine Stop.go ?_
      try simp only [Act.put, List.setIfInBounds_toArray, List.set_cons_zero, List.set_cons_succ]
      intro a5 c5 W5 ho5 hg5 hat5
      try simp only [Act.put, List.setIfInBounds_toArray, List.set_cons_zero, List.set_cons_succ]
      have HON := Lib.hid (show OwnL parE W5 w.heap.size (.slice a5 (i + 1) c5) (dirL (L.take (i + 1))) by rw [HNX.out]; exact ho5)
      have HBN := Lib.hid (HBL.out.trans (HO1.out.grown_below hg5 HBL.out.size))
      clear ho5 hg5 hat5
      go_wp2_with fail
      go_roundw
      case rel => exact ⟨i + 1, a5, c5, by omega, by go_num, rfl, HON, HBN⟩
      case measure => simp [intOf] <;> omega
    | succ K =>
      have hKR : K < L[i].refs.length := by omega
      obtain ⟨rg, ro, era, hrg, hrr⟩ := hro.get hKR
      subst era
      obtain ⟨y, hy⟩ : ∃ y, L[i].refs[K] = y := ⟨_, rfl⟩
      rw [hy] at hrr
      have hlast : L[i].refs.getLast? = some y := by
        rw [List.getLast?_eq_getElem?, hK, Nat.add_sub_cancel, List.getElem?_eq_getElem hKR, hy]
      rw [hlast] at HNX
      have HRR := Lib.hid (show W0.rangeAt rg (ro + K * 32) (bvs y.1) from hrr)
      clear hrr hy hlast hrg hKR hK hro
      go_wp2_with (with_reducible refine wpList_load_mid rfl 35 (.tmp 29) rfl rg (ro + K * 32) rfl (bvs y.1) _ HRR.out Try.underlying35 rfl (sizeId y) ?_; refine Stop.on ?_)
      refine Stop.go ?_
      try simp only [Act.put, List.setIfInBounds_toArray, List.set_cons_zero, List.set_cons_succ]
      go_wp2_with (refine wpList_buildV rfl (some 31) rfl 63 _ rfl [(0, .bool true), (1, .agg (bvs y.1).toArray)] rfl (.agg (pvC (some y)).toArray) (build_par1 y _) ?_; refine Stop.on ?_)
      refine Stop.go ?_
      try simp only [Act.put, List.setIfInBounds_toArray, List.set_cons_zero, List.set_cons_succ]
      go_wp2_with (refine wpList_litsV parE rfl (some 32) rfl 1 _ rfl [some y] rfl rfl (by decide) (by decide) ?_; refine Stop.on ?_)
      refine Stop.go ?_
      try simp only [Act.put, List.setIfInBounds_toArray, List.set_cons_zero, List.set_cons_succ]
      intro Wl xl bl sl
      try simp only [Act.put, List.setIfInBounds_toArray, List.set_cons_zero, List.set_cons_succ]
      have HLL := Lib.hid (list_of_block parE (M := [some y]) xl (by unfold maxLen; simp))
      have HO1 := Lib.hid (HO.out.below bl)
      have HBL := Lib.hid (HB.out.trans (bl.mono HB.out.size))
      clear xl bl sl
      go_wp2_with (refine wpList_appL parE rfl (.tmp 24) (.tmp 32) rfl rfl HO1.out rfl HLL.out (n := i) (m := 1) HLEN.out rfl (by omega) HBL.out.size ?_; refine Stop.on ?_)
      refine Stop.go ?_
      try simp only [Act.put, List.setIfInBounds_toArray, List.set_cons_zero, List.set_cons_succ]
      intro a5 c5 W5 ho5 hg5 hat5
      try simp only [Act.put, List.setIfInBounds_toArray, List.set_cons_zero, List.set_cons_succ]
      have HON := Lib.hid (show OwnL parE W5 w.heap.size (.slice a5 (i + 1) c5) (dirL (L.take (i + 1))) by rw [HNX.out]; exact ho5)
      have HBN := Lib.hid (HBL.out.trans (HO1.out.grown_below hg5 HBL.out.size))
      clear ho5 hg5 hat5
      go_wp2_with fail
      go_roundw
      case rel => exact ⟨i + 1, a5, c5, by omega, by go_num, rfl, HON, HBN⟩
      case measure => simp [intOf] <;> omega
end Go.Proofs.Ythfinofmbnfijaa
