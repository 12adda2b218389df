/- Parents. -/
import Derived.Test.YthfinofmbnfijaaTh16
import Derived.Test.YthfinofmbnfijaaTs4
namespace Go.Proofs.Ythfinofmbnfijaa
open Go.Shelf Go.RowKit Go.Lib Go.Sort
set_option linter.unusedVariables false
set_option linter.unusedSimpArgs false

def parL (c : Par) (L : List RowV) : List IdB := L.map fun r => (c r.id).getD z32
def ParPost (w : World) (L : List RowV) (e : Ending) (w' : World) : Prop :=
  (¬ (L.map (·.id)).Nodup ∧ e = .returned (.tuple #[.slice none 0 0, .int .i64 7]) ∧ Below w.heap.size w w') ∨
  ((L.map (·.id)).Nodup ∧ ∃ fv c, e = .returned (.tuple #[fv, .int .i64 0]) ∧ IsCut (pM (isArt (arrS L)) (arrS L)) (arrS L) c ∧ OwnL idE w' w.heap.size fv (parL c L) ∧ Below w.heap.size w w')
set_option maxRecDepth 100000 in
set_option maxHeartbeats 2000000 in
theorem Parents_any {w : World} (v : Value) (L : List RowV) (hv : RowsAt w v L) (hl : L.length ≤ 100000) : Calls Try.prog 28 #[v] w (ParPost w L) := by
  obtain ⟨va, vc, rfl⟩ := hv.l.form
  obtain ⟨N, hN⟩ : ∃ N, L.length = N := ⟨_, rfl⟩
  rw [hN] at hv hl ⊢
  have HV := Lib.hid hv
  have HN := Lib.hid hN
  clear hv hN
  go_enter Try.func28, Try.ntmps28
  go_wp2_with fail
  refine (arrange_any _ L HV.out (by rw [HN.out]; exact hl)).mono ?_
  rintro e Wa (⟨hno, rfl, hb⟩ | ⟨hnd, a, rb, pb, ov, c, rfl, hcut, harr, hb⟩)
  case inl =>
    have HNO := Lib.hid hno
    have HB := Lib.hid hb
    clear hno hb
    go_wp2_with fail
    exact bodyPost_ret (v := .tuple #[.slice none 0 0, .int .i64 7]) (by simp [results, Try.results28, go_sem]) rfl (.inl ⟨HNO.out, rfl, HB.out⟩)
  have HND := Lib.hid hnd
  have HCUT := Lib.hid hcut
  have HA := Lib.hid harr
  have HBA := Lib.hid hb
  clear hnd hcut harr hb
  go_wp2_with (refine wpList_mkR idE z32 32 rfl (some 19) rfl (.tmp 18) rfl N (by omega) rfl (by kernel_rfl) (by decide) ?_; refine Stop.on ?_)
  refine Stop.go ?_
  try simp only [Act.put, List.setIfInBounds_toArray, List.set_cons_zero, List.set_cons_succ]
  intro W1 ho hb hs
  try simp only [Act.put, List.setIfInBounds_toArray, List.set_cons_zero, List.set_cons_succ]
  obtain ⟨sb, hsb⟩ : ∃ sb, Wa.heap.size = sb := ⟨_, rfl⟩
  have HSB := Lib.hid hsb
  have HO := Lib.hid (show OwnL idE W1 Wa.heap.size (.slice (some ⟨sb, 0, none⟩) N N) (parL c (L.take 0) ++ List.replicate (N - 0) z32) from hsb ▸ ho)
  have HB1 := Lib.hid hb
  rw [hsb]
  clear ho hb hs hsb
  go_wp2_with fail
  go_loopw [22] (fun iv wr => ∃ i : Nat, i ≤ N ∧ iv = .int .i64 (i : Int) ∧ Hid (OwnL idE wr Wa.heap.size (.slice (some ⟨sb, 0, none⟩) N N) (parL c (L.take i) ++ List.replicate (N - i) z32)) ∧ Hid (Below Wa.heap.size Wa wr)) (fun iv _ => N - (intOf iv).toNat)
  case atStart => exact ⟨0, Nat.zero_le _, rfl, HO, HB1⟩
  case round =>
    obtain ⟨i, hi, rfl, HO2, HB2⟩ := hrel
    obtain ⟨W0, rfl⟩ : ∃ W0, W0 = wr := ⟨_, rfl⟩
    clear HO HB1
    by_cases hlt : i < N
    case neg =>
      obtain rfl : i = N := by omega
      have HF := Lib.hid (show OwnL idE W0 w.heap.size (.slice (some ⟨sb, 0, none⟩) i i) (parL c L) by
        have h1 := HO2.out
        rw [List.take_of_length_le (by rw [HN.out]; exact Nat.le_refl _), Nat.sub_self, List.replicate_zero, List.append_nil] at h1
        exact h1.base HBA.out.size)
      have HBF := Lib.hid (HBA.out.trans (HB2.out.mono HBA.out.size))
      go_wp2_with fail
      exact bodyPost_ret (v := .tuple #[.slice (some ⟨sb, 0, none⟩) i i, .int .i64 0]) (by simp [results, Try.results28, go_sem]) rfl (.inr ⟨HND.out, _, c, rfl, HCUT.out, HF.out, HBF.out⟩)
    have hiL : i < L.length := by rw [HN.out]; exact hlt
    have HAW := Lib.hid (HA.out.below HB2.out)
    have HVW := Lib.hid (HV.out.below (HBA.out.trans (HB2.out.mono HBA.out.size)))
    obtain ⟨g1, o1, e1, hg1, hr1⟩ := HVW.out.l.get hiL
    subst e1
    obtain ⟨R, hR⟩ : ∃ R, L[i] = R := ⟨_, rfl⟩
    rw [hR] at hr1
    have HR := Lib.hid hR
    have HRR := Lib.hid (show W0.rangeAt g1 (o1 + i * 83) R.cells from hr1)
    clear hr1 hR
    go_wp2_with (with_reducible refine wpList_load_mid rfl 43 (.tmp 25) rfl g1 (o1 + i * 83) rfl R.cells _ HRR.out Try.underlying43 rfl (sizeRow R) ?_; refine Stop.on ?_)
    refine Stop.go ?_
    try simp only [Act.put, List.setIfInBounds_toArray, List.set_cons_zero, List.set_cons_succ]
    go_wp2_with (refine wpList_newV rfl (some 8) rfl 43 rfl Try.zeroCells43 83 (by kernel_rfl) ?_; refine Stop.on ?_)
    refine Stop.go ?_
    try simp only [Act.put, List.setIfInBounds_toArray, List.set_cons_zero, List.set_cons_succ]
    intro wn xn bi sn
    try simp only [Act.put, List.setIfInBounds_toArray, List.set_cons_zero, List.set_cons_succ]
    go_wp2_with (refine wpList_putV rfl rfl 43 (.tmp 8) (.tmp 26) rfl _ (R.cells).toArray rfl rfl 43 _ xn (sizeRowA R) (zsRow R) (oneRow R) ?_; refine Stop.on ?_)
    refine Stop.go ?_
    try simp only [Act.put, List.setIfInBounds_toArray, List.set_cons_zero, List.set_cons_succ]
    intro W1x xi ci si
    try simp only [Act.put, List.setIfInBounds_toArray, List.set_cons_zero, List.set_cons_succ]
    clear xn
    have hb1 : Below W0.heap.size W0 W1x := bi.trans (ci.below (B := W0.heap.size) (fun k e => by omega) bi.size)
    obtain ⟨B5, hB5⟩ : ∃ B5, W0.heap.size = B5 := ⟨_, rfl⟩
    have hrid := row_id (range_block xi)
    rw [hB5] at hrid ⊢
    have HRI := Lib.hid hrid
    have HB5 := Lib.hid (show B5 < W1x.heap.size by omega)
    have HA1 := Lib.hid (HAW.out.below hb1)
    have HO3 := Lib.hid (HO2.out.below hb1)
    have HB3 := Lib.hid (HB2.out.trans (hb1.mono HB2.out.size))
    clear xi bi ci si sn hrid hb1 hB5 HAW HVW HO2 HRR hg1
    go_wp2_with fail
    refine wp_region_seq 10 (by kernel_rfl) (by kernel_rfl) ?_
    simp only [List.take_succ_cons, List.take_zero, List.drop_succ_cons, List.drop_zero]
    obtain ⟨wd, hwd⟩ : ∃ wd, W1x.drew = wd := ⟨_, rfl⟩
    have hd_wd : Below W1x.heap.size W1x wd ∧ wd.heap.size = W1x.heap.size := hwd ▸ ⟨(Below.refl _ _).drew, rfl⟩
    rw [hwd]
    clear hwd
    have HAd := Lib.hid (HA1.out.below hd_wd.1)
    have HOd := Lib.hid (HO3.out.below hd_wd.1)
    have HBd := Lib.hid (HB3.out.trans (hd_wd.1.mono HB3.out.size))
    have HRd := Lib.hid (range_below HRI.out HB5.out hd_wd.1)
    obtain ⟨c1, c2, c3, c4⟩ := HAd.out.cells
    have hlk := HAd.out.lookP R.id false
    rw [if_neg (by decide)] at hlk
    obtain ⟨y, hy⟩ : ∃ y, (c R.id).getD z32 = y := ⟨_, rfl⟩
    rw [hy] at hlk
    have HY := Lib.hid hy
    unfold idv at hlk
    clear hd_wd hy
    go_wp2_with (with_reducible refine wpList_load_mid rfl 35 (.tmp 33) rfl B5 0 rfl (bvs R.id.1) _ HRd.out Try.underlying35 rfl (sizeId R.id) ?_; refine Stop.on ?_)
    refine Stop.go ?_
    try simp only [Act.put, List.setIfInBounds_toArray, List.set_cons_zero, List.set_cons_succ]
    go_wp2_with fail
    refine HeadPost.mk ?_
    go_wp2_with (refine wpList_setL rfl rfl (.tmp 36) (.tmp 35) rfl HOd.out i (by unfold parL; rw [List.length_append, List.length_map, List.length_take, List.length_replicate, HN.out]; omega) y rfl rfl (by kernel_rfl) ?_; refine Stop.on ?_)
    refine Stop.go ?_
    try simp only [Act.put, List.setIfInBounds_toArray, List.set_cons_zero, List.set_cons_succ]
    intro W2 ho2 hc2 hs2
    try simp only [Act.put, List.setIfInBounds_toArray, List.set_cons_zero, List.set_cons_succ]
    have HON := Lib.hid (show OwnL idE W2 Wa.heap.size (.slice (some ⟨sb, 0, none⟩) N N) (parL c (L.take (i + 1)) ++ List.replicate (N - (i + 1)) z32) by
      have e : (parL c (L.take i) ++ List.replicate (N - i) z32).set i y = parL c (L.take (i + 1)) ++ List.replicate (N - (i + 1)) z32 := by
        have hlen : (parL c (L.take i)).length = i := by unfold parL; rw [List.length_map, List.length_take, HN.out]; omega
        rw [List.set_append_right _ _ (by omega), hlen, Nat.sub_self, show N - i = (N - (i + 1)) + 1 by omega, List.replicate_succ, List.set_cons_zero, List.take_succ_eq_append_getElem hiL, HR.out]
        unfold parL
        rw [List.map_append, List.map_singleton, HY.out, List.append_assoc]
        rfl
      rw [← e]
      exact ho2)
    have HBN := Lib.hid (HBd.out.trans (hc2.below (B := Wa.heap.size) (fun k e => by have := HSB.out; omega) HBd.out.size))
    clear ho2 hc2 hs2 c1 c2 c3 c4 hlk
    go_wp2_with fail
    go_roundw
    case rel => exact ⟨i + 1, by omega, by go_num, HON, HBN⟩
    case measure => simp [intOf] <;> omega
end Go.Proofs.Ythfinofmbnfijaa
