/- Listing. -/
import Derived.Test.YtjjanjhoaiannaaTp12
import Derived.Test.YtjjanjhoaiannaaTpc
import Derived.Test.YtjjanjhoaiannaaV10
import Derived.Test.YtjjanjhoaiannaaV12
namespace Go.Proofs.Ytjjanjhoaiannaa
open Go.Shelf Go.RowKit Go.Lib Go.Sort
set_option linter.unusedVariables false
set_option linter.unusedSimpArgs false

/-- A line of a listing. -/
structure LinV where
  id : IdB
  dep : Int
  mis : Bool
def LinV.cells (n : LinV) : List Value := bvs n.id.1 ++ [.int .i64 n.dep, .bool n.mis]
theorem LinV.cells_length (n : LinV) : n.cells.length = 34 := by
  have h1 := n.id.2
  simp [LinV.cells, h1]
theorem LinV.cells_one (n : LinV) : ∀ v ∈ n.cells, v.oneCell' = true := by
  intro v hv
  unfold LinV.cells at hv
  rw [List.mem_append] at hv
  rcases hv with hv | hv
  · exact bvs_oneCell v hv
  · simp only [List.mem_cons, List.not_mem_nil, or_false] at hv
    rcases hv with rfl | rfl <;> rfl
def linE : ElemTy Try.prog 51 55 LinV where
  enc := LinV.cells
  k := 34
  hu := Try.underlying51
  hi := ⟨.agg (LinV.cells ⟨z32, 0, false⟩).toArray, 48, by kernel_rfl, by kernel_rfl, by decide⟩
  hk := by decide
  len := LinV.cells_length
  one := LinV.cells_one
theorem build_lin (n : LinV) (w : World) : (Instr.build 55 #[(0, .agg (bvs n.id.1).toArray), (1, .int .i64 n.dep), (2, .bool n.mis)]).run Try.prog w = .ok (.agg n.cells.toArray) w := by
  obtain ⟨⟨l, hl⟩, d, b⟩ := n
  obtain ⟨x0, x1, x2, x3, x4, x5, x6, x7, x8, x9, x10, x11, x12, x13, x14, x15, x16, x17, x18, x19, x20, x21, x22, x23, x24, x25, x26, x27, x28, x29, x30, x31, rfl⟩ := list32 hl
  kernel_rfl
def linN (n : NodeV) : LinV := ⟨n.id, n.depth, n.row == -1⟩
theorem filter_nodup {L : List RowV} (p : RowV → Bool) (h : (L.map (·.id)).Nodup) : ((L.filter p).map (·.id)).Nodup := (List.filter_sublist.map _).nodup h
def LstPost (w : World) (L : List RowV) (G : List IdB) (now : Int) (e : Ending) (w' : World) : Prop :=
  ∃ a c, e = .returned (.tuple #[a, .int .i64 0]) ∧ IsCut (pM (isArt (arrS (L.filter (shB L G now)))) (arrS (L.filter (shB L G now)))) (arrS (L.filter (shB L G now))) c ∧ OwnL linE w' w.heap.size a ((forestV (L.filter (shB L G now)) c).map linN) ∧ Below w.heap.size w w'
theorem forest_few {S : List RowV} {c : Par} (hn : (S.map (·.id)).Nodup) (hc : IsCut (pM (isArt (arrS S)) (arrS S)) (arrS S) c) : (forestV S c).length ≤ 2 * S.length := by
  rw [forestV_eq hn]
  unfold forestS
  refine Nat.le_trans (forL_len (cut_acyclic hc) (pls_nodup hn c) _ _) ?_
  exact pls_len S c
set_option maxRecDepth 100000 in
set_option maxHeartbeats 2000000 in
theorem Listing_yes {w : World} (v u : Value) (L : List RowV) (G : List IdB) (now : Int) (hv : RowsAt w v L) (hu : ListAt idE w u G) (hl : L.length ≤ 4096) (hG : G.length < 1000000000) (h0 : chkL L = 0) :
    Calls Try.prog 22 #[v, u, .int .i64 now] w (LstPost w L G now) := by
  obtain ⟨va, vc, rfl⟩ := hv.l.form
  obtain ⟨ua, uc, rfl⟩ := hu.form
  obtain ⟨S, hS⟩ : ∃ S, L.filter (shB L G now) = S := ⟨_, rfl⟩
  obtain ⟨hlen, hdt, hrf, hnd⟩ := chk_zero h0
  have hsl : S.length ≤ 4096 := by rw [← hS]; exact Nat.le_trans (List.length_filter_le _ _) hl
  obtain ⟨N, hN⟩ : ∃ N, L.length = N := ⟨_, rfl⟩
  rw [hN] at hv
  have HV := Lib.hid hv
  have HU := Lib.hid hu
  have HL := Lib.hid hl
  have HG := Lib.hid hG
  have HCK := Lib.hid h0
  have HDT := Lib.hid hdt
  have HRF := Lib.hid hrf
  have HND := Lib.hid hnd
  have HS := Lib.hid hS
  have HSL := Lib.hid hsl
  have HSN := Lib.hid (show (S.map (·.id)).Nodup by rw [← hS]; exact filter_nodup _ hnd)
  unfold LstPost
  rw [hS]
  clear hv hu hl hG h0 hlen hdt hrf hnd hS hsl
  rw [hN]
  clear hN
  go_enter Try.func22, Try.ntmps22
  go_wp2_with fail
  refine (vCheck_any _ L HV.out (by have := HL.out; omega)).mono ?_
  rintro e W1 ⟨rfl, hb⟩
  rw [HCK.out]
  have HB1 := Lib.hid hb
  clear hb
  go_wp2_with fail
  refine (divide_any _ _ L G now (HV.out.below HB1.out) (HU.out.below HB1.out) HL.out HG.out HND.out HDT.out HRF.out).mono ?_
  rintro e W2 ⟨sv, tv, rfl, hos, _, hb⟩
  rw [HS.out] at hos
  have HB2 := Lib.hid (HB1.out.trans (hb.mono HB1.out.size))
  have HSR := Lib.hid (show RowsAt W2 sv S from ⟨hos.at_, fun R hR => ((HV.out.below HB1.out).below hb).r R (by
    have h1 := HS.out
    rw [← h1] at hR
    exact (List.mem_filter.1 hR).1)⟩)
  clear hos hb
  go_wp2_with fail
  refine (Build_any _ S HSR.out (by have := HSL.out; omega)).mono ?_
  rintro e W3 (⟨hno, _⟩ | ⟨_, fv, c, rfl, hc, hof, hb⟩)
  case inl => exact absurd HSN.out hno
  obtain ⟨F, hF⟩ : ∃ F, forestV S c = F := ⟨_, rfl⟩
  have hFl : F.length ≤ 8192 := by
    rw [← hF]
    have h1 := forest_few HSN.out hc
    have h2 := HSL.out
    omega
  rw [hF] at hof
  obtain ⟨fa, fc, rfl⟩ := hof.form
  obtain ⟨n, hn⟩ : ∃ n, F.length = n := ⟨_, rfl⟩
  rw [hn] at hof hFl ⊢
  have HFN := Lib.hid hn
  have HFE := Lib.hid hF
  obtain ⟨X, hX⟩ : ∃ X, F.map linN = X := ⟨_, rfl⟩
  have HXE := Lib.hid hX
  have HXN := Lib.hid (show X.length = n by rw [← hX, List.length_map, hn])
  clear hX
  have HC := Lib.hid hc
  have HF := Lib.hid hof.at_
  have HB3 := Lib.hid (HB2.out.trans (hb.mono HB2.out.size))
  clear hc hF hof hb hn HB1 HB2 HSR HV HU
  go_wp2_with (refine wpList_mkL linE rfl (some 38) rfl (.const (.int .i64 0)) (.tmp 37) rfl n (by omega) rfl rfl ?_; refine Stop.on ?_)
  refine Stop.go ?_
  try simp only [Act.put, List.setIfInBounds_toArray, List.set_cons_zero, List.set_cons_succ]
  intro W4 ho hb
  try simp only [Act.put, List.setIfInBounds_toArray, List.set_cons_zero, List.set_cons_succ]
  obtain ⟨b0, hb0⟩ : ∃ b0, W3.heap.size = b0 := ⟨_, rfl⟩
  rw [hb0] at ho hb ⊢
  have HO0 := Lib.hid (show OwnL linE W4 b0 (.slice (some ⟨b0, 0, none⟩) 0 n) (X.take 0) from ho)
  have HB4 := Lib.hid hb
  have HSZ := Lib.hid hb0
  have HWB := Lib.hid (show w.heap.size ≤ b0 by rw [← hb0]; exact HB3.out.size)
  clear ho hb hb0
  go_wp2_with fail
  go_loopw [13, 41] (fun ov iv wr => ∃ (i : Nat) (a : Option Addr) (cp : Nat), i ≤ n ∧ iv = .int .i64 (i : Int) ∧ ov = .slice a i cp ∧ Hid (OwnL linE wr b0 (.slice a i cp) (X.take i)) ∧ Hid (Below b0 W3 wr)) (fun _ iv _ => n - (intOf iv).toNat)
  case atStart => exact ⟨0, some ⟨b0, 0, none⟩, n, Nat.zero_le _, rfl, rfl, HO0, HB4⟩
  case round =>
    obtain ⟨i, oa, ocp, hi, rfl, rfl, HO, HB⟩ := hrel
    obtain ⟨W0, rfl⟩ : ∃ W0, W0 = wr := ⟨_, rfl⟩
    clear HO0 HB4
    have HFL := Lib.hid (HF.out.below (by rw [HSZ.out]; exact HB.out))
    by_cases hlt : i < n
    case neg =>
      obtain rfl : n = i := by omega
      have HON := Lib.hid (show OwnL linE W0 w.heap.size (.slice oa n ocp) ((forestV S c).map linN) by
        have h1 := HO.out
        rw [List.take_of_length_le (by rw [HXN.out]; exact Nat.le_refl _), ← HXE.out, ← HFE.out] at h1
        exact h1.base HWB.out)
      have HBF := Lib.hid (HB3.out.trans (HB.out.mono HWB.out))
      go_wp2_with fail
      exact bodyPost_ret (v := .tuple #[.slice oa n ocp, .int .i64 0]) (by simp [results, Try.results22, go_sem]) rfl ⟨_, c, rfl, HC.out, HON.out, HBF.out⟩
    have hiI : (i : Int) < (n : Int) := by omega
    have hiF : i < F.length := by rw [HFN.out]; exact hlt
    obtain ⟨g, off, e9, hg, hr⟩ := HFL.out.get hiF
    subst e9
    obtain ⟨nd, hnd⟩ : ∃ nd, F[i] = nd := ⟨_, rfl⟩
    rw [hnd] at hr
    have hr' : W0.rangeAt g (off + i * 35) nd.cells := hr
    have HRR := Lib.hid hr'
    have HNX := Lib.hid (show X.take (i + 1) = X.take i ++ [linN nd] by
      have hiX : i < X.length := by rw [HXN.out]; exact hlt
      have e : X[i] = linN nd := by
        have h9 := HXE.out
        subst h9
        rw [List.getElem_map, hnd]
      rw [List.take_succ_eq_append_getElem hiX, e])
    have HLT := Lib.hid (show (X.take i).length = i by rw [List.length_take, HXN.out]; omega)
    clear hr hr' hnd hg
    go_wp2_with (with_reducible refine wpList_load_mid rfl 57 (.tmp 43) rfl g (off + i * 35) rfl nd.cells _ HRR.out Try.underlying57 rfl (sizeNode nd) ?_; refine Stop.on ?_)
    refine Stop.go ?_
    try simp only [Act.put, List.setIfInBounds_toArray, List.set_cons_zero, List.set_cons_succ]
    go_wp2_with (refine wpList_newV rfl (some 15) rfl 57 rfl (NodeV.cells ⟨z32, 0, 0, 0⟩).toArray 35 (by kernel_rfl) ?_; refine Stop.on ?_)
    refine Stop.go ?_
    try simp only [Act.put, List.setIfInBounds_toArray, List.set_cons_zero, List.set_cons_succ]
    intro wn xn bi sn
    try simp only [Act.put, List.setIfInBounds_toArray, List.set_cons_zero, List.set_cons_succ]
    go_wp2_with (refine wpList_putV rfl rfl 57 (.tmp 15) (.tmp 44) rfl _ (nd.cells).toArray rfl rfl 57 _ xn (sizeNodeA nd) (zsNode nd) (oneNode nd) ?_; refine Stop.on ?_)
    refine Stop.go ?_
    try simp only [Act.put, List.setIfInBounds_toArray, List.set_cons_zero, List.set_cons_succ]
    intro W2 xi ci si
    try simp only [Act.put, List.setIfInBounds_toArray, List.set_cons_zero, List.set_cons_succ]
    clear xn
    have hb2 : Below W0.heap.size W0 W2 := bi.trans (ci.below (B := W0.heap.size) (fun k e => by omega) bi.size)
    obtain ⟨B6, hB6⟩ : ∃ B6, W0.heap.size = B6 := ⟨_, rfl⟩
    rw [hB6] at xi ⊢
    have hm := node_mid (range_block (cs := nd.cells) xi)
    simp only [Nat.zero_add] at hm
    have hc1 := hm.1
    have hc3 := hm.2.2
    have HID := Lib.hid (node_id (range_block (cs := nd.cells) xi))
    have HO2 := Lib.hid (HO.out.below hb2)
    have HB2 := Lib.hid (HB.out.trans (hb2.mono (Nat.le_trans (by rw [HSZ.out]; exact Nat.le_refl _) HB.out.size)))
    have HBS2 := Lib.hid (show b0 ≤ W2.heap.size by have h1 := HB2.out.size; rw [HSZ.out] at h1; exact h1)
    obtain ⟨x, hx⟩ : ∃ x, nd.id = x := ⟨_, rfl⟩
    obtain ⟨d, hd⟩ : ∃ d, nd.depth = d := ⟨_, rfl⟩
    obtain ⟨r, hr⟩ : ∃ r, nd.row = r := ⟨_, rfl⟩
    obtain ⟨b, hb⟩ : ∃ b, (r == -1) = b := ⟨_, rfl⟩
    have HLN := Lib.hid (show linN nd = ⟨x, d, b⟩ by unfold linN; rw [hx, hd, hr, hb])
    rw [hx] at HID
    rw [hd] at hc3
    rw [hr] at hc1
    have HBB := Lib.hid hb
    clear hm xi bi ci si sn hb2 hB6 HO HB HFL HRR hx hd hr
    go_wp2_with (with_reducible refine wpList_load_mid rfl 31 (.tmp 46) rfl B6 0 rfl (bvs x.1) _ HID.out Try.underlying31 rfl (sizeId x) ?_; refine Stop.on ?_)
    refine Stop.go ?_
    try simp only [Act.put, List.setIfInBounds_toArray, List.set_cons_zero, List.set_cons_succ]
    clear hb
    go_wp2_with (rw [HBB.out]; refine wpList_buildV rfl (some 53) rfl 55 _ rfl [(0, .agg (bvs x.1).toArray), (1, .int .i64 d), (2, .bool b)] rfl (.agg (LinV.cells ⟨x, d, b⟩).toArray) (build_lin ⟨x, d, b⟩ _) ?_; refine Stop.on ?_)
    refine Stop.go ?_
    try simp only [Act.put, List.setIfInBounds_toArray, List.set_cons_zero, List.set_cons_succ]
    go_wp2_with (refine wpList_litsV linE rfl (some 54) rfl 1 _ rfl [⟨x, d, b⟩] rfl rfl (by decide) (by decide) ?_; refine Stop.on ?_)
    refine Stop.go ?_
    try simp only [Act.put, List.setIfInBounds_toArray, List.set_cons_zero, List.set_cons_succ]
    intro Wl xl bl sl
    try simp only [Act.put, List.setIfInBounds_toArray, List.set_cons_zero, List.set_cons_succ]
    have HLL := Lib.hid (show ListAt linE Wl (.slice (some ⟨W2.heap.size, 0, none⟩) 1 1) [⟨x, d, b⟩] from list_block1 linE (by simpa using xl))
    have HOl := Lib.hid (HO2.out.below bl)
    have HBl := Lib.hid (HB2.out.trans (bl.mono HBS2.out))
    have HBSl := Lib.hid (show b0 ≤ Wl.heap.size from Nat.le_trans HBS2.out bl.size)
    clear xl bl sl
    go_wp2_with (refine wpList_appL linE rfl (.tmp 45) (.tmp 54) rfl rfl HOl.out rfl HLL.out (n := i) (m := 1) HLT.out rfl (by omega) HBSl.out ?_; refine Stop.on ?_)
    refine Stop.go ?_
    try simp only [Act.put, List.setIfInBounds_toArray, List.set_cons_zero, List.set_cons_succ]
    intro a5 c5 W5 ho5 hg5 hat5
    try simp only [Act.put, List.setIfInBounds_toArray, List.set_cons_zero, List.set_cons_succ]
    have HON := Lib.hid (show OwnL linE W5 b0 (.slice a5 (i + 1) c5) (X.take (i + 1)) by rw [HNX.out, HLN.out]; exact ho5)
    have hb5 := HOl.out.grown_below hg5 HBSl.out
    have HBN := Lib.hid (HBl.out.trans hb5)
    clear ho5 hg5 hat5 hb5
    go_wp2_with fail
    go_roundw
    case rel => exact ⟨i + 1, a5, c5, by omega, by go_num, rfl, HON, HBN⟩
    case measure => simp [intOf] <;> omega
end Go.Proofs.Ytjjanjhoaiannaa
