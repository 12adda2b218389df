/- ThreadErrors. -/
import Derived.Test.YthfinofmbnfijaaTh17
import Derived.Test.YthfinofmbnfijaaTs4
namespace Go.Proofs.Ythfinofmbnfijaa
open Go.Shelf Go.RowKit Go.Lib Go.Sort
set_option linter.unusedVariables false
set_option linter.unusedSimpArgs false

theorem sizeRaw (R : RawV) : (Try.prog.info? 51).map (·.size) = some R.cells.toArray.size := by rw [List.size_toArray, show R.cells.length = 3 from rfl]; kernel_rfl
theorem rowsT_one (R : RawV) : rowsT [R] = [rawTw R] := rfl
theorem rowStep_le (L : List RawV) : ∀ acc : List Tw, (L.foldl rowStep acc).length ≤ acc.length + L.length := by
  induction L with
  | nil => intro acc; exact Nat.le_refl _
  | cons R L ih =>
    intro acc
    refine Nat.le_trans (ih _) ?_
    have : (rowStep acc R).length ≤ acc.length + 1 := by
      unfold rowStep
      split
      · omega
      · rw [List.length_append]; exact Nat.le_refl _
    rw [List.length_cons]
    omega
theorem rowsT_len (L : List RawV) : (rowsT L).length ≤ 14 := by
  have h1 := rowStep_le (L.take 14) []
  have h2 : (L.take 14).length ≤ 14 := by rw [List.length_take]; omega
  rw [List.length_nil] at h1
  unfold rowsT
  omega
/-- A row with another identity. -/
def RowV.withId (R : RowV) (y : IdB) : RowV := ⟨y, R.au, R.hau, R.date, R.gv, R.hgv, R.rv, R.hrv, R.sup, R.refs⟩
theorem wrC_id (R : RowV) (y : IdB) : wrC R.cells.toArray 0 (bvs y.1) = (R.withId y).cells.toArray := by
  apply Array.ext'
  have h1 : (bvs y.1).length = 32 := by rw [bvs_length, y.2]
  have h2 : (bvs R.id.1).length = 32 := by rw [bvs_length, R.id.2]
  rw [wrC_list _ _ _ (by rw [h1, List.size_toArray, R.cells_length]; decide), List.take_zero, List.nil_append, h1]
  show bvs y.1 ++ R.cells.drop 32 = (R.withId y).cells
  unfold RowV.cells
  rw [List.drop_left' h2]
  rfl
set_option maxRecDepth 100000 in
set_option maxHeartbeats 2000000 in
theorem Errors_law {w : World} (v : Value) (L : List RawV) (hv : RawsAt w v L) (n : UInt8) (R : RawV) (hr : ListAt u8E w R.rv R.refs) : Calls Try.prog 10 #[v, .int .u8 (n.toNat : Int), .agg R.cells.toArray] w fun e w' => e = .returned (.bool true) ∧ Below w.heap.size w w' := by
  obtain ⟨w1, hw1⟩ : ∃ w1, w.alloc (.cells R.cells.toArray 51) = w1 := ⟨_, rfl⟩
  have hb1 : Below w.heap.size w w1 := hw1 ▸ (Below.refl _ w).alloc (Nat.le_refl _) _
  have hx1 : w1.heap[w.heap.size]? = some (.cells R.cells.toArray 51 (0, 0)) := by rw [← hw1]; exact heap_alloc_new _ _
  obtain ⟨nv, hnv⟩ : ∃ nv, n.toNat = nv := ⟨_, rfl⟩
  have hnlt : nv < 256 := hnv ▸ n.toNat_lt
  have HV := Lib.hid (hv.below hb1)
  have HR := Lib.hid (hr.below hb1)
  have HB1 := Lib.hid hb1
  have HX1 := Lib.hid hx1
  rw [hnv]
  clear hv hr hb1 hx1 hnv
  go_enter Try.func10, Try.ntmps10
  go_wp2_with fail
  refine (rows_any _ L HV.out).mono ?_
  rintro e Wa ⟨xv, M, rfl, ho, ht, hb⟩
  obtain ⟨xa, xc, rfl⟩ := ho.own.form
  obtain ⟨N, hN⟩ : ∃ N, M.length = N := ⟨_, rfl⟩
  have hN14 : N ≤ 14 := by
    have h1 := congrArg List.length ht
    rw [List.length_map, hN] at h1
    have := rowsT_len L
    omega
  rw [hN] at ho ⊢
  have HM := Lib.hid ho
  have HN := Lib.hid hN
  have HBA := Lib.hid (HB1.out.trans (hb.mono HB1.out.size))
  have HXA := Lib.hid ((hb.block _ (Array.getElem?_eq_some_iff.1 HX1.out).1).trans HX1.out)
  have HRA := Lib.hid (HR.out.below hb)
  clear ho ht hN hb HB1 HX1 HR
  by_cases h0 : N = 0
  case pos =>
    subst h0
    go_wp2_with fail
    refine known_any.mono ?_
    rintro e Wk ⟨rfl, hb⟩
    have HBK := Lib.hid (HBA.out.trans (hb.mono HBA.out.size))
    clear hb
    go_wp2_with fail
    exact bodyPost_ret (v := .bool true) (by simp [results, Try.results10, go_sem]) rfl ⟨rfl, HBK.out⟩
  have hN0 : 0 < N := by omega
  have hNI : (0 : Int) < (N : Int) := by omega
  have hNe : ¬ ((N : Int) = 0) := by omega
  have hNe2 : ((N : Int) == 0) = false := by simp [h0]
  clear h0
  go_wp2_with (refine wpList_loadV rfl (some 20) rfl 51 (.tmp 5) rfl _ rfl 51 (R.cells).toArray (0, 0) _ HXA.out Try.underlying51 rfl (sizeRaw R) ?_; refine Stop.on ?_)
  refine Stop.go ?_
  try simp only [Act.put, List.setIfInBounds_toArray, List.set_cons_zero, List.set_cons_succ]
  go_wp2_with (refine wpList_litsV rawE rfl (some 21) rfl 1 _ rfl [R] rfl rfl (by decide) (by decide) ?_; refine Stop.on ?_)
  refine Stop.go ?_
  try simp only [Act.put, List.setIfInBounds_toArray, List.set_cons_zero, List.set_cons_succ]
  intro Wl xl bl sl
  try simp only [Act.put, List.setIfInBounds_toArray, List.set_cons_zero, List.set_cons_succ]
  have hll := list_of_block rawE (M := [R]) xl (by unfold maxLen; simp)
  have HLL := Lib.hid (show RawsAt Wl _ [R] from ⟨hll, fun R' hR' => by rw [List.mem_singleton.1 hR']; exact HRA.out.below bl⟩)
  have HML := Lib.hid (HM.out.below bl)
  have HBL := Lib.hid (HBA.out.trans (bl.mono HBA.out.size))
  clear xl bl sl hll HBA HXA HRA HM
  go_wp2_with fail
  refine (rows_any _ [R] HLL.out).mono ?_
  rintro e Wb ⟨yv, M2, rfl, ho, ht, hb⟩
  rw [rowsT_one] at ht
  obtain ⟨r2, rfl⟩ : ∃ r2, M2 = [r2] := by
    have h1 := congrArg List.length ht
    rw [List.length_map] at h1
    exact List.length_eq_one_iff.1 h1
  obtain ⟨ya, yc, rfl⟩ := ho.own.form
  obtain ⟨g2, o2, e2, hg2, hr2⟩ := ho.own.at_.get (i := 0) (Nat.zero_lt_succ _)
  subst e2
  have HR2 := Lib.hid (show Wb.rangeAt g2 o2 r2.cells by
    have h1 := hr2
    rw [Nat.zero_mul, Nat.add_zero] at h1
    exact h1)
  have HF2 := Lib.hid ((ho.refs r2 (List.mem_singleton.2 rfl)).at_)
  have HM2 := Lib.hid (HML.out.below hb)
  have HB2 := Lib.hid (HBL.out.trans (hb.mono HBL.out.size))
  clear ho ht hb hr2 hg2 HML HBL HLL
  rw [show ([r2] : List RowV).length = 1 from rfl]
  go_wp2_with (with_reducible refine wpList_load_mid rfl 43 (.tmp 23) rfl g2 (o2) rfl r2.cells _ HR2.out Try.underlying43 rfl (sizeRow r2) ?_; refine Stop.on ?_)
  refine Stop.go ?_
  try simp only [Act.put, List.setIfInBounds_toArray, List.set_cons_zero, List.set_cons_succ]
  go_wp2_with (refine wpList_newV rfl (some 8) rfl 43 rfl Try.zeroCells43 83 (by kernel_rfl) ?_; refine Stop.on ?_)
  refine Stop.go ?_
  try simp only [Act.put, List.setIfInBounds_toArray, List.set_cons_zero, List.set_cons_succ]
  intro wn xn bi sn
  try simp only [Act.put, List.setIfInBounds_toArray, List.set_cons_zero, List.set_cons_succ]
  refine wpList_putV rfl rfl 43 (.tmp 8) (.tmp 24) rfl _ (r2.cells).toArray rfl rfl 43 _ xn (sizeRowA r2) (zsRow r2) (oneRow r2) ?_
  intro Wc xi ci si
  try simp only [Act.put, List.setIfInBounds_toArray, List.set_cons_zero, List.set_cons_succ]
  clear xn
  have hbc : Below Wb.heap.size Wb Wc := bi.trans (ci.below (B := Wb.heap.size) (fun k e => by omega) bi.size)
  obtain ⟨xb, hxb⟩ : ∃ xb, Wb.heap.size = xb := ⟨_, rfl⟩
  rw [hxb] at xi ⊢
  have HX := Lib.hid xi
  have HMC := Lib.hid (HM2.out.below hbc)
  have HFC := Lib.hid (HF2.out.below hbc)
  have HBC := Lib.hid (HB2.out.trans (hbc.mono HB2.out.size))
  have HXG := Lib.hid (show w.heap.size ≤ xb ∧ Wb.heap.size ≤ xb by have := HB2.out.size; omega)
  have HBCC := Lib.hid hbc
  clear xi bi ci si sn hbc HR2
  obtain ⟨k, hk⟩ : ∃ k, nv % N = k := ⟨_, rfl⟩
  have hkN : k < N := hk ▸ Nat.mod_lt _ hN0
  have hmod : (nv : Int) % (N : Int) = (k : Int) := by rw [← hk]; exact (Int.natCast_emod _ _).symm
  obtain ⟨p, hp⟩ : ∃ p, nv / 16 % (N + 1) = p := ⟨_, rfl⟩
  have hpN : p ≤ N := by have h1 := Nat.mod_lt (nv / 16) (Nat.succ_pos N); rw [← hp]; exact Nat.le_of_lt_succ h1
  have hmod2 : (nv : Int) / 16 % ((N : Int) + 1) = (p : Int) := by rw [← hp]; simp
  have hkI : (k : Int) < (N : Int) := by omega
  clear hk hp
  have hkM : k < M.length := by rw [HN.out]; exact hkN
  obtain ⟨xg, xo, ex, hxg, hxr⟩ := HMC.out.own.at_.get hkM
  subst ex
  obtain ⟨rk_, hrk⟩ : ∃ r, M[k] = r := ⟨_, rfl⟩
  rw [hrk] at hxr
  have HRK := Lib.hid hrk
  have HXR := Lib.hid (show Wc.rangeAt xg (xo + k * 83 + 0) (bvs rk_.id.1) from row_id hxr)
  obtain ⟨y, hy⟩ : ∃ y, rk_.id = y := ⟨_, rfl⟩
  have HY := Lib.hid hy
  rw [hy] at HXR
  clear hxr hrk hxg hy
  go_wp2_with (refine wpList_runI rfl (some 27) rfl (.int .i64 (nv : Int)) _ (exec_conv nv hnlt (.tmp 26) rfl rfl) ?_; refine Stop.on ?_)
  refine Stop.go ?_
  try simp only [Act.put, List.setIfInBounds_toArray, List.set_cons_zero, List.set_cons_succ]
  go_wp2_with (with_reducible refine wpList_load_mid rfl 35 (.tmp 32) rfl xg (xo + k * 83 + 0) rfl (bvs y.1) _ HXR.out Try.underlying35 rfl (sizeId y) ?_; refine Stop.on ?_)
  refine Stop.go ?_
  try simp only [Act.put, List.setIfInBounds_toArray, List.set_cons_zero, List.set_cons_succ]
  go_wp2_with (refine wpList_putM rfl rfl 35 (.tmp 34) (.tmp 33) rfl xb 0 (bvs y.1) rfl rfl HX.out (by rw [bvs_length, y.2, List.size_toArray, r2.cells_length]; decide) bvs_oneCell (sizeId y) ?_; refine Stop.on ?_)
  refine Stop.go ?_
  try simp only [Act.put, List.setIfInBounds_toArray, List.set_cons_zero, List.set_cons_succ]
  intro Wd hxd hcd hsd
  try simp only [Act.put, List.setIfInBounds_toArray, List.set_cons_zero, List.set_cons_succ]
  rw [wrC_id] at hxd
  have HXD := Lib.hid hxd
  have HBD := Lib.hid (HBC.out.trans (hcd.below (B := w.heap.size) (fun k e => by have := HXG.out; omega) HBC.out.size))
  have HD0 := Lib.hid (HBCC.out.trans (hcd.below (B := Wb.heap.size) (fun k e => by have := HXG.out; omega) HBCC.out.size))
  clear hxd hcd hsd
  go_wp2_with (refine wpList_runI rfl (some 36) rfl (.int .i64 (nv : Int)) _ (exec_conv nv hnlt (.tmp 35) rfl rfl) ?_; refine Stop.on ?_)
  refine Stop.go ?_
  try simp only [Act.put, List.setIfInBounds_toArray, List.set_cons_zero, List.set_cons_succ]
  obtain ⟨r3, hr3⟩ : ∃ r3, r2.withId y = r3 := ⟨_, rfl⟩
  rw [hr3] at HXD
  have HR3 := Lib.hid hr3
  have HMD := Lib.hid (HM2.out.below HD0.out)
  have HFD := Lib.hid (show ListAt idE Wd r3.rv r3.refs by rw [← hr3]; exact HF2.out.below HD0.out)
  clear hr3 HMC HM2 HF2 HFC HXR HX HBC HBCC HD0 HB2
  go_upto_region 7 with (fail)
  rw [hmod2]
  go_cut [7] from 42 to 53 (fun v7 wc => ∃ (a : Option Addr) (c : Nat), v7 = .slice a (p + 1 + (N - p)) c ∧ Hid (RowsAt wc (.slice a (p + 1 + (N - p)) c) (M.take p ++ [r3] ++ M.drop p)) ∧ Hid (Below w.heap.size w wc))
  case first =>
    obtain ⟨hnn, hcN, hcm, hcz⟩ := HMD.out.own.at_.len
    clear hnn
    have hpc : (p : Int) ≤ (xc : Int) := by omega
    have hcut := cut_R (some ⟨xg, xo, none⟩) N xc p (by omega) hcz
    obtain ⟨vd, hfrom, hld⟩ := from_R HMD.out.own.at_ (show p ≤ N by omega)
    have HTK := Lib.hid (HMD.out.own.at_.take (k := p) (by omega))
    have HLD := Lib.hid hld
    have HLT := Lib.hid (show (M.take p).length = p by rw [List.length_take, HN.out]; omega)
    have HLDR := Lib.hid (show (M.drop p).length = N - p by rw [List.length_drop, HN.out])
    have HSIA := Lib.hid (sizeRowA r3)
    have HCS := Lib.hid (show r3.cells.toArray.size = 83 from by rw [List.size_toArray, r3.cells_length])
    have HR3B := Lib.hid (show ∀ w', Below Wd.heap.size Wd w' → w'.rangeAt xb 0 r3.cells from fun w' hw' => range_below (range_block HXD.out) (Array.getElem?_eq_some_iff.1 HXD.out).1 hw')
    clear hld hcz hcN hcm
    go_wp2_with fail
    refine wp_region_noPanic ?_
    refine wp_region_H (Below Wd.heap.size Wd) (by kernel_rfl) ?_
    have hS0 : (Below Wd.heap.size Wd) Wd.drew := (Below.refl _ _).drew
    obtain ⟨we, hwe⟩ : ∃ we, Wd.drew = we := ⟨_, rfl⟩
    rw [hwe] at hS0 ⊢
    clear hwe
    refine wpAnyH_takeI (i := 1) (v := ?v1) rfl (by kernel_rfl) (by kernel_rfl) (by kernel_rfl) (fun _ _ _ h => h) (yieldsIf_run rfl (fun w' hw' => ?y1)) hS0 ?_
    case y1 => first | (go_simp; rfl) | (go_simp; done) | rfl
    simp only [Act.put, List.setIfInBounds_toArray, List.set_cons_zero, List.set_cons_succ]
    refine wpAnyH_takeI (i := 2) (v := ?v2) rfl (by kernel_rfl) (by kernel_rfl) (by kernel_rfl) (fun _ _ _ h => h) (yieldsIf_run rfl (fun w' hw' => ?y2)) hS0 ?_
    case y2 => first | (go_simp; rfl) | (go_simp; done) | rfl
    simp only [Act.put, List.setIfInBounds_toArray, List.set_cons_zero, List.set_cons_succ]
    refine wpAnyH_takeI (i := 3) (v := .slice (some ⟨xg, xo, none⟩) p xc) rfl (by kernel_rfl) (by kernel_rfl) (by kernel_rfl) (fun _ _ _ h => h) (yieldsIf_run rfl (fun w' hw' => ?y3)) hS0 ?_
    case y3 => first | (go_simp; rfl) | (go_simp; done) | rfl
    simp only [Act.put, List.setIfInBounds_toArray, List.set_cons_zero, List.set_cons_succ]
    refine wpAnyH_takeI (i := 5) (v := .agg r3.cells.toArray) rfl (by kernel_rfl) (by kernel_rfl) (by kernel_rfl) (fun _ _ _ h => h) (yieldsIf_load_mid rfl 43 (.tmp 8) rfl xb 0 rfl r3.cells _ (fun w' hw' => HR3B.out w' hw') Try.underlying43 rfl (sizeRow r3)) hS0 ?_
    simp only [Act.put, List.setIfInBounds_toArray, List.set_cons_zero, List.set_cons_succ]
    refine wpAnyH_takeI (i := 8) (v := ?v4) rfl (by kernel_rfl) (by kernel_rfl) (by kernel_rfl) (fun _ _ _ h => h) (yieldsIf_run rfl (fun w' hw' => ?y4)) hS0 ?_
    case y4 => first | (go_simp; rfl) | (go_simp; done) | rfl
    simp only [Act.put, List.setIfInBounds_toArray, List.set_cons_zero, List.set_cons_succ]
    refine wpAnyH_takeI (i := 9) (v := ?v5) rfl (by kernel_rfl) (by kernel_rfl) (by kernel_rfl) (fun _ _ _ h => h) (yieldsIf_run rfl (fun w' hw' => ?y5)) hS0 ?_
    case y5 => first | (go_simp; rfl) | (go_simp; done) | rfl
    simp only [Act.put, List.setIfInBounds_toArray, List.set_cons_zero, List.set_cons_succ]
    refine wpAnyH_takeI (i := 10) (v := vd) rfl (by kernel_rfl) (by kernel_rfl) (by kernel_rfl) (fun _ _ _ h => h) (yieldsIf_run rfl (fun w' hw' => ?y6)) hS0 ?_
    case y6 => first | (go_simp; rfl) | (go_simp; done) | rfl
    simp only [Act.put, List.setIfInBounds_toArray, List.set_cons_zero, List.set_cons_succ]
    have hS := hS0
    clear hS0 hcut hfrom
    refine wpAnyH_two (i := 0) (j := 6) (by kernel_rfl) rfl rfl rfl rfl (fun K hK => ?_) (fun K hK => ?_)
    · go_simp
      obtain ⟨wen, hwn⟩ : ∃ wen, we.alloc (.cells #[] 43) = wen := ⟨_, rfl⟩
      have hb : Below we.heap.size we wen := hwn ▸ (Below.refl _ _).alloc (Nat.le_refl _) _
      have hE : OwnL rowE wen Wd.heap.size (Value.slice (some ⟨we.heap.size, 0, none⟩) 0 0) [] := hwn ▸ ownL_zero rowE hS.size
      rw [hwn]
      clear hwn
      replace hS := hS.trans (hb.mono hS.size)
      clear hb
      refine hK _ _ hS ?_
      clear hK K
      try simp only [Act.put, List.setIfInBounds_toArray, List.set_cons_zero, List.set_cons_succ]
      refine wpAnyH_two (i := 4) (j := 6) (by kernel_rfl) rfl rfl rfl rfl (fun K hK => ?_) (fun K hK => ?_)
      · refine wp_appL rowE (.tmp 42) (.tmp 45) rfl rfl hE rfl (HTK.out.below hS) (n := 0) (m := p) rfl HLT.out (by omega) hS.size ?_
        intro a4 c4 wenn ho9 hgr hat
        have hb := hE.grown_below hgr hS.size
        rw [Nat.zero_add] at ho9 hat ⊢
        rw [List.nil_append] at ho9
        clear hE hgr hat
        have hE := ho9
        clear ho9
        replace hS := hS.trans hb
        clear hb
        refine hK _ _ hS ?_
        clear hK K
        try simp only [Act.put, List.setIfInBounds_toArray, List.set_cons_zero, List.set_cons_succ]
        refine wpAnyH_do (i := 6) (by kernel_rfl) rfl rfl (fun K hK => ?_)
        refine wp_lit1 23 43 (.tmp 47) rfl r3.cells.toArray rfl Try.underlying23 HSIA.out (by kernel_rfl) (by rw [HCS.out]; decide) (by rw [HCS.out]; decide) ?_
        obtain ⟨wennn, hwn⟩ : ∃ wennn, wenn.alloc (.cells r3.cells.toArray 43) = wennn := ⟨_, rfl⟩
        have hb : Below wenn.heap.size wenn wennn := hwn ▸ one_below rowE wenn r3
        have hL : wennn.heap[wenn.heap.size]? = some (.cells r3.cells.toArray 43 (0, 0)) := by rw [← hwn]; exact heap_alloc_new _ _
        rw [hwn]
        have hD0 : ∀ x, (Value.slice a4 p c4).ownBlock = some x → wenn.heap.size ≠ x := fun x hx e => by have h1 := (hE.lt hx).2; omega
        replace hE := hE.below hb
        obtain ⟨b6, hb6⟩ : ∃ b6, wenn.heap.size = b6 := ⟨_, rfl⟩
        rw [hb6] at hL ⊢
        have hD : ∀ x, (Value.slice a4 p c4).ownBlock = some x → b6 ≠ x := fun x hx => hb6 ▸ hD0 x hx
        clear hD0
        replace hS := hS.trans (hb.mono hS.size)
        clear hb hwn hb6
        refine hK _ _ hS ?_
        clear hK K
        try simp only [Act.put, List.setIfInBounds_toArray, List.set_cons_zero, List.set_cons_succ]
        refine wpAnyH_do (i := 7) (by kernel_rfl) rfl rfl (fun K hK => ?_)
        refine wp_appL rowE (.tmp 46) (.tmp 48) rfl rfl hE rfl (list_block1 rowE hL) (n := p) (m := 1) HLT.out rfl (by omega) hS.size ?_
        intro a7 c7 wennnn ho9 hgr hat
        have hb := hE.grown_below hgr hS.size
        clear hE hgr hat
        have hE := ho9
        clear ho9
        replace hS := hS.trans hb
        clear hb
        clear hL hD
        refine hK _ _ hS ?_
        clear hK K
        try simp only [Act.put, List.setIfInBounds_toArray, List.set_cons_zero, List.set_cons_succ]
        refine wpAnyH_do (i := 11) (by kernel_rfl) rfl rfl (fun K hK => ?_)
        refine wp_appL rowE (.tmp 49) (.tmp 52) rfl rfl hE rfl (HLD.out.below hS) (n := p + 1) (m := N - p) (by rw [List.length_append, HLT.out]; rfl) HLDR.out (by omega) hS.size ?_
        intro a11 c11 wennnnn ho9 hgr hat
        have hb := hE.grown_below hgr hS.size
        clear hE hgr hat
        have hE := ho9
        clear ho9
        replace hS := hS.trans hb
        clear hb
        refine hK _ _ hS ?_
        clear hK K
        try simp only [Act.put, List.setIfInBounds_toArray, List.set_cons_zero, List.set_cons_succ]
        refine wpAnyH_takeI (i := 12) (v := ?v7) rfl (by kernel_rfl) (by kernel_rfl) (by kernel_rfl) (fun _ _ _ h => h) (yieldsIf_run rfl (fun w' hw' => ?y7)) hS ?_
        case y7 => first | (go_simp; rfl) | (go_simp; done) | rfl
        simp only [Act.put, List.setIfInBounds_toArray, List.set_cons_zero, List.set_cons_succ]
        refine wpAnyH_done (by kernel_rfl) ?_ _
        refine NoPanic.normal ?_
        have HEE := Lib.hid (show RowsAt wennnnn _ (M.take p ++ [r3] ++ M.drop p) from ⟨hE.at_, fun R' hR' => by
          have hB := hS
          rw [List.append_assoc, List.mem_append, List.mem_append, List.mem_singleton] at hR'
          rcases hR' with h | rfl | h
          · exact ((HMD.out.refs R' (List.mem_of_mem_take h)).at_).below hB
          · exact HFD.out.below hB
          · exact ((HMD.out.refs R' (List.mem_of_mem_drop h)).at_).below hB⟩)
        have HSS := Lib.hid (HBD.out.trans (hS.mono HBD.out.size))
        clear hE hS
        go_wp2_with fail
        go_meet
        case rel => exact ⟨_, _, rfl, HEE, HSS⟩
      · refine wp_lit1 23 43 (.tmp 47) rfl r3.cells.toArray rfl Try.underlying23 HSIA.out (by kernel_rfl) (by rw [HCS.out]; decide) (by rw [HCS.out]; decide) ?_
        obtain ⟨wenn, hwn⟩ : ∃ wenn, wen.alloc (.cells r3.cells.toArray 43) = wenn := ⟨_, rfl⟩
        have hb : Below wen.heap.size wen wenn := hwn ▸ one_below rowE wen r3
        have hL : wenn.heap[wen.heap.size]? = some (.cells r3.cells.toArray 43 (0, 0)) := by rw [← hwn]; exact heap_alloc_new _ _
        rw [hwn]
        have hD0 : ∀ x, (Value.slice (some ⟨we.heap.size, 0, none⟩) 0 0).ownBlock = some x → wen.heap.size ≠ x := fun x hx e => by have h1 := (hE.lt hx).2; omega
        replace hE := hE.below hb
        obtain ⟨b6, hb6⟩ : ∃ b6, wen.heap.size = b6 := ⟨_, rfl⟩
        rw [hb6] at hL ⊢
        have hD : ∀ x, (Value.slice (some ⟨we.heap.size, 0, none⟩) 0 0).ownBlock = some x → b6 ≠ x := fun x hx => hb6 ▸ hD0 x hx
        clear hD0
        replace hS := hS.trans (hb.mono hS.size)
        clear hb hwn hb6
        refine hK _ _ hS ?_
        clear hK K
        try simp only [Act.put, List.setIfInBounds_toArray, List.set_cons_zero, List.set_cons_succ]
        refine wpAnyH_do (i := 4) (by kernel_rfl) rfl rfl (fun K hK => ?_)
        refine wp_appL rowE (.tmp 42) (.tmp 45) rfl rfl hE rfl (HTK.out.below hS) (n := 0) (m := p) rfl HLT.out (by omega) hS.size ?_
        intro a4 c4 wennn ho9 hgr hat
        have hb := hE.grown_below hgr hS.size
        rw [Nat.zero_add] at ho9 hat ⊢
        rw [List.nil_append] at ho9
        have hlb := (Array.getElem?_eq_some_iff.1 hL).1
        replace hL := (hgr.block b6 hlb (fun e => hD _ e.symm rfl)).trans hL
        replace hD : ∀ x, (Value.slice a4 p c4).ownBlock = some x → b6 ≠ x := fun x hx e => (hat x hx).elim (fun h => hD x h e) (fun h => by omega)
        clear hlb
        clear hE hgr hat
        have hE := ho9
        clear ho9
        replace hS := hS.trans hb
        clear hb
        refine hK _ _ hS ?_
        clear hK K
        try simp only [Act.put, List.setIfInBounds_toArray, List.set_cons_zero, List.set_cons_succ]
        refine wpAnyH_do (i := 7) (by kernel_rfl) rfl rfl (fun K hK => ?_)
        refine wp_appL rowE (.tmp 46) (.tmp 48) rfl rfl hE rfl (list_block1 rowE hL) (n := p) (m := 1) HLT.out rfl (by omega) hS.size ?_
        intro a7 c7 wennnn ho9 hgr hat
        have hb := hE.grown_below hgr hS.size
        clear hE hgr hat
        have hE := ho9
        clear ho9
        replace hS := hS.trans hb
        clear hb
        clear hL hD
        refine hK _ _ hS ?_
        clear hK K
        try simp only [Act.put, List.setIfInBounds_toArray, List.set_cons_zero, List.set_cons_succ]
        refine wpAnyH_do (i := 11) (by kernel_rfl) rfl rfl (fun K hK => ?_)
        refine wp_appL rowE (.tmp 49) (.tmp 52) rfl rfl hE rfl (HLD.out.below hS) (n := p + 1) (m := N - p) (by rw [List.length_append, HLT.out]; rfl) HLDR.out (by omega) hS.size ?_
        intro a11 c11 wennnnn ho9 hgr hat
        have hb := hE.grown_below hgr hS.size
        clear hE hgr hat
        have hE := ho9
        clear ho9
        replace hS := hS.trans hb
        clear hb
        refine hK _ _ hS ?_
        clear hK K
        try simp only [Act.put, List.setIfInBounds_toArray, List.set_cons_zero, List.set_cons_succ]
        refine wpAnyH_takeI (i := 12) (v := ?v8) rfl (by kernel_rfl) (by kernel_rfl) (by kernel_rfl) (fun _ _ _ h => h) (yieldsIf_run rfl (fun w' hw' => ?y8)) hS ?_
        case y8 => first | (go_simp; rfl) | (go_simp; done) | rfl
        simp only [Act.put, List.setIfInBounds_toArray, List.set_cons_zero, List.set_cons_succ]
        refine wpAnyH_done (by kernel_rfl) ?_ _
        refine NoPanic.normal ?_
        have HEE := Lib.hid (show RowsAt wennnnn _ (M.take p ++ [r3] ++ M.drop p) from ⟨hE.at_, fun R' hR' => by
          have hB := hS
          rw [List.append_assoc, List.mem_append, List.mem_append, List.mem_singleton] at hR'
          rcases hR' with h | rfl | h
          · exact ((HMD.out.refs R' (List.mem_of_mem_take h)).at_).below hB
          · exact HFD.out.below hB
          · exact ((HMD.out.refs R' (List.mem_of_mem_drop h)).at_).below hB⟩)
        have HSS := Lib.hid (HBD.out.trans (hS.mono HBD.out.size))
        clear hE hS
        go_wp2_with fail
        go_meet
        case rel => exact ⟨_, _, rfl, HEE, HSS⟩
    · refine wp_lit1 23 43 (.tmp 47) rfl r3.cells.toArray rfl Try.underlying23 HSIA.out (by kernel_rfl) (by rw [HCS.out]; decide) (by rw [HCS.out]; decide) ?_
      obtain ⟨wen, hwn⟩ : ∃ wen, we.alloc (.cells r3.cells.toArray 43) = wen := ⟨_, rfl⟩
      have hb : Below we.heap.size we wen := hwn ▸ one_below rowE we r3
      have hL : wen.heap[we.heap.size]? = some (.cells r3.cells.toArray 43 (0, 0)) := by rw [← hwn]; exact heap_alloc_new _ _
      rw [hwn]
      obtain ⟨b6, hb6⟩ : ∃ b6, we.heap.size = b6 := ⟨_, rfl⟩
      rw [hb6] at hL ⊢
      replace hS := hS.trans (hb.mono hS.size)
      clear hb hwn hb6
      refine hK _ _ hS ?_
      clear hK K
      try simp only [Act.put, List.setIfInBounds_toArray, List.set_cons_zero, List.set_cons_succ]
      refine wpAnyH_do (i := 0) (by kernel_rfl) rfl rfl (fun K hK => ?_)
      go_simp
      obtain ⟨wenn, hwn⟩ : ∃ wenn, wen.alloc (.cells #[] 43) = wenn := ⟨_, rfl⟩
      have hb : Below wen.heap.size wen wenn := hwn ▸ (Below.refl _ _).alloc (Nat.le_refl _) _
      have hE : OwnL rowE wenn Wd.heap.size (Value.slice (some ⟨wen.heap.size, 0, none⟩) 0 0) [] := hwn ▸ ownL_zero rowE hS.size
      rw [hwn]
      clear hwn
      have hD : ∀ x, (Value.slice (some ⟨wen.heap.size, 0, none⟩) 0 0).ownBlock = some x → b6 ≠ x := fun x hx e => by have h1 := (Array.getElem?_eq_some_iff.1 hL).1; have e2 : wen.heap.size = x := Option.some.inj hx; omega
      replace hL := (hb.block _ (Array.getElem?_eq_some_iff.1 hL).1).trans hL
      replace hS := hS.trans (hb.mono hS.size)
      clear hb
      refine hK _ _ hS ?_
      clear hK K
      try simp only [Act.put, List.setIfInBounds_toArray, List.set_cons_zero, List.set_cons_succ]
      refine wpAnyH_do (i := 4) (by kernel_rfl) rfl rfl (fun K hK => ?_)
      refine wp_appL rowE (.tmp 42) (.tmp 45) rfl rfl hE rfl (HTK.out.below hS) (n := 0) (m := p) rfl HLT.out (by omega) hS.size ?_
      intro a4 c4 wennn ho9 hgr hat
      have hb := hE.grown_below hgr hS.size
      rw [Nat.zero_add] at ho9 hat ⊢
      rw [List.nil_append] at ho9
      have hlb := (Array.getElem?_eq_some_iff.1 hL).1
      replace hL := (hgr.block b6 hlb (fun e => hD _ e.symm rfl)).trans hL
      replace hD : ∀ x, (Value.slice a4 p c4).ownBlock = some x → b6 ≠ x := fun x hx e => (hat x hx).elim (fun h => hD x h e) (fun h => by omega)
      clear hlb
      clear hE hgr hat
      have hE := ho9
      clear ho9
      replace hS := hS.trans hb
      clear hb
      refine hK _ _ hS ?_
      clear hK K
      try simp only [Act.put, List.setIfInBounds_toArray, List.set_cons_zero, List.set_cons_succ]
      refine wpAnyH_do (i := 7) (by kernel_rfl) rfl rfl (fun K hK => ?_)
      refine wp_appL rowE (.tmp 46) (.tmp 48) rfl rfl hE rfl (list_block1 rowE hL) (n := p) (m := 1) HLT.out rfl (by omega) hS.size ?_
      intro a7 c7 wennnn ho9 hgr hat
      have hb := hE.grown_below hgr hS.size
      clear hE hgr hat
      have hE := ho9
      clear ho9
      replace hS := hS.trans hb
      clear hb
      clear hL hD
      refine hK _ _ hS ?_
      clear hK K
      try simp only [Act.put, List.setIfInBounds_toArray, List.set_cons_zero, List.set_cons_succ]
      refine wpAnyH_do (i := 11) (by kernel_rfl) rfl rfl (fun K hK => ?_)
      refine wp_appL rowE (.tmp 49) (.tmp 52) rfl rfl hE rfl (HLD.out.below hS) (n := p + 1) (m := N - p) (by rw [List.length_append, HLT.out]; rfl) HLDR.out (by omega) hS.size ?_
      intro a11 c11 wennnnn ho9 hgr hat
      have hb := hE.grown_below hgr hS.size
      clear hE hgr hat
      have hE := ho9
      clear ho9
      replace hS := hS.trans hb
      clear hb
      refine hK _ _ hS ?_
      clear hK K
      try simp only [Act.put, List.setIfInBounds_toArray, List.set_cons_zero, List.set_cons_succ]
      refine wpAnyH_takeI (i := 12) (v := ?v9) rfl (by kernel_rfl) (by kernel_rfl) (by kernel_rfl) (fun _ _ _ h => h) (yieldsIf_run rfl (fun w' hw' => ?y9)) hS ?_
      case y9 => first | (go_simp; rfl) | (go_simp; done) | rfl
      simp only [Act.put, List.setIfInBounds_toArray, List.set_cons_zero, List.set_cons_succ]
      refine wpAnyH_done (by kernel_rfl) ?_ _
      refine NoPanic.normal ?_
      have HEE := Lib.hid (show RowsAt wennnnn _ (M.take p ++ [r3] ++ M.drop p) from ⟨hE.at_, fun R' hR' => by
        have hB := hS
        rw [List.append_assoc, List.mem_append, List.mem_append, List.mem_singleton] at hR'
        rcases hR' with h | rfl | h
        · exact ((HMD.out.refs R' (List.mem_of_mem_take h)).at_).below hB
        · exact HFD.out.below hB
        · exact ((HMD.out.refs R' (List.mem_of_mem_drop h)).at_).below hB⟩)
      have HSS := Lib.hid (HBD.out.trans (hS.mono HBD.out.size))
      clear hE hS
      go_wp2_with fail
      go_meet
      case rel => exact ⟨_, _, rfl, HEE, HSS⟩
  case rest =>
  obtain ⟨fa, fc, rfl, HF, HB3⟩ := hcut
  have HDUP := Lib.hid (show ¬ ((M.take p ++ [r3] ++ M.drop p).map (·.id)).Nodup by
    intro hnd
    have hid : r3.id = M[k].id := by rw [← HR3.out, HRK.out, HY.out]; rfl
    have hmem : M[k] ∈ M.take p ∨ M[k] ∈ M.drop p := by
      have h1 : M[k] ∈ M.take p ++ M.drop p := by rw [List.take_append_drop]; exact List.getElem_mem hkM
      exact List.mem_append.1 h1
    rw [List.append_assoc, List.map_append, List.map_append, List.nodup_append] at hnd
    obtain ⟨_, h2, h3⟩ := hnd
    rcases hmem with h | h
    · exact h3 _ (List.mem_map.2 ⟨_, h, rfl⟩) _ (List.mem_append.2 (.inl (List.mem_map.2 ⟨r3, List.mem_singleton.2 rfl, rfl⟩))) hid.symm
    · rw [List.nodup_append] at h2
      exact h2.2.2 _ (List.mem_map.2 ⟨r3, List.mem_singleton.2 rfl, rfl⟩) _ (List.mem_map.2 ⟨_, h, rfl⟩) hid)
  have HLEN := Lib.hid (show (M.take p ++ [r3] ++ M.drop p).length ≤ 100000 by
    have h1 := HN.out
    rw [List.length_append, List.length_append, List.length_take, List.length_drop]
    have : [r3].length = 1 := rfl
    omega)
  go_wp2_with fail
  refine (Build_any _ _ HF.out HLEN.out).mono ?_
  rintro e Wf (⟨_, rfl, hb⟩ | ⟨hnd, _⟩)
  case inr => exact absurd hnd HDUP.out
  have HF2 := Lib.hid (HF.out.below hb)
  have HB4 := Lib.hid (HB3.out.trans (hb.mono HB3.out.size))
  clear hb
  go_wp2_with fail
  refine (Parents_any _ _ HF2.out HLEN.out).mono ?_
  rintro e Wg (⟨_, rfl, hb⟩ | ⟨hnd, _⟩)
  case inr => exact absurd hnd HDUP.out
  have HB5 := Lib.hid (HB4.out.trans (hb.mono HB4.out.size))
  clear hb
  go_wp2_with fail
  refine known_any.mono ?_
  rintro e Wh ⟨rfl, hb⟩
  have HB6 := Lib.hid (HB5.out.trans (hb.mono HB5.out.size))
  clear hb
  go_wp2_with fail
  exact bodyPost_ret (v := .bool true) (by simp [results, Try.results10, go_sem]) rfl ⟨rfl, HB6.out⟩
end Go.Proofs.Ythfinofmbnfijaa
