/- Lines of a listing are compared; the law Listing. -/
import Derived.Test.YtjjanjhoaiannaaV18
namespace Go.Proofs.Ytjjanjhoaiannaa
open Go.Shelf Go.RowKit Go.Lib Go.Sort Go.ChangeShapes Go.Maps
set_option linter.unusedVariables false
set_option linter.unusedSimpArgs false

theorem keyLits_bool (d : Nat) (b : Bool) : Try.prog.keyLits (d + 1) 4 [.bool b] = some [.bool b] := by
  simp [Program.keyLits, Try.underlying4, Lit.wf]
theorem cellsOf_bool : Try.prog.cellsOf 4 = 1 := by kernel_rfl
theorem cellsOf_Lin : Try.prog.cellsOf 55 = 34 := by kernel_rfl
def LSm (n : LinV) : Prop := -1000000000 ≤ n.dep ∧ n.dep ≤ 1000000000
theorem keyLits_Lin {x : LinV} (h : LSm x) : Try.prog.keyLits 3 55 x.cells = some (x.id.1.map bl ++ [.int .i64 x.dep, .bool x.mis]) := by
  have h0 : (bvs x.id.1).length = 32 := by rw [bvs_length, x.id.2]
  have e0 : (x.cells.drop 0).take 32 = bvs x.id.1 := by unfold LinV.cells; rw [List.drop_zero, List.take_left' h0]
  have e1 : (x.cells.drop 32).take 1 = [.int .i64 x.dep] := by unfold LinV.cells; rw [List.drop_left' h0]; rfl
  have e2 : (x.cells.drop 33).take 1 = [.bool x.mis] := by
    unfold LinV.cells
    rw [show 33 = 32 + 1 from rfl, ← List.drop_drop, List.drop_left' h0]
    rfl
  have b1 : -9223372036854775808 ≤ x.dep ∧ x.dep ≤ 9223372036854775807 := by have := h.1; have := h.2; omega
  unfold Program.keyLits
  rw [Try.underlying55]
  simp only [LinV.cells_length, cellsOf_Lin]
  rw [if_pos ⟨trivial, by decide +kernel⟩]
  simp only [List.mapM_cons, List.mapM_nil, cellsOf_Id, cellsOf_int, cellsOf_bool, e0, e1, e2, keyLits_Id 0 x.id.2, keyLits_i64 1 b1, keyLits_bool 1]
  rfl
theorem keyType_Lin : Try.prog.keyTypeAt 5 55 = true := by kernel_rfl
theorem deep_Lin : EqAt Try.prog 10000 55 := by
  have := run_equalIn_deep 9995 5 55 keyType_Lin
  simpa only [Nat.reduceAdd] using this
theorem formed_Lin (x : LinV) : (Value.agg x.cells.toArray).formed Try.prog 55 = true := by
  unfold Value.formed
  rw [Try.underlying55]
  simp [cellsOf_Lin, x.cells_length]
theorem neq_Lin {x : LinV} (hx : LSm x) (w : World) : (binOp .neq 55 (.agg x.cells.toArray) (.agg x.cells.toArray)).run Try.prog w = .ok (.bool false) w := by
  rw [run_neq_struct (P := Try.prog) w 55 x.cells.toArray x.cells.toArray]
  obtain ⟨r, h1, h2⟩ := deep_Lin w 3 3 (.agg x.cells.toArray) (.agg x.cells.toArray) _ _ (formed_Lin x) (formed_Lin x) (keyLits_Lin hx) (keyLits_Lin hx)
  have e : r = true := h2.2 rfl
  rw [h1, e]
  rfl
theorem guard_Lin : Try.prog.eqGuardType Try.prog.depth 55 = false := by kernel_rfl
theorem sizeLin (n : LinV) : (Try.prog.info? 55).map (·.size) = some n.cells.length := by rw [n.cells_length]; kernel_rfl
theorem lin_small {S : List RowV} {c : Par} {F : List NodeV} (h : Good S c F) (hF : F.length < 1000000) : ∀ n ∈ F, LSm (linN n) := fun n hn => by
  obtain ⟨j, hj, rfl⟩ := List.mem_iff_getElem.1 hn
  have h2 := chk_dep h.check j hj
  show -1000000000 ≤ F[j].depth ∧ F[j].depth ≤ 1000000000
  omega
theorem lin_cells {w : World} {g off : Nat} {n : LinV} (h : w.rangeAt g off n.cells) : w.rangeAt g off (bvs n.id.1) ∧ w.cell? ⟨g, off + 32, none⟩ = some (.int .i64 n.dep) ∧ w.cell? ⟨g, off + 33, none⟩ = some (.bool n.mis) := by
  have key : ∀ j u, [Value.int .i64 n.dep, .bool n.mis][j]? = some u → w.cell? ⟨g, off + (32 + j), none⟩ = some u := fun j u hu => by
    refine h (32 + j) u ?_
    unfold LinV.cells
    rw [List.getElem?_append_right (by rw [bvs_length, n.id.2]; omega), bvs_length, n.id.2, Nat.add_sub_cancel_left]
    exact hu
  exact ⟨fun j u hu => h j u (by
    unfold LinV.cells
    rw [List.getElem?_append_left (List.getElem?_eq_some_iff.1 hu).1]
    exact hu), key 0 _ rfl, key 1 _ rfl⟩
theorem mark_at {w : World} {a : Option Addr} {n c i : Nat} {M : List Bool} (h : ListAt boolE w (.slice a n c) M) (hi : i < M.length) : ∃ g o, a = some ⟨g, o, none⟩ ∧ ∀ w', Below w.heap.size w w' → w'.cell? ⟨g, o + i, none⟩ = some (.bool M[i]) := by
  obtain ⟨g, o, e, hg, hr⟩ := h.get hi
  refine ⟨g, o, e, fun w' hw' => ?_⟩
  have h1 : w'.rangeAt g (o + i * boolE.k) (boolE.enc M[i]) := range_below (show w.rangeAt g (o + i * boolE.k) (boolE.enc M[i]) from hr) hg hw'
  have h2 := h1 0 (.bool M[i]) rfl
  have e3 : (⟨g, o + i * boolE.k, none⟩ : Addr).add 0 = ⟨g, o + i, none⟩ := by
    rw [show boolE.k = 1 from rfl, Nat.mul_one]; rfl
  rw [← e3]
  exact h2

set_option maxRecDepth 100000 in
set_option maxHeartbeats 2000000 in
theorem Listing_law {w : World} (v u : Value) (L : List RowV) (G : List IdB) (now : Int) (hv : RowsAt w v L) (hu : ListAt idE w u G) :
    Calls Try.prog 7 #[v, u, .int .i64 now] w (fun e w' => e = .returned (.bool true) ∧ Below w.heap.size w w') := by
  obtain ⟨va, vc, rfl⟩ := hv.l.form
  obtain ⟨ua, uc, rfl⟩ := hu.form
  obtain ⟨N, hN⟩ : ∃ N, L.length = N := ⟨_, rfl⟩
  have hlm : L.length ≤ 9223372036854775807 := by
    obtain ⟨a, c, e, h1, h2, _⟩ := hv.l.ex
    unfold maxLen at h2
    omega
  have HLM := Lib.hid hlm
  rw [hN] at hv ⊢
  have HV := Lib.hid hv
  have HU := Lib.hid hu
  have HN := Lib.hid hN
  clear hv hu hN hlm
  go_enter Try.func7, Try.ntmps7
  go_wp2_with fail
  refine vknown_any.mono ?_
  rintro e wa ⟨rfl, hba⟩
  have HBA := Lib.hid hba
  clear hba
  go_wp2_with fail
  refine (few_any _ _ L G (HN.out.symm ▸ HV.out.below HBA.out) (HU.out.below HBA.out) HLM.out).mono ?_
  rintro e wb ⟨rfl, hbb⟩
  have HBB := Lib.hid (HBA.out.trans (hbb.mono HBA.out.size))
  clear hbb
  obtain ⟨bf, hbf⟩ : ∃ bf, fewB L G = bf := ⟨_, rfl⟩
  rw [hbf]
  have HFEW := Lib.hid hbf
  clear hbf
  cases bf with
  | false =>
    go_wp2_with fail
    refine vknown_any.mono ?_
    rintro e wz ⟨rfl, hbz⟩
    have HBZ := Lib.hid hbz
    clear hbz
    go_wp2_with fail
    exact bodyPost_ret (v := .bool true) (by simp [results, Try.results7, go_sem]) rfl ⟨rfl, (HBB.out).trans (HBZ.out.mono (HBB.out).size)⟩
  | true =>
  obtain ⟨hf1, hf2, hf3⟩ := few_iff.1 HFEW.out
  have HF1 := Lib.hid hf1
  have HF2 := Lib.hid hf2
  have HF3 := Lib.hid hf3
  have HLN := Lib.hid (show L.length < 1000000000 by omega)
  have HGN := Lib.hid (show G.length < 1000000000 by omega)
  clear hf1 hf2 hf3
  go_wp2_with fail
  refine (check_any _ L (HN.out.symm ▸ HV.out.below HBB.out) HLN.out).mono ?_
  rintro e wc ⟨rfl, hbc⟩
  have HBC := Lib.hid ((HBB.out).trans (hbc.mono (HBB.out).size))
  clear hbc
  obtain ⟨ck, hck⟩ : ∃ ck, chkL L = ck := ⟨_, rfl⟩
  rw [hck]
  have HCHK := Lib.hid hck
  clear hck
  rcases Decidable.em (¬ ck = 0) with hc0 | hc0
  · have hcb : (ck == 0) = false := by simpa using hc0
    have hcb2 : (ck != 0) = true := by simp [bne, hcb]
    go_wp2_with fail
    refine vknown_any.mono ?_
    rintro e wz ⟨rfl, hbz⟩
    have HBZ := Lib.hid hbz
    clear hbz
    go_wp2_with fail
    exact bodyPost_ret (v := .bool true) (by simp [results, Try.results7, go_sem]) rfl ⟨rfl, (HBC.out).trans (HBZ.out.mono (HBC.out).size)⟩
  obtain rfl : ck = 0 := Decidable.of_not_not hc0
  clear hc0
  obtain ⟨hlen, hdt, hrf, hnd⟩ := chk_zero HCHK.out
  have HDT := Lib.hid hdt
  have HRF := Lib.hid hrf
  have HND := Lib.hid hnd
  clear hlen hdt hrf hnd
  have hN30 : N ≤ 30 := by have := HF2.out; have := HN.out; omega
  have HL4 := Lib.hid (show L.length ≤ 4096 by have := HF2.out; omega)
  go_wp2_with fail
  refine (shown_any _ _ L G now (HN.out.symm ▸ HV.out.below HBC.out) (HU.out.below HBC.out) HL4.out HGN.out HND.out HDT.out HRF.out).mono ?_
  rintro e W8 ⟨mh, rfl, hmh, hb8⟩
  obtain ⟨ma, mc, rfl⟩ := hmh.form
  have HMH := Lib.hid hmh.at_
  have HB8 := Lib.hid (HBC.out.trans (hb8.mono HBC.out.size))
  have HV8 := Lib.hid (HV.out.below HB8.out)
  obtain ⟨T, hT⟩ : ∃ T, L.map (shB L G now) = T := ⟨_, rfl⟩
  rw [hT] at HMH ⊢
  have HTL := Lib.hid (show T.length = N by rw [← hT, List.length_map, HN.out])
  have HTA := Lib.hid (show ∀ i (h : i < L.length) (h' : i < T.length), T[i] = shB L G now L[i] from fun i h h' => by subst hT; rw [List.getElem_map])
  have HO0 := Lib.hid (show OwnL rowE W8 W8.heap.size (.slice none 0 0) ((L.take 0).filter (shB L G now)) from ownL_nil rowE W8 _)
  have HX0 := Lib.hid (Below.refl W8.heap.size W8)
  clear hmh hb8 hT
  rw [HTL.out] at HMH ⊢
  go_wp2_with fail
  go_loopw [8, 9] (fun rv iv wr => ∃ (i k : Nat) (ra : Option Addr) (rc : Nat), i ≤ N ∧ k ≤ i ∧ iv = .int .i64 (i : Int) ∧ rv = .slice ra k rc ∧ Hid (OwnL rowE wr W8.heap.size (.slice ra k rc) ((L.take i).filter (shB L G now))) ∧ Hid (Below W8.heap.size W8 wr)) (fun _ iv _ => N - (intOf iv).toNat)
  case atStart => exact ⟨0, 0, none, 0, Nat.zero_le _, Nat.le_refl _, rfl, rfl, HO0, HX0⟩
  case round =>
    obtain ⟨i, k, ra, rc, hi, hk, rfl, rfl, HO, HB⟩ := hrel
    obtain ⟨W0, rfl⟩ : ∃ W0, W0 = wr := ⟨_, rfl⟩
    clear HO0 HX0
    have HKL := Lib.hid (show ((L.take i).filter (shB L G now)).length = k by obtain ⟨a', c', e⟩ := HO.out.form; cases e; rfl)
    by_cases hlt : i < N
    case neg =>
      obtain rfl : N = i := by omega
      obtain ⟨S, hS⟩ : ∃ S, L.filter (shB L G now) = S := ⟨_, rfl⟩
      have hS' : (L.take N).filter (shB L G now) = S := by rw [List.take_of_length_le (by rw [HN.out]; exact Nat.le_refl _), hS]
      rw [hS'] at HO HKL
      have HS := Lib.hid hS
      have HSN := Lib.hid (show (S.map (·.id)).Nodup by rw [← hS]; exact filter_nodup _ HND.out)
      have HBW := Lib.hid (HB8.out.trans (HB.out.mono HB8.out.size))
      have HSR := Lib.hid (show RowsAt W0 (.slice ra k rc) S from ⟨HO.out.at_, fun R hR => (HV.out.below HBW.out).r R (by
        have h1 := HS.out
        rw [← h1] at hR
        exact (List.mem_filter.1 hR).1)⟩)
      clear hS hS' HO HB HMH HV8
      go_wp2_with fail
      refine (Build_any _ S HSR.out (by rw [HKL.out]; omega)).mono ?_
      rintro e W3 (⟨hno, _⟩ | ⟨_, fv, c, rfl, hc, hof, hb⟩)
      case inl => exact absurd HSN.out hno
      have hgood := good HSN.out hc
      have hFl := forest_few HSN.out hc
      obtain ⟨F, hF⟩ : ∃ F, forestV S c = F := ⟨_, rfl⟩
      rw [hF] at hof hgood hFl
      rw [HKL.out] at hFl
      obtain ⟨fa, fc, rfl⟩ := hof.form
      obtain ⟨n, hn⟩ : ∃ n, F.length = n := ⟨_, rfl⟩
      rw [hn] at hof hFl ⊢
      have HFN := Lib.hid hn
      have HFE := Lib.hid hF
      have HC := Lib.hid hc
      have HF := Lib.hid hof.at_
      have HLS := Lib.hid (lin_small hgood (by rw [hn]; omega))
      have HRG := Lib.hid (show ∀ m ∈ F, -1 ≤ m.row from fun m hm => by rw [hgood.row m hm]; exact idxL_ge S m.id)
      have HB3 := Lib.hid (HBW.out.trans (hb.mono HBW.out.size))
      clear hc hF hof hb hn hgood HBW HSR
      go_wp2_with fail
      refine (Listing_yes _ _ L G now (HN.out.symm ▸ HV.out.below HB3.out) (HU.out.below HB3.out) HL4.out HGN.out HCHK.out).mono ?_
      rintro e W4 ⟨xv, c2, rfl, hc2, hox, hb⟩
      rw [HS.out] at hc2 hox
      obtain rfl := HC.out.uniq hc2
      rw [HFE.out] at hox
      obtain ⟨xa, xc, rfl⟩ := hox.form
      rw [List.length_map, HFN.out] at hox ⊢
      have HX := Lib.hid hox.at_
      have HF4 := Lib.hid (HF.out.below hb)
      have HB4 := Lib.hid (HB3.out.trans (hb.mono HB3.out.size))
      have hnn : ((n : Int) != (n : Int)) = false := by simp
      have hzz : ((0 : Int) != 0) = false := by decide
      clear hc2 hox hb HB3 HF
      go_wp2_with fail
      have HZ0 := Lib.hid (Below.refl W4.heap.size W4)
      go_loopw [14] (fun jv wr => ∃ j : Nat, j ≤ n ∧ jv = .int .i64 (j : Int) ∧ Hid (Below W4.heap.size W4 wr)) (fun jv _ => n - (intOf jv).toNat)
      case atStart => exact ⟨0, Nat.zero_le _, rfl, HZ0⟩
      case round =>
        obtain ⟨j, hj, rfl, HZ⟩ := hrel
        obtain ⟨W1, rfl⟩ : ∃ W1, W1 = wr := ⟨_, rfl⟩
        clear HZ0
        by_cases hlj : j < n
        case neg =>
          obtain rfl : n = j := by omega
          have HBZ := Lib.hid (HB4.out.trans (HZ.out.mono HB4.out.size))
          go_wp2_with fail
          exact bodyPost_ret (v := .bool true) (by simp [results, Try.results7, go_sem]) rfl ⟨rfl, HBZ.out⟩
        have hjI : (j : Int) < (n : Int) := by omega
        have hjF : j < F.length := by rw [HFN.out]; exact hlj
        obtain ⟨nd, hnd⟩ : ∃ nd, F[j] = nd := ⟨_, rfl⟩
        obtain ⟨gf, of, e9, hgf, hrf⟩ := HF4.out.get hjF
        subst e9
        rw [hnd] at hrf
        obtain ⟨gx, ox, e9, hgx, hrx⟩ := HX.out.get (i := j) (by rw [List.length_map]; exact hjF)
        subst e9
        rw [List.getElem_map, hnd] at hrx
        have HSM := Lib.hid (HLS.out nd (by rw [← hnd]; exact List.getElem_mem hjF))
        have hrow := HRG.out nd (by rw [← hnd]; exact List.getElem_mem hjF)
        obtain ⟨ln, hln⟩ : ∃ ln, linN nd = ln := ⟨_, rfl⟩
        rw [hln] at hrx HSM
        have hrf' : W4.rangeAt gf (of + j * 35) nd.cells := hrf
        have hrx' : W4.rangeAt gx (ox + j * 34) ln.cells := hrx
        have HRR := Lib.hid (show ∀ w', Below W1.heap.size W1 w' → w'.rangeAt gx (ox + j * 34) ln.cells ∧ w'.rangeAt gf (of + j * 35) (bvs nd.id.1) ∧ w'.cell? ⟨gf, of + j * 35 + 34, none⟩ = some (.int .i64 nd.depth) ∧ w'.cell? ⟨gf, of + j * 35 + 32, none⟩ = some (.int .i64 nd.row) from fun w' hw' => by
          have hbb := HZ.out.trans (hw'.mono HZ.out.size)
          have h1 := range_below hrf' hgf hbb
          obtain ⟨m1, _, m3⟩ := node_mid h1
          exact ⟨range_below hrx' hgx hbb, node_id h1, m3, m1⟩)
        obtain ⟨x, hx⟩ : ∃ x, nd.id = x := ⟨_, rfl⟩
        obtain ⟨d, hd⟩ : ∃ d, nd.depth = d := ⟨_, rfl⟩
        obtain ⟨r, hr⟩ : ∃ r, nd.row = r := ⟨_, rfl⟩
        rw [hx, hd, hr] at HRR
        rw [hr] at hrow
        have HLB := Lib.hid (show (⟨x, d, decide (r < 0)⟩ : LinV) = ln by
          rw [← hln]
          unfold linN
          rw [hx, hd, hr]
          have e : (r == -1) = decide (r < 0) := by
            rw [Bool.eq_iff_iff, decide_eq_true_eq, beq_iff_eq]
            omega
          rw [e])
        obtain ⟨bm, hbm⟩ : ∃ bm, decide (r < 0) = bm := ⟨_, rfl⟩
        rw [hbm] at HLB
        have HBM := Lib.hid hbm
        clear hnd hrf hrx hrf' hrx' hgf hgx hx hd hr hln hrow
        go_wp2_with fail
        refine wp_region_noPanic ?_
        refine wp_region_H (Below W1.heap.size W1) (by kernel_rfl) ?_
        have hS0 : (Below W1.heap.size W1) W1.drew := (Below.refl _ _).drew
        obtain ⟨wd, hwd⟩ : ∃ wd, W1.drew = wd := ⟨_, rfl⟩
        rw [hwd] at hS0  ⊢
        clear hwd
        refine wpAnyH_takeI (i := 0) (v := ?v1) rfl (by kernel_rfl) (by kernel_rfl) (by kernel_rfl) (fun _ _ _ h => h) (yieldsIf_run rfl (fun w' hw' => ?y1)) hS0 ?_
        case y1 => first | (go_simp; rfl) | (go_simp; done) | rfl
        simp only [Act.put, List.setIfInBounds_toArray, List.set_cons_zero, List.set_cons_succ]
        refine wpAnyH_takeI (i := 1) (v := ?v2) rfl (by kernel_rfl) (by kernel_rfl) (by kernel_rfl) (fun _ _ _ h => h) (yieldsIf_run rfl (fun w' hw' => ?y2)) hS0 ?_
        case y2 => first | (go_simp; rfl) | (go_simp; done) | rfl
        simp only [Act.put, List.setIfInBounds_toArray, List.set_cons_zero, List.set_cons_succ]
        refine wpAnyH_takeI (i := 2) (v := ?v3) rfl (by kernel_rfl) (by kernel_rfl) (by kernel_rfl) (fun _ _ _ h => h) (yieldsIf_run rfl (fun w' hw' => ?y3)) hS0 ?_
        case y3 => first | (go_simp; rfl) | (go_simp; done) | rfl
        simp only [Act.put, List.setIfInBounds_toArray, List.set_cons_zero, List.set_cons_succ]
        refine wpAnyH_takeI (i := 3) (v := .agg (ln.cells).toArray) rfl (by kernel_rfl) (by kernel_rfl) (by kernel_rfl) (fun _ _ _ h => h) (yieldsIf_load_mid rfl 55 (.tmp 80) rfl gx (ox + j * 34) rfl (ln.cells) _ (fun w' hw' => (HRR.out w' hw').1) Try.underlying55 rfl (sizeLin ln)) hS0 ?_
        simp only [Act.put, List.setIfInBounds_toArray, List.set_cons_zero, List.set_cons_succ]
        refine wpAnyH_takeI (i := 4) (v := ?v4) rfl (by kernel_rfl) (by kernel_rfl) (by kernel_rfl) (fun _ _ _ h => h) (yieldsIf_run rfl (fun w' hw' => ?y4)) hS0 ?_
        case y4 => first | (go_simp; rfl) | (go_simp; done) | rfl
        simp only [Act.put, List.setIfInBounds_toArray, List.set_cons_zero, List.set_cons_succ]
        refine wpAnyH_takeI (i := 5) (v := ?v5) rfl (by kernel_rfl) (by kernel_rfl) (by kernel_rfl) (fun _ _ _ h => h) (yieldsIf_run rfl (fun w' hw' => ?y5)) hS0 ?_
        case y5 => first | (go_simp; rfl) | (go_simp; done) | rfl
        simp only [Act.put, List.setIfInBounds_toArray, List.set_cons_zero, List.set_cons_succ]
        refine wpAnyH_takeI (i := 6) (v := ?v6) rfl (by kernel_rfl) (by kernel_rfl) (by kernel_rfl) (fun _ _ _ h => h) (yieldsIf_run rfl (fun w' hw' => ?y6)) hS0 ?_
        case y6 => first | (go_simp; rfl) | (go_simp; done) | rfl
        simp only [Act.put, List.setIfInBounds_toArray, List.set_cons_zero, List.set_cons_succ]
        refine wpAnyH_takeI (i := 7) (v := ?v7) rfl (by kernel_rfl) (by kernel_rfl) (by kernel_rfl) (fun _ _ _ h => h) (yieldsIf_run rfl (fun w' hw' => ?y7)) hS0 ?_
        case y7 => first | (go_simp; rfl) | (go_simp; done) | rfl
        simp only [Act.put, List.setIfInBounds_toArray, List.set_cons_zero, List.set_cons_succ]
        refine wpAnyH_takeI (i := 8) (v := .agg (bvs x.1).toArray) rfl (by kernel_rfl) (by kernel_rfl) (by kernel_rfl) (fun _ _ _ h => h) (yieldsIf_load_mid rfl 31 (.tmp 85) rfl gf (of + j * 35) rfl (bvs x.1) _ (fun w' hw' => (HRR.out w' hw').2.1) Try.underlying31 rfl (sizeId x)) hS0 ?_
        simp only [Act.put, List.setIfInBounds_toArray, List.set_cons_zero, List.set_cons_succ]
        refine wpAnyH_takeI (i := 9) (v := ?v8) rfl (by kernel_rfl) (by kernel_rfl) (by kernel_rfl) (fun _ _ _ h => h) (yieldsIf_run rfl (fun w' hw' => ?y8)) hS0 ?_
        case y8 => first | (go_simp; rfl) | (go_simp; done) | rfl
        simp only [Act.put, List.setIfInBounds_toArray, List.set_cons_zero, List.set_cons_succ]
        refine wpAnyH_takeI (i := 10) (v := ?v9) rfl (by kernel_rfl) (by kernel_rfl) (by kernel_rfl) (fun _ _ _ h => h) (yieldsIf_run rfl (fun w' hw' => ?y9)) hS0 ?_
        case y9 => first | (go_simp; rfl) | (go_simp; done) | rfl
        simp only [Act.put, List.setIfInBounds_toArray, List.set_cons_zero, List.set_cons_succ]
        refine wpAnyH_takeI (i := 11) (v := ?v10) rfl (by kernel_rfl) (by kernel_rfl) (by kernel_rfl) (fun _ _ _ h => h) (yieldsIf_run rfl (fun w' hw' => ?y10)) hS0 ?_
        case y10 => first | (go_simp; rfl) | (go_simp; done) | rfl
        simp only [Act.put, List.setIfInBounds_toArray, List.set_cons_zero, List.set_cons_succ]
        refine wpAnyH_takeI (i := 12) (v := ?v11) rfl (by kernel_rfl) (by kernel_rfl) (by kernel_rfl) (fun _ _ _ h => h) (yieldsIf_run rfl (fun w' hw' => ?y11)) hS0 ?_
        case y11 => first | (go_simp; rfl) | (go_simp; done) | rfl
        simp only [Act.put, List.setIfInBounds_toArray, List.set_cons_zero, List.set_cons_succ]
        refine wpAnyH_takeI (i := 13) (v := ?v12) rfl (by kernel_rfl) (by kernel_rfl) (by kernel_rfl) (fun _ _ _ h => h) (yieldsIf_run rfl (fun w' hw' => ?y12)) hS0 ?_
        case y12 => (obtain ⟨_, _, h3, h4⟩ := HRR.out w' hw'; clear hw'; first | (go_simp; rfl) | (go_simp; done))
        simp only [Act.put, List.setIfInBounds_toArray, List.set_cons_zero, List.set_cons_succ]
        refine wpAnyH_takeI (i := 14) (v := ?v13) rfl (by kernel_rfl) (by kernel_rfl) (by kernel_rfl) (fun _ _ _ h => h) (yieldsIf_run rfl (fun w' hw' => ?y13)) hS0 ?_
        case y13 => first | (go_simp; rfl) | (go_simp; done) | rfl
        simp only [Act.put, List.setIfInBounds_toArray, List.set_cons_zero, List.set_cons_succ]
        refine wpAnyH_takeI (i := 15) (v := ?v14) rfl (by kernel_rfl) (by kernel_rfl) (by kernel_rfl) (fun _ _ _ h => h) (yieldsIf_run rfl (fun w' hw' => ?y14)) hS0 ?_
        case y14 => first | (go_simp; rfl) | (go_simp; done) | rfl
        simp only [Act.put, List.setIfInBounds_toArray, List.set_cons_zero, List.set_cons_succ]
        refine wpAnyH_takeI (i := 16) (v := ?v15) rfl (by kernel_rfl) (by kernel_rfl) (by kernel_rfl) (fun _ _ _ h => h) (yieldsIf_run rfl (fun w' hw' => ?y15)) hS0 ?_
        case y15 => first | (go_simp; rfl) | (go_simp; done) | rfl
        simp only [Act.put, List.setIfInBounds_toArray, List.set_cons_zero, List.set_cons_succ]
        refine wpAnyH_takeI (i := 17) (v := ?v16) rfl (by kernel_rfl) (by kernel_rfl) (by kernel_rfl) (fun _ _ _ h => h) (yieldsIf_run rfl (fun w' hw' => ?y16)) hS0 ?_
        case y16 => first | (go_simp; rfl) | (go_simp; done) | rfl
        simp only [Act.put, List.setIfInBounds_toArray, List.set_cons_zero, List.set_cons_succ]
        refine wpAnyH_takeI (i := 18) (v := ?v17) rfl (by kernel_rfl) (by kernel_rfl) (by kernel_rfl) (fun _ _ _ h => h) (yieldsIf_run rfl (fun w' hw' => ?y17)) hS0 ?_
        case y17 => (obtain ⟨_, _, h3, h4⟩ := HRR.out w' hw'; clear hw'; first | (go_simp; rfl) | (go_simp; done))
        simp only [Act.put, List.setIfInBounds_toArray, List.set_cons_zero, List.set_cons_succ]
        refine wpAnyH_takeI (i := 19) (v := .bool bm) rfl (by kernel_rfl) (by kernel_rfl) (by kernel_rfl) (fun _ _ _ h => h) (yieldsIf_run rfl (fun w' hw' => ?y18)) hS0 ?_
        case y18 => (have h9 := HBM.out; clear hw'; first | (go_simp; rfl) | (go_simp; done))
        simp only [Act.put, List.setIfInBounds_toArray, List.set_cons_zero, List.set_cons_succ]
        refine wpAnyH_takeI (i := 20) (v := .agg ln.cells.toArray) rfl (by kernel_rfl) (by kernel_rfl) (by kernel_rfl) (fun _ _ _ h => h) (yieldsIf_run rfl (fun w' hw' => exec_buildL 55 _ rfl [(0, .agg (bvs x.1).toArray), (1, .int .i64 d), (2, .bool bm)] rfl (by rw [← HLB.out]; exact build_lin ⟨x, d, bm⟩ _))) hS0 ?_
        simp only [Act.put, List.setIfInBounds_toArray, List.set_cons_zero, List.set_cons_succ]
        refine wpAnyH_takeI (i := 21) (v := .bool false) rfl (by kernel_rfl) (by kernel_rfl) (by kernel_rfl) (fun _ _ _ h => h) (yieldsIf_run rfl (fun w' hw' => op_neq 55 (.tmp 81) (.tmp 98) 55 rfl rfl rfl guard_Lin (neq_Lin HSM.out _))) hS0 ?_
        simp only [Act.put, List.setIfInBounds_toArray, List.set_cons_zero, List.set_cons_succ]
        refine wpAnyH_done (by kernel_rfl) ?_ _
        refine NoPanic.normal ?_
        have HZN := Lib.hid (HZ.out.trans (hS0.mono HZ.out.size))
        go_wp2_with fail
        go_roundw
        case rel => exact ⟨j + 1, by omega, by go_num, HZN⟩
        case measure => simp [intOf] <;> omega
    have hiI : (i : Int) < (N : Int) := by omega
    have hiL : i < L.length := by rw [HN.out]; exact hlt
    have hiT : i < T.length := by rw [HTL.out]; exact hlt
    obtain ⟨gm, om, e9, hmc⟩ := mark_at HMH.out hiT
    subst e9
    have hc1 := hmc W0 HB.out
    obtain ⟨R, hR⟩ : ∃ R, L[i] = R := ⟨_, rfl⟩
    have hTR := HTA.out i hiL hiT
    rw [hTR, hR] at hc1
    obtain ⟨b, hb⟩ : ∃ b, shB L G now R = b := ⟨_, rfl⟩
    rw [hb] at hc1
    have HNX := Lib.hid (show (L.take (i + 1)).filter (shB L G now) = (L.take i).filter (shB L G now) ++ (if b = true then [R] else []) by
      rw [List.take_succ_eq_append_getElem hiL, List.filter_append, hR]
      congr 1
      rw [List.filter_cons, hb]
      rfl)
    clear hTR hb hmc
    cases b with
    | false =>
      have HON := Lib.hid (show OwnL rowE W0 W8.heap.size (.slice ra k rc) ((L.take (i + 1)).filter (shB L G now)) by rw [HNX.out]; simpa using HO.out)
      go_wp2_with fail
      go_roundw
      case rel => exact ⟨i + 1, k, ra, rc, by omega, by omega, by go_num, rfl, HON, HB⟩
      case measure => simp [intOf] <;> omega
    | true =>
      obtain ⟨g, off, n9, c9, e9, hr, hrl⟩ := row_at (HV8.out.below HB.out) hiL
      cases e9
      rw [hR] at hr
      have HRR := Lib.hid hr
      clear hr hrl hR
      go_wp2_with (with_reducible refine wpList_load_mid rfl 36 (.tmp 46) rfl g (off + i * 83) rfl R.cells _ HRR.out Try.underlying36 rfl (sizeRow R) ?_; refine Stop.on ?_)
      refine Stop.go ?_
      try simp only [Act.put, List.setIfInBounds_toArray, List.set_cons_zero, List.set_cons_succ]
      go_wp2_with (refine wpList_litsV rowE rfl (some 48) rfl 1 _ rfl [R] rfl rfl (by decide) (by decide) ?_; refine Stop.on ?_)
      refine Stop.go ?_
      try simp only [Act.put, List.setIfInBounds_toArray, List.set_cons_zero, List.set_cons_succ]
      intro Wl xl bl sl
      try simp only [Act.put, List.setIfInBounds_toArray, List.set_cons_zero, List.set_cons_succ]
      have HLL := Lib.hid (show ListAt rowE Wl (.slice (some ⟨W0.heap.size, 0, none⟩) 1 1) [R] from list_block1 rowE (by simpa using xl))
      have HOl := Lib.hid (HO.out.below bl)
      have HBl := Lib.hid (HB.out.trans (bl.mono HB.out.size))
      clear xl bl sl
      go_wp2_with (refine wpList_appL rowE rfl (.tmp 43) (.tmp 48) rfl rfl HOl.out rfl HLL.out (n := k) (m := 1) HKL.out rfl (by omega) HBl.out.size ?_; refine Stop.on ?_)
      refine Stop.go ?_
      try simp only [Act.put, List.setIfInBounds_toArray, List.set_cons_zero, List.set_cons_succ]
      intro a5 c5 W5 ho5 hg5 hat5
      try simp only [Act.put, List.setIfInBounds_toArray, List.set_cons_zero, List.set_cons_succ]
      have HON := Lib.hid (show OwnL rowE W5 W8.heap.size (.slice a5 (k + 1) c5) ((L.take (i + 1)).filter (shB L G now)) by rw [HNX.out]; exact ho5)
      have HBN := Lib.hid (HBl.out.trans (HOl.out.grown_below hg5 HBl.out.size))
      clear ho5 hg5 hat5
      go_wp2_with fail
      go_roundw
      case rel => exact ⟨i + 1, k + 1, a5, c5, by omega, by omega, by go_num, rfl, HON, HBN⟩
      case measure => simp [intOf] <;> omega
end Go.Proofs.Ytjjanjhoaiannaa
