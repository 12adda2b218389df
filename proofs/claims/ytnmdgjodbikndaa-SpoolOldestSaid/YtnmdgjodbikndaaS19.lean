/- The law's run: operations on a new spool and on the reference. -/
import Derived.Test.YtnmdgjodbikndaaS18
import Derived.Test.YtnmdgjodbikndaaRegion6
namespace Go.Proofs.Ytnmdgjodbikndaa
open Go.RowKit
set_option linter.unusedVariables false
set_option linter.unusedSimpArgs false

theorem results_tmp_cell_tmp {P : Program} {fn : Func} {q p u : Tmp} {ty : TypeId} (h : fn.results = #[.tmp q, .cell p ty, .tmp u]) (tmps : Array Value) (w : World) (g : Nat) (t : TypeId) (cs : Array Value) (fr : Nat × Nat) (d : TypeDesc)
    (hp : tmps.getD p undef = .pointer (some ⟨g, 0, none⟩)) (hg : w.heap[g]? = some (.cells cs t fr)) (hu : P.underlying ty = some d) (hd : (match d with | .struct _ | .array _ _ => true | _ => false) = true) (hi : (P.info? ty).map (·.size) = some cs.size) :
    (results fn tmps).run P w = .ok (.tuple #[tmps.getD q undef, .agg cs, tmps.getD u undef]) w := by
  have hp' : tmps[p]?.getD undef = .pointer (some ⟨g, 0, none⟩) := by simpa using hp
  simp only [results, h]
  simp [Sem.run_bind, Result.andThen, hp', asAddr, run_loadVar_row w g t ty cs fr d hg hu hd hi]
theorem run_next (S : SpD) (l : List OpD) {i : Nat} (hi : i < l.length) : runS S (l.take (i + 1)) = stepS (runS S (l.take i)) l[i] := by
  unfold runS
  rw [List.take_succ_eq_append_getElem hi, List.foldl_append]
  rfl
theorem run_ok : ∀ (l : List OpD) (S : SpD), S.Ok → (runS S l).Ok ∧ (runS S l).budget = S.budget ∧ (runS S l).next ≤ S.next + (l.length : Int) ∧ (runS S l).list.length ≤ S.list.length + l.length
  | [], S, h => ⟨h, rfl, by show S.next ≤ _; simp, by show S.list.length ≤ _; simp⟩
  | o :: l, S, h => by
    have h1 := step_ok o h
    have h2 := run_ok l (stepS S o) h1.1
    have e : runS S (o :: l) = runS (stepS S o) l := rfl
    rw [e]
    refine ⟨h2.1, h2.2.1.trans h1.2.1, ?_, ?_⟩
    · rw [List.length_cons]; have := h2.2.2.1; have := h1.2.2.1; omega
    · rw [List.length_cons]; have := h2.2.2.2; have := h1.2.2.2; omega
/-- What run leaves. -/
def RunPost (w : World) (n : Int) (l : List OpD) (e : Ending) (w' : World) : Prop := Below w.heap.size w w' ∧
  ((1 ≤ n ∧ n ≤ 1073741824 ∧ ∃ b m v, e = .returned (.tuple #[.pointer (some ⟨b, 0, none⟩), .agg #[.int .i64 n, v], .bool true]) ∧ w.heap.size ≤ b ∧ w.heap.size ≤ m ∧ SpAt w' b m (runS ⟨n, 0, []⟩ l) ∧ ListAt refE w' v (runS ⟨n, 0, []⟩ l).ref) ∨
   (¬ (1 ≤ n ∧ n ≤ 1073741824) ∧ e = .returned (.tuple #[.pointer none, .agg #[.int .i64 0, .slice none 0 0], .bool true])))
set_option maxRecDepth 100000 in
set_option maxHeartbeats 2000000 in
theorem run_any {w : World} {nn : Nat} (hst : StableOk nn) (n : Int) (v : Value) (L : List OpD) (hv : ListAt opE w v L) (hl : L.length ≤ nn) (hnn : nn < 10000) :
    Calls Try.prog 23 #[.int .i64 n, v] w (RunPost w n L) := by
  obtain ⟨va, vc, rfl⟩ := hv.form
  obtain ⟨N, hN⟩ : ∃ N, L.length = N := ⟨_, rfl⟩
  rw [hN] at hv hl ⊢
  have HV := Lib.hid hv
  have HN := Lib.hid hN
  have HST := Lib.hid hst
  have HLE := Lib.hid hl
  have HNN := Lib.hid hnn
  clear hv hN hst hl hnn
  go_enter Try.func23, Try.ntmps23
  go_wp2_with (refine wpList_newV rfl (some 5) rfl 50 rfl #[.int .i64 0, .slice none 0 0] 2 (by kernel_rfl) ?_; refine Stop.on ?_)
  refine Stop.go ?_
  try simp only [Act.put, List.setIfInBounds_toArray, List.set_cons_zero, List.set_cons_succ]
  intro wi xi bi si
  try simp only [Act.put, List.setIfInBounds_toArray, List.set_cons_zero, List.set_cons_succ]
  have HXI := Lib.hid xi
  have HBI := Lib.hid bi
  have HSI := Lib.hid si
  clear xi bi si
  go_wp2_with fail
  refine (New_any n).mono ?_
  rintro e wn ⟨hbn, ⟨h1, h2, b, m, rfl, hb, hm, hs⟩ | ⟨hno, rfl⟩⟩
  case inr =>
    have hc1 : (if 1 ≤ n ∧ n ≤ 1073741824 then n else 0) = 0 := if_neg hno
    have hc2 : (if 1 ≤ n ∧ n ≤ 1073741824 then (0 : Int) else 2) = 2 := if_neg hno
    have hrn := fun w => rNew_any (w := w) n
    simp only [hc1, hc2] at hrn
    have HRN := Lib.hid hrn
    have HBN := Lib.hid (HBI.out.trans (hbn.mono HBI.out.size))
    have HXN := Lib.hid ((hbn.block _ (Array.getElem?_eq_some_iff.1 HXI.out).1).trans HXI.out)
    have HNO := Lib.hid hno
    clear hc1 hc2 hrn hbn hno
    go_wp2_with fail
    refine (HRN.out wn).mono ?_
    rintro e wo ⟨rfl, hbo⟩
    have HBO := Lib.hid (HBN.out.trans (hbo.mono HBN.out.size))
    have HXO := Lib.hid ((hbo.block _ (Array.getElem?_eq_some_iff.1 HXN.out).1).trans HXN.out)
    clear hbo
    go_wp2_with (refine wpList_putV rfl rfl 50 (.tmp 5) (.tmp 18) rfl _ #[.int .i64 0, .slice none 0 0] rfl rfl 50 _ HXO.out sizeS rfl oneS ?_; refine Stop.on ?_)
    refine Stop.go ?_
    try simp only [Act.put, List.setIfInBounds_toArray, List.set_cons_zero, List.set_cons_succ]
    intro wm xm cm sm
    try simp only [Act.put, List.setIfInBounds_toArray, List.set_cons_zero, List.set_cons_succ]
    have HXM := Lib.hid xm
    have HBM := Lib.hid (HBO.out.trans (cm.below (B := w.heap.size) (fun k e => by omega) HBO.out.size))
    clear xm cm sm
    go_wp2_with fail
    refine wp_region_noPanic ?_
    refine wp_region_G [2, 3] (Below wm.heap.size wm) (by kernel_rfl) ?_
    have hS0 : (Below wm.heap.size wm) wm.drew := (Below.refl _ _).drew
    obtain ⟨wd, hwd⟩ : ∃ wd, wm.drew = wd := ⟨_, rfl⟩
    rw [hwd] at hS0 ⊢
    clear hwd
    refine wpAnyG_takeZ (i := 0) (v := .agg ([Value.int .i64 0, .slice none 0 0]).toArray) rfl (by kernel_rfl) (by kernel_rfl) (by kernel_rfl) (by kernel_rfl) (fun _ _ _ h => h) (yieldsIf_load_mid rfl 50 (.tmp 5) rfl w.heap.size (0) rfl ([Value.int .i64 0, .slice none 0 0]) _ (fun w' hw' => range_block ((hw'.block _ (Array.getElem?_eq_some_iff.1 HXM.out).1).trans HXM.out)) Try.underlying50 rfl sizeSL) hS0 ?_
    simp only [Act.put, List.setIfInBounds_toArray, List.set_cons_zero, List.set_cons_succ]
    refine wpAnyG_pure (i := 1) (v := ?v1) rfl (by kernel_rfl) (by kernel_rfl) (by kernel_rfl) (by kernel_rfl) (fun _ _ _ h => h) (yieldsIf_run rfl (fun w' hw' => ?y1)) (fun _ => hS0) ?_
    case y1 => first | (go_simp; rfl) | (go_simp; done) | rfl
    simp only [Act.put, List.setIfInBounds_toArray, List.set_cons_zero, List.set_cons_succ]
    have HXD := Lib.hid ((hS0.block _ (Array.getElem?_eq_some_iff.1 HXM.out).1).trans HXM.out)
    refine wpAnyG_fin (i := 2) (by kernel_rfl) rfl rfl (by kernel_rfl) (fun K hK => ?_)
    refine wp_store_row 50 (.tmp 5) (.tmp 33) rfl w.heap.size #[.int .i64 0, .slice none 0 0] rfl rfl 50 _ HXD.out sizeS rfl oneS ?_
    have xq := setRow_heap _ _ _ #[.int .i64 0, .slice none 0 0] _ _ HXD.out
    have cq : Chg (fun k => k = w.heap.size) _ _ := setRow_chg (F := fun k => k = w.heap.size) (w := wd) w.heap.size #[.int .i64 0, .slice none 0 0] rfl
    obtain ⟨wq, hwq⟩ : ∃ wq, World.setRow wd w.heap.size #[.int .i64 0, .slice none 0 0] = wq := ⟨_, rfl⟩
    rw [hwq] at xq cq ⊢
    clear hwq
    refine hK _ _ ?_
    clear hK K
    try simp only [Act.put, List.setIfInBounds_toArray, List.set_cons_zero, List.set_cons_succ]
    refine wpAnyG_fin (i := 3) (by kernel_rfl) rfl rfl (by kernel_rfl) (fun K hK => ?_)
    go_simp
    refine hK _ _ ?_
    clear hK K
    try simp only [Act.put, List.setIfInBounds_toArray, List.set_cons_zero, List.set_cons_succ]
    refine wpAnyG_done (by kernel_rfl) ?_ _
    refine NoPanic.normal ?_
    have HXQ := Lib.hid xq
    have HBQ := Lib.hid (HBM.out.trans ((hS0.mono HBM.out.size).trans (cq.below (B := w.heap.size) (fun k e => by omega) (by have := hS0.size; have := HBM.out.size; omega))))
    clear xq cq
    go_wp2_with fail
    exact bodyPost_ret (results_tmp_cell_tmp (g := w.heap.size) rfl _ _ _ _ _ _ rfl HXQ.out Try.underlying50 rfl sizeS) rfl ⟨HBQ.out, .inr ⟨HNO.out, rfl⟩⟩
  have hc1 : (if 1 ≤ n ∧ n ≤ 1073741824 then n else 0) = n := if_pos ⟨h1, h2⟩
  have hc2 : (if 1 ≤ n ∧ n ≤ 1073741824 then (0 : Int) else 2) = 0 := if_pos ⟨h1, h2⟩
  have hrn := fun w => rNew_any (w := w) n
  simp only [hc1, hc2] at hrn
  have HRN := Lib.hid hrn
  have HBN := Lib.hid (HBI.out.trans (hbn.mono HBI.out.size))
  have HXN := Lib.hid ((hbn.block _ (Array.getElem?_eq_some_iff.1 HXI.out).1).trans HXI.out)
  have HSN := Lib.hid hs
  have HBM := Lib.hid (show w.heap.size < b ∧ w.heap.size < m from by have := HSI.out; omega)
  have HBND := Lib.hid (And.intro h1 h2)
  clear hc1 hc2 hrn hbn hs hb hm h1 h2
  go_wp2_with fail
  refine (HRN.out wn).mono ?_
  rintro e wo ⟨rfl, hbo⟩
  have HBO := Lib.hid (HBN.out.trans (hbo.mono HBN.out.size))
  have HXO := Lib.hid ((hbo.block _ (Array.getElem?_eq_some_iff.1 HXN.out).1).trans HXN.out)
  have HSO := Lib.hid (HSN.out.below hbo)
  clear hbo
  go_wp2_with (refine wpList_putV rfl rfl 50 (.tmp 5) (.tmp 18) rfl _ #[.int .i64 n, .slice none 0 0] rfl rfl 50 _ HXO.out sizeS rfl oneS ?_; refine Stop.on ?_)
  refine Stop.go ?_
  try simp only [Act.put, List.setIfInBounds_toArray, List.set_cons_zero, List.set_cons_succ]
  intro wm xm cm sm
  try simp only [Act.put, List.setIfInBounds_toArray, List.set_cons_zero, List.set_cons_succ]
  have HXM := Lib.hid xm
  have HBW := Lib.hid (HBO.out.trans (cm.below (B := w.heap.size) (fun k e => by omega) HBO.out.size))
  have HSM := Lib.hid (HSO.out.chg cm (by have := HBM.out; omega) (by have := HBM.out; omega))
  clear xm cm sm
  go_wp2_with fail
  go_loopw [4, 6, 9] (fun pv _ iv wr => ∃ (i : Nat) (v' : Value), i ≤ N ∧ pv = .pointer (some ⟨b, 0, none⟩) ∧ iv = .int .i64 (i : Int) ∧ SpAt wr b m (runS ⟨n, 0, []⟩ (L.take i)) ∧ ListAt refE wr v' (runS ⟨n, 0, []⟩ (L.take i)).ref ∧ wr.heap[w.heap.size]? = some (.cells #[.int .i64 n, v'] 50 (0, 0)) ∧ Below w.heap.size w wr) (fun _ _ iv _ => N - (intOf iv).toNat)
  case atStart => exact ⟨0, .slice none 0 0, Nat.zero_le _, rfl, rfl, HSM.out, listAt_nil refE _, HXM.out, HBW.out⟩
  case round =>
    obtain ⟨i, v', hi, rfl, rfl, hsr, hlr, hxr, hbr⟩ := hrel
    obtain ⟨pa, pc, rfl⟩ := hlr.form
    have hro := run_ok (L.take i) ⟨n, 0, []⟩ (ok_new HBND.out.1 HBND.out.2)
    have hrl : (L.take i).length = i := by rw [List.length_take, HN.out]; omega
    rw [hrl] at hro
    by_cases hlt : i < N
    · have hiI : (i : Int) < (N : Int) := by omega
      have hiI0 : (0 : Int) ≤ (i : Int) := by omega
      have hwi : IntKind.i64.wrap ((i : Int) + 1) = (i : Int) + 1 := IntWalk.i64_in _ (by have := HLE.out; have := HNN.out; omega)
      have hlt' : i < L.length := by rw [HN.out]; exact hlt
      have hnx := run_next ⟨n, 0, []⟩ L hlt'
      obtain ⟨S, hS⟩ : ∃ S, runS ⟨n, 0, []⟩ (L.take i) = S := ⟨_, rfl⟩
      rw [hS] at hsr hlr hxr hro hnx
      obtain ⟨N', hN'⟩ : ∃ N', S.ref.length = N' := ⟨_, rfl⟩
      rw [hN'] at hlr hxr
      have hn0 : S.next < 1000000000000 := by have h := hro.2.2.1; have h2 := HLE.out; have h3 := HNN.out; simp only [Int.zero_add] at h; omega
      have hl0 : S.list.length ≤ nn := by have h := hro.2.2.2; have h2 := HLE.out; simp only [List.length_nil, Nat.zero_add] at h; omega
      obtain ⟨g, off, rfl, hg, hr, _⟩ := op_at (HV.out.below hbr) hlt'
      obtain ⟨o, ho⟩ : ∃ o, L[i] = o := ⟨_, rfl⟩
      rw [ho] at hr hnx
      have hdo : ∀ w', Below wr.heap.size wr w' → Calls Try.prog 28 #[.pointer (some ⟨b, 0, none⟩), .agg #[.int .i64 n, .slice pa N' pc], .agg o.cells.toArray] w' (DoPost w' b m n (stepS S o)) := fun w' hw' => by
        have h := do_any HST.out (hsr.below hw') hro.1 hl0 HNN.out hn0 (.slice pa N' pc) (hlr.below hw') o
        rw [hro.2.1] at h
        exact h
      have HDO := Lib.hid hdo
      have HX := Lib.hid hxr
      have HNX := Lib.hid hnx
      have HBR := Lib.hid hbr
      clear hsr hlr hxr hro hnx hdo hbr hS hN' hn0 hl0 hrl ho
      go_wp2_with fail
      refine wp_region_noPanic ?_
      refine wp_region_G [6, 10, 11] (Below wr.heap.size wr) (by kernel_rfl) ?_
      have hS0 : (Below wr.heap.size wr) wr.drew := (Below.refl _ _).drew
      obtain ⟨wd, hwd⟩ : ∃ wd, wr.drew = wd := ⟨_, rfl⟩
      rw [hwd] at hS0 ⊢
      clear hwd
      refine wpAnyG_pure (i := 0) (v := ?v2) rfl (by kernel_rfl) (by kernel_rfl) (by kernel_rfl) (by kernel_rfl) (fun _ _ _ h => h) (yieldsIf_run rfl (fun w' hw' => ?y2)) (fun _ => hS0) ?_
      case y2 => first | (go_simp; rfl) | (go_simp; done) | rfl
      simp only [Act.put, List.setIfInBounds_toArray, List.set_cons_zero, List.set_cons_succ]
      refine wpAnyG_takeZ (i := 1) (v := .agg ([Value.int .i64 n, .slice pa N' pc]).toArray) rfl (by kernel_rfl) (by kernel_rfl) (by kernel_rfl) (by kernel_rfl) (fun _ _ _ h => h) (yieldsIf_load_mid rfl 50 (.tmp 5) rfl w.heap.size (0) rfl ([Value.int .i64 n, .slice pa N' pc]) _ (fun w' hw' => range_block ((hw'.block _ (Array.getElem?_eq_some_iff.1 HX.out).1).trans HX.out)) Try.underlying50 rfl sizeSL) hS0 ?_
      simp only [Act.put, List.setIfInBounds_toArray, List.set_cons_zero, List.set_cons_succ]
      refine wpAnyG_pure (i := 2) (v := ?v3) rfl (by kernel_rfl) (by kernel_rfl) (by kernel_rfl) (by kernel_rfl) (fun _ _ _ h => h) (yieldsIf_run rfl (fun w' hw' => ?y3)) (fun _ => hS0) ?_
      case y3 => first | (go_simp; rfl) | (go_simp; done) | rfl
      simp only [Act.put, List.setIfInBounds_toArray, List.set_cons_zero, List.set_cons_succ]
      refine wpAnyG_pure (i := 3) (v := ?v4) rfl (by kernel_rfl) (by kernel_rfl) (by kernel_rfl) (by kernel_rfl) (fun _ _ _ h => h) (yieldsIf_run rfl (fun w' hw' => ?y4)) (fun _ => hS0) ?_
      case y4 => first | (go_simp; rfl) | (go_simp; done) | rfl
      simp only [Act.put, List.setIfInBounds_toArray, List.set_cons_zero, List.set_cons_succ]
      refine wpAnyG_pure (i := 4) (v := ?v5) rfl (by kernel_rfl) (by kernel_rfl) (by kernel_rfl) (by kernel_rfl) (fun _ _ _ h => h) (yieldsIf_run rfl (fun w' hw' => ?y5)) (fun _ => hS0) ?_
      case y5 => first | (go_simp; rfl) | (go_simp; done) | rfl
      simp only [Act.put, List.setIfInBounds_toArray, List.set_cons_zero, List.set_cons_succ]
      refine wpAnyG_takeZ (i := 5) (v := .agg (o.cells).toArray) rfl (by kernel_rfl) (by kernel_rfl) (by kernel_rfl) (by kernel_rfl) (fun _ _ _ h => h) (yieldsIf_load_mid rfl 39 (.tmp 45) rfl g (off + i * 37) rfl (o.cells) _ (fun w' hw' => (fun j u hu => (hw'.cell (p := ⟨g, off + i * 37 + j, none⟩) hg).trans (hr j u hu))) Try.underlying39 rfl sizeOp) hS0 ?_
      simp only [Act.put, List.setIfInBounds_toArray, List.set_cons_zero, List.set_cons_succ]
      refine wpAnyG_fin (i := 6) (by kernel_rfl) rfl rfl (by kernel_rfl) (fun K hK => ?_)
      go_simp
      go_at_call 28
      refine (HDO.out wd hS0).mono ?_
      rintro e wx ⟨v2, rfl, hsx, hlx, hcx⟩
      obtain ⟨qa, qc, rfl⟩ := hlx.form
      obtain ⟨M', hM'⟩ : ∃ M', (stepS S o).ref.length = M' := ⟨_, rfl⟩
      rw [hM'] at hlx ⊢
      clear hM'
      have hcx2 : Chg (fun k => k = b ∨ k = m) wr wx := (Chg.of_below hS0).trans hcx (fun _ h => .inl h)
      have HYtnmdgjodbikndaa := Lib.hid ((hcx2.block _ (Array.getElem?_eq_some_iff.1 HX.out).1 (by have := HBM.out; omega)).trans HX.out)
      refine hK _ _ ?_
      clear hK K
      try simp only [Act.put, List.setIfInBounds_toArray, List.set_cons_zero, List.set_cons_succ]
      refine wpAnyG_fin (i := 7) (by kernel_rfl) rfl rfl (by kernel_rfl) (fun K hK => ?_)
      go_simp
      refine hK _ _ ?_
      clear hK K
      try simp only [Act.put, List.setIfInBounds_toArray, List.set_cons_zero, List.set_cons_succ]
      refine wpAnyG_late (i := 8) (v := .agg #[.int .i64 n, .slice qa M' qc]) rfl (by kernel_rfl) (by kernel_rfl) (by kernel_rfl) (by kernel_rfl) (by kernel_rfl) (fun _ _ _ h => h) (yieldsIf_run rfl (fun w' hw' => ?y6)) ?_
      case y6 => first | (go_simp; rfl) | (go_simp; done) | rfl
      simp only [Act.put, List.setIfInBounds_toArray, List.set_cons_zero, List.set_cons_succ]
      refine wpAnyG_late (i := 9) (v := .bool true) rfl (by kernel_rfl) (by kernel_rfl) (by kernel_rfl) (by kernel_rfl) (by kernel_rfl) (fun _ _ _ h => h) (yieldsIf_run rfl (fun w' hw' => ?y7)) ?_
      case y7 => first | (go_simp; rfl) | (go_simp; done) | rfl
      simp only [Act.put, List.setIfInBounds_toArray, List.set_cons_zero, List.set_cons_succ]
      refine wpAnyG_fin (i := 10) (by kernel_rfl) rfl rfl (by kernel_rfl) (fun K hK => ?_)
      refine wp_store_row 50 (.tmp 5) (.tmp 48) rfl w.heap.size #[.int .i64 n, .slice qa M' qc] rfl rfl 50 _ HYtnmdgjodbikndaa.out sizeS rfl oneS ?_
      have xq := setRow_heap _ _ _ #[.int .i64 n, .slice qa M' qc] _ _ HYtnmdgjodbikndaa.out
      have cq : Chg (fun k => k = w.heap.size) _ _ := setRow_chg (F := fun k => k = w.heap.size) (w := wx) w.heap.size #[.int .i64 n, .slice qa M' qc] rfl
      obtain ⟨wq, hwq⟩ : ∃ wq, World.setRow wx w.heap.size #[.int .i64 n, .slice qa M' qc] = wq := ⟨_, rfl⟩
      rw [hwq] at xq cq ⊢
      clear hwq
      refine hK _ _ ?_
      clear hK K
      try simp only [Act.put, List.setIfInBounds_toArray, List.set_cons_zero, List.set_cons_succ]
      refine wpAnyG_fin (i := 11) (by kernel_rfl) rfl rfl (by kernel_rfl) (fun K hK => ?_)
      go_simp
      refine hK _ _ ?_
      clear hK K
      try simp only [Act.put, List.setIfInBounds_toArray, List.set_cons_zero, List.set_cons_succ]
      refine wpAnyG_done (by kernel_rfl) ?_ _
      refine NoPanic.normal ?_
      have hsq := hsx.chg cq (by have := HBM.out; omega) (by have := HBM.out; omega)
      have hlq := hlx.kept_row HYtnmdgjodbikndaa.out (by simp) cq
      have hbq := (HBR.out.trans (hcx2.below (B := w.heap.size) (fun k e => by have := HBM.out; omega) HBR.out.size)).trans (cq.below (B := w.heap.size) (fun k e => by omega) (by have := hcx2.size; have := HBR.out.size; omega))
      have HSQ := Lib.hid hsq
      have HLQ := Lib.hid hlq
      have HXQ := Lib.hid xq
      have HBQ := Lib.hid hbq
      clear hsq hlq xq cq hbq hsx hlx hcx hcx2 hr
      go_wp2_with fail
      go_roundw
      case rel => exact ⟨i + 1, _, by omega, rfl, by go_num, by rw [HNX.out]; exact HSQ.out, by rw [HNX.out]; exact HLQ.out, HXQ.out, HBQ.out⟩
      case measure => simp [intOf]; omega
    · obtain rfl : N = i := by omega
      have htk : L.take N = L := List.take_of_length_le (by rw [HN.out]; exact Nat.le_refl _)
      rw [htk] at hsr hlr hxr
      obtain ⟨S, hS⟩ : ∃ S, runS ⟨n, 0, []⟩ L = S := ⟨_, rfl⟩
      rw [hS] at hsr hlr hxr
      obtain ⟨N', hN'⟩ : ∃ N', S.ref.length = N' := ⟨_, rfl⟩
      rw [hN'] at hlr hxr
      have HSR := Lib.hid hsr
      have HLR := Lib.hid hlr
      have HX := Lib.hid hxr
      have HBR := Lib.hid hbr
      have HSS := Lib.hid hS
      clear hsr hlr hxr hbr hS hN' hro hrl htk
      go_wp2_with fail
      refine wp_region_noPanic ?_
      refine wp_region_G [3, 4] (Below wr.heap.size wr) (by kernel_rfl) ?_
      have hS0 : (Below wr.heap.size wr) wr.drew := (Below.refl _ _).drew
      obtain ⟨wd, hwd⟩ : ∃ wd, wr.drew = wd := ⟨_, rfl⟩
      rw [hwd] at hS0 ⊢
      clear hwd
      refine wpAnyG_pure (i := 0) (v := ?v8) rfl (by kernel_rfl) (by kernel_rfl) (by kernel_rfl) (by kernel_rfl) (fun _ _ _ h => h) (yieldsIf_run rfl (fun w' hw' => ?y8)) (fun _ => hS0) ?_
      case y8 => first | (go_simp; rfl) | (go_simp; done) | rfl
      simp only [Act.put, List.setIfInBounds_toArray, List.set_cons_zero, List.set_cons_succ]
      refine wpAnyG_takeZ (i := 1) (v := .agg ([Value.int .i64 n, .slice pa N' pc]).toArray) rfl (by kernel_rfl) (by kernel_rfl) (by kernel_rfl) (by kernel_rfl) (fun _ _ _ h => h) (yieldsIf_load_mid rfl 50 (.tmp 5) rfl w.heap.size (0) rfl ([Value.int .i64 n, .slice pa N' pc]) _ (fun w' hw' => range_block ((hw'.block _ (Array.getElem?_eq_some_iff.1 HX.out).1).trans HX.out)) Try.underlying50 rfl sizeSL) hS0 ?_
      simp only [Act.put, List.setIfInBounds_toArray, List.set_cons_zero, List.set_cons_succ]
      refine wpAnyG_pure (i := 2) (v := ?v9) rfl (by kernel_rfl) (by kernel_rfl) (by kernel_rfl) (by kernel_rfl) (fun _ _ _ h => h) (yieldsIf_run rfl (fun w' hw' => ?y9)) (fun _ => hS0) ?_
      case y9 => first | (go_simp; rfl) | (go_simp; done) | rfl
      simp only [Act.put, List.setIfInBounds_toArray, List.set_cons_zero, List.set_cons_succ]
      have HXD := Lib.hid ((hS0.block _ (Array.getElem?_eq_some_iff.1 HX.out).1).trans HX.out)
      refine wpAnyG_fin (i := 3) (by kernel_rfl) rfl rfl (by kernel_rfl) (fun K hK => ?_)
      refine wp_store_row 50 (.tmp 5) (.tmp 54) rfl w.heap.size #[.int .i64 n, .slice pa N' pc] rfl rfl 50 _ HXD.out sizeS rfl oneS ?_
      have xq := setRow_heap _ _ _ #[.int .i64 n, .slice pa N' pc] _ _ HXD.out
      have cq : Chg (fun k => k = w.heap.size) _ _ := setRow_chg (F := fun k => k = w.heap.size) (w := wd) w.heap.size #[.int .i64 n, .slice pa N' pc] rfl
      obtain ⟨wq, hwq⟩ : ∃ wq, World.setRow wd w.heap.size #[.int .i64 n, .slice pa N' pc] = wq := ⟨_, rfl⟩
      rw [hwq] at xq cq ⊢
      clear hwq
      refine hK _ _ ?_
      clear hK K
      try simp only [Act.put, List.setIfInBounds_toArray, List.set_cons_zero, List.set_cons_succ]
      refine wpAnyG_fin (i := 4) (by kernel_rfl) rfl rfl (by kernel_rfl) (fun K hK => ?_)
      go_simp
      refine hK _ _ ?_
      clear hK K
      try simp only [Act.put, List.setIfInBounds_toArray, List.set_cons_zero, List.set_cons_succ]
      refine wpAnyG_done (by kernel_rfl) ?_ _
      refine NoPanic.normal ?_
      have hsq := (HSR.out.below hS0).chg cq (by have := HBM.out; omega) (by have := HBM.out; omega)
      have hlq := (HLR.out.below hS0).kept_row HXD.out (by simp) cq
      have hbq := HBR.out.trans ((hS0.mono HBR.out.size).trans (cq.below (B := w.heap.size) (fun k e => by omega) (by have := hS0.size; have := HBR.out.size; omega)))
      have HXQ := Lib.hid xq
      have HPO := Lib.hid (show Below w.heap.size w wq ∧ SpAt wq b m (runS ⟨n, 0, []⟩ L) ∧ ListAt refE wq (.slice pa N' pc) (runS ⟨n, 0, []⟩ L).ref from ⟨hbq, by rw [HSS.out]; exact hsq, by rw [HSS.out]; exact hlq⟩)
      clear hsq hlq xq cq hbq
      go_wp2_with fail
      exact bodyPost_ret (results_tmp_cell_tmp (g := w.heap.size) rfl _ _ _ _ _ _ rfl HXQ.out Try.underlying50 rfl sizeS) rfl ⟨HPO.out.1, .inl ⟨HBND.out.1, HBND.out.2, b, m, _, rfl, by have := HBM.out; omega, by have := HBM.out; omega, HPO.out.2.1, HPO.out.2.2⟩⟩
end Go.Proofs.Ytnmdgjodbikndaa
