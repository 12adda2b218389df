/- The law's run: operations on a new spool and on the reference; The spool: Entry; The law's view: the spool looks as the reference says. -/
import Derived.Test.YtnmdgjodbikndaaS18
import Derived.Test.YtnmdgjodbikndaaRegion6
namespace Go.Proofs.Ytnmdgjodbikndaa
open Go.RowKit
set_option linter.unusedVariables false
set_option linter.unusedSimpArgs false

theorem results_tmp_cell_tmp {P : Program} {fn : Func} {q p u : Tmp} {ty : TypeId} (h : fn.results = #[.tmp q, .cell p ty, .tmp u]) (tmps : Array Value) (w : World) (g : Nat) (t : TypeId) (cs : Array Value) (fr : Nat × Nat) (d : TypeDesc)
    (hp : tmps.getD p undef = .pointer (some ⟨g, 0, none⟩)) (hg : w.heap[g]? = some (.cells cs t fr)) (hu : P.underlying ty = some d) (hd : (match d with | .struct _ | .array _ _ => true | _ => false) = true) (hi : (P.info? ty).map (·.size) = some cs.size) :
    (results fn tmps).run P w = .ok (.tuple #[tmps.getD q undef, .agg cs, tmps.getD u undef]) w := by
  have hp' : tmps[p]?.getD undef = .pointer (some ⟨g, 0, none⟩) := by simpa using hp
  simp only [results, h]
  simp [Sem.run_bind, Result.andThen, hp', asAddr, run_loadVar_row w g t ty cs fr d hg hu hd hi]
theorem run_next (S : SpD) (l : List OpD) {i : Nat} (hi : i < l.length) : runS S (l.take (i + 1)) = stepS (runS S (l.take i)) l[i] := by
  unfold runS
  rw [List.take_succ_eq_append_getElem hi, List.foldl_append]
  rfl
theorem run_ok : ∀ (l : List OpD) (S : SpD), S.Ok → (runS S l).Ok ∧ (runS S l).budget = S.budget ∧ (runS S l).next ≤ S.next + (l.length : Int) ∧ (runS S l).list.length ≤ S.list.length + l.length
  | [], S, h => ⟨h, rfl, by show S.next ≤ _; simp, by show S.list.length ≤ _; simp⟩
  | o :: l, S, h => by
    have h1 := step_ok o h
    have h2 := run_ok l (stepS S o) h1.1
    have e : runS S (o :: l) = runS (stepS S o) l := rfl
    rw [e]
    refine ⟨h2.1, h2.2.1.trans h1.2.1, ?_, ?_⟩
    · rw [List.length_cons]; have := h2.2.2.1; have := h1.2.2.1; omega
    · rw [List.length_cons]; have := h2.2.2.2; have := h1.2.2.2; omega
/-- What run leaves. -/
def RunPost (w : World) (n : Int) (l : List OpD) (e : Ending) (w' : World) : Prop := Below w.heap.size w w' ∧
  ((1 ≤ n ∧ n ≤ 1073741824 ∧ ∃ b m v, e = .returned (.tuple #[.pointer (some ⟨b, 0, none⟩), .agg #[.int .i64 n, v], .bool true]) ∧ w.heap.size ≤ b ∧ w.heap.size ≤ m ∧ SpAt w' b m (runS ⟨n, 0, []⟩ l) ∧ ListAt refE w' v (runS ⟨n, 0, []⟩ l).ref) ∨
   (¬ (1 ≤ n ∧ n ≤ 1073741824) ∧ e = .returned (.tuple #[.pointer none, .agg #[.int .i64 0, .slice none 0 0], .bool true])))
set_option maxRecDepth 100000 in
set_option maxHeartbeats 2000000 in
theorem run_any {w : World} {nn : Nat} (hst : StableOk nn) (n : Int) (v : Value) (L : List OpD) (hv : ListAt opE w v L) (hl : L.length ≤ nn) (hnn : nn < 10000) :
    Calls Try.prog 23 #[.int .i64 n, v] w (RunPost w n L) := by
  obtain ⟨va, vc, rfl⟩ := hv.form
  obtain ⟨N, hN⟩ : ∃ N, L.length = N := ⟨_, rfl⟩
  rw [hN] at hv hl ⊢
  have HV := Lib.hid hv
  have HN := Lib.hid hN
  have HST := Lib.hid hst
  have HLE := Lib.hid hl
  have HNN := Lib.hid hnn
  clear hv hN hst hl hnn
  go_enter Try.func23, Try.ntmps23
  go_wp2_with (refine wpList_newV rfl (some 5) rfl 50 rfl #[.int .i64 0, .slice none 0 0] 2 (by kernel_rfl) ?_; refine Stop.on ?_)
  refine Stop.go ?_
  try simp only [Act.put, List.setIfInBounds_toArray, List.set_cons_zero, List.set_cons_succ]
  intro wi xi bi si
  try simp only [Act.put, List.setIfInBounds_toArray, List.set_cons_zero, List.set_cons_succ]
  have HXI := Lib.hid xi
  have HBI := Lib.hid bi
  have HSI := Lib.hid si
  clear xi bi si
  go_wp2_with fail
  refine (New_any n).mono ?_
  rintro e wn ⟨hbn, ⟨h1, h2, b, m, rfl, hb, hm, hs⟩ | ⟨hno, rfl⟩⟩
  case inr =>
    have hc1 : (if 1 ≤ n ∧ n ≤ 1073741824 then n else 0) = 0 := if_neg hno
    have hc2 : (if 1 ≤ n ∧ n ≤ 1073741824 then (0 : Int) else 2) = 2 := if_neg hno
    have hrn := fun w => rNew_any (w := w) n
    simp only [hc1, hc2] at hrn
    have HRN := Lib.hid hrn
    have HBN := Lib.hid (HBI.out.trans (hbn.mono HBI.out.size))
    have HXN := Lib.hid ((hbn.block _ (Array.getElem?_eq_some_iff.1 HXI.out).1).trans HXI.out)
    have HNO := Lib.hid hno
    clear hc1 hc2 hrn hbn hno
    go_wp2_with fail
    refine (HRN.out wn).mono ?_
    rintro e wo ⟨rfl, hbo⟩
    have HBO := Lib.hid (HBN.out.trans (hbo.mono HBN.out.size))
    have HXO := Lib.hid ((hbo.block _ (Array.getElem?_eq_some_iff.1 HXN.out).1).trans HXN.out)
    clear hbo
    go_wp2_with (refine wpList_putV rfl rfl 50 (.tmp 5) (.tmp 18) rfl _ #[.int .i64 0, .slice none 0 0] rfl rfl 50 _ HXO.out sizeS rfl oneS ?_; refine Stop.on ?_)
    refine Stop.go ?_
    try simp only [Act.put, List.setIfInBounds_toArray, List.set_cons_zero, List.set_cons_succ]
    intro wm xm cm sm
    try simp only [Act.put, List.setIfInBounds_toArray, List.set_cons_zero, List.set_cons_succ]
    have HXM := Lib.hid xm
    have HBM := Lib.hid (HBO.out.trans (cm.below (B := w.heap.size) (fun k e => by omega) HBO.out.size))
    clear xm cm sm
    go_wp2_with fail
    refine wp_region_noPanic ?_
    refine wp_region_G [2, 3] (Below wm.heap.size wm) (by kernel_rfl) ?_
    have hS0 : (Below wm.heap.size wm) wm.drew := (Below.refl _ _).drew
    obtain ⟨wd, hwd⟩ : ∃ wd, wm.drew = wd := ⟨_, rfl⟩
    rw [hwd] at hS0 ⊢
    clear hwd
    refine wpAnyG_takeZ (i := 0) (v := .agg ([Value.int .i64 0, .slice none 0 0]).toArray) rfl (by kernel_rfl) (by kernel_rfl) (by kernel_rfl) (by kernel_rfl) (fun _ _ _ h => h) (yieldsIf_load_mid rfl 50 (.tmp 5) rfl w.heap.size (0) rfl ([Value.int .i64 0, .slice none 0 0]) _ (fun w' hw' => range_block ((hw'.block _ (Array.getElem?_eq_some_iff.1 HXM.out).1).trans HXM.out)) Try.underlying50 rfl sizeSL) hS0 ?_
    simp only [Act.put, List.setIfInBounds_toArray, List.set_cons_zero, List.set_cons_succ]
    refine wpAnyG_pure (i := 1) (v := ?v1) rfl (by kernel_rfl) (by kernel_rfl) (by kernel_rfl) (by kernel_rfl) (fun _ _ _ h => h) (yieldsIf_run rfl (fun w' hw' => ?y1)) (fun _ => hS0) ?_
    case y1 => first | (go_simp; rfl) | (go_simp; done) | rfl
    simp only [Act.put, List.setIfInBounds_toArray, List.set_cons_zero, List.set_cons_succ]
    have HXD := Lib.hid ((hS0.block _ (Array.getElem?_eq_some_iff.1 HXM.out).1).trans HXM.out)
    refine wpAnyG_fin (i := 2) (by kernel_rfl) rfl rfl (by kernel_rfl) (fun K hK => ?_)
    refine wp_store_row 50 (.tmp 5) (.tmp 33) rfl w.heap.size #[.int .i64 0, .slice none 0 0] rfl rfl 50 _ HXD.out sizeS rfl oneS ?_
    have xq := setRow_heap _ _ _ #[.int .i64 0, .slice none 0 0] _ _ HXD.out
    have cq : Chg (fun k => k = w.heap.size) _ _ := setRow_chg (F := fun k => k = w.heap.size) (w := wd) w.heap.size #[.int .i64 0, .slice none 0 0] rfl
    obtain ⟨wq, hwq⟩ : ∃ wq, World.setRow wd w.heap.size #[.int .i64 0, .slice none 0 0] = wq := ⟨_, rfl⟩
    rw [hwq] at xq cq ⊢
    clear hwq
    refine hK _ _ ?_
    clear hK K
    try simp only [Act.put, List.setIfInBounds_toArray, List.set_cons_zero, List.set_cons_succ]
    refine wpAnyG_fin (i := 3) (by kernel_rfl) rfl rfl (by kernel_rfl) (fun K hK => ?_)
    go_simp
    refine hK _ _ ?_
    clear hK K
    try simp only [Act.put, List.setIfInBounds_toArray, List.set_cons_zero, List.set_cons_succ]
    refine wpAnyG_done (by kernel_rfl) ?_ _
    refine NoPanic.normal ?_
    have HXQ := Lib.hid xq
    have HBQ := Lib.hid (HBM.out.trans ((hS0.mono HBM.out.size).trans (cq.below (B := w.heap.size) (fun k e => by omega) (by have := hS0.size; have := HBM.out.size; omega))))
    clear xq cq
    go_wp2_with fail
    exact bodyPost_ret (results_tmp_cell_tmp (g := w.heap.size) rfl _ _ _ _ _ _ rfl HXQ.out Try.underlying50 rfl sizeS) rfl ⟨HBQ.out, .inr ⟨HNO.out, rfl⟩⟩
  have hc1 : (if 1 ≤ n ∧ n ≤ 1073741824 then n else 0) = n := if_pos ⟨h1, h2⟩
  have hc2 : (if 1 ≤ n ∧ n ≤ 1073741824 then (0 : Int) else 2) = 0 := if_pos ⟨h1, h2⟩
  have hrn := fun w => rNew_any (w := w) n
  simp only [hc1, hc2] at hrn
  have HRN := Lib.hid hrn
  have HBN := Lib.hid (HBI.out.trans (hbn.mono HBI.out.size))
  have HXN := Lib.hid ((hbn.block _ (Array.getElem?_eq_some_iff.1 HXI.out).1).trans HXI.out)
  have HSN := Lib.hid hs
  have HBM := Lib.hid (show w.heap.size < b ∧ w.heap.size < m from by have := HSI.out; omega)
  have HBND := Lib.hid (And.intro h1 h2)
  clear hc1 hc2 hrn hbn hs hb hm h1 h2
  go_wp2_with fail
  refine (HRN.out wn).mono ?_
  rintro e wo ⟨rfl, hbo⟩
  have HBO := Lib.hid (HBN.out.trans (hbo.mono HBN.out.size))
  have HXO := Lib.hid ((hbo.block _ (Array.getElem?_eq_some_iff.1 HXN.out).1).trans HXN.out)
  have HSO := Lib.hid (HSN.out.below hbo)
  clear hbo
  go_wp2_with (refine wpList_putV rfl rfl 50 (.tmp 5) (.tmp 18) rfl _ #[.int .i64 n, .slice none 0 0] rfl rfl 50 _ HXO.out sizeS rfl oneS ?_; refine Stop.on ?_)
  refine Stop.go ?_
  try simp only [Act.put, List.setIfInBounds_toArray, List.set_cons_zero, List.set_cons_succ]
  intro wm xm cm sm
  try simp only [Act.put, List.setIfInBounds_toArray, List.set_cons_zero, List.set_cons_succ]
  have HXM := Lib.hid xm
  have HBW := Lib.hid (HBO.out.trans (cm.below (B := w.heap.size) (fun k e => by omega) HBO.out.size))
  have HSM := Lib.hid (HSO.out.chg cm (by have := HBM.out; omega) (by have := HBM.out; omega))
  clear xm cm sm
  go_wp2_with fail
  go_loopw [4, 6, 9] (fun pv _ iv wr => ∃ (i : Nat) (v' : Value), i ≤ N ∧ pv = .pointer (some ⟨b, 0, none⟩) ∧ iv = .int .i64 (i : Int) ∧ SpAt wr b m (runS ⟨n, 0, []⟩ (L.take i)) ∧ ListAt refE wr v' (runS ⟨n, 0, []⟩ (L.take i)).ref ∧ wr.heap[w.heap.size]? = some (.cells #[.int .i64 n, v'] 50 (0, 0)) ∧ Below w.heap.size w wr) (fun _ _ iv _ => N - (intOf iv).toNat)
  case atStart => exact ⟨0, .slice none 0 0, Nat.zero_le _, rfl, rfl, HSM.out, listAt_nil refE _, HXM.out, HBW.out⟩
  case round =>
    obtain ⟨i, v', hi, rfl, rfl, hsr, hlr, hxr, hbr⟩ := hrel
    obtain ⟨pa, pc, rfl⟩ := hlr.form
    have hro := run_ok (L.take i) ⟨n, 0, []⟩ (ok_new HBND.out.1 HBND.out.2)
    have hrl : (L.take i).length = i := by rw [List.length_take, HN.out]; omega
    rw [hrl] at hro
    by_cases hlt : i < N
    · have hiI : (i : Int) < (N : Int) := by omega
      have hiI0 : (0 : Int) ≤ (i : Int) := by omega
      have hwi : IntKind.i64.wrap ((i : Int) + 1) = (i : Int) + 1 := IntWalk.i64_in _ (by have := HLE.out; have := HNN.out; omega)
      have hlt' : i < L.length := by rw [HN.out]; exact hlt
      have hnx := run_next ⟨n, 0, []⟩ L hlt'
      obtain ⟨S, hS⟩ : ∃ S, runS ⟨n, 0, []⟩ (L.take i) = S := ⟨_, rfl⟩
      rw [hS] at hsr hlr hxr hro hnx
      obtain ⟨N', hN'⟩ : ∃ N', S.ref.length = N' := ⟨_, rfl⟩
      rw [hN'] at hlr hxr
      have hn0 : S.next < 1000000000000 := by have h := hro.2.2.1; have h2 := HLE.out; have h3 := HNN.out; simp only [Int.zero_add] at h; omega
      have hl0 : S.list.length ≤ nn := by have h := hro.2.2.2; have h2 := HLE.out; simp only [List.length_nil, Nat.zero_add] at h; omega
      obtain ⟨g, off, rfl, hg, hr, _⟩ := op_at (HV.out.below hbr) hlt'
      obtain ⟨o, ho⟩ : ∃ o, L[i] = o := ⟨_, rfl⟩
      rw [ho] at hr hnx
      have hdo : ∀ w', Below wr.heap.size wr w' → Calls Try.prog 28 #[.pointer (some ⟨b, 0, none⟩), .agg #[.int .i64 n, .slice pa N' pc], .agg o.cells.toArray] w' (DoPost w' b m n (stepS S o)) := fun w' hw' => by
        have h := do_any HST.out (hsr.below hw') hro.1 hl0 HNN.out hn0 (.slice pa N' pc) (hlr.below hw') o
        rw [hro.2.1] at h
        exact h
      have HDO := Lib.hid hdo
      have HX := Lib.hid hxr
      have HNX := Lib.hid hnx
      have HBR := Lib.hid hbr
      clear hsr hlr hxr hro hnx hdo hbr hS hN' hn0 hl0 hrl ho
      go_wp2_with fail
      refine wp_region_noPanic ?_
      refine wp_region_G [6, 10, 11] (Below wr.heap.size wr) (by kernel_rfl) ?_
      have hS0 : (Below wr.heap.size wr) wr.drew := (Below.refl _ _).drew
      obtain ⟨wd, hwd⟩ : ∃ wd, wr.drew = wd := ⟨_, rfl⟩
      rw [hwd] at hS0 ⊢
      clear hwd
      refine wpAnyG_pure (i := 0) (v := ?v2) rfl (by kernel_rfl) (by kernel_rfl) (by kernel_rfl) (by kernel_rfl) (fun _ _ _ h => h) (yieldsIf_run rfl (fun w' hw' => ?y2)) (fun _ => hS0) ?_
      case y2 => first | (go_simp; rfl) | (go_simp; done) | rfl
      simp only [Act.put, List.setIfInBounds_toArray, List.set_cons_zero, List.set_cons_succ]
      refine wpAnyG_takeZ (i := 1) (v := .agg ([Value.int .i64 n, .slice pa N' pc]).toArray) rfl (by kernel_rfl) (by kernel_rfl) (by kernel_rfl) (by kernel_rfl) (fun _ _ _ h => h) (yieldsIf_load_mid rfl 50 (.tmp 5) rfl w.heap.size (0) rfl ([Value.int .i64 n, .slice pa N' pc]) _ (fun w' hw' => range_block ((hw'.block _ (Array.getElem?_eq_some_iff.1 HX.out).1).trans HX.out)) Try.underlying50 rfl sizeSL) hS0 ?_
      simp only [Act.put, List.setIfInBounds_toArray, List.set_cons_zero, List.set_cons_succ]
      refine wpAnyG_pure (i := 2) (v := ?v3) rfl (by kernel_rfl) (by kernel_rfl) (by kernel_rfl) (by kernel_rfl) (fun _ _ _ h => h) (yieldsIf_run rfl (fun w' hw' => ?y3)) (fun _ => hS0) ?_
      case y3 => first | (go_simp; rfl) | (go_simp; done) | rfl
      simp only [Act.put, List.setIfInBounds_toArray, List.set_cons_zero, List.set_cons_succ]
      refine wpAnyG_pure (i := 3) (v := ?v4) rfl (by kernel_rfl) (by kernel_rfl) (by kernel_rfl) (by kernel_rfl) (fun _ _ _ h => h) (yieldsIf_run rfl (fun w' hw' => ?y4)) (fun _ => hS0) ?_
      case y4 => first | (go_simp; rfl) | (go_simp; done) | rfl
      simp only [Act.put, List.setIfInBounds_toArray, List.set_cons_zero, List.set_cons_succ]
      refine wpAnyG_pure (i := 4) (v := ?v5) rfl (by kernel_rfl) (by kernel_rfl) (by kernel_rfl) (by kernel_rfl) (fun _ _ _ h => h) (yieldsIf_run rfl (fun w' hw' => ?y5)) (fun _ => hS0) ?_
      case y5 => first | (go_simp; rfl) | (go_simp; done) | rfl
      simp only [Act.put, List.setIfInBounds_toArray, List.set_cons_zero, List.set_cons_succ]
      refine wpAnyG_takeZ (i := 5) (v := .agg (o.cells).toArray) rfl (by kernel_rfl) (by kernel_rfl) (by kernel_rfl) (by kernel_rfl) (fun _ _ _ h => h) (yieldsIf_load_mid rfl 39 (.tmp 45) rfl g (off + i * 37) rfl (o.cells) _ (fun w' hw' => (fun j u hu => (hw'.cell (p := ⟨g, off + i * 37 + j, none⟩) hg).trans (hr j u hu))) Try.underlying39 rfl sizeOp) hS0 ?_
      simp only [Act.put, List.setIfInBounds_toArray, List.set_cons_zero, List.set_cons_succ]
      refine wpAnyG_fin (i := 6) (by kernel_rfl) rfl rfl (by kernel_rfl) (fun K hK => ?_)
      go_simp
      go_at_call 28
      refine (HDO.out wd hS0).mono ?_
      rintro e wx ⟨v2, rfl, hsx, hlx, hcx⟩
      obtain ⟨qa, qc, rfl⟩ := hlx.form
      obtain ⟨M', hM'⟩ : ∃ M', (stepS S o).ref.length = M' := ⟨_, rfl⟩
      rw [hM'] at hlx ⊢
      clear hM'
      have hcx2 : Chg (fun k => k = b ∨ k = m) wr wx := (Chg.of_below hS0).trans hcx (fun _ h => .inl h)
      have HYtnmdgjodbikndaa := Lib.hid ((hcx2.block _ (Array.getElem?_eq_some_iff.1 HX.out).1 (by have := HBM.out; omega)).trans HX.out)
      refine hK _ _ ?_
      clear hK K
      try simp only [Act.put, List.setIfInBounds_toArray, List.set_cons_zero, List.set_cons_succ]
      refine wpAnyG_fin (i := 7) (by kernel_rfl) rfl rfl (by kernel_rfl) (fun K hK => ?_)
      go_simp
      refine hK _ _ ?_
      clear hK K
      try simp only [Act.put, List.setIfInBounds_toArray, List.set_cons_zero, List.set_cons_succ]
      refine wpAnyG_late (i := 8) (v := .agg #[.int .i64 n, .slice qa M' qc]) rfl (by kernel_rfl) (by kernel_rfl) (by kernel_rfl) (by kernel_rfl) (by kernel_rfl) (fun _ _ _ h => h) (yieldsIf_run rfl (fun w' hw' => ?y6)) ?_
      case y6 => first | (go_simp; rfl) | (go_simp; done) | rfl
      simp only [Act.put, List.setIfInBounds_toArray, List.set_cons_zero, List.set_cons_succ]
      refine wpAnyG_late (i := 9) (v := .bool true) rfl (by kernel_rfl) (by kernel_rfl) (by kernel_rfl) (by kernel_rfl) (by kernel_rfl) (fun _ _ _ h => h) (yieldsIf_run rfl (fun w' hw' => ?y7)) ?_
      case y7 => first | (go_simp; rfl) | (go_simp; done) | rfl
      simp only [Act.put, List.setIfInBounds_toArray, List.set_cons_zero, List.set_cons_succ]
      refine wpAnyG_fin (i := 10) (by kernel_rfl) rfl rfl (by kernel_rfl) (fun K hK => ?_)
      refine wp_store_row 50 (.tmp 5) (.tmp 48) rfl w.heap.size #[.int .i64 n, .slice qa M' qc] rfl rfl 50 _ HYtnmdgjodbikndaa.out sizeS rfl oneS ?_
      have xq := setRow_heap _ _ _ #[.int .i64 n, .slice qa M' qc] _ _ HYtnmdgjodbikndaa.out
      have cq : Chg (fun k => k = w.heap.size) _ _ := setRow_chg (F := fun k => k = w.heap.size) (w := wx) w.heap.size #[.int .i64 n, .slice qa M' qc] rfl
      obtain ⟨wq, hwq⟩ : ∃ wq, World.setRow wx w.heap.size #[.int .i64 n, .slice qa M' qc] = wq := ⟨_, rfl⟩
      rw [hwq] at xq cq ⊢
      clear hwq
      refine hK _ _ ?_
      clear hK K
      try simp only [Act.put, List.setIfInBounds_toArray, List.set_cons_zero, List.set_cons_succ]
      refine wpAnyG_fin (i := 11) (by kernel_rfl) rfl rfl (by kernel_rfl) (fun K hK => ?_)
      go_simp
      refine hK _ _ ?_
      clear hK K
      try simp only [Act.put, List.setIfInBounds_toArray, List.set_cons_zero, List.set_cons_succ]
      refine wpAnyG_done (by kernel_rfl) ?_ _
      refine NoPanic.normal ?_
      have hsq := hsx.chg cq (by have := HBM.out; omega) (by have := HBM.out; omega)
      have hlq := hlx.kept_row HYtnmdgjodbikndaa.out (by simp) cq
      have hbq := (HBR.out.trans (hcx2.below (B := w.heap.size) (fun k e => by have := HBM.out; omega) HBR.out.size)).trans (cq.below (B := w.heap.size) (fun k e => by omega) (by have := hcx2.size; have := HBR.out.size; omega))
      have HSQ := Lib.hid hsq
      have HLQ := Lib.hid hlq
      have HXQ := Lib.hid xq
      have HBQ := Lib.hid hbq
      clear hsq hlq xq cq hbq hsx hlx hcx hcx2 hr
      go_wp2_with fail
      go_roundw
      case rel => exact ⟨i + 1, _, by omega, rfl, by go_num, by rw [HNX.out]; exact HSQ.out, by rw [HNX.out]; exact HLQ.out, HXQ.out, HBQ.out⟩
      case measure => simp [intOf]; omega
    · obtain rfl : N = i := by omega
      have htk : L.take N = L := List.take_of_length_le (by rw [HN.out]; exact Nat.le_refl _)
      rw [htk] at hsr hlr hxr
      obtain ⟨S, hS⟩ : ∃ S, runS ⟨n, 0, []⟩ L = S := ⟨_, rfl⟩
      rw [hS] at hsr hlr hxr
      obtain ⟨N', hN'⟩ : ∃ N', S.ref.length = N' := ⟨_, rfl⟩
      rw [hN'] at hlr hxr
      have HSR := Lib.hid hsr
      have HLR := Lib.hid hlr
      have HX := Lib.hid hxr
      have HBR := Lib.hid hbr
      have HSS := Lib.hid hS
      clear hsr hlr hxr hbr hS hN' hro hrl htk
      go_wp2_with fail
      refine wp_region_noPanic ?_
      refine wp_region_G [3, 4] (Below wr.heap.size wr) (by kernel_rfl) ?_
      have hS0 : (Below wr.heap.size wr) wr.drew := (Below.refl _ _).drew
      obtain ⟨wd, hwd⟩ : ∃ wd, wr.drew = wd := ⟨_, rfl⟩
      rw [hwd] at hS0 ⊢
      clear hwd
      refine wpAnyG_pure (i := 0) (v := ?v8) rfl (by kernel_rfl) (by kernel_rfl) (by kernel_rfl) (by kernel_rfl) (fun _ _ _ h => h) (yieldsIf_run rfl (fun w' hw' => ?y8)) (fun _ => hS0) ?_
      case y8 => first | (go_simp; rfl) | (go_simp; done) | rfl
      simp only [Act.put, List.setIfInBounds_toArray, List.set_cons_zero, List.set_cons_succ]
      refine wpAnyG_takeZ (i := 1) (v := .agg ([Value.int .i64 n, .slice pa N' pc]).toArray) rfl (by kernel_rfl) (by kernel_rfl) (by kernel_rfl) (by kernel_rfl) (fun _ _ _ h => h) (yieldsIf_load_mid rfl 50 (.tmp 5) rfl w.heap.size (0) rfl ([Value.int .i64 n, .slice pa N' pc]) _ (fun w' hw' => range_block ((hw'.block _ (Array.getElem?_eq_some_iff.1 HX.out).1).trans HX.out)) Try.underlying50 rfl sizeSL) hS0 ?_
      simp only [Act.put, List.setIfInBounds_toArray, List.set_cons_zero, List.set_cons_succ]
      refine wpAnyG_pure (i := 2) (v := ?v9) rfl (by kernel_rfl) (by kernel_rfl) (by kernel_rfl) (by kernel_rfl) (fun _ _ _ h => h) (yieldsIf_run rfl (fun w' hw' => ?y9)) (fun _ => hS0) ?_
      case y9 => first | (go_simp; rfl) | (go_simp; done) | rfl
      simp only [Act.put, List.setIfInBounds_toArray, List.set_cons_zero, List.set_cons_succ]
      have HXD := Lib.hid ((hS0.block _ (Array.getElem?_eq_some_iff.1 HX.out).1).trans HX.out)
      refine wpAnyG_fin (i := 3) (by kernel_rfl) rfl rfl (by kernel_rfl) (fun K hK => ?_)
      refine wp_store_row 50 (.tmp 5) (.tmp 54) rfl w.heap.size #[.int .i64 n, .slice pa N' pc] rfl rfl 50 _ HXD.out sizeS rfl oneS ?_
      have xq := setRow_heap _ _ _ #[.int .i64 n, .slice pa N' pc] _ _ HXD.out
      have cq : Chg (fun k => k = w.heap.size) _ _ := setRow_chg (F := fun k => k = w.heap.size) (w := wd) w.heap.size #[.int .i64 n, .slice pa N' pc] rfl
      obtain ⟨wq, hwq⟩ : ∃ wq, World.setRow wd w.heap.size #[.int .i64 n, .slice pa N' pc] = wq := ⟨_, rfl⟩
      rw [hwq] at xq cq ⊢
      clear hwq
      refine hK _ _ ?_
      clear hK K
      try simp only [Act.put, List.setIfInBounds_toArray, List.set_cons_zero, List.set_cons_succ]
      refine wpAnyG_fin (i := 4) (by kernel_rfl) rfl rfl (by kernel_rfl) (fun K hK => ?_)
      go_simp
      refine hK _ _ ?_
      clear hK K
      try simp only [Act.put, List.setIfInBounds_toArray, List.set_cons_zero, List.set_cons_succ]
      refine wpAnyG_done (by kernel_rfl) ?_ _
      refine NoPanic.normal ?_
      have hsq := (HSR.out.below hS0).chg cq (by have := HBM.out; omega) (by have := HBM.out; omega)
      have hlq := (HLR.out.below hS0).kept_row HXD.out (by simp) cq
      have hbq := HBR.out.trans ((hS0.mono HBR.out.size).trans (cq.below (B := w.heap.size) (fun k e => by omega) (by have := hS0.size; have := HBR.out.size; omega)))
      have HXQ := Lib.hid xq
      have HPO := Lib.hid (show Below w.heap.size w wq ∧ SpAt wq b m (runS ⟨n, 0, []⟩ L) ∧ ListAt refE wq (.slice pa N' pc) (runS ⟨n, 0, []⟩ L).ref from ⟨hbq, by rw [HSS.out]; exact hsq, by rw [HSS.out]; exact hlq⟩)
      clear hsq hlq xq cq hbq
      go_wp2_with fail
      exact bodyPost_ret (results_tmp_cell_tmp (g := w.heap.size) rfl _ _ _ _ _ _ rfl HXQ.out Try.underlying50 rfl sizeS) rfl ⟨HPO.out.1, .inl ⟨HBND.out.1, HBND.out.2, b, m, _, rfl, by have := HBM.out; omega, by have := HBM.out; omega, HPO.out.2.1, HPO.out.2.2⟩⟩
end Go.Proofs.Ytnmdgjodbikndaa

namespace Go.Proofs.Ytnmdgjodbikndaa
open Go.RowKit
set_option linter.unusedVariables false
set_option linter.unusedSimpArgs false

theorem sizeEnt (a : ArtD) : (Try.prog.info? 44).map (·.size) = some (entC a).toArray.size := by rw [List.size_toArray, entC_length]; kernel_rfl
theorem zeroEntB (w : World) : (Instr.build 44 #[]).run Try.prog w = .ok (.agg (entC zA).toArray) w := by kernel_rfl
set_option maxRecDepth 100000 in
set_option maxHeartbeats 2000000 in
theorem Entry_any {w : World} {b m : Nat} {S : SpD} (h : SpAt w b m S) (hok : S.Ok) (k : IdB) :
    Calls Try.prog 26 #[.pointer (some ⟨b, 0, none⟩), .agg (bvs k.1).toArray] w fun e w' => e = .returned (.tuple #[.agg (entC ((S.find k).getD zA)).toArray, .bool (S.find k).isSome]) ∧ Below w.heap.size w w' := by
  obtain ⟨w1, hw1⟩ : ∃ w1, w.alloc (.cells (bvs k.1).toArray 30) = w1 := ⟨_, rfl⟩
  have hb1 : Below w.heap.size w w1 := hw1 ▸ (Below.refl _ _).alloc (Nat.le_refl _) _
  have hx1 : w1.heap[w.heap.size]? = some (.cells (bvs k.1).toArray 30 (0, 0)) := by rw [← hw1]; exact heap_alloc_new _ _
  obtain ⟨A, hA⟩ : ∃ A, (S.find k).getD zA = A := ⟨_, rfl⟩
  obtain ⟨r, hr⟩ : ∃ r, (S.find k).isSome = r := ⟨_, rfl⟩
  have hAk : r = true → A.id = k := fun e => by
    cases hf : S.find k with
    | none => rw [hf] at hr; rw [e] at hr; cases hr
    | some x => rw [hf] at hA; have := (find_spec.1 hf).2; rw [← hA]; exact this
  have hA0 : r = false → A = zA := fun e => by
    cases hf : S.find k with
    | none => rw [hf] at hA; exact hA.symm
    | some x => rw [hf] at hr; rw [e] at hr; cases hr
  have htx : A.text.size ≤ 65536 := by
    cases hf : S.find k with
    | none => rw [hf] at hA; rw [← hA]; decide
    | some x => rw [hf] at hA; rw [← hA]; exact (hok.tx x (find_spec.1 hf).1).2
  rw [hA, hr]
  have hlk := fun w' (hw' : Below w.heap.size w w') => (h.below hw').look k false
  have hhas := fun w' (hw' : Below w.heap.size w w') => Has_any (h.below hw') k
  rw [hA] at hlk
  rw [hr] at hhas
  have HH := Lib.hid h
  have HAK := Lib.hid hAk
  have HA0 := Lib.hid hA0
  have HHAS := Lib.hid hhas
  have HLKA := Lib.hid hlk
  have HX := Lib.hid hx1
  have HB1 := Lib.hid hb1
  have HTX := Lib.hid htx
  clear h hok hA hr hAk hA0 hlk hhas hx1 hb1 htx
  go_enter Try.func26, Try.ntmps26
  go_wp2_with (refine wpList_newV rfl (some 4) rfl 44 rfl (entC zA).toArray 34 (by kernel_rfl) ?_; refine Stop.on ?_)
  refine Stop.go ?_
  try simp only [Act.put, List.setIfInBounds_toArray, List.set_cons_zero, List.set_cons_succ]
  intro wi xi bi si
  try simp only [Act.put, List.setIfInBounds_toArray, List.set_cons_zero, List.set_cons_succ]
  have HXI := Lib.hid xi
  have HBI := Lib.hid (HB1.out.trans (bi.mono HB1.out.size))
  have HX3 := Lib.hid ((bi.block _ (Array.getElem?_eq_some_iff.1 HX.out).1).trans HX.out)
  have HLT := Lib.hid (show w.heap.size < w1.heap.size from (Array.getElem?_eq_some_iff.1 HX.out).1)
  clear xi bi si
  go_wp2_with (refine wpList_loadV rfl (some 8) rfl 30 (.tmp 3) rfl _ rfl 30 (bvs k.1).toArray (0, 0) _ HX3.out Try.underlying30 rfl (sizeIdA k) ?_; refine Stop.on ?_)
  refine Stop.go ?_
  try simp only [Act.put, List.setIfInBounds_toArray, List.set_cons_zero, List.set_cons_succ]
  go_wp2_with fail
  refine (HHAS.out wi HBI.out).mono ?_
  rintro e wh ⟨rfl, hbh⟩
  have HXH := Lib.hid ((hbh.block _ (Array.getElem?_eq_some_iff.1 HXI.out).1).trans HXI.out)
  have HX3H := Lib.hid ((hbh.block _ (Array.getElem?_eq_some_iff.1 HX3.out).1).trans HX3.out)
  have HBH := Lib.hid (HBI.out.trans (hbh.mono HBI.out.size))
  clear hbh
  cases r with
  | false =>
    obtain rfl := HA0.out rfl
    go_wp2_with (refine wpList_buildV rfl (some 11) rfl 44 _ rfl [] rfl (.agg (entC zA).toArray) (zeroEntB _) ?_; refine Stop.on ?_)
    refine Stop.go ?_
    try simp only [Act.put, List.setIfInBounds_toArray, List.set_cons_zero, List.set_cons_succ]
    go_wp2_with (refine wpList_putV rfl rfl 44 (.tmp 4) (.tmp 11) rfl _ (entC zA).toArray rfl rfl 44 _ HXH.out (sizeEnt zA) (by simp only [List.size_toArray, entC_length]) (all_oneCell_cells entE zA) ?_; refine Stop.on ?_)
    refine Stop.go ?_
    try simp only [Act.put, List.setIfInBounds_toArray, List.set_cons_zero, List.set_cons_succ]
    intro wq xq cq sq
    try simp only [Act.put, List.setIfInBounds_toArray, List.set_cons_zero, List.set_cons_succ]
    have HXQ := Lib.hid xq
    have HBQ := Lib.hid (HBH.out.trans (cq.below (B := w.heap.size) (fun k e => by have := HLT.out; omega) HBH.out.size))
    clear xq cq sq
    go_wp2_with fail
    exact bodyPost_ret (results_cell_tmp_row (g := w1.heap.size) rfl _ _ _ _ _ _ rfl HXQ.out Try.underlying44 rfl (sizeEnt zA)) rfl ⟨rfl, HBQ.out⟩
  | true =>
  obtain rfl := HAK.out rfl
  obtain ⟨k, hk⟩ : ∃ k, A.id = k := ⟨_, rfl⟩
  rw [hk] at HX3H HLKA
  have HK := Lib.hid hk
  clear hk HA0 HAK HHAS
  have HC := Lib.hid (show ∀ w', Below wh.heap.size wh w' → w'.rangeAt w.heap.size 0 (bvs k.1) ∧ w'.cell? ⟨b, 3, none⟩ = some (.map (some m)) from fun w' hw' => ⟨range_block ((hw'.block _ (Array.getElem?_eq_some_iff.1 HX3H.out).1).trans HX3H.out), ((HH.out.below HBH.out).below hw').cells.2.2.2⟩)
  have HLK := Lib.hid (show ∀ w', Below wh.heap.size wh w' → (Instr.lookup 76 (.map (some m)) (.agg (bvs k.1).toArray) false).run Try.prog w' = .ok (.agg #[.string A.text, .int .i64 A.arr, .int .i64 A.place]) w' from fun w' hw' => HLKA.out w' (HBH.out.trans (hw'.mono HBH.out.size)))
  go_wp2_with fail
  refine wp_region_noPanic ?_
  refine wp_region_H (Below wh.heap.size wh) (by kernel_rfl) ?_
  have hS0 : (Below wh.heap.size wh) wh.drew := (Below.refl _ _).drew
  obtain ⟨wd, hwd⟩ : ∃ wd, wh.drew = wd := ⟨_, rfl⟩
  rw [hwd] at hS0 ⊢
  clear hwd
  refine wpAnyH_takeI (i := 0) (v := ?v1) rfl (by kernel_rfl) (by kernel_rfl) (by kernel_rfl) (fun _ _ _ h => h) (yieldsIf_run rfl (fun w' hw' => ?y1)) hS0 ?_
  case y1 => first | (go_simp; rfl) | (go_simp; done) | rfl
  simp only [Act.put, List.setIfInBounds_toArray, List.set_cons_zero, List.set_cons_succ]
  refine wpAnyH_takeI (i := 1) (v := ?v2) rfl (by kernel_rfl) (by kernel_rfl) (by kernel_rfl) (fun _ _ _ h => h) (yieldsIf_run rfl (fun w' hw' => ?y2)) hS0 ?_
  case y2 => first | (go_simp; rfl) | (go_simp; done) | rfl
  simp only [Act.put, List.setIfInBounds_toArray, List.set_cons_zero, List.set_cons_succ]
  refine wpAnyH_takeI (i := 2) (v := ?v3) rfl (by kernel_rfl) (by kernel_rfl) (by kernel_rfl) (fun _ _ _ h => h) (yieldsIf_run rfl (fun w' hw' => ?y3)) hS0 ?_
  case y3 => first | (go_simp; rfl) | (go_simp; done) | rfl
  simp only [Act.put, List.setIfInBounds_toArray, List.set_cons_zero, List.set_cons_succ]
  refine wpAnyH_takeI (i := 3) (v := .map (some m)) rfl (by kernel_rfl) (by kernel_rfl) (by kernel_rfl) (fun _ _ _ h => h) (yieldsIf_run rfl (fun w' hw' => ?y4)) hS0 ?_
  case y4 => (have hc := (HC.out w' hw').2; clear hw'; first | (go_simp; rfl) | (go_simp; done))
  simp only [Act.put, List.setIfInBounds_toArray, List.set_cons_zero, List.set_cons_succ]
  refine wpAnyH_takeI (i := 4) (v := .agg (bvs k.1).toArray) rfl (by kernel_rfl) (by kernel_rfl) (by kernel_rfl) (fun _ _ _ h => h) (yieldsIf_load_mid rfl 30 (.tmp 3) rfl w.heap.size 0 rfl (bvs k.1) _ (fun w' hw' => (HC.out w' hw').1) Try.underlying30 rfl (sizeId k)) hS0 ?_
  simp only [Act.put, List.setIfInBounds_toArray, List.set_cons_zero, List.set_cons_succ]
  refine wpAnyH_takeI (i := 5) (v := .agg #[.string A.text, .int .i64 A.arr, .int .i64 A.place]) rfl (by kernel_rfl) (by kernel_rfl) (by kernel_rfl) (fun _ _ _ h => h) (yieldsIf_run rfl (fun w' hw' => ?y5)) hS0 ?_
  case y5 => (have hl := HLK.out w' hw'; clear hw'; first | (go_simp; rfl) | (go_simp; done))
  simp only [Act.put, List.setIfInBounds_toArray, List.set_cons_zero, List.set_cons_succ]
  refine wpAnyH_do (i := 6) (by kernel_rfl) rfl rfl (fun K hK => ?_)
  go_simp
  obtain ⟨wa, hwa⟩ : ∃ wa, wd.alloc (.cells #[.string ⟨#[]⟩, .int .i64 0, .int .i64 0] 80) = wa := ⟨_, rfl⟩
  have hba : Below wd.heap.size wd wa := hwa ▸ (Below.refl _ _).alloc (Nat.le_refl _) _
  have hxa : wa.heap[wd.heap.size]? = some (.cells #[.string ⟨#[]⟩, .int .i64 0, .int .i64 0] 80 (0, 0)) := by rw [← hwa]; exact heap_alloc_new _ _
  rw [hwa]
  have hSa := hS0.trans (hba.mono hS0.size)
  refine hK _ _ hSa ?_
  clear hK K
  try simp only [Act.put, List.setIfInBounds_toArray, List.set_cons_zero, List.set_cons_succ]
  refine wpAnyH_do (i := 7) (by kernel_rfl) rfl rfl (fun K hK => ?_)
  refine wp_store_row 80 (.tmp 6) (.tmp 17) rfl wd.heap.size #[.string A.text, .int .i64 A.arr, .int .i64 A.place] rfl rfl 80 _ hxa sizeArt rfl oneArt ?_
  have hxb := setRow_heap _ _ _ #[.string A.text, .int .i64 A.arr, .int .i64 A.place] _ _ hxa
  have hbb : Below wh.heap.size wh (wa.setRow wd.heap.size #[.string A.text, .int .i64 A.arr, .int .i64 A.place]) := below_setRow hSa hS0.size _
  obtain ⟨wb, hwb⟩ : ∃ wb, wa.setRow wd.heap.size #[.string A.text, .int .i64 A.arr, .int .i64 A.place] = wb := ⟨_, rfl⟩
  rw [hwb] at hxb hbb ⊢
  clear hwb hwa hxa hSa hba
  refine hK _ _ hbb ?_
  clear hK K
  try simp only [Act.put, List.setIfInBounds_toArray, List.set_cons_zero, List.set_cons_succ]
  refine wpAnyH_done (by kernel_rfl) ?_ _
  refine NoPanic.normal ?_
  have HXB := Lib.hid hxb
  have HBB := Lib.hid hbb
  have HLD := Lib.hid (show w.heap.size ≤ wd.heap.size from Nat.le_trans HBH.out.size hS0.size)
  clear hxb hbb hS0
  have HX3B := Lib.hid ((HBB.out.block _ (Array.getElem?_eq_some_iff.1 HX3H.out).1).trans HX3H.out)
  have HXHB := Lib.hid ((HBB.out.block _ (Array.getElem?_eq_some_iff.1 HXH.out).1).trans HXH.out)
  have HBW := Lib.hid (HBH.out.trans (HBB.out.mono HBH.out.size))
  have hca : wb.cell? ⟨wd.heap.size, 1, none⟩ = some (.int .i64 A.arr) := by rw [cell_of_row _ _ _ _ _ _ HXB.out]; rfl
  have hct : wb.cell? ⟨wd.heap.size, 0, none⟩ = some (.string A.text) := by rw [cell_of_row _ _ _ _ _ _ HXB.out]; rfl
  have htx := HTX.out
  go_wp2_with (refine wpList_loadV rfl (some 18) rfl 30 (.tmp 3) rfl _ rfl 30 (bvs k.1).toArray (0, 0) _ HX3B.out Try.underlying30 rfl (sizeIdA k) ?_; refine Stop.on ?_)
  refine Stop.go ?_
  try simp only [Act.put, List.setIfInBounds_toArray, List.set_cons_zero, List.set_cons_succ]
  go_wp2_with (refine wpList_buildV rfl (some 24) rfl 44 _ rfl [(0, .agg (bvs k.1).toArray), (1, .int .i64 A.arr), (2, .int .i64 (A.text.size : Int))] rfl (.agg (entC A).toArray) (by have h := build_ent k A.arr (A.text.size : Int) wb; rw [← HK.out] at h ⊢; exact h) ?_; refine Stop.on ?_)
  refine Stop.go ?_
  try simp only [Act.put, List.setIfInBounds_toArray, List.set_cons_zero, List.set_cons_succ]
  go_wp2_with (refine wpList_putV rfl rfl 44 (.tmp 4) (.tmp 24) rfl _ (entC A).toArray rfl rfl 44 _ HXHB.out (sizeEnt A) (by simp only [List.size_toArray, entC_length]) (all_oneCell_cells entE A) ?_; refine Stop.on ?_)
  refine Stop.go ?_
  try simp only [Act.put, List.setIfInBounds_toArray, List.set_cons_zero, List.set_cons_succ]
  intro wq xq cq sq
  try simp only [Act.put, List.setIfInBounds_toArray, List.set_cons_zero, List.set_cons_succ]
  have HXQ := Lib.hid xq
  have HBQ := Lib.hid (HBW.out.trans (cq.below (B := w.heap.size) (fun k e => by have := HLT.out; omega) HBW.out.size))
  clear xq cq sq
  go_wp2_with fail
  exact bodyPost_ret (results_cell_tmp_row (g := w1.heap.size) rfl _ _ _ _ _ _ rfl HXQ.out Try.underlying44 rfl (sizeEnt A)) rfl ⟨rfl, HBQ.out⟩
end Go.Proofs.Ytnmdgjodbikndaa

namespace Go.Proofs.Ytnmdgjodbikndaa
open Go.RowKit
set_option linter.unusedVariables false
set_option linter.unusedSimpArgs false

theorem find_inn {w : World} {b m : Nat} {S : SpD} (h : SpAt w b m S) {a : ArtD} (ha : a ∈ S.list) : S.find a.id = some a := by
  have hnd := h.hm.nodup
  unfold SpD.kl at hnd
  rw [List.map_map] at hnd
  have hnd : (S.list.map (·.id)).Nodup := hnd
  unfold SpD.find
  rw [List.find?_eq_some_iff_getElem]
  obtain ⟨i, hi, e⟩ := List.getElem_of_mem ha
  refine ⟨decide_eq_true rfl, i, hi, e, fun j hj => ?_⟩
  simp only [Bool.not_eq_true', decide_eq_false_iff_not]
  intro e2
  have h1 := List.pairwise_iff_getElem.1 hnd j i (by simp; omega) (by simpa using hi) hj
  simp only [List.getElem_map] at h1
  rw [e] at h1
  exact h1 e2
theorem entC_parts (x : ArtD) : (entC x).toArray[32]? = some (.int .i64 x.arr) ∧ (entC x).toArray[33]? = some (.int .i64 (x.text.size : Int)) := by
  have hl : (bvs x.id.1).length = 32 := by rw [bvs_length, x.id.2]
  unfold entC
  constructor
  · rw [List.getElem?_toArray, List.getElem?_append_right (by omega), hl]; rfl
  · rw [List.getElem?_toArray, List.getElem?_append_right (by omega), hl]; rfl
theorem range_idE {w : World} {g : Nat} {x : ArtD} (h : w.heap[g]? = some (.cells (entC x).toArray 44 (0, 0))) : w.rangeAt g 0 (bvs x.id.1) := fun j u hj => range_block h j u (by
  unfold entC
  rw [List.getElem?_append_left (List.getElem?_eq_some_iff.1 hj).1]
  exact hj)
set_option maxRecDepth 100000 in
set_option maxHeartbeats 2000000 in
theorem view_any {w : World} {b m : Nat} {S : SpD} (h : SpAt w b m S) (hok : S.Ok) (hn : S.list.length < 10000) (v : Value) (hv : ListAt refE w v S.ref) :
    Calls Try.prog 24 #[.pointer (some ⟨b, 0, none⟩), .agg #[.int .i64 S.budget, v]] w fun e w' => e = .returned (.bool true) ∧ Below w.heap.size w w' := by
  obtain ⟨va, vc, rfl⟩ := hv.form
  obtain ⟨N, hN⟩ : ∃ N, S.ref.length = N := ⟨_, rfl⟩
  obtain ⟨B, hB⟩ : ∃ B, S.budget = B := ⟨_, rfl⟩
  obtain ⟨Z, hZ⟩ : ∃ Z, S.size = Z := ⟨_, rfl⟩
  have hNl : S.list.length = N := by rw [← hN, ref_length]
  rw [hN] at hv ⊢
  rw [hB]
  obtain ⟨w1, hw1⟩ : ∃ w1, w.alloc (.cells #[.int .i64 B, .slice va N vc] 50) = w1 := ⟨_, rfl⟩
  have hx1 : w1.heap[w.heap.size]? = some (.cells #[.int .i64 B, .slice va N vc] 50 (0, 0)) := by rw [← hw1]; exact heap_alloc_new _ _
  have hb1 : Below w.heap.size w w1 := hw1 ▸ (Below.refl _ _).alloc (Nat.le_refl _) _
  have hs1 := h.below hb1
  have HO := Lib.hid (show ∀ w', Below w1.heap.size w1 w' → w'.heap[w.heap.size]? = some (.cells #[.int .i64 B, .slice va N vc] 50 (0, 0)) ∧ w'.cell? ⟨w.heap.size, 1, none⟩ = some (.slice va N vc) ∧ w'.cell? ⟨w.heap.size, 0, none⟩ = some (.int .i64 B) ∧ ListAt refE w' (.slice va N vc) S.ref ∧ SpAt w' b m S from fun w' hw' => by
    have h0 := (hw'.block _ (Array.getElem?_eq_some_iff.1 hx1).1).trans hx1
    exact ⟨h0, by rw [cell_of_row _ _ _ _ _ _ h0]; rfl, by rw [cell_of_row _ _ _ _ _ _ h0]; rfl, (hv.below hb1).below hw', hs1.below hw'⟩)
  have hlen := fun w' (hw' : Below w1.heap.size w1 w') => Len_any (HO.out w' hw').2.2.2.2
  have hbyt := fun w' (hw' : Below w1.heap.size w1 w') => Bytes_any (HO.out w' hw').2.2.2.2
  have hfre := fun w' (hw' : Below w1.heap.size w1 w') => Free_any (HO.out w' hw').2.2.2.2 hok
  have hrby := fun w' (hw' : Below w1.heap.size w1 w') => rBytes_any B (.slice va N vc) S.ref (HO.out w' hw').2.2.2.1 (by rw [ref_length]; omega) (ref_tx hok)
  rw [hNl] at hlen
  rw [hZ] at hbyt
  rw [hZ, hB] at hfre
  rw [ref_size, hZ] at hrby
  have hwr : IntKind.i64.wrap (B - (Z : Int)) = B - (Z : Int) := IntWalk.i64_in _ (by have h1 := hok.b0; have h2 := hok.b1; have h3 := hok.sz; rw [hB] at h1 h2 h3; rw [hZ] at h3; omega)
  have HLEN := Lib.hid hlen
  have HBYT := Lib.hid hbyt
  have HFRE := Lib.hid hfre
  have HRBY := Lib.hid hrby
  have HB1 := Lib.hid hb1
  have HS := Lib.hid h
  have HOK := Lib.hid hok
  have HN := Lib.hid hN
  have HNL := Lib.hid hNl
  have HNN := Lib.hid (show N < 10000 by omega)
  clear hx1 hb1 hs1 hlen hbyt hfre hrby h hok hn hv hN hNl hB hZ
  go_enter Try.func24, Try.ntmps24
  go_wp2_with fail
  refine wp_region_noPanic ?_
  refine wp_region_H (Below w1.heap.size w1) (by kernel_rfl) ?_
  have hS0 : (Below w1.heap.size w1) w1.drew := (Below.refl _ _).drew
  obtain ⟨wd, hwd⟩ : ∃ wd, w1.drew = wd := ⟨_, rfl⟩
  rw [hwd] at hS0 ⊢
  clear hwd
  refine wpAnyH_takeI (i := 0) (v := ?v1) rfl (by kernel_rfl) (by kernel_rfl) (by kernel_rfl) (fun _ _ _ h => h) (yieldsIf_run rfl (fun w' hw' => ?y1)) hS0 ?_
  case y1 => first | (go_simp; rfl) | (go_simp; done) | rfl
  simp only [Act.put, List.setIfInBounds_toArray, List.set_cons_zero, List.set_cons_succ]
  refine wpAnyH_takeI (i := 2) (v := ?v2) rfl (by kernel_rfl) (by kernel_rfl) (by kernel_rfl) (fun _ _ _ h => h) (yieldsIf_run rfl (fun w' hw' => ?y2)) hS0 ?_
  case y2 => first | (go_simp; rfl) | (go_simp; done) | rfl
  simp only [Act.put, List.setIfInBounds_toArray, List.set_cons_zero, List.set_cons_succ]
  refine wpAnyH_takeI (i := 3) (v := ?v3) rfl (by kernel_rfl) (by kernel_rfl) (by kernel_rfl) (fun _ _ _ h => h) (yieldsIf_run rfl (fun w' hw' => ?y3)) hS0 ?_
  case y3 => (have hc := (HO.out w' hw').2.1; have hc2 := (HO.out w' hw').2.2.1; clear hw'; first | (go_simp; rfl) | (go_simp; done))
  simp only [Act.put, List.setIfInBounds_toArray, List.set_cons_zero, List.set_cons_succ]
  refine wpAnyH_takeI (i := 4) (v := ?v4) rfl (by kernel_rfl) (by kernel_rfl) (by kernel_rfl) (fun _ _ _ h => h) (yieldsIf_run rfl (fun w' hw' => ?y4)) hS0 ?_
  case y4 => first | (go_simp; rfl) | (go_simp; done) | rfl
  simp only [Act.put, List.setIfInBounds_toArray, List.set_cons_zero, List.set_cons_succ]
  refine wpAnyH_do (i := 1) (by kernel_rfl) rfl rfl (fun K hK => ?_)
  go_simp
  go_at_call 22
  refine (HLEN.out _ hS0).mono ?_
  rintro e wa ⟨rfl, hbwa⟩
  have hSwa := hS0.trans (hbwa.mono hS0.size)
  refine hK _ _ (hSwa) ?_
  clear hK K
  try simp only [Act.put, List.setIfInBounds_toArray, List.set_cons_zero, List.set_cons_succ]
  refine wpAnyH_takeI (i := 5) (v := ?v5) rfl (by kernel_rfl) (by kernel_rfl) (by kernel_rfl) (fun _ _ _ h => h) (yieldsIf_run rfl (fun w' hw' => ?y5)) hSwa ?_
  case y5 => first | (go_simp; rfl) | (go_simp; done) | rfl
  simp only [Act.put, List.setIfInBounds_toArray, List.set_cons_zero, List.set_cons_succ]
  refine wpAnyH_takeI (i := 6) (v := ?v6) rfl (by kernel_rfl) (by kernel_rfl) (by kernel_rfl) (fun _ _ _ h => h) (yieldsIf_run rfl (fun w' hw' => ?y6)) hSwa ?_
  case y6 => first | (go_simp; rfl) | (go_simp; done) | rfl
  simp only [Act.put, List.setIfInBounds_toArray, List.set_cons_zero, List.set_cons_succ]
  refine wpAnyH_takeI (i := 7) (v := ?v7) rfl (by kernel_rfl) (by kernel_rfl) (by kernel_rfl) (fun _ _ _ h => h) (yieldsIf_want rfl (fun w' hw' => ?y7)) hSwa ?_
  case y7 => first | (go_simp; rfl) | (go_simp; done) | rfl
  simp only [Act.put, List.setIfInBounds_toArray, List.set_cons_zero, List.set_cons_succ]
  refine wpAnyH_takeI (i := 9) (v := .agg ([Value.int .i64 B, .slice va N vc]).toArray) rfl (by kernel_rfl) (by kernel_rfl) (by kernel_rfl) (fun _ _ _ h => h) (yieldsIf_load_mid rfl 50 (.tmp 3) rfl w.heap.size (0) rfl ([Value.int .i64 B, .slice va N vc]) _ (fun w' hw' => range_block (HO.out w' hw').1) Try.underlying50 rfl sizeSL) hSwa ?_
  simp only [Act.put, List.setIfInBounds_toArray, List.set_cons_zero, List.set_cons_succ]
  refine wpAnyH_want (i := 8) (by kernel_rfl) rfl rfl (fun K hK => ?_)
  go_simp
  go_at_call 20
  refine (HBYT.out _ hSwa).mono ?_
  rintro e wb ⟨rfl, hbwb⟩
  have hSwb := hSwa.trans (hbwb.mono hSwa.size)
  refine hK _ _ (hSwb) ?_
  clear hK K
  try simp only [Act.put, List.setIfInBounds_toArray, List.set_cons_zero, List.set_cons_succ]
  refine wpAnyH_want (i := 10) (by kernel_rfl) rfl rfl (fun K hK => ?_)
  go_simp
  go_at_call 39
  refine (HRBY.out _ hSwb).mono ?_
  rintro e wc ⟨rfl, hbwc⟩
  have hSwc := hSwb.trans (hbwc.mono hSwb.size)
  refine hK _ _ (hSwc) ?_
  clear hK K
  try simp only [Act.put, List.setIfInBounds_toArray, List.set_cons_zero, List.set_cons_succ]
  refine wpAnyH_takeI (i := 11) (v := ?v8) rfl (by kernel_rfl) (by kernel_rfl) (by kernel_rfl) (fun _ _ _ h => h) (yieldsIf_want rfl (fun w' hw' => ?y8)) hSwc ?_
  case y8 => first | (go_simp; rfl) | (go_simp; done) | rfl
  simp only [Act.put, List.setIfInBounds_toArray, List.set_cons_zero, List.set_cons_succ]
  refine wpAnyH_takeI (i := 12) (v := ?v9) rfl (by kernel_rfl) (by kernel_rfl) (by kernel_rfl) (fun _ _ _ h => h) (yieldsIf_run rfl (fun w' hw' => ?y9)) hSwc ?_
  case y9 => first | (go_simp; rfl) | (go_simp; done) | rfl
  simp only [Act.put, List.setIfInBounds_toArray, List.set_cons_zero, List.set_cons_succ]
  refine wpAnyH_takeI (i := 13) (v := ?v10) rfl (by kernel_rfl) (by kernel_rfl) (by kernel_rfl) (fun _ _ _ h => h) (yieldsIf_run rfl (fun w' hw' => ?y10)) hSwc ?_
  case y10 => first | (go_simp; rfl) | (go_simp; done) | rfl
  simp only [Act.put, List.setIfInBounds_toArray, List.set_cons_zero, List.set_cons_succ]
  refine wpAnyH_takeI (i := 14) (v := ?v11) rfl (by kernel_rfl) (by kernel_rfl) (by kernel_rfl) (fun _ _ _ h => h) (yieldsIf_want rfl (fun w' hw' => ?y11)) hSwc ?_
  case y11 => first | (go_simp; rfl) | (go_simp; done) | rfl
  simp only [Act.put, List.setIfInBounds_toArray, List.set_cons_zero, List.set_cons_succ]
  refine wpAnyH_takeI (i := 16) (v := ?v12) rfl (by kernel_rfl) (by kernel_rfl) (by kernel_rfl) (fun _ _ _ h => h) (yieldsIf_want rfl (fun w' hw' => ?y12)) hSwc ?_
  case y12 => first | (go_simp; rfl) | (go_simp; done) | rfl
  simp only [Act.put, List.setIfInBounds_toArray, List.set_cons_zero, List.set_cons_succ]
  refine wpAnyH_takeI (i := 17) (v := ?v13) rfl (by kernel_rfl) (by kernel_rfl) (by kernel_rfl) (fun _ _ _ h => h) (yieldsIf_want rfl (fun w' hw' => ?y13)) hSwc ?_
  case y13 => (have hc := (HO.out w' hw').2.1; have hc2 := (HO.out w' hw').2.2.1; clear hw'; first | (go_simp; rfl) | (go_simp; done))
  simp only [Act.put, List.setIfInBounds_toArray, List.set_cons_zero, List.set_cons_succ]
  refine wpAnyH_takeI (i := 18) (v := .agg ([Value.int .i64 B, .slice va N vc]).toArray) rfl (by kernel_rfl) (by kernel_rfl) (by kernel_rfl) (fun _ _ _ h => h) (yieldsIf_load_mid rfl 50 (.tmp 3) rfl w.heap.size (0) rfl ([Value.int .i64 B, .slice va N vc]) _ (fun w' hw' => range_block (HO.out w' hw').1) Try.underlying50 rfl sizeSL) hSwc ?_
  simp only [Act.put, List.setIfInBounds_toArray, List.set_cons_zero, List.set_cons_succ]
  refine wpAnyH_want (i := 15) (by kernel_rfl) rfl rfl (fun K hK => ?_)
  go_simp
  go_at_call 21
  refine (HFRE.out _ hSwc).mono ?_
  rintro e wd2 ⟨rfl, hbwd2⟩
  have hSwd2 := hSwc.trans (hbwd2.mono hSwc.size)
  refine hK _ _ (hSwd2) ?_
  clear hK K
  try simp only [Act.put, List.setIfInBounds_toArray, List.set_cons_zero, List.set_cons_succ]
  refine wpAnyH_want (i := 19) (by kernel_rfl) rfl rfl (fun K hK => ?_)
  go_simp
  go_at_call 39
  refine (HRBY.out _ hSwd2).mono ?_
  rintro e we ⟨rfl, hbwe⟩
  have hSwe := hSwd2.trans (hbwe.mono hSwd2.size)
  refine hK _ _ (hSwe) ?_
  clear hK K
  try simp only [Act.put, List.setIfInBounds_toArray, List.set_cons_zero, List.set_cons_succ]
  refine wpAnyH_takeI (i := 20) (v := .int .i64 (B - (Z : Int))) rfl (by kernel_rfl) (by kernel_rfl) (by kernel_rfl) (fun _ _ _ h => h) (yieldsIf_want rfl (fun w' hw' => ?y14)) hSwe ?_
  case y14 => (have h99 := hwr; clear hw'; first | (go_simp; rfl) | (go_simp; done))
  simp only [Act.put, List.setIfInBounds_toArray, List.set_cons_zero, List.set_cons_succ]
  refine wpAnyH_takeI (i := 21) (v := ?v15) rfl (by kernel_rfl) (by kernel_rfl) (by kernel_rfl) (fun _ _ _ h => h) (yieldsIf_want rfl (fun w' hw' => ?y15)) hSwe ?_
  case y15 => first | (go_simp; rfl) | (go_simp; done) | rfl
  simp only [Act.put, List.setIfInBounds_toArray, List.set_cons_zero, List.set_cons_succ]
  refine wpAnyH_takeI (i := 22) (v := ?v16) rfl (by kernel_rfl) (by kernel_rfl) (by kernel_rfl) (fun _ _ _ h => h) (yieldsIf_run rfl (fun w' hw' => ?y16)) hSwe ?_
  case y16 => first | (go_simp; rfl) | (go_simp; done) | rfl
  simp only [Act.put, List.setIfInBounds_toArray, List.set_cons_zero, List.set_cons_succ]
  refine wpAnyH_done (by kernel_rfl) ?_ _
  refine NoPanic.normal ?_
  have HBE := Lib.hid hSwe
  clear hwr hSwe
  have hcl := (HO.out _ HBE.out).2.1
  go_wp2_with fail
  clear hcl
  go_loopw [5] (fun iv wr => ∃ i : Nat, i ≤ N ∧ iv = .int .i64 (i : Int) ∧ Below w1.heap.size w1 wr) (fun iv _ => N - (intOf iv).toNat)
  case atStart => exact ⟨0, Nat.zero_le _, rfl, HBE.out⟩
  case round =>
    obtain ⟨i, hi, rfl, hbr⟩ := hrel
    have HBR := Lib.hid hbr
    clear hbr
    have hcl := (HO.out _ HBR.out).2.1
    by_cases hlt : i < N
    · have hiI : (i : Int) < (N : Int) := by omega
      have hiI0 : (0 : Int) ≤ (i : Int) := by omega
      have hwi : IntKind.i64.wrap ((i : Int) + 1) = (i : Int) + 1 := IntWalk.i64_in _ (by have := HNN.out; omega)
      have hlt' : i < S.ref.length := by rw [HN.out]; exact hlt
      have hlt2 : i < S.list.length := by rw [HNL.out]; exact hlt
      have hge : S.ref[i] = toR S.list[i] := List.getElem_map toR
      have hfm := find_inn HS.out (List.getElem_mem hlt2)
      have htx := HOK.out.tx _ (List.getElem_mem hlt2)
      obtain ⟨g, off, rfl, hg, hr⟩ := (HO.out _ HBR.out).2.2.2.1.get hlt'
      obtain ⟨x, hx⟩ : ∃ x, S.list[i] = x := ⟨_, rfl⟩
      rw [hge, hx] at hr
      rw [hx] at hfm htx
      have hr : wr.rangeAt g (off + i * 34) (toR x).cells := hr
      have hent := fun w' (hw' : Below w1.heap.size w1 w') => Entry_any (HO.out w' hw').2.2.2.2 HOK.out x.id
      have hget := fun w' (hw' : Below w1.heap.size w1 w') => Get_any (HO.out w' hw').2.2.2.2 x.id
      have hhas := fun w' (hw' : Below w1.heap.size w1 w') => Has_any (HO.out w' hw').2.2.2.2 x.id
      rw [hfm] at hent hget hhas
      have hent : ∀ w', Below w1.heap.size w1 w' → Calls Try.prog 26 #[.pointer (some ⟨b, 0, none⟩), .agg (bvs x.id.1).toArray] w' fun e w'' => e = .returned (.tuple #[.agg (entC x).toArray, .bool true]) ∧ Below w'.heap.size w' w'' := hent
      have hget : ∀ w', Below w1.heap.size w1 w' → Calls Try.prog 19 #[.pointer (some ⟨b, 0, none⟩), .agg (bvs x.id.1).toArray] w' fun e w'' => e = .returned (.tuple #[.string x.text, .int .i64 0]) ∧ Below w'.heap.size w' w'' := hget
      have hhas : ∀ w', Below w1.heap.size w1 w' → Calls Try.prog 34 #[.pointer (some ⟨b, 0, none⟩), .agg (bvs x.id.1).toArray] w' fun e w'' => e = .returned (.bool true) ∧ Below w'.heap.size w' w'' := hhas
      have HENT := Lib.hid hent
      have HGET := Lib.hid hget
      have HHAS := Lib.hid hhas
      have HR := Lib.hid hr
      clear hent hget hhas hr hge hfm hx hlt' hlt2
      go_wp2_with (with_reducible refine wpList_load_mid rfl 37 _ rfl g (off + i * 34) rfl (toR x).cells _ HR.out Try.underlying37 rfl sizeA ?_; refine Stop.on ?_)
      refine Stop.go ?_
      try simp only [Act.put, List.setIfInBounds_toArray, List.set_cons_zero, List.set_cons_succ]
      refine wpList_newV rfl (some 6) rfl 37 rfl zR.cells.toArray 34 (by kernel_rfl) ?_
      intro wn xn bn sn
      try simp only [Act.put, List.setIfInBounds_toArray, List.set_cons_zero, List.set_cons_succ]
      refine wpList_putV rfl rfl 37 (.tmp 6) (.tmp 45) rfl _ (toR x).cells.toArray rfl rfl 37 _ xn sizeAA (by simp only [List.size_toArray, RefA.cells_length]) (all_oneCell_cells refE (toR x)) ?_
      intro wm xm cm sm
      try simp only [Act.put, List.setIfInBounds_toArray, List.set_cons_zero, List.set_cons_succ]
      have hbm : Below wr.heap.size wr wm := bn.trans (cm.below (B := wr.heap.size) (fun k e => by omega) (by omega))
      have HBM := Lib.hid (HBR.out.trans (hbm.mono HBR.out.size))
      obtain ⟨A6, hA6⟩ : ∃ A6, wr.heap.size = A6 := ⟨_, rfl⟩
      rw [hA6] at xm ⊢
      have HX6 := Lib.hid (show ∀ w', Below wm.heap.size wm w' → w'.heap[A6]? = some (.cells (toR x).cells.toArray 37 (0, 0)) ∧ w'.rangeAt A6 0 (bvs x.id.1) ∧ w'.cell? ⟨A6, 32, none⟩ = some (.string x.text) ∧ w'.cell? ⟨A6, 33, none⟩ = some (.int .i64 x.arr) from fun w' hw' => by
        have h0 := (hw'.block _ (Array.getElem?_eq_some_iff.1 xm).1).trans xm
        exact ⟨h0, range_idA h0, by rw [cell_of_row _ _ _ _ _ _ h0]; exact (toR x).parts.1, by rw [cell_of_row _ _ _ _ _ _ h0]; exact (toR x).parts.2⟩)
      have HLA := Lib.hid (show w1.heap.size ≤ A6 ∧ A6 < wm.heap.size from ⟨by rw [← hA6]; exact HBR.out.size, (Array.getElem?_eq_some_iff.1 xm).1⟩)
      clear xn bn sn xm cm sm hbm hcl hA6 hg
      go_wp2_with (with_reducible refine wpList_load_mid rfl 29 _ rfl A6 0 rfl (bvs x.id.1) _ (HX6.out _ (Below.refl _ _)).2.1 Try.underlying29 rfl (sizeArr x.id) ?_; refine Stop.on ?_)
      refine Stop.go ?_
      try simp only [Act.put, List.setIfInBounds_toArray, List.set_cons_zero, List.set_cons_succ]
      go_wp2_with fail
      refine (HENT.out _ HBM.out).mono ?_
      rintro e wp ⟨rfl, hbp⟩
      have HBP := Lib.hid hbp
      clear hbp
      go_wp2_with (refine wpList_newV rfl (some 7) rfl 44 rfl (entC zA).toArray 34 (by kernel_rfl) ?_; refine Stop.on ?_)
      refine Stop.go ?_
      try simp only [Act.put, List.setIfInBounds_toArray, List.set_cons_zero, List.set_cons_succ]
      intro wn xn bn sn
      try simp only [Act.put, List.setIfInBounds_toArray, List.set_cons_zero, List.set_cons_succ]
      refine wpList_putV rfl rfl 44 (.tmp 7) (.tmp 51) rfl _ (entC x).toArray rfl rfl 44 _ xn (sizeEnt x) (by simp only [List.size_toArray, entC_length]) (all_oneCell_cells entE x) ?_
      intro wo xo co so
      try simp only [Act.put, List.setIfInBounds_toArray, List.set_cons_zero, List.set_cons_succ]
      have hbo : Below wp.heap.size wp wo := bn.trans (co.below (B := wp.heap.size) (fun k e => by omega) (by omega))
      obtain ⟨A7, hA7⟩ : ∃ A7, wp.heap.size = A7 := ⟨_, rfl⟩
      have HBO := Lib.hid (HBP.out.trans (hbo.mono HBP.out.size))
      rw [hA7] at xo ⊢
      have HX7 := Lib.hid (show ∀ w', Below wo.heap.size wo w' → w'.rangeAt A7 0 (bvs x.id.1) ∧ w'.cell? ⟨A7, 32, none⟩ = some (.int .i64 x.arr) ∧ w'.cell? ⟨A7, 33, none⟩ = some (.int .i64 (x.text.size : Int)) from fun w' hw' => by
        have h0 := (hw'.block _ (Array.getElem?_eq_some_iff.1 xo).1).trans xo
        exact ⟨range_idE h0, by rw [cell_of_row _ _ _ _ _ _ h0]; exact (entC_parts x).1, by rw [cell_of_row _ _ _ _ _ _ h0]; exact (entC_parts x).2⟩)
      clear xn bn sn xo co so hbo hA7
      go_wp2_with (with_reducible refine wpList_load_mid rfl 29 _ rfl A6 0 rfl (bvs x.id.1) _ (HX6.out _ HBO.out).2.1 Try.underlying29 rfl (sizeArr x.id) ?_; refine Stop.on ?_)
      refine Stop.go ?_
      try simp only [Act.put, List.setIfInBounds_toArray, List.set_cons_zero, List.set_cons_succ]
      go_wp2_with fail
      refine (HGET.out _ (HBM.out.trans (HBO.out.mono HBM.out.size))).mono ?_
      rintro e wg ⟨rfl, hbg⟩
      have HBG := Lib.hid hbg
      clear hbg
      have hc6 := HX6.out wg (HBO.out.trans (HBG.out.mono HBO.out.size))
      have hc7 := HX7.out wg HBG.out
      have h6t := hc6.2.2.1
      have h6m := hc6.2.2.2
      have h7a := hc7.2.1
      have h7s := hc7.2.2
      have H6I := Lib.hid hc6.2.1
      have H7I := Lib.hid hc7.1
      clear hc6 hc7
      go_wp2_with (refine wpList_met rfl ?_; with_reducible refine wpList_load_mid rfl 30 _ rfl A7 0 rfl (bvs x.id.1) _ H7I.out Try.underlying30 rfl (sizeId x.id) ?_; refine Stop.on ?_)
      refine Stop.go ?_
      try simp only [Act.put, List.setIfInBounds_toArray, List.set_cons_zero, List.set_cons_succ]
      go_wp2_with (refine wpList_met rfl ?_; with_reducible refine wpList_load_mid rfl 29 _ rfl A6 0 rfl (bvs x.id.1) _ H6I.out Try.underlying29 rfl (sizeArr x.id) ?_; refine Stop.on ?_)
      refine Stop.go ?_
      try simp only [Act.put, List.setIfInBounds_toArray, List.set_cons_zero, List.set_cons_succ]
      refine wpList_met rfl ?_
      refine wpList_runI rfl (some 67) rfl (.bool false) _ (op_neq 30 (.tmp 64) (.tmp 66) 30 rfl rfl rfl guard_Id ((neq_Id x.id x.id _).trans (by rw [decide_eq_true rfl]; rfl))) ?_
      try simp only [Act.put, List.setIfInBounds_toArray, List.set_cons_zero, List.set_cons_succ]
      go_wp2_with (refine wpList_met rfl ?_; with_reducible refine wpList_load_mid rfl 29 _ rfl A6 0 rfl (bvs x.id.1) _ H6I.out Try.underlying29 rfl (sizeArr x.id) ?_; refine Stop.on ?_)
      refine Stop.go ?_
      try simp only [Act.put, List.setIfInBounds_toArray, List.set_cons_zero, List.set_cons_succ]
      go_wp2_with fail
      refine (HHAS.out wg (HBM.out.trans ((HBO.out.trans (HBG.out.mono HBO.out.size)).mono HBM.out.size))).mono ?_
      rintro e wh ⟨rfl, hbh⟩
      have HBH := Lib.hid (HBM.out.trans ((HBO.out.trans ((HBG.out.trans (hbh.mono HBG.out.size)).mono HBO.out.size)).mono HBM.out.size))
      clear hbh h6t h6m h7a h7s
      go_wp2_with fail
      go_roundw
      case rel => exact ⟨i + 1, by omega, by go_num, HBH.out⟩
      case measure => simp [intOf]; omega
    · obtain rfl : N = i := by omega
      go_wp2_with fail
      exact bodyPost_ret (v := .bool true) (by simp [results, Try.results24, go_sem]) rfl ⟨rfl, HB1.out.trans (HBR.out.mono HB1.out.size)⟩
end Go.Proofs.Ytnmdgjodbikndaa
