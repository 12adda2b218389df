/- The parents of articles and of missing articles are found. -/
import Derived.Test.YtjjanjhoaiannaaTh6
namespace Go.Proofs.Ytjjanjhoaiannaa
open Go.Shelf Go.RowKit Go.Lib Go.Sort
set_option linter.unusedVariables false
set_option linter.unusedSimpArgs false

def parF (p : Par) (x : IdB) : Option Value := (p x).map idv
theorem parF_upd (p : Par) (x y : IdB) (z : IdB) : (if z = x then some (idv y) else parF p z) = parF (upd p x (some y)) z := by
  unfold parF upd
  by_cases h : z = x
  · rw [if_pos h, if_pos h]; rfl
  · rw [if_neg h, if_neg h]
def misF (m : IdB → Bool) (x : IdB) : Option Value := if m x then some (.bool true) else none
theorem misF_upd (m : IdB → Bool) (x : IdB) (z : IdB) : (if z = x then some (Value.bool true) else misF m z) = misF (upd m x true) z := by
  unfold misF upd
  by_cases h : z = x
  · rw [if_pos h, if_pos h]; rfl
  · rw [if_neg h, if_neg h]
theorem zeroBool (w : World) : (zeroValue 4).run Try.prog w = .ok (.bool false) w := by kernel_rfl
theorem look_mis {w : World} {b : Nat} {m : IdB → Bool} (h : KMap idKey w b (misF m)) (x : IdB) : (Instr.lookup 64 (.map (some b)) (.agg (bvs x.1).toArray) false).run Try.prog w = .ok (.bool (m x)) w := by
  have h1 := h.look Try.underlying64 zeroBool x false
  unfold misF at h1
  cases hm : m x with
  | true => rw [hm] at h1; exact h1
  | false => rw [hm] at h1; exact h1
theorem far_none {A : IdB → Bool} {r : Tw} {m : Nat} (hl : r.refs.length = m + 1) (h : ∀ i (hi : i < r.refs.length), i < m → A r.refs[i] = false) : farther A r = none := by
  unfold farther
  rw [List.find?_eq_none]
  intro x hx
  rw [List.mem_reverse] at hx
  obtain ⟨i, hi, rfl⟩ := List.mem_iff_getElem.1 hx
  rw [List.length_dropLast] at hi
  rw [List.getElem_dropLast, h i (by omega) (by omega)]
  decide
theorem far_some {A : IdB → Bool} {r : Tw} {m j : Nat} (hl : r.refs.length = m + 1) (hj : j < m) (hA : A (r.refs[j]'(by omega)) = true) (h : ∀ i (hi : i < r.refs.length), j < i → i < m → A r.refs[i] = false) : farther A r = some (r.refs[j]'(by omega)) := by
  unfold farther
  rw [List.find?_eq_some_iff_getElem]
  refine ⟨hA, m - 1 - j, by rw [List.length_reverse, List.length_dropLast]; omega, ?_, fun i hi => ?_⟩
  · rw [List.getElem_reverse, List.getElem_dropLast]
    congr 1
    rw [List.length_dropLast]
    omega
  · rw [List.getElem_reverse, List.getElem_dropLast]
    simp only [List.length_dropLast]
    rw [h _ (by omega) (by omega) (by omega)]
    decide
theorem rk_isSome (S : List Tw) (x : IdB) : (rk S x).isSome = isArt S x := by
  cases h : rk S x with
  | none => rw [rk_none.1 h]; rfl
  | some k =>
    cases hA : isArt S x with
    | true => rfl
    | false => rw [rk_none.2 hA] at h; cases h
theorem cells_ne {w : World} {m c : Nat} {f : IdB → Option Value} {cs : Array Value} {T : TypeId} {fr : Nat × Nat} (hm : KMap idKey w m f) (hc : w.heap[c]? = some (.cells cs T fr)) : c ≠ m := by
  rintro rfl
  obtain ⟨es, cl, _, h, _⟩ := hm.ex
  rw [hc] at h
  cases h
/-- What a round knows: the maps, the row's variable, the last reference's. -/
structure FPW (w W : World) (pb mb B5 B7 : Nat) (p : Par) (mi : IdB → Bool) (R : RowV) (y : IdB) : Prop where
  c : Chg (fun k => k = pb) w W
  hmb : w.heap.size ≤ mb
  hne : pb ≠ mb
  pm : KMap idKey W pb (parF p)
  wm : KMap idKey W mb (misF mi)
  id : W.rangeAt B5 0 (bvs R.id.1)
  rv : W.cell? ⟨B5, 50, none⟩ = some R.rv
  refs : ListAt idE W R.rv R.refs
  b7 : W.heap[B7]? = some (.cells (bvs y.1).toArray 31 (0, 0))
section
variable {w W W' : World} {pb mb B5 B7 : Nat} {p q : Par} {mi : IdB → Bool} {R : RowV} {y : IdB}
theorem FPW.lt5 (h : FPW w W pb mb B5 B7 p mi R y) : B5 < W.heap.size := World.block_lt_of_cell? W _ h.rv
theorem FPW.below (h : FPW w W pb mb B5 B7 p mi R y) (hb : Below W.heap.size W W') : FPW w W' pb mb B5 B7 p mi R y :=
  ⟨h.c.trans (Chg.of_below (F := fun k => k = pb) hb) (fun i e => .inl e), h.hmb, h.hne, h.pm.below hb, h.wm.below hb, range_below h.id h.lt5 hb, (hb.cell (p := ⟨B5, 50, none⟩) h.lt5).trans h.rv, h.refs.below hb, (hb.block _ (Array.getElem?_eq_some_iff.1 h.b7).1).trans h.b7⟩
theorem FPW.updP (h : FPW w W pb mb B5 B7 p mi R y) {x z : IdB} (hm : KMap idKey W' pb (fun u => if u = x then some (idv z) else parF p u)) (hc : Chg (fun j => j = pb) W W') : FPW w W' pb mb B5 B7 (upd p x (some z)) mi R y :=
  ⟨h.c.trans hc (fun i e => .inl e), h.hmb, h.hne, hm.ext (fun u => parF_upd p x z u), h.wm.chg hc (fun e => h.hne e.symm), hc.range_ne h.pm h.id, hc.cell_ne h.pm h.rv, h.refs.kept_map h.pm (fun x => by show 0 < (bvs x.1).length; rw [bvs_length, x.2]; decide) hc, (hc.block _ (Array.getElem?_eq_some_iff.1 h.b7).1 (cells_ne h.pm h.b7)).trans h.b7⟩
theorem FPW.updM (h : FPW w W pb mb B5 B7 p mi R y) {x : IdB} (hm : KMap idKey W' mb (fun u => if u = x then some (.bool true) else misF mi u)) (hc : Chg (fun j => j = mb) W W') : FPW w W' pb mb B5 B7 p (upd mi x true) R y :=
  ⟨h.c.trans hc (fun i e => .inr (by rw [e]; exact h.hmb)), h.hmb, h.hne, h.pm.chg hc h.hne, hm.ext (fun u => misF_upd mi x u), hc.range_ne h.wm h.id, hc.cell_ne h.wm h.rv, h.refs.kept_map h.wm (fun x => by show 0 < (bvs x.1).length; rw [bvs_length, x.2]; decide) hc, (hc.block _ (Array.getElem?_eq_some_iff.1 h.b7).1 (cells_ne h.wm h.b7)).trans h.b7⟩
end
set_option maxRecDepth 100000 in
set_option maxHeartbeats 2000000 in
theorem findParents_any {w : World} {a rb pb : Nat} {rv ov : Value} {L : List RowV} {O : List Nat} {S : List Tw} (h : ArrAt w a rb pb rv ov L O (rk S) (fun _ => none)) (hO : O.length = S.length) (hS : ∀ k (h1 : k < O.length) (h2 : k < S.length), ∃ h3 : O[k] < L.length, L[O[k]].tw = S[k]) (hl : S.length < 1000000) (hn : (S.map (·.id)).Nodup) :
    Calls Try.prog 42 #[.pointer (some ⟨a, 0, none⟩)] w fun e w' => e = .returned (.tuple #[]) ∧ ArrAt w' a rb pb rv ov L O (rk S) (pM (isArt S) S) ∧ Chg (fun k => k = pb) w w' := by
  obtain ⟨ra, rc, rfl⟩ := h.rows.l.form
  obtain ⟨oa, oc, rfl⟩ := h.ord.form
  obtain ⟨N, hN⟩ : ∃ N, S.length = N := ⟨_, rfl⟩
  obtain ⟨q1, q2, q3, q4⟩ := h.cells
  have hOL : O.length = N := hO.trans hN
  have hNm : N < 1000000 := hN ▸ hl
  rw [hOL] at q2
  have HA := Lib.hid h
  have HS := Lib.hid hS
  have HN := Lib.hid hn
  have HNL := Lib.hid hN
  have HON := Lib.hid hOL
  obtain ⟨rv1, hrv1⟩ : ∃ rv1, L.length = rv1 := ⟨_, rfl⟩
  have HLV := Lib.hid hrv1
  clear h hO hS hn hl hN hOL hrv1
  go_enter Try.func42, Try.ntmps42
  go_wp2_with (refine wpList_mapV idKey rfl (some 13) rfl 64 Try.underlying64 none rfl (.inl rfl) ?_; refine Stop.on ?_)
  refine Stop.go ?_
  try simp only [Act.put, List.setIfInBounds_toArray, List.set_cons_zero, List.set_cons_succ]
  intro wm hm0 bm sm
  try simp only [Act.put, List.setIfInBounds_toArray, List.set_cons_zero, List.set_cons_succ]
  have r2 := (bm.cell (p := ⟨a, 1, none⟩) (World.block_lt_of_cell? w _ q2)).trans q2
  obtain ⟨mb, hmb⟩ : ∃ mb, w.heap.size = mb := ⟨_, rfl⟩
  rw [hmb] at hm0 ⊢
  have HMB := Lib.hid hmb
  have HC0 := Lib.hid (Chg.of_below (F := fun k => k = pb) bm)
  have HM0 := Lib.hid (hm0.ext (g := misF (mM (isArt S) (S.take 0))) (fun x => by unfold misF mM; simp))
  have HP0 := Lib.hid ((HA.out.par.below bm).ext (g := parF (pM (isArt S) (S.take 0))) (fun x => by unfold parF pM; simp))
  have HNE := Lib.hid (show pb ≠ mb ∧ rb ≠ mb ∧ a ≠ mb from ⟨fun e => by have := HA.out.par.lt; omega, fun e => by have := HA.out.rank.lt; omega, fun e => by have := (Array.getElem?_eq_some_iff.1 HA.out.ha).1; omega⟩)
  clear hm0 bm sm hmb q1 q2 q3 q4
  go_wp2_with fail
  go_loopw [19] (fun iv wr => ∃ (k : Nat), k ≤ N ∧ iv = .int .i64 (k : Int) ∧ Hid (KMap idKey wr pb (parF (pM (isArt S) (S.take k)))) ∧ Hid (KMap idKey wr mb (misF (mM (isArt S) (S.take k)))) ∧ Hid (Chg (fun k => k = pb) w wr)) (fun iv _ => N - (intOf iv).toNat)
  case atStart => exact ⟨0, Nat.zero_le _, rfl, HP0, HM0, HC0⟩
  case round =>
    obtain ⟨k, hk, rfl, HPM, HWM, HCW⟩ := hrel
    obtain ⟨W0, rfl⟩ : ∃ W0, W0 = wr := ⟨_, rfl⟩
    clear HM0 HP0 HC0
    by_cases hlt : k < N
    case neg =>
      obtain rfl : k = N := by omega
      go_wp2_with fail
      refine bodyPost_end (v := .tuple #[]) (by simp [results, Try.results42, go_sem]) rfl ⟨rfl, HA.out.with_ HCW.out ?_, HCW.out⟩
      have h1 := HPM.out
      rw [List.take_of_length_le (by rw [HNL.out]; exact Nat.le_refl _)] at h1
      exact h1
    have hka := HA.out.with_ HCW.out HPM.out
    have hkO : k < O.length := by rw [HON.out]; exact hlt
    have hkS : k < S.length := by rw [HNL.out]; exact hlt
    obtain ⟨gr, or_, go_, oo, o, z, era, eoa, ho1, ho2, ⟨_, hz⟩, hgo, hgr, hco, _, R, hRL, ⟨_, hRS⟩, hrr⟩ := hka.art hkO ⟨hkS, HS.out k hkO hkS⟩
    subst era
    subst eoa
    obtain ⟨c1, c2, _, c4⟩ := hka.cells
    rw [HLV.out] at c1 ho2
    rw [HON.out] at c2
    obtain ⟨va, vc, hrv⟩ := (hka.rows.r R hRL).form
    have HRL := Lib.hid (hka.rows.r R hRL)
    have HRR := Lib.hid hrr
    have HRS := Lib.hid hRS
    have hoI : (o : Int) < (rv1 : Int) := by omega
    have hst := fp_snoc (A := isArt S) (S := S.take k) (r := S[k]) (isArt_iff.2 ⟨_, List.getElem_mem hkS, rfl⟩) (fun b hb e => by
      obtain ⟨j, hj, hjb⟩ := List.mem_iff_getElem.1 hb
      rw [List.length_take] at hj
      rw [List.getElem_take] at hjb
      have h1 := HN.out
      rw [List.nodup_iff_pairwise_ne, List.pairwise_map, List.pairwise_iff_getElem] at h1
      exact h1 j k (by omega) hkS (by omega) (by rw [hjb]; exact e))
    rw [← List.take_succ_eq_append_getElem hkS, ← hRS] at hst
    have HST := Lib.hid hst
    clear hka hrr hz ho1 hkO hgo hgr hRS hst
    refine hide_postT ?_
    intro Q3 HQ3
    go_wp2_with (with_reducible refine wpList_load_mid rfl 36 (.tmp 28) rfl gr (or_ + o * 83) rfl R.cells _ HRR.out Try.underlying36 rfl (sizeRow R) ?_; refine Stop.on ?_)
    refine Stop.go ?_
    try simp only [Act.put, List.setIfInBounds_toArray, List.set_cons_zero, List.set_cons_succ]
    go_wp2_with (refine wpList_newV rfl (some 5) rfl 36 rfl Try.zeroCells36 83 (by kernel_rfl) ?_; refine Stop.on ?_)
    refine Stop.go ?_
    try simp only [Act.put, List.setIfInBounds_toArray, List.set_cons_zero, List.set_cons_succ]
    intro wn xn bi sn
    try simp only [Act.put, List.setIfInBounds_toArray, List.set_cons_zero, List.set_cons_succ]
    refine wpList_putV rfl rfl 36 (.tmp 5) (.tmp 29) rfl _ (R.cells).toArray rfl rfl 36 _ xn (sizeRowA R) (zsRow R) (oneRow R) ?_
    intro W1 xi ci si
    try simp only [Act.put, List.setIfInBounds_toArray, List.set_cons_zero, List.set_cons_succ]
    clear xn
    have hb1 : Below W0.heap.size W0 W1 := bi.trans (ci.below (B := W0.heap.size) (fun k e => by omega) bi.size)
    obtain ⟨B5, hB5⟩ : ∃ B5, W0.heap.size = B5 := ⟨_, rfl⟩
    have hrid := row_id (range_block xi)
    have hmid := (row_mid (range_block xi)).2.2
    rw [hrv, Nat.zero_add] at hmid
    rw [hB5] at hrid hmid ⊢
    have HRI := Lib.hid hrid
    have HPM1 := Lib.hid (HPM.out.below hb1)
    have HWM1 := Lib.hid (HWM.out.below hb1)
    have HC1 := Lib.hid (HCW.out.trans (Chg.of_below (F := fun k => k = pb) hb1) (fun i e => .inl e))
    have HL1 := Lib.hid (HRL.out.below hb1)
    have HN5 := Lib.hid (show pb ≠ B5 ∧ mb ≠ B5 ∧ w.heap.size ≤ B5 ∧ B5 < W1.heap.size from ⟨fun e => by have := HPM.out.lt; omega, fun e => by have := HWM.out.lt; omega, by have := HCW.out.size; omega, by omega⟩)
    clear xi bi ci si sn hrid hb1 hco c1 c2 c4 ho2 hoI HRR hB5
    obtain ⟨M, hM⟩ : ∃ M, R.refs.length = M := ⟨_, rfl⟩
    rw [hM] at hmid hrv
    have HM := Lib.hid hM
    have HRV := Lib.hid hrv
    rw [hrv] at HL1
    have hML := HL1.out.len
    have hMc := hML.2.1
    have hcm := hML.2.2.1
    clear hML
    unfold maxLen at hcm
    clear hM hrv
    cases M with
    | zero =>
      have hstep : fpStep (isArt S) ⟨pM (isArt S) (S.take k), mM (isArt S) (S.take k)⟩ R.tw = ⟨pM (isArt S) (S.take k), mM (isArt S) (S.take k)⟩ := by
        have h0 : R.tw.refs = [] := List.eq_nil_of_length_eq_zero HM.out
        unfold fpStep
        rw [h0]
        rfl
      have h2 := HST.out
      rw [hstep] at h2
      injection h2 with e1 e2
      have HP2 := Lib.hid (show KMap idKey W1 pb (parF (pM (isArt S) (S.take (k + 1)))) by rw [← e1]; exact HPM1.out)
      have HW2 := Lib.hid (show KMap idKey W1 mb (misF (mM (isArt S) (S.take (k + 1)))) by rw [← e2]; exact HWM1.out)
      clear hstep e1 e2
      go_wp2_with fail
      rw [HQ3.out]
      change _ ∧ _
      go_roundw
      case rel => exact ⟨k + 1, by omega, by go_num, HP2, HW2, HC1⟩
      case measure => simp [intOf]; omega
    | succ m =>
      obtain ⟨gx, ox, eva, hgx, _⟩ := HL1.out.get (i := 0) (by rw [HM.out]; omega)
      subst eva
      have hmR : m < R.refs.length := by rw [HM.out]; omega
      obtain ⟨gx', ox', eva, _, hrl⟩ := HL1.out.get hmR
      cases eva
      obtain ⟨y, hy⟩ : ∃ y, R.refs[m] = y := ⟨_, rfl⟩
      rw [hy] at hrl
      have hlast : R.tw.refs.getLast? = some y := by
        show R.refs.getLast? = some y
        rw [List.getLast?_eq_getElem?, HM.out, Nat.add_sub_cancel, List.getElem?_eq_getElem hmR, hy]
      have HRL := Lib.hid (show W1.rangeAt gx (ox + m * 32) (bvs y.1) from hrl)
      have HLAST := Lib.hid hlast
      clear hy hrl hlast hgx hmR
      go_wp2_with (with_reducible refine wpList_load_mid rfl 31 (.tmp 41) rfl gx (ox + m * 32) rfl (bvs y.1) _ HRL.out Try.underlying31 rfl (sizeId y) ?_; refine Stop.on ?_)
      refine Stop.go ?_
      try simp only [Act.put, List.setIfInBounds_toArray, List.set_cons_zero, List.set_cons_succ]
      go_wp2_with (refine wpList_newV rfl (some 7) rfl 31 rfl #[.int .u8 0, .int .u8 0, .int .u8 0, .int .u8 0, .int .u8 0, .int .u8 0, .int .u8 0, .int .u8 0, .int .u8 0, .int .u8 0, .int .u8 0, .int .u8 0, .int .u8 0, .int .u8 0, .int .u8 0, .int .u8 0, .int .u8 0, .int .u8 0, .int .u8 0, .int .u8 0, .int .u8 0, .int .u8 0, .int .u8 0, .int .u8 0, .int .u8 0, .int .u8 0, .int .u8 0, .int .u8 0, .int .u8 0, .int .u8 0, .int .u8 0, .int .u8 0] 32 (by kernel_rfl) ?_; refine Stop.on ?_)
      refine Stop.go ?_
      try simp only [Act.put, List.setIfInBounds_toArray, List.set_cons_zero, List.set_cons_succ]
      intro wn xn bi sn
      try simp only [Act.put, List.setIfInBounds_toArray, List.set_cons_zero, List.set_cons_succ]
      refine wpList_putV rfl rfl 31 (.tmp 7) (.tmp 42) rfl _ (bvs y.1).toArray rfl rfl 31 _ xn (sizeIdA y) (zsId y) (all_oneCell_toArray bvs_oneCell) ?_
      intro W2 xi ci si
      try simp only [Act.put, List.setIfInBounds_toArray, List.set_cons_zero, List.set_cons_succ]
      clear xn
      have hb2 : Below W1.heap.size W1 W2 := bi.trans (ci.below (B := W1.heap.size) (fun k e => by omega) bi.size)
      have H2 := Lib.hid (show FPW w W2 pb mb B5 W1.heap.size (pM (isArt S) (S.take k)) (mM (isArt S) (S.take k)) R y from ⟨HC1.out.trans (Chg.of_below (F := fun k => k = pb) hb2) (fun i e => .inl e), by rw [← HMB.out]; exact Nat.le_refl _, HNE.out.1, HPM1.out.below hb2, HWM1.out.below hb2, range_below HRI.out HN5.out.2.2.2 hb2, ((hb2.cell (p := ⟨B5, 50, none⟩) HN5.out.2.2.2).trans hmid).trans (by rw [HRV.out]), by rw [HRV.out]; exact HL1.out.below hb2, xi⟩)
      obtain ⟨B7, hB7⟩ : ∃ B7, W1.heap.size = B7 := ⟨_, rfl⟩
      rw [hB7] at H2 ⊢
      clear xi bi ci si sn hb2 hmid hB7 HPM1 HWM1 HC1 HRI HRL
      go_wp2_with fail
      refine wp_region_seq 7 (by kernel_rfl) (by kernel_rfl) ?_
      simp only [List.take_succ_cons, List.take_zero, List.drop_succ_cons, List.drop_zero]
      obtain ⟨wd, hwd⟩ : ∃ wd, W2.drew = wd := ⟨_, rfl⟩
      have hd_wd : Below W2.heap.size W2 wd ∧ wd.heap.size = W2.heap.size := hwd ▸ ⟨(Below.refl _ _).drew, rfl⟩
      rw [hwd]
      clear hwd
      have Hwd := Lib.hid (H2.out.below hd_wd.1)
      have HAwd := Lib.hid (HA.out.with_ Hwd.out.c Hwd.out.pm)
      obtain ⟨c1, c2, c3, c4⟩ := HAwd.out.cells
      clear hd_wd
      have HID := Lib.hid Hwd.out.id
      go_wp2_with (with_reducible refine wpList_load_mid rfl 31 (.tmp 47) rfl B5 (0) rfl (bvs R.id.1) _ HID.out Try.underlying31 rfl (sizeId R.id) ?_; refine Stop.on ?_)
      refine Stop.go ?_
      try simp only [Act.put, List.setIfInBounds_toArray, List.set_cons_zero, List.set_cons_succ]
      go_wp2_with (refine wpList_loadV rfl (some 49) rfl 31 (.tmp 7) rfl _ rfl 31 (bvs y.1).toArray (0, 0) _ Hwd.out.b7 Try.underlying31 rfl (sizeIdA y) ?_; refine Stop.on ?_)
      refine Stop.go ?_
      try simp only [Act.put, List.setIfInBounds_toArray, List.set_cons_zero, List.set_cons_succ]
      refine HeadPost.mk ?_
      refine wpList_updV Hwd.out.pm rfl rfl 75 Try.underlying75 (.tmp 46) (.tmp 48) (.tmp 49) rfl rfl R.id rfl (idv y) rfl ?_
      intro W3 hm3 hc3 hs3
      try simp only [Act.put, List.setIfInBounds_toArray, List.set_cons_zero, List.set_cons_succ]
      have HW3 := Lib.hid (Hwd.out.updP hm3 hc3)
      clear hm3 hc3 hs3
      clear c1 c2 c3 c4 HID
      go_wp2_with fail
      refine wp_region_seq 10 (by kernel_rfl) (by kernel_rfl) ?_
      simp only [List.take_succ_cons, List.take_zero, List.drop_succ_cons, List.drop_zero]
      obtain ⟨we, hwd⟩ : ∃ we, W3.drew = we := ⟨_, rfl⟩
      have hd_we : Below W3.heap.size W3 we ∧ we.heap.size = W3.heap.size := hwd ▸ ⟨(Below.refl _ _).drew, rfl⟩
      rw [hwd]
      clear hwd
      have Hwe := Lib.hid (HW3.out.below hd_we.1)
      have HAwe := Lib.hid (HA.out.with_ Hwe.out.c Hwe.out.pm)
      obtain ⟨c1, c2, c3, c4⟩ := HAwe.out.cells
      clear hd_we
      have hlk := HAwe.out.lookR y
      rw [rk_isSome] at hlk
      obtain ⟨kv, hkv⟩ : ∃ kv : Int, (((rk S y).getD 0 : Nat) : Int) = kv := ⟨_, rfl⟩
      obtain ⟨ok, hok⟩ : ∃ ok, isArt S y = ok := ⟨_, rfl⟩
      rw [hkv, hok] at hlk
      have HOK := Lib.hid hok
      clear hkv hok
      go_wp2_with (refine wpList_loadV rfl (some 55) rfl 31 (.tmp 7) rfl _ rfl 31 (bvs y.1).toArray (0, 0) _ Hwe.out.b7 Try.underlying31 rfl (sizeIdA y) ?_; refine Stop.on ?_)
      refine Stop.go ?_
      try simp only [Act.put, List.setIfInBounds_toArray, List.set_cons_zero, List.set_cons_succ]
      go_wp2_with fail
      refine HeadPost.mk ?_
      clear c1 c2 c3 c4 hlk
      have hst := HST.out
      unfold fpStep at hst
      rw [HLAST.out] at hst
      dsimp only at hst
      rw [HOK.out] at hst
      cases ok with
      | true =>
        rw [Bool.true_or, if_pos rfl] at hst
        injection hst with e1 e2
        have HP2 := Lib.hid (show KMap idKey we pb (parF (pM (isArt S) (S.take (k + 1)))) by rw [← e1]; exact Hwe.out.pm)
        have HW2 := Lib.hid (show KMap idKey we mb (misF (mM (isArt S) (S.take (k + 1)))) by rw [← e2]; exact Hwe.out.wm)
        have HC2 := Lib.hid Hwe.out.c
        clear e1 e2
        go_wp2_with fail
        rw [HQ3.out]
        change _ ∧ _
        go_roundw
        case rel => exact ⟨k + 1, by omega, by go_num, HP2, HW2, HC2⟩
        case measure => simp [intOf]; omega
      | false =>
        rw [Bool.false_or] at hst
        have hlk2 := look_mis Hwe.out.wm y
        obtain ⟨mi, hmi⟩ : ∃ mi, mM (isArt S) (S.take k) y = mi := ⟨_, rfl⟩
        rw [hmi] at hlk2 hst
        have HST2 := Lib.hid hst
        clear hmi hst
        cases mi with
        | true =>
          have hst := HST2.out
          rw [if_pos rfl] at hst
          injection hst with e1 e2
          have HP2 := Lib.hid (show KMap idKey we pb (parF (pM (isArt S) (S.take (k + 1)))) by rw [← e1]; exact Hwe.out.pm)
          have HW2 := Lib.hid (show KMap idKey we mb (misF (mM (isArt S) (S.take (k + 1)))) by rw [← e2]; exact Hwe.out.wm)
          have HC2 := Lib.hid Hwe.out.c
          clear e1 e2
          go_wp2_with (refine wpList_met rfl ?_; refine wpList_loadV rfl (some 62) rfl 31 (.tmp 7) rfl _ rfl 31 (bvs y.1).toArray (0, 0) _ Hwe.out.b7 Try.underlying31 rfl (sizeIdA y) ?_; refine Stop.on ?_)
          refine Stop.go ?_
          try simp only [Act.put, List.setIfInBounds_toArray, List.set_cons_zero, List.set_cons_succ]
          go_wp2_with fail
          rw [HQ3.out]
          change _ ∧ _
          go_roundw
          case rel => exact ⟨k + 1, by omega, by go_num, HP2, HW2, HC2⟩
          case measure => simp [intOf]; omega
        | false =>
          go_wp2_with (refine wpList_met rfl ?_; refine wpList_loadV rfl (some 62) rfl 31 (.tmp 7) rfl _ rfl 31 (bvs y.1).toArray (0, 0) _ Hwe.out.b7 Try.underlying31 rfl (sizeIdA y) ?_; refine Stop.on ?_)
          refine Stop.go ?_
          try simp only [Act.put, List.setIfInBounds_toArray, List.set_cons_zero, List.set_cons_succ]
          have hst := HST2.out
          rw [if_neg (by decide)] at hst
          injection hst with e1 e2
          have HE1 := Lib.hid e1
          have HE2 := Lib.hid e2
          clear e1 e2
          go_wp2_with (refine wpList_loadV rfl (some 66) rfl 31 (.tmp 7) rfl _ rfl 31 (bvs y.1).toArray (0, 0) _ Hwe.out.b7 Try.underlying31 rfl (sizeIdA y) ?_; refine Stop.on ?_)
          refine Stop.go ?_
          try simp only [Act.put, List.setIfInBounds_toArray, List.set_cons_zero, List.set_cons_succ]
          refine wpList_updV Hwe.out.wm rfl rfl 64 Try.underlying64 (.tmp 65) (.tmp 66) (.const (.bool true)) rfl rfl y rfl (.bool true) rfl ?_
          intro W4 hm3 hc3 hs3
          try simp only [Act.put, List.setIfInBounds_toArray, List.set_cons_zero, List.set_cons_succ]
          have HW4 := Lib.hid (Hwe.out.updM hm3 hc3)
          clear hm3 hc3 hs3
          clear hlk2
          go_wp2_with fail
          go_loopw [10] (fun kv wr => ∃ j : Nat, j ≤ m ∧ kv = .int .i64 ((j : Int) - 1) ∧ Hid (∀ i (hi : i < R.refs.length), j ≤ i → i < m → isArt S R.refs[i] = false) ∧ Hid (Below W4.heap.size W4 wr)) (fun kv _ => (intOf kv + 1).toNat)
          case atStart => exact ⟨m, Nat.le_refl _, rfl, Lib.hid (fun i hi h1 h2 => by omega), Lib.hid (Below.refl _ _)⟩
          case round =>
            obtain ⟨j, hjm, rfl, HNO, HB5⟩ := hrel
            obtain ⟨W5, rfl⟩ : ∃ W5, W5 = wr := ⟨_, rfl⟩
            have H5 := Lib.hid (HW4.out.below HB5.out)
            cases j with
            | zero =>
              have hfar := far_none (A := isArt S) (r := R.tw) HM.out (fun i hi h1 => HNO.out i hi (Nat.zero_le _) h1)
              have e1 := HE1.out
              rw [hfar] at e1
              have HP2 := Lib.hid (show KMap idKey W5 pb (parF (pM (isArt S) (S.take (k + 1)))) by rw [← e1]; exact H5.out.pm)
              have HW2 := Lib.hid (show KMap idKey W5 mb (misF (mM (isArt S) (S.take (k + 1)))) by rw [← HE2.out]; exact H5.out.wm)
              have HC2 := Lib.hid H5.out.c
              clear e1 hfar
              go_wp2_with fail
              rw [HQ3.out]
              change _ ∧ _
              go_roundw
              case rel => exact ⟨k + 1, by omega, by go_num, HP2, HW2, HC2⟩
              case measure => simp [intOf]; omega
            | succ j =>
              rw [show (((j + 1 : Nat) : Int) - 1) = (j : Int) by omega]
              have hjR : j < R.refs.length := by rw [HM.out]; omega
              have hlr := H5.out.refs
              rw [HRV.out] at hlr
              obtain ⟨gx', ox', eva, hgx, hrj⟩ := hlr.get hjR
              cases eva
              obtain ⟨u, hu⟩ : ∃ u, R.refs[j] = u := ⟨_, rfl⟩
              rw [hu] at hrj
              have HU := Lib.hid hu
              have HRJ := Lib.hid (show ∀ w', Below W5.heap.size W5 w' → w'.rangeAt gx (ox + j * 32) (bvs u.1) from fun w' hw' => range_below hrj hgx hw')
              have hjm2 : (j : Int) < (m : Int) + 1 := by omega
              obtain ⟨kv2, hkv2⟩ : ∃ kv : Int, (((rk S u).getD 0 : Nat) : Int) = kv := ⟨_, rfl⟩
              obtain ⟨oku, hoku⟩ : ∃ ok, isArt S u = ok := ⟨_, rfl⟩
              have HKV := Lib.hid hkv2
              have HOKU := Lib.hid hoku
              clear hlr hrj hgx hu hkv2 hoku
              go_wp2_with fail
              refine wp_region_seq 14 (by kernel_rfl) (by kernel_rfl) ?_
              simp only [List.take_succ_cons, List.take_zero, List.drop_succ_cons, List.drop_zero]
              obtain ⟨wf, hwd⟩ : ∃ wf, W5.drew = wf := ⟨_, rfl⟩
              have hd_wf : Below W5.heap.size W5 wf ∧ wf.heap.size = W5.heap.size := hwd ▸ ⟨(Below.refl _ _).drew, rfl⟩
              rw [hwd]
              clear hwd
              have Hwf := Lib.hid (H5.out.below hd_wf.1)
              have HAwf := Lib.hid (HA.out.with_ Hwf.out.c Hwf.out.pm)
              obtain ⟨c1, c2, c3, c4⟩ := HAwf.out.cells
              have HBF := Lib.hid hd_wf.1
              clear hd_wf
              have HRU := Lib.hid (HRJ.out wf HBF.out)
              have hrv := Hwf.out.rv
              rw [HRV.out] at hrv
              have hlk := HAwf.out.lookR u
              rw [rk_isSome, HKV.out, HOKU.out] at hlk
              go_wp2_with (with_reducible refine wpList_load_mid rfl 31 (.tmp 81) rfl gx (ox + j * 32) rfl (bvs u.1) _ HRU.out Try.underlying31 rfl (sizeId u) ?_; refine Stop.on ?_)
              refine Stop.go ?_
              try simp only [Act.put, List.setIfInBounds_toArray, List.set_cons_zero, List.set_cons_succ]
              go_wp2_with fail
              refine HeadPost.mk ?_
              clear c1 c2 c3 c4 hrv hlk
              cases oku with
              | true =>
                go_wp2_with fail
                refine wp_region_seq 10 (by kernel_rfl) (by kernel_rfl) ?_
                simp only [List.take_succ_cons, List.take_zero, List.drop_succ_cons, List.drop_zero]
                obtain ⟨wg, hwd⟩ : ∃ wg, wf.drew = wg := ⟨_, rfl⟩
                have hd_wg : Below wf.heap.size wf wg ∧ wg.heap.size = wf.heap.size := hwd ▸ ⟨(Below.refl _ _).drew, rfl⟩
                rw [hwd]
                clear hwd
                have Hwg := Lib.hid (Hwf.out.below hd_wg.1)
                have HAwg := Lib.hid (HA.out.with_ Hwg.out.c Hwg.out.pm)
                obtain ⟨c1, c2, c3, c4⟩ := HAwg.out.cells
                have HBG := Lib.hid hd_wg.1
                clear hd_wg
                have HRG := Lib.hid (HRJ.out wg (HBF.out.trans (HBG.out.mono HBF.out.size)))
                have hrv := Hwg.out.rv
                rw [HRV.out] at hrv
                go_wp2_with (refine wpList_loadV rfl (some 91) rfl 31 (.tmp 7) rfl _ rfl 31 (bvs y.1).toArray (0, 0) _ Hwg.out.b7 Try.underlying31 rfl (sizeIdA y) ?_; refine Stop.on ?_)
                refine Stop.go ?_
                try simp only [Act.put, List.setIfInBounds_toArray, List.set_cons_zero, List.set_cons_succ]
                go_wp2_with (with_reducible refine wpList_load_mid rfl 31 (.tmp 95) rfl gx (ox + j * 32) rfl (bvs u.1) _ HRG.out Try.underlying31 rfl (sizeId u) ?_; refine Stop.on ?_)
                refine Stop.go ?_
                try simp only [Act.put, List.setIfInBounds_toArray, List.set_cons_zero, List.set_cons_succ]
                refine HeadPost.mk ?_
                refine wpList_updV Hwg.out.pm rfl rfl 75 Try.underlying75 (.tmp 90) (.tmp 91) (.tmp 96) rfl rfl y rfl (idv u) rfl ?_
                intro W6 hm3 hc3 hs3
                try simp only [Act.put, List.setIfInBounds_toArray, List.set_cons_zero, List.set_cons_succ]
                have HW6 := Lib.hid (Hwg.out.updP hm3 hc3)
                clear hm3 hc3 hs3
                clear c1 c2 c3 c4 hrv
                have hfar := far_some (A := isArt S) (r := R.tw) HM.out (show j < m by omega) (by rw [show R.tw.refs[j] = u from HU.out]; exact HOKU.out) (fun i hi h1 h2 => HNO.out i hi (by omega) h2)
                rw [show R.tw.refs[j] = u from HU.out] at hfar
                have e1 := HE1.out
                rw [hfar] at e1
                have HP2 := Lib.hid (show KMap idKey W6 pb (parF (pM (isArt S) (S.take (k + 1)))) by rw [← e1]; exact HW6.out.pm)
                have HW2 := Lib.hid (show KMap idKey W6 mb (misF (mM (isArt S) (S.take (k + 1)))) by rw [← HE2.out]; exact HW6.out.wm)
                have HC2 := Lib.hid HW6.out.c
                clear e1 hfar
                go_wp2_with fail
                rw [HQ3.out]
                change _ ∧ _
                go_roundw
                case rel => exact ⟨k + 1, by omega, by go_num, HP2, HW2, HC2⟩
                case measure => simp [intOf]; omega
              | false =>
                have HNO2 := Lib.hid (show ∀ i (hi : i < R.refs.length), j ≤ i → i < m → isArt S R.refs[i] = false from fun i hi h1 h2 => by
                  by_cases h : i = j
                  · subst h
                    rw [HU.out]
                    exact HOKU.out
                  · exact HNO.out i hi (by omega) h2)
                have HB6 := Lib.hid (HB5.out.trans (HBF.out.mono HB5.out.size))
                go_wp2_with fail
                go_roundw
                case rel => exact ⟨j, by omega, rfl, HNO2, HB6⟩
                case measure => simp [intOf]
end Go.Proofs.Ytjjanjhoaiannaa
