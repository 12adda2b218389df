/- The cycles are cut. -/
import Derived.Test.YtjjanjhoaiannaaTh5
import Derived.Test.YtjjanjhoaiannaaTp5
import Derived.Test.YtjjanjhoaiannaaTs2
import Derived.WalkMore
namespace Go.Proofs.Ytjjanjhoaiannaa
open Go.Shelf Go.RowKit Go.Lib Go.Sort
set_option linter.unusedVariables false
set_option linter.unusedSimpArgs false

theorem ArrAt.with_ {w w' : World} {a rb pb : Nat} {rv ov : Value} {L : List RowV} {O : List Nat} {rkf : IdB → Option Nat} {p q : Par} (h : ArrAt w a rb pb rv ov L O rkf p) (hc : Chg (fun k => k = pb) w w') (hm : KMap idKey w' pb (fun x => (q x).map idv)) : ArrAt w' a rb pb rv ov L O rkf q :=
  ⟨(hc.block a (Array.getElem?_eq_some_iff.1 h.ha).1 (kmap_ne h.par h.cells.1)).trans h.ha, h.rows.kept_map h.par hc, h.ord.kept_map h.par (fun x => by show 0 < 1; decide) hc, h.rank.kept (hc.block rb h.rank.lt h.hne), hm, h.hne⟩
def wkF (wk : Wk) (x : IdB) : Option Value := (wk x).map fun k => .int .i64 (k : Int)
theorem wkF_upd (wk : Wk) (x : IdB) (k : Nat) (z : IdB) : (if z = x then some (Value.int .i64 (k : Int)) else wkF wk z) = wkF (upd wk x (some k)) z := by
  unfold wkF upd
  by_cases h : z = x
  · rw [if_pos h, if_pos h]; rfl
  · rw [if_neg h, if_neg h]
/-- An article of the arrangement. -/
theorem ArrAt.art {w : World} {a rb pb : Nat} {L : List RowV} {O : List Nat} {rkf : IdB → Option Nat} {p : Par} {ra oa : Option Addr} {rc oc : Nat} (h : ArrAt w a rb pb (.slice ra L.length rc) (.slice oa O.length oc) L O rkf p) {S : List Tw} {k : Nat} (hk : k < O.length) (hS : ∃ (h2 : k < S.length) (h3 : O[k] < L.length), L[O[k]].tw = S[k]) :
    ∃ gr or_ go_ oo o z, ra = some ⟨gr, or_, none⟩ ∧ oa = some ⟨go_, oo, none⟩ ∧ O[k] = o ∧ o < L.length ∧ (∃ h2 : k < S.length, S[k].id = z) ∧ go_ < w.heap.size ∧ gr < w.heap.size ∧ w.cell? ⟨go_, oo + k, none⟩ = some (.int .i64 (o : Int)) ∧ w.rangeAt gr (or_ + o * 83) (bvs z.1) ∧ ∃ R : RowV, R ∈ L ∧ (∃ h2 : k < S.length, R.tw = S[k]) ∧ w.rangeAt gr (or_ + o * 83) R.cells := by
  obtain ⟨go_, oo, rfl, hgo, hro⟩ := h.ord.get hk
  obtain ⟨h2, ho, hoe⟩ := hS
  obtain ⟨gr, or_, rfl, hgr, hrr⟩ := h.rows.l.get ho
  have hz : L[O[k]].id = S[k].id := by rw [← hoe]; rfl
  have h3 : w.cell? ⟨go_, oo + k * 1 + 0, none⟩ = some (.int .i64 ((O[k] : Nat) : Int)) := hro 0 _ rfl
  rw [Nat.mul_one, Nat.add_zero] at h3
  refine ⟨gr, or_, go_, oo, O[k], S[k].id, rfl, rfl, rfl, ho, ⟨h2, rfl⟩, hgo, hgr, h3, ?_, L[O[k]], List.getElem_mem ho, ⟨h2, hoe⟩, hrr⟩
  rw [← hz]
  exact row_id hrr
theorem Chg.cell_ne {w w' : World} {b : Nat} {f : IdB → Option Value} (hc : Chg (fun k => k = b) w w') (hm : KMap idKey w b f) {g o : Nat} {v : Value} (h : w.cell? ⟨g, o, none⟩ = some v) : w'.cell? ⟨g, o, none⟩ = some v := hc.cell (p := ⟨g, o, none⟩) (kmap_ne hm h) h
theorem Chg.range_ne {w w' : World} {b : Nat} {f : IdB → Option Value} (hc : Chg (fun k => k = b) w w') (hm : KMap idKey w b f) {g o : Nat} {cs : List Value} (h : w.rangeAt g o cs) : w'.rangeAt g o cs := fun j u hu => hc.cell_ne hm (h j u hu)
set_option maxRecDepth 100000 in
set_option maxHeartbeats 2000000 in
theorem cutCycles_any {w : World} {a rb pb : Nat} {rv ov : Value} {L : List RowV} {O : List Nat} {S : List Tw} (h : ArrAt w a rb pb rv ov L O (rk S) (pM (isArt S) S)) (hO : O.length = S.length) (hS : ∀ k (h1 : k < O.length) (h2 : k < S.length), ∃ h3 : O[k] < L.length, L[O[k]].tw = S[k]) (hl : S.length < 1000000) (hn : (S.map (·.id)).Nodup) :
    Calls Try.prog 43 #[.pointer (some ⟨a, 0, none⟩)] w fun e w' => e = .returned (.tuple #[]) ∧ ∃ c, IsCut (pM (isArt S) S) S c ∧ ArrAt w' a rb pb rv ov L O (rk S) c ∧ Chg (fun k => k = pb) w w' := by
  obtain ⟨ra, rc, rfl⟩ := h.rows.l.form
  obtain ⟨oa, oc, rfl⟩ := h.ord.form
  obtain ⟨N, hN⟩ : ∃ N, S.length = N := ⟨_, rfl⟩
  obtain ⟨q1, q2, q3, q4⟩ := h.cells
  have hOL : O.length = N := hO.trans hN
  have hNm : N < 1000000 := hN ▸ hl
  rw [hOL] at q2
  have HA := Lib.hid h
  have HO := Lib.hid hO
  have HS := Lib.hid hS
  have HN := Lib.hid hn
  have HLS := Lib.hid hl
  have HNL := Lib.hid hN
  have HON := Lib.hid hOL
  obtain ⟨rv1, hrv1⟩ : ∃ rv1, L.length = rv1 := ⟨_, rfl⟩
  have HLV := Lib.hid hrv1
  clear h hO hS hn hl hN hOL hrv1
  go_enter Try.func43, Try.ntmps43
  try go_wp2_with fail
  try go_step3
  go_wp2_with (refine wpList_mapV idKey rfl (some 15) rfl 74 Try.underlying74 (some (.tmp 14)) rfl (.inr ⟨_, _, rfl, rfl⟩) ?_; refine Stop.on ?_)
  refine Stop.go ?_
  try simp only [Act.put, List.setIfInBounds_toArray, List.set_cons_zero, List.set_cons_succ]
  intro wm hm0 bm sm
  try simp only [Act.put, List.setIfInBounds_toArray, List.set_cons_zero, List.set_cons_succ]
  have r2 := (bm.cell (p := ⟨a, 1, none⟩) (World.block_lt_of_cell? w _ q2)).trans q2
  obtain ⟨mb, hmb⟩ : ∃ mb, w.heap.size = mb := ⟨_, rfl⟩
  rw [hmb] at hm0 ⊢
  have HMB := Lib.hid hmb
  have HC0 := Lib.hid (Chg.of_below (F := fun k => k = pb) bm)
  have HM0 := Lib.hid (hm0.ext (g := wkF (fun _ => none)) (fun _ => rfl))
  have HP0 := Lib.hid (HA.out.par.below bm)
  have HNE := Lib.hid (show pb ≠ mb ∧ rb ≠ mb ∧ a ≠ mb from ⟨fun e => by have := HA.out.par.lt; omega, fun e => by have := HA.out.rank.lt; omega, fun e => by have := (Array.getElem?_eq_some_iff.1 HA.out.ha).1; omega⟩)
  clear hm0 bm sm hmb q1 q2 q3 q4
  go_wp2_with fail
  try go_step3
  try go_wp2_with fail
  go_loopw [21] (fun iv wr => ∃ (k : Nat) (par : Par) (wk : Wk), k ≤ N ∧ iv = .int .i64 (k : Int) ∧ Hid (CutInv (pM (isArt S) S) S k par wk) ∧ Hid (KMap idKey wr pb (fun x => (par x).map idv)) ∧ Hid (KMap idKey wr mb (wkF wk)) ∧ Hid (Chg (fun k => k = pb) w wr)) (fun iv _ => N - (intOf iv).toNat)
  case atStart => exact ⟨0, _, _, Nat.zero_le _, rfl, Lib.hid (CutInv.zero _ _), HP0, HM0, HC0⟩
  case round =>
    obtain ⟨k, par, wk, hk, rfl, HCI, HPM, HWM, HCW⟩ := hrel
    obtain ⟨W0, rfl⟩ : ∃ W0, W0 = wr := ⟨_, rfl⟩
    clear HM0 HP0 HC0
    by_cases hlt : k < N
    case neg =>
      obtain rfl : k = N := by omega
      go_wp2_with fail
      try simp only [Exit.inBlock, Exit.then]
      try simp only [Exit.noGoto]
      refine bodyPost_end (v := .tuple #[]) (by simp [results, Try.results43, go_sem]) rfl ⟨rfl, par, ?_, HA.out.with_ HCW.out HPM.out, HCW.out⟩
      have h1 := HCI.out
      rw [← HNL.out] at h1
      exact h1.done HN.out
    have hka := HA.out.with_ HCW.out HPM.out
    have hkO : k < O.length := by rw [HON.out]; exact hlt
    have hkS : k < S.length := by rw [HNL.out]; exact hlt
    obtain ⟨gr, or_, go_, oo, o, z, era, eoa, ho1, ho2, ⟨_, hz⟩, hgo, hgr, hco, hrz, _⟩ := hka.art hkO ⟨hkS, HS.out k hkO hkS⟩
    subst era
    subst eoa
    obtain ⟨c1, c2, _, c4⟩ := hka.cells
    rw [HLV.out] at c1 ho2
    rw [HON.out] at c2
    have HRZ := Lib.hid hrz
    have HZ := Lib.hid hz
    have hoI : (o : Int) < (rv1 : Int) := by omega
    have HKA := Lib.hid hka
    clear hka hrz hz ho1 hkO hkS hgo hgr
    refine hide_postT ?_
    intro Q3 HQ3
    go_wp2_with (with_reducible refine wpList_load_mid rfl 31 (.tmp 32) rfl gr (or_ + o * 83) rfl (bvs z.1) _ HRZ.out Try.underlying31 rfl (sizeId z) ?_; refine Stop.on ?_)
    refine Stop.go ?_
    try simp only [Act.put, List.setIfInBounds_toArray, List.set_cons_zero, List.set_cons_succ]
    go_wp2_with (refine wpList_newV rfl (some 5) rfl 31 rfl #[.int .u8 0, .int .u8 0, .int .u8 0, .int .u8 0, .int .u8 0, .int .u8 0, .int .u8 0, .int .u8 0, .int .u8 0, .int .u8 0, .int .u8 0, .int .u8 0, .int .u8 0, .int .u8 0, .int .u8 0, .int .u8 0, .int .u8 0, .int .u8 0, .int .u8 0, .int .u8 0, .int .u8 0, .int .u8 0, .int .u8 0, .int .u8 0, .int .u8 0, .int .u8 0, .int .u8 0, .int .u8 0, .int .u8 0, .int .u8 0, .int .u8 0, .int .u8 0] 32 (by kernel_rfl) ?_; refine Stop.on ?_)
    refine Stop.go ?_
    try simp only [Act.put, List.setIfInBounds_toArray, List.set_cons_zero, List.set_cons_succ]
    intro wn xn bi sn
    try simp only [Act.put, List.setIfInBounds_toArray, List.set_cons_zero, List.set_cons_succ]
    refine wpList_putV rfl rfl 31 (.tmp 5) (.tmp 33) rfl _ (bvs z.1).toArray rfl rfl 31 _ xn (sizeIdA z) (zsId z) (all_oneCell_toArray bvs_oneCell) ?_
    intro W1 xi ci si
    try simp only [Act.put, List.setIfInBounds_toArray, List.set_cons_zero, List.set_cons_succ]
    clear xn
    have hb1 : Below W0.heap.size W0 W1 := bi.trans (ci.below (B := W0.heap.size) (fun k e => by omega) bi.size)
    have HX5 := Lib.hid xi
    have HPM1 := Lib.hid (HPM.out.below hb1)
    have HWM1 := Lib.hid (HWM.out.below hb1)
    have HC1 := Lib.hid (HCW.out.trans (Chg.of_below (F := fun k => k = pb) hb1) (fun i e => .inl e))
    have HN5 := Lib.hid (show pb ≠ W0.heap.size ∧ mb ≠ W0.heap.size ∧ w.heap.size ≤ W0.heap.size from ⟨fun e => by have := HPM.out.lt; omega, fun e => by have := HWM.out.lt; omega, HCW.out.size⟩)
    obtain ⟨A5, hA5⟩ : ∃ A5, W0.heap.size = A5 := ⟨_, rfl⟩
    rw [hA5] at HX5 HN5 ⊢
    obtain ⟨R, hR⟩ : ∃ R, walkGo par k ((univ S).length + 1) wk z = R := ⟨_, rfl⟩
    have hkS : k < S.length := by rw [HNL.out]; exact hlt
    have hwr : WalkRes par k wk z R := by rw [← hR, ← HZ.out]; exact walk_cut HCI.out hkS (by omega)
    have hzu : z ∈ univ S := by rw [← HZ.out]; exact univ_id hkS
    obtain ⟨C, hC⟩ : ∃ C, W1.heap.size + ((univ S).length + 1) = C := ⟨_, rfl⟩
    have HWR := Lib.hid hwr
    have HR := Lib.hid hR
    have HZU := Lib.hid hzu
    have HCC := Lib.hid hC
    have HU0 := Lib.hid (show unmet (univ S) wk < (univ S).length + 1 from Nat.lt_succ_of_le (List.length_filter_le _ _))
    have HKS := Lib.hid (show ∀ hk : k < S.length, S[k].id = z from fun _ => HZ.out)
    clear xi bi ci si sn hb1 hA5 hwr hR hzu hC hkS c1 c2 c4 hco ho2 hoI
    go_wp2_with fail
    go_loopw [] (fun wr => ∃ (x : IdB) (wk' : Wk) (n : Nat), Hid (walkGo par k n wk' x = R) ∧ Hid (unmet (univ S) wk' < n) ∧ Hid (x ∈ univ S) ∧ Hid (wr.heap[A5]? = some (.cells (bvs x.1).toArray 31 (0, 0))) ∧ Hid (KMap idKey wr pb (fun x => (par x).map idv)) ∧ Hid (KMap idKey wr mb (wkF wk')) ∧ Hid (Chg (fun k => k = pb) w wr) ∧ Hid (wr.heap.size + n = C)) (fun wr => C - wr.heap.size)
    case atStart => exact ⟨z, wk, _, HR, HU0, HZU, HX5, HPM1, HWM1, HC1, HCC⟩
    case round =>
      obtain ⟨x, wk', n, HGO, HUN, HXU, HX2, HPM2, HWM2, HC2, HSZ⟩ := hrel
      obtain ⟨W2, rfl⟩ : ∃ W2, W2 = wr := ⟨_, rfl⟩
      clear HX5 HPM1 HWM1 HC1 HCC HU0
      obtain ⟨n, rfl⟩ : ∃ m, n = m + 1 := ⟨n - 1, by have := HUN.out; omega⟩
      have hlk := HWM2.out.look Try.underlying74 zeroInt x true
      rw [if_pos rfl] at hlk
      unfold wkF at hlk
      have hgo := HGO.out
      unfold walkGo at hgo
      cases hx : wk' x with
      | some v =>
        rw [hx] at hlk hgo
        dsimp only at hgo
        have hlk : (Instr.lookup 74 (.map (some mb)) (.agg (bvs x.1).toArray) true).run Try.prog W2 = .ok (.tuple #[.int .i64 (v : Int), .bool true]) W2 := hlk
        by_cases hvk : v = k
        · obtain rfl : k = v := hvk.symm
          rw [if_pos rfl] at hgo
          have hx2 : R.2 = some x := by rw [← hgo]
          have hwk : R.1 = wk' := by rw [← hgo]
          obtain ⟨hcx, _, _⟩ := HWR.out.found x hx2
          obtain ⟨m, hper, hmin⟩ := period hcx
          have hAlt : Alt par S := fun y u e => alt_pM S y u (HCI.out.le e)
          obtain ⟨k0, hk0⟩ := best_some hAlt hper
          obtain ⟨hk0S, hlst, hrch⟩ := best_lst HN.out hper hk0
          have HCI2 := Lib.hid (HCI.out.some_ HWR.out hx2 hlst hrch HKS.out)
          have HPER := Lib.hid hper
          have HMIN := Lib.hid hmin
          have HK0 := Lib.hid hk0
          have HWK := Lib.hid hwk
          clear hgo hx hx2 hwk hcx hper hmin hAlt hk0 hlst hrch
          go_wp2_with (refine wpList_loadV rfl (some 36) rfl 31 (.tmp 5) rfl _ rfl 31 (bvs x.1).toArray (0, 0) _ HX2.out Try.underlying31 rfl (sizeIdA x) ?_; refine Stop.on ?_)
          refine Stop.go ?_
          try simp only [Act.put, List.setIfInBounds_toArray, List.set_cons_zero, List.set_cons_succ]
          have hA2 := HA.out.with_ HC2.out HPM2.out
          have HA2 := Lib.hid hA2
          clear hA2
          go_wp2_with (refine wpList_loadV rfl (some 60) rfl 31 (.tmp 5) rfl _ rfl 31 (bvs x.1).toArray (0, 0) _ HX2.out Try.underlying31 rfl (sizeIdA x) ?_; refine Stop.on ?_)
          refine Stop.go ?_
          try simp only [Act.put, List.setIfInBounds_toArray, List.set_cons_zero, List.set_cons_succ]
          go_wp2_with fail
          refine (cut_any HA2.out HO.out HS.out HLS.out HN.out x HPER.out HMIN.out HK0.out).mono ?_
          rintro e w3 ⟨rfl, ⟨_, hA3⟩, hc3⟩
          have HPM3 := Lib.hid hA3.par
          have HWM3 := Lib.hid (show KMap idKey w3 mb (wkF R.1) by rw [HWK.out]; exact HWM2.out.chg hc3 (fun e => HNE.out.1 e.symm))
          have HC3 := Lib.hid (HC2.out.trans hc3 (fun i e => .inl e))
          clear hA3 hc3 hlk
          go_wp2_with fail
          rw [HQ3.out]
          change _ ∧ _
          go_roundw
          case rel => exact ⟨k + 1, _, _, by omega, by go_num, HCI2, HPM3, HWM3, HC3⟩
          case measure => simp [intOf]; omega
        · rw [if_neg hvk] at hgo
          have hx2 : R.2 = none := by rw [← hgo]
          have hwk : R.1 = wk' := by rw [← hgo]
          have HCI2 := Lib.hid (HCI.out.none_ HWR.out hx2 HKS.out)
          have HWM3 := Lib.hid (show KMap idKey W2 mb (wkF R.1) by rw [hwk]; exact HWM2.out)
          have hvb : ((v : Int) != (k : Int)) = true := by simp; omega
          clear hgo hx hx2 hwk
          go_wp2_with (refine wpList_loadV rfl (some 36) rfl 31 (.tmp 5) rfl _ rfl 31 (bvs x.1).toArray (0, 0) _ HX2.out Try.underlying31 rfl (sizeIdA x) ?_; refine Stop.on ?_)
          refine Stop.go ?_
          try simp only [Act.put, List.setIfInBounds_toArray, List.set_cons_zero, List.set_cons_succ]
          go_wp2_with fail
          rw [HQ3.out]
          change _ ∧ _
          go_roundw
          case rel => exact ⟨k + 1, _, _, by omega, by go_num, HCI2, HPM2, HWM3, HC2⟩
          case measure => simp [intOf]; omega
      | none =>
        rw [hx] at hlk hgo
        dsimp only at hgo
        have hlk : (Instr.lookup 74 (.map (some mb)) (.agg (bvs x.1).toArray) true).run Try.prog W2 = .ok (.tuple #[.int .i64 0, .bool false]) W2 := hlk
        have HX := Lib.hid hx
        have HG := Lib.hid hgo
        clear hgo hx
        go_wp2_with (refine wpList_loadV rfl (some 36) rfl 31 (.tmp 5) rfl _ rfl 31 (bvs x.1).toArray (0, 0) _ HX2.out Try.underlying31 rfl (sizeIdA x) ?_; refine Stop.on ?_)
        refine Stop.go ?_
        try simp only [Act.put, List.setIfInBounds_toArray, List.set_cons_zero, List.set_cons_succ]
        go_wp2_with (refine wpList_loadV rfl (some 45) rfl 31 (.tmp 5) rfl _ rfl 31 (bvs x.1).toArray (0, 0) _ HX2.out Try.underlying31 rfl (sizeIdA x) ?_; refine Stop.on ?_)
        refine Stop.go ?_
        try simp only [Act.put, List.setIfInBounds_toArray, List.set_cons_zero, List.set_cons_succ]
        go_wp2_with (refine wpList_updV HWM2.out rfl rfl 74 Try.underlying74 (.tmp 44) (.tmp 45) (.tmp 46) rfl rfl x rfl (.int .i64 (k : Int)) rfl ?_; refine Stop.on ?_)
        refine Stop.go ?_
        try simp only [Act.put, List.setIfInBounds_toArray, List.set_cons_zero, List.set_cons_succ]
        intro W3 hm3 hc3 hs3
        try simp only [Act.put, List.setIfInBounds_toArray, List.set_cons_zero, List.set_cons_succ]
        have HWM3 := Lib.hid (hm3.ext (g := wkF (upd wk' x (some k))) (fun z => wkF_upd wk' x k z))
        have HPM3 := Lib.hid (HPM2.out.chg hc3 HNE.out.1)
        have HX3 := Lib.hid ((hc3.block A5 (Array.getElem?_eq_some_iff.1 HX2.out).1 (fun e => HN5.out.2.1 e.symm)).trans HX2.out)
        have HC3 := Lib.hid (HC2.out.trans (G := fun k => k = mb) hc3 (fun i e => .inr (by rw [e, ← HMB.out]; exact Nat.le_refl _)))
        have HSZ3 := Lib.hid (show W3.heap.size + (n + 1) = C by have := HSZ.out; omega)
        clear hm3 hc3 hs3 hlk
        obtain ⟨y0, hy0⟩ : ∃ y0, (par x).getD z32 = y0 := ⟨_, rfl⟩
        obtain ⟨ok, hok⟩ : ∃ ok, (par x).isSome = ok := ⟨_, rfl⟩
        have HF := Lib.hid (show ∀ w', Below W3.heap.size W3 w' → w'.cell? ⟨a, 3, none⟩ = some (.map (some pb)) ∧ (Instr.lookup 75 (.map (some pb)) (.agg (bvs x.1).toArray) true).run Try.prog w' = .ok (.tuple #[.agg (bvs y0.1).toArray, .bool ok]) w' ∧ w'.rangeAt A5 0 (bvs x.1) from fun w' hw' => by
          have ha := (HA.out.with_ HC3.out HPM3.out).below hw'
          have h2 := ha.lookP x true
          rw [if_pos rfl, hy0, hok] at h2
          exact ⟨ha.cells.2.2.2, h2, range_block ((hw'.block _ (Array.getElem?_eq_some_iff.1 HX3.out).1).trans HX3.out)⟩)
        have HY0 := Lib.hid hy0
        have HOK := Lib.hid hok
        clear hy0 hok
        go_wp2_with fail
        refine wp_region_noPanic ?_
        refine wp_region_H (fun w' => Below W3.heap.size W3 w' ∧ W3.heap.size ≤ w'.heap.size) (by kernel_rfl) ?_
        have hS0 : (fun w' => Below W3.heap.size W3 w' ∧ W3.heap.size ≤ w'.heap.size) W3.drew := ⟨(Below.refl _ _).drew, Nat.le_refl _⟩
        obtain ⟨wd, hwd⟩ : ∃ wd, W3.drew = wd := ⟨_, rfl⟩
        have hzd : wd.heap.size = W3.heap.size := hwd ▸ rfl
        rw [hwd] at hS0 ⊢
        clear hwd
        refine wpAnyH_takeI (i := 0) (v := ?v1) rfl (by kernel_rfl) (by kernel_rfl) (by kernel_rfl) (fun _ _ _ h => h) (yieldsIf_run rfl (fun w' hw' => ?y1)) hS0 ?_
        case y1 => first | (go_simp; rfl) | (go_simp; done) | rfl
        simp only [Act.put, List.setIfInBounds_toArray, List.set_cons_zero, List.set_cons_succ]
        refine wpAnyH_takeI (i := 1) (v := ?v2) rfl (by kernel_rfl) (by kernel_rfl) (by kernel_rfl) (fun _ _ _ h => h) (yieldsIf_run rfl (fun w' hw' => ?y2)) hS0 ?_
        case y2 => first | (go_simp; rfl) | (go_simp; done) | rfl
        simp only [Act.put, List.setIfInBounds_toArray, List.set_cons_zero, List.set_cons_succ]
        refine wpAnyH_takeI (i := 2) (v := ?v3) rfl (by kernel_rfl) (by kernel_rfl) (by kernel_rfl) (fun _ _ _ h => h) (yieldsIf_run rfl (fun w' hw' => ?y3)) hS0 ?_
        case y3 => first | (go_simp; rfl) | (go_simp; done) | rfl
        simp only [Act.put, List.setIfInBounds_toArray, List.set_cons_zero, List.set_cons_succ]
        refine wpAnyH_takeI (i := 3) (v := ?v4) rfl (by kernel_rfl) (by kernel_rfl) (by kernel_rfl) (fun _ _ _ h => h) (yieldsIf_run rfl (fun w' hw' => ?y4)) hS0 ?_
        case y4 => (obtain ⟨q1, q2, _⟩ := HF.out w' hw'.1; clear hw'; first | (go_simp; rfl) | (go_simp; done))
        simp only [Act.put, List.setIfInBounds_toArray, List.set_cons_zero, List.set_cons_succ]
        refine wpAnyH_takeI (i := 4) (v := .agg (bvs x.1).toArray) rfl (by kernel_rfl) (by kernel_rfl) (by kernel_rfl) (fun _ _ _ h => h) (yieldsIf_load_mid rfl 31 (.tmp 5) rfl A5 0 rfl (bvs x.1) _ (fun w' hw' => (HF.out w' hw'.1).2.2) Try.underlying31 rfl (sizeId x)) hS0 ?_
        simp only [Act.put, List.setIfInBounds_toArray, List.set_cons_zero, List.set_cons_succ]
        refine wpAnyH_takeI (i := 5) (v := .tuple #[.agg (bvs y0.1).toArray, .bool ok]) rfl (by kernel_rfl) (by kernel_rfl) (by kernel_rfl) (fun _ _ _ h => h) (yieldsIf_run rfl (fun w' hw' => ?y5)) hS0 ?_
        case y5 => (obtain ⟨q1, q2, _⟩ := HF.out w' hw'.1; clear hw'; first | (go_simp; rfl) | (go_simp; done))
        simp only [Act.put, List.setIfInBounds_toArray, List.set_cons_zero, List.set_cons_succ]
        refine wpAnyH_takeI (i := 6) (v := .tuple #[.agg (bvs y0.1).toArray, .bool ok]) rfl (by kernel_rfl) (by kernel_rfl) (by kernel_rfl) (fun _ _ _ h => h) (yieldsIf_run rfl (fun w' hw' => ?y6)) hS0 ?_
        case y6 => first | (go_simp; rfl) | (go_simp; done) | rfl
        simp only [Act.put, List.setIfInBounds_toArray, List.set_cons_zero, List.set_cons_succ]
        refine wpAnyH_takeI (i := 7) (v := .agg (bvs y0.1).toArray) rfl (by kernel_rfl) (by kernel_rfl) (by kernel_rfl) (fun _ _ _ h => h) (yieldsIf_run rfl (fun w' hw' => ?y7)) hS0 ?_
        case y7 => first | (go_simp; rfl) | (go_simp; done) | rfl
        simp only [Act.put, List.setIfInBounds_toArray, List.set_cons_zero, List.set_cons_succ]
        refine wpAnyH_takeI (i := 8) (v := .bool ok) rfl (by kernel_rfl) (by kernel_rfl) (by kernel_rfl) (fun _ _ _ h => h) (yieldsIf_run rfl (fun w' hw' => ?y8)) hS0 ?_
        case y8 => first | (go_simp; rfl) | (go_simp; done) | rfl
        simp only [Act.put, List.setIfInBounds_toArray, List.set_cons_zero, List.set_cons_succ]
        refine wpAnyH_do (i := 9) (by kernel_rfl) rfl rfl (fun K hK => ?_)
        refine wp_newV (some 8) rfl 31 rfl #[.int .u8 0, .int .u8 0, .int .u8 0, .int .u8 0, .int .u8 0, .int .u8 0, .int .u8 0, .int .u8 0, .int .u8 0, .int .u8 0, .int .u8 0, .int .u8 0, .int .u8 0, .int .u8 0, .int .u8 0, .int .u8 0, .int .u8 0, .int .u8 0, .int .u8 0, .int .u8 0, .int .u8 0, .int .u8 0, .int .u8 0, .int .u8 0, .int .u8 0, .int .u8 0, .int .u8 0, .int .u8 0, .int .u8 0, .int .u8 0, .int .u8 0, .int .u8 0] 32 (by kernel_rfl) ?_
        intro wn xn bi sn
        have hS1 : (fun w' => Below W3.heap.size W3 w' ∧ W3.heap.size ≤ w'.heap.size) wn := ⟨hS0.1.trans (bi.mono hS0.2), by have h1 := hS0.2; omega⟩
        refine hK _ _ hS1 ?_
        clear hK K
        try simp only [Act.put, List.setIfInBounds_toArray, List.set_cons_zero, List.set_cons_succ]
        refine wpAnyH_do (i := 10) (by kernel_rfl) rfl rfl (fun K hK => ?_)
        refine wp_putV rfl 31 (.tmp 8) (.tmp 54) rfl _ (bvs y0.1).toArray rfl rfl 31 _ xn (sizeIdA y0) (zsId y0) (all_oneCell_toArray bvs_oneCell) ?_
        intro W4 xi ci si
        have hS2 : (fun w' => Below W3.heap.size W3 w' ∧ W3.heap.size ≤ w'.heap.size) W4 := ⟨hS1.1.trans (ci.below (B := W3.heap.size) (fun k e => by omega) hS1.2), by have h1 := hS1.2; omega⟩
        refine hK _ _ hS2 ?_
        clear hK K
        try simp only [Act.put, List.setIfInBounds_toArray, List.set_cons_zero, List.set_cons_succ]
        refine wpAnyH_takeI (i := 11) (v := .bool ok) rfl (by kernel_rfl) (by kernel_rfl) (by kernel_rfl) (fun _ _ _ h => h) (yieldsIf_run rfl (fun w' hw' => ?y9)) hS2 ?_
        case y9 => first | (go_simp; rfl) | (go_simp; done) | rfl
        simp only [Act.put, List.setIfInBounds_toArray, List.set_cons_zero, List.set_cons_succ]
        refine wpAnyH_done (by kernel_rfl) ?_ _
        refine NoPanic.normal ?_
        rw [hzd] at xi sn ⊢
        have HZN := Lib.hid xi
        have HSN := Lib.hid hS2.1
        have HSZN := Lib.hid (show W4.heap.size = W3.heap.size + 1 by omega)
        clear xn xi bi ci si sn hS0 hS1 hS2 hzd
        have HPM4 := Lib.hid (HPM3.out.below HSN.out)
        have HWM4 := Lib.hid (HWM3.out.below HSN.out)
        have HC4 := Lib.hid (HC3.out.trans (Chg.of_below (F := fun k => k = pb) HSN.out) (fun i e => .inl e))
        have HX4 := Lib.hid ((HSN.out.block _ (Array.getElem?_eq_some_iff.1 HX3.out).1).trans HX3.out)
        have HN4 := Lib.hid (show A5 < W3.heap.size from (Array.getElem?_eq_some_iff.1 HX3.out).1)
        have HSZ4 := Lib.hid (show W4.heap.size + n = C by have h1 := HSZN.out; have h2 := HSZ3.out; omega)
        clear HF
        have hgo := HG.out
        cases hp : par x with
        | none =>
          obtain rfl : ok = false := by rw [← HOK.out, hp]; rfl
          rw [hp] at hgo
          dsimp only at hgo
          have hx2 : R.2 = none := by rw [← hgo]
          have hwk : R.1 = upd wk' x (some k) := by rw [← hgo]
          have HCI2 := Lib.hid (HCI.out.none_ HWR.out hx2 HKS.out)
          have HWM5 := Lib.hid (show KMap idKey W4 mb (wkF R.1) by rw [hwk]; exact HWM4.out)
          clear hgo hx2 hwk hp
          go_wp2_with fail
          rw [HQ3.out]
          change _ ∧ _
          go_roundw
          case rel => exact ⟨k + 1, _, _, by omega, by go_num, HCI2, HPM4, HWM5, HC4⟩
          case measure => simp [intOf]; omega
        | some y =>
          obtain rfl : ok = true := by rw [← HOK.out, hp]; rfl
          obtain rfl : y0 = y := by rw [← HY0.out, hp]; rfl
          rw [hp] at hgo
          dsimp only at hgo
          have HG2 := Lib.hid hgo
          have HUN2 := Lib.hid (show unmet (univ S) (upd wk' x (some k)) < n by have h1 := unmet_upd HXU.out HX.out k; have h2 := HUN.out; omega)
          have HYU := Lib.hid (pM_univ (HCI.out.le hp))
          clear hgo hp
          go_wp2_with (refine wpList_loadV rfl (some 58) rfl 31 (.tmp 8) rfl _ rfl 31 (bvs y0.1).toArray (0, 0) _ HZN.out Try.underlying31 rfl (sizeIdA y0) ?_; refine Stop.on ?_)
          refine Stop.go ?_
          try simp only [Act.put, List.setIfInBounds_toArray, List.set_cons_zero, List.set_cons_succ]
          refine wpList_putV rfl rfl 31 (.tmp 5) (.tmp 58) rfl A5 (bvs y0.1).toArray rfl rfl 31 _ HX4.out (sizeIdA y0) (by rw [List.size_toArray, List.size_toArray, bvs_length, bvs_length, x.2, y0.2]) (all_oneCell_toArray bvs_oneCell) ?_
          intro W5 xq cq hzq
          try simp only [Act.put, List.setIfInBounds_toArray, List.set_cons_zero, List.set_cons_succ]
          have HX5 := Lib.hid xq
          have HPM5 := Lib.hid (HPM4.out.chg cq HN5.out.1)
          have HWM5 := Lib.hid (HWM4.out.chg cq HN5.out.2.1)
          have HC5 := Lib.hid (HC4.out.trans (G := fun k => k = A5) cq (fun i e => .inr (by rw [e]; exact HN5.out.2.2)))
          have HSZ5 := Lib.hid (show W5.heap.size + n = C by have h1 := HSZ4.out; omega)
          clear xq cq hzq
          go_wp2_with fail
          go_roundw
          case rel => exact ⟨y0, _, n, HG2, HUN2, HYU, HX5, HPM5, HWM5, HC5, HSZ5⟩
          case measure => have h1 := HSZ.out; have h2 := HSZ5.out; omega
end Go.Proofs.Ytjjanjhoaiannaa
