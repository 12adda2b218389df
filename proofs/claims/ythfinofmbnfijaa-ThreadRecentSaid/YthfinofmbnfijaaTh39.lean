/- Recent. -/
import Derived.Test.YthfinofmbnfijaaTh38
import Derived.Test.YthfinofmbnfijaaTp21
namespace Go.Proofs.Ythfinofmbnfijaa
open Go.Shelf Go.RowKit Go.Lib Go.Sort
set_option linter.unusedVariables false
set_option linter.unusedSimpArgs false

theorem cells_neN {w : World} {m c N : Nat} {hN : N < 1000000} {f : Fin N → Option Value} {cs : Array Value} {T : TypeId} {fr : Nat × Nat} (hm : KMap (numKey N hN) w m f) (hc : w.heap[c]? = some (.cells cs T fr)) : c ≠ m := by
  rintro rfl
  obtain ⟨es, cl, _, h, _⟩ := hm.ex
  rw [hc] at h
  cases h
/-- Recent's world behind i nodes. -/
structure RcAt (w wr : World) (bx bm mb B N : Nat) (hN : N < 1000000) (xv : Value) (F : List NodeV) (L : List RowV) (i j : Nat) (ov : Value) : Prop where
  base : Below w.heap.size w wr
  row : wr.heap[bx]? = some (.cells #[xv] 23 (0, 0))
  box : wr.heap[bm]? = some (.cells #[.map (some mb)] 98 (0, 0))
  map : KMap (numKey N hN) wr mb (lsF fun t : Fin N => bsL F L t.val i)
  own : OwnL natE wr B ov (belowL F (-1) j)
  h1 : bx < B
  h2 : bm < B
  h3 : mb < B
  h4 : B ≤ wr.heap.size
  g1 : w.heap.size ≤ bm
  g2 : w.heap.size ≤ mb
  g3 : w.heap.size ≤ B
section
variable {w wr w' : World} {bx bm mb B N : Nat} {hN : N < 1000000} {xv : Value} {F : List NodeV} {L : List RowV} {i j : Nat} {ov : Value}
theorem RcAt.below (h : RcAt w wr bx bm mb B N hN xv F L i j ov) (hb : Below wr.heap.size wr w') : RcAt w w' bx bm mb B N hN xv F L i j ov :=
  ⟨h.base.trans (hb.mono h.base.size), (hb.block _ (Array.getElem?_eq_some_iff.1 h.row).1).trans h.row, (hb.block _ (Array.getElem?_eq_some_iff.1 h.box).1).trans h.box, h.map.below hb, h.own.below hb, h.h1, h.h2, h.h3, Nat.le_trans h.h4 hb.size, h.g1, h.g2, h.g3⟩
/-- The list of roots may be another one. -/
theorem RcAt.app {ov' : Value} (h : RcAt w wr bx bm mb B N hN xv F L i j ov) (hb : Below B wr w') (ho : OwnL natE w' B ov' (belowL F (-1) (j + 1))) : RcAt w w' bx bm mb B N hN xv F L i (j + 1) ov' :=
  ⟨h.base.trans (hb.mono h.g3), (hb.block _ h.h1).trans h.row, (hb.block _ h.h2).trans h.box, h.map.kept (hb.block _ h.h3), ho, h.h1, h.h2, h.h3, Nat.le_trans h.h4 hb.size, h.g1, h.g2, h.g3⟩
/-- No root. -/
theorem RcAt.noroot (h : RcAt w wr bx bm mb B N hN xv F L i j ov) (hp : parA F j ≠ -1) : RcAt w wr bx bm mb B N hN xv F L i (j + 1) ov :=
  ⟨h.base, h.row, h.box, h.map, by rw [belowL_next, if_neg hp]; exact h.own, h.h1, h.h2, h.h3, h.h4, h.g1, h.g2, h.g3⟩
/-- The latest articles stay. -/
theorem RcAt.same (h : RcAt w wr bx bm mb B N hN xv F L i j ov) (hs : ∀ t, bsL F L t (i + 1) = bsL F L t i) : RcAt w wr bx bm mb B N hN xv F L (i + 1) j ov :=
  ⟨h.base, h.row, h.box, h.map.ext (fun t => by unfold lsF; dsimp only; rw [hs]), h.own, h.h1, h.h2, h.h3, h.h4, h.g1, h.g2, h.g3⟩
theorem bs_none {F : List NodeV} {L : List RowV} {i : Nat} (hr : rowA F i < 0) (t : Nat) : bsL F L t (i + 1) = bsL F L t i := by
  show (if _ then _ else _) = _
  rw [if_neg (by omega)]
theorem bs_next {F : List NodeV} {L : List RowV} {i : Nat} (k : Fin L.length) (hr : rowA F i = (k.val : Int)) (t : Nat) : bsL F L t (i + 1) = if t = rtL F i then betL L (bsL F L t i) k else bsL F L t i := by
  have hk : (rowA F i).toNat = k.val := by omega
  have hlt : (rowA F i).toNat < L.length := by rw [hk]; exact k.isLt
  have e : (⟨(rowA F i).toNat, hlt⟩ : Fin L.length) = k := Fin.ext hk
  show (if rtL F i = t ∧ 0 ≤ rowA F i then (if h : (rowA F i).toNat < L.length then betL L (bsL F L t i) ⟨(rowA F i).toNat, h⟩ else bsL F L t i) else bsL F L t i) = _
  rw [dif_pos hlt, e]
  by_cases ht : t = rtL F i
  · rw [if_pos ht, if_pos ⟨ht.symm, by omega⟩]
  · rw [if_neg ht, if_neg (fun h => ht h.1.symm)]
/-- The map is told of a later article. -/
theorem RcAt.upd (h : RcAt w wr bx bm mb B N hN xv F L i j ov) (r : Fin N) (k : Fin L.length) (hr : rtL F i = r.val) (hk : rowA F i = (k.val : Int)) (hb : betL L (bsL F L r.val i) k = some k) (hm : KMap (numKey N hN) w' mb (fun z => if z = r then some (.int .i64 (k.val : Int)) else lsF (fun t : Fin N => bsL F L t.val i) z)) (hc : Chg (fun q => q = mb) wr w') : RcAt w w' bx bm mb B N hN xv F L (i + 1) j ov :=
  ⟨h.base.trans (hc.below (fun q e => by rw [e]; exact h.g2) h.base.size), (hc.block _ (Array.getElem?_eq_some_iff.1 h.row).1 (cells_neN h.map h.row)).trans h.row, (hc.block _ (Array.getElem?_eq_some_iff.1 h.box).1 (cells_neN h.map h.box)).trans h.box, hm.ext (fun z => by
    unfold lsF
    dsimp only
    rw [bs_next k hk]
    by_cases hz : z = r
    · rw [if_pos hz, if_pos (by rw [hz, hr]), hz, hb]; rfl
    · rw [if_neg hz, if_neg (fun e => hz (Fin.ext (by rw [e, hr])))]), h.own.chg hc (fun q hq e => by have := (h.own.lt hq).1; have := h.h3; omega), h.h1, h.h2, h.h3, Nat.le_trans h.h4 hc.size, h.g1, h.g2, h.g3⟩
/-- .. or it holds a later one. -/
theorem RcAt.keep (h : RcAt w wr bx bm mb B N hN xv F L i j ov) (k : Fin L.length) (hk : rowA F i = (k.val : Int)) (hb : betL L (bsL F L (rtL F i) i) k = bsL F L (rtL F i) i) : RcAt w wr bx bm mb B N hN xv F L (i + 1) j ov :=
  h.same fun t => by
    rw [bs_next k hk]
    by_cases ht : t = rtL F i
    · rw [if_pos ht, ht, hb]
    · rw [if_neg ht]
end
theorem last_cell {W : World} {B n c t : Nat} {a : Option Addr} {l : List Nat} (h : OwnL natE W B (.slice a n c) l) (hl : l.getLast? = some t) : ∃ g o m, a = some ⟨g, o, none⟩ ∧ n = m + 1 ∧ W.cell? ⟨g, o + m, none⟩ = some (.int .i64 (t : Int)) := by
  obtain ⟨a', c', e⟩ := h.form
  cases e
  have hne : l ≠ [] := fun e => by rw [e] at hl; cases hl
  have hlen : 0 < l.length := List.length_pos_iff.2 hne
  obtain ⟨g, o, e2, hg, hr⟩ := h.at_.get (i := l.length - 1) (by omega)
  rw [List.getLast?_eq_getElem?, List.getElem?_eq_getElem (by omega)] at hl
  rw [Option.some.inj hl] at hr
  refine ⟨g, o, l.length - 1, e2, by omega, ?_⟩
  have := hr 0 (.int .i64 (t : Int)) rfl
  have e3 : (⟨g, o + (l.length - 1) * natE.k, none⟩ : Addr).add 0 = ⟨g, o + (l.length - 1), none⟩ := by
    rw [show natE.k = 1 from rfl, Nat.mul_one]; rfl
  rw [← e3]
  exact this
theorem RcAt.cells {w wr : World} {bx bm mb B N : Nat} {hN : N < 1000000} {xv : Value} {F : List NodeV} {L : List RowV} {i j : Nat} {ov : Value} (h : RcAt w wr bx bm mb B N hN xv F L i j ov) : wr.cell? ⟨bx, 0, none⟩ = some xv ∧ wr.cell? ⟨bm, 0, none⟩ = some (.map (some mb)) := by
  refine ⟨?_, ?_⟩
  · rw [cell_of_row _ _ _ _ _ _ h.row]; rfl
  · rw [cell_of_row _ _ _ _ _ _ h.box]; rfl
theorem node_cells {w' : World} {B6 : Nat} {n : NodeV} (h : w'.heap[B6]? = some (.cells n.cells.toArray 37 (0, 0))) : w'.cell? ⟨B6, 32, none⟩ = some (.int .i64 n.row) ∧ w'.cell? ⟨B6, 33, none⟩ = some (.int .i64 n.parent) := by
  have hm := node_mid (range_block (cs := n.cells) h)
  simp only [Nat.zero_add] at hm
  exact ⟨hm.1, hm.2.1⟩
def bsF (F : List NodeV) (L : List RowV) (N : Nat) (t : Fin N) : Option (Fin L.length) := bsL F L t.val F.length
def RecPost (w : World) (F : List NodeV) (L : List RowV) (N : Nat) (e : Ending) (w' : World) : Prop := Below w.heap.size w w' ∧
  ((checkP F ≠ 0 ∧ e = .returned (.tuple #[.slice none 0 0, .int .i64 (checkP F)])) ∨
  (checkP F = 0 ∧ (∃ i, i < F.length ∧ (L.length : Int) ≤ rowA F i) ∧ e = .returned (.tuple #[.slice none 0 0, .int .i64 2])) ∨
  (checkP F = 0 ∧ (∀ i, i < F.length → rowA F i < (L.length : Int)) ∧ ∃ (v' : Value) (M' : List (Rt (bsF F L N))), e = .returned (.tuple #[v', .int .i64 0]) ∧ OwnL natE w' w.heap.size v' (M'.map (·.1.val)) ∧ (M'.map (·.1.val)).Perm (belowL F (-1) F.length) ∧ M'.Pairwise (fun x y => ¬ cfR (bsF F L N) y x < 0)))
set_option maxRecDepth 100000 in
set_option maxHeartbeats 2000000 in
theorem Recent_any {w : World} (xv fv : Value) (L : List RowV) (F : List NodeV) (hx : RowsAt w xv L) (hv : ListAt nodeE w fv F) (hlL : L.length < 1000000) (N : Nat) (hN : F.length = N) (hlN : N < 1000000) (hrt : checkP F = 0 → (∀ i, i < F.length → rowA F i < (L.length : Int)) → (∀ t, t < F.length → parA F t = -1 → (bsL F L t F.length).isSome = true) ∧ (belowL F (-1) F.length).length < 20) : Calls Try.prog 40 #[xv, fv] w (RecPost w F L N) := by
  obtain ⟨va, vc, rfl⟩ := hv.form
  obtain ⟨xa, xc, rfl⟩ := hx.l.form
  obtain ⟨X, hX⟩ : ∃ X, L.length = X := ⟨_, rfl⟩
  rw [hX] at hx hlL ⊢
  rw [hN] at hv ⊢
  obtain ⟨w1, hw1⟩ : ∃ w1, w.alloc (.cells #[.slice xa X xc] 23) = w1 := ⟨_, rfl⟩
  have hb1 : Below w.heap.size w w1 := hw1 ▸ (Below.refl _ _).alloc (Nat.le_refl _) _
  have hs1 : w1.heap.size = w.heap.size + 1 := by rw [← hw1]; simp
  have x1 : w1.heap[w.heap.size]? = some (.cells #[.slice xa X xc] 23 (0, 0)) := by rw [← hw1]; exact heap_alloc_new _ _
  obtain ⟨bx, hbx⟩ : ∃ bx, w.heap.size = bx := ⟨_, rfl⟩
  rw [hbx] at x1
  have HX1 := Lib.hid x1
  have HVW := Lib.hid hv
  have HXW := Lib.hid hx
  have HV := Lib.hid (hv.below hb1)
  have HXR := Lib.hid (hx.below hb1)
  have HB1 := Lib.hid hb1
  have HS1 := Lib.hid hs1
  have HBX := Lib.hid hbx
  have HN := Lib.hid hN
  have HX := Lib.hid hX
  have HRT := Lib.hid hrt
  clear hv hx hb1 hs1 x1 hN hX hrt
  go_enter Try.func40, Try.ntmps40
  go_wp2_with fail
  refine (Check_any _ F HV.out (by rw [HN.out]; exact hlN)).mono ?_
  rintro e W2 ⟨rfl, hb2⟩
  have HB2 := Lib.hid (HB1.out.trans (hb2.mono HB1.out.size))
  have HX2 := Lib.hid ((hb2.block _ (Array.getElem?_eq_some_iff.1 HX1.out).1).trans HX1.out)
  have HV2 := Lib.hid (HV.out.below hb2)
  have HR2 := Lib.hid (HXR.out.below hb2)
  clear hb2
  obtain ⟨z, hz⟩ : ∃ z, checkP F = z := ⟨_, rfl⟩
  rw [hz]
  have HZ := Lib.hid hz
  clear hz
  by_cases hz0 : z = 0
  case neg =>
    have hd : (z != 0) = true := by simpa using hz0
    go_wp2_with fail
    exact bodyPost_ret (v := .tuple #[.slice none 0 0, .int .i64 z]) (by simp [results, Try.results40, go_sem]) rfl ⟨HB2.out, .inl ⟨by rw [HZ.out]; exact hz0, by rw [HZ.out]⟩⟩
  subst hz0
  go_wp2_with (refine wpList_mapV (numKey N hlN) rfl (some 19) rfl 98 Try.underlying98 none rfl (.inl rfl) ?_; refine Stop.on ?_)
  refine Stop.go ?_
  try simp only [Act.put, List.setIfInBounds_toArray, List.set_cons_zero, List.set_cons_succ]
  intro W3 hm3 hb3 hs3
  try simp only [Act.put, List.setIfInBounds_toArray, List.set_cons_zero, List.set_cons_succ]
  obtain ⟨mb, hmb⟩ : ∃ mb, W2.heap.size = mb := ⟨_, rfl⟩
  rw [hmb] at hm3 hs3 ⊢
  go_wp2_with (refine wpList_newC rfl (some 8) rfl 98 rfl (.map none) rfl (by kernel_rfl) ?_; refine Stop.on ?_)
  refine Stop.go ?_
  try simp only [Act.put, List.setIfInBounds_toArray, List.set_cons_zero, List.set_cons_succ]
  intro W4 x4 bx4 sx4
  try simp only [Act.put, List.setIfInBounds_toArray, List.set_cons_zero, List.set_cons_succ]
  obtain ⟨bm, hbm⟩ : ∃ bm, W3.heap.size = bm := ⟨_, rfl⟩
  rw [hbm] at x4 sx4 ⊢
  have HX4 := Lib.hid x4
  go_wp2_with (refine wpList_putC rfl rfl 98 (.tmp 8) (.tmp 19) rfl bm 0 (.map (some mb)) rfl rfl HX4.out (by show 0 < 1; decide) rfl (by kernel_rfl) ?_; refine Stop.on ?_)
  refine Stop.go ?_
  try simp only [Act.put, List.setIfInBounds_toArray, List.set_cons_zero, List.set_cons_succ]
  intro W5 x5 cx5 sx5
  try simp only [Act.put, List.setIfInBounds_toArray, List.set_cons_zero, List.set_cons_succ]
  obtain ⟨B, hB⟩ : ∃ B, W5.heap.size = B := ⟨_, rfl⟩
  have HRC := Lib.hid (show RcAt w W5 bx bm mb B N hlN (.slice xa X xc) F L 0 0 (.slice none 0 0) from by
    have e1 := HB2.out.trans (hb3.mono HB2.out.size)
    have e2 := e1.trans (bx4.mono e1.size)
    have q2 : bx < W2.heap.size := (Array.getElem?_eq_some_iff.1 HX2.out).1
    have z2 := HB2.out.size
    have z3 := hb3.size
    have z4 := bx4.size
    have z5 := cx5.size
    have hmb2 := hmb
    have hbm2 := hbm
    have y3 := (hb3.block _ q2).trans HX2.out
    have y4 := (bx4.block _ (Array.getElem?_eq_some_iff.1 y3).1).trans y3
    have y5 := (cx5.block _ (Array.getElem?_eq_some_iff.1 y4).1 (by omega)).trans y4
    have m4 := hm3.below bx4
    have m5 := m4.chg cx5 (by omega)
    exact ⟨e2.trans (cx5.below (fun k e => by omega) e2.size), y5, x5, m5.ext (fun _ => rfl), ownL_nil natE W5 B, by omega, by omega, by omega, by omega, by omega, by omega, by omega⟩)
  clear hb3 hs3 hm3 x4 sx4 bx4 cx5 sx5 x5 hmb hbm HX4 HX2 HX1 HV HXR HB1 HS1 HV2 HR2 HB2
  go_wp2_with fail
  have HRW := Lib.hid (show ∀ j, j < 0 → rowA F j < (L.length : Int) from fun j h => absurd h (Nat.not_lt_zero j))
  go_loopw [7, 22] (fun ov iv wr => ∃ (i : Nat) (oa : Option Addr) (on oc : Nat), i ≤ N ∧ on ≤ i ∧ iv = .int .i64 (i : Int) ∧ ov = .slice oa on oc ∧ Hid (RcAt w wr bx bm mb B N hlN (.slice xa X xc) F L i i (.slice oa on oc)) ∧ Hid (∀ j, j < i → rowA F j < (L.length : Int))) (fun _ iv _ => N - (intOf iv).toNat)
  case atStart => exact ⟨0, none, 0, 0, Nat.zero_le _, Nat.zero_le _, rfl, rfl, HRC, HRW⟩
  case round =>
    obtain ⟨i, oa, on, oc, hi, hon, rfl, rfl, HRC1, HRW1⟩ := hrel
    obtain ⟨W0, rfl⟩ : ∃ W0, W0 = wr := ⟨_, rfl⟩
    clear HRC HRW
    by_cases hlt : i < N
    case neg =>
      obtain rfl : i = N := by omega
      have hrw : ∀ j, j < F.length → rowA F j < (L.length : Int) := fun j hj => HRW1.out j (by rw [HN.out] at hj; exact hj)
      obtain ⟨hall, hfew⟩ := HRT.out HZ.out hrw
      obtain ⟨M, hM⟩ := rt_list (bst := bsF F L i) (belowL F (-1) i) fun t ht => by
        obtain ⟨h1, h2⟩ := List.mem_filter.1 ht
        have h1 := List.mem_range.1 h1
        refine ⟨h1, hall t (by rw [HN.out]; exact h1) (of_decide_eq_true h2)⟩
      have hml : M.length < 20 := by
        have := congrArg List.length hM
        rw [List.length_map] at this
        rw [this, ← HN.out]; exact hfew
      have hR := HRC1.out
      have hs := sortRec_any (bst := bsF F L i) (hN := hlN) hR.box (hR.map.ext (fun t => by unfold lsF bsF; rw [HN.out])) hR.row hR.h1 hR.h2 hR.h3 (fun w' hw' => HXW.out.below (hR.base.trans (hw'.mono hR.g3))) hR.h4 (by rw [HX.out]; exact hlL) M (by rw [hM]; exact hR.own) hml
      have HS := Lib.hid hs
      have HM := Lib.hid hM
      have HRN := Lib.hid hrw
      clear hs hM hrw hall hfew hml hR
      go_wp2_with fail
      refine HS.out.mono ?_
      rintro e w7 ⟨rfl, M', hp, hpw, ho, hb⟩
      have HRS := Lib.hid (show RecPost w F L i (.returned (.tuple #[.slice oa on oc, .int .i64 0])) w7 from ⟨HRC1.out.base.trans (hb.mono HRC1.out.g3), .inr (.inr ⟨HZ.out, HRN.out, _, M', rfl, ho.base HRC1.out.g3, by rw [HN.out, ← HM.out]; exact hp.map _, hpw.imp (fun h => by omega)⟩)⟩)
      clear hp hpw ho hb HS
      go_wp2_with fail
      exact bodyPost_ret (v := .tuple #[.slice oa on oc, .int .i64 0]) (by simp [results, Try.results40, go_sem]) rfl HRS.out
    have hiI : (i : Int) < (N : Int) := by omega
    have hiF : i < F.length := by rw [HN.out]; exact hlt
    obtain ⟨g, o, eg, hcell⟩ := node_at (HVW.out.below HRC1.out.base) hiF
    subst eg
    obtain ⟨n, hn⟩ : ∃ n, F[i] = n := ⟨_, rfl⟩
    have hr := (hcell W0 (Below.refl _ _)).2.2.2.2
    rw [hn] at hr
    have HRR := Lib.hid hr
    have HPA := Lib.hid (show parA F i = n.parent by rw [parA_at hiF, hn])
    have HRA := Lib.hid (show rowA F i = n.row by rw [rowA_at hiF, hn])
    have HRL := Lib.hid (show -1 ≤ n.row by rw [← hn]; exact (chk_all HZ.out i hiF).row)
    have HNX := Lib.hid (belowL_next F (-1) i)
    have HLEN := Lib.hid (show (belowL F (-1) i).length = on by obtain ⟨a', c', e⟩ := HRC1.out.own.form; cases e; rfl)
    clear hcell hr hn
    go_wp2_with (with_reducible refine wpList_load_mid rfl 37 (.tmp 25) rfl g (o + i * 35) rfl n.cells _ HRR.out Try.underlying37 rfl (sizeNode n) ?_; refine Stop.on ?_)
    refine Stop.go ?_
    try simp only [Act.put, List.setIfInBounds_toArray, List.set_cons_zero, List.set_cons_succ]
    go_wp2_with (refine wpList_newV rfl (some 10) rfl 37 rfl (NodeV.cells ⟨z32, 0, 0, 0⟩).toArray 35 (by kernel_rfl) ?_; refine Stop.on ?_)
    refine Stop.go ?_
    try simp only [Act.put, List.setIfInBounds_toArray, List.set_cons_zero, List.set_cons_succ]
    intro wn xn bi sn
    try simp only [Act.put, List.setIfInBounds_toArray, List.set_cons_zero, List.set_cons_succ]
    go_wp2_with (refine wpList_putV rfl rfl 37 (.tmp 10) (.tmp 26) rfl _ (n.cells).toArray rfl rfl 37 _ xn (sizeNodeA n) (zsNode n) (oneNode n) ?_; refine Stop.on ?_)
    refine Stop.go ?_
    try simp only [Act.put, List.setIfInBounds_toArray, List.set_cons_zero, List.set_cons_succ]
    intro W2 xi ci si
    try simp only [Act.put, List.setIfInBounds_toArray, List.set_cons_zero, List.set_cons_succ]
    clear xn
    obtain ⟨B6, hB6⟩ : ∃ B6, W0.heap.size = B6 := ⟨_, rfl⟩
    rw [hB6] at xi ⊢
    have hb2 : Below W0.heap.size W0 W2 := bi.trans (ci.below (B := W0.heap.size) (fun k e => by omega) bi.size)
    have HXI := Lib.hid xi
    have HRC2 := Lib.hid (HRC1.out.below hb2)
    have HGE := Lib.hid (show B ≤ B6 by rw [← hB6]; exact HRC1.out.h4)
    have HNC := Lib.hid (show ∀ w' : World, w'.heap[B6]? = some (.cells n.cells.toArray 37 (0, 0)) → w'.cell? ⟨B6, 32, none⟩ = some (.int .i64 n.row) ∧ w'.cell? ⟨B6, 33, none⟩ = some (.int .i64 n.parent) from fun w' hw' => by
      have hm := node_mid (range_block (cs := n.cells) hw')
      simp only [Nat.zero_add] at hm
      exact ⟨hm.1, hm.2.1⟩)
    have HKB := Lib.hid (show ∀ k, (Value.slice oa on oc).ownBlock = some k → k < B6 from fun k hk => by have := (HRC1.out.own.lt hk).2; omega)
    clear xi bi ci si sn hb2 hB6 HRC1 HRR
    obtain ⟨hq1, hq2⟩ := HNC.out W2 HXI.out
    obtain ⟨q, hq⟩ : ∃ q, n.parent = q := ⟨_, rfl⟩
    obtain ⟨r, hr⟩ : ∃ r, n.row = r := ⟨_, rfl⟩
    rw [hq] at hq2 HPA HNC
    rw [hr] at hq1 HRA HRL HNC
    have hbc : W2.cell? ⟨bx, 0, none⟩ = some (.slice xa X xc) := by
      rw [cell_of_row _ _ _ _ _ _ HRC2.out.row]; rfl
    by_cases hrX : (X : Int) ≤ r
    case pos =>
      have HRP := Lib.hid (show RecPost w F L N (.returned (.tuple #[.slice none 0 0, .int .i64 2])) W2 from ⟨HRC2.out.base, .inr (.inl ⟨HZ.out, ⟨i, hiF, by rw [HX.out, HRA.out]; exact hrX⟩, rfl⟩)⟩)
      go_wp2_with fail
      exact bodyPost_ret (v := .tuple #[.slice none 0 0, .int .i64 2]) (by simp [results, Try.results40, go_sem]) rfl HRP.out
    have HNR := Lib.hid hr
    have HNQ := Lib.hid hq
    clear hq hr
    by_cases hqp : q = -1
    case neg =>
      have hd : (q == -1) = false := by simp [hqp]
      have HRC3 := Lib.hid (HRC2.out.noroot (by rw [HPA.out]; exact hqp))
      have hn3 : on ≤ i + 1 := by omega
      clear HRC2 HNC
      obtain ⟨hq1, hq2⟩ := node_cells HXI.out
      rw [HNR.out] at hq1
      by_cases hr1 : r = -1
      case pos =>
        have hd2 : (r == -1) = true := by simp [hr1]
        have HRN := Lib.hid (HRC3.out.same (fun t => bs_none (by rw [HRA.out, hr1]; decide) t))
        have HRW2 := Lib.hid (show ∀ j, j < i + 1 → rowA F j < (L.length : Int) from fun j hj => by
          by_cases e : j = i
          · rw [e, HRA.out, HX.out]; omega
          · exact HRW1.out j (by omega))
        go_wp2_with fail
        go_roundw
        case rel => exact ⟨i + 1, oa, on, oc, by omega, by omega, by go_num, rfl, HRN, HRW2⟩
        case measure => simp [intOf] <;> omega
      have hd2 : (r == -1) = false := by simp [hr1]
      obtain ⟨gl, ol, m, eal, enl, hcl⟩ := last_cell HRC3.out.own (rt_below HZ.out i hiF)
      have hcm := HRC3.out.cells.2
      have zI : ∀ w, (zeroValue 3).run Try.prog w = .ok (.int .i64 0) w := fun w => by kernel_rfl
      have hrl : rtL F i < N := by have := rt_le F i; omega
      have hlk := HRC3.out.map.look Try.underlying98 zI ⟨rtL F i, hrl⟩ true
      rw [if_pos rfl] at hlk
      unfold lsF at hlk
      dsimp only at hlk
      obtain ⟨k, hk⟩ : ∃ k : Fin L.length, rowA F i = (k.val : Int) := ⟨⟨r.toNat, by rw [HX.out]; have := HRL.out; omega⟩, by rw [HRA.out]; show r = ((r.toNat : Nat) : Int); have := HRL.out; omega⟩
      have HK := Lib.hid hk
      clear hk zI
      cases hb : bsL F L (rtL F i) i with
      | none =>
        rw [hb] at hlk
        have hlk : (Instr.lookup 98 (.map (some mb)) (.int .i64 (rtL F i : Int)) true).run Try.prog W2 = .ok (.tuple #[.int .i64 0, .bool false]) W2 := hlk
        go_wp2_with fail
        refine wp_region_noPanic ?_
        refine wp_region_H (Below W2.heap.size W2) (by kernel_rfl) ?_
        have hS0 : (Below W2.heap.size W2) W2.drew := (Below.refl _ _).drew
        obtain ⟨wd, hwd⟩ : ∃ wd, W2.drew = wd := ⟨_, rfl⟩
        rw [hwd] at hS0  ⊢
        clear hwd
        refine wpAnyH_takeI (i := 0) (v := ?v1) rfl (by kernel_rfl) (by kernel_rfl) (by kernel_rfl) (fun _ _ _ h => h) (yieldsIf_run rfl (fun w' hw' => ?y1)) hS0 ?_
        case y1 => first | (go_simp; rfl) | (go_simp; done) | rfl
        simp only [Act.put, List.setIfInBounds_toArray, List.set_cons_zero, List.set_cons_succ]
        refine wpAnyH_takeI (i := 1) (v := ?v2) rfl (by kernel_rfl) (by kernel_rfl) (by kernel_rfl) (fun _ _ _ h => h) (yieldsIf_run rfl (fun w' hw' => ?y2)) hS0 ?_
        case y2 => first | (go_simp; rfl) | (go_simp; done) | rfl
        simp only [Act.put, List.setIfInBounds_toArray, List.set_cons_zero, List.set_cons_succ]
        refine wpAnyH_takeI (i := 2) (v := ?v3) rfl (by kernel_rfl) (by kernel_rfl) (by kernel_rfl) (fun _ _ _ h => h) (yieldsIf_run rfl (fun w' hw' => ?y3)) hS0 ?_
        case y3 => first | (go_simp; rfl) | (go_simp; done) | rfl
        simp only [Act.put, List.setIfInBounds_toArray, List.set_cons_zero, List.set_cons_succ]
        refine wpAnyH_takeI (i := 3) (v := undef) rfl (by kernel_rfl) (by kernel_rfl) (by kernel_rfl) (fun _ _ _ h => h) (yieldsIf_skip rfl) hS0 ?_
        simp only [Act.put, List.setIfInBounds_toArray, List.set_cons_zero, List.set_cons_succ]
        refine wpAnyH_takeI (i := 4) (v := undef) rfl (by kernel_rfl) (by kernel_rfl) (by kernel_rfl) (fun _ _ _ h => h) (yieldsIf_skip rfl) hS0 ?_
        simp only [Act.put, List.setIfInBounds_toArray, List.set_cons_zero, List.set_cons_succ]
        refine wpAnyH_takeI (i := 5) (v := undef) rfl (by kernel_rfl) (by kernel_rfl) (by kernel_rfl) (fun _ _ _ h => h) (yieldsIf_skip rfl) hS0 ?_
        simp only [Act.put, List.setIfInBounds_toArray, List.set_cons_zero, List.set_cons_succ]
        refine wpAnyH_takeI (i := 6) (v := undef) rfl (by kernel_rfl) (by kernel_rfl) (by kernel_rfl) (fun _ _ _ h => h) (yieldsIf_skip rfl) hS0 ?_
        simp only [Act.put, List.setIfInBounds_toArray, List.set_cons_zero, List.set_cons_succ]
        refine wpAnyH_takeI (i := 7) (v := undef) rfl (by kernel_rfl) (by kernel_rfl) (by kernel_rfl) (fun _ _ _ h => h) (yieldsIf_skip rfl) hS0 ?_
        simp only [Act.put, List.setIfInBounds_toArray, List.set_cons_zero, List.set_cons_succ]
        refine wpAnyH_takeI (i := 8) (v := undef) rfl (by kernel_rfl) (by kernel_rfl) (by kernel_rfl) (fun _ _ _ h => h) (yieldsIf_skip rfl) hS0 ?_
        simp only [Act.put, List.setIfInBounds_toArray, List.set_cons_zero, List.set_cons_succ]
        refine wpAnyH_takeI (i := 9) (v := undef) rfl (by kernel_rfl) (by kernel_rfl) (by kernel_rfl) (fun _ _ _ h => h) (yieldsIf_skip rfl) hS0 ?_
        simp only [Act.put, List.setIfInBounds_toArray, List.set_cons_zero, List.set_cons_succ]
        refine wpAnyH_takeI (i := 10) (v := undef) rfl (by kernel_rfl) (by kernel_rfl) (by kernel_rfl) (fun _ _ _ h => h) (yieldsIf_skip rfl) hS0 ?_
        simp only [Act.put, List.setIfInBounds_toArray, List.set_cons_zero, List.set_cons_succ]
        refine wpAnyH_takeI (i := 11) (v := undef) rfl (by kernel_rfl) (by kernel_rfl) (by kernel_rfl) (fun _ _ _ h => h) (yieldsIf_skip rfl) hS0 ?_
        simp only [Act.put, List.setIfInBounds_toArray, List.set_cons_zero, List.set_cons_succ]
        refine wpAnyH_takeI (i := 12) (v := undef) rfl (by kernel_rfl) (by kernel_rfl) (by kernel_rfl) (fun _ _ _ h => h) (yieldsIf_skip rfl) hS0 ?_
        simp only [Act.put, List.setIfInBounds_toArray, List.set_cons_zero, List.set_cons_succ]
        refine wpAnyH_takeI (i := 13) (v := undef) rfl (by kernel_rfl) (by kernel_rfl) (by kernel_rfl) (fun _ _ _ h => h) (yieldsIf_skip rfl) hS0 ?_
        simp only [Act.put, List.setIfInBounds_toArray, List.set_cons_zero, List.set_cons_succ]
        refine wpAnyH_takeI (i := 14) (v := ?v4) rfl (by kernel_rfl) (by kernel_rfl) (by kernel_rfl) (fun _ _ _ h => h) (yieldsIf_run rfl (fun w' hw' => ?y4)) hS0 ?_
        case y4 => first | (go_simp; rfl) | (go_simp; done) | rfl
        simp only [Act.put, List.setIfInBounds_toArray, List.set_cons_zero, List.set_cons_succ]
        refine wpAnyH_done (by kernel_rfl) ?_ _
        refine NoPanic.normal ?_
        have HRD := Lib.hid (HRC3.out.below hS0)
        have HXD := Lib.hid ((hS0.block _ (Array.getElem?_eq_some_iff.1 HXI.out).1).trans HXI.out)
        obtain ⟨hv1, _⟩ := node_cells HXD.out
        rw [HNR.out] at hv1
        have hvm := HRD.out.cells.2
        clear hq1 hq2 hcm hcl hlk
        go_wp2_with (refine wpList_updV HRD.out.map rfl rfl 98 Try.underlying98 (.tmp 69) (.tmp 70) (.tmp 72) rfl rfl ⟨rtL F i, hrl⟩ rfl (.int .i64 r) rfl ?_; refine Stop.on ?_)
        refine Stop.go ?_
        try simp only [Act.put, List.setIfInBounds_toArray, List.set_cons_zero, List.set_cons_succ]
        intro W9 hm9 hc9 hs9
        try simp only [Act.put, List.setIfInBounds_toArray, List.set_cons_zero, List.set_cons_succ]
        have HRN := Lib.hid (HRD.out.upd ⟨rtL F i, hrl⟩ k rfl HK.out (by rw [hb]; rfl) (by rw [← HK.out, HRA.out]; exact hm9) hc9)
        have HRW2 := Lib.hid (show ∀ j, j < i + 1 → rowA F j < (L.length : Int) from fun j hj => by
          by_cases e : j = i
          · rw [e, HRA.out, HX.out]; omega
          · exact HRW1.out j (by omega))
        clear hm9 hc9 hs9
        go_wp2_with fail
        go_roundw
        case rel => exact ⟨i + 1, oa, on, oc, by omega, by omega, by go_num, (by first | rfl | rw [eal, enl]), HRN, HRW2⟩
        case measure => simp [intOf] <;> omega
      | some kb =>
        rw [hb] at hlk
        have hlk : (Instr.lookup 98 (.map (some mb)) (.int .i64 (rtL F i : Int)) true).run Try.prog W2 = .ok (.tuple #[.int .i64 (kb.val : Int), .bool true]) W2 := hlk
        obtain rfl : r = (k.val : Int) := HRA.out.symm.trans HK.out
        obtain ⟨gx, ox, rfl, hgx, _⟩ := HXW.out.l.get kb.isLt
        have HRX := Lib.hid (show ∀ w', Below W2.heap.size W2 w' → ∀ z : Fin L.length, w'.rangeAt gx (ox + z.val * 83) L[z].cells from fun w' hw' z => by
          obtain ⟨g', o', e, hg', hr'⟩ := HXW.out.l.get z.isLt
          cases e
          exact range_below hr' hg' (HRC3.out.base.trans (hw'.mono HRC3.out.base.size)))
        have HCX := Lib.hid (show ∀ w', Below W2.heap.size W2 w' → w'.cell? ⟨bx, 0, none⟩ = some (.slice (some ⟨gx, ox, none⟩) X xc) ∧ w'.cell? ⟨B6, 32, none⟩ = some (.int .i64 (k.val : Int)) from fun w' hw' => by
          refine ⟨(HRC3.out.below hw').cells.1, ?_⟩
          have h9 := node_cells ((hw'.block _ (Array.getElem?_eq_some_iff.1 HXI.out).1).trans HXI.out)
          rw [HNR.out] at h9
          exact h9.1)
        have hxI : (kb.val : Int) < (X : Int) := by have := kb.isLt; have := HX.out; omega
        have hyI : (k.val : Int) < (X : Int) := by have := k.isLt; have := HX.out; omega
        have hx0 : (0 : Int) ≤ (kb.val : Int) := by omega
        have hy0 : (0 : Int) ≤ (k.val : Int) := by omega
        obtain ⟨cv, hcv⟩ : ∃ cv, cmpT L[kb].tw L[k].tw = cv := ⟨_, rfl⟩
        have HCV := Lib.hid hcv
        clear hcv
        by_cases hlt0 : cv < 0
        case pos =>
          go_wp2_with fail
          refine wp_region_noPanic ?_
          refine wp_region_H (Below W2.heap.size W2) (by kernel_rfl) ?_
          have hS0 : (Below W2.heap.size W2) W2.drew := (Below.refl _ _).drew
          obtain ⟨wd, hwd⟩ : ∃ wd, W2.drew = wd := ⟨_, rfl⟩
          rw [hwd] at hS0  ⊢
          clear hwd
          refine wpAnyH_takeI (i := 0) (v := ?v5) rfl (by kernel_rfl) (by kernel_rfl) (by kernel_rfl) (fun _ _ _ h => h) (yieldsIf_run rfl (fun w' hw' => ?y5)) hS0 ?_
          case y5 => first | (go_simp; rfl) | (go_simp; done) | rfl
          simp only [Act.put, List.setIfInBounds_toArray, List.set_cons_zero, List.set_cons_succ]
          refine wpAnyH_takeI (i := 1) (v := ?v6) rfl (by kernel_rfl) (by kernel_rfl) (by kernel_rfl) (fun _ _ _ h => h) (yieldsIf_run rfl (fun w' hw' => ?y6)) hS0 ?_
          case y6 => first | (go_simp; rfl) | (go_simp; done) | rfl
          simp only [Act.put, List.setIfInBounds_toArray, List.set_cons_zero, List.set_cons_succ]
          refine wpAnyH_takeI (i := 2) (v := ?v7) rfl (by kernel_rfl) (by kernel_rfl) (by kernel_rfl) (fun _ _ _ h => h) (yieldsIf_run rfl (fun w' hw' => ?y7)) hS0 ?_
          case y7 => first | (go_simp; rfl) | (go_simp; done) | rfl
          simp only [Act.put, List.setIfInBounds_toArray, List.set_cons_zero, List.set_cons_succ]
          refine wpAnyH_takeI (i := 3) (v := ?v8) rfl (by kernel_rfl) (by kernel_rfl) (by kernel_rfl) (fun _ _ _ h => h) (yieldsIf_want rfl (fun w' hw' => ?y8)) hS0 ?_
          case y8 => (obtain ⟨h1, h2⟩ := HCX.out w' hw'; clear hw'; first | (go_simp; rfl) | (go_simp; done))
          simp only [Act.put, List.setIfInBounds_toArray, List.set_cons_zero, List.set_cons_succ]
          refine wpAnyH_takeI (i := 4) (v := ?v9) rfl (by kernel_rfl) (by kernel_rfl) (by kernel_rfl) (fun _ _ _ h => h) (yieldsIf_want rfl (fun w' hw' => ?y9)) hS0 ?_
          case y9 => first | (go_simp; rfl) | (go_simp; done) | rfl
          simp only [Act.put, List.setIfInBounds_toArray, List.set_cons_zero, List.set_cons_succ]
          refine wpAnyH_takeI (i := 5) (v := ?v10) rfl (by kernel_rfl) (by kernel_rfl) (by kernel_rfl) (fun _ _ _ h => h) (yieldsIf_want rfl (fun w' hw' => ?y10)) hS0 ?_
          case y10 => first | (go_simp; rfl) | (go_simp; done) | rfl
          simp only [Act.put, List.setIfInBounds_toArray, List.set_cons_zero, List.set_cons_succ]
          refine wpAnyH_takeI (i := 6) (v := .agg (L[kb].cells).toArray) rfl (by kernel_rfl) (by kernel_rfl) (by kernel_rfl) (fun _ _ _ h => h) (yieldsIf_load_mid rfl 43 (.tmp 59) rfl gx (ox + kb.val * 83) rfl (L[kb].cells) _ (fun w' hw' => HRX.out w' hw' kb) Try.underlying43 rfl (sizeRow L[kb])) hS0 ?_
          simp only [Act.put, List.setIfInBounds_toArray, List.set_cons_zero, List.set_cons_succ]
          refine wpAnyH_takeI (i := 7) (v := ?v11) rfl (by kernel_rfl) (by kernel_rfl) (by kernel_rfl) (fun _ _ _ h => h) (yieldsIf_want rfl (fun w' hw' => ?y11)) hS0 ?_
          case y11 => (obtain ⟨h1, h2⟩ := HCX.out w' hw'; clear hw'; first | (go_simp; rfl) | (go_simp; done))
          simp only [Act.put, List.setIfInBounds_toArray, List.set_cons_zero, List.set_cons_succ]
          refine wpAnyH_takeI (i := 8) (v := ?v12) rfl (by kernel_rfl) (by kernel_rfl) (by kernel_rfl) (fun _ _ _ h => h) (yieldsIf_want rfl (fun w' hw' => ?y12)) hS0 ?_
          case y12 => first | (go_simp; rfl) | (go_simp; done) | rfl
          simp only [Act.put, List.setIfInBounds_toArray, List.set_cons_zero, List.set_cons_succ]
          refine wpAnyH_takeI (i := 9) (v := ?v13) rfl (by kernel_rfl) (by kernel_rfl) (by kernel_rfl) (fun _ _ _ h => h) (yieldsIf_want rfl (fun w' hw' => ?y13)) hS0 ?_
          case y13 => (obtain ⟨h1, h2⟩ := HCX.out w' hw'; clear hw'; first | (go_simp; rfl) | (go_simp; done))
          simp only [Act.put, List.setIfInBounds_toArray, List.set_cons_zero, List.set_cons_succ]
          refine wpAnyH_takeI (i := 10) (v := ?v14) rfl (by kernel_rfl) (by kernel_rfl) (by kernel_rfl) (fun _ _ _ h => h) (yieldsIf_want rfl (fun w' hw' => ?y14)) hS0 ?_
          case y14 => first | (go_simp; rfl) | (go_simp; done) | rfl
          simp only [Act.put, List.setIfInBounds_toArray, List.set_cons_zero, List.set_cons_succ]
          refine wpAnyH_takeI (i := 11) (v := .agg (L[k].cells).toArray) rfl (by kernel_rfl) (by kernel_rfl) (by kernel_rfl) (fun _ _ _ h => h) (yieldsIf_load_mid rfl 43 (.tmp 64) rfl gx (ox + k.val * 83) rfl (L[k].cells) _ (fun w' hw' => HRX.out w' hw' k) Try.underlying43 rfl (sizeRow L[k])) hS0 ?_
          simp only [Act.put, List.setIfInBounds_toArray, List.set_cons_zero, List.set_cons_succ]
          refine wpAnyH_want (i := 12) (by kernel_rfl) rfl rfl (fun K hK => ?_)
          go_simp
          go_at_call 25
          refine (cmpRow L[kb] L[k] _).mono ?_
          rintro e we ⟨rfl, q9, os9, hwe⟩
          obtain ⟨V12, hWn⟩ : ∃ V12, we = V12 := ⟨_, rfl⟩
          have hb9 := grow_below wd q9 os9
          rw [← hwe, hWn] at hb9
          rw [hWn, HCV.out]
          have hsV12 := hS0.trans (hb9.mono hS0.size)
          clear hb9 hWn hwe
          refine hK _ _ (hsV12) ?_
          clear hK K
          try simp only [Act.put, List.setIfInBounds_toArray, List.set_cons_zero, List.set_cons_succ]
          refine wpAnyH_takeI (i := 13) (v := ?v15) rfl (by kernel_rfl) (by kernel_rfl) (by kernel_rfl) (fun _ _ _ h => h) (yieldsIf_want rfl (fun w' hw' => ?y15)) hsV12 ?_
          case y15 => first | (go_simp; rfl) | (go_simp; done) | rfl
          simp only [Act.put, List.setIfInBounds_toArray, List.set_cons_zero, List.set_cons_succ]
          refine wpAnyH_takeI (i := 14) (v := ?v16) rfl (by kernel_rfl) (by kernel_rfl) (by kernel_rfl) (fun _ _ _ h => h) (yieldsIf_run rfl (fun w' hw' => ?y16)) hsV12 ?_
          case y16 => first | (go_simp; rfl) | (go_simp; done) | rfl
          simp only [Act.put, List.setIfInBounds_toArray, List.set_cons_zero, List.set_cons_succ]
          refine wpAnyH_done (by kernel_rfl) ?_ _
          refine NoPanic.normal ?_
          have HRD := Lib.hid (HRC3.out.below hsV12)
          have HXD := Lib.hid ((hsV12.block _ (Array.getElem?_eq_some_iff.1 HXI.out).1).trans HXI.out)
          obtain ⟨hv1, _⟩ := node_cells HXD.out
          rw [HNR.out] at hv1
          have hvm := HRD.out.cells.2
          clear hq1 hq2 hcm hcl hlk
          go_wp2_with (refine wpList_updV HRD.out.map rfl rfl 98 Try.underlying98 (.tmp 69) (.tmp 70) (.tmp 72) rfl rfl ⟨rtL F i, hrl⟩ rfl (.int .i64 (k.val : Int)) rfl ?_; refine Stop.on ?_)
          refine Stop.go ?_
          try simp only [Act.put, List.setIfInBounds_toArray, List.set_cons_zero, List.set_cons_succ]
          intro W9 hm9 hc9 hs9
          try simp only [Act.put, List.setIfInBounds_toArray, List.set_cons_zero, List.set_cons_succ]
          have HRN := Lib.hid (HRD.out.upd ⟨rtL F i, hrl⟩ k rfl HK.out (by show betL L (bsL F L (rtL F i) i) k = some k; rw [hb]; show (if cmpT L[kb].tw L[k].tw < 0 then some k else some kb) = some k; rw [HCV.out, if_pos hlt0]) hm9 hc9)
          have HRW2 := Lib.hid (show ∀ j, j < i + 1 → rowA F j < (L.length : Int) from fun j hj => by
            by_cases e : j = i
            · rw [e, HRA.out]; have := k.isLt; omega
            · exact HRW1.out j (by omega))
          go_wp2_with fail
          go_roundw
          case rel => exact ⟨i + 1, oa, on, oc, by omega, by omega, by go_num, (by first | rfl | rw [eal, enl]), HRN, HRW2⟩
          case measure => simp [intOf] <;> omega
        case neg =>
          go_wp2_with fail
          refine wp_region_noPanic ?_
          refine wp_region_H (Below W2.heap.size W2) (by kernel_rfl) ?_
          have hS0 : (Below W2.heap.size W2) W2.drew := (Below.refl _ _).drew
          obtain ⟨wd, hwd⟩ : ∃ wd, W2.drew = wd := ⟨_, rfl⟩
          rw [hwd] at hS0  ⊢
          clear hwd
          refine wpAnyH_takeI (i := 0) (v := ?v17) rfl (by kernel_rfl) (by kernel_rfl) (by kernel_rfl) (fun _ _ _ h => h) (yieldsIf_run rfl (fun w' hw' => ?y17)) hS0 ?_
          case y17 => first | (go_simp; rfl) | (go_simp; done) | rfl
          simp only [Act.put, List.setIfInBounds_toArray, List.set_cons_zero, List.set_cons_succ]
          refine wpAnyH_takeI (i := 1) (v := ?v18) rfl (by kernel_rfl) (by kernel_rfl) (by kernel_rfl) (fun _ _ _ h => h) (yieldsIf_run rfl (fun w' hw' => ?y18)) hS0 ?_
          case y18 => first | (go_simp; rfl) | (go_simp; done) | rfl
          simp only [Act.put, List.setIfInBounds_toArray, List.set_cons_zero, List.set_cons_succ]
          refine wpAnyH_takeI (i := 2) (v := ?v19) rfl (by kernel_rfl) (by kernel_rfl) (by kernel_rfl) (fun _ _ _ h => h) (yieldsIf_run rfl (fun w' hw' => ?y19)) hS0 ?_
          case y19 => first | (go_simp; rfl) | (go_simp; done) | rfl
          simp only [Act.put, List.setIfInBounds_toArray, List.set_cons_zero, List.set_cons_succ]
          refine wpAnyH_takeI (i := 3) (v := ?v20) rfl (by kernel_rfl) (by kernel_rfl) (by kernel_rfl) (fun _ _ _ h => h) (yieldsIf_want rfl (fun w' hw' => ?y20)) hS0 ?_
          case y20 => (obtain ⟨h1, h2⟩ := HCX.out w' hw'; clear hw'; first | (go_simp; rfl) | (go_simp; done))
          simp only [Act.put, List.setIfInBounds_toArray, List.set_cons_zero, List.set_cons_succ]
          refine wpAnyH_takeI (i := 4) (v := ?v21) rfl (by kernel_rfl) (by kernel_rfl) (by kernel_rfl) (fun _ _ _ h => h) (yieldsIf_want rfl (fun w' hw' => ?y21)) hS0 ?_
          case y21 => first | (go_simp; rfl) | (go_simp; done) | rfl
          simp only [Act.put, List.setIfInBounds_toArray, List.set_cons_zero, List.set_cons_succ]
          refine wpAnyH_takeI (i := 5) (v := ?v22) rfl (by kernel_rfl) (by kernel_rfl) (by kernel_rfl) (fun _ _ _ h => h) (yieldsIf_want rfl (fun w' hw' => ?y22)) hS0 ?_
          case y22 => first | (go_simp; rfl) | (go_simp; done) | rfl
          simp only [Act.put, List.setIfInBounds_toArray, List.set_cons_zero, List.set_cons_succ]
          refine wpAnyH_takeI (i := 6) (v := .agg (L[kb].cells).toArray) rfl (by kernel_rfl) (by kernel_rfl) (by kernel_rfl) (fun _ _ _ h => h) (yieldsIf_load_mid rfl 43 (.tmp 59) rfl gx (ox + kb.val * 83) rfl (L[kb].cells) _ (fun w' hw' => HRX.out w' hw' kb) Try.underlying43 rfl (sizeRow L[kb])) hS0 ?_
          simp only [Act.put, List.setIfInBounds_toArray, List.set_cons_zero, List.set_cons_succ]
          refine wpAnyH_takeI (i := 7) (v := ?v23) rfl (by kernel_rfl) (by kernel_rfl) (by kernel_rfl) (fun _ _ _ h => h) (yieldsIf_want rfl (fun w' hw' => ?y23)) hS0 ?_
          case y23 => (obtain ⟨h1, h2⟩ := HCX.out w' hw'; clear hw'; first | (go_simp; rfl) | (go_simp; done))
          simp only [Act.put, List.setIfInBounds_toArray, List.set_cons_zero, List.set_cons_succ]
          refine wpAnyH_takeI (i := 8) (v := ?v24) rfl (by kernel_rfl) (by kernel_rfl) (by kernel_rfl) (fun _ _ _ h => h) (yieldsIf_want rfl (fun w' hw' => ?y24)) hS0 ?_
          case y24 => first | (go_simp; rfl) | (go_simp; done) | rfl
          simp only [Act.put, List.setIfInBounds_toArray, List.set_cons_zero, List.set_cons_succ]
          refine wpAnyH_takeI (i := 9) (v := ?v25) rfl (by kernel_rfl) (by kernel_rfl) (by kernel_rfl) (fun _ _ _ h => h) (yieldsIf_want rfl (fun w' hw' => ?y25)) hS0 ?_
          case y25 => (obtain ⟨h1, h2⟩ := HCX.out w' hw'; clear hw'; first | (go_simp; rfl) | (go_simp; done))
          simp only [Act.put, List.setIfInBounds_toArray, List.set_cons_zero, List.set_cons_succ]
          refine wpAnyH_takeI (i := 10) (v := ?v26) rfl (by kernel_rfl) (by kernel_rfl) (by kernel_rfl) (fun _ _ _ h => h) (yieldsIf_want rfl (fun w' hw' => ?y26)) hS0 ?_
          case y26 => first | (go_simp; rfl) | (go_simp; done) | rfl
          simp only [Act.put, List.setIfInBounds_toArray, List.set_cons_zero, List.set_cons_succ]
          refine wpAnyH_takeI (i := 11) (v := .agg (L[k].cells).toArray) rfl (by kernel_rfl) (by kernel_rfl) (by kernel_rfl) (fun _ _ _ h => h) (yieldsIf_load_mid rfl 43 (.tmp 64) rfl gx (ox + k.val * 83) rfl (L[k].cells) _ (fun w' hw' => HRX.out w' hw' k) Try.underlying43 rfl (sizeRow L[k])) hS0 ?_
          simp only [Act.put, List.setIfInBounds_toArray, List.set_cons_zero, List.set_cons_succ]
          refine wpAnyH_want (i := 12) (by kernel_rfl) rfl rfl (fun K hK => ?_)
          go_simp
          go_at_call 25
          refine (cmpRow L[kb] L[k] _).mono ?_
          rintro e we ⟨rfl, q9, os9, hwe⟩
          obtain ⟨V12, hWn⟩ : ∃ V12, we = V12 := ⟨_, rfl⟩
          have hb9 := grow_below wd q9 os9
          rw [← hwe, hWn] at hb9
          rw [hWn, HCV.out]
          have hsV12 := hS0.trans (hb9.mono hS0.size)
          clear hb9 hWn hwe
          refine hK _ _ (hsV12) ?_
          clear hK K
          try simp only [Act.put, List.setIfInBounds_toArray, List.set_cons_zero, List.set_cons_succ]
          refine wpAnyH_takeI (i := 13) (v := ?v27) rfl (by kernel_rfl) (by kernel_rfl) (by kernel_rfl) (fun _ _ _ h => h) (yieldsIf_want rfl (fun w' hw' => ?y27)) hsV12 ?_
          case y27 => first | (go_simp; rfl) | (go_simp; done) | rfl
          simp only [Act.put, List.setIfInBounds_toArray, List.set_cons_zero, List.set_cons_succ]
          refine wpAnyH_takeI (i := 14) (v := ?v28) rfl (by kernel_rfl) (by kernel_rfl) (by kernel_rfl) (fun _ _ _ h => h) (yieldsIf_run rfl (fun w' hw' => ?y28)) hsV12 ?_
          case y28 => first | (go_simp; rfl) | (go_simp; done) | rfl
          simp only [Act.put, List.setIfInBounds_toArray, List.set_cons_zero, List.set_cons_succ]
          refine wpAnyH_done (by kernel_rfl) ?_ _
          refine NoPanic.normal ?_
          have HRD := Lib.hid (HRC3.out.below hsV12)
          have HXD := Lib.hid ((hsV12.block _ (Array.getElem?_eq_some_iff.1 HXI.out).1).trans HXI.out)
          obtain ⟨hv1, _⟩ := node_cells HXD.out
          rw [HNR.out] at hv1
          have hvm := HRD.out.cells.2
          clear hq1 hq2 hcm hcl hlk
          have HRN := Lib.hid (HRD.out.keep k HK.out (by rw [hb]; show (if cmpT L[kb].tw L[k].tw < 0 then some k else some kb) = some kb; rw [HCV.out, if_neg (by omega)]))
          have HRW2 := Lib.hid (show ∀ j, j < i + 1 → rowA F j < (L.length : Int) from fun j hj => by
            by_cases e : j = i
            · rw [e, HRA.out]; have := k.isLt; omega
            · exact HRW1.out j (by omega))
          go_wp2_with fail
          go_roundw
          case rel => exact ⟨i + 1, oa, on, oc, by omega, by omega, by go_num, (by first | rfl | rw [eal, enl]), HRN, HRW2⟩
          case measure => simp [intOf] <;> omega
    subst hqp
    have hd : ((-1 : Int) == -1) = true := by decide
    go_wp2_with (refine wpList_litN rfl (some 37) rfl (.tmp 36) rfl i rfl ?_; refine Stop.on ?_)
    refine Stop.go ?_
    try simp only [Act.put, List.setIfInBounds_toArray, List.set_cons_zero, List.set_cons_succ]
    intro Wl xl bl sl
    try simp only [Act.put, List.setIfInBounds_toArray, List.set_cons_zero, List.set_cons_succ]
    have HLL := Lib.hid xl.at_
    have HRCl := Lib.hid (HRC2.out.below bl)
    have HXl := Lib.hid ((bl.block _ (Array.getElem?_eq_some_iff.1 HXI.out).1).trans HXI.out)
    clear xl bl sl
    go_wp2_with (refine wpList_appL natE rfl (.tmp 35) (.tmp 37) rfl rfl HRCl.out.own rfl HLL.out (n := on) (m := 1) HLEN.out rfl (by omega) HRCl.out.h4 ?_; refine Stop.on ?_)
    refine Stop.go ?_
    try simp only [Act.put, List.setIfInBounds_toArray, List.set_cons_zero, List.set_cons_succ]
    intro a5 c5 W5 ho5 hg5 hat5
    try simp only [Act.put, List.setIfInBounds_toArray, List.set_cons_zero, List.set_cons_succ]
    have HRC5 := Lib.hid (HRCl.out.app (ov' := .slice a5 (on + 1) c5) (HRCl.out.own.grown_below hg5 HRCl.out.h4) (by rw [HNX.out, HPA.out, if_pos rfl]; exact ho5))
    have HX5 := Lib.hid (((OwnL.grown_chg hg5).block B6 (Array.getElem?_eq_some_iff.1 HXl.out).1 (fun e => by have := HKB.out _ e; omega)).trans HXl.out)
    have hn3 : on + 1 ≤ i + 1 := by omega
    clear hg5 hat5 ho5 HRCl HXl HLL HRC2 HNC HXI hq1 hq2
    obtain ⟨hq1, hq2⟩ := node_cells HX5.out
    rw [HNR.out] at hq1
    by_cases hr1 : r = -1
    case pos =>
      have hd2 : (r == -1) = true := by simp [hr1]
      have HRN := Lib.hid (HRC5.out.same (fun t => bs_none (by rw [HRA.out, hr1]; decide) t))
      have HRW2 := Lib.hid (show ∀ j, j < i + 1 → rowA F j < (L.length : Int) from fun j hj => by
        by_cases e : j = i
        · rw [e, HRA.out, HX.out]; omega
        · exact HRW1.out j (by omega))
      go_wp2_with fail
      go_roundw
      case rel => exact ⟨i + 1, a5, (on + 1), c5, by omega, by omega, by go_num, rfl, HRN, HRW2⟩
      case measure => simp [intOf] <;> omega
    have hd2 : (r == -1) = false := by simp [hr1]
    obtain ⟨gl, ol, m, eal, enl, hcl⟩ := last_cell HRC5.out.own (rt_below HZ.out i hiF)
    have hcm := HRC5.out.cells.2
    have zI : ∀ w, (zeroValue 3).run Try.prog w = .ok (.int .i64 0) w := fun w => by kernel_rfl
    have hrl : rtL F i < N := by have := rt_le F i; omega
    have hlk := HRC5.out.map.look Try.underlying98 zI ⟨rtL F i, hrl⟩ true
    rw [if_pos rfl] at hlk
    unfold lsF at hlk
    dsimp only at hlk
    obtain ⟨k, hk⟩ : ∃ k : Fin L.length, rowA F i = (k.val : Int) := ⟨⟨r.toNat, by rw [HX.out]; have := HRL.out; omega⟩, by rw [HRA.out]; show r = ((r.toNat : Nat) : Int); have := HRL.out; omega⟩
    have HK := Lib.hid hk
    clear hk zI
    cases hb : bsL F L (rtL F i) i with
    | none =>
      rw [hb] at hlk
      have hlk : (Instr.lookup 98 (.map (some mb)) (.int .i64 (rtL F i : Int)) true).run Try.prog W5 = .ok (.tuple #[.int .i64 0, .bool false]) W5 := hlk
      go_wp2_with fail
      refine wp_region_noPanic ?_
      refine wp_region_H (Below W5.heap.size W5) (by kernel_rfl) ?_
      have hS0 : (Below W5.heap.size W5) W5.drew := (Below.refl _ _).drew
      obtain ⟨wd, hwd⟩ : ∃ wd, W5.drew = wd := ⟨_, rfl⟩
      rw [hwd] at hS0  ⊢
      clear hwd
      refine wpAnyH_takeI (i := 0) (v := ?v29) rfl (by kernel_rfl) (by kernel_rfl) (by kernel_rfl) (fun _ _ _ h => h) (yieldsIf_run rfl (fun w' hw' => ?y29)) hS0 ?_
      case y29 => first | (go_simp; rfl) | (go_simp; done) | rfl
      simp only [Act.put, List.setIfInBounds_toArray, List.set_cons_zero, List.set_cons_succ]
      refine wpAnyH_takeI (i := 1) (v := ?v30) rfl (by kernel_rfl) (by kernel_rfl) (by kernel_rfl) (fun _ _ _ h => h) (yieldsIf_run rfl (fun w' hw' => ?y30)) hS0 ?_
      case y30 => first | (go_simp; rfl) | (go_simp; done) | rfl
      simp only [Act.put, List.setIfInBounds_toArray, List.set_cons_zero, List.set_cons_succ]
      refine wpAnyH_takeI (i := 2) (v := ?v31) rfl (by kernel_rfl) (by kernel_rfl) (by kernel_rfl) (fun _ _ _ h => h) (yieldsIf_run rfl (fun w' hw' => ?y31)) hS0 ?_
      case y31 => first | (go_simp; rfl) | (go_simp; done) | rfl
      simp only [Act.put, List.setIfInBounds_toArray, List.set_cons_zero, List.set_cons_succ]
      refine wpAnyH_takeI (i := 3) (v := undef) rfl (by kernel_rfl) (by kernel_rfl) (by kernel_rfl) (fun _ _ _ h => h) (yieldsIf_skip rfl) hS0 ?_
      simp only [Act.put, List.setIfInBounds_toArray, List.set_cons_zero, List.set_cons_succ]
      refine wpAnyH_takeI (i := 4) (v := undef) rfl (by kernel_rfl) (by kernel_rfl) (by kernel_rfl) (fun _ _ _ h => h) (yieldsIf_skip rfl) hS0 ?_
      simp only [Act.put, List.setIfInBounds_toArray, List.set_cons_zero, List.set_cons_succ]
      refine wpAnyH_takeI (i := 5) (v := undef) rfl (by kernel_rfl) (by kernel_rfl) (by kernel_rfl) (fun _ _ _ h => h) (yieldsIf_skip rfl) hS0 ?_
      simp only [Act.put, List.setIfInBounds_toArray, List.set_cons_zero, List.set_cons_succ]
      refine wpAnyH_takeI (i := 6) (v := undef) rfl (by kernel_rfl) (by kernel_rfl) (by kernel_rfl) (fun _ _ _ h => h) (yieldsIf_skip rfl) hS0 ?_
      simp only [Act.put, List.setIfInBounds_toArray, List.set_cons_zero, List.set_cons_succ]
      refine wpAnyH_takeI (i := 7) (v := undef) rfl (by kernel_rfl) (by kernel_rfl) (by kernel_rfl) (fun _ _ _ h => h) (yieldsIf_skip rfl) hS0 ?_
      simp only [Act.put, List.setIfInBounds_toArray, List.set_cons_zero, List.set_cons_succ]
      refine wpAnyH_takeI (i := 8) (v := undef) rfl (by kernel_rfl) (by kernel_rfl) (by kernel_rfl) (fun _ _ _ h => h) (yieldsIf_skip rfl) hS0 ?_
      simp only [Act.put, List.setIfInBounds_toArray, List.set_cons_zero, List.set_cons_succ]
      refine wpAnyH_takeI (i := 9) (v := undef) rfl (by kernel_rfl) (by kernel_rfl) (by kernel_rfl) (fun _ _ _ h => h) (yieldsIf_skip rfl) hS0 ?_
      simp only [Act.put, List.setIfInBounds_toArray, List.set_cons_zero, List.set_cons_succ]
      refine wpAnyH_takeI (i := 10) (v := undef) rfl (by kernel_rfl) (by kernel_rfl) (by kernel_rfl) (fun _ _ _ h => h) (yieldsIf_skip rfl) hS0 ?_
      simp only [Act.put, List.setIfInBounds_toArray, List.set_cons_zero, List.set_cons_succ]
      refine wpAnyH_takeI (i := 11) (v := undef) rfl (by kernel_rfl) (by kernel_rfl) (by kernel_rfl) (fun _ _ _ h => h) (yieldsIf_skip rfl) hS0 ?_
      simp only [Act.put, List.setIfInBounds_toArray, List.set_cons_zero, List.set_cons_succ]
      refine wpAnyH_takeI (i := 12) (v := undef) rfl (by kernel_rfl) (by kernel_rfl) (by kernel_rfl) (fun _ _ _ h => h) (yieldsIf_skip rfl) hS0 ?_
      simp only [Act.put, List.setIfInBounds_toArray, List.set_cons_zero, List.set_cons_succ]
      refine wpAnyH_takeI (i := 13) (v := undef) rfl (by kernel_rfl) (by kernel_rfl) (by kernel_rfl) (fun _ _ _ h => h) (yieldsIf_skip rfl) hS0 ?_
      simp only [Act.put, List.setIfInBounds_toArray, List.set_cons_zero, List.set_cons_succ]
      refine wpAnyH_takeI (i := 14) (v := ?v32) rfl (by kernel_rfl) (by kernel_rfl) (by kernel_rfl) (fun _ _ _ h => h) (yieldsIf_run rfl (fun w' hw' => ?y32)) hS0 ?_
      case y32 => first | (go_simp; rfl) | (go_simp; done) | rfl
      simp only [Act.put, List.setIfInBounds_toArray, List.set_cons_zero, List.set_cons_succ]
      refine wpAnyH_done (by kernel_rfl) ?_ _
      refine NoPanic.normal ?_
      have HRD := Lib.hid (HRC5.out.below hS0)
      have HXD := Lib.hid ((hS0.block _ (Array.getElem?_eq_some_iff.1 HX5.out).1).trans HX5.out)
      obtain ⟨hv1, _⟩ := node_cells HXD.out
      rw [HNR.out] at hv1
      have hvm := HRD.out.cells.2
      clear hq1 hq2 hcm hcl hlk
      go_wp2_with (refine wpList_updV HRD.out.map rfl rfl 98 Try.underlying98 (.tmp 69) (.tmp 70) (.tmp 72) rfl rfl ⟨rtL F i, hrl⟩ rfl (.int .i64 r) rfl ?_; refine Stop.on ?_)
      refine Stop.go ?_
      try simp only [Act.put, List.setIfInBounds_toArray, List.set_cons_zero, List.set_cons_succ]
      intro W9 hm9 hc9 hs9
      try simp only [Act.put, List.setIfInBounds_toArray, List.set_cons_zero, List.set_cons_succ]
      have HRN := Lib.hid (HRD.out.upd ⟨rtL F i, hrl⟩ k rfl HK.out (by rw [hb]; rfl) (by rw [← HK.out, HRA.out]; exact hm9) hc9)
      have HRW2 := Lib.hid (show ∀ j, j < i + 1 → rowA F j < (L.length : Int) from fun j hj => by
        by_cases e : j = i
        · rw [e, HRA.out, HX.out]; omega
        · exact HRW1.out j (by omega))
      clear hm9 hc9 hs9
      go_wp2_with fail
      go_roundw
      case rel => exact ⟨i + 1, a5, (on + 1), c5, by omega, by omega, by go_num, (by first | rfl | rw [eal, enl]), HRN, HRW2⟩
      case measure => simp [intOf] <;> omega
    | some kb =>
      rw [hb] at hlk
      have hlk : (Instr.lookup 98 (.map (some mb)) (.int .i64 (rtL F i : Int)) true).run Try.prog W5 = .ok (.tuple #[.int .i64 (kb.val : Int), .bool true]) W5 := hlk
      obtain rfl : r = (k.val : Int) := HRA.out.symm.trans HK.out
      obtain ⟨gx, ox, rfl, hgx, _⟩ := HXW.out.l.get kb.isLt
      have HRX := Lib.hid (show ∀ w', Below W5.heap.size W5 w' → ∀ z : Fin L.length, w'.rangeAt gx (ox + z.val * 83) L[z].cells from fun w' hw' z => by
        obtain ⟨g', o', e, hg', hr'⟩ := HXW.out.l.get z.isLt
        cases e
        exact range_below hr' hg' (HRC5.out.base.trans (hw'.mono HRC5.out.base.size)))
      have HCX := Lib.hid (show ∀ w', Below W5.heap.size W5 w' → w'.cell? ⟨bx, 0, none⟩ = some (.slice (some ⟨gx, ox, none⟩) X xc) ∧ w'.cell? ⟨B6, 32, none⟩ = some (.int .i64 (k.val : Int)) from fun w' hw' => by
        refine ⟨(HRC5.out.below hw').cells.1, ?_⟩
        have h9 := node_cells ((hw'.block _ (Array.getElem?_eq_some_iff.1 HX5.out).1).trans HX5.out)
        rw [HNR.out] at h9
        exact h9.1)
      have hxI : (kb.val : Int) < (X : Int) := by have := kb.isLt; have := HX.out; omega
      have hyI : (k.val : Int) < (X : Int) := by have := k.isLt; have := HX.out; omega
      have hx0 : (0 : Int) ≤ (kb.val : Int) := by omega
      have hy0 : (0 : Int) ≤ (k.val : Int) := by omega
      obtain ⟨cv, hcv⟩ : ∃ cv, cmpT L[kb].tw L[k].tw = cv := ⟨_, rfl⟩
      have HCV := Lib.hid hcv
      clear hcv
      by_cases hlt0 : cv < 0
      case pos =>
        go_wp2_with fail
        refine wp_region_noPanic ?_
        refine wp_region_H (Below W5.heap.size W5) (by kernel_rfl) ?_
        have hS0 : (Below W5.heap.size W5) W5.drew := (Below.refl _ _).drew
        obtain ⟨wd, hwd⟩ : ∃ wd, W5.drew = wd := ⟨_, rfl⟩
        rw [hwd] at hS0  ⊢
        clear hwd
        refine wpAnyH_takeI (i := 0) (v := ?v33) rfl (by kernel_rfl) (by kernel_rfl) (by kernel_rfl) (fun _ _ _ h => h) (yieldsIf_run rfl (fun w' hw' => ?y33)) hS0 ?_
        case y33 => first | (go_simp; rfl) | (go_simp; done) | rfl
        simp only [Act.put, List.setIfInBounds_toArray, List.set_cons_zero, List.set_cons_succ]
        refine wpAnyH_takeI (i := 1) (v := ?v34) rfl (by kernel_rfl) (by kernel_rfl) (by kernel_rfl) (fun _ _ _ h => h) (yieldsIf_run rfl (fun w' hw' => ?y34)) hS0 ?_
        case y34 => first | (go_simp; rfl) | (go_simp; done) | rfl
        simp only [Act.put, List.setIfInBounds_toArray, List.set_cons_zero, List.set_cons_succ]
        refine wpAnyH_takeI (i := 2) (v := ?v35) rfl (by kernel_rfl) (by kernel_rfl) (by kernel_rfl) (fun _ _ _ h => h) (yieldsIf_run rfl (fun w' hw' => ?y35)) hS0 ?_
        case y35 => first | (go_simp; rfl) | (go_simp; done) | rfl
        simp only [Act.put, List.setIfInBounds_toArray, List.set_cons_zero, List.set_cons_succ]
        refine wpAnyH_takeI (i := 3) (v := ?v36) rfl (by kernel_rfl) (by kernel_rfl) (by kernel_rfl) (fun _ _ _ h => h) (yieldsIf_want rfl (fun w' hw' => ?y36)) hS0 ?_
        case y36 => (obtain ⟨h1, h2⟩ := HCX.out w' hw'; clear hw'; first | (go_simp; rfl) | (go_simp; done))
        simp only [Act.put, List.setIfInBounds_toArray, List.set_cons_zero, List.set_cons_succ]
        refine wpAnyH_takeI (i := 4) (v := ?v37) rfl (by kernel_rfl) (by kernel_rfl) (by kernel_rfl) (fun _ _ _ h => h) (yieldsIf_want rfl (fun w' hw' => ?y37)) hS0 ?_
        case y37 => first | (go_simp; rfl) | (go_simp; done) | rfl
        simp only [Act.put, List.setIfInBounds_toArray, List.set_cons_zero, List.set_cons_succ]
        refine wpAnyH_takeI (i := 5) (v := ?v38) rfl (by kernel_rfl) (by kernel_rfl) (by kernel_rfl) (fun _ _ _ h => h) (yieldsIf_want rfl (fun w' hw' => ?y38)) hS0 ?_
        case y38 => first | (go_simp; rfl) | (go_simp; done) | rfl
        simp only [Act.put, List.setIfInBounds_toArray, List.set_cons_zero, List.set_cons_succ]
        refine wpAnyH_takeI (i := 6) (v := .agg (L[kb].cells).toArray) rfl (by kernel_rfl) (by kernel_rfl) (by kernel_rfl) (fun _ _ _ h => h) (yieldsIf_load_mid rfl 43 (.tmp 59) rfl gx (ox + kb.val * 83) rfl (L[kb].cells) _ (fun w' hw' => HRX.out w' hw' kb) Try.underlying43 rfl (sizeRow L[kb])) hS0 ?_
        simp only [Act.put, List.setIfInBounds_toArray, List.set_cons_zero, List.set_cons_succ]
        refine wpAnyH_takeI (i := 7) (v := ?v39) rfl (by kernel_rfl) (by kernel_rfl) (by kernel_rfl) (fun _ _ _ h => h) (yieldsIf_want rfl (fun w' hw' => ?y39)) hS0 ?_
        case y39 => (obtain ⟨h1, h2⟩ := HCX.out w' hw'; clear hw'; first | (go_simp; rfl) | (go_simp; done))
        simp only [Act.put, List.setIfInBounds_toArray, List.set_cons_zero, List.set_cons_succ]
        refine wpAnyH_takeI (i := 8) (v := ?v40) rfl (by kernel_rfl) (by kernel_rfl) (by kernel_rfl) (fun _ _ _ h => h) (yieldsIf_want rfl (fun w' hw' => ?y40)) hS0 ?_
        case y40 => first | (go_simp; rfl) | (go_simp; done) | rfl
        simp only [Act.put, List.setIfInBounds_toArray, List.set_cons_zero, List.set_cons_succ]
        refine wpAnyH_takeI (i := 9) (v := ?v41) rfl (by kernel_rfl) (by kernel_rfl) (by kernel_rfl) (fun _ _ _ h => h) (yieldsIf_want rfl (fun w' hw' => ?y41)) hS0 ?_
        case y41 => (obtain ⟨h1, h2⟩ := HCX.out w' hw'; clear hw'; first | (go_simp; rfl) | (go_simp; done))
        simp only [Act.put, List.setIfInBounds_toArray, List.set_cons_zero, List.set_cons_succ]
        refine wpAnyH_takeI (i := 10) (v := ?v42) rfl (by kernel_rfl) (by kernel_rfl) (by kernel_rfl) (fun _ _ _ h => h) (yieldsIf_want rfl (fun w' hw' => ?y42)) hS0 ?_
        case y42 => first | (go_simp; rfl) | (go_simp; done) | rfl
        simp only [Act.put, List.setIfInBounds_toArray, List.set_cons_zero, List.set_cons_succ]
        refine wpAnyH_takeI (i := 11) (v := .agg (L[k].cells).toArray) rfl (by kernel_rfl) (by kernel_rfl) (by kernel_rfl) (fun _ _ _ h => h) (yieldsIf_load_mid rfl 43 (.tmp 64) rfl gx (ox + k.val * 83) rfl (L[k].cells) _ (fun w' hw' => HRX.out w' hw' k) Try.underlying43 rfl (sizeRow L[k])) hS0 ?_
        simp only [Act.put, List.setIfInBounds_toArray, List.set_cons_zero, List.set_cons_succ]
        refine wpAnyH_want (i := 12) (by kernel_rfl) rfl rfl (fun K hK => ?_)
        go_simp
        go_at_call 25
        refine (cmpRow L[kb] L[k] _).mono ?_
        rintro e we ⟨rfl, q9, os9, hwe⟩
        obtain ⟨V12, hWn⟩ : ∃ V12, we = V12 := ⟨_, rfl⟩
        have hb9 := grow_below wd q9 os9
        rw [← hwe, hWn] at hb9
        rw [hWn, HCV.out]
        have hsV12 := hS0.trans (hb9.mono hS0.size)
        clear hb9 hWn hwe
        refine hK _ _ (hsV12) ?_
        clear hK K
        try simp only [Act.put, List.setIfInBounds_toArray, List.set_cons_zero, List.set_cons_succ]
        refine wpAnyH_takeI (i := 13) (v := ?v43) rfl (by kernel_rfl) (by kernel_rfl) (by kernel_rfl) (fun _ _ _ h => h) (yieldsIf_want rfl (fun w' hw' => ?y43)) hsV12 ?_
        case y43 => first | (go_simp; rfl) | (go_simp; done) | rfl
        simp only [Act.put, List.setIfInBounds_toArray, List.set_cons_zero, List.set_cons_succ]
        refine wpAnyH_takeI (i := 14) (v := ?v44) rfl (by kernel_rfl) (by kernel_rfl) (by kernel_rfl) (fun _ _ _ h => h) (yieldsIf_run rfl (fun w' hw' => ?y44)) hsV12 ?_
        case y44 => first | (go_simp; rfl) | (go_simp; done) | rfl
        simp only [Act.put, List.setIfInBounds_toArray, List.set_cons_zero, List.set_cons_succ]
        refine wpAnyH_done (by kernel_rfl) ?_ _
        refine NoPanic.normal ?_
        have HRD := Lib.hid (HRC5.out.below hsV12)
        have HXD := Lib.hid ((hsV12.block _ (Array.getElem?_eq_some_iff.1 HX5.out).1).trans HX5.out)
        obtain ⟨hv1, _⟩ := node_cells HXD.out
        rw [HNR.out] at hv1
        have hvm := HRD.out.cells.2
        clear hq1 hq2 hcm hcl hlk
        go_wp2_with (refine wpList_updV HRD.out.map rfl rfl 98 Try.underlying98 (.tmp 69) (.tmp 70) (.tmp 72) rfl rfl ⟨rtL F i, hrl⟩ rfl (.int .i64 (k.val : Int)) rfl ?_; refine Stop.on ?_)
        refine Stop.go ?_
        try simp only [Act.put, List.setIfInBounds_toArray, List.set_cons_zero, List.set_cons_succ]
        intro W9 hm9 hc9 hs9
        try simp only [Act.put, List.setIfInBounds_toArray, List.set_cons_zero, List.set_cons_succ]
        have HRN := Lib.hid (HRD.out.upd ⟨rtL F i, hrl⟩ k rfl HK.out (by show betL L (bsL F L (rtL F i) i) k = some k; rw [hb]; show (if cmpT L[kb].tw L[k].tw < 0 then some k else some kb) = some k; rw [HCV.out, if_pos hlt0]) hm9 hc9)
        have HRW2 := Lib.hid (show ∀ j, j < i + 1 → rowA F j < (L.length : Int) from fun j hj => by
          by_cases e : j = i
          · rw [e, HRA.out]; have := k.isLt; omega
          · exact HRW1.out j (by omega))
        go_wp2_with fail
        go_roundw
        case rel => exact ⟨i + 1, a5, (on + 1), c5, by omega, by omega, by go_num, (by first | rfl | rw [eal, enl]), HRN, HRW2⟩
        case measure => simp [intOf] <;> omega
      case neg =>
        go_wp2_with fail
        refine wp_region_noPanic ?_
        refine wp_region_H (Below W5.heap.size W5) (by kernel_rfl) ?_
        have hS0 : (Below W5.heap.size W5) W5.drew := (Below.refl _ _).drew
        obtain ⟨wd, hwd⟩ : ∃ wd, W5.drew = wd := ⟨_, rfl⟩
        rw [hwd] at hS0  ⊢
        clear hwd
        refine wpAnyH_takeI (i := 0) (v := ?v45) rfl (by kernel_rfl) (by kernel_rfl) (by kernel_rfl) (fun _ _ _ h => h) (yieldsIf_run rfl (fun w' hw' => ?y45)) hS0 ?_
        case y45 => first | (go_simp; rfl) | (go_simp; done) | rfl
        simp only [Act.put, List.setIfInBounds_toArray, List.set_cons_zero, List.set_cons_succ]
        refine wpAnyH_takeI (i := 1) (v := ?v46) rfl (by kernel_rfl) (by kernel_rfl) (by kernel_rfl) (fun _ _ _ h => h) (yieldsIf_run rfl (fun w' hw' => ?y46)) hS0 ?_
        case y46 => first | (go_simp; rfl) | (go_simp; done) | rfl
        simp only [Act.put, List.setIfInBounds_toArray, List.set_cons_zero, List.set_cons_succ]
        refine wpAnyH_takeI (i := 2) (v := ?v47) rfl (by kernel_rfl) (by kernel_rfl) (by kernel_rfl) (fun _ _ _ h => h) (yieldsIf_run rfl (fun w' hw' => ?y47)) hS0 ?_
        case y47 => first | (go_simp; rfl) | (go_simp; done) | rfl
        simp only [Act.put, List.setIfInBounds_toArray, List.set_cons_zero, List.set_cons_succ]
        refine wpAnyH_takeI (i := 3) (v := ?v48) rfl (by kernel_rfl) (by kernel_rfl) (by kernel_rfl) (fun _ _ _ h => h) (yieldsIf_want rfl (fun w' hw' => ?y48)) hS0 ?_
        case y48 => (obtain ⟨h1, h2⟩ := HCX.out w' hw'; clear hw'; first | (go_simp; rfl) | (go_simp; done))
        simp only [Act.put, List.setIfInBounds_toArray, List.set_cons_zero, List.set_cons_succ]
        refine wpAnyH_takeI (i := 4) (v := ?v49) rfl (by kernel_rfl) (by kernel_rfl) (by kernel_rfl) (fun _ _ _ h => h) (yieldsIf_want rfl (fun w' hw' => ?y49)) hS0 ?_
        case y49 => first | (go_simp; rfl) | (go_simp; done) | rfl
        simp only [Act.put, List.setIfInBounds_toArray, List.set_cons_zero, List.set_cons_succ]
        refine wpAnyH_takeI (i := 5) (v := ?v50) rfl (by kernel_rfl) (by kernel_rfl) (by kernel_rfl) (fun _ _ _ h => h) (yieldsIf_want rfl (fun w' hw' => ?y50)) hS0 ?_
        case y50 => first | (go_simp; rfl) | (go_simp; done) | rfl
        simp only [Act.put, List.setIfInBounds_toArray, List.set_cons_zero, List.set_cons_succ]
        refine wpAnyH_takeI (i := 6) (v := .agg (L[kb].cells).toArray) rfl (by kernel_rfl) (by kernel_rfl) (by kernel_rfl) (fun _ _ _ h => h) (yieldsIf_load_mid rfl 43 (.tmp 59) rfl gx (ox + kb.val * 83) rfl (L[kb].cells) _ (fun w' hw' => HRX.out w' hw' kb) Try.underlying43 rfl (sizeRow L[kb])) hS0 ?_
        simp only [Act.put, List.setIfInBounds_toArray, List.set_cons_zero, List.set_cons_succ]
        refine wpAnyH_takeI (i := 7) (v := ?v51) rfl (by kernel_rfl) (by kernel_rfl) (by kernel_rfl) (fun _ _ _ h => h) (yieldsIf_want rfl (fun w' hw' => ?y51)) hS0 ?_
        case y51 => (obtain ⟨h1, h2⟩ := HCX.out w' hw'; clear hw'; first | (go_simp; rfl) | (go_simp; done))
        simp only [Act.put, List.setIfInBounds_toArray, List.set_cons_zero, List.set_cons_succ]
        refine wpAnyH_takeI (i := 8) (v := ?v52) rfl (by kernel_rfl) (by kernel_rfl) (by kernel_rfl) (fun _ _ _ h => h) (yieldsIf_want rfl (fun w' hw' => ?y52)) hS0 ?_
        case y52 => first | (go_simp; rfl) | (go_simp; done) | rfl
        simp only [Act.put, List.setIfInBounds_toArray, List.set_cons_zero, List.set_cons_succ]
        refine wpAnyH_takeI (i := 9) (v := ?v53) rfl (by kernel_rfl) (by kernel_rfl) (by kernel_rfl) (fun _ _ _ h => h) (yieldsIf_want rfl (fun w' hw' => ?y53)) hS0 ?_
        case y53 => (obtain ⟨h1, h2⟩ := HCX.out w' hw'; clear hw'; first | (go_simp; rfl) | (go_simp; done))
        simp only [Act.put, List.setIfInBounds_toArray, List.set_cons_zero, List.set_cons_succ]
        refine wpAnyH_takeI (i := 10) (v := ?v54) rfl (by kernel_rfl) (by kernel_rfl) (by kernel_rfl) (fun _ _ _ h => h) (yieldsIf_want rfl (fun w' hw' => ?y54)) hS0 ?_
        case y54 => first | (go_simp; rfl) | (go_simp; done) | rfl
        simp only [Act.put, List.setIfInBounds_toArray, List.set_cons_zero, List.set_cons_succ]
        refine wpAnyH_takeI (i := 11) (v := .agg (L[k].cells).toArray) rfl (by kernel_rfl) (by kernel_rfl) (by kernel_rfl) (fun _ _ _ h => h) (yieldsIf_load_mid rfl 43 (.tmp 64) rfl gx (ox + k.val * 83) rfl (L[k].cells) _ (fun w' hw' => HRX.out w' hw' k) Try.underlying43 rfl (sizeRow L[k])) hS0 ?_
        simp only [Act.put, List.setIfInBounds_toArray, List.set_cons_zero, List.set_cons_succ]
        refine wpAnyH_want (i := 12) (by kernel_rfl) rfl rfl (fun K hK => ?_)
        go_simp
        go_at_call 25
        refine (cmpRow L[kb] L[k] _).mono ?_
        rintro e we ⟨rfl, q9, os9, hwe⟩
        obtain ⟨V12, hWn⟩ : ∃ V12, we = V12 := ⟨_, rfl⟩
        have hb9 := grow_below wd q9 os9
        rw [← hwe, hWn] at hb9
        rw [hWn, HCV.out]
        have hsV12 := hS0.trans (hb9.mono hS0.size)
        clear hb9 hWn hwe
        refine hK _ _ (hsV12) ?_
        clear hK K
        try simp only [Act.put, List.setIfInBounds_toArray, List.set_cons_zero, List.set_cons_succ]
        refine wpAnyH_takeI (i := 13) (v := ?v55) rfl (by kernel_rfl) (by kernel_rfl) (by kernel_rfl) (fun _ _ _ h => h) (yieldsIf_want rfl (fun w' hw' => ?y55)) hsV12 ?_
        case y55 => first | (go_simp; rfl) | (go_simp; done) | rfl
        simp only [Act.put, List.setIfInBounds_toArray, List.set_cons_zero, List.set_cons_succ]
        refine wpAnyH_takeI (i := 14) (v := ?v56) rfl (by kernel_rfl) (by kernel_rfl) (by kernel_rfl) (fun _ _ _ h => h) (yieldsIf_run rfl (fun w' hw' => ?y56)) hsV12 ?_
        case y56 => first | (go_simp; rfl) | (go_simp; done) | rfl
        simp only [Act.put, List.setIfInBounds_toArray, List.set_cons_zero, List.set_cons_succ]
        refine wpAnyH_done (by kernel_rfl) ?_ _
        refine NoPanic.normal ?_
        have HRD := Lib.hid (HRC5.out.below hsV12)
        have HXD := Lib.hid ((hsV12.block _ (Array.getElem?_eq_some_iff.1 HX5.out).1).trans HX5.out)
        obtain ⟨hv1, _⟩ := node_cells HXD.out
        rw [HNR.out] at hv1
        have hvm := HRD.out.cells.2
        clear hq1 hq2 hcm hcl hlk
        have HRN := Lib.hid (HRD.out.keep k HK.out (by rw [hb]; show (if cmpT L[kb].tw L[k].tw < 0 then some k else some kb) = some kb; rw [HCV.out, if_neg (by omega)]))
        have HRW2 := Lib.hid (show ∀ j, j < i + 1 → rowA F j < (L.length : Int) from fun j hj => by
          by_cases e : j = i
          · rw [e, HRA.out]; have := k.isLt; omega
          · exact HRW1.out j (by omega))
        go_wp2_with fail
        go_roundw
        case rel => exact ⟨i + 1, a5, (on + 1), c5, by omega, by omega, by go_num, (by first | rfl | rw [eal, enl]), HRN, HRW2⟩
        case measure => simp [intOf] <;> omega
end Go.Proofs.Ythfinofmbnfijaa
