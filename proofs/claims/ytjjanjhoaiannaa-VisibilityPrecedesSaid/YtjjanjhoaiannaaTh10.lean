/- Nodes in memory; a node and what is below it. -/
import Derived.Test.YtjjanjhoaiannaaTh9
namespace Go.Proofs.Ytjjanjhoaiannaa
open Go.Shelf Go.RowKit Go.Lib Go.Sort
set_option linter.unusedVariables false
set_option linter.unusedSimpArgs false

structure NodeV where
  id : IdB
  row : Int
  parent : Int
  depth : Int
def NodeV.cells (n : NodeV) : List Value := bvs n.id.1 ++ [.int .i64 n.row, .int .i64 n.parent, .int .i64 n.depth]
theorem NodeV.cells_length (n : NodeV) : n.cells.length = 35 := by
  have h1 := n.id.2
  simp [NodeV.cells, h1]
theorem NodeV.cells_one (n : NodeV) : ∀ v ∈ n.cells, v.oneCell' = true := by
  intro v hv
  unfold NodeV.cells at hv
  rw [List.mem_append] at hv
  rcases hv with hv | hv
  · exact bvs_oneCell v hv
  · simp only [List.mem_cons, List.not_mem_nil, or_false] at hv
    rcases hv with rfl | rfl | rfl <;> rfl
def nodeE : ElemTy Try.prog 48 57 NodeV where
  enc := NodeV.cells
  k := 35
  hu := Try.underlying48
  hi := ⟨.agg (NodeV.cells ⟨z32, 0, 0, 0⟩).toArray, 56, by kernel_rfl, by kernel_rfl, by decide⟩
  hk := by decide
  len := NodeV.cells_length
  one := NodeV.cells_one
theorem list32 {l : List UInt8} (h : l.length = 32) : ∃ x0 x1 x2 x3 x4 x5 x6 x7 x8 x9 x10 x11 x12 x13 x14 x15 x16 x17 x18 x19 x20 x21 x22 x23 x24 x25 x26 x27 x28 x29 x30 x31, l = [x0, x1, x2, x3, x4, x5, x6, x7, x8, x9, x10, x11, x12, x13, x14, x15, x16, x17, x18, x19, x20, x21, x22, x23, x24, x25, x26, x27, x28, x29, x30, x31] := by
  match l, h with
  | [x0, x1, x2, x3, x4, x5, x6, x7, x8, x9, x10, x11, x12, x13, x14, x15, x16, x17, x18, x19, x20, x21, x22, x23, x24, x25, x26, x27, x28, x29, x30, x31], _ => exact ⟨x0, x1, x2, x3, x4, x5, x6, x7, x8, x9, x10, x11, x12, x13, x14, x15, x16, x17, x18, x19, x20, x21, x22, x23, x24, x25, x26, x27, x28, x29, x30, x31, rfl⟩
theorem build_node (n : NodeV) (w : World) : (Instr.build 57 #[(0, .agg (bvs n.id.1).toArray), (1, .int .i64 n.row), (2, .int .i64 n.parent), (3, .int .i64 n.depth)]).run Try.prog w = .ok (.agg n.cells.toArray) w := by
  obtain ⟨⟨l, hl⟩, r, p, d⟩ := n
  obtain ⟨x0, x1, x2, x3, x4, x5, x6, x7, x8, x9, x10, x11, x12, x13, x14, x15, x16, x17, x18, x19, x20, x21, x22, x23, x24, x25, x26, x27, x28, x29, x30, x31, rfl⟩ := list32 hl
  kernel_rfl
/-- A node and what is below it, behind a list. -/
def visL (ch : Kid) (row : IdB → Int) : Nat → List NodeV → IdB → Int → Int → List NodeV
  | 0, out, _, _, _ => out
  | n + 1, out, x, p, d => (ch x).foldl (fun o y => visL ch row n o y out.length (d + 1)) (out ++ [⟨x, row x, p, d⟩])
/-- What is below x has at most n levels. -/
def FinK (ch : Kid) : Nat → IdB → Prop
  | 0, _ => False
  | n + 1, x => ∀ y ∈ ch x, FinK ch n y
theorem fold_len {α : Type} {f : List NodeV → α → List NodeV} (hf : ∀ o y, o.length ≤ (f o y).length) : ∀ (M : List α) (o : List NodeV), o.length ≤ (M.foldl f o).length
  | [], _ => Nat.le_refl _
  | y :: M, o => Nat.le_trans (hf o y) (fold_len hf M (f o y))
theorem visL_len (ch : Kid) (row : IdB → Int) : ∀ (n : Nat) (out : List NodeV) (x : IdB) (p d : Int), out.length ≤ (visL ch row n out x p d).length
  | 0, _, _, _, _ => Nat.le_refl _
  | n + 1, out, x, p, d => by
    unfold visL
    refine Nat.le_trans ?_ (fold_len (fun o y => visL_len ch row n o y _ _) (ch x) _)
    rw [List.length_append]; omega
theorem fold_take {α : Type} {f : List NodeV → α → List NodeV} (hf : ∀ o y, o.length ≤ (f o y).length) (M : List α) (i : Nat) (o : List NodeV) : ((M.take i).foldl f o).length ≤ (M.foldl f o).length := by
  have h : M.foldl f o = (M.drop i).foldl f ((M.take i).foldl f o) := by rw [← List.foldl_append, List.take_append_drop]
  rw [h]
  exact fold_len hf _ _
def rowF (O : List Nat) (rkf : IdB → Option Nat) (x : IdB) : Int := match rkf x with
  | some k => ((O.getD k 0 : Nat) : Int)
  | none => -1
/-- What lies still while nodes are visited. -/
structure VEnv (V : World) (ab kb cb a rb pb : Nat) (rv ov : Value) (L : List RowV) (O : List Nat) (rkf : IdB → Option Nat) (c : Par) (ch : Kid) (vf : IdB → Option Value) : Prop where
  arr : ArrAt V a rb pb rv ov L O rkf c
  hab : V.heap[ab]? = some (.cells #[.pointer (some ⟨a, 0, none⟩)] 69 (0, 0))
  hkb : V.heap[kb]? = some (.cells #[.map (some cb)] 72 (0, 0))
  km : KMap idKey V cb vf
  kids : ∀ x, ListAt idE V ((vf x).getD (.slice none 0 0)) (ch x)
theorem VEnv.below {V W : World} {ab kb cb a rb pb : Nat} {rv ov : Value} {L : List RowV} {O : List Nat} {rkf : IdB → Option Nat} {c : Par} {ch : Kid} {vf : IdB → Option Value} (h : VEnv V ab kb cb a rb pb rv ov L O rkf c ch vf) (hb : Below V.heap.size V W) : VEnv W ab kb cb a rb pb rv ov L O rkf c ch vf :=
  ⟨h.arr.below hb, (hb.block _ (Array.getElem?_eq_some_iff.1 h.hab).1).trans h.hab, (hb.block _ (Array.getElem?_eq_some_iff.1 h.hkb).1).trans h.hkb, h.km.below hb, fun x => (h.kids x).below hb⟩
theorem VEnv.cells {V : World} {ab kb cb a rb pb : Nat} {rv ov : Value} {L : List RowV} {O : List Nat} {rkf : IdB → Option Nat} {c : Par} {ch : Kid} {vf : IdB → Option Value} (h : VEnv V ab kb cb a rb pb rv ov L O rkf c ch vf) : V.cell? ⟨ab, 0, none⟩ = some (.pointer (some ⟨a, 0, none⟩)) ∧ V.cell? ⟨kb, 0, none⟩ = some (.map (some cb)) := by
  refine ⟨?_, ?_⟩
  · rw [cell_of_row _ _ _ _ _ _ h.hab]; rfl
  · rw [cell_of_row _ _ _ _ _ _ h.hkb]; rfl
def vcaps (ab fb kb vb : Nat) : List Value := [.pointer (some ⟨ab, 0, none⟩), .pointer (some ⟨fb, 0, none⟩), .pointer (some ⟨kb, 0, none⟩), .pointer (some ⟨vb, 0, none⟩)]
/-- What changes: the list of nodes so far. -/
structure VSt (V W : World) (B2 ab fb kb vb : Nat) (fv : Value) (out : List NodeV) : Prop where
  hfb : W.heap[fb]? = some (.cells #[fv] 48 (0, 0))
  hvb : W.heap[vb]? = some (.cells #[.func (.func 34) #[] (vcaps ab fb kb vb).toArray] 80 (0, 0))
  own : OwnL nodeE W B2 fv out
  hb : Below V.heap.size V W
  lt : V.heap.size ≤ B2 ∧ V.heap.size ≤ fb ∧ fb ≠ vb ∧ B2 ≤ W.heap.size
  nov : ∀ k, fv.ownBlock = some k → k ≠ fb ∧ k ≠ vb
section
variable {V W W' W'' : World} {B2 ab fb kb vb : Nat} {fv fv' : Value} {out out' : List NodeV}
theorem VSt.below (h : VSt V W B2 ab fb kb vb fv out) (hb : Below W.heap.size W W') : VSt V W' B2 ab fb kb vb fv out :=
  ⟨(hb.block _ (Array.getElem?_eq_some_iff.1 h.hfb).1).trans h.hfb, (hb.block _ (Array.getElem?_eq_some_iff.1 h.hvb).1).trans h.hvb, h.own.below hb, h.hb.trans (hb.mono h.hb.size), ⟨h.lt.1, h.lt.2.1, h.lt.2.2.1, Nat.le_trans h.lt.2.2.2 hb.size⟩, h.nov⟩
theorem VSt.cells (h : VSt V W B2 ab fb kb vb fv out) : W.cell? ⟨fb, 0, none⟩ = some fv ∧ W.cell? ⟨vb, 0, none⟩ = some (.func (.func 34) #[] (vcaps ab fb kb vb).toArray) := by
  refine ⟨?_, ?_⟩
  · rw [cell_of_row _ _ _ _ _ _ h.hfb]; rfl
  · rw [cell_of_row _ _ _ _ _ _ h.hvb]; rfl
/-- Nodes are put behind, and the variable is set. -/
theorem VSt.app (h : VSt V W B2 ab fb kb vb fv out) (ho : OwnL nodeE W' B2 fv' out') (hg : W.grownBy W' fv.ownBlock) (hat : ∀ k, fv'.ownBlock = some k → fv.ownBlock = some k ∨ W.heap.size ≤ k)
    (ht : W''.heap[fb]? = some (.cells #[fv'] 48 (0, 0))) (hd : Chg (fun k => k = fb) W' W'') : VSt V W'' B2 ab fb kb vb fv' out' ∧ Chg (fun k => k = fb ∨ fv.ownBlock = some k) W W'' := by
  have hc := OwnL.grown_chg (v := fv) hg
  have hfl := (Array.getElem?_eq_some_iff.1 h.hfb).1
  have hvl := (Array.getElem?_eq_some_iff.1 h.hvb).1
  have hno : ∀ k, fv'.ownBlock = some k → k ≠ fb ∧ k ≠ vb := fun k hk => by
    rcases hat k hk with h1 | h1
    · exact h.nov k h1
    · omega
  have hC : Chg (fun k => k = fb ∨ fv.ownBlock = some k) W W'' := (hc.mono (fun k e => .inr e)).trans hd (fun i e => .inl (.inl e))
  refine ⟨⟨ht, (hd.block vb (Nat.lt_of_lt_of_le hvl hc.size) h.lt.2.2.1.symm).trans ((hc.block vb hvl (fun e => (h.nov vb e).2 rfl)).trans h.hvb), ho.chg hd (fun k hk => (hno k hk).1), h.hb.trans (hC.below (B := V.heap.size) (fun k e => ?_) h.hb.size), ⟨h.lt.1, h.lt.2.1, h.lt.2.2.1, Nat.le_trans h.lt.2.2.2 hC.size⟩, hno⟩, hC⟩
  rcases e with e | e
  · rw [e]; exact h.lt.2.1
  · exact Nat.le_trans h.lt.1 (h.own.lt e).1
end
def VisPost (V w : World) (B2 ab fb kb vb : Nat) (fv : Value) (out : List NodeV) (e : Ending) (w' : World) : Prop :=
  e = .returned (.tuple #[]) ∧ ∃ fv', VSt V w' B2 ab fb kb vb fv' out ∧ Chg (fun k => k = fb ∨ fv.ownBlock = some k) w w' ∧ ∀ k, fv'.ownBlock = some k → fv.ownBlock = some k ∨ w.heap.size ≤ k
theorem sizeNode (n : NodeV) : (Try.prog.info? 57).map (·.size) = some n.cells.length := by rw [n.cells_length]; kernel_rfl
theorem zeroIdsL (w : World) : (zeroValue 23).run Try.prog w = .ok (.slice none 0 0) w := by kernel_rfl
set_option maxRecDepth 100000 in
set_option maxHeartbeats 2000000 in
theorem visit_any {V : World} {B2 ab fb kb vb cb a rb pb : Nat} {rv ov : Value} {L : List RowV} {O : List Nat} {rkf : IdB → Option Nat} {c : Par} {ch : Kid} {vf : IdB → Option Value} (he : VEnv V ab kb cb a rb pb rv ov L O rkf c ch vf) (hrk : ∀ x k, rkf x = some k → k < O.length) (hO : O.length < 1000000) (hch : ∀ x, (ch x).length < 1000000) :
    ∀ (n : Nat) (w : World) (x : IdB) (fv : Value) (out : List NodeV) (p d : Int), FinK ch n x → VSt V w B2 ab fb kb vb fv out → (visL ch (rowF O rkf) n out x p d).length < 1000000 → 0 ≤ d → d + n < 1000000000 →
    Calls Try.prog 34 (.agg (bvs x.1).toArray :: .int .i64 p :: .int .i64 d :: vcaps ab fb kb vb).toArray w (VisPost V w B2 ab fb kb vb fv (visL ch (rowF O rkf) n out x p d)) := by
  intro n
  induction n with
  | zero => intro w x fv out p d hf; exact hf.elim
  | succ n ih =>
    intro w x fv out p d hf hst hlen hd0 hdn
    obtain ⟨fa, fc, rfl⟩ := hst.own.form
    obtain ⟨M, hM⟩ : ∃ M, out.length = M := ⟨_, rfl⟩
    rw [hM] at hst ⊢
    obtain ⟨w1, hw1⟩ : ∃ w1, w.alloc (.cells (bvs x.1).toArray 31) = w1 := ⟨_, rfl⟩
    have hb1 : Below w.heap.size w w1 := hw1 ▸ (Below.refl _ _).alloc (Nat.le_refl _) _
    have x1 : w1.heap[w.heap.size]? = some (.cells (bvs x.1).toArray 31 (0, 0)) := by rw [← hw1]; exact heap_alloc_new _ _
    obtain ⟨B7, hB7⟩ : ∃ B7, w.heap.size = B7 := ⟨_, rfl⟩
    rw [hB7] at x1
    have HX1 := Lib.hid x1
    have HB1 := Lib.hid hb1
    have HST := Lib.hid hst
    have HST1 := Lib.hid (hst.below hb1)
    have HE := Lib.hid he
    have HRK := Lib.hid hrk
    have HCH := Lib.hid hch
    have HFK := Lib.hid hf
    have HM := Lib.hid hM
    have HLEN := Lib.hid hlen
    have HIH := Lib.hid ih
    have hMl : M < 1000000 := by
      have h1 := visL_len ch (rowF O rkf) (n + 1) out x p d
      omega
    unfold vcaps
    clear hst hb1 x1 hf hlen ih hM he hrk hch
    go_enter Try.func34, Try.ntmps34
    go_wp2_with fail
    refine wp_region_seq 10 (by kernel_rfl) (by kernel_rfl) ?_
    simp only [List.take_succ_cons, List.take_zero, List.drop_succ_cons, List.drop_zero]
    obtain ⟨wd, hwd⟩ : ∃ wd, w1.drew = wd := ⟨_, rfl⟩
    have hd_wd : Below w1.heap.size w1 wd ∧ wd.heap.size = w1.heap.size := hwd ▸ ⟨(Below.refl _ _).drew, rfl⟩
    rw [hwd]
    clear hwd
    have HSd := Lib.hid (HST1.out.below hd_wd.1)
    have HEd := Lib.hid (HE.out.below HSd.out.hb)
    have HXd := Lib.hid ((hd_wd.1.block _ (Array.getElem?_eq_some_iff.1 HX1.out).1).trans HX1.out)
    have HBd := Lib.hid (HB1.out.trans (hd_wd.1.mono HB1.out.size))
    obtain ⟨c1, c2⟩ := HEd.out.cells
    obtain ⟨e1, e2, e3, e4⟩ := HEd.out.arr.cells
    have hlk := HEd.out.arr.lookR x
    obtain ⟨kv, hkv⟩ : ∃ kv : Int, (((rkf x).getD 0 : Nat) : Int) = kv := ⟨_, rfl⟩
    obtain ⟨ok, hok⟩ : ∃ ok, (rkf x).isSome = ok := ⟨_, rfl⟩
    rw [hkv, hok] at hlk
    have HKV := Lib.hid hkv
    have HOK := Lib.hid hok
    clear hd_wd hkv hok HST1 HX1
    go_wp2_with (refine wpList_loadV rfl (some 21) rfl 31 (.tmp 7) rfl _ rfl 31 (bvs x.1).toArray (0, 0) _ HXd.out Try.underlying31 rfl (sizeIdA x) ?_; refine Stop.on ?_)
    refine Stop.go ?_
    try simp only [Act.put, List.setIfInBounds_toArray, List.set_cons_zero, List.set_cons_succ]
    go_wp2_with fail
    refine HeadPost.mk ?_
    obtain ⟨rw0, hrw0⟩ : ∃ r, rowF O rkf x = r := ⟨_, rfl⟩
    have HRW := Lib.hid hrw0
    go_upto_if 25 with (fail)
    go_cut [10] from 26 to 32 (fun t10 wc => t10 = .int .i64 rw0 ∧ Hid (wc = wd))
    case first =>
      cases hr : rkf x with
      | none =>
        obtain rfl : kv = 0 := by rw [← HKV.out, hr]; rfl
        obtain rfl : ok = false := by rw [← HOK.out, hr]; rfl
        obtain rfl : rw0 = -1 := by rw [← hrw0]; unfold rowF; rw [hr]
        clear hr hrw0
        go_wp2_with fail
        go_meet
        case rel => exact ⟨rfl, Lib.hid rfl⟩
      | some k =>
        obtain rfl : kv = (k : Int) := by rw [← HKV.out, hr]; rfl
        obtain rfl : ok = true := by rw [← HOK.out, hr]; rfl
        have hkO := HRK.out x k hr
        obtain ⟨o, ho⟩ : ∃ o, O[k] = o := ⟨_, rfl⟩
        obtain rfl : rw0 = (o : Int) := by rw [← hrw0]; unfold rowF; rw [hr]; dsimp only; rw [List.getD_eq_getElem?_getD, List.getElem?_eq_getElem hkO, ho]; rfl
        obtain ⟨oa, oc, rfl⟩ := HEd.out.arr.ord.form
        obtain ⟨go_, oo, rfl, hgo, hro⟩ := HEd.out.arr.ord.get hkO
        have hcell : wd.cell? ⟨go_, oo + k * 1 + 0, none⟩ = some (.int .i64 ((O[k] : Nat) : Int)) := hro 0 _ rfl
        rw [Nat.mul_one, Nat.add_zero, ho] at hcell
        have hkI : (k : Int) < (O.length : Int) := by omega
        have e2' := e2
        clear hro hgo hr hrw0 ho
        go_wp2_with fail
        go_meet
        case rel => exact ⟨rfl, Lib.hid rfl⟩
    case rest =>
      obtain ⟨rfl, HWC⟩ := hcut
      obtain ⟨d1, d2⟩ := HSd.out.cells
      rw [← HWC.out] at c1 c2 d1 d2 HXd
      clear hrw0 hlk e1 e2 e3 e4
      have HXc := Lib.hid HXd
      have HSc := Lib.hid (show VSt V wc B2 ab fb kb vb (.slice fa M fc) out by rw [HWC.out]; exact HSd.out)
      have HEc := Lib.hid (show VEnv wc ab kb cb a rb pb rv ov L O rkf c ch vf by rw [HWC.out]; exact HEd.out)
      have HBc := Lib.hid (show Below w.heap.size w wc by rw [HWC.out]; exact HBd.out)
      clear HXd HSd HEd HBd
      obtain ⟨nd, hnd⟩ : ∃ nd : NodeV, (⟨x, rw0, p, d⟩ : NodeV) = nd := ⟨_, rfl⟩
      have HBN := Lib.hid (show ∀ w, (Instr.build 57 #[(0, .agg (bvs x.1).toArray), (1, .int .i64 rw0), (2, .int .i64 p), (3, .int .i64 d)]).run Try.prog w = .ok (.agg nd.cells.toArray) w from fun w => by rw [← hnd]; exact build_node ⟨x, rw0, p, d⟩ w)
      have HND := Lib.hid hnd
      clear hnd
      go_wp2_with (refine wpList_loadV rfl (some 36) rfl 31 (.tmp 7) rfl _ rfl 31 (bvs x.1).toArray (0, 0) _ HXc.out Try.underlying31 rfl (sizeIdA x) ?_; refine Stop.on ?_)
      refine Stop.go ?_
      try simp only [Act.put, List.setIfInBounds_toArray, List.set_cons_zero, List.set_cons_succ]
      go_wp2_with (refine wpList_buildV rfl (some 40) rfl 57 _ rfl [(0, .agg (bvs x.1).toArray), (1, .int .i64 rw0), (2, .int .i64 p), (3, .int .i64 d)] rfl (.agg nd.cells.toArray) (HBN.out _) ?_; refine Stop.on ?_)
      refine Stop.go ?_
      try simp only [Act.put, List.setIfInBounds_toArray, List.set_cons_zero, List.set_cons_succ]
      go_wp2_with (refine wpList_litsV nodeE rfl (some 41) rfl 1 _ rfl [nd] rfl rfl (by decide) (by decide) ?_; refine Stop.on ?_)
      refine Stop.go ?_
      try simp only [Act.put, List.setIfInBounds_toArray, List.set_cons_zero, List.set_cons_succ]
      intro w3 xl bl sl
      try simp only [Act.put, List.setIfInBounds_toArray, List.set_cons_zero, List.set_cons_succ]
      have HS3 := Lib.hid (HSc.out.below bl)
      have HL3 := Lib.hid (show ListAt nodeE w3 (.slice (some ⟨wc.heap.size, 0, none⟩) 1 1) [nd] from list_of_block nodeE (M := [nd]) xl (by unfold maxLen; simp))
      have HB3 := Lib.hid (HBc.out.trans (bl.mono HBc.out.size))
      have HE3 := Lib.hid (HEc.out.below bl)
      have HX3 := Lib.hid ((bl.block _ (Array.getElem?_eq_some_iff.1 HXc.out).1).trans HXc.out)
      have d1 := HS3.out.cells.1
      clear xl bl sl d2 c1 c2
      go_wp2_with (refine wpList_appL nodeE rfl (.tmp 35) (.tmp 41) rfl rfl HS3.out.own rfl HL3.out (n := M) (m := 1) HM.out rfl (by omega) HS3.out.lt.2.2.2 ?_; refine Stop.on ?_)
      refine Stop.go ?_
      try simp only [Act.put, List.setIfInBounds_toArray, List.set_cons_zero, List.set_cons_succ]
      intro a' cap' w4 ho4 hg4 hat4
      try simp only [Act.put, List.setIfInBounds_toArray, List.set_cons_zero, List.set_cons_succ]
      have HO4 := Lib.hid ho4
      have HG4 := Lib.hid hg4
      have HAT4 := Lib.hid hat4
      have HT4 := Lib.hid (show w4.heap[fb]? = some (.cells #[.slice fa M fc] 48 (0, 0)) from (hg4.block fb (Array.getElem?_eq_some_iff.1 HS3.out.hfb).1 (fun e => (HS3.out.nov fb e.symm).1 rfl)).trans HS3.out.hfb)
      clear ho4 hg4 hat4 d1
      go_wp2_with (refine wpList_putC rfl rfl 48 (.tmp 4) (.tmp 42) rfl fb 0 (.slice a' (M + 1) cap') rfl rfl HT4.out (by show 0 < 1; decide) rfl (by kernel_rfl) ?_; refine Stop.on ?_)
      refine Stop.go ?_
      try simp only [Act.put, List.setIfInBounds_toArray, List.set_cons_zero, List.set_cons_succ]
      intro w5 ht5 hd5 hs5
      try simp only [Act.put, List.setIfInBounds_toArray, List.set_cons_zero, List.set_cons_succ]
      have ht5 : w5.heap[fb]? = some (.cells #[.slice a' (M + 1) cap'] 48 (0, 0)) := ht5
      obtain ⟨f1, f2⟩ := HS3.out.app HO4.out HG4.out HAT4.out ht5 hd5
      have HS5 := Lib.hid f1
      have HC5 := Lib.hid ((Chg.of_below (F := fun k => k = fb ∨ (Value.slice fa M fc).ownBlock = some k) HB3.out).trans f2 (fun i e => .inl e))
      have HE5 := Lib.hid (HE.out.below f1.hb)
      have HX5 := Lib.hid ((f2.block B7 (Array.getElem?_eq_some_iff.1 HX3.out).1 (fun e => by
        have h1 := (Array.getElem?_eq_some_iff.1 HST.out.hfb).1
        rcases e with e | e
        · omega
        · have h2 := (HST.out.own.lt e).2
          omega)).trans HX3.out)
      have HOW5 := Lib.hid (show ∀ k, (Value.slice a' (M + 1) cap').ownBlock = some k → (Value.slice fa M fc).ownBlock = some k ∨ w.heap.size ≤ k from fun k hk => (HAT4.out k hk).elim .inl (fun h => .inr (Nat.le_trans HB3.out.size h)))
      clear ht5 hd5 hs5 f1 f2
      obtain ⟨c1, c2⟩ := HE5.out.cells
      have hlk := HE5.out.km.look Try.underlying72 zeroIdsL x false
      obtain ⟨va, vc, hva⟩ := (HE5.out.kids x).form
      obtain ⟨N, hN⟩ : ∃ N, (ch x).length = N := ⟨_, rfl⟩
      rw [hva, hN] at hlk
      have hlk : (Instr.lookup 72 (.map (some cb)) (.agg (bvs x.1).toArray) false).run Try.prog w5 = .ok (.slice va N vc) w5 := hlk
      have HKD := Lib.hid (show ListAt idE w5 (.slice va N vc) (ch x) by have h1 := HE5.out.kids x; rw [hva, hN] at h1; exact h1)
      have hNl : N < 1000000 := hN ▸ HCH.out x
      have HNN := Lib.hid hN
      have HVA := Lib.hid (show (vf x).getD (.slice none 0 0) = .slice va N vc by rw [hva, hN])
      clear hva hN
      go_wp2_with (refine wpList_loadV rfl (some 44) rfl 31 (.tmp 7) rfl _ rfl 31 (bvs x.1).toArray (0, 0) _ HX5.out Try.underlying31 rfl (sizeIdA x) ?_; refine Stop.on ?_)
      refine Stop.go ?_
      try simp only [Act.put, List.setIfInBounds_toArray, List.set_cons_zero, List.set_cons_succ]
      go_wp2_with fail
      clear c1 c2 hlk
      obtain ⟨W1, rfl⟩ : ∃ W1, W1 = w5 := ⟨_, rfl⟩
      have HS1 := Lib.hid (show VSt V W1 B2 ab fb kb vb (.slice a' (M + 1) cap') (((ch x).take 0).foldl (fun o y => visL ch (rowF O rkf) n o y M (d + 1)) (out ++ [nd])) from HS5.out)
      have HLN := Lib.hid (show ((ch x).foldl (fun o y => visL ch (rowF O rkf) n o y M (d + 1)) (out ++ [nd])).length < 1000000 by
        have h1 := HLEN.out
        unfold visL at h1
        rw [HRW.out, HND.out, HM.out] at h1
        exact h1)
      have HEND := Lib.hid (show visL ch (rowF O rkf) (n + 1) out x p d = (ch x).foldl (fun o y => visL ch (rowF O rkf) n o y M (d + 1)) (out ++ [nd]) by
        show (ch x).foldl _ _ = _
        rw [HRW.out, HND.out, HM.out])
      go_loopw [47] (fun iv wr => ∃ (i : Nat) (fvi : Value), i ≤ N ∧ iv = .int .i64 (i : Int) ∧ Hid (VSt V wr B2 ab fb kb vb fvi (((ch x).take i).foldl (fun o y => visL ch (rowF O rkf) n o y M (d + 1)) (out ++ [nd]))) ∧ Hid (Chg (fun k => k = fb ∨ (Value.slice fa M fc).ownBlock = some k) w wr) ∧ Hid (∀ k, fvi.ownBlock = some k → (Value.slice fa M fc).ownBlock = some k ∨ w.heap.size ≤ k)) (fun iv _ => N - (intOf iv).toNat)
      case atStart => exact ⟨0, _, Nat.zero_le _, rfl, HS1, HC5, HOW5⟩
      case round =>
        obtain ⟨i, fvi, hi, rfl, HSi, HCi, HOi⟩ := hrel
        obtain ⟨W0, rfl⟩ : ∃ W0, W0 = wr := ⟨_, rfl⟩
        clear HS1 HC5 HOW5 HS5
        by_cases hlt : i < N
        case neg =>
          obtain rfl : i = N := by omega
          have HF := Lib.hid (show VSt V W0 B2 ab fb kb vb fvi (visL ch (rowF O rkf) (n + 1) out x p d) by
            have h1 := HSi.out
            rw [List.take_of_length_le (by rw [HNN.out]; exact Nat.le_refl _)] at h1
            rw [HEND.out]
            exact h1)
          go_wp2_with fail
          exact bodyPost_end (v := .tuple #[]) (by simp [results, Try.results34, go_sem]) rfl ⟨rfl, fvi, HF.out, HCi.out, HOi.out⟩
        have hik : i < (ch x).length := by rw [HNN.out]; exact hlt
        have hkd := (HE.out.below HSi.out.hb).kids x
        obtain ⟨y, hy⟩ : ∃ y, (ch x)[i] = y := ⟨_, rfl⟩
        obtain ⟨gk, ok_, eva, hgk, hrk_⟩ := HKD.out.get hik
        subst eva
        have hrk0 : W0.rangeAt gk (ok_ + i * 32) (bvs y.1) := by
          have e1 : (vf x).getD (.slice none 0 0) = .slice (some ⟨gk, ok_, none⟩) N vc := HVA.out
          rw [e1] at hkd
          obtain ⟨g2, o2, e2, _, h2⟩ := hkd.get hik
          cases e2
          rw [← hy]
          exact h2
        have HRK0 := Lib.hid hrk0
        have HY := Lib.hid hy
        clear hrk0 hy hkd hrk_ hgk
        refine hide_postT ?_
        intro Q3 HQ3
        go_wp2_with (with_reducible refine wpList_load_mid rfl 31 (.tmp 49) rfl gk (ok_ + i * 32) rfl (bvs y.1) _ HRK0.out Try.underlying31 rfl (sizeId y) ?_; refine Stop.on ?_)
        refine Stop.go ?_
        try simp only [Act.put, List.setIfInBounds_toArray, List.set_cons_zero, List.set_cons_succ]
        go_wp2_with (refine wpList_newV rfl (some 15) rfl 31 rfl #[.int .u8 0, .int .u8 0, .int .u8 0, .int .u8 0, .int .u8 0, .int .u8 0, .int .u8 0, .int .u8 0, .int .u8 0, .int .u8 0, .int .u8 0, .int .u8 0, .int .u8 0, .int .u8 0, .int .u8 0, .int .u8 0, .int .u8 0, .int .u8 0, .int .u8 0, .int .u8 0, .int .u8 0, .int .u8 0, .int .u8 0, .int .u8 0, .int .u8 0, .int .u8 0, .int .u8 0, .int .u8 0, .int .u8 0, .int .u8 0, .int .u8 0, .int .u8 0] 32 (by kernel_rfl) ?_; refine Stop.on ?_)
        refine Stop.go ?_
        try simp only [Act.put, List.setIfInBounds_toArray, List.set_cons_zero, List.set_cons_succ]
        intro wn xn bi sn
        try simp only [Act.put, List.setIfInBounds_toArray, List.set_cons_zero, List.set_cons_succ]
        refine wpList_putV rfl rfl 31 (.tmp 15) (.tmp 50) rfl _ (bvs y.1).toArray rfl rfl 31 _ xn (sizeIdA y) (zsId y) (all_oneCell_toArray bvs_oneCell) ?_
        intro W2 xi ci si
        try simp only [Act.put, List.setIfInBounds_toArray, List.set_cons_zero, List.set_cons_succ]
        clear xn
        have hb2 : Below W0.heap.size W0 W2 := bi.trans (ci.below (B := W0.heap.size) (fun k e => by omega) bi.size)
        have HX2 := Lib.hid xi
        have HS2 := Lib.hid (HSi.out.below hb2)
        have HB2 := Lib.hid hb2
        obtain ⟨d1, d2⟩ := HS2.out.cells
        clear xi bi ci si sn hb2 d1
        have hfy : FinK ch n y := by have h1 := HFK.out; unfold FinK at h1; exact h1 y (HY.out ▸ List.getElem_mem (by rw [HNN.out]; exact hlt))
        have hts : ((ch x).take (i + 1)).foldl (fun o y => visL ch (rowF O rkf) n o y M (d + 1)) (out ++ [nd]) = visL ch (rowF O rkf) n (((ch x).take i).foldl (fun o y => visL ch (rowF O rkf) n o y M (d + 1)) (out ++ [nd])) y M (d + 1) := by
          rw [List.take_succ_eq_append_getElem (show i < (ch x).length by rw [HNN.out]; exact hlt), List.foldl_append, HY.out]
          rfl
        have hll := fold_take (f := fun o y => visL ch (rowF O rkf) n o y M (d + 1)) (fun o y => visL_len ch (rowF O rkf) n o y _ _) (ch x) (i + 1) (out ++ [nd])
        rw [hts] at hll
        have HCALL := Lib.hid (HIH.out W2 y fvi _ (M : Int) (d + 1) hfy HS2.out (Nat.lt_of_le_of_lt hll HLN.out) (by omega) (by omega))
        have HTS := Lib.hid hts
        unfold vcaps at d2
        clear hfy hts hll
        go_wp2_with (refine wpList_loadV rfl (some 52) rfl 31 (.tmp 15) rfl _ rfl 31 (bvs y.1).toArray (0, 0) _ HX2.out Try.underlying31 rfl (sizeIdA y) ?_; refine Stop.on ?_)
        refine Stop.go ?_
        try simp only [Act.put, List.setIfInBounds_toArray, List.set_cons_zero, List.set_cons_succ]
        go_wp2_with fail
        have hcall : Calls Try.prog 34 #[.agg (bvs y.1).toArray, .int .i64 (M : Int), .int .i64 (d + 1), .pointer (some ⟨ab, 0, none⟩), .pointer (some ⟨fb, 0, none⟩), .pointer (some ⟨kb, 0, none⟩), .pointer (some ⟨vb, 0, none⟩)] W2 _ := HCALL.out
        refine hcall.mono ?_
        rintro e W3 ⟨rfl, fv3, hS3, hC3, hO3⟩
        have HS3' := Lib.hid (show VSt V W3 B2 ab fb kb vb fv3 (((ch x).take (i + 1)).foldl (fun o y => visL ch (rowF O rkf) n o y M (d + 1)) (out ++ [nd])) by rw [HTS.out]; exact hS3)
        have hsz := HCi.out.size
        have HC3' := Lib.hid ((HCi.out.trans (Chg.of_below (F := fun k => k = fb ∨ (Value.slice fa M fc).ownBlock = some k) HB2.out) (fun i e => .inl e)).trans hC3 (fun j e => by
          rcases e with e | e
          · exact .inl (.inl e)
          · exact (HOi.out j e).elim (fun h => .inl (.inr h)) .inr))
        have HO3' := Lib.hid (show ∀ k, fv3.ownBlock = some k → (Value.slice fa M fc).ownBlock = some k ∨ w.heap.size ≤ k from fun k hk => (hO3 k hk).elim (fun h => HOi.out k h) (fun h => .inr (Nat.le_trans (Nat.le_trans hsz HB2.out.size) h)))
        clear hS3 hC3 hO3 hcall hsz d2
        go_wp2_with fail
        rw [HQ3.out]
        change _ ∧ _
        go_roundw
        case rel => exact ⟨i + 1, fv3, by omega, by go_num, HS3', HC3', HO3'⟩
        case measure => simp [intOf]; omega
end Go.Proofs.Ytjjanjhoaiannaa
