/- The arrangement in memory; cut. -/
import Derived.Test.YtjjanjhoaiannaaTh4
import Derived.Test.YtjjanjhoaiannaaTp5
import Derived.Test.YtjjanjhoaiannaaSeq
import Derived.Test.YtjjanjhoaiannaaSteps
import Derived.Deep.Cut
import Derived.Deep.CutRange
namespace Go.Proofs.Ytjjanjhoaiannaa
open Go.Shelf Go.RowKit Go.Lib Go.Sort
set_option linter.unusedVariables false
set_option linter.unusedSimpArgs false
/-- The arrangement lies in a, its rank map in rb, its parent map in pb. -/
structure ArrAt (w : World) (a rb pb : Nat) (rv ov : Value) (L : List RowV) (O : List Nat) (rkf : IdB → Option Nat) (p : Par) : Prop where
  ha : w.heap[a]? = some (.cells #[rv, ov, .map (some rb), .map (some pb)] 77 (0, 0))
  rows : RowsAt w rv L
  ord : ListAt natE w ov O
  rank : KMap idKey w rb (fun x => (rkf x).map fun k => .int .i64 (k : Int))
  par : KMap idKey w pb (fun x => (p x).map idv)
  hne : rb ≠ pb
theorem ArrAt.below {w w' : World} {a rb pb : Nat} {rv ov : Value} {L : List RowV} {O : List Nat} {rkf : IdB → Option Nat} {p : Par} (h : ArrAt w a rb pb rv ov L O rkf p) (hb : Below w.heap.size w w') : ArrAt w' a rb pb rv ov L O rkf p :=
  ⟨(hb.block _ (Array.getElem?_eq_some_iff.1 h.ha).1).trans h.ha, h.rows.below hb, h.ord.below hb, h.rank.below hb, h.par.below hb, h.hne⟩
theorem kmap_ne {w : World} {b : Nat} {f : IdB → Option Value} (h : KMap idKey w b f) {g o : Nat} {v : Value} (hc : w.cell? ⟨g, o, none⟩ = some v) : g ≠ b := by
  rintro rfl
  obtain ⟨es, cl, L, hb, _⟩ := h.ex
  simp [World.cell?, hb] at hc
theorem ListAt.kept_map {P : Program} {sT T : TypeId} {α : Type} {E : ElemTy P sT T α} {w w' : World} {b : Nat} {f : IdB → Option Value} {v : Value} {L : List α} (hm : KMap idKey w b f) (hE : ∀ x, 0 < (E.enc x).length) (h : ListAt E w v L) (hc : Chg (fun k => k = b) w w') : ListAt E w' v L := by
  obtain ⟨a, cap, e, h1, h2, h3, h4⟩ := h.ex
  refine ⟨a, cap, e, h1, h2, h3, fun hne => ?_⟩
  obtain ⟨g, off, e1, hg, hr⟩ := h4 hne
  have h0 : 0 < L.length := List.length_pos_iff.2 hne
  have hx2 := hr 0 h0 0 _ (List.getElem?_eq_getElem (hE L[0]))
  have hgb : g ≠ b := kmap_ne hm hx2
  exact ⟨g, off, e1, Nat.lt_of_lt_of_le hg hc.size, fun i hi j u hj => hc.cell (p := ⟨g, off + i * E.k + j, none⟩) hgb (hr i hi j u hj)⟩
theorem RowsAt.kept_map {w w' : World} {b : Nat} {f : IdB → Option Value} {v : Value} {L : List RowV} (hm : KMap idKey w b f) (h : RowsAt w v L) (hc : Chg (fun k => k = b) w w') : RowsAt w' v L :=
  ⟨h.l.kept_map hm (fun x => by show 0 < x.cells.length; rw [RowV.cells_length]; decide) hc, fun R hR => (h.r R hR).kept_map hm (fun x => by show 0 < (bvs x.1).length; rw [bvs_length, x.2]; decide) hc⟩
theorem hide_postT {P : Program} {c : Code} {Q : Exit → Act → World → Prop} {a : Act} {w : World} (h : ∀ Q', Hid (Q' = Q) → Code.wp P c Q' a w) : Code.wp P c Q a w := h Q (Lib.hid rfl)
theorem zeroInt (w : World) : (zeroValue 3).run Try.prog w = .ok (.int .i64 0) w := by kernel_rfl
theorem zeroId (w : World) : (zeroValue 31).run Try.prog w = .ok (idv z32) w := by kernel_rfl
theorem ArrAt.cells {w : World} {a rb pb : Nat} {rv ov : Value} {L : List RowV} {O : List Nat} {rkf : IdB → Option Nat} {p : Par} (h : ArrAt w a rb pb rv ov L O rkf p) : w.cell? ⟨a, 0, none⟩ = some rv ∧ w.cell? ⟨a, 1, none⟩ = some ov ∧ w.cell? ⟨a, 2, none⟩ = some (.map (some rb)) ∧ w.cell? ⟨a, 3, none⟩ = some (.map (some pb)) := by
  refine ⟨?_, ?_, ?_, ?_⟩ <;> rw [cell_of_row _ _ _ _ _ _ h.ha] <;> rfl
theorem ArrAt.lookR {w : World} {a rb pb : Nat} {rv ov : Value} {L : List RowV} {O : List Nat} {rkf : IdB → Option Nat} {p : Par} (h : ArrAt w a rb pb rv ov L O rkf p) (x : IdB) : (Instr.lookup 74 (.map (some rb)) (.agg (bvs x.1).toArray) true).run Try.prog w = .ok (.tuple #[.int .i64 (((rkf x).getD 0 : Nat) : Int), .bool (rkf x).isSome]) w := by
  have h1 := h.rank.look Try.underlying74 zeroInt x true
  rw [if_pos rfl] at h1
  cases hr : rkf x with
  | none => rw [hr] at h1; exact h1
  | some k => rw [hr] at h1; exact h1
theorem ArrAt.lookP {w : World} {a rb pb : Nat} {rv ov : Value} {L : List RowV} {O : List Nat} {rkf : IdB → Option Nat} {p : Par} (h : ArrAt w a rb pb rv ov L O rkf p) (x : IdB) (c : Bool) : (Instr.lookup 75 (.map (some pb)) (.agg (bvs x.1).toArray) c).run Try.prog w = .ok (if c then .tuple #[idv ((p x).getD z32), .bool (p x).isSome] else idv ((p x).getD z32)) w := by
  have h1 := h.par.look Try.underlying75 zeroId x c
  cases hr : p x with
  | none => rw [hr] at h1; exact h1
  | some k => rw [hr] at h1; exact h1
/-- The best place as the variables hold it. -/
def BstV (b : Option Nat) (bv fv : Value) : Prop := match b with
  | none => bv = .int .i64 0 ∧ fv = .bool false
  | some k => bv = .int .i64 (k : Int) ∧ fv = .bool true
set_option maxRecDepth 100000 in
set_option maxHeartbeats 2000000 in
theorem cut_any {w : World} {a rb pb : Nat} {rv ov : Value} {L : List RowV} {O : List Nat} {S : List Tw} {p : Par} (h : ArrAt w a rb pb rv ov L O (rk S) p) (hO : O.length = S.length) (hS : ∀ k (h1 : k < O.length) (h2 : k < S.length), ∃ h3 : O[k] < L.length, L[O[k]].tw = S[k]) (hl : S.length < 1000000) (hn : (S.map (·.id)).Nodup) (x : IdB) {n k0 : Nat} (hper : it p (n + 1) x = some x) (hmin : ∀ m, m < n → it p (m + 1) x ≠ some x) (hb : bestTo p S x (n + 1) = some k0) :
    Calls Try.prog 49 #[.pointer (some ⟨a, 0, none⟩), .agg (bvs x.1).toArray] w fun e w' => e = .returned (.tuple #[]) ∧ (∃ hk : k0 < S.length, ArrAt w' a rb pb rv ov L O (rk S) (upd p S[k0].id none)) ∧ Chg (fun k => k = pb) w w' := by
  obtain ⟨ra, rc, rfl⟩ := h.rows.l.form
  obtain ⟨oa, oc, rfl⟩ := h.ord.form
  obtain ⟨w1, hw1⟩ : ∃ w1, w.alloc (.cells (bvs x.1).toArray 31) = w1 := ⟨_, rfl⟩
  have hb1 : Below w.heap.size w w1 := hw1 ▸ (Below.refl _ _).alloc (Nat.le_refl _) _
  have x1 : w1.heap[w.heap.size]? = some (.cells (bvs x.1).toArray 31 (0, 0)) := by rw [← hw1]; exact heap_alloc_new _ _
  obtain ⟨A3, hA3⟩ : ∃ A3, w.heap.size = A3 := ⟨_, rfl⟩
  rw [hA3] at x1
  have HA := Lib.hid (h.below hb1)
  have HB1 := Lib.hid hb1
  have HX := Lib.hid x1
  have HA3 := Lib.hid hA3
  have HO := Lib.hid hO
  have HS := Lib.hid hS
  have HN := Lib.hid hn
  have HPER := Lib.hid hper
  have HMIN := Lib.hid hmin
  have HBST := Lib.hid hb
  have HLS := Lib.hid hl
  clear h hb1 x1 hO hS hn hper hmin hb
  go_enter Try.func49, Try.ntmps49
  go_wp2_with (refine wpList_loadV rfl (some 9) rfl 31 (.tmp 3) rfl _ rfl 31 (bvs x.1).toArray (0, 0) _ HX.out Try.underlying31 rfl (sizeIdA x) ?_; refine Stop.on ?_)
  refine Stop.go ?_
  try simp only [Act.put, List.setIfInBounds_toArray, List.set_cons_zero, List.set_cons_succ]
  refine wpList_newV rfl (some 6) rfl 31 rfl #[.int .u8 0, .int .u8 0, .int .u8 0, .int .u8 0, .int .u8 0, .int .u8 0, .int .u8 0, .int .u8 0, .int .u8 0, .int .u8 0, .int .u8 0, .int .u8 0, .int .u8 0, .int .u8 0, .int .u8 0, .int .u8 0, .int .u8 0, .int .u8 0, .int .u8 0, .int .u8 0, .int .u8 0, .int .u8 0, .int .u8 0, .int .u8 0, .int .u8 0, .int .u8 0, .int .u8 0, .int .u8 0, .int .u8 0, .int .u8 0, .int .u8 0, .int .u8 0] 32 (by kernel_rfl) ?_
  intro wn xn bi sn
  try simp only [Act.put, List.setIfInBounds_toArray, List.set_cons_zero, List.set_cons_succ]
  refine wpList_putV rfl rfl 31 (.tmp 6) (.tmp 9) rfl _ (bvs x.1).toArray rfl rfl 31 _ xn (sizeIdA x) (zsId x) (all_oneCell_toArray bvs_oneCell) ?_
  intro wi xi ci si
  try simp only [Act.put, List.setIfInBounds_toArray, List.set_cons_zero, List.set_cons_succ]
  clear xn
  have hbi : Below w1.heap.size w1 wi := bi.trans (ci.below (B := w1.heap.size) (fun k e => by omega) bi.size)
  have HBI := Lib.hid hbi
  have HSZ := Lib.hid (show wi.heap.size = w1.heap.size + 1 + 0 by omega)
  have HXI := Lib.hid xi
  clear xi bi ci si sn hbi
  go_wp2_with fail
  go_loopw [4, 5, 6] (fun bv fv pv wr => ∃ (t A6 : Nat) (y : IdB), t ≤ n ∧ Hid (it p t x = some y) ∧ Hid (BstV (bestTo p S x t) bv fv) ∧ pv = .pointer (some ⟨A6, 0, none⟩) ∧ Hid (wr.heap[A6]? = some (.cells (bvs y.1).toArray 31 (0, 0))) ∧ Hid (Below w1.heap.size w1 wr) ∧ Hid (w1.heap.size ≤ A6) ∧ Hid (wr.heap.size = w1.heap.size + 1 + t)) (fun _ _ _ wr => w1.heap.size + 2 + n - wr.heap.size)
  case atStart => exact ⟨0, w1.heap.size, x, Nat.zero_le _, Lib.hid rfl, Lib.hid ⟨rfl, rfl⟩, rfl, HXI, HBI, Lib.hid (Nat.le_refl _), HSZ⟩
  case round =>
    obtain ⟨t, A6, y, ht, HY, HBV, rfl, HX6, HBR, HA6, HSW⟩ := hrel
    obtain ⟨W0, rfl⟩ : ∃ W0, W0 = wr := ⟨_, rfl⟩
    clear HXI HBI HSZ
    have hyn : ∃ y2, it p (t + 1) x = some y2 := period_some HPER.out (t + 1) (by omega)
    obtain ⟨y2, hy2⟩ := hyn
    have hpy : p y = some y2 := by
      have h1 := it_succ p t x
      rw [hy2, HY.out] at h1
      exact h1.symm
    have HY2 := Lib.hid hy2
    have HPY := Lib.hid hpy
    clear hy2 hpy
    obtain ⟨kv, hkv⟩ : ∃ kv : Int, (((rk S y).getD 0 : Nat) : Int) = kv := ⟨_, rfl⟩
    obtain ⟨ok, hok⟩ : ∃ ok, (rk S y).isSome = ok := ⟨_, rfl⟩
    have HF := Lib.hid (show ∀ w', Below W0.heap.size W0 w' → w'.cell? ⟨a, 2, none⟩ = some (.map (some rb)) ∧ w'.cell? ⟨a, 3, none⟩ = some (.map (some pb)) ∧ (Instr.lookup 74 (.map (some rb)) (.agg (bvs y.1).toArray) true).run Try.prog w' = .ok (.tuple #[.int .i64 kv, .bool ok]) w' ∧ (Instr.lookup 75 (.map (some pb)) (.agg (bvs y.1).toArray) false).run Try.prog w' = .ok (.agg (bvs y2.1).toArray) w' ∧ w'.rangeAt A6 0 (bvs y.1) from fun w' hw' => by
      have ha := HA.out.below (HBR.out.trans (hw'.mono HBR.out.size))
      have h1 := ha.lookR y
      rw [hkv, hok] at h1
      have h2 := ha.lookP y false
      rw [HPY.out] at h2
      exact ⟨ha.cells.2.2.1, ha.cells.2.2.2, h1, h2, range_block ((hw'.block _ (Array.getElem?_eq_some_iff.1 HX6.out).1).trans HX6.out)⟩)
    have HKV := Lib.hid hkv
    have HOK := Lib.hid hok
    clear hkv hok
    have hys : (it p t x).getD x = y := by rw [HY.out]; rfl
    have hbs : bestTo p S x (t + 1) = bst S (bestTo p S x t) y := by
      show bst S (bestTo p S x t) ((it p t x).getD x) = _
      rw [hys]
    have HBS := Lib.hid hbs
    clear hys hbs
    refine hide_postT ?_
    intro Q3 HQ3
    refine wp_seq_k ?_
    intro K1 hK1
    refine wp_block ?_
    refine wp_seq_k ?_
    intro K2 hK2
    go_cut [4, 5] from 10 to 28 (fun bv fv wc => Hid (BstV (bestTo p S x (t + 1)) bv fv) ∧ Hid (Below W0.heap.size W0 wc ∧ wc.heap.size = W0.heap.size))
    case first =>
      go_wp2_with fail
      refine wp_region_seq 10 (by kernel_rfl) (by kernel_rfl) ?_
      simp only [List.take_succ_cons, List.take_zero, List.drop_succ_cons, List.drop_zero]
      obtain ⟨wd, hwd⟩ : ∃ wd, W0.drew = wd := ⟨_, rfl⟩
      have hd_wd : Below W0.heap.size W0 wd ∧ wd.heap.size = W0.heap.size := hwd ▸ ⟨(Below.refl _ _).drew, rfl⟩
      rw [hwd]
      clear hwd
      obtain ⟨q1, q2, q3, q4, q5⟩ := HF.out wd hd_wd.1
      have HY6 := Lib.hid ((hd_wd.1.block _ (Array.getElem?_eq_some_iff.1 HX6.out).1).trans HX6.out)
      have HS0 := Lib.hid hd_wd
      clear hd_wd HF q5 q2 q4
      go_wp2_with (refine wpList_loadV rfl (some 15) rfl 31 (.tmp 6) rfl _ rfl 31 (bvs y.1).toArray (0, 0) _ HY6.out Try.underlying31 rfl (sizeIdA y) ?_; refine Stop.on ?_)
      refine Stop.go ?_
      try simp only [Act.put, List.setIfInBounds_toArray, List.set_cons_zero, List.set_cons_succ]
      go_wp2_with fail
      refine HeadPost.mk ?_
      cases hr : rk S y with
      | none =>
        obtain rfl : kv = 0 := by rw [← HKV.out, hr]; rfl
        obtain rfl : ok = false := by rw [← HOK.out, hr]; rfl
        obtain ⟨bw, hbw⟩ : ∃ bw, u4 = bw := ⟨_, rfl⟩
        obtain ⟨fw, hfw⟩ : ∃ fw, u5 = fw := ⟨_, rfl⟩
        have HE := Lib.hid (show BstV (bestTo p S x (t + 1)) bw fw by
          rw [HBS.out, ← hbw, ← hfw]
          unfold bst
          rw [hr]
          exact HBV.out)
        clear hr
        go_wp2_with fail
        rw [hbw, hfw]
        go_meet
        case rel => exact ⟨HE, HS0⟩
      | some k =>
        obtain rfl : kv = (k : Int) := by rw [← HKV.out, hr]; rfl
        obtain rfl : ok = true := by rw [← HOK.out, hr]; rfl
        have HEq := Lib.hid (show bestTo p S x (t + 1) = match bestTo p S x t with | none => some k | some j => if k < j then some k else some j by
          rw [HBS.out]
          unfold bst
          rw [hr]
          rfl)
        clear hr
        cases hbt : bestTo p S x t with
        | none =>
          have h1 := HBV.out
          rw [hbt] at h1
          obtain ⟨rfl, rfl⟩ := h1
          have HE := Lib.hid (show BstV (bestTo p S x (t + 1)) (.int .i64 (k : Int)) (.bool true) by
            rw [HEq.out, hbt]
            exact ⟨rfl, rfl⟩)
          clear hbt
          go_wp2_with fail
          go_meet
          case rel => exact ⟨HE, HS0⟩
        | some j =>
          have h1 := HBV.out
          rw [hbt] at h1
          obtain ⟨rfl, rfl⟩ := h1
          by_cases hkj : k < j
          · have HE := Lib.hid (show BstV (bestTo p S x (t + 1)) (.int .i64 (k : Int)) (.bool true) by
              rw [HEq.out, hbt]
              simp only [hkj, if_true]
              exact ⟨rfl, rfl⟩)
            clear hbt
            have hkI : (k : Int) < (j : Int) := by omega
            go_wp2_with fail
            go_meet
            case rel => exact ⟨HE, HS0⟩
          · have HE := Lib.hid (show BstV (bestTo p S x (t + 1)) (.int .i64 (j : Int)) (.bool true) by
              rw [HEq.out, hbt]
              simp only [hkj, if_false]
              exact ⟨rfl, rfl⟩)
            clear hbt
            have hkI : ¬ (k : Int) < (j : Int) := by omega
            go_wp2_with fail
            go_meet
            case rel => exact ⟨HE, HS0⟩
    case rest =>
      obtain ⟨HE, HS0⟩ := hcut
      obtain ⟨hbc, hsc⟩ := HS0.out
      obtain ⟨bw, hbw⟩ : ∃ bw, u4 = bw := ⟨_, rfl⟩
      obtain ⟨fw, hfw⟩ : ∃ fw, u5 = fw := ⟨_, rfl⟩
      rw [hbw, hfw] at HE ⊢
      go_wp2_with fail
      refine wp_region_seq 6 (by kernel_rfl) (by kernel_rfl) ?_
      simp only [List.take_succ_cons, List.take_zero, List.drop_succ_cons, List.drop_zero]
      obtain ⟨wd, hwd⟩ : ∃ wd, wc.drew = wd := ⟨_, rfl⟩
      have hd_wd : Below wc.heap.size wc wd ∧ wd.heap.size = wc.heap.size := hwd ▸ ⟨(Below.refl _ _).drew, rfl⟩
      rw [hwd]
      clear hwd
      have hbd := hbc.trans (hd_wd.1.mono hbc.size)
      obtain ⟨q1, q2, q3, q4, q5⟩ := HF.out wd hbd
      have HX6D := Lib.hid ((hbd.block _ (Array.getElem?_eq_some_iff.1 HX6.out).1).trans HX6.out)
      have HBD := Lib.hid hbd
      have HSD := Lib.hid (hd_wd.2.trans hsc)
      clear hd_wd HF q5 q1 q3 hbc hsc hbd
      go_wp2_with (refine wpList_loadV rfl (some 34) rfl 31 (.tmp 6) rfl _ rfl 31 (bvs y.1).toArray (0, 0) _ HX6D.out Try.underlying31 rfl (sizeIdA y) ?_; refine Stop.on ?_)
      refine Stop.go ?_
      try simp only [Act.put, List.setIfInBounds_toArray, List.set_cons_zero, List.set_cons_succ]
      go_wp2_with fail
      refine HeadPost.mk ?_
      refine wpList_putV rfl rfl 31 (.tmp 6) (.tmp 35) rfl A6 (bvs y2.1).toArray rfl rfl 31 _ HX6D.out (sizeIdA y2) (by rw [List.size_toArray, List.size_toArray, bvs_length, bvs_length, y.2, y2.2]) (all_oneCell_toArray bvs_oneCell) ?_
      intro wq xq cq hzq
      try simp only [Act.put, List.setIfInBounds_toArray, List.set_cons_zero, List.set_cons_succ]
      have HXQ := Lib.hid xq
      have hbe : Below w1.heap.size w1 wd := HBR.out.trans (HBD.out.mono HBR.out.size)
      have HBQ := Lib.hid (hbe.trans (cq.below (B := w1.heap.size) (fun k e => by have := HA6.out; omega) hbe.size))
      have HSQ := Lib.hid (show wq.heap.size = w1.heap.size + 1 + t by have h1 := HSD.out; have h3 := HSW.out; omega)
      have HX3 := Lib.hid ((HBQ.out.block _ (Array.getElem?_eq_some_iff.1 HX.out).1).trans HX.out)
      clear xq hbe cq hzq q2 q4
      go_wp2_with (refine wpList_loadV rfl (some 36) rfl 31 (.tmp 6) rfl _ rfl 31 (bvs y2.1).toArray (0, 0) _ HXQ.out Try.underlying31 rfl (sizeIdA y2) ?_; refine Stop.on ?_)
      refine Stop.go ?_
      try simp only [Act.put, List.setIfInBounds_toArray, List.set_cons_zero, List.set_cons_succ]
      refine wpList_loadV rfl (some 37) rfl 31 (.tmp 3) rfl _ rfl 31 (bvs x.1).toArray (0, 0) _ HX3.out Try.underlying31 rfl (sizeIdA x) ?_
      try simp only [Act.put, List.setIfInBounds_toArray, List.set_cons_zero, List.set_cons_succ]
      refine wpList_runI rfl (some 38) rfl (.bool (decide (y2 = x))) _ (op_eql 31 (.tmp 36) (.tmp 37) 31 rfl rfl rfl guard_Id (eql_Id y2 x _)) ?_
      try simp only [Act.put, List.setIfInBounds_toArray, List.set_cons_zero, List.set_cons_succ]
      by_cases hyx : y2 = x
      case neg =>
        rw [decide_eq_false hyx]
        have htn : t < n := by
          by_cases h : t = n
          · have h1 := HY2.out
            rw [h, HPER.out] at h1
            exact absurd (Option.some.inj h1).symm hyx
          · omega
        go_wp2_with (refine wpList_loadV rfl (some 39) rfl 31 (.tmp 6) rfl _ rfl 31 (bvs y2.1).toArray (0, 0) _ HXQ.out Try.underlying31 rfl (sizeIdA y2) ?_; refine Stop.on ?_)
        refine Stop.go ?_
        try simp only [Act.put, List.setIfInBounds_toArray, List.set_cons_zero, List.set_cons_succ]
        go_wp2_with (refine wpList_newV rfl (some 6) rfl 31 rfl #[.int .u8 0, .int .u8 0, .int .u8 0, .int .u8 0, .int .u8 0, .int .u8 0, .int .u8 0, .int .u8 0, .int .u8 0, .int .u8 0, .int .u8 0, .int .u8 0, .int .u8 0, .int .u8 0, .int .u8 0, .int .u8 0, .int .u8 0, .int .u8 0, .int .u8 0, .int .u8 0, .int .u8 0, .int .u8 0, .int .u8 0, .int .u8 0, .int .u8 0, .int .u8 0, .int .u8 0, .int .u8 0, .int .u8 0, .int .u8 0, .int .u8 0, .int .u8 0] 32 (by kernel_rfl) ?_; refine Stop.on ?_)
        refine Stop.go ?_
        try simp only [Act.put, List.setIfInBounds_toArray, List.set_cons_zero, List.set_cons_succ]
        intro wn xn bi sn
        try simp only [Act.put, List.setIfInBounds_toArray, List.set_cons_zero, List.set_cons_succ]
        refine wpList_putV rfl rfl 31 (.tmp 6) (.tmp 39) rfl _ (bvs y2.1).toArray rfl rfl 31 _ xn (sizeIdA y2) (zsId y2) (all_oneCell_toArray bvs_oneCell) ?_
        intro wz xi ci si
        try simp only [Act.put, List.setIfInBounds_toArray, List.set_cons_zero, List.set_cons_succ]
        clear xn
        have hbz : Below wq.heap.size wq wz := bi.trans (ci.below (B := wq.heap.size) (fun k e => by omega) bi.size)
        have HXZ := Lib.hid xi
        have HBZ := Lib.hid (HBQ.out.trans (hbz.mono HBQ.out.size))
        have HSZ2 := Lib.hid (show wz.heap.size = w1.heap.size + 1 + (t + 1) by have := HSQ.out; omega)
        have HLE := Lib.hid HBQ.out.size
        clear xi ci si sn bi hbz hyx
        go_wp2_with fail
        rw [HQ3.out]
        change _ ∧ _
        go_roundw
        case rel => exact ⟨t + 1, wq.heap.size, y2, by omega, HY2, HE, rfl, HXZ, HBZ, HLE, HSZ2⟩
        case measure => have h1 := HSZ2.out; have h2 := HSW.out; omega
      rw [decide_eq_true hyx]
      obtain rfl : t = n := by
        by_cases h : t = n
        · exact h
        · exact absurd (by rw [HY2.out, hyx]) (HMIN.out t (by omega))
      have he := HE.out
      rw [HBST.out] at he
      obtain ⟨hb1, hb2⟩ := he
      subst hb1
      subst hb2
      obtain ⟨hk0, hlst, _⟩ := best_lst HN.out HPER.out HBST.out
      have hk0O : k0 < O.length := by rw [HO.out]; exact hk0
      obtain ⟨ho, hoe⟩ := HS.out k0 hk0O hk0
      have haq := HA.out.below HBQ.out
      obtain ⟨go_, oo, rfl, hgo, hro⟩ := haq.ord.get hk0O
      obtain ⟨gr, or_, rfl, hgr, hrr⟩ := haq.rows.l.get ho
      obtain ⟨o, hoo⟩ : ∃ o, O[k0] = o := ⟨_, rfl⟩
      obtain ⟨z, hz⟩ : ∃ z, S[k0].id = z := ⟨_, rfl⟩
      have hzr : L[O[k0]].id = z := by rw [← hz, ← hoe]; rfl
      have hrid := row_id hrr
      rw [hzr, hoo] at hrid
      have h2 : wq.cell? ⟨go_, oo + k0 * 1 + 0, none⟩ = some (.int .i64 ((O[k0] : Nat) : Int)) := hro 0 _ rfl
      rw [Nat.mul_one, Nat.add_zero, hoo] at h2
      have HG := Lib.hid (show ∀ w', Below wq.heap.size wq w' → w'.cell? ⟨a, 0, none⟩ = some (.slice (some ⟨gr, or_, none⟩) L.length rc) ∧ w'.cell? ⟨a, 1, none⟩ = some (.slice (some ⟨go_, oo, none⟩) O.length oc) ∧ w'.cell? ⟨a, 3, none⟩ = some (.map (some pb)) ∧ w'.cell? ⟨go_, oo + k0, none⟩ = some (.int .i64 (o : Int)) ∧ w'.rangeAt gr (or_ + o * 83) (bvs z.1) from fun w' hw' => by
        have hc := (haq.below hw').cells
        exact ⟨hc.1, hc.2.1, hc.2.2.2, (hw'.cell hgo).trans h2, range_below hrid hgr hw'⟩)
      have HAQ := Lib.hid haq
      have HLO := Lib.hid (show o < L.length by rw [← hoo]; exact ho)
      have HKO := Lib.hid hk0O
      have HZ := Lib.hid hz
      have HK0 := Lib.hid hk0
      clear haq hgo hro hgr hrr h2 hrid
      go_wp2_with fail
      rw [HQ3.out]
      simp only [Exit.then, Exit.inBlock, if_true]
      go_wp2_with fail
      refine wp_region_seq 18 (by kernel_rfl) (by kernel_rfl) ?_
      simp only [List.take_succ_cons, List.take_zero, List.drop_succ_cons, List.drop_zero]
      obtain ⟨we, hwd⟩ : ∃ we, wq.drew = we := ⟨_, rfl⟩
      have hd_we : Below wq.heap.size wq we ∧ we.heap.size = wq.heap.size := hwd ▸ ⟨(Below.refl _ _).drew, rfl⟩
      rw [hwd]
      clear hwd
      obtain ⟨q1, q2, q3, q4, q5⟩ := HG.out we hd_we.1
      have HR5 := Lib.hid q5
      have hko := HKO.out
      have hlo := HLO.out
      have HBE := Lib.hid hd_we.1
      clear hd_we q5
      go_wp2_with (with_reducible refine wpList_load_mid rfl 31 (.tmp 57) rfl gr (or_ + o * 83) rfl (bvs z.1) _ HR5.out Try.underlying31 rfl (sizeId z) ?_; refine Stop.on ?_)
      refine Stop.go ?_
      try simp only [Act.put, List.setIfInBounds_toArray, List.set_cons_zero, List.set_cons_succ]
      refine HeadPost.mk ?_
      obtain ⟨wm, hrun, hkm, hcm⟩ := (HAQ.out.par.below HBE.out).del (t := 75) Try.underlying75 0 z
      have hrun : (Builtin.delete_ #[75, 31] 0 #[.map (some pb), .agg (bvs z.1).toArray]).run Try.prog we = .ok (.tuple #[]) wm := hrun
      go_wp2_with fail
      have haq := HAQ.out.below HBE.out
      have hha := hcm.block a (Array.getElem?_eq_some_iff.1 haq.ha).1 (kmap_ne haq.par haq.cells.1)
      refine bodyPost_end (v := .tuple #[]) (by simp [results, Try.results49, go_sem]) rfl ⟨rfl, ⟨HK0.out, hha.trans haq.ha, haq.rows.kept_map haq.par hcm, haq.ord.kept_map haq.par (fun x => by show 0 < 1; decide) hcm, haq.rank.kept (hcm.block rb haq.rank.lt haq.hne), hkm.ext fun y => ?_, haq.hne⟩, ?_⟩
      · show (if y = z then none else (p y).map idv) = (upd p _ none y).map idv
        unfold upd
        rw [HZ.out]
        by_cases hy : y = z
        · rw [if_pos hy, if_pos hy]; rfl
        · rw [if_neg hy, if_neg hy]
      · have h1 : Below w.heap.size w we := HB1.out.trans ((HBQ.out.trans (HBE.out.mono HBQ.out.size)).mono HB1.out.size)
        exact (Chg.of_below h1).trans hcm (fun i e => .inl e)
end Go.Proofs.Ytjjanjhoaiannaa
