/- The model's first; The model's above, next; The model's cycle, acyclic. -/
import Derived.Test.YthfinofmbnfijaaTp15
import Derived.Test.YthfinofmbnfijaaTh4
namespace Go.Proofs.Ythfinofmbnfijaa
open Go.Shelf Go.RowKit Go.Lib Go.Sort
set_option linter.unusedVariables false
set_option linter.unusedSimpArgs false

theorem par_cells {w : World} {g off : Nat} {u : Option IdB} (h : w.rangeAt g off (pvC u)) : w.cell? ⟨g, off, none⟩ = some (.bool u.isSome) ∧ w.rangeAt g (off + 1) (bvs (u.getD z32).1) := by
  cases u with
  | none =>
    refine ⟨h 0 _ rfl, fun j v hv => ?_⟩
    have := h (j + 1) v hv
    rwa [show off + (j + 1) = off + 1 + j by omega] at this
  | some y =>
    refine ⟨h 0 _ rfl, fun j v hv => ?_⟩
    have := h (j + 1) v hv
    rwa [show off + (j + 1) = off + 1 + j by omega] at this
theorem sizePar (u : Option IdB) : (Try.prog.info? 63).map (·.size) = some (pvC u).length := by rw [show (pvC u).length = 33 from parE.len u]; kernel_rfl
set_option maxRecDepth 100000 in
set_option maxHeartbeats 2000000 in
theorem first_any {w : World} (v uv : Value) (L : List RowV) (U : List (Option IdB)) (x : IdB) (hv : RowsAt w v L) (hu : ListAt parE w uv U) (hUl : U.length = L.length) (hl : L.length < 1000000) :
    Calls Try.prog 59 #[v, uv, idv x] w fun e w' => ∃ b : Int, e = .returned (.int .i64 b) ∧ FstI L U x L.length b ∧ Below w.heap.size w w' := by
  obtain ⟨va, vc, rfl⟩ := hv.l.form
  obtain ⟨ua, uc, rfl⟩ := hu.form
  obtain ⟨N, hN⟩ : ∃ N, L.length = N := ⟨_, rfl⟩
  rw [hUl] at hu ⊢
  rw [hN] at hv hu hl hUl ⊢
  obtain ⟨w1, hw1⟩ : ∃ w1, w.alloc (.cells (bvs x.1).toArray 35) = w1 := ⟨_, rfl⟩
  have hb1 : Below w.heap.size w w1 := hw1 ▸ (Below.refl _ w).alloc (Nat.le_refl _) _
  have hx1 : w1.heap[w.heap.size]? = some (.cells (bvs x.1).toArray 35 (0, 0)) := by rw [← hw1]; exact heap_alloc_new _ _
  have HV := Lib.hid (hv.below hb1)
  have HU := Lib.hid (hu.below hb1)
  have HN := Lib.hid hN
  have HUN := Lib.hid hUl
  have HB1 := Lib.hid hb1
  have HX1 := Lib.hid hx1
  clear hv hu hN hUl hb1 hx1
  unfold idv
  go_enter Try.func59, Try.ntmps59
  go_wp2_with fail
  have HR1 := Lib.hid (Below.refl w1.heap.size w1)
  have HF0 := Lib.hid (FstI.zero L U x)
  go_loopw [7, 8] (fun bv iv wr => ∃ (i : Nat) (b : Int), i ≤ N ∧ (-1 ≤ b ∧ b < 1000000) ∧ iv = .int .i64 (i : Int) ∧ bv = .int .i64 b ∧ Hid (FstI L U x i b) ∧ Hid (Below w1.heap.size w1 wr)) (fun _ iv _ => N - (intOf iv).toNat)
  case atStart => exact ⟨0, -1, Nat.zero_le _, by omega, rfl, rfl, HF0, HR1⟩
  case round =>
    obtain ⟨i, b, hi, hb, rfl, rfl, HF, HB⟩ := hrel
    obtain ⟨W0, rfl⟩ : ∃ W0, W0 = wr := ⟨_, rfl⟩
    clear HR1 HF0
    by_cases hlt : i < N
    case neg =>
      obtain rfl : i = N := by omega
      have HBE := Lib.hid (HB1.out.trans (HB.out.mono HB1.out.size))
      go_wp2_with fail
      exact bodyPost_ret (v := .int .i64 b) (by simp [results, Try.results59, go_sem]) rfl ⟨b, rfl, HF.out, HBE.out⟩
    have hiL : i < L.length := by rw [HN.out]; exact hlt
    have hiU : i < U.length := by rw [HUN.out]; exact hlt
    have hiN : (i : Int) < (N : Int) := by omega
    obtain ⟨g1, o1, e1, hg1, hr1⟩ := (HV.out.below HB.out).l.get hiL
    subst e1
    obtain ⟨g2, o2, e2, hg2, hr2⟩ := (HU.out.below HB.out).get hiU
    subst e2
    obtain ⟨u, hu⟩ : ∃ u, U[i] = u := ⟨_, rfl⟩
    have huq : U[i]? = some u := by rw [List.getElem?_eq_getElem hiU, hu]
    rw [hu] at hr2
    have HUQ := Lib.hid huq
    have HP := Lib.hid (show ∀ w', Below W0.heap.size W0 w' → w'.cell? ⟨g2, o2 + i * 33, none⟩ = some (.bool u.isSome) ∧ w'.rangeAt g2 (o2 + i * 33 + 1) (bvs (u.getD z32).1) from fun w' hw' => par_cells (range_below (show W0.rangeAt g2 (o2 + i * 33) (pvC u) from hr2) hg2 hw'))
    have HL := Lib.hid (show ∀ w', Below W0.heap.size W0 w' → ∀ (j : Nat) (hj : j < L.length), w'.rangeAt g1 (o1 + j * 83) L[j].cells from fun w' hw' j hj => by
      obtain ⟨g1', o1', e', hg', hr'⟩ := (HV.out.below HB.out).l.get hj
      cases e'
      exact range_below hr' hg' hw')
    have HXW := Lib.hid (show ∀ w', Below W0.heap.size W0 w' → w'.heap[w.heap.size]? = some (.cells (bvs x.1).toArray 35 (0, 0)) from fun w' hw' => by
      have h1 := (HB.out.trans (hw'.mono HB.out.size)).block w.heap.size (by have := (Array.getElem?_eq_some_iff.1 HX1.out).1; exact this)
      exact h1.trans HX1.out)
    have HBW := Lib.hid (show ∀ w', Below W0.heap.size W0 w' → Below w1.heap.size w1 w' from fun w' hw' => HB.out.trans (hw'.mono HB.out.size))
    clear hr1 hr2 hg1 hg2 hu huq
    go_wp2_with fail
    refine wp_region_seq 26 (by kernel_rfl) (by kernel_rfl) ?_
    simp only [List.take_succ_cons, List.take_zero, List.drop_succ_cons, List.drop_zero]
    obtain ⟨wd, hwd⟩ : ∃ wd, W0.drew = wd := ⟨_, rfl⟩
    have hd_wd : Below W0.heap.size W0 wd ∧ wd.heap.size = W0.heap.size := hwd ▸ ⟨(Below.refl _ _).drew, rfl⟩
    rw [hwd]
    clear hwd
    have HDd := Lib.hid hd_wd.1
    obtain ⟨e1, hr2⟩ := HP.out wd hd_wd.1
    have HRd := Lib.hid hr2
    have HXd := Lib.hid (HXW.out wd hd_wd.1)
    have HBd := Lib.hid (HBW.out wd hd_wd.1)
    clear hd_wd hr2
    cases u with
    | none =>
      have e2 : (Option.isSome (none : Option IdB)) = false := rfl
      rw [e2] at e1
      clear e2
      go_wp2_with fail
      refine HeadPost.mk ?_
      have HFN := Lib.hid (HF.out.skip (by rw [HUQ.out]; exact fun e => by cases e))
      go_wp2_with fail
      go_roundw
      case rel => exact ⟨i + 1, b, by omega, by omega, by go_num, rfl, HFN, HBd⟩
      case measure => simp [intOf]; omega
    | some y =>
      have e2 : (Option.isSome (some y)) = true := rfl
      rw [e2] at e1
      clear e2
      have HRd := Lib.hid (show wd.rangeAt g2 (o2 + i * 33 + 1) (bvs y.1) from HRd.out)
      go_wp2_with (refine wpList_met rfl ?_; with_reducible refine wpList_load_mid rfl 35 (.tmp 24) rfl g2 (o2 + i * 33 + 1) rfl (bvs y.1) _ HRd.out Try.underlying35 rfl (sizeId y) ?_; refine Stop.on ?_)
      refine Stop.go ?_
      try simp only [Act.put, List.setIfInBounds_toArray, List.set_cons_zero, List.set_cons_succ]
      go_wp2_with (refine wpList_met rfl ?_; refine wpList_loadV rfl (some 26) rfl 35 (.tmp 5) rfl _ rfl 35 (bvs x.1).toArray (0, 0) _ HXd.out Try.underlying35 rfl (sizeIdA x) ?_; refine Stop.on ?_)
      refine Stop.go ?_
      try simp only [Act.put, List.setIfInBounds_toArray, List.set_cons_zero, List.set_cons_succ]
      refine wpList_met rfl ?_
      refine wpList_runI rfl (some 27) rfl (.bool (decide (y = x))) _ (op_eql 35 (.tmp 25) (.tmp 26) 35 rfl rfl rfl guard_Id (eql_Id y x _)) ?_
      try simp only [Act.put, List.setIfInBounds_toArray, List.set_cons_zero, List.set_cons_succ]
      by_cases hxy : y = x
      case neg =>
        rw [decide_eq_false hxy]
        have HXY := Lib.hid hxy
        clear hxy
        go_wp2_with fail
        refine HeadPost.mk ?_
        have HFN := Lib.hid (HF.out.skip (by rw [HUQ.out]; exact fun e => HXY.out (Option.some.inj (Option.some.inj e))))
        go_wp2_with fail
        go_roundw
        case rel => exact ⟨i + 1, b, by omega, by omega, by go_num, rfl, HFN, HBd⟩
        case measure => simp [intOf]; omega
      rw [decide_eq_true hxy]
      subst hxy
      by_cases hb0 : b < 0
      case pos =>
        have hbd : decide (b < 0) = true := decide_eq_true hb0
        go_wp2_with fail
        refine HeadPost.mk ?_
        have HFN := Lib.hid (HF.out.take hiL HUQ.out (.inl hb0))
        go_wp2_with fail
        go_roundw
        case rel => exact ⟨i + 1, (i : Int), by omega, by omega, by go_num, rfl, HFN, HBd⟩
        case measure => simp [intOf]; omega
      obtain ⟨j, rfl⟩ : ∃ j : Nat, b = (j : Int) := ⟨b.toNat, by omega⟩
      obtain ⟨j', hjL, ej, hji, _⟩ := HF.out.yes (by omega)
      obtain rfl : j = j' := by omega
      clear ej
      have hbd : decide ((j : Int) < 0) = false := decide_eq_false hb0
      have hjN : (j : Int) < (N : Int) := by omega
      have hrI := Lib.hid (HL.out wd HDd.out i hiL)
      have hrJ := Lib.hid (HL.out wd HDd.out j hjL)
      go_wp2_with (refine wpList_met rfl ?_; with_reducible refine wpList_load_mid rfl 43 (.tmp 35) rfl g1 (o1 + i * 83) rfl L[i].cells _ hrI.out Try.underlying43 rfl (sizeRow L[i]) ?_; refine Stop.on ?_)
      refine Stop.go ?_
      try simp only [Act.put, List.setIfInBounds_toArray, List.set_cons_zero, List.set_cons_succ]
      go_wp2_with (refine wpList_met rfl ?_; with_reducible refine wpList_load_mid rfl 43 (.tmp 39) rfl g1 (o1 + j * 83) rfl L[j].cells _ hrJ.out Try.underlying43 rfl (sizeRow L[j]) ?_; refine Stop.on ?_)
      refine Stop.go ?_
      try simp only [Act.put, List.setIfInBounds_toArray, List.set_cons_zero, List.set_cons_succ]
      refine HeadPost.mk ?_
      obtain ⟨cv, hcv⟩ : ∃ cv, cmpT L[i].tw L[j].tw = cv := ⟨_, rfl⟩
      go_wp2_with fail
      refine (ordRow L[i] L[j] _).mono ?_
      rintro e We ⟨rfl, q9, os9, rfl⟩
      obtain ⟨W9, hW9⟩ : ∃ W9, grow (wd.drewN q9) os9 = W9 := ⟨_, rfl⟩
      have hb9 := grow_below wd q9 os9
      rw [hW9] at hb9 ⊢
      rw [hcv]
      have HBd := Lib.hid (HBd.out.trans (hb9.mono HBd.out.size))
      clear hb9 hW9
      by_cases hc0 : cv < 0
      case pos =>
        have HFN := Lib.hid (HF.out.take hiL HUQ.out (.inr ⟨j, hjL, rfl, by rw [hcv]; exact hc0⟩))
        go_wp2_with fail
        go_roundw
        case rel => exact ⟨i + 1, (i : Int), by omega, by omega, by go_num, rfl, HFN, HBd⟩
        case measure => simp [intOf]; omega
      case neg =>
        have hcd : decide (cv < 0) = false := decide_eq_false hc0
        have HFN := Lib.hid (HF.out.keep hiL hjL rfl (by rw [hcv]; exact hc0))
        go_wp2_with fail
        go_roundw
        case rel => exact ⟨i + 1, (j : Int), by omega, by omega, by go_num, rfl, HFN, HBd⟩
        case measure => simp [intOf]; omega
end Go.Proofs.Ythfinofmbnfijaa

namespace Go.Proofs.Ythfinofmbnfijaa
open Go.Shelf Go.RowKit Go.Lib Go.Sort
set_option linter.unusedVariables false
set_option linter.unusedSimpArgs false

theorem sizeParA (u : Option IdB) : (Try.prog.info? 63).map (·.size) = some (pvC u).toArray.size := by rw [List.size_toArray]; exact sizePar u
theorem zsPar (u : Option IdB) : (pvC none).toArray.size = (pvC u).toArray.size := by rw [List.size_toArray, List.size_toArray, show (pvC u).length = 33 from parE.len u, show (pvC none).length = 33 from parE.len none]
theorem onePar (u : Option IdB) : (pvC u).toArray.all (·.oneCell') = true := all_oneCell_toArray (parE.one u)
theorem tw_refs_take {l : List IdB} {m : Nat} {A : IdB → Bool} (hm : m < l.length) : (l.take (m + 1)).reverse.find? A = if A l[m] then some l[m] else (l.take m).reverse.find? A := by
  rw [List.take_succ_eq_append_getElem hm, List.reverse_append, List.reverse_singleton, List.singleton_append, List.find?_cons]
  cases A l[m] <;> simp
set_option maxRecDepth 100000 in
set_option maxHeartbeats 2000000 in
theorem above_any {w : World} (v : Value) (L : List RowV) (x : IdB) (hv : RowsAt w v L) (hn : (L.map (·.id)).Nodup) (hl : L.length < 1000000) :
    Calls Try.prog 60 #[v, idv x] w fun e w' => e = .returned (.agg (pvC (misP L x)).toArray) ∧ Below w.heap.size w w' := by
  obtain ⟨va, vc, rfl⟩ := hv.l.form
  obtain ⟨N, hN⟩ : ∃ N, L.length = N := ⟨_, rfl⟩
  obtain ⟨w1, hw1⟩ : ∃ w1, w.alloc (.cells (bvs x.1).toArray 35) = w1 := ⟨_, rfl⟩
  have hb1 : Below w.heap.size w w1 := hw1 ▸ (Below.refl _ w).alloc (Nat.le_refl _) _
  have hx1 : w1.heap[w.heap.size]? = some (.cells (bvs x.1).toArray 35 (0, 0)) := by rw [← hw1]; exact heap_alloc_new _ _
  have hs1 : w1.heap.size = w.heap.size + 1 := by rw [← hw1]; simp
  have HLL := Lib.hid hl
  rw [hN] at hv hl ⊢
  obtain ⟨B, hBw⟩ : ∃ B, w.heap.size = B := ⟨_, rfl⟩
  have HN := Lib.hid hN
  have HND := Lib.hid hn
  unfold idv
  have HV := Lib.hid hv
  have HBW := Lib.hid hBw
  have HB1 := Lib.hid hb1
  have HX1 := Lib.hid hx1
  have HS1 := Lib.hid hs1
  clear hv hN hn hb1 hx1 hs1 hBw
  go_enter Try.func60, Try.ntmps60
  go_wp2_with (refine wpList_newV rfl (some 4) rfl 63 rfl (pvC none).toArray 33 (by kernel_rfl) ?_; refine Stop.on ?_)
  refine Stop.go ?_
  try simp only [Act.put, List.setIfInBounds_toArray, List.set_cons_zero, List.set_cons_succ]
  intro W1 xn bn sn
  try simp only [Act.put, List.setIfInBounds_toArray, List.set_cons_zero, List.set_cons_succ]
  obtain ⟨P, hP⟩ : ∃ P, w1.heap.size = P := ⟨_, rfl⟩
  rw [hP] at xn ⊢
  rw [HBW.out]
  have HXP := Lib.hid xn
  have HPS := Lib.hid (show P < W1.heap.size by omega)
  have HBO := Lib.hid (HB1.out.trans (bn.mono HB1.out.size))
  have HXW := Lib.hid ((bn.block _ (Array.getElem?_eq_some_iff.1 HX1.out).1).trans HX1.out)
  rw [HBW.out] at HXW
  have HVW := Lib.hid (HV.out.below HBO.out)
  have HPB := Lib.hid (show w.heap.size ≤ P ∧ P = B + 1 by have := HS1.out; have := HBW.out; omega)
  clear xn bn sn hP HB1 HX1 HS1 HV
  go_wp2_with fail
  refine wp_region_noPanic ?_
  refine wp_region_H (Below W1.heap.size W1) (by kernel_rfl) ?_
  have hS0 : (Below W1.heap.size W1) W1.drew := (Below.refl _ _).drew
  obtain ⟨wd, hwd⟩ : ∃ wd, W1.drew = wd := ⟨_, rfl⟩
  rw [hwd] at hS0 ⊢
  clear hwd
  refine wpAnyH_takeI (i := 0) (v := ?v1) rfl (by kernel_rfl) (by kernel_rfl) (by kernel_rfl) (fun _ _ _ h => h) (yieldsIf_run rfl (fun w' hw' => ?y1)) hS0 ?_
  case y1 => first | (go_simp; rfl) | (go_simp; done) | rfl
  simp only [Act.put, List.setIfInBounds_toArray, List.set_cons_zero, List.set_cons_succ]
  refine wpAnyH_takeI (i := 1) (v := ?v2) rfl (by kernel_rfl) (by kernel_rfl) (by kernel_rfl) (fun _ _ _ h => h) (yieldsIf_run rfl (fun w' hw' => ?y2)) hS0 ?_
  case y2 => first | (go_simp; rfl) | (go_simp; done) | rfl
  simp only [Act.put, List.setIfInBounds_toArray, List.set_cons_zero, List.set_cons_succ]
  refine wpAnyH_takeI (i := 3) (v := .agg (bvs x.1).toArray) rfl (by kernel_rfl) (by kernel_rfl) (by kernel_rfl) (fun _ _ _ h => h) (yieldsIf_load_mid rfl 35 (.tmp 3) rfl B 0 rfl (bvs x.1) _ (fun w' hw' => range_block ((hw'.block _ (Array.getElem?_eq_some_iff.1 HXW.out).1).trans HXW.out)) Try.underlying35 rfl (sizeId x)) hS0 ?_
  simp only [Act.put, List.setIfInBounds_toArray, List.set_cons_zero, List.set_cons_succ]
  refine wpAnyH_do (i := 2) (by kernel_rfl) rfl rfl (fun K hK => ?_)
  go_simp
  go_at_call 46
  refine (direct_any _ L (HVW.out.below hS0) HLL.out).mono ?_
  rintro e Wd ⟨dv, rfl, hod, hbd⟩
  have hSWd := hS0.trans (hbd.mono hS0.size)
  refine hK _ _ (hSWd) ?_
  clear hK K
  try simp only [Act.put, List.setIfInBounds_toArray, List.set_cons_zero, List.set_cons_succ]
  refine wpAnyH_do (i := 4) (by kernel_rfl) rfl rfl (fun K hK => ?_)
  go_simp
  go_at_call 59
  refine (first_any _ _ L (dirL L) x (HVW.out.below hSWd) hod.at_ (by unfold dirL; rw [List.length_map]) HLL.out).mono ?_
  rintro e Wf ⟨b, rfl, hfst, hbf⟩
  have hSWf := hSWd.trans (hbf.mono hSWd.size)
  refine hK _ _ (hSWf) ?_
  clear hK K
  try simp only [Act.put, List.setIfInBounds_toArray, List.set_cons_zero, List.set_cons_succ]
  refine wpAnyH_takeI (i := 5) (v := ?v3) rfl (by kernel_rfl) (by kernel_rfl) (by kernel_rfl) (fun _ _ _ h => h) (yieldsIf_run rfl (fun w' hw' => ?y3)) hSWf ?_
  case y3 => first | (go_simp; rfl) | (go_simp; done) | rfl
  simp only [Act.put, List.setIfInBounds_toArray, List.set_cons_zero, List.set_cons_succ]
  refine wpAnyH_done (by kernel_rfl) ?_ _
  refine NoPanic.normal ?_
  have hbI : -1 ≤ b ∧ b < 1000000 := by
    by_cases h : b < 0
    · have := (hfst.no h).1; omega
    · obtain ⟨j, hj, e, _⟩ := hfst.yes (by omega)
      have := HLL.out
      omega
  have HFI := Lib.hid (hfst.find HND.out (g := fun t => t.refs.getLast?))
  have HBF := Lib.hid hSWf
  clear hfst hod hbd hbf hSWd hSWf hS0
  have HXF := Lib.hid ((HBF.out.block P HPS.out).trans HXP.out)
  have HBO2 := Lib.hid (HBO.out.trans (HBF.out.mono HBO.out.size))
  by_cases hb0 : b < 0
  case pos =>
    have HU := Lib.hid (show misP L x = none by
      rcases HFI.out with ⟨_, h⟩ | ⟨j, _, e, _⟩
      · unfold misP; rw [h]; rfl
      · omega)
    have hbd : decide (b < 0) = true := decide_eq_true hb0
    go_wp2_with (refine wpList_buildV rfl (some 15) rfl 63 _ rfl [] rfl (.agg (pvC none).toArray) (build_par0 _) ?_; refine Stop.on ?_)
    refine Stop.go ?_
    try simp only [Act.put, List.setIfInBounds_toArray, List.set_cons_zero, List.set_cons_succ]
    go_wp2_with (refine wpList_putV rfl rfl 63 (.tmp 4) (.tmp 15) rfl _ (pvC none).toArray rfl rfl 63 _ HXF.out (sizeParA _) (zsPar _) (onePar _) ?_; refine Stop.on ?_)
    refine Stop.go ?_
    try simp only [Act.put, List.setIfInBounds_toArray, List.set_cons_zero, List.set_cons_succ]
    intro W9 x9 c9 s9
    try simp only [Act.put, List.setIfInBounds_toArray, List.set_cons_zero, List.set_cons_succ]
    have HX9 := Lib.hid x9
    have HB9 := Lib.hid (HBO2.out.trans (c9.below (B := w.heap.size) (fun k e => by rw [e]; exact HPB.out.1) HBO2.out.size))
    clear x9 c9 s9
    go_wp2_with fail
    rw [HU.out]
    exact bodyPost_ret (results_cell_row (g := P) rfl _ _ _ _ _ _ rfl HX9.out Try.underlying63 rfl (sizeParA _)) rfl ⟨rfl, HB9.out⟩
  obtain ⟨j, hjL, rfl, hfi⟩ : ∃ (j : Nat) (hj : j < L.length), b = (j : Int) ∧ (arrS L).find? (fun t => decide (t.refs.getLast? = some x)) = some L[j].tw := by
    rcases HFI.out with ⟨e, _⟩ | h
    · omega
    · exact h
  have hbd : decide ((j : Int) < 0) = false := decide_eq_false hb0
  have hjN : (j : Int) < (N : Int) := by have := HN.out; omega
  have hvf := HVW.out.below HBF.out
  obtain ⟨g1, o1, e1, hg1, hr1⟩ := hvf.l.get hjL
  subst e1
  have hro := hvf.r L[j] (List.getElem_mem hjL)
  obtain ⟨ra, rc, hrv⟩ := hro.form
  have hc := (row_mid (show Wf.rangeAt g1 (o1 + j * 83) L[j].cells from hr1)).2.2
  rw [hrv] at hro hc
  obtain ⟨R, hR⟩ : ∃ R, L[j].refs = R := ⟨_, rfl⟩
  rw [hR] at hro hc
  have hlast : R.getLast? = some x := by
    have h1 := List.find?_some hfi
    have h2 : L[j].tw.refs.getLast? = some x := of_decide_eq_true h1
    rw [← hR]
    exact h2
  obtain ⟨K, hK⟩ : ∃ K, R.length = K + 1 := ⟨R.length - 1, by
    have h1 : R ≠ [] := fun e => by rw [e] at hlast; cases hlast
    have := List.length_pos_iff.2 h1
    omega⟩
  have hmis : misP L x = (R.take K).reverse.find? (isArt (arrS L)) := by
    unfold misP
    rw [hfi]
    show farther _ L[j].tw = _
    unfold farther
    rw [show L[j].tw.refs = R from hR, List.dropLast_eq_take, hK, Nat.add_sub_cancel]
  rw [hK] at hro hc
  obtain ⟨hz1, hrc1, hrc2, hz2⟩ := hro.len
  unfold maxLen at hrc2
  have HRO := Lib.hid hro
  have HK := Lib.hid hK
  have HM0 := Lib.hid (show misP L x = (R.take ((((K : Nat) : Int) - 1) + 1).toNat).reverse.find? (isArt (arrS L)) by rw [show (((K : Nat) : Int) - 1 + 1).toNat = K by omega]; exact hmis)
  have HB0 := Lib.hid (Below.refl Wf.heap.size Wf)
  clear hz1 hz2 hr1 hg1 hrv hro hK hlast hmis hfi hvf hR HFI
  go_wp2_with fail
  go_loopw [7] (fun kv wr => ∃ k : Int, -1 ≤ k ∧ k < (K : Int) ∧ kv = .int .i64 k ∧ Hid (misP L x = (R.take (k + 1).toNat).reverse.find? (isArt (arrS L))) ∧ Hid (Below Wf.heap.size Wf wr)) (fun kv _ => (intOf kv + 1).toNat)
  case atStart => exact ⟨(K : Int) - 1, by omega, by omega, by first | rfl | go_num | (congr 1; omega), HM0, HB0⟩
  case round =>
    obtain ⟨k, hk1, hk2, rfl, HM, HB⟩ := hrel
    obtain ⟨W0, rfl⟩ : ∃ W0, W0 = wr := ⟨_, rfl⟩
    clear HM0 HB0
    have HXF0 := Lib.hid ((HB.out.block P (Nat.lt_of_lt_of_le HPS.out HBF.out.size)).trans HXF.out)
    have HBE := Lib.hid (HBO2.out.trans (HB.out.mono HBO2.out.size))
    by_cases hk0 : 0 ≤ k
    case neg =>
      have HU := Lib.hid (show misP L x = none by rw [HM.out, show (k + 1).toNat = 0 by omega]; rfl)
      have hkd : decide (0 ≤ k) = false := decide_eq_false hk0
      go_wp2_with (refine wpList_buildV rfl (some 40) rfl 63 _ rfl [] rfl (.agg (pvC none).toArray) (build_par0 _) ?_; refine Stop.on ?_)
      refine Stop.go ?_
      try simp only [Act.put, List.setIfInBounds_toArray, List.set_cons_zero, List.set_cons_succ]
      go_wp2_with (refine wpList_putV rfl rfl 63 (.tmp 4) (.tmp 40) rfl _ (pvC none).toArray rfl rfl 63 _ HXF0.out (sizeParA _) (zsPar _) (onePar _) ?_; refine Stop.on ?_)
      refine Stop.go ?_
      try simp only [Act.put, List.setIfInBounds_toArray, List.set_cons_zero, List.set_cons_succ]
      intro W9 x9 c9 s9
      try simp only [Act.put, List.setIfInBounds_toArray, List.set_cons_zero, List.set_cons_succ]
      have HX9 := Lib.hid x9
      have HB9 := Lib.hid (HBE.out.trans (c9.below (B := w.heap.size) (fun k e => by rw [e]; exact HPB.out.1) HBE.out.size))
      clear x9 c9 s9
      go_wp2_with fail
      rw [HU.out]
      exact bodyPost_ret (results_cell_row (g := P) rfl _ _ _ _ _ _ rfl HX9.out Try.underlying63 rfl (sizeParA _)) rfl ⟨rfl, HB9.out⟩
    obtain ⟨m, rfl⟩ : ∃ m : Nat, k = (m : Int) := ⟨k.toNat, by omega⟩
    have hmR : m < R.length := by rw [HK.out]; omega
    have hkd : decide (0 ≤ (m : Int)) = true := decide_eq_true hk0
    obtain ⟨rg, ro, era, hrg, hrr⟩ := (HRO.out.below HB.out).get hmR
    subst era
    obtain ⟨y, hy⟩ : ∃ y, R[m] = y := ⟨_, rfl⟩
    rw [hy] at hrr
    have hm1 := HM.out
    rw [show ((m : Int) + 1).toNat = m + 1 by omega, tw_refs_take hmR, hy, isArt_idx] at hm1
    have HM1 := Lib.hid hm1
    have HRR := Lib.hid (show ∀ w', Below W0.heap.size W0 w' → w'.rangeAt rg (ro + m * 32) (bvs y.1) from fun w' hw' => range_below hrr hrg hw')
    have HR0 := Lib.hid (HRR.out W0 (Below.refl _ _))
    have HVX := Lib.hid ((HVW.out.below HBF.out).below HB.out)
    have hmK1 : (m : Int) < (K : Int) + 1 := by omega
    clear hrr hy hrg hm1
    go_wp2_with (with_reducible refine wpList_load_mid rfl 35 (.tmp 31) rfl rg (ro + m * 32) rfl (bvs y.1) _ HR0.out Try.underlying35 rfl (sizeId y) ?_; refine Stop.on ?_)
    refine Stop.go ?_
    try simp only [Act.put, List.setIfInBounds_toArray, List.set_cons_zero, List.set_cons_succ]
    go_wp2_with fail
    refine (index_any _ L y HVX.out HLL.out).mono ?_
    rintro e Wi ⟨rfl, hbi⟩
    obtain ⟨ix, hix⟩ : ∃ ix, idxL L y = ix := ⟨_, rfl⟩
    rw [hix]
    have HIX := Lib.hid hix
    have HRi := Lib.hid (HRR.out Wi hbi)
    have HBi := Lib.hid (HB.out.trans (hbi.mono HB.out.size))
    have HXFi := Lib.hid ((HBi.out.block P (Nat.lt_of_lt_of_le HPS.out HBF.out.size)).trans HXF.out)
    have HBEi := Lib.hid (HBO2.out.trans (HBi.out.mono HBO2.out.size))
    clear hbi hix
    by_cases hi0 : 0 ≤ ix
    case pos =>
      have hid0 : decide (0 ≤ ix) = true := decide_eq_true hi0
      have HU := Lib.hid (show misP L x = some y by
        have h1 := HM1.out
        rw [HIX.out, hid0, if_pos rfl] at h1
        exact h1)
      go_wp2_with (with_reducible refine wpList_load_mid rfl 35 (.tmp 37) rfl rg (ro + m * 32) rfl (bvs y.1) _ HRi.out Try.underlying35 rfl (sizeId y) ?_; refine Stop.on ?_)
      refine Stop.go ?_
      try simp only [Act.put, List.setIfInBounds_toArray, List.set_cons_zero, List.set_cons_succ]
      go_wp2_with (refine wpList_buildV rfl (some 39) rfl 63 _ rfl [(0, .bool true), (1, .agg (bvs y.1).toArray)] rfl (.agg (pvC (some y)).toArray) (build_par1 y _) ?_; refine Stop.on ?_)
      refine Stop.go ?_
      try simp only [Act.put, List.setIfInBounds_toArray, List.set_cons_zero, List.set_cons_succ]
      go_wp2_with (refine wpList_putV rfl rfl 63 (.tmp 4) (.tmp 39) rfl _ (pvC (some y)).toArray rfl rfl 63 _ HXFi.out (sizeParA _) (zsPar _) (onePar _) ?_; refine Stop.on ?_)
      refine Stop.go ?_
      try simp only [Act.put, List.setIfInBounds_toArray, List.set_cons_zero, List.set_cons_succ]
      intro W9 x9 c9 s9
      try simp only [Act.put, List.setIfInBounds_toArray, List.set_cons_zero, List.set_cons_succ]
      have HX9 := Lib.hid x9
      have HB9 := Lib.hid (HBEi.out.trans (c9.below (B := w.heap.size) (fun k e => by rw [e]; exact HPB.out.1) HBEi.out.size))
      clear x9 c9 s9
      go_wp2_with fail
      rw [HU.out]
      exact bodyPost_ret (results_cell_row (g := P) rfl _ _ _ _ _ _ rfl HX9.out Try.underlying63 rfl (sizeParA _)) rfl ⟨rfl, HB9.out⟩
    have hid0 : decide (0 ≤ ix) = false := decide_eq_false hi0
    have HMN := Lib.hid (show misP L x = (R.take ((m : Int) - 1 + 1).toNat).reverse.find? (isArt (arrS L)) by
      have h1 := HM1.out
      rw [HIX.out, hid0, if_neg (by simp)] at h1
      rw [show ((m : Int) - 1 + 1).toNat = m by omega]
      exact h1)
    go_wp2_with fail
    go_roundw
    case rel => exact ⟨(m : Int) - 1, by omega, by omega, by first | rfl | go_num, HMN, HBi⟩
    case measure => simp [intOf] <;> omega
set_option maxRecDepth 100000 in
set_option maxHeartbeats 2000000 in
theorem next_any {w : World} (v uv : Value) (L : List RowV) (U : List (Option IdB)) (x : IdB) (hv : RowsAt w v L) (hu : ListAt parE w uv U) (hUl : U.length = L.length) (hn : (L.map (·.id)).Nodup) (hl : L.length < 1000000) :
    Calls Try.prog 61 #[v, uv, idv x] w fun e w' => e = .returned (.agg (pvC (nxtP L U x)).toArray) ∧ Below w.heap.size w w' := by
  obtain ⟨va, vc, rfl⟩ := hv.l.form
  obtain ⟨ua, uc, rfl⟩ := hu.form
  obtain ⟨w1, hw1⟩ : ∃ w1, w.alloc (.cells (bvs x.1).toArray 35) = w1 := ⟨_, rfl⟩
  have hb1 : Below w.heap.size w w1 := hw1 ▸ (Below.refl _ w).alloc (Nat.le_refl _) _
  have hx1 : w1.heap[w.heap.size]? = some (.cells (bvs x.1).toArray 35 (0, 0)) := by rw [← hw1]; exact heap_alloc_new _ _
  have hs1 : w1.heap.size = w.heap.size + 1 := by rw [← hw1]; simp
  obtain ⟨N, hN⟩ : ∃ N, L.length = N := ⟨_, rfl⟩
  have HLL := Lib.hid hl
  rw [hN] at hUl hv hl ⊢
  rw [hUl] at hu ⊢
  have HUN := Lib.hid hUl
  have HN := Lib.hid hN
  have HND := Lib.hid hn
  obtain ⟨B, hBw⟩ : ∃ B, w.heap.size = B := ⟨_, rfl⟩
  have HBW := Lib.hid hBw
  unfold idv
  have HV := Lib.hid hv
  have HU := Lib.hid hu
  have HB1 := Lib.hid hb1
  have HX1 := Lib.hid hx1
  have HS1 := Lib.hid hs1
  clear hv hu hN hn hUl hb1 hx1 hs1 hBw
  go_enter Try.func61, Try.ntmps61
  go_wp2_with (refine wpList_newV rfl (some 6) rfl 63 rfl (pvC none).toArray 33 (by kernel_rfl) ?_; refine Stop.on ?_)
  refine Stop.go ?_
  try simp only [Act.put, List.setIfInBounds_toArray, List.set_cons_zero, List.set_cons_succ]
  intro W1 xn bn sn
  try simp only [Act.put, List.setIfInBounds_toArray, List.set_cons_zero, List.set_cons_succ]
  obtain ⟨P, hP⟩ : ∃ P, w1.heap.size = P := ⟨_, rfl⟩
  rw [hP] at xn ⊢
  rw [HBW.out]
  have HXP := Lib.hid xn
  have HPS := Lib.hid (show P < W1.heap.size by omega)
  have HBO := Lib.hid (HB1.out.trans (bn.mono HB1.out.size))
  have HXW := Lib.hid ((bn.block _ (Array.getElem?_eq_some_iff.1 HX1.out).1).trans HX1.out)
  rw [HBW.out] at HXW
  have HVW := Lib.hid (HV.out.below HBO.out)
  have HUW := Lib.hid (HU.out.below HBO.out)
  have HPB := Lib.hid (show w.heap.size ≤ P by have := HS1.out; omega)
  clear xn bn sn hP HB1 HX1 HS1 HV HU
  go_wp2_with (refine wpList_loadV rfl (some 9) rfl 35 (.tmp 5) rfl _ rfl 35 (bvs x.1).toArray (0, 0) _ HXW.out Try.underlying35 rfl (sizeIdA x) ?_; refine Stop.on ?_)
  refine Stop.go ?_
  try simp only [Act.put, List.setIfInBounds_toArray, List.set_cons_zero, List.set_cons_succ]
  go_wp2_with fail
  refine (index_any _ L x HVW.out HLL.out).mono ?_
  rintro e Wi ⟨rfl, hbi⟩
  obtain ⟨ix, hix⟩ : ∃ ix, idxL L x = ix := ⟨_, rfl⟩
  rw [hix]
  have HIX := Lib.hid hix
  have HBI := Lib.hid hbi
  have HXi := Lib.hid ((hbi.block P HPS.out).trans HXP.out)
  have HXWi := Lib.hid ((hbi.block _ (Array.getElem?_eq_some_iff.1 HXW.out).1).trans HXW.out)
  have HBOi := Lib.hid (HBO.out.trans (hbi.mono HBO.out.size))
  clear hbi hix
  by_cases hi0 : 0 ≤ ix
  case pos =>
    have hid0 : decide (0 ≤ ix) = true := decide_eq_true hi0
    obtain ⟨k, hk, hke, hkx⟩ := isArt_idx.idxL_pos (L := L) (x := x) (by rw [HIX.out]; exact hi0)
    obtain rfl : ix = (k : Int) := by rw [← hke]; exact HIX.out.symm
    have hkU : k < U.length := by rw [HUN.out, ← HN.out]; exact hk
    have hkN : (k : Int) < (N : Int) := by have := HN.out; omega
    obtain ⟨g2, o2, e2, hg2, hr2⟩ := (HUW.out.below HBI.out).get hkU
    subst e2
    obtain ⟨u, hu⟩ : ∃ u, U[k] = u := ⟨_, rfl⟩
    rw [hu] at hr2
    have HR2 := Lib.hid (show Wi.rangeAt g2 (o2 + k * 33) (pvC u) from hr2)
    have HNX := Lib.hid (show nxtP L U x = u by
      unfold nxtP
      rw [if_pos (by rw [HIX.out]; omega), HIX.out, Int.toNat_natCast, List.getElem?_eq_getElem hkU, hu]
      rfl)
    clear hke hkx hr2 hg2 hu hi0
    go_wp2_with (with_reducible refine wpList_load_mid rfl 63 (.tmp 15) rfl g2 (o2 + k * 33) rfl (pvC u) _ HR2.out Try.underlying63 rfl (sizePar u) ?_; refine Stop.on ?_)
    refine Stop.go ?_
    try simp only [Act.put, List.setIfInBounds_toArray, List.set_cons_zero, List.set_cons_succ]
    go_wp2_with (refine wpList_putV rfl rfl 63 (.tmp 6) (.tmp 16) rfl _ (pvC u).toArray rfl rfl 63 _ HXi.out (sizeParA _) (zsPar _) (onePar _) ?_; refine Stop.on ?_)
    refine Stop.go ?_
    try simp only [Act.put, List.setIfInBounds_toArray, List.set_cons_zero, List.set_cons_succ]
    intro W9 x9 c9 s9
    try simp only [Act.put, List.setIfInBounds_toArray, List.set_cons_zero, List.set_cons_succ]
    have HX9 := Lib.hid x9
    have HB9 := Lib.hid (HBOi.out.trans (c9.below (B := w.heap.size) (fun k e => by rw [e]; exact HPB.out) HBOi.out.size))
    clear x9 c9 s9
    go_wp2_with fail
    rw [HNX.out]
    exact bodyPost_ret (results_cell_row (g := P) rfl _ _ _ _ _ _ rfl HX9.out Try.underlying63 rfl (sizeParA _)) rfl ⟨rfl, HB9.out⟩
  have hid0 : decide (0 ≤ ix) = false := decide_eq_false hi0
  have HNX := Lib.hid (show nxtP L U x = misP L x by
    unfold nxtP
    rw [if_neg (by rw [HIX.out]; exact hi0)])
  have HVI := Lib.hid (HVW.out.below HBI.out)
  go_wp2_with (refine wpList_loadV rfl (some 18) rfl 35 (.tmp 5) rfl _ rfl 35 (bvs x.1).toArray (0, 0) _ HXWi.out Try.underlying35 rfl (sizeIdA x) ?_; refine Stop.on ?_)
  refine Stop.go ?_
  try simp only [Act.put, List.setIfInBounds_toArray, List.set_cons_zero, List.set_cons_succ]
  go_wp2_with fail
  refine (above_any _ L x HVI.out HND.out HLL.out).mono ?_
  rintro e Wa ⟨rfl, hba⟩
  obtain ⟨z, hz⟩ : ∃ z, misP L x = z := ⟨_, rfl⟩
  rw [hz]
  have HNZ := Lib.hid (HNX.out.trans hz)
  have HXa := Lib.hid ((hba.block P (Nat.lt_of_lt_of_le HPS.out HBI.out.size)).trans HXi.out)
  have HBOa := Lib.hid (HBOi.out.trans (hba.mono HBOi.out.size))
  clear hba hz
  go_wp2_with (refine wpList_putV rfl rfl 63 (.tmp 6) (.tmp 19) rfl _ (pvC z).toArray rfl rfl 63 _ HXa.out (sizeParA _) (zsPar _) (onePar _) ?_; refine Stop.on ?_)
  refine Stop.go ?_
  try simp only [Act.put, List.setIfInBounds_toArray, List.set_cons_zero, List.set_cons_succ]
  intro W9 x9 c9 s9
  try simp only [Act.put, List.setIfInBounds_toArray, List.set_cons_zero, List.set_cons_succ]
  have HX9 := Lib.hid x9
  have HB9 := Lib.hid (HBOa.out.trans (c9.below (B := w.heap.size) (fun k e => by rw [e]; exact HPB.out) HBOa.out.size))
  clear x9 c9 s9
  go_wp2_with fail
  rw [HNZ.out]
  exact bodyPost_ret (results_cell_row (g := P) rfl _ _ _ _ _ _ rfl HX9.out Try.underlying63 rfl (sizeParA _)) rfl ⟨rfl, HB9.out⟩
end Go.Proofs.Ythfinofmbnfijaa

namespace Go.Proofs.Ythfinofmbnfijaa
open Go.Shelf Go.RowKit Go.Lib Go.Sort
set_option linter.unusedVariables false
set_option linter.unusedSimpArgs false

theorem run_litN (n : Nat) (w : World) : (Instr.buildSlice 71 1 #[(0, .int .i64 (n : Int))]).run Try.prog w = .ok (.slice (some ⟨w.heap.size, 0, none⟩) 1 1) (w.alloc (.cells #[.int .i64 (n : Int)] 3)) := by
  go_simp
/-- []int{n}: a list of one's own. -/
theorem wpList_litN {ops : Array Oper} {rest : List Oper} {o : Oper} {a : Act} {w : World} {Q : Exit → Act → World → Prop} (hg : o.guard = none) (dst : Option Tmp) (hdst : o.dst = dst) (y : Operand) (ho : o.op = .buildSlice 71 1 #[(0, y)]) (n : Nat) (hy : a.eval y = .int .i64 (n : Int))
    (h : ∀ w', OwnL natE w' w.heap.size (.slice (some ⟨w.heap.size, 0, none⟩) 1 1) [n] → Below w.heap.size w w' → w'.heap.size = w.heap.size + 1 → wpList Try.prog ops Q rest (a.put dst (.slice (some ⟨w.heap.size, 0, none⟩) 1 1)) w') : wpList Try.prog ops Q (o :: rest) a w := by
  refine wpList_runI hg dst hdst _ _ (exec_buildSlice ho (ps := #[(0, .int .i64 (n : Int))]) (by simp [hy]) (run_litN n w)) (h _ ?_ ((Below.refl _ _).alloc (Nat.le_refl _) _) (by simp))
  show World.ownsRow _ _ 3 1 _ _ _
  exact ⟨rfl, .inr ⟨_, 1, _, rfl, Nat.le_refl _, heap_alloc_new _ _, Nat.le_refl _, by unfold maxLen; omega, rfl, rfl⟩⟩
def CycPost (w : World) (L : List RowV) (x : IdB) (i0 : Nat) (e : Ending) (w' : World) : Prop := ∃ v' C, e = .returned v' ∧ OwnL natE w' w.heap.size v' C ∧ CycR L x i0 C ∧ Below w.heap.size w w'
def AcyPost (w : World) (L : List RowV) (e : Ending) (w' : World) : Prop := ∃ b : Bool, e = .returned (.bool b) ∧ (b = true ↔ ∀ x, ¬ onC (parP L) x) ∧ Below w.heap.size w w'
theorem it_none {p : Par} {x : IdB} {n : Nat} (h : it p n x = none) : ∀ m, n ≤ m → it p m x = none := fun m hm => by
  have h1 := it_add p n (m - n) x
  rw [show n + (m - n) = m by omega, h] at h1
  exact h1
theorem zsPar2 (u z : Option IdB) : (pvC u).toArray.size = (pvC z).toArray.size := by rw [List.size_toArray, List.size_toArray, show (pvC u).length = 33 from parE.len u, show (pvC z).length = 33 from parE.len z]
set_option maxRecDepth 100000 in
set_option maxHeartbeats 2000000 in
theorem cycle_any {w : World} (v uv : Value) (L : List RowV) (hv : RowsAt w v L) (hu : ListAt parE w uv (dirL L)) (hn : (L.map (·.id)).Nodup) (hl : L.length < 1000000) (i0 : Nat) (hi0 : i0 < L.length) :
    Calls Try.prog 47 #[v, uv, .int .i64 (i0 : Int)] w (CycPost w L L[i0].id i0) := by
  obtain ⟨x, hx⟩ : ∃ x, L[i0].id = x := ⟨_, rfl⟩
  have hUl : (dirL L).length = L.length := by unfold dirL; rw [List.length_map]
  have hp1 : it (parP L) 1 x = L[i0].refs.getLast? := by rw [it_one, ← hx, parP_art hn hi0]
  have hd0 : (dirL L)[i0]'(by rw [hUl]; exact hi0) = L[i0].refs.getLast? := by unfold dirL; rw [List.getElem_map]
  obtain ⟨u0, hu0⟩ : ∃ u0, L[i0].refs.getLast? = u0 := ⟨_, rfl⟩
  rw [hu0] at hp1 hd0
  rw [hx]
  obtain ⟨va, vc, rfl⟩ := hv.l.form
  obtain ⟨ua, uc, rfl⟩ := hu.form
  obtain ⟨g2, o2, e2, hg2, hr2⟩ := hu.get (i := i0) (by rw [hUl]; exact hi0)
  subst e2
  rw [hd0] at hr2
  have hrid : ∀ w', Below w.heap.size w w' → ∃ g1 o1, va = some ⟨g1, o1, none⟩ ∧ w'.rangeAt g1 (o1 + i0 * 83) (bvs x.1) := fun w' hw' => by
    obtain ⟨g1, o1, e1, hg1, hr1⟩ := hv.l.get hi0
    refine ⟨g1, o1, e1, ?_⟩
    rw [← hx]
    exact row_id (range_below (show w.rangeAt g1 (o1 + i0 * 83) L[i0].cells from hr1) hg1 hw')
  obtain ⟨g1, o1, e1, _⟩ := hrid w (Below.refl _ _)
  subst e1
  have HRID := Lib.hid (show ∀ w', Below w.heap.size w w' → w'.rangeAt g1 (o1 + i0 * 83) (bvs x.1) from fun w' hw' => by
    obtain ⟨g1', o1', e1, h⟩ := hrid w' hw'
    cases e1
    exact h)
  obtain ⟨N, hN⟩ : ∃ N, L.length = N := ⟨_, rfl⟩
  have HLL := Lib.hid hl
  rw [hN] at hv hl hi0 hUl ⊢
  rw [hUl] at hu ⊢
  obtain ⟨U, hU⟩ : ∃ U, dirL L = U := ⟨_, rfl⟩
  rw [hU] at hu hUl
  have HUD := Lib.hid hU
  have HUN := Lib.hid hUl
  have HN := Lib.hid hN
  have HND := Lib.hid hn
  have HV := Lib.hid hv
  have HU := Lib.hid hu
  have HP1 := Lib.hid hp1
  have HR2 := Lib.hid (show ∀ w', Below w.heap.size w w' → w'.rangeAt g2 (o2 + i0 * 33) (pvC u0) from fun w' hw' => range_below (show w.rangeAt g2 (o2 + i0 * 33) (pvC u0) from hr2) hg2 hw')
  obtain ⟨B, hB⟩ : ∃ B, w.heap.size = B := ⟨_, rfl⟩
  have HBE := Lib.hid hB
  have hi0I : (i0 : Int) < (N : Int) := by omega
  clear hv hu hN hn hp1 hd0 hu0 hx hr2 hg2 hUl hU hrid hB
  go_enter Try.func47, Try.ntmps47
  go_wp2_with (refine wpList_litN rfl (some 12) rfl (.tmp 11) rfl i0 rfl ?_; refine Stop.on ?_)
  refine Stop.go ?_
  try simp only [Act.put, List.setIfInBounds_toArray, List.set_cons_zero, List.set_cons_succ]
  intro Wl xl bl sl
  try simp only [Act.put, List.setIfInBounds_toArray, List.set_cons_zero, List.set_cons_succ]
  rw [HBE.out] at xl ⊢
  have HOL := Lib.hid xl
  have HBL := Lib.hid bl
  have HSL := Lib.hid sl
  have HRL := Lib.hid (HR2.out Wl bl)
  clear xl bl sl
  go_wp2_with (with_reducible refine wpList_load_mid rfl 63 (.tmp 15) rfl g2 (o2 + i0 * 33) rfl (pvC u0) _ HRL.out Try.underlying63 rfl (sizePar u0) ?_; refine Stop.on ?_)
  refine Stop.go ?_
  try simp only [Act.put, List.setIfInBounds_toArray, List.set_cons_zero, List.set_cons_succ]
  go_wp2_with (refine wpList_newV rfl (some 8) rfl 63 rfl (pvC none).toArray 33 (by kernel_rfl) ?_; refine Stop.on ?_)
  refine Stop.go ?_
  try simp only [Act.put, List.setIfInBounds_toArray, List.set_cons_zero, List.set_cons_succ]
  intro wn xn bi sn
  try simp only [Act.put, List.setIfInBounds_toArray, List.set_cons_zero, List.set_cons_succ]
  refine wpList_putV rfl rfl 63 (.tmp 8) (.tmp 16) rfl _ (pvC u0).toArray rfl rfl 63 _ xn (sizeParA u0) (zsPar u0) (onePar u0) ?_
  intro W1 xi ci si
  try simp only [Act.put, List.setIfInBounds_toArray, List.set_cons_zero, List.set_cons_succ]
  clear xn
  obtain ⟨P, hP⟩ : ∃ P, Wl.heap.size = P := ⟨_, rfl⟩
  rw [hP] at xi ⊢
  have HPB := Lib.hid (show P = B + 1 by have := HSL.out; have := HBE.out; omega)
  have HXP := Lib.hid xi
  have HOB := Lib.hid (HOL.out.below (bi.trans (ci.below (B := Wl.heap.size) (fun k e => by omega) bi.size)))
  have HB1 := Lib.hid (HBL.out.trans ((bi.trans (ci.below (B := Wl.heap.size) (fun k e => by omega) bi.size)).mono HBL.out.size))
  have HPS := Lib.hid (show P < W1.heap.size by omega)
  have HDJ := Lib.hid (show ∀ k, (Value.slice (some ⟨B, 0, none⟩) 1 1).ownBlock = some k → k ≠ P from fun k hk e => by
    have := HPB.out
    have h2 : B = k := Option.some.inj hk
    omega)
  have HC0 := Lib.hid (show OwnL natE W1 B (.slice (some ⟨B, 0, none⟩) 1 1) (cycAcc L (parP L) x i0 0) from HOB.out)
  have HIT0 := Lib.hid (show it (parP L) (0 + 1) x = u0 from HP1.out)
  have HNO0 := Lib.hid (show ∀ n, n < 0 → it (parP L) (n + 1) x ≠ some x from fun n hn => absurd hn (Nat.not_lt_zero n))
  clear xi bi ci si sn hP HOL HBL HSL HRL HOB
  go_wp2_with fail
  go_loopw [7, 9, 10] (fun ov sv iv wr => ∃ (s : Nat) (pp : Option IdB) (oa : Option Addr) (on oc : Nat), s ≤ 3 * N + 3 ∧ on ≤ s + 1 ∧ sv = .int .i64 (s : Int) ∧ ov = .slice oa on oc ∧ Hid (OwnL natE wr B (.slice oa on oc) (cycAcc L (parP L) x i0 s)) ∧ Hid (∀ k, (Value.slice oa on oc).ownBlock = some k → k ≠ P) ∧ Hid (wr.heap[P]? = some (.cells (pvC pp).toArray 63 (0, 0))) ∧ Hid (it (parP L) (s + 1) x = pp) ∧ Hid (∀ n, n < s → it (parP L) (n + 1) x ≠ some x) ∧ Hid (Below w.heap.size w wr)) (fun _ sv _ _ => 3 * N + 3 - (intOf sv).toNat)
  case atStart => exact ⟨0, u0, _, 1, 1, by omega, by omega, rfl, rfl, HC0, HDJ, HXP, HIT0, HNO0, HB1⟩
  case round =>
    obtain ⟨s, pp, oa, on, oc, hs, hon, rfl, rfl, HC, HD, HX, HIT, HNO, HB⟩ := hrel
    obtain ⟨W0, rfl⟩ : ∃ W0, W0 = wr := ⟨_, rfl⟩
    clear HC0 HDJ HXP HIT0 HNO0 HB1
    by_cases hlt : s < 3 * N + 3
    case neg =>
      have hsd : ¬ ((s : Int) < 3 * (N : Int) + 3) := by omega
      have HRES := Lib.hid (show CycR L x i0 [] from .inl ⟨rfl, fun n hn => HNO.out n (by rw [HN.out] at hn; omega)⟩)
      go_wp2_with fail
      exact bodyPost_ret (v := .slice none 0 0) (by simp [results, Try.results47, go_sem]) rfl ⟨_, [], rfl, ownL_nil natE _ _, HRES.out, HB.out⟩
    have hsd : (s : Int) < 3 * (N : Int) + 3 := by omega
    obtain ⟨eb, _⟩ := par_cells (range_block (cs := pvC pp) HX.out)
    cases pp with
    | none =>
      have eb : W0.cell? ⟨P, 0, none⟩ = some (.bool false) := eb
      have HRES := Lib.hid (show CycR L x i0 [] from .inl ⟨rfl, fun n hn => by
        by_cases hns : n < s
        · exact HNO.out n hns
        · rw [it_none HIT.out (n + 1) (by omega)]
          exact fun e => by cases e⟩)
      go_wp2_with fail
      exact bodyPost_ret (v := .slice none 0 0) (by simp [results, Try.results47, go_sem]) rfl ⟨_, [], rfl, ownL_nil natE _ _, HRES.out, HB.out⟩
    | some y =>
      have eb : W0.cell? ⟨P, 0, none⟩ = some (.bool true) := eb
      go_wp2_with fail
      refine wp_region_seq 7 (by kernel_rfl) (by kernel_rfl) ?_
      simp only [List.take_succ_cons, List.take_zero, List.drop_succ_cons, List.drop_zero]
      obtain ⟨wd, hwd⟩ : ∃ wd, W0.drew = wd := ⟨_, rfl⟩
      have hd_wd : Below W0.heap.size W0 wd ∧ wd.heap.size = W0.heap.size := hwd ▸ ⟨(Below.refl _ _).drew, rfl⟩
      rw [hwd]
      clear hwd
      have hyr : ∀ w', Below W0.heap.size W0 w' → w'.heap[P]? = some (.cells (pvC (some y)).toArray 63 (0, 0)) := fun w' hw' => (hw'.block P (Array.getElem?_eq_some_iff.1 HX.out).1).trans HX.out
      have HYR := Lib.hid (show ∀ w', Below W0.heap.size W0 w' → w'.rangeAt P 1 (bvs y.1) from fun w' hw' => by
        have h1 := (par_cells (range_block (cs := pvC (some y)) (hyr w' hw'))).2
        rwa [Nat.zero_add] at h1)
      have HYB := Lib.hid hyr
      have HYd := Lib.hid (HYR.out wd hd_wd.1)
      have HXd := Lib.hid (HRID.out wd (HB.out.trans (hd_wd.1.mono HB.out.size)))
      have HDd := Lib.hid hd_wd.1
      clear hd_wd eb hyr
      go_wp2_with (with_reducible refine wpList_load_mid rfl 35 (.tmp 29) rfl P 1 rfl (bvs y.1) _ HYd.out Try.underlying35 rfl (sizeId y) ?_; refine Stop.on ?_)
      refine Stop.go ?_
      try simp only [Act.put, List.setIfInBounds_toArray, List.set_cons_zero, List.set_cons_succ]
      go_wp2_with (with_reducible refine wpList_load_mid rfl 35 (.tmp 34) rfl g1 (o1 + i0 * 83) rfl (bvs x.1) _ HXd.out Try.underlying35 rfl (sizeId x) ?_; refine Stop.on ?_)
      refine Stop.go ?_
      try simp only [Act.put, List.setIfInBounds_toArray, List.set_cons_zero, List.set_cons_succ]
      refine HeadPost.mk ?_
      refine wpList_runI rfl (some 36) rfl (.bool (decide (y = x))) _ (op_eql 35 (.tmp 30) (.tmp 35) 35 rfl rfl rfl guard_Id (eql_Id y x _)) ?_
      try simp only [Act.put, List.setIfInBounds_toArray, List.set_cons_zero, List.set_cons_succ]
      have HCd := Lib.hid (HC.out.below HDd.out)
      have HBd := Lib.hid (HB.out.trans (HDd.out.mono HB.out.size))
      by_cases hxy : y = x
      case pos =>
        rw [decide_eq_true hxy]
        have HRES := Lib.hid (show CycR L x i0 (cycAcc L (parP L) x i0 s) from .inr ⟨s, by rw [HN.out]; exact hlt, by rw [HIT.out, hxy], rfl⟩)
        clear hxy
        go_wp2_with fail
        exact bodyPost_ret (v := .slice oa on oc) (by simp [results, Try.results47, go_sem]) rfl ⟨_, _, rfl, by rw [HBE.out]; exact HCd.out, HRES.out, HBd.out⟩
      rw [decide_eq_false hxy]
      have HXY := Lib.hid hxy
      clear hxy
      have HVd := Lib.hid ((HV.out.below HB.out).below HDd.out)
      go_wp2_with (with_reducible refine wpList_load_mid rfl 35 (.tmp 39) rfl P 1 rfl (bvs y.1) _ HYd.out Try.underlying35 rfl (sizeId y) ?_; refine Stop.on ?_)
      refine Stop.go ?_
      try simp only [Act.put, List.setIfInBounds_toArray, List.set_cons_zero, List.set_cons_succ]
      go_wp2_with fail
      refine (index_any _ L y HVd.out HLL.out).mono ?_
      rintro e Wi ⟨rfl, hbi⟩
      obtain ⟨ix, hix⟩ : ∃ ix, idxL L y = ix := ⟨_, rfl⟩
      rw [hix]
      have HIX := Lib.hid hix
      have HDi := Lib.hid (HDd.out.trans (hbi.mono HDd.out.size))
      have HCi := Lib.hid (HCd.out.below hbi)
      clear hbi hix
      by_cases hi0 : 0 ≤ ix
      case pos =>
        have hid0 : decide (0 ≤ ix) = true := decide_eq_true hi0
        obtain ⟨k, rfl⟩ : ∃ k : Nat, ix = (k : Int) := ⟨ix.toNat, by omega⟩
        have HNXC := Lib.hid (show cycAcc L (parP L) x i0 (s + 1) = cycAcc L (parP L) x i0 s ++ [k] by
          rw [cycAcc, HIT.out]
          dsimp only
          rw [if_pos (by rw [HIX.out]; omega), HIX.out]
          rfl)
        have HON := Lib.hid (show (cycAcc L (parP L) x i0 s).length = on by obtain ⟨a', c', e⟩ := HC.out.form; cases e; rfl)
        go_wp2_with (refine wpList_litN rfl (some 46) rfl (.tmp 45) rfl k rfl ?_; refine Stop.on ?_)
        refine Stop.go ?_
        try simp only [Act.put, List.setIfInBounds_toArray, List.set_cons_zero, List.set_cons_succ]
        intro Wl xl bl sl
        try simp only [Act.put, List.setIfInBounds_toArray, List.set_cons_zero, List.set_cons_succ]
        have HLL2 := Lib.hid xl.at_
        have HCl := Lib.hid (HCi.out.below bl)
        have HDl := Lib.hid (HDi.out.trans (bl.mono HDi.out.size))
        clear xl bl sl
        have HBl := Lib.hid (HB.out.trans (HDl.out.mono HB.out.size))
        have HBs := Lib.hid (show B ≤ Wl.heap.size by have := HBl.out.size; have := HBE.out; omega)
        go_wp2_with (refine wpList_appL natE rfl (.tmp 44) (.tmp 46) rfl rfl HCl.out rfl HLL2.out (n := on) (m := 1) HON.out rfl (by omega) HBs.out ?_; refine Stop.on ?_)
        refine Stop.go ?_
        try simp only [Act.put, List.setIfInBounds_toArray, List.set_cons_zero, List.set_cons_succ]
        intro oa5 oc5 W5 ho5 hg5 hat5
        try simp only [Act.put, List.setIfInBounds_toArray, List.set_cons_zero, List.set_cons_succ]
        have HC5 := Lib.hid ho5
        have hPl : P < Wl.heap.size := Nat.lt_of_lt_of_le (Array.getElem?_eq_some_iff.1 HX.out).1 HDl.out.size
        have HDJ5 := Lib.hid (show ∀ k, (Value.slice oa5 (on + 1) oc5).ownBlock = some k → k ≠ P from fun j hj e => by
          rcases hat5 j hj with h | h
          · exact HD.out j h e
          · omega)
        have hc5 := OwnL.grown_chg hg5
        have HXW := Lib.hid (show W5.heap[P]? = some (.cells (pvC (some y)).toArray 63 (0, 0)) from (hc5.block P hPl (fun h => HD.out P h rfl)).trans (HYB.out Wl HDl.out))
        have HBW := Lib.hid (HBl.out.trans (by rw [HBE.out]; exact HCl.out.grown_below hg5 HBs.out))
        have HYW := Lib.hid (show W5.rangeAt P 1 (bvs y.1) by
          have h1 := (par_cells (range_block (cs := pvC (some y)) HXW.out)).2
          rwa [Nat.zero_add] at h1)
        have HVW := Lib.hid (HV.out.below HBW.out)
        have HUW := Lib.hid (HU.out.below HBW.out)
        have HPW := Lib.hid (Array.getElem?_eq_some_iff.1 HXW.out).1
        clear ho5 hg5 hat5 hPl hc5
        go_wp2_with (with_reducible refine wpList_load_mid rfl 35 (.tmp 50) rfl P 1 rfl (bvs y.1) _ HYW.out Try.underlying35 rfl (sizeId y) ?_; refine Stop.on ?_)
        refine Stop.go ?_
        try simp only [Act.put, List.setIfInBounds_toArray, List.set_cons_zero, List.set_cons_succ]
        go_wp2_with fail
        refine (next_any _ _ L U y HVW.out HUW.out (by rw [HUN.out, HN.out]) HND.out HLL.out).mono ?_
        rintro e Wn ⟨rfl, hbn⟩
        obtain ⟨z, hz⟩ : ∃ z, nxtP L U y = z := ⟨_, rfl⟩
        rw [hz]
        have HZ := Lib.hid (show it (parP L) (s + 1 + 1) x = z by rw [it_succ, HIT.out, ← hz, ← HUD.out, nxtP_dir HND.out]; rfl)
        have HXn := Lib.hid ((hbn.block P HPW.out).trans HXW.out)
        have HCn := Lib.hid (HC5.out.below hbn)
        have HBn := Lib.hid (HBW.out.trans (hbn.mono HBW.out.size))
        clear hbn hz
        go_wp2_with (refine wpList_putV rfl rfl 63 (.tmp 8) (.tmp 52) rfl _ (pvC z).toArray rfl rfl 63 _ HXn.out (sizeParA _) (zsPar2 _ _) (onePar _) ?_; refine Stop.on ?_)
        refine Stop.go ?_
        try simp only [Act.put, List.setIfInBounds_toArray, List.set_cons_zero, List.set_cons_succ]
        intro W9 x9 c9 s9
        try simp only [Act.put, List.setIfInBounds_toArray, List.set_cons_zero, List.set_cons_succ]
        have HX9 := Lib.hid x9
        have HB9 := Lib.hid (HBn.out.trans (c9.below (B := w.heap.size) (fun k e => by have := HPB.out; have := HBE.out; omega) HBn.out.size))
        have HC9 := Lib.hid (show OwnL natE W9 B (.slice oa5 (on + 1) oc5) (cycAcc L (parP L) x i0 (s + 1)) by
          rw [HNXC.out]
          exact HCn.out.chg c9 (fun k hk e => HDJ5.out k hk e))
        have HNO9 := Lib.hid (show ∀ n, n < s + 1 → it (parP L) (n + 1) x ≠ some x from fun n hn => by
          by_cases h : n = s
          · rw [h, HIT.out]
            exact fun e => HXY.out (Option.some.inj e)
          · exact HNO.out n (by omega))
        clear x9 c9 s9
        go_wp2_with fail
        go_roundw
        case rel => exact ⟨s + 1, z, _, _, _, by omega, by omega, by go_num, rfl, HC9, HDJ5, HX9, HZ, HNO9, HB9⟩
        case measure => simp [intOf] <;> omega
      have hid0 : decide (0 ≤ ix) = false := decide_eq_false hi0
      have HNXC := Lib.hid (show cycAcc L (parP L) x i0 (s + 1) = cycAcc L (parP L) x i0 s by
        rw [cycAcc, HIT.out]
        dsimp only
        rw [if_neg (by rw [HIX.out]; exact hi0)])
      have HXW := Lib.hid (HYB.out Wi HDi.out)
      have HBW := Lib.hid (HB.out.trans (HDi.out.mono HB.out.size))
      have HYW := Lib.hid (HYR.out Wi HDi.out)
      have HVW := Lib.hid (HV.out.below HBW.out)
      have HUW := Lib.hid (HU.out.below HBW.out)
      have HPW := Lib.hid (Array.getElem?_eq_some_iff.1 HXW.out).1
      go_wp2_with (with_reducible refine wpList_load_mid rfl 35 (.tmp 50) rfl P 1 rfl (bvs y.1) _ HYW.out Try.underlying35 rfl (sizeId y) ?_; refine Stop.on ?_)
      refine Stop.go ?_
      try simp only [Act.put, List.setIfInBounds_toArray, List.set_cons_zero, List.set_cons_succ]
      go_wp2_with fail
      refine (next_any _ _ L U y HVW.out HUW.out (by rw [HUN.out, HN.out]) HND.out HLL.out).mono ?_
      rintro e Wn ⟨rfl, hbn⟩
      obtain ⟨z, hz⟩ : ∃ z, nxtP L U y = z := ⟨_, rfl⟩
      rw [hz]
      have HZ := Lib.hid (show it (parP L) (s + 1 + 1) x = z by rw [it_succ, HIT.out, ← hz, ← HUD.out, nxtP_dir HND.out]; rfl)
      have HXn := Lib.hid ((hbn.block P HPW.out).trans HXW.out)
      have HCn := Lib.hid (HCi.out.below hbn)
      have HBn := Lib.hid (HBW.out.trans (hbn.mono HBW.out.size))
      clear hbn hz
      go_wp2_with (refine wpList_putV rfl rfl 63 (.tmp 8) (.tmp 52) rfl _ (pvC z).toArray rfl rfl 63 _ HXn.out (sizeParA _) (zsPar2 _ _) (onePar _) ?_; refine Stop.on ?_)
      refine Stop.go ?_
      try simp only [Act.put, List.setIfInBounds_toArray, List.set_cons_zero, List.set_cons_succ]
      intro W9 x9 c9 s9
      try simp only [Act.put, List.setIfInBounds_toArray, List.set_cons_zero, List.set_cons_succ]
      have HX9 := Lib.hid x9
      have HB9 := Lib.hid (HBn.out.trans (c9.below (B := w.heap.size) (fun k e => by have := HPB.out; have := HBE.out; omega) HBn.out.size))
      have HC9 := Lib.hid (show OwnL natE W9 B (.slice oa on oc) (cycAcc L (parP L) x i0 (s + 1)) by
        rw [HNXC.out]
        exact HCn.out.chg c9 (fun k hk e => HD.out k hk e))
      have HNO9 := Lib.hid (show ∀ n, n < s + 1 → it (parP L) (n + 1) x ≠ some x from fun n hn => by
        by_cases h : n = s
        · rw [h, HIT.out]
          exact fun e => HXY.out (Option.some.inj e)
        · exact HNO.out n (by omega))
      clear x9 c9 s9
      go_wp2_with fail
      go_roundw
      case rel => exact ⟨s + 1, z, _, _, _, by omega, by omega, by go_num, rfl, HC9, HD, HX9, HZ, HNO9, HB9⟩
      case measure => simp [intOf] <;> omega
set_option maxRecDepth 100000 in
set_option maxHeartbeats 2000000 in
theorem acyclic_any {w : World} (v : Value) (L : List RowV) (hv : RowsAt w v L) (hn : (L.map (·.id)).Nodup) (hl : L.length < 1000000) :
    Calls Try.prog 23 #[v] w (AcyPost w L) := by
  obtain ⟨va, vc, rfl⟩ := hv.l.form
  have HLL := Lib.hid hl
  obtain ⟨N, hN⟩ : ∃ N, L.length = N := ⟨_, rfl⟩
  rw [hN] at hv hl ⊢
  have HN := Lib.hid hN
  have HND := Lib.hid hn
  have HV := Lib.hid hv
  clear hv hN hn
  go_enter Try.func23, Try.ntmps23
  go_wp2_with fail
  refine (direct_any _ L HV.out HLL.out).mono ?_
  rintro e Wd ⟨dv, rfl, hod, hbd⟩
  obtain ⟨da, dc, rfl⟩ := hod.form
  have HU := Lib.hid hod.at_
  have HVd := Lib.hid (HV.out.below hbd)
  have HBd := Lib.hid hbd
  have HB0 := Lib.hid (Below.refl Wd.heap.size Wd)
  clear hod hbd
  go_wp2_with fail
  go_loopw [4] (fun iv wr => ∃ i : Nat, i ≤ N ∧ iv = .int .i64 (i : Int) ∧ Hid (∀ j (hj : j < L.length), j < i → ¬ onC (parP L) L[j].id) ∧ Hid (Below Wd.heap.size Wd wr)) (fun iv _ => N - (intOf iv).toNat)
  case atStart => exact ⟨0, Nat.zero_le _, rfl, Lib.hid (fun j _ h => absurd h (Nat.not_lt_zero j)), HB0⟩
  case round =>
    obtain ⟨i, hi, rfl, HA, HB⟩ := hrel
    obtain ⟨W0, rfl⟩ : ∃ W0, W0 = wr := ⟨_, rfl⟩
    clear HB0
    by_cases hlt : i < N
    case neg =>
      obtain rfl : i = N := by omega
      have HF := Lib.hid (show ∀ x, ¬ onC (parP L) x from acyclic_arts (fun j hj => HA.out j hj (by rw [← HN.out]; exact hj)))
      have HBE := Lib.hid (HBd.out.trans (HB.out.mono HBd.out.size))
      go_wp2_with fail
      exact bodyPost_ret (v := .bool true) (by simp [results, Try.results23, go_sem]) rfl ⟨true, rfl, ⟨fun _ => HF.out, fun _ => rfl⟩, HBE.out⟩
    have hiL : i < L.length := by rw [HN.out]; exact hlt
    have hiN : (i : Int) < (N : Int) := by omega
    go_wp2_with fail
    refine (cycle_any _ _ L (HVd.out.below HB.out) (HU.out.below HB.out) HND.out HLL.out i hiL).mono ?_
    rintro e Wc ⟨cv, C, rfl, hoc, hcy, hbc⟩
    obtain ⟨ca, cc, rfl⟩ := hoc.form
    have HCY := Lib.hid (hcy.nil HND.out)
    have HBc := Lib.hid (HB.out.trans (hbc.mono HB.out.size))
    obtain ⟨cn, hcn⟩ : ∃ cn, C.length = cn := ⟨_, rfl⟩
    rw [hcn]
    have HCN := Lib.hid hcn
    clear hoc hcy hbc hcn
    by_cases h0 : 0 < cn
    case pos =>
      have h0d : decide ((0 : Int) < (cn : Int)) = true := decide_eq_true (by omega)
      have HF := Lib.hid (show ¬ ∀ x, ¬ onC (parP L) x from fun h => absurd (HCY.out.2 (h _)) (fun e => by have := HCN.out; rw [e] at this; simp at this; omega))
      have HBE := Lib.hid (HBd.out.trans (HBc.out.mono HBd.out.size))
      go_wp2_with fail
      exact bodyPost_ret (v := .bool false) (by simp [results, Try.results23, go_sem]) rfl ⟨false, rfl, ⟨(fun e => by cases e), fun h => absurd h HF.out⟩, HBE.out⟩
    have h0d : decide ((0 : Int) < (cn : Int)) = false := decide_eq_false (by omega)
    have HA1 := Lib.hid (show ∀ j (hj : j < L.length), j < i + 1 → ¬ onC (parP L) L[j].id from fun j hj hji => by
      by_cases e : j = i
      · subst e
        exact HCY.out.1 (List.eq_nil_of_length_eq_zero (by have := HCN.out; omega))
      · exact HA.out j hj (by omega))
    go_wp2_with fail
    go_roundw
    case rel => exact ⟨i + 1, by omega, by go_num, HA1, HBc⟩
    case measure => simp [intOf] <;> omega
end Go.Proofs.Ythfinofmbnfijaa
