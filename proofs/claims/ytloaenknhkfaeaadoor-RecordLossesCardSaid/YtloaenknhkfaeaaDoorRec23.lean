/- Records: the law's equalities. -/
import Derived.Test.YtloaenknhkfaeaaDoorRec21
namespace Go.Proofs.YtloaenknhkfaeaaDoor
open Go.RowKit
set_option linter.unusedVariables false
set_option linter.unusedSimpArgs false

set_option maxRecDepth 100000 in
set_option maxHeartbeats 1000000 in
theorem same_any {w : World} {F G : Nat → Prop} (x0 x1 x2 x3 x4 : Int) (a b : Option Addr) (n c m d : Nat) (l : List UInt8) (hv : BytesAt w F (.slice a n c) l) (hu : BytesAt w G (.slice b m d) l) :
    Calls Tryd.prog 23 #[.agg #[.int .i64 x0, .int .i64 x1, .int .i64 x2, .int .i64 x3, .int .i64 x4, .slice a n c], .agg #[.int .i64 x0, .int .i64 x1, .int .i64 x2, .int .i64 x3, .int .i64 x4, .slice b m d]] w fun e w' => e = .returned (.bool true) ∧ Below w.heap.size w w' := by
  have hba : Below w.heap.size w ((w.alloc (.cells #[.int .i64 x0, .int .i64 x1, .int .i64 x2, .int .i64 x3, .int .i64 x4, .slice a n c] 24)).alloc (.cells #[.int .i64 x0, .int .i64 x1, .int .i64 x2, .int .i64 x3, .int .i64 x4, .slice b m d] 24)) := ((Below.refl _ w).alloc (Nat.le_refl _) _).alloc (by simp) _
  have h1 := (hv.below hba).str
  have h2 := (hu.below hba).str
  clear hv hu
  have HBA := Lib.hid hba
  clear hba
  go_enter Tryd.func23, Tryd.ntmps23
  go_wp2_with fail
  go_ret
  exact ⟨rfl, HBA.out⟩

set_option maxRecDepth 100000 in
set_option maxHeartbeats 1000000 in
theorem Equal_any {w : World} {F G : Nat → Prop} (x0 x1 x2 y0 y1 y2 : Int) (a b : Option Addr) (n c m d : Nat) (l k : List UInt8) (hv : BytesAt w F (.slice a n c) l) (hu : BytesAt w G (.slice b m d) k) :
    Calls Tryd.prog 43 #[.agg #[.int .i64 x0, .int .i64 x1, .int .i64 x2, .slice a n c], .agg #[.int .i64 y0, .int .i64 y1, .int .i64 y2, .slice b m d]] w fun e w' => e = .returned (.bool (decide (x0 = y0) && decide (x1 = y1) && decide (x2 = y2) && (l == k))) ∧ Below w.heap.size w w' := by
  have hba : Below w.heap.size w ((w.alloc (.cells #[.int .i64 x0, .int .i64 x1, .int .i64 x2, .slice a n c] 50)).alloc (.cells #[.int .i64 y0, .int .i64 y1, .int .i64 y2, .slice b m d] 50)) := ((Below.refl _ w).alloc (Nat.le_refl _) _).alloc (by simp) _
  have heq := bytesEqual_any (hv.below hba) (hu.below hba)
  have HEQ := Lib.hid heq
  clear heq hv hu
  have HBA := Lib.hid hba
  clear hba
  by_cases h0 : x0 = y0
  · subst h0
    by_cases h1 : x1 = y1
    · subst h1
      by_cases h2 : x2 = y2
      · subst h2
        simp only [decide_true, Bool.true_and]
        go_enter Tryd.func43, Tryd.ntmps43
        go_wp2_with fail
        refine HEQ.out.mono ?_
        rintro e w' ⟨rfl, rfl⟩
        go_wp2_with fail
        go_ret
        exact ⟨rfl, HBA.out⟩
      · simp only [decide_true, Bool.true_and, Bool.and_true, h2, decide_false, Bool.false_and, Bool.and_false]
        go_enter Tryd.func43, Tryd.ntmps43
        go_wp2_with fail
        go_ret
        exact ⟨rfl, HBA.out⟩
    · simp only [decide_true, Bool.true_and, Bool.and_true, h1, decide_false, Bool.false_and, Bool.and_false]
      go_enter Tryd.func43, Tryd.ntmps43
      go_wp2_with fail
      go_ret
      exact ⟨rfl, HBA.out⟩
  · simp only [decide_true, Bool.true_and, Bool.and_true, h0, decide_false, Bool.false_and, Bool.and_false]
    go_enter Tryd.func43, Tryd.ntmps43
    go_wp2_with fail
    go_ret
    exact ⟨rfl, HBA.out⟩

set_option maxRecDepth 100000 in
set_option maxHeartbeats 1000000 in
theorem rEqual_any {w : World} {F G : Nat → Prop} (x0 x1 x2 y0 y1 y2 : Int) (a b : Option Addr) (n c m d : Nat) (l k : List UInt8) (hv : BytesAt w F (.slice a n c) l) (hu : BytesAt w G (.slice b m d) k) :
    Calls Tryd.prog 37 #[.agg #[.int .i64 x0, .int .i64 x1, .int .i64 x2, .slice a n c], .agg #[.int .i64 y0, .int .i64 y1, .int .i64 y2, .slice b m d]] w fun e w' => e = .returned (.bool (decide (x0 = y0) && decide (x1 = y1) && decide (x2 = y2) && (l == k))) ∧ Below w.heap.size w w' := by
  have hba : Below w.heap.size w ((w.alloc (.cells #[.int .i64 x0, .int .i64 x1, .int .i64 x2, .slice a n c] 49)).alloc (.cells #[.int .i64 y0, .int .i64 y1, .int .i64 y2, .slice b m d] 49)) := ((Below.refl _ w).alloc (Nat.le_refl _) _).alloc (by simp) _
  have h1 := (hv.below hba).str
  have h2 := (hu.below hba).str
  clear hv hu
  have HBA := Lib.hid hba
  clear hba
  by_cases h0 : x0 = y0
  · subst h0
    by_cases h1 : x1 = y1
    · subst h1
      by_cases h2 : x2 = y2
      · subst h2
        simp only [decide_true, Bool.true_and]
        go_enter Tryd.func37, Tryd.ntmps37
        go_wp2_with fail
        go_ret
        exact ⟨rfl, HBA.out⟩
      · simp only [decide_true, Bool.true_and, Bool.and_true, h2, decide_false, Bool.false_and, Bool.and_false]
        go_enter Tryd.func37, Tryd.ntmps37
        go_wp2_with fail
        go_ret
        exact ⟨rfl, HBA.out⟩
    · simp only [decide_true, Bool.true_and, Bool.and_true, h1, decide_false, Bool.false_and, Bool.and_false]
      go_enter Tryd.func37, Tryd.ntmps37
      go_wp2_with fail
      go_ret
      exact ⟨rfl, HBA.out⟩
  · simp only [decide_true, Bool.true_and, Bool.and_true, h0, decide_false, Bool.false_and, Bool.and_false]
    go_enter Tryd.func37, Tryd.ntmps37
    go_wp2_with fail
    go_ret
    exact ⟨rfl, HBA.out⟩

set_option maxRecDepth 100000 in
set_option maxHeartbeats 1000000 in
theorem collide_any {w : World} {F G : Nat → Prop} (v u : Value) (l k : List UInt8) (hv : BytesN w F v l) (hu : BytesN w G u k) (hl : l.length < 100000000) (hk : k.length < 100000000) (hne : l ≠ k) (hh : halfL l = halfL k) :
    Calls Tryd.prog 26 #[v, u] w fun e w' => e = .returned (.bool true) ∧ Below w.heap.size w w' := by
  obtain ⟨va, vc, rfl⟩ := hv.at_.form
  obtain ⟨ua, uc, rfl⟩ := hu.at_.form
  have hs1 := rSum_any l _ hv hl
  have HS1 := Lib.hid hs1
  have HV := Lib.hid hv
  have HU := Lib.hid hu
  have HLK := Lib.hid hk
  have HNE := Lib.hid (show (l == k) = false by simpa using hne)
  have HH := Lib.hid hh
  clear hs1 hv hu hl hk hne hh
  go_enter Tryd.func26, Tryd.ntmps26
  go_wp2_with fail
  refine HS1.out.mono ?_
  rintro e w1 ⟨rfl, hb1⟩
  have hu1 := HU.out.below hb1
  have hs2 := rSum_any k _ hu1 HLK.out
  have HS2 := Lib.hid hs2
  have HB1 := Lib.hid hb1
  clear hs2 hu1 hb1
  go_wp2_with fail
  refine HS2.out.mono ?_
  rintro e w2 ⟨rfl, hb2⟩
  have hbd2 := HB1.out.trans (hb2.mono HB1.out.size)
  have hv2 := (HV.out.below HB1.out).below hb2
  have hu2 := (HU.out.below HB1.out).below hb2
  obtain ⟨wa, hwa⟩ : ∃ wa, (w2.alloc (.cells Z32 92)).alloc (.cells Z32 92) = wa := ⟨_, rfl⟩
  have hba : Below w2.heap.size w2 wa := hwa ▸ ((Below.refl _ _).alloc (Nat.le_refl _) _).alloc (by simp) _
  have hx : wa.heap[w2.heap.size]? = some (.cells Z32 92 (0, 0)) := by rw [← hwa]; exact (Below.heap_alloc _ _ _ (by simp)).trans (heap_alloc_new _ _)
  have hy : wa.heap[w2.heap.size + 1]? = some (.cells Z32 92 (0, 0)) := by
    have := heap_alloc_new (w2.alloc (.cells Z32 92)) (.cells Z32 92)
    rw [World.size_alloc] at this
    rw [← hwa]; exact this
  obtain ⟨wb, hwb⟩ : ∃ wb, wa.setRow w2.heap.size (bvs (shaL l)).toArray = wb := ⟨_, rfl⟩
  have hyb : wb.heap[w2.heap.size + 1]? = some (.cells Z32 92 (0, 0)) := by rw [← hwb, setRow_other _ _ _ _ (by omega)]; exact hy
  have hxb : wb.heap[w2.heap.size]? = some (.cells (bvs (shaL l)).toArray 92 (0, 0)) := by rw [← hwb]; exact setRow_heap _ _ _ _ _ _ hx
  obtain ⟨wc, hwc⟩ : ∃ wc, wb.setRow (w2.heap.size + 1) (bvs (shaL k)).toArray = wc := ⟨_, rfl⟩
  have hyc : wc.heap[w2.heap.size + 1]? = some (.cells (bvs (shaL k)).toArray 92 (0, 0)) := by rw [← hwc]; exact setRow_heap _ _ _ _ _ _ hyb
  have hxc : wc.heap[w2.heap.size]? = some (.cells (bvs (shaL l)).toArray 92 (0, 0)) := by rw [← hwc, setRow_other _ _ _ _ (by omega)]; exact hxb
  have hbb : Below w2.heap.size w2 wb := hwb ▸ below_setRow hba (Nat.le_refl _) _
  have hbc : Below w2.heap.size w2 wc := hwc ▸ below_setRow hbb (Nat.le_succ _) _
  have s1 := fun n => ((hv2.below hbc).at_.drewN n).str
  have s2 := fun n => ((hu2.below hbc).at_.drewN n).str
  have hp1 := block_bytes hxc 0 16 32 (by simp) (by omega)
  have hp2 := block_bytes hyc 0 16 32 (by simp) (by omega)
  have eh : ((shaL l).drop 0).take 16 = halfL k := HH.out
  have ek : ((shaL k).drop 0).take 16 = halfL k := rfl
  rw [eh] at hp1
  rw [ek] at hp2
  have s3 := fun n => (hp1.drewN n).str
  have s4 := fun n => (hp2.drewN n).str
  have q1 := fun w => slice_to32 w2.heap.size w
  have q2 := fun w => slice_to32 (w2.heap.size + 1) w
  have HSZ := Lib.hid (z32Size l)
  have HSZ2 := Lib.hid (z32Size k)
  have HD1 := Lib.hid (d32Size l)
  have HD2 := Lib.hid (d32Size k)
  have HX := Lib.hid hx
  have HYB := Lib.hid hyb
  have HWA := Lib.hid hwa
  have HWB := Lib.hid hwb
  have HWC := Lib.hid hwc
  have HBC := Lib.hid (hbd2.trans (hbc.mono hbd2.size))
  clear hv2 hu2 hba hx hy hyb hxb hyc hxc hbb hbc hp1 hp2 eh ek hwa hwb hwc hbd2 hb2
  go_wp2_with (first | (rw [HWA.out]; with_reducible refine wpList_store_row rfl 92 _ _ rfl w2.heap.size (bvs (shaL l)).toArray rfl rfl 92 _ HX.out HD1.out HSZ.out (oneCell_bvs _) ?_; rw [HWB.out]) | (with_reducible refine wpList_store_row rfl 92 _ _ rfl (w2.heap.size + 1) (bvs (shaL k)).toArray rfl rfl 92 _ HYB.out HD2.out HSZ2.out (oneCell_bvs _) ?_; rw [HWC.out]))
  have hnb := HNE.out
  go_quiet (fail)
  go_wp2_with fail
  go_ret
  exact ⟨rfl, HBC.out.trans (below_drewN2 _ _ _)⟩

end Go.Proofs.YtloaenknhkfaeaaDoor
