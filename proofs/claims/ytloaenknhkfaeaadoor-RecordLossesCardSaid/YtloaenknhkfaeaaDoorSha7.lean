/- sha256: Sum, SumHalf. -/
import Derived.Test.YtloaenknhkfaeaaDoorSha6
namespace Go.Proofs.YtloaenknhkfaeaaDoor
open Go.RowKit
set_option linter.unusedVariables false
set_option linter.unusedSimpArgs false

set_option maxHeartbeats 400000 in
theorem ShaNew_any (w : World) : Calls Tryd.prog 63 #[] w fun e w' => e = .returned (.pointer (some ⟨w.heap.size, 0, none⟩)) ∧ HashAt w' w.heap.size w8zero (List.replicate 64 0) 0 ∧ Below w.heap.size w w' := by
  have h1 := heap_alloc_new w (.cells Tryd.zeroCells125 125)
  rw [zcHash] at h1
  have H1 := Lib.hid h1
  clear h1
  go_enter Tryd.func63, Tryd.ntmps63
  go_wp2_with fail
  go_ret
  exact ⟨rfl, ⟨by simp, by rw [zcHash]; exact H1.out⟩, (Below.refl _ _).alloc (Nat.le_refl _) _⟩

theorem dSize {l : List UInt8} (h : l.length = 32) : (Tryd.prog.info? 108).map (·.size) = some (bvs l).toArray.size := by
  have : (Tryd.prog.info? 108).map (·.size) = some 32 := by kernel_rfl
  rw [this, List.size_toArray, bvs_length, h]

set_option maxRecDepth 100000 in
set_option maxHeartbeats 2000000 in
theorem ShaSum_any {w : World} (l : List UInt8) (bv : Value) {F : Nat → Prop} (hv : BytesAt w F bv l) (hK : KAt w) (hlen : l.length < 1000000000) :
    Calls Tryd.prog 58 #[bv] w fun e w' => e = .returned (cval (shaL l)) ∧ Below w.heap.size w w' := by
  obtain ⟨w1, hw1⟩ : ∃ w1, w.alloc (.cells #[.int .u8 0, .int .u8 0, .int .u8 0, .int .u8 0, .int .u8 0, .int .u8 0, .int .u8 0, .int .u8 0, .int .u8 0, .int .u8 0, .int .u8 0, .int .u8 0, .int .u8 0, .int .u8 0, .int .u8 0, .int .u8 0, .int .u8 0, .int .u8 0, .int .u8 0, .int .u8 0, .int .u8 0, .int .u8 0, .int .u8 0, .int .u8 0, .int .u8 0, .int .u8 0, .int .u8 0, .int .u8 0, .int .u8 0, .int .u8 0, .int .u8 0, .int .u8 0] 108) = w1 := ⟨_, rfl⟩
  have hb1 : Below w.heap.size w w1 := hw1 ▸ (Below.refl _ w).alloc (Nat.le_refl _) _
  have hs1 : w1.heap.size = w.heap.size + 1 := by rw [← hw1, World.size_alloc]
  have n1 : w1.heap[w.heap.size]? = some (.cells #[.int .u8 0, .int .u8 0, .int .u8 0, .int .u8 0, .int .u8 0, .int .u8 0, .int .u8 0, .int .u8 0, .int .u8 0, .int .u8 0, .int .u8 0, .int .u8 0, .int .u8 0, .int .u8 0, .int .u8 0, .int .u8 0, .int .u8 0, .int .u8 0, .int .u8 0, .int .u8 0, .int .u8 0, .int .u8 0, .int .u8 0, .int .u8 0, .int .u8 0, .int .u8 0, .int .u8 0, .int .u8 0, .int .u8 0, .int .u8 0, .int .u8 0, .int .u8 0] 108 (0, 0)) := by rw [← hw1]; exact heap_alloc_new w _
  have HK := Lib.hid hK
  have HV := Lib.hid hv
  have HW1 := Lib.hid hw1
  have HB1 := Lib.hid hb1
  have HS1 := Lib.hid hs1
  have HN1 := Lib.hid n1
  have hform : ∃ a c, bv = .slice a l.length c := by obtain ⟨a, c, e, _⟩ := hv; exact ⟨a, c, e⟩
  obtain ⟨ba, bc, rfl⟩ := hform
  clear hK hv hw1 hb1 hs1 n1
  go_enter Tryd.func58, Tryd.ntmps58
  go_wp2_with fail
  rw [HW1.out]
  refine (ShaNew_any w1).mono ?_
  rintro e w2 ⟨rfl, hh2, hb2⟩
  have hbd := HB1.out.trans (hb2.mono HB1.out.size)
  have hbv : BytesAt w2 (fun g => g ≠ w1.heap.size) (.slice ba l.length bc) l := by
    have h1 := HV.out.mono' (G := fun g => g < w.heap.size) (fun k hk _ => hk)
    exact (h1.kept (G := fun _ => False) (Chg.of_below hbd) (fun _ _ h => h)).mono (fun k (hk : k < w.heap.size) => by have := HB1.out.size; omega)
  have hka := HK.out.below hbd HK.out.size
  have HH2 := Lib.hid hh2
  have HBD := Lib.hid hbd
  have HBV := Lib.hid hbv
  have HKA := Lib.hid hka
  have n2 : w2.heap[w.heap.size]? = _ := (hb2.block _ (by have := HS1.out; omega)).trans HN1.out
  have HN2 := Lib.hid n2
  clear hh2 hb2 hbd hbv hka n2
  go_wp2_with fail
  refine (Write_any [] l _ HH2.out (fun h => absurd rfl h) HBV.out HKA.out (by have := HK.out.size; have := HS1.out; omega) (by simp; omega)).mono ?_
  rintro e w3 ⟨rfl, v3, buf3, hh3, hs3, hc3⟩
  rw [List.nil_append] at hh3 hs3
  have hb3 := HBD.out.trans (hc3.below (fun k e => by rw [e]; have := HS1.out; omega) HBD.out.size)
  have hka3 := HK.out.below hb3 HK.out.size
  have n3 : w3.heap[w.heap.size]? = _ := (hc3.block _ (Array.getElem?_eq_some_iff.1 HN2.out).1 (by have := HS1.out; omega)).trans HN2.out
  have HH3 := Lib.hid hh3
  have HS3 := Lib.hid hs3
  have HB3 := Lib.hid hb3
  have HKA3 := Lib.hid hka3
  have HN3 := Lib.hid n3
  clear hh3 hs3 hc3 hb3 hka3 n3
  go_wp2_with fail
  have hsum : Calls Tryd.prog 65 #[.pointer (some ⟨w1.heap.size, 0, none⟩)] w3 (fun e w' => e = .returned (.agg (bvs (shaL l)).toArray) ∧ Below w3.heap.size w3 w') := HashSum_any l HH3.out HS3.out HKA3.out hlen
  refine hsum.mono ?_
  rintro e w4 ⟨rfl, hb4⟩
  have n4 : w4.heap[w.heap.size]? = _ := (hb4.block _ (Array.getElem?_eq_some_iff.1 HN3.out).1).trans HN3.out
  have hb4' := HB3.out.trans (hb4.mono HB3.out.size)
  have hszd := dSize (shaL_length l)
  have hzsd : (#[.int .u8 0, .int .u8 0, .int .u8 0, .int .u8 0, .int .u8 0, .int .u8 0, .int .u8 0, .int .u8 0, .int .u8 0, .int .u8 0, .int .u8 0, .int .u8 0, .int .u8 0, .int .u8 0, .int .u8 0, .int .u8 0, .int .u8 0, .int .u8 0, .int .u8 0, .int .u8 0, .int .u8 0, .int .u8 0, .int .u8 0, .int .u8 0, .int .u8 0, .int .u8 0, .int .u8 0, .int .u8 0, .int .u8 0, .int .u8 0, .int .u8 0, .int .u8 0] : Array Value).size = (bvs (shaL l)).toArray.size := by
    show 32 = _
    rw [List.size_toArray, bvs_length, shaL_length]
  have HN4 := Lib.hid n4
  have HB4 := Lib.hid hb4'
  have HSD := Lib.hid hszd
  have HZD := Lib.hid hzsd
  clear n4 hb4 hb4' hszd hzsd hsum
  go_wp2_with (with_reducible refine wpList_store_row rfl 108 _ _ rfl w.heap.size (bvs (shaL l)).toArray rfl rfl 108 _ HN4.out HSD.out HZD.out (oneCell_bvs _) ?_)
  refine bodyPost_ret (v := .agg (bvs (shaL l)).toArray) ?r1 rfl ?r2
  case r1 => exact results_cell_row (g := w.heap.size) rfl _ _ _ _ _ _ rfl (setRow_heap _ _ _ _ _ _ HN4.out) Tryd.underlying108 rfl HSD.out
  case r2 => exact ⟨rfl, below_setRow HB4.out (Nat.le_refl _) _⟩

def halfL (l : List UInt8) : List UInt8 := (shaL l).take 16
@[simp] theorem halfL_length (l : List UInt8) : (halfL l).length = 16 := by simp [halfL]
theorem slice_to16 (w : World) (g : Nat) :
    (Instr.sliceAt 108 (.pointer (some ⟨g, 0, none⟩)) none (some (.int .i64 16)) none).run Tryd.prog w = .ok (.slice (some ⟨g, 0, none⟩) 16 32) w := by
  simp [Instr.sliceAt, run_underlying Tryd.underlying108, Instr.sureAddr, Instr.sliceBounds, Instr.sliceBound, asIntOf, size_u8]
  rfl
theorem arrayAt_half (a : Option Addr) (cap : Nat) (w : World) : (Instr.arrayAt 95 (.slice a 16 cap)).run Tryd.prog w = .ok (.pointer a) w := by
  simp [Instr.arrayAt, run_underlying Tryd.underlying95]
theorem hSize (l : List UInt8) : (Tryd.prog.info? 95).map (·.size) = some (bvs (halfL l)).toArray.size := by
  have : (Tryd.prog.info? 95).map (·.size) = some 16 := by kernel_rfl
  rw [this, List.size_toArray, bvs_length, halfL_length]

set_option maxRecDepth 100000 in
set_option maxHeartbeats 2000000 in
theorem SumHalf_any {w : World} (l : List UInt8) (bv : Value) {F : Nat → Prop} (hv : BytesAt w F bv l) (hK : KAt w) (hlen : l.length < 1000000000) :
    Calls Tryd.prog 47 #[bv] w fun e w' => e = .returned (cval (halfL l)) ∧ Below w.heap.size w w' := by
  obtain ⟨w1, hw1⟩ : ∃ w1, w.alloc (.cells #[.int .u8 0, .int .u8 0, .int .u8 0, .int .u8 0, .int .u8 0, .int .u8 0, .int .u8 0, .int .u8 0, .int .u8 0, .int .u8 0, .int .u8 0, .int .u8 0, .int .u8 0, .int .u8 0, .int .u8 0, .int .u8 0] 95) = w1 := ⟨_, rfl⟩
  have hb1 : Below w.heap.size w w1 := hw1 ▸ (Below.refl _ w).alloc (Nat.le_refl _) _
  have n1 : w1.heap[w.heap.size]? = some (.cells #[.int .u8 0, .int .u8 0, .int .u8 0, .int .u8 0, .int .u8 0, .int .u8 0, .int .u8 0, .int .u8 0, .int .u8 0, .int .u8 0, .int .u8 0, .int .u8 0, .int .u8 0, .int .u8 0, .int .u8 0, .int .u8 0] 95 (0, 0)) := by rw [← hw1]; exact heap_alloc_new w _
  have hv1 := hv.kept (G := fun _ => False) (Chg.of_below hb1) (fun _ _ h => h)
  have hk1 := hK.below hb1 hK.size
  have hsum : Calls Tryd.prog 58 #[bv] w1 (fun e w' => e = .returned (.agg (bvs (shaL l)).toArray) ∧ Below w1.heap.size w1 w') := ShaSum_any l bv hv1 hk1 hlen
  have HS := Lib.hid hsum
  have HW1 := Lib.hid hw1
  have HB1 := Lib.hid hb1
  have HN1 := Lib.hid n1
  clear hv hK hw1 hb1 n1 hv1 hk1 hsum
  go_enter Tryd.func47, Tryd.ntmps47
  go_wp2_with fail
  rw [HW1.out]
  refine HS.out.mono ?_
  rintro e w2 ⟨rfl, hb2⟩
  have n2 : w2.heap[w.heap.size]? = _ := (hb2.block _ (Array.getElem?_eq_some_iff.1 HN1.out).1).trans HN1.out
  have hb2' := HB1.out.trans (hb2.mono HB1.out.size)
  obtain ⟨w3, hw3⟩ : ∃ w3, w2.alloc (.cells (bvs (shaL l)).toArray 108) = w3 := ⟨_, rfl⟩
  have hb3 : Below w2.heap.size w2 w3 := hw3 ▸ (Below.refl _ _).alloc (Nat.le_refl _) _
  have n3 : w3.heap[w.heap.size]? = _ := (hb3.block _ (Array.getElem?_eq_some_iff.1 n2).1).trans n2
  have m3 : w3.heap[w2.heap.size]? = some (.cells (bvs (shaL l)).toArray 108 (0, 0)) := by rw [← hw3]; exact heap_alloc_new _ _
  have hr3 : w3.rangeAt w2.heap.size 0 (bvs (halfL l)) := fun j u hu => by
    rw [cell_of_row w3 _ _ _ _ _ m3, Nat.zero_add, List.getElem?_toArray]
    unfold halfL at hu
    rw [bvs_getElem?, List.getElem?_take] at hu
    split at hu
    · rw [bvs_getElem?]; exact hu
    · cases hu
  have hszd := dSize (shaL_length l)
  have hzsd : (#[.int .u8 0, .int .u8 0, .int .u8 0, .int .u8 0, .int .u8 0, .int .u8 0, .int .u8 0, .int .u8 0, .int .u8 0, .int .u8 0, .int .u8 0, .int .u8 0, .int .u8 0, .int .u8 0, .int .u8 0, .int .u8 0, .int .u8 0, .int .u8 0, .int .u8 0, .int .u8 0, .int .u8 0, .int .u8 0, .int .u8 0, .int .u8 0, .int .u8 0, .int .u8 0, .int .u8 0, .int .u8 0, .int .u8 0, .int .u8 0, .int .u8 0, .int .u8 0] : Array Value).size = (bvs (shaL l)).toArray.size := by
    show 32 = _
    rw [List.size_toArray, bvs_length, shaL_length]
  have hszh := hSize l
  have hszh2 : (Tryd.prog.info? 95).map (·.size) = some (bvs (halfL l)).length := by rw [hszh, List.size_toArray]
  have hzsh : (#[.int .u8 0, .int .u8 0, .int .u8 0, .int .u8 0, .int .u8 0, .int .u8 0, .int .u8 0, .int .u8 0, .int .u8 0, .int .u8 0, .int .u8 0, .int .u8 0, .int .u8 0, .int .u8 0, .int .u8 0, .int .u8 0] : Array Value).size = (bvs (halfL l)).toArray.size := by
    show 16 = _
    rw [List.size_toArray, bvs_length, halfL_length]
  have hnw := heap_alloc_new w2 (.cells #[.int .u8 0, .int .u8 0, .int .u8 0, .int .u8 0, .int .u8 0, .int .u8 0, .int .u8 0, .int .u8 0, .int .u8 0, .int .u8 0, .int .u8 0, .int .u8 0, .int .u8 0, .int .u8 0, .int .u8 0, .int .u8 0, .int .u8 0, .int .u8 0, .int .u8 0, .int .u8 0, .int .u8 0, .int .u8 0, .int .u8 0, .int .u8 0, .int .u8 0, .int .u8 0, .int .u8 0, .int .u8 0, .int .u8 0, .int .u8 0, .int .u8 0, .int .u8 0] 108)
  have hs1 := fun w => slice_to16 w w2.heap.size
  have hs2 := fun w => arrayAt_half (some ⟨w2.heap.size, 0, none⟩) 32 w
  have HSD := Lib.hid hszd
  have HZD := Lib.hid hzsd
  have HSH := Lib.hid hszh
  have HSH2 := Lib.hid hszh2
  have HZH := Lib.hid hzsh
  have HNW := Lib.hid hnw
  have HW3 := Lib.hid hw3
  have HN3 := Lib.hid n3
  have HR3 := Lib.hid hr3
  have HB3 := Lib.hid (hb2'.trans (hb3.mono hb2'.size))
  clear n2 hb2 hb2' hw3 hb3 n3 m3 hr3 hszd hzsd hszh hszh2 hzsh hnw
  go_wp2_with (first | (with_reducible refine wpList_store_row rfl 108 _ _ rfl w2.heap.size (bvs (shaL l)).toArray rfl rfl 108 _ HNW.out HSD.out HZD.out (oneCell_bvs _) ?_; rw [World.setRow_alloc_new, HW3.out]) | (with_reducible refine wpList_load_mid rfl 95 _ rfl w2.heap.size 0 rfl (bvs (halfL l)) _ HR3.out Tryd.underlying95 rfl HSH2.out ?_) | (with_reducible refine wpList_store_row rfl 95 _ _ rfl w.heap.size (bvs (halfL l)).toArray rfl rfl 95 _ HN3.out HSH.out HZH.out (oneCell_bvs _) ?_))
  refine bodyPost_ret (v := .agg (bvs (halfL l)).toArray) ?r1 rfl ?r2
  case r1 => exact results_cell_row (g := w.heap.size) rfl _ _ _ _ _ _ rfl (setRow_heap _ _ _ _ _ _ HN3.out) Tryd.underlying95 rfl HSH.out
  case r2 => exact ⟨rfl, below_setRow HB3.out (Nat.le_refl _) _⟩

end Go.Proofs.YtloaenknhkfaeaaDoor
