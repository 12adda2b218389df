/- sha256: Sum, SumHalf; Records: what a part, a sector and a record are, as plain lists. No walk; Records: changed sectors; records, and how they are joined. No walk; Journals, plainly: what the functions compute on the abstract device; Records: the checks of labels, both sides; Records: Check, both sides; Records: numbers as bytes (the reference's number, value), Need, IsBlank; Records: the closures put and get; Records: the closure get. -/
import Derived.Test.YtplclpileejemaaDoorJB5
import Derived.Test.YtplclpileejemaaDoorJB3
import Derived.Test.YtplclpileejemaaDoorJB1
import Derived.Outline
namespace Go.Proofs.YtplclpileejemaaDoor
open Go.RowKit
set_option linter.unusedVariables false
set_option linter.unusedSimpArgs false

set_option maxHeartbeats 400000 in
theorem ShaNew_any (w : World) : Calls Tryd.prog 76 #[] w fun e w' => e = .returned (.pointer (some ⟨w.heap.size, 0, none⟩)) ∧ HashAt w' w.heap.size w8zero (List.replicate 64 0) 0 ∧ Below w.heap.size w w' := by
  have h1 := heap_alloc_new w (.cells Tryd.zeroCells148 148)
  rw [zcHash] at h1
  have H1 := Lib.hid h1
  clear h1
  go_enter Tryd.func76, Tryd.ntmps76
  go_wp2_with fail
  go_ret
  exact ⟨rfl, ⟨by simp, by rw [zcHash]; exact H1.out⟩, (Below.refl _ _).alloc (Nat.le_refl _) _⟩

theorem dSize {l : List UInt8} (h : l.length = 32) : (Tryd.prog.info? 130).map (·.size) = some (bvs l).toArray.size := by
  have : (Tryd.prog.info? 130).map (·.size) = some 32 := by kernel_rfl
  rw [this, List.size_toArray, bvs_length, h]

set_option maxRecDepth 100000 in
set_option maxHeartbeats 2000000 in
theorem ShaSum_any {w : World} (l : List UInt8) (bv : Value) {F : Nat → Prop} (hv : BytesAt w F bv l) (hK : KAt w) (hlen : l.length < 1000000000) :
    Calls Tryd.prog 72 #[bv] w fun e w' => e = .returned (cval (shaL l)) ∧ Below w.heap.size w w' := by
  obtain ⟨w1, hw1⟩ : ∃ w1, w.alloc (.cells #[.int .u8 0, .int .u8 0, .int .u8 0, .int .u8 0, .int .u8 0, .int .u8 0, .int .u8 0, .int .u8 0, .int .u8 0, .int .u8 0, .int .u8 0, .int .u8 0, .int .u8 0, .int .u8 0, .int .u8 0, .int .u8 0, .int .u8 0, .int .u8 0, .int .u8 0, .int .u8 0, .int .u8 0, .int .u8 0, .int .u8 0, .int .u8 0, .int .u8 0, .int .u8 0, .int .u8 0, .int .u8 0, .int .u8 0, .int .u8 0, .int .u8 0, .int .u8 0] 130) = w1 := ⟨_, rfl⟩
  have hb1 : Below w.heap.size w w1 := hw1 ▸ (Below.refl _ w).alloc (Nat.le_refl _) _
  have hs1 : w1.heap.size = w.heap.size + 1 := by rw [← hw1, World.size_alloc]
  have n1 : w1.heap[w.heap.size]? = some (.cells #[.int .u8 0, .int .u8 0, .int .u8 0, .int .u8 0, .int .u8 0, .int .u8 0, .int .u8 0, .int .u8 0, .int .u8 0, .int .u8 0, .int .u8 0, .int .u8 0, .int .u8 0, .int .u8 0, .int .u8 0, .int .u8 0, .int .u8 0, .int .u8 0, .int .u8 0, .int .u8 0, .int .u8 0, .int .u8 0, .int .u8 0, .int .u8 0, .int .u8 0, .int .u8 0, .int .u8 0, .int .u8 0, .int .u8 0, .int .u8 0, .int .u8 0, .int .u8 0] 130 (0, 0)) := by rw [← hw1]; exact heap_alloc_new w _
  have HK := Lib.hid hK
  have HV := Lib.hid hv
  have HW1 := Lib.hid hw1
  have HB1 := Lib.hid hb1
  have HS1 := Lib.hid hs1
  have HN1 := Lib.hid n1
  have hform : ∃ a c, bv = .slice a l.length c := by obtain ⟨a, c, e, _⟩ := hv; exact ⟨a, c, e⟩
  obtain ⟨ba, bc, rfl⟩ := hform
  clear hK hv hw1 hb1 hs1 n1
  go_enter Tryd.func72, Tryd.ntmps72
  go_wp2_with fail
  rw [HW1.out]
  refine (ShaNew_any w1).mono ?_
  rintro e w2 ⟨rfl, hh2, hb2⟩
  have hbd := HB1.out.trans (hb2.mono HB1.out.size)
  have hbv : BytesAt w2 (fun g => g ≠ w1.heap.size) (.slice ba l.length bc) l := by
    have h1 := HV.out.mono' (G := fun g => g < w.heap.size) (fun k hk _ => hk)
    exact (h1.kept (G := fun _ => False) (Chg.of_below hbd) (fun _ _ h => h)).mono (fun k (hk : k < w.heap.size) => by have := HB1.out.size; omega)
  have hka := HK.out.below hbd HK.out.size
  have HH2 := Lib.hid hh2
  have HBD := Lib.hid hbd
  have HBV := Lib.hid hbv
  have HKA := Lib.hid hka
  have n2 : w2.heap[w.heap.size]? = _ := (hb2.block _ (by have := HS1.out; omega)).trans HN1.out
  have HN2 := Lib.hid n2
  clear hh2 hb2 hbd hbv hka n2
  go_wp2_with fail
  refine (ShaWrite_any [] l _ HH2.out (fun h => absurd rfl h) HBV.out HKA.out (by have := HK.out.size; have := HS1.out; omega) (by simp; omega)).mono ?_
  rintro e w3 ⟨rfl, v3, buf3, hh3, hs3, hc3⟩
  rw [List.nil_append] at hh3 hs3
  have hb3 := HBD.out.trans (hc3.below (fun k e => by rw [e]; have := HS1.out; omega) HBD.out.size)
  have hka3 := HK.out.below hb3 HK.out.size
  have n3 : w3.heap[w.heap.size]? = _ := (hc3.block _ (Array.getElem?_eq_some_iff.1 HN2.out).1 (by have := HS1.out; omega)).trans HN2.out
  have HH3 := Lib.hid hh3
  have HS3 := Lib.hid hs3
  have HB3 := Lib.hid hb3
  have HKA3 := Lib.hid hka3
  have HN3 := Lib.hid n3
  clear hh3 hs3 hc3 hb3 hka3 n3
  go_wp2_with fail
  have hsum : Calls Tryd.prog 78 #[.pointer (some ⟨w1.heap.size, 0, none⟩)] w3 (fun e w' => e = .returned (.agg (bvs (shaL l)).toArray) ∧ Below w3.heap.size w3 w') := HashSum_any l HH3.out HS3.out HKA3.out hlen
  refine hsum.mono ?_
  rintro e w4 ⟨rfl, hb4⟩
  have n4 : w4.heap[w.heap.size]? = _ := (hb4.block _ (Array.getElem?_eq_some_iff.1 HN3.out).1).trans HN3.out
  have hb4' := HB3.out.trans (hb4.mono HB3.out.size)
  have hszd := dSize (shaL_length l)
  have hzsd : (#[.int .u8 0, .int .u8 0, .int .u8 0, .int .u8 0, .int .u8 0, .int .u8 0, .int .u8 0, .int .u8 0, .int .u8 0, .int .u8 0, .int .u8 0, .int .u8 0, .int .u8 0, .int .u8 0, .int .u8 0, .int .u8 0, .int .u8 0, .int .u8 0, .int .u8 0, .int .u8 0, .int .u8 0, .int .u8 0, .int .u8 0, .int .u8 0, .int .u8 0, .int .u8 0, .int .u8 0, .int .u8 0, .int .u8 0, .int .u8 0, .int .u8 0, .int .u8 0] : Array Value).size = (bvs (shaL l)).toArray.size := by
    show 32 = _
    rw [List.size_toArray, bvs_length, shaL_length]
  have HN4 := Lib.hid n4
  have HB4 := Lib.hid hb4'
  have HSD := Lib.hid hszd
  have HZD := Lib.hid hzsd
  clear n4 hb4 hb4' hszd hzsd hsum
  go_wp2_with (with_reducible refine wpList_store_row rfl 130 _ _ rfl w.heap.size (bvs (shaL l)).toArray rfl rfl 130 _ HN4.out HSD.out HZD.out (oneCell_bvs _) ?_)
  refine bodyPost_ret (v := .agg (bvs (shaL l)).toArray) ?r1 rfl ?r2
  case r1 => exact results_cell_row (g := w.heap.size) rfl _ _ _ _ _ _ rfl (setRow_heap _ _ _ _ _ _ HN4.out) Tryd.underlying130 rfl HSD.out
  case r2 => exact ⟨rfl, below_setRow HB4.out (Nat.le_refl _) _⟩

def halfL (l : List UInt8) : List UInt8 := (shaL l).take 16
@[simp] theorem halfL_length (l : List UInt8) : (halfL l).length = 16 := by simp [halfL]
theorem slice_to16 (w : World) (g : Nat) :
    (Instr.sliceAt 130 (.pointer (some ⟨g, 0, none⟩)) none (some (.int .i64 16)) none).run Tryd.prog w = .ok (.slice (some ⟨g, 0, none⟩) 16 32) w := by
  simp [Instr.sliceAt, run_underlying Tryd.underlying130, Instr.sureAddr, Instr.sliceBounds, Instr.sliceBound, asIntOf, size_u8]
  rfl
theorem arrayAt_half (a : Option Addr) (cap : Nat) (w : World) : (Instr.arrayAt 114 (.slice a 16 cap)).run Tryd.prog w = .ok (.pointer a) w := by
  simp [Instr.arrayAt, run_underlying Tryd.underlying114]
theorem hSize (l : List UInt8) : (Tryd.prog.info? 114).map (·.size) = some (bvs (halfL l)).toArray.size := by
  have : (Tryd.prog.info? 114).map (·.size) = some 16 := by kernel_rfl
  rw [this, List.size_toArray, bvs_length, halfL_length]

set_option maxRecDepth 100000 in
set_option maxHeartbeats 2000000 in
theorem SumHalf_any {w : World} (l : List UInt8) (bv : Value) {F : Nat → Prop} (hv : BytesAt w F bv l) (hK : KAt w) (hlen : l.length < 1000000000) :
    Calls Tryd.prog 62 #[bv] w fun e w' => e = .returned (cval (halfL l)) ∧ Below w.heap.size w w' := by
  obtain ⟨w1, hw1⟩ : ∃ w1, w.alloc (.cells #[.int .u8 0, .int .u8 0, .int .u8 0, .int .u8 0, .int .u8 0, .int .u8 0, .int .u8 0, .int .u8 0, .int .u8 0, .int .u8 0, .int .u8 0, .int .u8 0, .int .u8 0, .int .u8 0, .int .u8 0, .int .u8 0] 114) = w1 := ⟨_, rfl⟩
  have hb1 : Below w.heap.size w w1 := hw1 ▸ (Below.refl _ w).alloc (Nat.le_refl _) _
  have n1 : w1.heap[w.heap.size]? = some (.cells #[.int .u8 0, .int .u8 0, .int .u8 0, .int .u8 0, .int .u8 0, .int .u8 0, .int .u8 0, .int .u8 0, .int .u8 0, .int .u8 0, .int .u8 0, .int .u8 0, .int .u8 0, .int .u8 0, .int .u8 0, .int .u8 0] 114 (0, 0)) := by rw [← hw1]; exact heap_alloc_new w _
  have hv1 := hv.kept (G := fun _ => False) (Chg.of_below hb1) (fun _ _ h => h)
  have hk1 := hK.below hb1 hK.size
  have hsum : Calls Tryd.prog 72 #[bv] w1 (fun e w' => e = .returned (.agg (bvs (shaL l)).toArray) ∧ Below w1.heap.size w1 w') := ShaSum_any l bv hv1 hk1 hlen
  have HS := Lib.hid hsum
  have HW1 := Lib.hid hw1
  have HB1 := Lib.hid hb1
  have HN1 := Lib.hid n1
  clear hv hK hw1 hb1 n1 hv1 hk1 hsum
  go_enter Tryd.func62, Tryd.ntmps62
  go_wp2_with fail
  rw [HW1.out]
  refine HS.out.mono ?_
  rintro e w2 ⟨rfl, hb2⟩
  have n2 : w2.heap[w.heap.size]? = _ := (hb2.block _ (Array.getElem?_eq_some_iff.1 HN1.out).1).trans HN1.out
  have hb2' := HB1.out.trans (hb2.mono HB1.out.size)
  obtain ⟨w3, hw3⟩ : ∃ w3, w2.alloc (.cells (bvs (shaL l)).toArray 130) = w3 := ⟨_, rfl⟩
  have hb3 : Below w2.heap.size w2 w3 := hw3 ▸ (Below.refl _ _).alloc (Nat.le_refl _) _
  have n3 : w3.heap[w.heap.size]? = _ := (hb3.block _ (Array.getElem?_eq_some_iff.1 n2).1).trans n2
  have m3 : w3.heap[w2.heap.size]? = some (.cells (bvs (shaL l)).toArray 130 (0, 0)) := by rw [← hw3]; exact heap_alloc_new _ _
  have hr3 : w3.rangeAt w2.heap.size 0 (bvs (halfL l)) := fun j u hu => by
    rw [cell_of_row w3 _ _ _ _ _ m3, Nat.zero_add, List.getElem?_toArray]
    unfold halfL at hu
    rw [bvs_getElem?, List.getElem?_take] at hu
    split at hu
    · rw [bvs_getElem?]; exact hu
    · cases hu
  have hszd := dSize (shaL_length l)
  have hzsd : (#[.int .u8 0, .int .u8 0, .int .u8 0, .int .u8 0, .int .u8 0, .int .u8 0, .int .u8 0, .int .u8 0, .int .u8 0, .int .u8 0, .int .u8 0, .int .u8 0, .int .u8 0, .int .u8 0, .int .u8 0, .int .u8 0, .int .u8 0, .int .u8 0, .int .u8 0, .int .u8 0, .int .u8 0, .int .u8 0, .int .u8 0, .int .u8 0, .int .u8 0, .int .u8 0, .int .u8 0, .int .u8 0, .int .u8 0, .int .u8 0, .int .u8 0, .int .u8 0] : Array Value).size = (bvs (shaL l)).toArray.size := by
    show 32 = _
    rw [List.size_toArray, bvs_length, shaL_length]
  have hszh := hSize l
  have hszh2 : (Tryd.prog.info? 114).map (·.size) = some (bvs (halfL l)).length := by rw [hszh, List.size_toArray]
  have hzsh : (#[.int .u8 0, .int .u8 0, .int .u8 0, .int .u8 0, .int .u8 0, .int .u8 0, .int .u8 0, .int .u8 0, .int .u8 0, .int .u8 0, .int .u8 0, .int .u8 0, .int .u8 0, .int .u8 0, .int .u8 0, .int .u8 0] : Array Value).size = (bvs (halfL l)).toArray.size := by
    show 16 = _
    rw [List.size_toArray, bvs_length, halfL_length]
  have hnw := heap_alloc_new w2 (.cells #[.int .u8 0, .int .u8 0, .int .u8 0, .int .u8 0, .int .u8 0, .int .u8 0, .int .u8 0, .int .u8 0, .int .u8 0, .int .u8 0, .int .u8 0, .int .u8 0, .int .u8 0, .int .u8 0, .int .u8 0, .int .u8 0, .int .u8 0, .int .u8 0, .int .u8 0, .int .u8 0, .int .u8 0, .int .u8 0, .int .u8 0, .int .u8 0, .int .u8 0, .int .u8 0, .int .u8 0, .int .u8 0, .int .u8 0, .int .u8 0, .int .u8 0, .int .u8 0] 130)
  have hs1 := fun w => slice_to16 w w2.heap.size
  have hs2 := fun w => arrayAt_half (some ⟨w2.heap.size, 0, none⟩) 32 w
  have HSD := Lib.hid hszd
  have HZD := Lib.hid hzsd
  have HSH := Lib.hid hszh
  have HSH2 := Lib.hid hszh2
  have HZH := Lib.hid hzsh
  have HNW := Lib.hid hnw
  have HW3 := Lib.hid hw3
  have HN3 := Lib.hid n3
  have HR3 := Lib.hid hr3
  have HB3 := Lib.hid (hb2'.trans (hb3.mono hb2'.size))
  clear n2 hb2 hb2' hw3 hb3 n3 m3 hr3 hszd hzsd hszh hszh2 hzsh hnw
  go_wp2_with (first | (with_reducible refine wpList_store_row rfl 130 _ _ rfl w2.heap.size (bvs (shaL l)).toArray rfl rfl 130 _ HNW.out HSD.out HZD.out (oneCell_bvs _) ?_; rw [World.setRow_alloc_new, HW3.out]) | (with_reducible refine wpList_load_mid rfl 114 _ rfl w2.heap.size 0 rfl (bvs (halfL l)) _ HR3.out Tryd.underlying114 rfl HSH2.out ?_) | (with_reducible refine wpList_store_row rfl 114 _ _ rfl w.heap.size (bvs (halfL l)).toArray rfl rfl 114 _ HN3.out HSH.out HZH.out (oneCell_bvs _) ?_))
  refine bodyPost_ret (v := .agg (bvs (halfL l)).toArray) ?r1 rfl ?r2
  case r1 => exact results_cell_row (g := w.heap.size) rfl _ _ _ _ _ _ rfl (setRow_heap _ _ _ _ _ _ HN3.out) Tryd.underlying114 rfl HSH.out
  case r2 => exact ⟨rfl, below_setRow HB3.out (Nat.le_refl _) _⟩

end Go.Proofs.YtplclpileejemaaDoor

namespace Go.Proofs.YtplclpileejemaaDoor
open Go.RowKit
set_option linter.unusedVariables false
set_option linter.unusedSimpArgs false

/-! ### numbers as bytes -/
def beL : Nat → Nat → List UInt8
  | 0, _ => []
  | s + 1, n => beL s (n / 256) ++ [n.toUInt8]
@[simp] theorem beL_length : ∀ s n, (beL s n).length = s
  | 0, _ => rfl
  | s + 1, n => by simp [beL, beL_length s]
def valN (l : List UInt8) : Nat := l.foldl (fun n b => n * 256 + b.toNat) 0
theorem valN_snoc (l : List UInt8) (b : UInt8) : valN (l ++ [b]) = valN l * 256 + b.toNat := by simp [valN]
theorem valN_be : ∀ s n, n < 256 ^ s → valN (beL s n) = n
  | 0, n, h => by simp at h; subst h; rfl
  | s + 1, n, h => by
    rw [beL, valN_snoc, valN_be s (n / 256) (by rw [Nat.pow_succ] at h; omega)]
    simp
    omega
theorem foldl_lt : ∀ (l : List UInt8) (a : Nat), l.foldl (fun n b => n * 256 + b.toNat) a < (a + 1) * 256 ^ l.length
  | [], a => by simp
  | b :: l, a => by
    have h := foldl_lt l (a * 256 + b.toNat)
    rw [List.foldl_cons, List.length_cons, Nat.pow_succ]
    have hb := b.toNat_lt
    have h2 : (a * 256 + b.toNat + 1) * 256 ^ l.length ≤ ((a + 1) * 256) * 256 ^ l.length := Nat.mul_le_mul_right _ (by omega)
    calc _ < _ := h
      _ ≤ _ := h2
      _ = _ := by rw [Nat.mul_assoc, Nat.mul_comm 256]
theorem valN_lt (l : List UInt8) : valN l < 256 ^ l.length := by have := foldl_lt l 0; simpa [valN] using this

/-! ### parts -/
structure PartD where
  kind : Int
  gen : Int
  num : Int
  idx : Int
  cnt : Int
  bytes : List UInt8
def PartD.zero : PartD := ⟨0, 0, 0, 0, 0, []⟩
def fineB (k g n : Int) : Bool := decide (0 ≤ k) && decide (k ≤ 65535) && decide (0 ≤ g) && decide (g ≤ 2147483647) && decide (0 ≤ n) && decide (n ≤ 2147483647)
def rangeB (k g n i c : Int) : Bool := fineB k g n && decide (1 ≤ c) && decide (c ≤ 586) && decide (0 ≤ i) && decide (i < c)
def chkE (k g n i c : Int) (len : Nat) : Int :=
  if rangeB k g n i c = false then 2 else if 224 < len then 5 else if i = c - 1 then (if 1 < c ∧ len = 0 then 4 else if 131072 < i * 224 + len then 5 else 0)
  else if len < 224 then 4 else 0
def chkP (p : PartD) : Int := chkE p.kind p.gen p.num p.idx p.cnt p.bytes.length
structure PartOk (p : PartD) : Prop where
  k0 : 0 ≤ p.kind
  k1 : p.kind ≤ 65535
  g0 : 0 ≤ p.gen
  g1 : p.gen ≤ 2147483647
  n0 : 0 ≤ p.num
  n1 : p.num ≤ 2147483647
  c0 : 1 ≤ p.cnt
  c1 : p.cnt ≤ 586
  i0 : 0 ≤ p.idx
  i1 : p.idx < p.cnt
  len : p.bytes.length ≤ 224
  last : p.idx = p.cnt - 1 → (1 < p.cnt → p.bytes.length ≠ 0) ∧ p.idx * 224 + p.bytes.length ≤ 131072
  full : p.idx ≠ p.cnt - 1 → p.bytes.length = 224
theorem chkP_ok {p : PartD} (h : chkP p = 0) : PartOk p := by
  unfold chkP chkE at h
  by_cases hr : rangeB p.kind p.gen p.num p.idx p.cnt = false
  · rw [if_pos hr] at h; cases h
  · rw [if_neg hr] at h
    have hr' : rangeB p.kind p.gen p.num p.idx p.cnt = true := by simpa using hr
    simp only [rangeB, fineB, Bool.and_eq_true, decide_eq_true_eq] at hr'
    obtain ⟨⟨⟨⟨⟨⟨⟨⟨⟨a1, a2⟩, a3⟩, a4⟩, a5⟩, a6⟩, a7⟩, a8⟩, a9⟩, a10⟩ := hr'
    by_cases hl : 224 < p.bytes.length
    · rw [if_pos hl] at h; cases h
    · rw [if_neg hl] at h
      refine ⟨a1, a2, a3, a4, a5, a6, a7, a8, a9, a10, by omega, fun e => ?_, fun e => ?_⟩
      · rw [if_pos e] at h
        by_cases h4 : 1 < p.cnt ∧ p.bytes.length = 0
        · rw [if_pos h4] at h; cases h
        · rw [if_neg h4] at h
          by_cases h5 : 131072 < p.idx * 224 + p.bytes.length
          · rw [if_pos h5] at h; cases h
          · exact ⟨fun h6 h7 => h4 ⟨h6, h7⟩, by omega⟩
      · rw [if_neg e] at h
        by_cases h4 : p.bytes.length < 224
        · rw [if_pos h4] at h; cases h
        · omega
theorem PartOk.chk {p : PartD} (h : PartOk p) : chkP p = 0 := by
  obtain ⟨a1, a2, a3, a4, a5, a6, a7, a8, a9, a10, hl, h1, h2⟩ := h
  unfold chkP chkE
  have hr : rangeB p.kind p.gen p.num p.idx p.cnt = true := by simp [rangeB, fineB, a1, a2, a3, a4, a5, a6, a7, a8, a9, a10]
  rw [hr, if_neg (by simp), if_neg (by omega)]
  by_cases e : p.idx = p.cnt - 1
  · rw [if_pos e, if_neg (fun h => (h1 e).1 h.1 h.2), if_neg (by have := (h1 e).2; omega)]
  · rw [if_neg e, if_neg (by have := h2 e; omega)]

/-! ### sectors -/
def hdrL (p : PartD) : List UInt8 := beL 4 p.gen.toNat ++ beL 4 p.num.toNat ++ beL 2 p.kind.toNat ++ beL 2 p.idx.toNat ++ beL 2 p.cnt.toNat ++ beL 2 p.bytes.length
@[simp] theorem hdrL_length (p : PartD) : (hdrL p).length = 16 := by simp [hdrL]
def padZ (b : List UInt8) : List UInt8 := (b ++ List.replicate (240 - b.length) 0).take 240
theorem padZ_length (b : List UInt8) : (padZ b).length = 240 := by simp [padZ]; omega
def sealL (b : List UInt8) : List UInt8 := halfL (padZ b) ++ padZ b
theorem sealL_length (b : List UInt8) : (sealL b).length = 256 := by simp [sealL, padZ_length]
def restL (p : PartD) : List UInt8 := hdrL p ++ p.bytes ++ List.replicate (224 - p.bytes.length) 0
def encL (p : PartD) : List UInt8 := sealL (hdrL p ++ p.bytes)
theorem encL_length (p : PartD) : (encL p).length = 256 := sealL_length _
theorem padZ_rest {p : PartD} (h : p.bytes.length ≤ 224) : padZ (hdrL p ++ p.bytes) = restL p := by
  unfold padZ restL
  have e : 240 - (hdrL p ++ p.bytes).length = 224 - p.bytes.length := by simp; omega
  rw [e, List.take_of_length_le (by simp; omega)]
theorem encL_rest {p : PartD} (h : p.bytes.length ≤ 224) : encL p = halfL (restL p) ++ restL p := by unfold encL sealL; rw [padZ_rest h]
theorem restL_length {p : PartD} (h : p.bytes.length ≤ 224) : (restL p).length = 240 := by simp [restL]; omega
theorem sealL_take (b : List UInt8) : (sealL b).take 16 = halfL (padZ b) := by simp [sealL]
theorem sealL_drop (b : List UInt8) : (sealL b).drop 16 = padZ b := by simp [sealL]

def seg (b : List UInt8) (i n : Nat) : List UInt8 := (b.drop i).take n
theorem seg_length (b : List UInt8) (i n : Nat) (h : i + n ≤ b.length) : (seg b i n).length = n := by simp [seg]; omega
def szL (b : List UInt8) : Nat := valN (seg b 30 2)
def rawP (b : List UInt8) : PartD := ⟨valN (seg b 24 2), valN (seg b 16 4), valN (seg b 20 4), valN (seg b 26 2), valN (seg b 28 2), seg b 32 (szL b)⟩
def zerosB (l : List UInt8) : Bool := l.all (· == 0)
def decE (b : List UInt8) : Int :=
  if b.length < 256 then 4 else if 256 < b.length then 5 else if halfL (b.drop 16) ≠ b.take 16 then 22
  else if szL b ≤ 224 ∧ zerosB (b.drop (32 + szL b)) = true ∧ chkP (rawP b) = 0 then 0 else 3
def decP (b : List UInt8) : PartD := if decE b = 0 then rawP b else .zero

theorem seg_mid (a c d : List UInt8) (i n : Nat) (hi : a.length = i) (hn : c.length = n) : seg (a ++ (c ++ d)) i n = c := by
  unfold seg
  subst hi
  subst hn
  simp
theorem enc_parts {p : PartD} (h : PartOk p) : seg (encL p) 16 4 = beL 4 p.gen.toNat ∧ seg (encL p) 20 4 = beL 4 p.num.toNat ∧ seg (encL p) 24 2 = beL 2 p.kind.toNat ∧ seg (encL p) 26 2 = beL 2 p.idx.toNat ∧
    seg (encL p) 28 2 = beL 2 p.cnt.toNat ∧ seg (encL p) 30 2 = beL 2 p.bytes.length ∧ seg (encL p) 32 p.bytes.length = p.bytes ∧ (encL p).drop (32 + p.bytes.length) = List.replicate (224 - p.bytes.length) 0 := by
  rw [encL_rest h.len]
  unfold restL hdrL
  generalize hH : halfL _ = H
  have hHl : H.length = 16 := by rw [← hH]; simp
  clear hH
  refine ⟨?_, ?_, ?_, ?_, ?_, ?_, ?_, ?_⟩
  · have := seg_mid H (beL 4 p.gen.toNat) (beL 4 p.num.toNat ++ beL 2 p.kind.toNat ++ beL 2 p.idx.toNat ++ beL 2 p.cnt.toNat ++ beL 2 p.bytes.length ++ p.bytes ++ List.replicate (224 - p.bytes.length) 0) 16 4 hHl (by simp)
    simpa using this
  · have := seg_mid (H ++ beL 4 p.gen.toNat) (beL 4 p.num.toNat) (beL 2 p.kind.toNat ++ beL 2 p.idx.toNat ++ beL 2 p.cnt.toNat ++ beL 2 p.bytes.length ++ p.bytes ++ List.replicate (224 - p.bytes.length) 0) 20 4 (by simp [hHl]) (by simp)
    simpa using this
  · have := seg_mid (H ++ beL 4 p.gen.toNat ++ beL 4 p.num.toNat) (beL 2 p.kind.toNat) (beL 2 p.idx.toNat ++ beL 2 p.cnt.toNat ++ beL 2 p.bytes.length ++ p.bytes ++ List.replicate (224 - p.bytes.length) 0) 24 2 (by simp [hHl]) (by simp)
    simpa using this
  · have := seg_mid (H ++ beL 4 p.gen.toNat ++ beL 4 p.num.toNat ++ beL 2 p.kind.toNat) (beL 2 p.idx.toNat) (beL 2 p.cnt.toNat ++ beL 2 p.bytes.length ++ p.bytes ++ List.replicate (224 - p.bytes.length) 0) 26 2 (by simp [hHl]) (by simp)
    simpa using this
  · have := seg_mid (H ++ beL 4 p.gen.toNat ++ beL 4 p.num.toNat ++ beL 2 p.kind.toNat ++ beL 2 p.idx.toNat) (beL 2 p.cnt.toNat) (beL 2 p.bytes.length ++ p.bytes ++ List.replicate (224 - p.bytes.length) 0) 28 2 (by simp [hHl]) (by simp)
    simpa using this
  · have := seg_mid (H ++ beL 4 p.gen.toNat ++ beL 4 p.num.toNat ++ beL 2 p.kind.toNat ++ beL 2 p.idx.toNat ++ beL 2 p.cnt.toNat) (beL 2 p.bytes.length) (p.bytes ++ List.replicate (224 - p.bytes.length) 0) 30 2 (by simp [hHl]) (by simp)
    simpa using this
  · have := seg_mid (H ++ beL 4 p.gen.toNat ++ beL 4 p.num.toNat ++ beL 2 p.kind.toNat ++ beL 2 p.idx.toNat ++ beL 2 p.cnt.toNat ++ beL 2 p.bytes.length) p.bytes (List.replicate (224 - p.bytes.length) 0) 32 p.bytes.length (by simp [hHl]) rfl
    simpa using this
  · have hl : (H ++ beL 4 p.gen.toNat ++ beL 4 p.num.toNat ++ beL 2 p.kind.toNat ++ beL 2 p.idx.toNat ++ beL 2 p.cnt.toNat ++ beL 2 p.bytes.length ++ p.bytes).length = 32 + p.bytes.length := by simp [hHl]; omega
    have := List.drop_left' (l₂ := List.replicate (224 - p.bytes.length) (0 : UInt8)) hl
    simpa using this
theorem zerosB_replicate (n : Nat) : zerosB (List.replicate n 0) = true := by simp [zerosB]
theorem dec_enc {p : PartD} (h : PartOk p) : decE (encL p) = 0 ∧ decP (encL p) = p := by
  obtain ⟨e1, e2, e3, e4, e5, e6, e7, e8⟩ := enc_parts h
  have hsz : szL (encL p) = p.bytes.length := by unfold szL; rw [e6]; exact valN_be 2 _ (by have := h.len; omega)
  have hraw : rawP (encL p) = p := by
    unfold rawP
    rw [hsz, e1, e2, e3, e4, e5, e7, valN_be 2 p.kind.toNat (by have := h.k1; omega), valN_be 4 p.gen.toNat (by have := h.g1; omega), valN_be 4 p.num.toNat (by have := h.n1; omega), valN_be 2 p.idx.toNat (by have := h.i1; have := h.c1; omega), valN_be 2 p.cnt.toNat (by have := h.c1; omega)]
    obtain ⟨k, g, n, i, c, l⟩ := p
    have := h.k0; have := h.g0; have := h.n0; have := h.i0; have := h.c0
    simp only [PartD.mk.injEq]
    simp only at *
    refine ⟨by omega, by omega, by omega, by omega, by omega, trivial⟩
  have hE : decE (encL p) = 0 := by
    unfold decE
    rw [if_neg (by rw [encL_length]; omega), if_neg (by rw [encL_length]; omega), if_neg (by unfold encL; rw [sealL_take, sealL_drop]; simp), if_pos]
    refine ⟨by rw [hsz]; exact h.len, by rw [hsz, e8]; exact zerosB_replicate _, by rw [hraw]; exact h.chk⟩
  exact ⟨hE, by unfold decP; rw [if_pos hE, hraw]⟩
theorem decE_ok {b : List UInt8} (h : decE b = 0) : b.length = 256 ∧ halfL (b.drop 16) = b.take 16 ∧ szL b ≤ 224 ∧ PartOk (rawP b) ∧ decP b = rawP b := by
  have hp : decP b = rawP b := by unfold decP; rw [if_pos h]
  unfold decE at h
  by_cases h1 : b.length < 256
  · rw [if_pos h1] at h; cases h
  · rw [if_neg h1] at h
    by_cases h2 : 256 < b.length
    · rw [if_pos h2] at h; cases h
    · rw [if_neg h2] at h
      by_cases h3 : halfL (b.drop 16) ≠ b.take 16
      · rw [if_pos h3] at h; cases h
      · rw [if_neg h3] at h
        by_cases h4 : szL b ≤ 224 ∧ zerosB (b.drop (32 + szL b)) = true ∧ chkP (rawP b) = 0
        · exact ⟨by omega, by simpa using h3, h4.1, chkP_ok h4.2.2, hp⟩
        · rw [if_neg h4] at h; cases h
/-- A sector whose digest does not fit. -/
theorem decE_sum {b : List UInt8} (hl : b.length = 256) (h : halfL (b.drop 16) ≠ b.take 16) : decE b = 22 := by
  unfold decE
  rw [if_neg (by omega), if_neg (by omega), if_pos h]
theorem decE_nz {b : List UInt8} (h : decE b ≠ 0) : decP b = .zero := by unfold decP; rw [if_neg h]

end Go.Proofs.YtplclpileejemaaDoor

namespace Go.Proofs.YtplclpileejemaaDoor
open Go.RowKit
set_option linter.unusedVariables false
set_option linter.unusedSimpArgs false

/-! ### changed sectors -/
theorem set_take_lt (l : List UInt8) (i n : Nat) (x : UInt8) (h : n ≤ i) : (l.set i x).take n = l.take n := by
  apply List.ext_getElem?
  intro j
  rw [List.getElem?_take, List.getElem?_take]
  split
  · rw [List.getElem?_set_ne (by omega)]
  · rfl
theorem set_drop_lt (l : List UInt8) (i n : Nat) (x : UInt8) (h : i < n) : (l.set i x).drop n = l.drop n := by
  apply List.ext_getElem?
  intro j
  rw [List.getElem?_drop, List.getElem?_drop, List.getElem?_set_ne (by omega)]
theorem set_ne_self {l : List UInt8} {i : Nat} {x : UInt8} (hi : i < l.length) (hx : x ≠ l[i]) : l.set i x ≠ l := by
  intro e
  have := congrArg (·[i]?) e
  simp [hi] at this
  exact hx this
theorem halves {a c : List UInt8} (ha : halfL (a.drop 16) = a.take 16) (hc : halfL (c.drop 16) = c.take 16) (hne : c ≠ a) (h : c.take 16 = a.take 16) : a.drop 16 ≠ c.drop 16 ∧ halfL (a.drop 16) = halfL (c.drop 16) := by
  refine ⟨fun e => hne ?_, by rw [ha, hc, h]⟩
  rw [← List.take_append_drop 16 c, ← List.take_append_drop 16 a, h, e]
/-- One byte of a sector was changed. -/
theorem tamper {a : List UInt8} {i : Nat} {x : UInt8} (hl : a.length = 256) (ha : halfL (a.drop 16) = a.take 16) (hi : i < 256) (hx : x ≠ a[i]'(by omega)) :
    decE (a.set i x) = 22 ∨ (a.drop 16 ≠ (a.set i x).drop 16 ∧ halfL (a.drop 16) = halfL ((a.set i x).drop 16)) := by
  have hne := set_ne_self (by omega) hx
  by_cases hc : halfL ((a.set i x).drop 16) = (a.set i x).take 16
  · refine .inr ?_
    by_cases h16 : 16 ≤ i
    · exact halves ha hc hne (set_take_lt _ _ _ _ h16)
    · exfalso
      have hd := set_drop_lt a i 16 x (by omega)
      apply hne
      rw [← List.take_append_drop 16 (a.set i x), ← hc, hd, ha, List.take_append_drop]
  · exact .inl (decE_sum (by simp [hl]) hc)
/-- A sector that begins like a and continues like b. -/
theorem torn {a b : List UInt8} {i : Nat} (hla : a.length = 256) (hlb : b.length = 256) (ha : halfL (a.drop 16) = a.take 16) (hb : halfL (b.drop 16) = b.take 16) (hi : i ≤ 256)
    (hna : a.take i ++ b.drop i ≠ a) (hnb : a.take i ++ b.drop i ≠ b) :
    decE (a.take i ++ b.drop i) = 22 ∨ (a.drop 16 ≠ (a.take i ++ b.drop i).drop 16 ∧ halfL (a.drop 16) = halfL ((a.take i ++ b.drop i).drop 16)) := by
  have hlc : (a.take i ++ b.drop i).length = 256 := by simp; omega
  by_cases hc : halfL ((a.take i ++ b.drop i).drop 16) = (a.take i ++ b.drop i).take 16
  · refine .inr ?_
    by_cases h16 : 16 ≤ i
    · refine halves ha hc hna ?_
      rw [List.take_append_of_le_length (by simp; omega), List.take_take, Nat.min_eq_left h16]
    · exfalso
      apply hnb
      have hd : (a.take i ++ b.drop i).drop 16 = b.drop 16 := by
        rw [List.drop_append, List.drop_drop, List.drop_of_length_le (by simp; omega), List.nil_append]
        congr 1
        simp
        omega
      rw [← List.take_append_drop 16 (a.take i ++ b.drop i), ← hc, hd, hb, List.take_append_drop]
  · exact .inl (decE_sum hlc hc)

/-! ### records -/
structure RecD where
  kind : Int
  gen : Int
  num : Int
  load : List UInt8
def RecD.zero : RecD := ⟨0, 0, 0, []⟩
def needN (n : Nat) : Nat := max 1 ((n + 223) / 224)
def partOf (r : RecD) (i : Nat) : PartD := ⟨r.kind, r.gen, r.num, i, needN r.load.length, seg r.load (224 * i) 224⟩
def splitE (r : RecD) : Int := if fineB r.kind r.gen r.num = false then 2 else if 131072 < r.load.length then 5 else 0
def splitL (r : RecD) : List (List UInt8) := if splitE r = 0 then (List.range (needN r.load.length)).map fun i => encL (partOf r i) else []
theorem splitE_ok {r : RecD} (h : splitE r = 0) : fineB r.kind r.gen r.num = true ∧ r.load.length ≤ 131072 := by
  unfold splitE at h
  by_cases h1 : fineB r.kind r.gen r.num = false
  · rw [if_pos h1] at h; cases h
  · rw [if_neg h1] at h
    by_cases h2 : 131072 < r.load.length
    · rw [if_pos h2] at h; cases h
    · exact ⟨by simpa using h1, by omega⟩
theorem need_le {n : Nat} (h : n ≤ 131072) : 1 ≤ needN n ∧ needN n ≤ 586 := by unfold needN; omega
theorem partOf_ok {r : RecD} (h : splitE r = 0) {i : Nat} (hi : i < needN r.load.length) : PartOk (partOf r i) := by
  obtain ⟨h1, h2⟩ := splitE_ok h
  simp only [fineB, Bool.and_eq_true, decide_eq_true_eq] at h1
  obtain ⟨⟨⟨⟨⟨a1, a2⟩, a3⟩, a4⟩, a5⟩, a6⟩ := h1
  have hn := need_le h2
  have hlen : (seg r.load (224 * i) 224).length = min 224 (r.load.length - 224 * i) := by simp [seg]
  have hN : needN r.load.length = max 1 ((r.load.length + 223) / 224) := rfl
  refine ⟨a1, a2, a3, a4, a5, a6, ?_, ?_, ?_, ?_, ?_, ?_, ?_⟩
  all_goals simp only [partOf, hlen]
  · omega
  · omega
  · omega
  · omega
  · omega
  · intro e
    refine ⟨fun h => ?_, ?_⟩ <;> omega
  · intro e; omega

def samePl (f p : PartD) (i : Nat) : Bool := p.kind == f.kind && p.gen == f.gen && p.num == f.num && p.idx == (i : Int) && p.cnt == f.cnt
def joinGo (l : List (List UInt8)) (f : PartD) : Nat → Nat → List UInt8 → RecD × Nat × Int
  | _, 0, acc => (⟨f.kind, f.gen, f.num, acc⟩, f.cnt.toNat, 0)
  | i, k + 1, acc =>
    match l[i]? with
    | none => (.zero, 0, 23)
    | some b => if decE b ≠ 0 then (.zero, 0, decE b) else if samePl f (decP b) i then joinGo l f (i + 1) k (acc ++ (decP b).bytes) else (.zero, 0, 30)
def joinL : List (List UInt8) → RecD × Nat × Int
  | [] => (.zero, 0, 4)
  | b :: l => if decE b ≠ 0 then (.zero, 0, decE b) else if (decP b).idx ≠ 0 then (.zero, 0, 30) else joinGo (b :: l) (decP b) 1 ((decP b).cnt.toNat - 1) (decP b).bytes

theorem splitL_length {r : RecD} (h : splitE r = 0) : (splitL r).length = needN r.load.length := by simp [splitL, h]
theorem splitL_get {r : RecD} (h : splitE r = 0) {i : Nat} (hi : i < needN r.load.length) (m : List (List UInt8)) : (splitL r ++ m)[i]? = some (encL (partOf r i)) := by
  rw [List.getElem?_append_left (by rw [splitL_length h]; exact hi), splitL, if_pos h, List.getElem?_map, List.getElem?_range hi]
  rfl
theorem seg_next (l : List UInt8) (i : Nat) : l.take (224 * i) ++ seg l (224 * i) 224 = l.take (224 * (i + 1)) := by
  unfold seg
  rw [show 224 * (i + 1) = 224 * i + 224 by omega, List.take_add]
theorem joinGo_split {r : RecD} (h : splitE r = 0) (m : List (List UInt8)) : ∀ k i, i + k = needN r.load.length → 1 ≤ i →
    joinGo (splitL r ++ m) (partOf r 0) i k (r.load.take (224 * i)) = (r, needN r.load.length, 0)
  | 0, i, hk, h1 => by
    have hn := need_le (splitE_ok h).2
    have : r.load.take (224 * i) = r.load := List.take_of_length_le (by unfold needN at hk; omega)
    rw [joinGo, this]
    rfl
  | k + 1, i, hk, h1 => by
    have hd := dec_enc (partOf_ok h (i := i) (by omega))
    rw [joinGo, splitL_get h (by omega)]
    simp only
    rw [if_neg (by rw [hd.1]; simp), hd.2, if_pos (by simp [samePl, partOf])]
    show joinGo _ _ (i + 1) k (r.load.take (224 * i) ++ seg r.load (224 * i) 224) = _
    rw [seg_next]
    exact joinGo_split h m k (i + 1) (by omega) (by omega)
theorem join_split {r : RecD} (h : splitE r = 0) (m : List (List UInt8)) : joinL (splitL r ++ m) = (r, needN r.load.length, 0) := by
  have hn := need_le (splitE_ok h).2
  have hd := dec_enc (partOf_ok h (i := 0) (by omega))
  have h0 := splitL_get h (i := 0) (by omega) m
  obtain ⟨b, l, hl⟩ : ∃ b l, splitL r ++ m = b :: l := by
    cases hs : splitL r ++ m with
    | nil => rw [hs] at h0; cases h0
    | cons b l => exact ⟨b, l, rfl⟩
  have hb : b = encL (partOf r 0) := by rw [hl] at h0; simpa using h0
  have hj := joinGo_split h m (needN r.load.length - 1) 1 (by omega) (Nat.le_refl _)
  rw [hl] at hj ⊢
  rw [joinL, hb, if_neg (by rw [hd.1]; simp), hd.2, if_neg (by simp [partOf])]
  rw [hb] at hj
  have e : (partOf r 0).cnt.toNat = needN r.load.length := rfl
  rw [e]
  rw [← hj]
  congr 1
/-- Sectors are missing at the end. -/
theorem joinGo_cut {r : RecD} (h : splitE r = 0) (n : Nat) (hn : n < needN r.load.length) : ∀ k i acc, i + k = needN r.load.length → i ≤ n → joinGo ((splitL r).take n) (partOf r 0) i k acc = (.zero, 0, 23)
  | 0, i, _, hk, hi => by omega
  | k + 1, i, acc, hk, hi => by
    rw [joinGo]
    by_cases e : i = n
    · subst e
      rw [List.getElem?_eq_none (by simp; omega)]
    · have hd := dec_enc (partOf_ok h (i := i) (by omega))
      have h0 := splitL_get h (i := i) (by omega) []
      rw [List.append_nil] at h0
      rw [List.getElem?_take_of_lt (by omega), h0]
      simp only
      rw [if_neg (by rw [hd.1]; simp), hd.2, if_pos (by simp [samePl, partOf])]
      exact joinGo_cut h n hn k (i + 1) _ (by omega) (by omega)
theorem join_cut {r : RecD} (h : splitE r = 0) (n : Nat) (h1 : 1 ≤ n) (hn : n < needN r.load.length) : joinL ((splitL r).take n) = (.zero, 0, 23) := by
  have hd := dec_enc (partOf_ok h (i := 0) (by omega))
  have h0 := splitL_get h (i := 0) (by omega) []
  rw [List.append_nil] at h0
  obtain ⟨b, l, hl⟩ : ∃ b l, (splitL r).take n = b :: l := by
    cases hs : (splitL r).take n with
    | nil =>
      have := congrArg List.length hs
      rw [List.length_take, splitL_length h] at this
      simp at this
      omega
    | cons b l => exact ⟨b, l, rfl⟩
  have hb : b = encL (partOf r 0) := by
    have h2 : ((splitL r).take n)[0]? = some (encL (partOf r 0)) := by rw [List.getElem?_take_of_lt (by omega), h0]
    rw [hl] at h2
    simpa using h2
  have hj := joinGo_cut h n hn (needN r.load.length - 1) 1 (partOf r 0).bytes (by omega) h1
  rw [hl] at hj ⊢
  rw [joinL, hb, if_neg (by rw [hd.1]; simp), hd.2, if_neg (by simp [partOf])]
  rw [hb] at hj
  exact hj

/-! ### scans -/
def scanGo (g n : Int) (l : List (List UInt8)) : Nat → Nat → List RecD → List RecD × Nat × Int
  | 0, at_, out => (out, at_, 0)
  | k + 1, at_, out =>
    if l.length ≤ at_ then (out, at_, 0)
    else if (joinL (l.drop at_)).2.2 ≠ 0 then (out, at_, (joinL (l.drop at_)).2.2)
    else if (joinL (l.drop at_)).1.gen = g ∧ (joinL (l.drop at_)).1.num = n + out.length then scanGo g n l k (at_ + (joinL (l.drop at_)).2.1) (out ++ [(joinL (l.drop at_)).1])
    else (out, at_, 30)
def scanL (g n : Int) (l : List (List UInt8)) : List RecD × Nat × Int := if fineB 0 g n = false then ([], 0, 2) else scanGo g n l l.length 0 []
def salGo (l : List (List UInt8)) : Nat → Nat → List RecD → List RecD
  | 0, _, out => out
  | k + 1, at_, out =>
    if l.length ≤ at_ then out
    else if (joinL (l.drop at_)).2.2 ≠ 0 then salGo l k (at_ + 1) out
    else salGo l k (at_ + (joinL (l.drop at_)).2.1) (out ++ [(joinL (l.drop at_)).1])
def salL (l : List (List UInt8)) : List RecD := salGo l l.length 0 []
theorem joinGo_count (l : List (List UInt8)) (f : PartD) : ∀ k i acc, (joinGo l f i k acc).2.2 = 0 → (joinGo l f i k acc).2.1 = f.cnt.toNat
  | 0, _, _, _ => rfl
  | k + 1, i, acc, h => by
    rw [joinGo] at h ⊢
    cases hb : l[i]? with
    | none => rw [hb] at h; cases h
    | some b =>
      rw [hb] at h
      simp only at h ⊢
      by_cases h1 : decE b ≠ 0
      · rw [if_pos h1] at h; exact absurd h h1
      · rw [if_neg h1] at h ⊢
        by_cases h2 : samePl f (decP b) i = true
        · rw [if_pos h2] at h ⊢
          exact joinGo_count l f k (i + 1) _ h
        · rw [if_neg h2] at h; cases h
theorem join_pos {l : List (List UInt8)} (h : (joinL l).2.2 = 0) : 1 ≤ (joinL l).2.1 := by
  cases l with
  | nil => cases h
  | cons b l =>
    rw [joinL] at h ⊢
    by_cases h1 : decE b ≠ 0
    · rw [if_pos h1] at h; exact absurd h h1
    · rw [if_neg h1] at h ⊢
      by_cases h2 : (decP b).idx ≠ 0
      · rw [if_pos h2] at h; cases h
      · rw [if_neg h2] at h ⊢
        rw [joinGo_count _ _ _ _ _ h]
        have hk := decE_ok (by simpa using h1 : decE b = 0)
        rw [hk.2.2.2.2]
        have := hk.2.2.2.1.c0
        omega
/-- A scan with more fuel than it needs. -/
theorem scanGo_fuel (g n : Int) (l : List (List UInt8)) : ∀ k j a out, l.length ≤ a + k → scanGo g n l (k + j) a out = scanGo g n l k a out
  | 0, j, a, out, h => by
    cases j with
    | zero => rfl
    | succ j => rw [Nat.zero_add, scanGo.eq_2, scanGo.eq_1, if_pos (by omega)]
  | k + 1, j, a, out, h => by
    rw [show k + 1 + j = (k + j) + 1 by omega, scanGo, scanGo]
    by_cases h1 : l.length ≤ a
    · rw [if_pos h1, if_pos h1]
    · rw [if_neg h1, if_neg h1]
      by_cases h2 : (joinL (l.drop a)).2.2 ≠ 0
      · rw [if_pos h2, if_pos h2]
      · rw [if_neg h2, if_neg h2]
        by_cases h3 : (joinL (l.drop a)).1.gen = g ∧ (joinL (l.drop a)).1.num = n + out.length
        · rw [if_pos h3, if_pos h3]
          have hp := join_pos (by simpa using h2 : (joinL (l.drop a)).2.2 = 0)
          exact scanGo_fuel g n l k j _ _ (by omega)
        · rw [if_neg h3, if_neg h3]
theorem salGo_fuel (l : List (List UInt8)) : ∀ k j a out, l.length ≤ a + k → salGo l (k + j) a out = salGo l k a out
  | 0, j, a, out, h => by
    cases j with
    | zero => rfl
    | succ j => rw [Nat.zero_add, salGo.eq_2, salGo.eq_1, if_pos (by omega)]
  | k + 1, j, a, out, h => by
    rw [show k + 1 + j = (k + j) + 1 by omega, salGo, salGo]
    by_cases h1 : l.length ≤ a
    · rw [if_pos h1, if_pos h1]
    · rw [if_neg h1, if_neg h1]
      by_cases h2 : (joinL (l.drop a)).2.2 ≠ 0
      · rw [if_pos h2, if_pos h2]; exact salGo_fuel l k j _ _ (by omega)
      · rw [if_neg h2, if_neg h2]
        have hp := join_pos (by simpa using h2 : (joinL (l.drop a)).2.2 = 0)
        exact salGo_fuel l k j _ _ (by omega)

end Go.Proofs.YtplclpileejemaaDoor

namespace Go.Proofs.YtplclpileejemaaDoor
open Go.RowKit
set_option linter.unusedVariables false
set_option linter.unusedSimpArgs false

/-- The visible sectors from a place on. -/
def secL (S : DS) (a k : Nat) : List (List UInt8) := (List.range k).map fun i => S.visible (a + i)
theorem secL_length (S : DS) (a k : Nat) : (secL S a k).length = k := by simp [secL]
theorem secL_at {S : DS} {a k i : Nat} (h : i < (secL S a k).length) : (secL S a k)[i] = S.visible (a + i) := by simp [secL]
/-- The number behind n of a parity. -/
def upG (which n : Nat) : Nat := if n % 2 ≠ which then n + 1 else n
def genS (which g : Nat) (b : List UInt8) : Nat := if decE b = 0 ∧ (g : Int) ≤ (decP b).gen then upG which ((decP b).gen.toNat + 1) else g
/-- The next generation of an area. -/
def nextG (which : Nat) (L : List (List UInt8)) : Nat := L.foldl (genS which) which
/-- Sectors are written one after another, until one cannot be. -/
def wrL : DS → Nat → List (List UInt8) → DS × Int
  | S, _, [] => (S, 0)
  | S, a, b :: L => if (S.write a b).2 = 0 then wrL (S.write a b).1 (a + 1) L else S.write a b
def headB (first n : Nat) : List UInt8 := beL 8 first ++ beL 8 n
def mostH : Nat := 2147483647
def numL (b : List UInt8) : Option (Nat × Nat) := if b.length = 16 ∧ valN (b.take 8) ≤ mostH ∧ valN (b.drop 8) ≤ mostH then some (valN (b.take 8), valN (b.drop 8)) else none
/-- The entries behind a head. -/
def bodyL (rs : List RecD) : List (List UInt8) := (rs.takeWhile fun r => decide (r.kind = 2)).map (·.load)
/-- What an area holds: its generation, the first number, the entries. -/
structure ArD where
  gen : Nat
  first : Nat
  ents : List (List UInt8)
/-- What the records of an area amount to. -/
def areaM (g : Nat) : List RecD → Option ArD
  | [] => none
  | h :: t => if h.kind ≠ 1 then none else
    match numL h.load with
    | none => none
    | some (f, c) => if c ≤ (bodyL t).length then some ⟨g, f, bodyL t⟩ else none
def areaL (l : List (List UInt8)) (which : Nat) : Option ArD :=
  if decE (l.headD []) ≠ 0 ∨ (decP (l.headD [])).gen.toNat % 2 ≠ which then none else areaM (decP (l.headD [])).gen.toNat (scanL (decP (l.headD [])).gen 0 l).1
def bodR (gen : Nat) (i : Nat) (b : List UInt8) : RecD := ⟨2, gen, (i : Int), b⟩
def recsR (gen first : Nat) (E : List (List UInt8)) : List RecD := ⟨1, gen, 0, headB first E.length⟩ :: E.mapIdx fun i b => bodR gen (i + 1) b
/-- Records are written; the number of their sectors. -/
def putR : DS → Nat → Nat → List RecD → DS × Nat × Int
  | S, _, u, [] => (S, u, 0)
  | S, a, u, r :: rs => if (wrL S (a + u) (splitL r)).2 = 0 then putR (wrL S (a + u) (splitL r)).1 a (u + needN r.load.length) rs else ((wrL S (a + u) (splitL r)).1, 0, (wrL S (a + u) (splitL r)).2)
/-- An area is written. -/
def wrA (S : DS) (a gen first : Nat) (E : List (List UInt8)) : DS × Nat × Int :=
  if (putR S a 0 (recsR gen first E)).2.2 = 0 then
    (if (putR S a 0 (recsR gen first E)).1.flush.2 = 0 then ((putR S a 0 (recsR gen first E)).1.flush.1, (putR S a 0 (recsR gen first E)).2.1, 0) else ((putR S a 0 (recsR gen first E)).1.flush.1, 0, (putR S a 0 (recsR gen first E)).1.flush.2))
  else putR S a 0 (recsR gen first E)
/-- An open journal. -/
structure JD where
  gen : Nat
  used : Nat
  first : Nat
  ents : List (List UInt8)
  synced : Nat
  failed : Int
def JD.next (J : JD) : Nat := J.first + J.ents.length
/-- The range of a journal on a device. -/
structure JR where
  at_ : Nat
  cnt : Nat
def JR.half (R : JR) : Nat := R.cnt / 2
def JR.area (R : JR) (which : Nat) : Nat := R.at_ + which * R.half
/-- A new area becomes the current one. -/
def moveJ (S : DS) (R : JR) (which first : Nat) (E : List (List UInt8)) : DS × Int × JD :=
  let g := nextG which (secL S R.at_ R.cnt)
  if 2147483647 < g then (S, 9, ⟨0, 0, 0, [], 0, 0⟩) else
    if (wrA S (R.area which) g first E).2.2 = 0 then ((wrA S (R.area which) g first E).1, 0, ⟨g, (wrA S (R.area which) g first E).2.1, first, E, first + E.length, 0⟩)
    else ((wrA S (R.area which) g first E).1, (wrA S (R.area which) g first E).2.2, ⟨0, 0, 0, [], 0, 0⟩)
def withinE (S : DS) (a c : Int) : Int := if a < 0 ∨ c < 8 ∨ (S.dur.length : Int) - c < a then 2 else if S.down then 28 else 0
/-- The current area. -/
def currL (S : DS) (R : JR) : Option ArD :=
  match areaL (secL S (R.area 0) R.half) 0, areaL (secL S (R.area 1) R.half) 1 with
  | none, none => none
  | some x, none => some x
  | none, some y => some y
  | some x, some y => if x.gen < y.gen then some y else some x
def formJ (S : DS) (a c : Int) : DS × Int :=
  if withinE S a c ≠ 0 then (S, withinE S a c) else ((moveJ S ⟨a.toNat, c.toNat⟩ 0 0 []).1, (moveJ S ⟨a.toNat, c.toNat⟩ 0 0 []).2.1)
def openJ (S : DS) (a c : Int) : DS × Int × JD :=
  if withinE S a c ≠ 0 then (S, withinE S a c, ⟨0, 0, 0, [], 0, 0⟩) else
    match currL S ⟨a.toNat, c.toNat⟩ with
    | none => (S, 3, ⟨0, 0, 0, [], 0, 0⟩)
    | some x => moveJ S ⟨a.toNat, c.toNat⟩ (1 - x.gen % 2) x.first x.ents
def appJ (S : DS) (R : JR) (J : JD) (b : List UInt8) : DS × JD × Int × Nat :=
  if J.failed ≠ 0 then (S, J, J.failed, 0) else
  if 100000 < b.length then (S, J, 5, 0) else
  if R.half - J.used < needN b.length then (S, J, 9, 0) else
  if (wrL S (R.area (J.gen % 2) + J.used) (splitL (bodR J.gen (J.ents.length + 1) b))).2 = 0 then
    ((wrL S (R.area (J.gen % 2) + J.used) (splitL (bodR J.gen (J.ents.length + 1) b))).1, { J with ents := J.ents ++ [b], used := J.used + needN b.length }, 0, J.next)
  else ((wrL S (R.area (J.gen % 2) + J.used) (splitL (bodR J.gen (J.ents.length + 1) b))).1, { J with failed := (wrL S (R.area (J.gen % 2) + J.used) (splitL (bodR J.gen (J.ents.length + 1) b))).2 }, (wrL S (R.area (J.gen % 2) + J.used) (splitL (bodR J.gen (J.ents.length + 1) b))).2, 0)
def synJ (S : DS) (J : JD) : DS × JD × Int :=
  if J.failed ≠ 0 then (S, J, J.failed) else
  if S.flush.2 = 0 then (S.flush.1, { J with synced := J.next }, 0) else (S.flush.1, { J with failed := S.flush.2 }, S.flush.2)
def trnJ (S : DS) (R : JR) (J : JD) (before : Int) : DS × JD × Int :=
  if J.failed ≠ 0 then (S, J, J.failed) else
  if before < J.first ∨ (J.next : Int) < before then (S, J, 2) else
  if before = J.first then (S, J, 0) else
  if (moveJ S R (1 - J.gen % 2) before.toNat (J.ents.drop (before.toNat - J.first))).2.1 = 0 then ((moveJ S R (1 - J.gen % 2) before.toNat (J.ents.drop (before.toNat - J.first))).1, (moveJ S R (1 - J.gen % 2) before.toNat (J.ents.drop (before.toNat - J.first))).2.2, 0)
  else ((moveJ S R (1 - J.gen % 2) before.toNat (J.ents.drop (before.toNat - J.first))).1, { J with failed := if (moveJ S R (1 - J.gen % 2) before.toNat (J.ents.drop (before.toNat - J.first))).2.1 = 28 then 28 else 0 }, (moveJ S R (1 - J.gen % 2) before.toNat (J.ents.drop (before.toNat - J.first))).2.1)
end Go.Proofs.YtplclpileejemaaDoor

namespace Go.Proofs.YtplclpileejemaaDoor
open Go.RowKit
set_option linter.unusedVariables false
set_option linter.unusedSimpArgs false

set_option maxHeartbeats 1000000 in
theorem valid_any (k g n : Int) (w : World) :
    Calls Tryd.prog 69 #[.agg #[.int .i64 k, .int .i64 g, .int .i64 n]] w fun e w' => e = .returned (.bool (fineB k g n)) ∧ Below w.heap.size w w' := by
  by_cases h1 : 0 ≤ k
  · by_cases h2 : k ≤ 65535
    · by_cases h3 : 0 ≤ g
      · by_cases h4 : g ≤ 2147483647
        · by_cases h5 : 0 ≤ n
          · by_cases h6 : n ≤ 2147483647
            · have hb : fineB k g n = true := by simp [fineB, h1, h2, h3, h4, h5, h6]
              rw [hb]
              clear hb
              go_enter Tryd.func69, Tryd.ntmps69
              go_wp2
              exact bodyPost_ret (v := .bool true) (by simp [results, Tryd.results69, go_sem]) rfl ⟨rfl, (Below.refl _ w).alloc (Nat.le_refl _) _⟩
            · have hb : fineB k g n = false := by simp [fineB, h1, h2, h3, h4, h5, h6]
              rw [hb]
              clear hb
              go_enter Tryd.func69, Tryd.ntmps69
              go_wp2
              exact bodyPost_ret (v := .bool false) (by simp [results, Tryd.results69, go_sem]) rfl ⟨rfl, (Below.refl _ w).alloc (Nat.le_refl _) _⟩
          · have hb : fineB k g n = false := by simp [fineB, h1, h2, h3, h4, h5]
            rw [hb]
            clear hb
            go_enter Tryd.func69, Tryd.ntmps69
            go_wp2
            exact bodyPost_ret (v := .bool false) (by simp [results, Tryd.results69, go_sem]) rfl ⟨rfl, (Below.refl _ w).alloc (Nat.le_refl _) _⟩
        · have hb : fineB k g n = false := by simp [fineB, h1, h2, h3, h4]
          rw [hb]
          clear hb
          go_enter Tryd.func69, Tryd.ntmps69
          go_wp2
          exact bodyPost_ret (v := .bool false) (by simp [results, Tryd.results69, go_sem]) rfl ⟨rfl, (Below.refl _ w).alloc (Nat.le_refl _) _⟩
      · have hb : fineB k g n = false := by simp [fineB, h1, h2, h3]
        rw [hb]
        clear hb
        go_enter Tryd.func69, Tryd.ntmps69
        go_wp2
        exact bodyPost_ret (v := .bool false) (by simp [results, Tryd.results69, go_sem]) rfl ⟨rfl, (Below.refl _ w).alloc (Nat.le_refl _) _⟩
    · have hb : fineB k g n = false := by simp [fineB, h1, h2]
      rw [hb]
      clear hb
      go_enter Tryd.func69, Tryd.ntmps69
      go_wp2
      exact bodyPost_ret (v := .bool false) (by simp [results, Tryd.results69, go_sem]) rfl ⟨rfl, (Below.refl _ w).alloc (Nat.le_refl _) _⟩
  · have hb : fineB k g n = false := by simp [fineB, h1]
    rw [hb]
    clear hb
    go_enter Tryd.func69, Tryd.ntmps69
    go_wp2
    exact bodyPost_ret (v := .bool false) (by simp [results, Tryd.results69, go_sem]) rfl ⟨rfl, (Below.refl _ w).alloc (Nat.le_refl _) _⟩

set_option maxHeartbeats 1000000 in
theorem place_any (k g n i c : Int) (a : Option Addr) (len cap : Nat) (w : World) :
    Calls Tryd.prog 73 #[.agg #[.int .i64 k, .int .i64 g, .int .i64 n, .int .i64 i, .int .i64 c, .slice a len cap]] w fun e w' => e = .returned (.agg #[.int .i64 k, .int .i64 g, .int .i64 n, .int .i64 i, .int .i64 c]) ∧ Below w.heap.size w w' := by
  go_enter Tryd.func73, Tryd.ntmps73
  go_wp2
  refine bodyPost_ret (v := .agg #[.int .i64 k, .int .i64 g, .int .i64 n, .int .i64 i, .int .i64 c]) (by simp [results, Tryd.results73, go_sem]) rfl ⟨rfl, ?_⟩
  exact ((Below.refl _ w).alloc (Nat.le_refl _) _).alloc (by simp) _

end Go.Proofs.YtplclpileejemaaDoor

namespace Go.Proofs.YtplclpileejemaaDoor
open Go.RowKit
set_option linter.unusedVariables false
set_option linter.unusedSimpArgs false

theorem bcell {W w1 : World} (hb : Below W.heap.size W w1) : (∀ b o, b < W.heap.size → w1.cell? ⟨b, o, none⟩ = W.cell? ⟨b, o, none⟩) ∧ (∀ b o, b < W.heap.size → w1.frozen? ⟨b, o, none⟩ = W.frozen? ⟨b, o, none⟩) :=
  ⟨fun b o h => hb.cell (p := ⟨b, o, none⟩) h, fun b o h => hb.frozen (p := ⟨b, o, none⟩) h⟩
theorem cell_two {w w1 w2 : World} {A B : Obj} (h1 : Below (w.alloc A).heap.size (w.alloc A) w1) (h2 : Below (w1.alloc B).heap.size (w1.alloc B) w2) {j : Nat} {v : Value} (h : (w.alloc A).cell? ⟨w.heap.size, j, none⟩ = some v) :
    w2.cell? ⟨w.heap.size, j, none⟩ = some v := by
  have c1 := (Chg.of_below (F := fun _ => False) h1).cell (fun h => h) h
  have c2 := (Chg.alloc (F := fun _ => False) w1 B).cell (fun h => h) c1
  exact (Chg.of_below (F := fun _ => False) h2).cell (fun h => h) c2
theorem chk_below {w w1 w2 : World} {a b : Obj} (h1 : Below (w.alloc a).heap.size (w.alloc a) w1) (h2 : Below (w1.alloc b).heap.size (w1.alloc b) w2) : Below w.heap.size w w2 := by
  have s1 := h1.size
  rw [World.size_alloc] at s1 h1
  rw [World.size_alloc] at h2
  exact (((Below.refl _ _).alloc (Nat.le_refl _) _).trans ((h1.mono (by omega)))).trans (((Below.refl _ _).alloc (by omega) _).trans (h2.mono (by omega)))

set_option maxRecDepth 100000 in
set_option maxHeartbeats 2000000 in
theorem check_any (k g n i c : Int) (a : Option Addr) (len cap : Nat) (w : World) :
    Calls Tryd.prog 66 #[.agg #[.int .i64 k, .int .i64 g, .int .i64 n, .int .i64 i, .int .i64 c, .slice a len cap]] w fun e w' => e = .returned (.int .i64 (chkE k g n i c len)) ∧ Below w.heap.size w w' := by
  by_cases h1 : fineB k g n = true
  · skip
    by_cases h2 : 1 ≤ c
    · skip
      by_cases h3 : c ≤ 586
      · skip
        by_cases h4 : 0 ≤ i
        · skip
          by_cases h5 : i < c
          · skip
            by_cases h6 : 224 < len
            · skip
              have hb : chkE k g n i c len = 5 := by
                unfold chkE rangeB
                have q1 : (fineB k g n && decide (1 ≤ c) && decide (c ≤ 586) && decide (0 ≤ i) && decide (i < c)) = true := by simp [h1, h2, h3, h4, h5]
                rw [q1, if_neg (by simp)]
                rw [if_pos h6]
              rw [hb]
              clear hb
              go_enter Tryd.func66, Tryd.ntmps66
              go_wp2_with (first | (go_at_call 73; refine (place_any _ _ _ _ _ _ _ _ _).mono ?_; rintro e w1 ⟨rfl, hb1⟩; obtain ⟨hc1, hf1⟩ := bcell hb1; have hz1 := hb1.size; rw [World.size_alloc] at hz1) | (go_at_call 69; refine (valid_any _ _ _ _).mono ?_; rintro e w2 ⟨rfl, hb2⟩; obtain ⟨hc2, hf2⟩ := bcell hb2; have hx2 := cell_two hb1 hb2 (j := 5) (v := .slice a len cap) (by rw [cell_of_row _ _ _ _ _ _ (heap_alloc_new _ _)]; rfl)))
              go_ret
              exact ⟨rfl, chk_below hb1 hb2⟩
            · have h6' : len ≤ 224 := by omega
              by_cases h7 : i = c - 1
              · have h7b : (i == c - 1) = true := by simpa using h7
                by_cases h8 : 1 < c
                · by_cases h9 : len = 0
                  · have h9b : ((len : Int) == 0) = true := by simpa using h9
                    have hb : chkE k g n i c len = 4 := by
                      unfold chkE rangeB
                      have q1 : (fineB k g n && decide (1 ≤ c) && decide (c ≤ 586) && decide (0 ≤ i) && decide (i < c)) = true := by simp [h1, h2, h3, h4, h5]
                      rw [q1, if_neg (by simp)]
                      rw [if_neg (by omega), if_pos h7, if_pos ⟨h8, h9⟩]
                    rw [hb]
                    clear hb
                    have H7 := Lib.hid h7
                    clear h7 h9
                    go_enter Tryd.func66, Tryd.ntmps66
                    go_wp2_with (first | (go_at_call 73; refine (place_any _ _ _ _ _ _ _ _ _).mono ?_; rintro e w1 ⟨rfl, hb1⟩; obtain ⟨hc1, hf1⟩ := bcell hb1; have hz1 := hb1.size; rw [World.size_alloc] at hz1) | (go_at_call 69; refine (valid_any _ _ _ _).mono ?_; rintro e w2 ⟨rfl, hb2⟩; obtain ⟨hc2, hf2⟩ := bcell hb2; have hx2 := cell_two hb1 hb2 (j := 5) (v := .slice a len cap) (by rw [cell_of_row _ _ _ _ _ _ (heap_alloc_new _ _)]; rfl)))
                    go_ret
                    exact ⟨rfl, chk_below hb1 hb2⟩
                  · have h9b : ((len : Int) == 0) = false := by simpa using h9
                    by_cases h10 : 131072 < i * 224 + len
                    · have h10' : 131072 < 224 * i + len := by omega
                      have hb : chkE k g n i c len = 5 := by
                        unfold chkE rangeB
                        have q1 : (fineB k g n && decide (1 ≤ c) && decide (c ≤ 586) && decide (0 ≤ i) && decide (i < c)) = true := by simp [h1, h2, h3, h4, h5]
                        rw [q1, if_neg (by simp)]
                        rw [if_neg (by omega), if_pos h7, if_neg (by omega), if_pos h10]
                      rw [hb]
                      clear hb
                      have H7 := Lib.hid h7
                      clear h7 h9
                      go_enter Tryd.func66, Tryd.ntmps66
                      go_wp2_with (first | (go_at_call 73; refine (place_any _ _ _ _ _ _ _ _ _).mono ?_; rintro e w1 ⟨rfl, hb1⟩; obtain ⟨hc1, hf1⟩ := bcell hb1; have hz1 := hb1.size; rw [World.size_alloc] at hz1) | (go_at_call 69; refine (valid_any _ _ _ _).mono ?_; rintro e w2 ⟨rfl, hb2⟩; obtain ⟨hc2, hf2⟩ := bcell hb2; have hx2 := cell_two hb1 hb2 (j := 5) (v := .slice a len cap) (by rw [cell_of_row _ _ _ _ _ _ (heap_alloc_new _ _)]; rfl)))
                      go_ret
                      exact ⟨rfl, chk_below hb1 hb2⟩
                    · have h10' : i * 224 + len ≤ 131072 := by omega
                      have h10'' : 224 * i + len ≤ 131072 := by omega
                      have hb : chkE k g n i c len = 0 := by
                        unfold chkE rangeB
                        have q1 : (fineB k g n && decide (1 ≤ c) && decide (c ≤ 586) && decide (0 ≤ i) && decide (i < c)) = true := by simp [h1, h2, h3, h4, h5]
                        rw [q1, if_neg (by simp)]
                        rw [if_neg (by omega), if_pos h7, if_neg (by omega), if_neg h10]
                      rw [hb]
                      clear hb
                      have H7 := Lib.hid h7
                      clear h7 h9
                      go_enter Tryd.func66, Tryd.ntmps66
                      go_wp2_with (first | (go_at_call 73; refine (place_any _ _ _ _ _ _ _ _ _).mono ?_; rintro e w1 ⟨rfl, hb1⟩; obtain ⟨hc1, hf1⟩ := bcell hb1; have hz1 := hb1.size; rw [World.size_alloc] at hz1) | (go_at_call 69; refine (valid_any _ _ _ _).mono ?_; rintro e w2 ⟨rfl, hb2⟩; obtain ⟨hc2, hf2⟩ := bcell hb2; have hx2 := cell_two hb1 hb2 (j := 5) (v := .slice a len cap) (by rw [cell_of_row _ _ _ _ _ _ (heap_alloc_new _ _)]; rfl)))
                      go_ret
                      exact ⟨rfl, chk_below hb1 hb2⟩
                · have h8' : c ≤ 1 := by omega
                  by_cases h10 : 131072 < i * 224 + len
                  · exfalso
                    omega
                  · have h10' : i * 224 + len ≤ 131072 := by omega
                    have h10'' : 224 * i + len ≤ 131072 := by omega
                    have hb : chkE k g n i c len = 0 := by
                      unfold chkE rangeB
                      have q1 : (fineB k g n && decide (1 ≤ c) && decide (c ≤ 586) && decide (0 ≤ i) && decide (i < c)) = true := by simp [h1, h2, h3, h4, h5]
                      rw [q1, if_neg (by simp)]
                      rw [if_neg (by omega), if_pos h7, if_neg (by omega), if_neg h10]
                    rw [hb]
                    clear hb
                    have H7 := Lib.hid h7
                    clear h7
                    go_enter Tryd.func66, Tryd.ntmps66
                    go_wp2_with (first | (go_at_call 73; refine (place_any _ _ _ _ _ _ _ _ _).mono ?_; rintro e w1 ⟨rfl, hb1⟩; obtain ⟨hc1, hf1⟩ := bcell hb1; have hz1 := hb1.size; rw [World.size_alloc] at hz1) | (go_at_call 69; refine (valid_any _ _ _ _).mono ?_; rintro e w2 ⟨rfl, hb2⟩; obtain ⟨hc2, hf2⟩ := bcell hb2; have hx2 := cell_two hb1 hb2 (j := 5) (v := .slice a len cap) (by rw [cell_of_row _ _ _ _ _ _ (heap_alloc_new _ _)]; rfl)))
                    go_ret
                    exact ⟨rfl, chk_below hb1 hb2⟩
              · have h7b : (i == c - 1) = false := by simpa using h7
                by_cases h8 : len < 224
                · skip
                  have hb : chkE k g n i c len = 4 := by
                    unfold chkE rangeB
                    have q1 : (fineB k g n && decide (1 ≤ c) && decide (c ≤ 586) && decide (0 ≤ i) && decide (i < c)) = true := by simp [h1, h2, h3, h4, h5]
                    rw [q1, if_neg (by simp)]
                    rw [if_neg (by omega), if_neg h7, if_pos h8]
                  rw [hb]
                  clear hb
                  have H7 := Lib.hid h7
                  clear h7
                  go_enter Tryd.func66, Tryd.ntmps66
                  go_wp2_with (first | (go_at_call 73; refine (place_any _ _ _ _ _ _ _ _ _).mono ?_; rintro e w1 ⟨rfl, hb1⟩; obtain ⟨hc1, hf1⟩ := bcell hb1; have hz1 := hb1.size; rw [World.size_alloc] at hz1) | (go_at_call 69; refine (valid_any _ _ _ _).mono ?_; rintro e w2 ⟨rfl, hb2⟩; obtain ⟨hc2, hf2⟩ := bcell hb2; have hx2 := cell_two hb1 hb2 (j := 5) (v := .slice a len cap) (by rw [cell_of_row _ _ _ _ _ _ (heap_alloc_new _ _)]; rfl)))
                  go_ret
                  exact ⟨rfl, chk_below hb1 hb2⟩
                · have h8' : 224 ≤ len := by omega
                  have hb : chkE k g n i c len = 0 := by
                    unfold chkE rangeB
                    have q1 : (fineB k g n && decide (1 ≤ c) && decide (c ≤ 586) && decide (0 ≤ i) && decide (i < c)) = true := by simp [h1, h2, h3, h4, h5]
                    rw [q1, if_neg (by simp)]
                    rw [if_neg (by omega), if_neg h7, if_neg h8]
                  rw [hb]
                  clear hb
                  have H7 := Lib.hid h7
                  clear h7
                  go_enter Tryd.func66, Tryd.ntmps66
                  go_wp2_with (first | (go_at_call 73; refine (place_any _ _ _ _ _ _ _ _ _).mono ?_; rintro e w1 ⟨rfl, hb1⟩; obtain ⟨hc1, hf1⟩ := bcell hb1; have hz1 := hb1.size; rw [World.size_alloc] at hz1) | (go_at_call 69; refine (valid_any _ _ _ _).mono ?_; rintro e w2 ⟨rfl, hb2⟩; obtain ⟨hc2, hf2⟩ := bcell hb2; have hx2 := cell_two hb1 hb2 (j := 5) (v := .slice a len cap) (by rw [cell_of_row _ _ _ _ _ _ (heap_alloc_new _ _)]; rfl)))
                  go_ret
                  exact ⟨rfl, chk_below hb1 hb2⟩
          · skip
            have h5' : c ≤ i := by omega
            have hb : chkE k g n i c len = 2 := by
              unfold chkE rangeB
              simp [h1, h2, h3, h4, h5]
            rw [hb]
            clear hb
            go_enter Tryd.func66, Tryd.ntmps66
            go_wp2_with (first | (go_at_call 73; refine (place_any _ _ _ _ _ _ _ _ _).mono ?_; rintro e w1 ⟨rfl, hb1⟩; obtain ⟨hc1, hf1⟩ := bcell hb1; have hz1 := hb1.size; rw [World.size_alloc] at hz1) | (go_at_call 69; refine (valid_any _ _ _ _).mono ?_; rintro e w2 ⟨rfl, hb2⟩; obtain ⟨hc2, hf2⟩ := bcell hb2; have hx2 := cell_two hb1 hb2 (j := 5) (v := .slice a len cap) (by rw [cell_of_row _ _ _ _ _ _ (heap_alloc_new _ _)]; rfl)))
            go_ret
            exact ⟨rfl, chk_below hb1 hb2⟩
        · skip
          have h4' : i < 0 := by omega
          have hb : chkE k g n i c len = 2 := by
            unfold chkE rangeB
            simp [h1, h2, h3, h4]
          rw [hb]
          clear hb
          go_enter Tryd.func66, Tryd.ntmps66
          go_wp2_with (first | (go_at_call 73; refine (place_any _ _ _ _ _ _ _ _ _).mono ?_; rintro e w1 ⟨rfl, hb1⟩; obtain ⟨hc1, hf1⟩ := bcell hb1; have hz1 := hb1.size; rw [World.size_alloc] at hz1) | (go_at_call 69; refine (valid_any _ _ _ _).mono ?_; rintro e w2 ⟨rfl, hb2⟩; obtain ⟨hc2, hf2⟩ := bcell hb2; have hx2 := cell_two hb1 hb2 (j := 5) (v := .slice a len cap) (by rw [cell_of_row _ _ _ _ _ _ (heap_alloc_new _ _)]; rfl)))
          go_ret
          exact ⟨rfl, chk_below hb1 hb2⟩
      · skip
        have h3' : 586 < c := by omega
        have hb : chkE k g n i c len = 2 := by
          unfold chkE rangeB
          simp [h1, h2, h3]
        rw [hb]
        clear hb
        go_enter Tryd.func66, Tryd.ntmps66
        go_wp2_with (first | (go_at_call 73; refine (place_any _ _ _ _ _ _ _ _ _).mono ?_; rintro e w1 ⟨rfl, hb1⟩; obtain ⟨hc1, hf1⟩ := bcell hb1; have hz1 := hb1.size; rw [World.size_alloc] at hz1) | (go_at_call 69; refine (valid_any _ _ _ _).mono ?_; rintro e w2 ⟨rfl, hb2⟩; obtain ⟨hc2, hf2⟩ := bcell hb2; have hx2 := cell_two hb1 hb2 (j := 5) (v := .slice a len cap) (by rw [cell_of_row _ _ _ _ _ _ (heap_alloc_new _ _)]; rfl)))
        go_ret
        exact ⟨rfl, chk_below hb1 hb2⟩
    · skip
      have h2' : c < 1 := by omega
      have hb : chkE k g n i c len = 2 := by
        unfold chkE rangeB
        simp [h1, h2]
      rw [hb]
      clear hb
      go_enter Tryd.func66, Tryd.ntmps66
      go_wp2_with (first | (go_at_call 73; refine (place_any _ _ _ _ _ _ _ _ _).mono ?_; rintro e w1 ⟨rfl, hb1⟩; obtain ⟨hc1, hf1⟩ := bcell hb1; have hz1 := hb1.size; rw [World.size_alloc] at hz1) | (go_at_call 69; refine (valid_any _ _ _ _).mono ?_; rintro e w2 ⟨rfl, hb2⟩; obtain ⟨hc2, hf2⟩ := bcell hb2; have hx2 := cell_two hb1 hb2 (j := 5) (v := .slice a len cap) (by rw [cell_of_row _ _ _ _ _ _ (heap_alloc_new _ _)]; rfl)))
      go_ret
      exact ⟨rfl, chk_below hb1 hb2⟩
  · skip
    have h1' : fineB k g n = false := by simpa using h1
    have hb : chkE k g n i c len = 2 := by
      unfold chkE rangeB
      simp [h1']
    rw [hb]
    clear hb
    go_enter Tryd.func66, Tryd.ntmps66
    go_wp2_with (first | (go_at_call 73; refine (place_any _ _ _ _ _ _ _ _ _).mono ?_; rintro e w1 ⟨rfl, hb1⟩; obtain ⟨hc1, hf1⟩ := bcell hb1; have hz1 := hb1.size; rw [World.size_alloc] at hz1) | (go_at_call 69; refine (valid_any _ _ _ _).mono ?_; rintro e w2 ⟨rfl, hb2⟩; obtain ⟨hc2, hf2⟩ := bcell hb2; have hx2 := cell_two hb1 hb2 (j := 5) (v := .slice a len cap) (by rw [cell_of_row _ _ _ _ _ _ (heap_alloc_new _ _)]; rfl)))
    go_ret
    exact ⟨rfl, chk_below hb1 hb2⟩

end Go.Proofs.YtplclpileejemaaDoor

namespace Go.Proofs.YtplclpileejemaaDoor
open Go.RowKit
set_option linter.unusedVariables false
set_option linter.unusedSimpArgs false

theorem beL_cons : ∀ s n, beL (s + 1) n = (n / 256 ^ s).toUInt8 :: beL s n
  | 0, n => by simp [beL]
  | s + 1, n => by
    rw [beL, beL_cons s (n / 256), Nat.div_div_eq_div_mul, List.cons_append, ← Nat.pow_succ']
    rfl
theorem u8_mod (m : Nat) : Value.int .u8 ((m : Int) % 256) = bv m.toUInt8 := by unfold bv; simp

theorem foldl_take (l : List UInt8) (i : Nat) (h : i < l.length) : valN (l.take (i + 1)) = valN (l.take i) * 256 + l[i].toNat := by
  rw [List.take_succ_eq_append_getElem h, valN_snoc]

theorem zeros_snoc (l : List UInt8) (i : Nat) (h : i < l.length) : zerosB (l.take (i + 1)) = (zerosB (l.take i) && l[i] == 0) := by
  unfold zerosB
  rw [List.take_succ_eq_append_getElem h, List.all_append, List.all_cons, List.all_nil, Bool.and_true]
theorem zeros_stop (l : List UInt8) (i : Nat) (h : i < l.length) (hx : l[i] ≠ 0) : zerosB l = false := by
  rw [Bool.eq_false_iff]
  intro e
  unfold zerosB at e
  have := List.all_eq_true.1 e l[i] (List.getElem_mem h)
  exact hx (by simpa using this)

set_option maxHeartbeats 1000000 in
theorem IsBlank_any {w : World} {F : Nat → Prop} {v : Value} {l : List UInt8} (hb : BytesAt w F v l) (hl : l.length ≤ 1000000000) :
    Calls Tryd.prog 65 #[v] w fun e w' => e = .returned (.bool (zerosB l)) ∧ w = w' := by
  obtain ⟨a, cap, rfl⟩ := hb.form
  obtain ⟨N, hN⟩ : ∃ N, l.length = N := ⟨_, rfl⟩
  rw [hN] at hb hl ⊢
  have HN := Lib.hid hN
  have HB := Lib.hid hb
  clear hN hb
  go_enter Tryd.func65, Tryd.ntmps65
  go_wp2_with fail
  go_loop [7] (fun iv => ∃ i : Nat, i ≤ N ∧ iv = .int .i64 (i : Int) ∧ zerosB (l.take i) = true) (fun iv => N - (intOf iv).toNat)
  case atStart => exact ⟨0, Nat.zero_le _, rfl, rfl⟩
  case round =>
    obtain ⟨i, hi, rfl, hz⟩ := hrel
    have HZ := Lib.hid hz
    clear hz
    by_cases hlt : i < N
    · have hil : i < l.length := by rw [HN.out]; exact hlt
      obtain ⟨g, off, rfl, hc⟩ := HB.out.get hil
      by_cases hx : l[i] = 0
      · have h0 : l[i].toNat = 0 := by rw [hx]; rfl
        rw [h0] at hc
        have hz2 : zerosB (l.take (i + 1)) = true := by rw [zeros_snoc l i hil, HZ.out, hx]; rfl
        have HZ2 := Lib.hid hz2
        clear h0 hx hz2
        go_wp2_with fail
        go_round
        case rel => exact ⟨i + 1, by omega, by go_num, HZ2.out⟩
        case measure => simp [intOf]; omega
      · have hn0 : ((l[i].toNat : Int) != 0) = true := by
          simp only [bne_iff_ne, ne_eq]
          intro e
          exact hx (UInt8.toNat_inj.1 (by simpa using e))
        have hz2 := zeros_stop l i hil hx
        obtain ⟨X, hX⟩ : ∃ X, l[i].toNat = X := ⟨_, rfl⟩
        rw [hX] at hc hn0
        have HZ2 := Lib.hid hz2
        clear hx hz2 hX
        go_wp2_with fail
        go_ret
        exact ⟨by rw [HZ2.out]; rfl, rfl⟩
    · obtain rfl : i = N := by omega
      have ht : l.take i = l := List.take_of_length_le (by rw [HN.out]; exact Nat.le_refl _)
      have hz := HZ.out
      rw [ht] at hz
      have HZ2 := Lib.hid hz
      clear ht hz
      go_wp2_with fail
      go_ret
      exact ⟨by rw [HZ2.out]; rfl, rfl⟩

theorem ret_int1 {k : IntKind} {a b : Int} (h : a = b) : Ending.returned (.int k a) = .returned (.int k b) := by rw [h]
theorem ret_int2 {k l : IntKind} {a b c d : Int} (h : a = b) (h2 : c = d) : Ending.returned (.tuple #[.int k a, .int l c]) = .returned (.tuple #[.int k b, .int l d]) := by rw [h, h2]
def needE (n : Int) : Int := if n < 0 ∨ 131072 < n then 2 else 0
def needV (n : Int) : Nat := if n < 0 ∨ 131072 < n then 0 else needN n.toNat
set_option maxHeartbeats 1000000 in
theorem Need_any (n : Int) (w : World) : Calls Tryd.prog 41 #[.int .i64 n] w fun e w' => e = .returned (.tuple #[.int .i64 (needV n : Int), .int .i64 (needE n)]) ∧ w = w' := by
  unfold needE needV
  by_cases h1 : n < 0
  · rw [if_pos (.inl h1), if_pos (.inl h1)]
    go_enter Tryd.func41, Tryd.ntmps41
    go_wp2
    go_ret2
    exact ⟨rfl, rfl⟩
  · have h1' : 0 ≤ n := by omega
    by_cases h2 : 131072 < n
    · rw [if_pos (.inr h2), if_pos (.inr h2)]
      go_enter Tryd.func41, Tryd.ntmps41
      go_wp2
      go_ret2
      exact ⟨rfl, rfl⟩
    · have h2' : n ≤ 131072 := by omega
      rw [if_neg (by omega), if_neg (by omega)]
      have hv : ((needN n.toNat : Nat) : Int) = max 1 ((n + 223) / 224) := by unfold needN; omega
      have HV := Lib.hid hv
      clear hv
      go_enter Tryd.func41, Tryd.ntmps41
      go_wp2
      all_goals
        go_ret2
        refine ⟨?_, rfl⟩
        rw [HV.out]
        refine ret_int2 ?_ rfl
        omega
end Go.Proofs.YtplclpileejemaaDoor

namespace Go.Proofs.YtplclpileejemaaDoor
open Go.RowKit
set_option linter.unusedVariables false
set_option linter.unusedSimpArgs false

theorem spliceL_snoc (l : List UInt8) (i : Nat) (c : List UInt8) (b : UInt8) (h : i + c.length < l.length) : (spliceL l i c).set (i + c.length) b = spliceL l i (c ++ [b]) := by
  unfold spliceL
  have h1 : (l.take i ++ c).length = i + c.length := by simp; omega
  rw [List.set_append_right (i + c.length) b (by omega), h1, Nat.sub_self, List.drop_eq_getElem_cons h]
  simp only [List.set_cons_zero, List.append_assoc, List.length_append, List.length_cons, List.length_nil, List.cons_append, List.nil_append]
  rfl
theorem beL_take (s n j : Nat) (h : j < s) : (beL s n).take (j + 1) = (beL s n).take j ++ [(n / 256 ^ (s - 1 - j)).toUInt8] := by
  have hj : j < (beL s n).length := by simpa using h
  rw [List.take_succ_eq_append_getElem hj]
  congr 2
  induction s generalizing n j with
  | zero => omega
  | succ s ih =>
    by_cases e : j = s
    · subst e
      have h0 : j + 1 - 1 - j = 0 := by omega
      rw [h0]
      simp [beL]
    · have h1 := ih (n / 256) j (by omega) (by simp; omega)
      have h2 : s + 1 - 1 - j = (s - 1 - j) + 1 := by omega
      rw [h2, Nat.pow_succ']
      simp only [beL]
      rw [List.getElem_append_left (by simp; omega), h1, Nat.div_div_eq_div_mul]
def hdrAt (w : World) (h at_ : Nat) (l : List UInt8) (i : Nat) : Prop := w.heap[h]? = some (.cells (bvs l).toArray 129 (0, 0)) ∧ w.heap[at_]? = some (.cells #[.int .i64 (i : Int)] 3 (0, 0))

theorem hdr_step {w : World} {h at_ k : Nat} {l : List UInt8} {x : UInt8} (hne : h ≠ at_) (hw : hdrAt w h at_ l k) :
    hdrAt (((w.setCell ⟨h, k, none⟩ (bv x)).setCell ⟨at_, 0, none⟩ (.int .i64 ((k : Int) + 1)))).drew h at_ (l.set k x) (k + 1) := by
  have h1 := heap_setCell_same _ h k _ _ (bv x) hw.1
  have h2 := (heap_setCell_other w ⟨h, k, none⟩ at_ (bv x) hne.symm).trans hw.2
  have h3 := heap_setCell_same _ at_ 0 _ _ (.int .i64 ((k : Int) + 1)) h2
  have h4 := (heap_setCell_other (w.setCell ⟨h, k, none⟩ (bv x)) ⟨at_, 0, none⟩ h (.int .i64 ((k : Int) + 1)) hne).trans h1
  refine ⟨h4.trans ?_, h3.trans ?_⟩
  · simp [bvs, List.map_set]
  · simp
set_option maxHeartbeats 1000000 in
theorem put_any (n size i h at_ : Nat) (l : List UInt8) (hn : n < 4611686018427387904) (hs : size ≤ 4) (hi : i + size ≤ 32) (hl : l.length = 32) (hne : h ≠ at_) {w : World} (hw : hdrAt w h at_ l i) :
    Calls Tryd.prog 75 #[.int .i64 (n : Int), .int .i64 (size : Int), .pointer (some ⟨h, 0, none⟩), .pointer (some ⟨at_, 0, none⟩)] w fun e w' =>
      e = .returned (.tuple #[]) ∧ hdrAt w' h at_ (spliceL l i (beL size n)) (i + size) ∧ Chg (fun k => k = h ∨ k = at_) w w' := by
  have HW := Lib.hid hw
  have HL := Lib.hid hl
  have HNE := Lib.hid hne
  clear hw hl hne
  go_enter Tryd.func75, Tryd.ntmps75
  go_wp2_with fail
  go_loopw [6] (fun iv wr => ∃ j : Nat, j ≤ size ∧ iv = .int .i64 ((size : Int) - 1 - (j : Int)) ∧ hdrAt wr h at_ (spliceL l i ((beL size n).take j)) (i + j) ∧ Chg (fun k => k = h ∨ k = at_) w wr)
    (fun iv _ => (intOf iv + 1).toNat)
  case atStart => exact ⟨0, Nat.zero_le _, by simp, by simpa [spliceL] using HW.out, Chg.refl _ _⟩
  case round =>
    obtain ⟨j, hj, rfl, hH, hC⟩ := hrel
    have hat : wr.cell? ⟨at_, 0, none⟩ = some (.int .i64 (i + j : Nat)) := by rw [cell_of_row _ _ _ _ _ _ hH.2]; rfl
    have hatf : wr.frozen? ⟨at_, 0, none⟩ = false := frozen_of_row _ _ _ _ _ hH.2
    by_cases hlt : j < size
    · have hge : (0 : Int) ≤ (size : Int) - 1 - (j : Int) := by omega
      have hij : i + j < 32 := by omega
      have hlen : (spliceL l i ((beL size n).take j)).length = 32 := by rw [spliceL_length _ _ _ (by simp [HL.out]; omega)]; exact HL.out
      have hold : ∃ v, wr.cell? ⟨h, i + j, none⟩ = some v := by
        rw [cell_of_row _ _ _ _ _ _ hH.1, List.getElem?_toArray, bvs_getElem?, List.getElem?_eq_getElem (by omega)]
        exact ⟨_, rfl⟩
      obtain ⟨old, hold⟩ := hold
      have hhf : wr.frozen? ⟨h, i + j, none⟩ = false := frozen_of_row _ _ _ _ _ hH.1
      have hval : Value.int .u8 ((n : Int) / 2 ^ (8 * (size - 1 - j)) % 256) = bv ((n / 256 ^ (size - 1 - j)).toUInt8) := by
        have e : (2 : Int) ^ (8 * (size - 1 - j)) = ((256 ^ (size - 1 - j) : Nat) : Int) := by rw [Int.pow_mul, Int.natCast_pow]; rfl
        rw [e]
        unfold bv
        simp
      have hsp := spliceL_snoc l i ((beL size n).take j) ((n / 256 ^ (size - 1 - j)).toUInt8) (by simp [HL.out]; omega)
      have htl : ((beL size n).take j).length = j := by simp; omega
      rw [htl, ← beL_take size n j hlt] at hsp
      have hne := HNE.out
      have hne2 : at_ ≠ h := fun e => hne e.symm
      have HLEN := Lib.hid hlen
      have HV := Lib.hid hval
      have HSP := Lib.hid hsp
      have HH := Lib.hid hH
      have HC := Lib.hid hC
      clear hlen hval hsp htl hH hC
      go_wp2_with fail
      go_region
      go_wp2_with fail
      go_roundw
      case rel =>
        refine ⟨j + 1, by omega, by go_num, ?_, ?_⟩
        · rw [HV.out, ← HSP.out]
          exact hdr_step HNE.out HH.out
        · exact ((HC.out.trans (Chg.setCell _ _ (.inl rfl)) (fun _ h => .inl h)).trans (Chg.setCell _ _ (.inr rfl)) (fun _ h => .inl h)).drew
      case measure => simp [intOf]; omega
    · obtain rfl : j = size := by omega
      have hge : (j : Int) - 1 - (j : Int) < 0 := by omega
      have ht : (beL j n).take j = beL j n := List.take_of_length_le (by simp)
      rw [ht] at hH
      have HH := Lib.hid hH
      have HC := Lib.hid hC
      clear hH hC ht
      go_wp2_with fail
      go_end0
      exact ⟨rfl, HH.out, HC.out⟩

end Go.Proofs.YtplclpileejemaaDoor

namespace Go.Proofs.YtplclpileejemaaDoor
open Go.RowKit
set_option linter.unusedVariables false
set_option linter.unusedSimpArgs false

theorem seg_succ (l : List UInt8) (i j : Nat) (h : i + j < l.length) : valN (seg l i (j + 1)) = valN (seg l i j) * 256 + (l[i + j]).toNat := by
  unfold seg
  rw [List.take_succ_eq_append_getElem (by simp; omega), valN_snoc, List.getElem_drop]

theorem or_low (V X : Nat) (h : X < 256) : V * 256 ||| X = V * 256 + X := by
  have := Nat.two_pow_add_eq_or_of_lt (i := 8) (b := X) h V
  rw [Nat.mul_comm] at this
  exact this.symm
theorem bits_or_i64 (V X : Nat) (hV : V < 256 ^ 3) (hX : X < 256) : bits .or .i64 ((V : Int) * 256) (X : Int) = ((V * 256 + X : Nat) : Int) := by
  have e : (V : Int) * 256 = ((V * 256 : Nat) : Int) := by simp
  rw [e]
  have h1 : (BitVec.ofInt 64 ((V * 256 : Nat) : Int)).toNat = V * 256 := by
    rw [BitVec.ofInt_natCast, BitVec.toNat_ofNat]; exact Nat.mod_eq_of_lt (by omega)
  have h2 : (BitVec.ofInt 64 (X : Int)).toNat = X := by
    rw [BitVec.ofInt_natCast, BitVec.toNat_ofNat]; exact Nat.mod_eq_of_lt (by omega)
  show IntKind.i64.wrap ((BitVec.ofInt 64 ((V * 256 : Nat) : Int) ||| BitVec.ofInt 64 (X : Int)).toNat : Int) = _
  rw [BitVec.toNat_or, h1, h2, or_low V X hX]
  exact IntWalk.i64_in _ (by omega)

set_option maxHeartbeats 1000000 in
theorem get_any (size i pb at_ : Nat) (l : List UInt8) (cap g off : Nat) (hs : size ≤ 4) (hi : i + size ≤ l.length) (hl : l.length ≤ 1000) {w : World} (hb : BytesAt w (fun k => k ≠ at_) (.slice (some ⟨g, off, none⟩) l.length cap) l)
    (hp : w.cell? ⟨pb, 0, none⟩ = some (.slice (some ⟨g, off, none⟩) l.length cap)) (hne : pb ≠ at_) (ha : w.heap[at_]? = some (.cells #[.int .i64 (i : Int)] 3 (0, 0))) :
    Calls Tryd.prog 64 #[.int .i64 (size : Int), .pointer (some ⟨pb, 0, none⟩), .pointer (some ⟨at_, 0, none⟩)] w fun e w' =>
      e = .returned (.int .i64 (valN (seg l i size) : Int)) ∧ w'.heap[at_]? = some (.cells #[.int .i64 ((i + size : Nat) : Int)] 3 (0, 0)) ∧ Chg (fun k => k = at_) w w' := by
  obtain ⟨N, hN⟩ : ∃ N, l.length = N := ⟨_, rfl⟩
  rw [hN] at hb hi hl hp
  have HN := Lib.hid hN
  have HB := Lib.hid hb
  have HP := Lib.hid hp
  have HNE := Lib.hid hne
  have HA := Lib.hid ha
  clear hN hb hp hne ha
  go_enter Tryd.func64, Tryd.ntmps64
  go_wp2_with fail
  go_loopw [5, 7] (fun nv kv wr => ∃ j : Nat, j ≤ size ∧ kv = .int .i64 (j : Int) ∧ nv = .int .i64 (valN (seg l i j) : Int) ∧ wr.heap[at_]? = some (.cells #[.int .i64 ((i + j : Nat) : Int)] 3 (0, 0)) ∧ Chg (fun k => k = at_) w wr)
    (fun _ kv _ => size - (intOf kv).toNat)
  case atStart => exact ⟨0, Nat.zero_le _, rfl, by simp [seg, valN], HA.out, Chg.refl _ _⟩
  case round =>
    obtain ⟨j, hj, rfl, rfl, hA, hC⟩ := hrel
    have hat : wr.cell? ⟨at_, 0, none⟩ = some (.int .i64 (i + j : Nat)) := by rw [cell_of_row _ _ _ _ _ _ hA]; rfl
    have hatf : wr.frozen? ⟨at_, 0, none⟩ = false := frozen_of_row _ _ _ _ _ hA
    have hpw : wr.cell? ⟨pb, 0, none⟩ = some (.slice (some ⟨g, off, none⟩) N cap) := hC.cell HNE.out HP.out
    by_cases hlt : j < size
    · have hij : i + j < l.length := by rw [HN.out]; omega
      have hbw := HB.out.kept hC (fun _ h => h)
      rw [← HN.out] at hbw
      obtain ⟨g', off', e, hc⟩ := hbw.get (i := i + j) hij
      cases e
      have hijN : i + j < N := by omega
      have hsp := seg_succ l i j hij
      have hv := valN_lt (seg l i j)
      have hle : (seg l i j).length ≤ 3 := by simp [seg]; omega
      have hv2 : valN (seg l i j) < 256 ^ 3 := Nat.lt_of_lt_of_le hv (Nat.pow_le_pow_right (by decide) hle)
      obtain ⟨V, hV⟩ : ∃ V, valN (seg l i j) = V := ⟨_, rfl⟩
      have hx : l[i + j].toNat < 256 := UInt8.toNat_lt _
      obtain ⟨X, hX⟩ : ∃ X, l[i + j].toNat = X := ⟨_, rfl⟩
      rw [hV] at hsp hv2 ⊢
      rw [hX] at hsp hx hc
      have HSP := Lib.hid hsp
      have HC := Lib.hid hC
      have HAA := Lib.hid hA
      clear hsp hv hle hV hX hC hA hbw hij
      go_wp2_with fail
      go_roundw
      case rel =>
        refine ⟨j + 1, by omega, by go_num, ?_, ?_, HC.out.trans (Chg.setCell (F := fun k => k = at_) _ _ rfl) (fun _ h => .inl h)⟩
        · rw [bits_or_i64 V X hv2 hx, HSP.out]
        · exact (heap_setCell_same _ at_ 0 _ _ (.int .i64 ((i : Int) + (j : Int) + 1)) HAA.out).trans (by simp; omega)
      case measure => simp [intOf]; omega
    · obtain rfl : j = size := by omega
      have HC := Lib.hid hC
      have HAA := Lib.hid hA
      clear hC hA
      go_wp2_with fail
      go_ret
      exact ⟨rfl, HAA.out, HC.out⟩

end Go.Proofs.YtplclpileejemaaDoor
