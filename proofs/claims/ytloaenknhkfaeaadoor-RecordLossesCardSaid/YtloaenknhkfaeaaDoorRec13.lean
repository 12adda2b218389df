/- Records: Split, both sides. -/
import Derived.Test.YtloaenknhkfaeaaDoorRec12
import Derived.Outline
namespace Go.Proofs.YtloaenknhkfaeaaDoor
open Go.RowKit
set_option linter.unusedVariables false
set_option linter.unusedSimpArgs false

/-- What both Splits return. -/
def SplitPost (w : World) (r : RecD) (e : Ending) (w' : World) : Prop :=
  ∃ v, e = .returned (.tuple #[v, .int .i64 (splitE r)]) ∧ OwnSecs w' w.heap.size v (splitL r) ∧ Below w.heap.size w w'
theorem SplitPost.no {w w' : World} {r : RecD} {k : Int} (hk : splitE r = k) (h0 : k ≠ 0) (hb : Below w.heap.size w w') : SplitPost w r (.returned (.tuple #[.slice none 0 0, .int .i64 k])) w' := by
  subst hk
  refine ⟨_, rfl, ?_, hb⟩
  have : splitL r = [] := by unfold splitL; rw [if_neg h0]
  rw [this]
  exact ownSecs_nil _ _
def encs (r : RecD) (i : Nat) : List (List UInt8) := (List.range i).map fun i => encL (partOf r i)
@[simp] theorem encs_length (r : RecD) (i : Nat) : (encs r i).length = i := by simp [encs]
theorem encs_succ (r : RecD) (i : Nat) : encs r (i + 1) = encs r i ++ [encL (partOf r i)] := by simp [encs, List.range_succ]
theorem SplitPost.yes {w w1 w' : World} {r : RecD} {N : Nat} {v : Value} (hk : splitE r = 0) (hN : needN r.load.length = N) (ho : OwnSecs w' w1.heap.size v (encs r N)) (hs : w.heap.size ≤ w1.heap.size) (hb : Below w.heap.size w w') :
    SplitPost w r (.returned (.tuple #[v, .int .i64 0])) w' := by
  subst hN
  refine ⟨v, by rw [hk], ?_, hb⟩
  have : splitL r = encs r (needN r.load.length) := by unfold splitL; rw [if_pos hk]; rfl
  rw [this]
  exact ho.base hs
theorem BytesAt.seg {w : World} {F : Nat → Prop} {g off n cap : Nat} {l : List UInt8} (h : BytesAt w F (.slice (some ⟨g, off, none⟩) n cap) l) (lo k : Nat) {o m c : Nat} (ho : o = off + lo) (hm : m = min k (l.length - lo)) (hlo : lo ≤ l.length) (hc : c = cap - lo) :
    BytesAt w F (.slice (some ⟨g, o, none⟩) m c) (seg l lo k) := by
  subst ho
  subst hc
  obtain ⟨rfl, hcap⟩ := h.len
  have e : Go.Proofs.YtloaenknhkfaeaaDoor.seg l lo k = (l.drop lo).take m := by
    unfold Go.Proofs.YtloaenknhkfaeaaDoor.seg
    by_cases hk : k ≤ l.length - lo
    · rw [hm, Nat.min_eq_left hk]
    · rw [hm, Nat.min_eq_right (by omega), List.take_of_length_le (by simp; omega), List.take_of_length_le (by simp)]
  rw [e]
  exact h.part lo m (cap - lo) (by omega) (by omega)
theorem seg_len (l : List UInt8) (lo k : Nat) : (seg l lo k).length = min k (l.length - lo) := by simp [seg]

set_option maxRecDepth 100000 in
set_option maxHeartbeats 2000000 in
theorem Split_ok {w : World} {F : Nat → Prop} (k g n : Int) (l : List UInt8) (a : Option Addr) (len cap : Nat) (hv : BytesN w F (.slice a len cap) l) (hl : l.length = len) (hK : KAt w) (h : splitE ⟨k, g, n, l⟩ = 0) :
    Calls Tryd.prog 28 #[.agg #[.int .i64 k, .int .i64 g, .int .i64 n, .slice a len cap]] w (SplitPost w ⟨k, g, n, l⟩) := by
  obtain ⟨hf, hle⟩ := splitE_ok h
  simp only at hf hle
  have hnv : needV (len : Int) = needN len := by unfold needV; rw [if_neg (by omega)]; rfl
  have hne : needE (len : Int) = 0 := by unfold needE; rw [if_neg (by omega)]
  have hneed := fun w => Need_any (len : Int) w
  rw [hnv, hne] at hneed
  have hnb := need_le (n := len) (by omega)
  obtain ⟨N, hN⟩ : ∃ N, needN len = N := ⟨_, rfl⟩
  rw [hN] at hneed hnb
  obtain ⟨w0, hw0⟩ : ∃ w0, (w.alloc (.cells #[.int .i64 k, .int .i64 g, .int .i64 n, .slice a len cap] 50)).alloc (.cells #[.int .i64 k, .int .i64 g, .int .i64 n] 98) = w0 := ⟨_, rfl⟩
  have hb0 : Below w.heap.size w w0 := hw0 ▸ ((Below.refl _ w).alloc (Nat.le_refl _) _).alloc (by simp) _
  have hx0 : w0.heap[w.heap.size]? = some (.cells #[.int .i64 k, .int .i64 g, .int .i64 n, .slice a len cap] 50 (0, 0)) := by rw [← hw0]; exact (Below.heap_alloc _ _ _ (by simp)).trans (heap_alloc_new _ _)
  have hval := valid_any k g n w0
  rw [hf] at hval
  have HVAL := Lib.hid hval
  have HNEED := Lib.hid hneed
  have HW0 := Lib.hid hw0
  have HB0 := Lib.hid hb0
  have HX0 := Lib.hid hx0
  have HV := Lib.hid hv
  have HK := Lib.hid hK
  have HL := Lib.hid hl
  have HE := Lib.hid h
  have HN := Lib.hid hN
  have hN1 := hnb.1
  have hN2 := hnb.2
  rw [hl] at hle
  clear hf hneed hnv hne hnb hN hw0 hb0 hx0 hval hv hK hl h
  go_enter Tryd.func28, Tryd.ntmps28
  go_wp2_with fail
  rw [HW0.out]
  refine HVAL.out.mono ?_
  rintro e w1 ⟨rfl, hb1⟩
  have hx1 := (hb1.block _ (Array.getElem?_eq_some_iff.1 HX0.out).1).trans HX0.out
  have hbd := HB0.out.trans (hb1.mono HB0.out.size)
  have hc3 : w1.cell? ⟨w.heap.size, 3, none⟩ = some (.slice a len cap) := by rw [cell_of_row _ _ _ _ _ _ hx1]; rfl
  have HX1 := Lib.hid hx1
  have HBD := Lib.hid hbd
  have hlt1 := (Array.getElem?_eq_some_iff.1 hx1).1
  clear hb1 hx1 hbd
  go_wp2_with fail
  refine (HNEED.out _).mono ?_
  rintro e w' ⟨rfl, rfl⟩
  go_wp2_with fail
  go_loopw [7, 32] (fun pv iv wr => ∃ i : Nat, i ≤ N ∧ iv = .int .i64 (i : Int) ∧ OwnSecs wr w1.heap.size pv (encs ⟨k, g, n, l⟩ i) ∧ Below w1.heap.size w1 wr) (fun _ iv _ => N - (intOf iv).toNat)
  case atStart => exact ⟨0, Nat.zero_le _, rfl, ownSecs_nil _ _, Below.refl _ _⟩
  case round =>
    obtain ⟨i, hi, rfl, hO, hB⟩ := hrel
    obtain ⟨pa, pc, rfl⟩ := hO.form
    rw [encs_length] at hO ⊢
    have hxr := (hB.block _ hlt1).trans HX1.out
    have hr0 : wr.cell? ⟨w.heap.size, 0, none⟩ = some (.int .i64 k) := by rw [cell_of_row _ _ _ _ _ _ hxr]; rfl
    have hr1 : wr.cell? ⟨w.heap.size, 1, none⟩ = some (.int .i64 g) := by rw [cell_of_row _ _ _ _ _ _ hxr]; rfl
    have hr2 : wr.cell? ⟨w.heap.size, 2, none⟩ = some (.int .i64 n) := by rw [cell_of_row _ _ _ _ _ _ hxr]; rfl
    have hr3 : wr.cell? ⟨w.heap.size, 3, none⟩ = some (.slice a len cap) := by rw [cell_of_row _ _ _ _ _ _ hxr]; rfl
    have hbr := HBD.out.trans (hB.mono HBD.out.size)
    have hvr := HV.out.below hbr
    have hkr := HK.out.below hbr HK.out.size
    have HVR := Lib.hid hvr
    have HKR := Lib.hid hkr
    have HO := Lib.hid hO
    have HB := Lib.hid hB
    clear hxr hbr hkr hO hB hc3
    by_cases hlt : i < N
    · have hpo := partOf_ok HE.out (i := i) (by show i < needN l.length; rw [HL.out, HN.out]; exact hlt)
      have hpe : partOf ⟨k, g, n, l⟩ i = ⟨k, g, n, (i : Int), (N : Int), seg l (224 * i) 224⟩ := by unfold partOf; simp only; rw [HL.out, HN.out]
      have hchk := hpo.chk
      rw [hpe] at hchk
      have HCHK := Lib.hid hchk
      have HPE := Lib.hid hpe
      clear hpo hchk hpe
      by_cases h0 : len = 0
      · subst h0
        have hl0 : l = [] := List.eq_nil_of_length_eq_zero HL.out
        have hN0 : N = 1 := by rw [← HN.out]; rfl
        obtain rfl : i = 0 := by omega
        have hsg : seg l (224 * 0) 224 = [] := by rw [hl0]; rfl
        have hnil : a = none → cap = 0 := fun e => hvr.nil _ _ (by rw [e])
        have HSG := Lib.hid hsg
        clear hl0 hN0 hsg hvr
        by_cases hcap : cap = 0
        · subst hcap
          clear hnil
          go_wp2_with fail
          refine (EncodePart_ok ⟨k, g, n, ((0 : Nat) : Int), (N : Int), seg l (224 * 0) 224⟩ _ _ _ (by rw [HSG.out]; exact bytesAt_empty _ (fun _ => True) _ _) (by rw [HSG.out]; rfl) HKR.out HCHK.out).mono ?_
          rintro e w3 ⟨u, rfl, hu, hb3⟩
          obtain ⟨ua, uc, rfl⟩ := ownsRow_form hu
          have ho3 := HO.out.below hb3
          have hu3 : w3.ownsRow w1.heap.size 5 1 (.slice ua 256 uc) (encL (partOf ⟨k, g, n, l⟩ 0)).length (bvs (encL (partOf ⟨k, g, n, l⟩ 0))) := by
            rw [encL_length, HPE.out]
            exact ownsRow_base hu HB.out.size
          have hB3 := HB.out.trans (hb3.mono HB.out.size)
          have HO3 := Lib.hid ho3
          have HU3 := Lib.hid hu3
          have HB3 := Lib.hid hB3
          clear hu hb3 ho3 hu3 hB3
          go_wp2_with (at_builtin; refine wpList_appSec rfl (.tmp 64) (.tmp 66) rfl rfl HO3.out HU3.out rfl (encs_length _ _) (by omega) HB3.out.size ?_)
          intro a' cap' w4 ho4 hb4
          have HO4 := Lib.hid ho4
          have HB4 := Lib.hid (HB3.out.trans hb4)
          clear ho4 hb4
          go_wp2_with fail
          go_roundw
          case rel => first | exact ⟨0 + 1, by omega, by go_num, by rw [encs_succ]; exact HO4.out, HB4.out⟩ | ((repeat apply Exists.intro); exact ⟨⟨0 + 1, by omega, by go_num, by rw [encs_succ]; exact HO4.out, HB4.out⟩, rfl⟩)
          case measure => simp [intOf]; omega
        · clear hnil
          go_wp2_with fail
          refine (EncodePart_ok ⟨k, g, n, ((0 : Nat) : Int), (N : Int), seg l (224 * 0) 224⟩ _ _ _ (by rw [HSG.out]; exact bytesAt_empty _ (fun _ => True) _ _) (by rw [HSG.out]; rfl) HKR.out HCHK.out).mono ?_
          rintro e w3 ⟨u, rfl, hu, hb3⟩
          obtain ⟨ua, uc, rfl⟩ := ownsRow_form hu
          have ho3 := HO.out.below hb3
          have hu3 : w3.ownsRow w1.heap.size 5 1 (.slice ua 256 uc) (encL (partOf ⟨k, g, n, l⟩ 0)).length (bvs (encL (partOf ⟨k, g, n, l⟩ 0))) := by
            rw [encL_length, HPE.out]
            exact ownsRow_base hu HB.out.size
          have hB3 := HB.out.trans (hb3.mono HB.out.size)
          have HO3 := Lib.hid ho3
          have HU3 := Lib.hid hu3
          have HB3 := Lib.hid hB3
          clear hu hb3 ho3 hu3 hB3
          go_wp2_with (at_builtin; refine wpList_appSec rfl (.tmp 64) (.tmp 66) rfl rfl HO3.out HU3.out rfl (encs_length _ _) (by omega) HB3.out.size ?_)
          intro a' cap' w4 ho4 hb4
          have HO4 := Lib.hid ho4
          have HB4 := Lib.hid (HB3.out.trans hb4)
          clear ho4 hb4
          go_wp2_with fail
          go_roundw
          case rel => first | exact ⟨0 + 1, by omega, by go_num, by rw [encs_succ]; exact HO4.out, HB4.out⟩ | ((repeat apply Exists.intro); exact ⟨⟨0 + 1, by omega, by go_num, by rw [encs_succ]; exact HO4.out, HB4.out⟩, rfl⟩)
          case measure => simp [intOf]; omega
      · have hlo : 224 * i < len := by have := HN.out; unfold needN at this; omega
        obtain ⟨ag, ao, rfl⟩ := hvr.at_.addr (fun e => h0 (by rw [← HL.out, e]; rfl))
        have hcl := hvr.at_.len.2
        have hck : ¬ cap = i * 224 := by omega
        have hck2 : ¬ cap = 224 * i := by omega
        by_cases hlast : (i + 1) * 224 ≤ len
        · have hI1 : ((i : Int) + 1) * 224 ≤ (len : Int) := by omega
          clear hvr
          go_wp2_with fail
          refine (EncodePart_ok ⟨k, g, n, ((i : Nat) : Int), (N : Int), seg l (224 * i) 224⟩ _ _ _ (HVR.out.at_.seg (224 * i) 224 (by omega) (by rw [HL.out]; omega) (by rw [HL.out]; omega) (by omega)) (by rw [seg_len, HL.out]; omega) HKR.out HCHK.out).mono ?_
          rintro e w3 ⟨u, rfl, hu, hb3⟩
          obtain ⟨ua, uc, rfl⟩ := ownsRow_form hu
          have ho3 := HO.out.below hb3
          have hu3 : w3.ownsRow w1.heap.size 5 1 (.slice ua 256 uc) (encL (partOf ⟨k, g, n, l⟩ i)).length (bvs (encL (partOf ⟨k, g, n, l⟩ i))) := by
            rw [encL_length, HPE.out]
            exact ownsRow_base hu HB.out.size
          have hB3 := HB.out.trans (hb3.mono HB.out.size)
          have HO3 := Lib.hid ho3
          have HU3 := Lib.hid hu3
          have HB3 := Lib.hid hB3
          clear hu hb3 ho3 hu3 hB3
          go_wp2_with (at_builtin; refine wpList_appSec rfl (.tmp 64) (.tmp 66) rfl rfl HO3.out HU3.out rfl (encs_length _ _) (by omega) HB3.out.size ?_)
          intro a' cap' w4 ho4 hb4
          have HO4 := Lib.hid ho4
          have HB4 := Lib.hid (HB3.out.trans hb4)
          clear ho4 hb4
          go_wp2_with fail
          go_roundw
          case rel => first | exact ⟨i + 1, by omega, by go_num, by rw [encs_succ]; exact HO4.out, HB4.out⟩ | ((repeat apply Exists.intro); exact ⟨⟨i + 1, by omega, by go_num, by rw [encs_succ]; exact HO4.out, HB4.out⟩, rfl⟩)
          case measure => simp [intOf]; omega
        · have hI1 : (len : Int) < ((i : Int) + 1) * 224 := by omega
          clear hvr
          go_wp2_with fail
          refine (EncodePart_ok ⟨k, g, n, ((i : Nat) : Int), (N : Int), seg l (224 * i) 224⟩ _ _ _ (HVR.out.at_.seg (224 * i) 224 (by omega) (by rw [HL.out]; omega) (by rw [HL.out]; omega) (by omega)) (by rw [seg_len, HL.out]; omega) HKR.out HCHK.out).mono ?_
          rintro e w3 ⟨u, rfl, hu, hb3⟩
          obtain ⟨ua, uc, rfl⟩ := ownsRow_form hu
          have ho3 := HO.out.below hb3
          have hu3 : w3.ownsRow w1.heap.size 5 1 (.slice ua 256 uc) (encL (partOf ⟨k, g, n, l⟩ i)).length (bvs (encL (partOf ⟨k, g, n, l⟩ i))) := by
            rw [encL_length, HPE.out]
            exact ownsRow_base hu HB.out.size
          have hB3 := HB.out.trans (hb3.mono HB.out.size)
          have HO3 := Lib.hid ho3
          have HU3 := Lib.hid hu3
          have HB3 := Lib.hid hB3
          clear hu hb3 ho3 hu3 hB3
          go_wp2_with (at_builtin; refine wpList_appSec rfl (.tmp 64) (.tmp 66) rfl rfl HO3.out HU3.out rfl (encs_length _ _) (by omega) HB3.out.size ?_)
          intro a' cap' w4 ho4 hb4
          have HO4 := Lib.hid ho4
          have HB4 := Lib.hid (HB3.out.trans hb4)
          clear ho4 hb4
          go_wp2_with fail
          go_roundw
          case rel => first | exact ⟨i + 1, by omega, by go_num, by rw [encs_succ]; exact HO4.out, HB4.out⟩ | ((repeat apply Exists.intro); exact ⟨⟨i + 1, by omega, by go_num, by rw [encs_succ]; exact HO4.out, HB4.out⟩, rfl⟩)
          case measure => simp [intOf]; omega
    · obtain rfl : i = N := by omega
      go_wp2_with fail
      go_ret2
      exact SplitPost.yes HE.out (by show needN l.length = _; rw [HL.out, HN.out]) HO.out HBD.out.size (HBD.out.trans (HB.out.mono HBD.out.size))

set_option maxRecDepth 100000 in
set_option maxHeartbeats 2000000 in
theorem Split_no {w : World} (k g n : Int) (l : List UInt8) (a : Option Addr) (len cap : Nat) (hl : l.length = len) (h : splitE ⟨k, g, n, l⟩ ≠ 0) :
    Calls Tryd.prog 28 #[.agg #[.int .i64 k, .int .i64 g, .int .i64 n, .slice a len cap]] w (SplitPost w ⟨k, g, n, l⟩) := by
  obtain ⟨w0, hw0⟩ : ∃ w0, (w.alloc (.cells #[.int .i64 k, .int .i64 g, .int .i64 n, .slice a len cap] 50)).alloc (.cells #[.int .i64 k, .int .i64 g, .int .i64 n] 98) = w0 := ⟨_, rfl⟩
  have hb0 : Below w.heap.size w w0 := hw0 ▸ ((Below.refl _ w).alloc (Nat.le_refl _) _).alloc (by simp) _
  have hx0 : w0.heap[w.heap.size]? = some (.cells #[.int .i64 k, .int .i64 g, .int .i64 n, .slice a len cap] 50 (0, 0)) := by rw [← hw0]; exact (Below.heap_alloc _ _ _ (by simp)).trans (heap_alloc_new _ _)
  have hval := valid_any k g n w0
  have HW0 := Lib.hid hw0
  have HB0 := Lib.hid hb0
  have HX0 := Lib.hid hx0
  by_cases hf : fineB k g n = false
  · have h2 : splitE ⟨k, g, n, l⟩ = 2 := by unfold splitE; rw [if_pos hf]
    rw [hf] at hval
    have HVAL := Lib.hid hval
    have H2 := Lib.hid h2
    clear hval hw0 hb0 hx0 h2 hf hl h
    go_enter Tryd.func28, Tryd.ntmps28
    go_wp2_with fail
    rw [HW0.out]
    refine HVAL.out.mono ?_
    rintro e w1 ⟨rfl, hb1⟩
    go_wp2_with fail
    go_ret2
    exact SplitPost.no H2.out (by decide) (HB0.out.trans (hb1.mono HB0.out.size))
  · have hf' : fineB k g n = true := by simpa using hf
    have hbig : 131072 < len := by
      rcases Nat.lt_or_ge 131072 len with h1 | h1
      · exact h1
      · exact absurd (by unfold splitE; rw [if_neg hf, if_neg (by simp only; omega)]) h
    have h5 : splitE ⟨k, g, n, l⟩ = 5 := by unfold splitE; rw [if_neg hf, if_pos (by simp only; omega)]
    have hneed := fun w => Need_any (len : Int) w
    have hnv : needV (len : Int) = 0 := by unfold needV; rw [if_pos (by omega)]
    have hne : needE (len : Int) = 2 := by unfold needE; rw [if_pos (by omega)]
    rw [hnv, hne] at hneed
    rw [hf'] at hval
    have HVAL := Lib.hid hval
    have HNEED := Lib.hid hneed
    have H5 := Lib.hid h5
    clear hval hw0 hb0 hx0 h5 hf hf' hl h hnv hne hneed hbig
    go_enter Tryd.func28, Tryd.ntmps28
    go_wp2_with fail
    rw [HW0.out]
    refine HVAL.out.mono ?_
    rintro e w1 ⟨rfl, hb1⟩
    have hx1 := (hb1.block _ (Array.getElem?_eq_some_iff.1 HX0.out).1).trans HX0.out
    have hc3 : w1.cell? ⟨w.heap.size, 3, none⟩ = some (.slice a len cap) := by rw [cell_of_row _ _ _ _ _ _ hx1]; rfl
    clear hx1
    go_wp2_with fail
    refine (HNEED.out _).mono ?_
    rintro e w' ⟨rfl, rfl⟩
    go_wp2_with fail
    go_ret2
    exact SplitPost.no H5.out (by decide) (HB0.out.trans (hb1.mono HB0.out.size))
theorem Split_any {w : World} {F : Nat → Prop} (r : RecD) (a : Option Addr) (len cap : Nat) (hv : BytesN w F (.slice a len cap) r.load) (hK : KAt w) :
    Calls Tryd.prog 28 #[.agg #[.int .i64 r.kind, .int .i64 r.gen, .int .i64 r.num, .slice a len cap]] w (SplitPost w r) := by
  obtain ⟨rfl, _⟩ := hv.at_.len
  by_cases h : splitE r = 0
  · exact Split_ok r.kind r.gen r.num r.load a _ cap hv rfl hK h
  · exact Split_no r.kind r.gen r.num r.load a _ cap rfl h

end Go.Proofs.YtloaenknhkfaeaaDoor
