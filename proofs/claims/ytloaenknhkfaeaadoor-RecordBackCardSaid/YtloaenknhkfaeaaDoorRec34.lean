/- Records: the law Back. -/
import Derived.Test.YtloaenknhkfaeaaDoorRec31
namespace Go.Proofs.YtloaenknhkfaeaaDoor
open Go.RowKit
set_option linter.unusedVariables false
set_option linter.unusedSimpArgs false

theorem max_one (N q : Nat) (h : q = max (N - 1) 1) (h1 : 1 ≤ N) (w : World) : (Builtin.max_ #[3, 3] 3 #[.int .i64 ((N : Int) - 1), .int .i64 1]).run Tryd.prog w = .ok (.int .i64 (q : Int)) w := by
  by_cases h2 : N - 1 ≤ 1
  · have h3 : ((N : Int) - 1) < 1 ∨ (N : Int) - 1 = 1 := by omega
    obtain rfl : q = 1 := by omega
    clear h
    rcases h3 with h3 | h3
    · go_simp
    · rw [h3]; go_simp
  · have h3 : ¬ ((N : Int) - 1) < 1 := by omega
    have h4 : (1 : Int) < (N : Int) - 1 := by omega
    have h5 : (q : Int) = (N : Int) - 1 := by omega
    rw [h5]
    clear h h5
    go_simp
theorem min_nat (k N : Nat) (w : World) : (Builtin.min_ #[3, 3] 3 #[.int .i64 (k : Int), .int .i64 (N : Int)]).run Tryd.prog w = .ok (.int .i64 ((min k N : Nat) : Int)) w := by
  by_cases h : N < k
  · have h1 : (N : Int) < (k : Int) := by omega
    have h2 : min k N = N := by omega
    rw [h2]
    go_simp
    try omega
  · have h1 : ¬ (N : Int) < (k : Int) := by omega
    have h2 : min k N = k := by omega
    rw [h2]
    go_simp
    try omega

set_option maxRecDepth 100000 in
set_option maxHeartbeats 2000000 in
theorem RecordBack_any {w : World} {F : Nat → Prop} (k g n : Int) (a : Option Addr) (len cap : Nat) (l : List UInt8) (hv : BytesN w F (.slice a len cap) l) (hl : l.length = len) (hn : len ≤ 9223372036854775807) (v : Value) (D : List SecV) (hD : DescsAt w v D) (less : UInt8) (hK : KAt w) :
    Calls Tryd.prog 10 #[.agg #[.int .i64 k, .int .i64 g, .int .i64 n, .slice a len cap], v, .int .u8 (less.toNat : Int)] w fun e w' => e = .returned (.bool true) ∧ Below w.heap.size w w' := by
  obtain ⟨ls, hls⟩ : ∃ ls : Nat, less.toNat = ls := ⟨_, rfl⟩
  have hls2 : ls < 256 := by rw [← hls]; exact less.toNat_lt
  rw [hls]
  clear hls
  obtain ⟨va, vc, rfl, _⟩ := hD.ex
  obtain ⟨w1, hw1⟩ : ∃ w1, w.alloc (.cells #[.int .i64 k, .int .i64 g, .int .i64 n, .slice a len cap] 49) = w1 := ⟨_, rfl⟩
  have hb1 : Below w.heap.size w w1 := hw1 ▸ (Below.refl _ w).alloc (Nat.le_refl _) _
  have hof := of_any k g n a len cap l (hv.below hb1) hl hn
  have HOF := Lib.hid hof
  have HW1 := Lib.hid hw1
  have HB1 := Lib.hid hb1
  have HK := Lib.hid hK
  have HD := Lib.hid hD
  clear hof hw1 hb1 hK hv hl hD
  go_enter Tryd.func10, Tryd.ntmps10
  go_wp2_with fail
  rw [HW1.out]
  refine HOF.out.mono ?_
  rintro e w2 ⟨a', m, c', rfl, hm, ho2, hb2⟩
  obtain ⟨r, hr⟩ : ∃ r : RecD, r = ⟨k, g, n, l.take m⟩ := ⟨_, rfl⟩
  have hload : r.load = l.take m := by rw [hr]
  obtain ⟨w3, hw3⟩ : ∃ w3, w2.alloc (.cells #[.int .i64 k, .int .i64 g, .int .i64 n, .slice a' m c'] 50) = w3 := ⟨_, rfl⟩
  have hb3 : Below w2.heap.size w2 w3 := hw3 ▸ (Below.refl _ _).alloc (Nat.le_refl _) _
  have hX3 : w3.heap[w2.heap.size]? = some (.cells #[.int .i64 k, .int .i64 g, .int .i64 n, .slice a' m c'] 50 (0, 0)) := by rw [← hw3]; exact heap_alloc_new _ _
  have hB2 := HB1.out.trans (hb2.mono HB1.out.size)
  have hB3 := hB2.trans (hb3.mono hB2.size)
  have hv3 : BytesN w3 (fun _ => True) (.slice a' m c') r.load := by rw [hload]; exact ((own_bytesN ho2).below hb3).any
  have HW3 := Lib.hid hw3
  have HX3 := Lib.hid hX3
  have HV3 := Lib.hid hv3
  have HB3 := Lib.hid hB3
  have HR := Lib.hid hr
  have HML := Lib.hid (show r.load.length = m by rw [hload, List.length_take]; omega)
  obtain ⟨E, hE⟩ : ∃ E, splitE r = E := ⟨_, rfl⟩
  obtain ⟨L, hL⟩ : ∃ L, splitL r = L := ⟨_, rfl⟩
  obtain ⟨N, hN⟩ : ∃ N, L.length = N := ⟨_, rfl⟩
  have HE := Lib.hid hE
  have HL := Lib.hid hL
  have HN := Lib.hid hN
  clear hm ho2 hb2 hload hw3 hb3 hX3 hB2 hB3 hv3 hr hE hL hN
  go_wp2_with fail
  rw [HW3.out]
  refine (to_any k g n a' m c' w3).mono ?_
  rintro e w4 ⟨rfl, hb4⟩
  have hsp : Calls Tryd.prog 29 #[.agg #[.int .i64 k, .int .i64 g, .int .i64 n, .slice a' m c']] w4 (SplitPost w4 r) := by
    have h := rSplit_any r a' m c' (HV3.out.below hb4)
    have hr := HR.out
    rw [hr] at h ⊢
    exact h
  have HSP := Lib.hid hsp
  have HB4 := Lib.hid (HB3.out.trans (hb4.mono HB3.out.size))
  have HX4 := Lib.hid ((hb4.block w2.heap.size (Array.getElem?_eq_some_iff.1 HX3.out).1).trans HX3.out)
  have HV4 := Lib.hid (HV3.out.below hb4)
  clear hsp hb4
  go_wp2_with fail
  refine HSP.out.mono ?_
  rintro e w5 ⟨v5, rfl, ho5, hb5⟩
  rw [HE.out]
  rw [HL.out] at ho5
  obtain ⟨sa, sc, rfl⟩ := ho5.form
  rw [HN.out] at ho5 ⊢
  have hB5 := HB4.out.trans (hb5.mono HB4.out.size)
  have HB5 := Lib.hid hB5
  have HX5 := Lib.hid ((hb5.block w2.heap.size (Array.getElem?_eq_some_iff.1 HX4.out).1).trans HX4.out)
  have HV5 := Lib.hid (HV4.out.below hb5)
  have HO5 := Lib.hid (ho5.base HB4.out.size)
  have hkn := known_any (HK.out.below hB5 HK.out.size)
  have HKN := Lib.hid hkn
  clear hb5 hB5 ho5 hkn
  go_wp2_with fail
  refine HKN.out.mono ?_
  rintro e w6 ⟨rfl, hb6⟩
  have hB6 := HB5.out.trans (hb6.mono HB5.out.size)
  have hkn := known_any (HK.out.below hB6 HK.out.size)
  have HKN6 := Lib.hid hkn
  have HB6 := Lib.hid hB6
  have HX6 := Lib.hid ((hb6.block w2.heap.size (Array.getElem?_eq_some_iff.1 HX5.out).1).trans HX5.out)
  have HV6 := Lib.hid (HV5.out.below hb6)
  have HO6 := Lib.hid (HO5.out.below hb6)
  clear hb6 hB6 hkn
  by_cases h0 : E = 0
  case neg =>
    go_wp2_with fail
    refine HKN6.out.mono ?_
    rintro e w7 ⟨rfl, hb7⟩
    go_wp2_with fail
    go_ret
    exact ⟨rfl, HB6.out.trans (hb7.mono HB6.out.size)⟩
  subst h0
  have hba : Below w6.heap.size w6 (w6.alloc (.cells #[] 22)) := (Below.refl _ _).alloc (Nat.le_refl _) _
  have hoz := ownSecs_zero (w := w6) HB6.out.size
  have hok := HO6.out.below hba
  have hN1 : 1 ≤ N ∧ N ≤ 586 := by
    have h1 := need_le (splitE_ok HE.out).2
    have h2 := splitL_length HE.out
    rw [HL.out, HN.out] at h2
    omega
  have HOZ := Lib.hid hoz
  have HOK := Lib.hid hok
  have HBA := Lib.hid (HB6.out.trans (hba.mono HB6.out.size))
  have HBA6 := Lib.hid hba
  clear hba hoz hok
  go_wp2_with (at_builtin; refine wpList_appSecs (n := 0) (m := N) rfl (.tmp 33) (.tmp 34) rfl rfl HOZ.out rfl HOK.out rfl HN.out (by omega) HBA.out.size w6.heap.size (fun k hk => by cases hk; exact Nat.le_refl _) HBA6.out.size ?_)
  intro a7 c7 w7 ho7 hk7 hb7
  try simp only [Nat.zero_add, List.nil_append] at ho7 hk7
  try simp only [Nat.zero_add]
  have hb67 := HBA6.out.trans hb7
  have hB7 := HB6.out.trans (hb67.mono HB6.out.size)
  have hse := sectors_any (.slice va D.length vc) D (HD.out.below hB7)
  have HSE := Lib.hid hse
  have HB7 := Lib.hid hB7
  have HB67 := Lib.hid hb67
  have HO7 := Lib.hid ho7
  have HK7 := Lib.hid hk7
  clear hb67 hB7 hse hb7 ho7 hk7 HOZ HOK HBA HBA6
  go_wp2_with fail
  refine HSE.out.mono ?_
  rintro e w8 ⟨u8, M, rfl, ho8, _, hM12, hb8⟩
  obtain ⟨a8, c8, rfl⟩ := ho8.form
  have HB8 := Lib.hid (HB7.out.trans (hb8.mono HB7.out.size))
  have HB68 := Lib.hid (HB67.out.trans (hb8.mono HB67.out.size))
  have HO8 := Lib.hid (HO7.out.below hb8)
  have HO8b := Lib.hid (ho8.base HB7.out.size)
  clear hb8 ho8
  go_wp2_with (at_builtin; refine wpList_appSecs (n := N) (m := M.length) rfl (.tmp 35) (.tmp 37) rfl rfl HO8.out rfl HO8b.out HN.out rfl (by omega) HB8.out.size w6.heap.size HK7.out HB68.out.size ?_)
  intro a9 c9 w9 ho9 hk9 hb9
  have hb69 := HB68.out.trans hb9
  have hB9 := HB6.out.trans (hb69.mono HB6.out.size)
  have hj := Join_any (L ++ M) _ ho9.secs (by rw [List.length_append, HN.out]; omega) (HK.out.below hB9 HK.out.size)
  have hjs : joinL (L ++ M) = (r, N, 0) := by
    have h := join_split HE.out M
    rw [HL.out, ← splitL_length HE.out, HL.out, HN.out] at h
    exact h
  have HJ := Lib.hid hj
  have HJS := Lib.hid hjs
  have HB9 := Lib.hid hB9
  have HO9 := Lib.hid (HO6.out.below hb69)
  have HX9 := Lib.hid ((hb69.block w2.heap.size (Array.getElem?_eq_some_iff.1 HX6.out).1).trans HX6.out)
  have HV9 := Lib.hid (HV6.out.below hb69)
  clear hb69 hB9 hj hjs ho9 hk9 hb9
  go_wp2_with fail
  refine HJ.out.mono ?_
  intro e wa hja
  obtain ⟨aa, ca, rfl, hra, hba⟩ := hja.parts
  rw [HJS.out] at hra ⊢
  simp only [HML.out] at hra ⊢
  have e0 : r.kind = k := by rw [HR.out]
  have e1 : r.gen = g := by rw [HR.out]
  have e2 : r.num = n := by rw [HR.out]
  rw [e0, e1, e2]
  clear e0 e1 e2
  obtain ⟨wb, hwb⟩ : ∃ wb, wa.alloc (.cells #[.int .i64 k, .int .i64 g, .int .i64 n, .slice aa m ca] 50) = wb := ⟨_, rfl⟩
  have hbb : Below wa.heap.size wa wb := hwb ▸ (Below.refl _ _).alloc (Nat.le_refl _) _
  have hXb : wb.heap[wa.heap.size]? = some (.cells #[.int .i64 k, .int .i64 g, .int .i64 n, .slice aa m ca] 50 (0, 0)) := by rw [← hwb]; exact heap_alloc_new _ _
  have hb9b := hba.trans (hbb.mono hba.size)
  have HWB := Lib.hid hwb
  have HXb := Lib.hid hXb
  have HOb := Lib.hid (own_bytesN (own_kept hra hbb))
  have HXc := Lib.hid ((hb9b.block w2.heap.size (Array.getElem?_eq_some_iff.1 HX9.out).1).trans HX9.out)
  have HVc := Lib.hid (HV9.out.below hb9b)
  have HOc := Lib.hid (HO9.out.below hb9b)
  have HBb := Lib.hid (HB9.out.trans (hb9b.mono HB9.out.size))
  clear hja hra hba hwb hbb hXb hb9b
  obtain ⟨q, hq⟩ : ∃ q, q = max (N - 1) 1 := ⟨_, rfl⟩
  have hmax := max_one N q hq hN1.1
  obtain ⟨kk, hkN⟩ : ∃ kk : Nat, 1 + ls % q = kk := ⟨_, rfl⟩
  have hkk : 1 + (ls : Int) % (q : Int) = (kk : Int) := by rw [← hkN]; push_cast; rfl
  have hkk1 : 1 ≤ kk := by omega
  have hkk2 : kk ≤ 256 := by have := Nat.mod_le ls q; omega
  have hkI : (kk : Int) ≤ 256 := by omega
  have hkI0 : (0 : Int) ≤ (kk : Int) := by omega
  clear hkN
  have hq1 : (1 : Int) ≤ (q : Int) := by omega
  have hmin := min_nat kk N
  have hNc := HOc.out.cap
  obtain ⟨mm, hmm⟩ : ∃ mm, min kk N = mm := ⟨_, rfl⟩
  rw [hmm] at hmin
  have hsl := slice_cutS sa N sc mm (by omega) (fun e => hNc.2.2 e)
  have hsb : SecsAt wb (.slice sa mm sc) (L.take mm) := (HOc.out.take (k := mm) (by omega)).secs
  have hj := Join_any (L.take mm) _ hsb (by rw [List.length_take, HN.out]; omega) (HK.out.below HBb.out HK.out.size)
  have HJ2 := Lib.hid hj
  have HMM := Lib.hid hmm
  have hNI : (1 : Int) ≤ (N : Int) := by omega
  have hNI2 : (N : Int) ≤ 586 := by omega
  have hlsI : (ls : Int) < 256 := by omega
  clear hq hNc hmm hsb hj
  go_wp2_with fail
  try rw [HWB.out]
  refine HJ2.out.mono ?_
  intro e wd hjd
  obtain ⟨ad, cd, rfl, hrd, hbd⟩ := hjd.parts
  have hee : kk < N → (joinL (L.take mm)).2.2 = 23 := fun hlt => by
    have hm : mm = kk := by rw [← HMM.out]; omega
    have h := join_cut HE.out kk hkk1 (by rw [← splitL_length HE.out, HL.out, HN.out]; exact hlt)
    rw [HL.out, ← hm] at h
    rw [h]
  obtain ⟨J, hJ⟩ : ∃ J, joinL (L.take mm) = J := ⟨_, rfl⟩
  rw [hJ] at hee hrd ⊢
  clear hJ hrd hjd
  obtain ⟨⟨jk, jg, jn, jl⟩, jm, ee⟩ := J
  simp only at hee ⊢
  obtain ⟨jL, hjL⟩ : ∃ jL, jl.length = jL := ⟨_, rfl⟩
  rw [hjL]
  clear hjL
  obtain ⟨we, hwe⟩ : ∃ we, wd.alloc (.cells #[.int .i64 jk, .int .i64 jg, .int .i64 jn, .slice ad jL cd] 50) = we := ⟨_, rfl⟩
  have hbe : Below wd.heap.size wd we := hwe ▸ (Below.refl _ _).alloc (Nat.le_refl _) _
  have hbbe := hbd.trans (hbe.mono hbd.size)
  have hXe := (hbbe.block wa.heap.size (Array.getElem?_eq_some_iff.1 HXb.out).1).trans HXb.out
  have hYe := (hbbe.block w2.heap.size (Array.getElem?_eq_some_iff.1 HXc.out).1).trans HXc.out
  have HWE := Lib.hid hwe
  have HOe := Lib.hid (HOb.out.below hbbe)
  have HVe := Lib.hid (HVc.out.below hbbe)
  have HBe := Lib.hid (HBb.out.trans (hbbe.mono HBb.out.size))
  have hcell : ∀ w' : World, Below we.heap.size we w' → w'.cell? ⟨wa.heap.size, 0, none⟩ = some (.int .i64 k) ∧ w'.cell? ⟨wa.heap.size, 1, none⟩ = some (.int .i64 g) ∧ w'.cell? ⟨wa.heap.size, 2, none⟩ = some (.int .i64 n) ∧ w'.cell? ⟨wa.heap.size, 3, none⟩ = some (.slice aa m ca) ∧
      w'.cell? ⟨w2.heap.size, 0, none⟩ = some (.int .i64 k) ∧ w'.cell? ⟨w2.heap.size, 1, none⟩ = some (.int .i64 g) ∧ w'.cell? ⟨w2.heap.size, 2, none⟩ = some (.int .i64 n) ∧ w'.cell? ⟨w2.heap.size, 3, none⟩ = some (.slice a' m c') := by
    intro w' hb
    have h0 := (hb.block _ (Array.getElem?_eq_some_iff.1 hXe).1).trans hXe
    have h1 := (hb.block _ (Array.getElem?_eq_some_iff.1 hYe).1).trans hYe
    refine ⟨?_, ?_, ?_, ?_, ?_, ?_, ?_, ?_⟩ <;> first | (rw [cell_of_row _ _ _ _ _ _ h0]; rfl) | (rw [cell_of_row _ _ _ _ _ _ h1]; rfl)
  have HCELL := Lib.hid hcell
  have hNN : (N : Int) == (N : Int) := by simp
  clear hbd hwe hbe hbbe hXe hYe hcell hmax hmin hsl hkk
  go_wp2_with fail
  try rw [HWE.out]
  by_cases hlt : kk < N
  · obtain rfl : ee = 23 := hee hlt
    clear hee
    have hltI : ¬ (N : Int) ≤ (kk : Int) := by omega
    have hltI2 : (kk : Int) < (N : Int) := by omega
    refine wp_region_noPanic ?_
    refine wp_region_H (Below we.heap.size we) (by kernel_rfl) ?_
    have hS0 : (Below we.heap.size we) we.drew := (Below.refl _ _).drew
    obtain ⟨wq, hwq⟩ : ∃ wq, we.drew = wq := ⟨_, rfl⟩
    rw [hwq] at hS0 ⊢
    clear hwq
    refine wpAnyH_takeI (i := 0) (v := ?v1) rfl (by kernel_rfl) (by kernel_rfl) (by kernel_rfl) (fun _ _ _ h => h) (yieldsIf_run rfl (fun w' hw' => ?y1)) hS0 ?_
    case y1 => first | (go_simp; rfl) | (go_simp; done) | rfl
    simp only [Act.put, List.setIfInBounds_toArray, List.set_cons_zero, List.set_cons_succ]
    refine wpAnyH_takeI (i := 1) (v := ?v2) rfl (by kernel_rfl) (by kernel_rfl) (by kernel_rfl) (fun _ _ _ h => h) (yieldsIf_run rfl (fun w' hw' => ?y2)) hS0 ?_
    case y2 => first | (go_simp; rfl) | (go_simp; done) | rfl
    simp only [Act.put, List.setIfInBounds_toArray, List.set_cons_zero, List.set_cons_succ]
    refine wpAnyH_takeI (i := 2) (v := ?v3) rfl (by kernel_rfl) (by kernel_rfl) (by kernel_rfl) (fun _ _ _ h => h) (yieldsIf_run rfl (fun w' hw' => ?y3)) hS0 ?_
    case y3 => first | (go_simp; rfl) | (go_simp; done) | rfl
    simp only [Act.put, List.setIfInBounds_toArray, List.set_cons_zero, List.set_cons_succ]
    refine wpAnyH_takeI (i := 3) (v := ?v4) rfl (by kernel_rfl) (by kernel_rfl) (by kernel_rfl) (fun _ _ _ h => h) (yieldsIf_want rfl (fun w' hw' => ?y4)) hS0 ?_
    case y4 => first | (go_simp; rfl) | (go_simp; done) | rfl
    simp only [Act.put, List.setIfInBounds_toArray, List.set_cons_zero, List.set_cons_succ]
    refine wpAnyH_takeI (i := 4) (v := ?v5) rfl (by kernel_rfl) (by kernel_rfl) (by kernel_rfl) (fun _ _ _ h => h) (yieldsIf_want rfl (fun w' hw' => ?y5)) hS0 ?_
    case y5 => first | (go_simp; rfl) | (go_simp; done) | rfl
    simp only [Act.put, List.setIfInBounds_toArray, List.set_cons_zero, List.set_cons_succ]
    refine wpAnyH_takeI (i := 5) (v := ?v6) rfl (by kernel_rfl) (by kernel_rfl) (by kernel_rfl) (fun _ _ _ h => h) (yieldsIf_want rfl (fun w' hw' => ?y6)) hS0 ?_
    case y6 => first | (go_simp; rfl) | (go_simp; done) | rfl
    simp only [Act.put, List.setIfInBounds_toArray, List.set_cons_zero, List.set_cons_succ]
    refine wpAnyH_takeI (i := 6) (v := ?v7) rfl (by kernel_rfl) (by kernel_rfl) (by kernel_rfl) (fun _ _ _ h => h) (yieldsIf_want rfl (fun w' hw' => ?y7)) hS0 ?_
    case y7 => first | (go_simp; rfl) | (go_simp; done) | rfl
    simp only [Act.put, List.setIfInBounds_toArray, List.set_cons_zero, List.set_cons_succ]
    refine wpAnyH_takeI (i := 7) (v := ?v8) rfl (by kernel_rfl) (by kernel_rfl) (by kernel_rfl) (fun _ _ _ h => h) (yieldsIf_run rfl (fun w' hw' => ?y8)) hS0 ?_
    case y8 => first | (go_simp; rfl) | (go_simp; done) | rfl
    simp only [Act.put, List.setIfInBounds_toArray, List.set_cons_zero, List.set_cons_succ]
    refine wpAnyH_takeI (i := 8) (v := ?v9) rfl (by kernel_rfl) (by kernel_rfl) (by kernel_rfl) (fun _ _ _ h => h) (yieldsIf_run rfl (fun w' hw' => ?y9)) hS0 ?_
    case y9 => first | (go_simp; rfl) | (go_simp; done) | rfl
    simp only [Act.put, List.setIfInBounds_toArray, List.set_cons_zero, List.set_cons_succ]
    refine wpAnyH_takeI (i := 9) (v := ?v10) rfl (by kernel_rfl) (by kernel_rfl) (by kernel_rfl) (fun _ _ _ h => h) (yieldsIf_want rfl (fun w' hw' => ?y10)) hS0 ?_
    case y10 => (obtain ⟨z0, z1, z2, z3, z4, z5, z6, z7⟩ := HCELL.out w' hw'; clear hw'; first | (go_simp; rfl) | (go_simp; done))
    simp only [Act.put, List.setIfInBounds_toArray, List.set_cons_zero, List.set_cons_succ]
    refine wpAnyH_takeI (i := 11) (v := ?v11) rfl (by kernel_rfl) (by kernel_rfl) (by kernel_rfl) (fun _ _ _ h => h) (yieldsIf_want rfl (fun w' hw' => ?y11)) hS0 ?_
    case y11 => (obtain ⟨z0, z1, z2, z3, z4, z5, z6, z7⟩ := HCELL.out w' hw'; clear hw'; first | (go_simp; rfl) | (go_simp; done))
    simp only [Act.put, List.setIfInBounds_toArray, List.set_cons_zero, List.set_cons_succ]
    refine wpAnyH_want (i := 10) (by kernel_rfl) rfl rfl (fun K hK => ?_)
    go_simp
    go_at_call 30
    refine (to_any k g n aa m ca wq).mono ?_
    rintro e wx ⟨rfl, hbwx⟩
    have hSwx := hS0.trans (hbwx.mono hS0.size)
    refine hK _ _ (hSwx) ?_
    clear hK K
    try simp only [Act.put, List.setIfInBounds_toArray, List.set_cons_zero, List.set_cons_succ]
    refine wpAnyH_want (i := 12) (by kernel_rfl) rfl rfl (fun K hK => ?_)
    go_simp
    go_at_call 30
    refine (to_any k g n a' m c' wx).mono ?_
    rintro e wy ⟨rfl, hbwy⟩
    have hSwy := hSwx.trans (hbwy.mono hSwx.size)
    refine hK _ _ (hSwy) ?_
    clear hK K
    try simp only [Act.put, List.setIfInBounds_toArray, List.set_cons_zero, List.set_cons_succ]
    refine wpAnyH_want (i := 13) (by kernel_rfl) rfl rfl (fun K hK => ?_)
    go_simp
    go_at_call 37
    refine (rEqual_same k g n aa a' m ca m c' r.load (HOe.out.below hSwy).at_ (HVe.out.below hSwy).at_).mono ?_
    rintro e wz ⟨rfl, hbwz⟩
    have hSwz := hSwy.trans (hbwz.mono hSwy.size)
    refine hK _ _ (hSwz) ?_
    clear hK K
    try simp only [Act.put, List.setIfInBounds_toArray, List.set_cons_zero, List.set_cons_succ]
    refine wpAnyH_takeI (i := 14) (v := ?v12) rfl (by kernel_rfl) (by kernel_rfl) (by kernel_rfl) (fun _ _ _ h => h) (yieldsIf_run rfl (fun w' hw' => ?y12)) hSwz ?_
    case y12 => first | (go_simp; rfl) | (go_simp; done) | rfl
    simp only [Act.put, List.setIfInBounds_toArray, List.set_cons_zero, List.set_cons_succ]
    refine wpAnyH_takeI (i := 15) (v := ?v13) rfl (by kernel_rfl) (by kernel_rfl) (by kernel_rfl) (fun _ _ _ h => h) (yieldsIf_run rfl (fun w' hw' => ?y13)) hSwz ?_
    case y13 => first | (go_simp; rfl) | (go_simp; done) | rfl
    simp only [Act.put, List.setIfInBounds_toArray, List.set_cons_zero, List.set_cons_succ]
    refine wpAnyH_takeI (i := 16) (v := ?v14) rfl (by kernel_rfl) (by kernel_rfl) (by kernel_rfl) (fun _ _ _ h => h) (yieldsIf_want rfl (fun w' hw' => ?y14)) hSwz ?_
    case y14 => first | (go_simp; rfl) | (go_simp; done) | rfl
    simp only [Act.put, List.setIfInBounds_toArray, List.set_cons_zero, List.set_cons_succ]
    refine wpAnyH_takeI (i := 17) (v := ?v15) rfl (by kernel_rfl) (by kernel_rfl) (by kernel_rfl) (fun _ _ _ h => h) (yieldsIf_want rfl (fun w' hw' => ?y15)) hSwz ?_
    case y15 => first | (go_simp; rfl) | (go_simp; done) | rfl
    simp only [Act.put, List.setIfInBounds_toArray, List.set_cons_zero, List.set_cons_succ]
    refine wpAnyH_takeI (i := 18) (v := ?v16) rfl (by kernel_rfl) (by kernel_rfl) (by kernel_rfl) (fun _ _ _ h => h) (yieldsIf_want rfl (fun w' hw' => ?y16)) hSwz ?_
    case y16 => first | (go_simp; rfl) | (go_simp; done) | rfl
    simp only [Act.put, List.setIfInBounds_toArray, List.set_cons_zero, List.set_cons_succ]
    refine wpAnyH_takeI (i := 19) (v := ?v17) rfl (by kernel_rfl) (by kernel_rfl) (by kernel_rfl) (fun _ _ _ h => h) (yieldsIf_want rfl (fun w' hw' => ?y17)) hSwz ?_
    case y17 => first | (go_simp; rfl) | (go_simp; done) | rfl
    simp only [Act.put, List.setIfInBounds_toArray, List.set_cons_zero, List.set_cons_succ]
    refine wpAnyH_takeI (i := 20) (v := ?v18) rfl (by kernel_rfl) (by kernel_rfl) (by kernel_rfl) (fun _ _ _ h => h) (yieldsIf_want rfl (fun w' hw' => ?y18)) hSwz ?_
    case y18 => first | (go_simp; rfl) | (go_simp; done) | rfl
    simp only [Act.put, List.setIfInBounds_toArray, List.set_cons_zero, List.set_cons_succ]
    refine wpAnyH_takeI (i := 21) (v := ?v19) rfl (by kernel_rfl) (by kernel_rfl) (by kernel_rfl) (fun _ _ _ h => h) (yieldsIf_want rfl (fun w' hw' => ?y19)) hSwz ?_
    case y19 => first | (go_simp; rfl) | (go_simp; done) | rfl
    simp only [Act.put, List.setIfInBounds_toArray, List.set_cons_zero, List.set_cons_succ]
    refine wpAnyH_takeI (i := 22) (v := ?v20) rfl (by kernel_rfl) (by kernel_rfl) (by kernel_rfl) (fun _ _ _ h => h) (yieldsIf_want rfl (fun w' hw' => ?y20)) hSwz ?_
    case y20 => first | (go_simp; rfl) | (go_simp; done) | rfl
    simp only [Act.put, List.setIfInBounds_toArray, List.set_cons_zero, List.set_cons_succ]
    refine wpAnyH_takeI (i := 23) (v := ?v21) rfl (by kernel_rfl) (by kernel_rfl) (by kernel_rfl) (fun _ _ _ h => h) (yieldsIf_want rfl (fun w' hw' => ?y21)) hSwz ?_
    case y21 => first | (go_simp; rfl) | (go_simp; done) | rfl
    simp only [Act.put, List.setIfInBounds_toArray, List.set_cons_zero, List.set_cons_succ]
    refine wpAnyH_takeI (i := 24) (v := ?v22) rfl (by kernel_rfl) (by kernel_rfl) (by kernel_rfl) (fun _ _ _ h => h) (yieldsIf_run rfl (fun w' hw' => ?y22)) hSwz ?_
    case y22 => first | (go_simp; rfl) | (go_simp; done) | rfl
    simp only [Act.put, List.setIfInBounds_toArray, List.set_cons_zero, List.set_cons_succ]
    refine wpAnyH_takeI (i := 25) (v := ?v23) rfl (by kernel_rfl) (by kernel_rfl) (by kernel_rfl) (fun _ _ _ h => h) (yieldsIf_run rfl (fun w' hw' => ?y23)) hSwz ?_
    case y23 => first | (go_simp; rfl) | (go_simp; done) | rfl
    simp only [Act.put, List.setIfInBounds_toArray, List.set_cons_zero, List.set_cons_succ]
    refine wpAnyH_done (by kernel_rfl) ?_ _
    refine NoPanic.normal ?_
    go_wp2_with fail
    go_ret
    exact ⟨rfl, HBe.out.trans (hSwz.mono HBe.out.size)⟩
  · have hgeI : (N : Int) ≤ (kk : Int) := by omega
    have hgeI2 : ¬ (kk : Int) < (N : Int) := by omega
    refine wp_region_noPanic ?_
    refine wp_region_H (Below we.heap.size we) (by kernel_rfl) ?_
    have hS0 : (Below we.heap.size we) we.drew := (Below.refl _ _).drew
    obtain ⟨wq, hwq⟩ : ∃ wq, we.drew = wq := ⟨_, rfl⟩
    rw [hwq] at hS0 ⊢
    clear hwq
    refine wpAnyH_takeI (i := 0) (v := ?v24) rfl (by kernel_rfl) (by kernel_rfl) (by kernel_rfl) (fun _ _ _ h => h) (yieldsIf_run rfl (fun w' hw' => ?y24)) hS0 ?_
    case y24 => first | (go_simp; rfl) | (go_simp; done) | rfl
    simp only [Act.put, List.setIfInBounds_toArray, List.set_cons_zero, List.set_cons_succ]
    refine wpAnyH_takeI (i := 1) (v := ?v25) rfl (by kernel_rfl) (by kernel_rfl) (by kernel_rfl) (fun _ _ _ h => h) (yieldsIf_run rfl (fun w' hw' => ?y25)) hS0 ?_
    case y25 => first | (go_simp; rfl) | (go_simp; done) | rfl
    simp only [Act.put, List.setIfInBounds_toArray, List.set_cons_zero, List.set_cons_succ]
    refine wpAnyH_takeI (i := 2) (v := ?v26) rfl (by kernel_rfl) (by kernel_rfl) (by kernel_rfl) (fun _ _ _ h => h) (yieldsIf_run rfl (fun w' hw' => ?y26)) hS0 ?_
    case y26 => first | (go_simp; rfl) | (go_simp; done) | rfl
    simp only [Act.put, List.setIfInBounds_toArray, List.set_cons_zero, List.set_cons_succ]
    refine wpAnyH_takeI (i := 3) (v := ?v27) rfl (by kernel_rfl) (by kernel_rfl) (by kernel_rfl) (fun _ _ _ h => h) (yieldsIf_want rfl (fun w' hw' => ?y27)) hS0 ?_
    case y27 => first | (go_simp; rfl) | (go_simp; done) | rfl
    simp only [Act.put, List.setIfInBounds_toArray, List.set_cons_zero, List.set_cons_succ]
    refine wpAnyH_takeI (i := 4) (v := ?v28) rfl (by kernel_rfl) (by kernel_rfl) (by kernel_rfl) (fun _ _ _ h => h) (yieldsIf_want rfl (fun w' hw' => ?y28)) hS0 ?_
    case y28 => first | (go_simp; rfl) | (go_simp; done) | rfl
    simp only [Act.put, List.setIfInBounds_toArray, List.set_cons_zero, List.set_cons_succ]
    refine wpAnyH_takeI (i := 5) (v := ?v29) rfl (by kernel_rfl) (by kernel_rfl) (by kernel_rfl) (fun _ _ _ h => h) (yieldsIf_want rfl (fun w' hw' => ?y29)) hS0 ?_
    case y29 => first | (go_simp; rfl) | (go_simp; done) | rfl
    simp only [Act.put, List.setIfInBounds_toArray, List.set_cons_zero, List.set_cons_succ]
    refine wpAnyH_takeI (i := 6) (v := ?v30) rfl (by kernel_rfl) (by kernel_rfl) (by kernel_rfl) (fun _ _ _ h => h) (yieldsIf_want rfl (fun w' hw' => ?y30)) hS0 ?_
    case y30 => first | (go_simp; rfl) | (go_simp; done) | rfl
    simp only [Act.put, List.setIfInBounds_toArray, List.set_cons_zero, List.set_cons_succ]
    refine wpAnyH_takeI (i := 7) (v := ?v31) rfl (by kernel_rfl) (by kernel_rfl) (by kernel_rfl) (fun _ _ _ h => h) (yieldsIf_run rfl (fun w' hw' => ?y31)) hS0 ?_
    case y31 => first | (go_simp; rfl) | (go_simp; done) | rfl
    simp only [Act.put, List.setIfInBounds_toArray, List.set_cons_zero, List.set_cons_succ]
    refine wpAnyH_takeI (i := 8) (v := ?v32) rfl (by kernel_rfl) (by kernel_rfl) (by kernel_rfl) (fun _ _ _ h => h) (yieldsIf_run rfl (fun w' hw' => ?y32)) hS0 ?_
    case y32 => first | (go_simp; rfl) | (go_simp; done) | rfl
    simp only [Act.put, List.setIfInBounds_toArray, List.set_cons_zero, List.set_cons_succ]
    refine wpAnyH_takeI (i := 9) (v := ?v33) rfl (by kernel_rfl) (by kernel_rfl) (by kernel_rfl) (fun _ _ _ h => h) (yieldsIf_want rfl (fun w' hw' => ?y33)) hS0 ?_
    case y33 => (obtain ⟨z0, z1, z2, z3, z4, z5, z6, z7⟩ := HCELL.out w' hw'; clear hw'; first | (go_simp; rfl) | (go_simp; done))
    simp only [Act.put, List.setIfInBounds_toArray, List.set_cons_zero, List.set_cons_succ]
    refine wpAnyH_takeI (i := 11) (v := ?v34) rfl (by kernel_rfl) (by kernel_rfl) (by kernel_rfl) (fun _ _ _ h => h) (yieldsIf_want rfl (fun w' hw' => ?y34)) hS0 ?_
    case y34 => (obtain ⟨z0, z1, z2, z3, z4, z5, z6, z7⟩ := HCELL.out w' hw'; clear hw'; first | (go_simp; rfl) | (go_simp; done))
    simp only [Act.put, List.setIfInBounds_toArray, List.set_cons_zero, List.set_cons_succ]
    refine wpAnyH_want (i := 10) (by kernel_rfl) rfl rfl (fun K hK => ?_)
    go_simp
    go_at_call 30
    refine (to_any k g n aa m ca wq).mono ?_
    rintro e wx ⟨rfl, hbwx⟩
    have hSwx := hS0.trans (hbwx.mono hS0.size)
    refine hK _ _ (hSwx) ?_
    clear hK K
    try simp only [Act.put, List.setIfInBounds_toArray, List.set_cons_zero, List.set_cons_succ]
    refine wpAnyH_want (i := 12) (by kernel_rfl) rfl rfl (fun K hK => ?_)
    go_simp
    go_at_call 30
    refine (to_any k g n a' m c' wx).mono ?_
    rintro e wy ⟨rfl, hbwy⟩
    have hSwy := hSwx.trans (hbwy.mono hSwx.size)
    refine hK _ _ (hSwy) ?_
    clear hK K
    try simp only [Act.put, List.setIfInBounds_toArray, List.set_cons_zero, List.set_cons_succ]
    refine wpAnyH_want (i := 13) (by kernel_rfl) rfl rfl (fun K hK => ?_)
    go_simp
    go_at_call 37
    refine (rEqual_same k g n aa a' m ca m c' r.load (HOe.out.below hSwy).at_ (HVe.out.below hSwy).at_).mono ?_
    rintro e wz ⟨rfl, hbwz⟩
    have hSwz := hSwy.trans (hbwz.mono hSwy.size)
    refine hK _ _ (hSwz) ?_
    clear hK K
    try simp only [Act.put, List.setIfInBounds_toArray, List.set_cons_zero, List.set_cons_succ]
    refine wpAnyH_takeI (i := 14) (v := ?v35) rfl (by kernel_rfl) (by kernel_rfl) (by kernel_rfl) (fun _ _ _ h => h) (yieldsIf_run rfl (fun w' hw' => ?y35)) hSwz ?_
    case y35 => first | (go_simp; rfl) | (go_simp; done) | rfl
    simp only [Act.put, List.setIfInBounds_toArray, List.set_cons_zero, List.set_cons_succ]
    refine wpAnyH_takeI (i := 15) (v := ?v36) rfl (by kernel_rfl) (by kernel_rfl) (by kernel_rfl) (fun _ _ _ h => h) (yieldsIf_run rfl (fun w' hw' => ?y36)) hSwz ?_
    case y36 => first | (go_simp; rfl) | (go_simp; done) | rfl
    simp only [Act.put, List.setIfInBounds_toArray, List.set_cons_zero, List.set_cons_succ]
    refine wpAnyH_takeI (i := 16) (v := ?v37) rfl (by kernel_rfl) (by kernel_rfl) (by kernel_rfl) (fun _ _ _ h => h) (yieldsIf_want rfl (fun w' hw' => ?y37)) hSwz ?_
    case y37 => first | (go_simp; rfl) | (go_simp; done) | rfl
    simp only [Act.put, List.setIfInBounds_toArray, List.set_cons_zero, List.set_cons_succ]
    refine wpAnyH_takeI (i := 17) (v := ?v38) rfl (by kernel_rfl) (by kernel_rfl) (by kernel_rfl) (fun _ _ _ h => h) (yieldsIf_want rfl (fun w' hw' => ?y38)) hSwz ?_
    case y38 => first | (go_simp; rfl) | (go_simp; done) | rfl
    simp only [Act.put, List.setIfInBounds_toArray, List.set_cons_zero, List.set_cons_succ]
    refine wpAnyH_takeI (i := 18) (v := ?v39) rfl (by kernel_rfl) (by kernel_rfl) (by kernel_rfl) (fun _ _ _ h => h) (yieldsIf_want rfl (fun w' hw' => ?y39)) hSwz ?_
    case y39 => first | (go_simp; rfl) | (go_simp; done) | rfl
    simp only [Act.put, List.setIfInBounds_toArray, List.set_cons_zero, List.set_cons_succ]
    refine wpAnyH_takeI (i := 19) (v := ?v40) rfl (by kernel_rfl) (by kernel_rfl) (by kernel_rfl) (fun _ _ _ h => h) (yieldsIf_want rfl (fun w' hw' => ?y40)) hSwz ?_
    case y40 => first | (go_simp; rfl) | (go_simp; done) | rfl
    simp only [Act.put, List.setIfInBounds_toArray, List.set_cons_zero, List.set_cons_succ]
    refine wpAnyH_takeI (i := 20) (v := ?v41) rfl (by kernel_rfl) (by kernel_rfl) (by kernel_rfl) (fun _ _ _ h => h) (yieldsIf_want rfl (fun w' hw' => ?y41)) hSwz ?_
    case y41 => first | (go_simp; rfl) | (go_simp; done) | rfl
    simp only [Act.put, List.setIfInBounds_toArray, List.set_cons_zero, List.set_cons_succ]
    refine wpAnyH_takeI (i := 21) (v := undef) rfl (by kernel_rfl) (by kernel_rfl) (by kernel_rfl) (fun _ _ _ h => h) (yieldsIf_skip rfl) hSwz ?_
    simp only [Act.put, List.setIfInBounds_toArray, List.set_cons_zero, List.set_cons_succ]
    refine wpAnyH_takeI (i := 22) (v := undef) rfl (by kernel_rfl) (by kernel_rfl) (by kernel_rfl) (fun _ _ _ h => h) (yieldsIf_skip rfl) hSwz ?_
    simp only [Act.put, List.setIfInBounds_toArray, List.set_cons_zero, List.set_cons_succ]
    refine wpAnyH_takeI (i := 23) (v := ?v42) rfl (by kernel_rfl) (by kernel_rfl) (by kernel_rfl) (fun _ _ _ h => h) (yieldsIf_want rfl (fun w' hw' => ?y42)) hSwz ?_
    case y42 => first | (go_simp; rfl) | (go_simp; done) | rfl
    simp only [Act.put, List.setIfInBounds_toArray, List.set_cons_zero, List.set_cons_succ]
    refine wpAnyH_takeI (i := 24) (v := ?v43) rfl (by kernel_rfl) (by kernel_rfl) (by kernel_rfl) (fun _ _ _ h => h) (yieldsIf_run rfl (fun w' hw' => ?y43)) hSwz ?_
    case y43 => first | (go_simp; rfl) | (go_simp; done) | rfl
    simp only [Act.put, List.setIfInBounds_toArray, List.set_cons_zero, List.set_cons_succ]
    refine wpAnyH_takeI (i := 25) (v := ?v44) rfl (by kernel_rfl) (by kernel_rfl) (by kernel_rfl) (fun _ _ _ h => h) (yieldsIf_run rfl (fun w' hw' => ?y44)) hSwz ?_
    case y44 => first | (go_simp; rfl) | (go_simp; done) | rfl
    simp only [Act.put, List.setIfInBounds_toArray, List.set_cons_zero, List.set_cons_succ]
    refine wpAnyH_done (by kernel_rfl) ?_ _
    refine NoPanic.normal ?_
    go_wp2_with fail
    go_ret
    exact ⟨rfl, HBe.out.trans (hSwz.mono HBe.out.size)⟩

end Go.Proofs.YtloaenknhkfaeaaDoor
