/- The law Oldest, at last: removing what Oldest returns frees enough bytes, and one article less does not. -/
import Derived.Test.YtnmdgjodbikndaaS26
namespace Go.Proofs.Ytnmdgjodbikndaa
open Go.RowKit
set_option linter.unusedVariables false
set_option linter.unusedSimpArgs false
attribute [local go_sem] Oper.semAt_some

set_option maxRecDepth 100000 in
set_option maxHeartbeats 2000000 in
theorem Oldest_main {w : World} (budget : Int) (hb0 : 0 ≤ budget ∧ budget ≤ 255) (v : Value) (L : List OpD) (hv : ListAt opE w v L) (need : Int) (hsb : smallB L = true) (hneg : ¬ need < 0) (hbig : ¬ 1 + budget < need) :
    Calls Try.prog 7 #[.int .u8 budget, v, .int .i64 need] w fun e w' => e = .returned (.bool true) ∧ Below w.heap.size w w' := by
  obtain ⟨w1, hw1⟩ : ∃ w1, w.alloc (.cells #[.bool false] 4) = w1 := ⟨_, rfl⟩
  have hb1 : Below w.heap.size w w1 := hw1 ▸ (Below.refl _ _).alloc (Nat.le_refl _) _
  have n2 : w1.heap[w.heap.size]? = some (.cells #[.bool false] 4 (0, 0)) := by rw [← hw1]; exact heap_alloc_new w _
  have hs1 : w1.heap.size = w.heap.size + 1 := by rw [← hw1]; simp
  obtain ⟨B, hB⟩ : ∃ B, 1 + budget = B := ⟨_, rfl⟩
  rw [hB] at hbig
  have hBr : 1 ≤ B ∧ B ≤ 256 := by omega
  obtain ⟨r, hr⟩ : ∃ r, smallB L = r := ⟨_, rfl⟩
  have HSM := Lib.hid (show ∀ w', Below w.heap.size w w' → Calls Try.prog 16 #[v] w' fun e w'' => e = .returned (.bool r) ∧ Below w'.heap.size w' w'' from fun w' hb => by
    have h := small_any v L (hv.below hb)
    rw [hr] at h
    exact h)
  have HRUN := Lib.hid (show r = true → ∀ w', Below w.heap.size w w' → Calls Try.prog 23 #[.int .i64 B, v] w' (RunPost w' B L) from fun h w' hb => run_any stableOk_forty B v L (hv.below hb) (small_len (hr.trans h)) (by decide))
  have HLEN := Lib.hid (show r = true → L.length ≤ 40 from fun h => small_len (hr.trans h))
  obtain ⟨va, vc, rfl⟩ := hv.form
  obtain ⟨N, hN⟩ : ∃ N, L.length = N := ⟨_, rfl⟩
  rw [hN] at HSM HRUN ⊢
  have HB1 := Lib.hid hb1
  have HN2 := Lib.hid n2
  have HS1 := Lib.hid hs1
  have HBR := Lib.hid hBr
  have hwr : IntKind.i64.wrap (1 + budget) = B := (u8_add hb0.1 hb0.2).trans hB
  have hwu : IntKind.i64.wrap budget = budget := IntWalk.i64_in _ (by omega)
  have HWR := Lib.hid hwr
  have HWU := Lib.hid hwu
  have H_hneg := Lib.hid hneg
  have H_hbig := Lib.hid hbig
  rw [hsb] at hr
  subst hr
  clear hsb hneg hbig hv hb1 n2 hs1 hBr hB hb0
  refine (callsIn_wide (n := 4)).1 ?_
  refine callsIn_of_wp_marks Try.func7 rfl trivial ?_ rfl
  simp only [Try.ntmps7, List.size_toArray, List.length_cons, List.length_nil, Nat.reduceAdd, Nat.reduceSub, Array.replicate_succ, Array.replicate_zero, List.push_toArray, List.append_toArray, List.nil_append, List.cons_append]
  refine wpIn_wide.2 ?_
  go_wp2_with fail
  try rw [hw1]
  clear hw1
  refine (known_any).mono ?_
  rintro e w2 ⟨rfl, hb⟩
  have HB2 := Lib.hid (HB1.out.trans (hb.mono HB1.out.size))
  have HX1 := Lib.hid hb
  clear hb
  go_wp2_with fail
  refine (HSM.out w2 HB2.out).mono ?_
  rintro e w3 ⟨rfl, hb⟩
  have HB3 := Lib.hid (HB2.out.trans (hb.mono HB2.out.size))
  have HX3 := Lib.hid (HX1.out.trans (hb.mono HX1.out.size))
  clear hb HX1
  go_wp2_with fail
  refine (HRUN.out trivial w3 HB3.out).mono ?_
  rintro e w4 ⟨hb, ⟨h1, h2, b, m, v', rfl, hb1, hm1, hs, hl⟩ | ⟨h, _⟩⟩
  case inr => exact absurd ⟨HBR.out.1, by have := HBR.out; omega⟩ h
  have hro := run_ok L ⟨B, 0, []⟩ (ok_new h1 h2)
  obtain ⟨S, hS⟩ : ∃ S, runS ⟨B, 0, []⟩ L = S := ⟨_, rfl⟩
  rw [hS] at hs hl hro
  have hl40 : S.list.length ≤ 40 := by have h1 := hro.2.2.2; have h2 := HLEN.out trivial; simp only [List.length_nil, Nat.zero_add] at h1; omega
  obtain ⟨pa, pc, rfl⟩ := hl.form
  obtain ⟨M, hM⟩ : ∃ M, S.ref.length = M := ⟨_, rfl⟩
  rw [hM] at hl ⊢
  obtain ⟨w5, hw5⟩ : ∃ w5, w4.alloc (.cells #[.int .i64 B, .slice pa M pc] 50) = w5 := ⟨_, rfl⟩
  have hs5 : w5.heap.size = w4.heap.size + 1 := by rw [← hw5]; simp only [World.size_alloc]
  have hb5 : Below w4.heap.size w4 w5 := hw5 ▸ (Below.refl _ _).alloc (Nat.le_refl _) _
  have HW5 := Lib.hid hw5
  have HB5 := Lib.hid (HB3.out.trans ((hb.trans (hb5.mono hb.size)).mono HB3.out.size))
  have HX5 := Lib.hid (HX3.out.trans ((hb.trans (hb5.mono hb.size)).mono HX3.out.size))
  have HS := Lib.hid (hs.below hb5)
  have HRO := Lib.hid hro
  have HBM := Lib.hid (show b < w4.heap.size ∧ m < w4.heap.size ∧ w3.heap.size ≤ b ∧ w3.heap.size ≤ m from ⟨hs.lt, hs.hm.lt, hb1, hm1⟩)
  have HM40 := Lib.hid hl40
  clear hw5 hb5 hb hs hl hro hS hM hl40 hb1 hm1 h1 h2
  go_wp2_with fail
  rw [HW5.out]
  clear HW5
  refine (Oldest_any stableOk_forty HS.out HRO.out.1 HM40.out (by decide) need).mono ?_
  rintro e w6 ⟨v2, rfl, ho, hb6⟩
  obtain ⟨ia, ic, rfl⟩ := ho.form
  have HB6 := Lib.hid (HB5.out.trans (hb6.mono HB5.out.size))
  have HX6 := Lib.hid (HX5.out.trans (hb6.mono HX5.out.size))
  have HO6 := Lib.hid ho
  have HS6 := Lib.hid (HS.out.below hb6)
  have HZ6 := Lib.hid (show w5.heap.size ≤ w6.heap.size from hb6.size)
  have hbu := HRO.out.2.1
  have hbu : S.budget = B := hbu
  have HBU := Lib.hid hbu
  have HX3S := Lib.hid (show w1.heap.size ≤ w3.heap.size from HX3.out.size)
  have HS5 := Lib.hid hs5
  clear ho hb6 HS HX5 HX3 hbu
  have hwr := HWR.out
  have hneg := H_hneg.out
  have hbig := H_hbig.out
  have hwu := HWU.out
  have hnd : (S.list.map (·.id)).Nodup := by rw [← kl_ids]; exact HS6.out.hm.nodup
  obtain ⟨n, OF⟩ := oldFacts (need := need) HRO.out.1 hnd (by omega) (by rw [HBU.out]; omega)
  have hc : oldC S need = 0 := by unfold oldC; rw [if_neg (show ¬ need < 0 by omega), if_neg (by rw [HBU.out]; omega)]
  obtain ⟨IL, hIL⟩ : ∃ IL, oldL S need = IL := ⟨_, rfl⟩
  obtain ⟨T, hT⟩ : ∃ T, stab S.list = T := ⟨_, rfl⟩
  rw [hIL] at OF HO6 ⊢
  have hK := OF.len
  obtain ⟨K, hKe⟩ : ∃ K, IL.length = K := ⟨_, rfl⟩
  rw [hKe] at hK HO6 ⊢
  subst hK
  rw [hc]
  have hTl : K ≤ 40 := by have h1 := OF.le; have h2 := (stab_perm S.list).length_eq; have h3 := HM40.out; omega
  have HK40 := Lib.hid hTl
  have HOF := Lib.hid OF
  have HIL := Lib.hid hKe
  obtain ⟨w8, hw8⟩ : ∃ w8, (w6.alloc (.cells #[.slice ia K ic] 56)).alloc (.cells #[.int .i64 (-1)] 3) = w8 := ⟨_, rfl⟩
  have hs8 : w8.heap.size = w6.heap.size + 2 := by rw [← hw8]; simp only [World.size_alloc]
  have hb8 : Below w6.heap.size w6 w8 := hw8 ▸ (((Below.refl _ _).alloc (Nat.le_refl _) _).alloc (by simp only [World.size_alloc]; omega) _)
  have m1 : w8.heap[w6.heap.size]? = some (.cells #[.slice ia K ic] 56 (0, 0)) := by rw [← hw8, Below.heap_alloc _ _ _ (by simp only [World.size_alloc]; omega)]; exact heap_alloc_new w6 _
  have m2 : w8.heap[w6.heap.size + 1]? = some (.cells #[.int .i64 (-1)] 3 (0, 0)) := by
    have := heap_alloc_new (w6.alloc (.cells #[.slice ia K ic] 56)) (.cells #[.int .i64 (-1)] 3)
    rw [World.size_alloc] at this
    rw [← hw8]; exact this
  have HW8 := Lib.hid hw8
  have HX8 := Lib.hid (HX6.out.trans (hb8.mono HX6.out.size))
  have HB8 := Lib.hid (HB6.out.trans (hb8.mono HB6.out.size))
  have HS8 := Lib.hid (HS6.out.below hb8)
  have HO8 := Lib.hid (HO6.out.below hb8)
  have HOB := Lib.hid (fun k (hk : (Value.slice ia K ic).ownBlock = some k) => HO6.out.lt hk)
  have hneg2 : ¬ need < 0 := by omega
  clear hw8 hb8 hIL hT hKe hTl OF hnd hc
  go_wp2_with fail
  rw [HW8.out]
  clear HW8 hwr hwu hneg hbig hneg2
  obtain ⟨A12, hA12⟩ : ∃ A12, w6.heap.size + 1 = A12 := ⟨_, rfl⟩
  obtain ⟨A10, hA10⟩ : ∃ A10, w6.heap.size = A10 := ⟨_, rfl⟩
  obtain ⟨A8, hA8⟩ : ∃ A8, w4.heap.size = A8 := ⟨_, rfl⟩
  obtain ⟨A6, hA6⟩ : ∃ A6, w.heap.size = A6 := ⟨_, rfl⟩
  have HZ := Lib.hid (show A6 = w.heap.size ∧ A6 < b ∧ A6 < m ∧ b < A8 ∧ m < A8 ∧ A8 < w5.heap.size ∧ w5.heap.size ≤ A10 ∧ A12 = A10 + 1 ∧ w8.heap.size = A10 + 2 ∧ w6.heap.size = A10 by
    have h1 := HS1.out; have h2 := HBM.out; have h3 := HX3S.out; have h4 := HZ6.out; omega)
  rw [hA12] at m2 ⊢
  rw [hA10] at m1 ⊢
  rw [hA8, hA6]
  have HN2' := Lib.hid (show w8.heap[A6]? = some (.cells #[.bool false] 4 (0, 0)) by rw [← hA6]; exact (HX8.out.block _ (by have := HS1.out; omega)).trans HN2.out)
  have HM1 := Lib.hid m1
  clear hA12 hA10 hA8 hA6 m1 hs8 HN2 HS1 HX8 HB1 HB2 HB3 HB5 HB6 HX6 HS6 HO6 HBM HZ6 hs5
  go_loopw [13] (fun iv wr => ∃ i : Nat, i ≤ K ∧ iv = .int .i64 (i : Int) ∧ SpAt wr b m (delT S (stab S.list) i) ∧ wr.heap[A12]? = some (.cells #[.int .i64 (lastA (stab S.list) i)] 3 (0, 0)) ∧ Chg (fun k => k = A12 ∨ k = b ∨ k = m) w8 wr) (fun iv _ => K - (intOf iv).toNat)
  case atStart => exact ⟨0, Nat.zero_le _, rfl, HS8.out, m2, Chg.refl _ _⟩
  case round =>
  clear m2
  obtain ⟨i, hi, rfl, hsp, hla, hC⟩ := hrel
  have HC := Lib.hid hC
  have hz10 := (hC.block A10 (by have := HZ.out; omega) (by have := HZ.out; omega)).trans HM1.out
  by_cases hlt : i < K
  · have hiI : (i : Int) < (K : Int) := by omega
    have hiI0 : (0 : Int) ≤ (i : Int) := by omega
    have hwi : IntKind.i64.wrap ((i : Int) + 1) = (i : Int) + 1 := IntWalk.i64_in _ (by have := HK40.out; omega)
    obtain ⟨g, off, rfl, hg, hr⟩ := ((HO8.out.chg hC (fun k hk hF => by have h1 := HOB.out k hk; have h2 := HZ.out; rcases hF with e | e | e <;> omega)).at_).get (i := i) (by rw [HIL.out]; exact hlt)
    rw [HOF.out.ids i (by rw [HIL.out]; exact hlt)] at hr
    obtain ⟨a, ha⟩ : ∃ a, (stab S.list).getD i zA = a := ⟨_, rfl⟩
    have hfd := HOF.out.find i hlt
    have hok := HOF.out.ok i (by omega)
    have hls := HOF.out.last i hlt
    have hle := HOF.out.less i hlt
    rw [ha] at hr hfd hls
    rw [HBU.out] at hle
    have hdl : (delT S (stab S.list) i).del a.id = delT S (stab S.list) (i + 1) := by rw [← ha]; rfl
    have hl1 : lastA (stab S.list) (i + 1) = a.arr := by
      show ((stab S.list).getD i zA).arr = a.arr
      rw [ha]
    obtain ⟨Si, hSi⟩ : ∃ Si, delT S (stab S.list) i = Si := ⟨_, rfl⟩
    obtain ⟨la, hlae⟩ : ∃ la, lastA (stab S.list) i = la := ⟨_, rfl⟩
    rw [hSi] at hsp hfd hok hle hdl
    rw [hlae] at hla hls
    have hent := fun w' (hw' : Below wr.heap.size wr w') => Entry_any (hsp.below hw') hok.1 a.id
    have hfre := fun w' (hw' : Below wr.heap.size wr w') => Free_any (hsp.below hw') hok.1
    have hrem := fun w' (hw' : Below wr.heap.size wr w') => Remove_any (hsp.below hw') hok.1 a.id
    rw [hfd] at hent
    rw [hok.2.2, HBU.out] at hfre
    rw [hfd, hdl] at hrem
    have hent : ∀ w', Below wr.heap.size wr w' → Calls Try.prog 26 #[.pointer (some ⟨b, 0, none⟩), .agg (bvs a.id.1).toArray] w' fun e w'' => e = .returned (.tuple #[.agg (entC a).toArray, .bool true]) ∧ Below w'.heap.size w' w'' := hent
    have hrem : ∀ w', Below wr.heap.size wr w' → Calls Try.prog 17 #[.pointer (some ⟨b, 0, none⟩), .agg (bvs a.id.1).toArray] w' (PutPost w' b m Si 0 (delT S (stab S.list) (i + 1))) := hrem
    obtain ⟨Z, hZs⟩ : ∃ Z, (Si.size : Int) = Z := ⟨_, rfl⟩
    rw [hZs] at hle hfre
    have hnf : ¬ need ≤ B - Z := by omega
    have hnl : ¬ a.arr < la := by omega
    have HENT := Lib.hid hent
    have HFRE := Lib.hid hfre
    have HREM := Lib.hid hrem
    have HR := Lib.hid (show ∀ w', Below wr.heap.size wr w' → w'.rangeAt g (off + i * 32) (bvs a.id.1) from fun w' hw' j u hj => (hw'.cell (p := ⟨g, off + i * 32 + j, none⟩) hg).trans (hr j u hj))
    have HLA := Lib.hid hla
    have H10 := Lib.hid hz10
    have HL1 := Lib.hid hl1
    have HNF := Lib.hid hnf
    have HNL := Lib.hid hnl
    have HA12 := Lib.hid (Array.getElem?_eq_some_iff.1 hla).1
    have c10 := cell_of_row wr _ 0 _ _ _ hz10
    simp only [List.getElem?_toArray, List.getElem?_cons_zero] at c10
    clear hent hfre hrem hr hla hz10 hl1 hnf hnl hC hsp hfd hok hls hle hdl hSi hlae hZs ha hg
    refine hide_post fun Q HQ => ?_
    go_wp2_with (with_reducible refine wpList_load_mid rfl 30 _ rfl g (off + i * 32) rfl (bvs a.id.1) _ (HR.out _ (Below.refl _ _)) Try.underlying30 rfl (sizeId a.id) ?_; refine Stop.on ?_)
    refine Stop.go ?_
    try simp only [Act.put, List.setIfInBounds_toArray, List.set_cons_zero, List.set_cons_succ]
    clear c10
    go_wp2_with fail
    refine (HENT.out _ (Below.refl _ _)).mono ?_
    rintro e wp ⟨rfl, hbp⟩
    have HBP := Lib.hid hbp
    clear hbp
    go_wp2_with (refine wpList_newV rfl (some 14) rfl 44 rfl (entC zA).toArray 34 (by kernel_rfl) ?_; refine Stop.on ?_)
    refine Stop.go ?_
    try simp only [Act.put, List.setIfInBounds_toArray, List.set_cons_zero, List.set_cons_succ]
    intro wn xn bn sn
    try simp only [Act.put, List.setIfInBounds_toArray, List.set_cons_zero, List.set_cons_succ]
    refine wpList_putV rfl rfl 44 (.tmp 14) (.tmp 83) rfl _ (entC a).toArray rfl rfl 44 _ xn (sizeEnt a) (by simp only [List.size_toArray, entC_length]) (all_oneCell_cells entE a) ?_
    intro wo xo co so
    try simp only [Act.put, List.setIfInBounds_toArray, List.set_cons_zero, List.set_cons_succ]
    obtain ⟨A14, hA14⟩ : ∃ A14, wp.heap.size = A14 := ⟨_, rfl⟩
    have hbo : Below wr.heap.size wr wo := HBP.out.trans ((bn.trans (co.below (B := wp.heap.size) (fun k e => by omega) (by omega))).mono HBP.out.size)
    have hA := HBP.out.size
    rw [hA14] at xo hA ⊢
    have HBO := Lib.hid hbo
    have HXO := Lib.hid xo
    have HAA := Lib.hid (show A12 < A14 ∧ b < A14 ∧ m < A14 by have h1 := HA12.out; have h2 := HZ.out; omega)
    have h12 := (hbo.block _ HA12.out).trans HLA.out
    have h10 := (hbo.block _ (by have h1 := HA12.out; have h2 := HZ.out; omega)).trans H10.out
    have ca : wo.cell? ⟨A14, 32, none⟩ = some (.int .i64 a.arr) := by rw [cell_of_row _ _ _ _ _ _ xo]; exact (entC_parts a).1
    have c12 := cell_of_row wo _ 0 _ _ _ h12
    simp only [List.getElem?_toArray, List.getElem?_cons_zero] at c12
    have hnl := HNL.out
    clear xn bn sn xo co so hA14 hbo hA h12 h10
    go_wp2_with fail
    refine (HFRE.out _ HBO.out).mono ?_
    rintro e wf ⟨rfl, hbf⟩
    have HBF := Lib.hid (HBO.out.trans (hbf.mono HBO.out.size))
    have HXF := Lib.hid ((hbf.block _ (Array.getElem?_eq_some_iff.1 HXO.out).1).trans HXO.out)
    have h10 := (HBF.out.block _ (by have h1 := HA12.out; have h2 := HZ.out; omega)).trans H10.out
    have c10 := cell_of_row wf _ 0 _ _ _ h10
    simp only [List.getElem?_toArray, List.getElem?_cons_zero] at c10
    have hnf : ¬ need ≤ B - Z := by have := HNF.out; omega
    have hnf2 : decide (need ≤ B - Z) = false := decide_eq_false (by have := HNF.out; omega)
    have hnf3 : B - Z < need := by have := HNF.out; omega
    clear hbf h10 ca c12 hnl
    go_wp2_with (refine wpList_met (by first | rfl | (simp only [decide_eq_false (show ¬ need ≤ B - Z by have := HNF.out; omega), decide_eq_false (show ¬ a.arr < la by have := HNL.out; omega)]; rfl)) ?_; with_reducible refine wpList_load_mid rfl 30 _ rfl g (off + i * 32) rfl (bvs a.id.1) _ (HR.out _ HBF.out) Try.underlying30 rfl (sizeId a.id) ?_; refine Stop.on ?_)
    refine Stop.go ?_
    try simp only [Act.put, List.setIfInBounds_toArray, List.set_cons_zero, List.set_cons_succ]
    clear c10 hnf hnf2 hnf3
    go_wp2_with fail
    refine (HREM.out _ HBF.out).mono ?_
    rintro e wz ⟨rfl, hsz, hcz⟩
    have hxz := (hcz.block _ (Array.getElem?_eq_some_iff.1 HXF.out).1 (by have := HAA.out; omega)).trans HXF.out
    have h12 := (hcz.block A12 (by have h1 := HA12.out; have h2 := HBF.out.size; omega) (by have := HZ.out; omega)).trans ((HBF.out.block _ HA12.out).trans HLA.out)
    have ca : wz.cell? ⟨A14, 32, none⟩ = some (.int .i64 a.arr) := by rw [cell_of_row _ _ _ _ _ _ hxz]; exact (entC_parts a).1
    have c12 := cell_of_row wz _ 0 _ _ _ h12
    have f12 := frozen_of_row wz _ 0 _ _ h12
    simp only [List.getElem?_toArray, List.getElem?_cons_zero] at c12
    have hq := Chg.setCell (F := fun k => k = A12) wz (a := ⟨A12, 0, none⟩) (.int .i64 a.arr) rfl
    have HE := Lib.hid (show SpAt (wz.setCell ⟨A12, 0, none⟩ (.int .i64 a.arr)) b m (delT S (stab S.list) (i + 1)) ∧ (wz.setCell ⟨A12, 0, none⟩ (.int .i64 a.arr)).heap[A12]? = some (.cells #[.int .i64 (lastA (stab S.list) (i + 1))] 3 (0, 0)) ∧ Chg (fun k => k = A12 ∨ k = b ∨ k = m) w8 (wz.setCell ⟨A12, 0, none⟩ (.int .i64 a.arr)) from
      ⟨hsz.chg hq (by have := HZ.out; omega) (by have := HZ.out; omega), by rw [heap_setCell_same _ _ _ _ _ _ h12, HL1.out]; simp, (HC.out.trans ((Chg.of_below HBF.out).trans hcz (fun i h => .inl (.inr h))) (fun i h => .inl h)).trans hq (fun i h => .inl (.inl h))⟩)
    clear hxz h12 hq hsz hcz
    go_wp2_with fail
    rw [HQ.out]
    change _ ∧ _
    go_roundw
    case rel => exact ⟨i + 1, by omega, by go_num, HE.out.1, HE.out.2.1, HE.out.2.2⟩
    case measure => simp [intOf]; omega
  · obtain rfl : K = i := by omega
    have c10 := cell_of_row wr _ 0 _ _ _ hz10
    simp only [List.getElem?_toArray, List.getElem?_cons_zero] at c10
    have HBW := Lib.hid (show Below w.heap.size w wr from HB8.out.trans (hC.below (B := w.heap.size) (fun k e => by have := HZ.out; omega) HB8.out.size))
    have HSP := Lib.hid hsp
    have H12 := Lib.hid hla
    have H10 := Lib.hid hz10
    have HA6 := Lib.hid ((hC.block A6 (by have := HZ.out; omega) (by have := HZ.out; omega)).trans HN2'.out)
    have HSZ := Lib.hid (show w8.heap.size ≤ wr.heap.size from hC.size)
    clear hsp hla hz10 hC
    go_wp2_with fail
    clear c10
    refine (All_any (some ⟨b, 0, none⟩)).mono ?_
    rintro e w9 ⟨rfl, hw9⟩
    have hb9 : Below wr.heap.size wr w9 := hw9 ▸ (Below.refl _ _).alloc (Nat.le_refl _) _
    have c9 : w9.cell? ⟨wr.heap.size, 0, none⟩ = some (.pointer (some ⟨b, 0, none⟩)) := by rw [cell_of_row w9 _ 0 _ _ _ (hw9 ▸ heap_alloc_new wr _)]; rfl
    have hs9 : w9.heap.size = wr.heap.size + 1 := by rw [hw9, World.size_alloc]
    have HB9 := Lib.hid (HBW.out.trans (hb9.mono HBW.out.size))
    have HSP9 := Lib.hid (HSP.out.below hb9)
    have HC9 := Lib.hid c9
    have H129 := Lib.hid ((hb9.block _ (Array.getElem?_eq_some_iff.1 H12.out).1).trans H12.out)
    have H109 := Lib.hid ((hb9.block _ (Array.getElem?_eq_some_iff.1 H10.out).1).trans H10.out)
    have HA69 := Lib.hid ((hb9.block _ (Array.getElem?_eq_some_iff.1 HA6.out).1).trans HA6.out)
    have HZ9 := Lib.hid (show A12 < wr.heap.size ∧ A10 < wr.heap.size ∧ A6 < wr.heap.size ∧ w9.heap.size = wr.heap.size + 1 from ⟨(Array.getElem?_eq_some_iff.1 H12.out).1, (Array.getElem?_eq_some_iff.1 H10.out).1, (Array.getElem?_eq_some_iff.1 HA6.out).1, hs9⟩)
    have HOKn := Lib.hid (HOF.out.ok K (Nat.le_refl _))
    obtain ⟨Sn, hSn⟩ : ∃ Sn, delT S (stab S.list) K = Sn := ⟨_, rfl⟩
    obtain ⟨la, hlae⟩ : ∃ la, lastA (stab S.list) K = la := ⟨_, rfl⟩
    have HREST := Lib.hid (show 0 < K → ∀ x ∈ Sn.list, la ≤ x.arr by rw [← hSn, ← hlae]; exact HOF.out.rest)
    have HDONE := Lib.hid (show need ≤ B - (Sn.size : Int) by rw [← hSn, ← HBU.out]; exact HOF.out.done)
    rw [hSn] at HSP9 HOKn
    rw [hlae] at H129
    clear hw9 hb9 c9 hs9 HSP H12 H10 HA6 hSn hlae
    go_wp2_with fail
    refine (wpIn_wide (n := 4)).1 ?_
    refine wpIn_range_boxed (fun x => (entC x).toArray) (T := 44) (q := 16) (p0 := 116) rfl rfl rfl rfl rfl rfl rfl (by decide) (by show 116 < 134; decide) (by show 16 < 134; decide) (entC zA).toArray 34 (by kernel_rfl) (by rw [List.size_toArray, entC_length]) (fun x => by rw [List.size_toArray, entC_length]) (fun x => all_oneCell_toArray (entC_one x))
      (gf := 36) (lb := #[.pointer (some ⟨wr.heap.size, 0, none⟩)]) rfl (enters_of Try.func36 (by kernel_rfl) rfl)
      (all_stops wr.heap.size w9.heap.size _ Sn.list (by have h1 := HOKn.out.2.1; have h2 := HM40.out; omega) w9 (by have := HZ9.out; omega) (Nat.le_refl _) HC9.out (fun W hW => entries_any (HSP9.out.below hW) HOKn.out.1 (by have h1 := HOKn.out.2.1; have h2 := HM40.out; omega))) (Below.refl _ _)
      (OlI w9) (OlX Sn.list) olI_from (fun c => olX_from _ c) (Below.refl _ _) (fun pre W h => h.size) ?body ?done ?stop
    case body =>
      rintro l pre x r W hl hlr hI hrB hx hltp
      have hI : Below w9.heap.size w9 W := hI
      have h12 := (hI.block _ (Array.getElem?_eq_some_iff.1 H129.out).1).trans H129.out
      have h10 := (hI.block _ (Array.getElem?_eq_some_iff.1 H109.out).1).trans H109.out
      have h6 := (hI.block _ (Array.getElem?_eq_some_iff.1 HA69.out).1).trans HA69.out
      have ca : W.cell? ⟨r, 32, none⟩ = some (.int .i64 x.arr) := by rw [cell_of_row _ _ _ _ _ _ hx]; exact (entC_parts x).1
      have c12 := cell_of_row W _ 0 _ _ _ h12
      have c10 := cell_of_row W _ 0 _ _ _ h10
      have c6 := cell_of_row W _ 0 _ _ _ h6
      have f6 := frozen_of_row W _ 0 _ _ h6
      simp only [List.getElem?_toArray, List.getElem?_cons_zero] at c12 c10 c6
      have HI := Lib.hid hI
      have HNO := Lib.hid (show 0 < K → x.arr < la → ¬ pre ++ [x] <+: Sn.list from fun h1 h2 h3 => by
        have := HREST.out h1 x (h3.subset (by simp))
        omega)
      clear hI h12 h10 h6 hx hltp hlr
      by_cases hk0 : K = 0
      · have hkI : ¬ (0 : Int) < (K : Int) := by omega
        have HK0 := Lib.hid hk0
        clear hk0
        gi_wp2
        exact ⟨KeepsFrom.refl _ _, CellsKept.refl _ _, HI.out⟩
      · have hkI : (0 : Int) < (K : Int) := by omega
        by_cases hxa : x.arr < la
        · have HN := Lib.hid (HNO.out (by omega) hxa)
          clear hk0
          gi_wp2
          exact ⟨KeepsFrom.of_grownBy (grownBy_setCell W A6 0 _) (fun j e => by cases e; have := HZ9.out; omega), rfl, HN.out⟩
        · clear hk0
          gi_wp2
          exact ⟨KeepsFrom.refl _ _, CellsKept.refl _ _, HI.out⟩
    case done =>
      rintro D xs W hD rfl hI hK
      have hI : Below w9.heap.size w9 W := hI
      have HI := Lib.hid hI
      have HKD := Lib.hid hK
      have hfre := Free_any (HSP9.out.below hI) HOKn.out.1
      rw [HOKn.out.2.2, HBU.out] at hfre
      have HFRE := Lib.hid hfre
      have HDW := Lib.hid (show D < W.heap.size from (Array.getElem?_eq_some_iff.1 hK).1)
      clear hI hK hfre
      go_wp2_with fail
      refine HFRE.out.mono ?_
      rintro e wl ⟨rfl, hbl⟩
      have hz4 := (hbl.block A6 (by have h1 := HI.out.size; have h2 := HZ9.out; omega)).trans ((HI.out.block _ (by have h2 := HZ9.out; omega)).trans HA69.out)
      have cd := cell_of_row wl _ 0 _ _ _ hz4
      have fd := frozen_of_row wl _ 0 _ _ hz4
      simp only [List.getElem?_toArray, List.getElem?_cons_zero] at cd
      have hRz : (wl.setCell ⟨A6, 0, none⟩ (.bool true)).heap[A6]? = some (.cells #[.bool true] 4 (0, 0)) := heap_setCell_same _ _ _ _ _ _ hz4
      have hKz : (wl.setCell ⟨A6, 0, none⟩ (.bool true)).heap[D]? = some (.deferred (some [])) := (heap_setCell_other wl ⟨A6, 0, none⟩ _ _ (show D ≠ A6 by have h2 := HZ9.out; omega)).trans ((hbl.block _ HDW.out).trans HKD.out)
      have hBz : Below w.heap.size w (wl.setCell ⟨A6, 0, none⟩ (.bool true)) := (HB9.out.trans ((HI.out.trans (hbl.mono HI.out.size)).mono HB9.out.size)).setCell (show w.heap.size ≤ A6 by have := HZ.out; omega) _
      obtain ⟨wz, hwz⟩ : ∃ wz, wl.setCell ⟨A6, 0, none⟩ (.bool true) = wz := ⟨_, rfl⟩
      rw [hwz] at hRz hKz hBz
      have HRz := Lib.hid hRz
      have HKz := Lib.hid hKz
      have HBz := Lib.hid hBz
      have HWZ := Lib.hid hwz
      have HDA := Lib.hid (show D ≠ A6 ∧ w.heap.size ≤ D from ⟨by have h2 := HZ9.out; omega, by have h1 := HZ.out; have h2 := HZ9.out; omega⟩)
      have hdn := HDONE.out
      clear hwz hRz hKz hBz hz4 hbl
      go_wp2_with fail
      rw [HWZ.out]
      refine ⟨by simp, .inl ⟨_, _, rfl, run_takeDeferred HKz.out, ?_⟩⟩
      have hcz : (wz.putObj D (.deferred none)).cell? ⟨A6, 0, none⟩ = some (.bool true) := by
        have h9 : (wz.putObj D (.deferred none)).heap[A6]? = _ := (World.putObj_heap_other (by have := HDA.out.1; omega)).trans HRz.out
        simp [World.cell?, h9]
      have hBf : Below w.heap.size w (wz.putObj D (.deferred none)) := HBz.out.trans (belowK_b (w := w) (Nat.le_refl _) wz D _ _ HDA.out.2 HKz.out rfl rfl)
      refine ⟨_, ?_, rfl, hBf⟩
      simp only [results, show Try.f7.results = #[.cell 6 4] from rfl]
      go_simp
    case stop =>
      rintro D c pre W hD hpre ⟨rfl, hnp⟩ hK
      exact absurd hpre hnp
theorem Oldest_law {w : World} (budget : Int) (hb0 : 0 ≤ budget ∧ budget ≤ 255) (v : Value) (L : List OpD) (hv : ListAt opE w v L) (need : Int) :
    Calls Try.prog 7 #[.int .u8 budget, v, .int .i64 need] w fun e w' => e = .returned (.bool true) ∧ Below w.heap.size w w' := by
  cases hs : smallB L with
  | false => exact Oldest_no budget hb0 v L hv need hs
  | true =>
    by_cases hneg : need < 0
    · exact Oldest_neg budget hb0 v L hv need hs hneg
    · by_cases hbig : 1 + budget < need
      · exact Oldest_big budget hb0 v L hv need hs hneg hbig
      · exact Oldest_main budget hb0 v L hv need hs hneg hbig
end Go.Proofs.Ytnmdgjodbikndaa
