/- Visibility: the law Hole. -/
import Derived.Test.YtjjanjhoaiannaaVp4
namespace Go.Proofs.Ytjjanjhoaiannaa
open Go.RowKit
set_option linter.unusedVariables false
set_option linter.unusedSimpArgs false

set_option maxRecDepth 100000 in
set_option maxHeartbeats 2000000 in
theorem Hole_law {w : World} (v u : Value) (L : List RowV) (G : List IdB) (now : Int) (R : RowV) (hv : RowsAt w v L) (hu : ListAt idE w u G) (hx : ListAt idE w R.rv R.refs) :
    Calls Try.prog 5 #[v, u, .int .i64 now, .agg R.cells.toArray] w (fun e w' => e = .returned (.bool true) ∧ Below w.heap.size w w') := by
  obtain ⟨va, vc, rfl⟩ := hv.l.form
  obtain ⟨ua, uc, rfl⟩ := hu.form
  obtain ⟨N, hN⟩ : ∃ N, L.length = N := ⟨_, rfl⟩
  obtain ⟨KG, hK⟩ : ∃ KG, G.length = KG := ⟨_, rfl⟩
  rw [hK] at hu ⊢
  have HK := Lib.hid hK
  obtain ⟨ra, rc, hre⟩ := hx.form
  obtain ⟨nr, hnr⟩ : ∃ nr, R.refs.length = nr := ⟨_, rfl⟩
  rw [hnr] at hre
  obtain ⟨w1, hw1⟩ : ∃ w1, w.alloc (.cells R.cells.toArray 36) = w1 := ⟨_, rfl⟩
  have hb1 : Below w.heap.size w w1 := hw1 ▸ (Below.refl _ w).alloc (Nat.le_refl _) _
  have hx1 : w1.heap[w.heap.size]? = some (.cells R.cells.toArray 36 (0, 0)) := by rw [← hw1]; exact heap_alloc_new _ _
  have HB01 := Lib.hid hb1
  have HBX := Lib.hid (show ∀ w', Below w1.heap.size w1 w' → w'.heap[w.heap.size]? = some (.cells R.cells.toArray 36 (0, 0)) from fun w' hw' => (hw'.block _ (Array.getElem?_eq_some_iff.1 hx1).1).trans hx1)
  have HNR := Lib.hid hnr
  have HRE := Lib.hid hre
  have HXR := Lib.hid hx
  have hlm : L.length ≤ 9223372036854775807 := by
    obtain ⟨a, c, e, h1, h2, _⟩ := hv.l.ex
    unfold maxLen at h2
    omega
  have HLM := Lib.hid hlm
  rw [hN] at hv ⊢
  have HV := Lib.hid (hv.below hb1)
  have HU := Lib.hid (hu.below hb1)
  have HN := Lib.hid hN
  clear hv hu hN hlm hK hx hre hnr hb1 hx1
  go_enter Try.func5, Try.ntmps5
  go_wp2_with fail
  refine known_any.mono ?_
  rintro e wa ⟨rfl, hba⟩
  have HBA := Lib.hid hba
  clear hba
  go_wp2_with fail
  refine (few_any _ _ L G (HN.out.symm ▸ HV.out.below HBA.out) (HK.out.symm ▸ HU.out.below HBA.out) HLM.out).mono ?_
  rintro e wb ⟨rfl, hbb⟩
  have HBB := Lib.hid (HBA.out.trans (hbb.mono HBA.out.size))
  clear hbb
  obtain ⟨bf, hbf⟩ : ∃ bf, fewB L G = bf := ⟨_, rfl⟩
  rw [hbf]
  have HFEW := Lib.hid hbf
  clear hbf
  cases bf with
  | false =>
    go_wp2_with fail
    refine known_any.mono ?_
    rintro e wz ⟨rfl, hbz⟩
    have HBZ := Lib.hid hbz
    clear hbz
    go_wp2_with fail
    exact bodyPost_ret (v := .bool true) (by simp [results, Try.results5, go_sem]) rfl ⟨rfl, ((HB01.out.trans ((HBB.out).mono HB01.out.size))).trans (HBZ.out.mono ((HB01.out.trans ((HBB.out).mono HB01.out.size))).size)⟩
  | true =>
  obtain ⟨hf1, hf2, hf3⟩ := few_iff.1 HFEW.out
  have HF1 := Lib.hid hf1
  have HF2 := Lib.hid hf2
  have HF3 := Lib.hid hf3
  have HLN := Lib.hid (show L.length < 1000000000 by omega)
  have HGN := Lib.hid (show G.length < 1000000000 by omega)
  clear hf1 hf2 hf3
  have hcx : wb.cell? ⟨w.heap.size, 50, none⟩ = some (.slice ra nr rc) := by
    have h := (row_mid (range_block (HBX.out wb HBB.out))).2.2
    rw [Nat.zero_add, HRE.out] at h
    exact h
  rcases Decidable.em (¬ nr = 0) with hn0 | hn0
  · have hnb : ((nr : Int) == 0) = false := by simpa using hn0
    have hnb2 : ((nr : Int) != 0) = true := by simp [bne, hnb]
    go_wp2_with fail
    refine known_any.mono ?_
    rintro e wz ⟨rfl, hbz⟩
    have HBZ := Lib.hid hbz
    clear hbz
    go_wp2_with fail
    exact bodyPost_ret (v := .bool true) (by simp [results, Try.results5, go_sem]) rfl ⟨rfl, ((HB01.out.trans ((HBB.out).mono HB01.out.size))).trans (HBZ.out.mono ((HB01.out.trans ((HBB.out).mono HB01.out.size))).size)⟩
  obtain rfl : nr = 0 := Decidable.of_not_not hn0
  have HR0 := Lib.hid (List.eq_nil_of_length_eq_zero HNR.out)
  have hK30 : KG ≤ 30 := by have := HF3.out; have := HK.out; omega
  have hN30 : N ≤ 30 := by have := HF2.out; have := HN.out; omega
  have HBW := Lib.hid HBB.out
  clear hn0
  go_wp2_with fail
  refine cut_region (fun a a' w' => ∃ v33 v34 v35 v36 v37 al cl, a' = (((((((a.put (some 33) v33).put (some 34) v34).put (some 35) v35).put (some 36) v36).put (some 37) v37).put (some 38) (.slice al (N + 1) cl)).put (some 9) (.slice al (N + 1) cl)) ∧ OwnL rowE w' wb.heap.size (.slice al (N + 1) cl) (L ++ [R]) ∧ Below wb.heap.size wb w') ?_ ?_
  · clear hcx
    refine wp_region_noPanic ?_
    refine wp_region_H (Below wb.heap.size wb) (by kernel_rfl) ?_
    have hS0 : (Below wb.heap.size wb) wb.drew := (Below.refl _ _).drew
    obtain ⟨wd, hwd⟩ : ∃ wd, wb.drew = wd := ⟨_, rfl⟩
    rw [hwd] at hS0 ⊢
    clear hwd
    refine wpAnyH_takeI (i := 1) (v := ?v1) rfl (by kernel_rfl) (by kernel_rfl) (by kernel_rfl) (fun _ _ _ h => h) (yieldsIf_run rfl (fun w' hw' => ?y1)) hS0 ?_
    case y1 => first | (go_simp; rfl) | (go_simp; done) | rfl
    simp only [Act.put, List.setIfInBounds_toArray, List.set_cons_zero, List.set_cons_succ]
    refine wpAnyH_takeI (i := 3) (v := .agg R.cells.toArray) rfl (by kernel_rfl) (by kernel_rfl) (by kernel_rfl) (fun _ _ _ h => h) (yieldsIf_load_mid rfl 36 (.tmp 7) rfl w.heap.size 0 rfl R.cells _ (fun w' hw' => range_block (HBX.out w' (HBB.out.trans (hw'.mono HBB.out.size)))) Try.underlying36 rfl (sizeRow R)) hS0 ?_
    simp only [Act.put, List.setIfInBounds_toArray, List.set_cons_zero, List.set_cons_succ]
    have hS := hS0
    clear hS0
    refine wpAnyH_two (i := 0) (j := 4) (by kernel_rfl) rfl rfl rfl rfl (fun K hK => ?_) (fun K hK => ?_)
    · go_simp
      obtain ⟨wdn, hwn⟩ : ∃ wdn, wd.alloc (.cells #[] 36) = wdn := ⟨_, rfl⟩
      have hb : Below wd.heap.size wd wdn := hwn ▸ (Below.refl _ _).alloc (Nat.le_refl _) _
      have hE : OwnL rowE wdn wb.heap.size (Value.slice (some ⟨wd.heap.size, 0, none⟩) 0 0) [] := hwn ▸ ownL_zero rowE hS.size
      rw [hwn]
      clear hwn
      replace hS := hS.trans (hb.mono hS.size)
      clear hb
      refine hK _ _ hS ?_
      clear hK K
      try simp only [Act.put, List.setIfInBounds_toArray, List.set_cons_zero, List.set_cons_succ]
      refine wpAnyH_two (i := 2) (j := 4) (by kernel_rfl) rfl rfl rfl rfl (fun K hK => ?_) (fun K hK => ?_)
      · refine wp_appL rowE (.tmp 33) (.tmp 34) rfl rfl hE rfl ((HV.out.l.below HBW.out).below hS) (n := 0) (m := N) rfl HN.out (by omega) hS.size ?_
        intro aA cA wdnn ho9 hgr hat
        have hb := hE.grown_below hgr hS.size
        rw [Nat.zero_add] at ho9 hat ⊢
        rw [List.nil_append] at ho9
        clear hE hgr hat
        have hE := ho9
        clear ho9
        replace hS := hS.trans hb
        clear hb
        refine hK _ _ hS ?_
        clear hK K
        try simp only [Act.put, List.setIfInBounds_toArray, List.set_cons_zero, List.set_cons_succ]
        refine wpAnyH_do (i := 4) (by kernel_rfl) rfl rfl (fun K hK => ?_)
        refine wp_lit1 22 36 (.tmp 36) rfl (R.cells).toArray rfl Try.underlying22 (sizeRowA R) zOk (by rw [(show R.cells.toArray.size = 83 by rw [List.size_toArray, R.cells_length])]; decide) (by rw [(show R.cells.toArray.size = 83 by rw [List.size_toArray, R.cells_length])]; decide) ?_
        obtain ⟨wdnnn, hwn⟩ : ∃ wdnnn, wdnn.alloc (.cells (R.cells).toArray 36) = wdnnn := ⟨_, rfl⟩
        have hb : Below wdnn.heap.size wdnn wdnnn := hwn ▸ (Below.refl _ _).alloc (Nat.le_refl _) _
        have hL : wdnnn.heap[wdnn.heap.size]? = some (.cells (R.cells).toArray 36 (0, 0)) := by rw [← hwn]; exact heap_alloc_new _ _
        rw [hwn]
        have hD0 : ∀ x, (Value.slice aA N cA).ownBlock = some x → wdnn.heap.size ≠ x := fun x hx e => by have h1 := (hE.lt hx).2; omega
        replace hE := hE.below hb
        obtain ⟨b10, hb10⟩ : ∃ b10, wdnn.heap.size = b10 := ⟨_, rfl⟩
        rw [hb10] at hL ⊢
        have hD : ∀ x, (Value.slice aA N cA).ownBlock = some x → b10 ≠ x := fun x hx => hb10 ▸ hD0 x hx
        clear hD0
        replace hS := hS.trans (hb.mono hS.size)
        clear hb hwn hb10
        refine hK _ _ hS ?_
        clear hK K
        try simp only [Act.put, List.setIfInBounds_toArray, List.set_cons_zero, List.set_cons_succ]
        refine wpAnyH_do (i := 5) (by kernel_rfl) rfl rfl (fun K hK => ?_)
        refine wp_appL rowE (.tmp 35) (.tmp 37) rfl rfl hE rfl (list_block1 rowE hL) (n := N) (m := 1) HN.out rfl (by omega) hS.size ?_
        intro aB cB wdnnnn ho9 hgr hat
        have hb := hE.grown_below hgr hS.size
        clear hE hgr hat
        have hE := ho9
        clear ho9
        replace hS := hS.trans hb
        clear hb
        clear hL hD
        refine hK _ _ hS ?_
        clear hK K
        try simp only [Act.put, List.setIfInBounds_toArray, List.set_cons_zero, List.set_cons_succ]
        refine wpAnyH_takeI (i := 6) (v := ?v2) rfl (by kernel_rfl) (by kernel_rfl) (by kernel_rfl) (fun _ _ _ h => h) (yieldsIf_run rfl (fun w' hw' => ?y2)) hS ?_
        case y2 => first | (go_simp; rfl) | (go_simp; done) | rfl
        simp only [Act.put, List.setIfInBounds_toArray, List.set_cons_zero, List.set_cons_succ]
        refine wpAnyH_done (by kernel_rfl) ?_ _
        refine NoPanic.normal ?_
        exact ⟨rfl, _, _, _, _, _, aB, cB, (by first | rfl | (simp only [Act.put, List.setIfInBounds_toArray, List.set_cons_zero, List.set_cons_succ]; rfl)), hE, hS⟩
      · refine wp_lit1 22 36 (.tmp 36) rfl (R.cells).toArray rfl Try.underlying22 (sizeRowA R) zOk (by rw [(show R.cells.toArray.size = 83 by rw [List.size_toArray, R.cells_length])]; decide) (by rw [(show R.cells.toArray.size = 83 by rw [List.size_toArray, R.cells_length])]; decide) ?_
        obtain ⟨wdnn, hwn⟩ : ∃ wdnn, wdn.alloc (.cells (R.cells).toArray 36) = wdnn := ⟨_, rfl⟩
        have hb : Below wdn.heap.size wdn wdnn := hwn ▸ (Below.refl _ _).alloc (Nat.le_refl _) _
        have hL : wdnn.heap[wdn.heap.size]? = some (.cells (R.cells).toArray 36 (0, 0)) := by rw [← hwn]; exact heap_alloc_new _ _
        rw [hwn]
        have hD0 : ∀ x, (Value.slice (some ⟨wd.heap.size, 0, none⟩) 0 0).ownBlock = some x → wdn.heap.size ≠ x := fun x hx e => by have h1 := (hE.lt hx).2; omega
        replace hE := hE.below hb
        obtain ⟨b10, hb10⟩ : ∃ b10, wdn.heap.size = b10 := ⟨_, rfl⟩
        rw [hb10] at hL ⊢
        have hD : ∀ x, (Value.slice (some ⟨wd.heap.size, 0, none⟩) 0 0).ownBlock = some x → b10 ≠ x := fun x hx => hb10 ▸ hD0 x hx
        clear hD0
        replace hS := hS.trans (hb.mono hS.size)
        clear hb hwn hb10
        refine hK _ _ hS ?_
        clear hK K
        try simp only [Act.put, List.setIfInBounds_toArray, List.set_cons_zero, List.set_cons_succ]
        refine wpAnyH_do (i := 2) (by kernel_rfl) rfl rfl (fun K hK => ?_)
        refine wp_appL rowE (.tmp 33) (.tmp 34) rfl rfl hE rfl ((HV.out.l.below HBW.out).below hS) (n := 0) (m := N) rfl HN.out (by omega) hS.size ?_
        intro aA cA wdnnn ho9 hgr hat
        have hb := hE.grown_below hgr hS.size
        rw [Nat.zero_add] at ho9 hat ⊢
        rw [List.nil_append] at ho9
        have hlb := (Array.getElem?_eq_some_iff.1 hL).1
        replace hL := (hgr.block b10 hlb (fun e => hD _ e.symm rfl)).trans hL
        replace hD : ∀ x, (Value.slice aA N cA).ownBlock = some x → b10 ≠ x := fun x hx e => (hat x hx).elim (fun h => hD x h e) (fun h => by omega)
        clear hlb
        clear hE hgr hat
        have hE := ho9
        clear ho9
        replace hS := hS.trans hb
        clear hb
        refine hK _ _ hS ?_
        clear hK K
        try simp only [Act.put, List.setIfInBounds_toArray, List.set_cons_zero, List.set_cons_succ]
        refine wpAnyH_do (i := 5) (by kernel_rfl) rfl rfl (fun K hK => ?_)
        refine wp_appL rowE (.tmp 35) (.tmp 37) rfl rfl hE rfl (list_block1 rowE hL) (n := N) (m := 1) HN.out rfl (by omega) hS.size ?_
        intro aB cB wdnnnn ho9 hgr hat
        have hb := hE.grown_below hgr hS.size
        clear hE hgr hat
        have hE := ho9
        clear ho9
        replace hS := hS.trans hb
        clear hb
        clear hL hD
        refine hK _ _ hS ?_
        clear hK K
        try simp only [Act.put, List.setIfInBounds_toArray, List.set_cons_zero, List.set_cons_succ]
        refine wpAnyH_takeI (i := 6) (v := ?v3) rfl (by kernel_rfl) (by kernel_rfl) (by kernel_rfl) (fun _ _ _ h => h) (yieldsIf_run rfl (fun w' hw' => ?y3)) hS ?_
        case y3 => first | (go_simp; rfl) | (go_simp; done) | rfl
        simp only [Act.put, List.setIfInBounds_toArray, List.set_cons_zero, List.set_cons_succ]
        refine wpAnyH_done (by kernel_rfl) ?_ _
        refine NoPanic.normal ?_
        exact ⟨rfl, _, _, _, _, _, aB, cB, (by first | rfl | (simp only [Act.put, List.setIfInBounds_toArray, List.set_cons_zero, List.set_cons_succ]; rfl)), hE, hS⟩
    · refine wp_lit1 22 36 (.tmp 36) rfl (R.cells).toArray rfl Try.underlying22 (sizeRowA R) zOk (by rw [(show R.cells.toArray.size = 83 by rw [List.size_toArray, R.cells_length])]; decide) (by rw [(show R.cells.toArray.size = 83 by rw [List.size_toArray, R.cells_length])]; decide) ?_
      obtain ⟨wdn, hwn⟩ : ∃ wdn, wd.alloc (.cells (R.cells).toArray 36) = wdn := ⟨_, rfl⟩
      have hb : Below wd.heap.size wd wdn := hwn ▸ (Below.refl _ _).alloc (Nat.le_refl _) _
      have hL : wdn.heap[wd.heap.size]? = some (.cells (R.cells).toArray 36 (0, 0)) := by rw [← hwn]; exact heap_alloc_new _ _
      rw [hwn]
      obtain ⟨b10, hb10⟩ : ∃ b10, wd.heap.size = b10 := ⟨_, rfl⟩
      rw [hb10] at hL ⊢
      replace hS := hS.trans (hb.mono hS.size)
      clear hb hwn hb10
      refine hK _ _ hS ?_
      clear hK K
      try simp only [Act.put, List.setIfInBounds_toArray, List.set_cons_zero, List.set_cons_succ]
      refine wpAnyH_do (i := 0) (by kernel_rfl) rfl rfl (fun K hK => ?_)
      go_simp
      obtain ⟨wdnn, hwn⟩ : ∃ wdnn, wdn.alloc (.cells #[] 36) = wdnn := ⟨_, rfl⟩
      have hb : Below wdn.heap.size wdn wdnn := hwn ▸ (Below.refl _ _).alloc (Nat.le_refl _) _
      have hE : OwnL rowE wdnn wb.heap.size (Value.slice (some ⟨wdn.heap.size, 0, none⟩) 0 0) [] := hwn ▸ ownL_zero rowE hS.size
      rw [hwn]
      clear hwn
      have hD : ∀ x, (Value.slice (some ⟨wdn.heap.size, 0, none⟩) 0 0).ownBlock = some x → b10 ≠ x := fun x hx e => by have h1 := (Array.getElem?_eq_some_iff.1 hL).1; have e2 : wdn.heap.size = x := Option.some.inj hx; omega
      replace hL := (hb.block _ (Array.getElem?_eq_some_iff.1 hL).1).trans hL
      replace hS := hS.trans (hb.mono hS.size)
      clear hb
      refine hK _ _ hS ?_
      clear hK K
      try simp only [Act.put, List.setIfInBounds_toArray, List.set_cons_zero, List.set_cons_succ]
      refine wpAnyH_do (i := 2) (by kernel_rfl) rfl rfl (fun K hK => ?_)
      refine wp_appL rowE (.tmp 33) (.tmp 34) rfl rfl hE rfl ((HV.out.l.below HBW.out).below hS) (n := 0) (m := N) rfl HN.out (by omega) hS.size ?_
      intro aA cA wdnnn ho9 hgr hat
      have hb := hE.grown_below hgr hS.size
      rw [Nat.zero_add] at ho9 hat ⊢
      rw [List.nil_append] at ho9
      have hlb := (Array.getElem?_eq_some_iff.1 hL).1
      replace hL := (hgr.block b10 hlb (fun e => hD _ e.symm rfl)).trans hL
      replace hD : ∀ x, (Value.slice aA N cA).ownBlock = some x → b10 ≠ x := fun x hx e => (hat x hx).elim (fun h => hD x h e) (fun h => by omega)
      clear hlb
      clear hE hgr hat
      have hE := ho9
      clear ho9
      replace hS := hS.trans hb
      clear hb
      refine hK _ _ hS ?_
      clear hK K
      try simp only [Act.put, List.setIfInBounds_toArray, List.set_cons_zero, List.set_cons_succ]
      refine wpAnyH_do (i := 5) (by kernel_rfl) rfl rfl (fun K hK => ?_)
      refine wp_appL rowE (.tmp 35) (.tmp 37) rfl rfl hE rfl (list_block1 rowE hL) (n := N) (m := 1) HN.out rfl (by omega) hS.size ?_
      intro aB cB wdnnnn ho9 hgr hat
      have hb := hE.grown_below hgr hS.size
      clear hE hgr hat
      have hE := ho9
      clear ho9
      replace hS := hS.trans hb
      clear hb
      clear hL hD
      refine hK _ _ hS ?_
      clear hK K
      try simp only [Act.put, List.setIfInBounds_toArray, List.set_cons_zero, List.set_cons_succ]
      refine wpAnyH_takeI (i := 6) (v := ?v4) rfl (by kernel_rfl) (by kernel_rfl) (by kernel_rfl) (fun _ _ _ h => h) (yieldsIf_run rfl (fun w' hw' => ?y4)) hS ?_
      case y4 => first | (go_simp; rfl) | (go_simp; done) | rfl
      simp only [Act.put, List.setIfInBounds_toArray, List.set_cons_zero, List.set_cons_succ]
      refine wpAnyH_done (by kernel_rfl) ?_ _
      refine NoPanic.normal ?_
      exact ⟨rfl, _, _, _, _, _, aB, cB, (by first | rfl | (simp only [Act.put, List.setIfInBounds_toArray, List.set_cons_zero, List.set_cons_succ]; rfl)), hE, hS⟩

  rintro a' w3 ⟨v33, v34, v35, v36, v37, al, cl, rfl, hol, hb3⟩
  simp only [Act.put, List.setIfInBounds_toArray, List.set_cons_zero, List.set_cons_succ]
  have HB3 := Lib.hid (HBB.out.trans (hb3.mono HBB.out.size))
  have HALL := Lib.hid (show RowsAt w3 (.slice al (N + 1) cl) (L ++ [R]) from ⟨by have h := hol.at_; exact h, fun r hr => by
    rcases List.mem_append.1 hr with h | h
    · exact (HV.out.r r h).below HB3.out
    · obtain rfl := List.mem_singleton.1 h
      exact (HXR.out.below HB01.out).below HB3.out⟩)
  have HALV := Lib.hid (show ∀ w', Below w3.heap.size w3 w' → RowsAt w' (.slice al (N + 1) cl) (L ++ [R]) from fun _ h => HALL.out.below h)
  have HAL := Lib.hid (show (L ++ [R]).length < 1000000000 by rw [List.length_append, List.length_singleton]; have := HLN.out; have := HF2.out; omega)
  clear hol hb3 hcx
  go_wp2_with fail
  refine (check_any _ (L ++ [R]) HALL.out HAL.out).mono ?_
  rintro e wc ⟨rfl, hbc⟩
  have HBC := Lib.hid (HB3.out.trans (hbc.mono HB3.out.size))
  have HB3C := Lib.hid hbc
  clear hbc
  obtain ⟨ck, hck⟩ : ∃ ck, chkL (L ++ [R]) = ck := ⟨_, rfl⟩
  rw [hck]
  have HCHK := Lib.hid hck
  clear hck
  rcases Decidable.em (¬ ck = 0) with hc0 | hc0
  · have hcb : (ck == 0) = false := by simpa using hc0
    have hcb2 : (ck != 0) = true := by simp [bne, hcb]
    go_wp2_with fail
    exact bodyPost_ret (v := .bool true) (by simp [results, Try.results5, go_sem]) rfl ⟨rfl, (HB01.out.trans ((HBC.out).mono HB01.out.size))⟩
  obtain rfl : ck = 0 := Decidable.of_not_not hc0
  have HCL := Lib.hid (show chkL L = 0 from chk_prefix HCHK.out)
  have HND := Lib.hid ((chk_zero HCL.out).2.2.2)
  obtain ⟨I, hI⟩ : ∃ I, sortB (((L ++ [R]).filter fun r => shB (L ++ [R]) G now r).map (·.id)) = I := ⟨_, rfl⟩
  obtain ⟨A, hA⟩ : ∃ A, sortB ((L.filter fun r => shB L (G ++ [R.id]) now r).map (·.id)) = A := ⟨_, rfl⟩
  obtain ⟨X, hX⟩ : ∃ X, sortB ((L.filter fun r => shB L G now r).map (·.id)) = X := ⟨_, rfl⟩
  obtain ⟨hxI, hlen, hAI, hXI⟩ := hole_facts HND.out HR0.out I A X hI hA hX
  obtain ⟨NX, hNX⟩ : ∃ NX, X.length = NX := ⟨_, rfl⟩
  obtain ⟨NA, hNA⟩ : ∃ NA, A.length = NA := ⟨_, rfl⟩
  rw [hNA] at hlen
  have HI := Lib.hid hI
  have HA := Lib.hid hA
  have HX := Lib.hid hX
  have HXI0 := Lib.hid hxI
  have HLEN := Lib.hid hlen
  have HAI := Lib.hid hAI
  have HXI := Lib.hid hXI
  have HNX := Lib.hid hNX
  have HNA := Lib.hid hNA
  have hNX30 : NX ≤ 30 := by have h := shown_len L (fun r => shB L G now r); rw [hX, hNX] at h; have := HF2.out; omega
  have hNA30 : NA ≤ 30 := by have h := shown_len L (fun r => shB L (G ++ [R.id]) now r); rw [hA, hNA] at h; have := HF2.out; omega
  have HIL := Lib.hid (show I.length < 1000000000 by omega)
  clear hc0 hI hA hX hxI hlen hAI hXI hNX hNA
  go_wp2_with fail
  refine (Shown_any _ _ L G now (HN.out.symm ▸ HV.out.below HBC.out) (HK.out.symm ▸ HU.out.below HBC.out) HLN.out HGN.out).mono ?_
  rintro e w6 ⟨x, rfl, hox, hb6⟩
  rw [HCL.out, if_pos rfl, HX.out] at hox
  rw [HCL.out]
  have hox := hox.at_
  obtain ⟨xa, xc, rfl⟩ := hox.form
  rw [HNX.out] at hox ⊢
  have HOX6 := Lib.hid hox
  have HB6 := Lib.hid (HBC.out.trans (hb6.mono HBC.out.size))
  have HB36 := Lib.hid (HB3C.out.trans (hb6.mono HB3C.out.size))
  clear hox hb6
  go_wp2_with fail
  refine (Shown_any _ _ (L ++ [R]) G now (HALV.out _ HB36.out) (HK.out.symm ▸ HU.out.below HB6.out) HAL.out HGN.out).mono ?_
  rintro e w7 ⟨y, rfl, hoy, hb7⟩
  rw [HCHK.out, if_pos rfl, HI.out] at hoy
  rw [HCHK.out]
  have hoy := hoy.at_
  obtain ⟨ya, yc, rfl⟩ := hoy.form
  rw [HLEN.out] at hoy ⊢
  have HOI7 := Lib.hid hoy
  have HOX7 := Lib.hid (HOX6.out.below hb7)
  have HB7 := Lib.hid (HB6.out.trans (hb7.mono HB6.out.size))
  have HBW7 := Lib.hid HB7.out
  clear hoy hb7
  go_wp2_with fail
  refine cut_region (fun a a' w' => ∃ v57 v58 v59 v60 v61 v62 v63 v64 v65 av, a' = (((((((((((((((a.put (some 57) v57).put (some 58) v58).put (some 59) v59).put (some 60) v60).put (some 61) v61).put (some 62) v62).put (some 63) v63).put (some 64) v64).put (some 65) v65).put (some 66) (.tuple #[av, .int .i64 0])).put (some 56) (.tuple #[av, .int .i64 0])).put (some 67) av).put (some 68) (.int .i64 0)).put (some 14) av).put (some 15) (.int .i64 0)) ∧ OwnL idE w' w7.heap.size av A ∧ Below w7.heap.size w7 w') ?_ ?_
  ·
    refine wp_region_noPanic ?_
    refine wp_region_H (Below w7.heap.size w7) (by kernel_rfl) ?_
    have hS0 : (Below w7.heap.size w7) w7.drew := (Below.refl _ _).drew
    obtain ⟨wd, hwd⟩ : ∃ wd, w7.drew = wd := ⟨_, rfl⟩
    rw [hwd] at hS0 ⊢
    clear hwd
    refine wpAnyH_takeI (i := 0) (v := ?v5) rfl (by kernel_rfl) (by kernel_rfl) (by kernel_rfl) (fun _ _ _ h => h) (yieldsIf_run rfl (fun w' hw' => ?y5)) hS0 ?_
    case y5 => first | (go_simp; rfl) | (go_simp; done) | rfl
    simp only [Act.put, List.setIfInBounds_toArray, List.set_cons_zero, List.set_cons_succ]
    refine wpAnyH_takeI (i := 2) (v := ?v6) rfl (by kernel_rfl) (by kernel_rfl) (by kernel_rfl) (fun _ _ _ h => h) (yieldsIf_run rfl (fun w' hw' => ?y6)) hS0 ?_
    case y6 => first | (go_simp; rfl) | (go_simp; done) | rfl
    simp only [Act.put, List.setIfInBounds_toArray, List.set_cons_zero, List.set_cons_succ]
    refine wpAnyH_takeI (i := 4) (v := ?v7) rfl (by kernel_rfl) (by kernel_rfl) (by kernel_rfl) (fun _ _ _ h => h) (yieldsIf_run rfl (fun w' hw' => ?y7)) hS0 ?_
    case y7 => first | (go_simp; rfl) | (go_simp; done) | rfl
    simp only [Act.put, List.setIfInBounds_toArray, List.set_cons_zero, List.set_cons_succ]
    refine wpAnyH_takeI (i := 5) (v := .agg (bvs R.id.1).toArray) rfl (by kernel_rfl) (by kernel_rfl) (by kernel_rfl) (fun _ _ _ h => h) (yieldsIf_load_mid rfl 31 (.tmp 61) rfl w.heap.size 0 rfl (bvs R.id.1) _ (fun w' hw' => row_id (range_block (HBX.out w' (HB7.out.trans (hw'.mono HB7.out.size))))) Try.underlying31 rfl (sizeId R.id)) hS0 ?_
    simp only [Act.put, List.setIfInBounds_toArray, List.set_cons_zero, List.set_cons_succ]
    refine wpAnyH_takeI (i := 8) (v := ?v8) rfl (by kernel_rfl) (by kernel_rfl) (by kernel_rfl) (fun _ _ _ h => h) (yieldsIf_run rfl (fun w' hw' => ?y8)) hS0 ?_
    case y8 => first | (go_simp; rfl) | (go_simp; done) | rfl
    simp only [Act.put, List.setIfInBounds_toArray, List.set_cons_zero, List.set_cons_succ]
    have hS := hS0
    clear hS0
    refine wpAnyH_two (i := 1) (j := 6) (by kernel_rfl) rfl rfl rfl rfl (fun K hK => ?_) (fun K hK => ?_)
    · go_simp
      obtain ⟨wdn, hwn⟩ : ∃ wdn, wd.alloc (.cells #[] 31) = wdn := ⟨_, rfl⟩
      have hb : Below wd.heap.size wd wdn := hwn ▸ (Below.refl _ _).alloc (Nat.le_refl _) _
      have hE : OwnL idE wdn w7.heap.size (Value.slice (some ⟨wd.heap.size, 0, none⟩) 0 0) [] := hwn ▸ ownL_zero idE hS.size
      rw [hwn]
      clear hwn
      replace hS := hS.trans (hb.mono hS.size)
      clear hb
      refine hK _ _ hS ?_
      clear hK K
      try simp only [Act.put, List.setIfInBounds_toArray, List.set_cons_zero, List.set_cons_succ]
      refine wpAnyH_two (i := 3) (j := 6) (by kernel_rfl) rfl rfl rfl rfl (fun K hK => ?_) (fun K hK => ?_)
      · refine wp_appL idE (.tmp 58) (.tmp 59) rfl rfl hE rfl ((HU.out.below HBW7.out).below hS) (n := 0) (m := KG) rfl HK.out (by omega) hS.size ?_
        intro aA cA wdnn ho9 hgr hat
        have hb := hE.grown_below hgr hS.size
        rw [Nat.zero_add] at ho9 hat ⊢
        rw [List.nil_append] at ho9
        clear hE hgr hat
        have hE := ho9
        clear ho9
        replace hS := hS.trans hb
        clear hb
        refine hK _ _ hS ?_
        clear hK K
        try simp only [Act.put, List.setIfInBounds_toArray, List.set_cons_zero, List.set_cons_succ]
        refine wpAnyH_do (i := 6) (by kernel_rfl) rfl rfl (fun K hK => ?_)
        refine wp_lit1 23 31 (.tmp 62) rfl (bvs R.id.1).toArray rfl Try.underlying23 (sizeIdA R.id) zOkId (by rw [(show (bvs R.id.1).toArray.size = 32 by rw [List.size_toArray, bvs_length, R.id.2])]; decide) (by rw [(show (bvs R.id.1).toArray.size = 32 by rw [List.size_toArray, bvs_length, R.id.2])]; decide) ?_
        obtain ⟨wdnnn, hwn⟩ : ∃ wdnnn, wdnn.alloc (.cells (bvs R.id.1).toArray 31) = wdnnn := ⟨_, rfl⟩
        have hb : Below wdnn.heap.size wdnn wdnnn := hwn ▸ (Below.refl _ _).alloc (Nat.le_refl _) _
        have hL : wdnnn.heap[wdnn.heap.size]? = some (.cells (bvs R.id.1).toArray 31 (0, 0)) := by rw [← hwn]; exact heap_alloc_new _ _
        rw [hwn]
        have hD0 : ∀ x, (Value.slice aA KG cA).ownBlock = some x → wdnn.heap.size ≠ x := fun x hx e => by have h1 := (hE.lt hx).2; omega
        replace hE := hE.below hb
        obtain ⟨b10, hb10⟩ : ∃ b10, wdnn.heap.size = b10 := ⟨_, rfl⟩
        rw [hb10] at hL ⊢
        have hD : ∀ x, (Value.slice aA KG cA).ownBlock = some x → b10 ≠ x := fun x hx => hb10 ▸ hD0 x hx
        clear hD0
        replace hS := hS.trans (hb.mono hS.size)
        clear hb hwn hb10
        refine hK _ _ hS ?_
        clear hK K
        try simp only [Act.put, List.setIfInBounds_toArray, List.set_cons_zero, List.set_cons_succ]
        refine wpAnyH_do (i := 7) (by kernel_rfl) rfl rfl (fun K hK => ?_)
        refine wp_appL idE (.tmp 60) (.tmp 63) rfl rfl hE rfl (list_block1 idE hL) (n := KG) (m := 1) HK.out rfl (by omega) hS.size ?_
        intro aB cB wdnnnn ho9 hgr hat
        have hb := hE.grown_below hgr hS.size
        clear hE hgr hat
        have hE := ho9
        clear ho9
        replace hS := hS.trans hb
        clear hb
        clear hL hD
        refine hK _ _ hS ?_
        clear hK K
        try simp only [Act.put, List.setIfInBounds_toArray, List.set_cons_zero, List.set_cons_succ]
        refine wpAnyH_do (i := 9) (by kernel_rfl) rfl rfl (fun K hK => ?_)
        go_simp
        go_at_call 14
        refine (Shown_any _ _ L (G ++ [R.id]) now ((HV.out.below HBW7.out).below hS) hE.at_ HLN.out (by rw [List.length_append, List.length_singleton]; have := HGN.out; have := HF3.out; omega)).mono ?_
        rintro e wq ⟨av, rfl, hoa, hbq⟩
        rw [HCL.out, if_pos rfl, HA.out] at hoa
        rw [HCL.out]
        have hoa := hoa.base hS.size
        have hSq := hS.trans (hbq.mono hS.size)
        clear hE
        refine hK _ _ hSq ?_
        clear hK K
        try simp only [Act.put, List.setIfInBounds_toArray, List.set_cons_zero, List.set_cons_succ]
        refine wpAnyH_takeI (i := 10) (v := ?v9) rfl (by kernel_rfl) (by kernel_rfl) (by kernel_rfl) (fun _ _ _ h => h) (yieldsIf_run rfl (fun w' hw' => ?y9)) hSq ?_
        case y9 => first | (go_simp; rfl) | (go_simp; done) | rfl
        simp only [Act.put, List.setIfInBounds_toArray, List.set_cons_zero, List.set_cons_succ]
        refine wpAnyH_takeI (i := 11) (v := ?v10) rfl (by kernel_rfl) (by kernel_rfl) (by kernel_rfl) (fun _ _ _ h => h) (yieldsIf_run rfl (fun w' hw' => ?y10)) hSq ?_
        case y10 => first | (go_simp; rfl) | (go_simp; done) | rfl
        simp only [Act.put, List.setIfInBounds_toArray, List.set_cons_zero, List.set_cons_succ]
        refine wpAnyH_takeI (i := 12) (v := ?v11) rfl (by kernel_rfl) (by kernel_rfl) (by kernel_rfl) (fun _ _ _ h => h) (yieldsIf_run rfl (fun w' hw' => ?y11)) hSq ?_
        case y11 => first | (go_simp; rfl) | (go_simp; done) | rfl
        simp only [Act.put, List.setIfInBounds_toArray, List.set_cons_zero, List.set_cons_succ]
        refine wpAnyH_takeI (i := 13) (v := ?v12) rfl (by kernel_rfl) (by kernel_rfl) (by kernel_rfl) (fun _ _ _ h => h) (yieldsIf_run rfl (fun w' hw' => ?y12)) hSq ?_
        case y12 => first | (go_simp; rfl) | (go_simp; done) | rfl
        simp only [Act.put, List.setIfInBounds_toArray, List.set_cons_zero, List.set_cons_succ]
        refine wpAnyH_takeI (i := 14) (v := ?v13) rfl (by kernel_rfl) (by kernel_rfl) (by kernel_rfl) (fun _ _ _ h => h) (yieldsIf_run rfl (fun w' hw' => ?y13)) hSq ?_
        case y13 => first | (go_simp; rfl) | (go_simp; done) | rfl
        simp only [Act.put, List.setIfInBounds_toArray, List.set_cons_zero, List.set_cons_succ]
        refine wpAnyH_done (by kernel_rfl) ?_ _
        refine NoPanic.normal ?_
        exact ⟨rfl, _, _, _, _, _, _, _, _, _, av, (by first | rfl | (simp only [Act.put, List.setIfInBounds_toArray, List.set_cons_zero, List.set_cons_succ]; rfl)), hoa, hSq⟩
      · refine wp_lit1 23 31 (.tmp 62) rfl (bvs R.id.1).toArray rfl Try.underlying23 (sizeIdA R.id) zOkId (by rw [(show (bvs R.id.1).toArray.size = 32 by rw [List.size_toArray, bvs_length, R.id.2])]; decide) (by rw [(show (bvs R.id.1).toArray.size = 32 by rw [List.size_toArray, bvs_length, R.id.2])]; decide) ?_
        obtain ⟨wdnn, hwn⟩ : ∃ wdnn, wdn.alloc (.cells (bvs R.id.1).toArray 31) = wdnn := ⟨_, rfl⟩
        have hb : Below wdn.heap.size wdn wdnn := hwn ▸ (Below.refl _ _).alloc (Nat.le_refl _) _
        have hL : wdnn.heap[wdn.heap.size]? = some (.cells (bvs R.id.1).toArray 31 (0, 0)) := by rw [← hwn]; exact heap_alloc_new _ _
        rw [hwn]
        have hD0 : ∀ x, (Value.slice (some ⟨wd.heap.size, 0, none⟩) 0 0).ownBlock = some x → wdn.heap.size ≠ x := fun x hx e => by have h1 := (hE.lt hx).2; omega
        replace hE := hE.below hb
        obtain ⟨b10, hb10⟩ : ∃ b10, wdn.heap.size = b10 := ⟨_, rfl⟩
        rw [hb10] at hL ⊢
        have hD : ∀ x, (Value.slice (some ⟨wd.heap.size, 0, none⟩) 0 0).ownBlock = some x → b10 ≠ x := fun x hx => hb10 ▸ hD0 x hx
        clear hD0
        replace hS := hS.trans (hb.mono hS.size)
        clear hb hwn hb10
        refine hK _ _ hS ?_
        clear hK K
        try simp only [Act.put, List.setIfInBounds_toArray, List.set_cons_zero, List.set_cons_succ]
        refine wpAnyH_do (i := 3) (by kernel_rfl) rfl rfl (fun K hK => ?_)
        refine wp_appL idE (.tmp 58) (.tmp 59) rfl rfl hE rfl ((HU.out.below HBW7.out).below hS) (n := 0) (m := KG) rfl HK.out (by omega) hS.size ?_
        intro aA cA wdnnn ho9 hgr hat
        have hb := hE.grown_below hgr hS.size
        rw [Nat.zero_add] at ho9 hat ⊢
        rw [List.nil_append] at ho9
        have hlb := (Array.getElem?_eq_some_iff.1 hL).1
        replace hL := (hgr.block b10 hlb (fun e => hD _ e.symm rfl)).trans hL
        replace hD : ∀ x, (Value.slice aA KG cA).ownBlock = some x → b10 ≠ x := fun x hx e => (hat x hx).elim (fun h => hD x h e) (fun h => by omega)
        clear hlb
        clear hE hgr hat
        have hE := ho9
        clear ho9
        replace hS := hS.trans hb
        clear hb
        refine hK _ _ hS ?_
        clear hK K
        try simp only [Act.put, List.setIfInBounds_toArray, List.set_cons_zero, List.set_cons_succ]
        refine wpAnyH_do (i := 7) (by kernel_rfl) rfl rfl (fun K hK => ?_)
        refine wp_appL idE (.tmp 60) (.tmp 63) rfl rfl hE rfl (list_block1 idE hL) (n := KG) (m := 1) HK.out rfl (by omega) hS.size ?_
        intro aB cB wdnnnn ho9 hgr hat
        have hb := hE.grown_below hgr hS.size
        clear hE hgr hat
        have hE := ho9
        clear ho9
        replace hS := hS.trans hb
        clear hb
        clear hL hD
        refine hK _ _ hS ?_
        clear hK K
        try simp only [Act.put, List.setIfInBounds_toArray, List.set_cons_zero, List.set_cons_succ]
        refine wpAnyH_do (i := 9) (by kernel_rfl) rfl rfl (fun K hK => ?_)
        go_simp
        go_at_call 14
        refine (Shown_any _ _ L (G ++ [R.id]) now ((HV.out.below HBW7.out).below hS) hE.at_ HLN.out (by rw [List.length_append, List.length_singleton]; have := HGN.out; have := HF3.out; omega)).mono ?_
        rintro e wq ⟨av, rfl, hoa, hbq⟩
        rw [HCL.out, if_pos rfl, HA.out] at hoa
        rw [HCL.out]
        have hoa := hoa.base hS.size
        have hSq := hS.trans (hbq.mono hS.size)
        clear hE
        refine hK _ _ hSq ?_
        clear hK K
        try simp only [Act.put, List.setIfInBounds_toArray, List.set_cons_zero, List.set_cons_succ]
        refine wpAnyH_takeI (i := 10) (v := ?v14) rfl (by kernel_rfl) (by kernel_rfl) (by kernel_rfl) (fun _ _ _ h => h) (yieldsIf_run rfl (fun w' hw' => ?y14)) hSq ?_
        case y14 => first | (go_simp; rfl) | (go_simp; done) | rfl
        simp only [Act.put, List.setIfInBounds_toArray, List.set_cons_zero, List.set_cons_succ]
        refine wpAnyH_takeI (i := 11) (v := ?v15) rfl (by kernel_rfl) (by kernel_rfl) (by kernel_rfl) (fun _ _ _ h => h) (yieldsIf_run rfl (fun w' hw' => ?y15)) hSq ?_
        case y15 => first | (go_simp; rfl) | (go_simp; done) | rfl
        simp only [Act.put, List.setIfInBounds_toArray, List.set_cons_zero, List.set_cons_succ]
        refine wpAnyH_takeI (i := 12) (v := ?v16) rfl (by kernel_rfl) (by kernel_rfl) (by kernel_rfl) (fun _ _ _ h => h) (yieldsIf_run rfl (fun w' hw' => ?y16)) hSq ?_
        case y16 => first | (go_simp; rfl) | (go_simp; done) | rfl
        simp only [Act.put, List.setIfInBounds_toArray, List.set_cons_zero, List.set_cons_succ]
        refine wpAnyH_takeI (i := 13) (v := ?v17) rfl (by kernel_rfl) (by kernel_rfl) (by kernel_rfl) (fun _ _ _ h => h) (yieldsIf_run rfl (fun w' hw' => ?y17)) hSq ?_
        case y17 => first | (go_simp; rfl) | (go_simp; done) | rfl
        simp only [Act.put, List.setIfInBounds_toArray, List.set_cons_zero, List.set_cons_succ]
        refine wpAnyH_takeI (i := 14) (v := ?v18) rfl (by kernel_rfl) (by kernel_rfl) (by kernel_rfl) (fun _ _ _ h => h) (yieldsIf_run rfl (fun w' hw' => ?y18)) hSq ?_
        case y18 => first | (go_simp; rfl) | (go_simp; done) | rfl
        simp only [Act.put, List.setIfInBounds_toArray, List.set_cons_zero, List.set_cons_succ]
        refine wpAnyH_done (by kernel_rfl) ?_ _
        refine NoPanic.normal ?_
        exact ⟨rfl, _, _, _, _, _, _, _, _, _, av, (by first | rfl | (simp only [Act.put, List.setIfInBounds_toArray, List.set_cons_zero, List.set_cons_succ]; rfl)), hoa, hSq⟩
    · refine wp_lit1 23 31 (.tmp 62) rfl (bvs R.id.1).toArray rfl Try.underlying23 (sizeIdA R.id) zOkId (by rw [(show (bvs R.id.1).toArray.size = 32 by rw [List.size_toArray, bvs_length, R.id.2])]; decide) (by rw [(show (bvs R.id.1).toArray.size = 32 by rw [List.size_toArray, bvs_length, R.id.2])]; decide) ?_
      obtain ⟨wdn, hwn⟩ : ∃ wdn, wd.alloc (.cells (bvs R.id.1).toArray 31) = wdn := ⟨_, rfl⟩
      have hb : Below wd.heap.size wd wdn := hwn ▸ (Below.refl _ _).alloc (Nat.le_refl _) _
      have hL : wdn.heap[wd.heap.size]? = some (.cells (bvs R.id.1).toArray 31 (0, 0)) := by rw [← hwn]; exact heap_alloc_new _ _
      rw [hwn]
      obtain ⟨b10, hb10⟩ : ∃ b10, wd.heap.size = b10 := ⟨_, rfl⟩
      rw [hb10] at hL ⊢
      replace hS := hS.trans (hb.mono hS.size)
      clear hb hwn hb10
      refine hK _ _ hS ?_
      clear hK K
      try simp only [Act.put, List.setIfInBounds_toArray, List.set_cons_zero, List.set_cons_succ]
      refine wpAnyH_do (i := 1) (by kernel_rfl) rfl rfl (fun K hK => ?_)
      go_simp
      obtain ⟨wdnn, hwn⟩ : ∃ wdnn, wdn.alloc (.cells #[] 31) = wdnn := ⟨_, rfl⟩
      have hb : Below wdn.heap.size wdn wdnn := hwn ▸ (Below.refl _ _).alloc (Nat.le_refl _) _
      have hE : OwnL idE wdnn w7.heap.size (Value.slice (some ⟨wdn.heap.size, 0, none⟩) 0 0) [] := hwn ▸ ownL_zero idE hS.size
      rw [hwn]
      clear hwn
      have hD : ∀ x, (Value.slice (some ⟨wdn.heap.size, 0, none⟩) 0 0).ownBlock = some x → b10 ≠ x := fun x hx e => by have h1 := (Array.getElem?_eq_some_iff.1 hL).1; have e2 : wdn.heap.size = x := Option.some.inj hx; omega
      replace hL := (hb.block _ (Array.getElem?_eq_some_iff.1 hL).1).trans hL
      replace hS := hS.trans (hb.mono hS.size)
      clear hb
      refine hK _ _ hS ?_
      clear hK K
      try simp only [Act.put, List.setIfInBounds_toArray, List.set_cons_zero, List.set_cons_succ]
      refine wpAnyH_do (i := 3) (by kernel_rfl) rfl rfl (fun K hK => ?_)
      refine wp_appL idE (.tmp 58) (.tmp 59) rfl rfl hE rfl ((HU.out.below HBW7.out).below hS) (n := 0) (m := KG) rfl HK.out (by omega) hS.size ?_
      intro aA cA wdnnn ho9 hgr hat
      have hb := hE.grown_below hgr hS.size
      rw [Nat.zero_add] at ho9 hat ⊢
      rw [List.nil_append] at ho9
      have hlb := (Array.getElem?_eq_some_iff.1 hL).1
      replace hL := (hgr.block b10 hlb (fun e => hD _ e.symm rfl)).trans hL
      replace hD : ∀ x, (Value.slice aA KG cA).ownBlock = some x → b10 ≠ x := fun x hx e => (hat x hx).elim (fun h => hD x h e) (fun h => by omega)
      clear hlb
      clear hE hgr hat
      have hE := ho9
      clear ho9
      replace hS := hS.trans hb
      clear hb
      refine hK _ _ hS ?_
      clear hK K
      try simp only [Act.put, List.setIfInBounds_toArray, List.set_cons_zero, List.set_cons_succ]
      refine wpAnyH_do (i := 7) (by kernel_rfl) rfl rfl (fun K hK => ?_)
      refine wp_appL idE (.tmp 60) (.tmp 63) rfl rfl hE rfl (list_block1 idE hL) (n := KG) (m := 1) HK.out rfl (by omega) hS.size ?_
      intro aB cB wdnnnn ho9 hgr hat
      have hb := hE.grown_below hgr hS.size
      clear hE hgr hat
      have hE := ho9
      clear ho9
      replace hS := hS.trans hb
      clear hb
      clear hL hD
      refine hK _ _ hS ?_
      clear hK K
      try simp only [Act.put, List.setIfInBounds_toArray, List.set_cons_zero, List.set_cons_succ]
      refine wpAnyH_do (i := 9) (by kernel_rfl) rfl rfl (fun K hK => ?_)
      go_simp
      go_at_call 14
      refine (Shown_any _ _ L (G ++ [R.id]) now ((HV.out.below HBW7.out).below hS) hE.at_ HLN.out (by rw [List.length_append, List.length_singleton]; have := HGN.out; have := HF3.out; omega)).mono ?_
      rintro e wq ⟨av, rfl, hoa, hbq⟩
      rw [HCL.out, if_pos rfl, HA.out] at hoa
      rw [HCL.out]
      have hoa := hoa.base hS.size
      have hSq := hS.trans (hbq.mono hS.size)
      clear hE
      refine hK _ _ hSq ?_
      clear hK K
      try simp only [Act.put, List.setIfInBounds_toArray, List.set_cons_zero, List.set_cons_succ]
      refine wpAnyH_takeI (i := 10) (v := ?v19) rfl (by kernel_rfl) (by kernel_rfl) (by kernel_rfl) (fun _ _ _ h => h) (yieldsIf_run rfl (fun w' hw' => ?y19)) hSq ?_
      case y19 => first | (go_simp; rfl) | (go_simp; done) | rfl
      simp only [Act.put, List.setIfInBounds_toArray, List.set_cons_zero, List.set_cons_succ]
      refine wpAnyH_takeI (i := 11) (v := ?v20) rfl (by kernel_rfl) (by kernel_rfl) (by kernel_rfl) (fun _ _ _ h => h) (yieldsIf_run rfl (fun w' hw' => ?y20)) hSq ?_
      case y20 => first | (go_simp; rfl) | (go_simp; done) | rfl
      simp only [Act.put, List.setIfInBounds_toArray, List.set_cons_zero, List.set_cons_succ]
      refine wpAnyH_takeI (i := 12) (v := ?v21) rfl (by kernel_rfl) (by kernel_rfl) (by kernel_rfl) (fun _ _ _ h => h) (yieldsIf_run rfl (fun w' hw' => ?y21)) hSq ?_
      case y21 => first | (go_simp; rfl) | (go_simp; done) | rfl
      simp only [Act.put, List.setIfInBounds_toArray, List.set_cons_zero, List.set_cons_succ]
      refine wpAnyH_takeI (i := 13) (v := ?v22) rfl (by kernel_rfl) (by kernel_rfl) (by kernel_rfl) (fun _ _ _ h => h) (yieldsIf_run rfl (fun w' hw' => ?y22)) hSq ?_
      case y22 => first | (go_simp; rfl) | (go_simp; done) | rfl
      simp only [Act.put, List.setIfInBounds_toArray, List.set_cons_zero, List.set_cons_succ]
      refine wpAnyH_takeI (i := 14) (v := ?v23) rfl (by kernel_rfl) (by kernel_rfl) (by kernel_rfl) (fun _ _ _ h => h) (yieldsIf_run rfl (fun w' hw' => ?y23)) hSq ?_
      case y23 => first | (go_simp; rfl) | (go_simp; done) | rfl
      simp only [Act.put, List.setIfInBounds_toArray, List.set_cons_zero, List.set_cons_succ]
      refine wpAnyH_done (by kernel_rfl) ?_ _
      refine NoPanic.normal ?_
      exact ⟨rfl, _, _, _, _, _, _, _, _, _, av, (by first | rfl | (simp only [Act.put, List.setIfInBounds_toArray, List.set_cons_zero, List.set_cons_succ]; rfl)), hoa, hSq⟩

  rintro a' w8 ⟨v57, v58, v59, v60, v61, v62, v63, v64, v65, z, rfl, hoz, hb8⟩
  simp only [Act.put, List.setIfInBounds_toArray, List.set_cons_zero, List.set_cons_succ]
  have hoz := hoz.at_
  obtain ⟨za, zc, rfl⟩ := hoz.form
  rw [HNA.out] at hoz ⊢
  have HB8 := Lib.hid (HB7.out.trans (hb8.mono HB7.out.size))
  have HOI8 := Lib.hid (HOI7.out.below hb8)
  have HOX8 := Lib.hid (HOX7.out.below hb8)
  have HOA8 := Lib.hid hoz
  have HRI := Lib.hid (row_id (range_block (HBX.out w8 HB8.out)))
  have HSI := Lib.hid (sizeId R.id)
  clear hoz hb8
  go_wp2_with (refine wpList_met rfl ?_; with_reducible refine wpList_load_mid rfl 31 _ rfl w.heap.size (0) rfl (bvs R.id.1) _ HRI.out Try.underlying31 rfl HSI.out ?_)
  refine (has_any _ I R.id HOI8.out HIL.out).mono ?_
  rintro e w9 ⟨rfl, hb9⟩
  rw [decide_eq_true HXI0.out]
  have HOI := Lib.hid (HOI8.out.below hb9)
  have HOX := Lib.hid (HOX8.out.below hb9)
  have HOA := Lib.hid (HOA8.out.below hb9)
  have HB9 := Lib.hid (HB8.out.trans (hb9.mono HB8.out.size))
  clear hb9
  have hplus : (((NA + 1 : Nat) : Int) != (NA : Int) + 1) = false := by simp
  have hplus1 : (((NA + 1 : Nat) : Int) == (NA : Int) + 1) = true := by simp
  go_wp2_with fail
  go_loopw [16] (fun iv wr => ∃ i : Nat, i ≤ NA ∧ iv = .int .i64 (i : Int) ∧ Below w9.heap.size w9 wr) (fun iv _ => NA - (intOf iv).toNat)
  case atStart => exact ⟨0, Nat.zero_le _, rfl, Below.refl _ _⟩
  case round =>
    obtain ⟨i, hi, rfl, hB⟩ := hrel
    have HB := Lib.hid hB
    clear hB
    by_cases hlt : i < NA
    · have hiI : (i : Int) < (NA : Int) := by omega
      have hiI0 : (0 : Int) ≤ (i : Int) := by omega
      have hlt' : i < A.length := by rw [HNA.out]; exact hlt
      obtain ⟨xg, xo, rfl, hxg, hxr⟩ := (HOA.out.below HB.out).get (i := i) hlt'
      have hxr : wr.rangeAt xg (xo + i * 32) (bvs A[i].1) := hxr
      have hmem : A[i] ∈ I := HAI.out _ (List.getElem_mem hlt')
      obtain ⟨q, hq⟩ : ∃ q, A[i] = q := ⟨_, rfl⟩
      rw [hq] at hxr hmem
      have HRQ := Lib.hid hxr
      have HSQ := Lib.hid (sizeId q)
      have HMEM := Lib.hid hmem
      clear hxr hmem hq
      go_wp2_with (with_reducible refine wpList_load_mid rfl 31 _ rfl xg (xo + i * 32) rfl (bvs q.1) _ HRQ.out Try.underlying31 rfl HSQ.out ?_)
      refine (has_any _ I q (HOI.out.below HB.out) HIL.out).mono ?_
      rintro e wy ⟨rfl, hby⟩
      have HBY := Lib.hid (HB.out.trans (hby.mono HB.out.size))
      clear hby
      rw [decide_eq_true HMEM.out]
      go_wp2_with fail
      go_roundw
      case rel => exact ⟨i + 1, by omega, by go_num, HBY.out⟩
      case measure => simp [intOf]; omega
    · obtain rfl : NA = i := by omega
      have HBWR1 := Lib.hid (HB9.out.trans (HB.out.mono HB9.out.size))
      have HOI2 := Lib.hid (HOI.out.below HB.out)
      have HOX2 := Lib.hid (HOX.out.below HB.out)
      clear HOX
      have HOX := HOX2
      obtain ⟨wr1, hwr1⟩ : ∃ wr1, wr1 = wr := ⟨_, rfl⟩
      subst hwr1
      clear HB
      go_wp2_with fail
      go_loopw [17] (fun iv wr => ∃ i : Nat, i ≤ NX ∧ iv = .int .i64 (i : Int) ∧ Below wr1.heap.size wr1 wr) (fun iv _ => NX - (intOf iv).toNat)
      case atStart => exact ⟨0, Nat.zero_le _, rfl, Below.refl _ _⟩
      case round =>
        obtain ⟨i, hi, rfl, hB⟩ := hrel
        have HB := Lib.hid hB
        clear hB
        by_cases hlt : i < NX
        · have hiI : (i : Int) < (NX : Int) := by omega
          have hiI0 : (0 : Int) ≤ (i : Int) := by omega
          have hlt' : i < X.length := by rw [HNX.out]; exact hlt
          obtain ⟨xg, xo, rfl, hxg, hxr⟩ := (HOX.out.below HB.out).get (i := i) hlt'
          have hxr : wr.rangeAt xg (xo + i * 32) (bvs X[i].1) := hxr
          have hmem : X[i] ∈ I := HXI.out _ (List.getElem_mem hlt')
          obtain ⟨q, hq⟩ : ∃ q, X[i] = q := ⟨_, rfl⟩
          rw [hq] at hxr hmem
          have HRQ := Lib.hid hxr
          have HSQ := Lib.hid (sizeId q)
          have HMEM := Lib.hid hmem
          clear hxr hmem hq
          go_wp2_with (with_reducible refine wpList_load_mid rfl 31 _ rfl xg (xo + i * 32) rfl (bvs q.1) _ HRQ.out Try.underlying31 rfl HSQ.out ?_)
          refine (has_any _ I q (HOI2.out.below HB.out) HIL.out).mono ?_
          rintro e wy ⟨rfl, hby⟩
          have HBY := Lib.hid (HB.out.trans (hby.mono HB.out.size))
          clear hby
          rw [decide_eq_true HMEM.out]
          go_wp2_with fail
          go_roundw
          case rel => exact ⟨i + 1, by omega, by go_num, HBY.out⟩
          case measure => simp [intOf]; omega
        · obtain rfl : NX = i := by omega
          go_wp2_with fail
          exact bodyPost_ret (v := .bool true) (by simp [results, Try.results5, go_sem]) rfl ⟨rfl, (HB01.out.trans ((HBWR1.out.trans (HB.out.mono HBWR1.out.size)).mono HB01.out.size))⟩

end Go.Proofs.Ytjjanjhoaiannaa
