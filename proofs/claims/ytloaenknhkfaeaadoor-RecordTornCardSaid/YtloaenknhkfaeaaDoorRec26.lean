/- Records: the law Joins. -/
import Derived.Test.YtloaenknhkfaeaaDoorRec25
import Derived.Test.YtloaenknhkfaeaaDoorRegion4
namespace Go.Proofs.YtloaenknhkfaeaaDoor
open Go.RowKit
set_option linter.unusedVariables false
set_option linter.unusedSimpArgs false

theorem rEqual_same {w : World} {F G : Nat → Prop} (x0 x1 x2 : Int) (a b : Option Addr) (n c m d : Nat) (l : List UInt8) (hv : BytesAt w F (.slice a n c) l) (hu : BytesAt w G (.slice b m d) l) :
    Calls Tryd.prog 37 #[.agg #[.int .i64 x0, .int .i64 x1, .int .i64 x2, .slice a n c], .agg #[.int .i64 x0, .int .i64 x1, .int .i64 x2, .slice b m d]] w fun e w' => e = .returned (.bool true) ∧ Below w.heap.size w w' := by
  have h := rEqual_any x0 x1 x2 x0 x1 x2 a b n c m d l l hv hu
  simpa using h

theorem JoinPost.parts {w w' : World} {L : List (List UInt8)} {e : Ending} (h : JoinPost w L e w') : ∃ a c, e = .returned (.tuple #[.agg #[.int .i64 (joinL L).1.kind, .int .i64 (joinL L).1.gen, .int .i64 (joinL L).1.num, .slice a (joinL L).1.load.length c], .int .i64 ((joinL L).2.1 : Int), .int .i64 (joinL L).2.2]) ∧
    w'.ownsRow w.heap.size 5 1 (.slice a (joinL L).1.load.length c) (joinL L).1.load.length (bvs (joinL L).1.load) ∧ Below w.heap.size w w' := h

set_option maxRecDepth 100000 in
set_option maxHeartbeats 2000000 in
theorem RecordJoins_any {w : World} (v : Value) (L : List SecV) (hv : DescsAt w v L) (hK : KAt w) :
    Calls Tryd.prog 9 #[v] w fun e w' => e = .returned (.bool true) ∧ Below w.heap.size w w' := by
  have hsc := sectors_any v L hv
  obtain ⟨va, vc, rfl, _⟩ := hv.ex
  have HSC := Lib.hid hsc
  have HK := Lib.hid hK
  clear hsc hv hK
  go_enter Tryd.func9, Tryd.ntmps9
  go_wp2_with fail
  refine HSC.out.mono ?_
  rintro e w1 ⟨u, M, rfl, ho1, _, hM, hb1⟩
  obtain ⟨ua, uc, rfl⟩ := ho1.form
  have hj := Join_any M _ ho1.secs (by omega) (HK.out.below hb1 HK.out.size)
  have HO1 := Lib.hid ho1
  have HB1 := Lib.hid hb1
  have HJ := Lib.hid hj
  clear hj ho1 hb1
  go_wp2_with fail
  refine HJ.out.mono ?_
  intro e w2 hj2
  obtain ⟨a2, c2, rfl, hr2, hb2⟩ := hj2.parts
  obtain ⟨r, hr⟩ : ∃ r, (joinL M).1 = r := ⟨_, rfl⟩
  obtain ⟨m, hm⟩ : ∃ m, (joinL M).2.1 = m := ⟨_, rfl⟩
  obtain ⟨E, hE⟩ : ∃ E, (joinL M).2.2 = E := ⟨_, rfl⟩
  rw [hr, hm, hE]
  rw [hr] at hr2
  obtain ⟨N, hN⟩ : ∃ N, r.load.length = N := ⟨_, rfl⟩
  rw [hN] at hr2 ⊢
  obtain ⟨w3, hw3⟩ : ∃ w3, w2.alloc (.cells #[.int .i64 r.kind, .int .i64 r.gen, .int .i64 r.num, .slice a2 N c2] 50) = w3 := ⟨_, rfl⟩
  have hb3 : Below w2.heap.size w2 w3 := hw3 ▸ (Below.refl _ _).alloc (Nat.le_refl _) _
  have hx3 : w3.heap[w2.heap.size]? = some (.cells #[.int .i64 r.kind, .int .i64 r.gen, .int .i64 r.num, .slice a2 N c2] 50 (0, 0)) := by rw [← hw3]; exact heap_alloc_new _ _
  have hbd3 := HB1.out.trans ((hb2.trans (hb3.mono hb2.size)).mono HB1.out.size)
  have ho3 := (HO1.out.below hb2).below hb3
  have hj := rJoin_any M _ ho3.secs (by omega)
  have HJ2 := Lib.hid hj
  have HR3 := Lib.hid (own_kept hr2 hb3)
  have HX3 := Lib.hid hx3
  have HW3 := Lib.hid hw3
  have HB3 := Lib.hid hbd3
  have HRR := Lib.hid hr
  have HMM := Lib.hid hm
  have HEE := Lib.hid hE
  have HN := Lib.hid hN
  clear hj2 hr hm hE hN hr2 hw3 hb3 hx3 hbd3 ho3 hj hb2
  go_wp2_with fail
  rw [HW3.out]
  refine HJ2.out.mono ?_
  intro e w4 hj4
  obtain ⟨a4, c4, rfl, hr4, hb4⟩ := hj4.parts
  rw [HRR.out, HMM.out, HEE.out, HN.out]
  rw [HRR.out, HN.out] at hr4
  obtain ⟨w5, hw5⟩ : ∃ w5, w4.alloc (.cells #[.int .i64 r.kind, .int .i64 r.gen, .int .i64 r.num, .slice a4 N c4] 49) = w5 := ⟨_, rfl⟩
  have hb5 : Below w4.heap.size w4 w5 := hw5 ▸ (Below.refl _ _).alloc (Nat.le_refl _) _
  have hx5 : w5.heap[w4.heap.size]? = some (.cells #[.int .i64 r.kind, .int .i64 r.gen, .int .i64 r.num, .slice a4 N c4] 49 (0, 0)) := by rw [← hw5]; exact heap_alloc_new _ _
  have hx35 := (hb5.block _ (Nat.lt_of_lt_of_le (Array.getElem?_eq_some_iff.1 HX3.out).1 hb4.size)).trans ((hb4.block _ (Array.getElem?_eq_some_iff.1 HX3.out).1).trans HX3.out)
  have hlt5 := (Array.getElem?_eq_some_iff.1 hx5).1
  have hlt35 := (Array.getElem?_eq_some_iff.1 hx35).1
  have hcell : ∀ w' : World, Below w5.heap.size w5 w' → w'.cell? ⟨w2.heap.size, 0, none⟩ = some (.int .i64 r.kind) ∧ w'.cell? ⟨w2.heap.size, 1, none⟩ = some (.int .i64 r.gen) ∧ w'.cell? ⟨w2.heap.size, 2, none⟩ = some (.int .i64 r.num) ∧ w'.cell? ⟨w2.heap.size, 3, none⟩ = some (.slice a2 N c2) ∧
      w'.cell? ⟨w4.heap.size, 0, none⟩ = some (.int .i64 r.kind) ∧ w'.cell? ⟨w4.heap.size, 1, none⟩ = some (.int .i64 r.gen) ∧ w'.cell? ⟨w4.heap.size, 2, none⟩ = some (.int .i64 r.num) ∧ w'.cell? ⟨w4.heap.size, 3, none⟩ = some (.slice a4 N c4) := by
    intro w' hb
    have h0 := (hb.block w2.heap.size hlt35).trans hx35
    have h1 := (hb.block w4.heap.size hlt5).trans hx5
    refine ⟨?_, ?_, ?_, ?_, ?_, ?_, ?_, ?_⟩ <;> first | (rw [cell_of_row _ _ _ _ _ _ h0]; rfl) | (rw [cell_of_row _ _ _ _ _ _ h1]; rfl)
  have hbd5 := HB3.out.trans ((hb4.trans (hb5.mono hb4.size)).mono HB3.out.size)
  have HP := Lib.hid (own_bytes (own_kept (own_kept HR3.out hb4) hb5))
  have HQ := Lib.hid (own_bytes (own_kept hr4 hb5))
  have HCELL := Lib.hid hcell
  have HW5 := Lib.hid hw5
  have HB5 := Lib.hid hbd5
  have hmI : (m : Int) == (m : Int) := by simp
  clear hj4 hr4 hw5 hb5 hx5 hx35 hlt5 hlt35 hcell hbd5 hb4 HJ HJ2 HSC
  go_wp2_with fail
  rw [HW5.out]
  refine wp_region_noPanic ?_
  refine wp_region_H (Below w5.heap.size w5) (by kernel_rfl) ?_
  have hS0 : (Below w5.heap.size w5) w5.drew := (Below.refl _ _).drew
  obtain ⟨wd, hwd⟩ : ∃ wd, w5.drew = wd := ⟨_, rfl⟩
  rw [hwd] at hS0 ⊢
  clear hwd
  refine wpAnyH_do (i := 0) (by kernel_rfl) rfl rfl (fun K hK => ?_)
  go_simp
  go_at_call 18
  refine (known_any (HK.out.below (HB5.out.trans (hS0.mono HB5.out.size)) HK.out.size)).mono ?_
  rintro e w6 ⟨rfl, hb6⟩
  have hS1 := hS0.trans (hb6.mono hS0.size)
  refine hK _ _ (hS1) ?_
  clear hK K
  try simp only [Act.put, List.setIfInBounds_toArray, List.set_cons_zero, List.set_cons_succ]
  refine wpAnyH_takeI (i := 1) (v := ?v1) rfl (by kernel_rfl) (by kernel_rfl) (by kernel_rfl) (fun _ _ _ h => h) (yieldsIf_run rfl (fun w' hw' => ?y1)) hS1 ?_
  case y1 => first | (go_simp; rfl) | (go_simp; done) | rfl
  simp only [Act.put, List.setIfInBounds_toArray, List.set_cons_zero, List.set_cons_succ]
  refine wpAnyH_takeI (i := 2) (v := ?v2) rfl (by kernel_rfl) (by kernel_rfl) (by kernel_rfl) (fun _ _ _ h => h) (yieldsIf_want rfl (fun w' hw' => ?y2)) hS1 ?_
  case y2 => (obtain ⟨z0, z1, z2, z3, z4, z5, z6, z7⟩ := HCELL.out w' hw'; clear hw'; first | (go_simp; rfl) | (go_simp; done))
  simp only [Act.put, List.setIfInBounds_toArray, List.set_cons_zero, List.set_cons_succ]
  refine wpAnyH_takeI (i := 4) (v := ?v3) rfl (by kernel_rfl) (by kernel_rfl) (by kernel_rfl) (fun _ _ _ h => h) (yieldsIf_want rfl (fun w' hw' => ?y3)) hS1 ?_
  case y3 => (obtain ⟨z0, z1, z2, z3, z4, z5, z6, z7⟩ := HCELL.out w' hw'; clear hw'; first | (go_simp; rfl) | (go_simp; done))
  simp only [Act.put, List.setIfInBounds_toArray, List.set_cons_zero, List.set_cons_succ]
  refine wpAnyH_want (i := 3) (by kernel_rfl) rfl rfl (fun K hK => ?_)
  go_simp
  go_at_call 30
  refine (to_any r.kind r.gen r.num a2 N c2 w6).mono ?_
  rintro e w7 ⟨rfl, hb7⟩
  have hS2 := hS1.trans (hb7.mono hS1.size)
  refine hK _ _ (hS2) ?_
  clear hK K
  try simp only [Act.put, List.setIfInBounds_toArray, List.set_cons_zero, List.set_cons_succ]
  refine wpAnyH_want (i := 5) (by kernel_rfl) rfl rfl (fun K hK => ?_)
  go_simp
  go_at_call 37
  refine (rEqual_same r.kind r.gen r.num a2 a4 N c2 N c4 r.load (HP.out.below hS2) (HQ.out.below hS2)).mono ?_
  rintro e w8 ⟨rfl, hb8⟩
  have hS3 := hS2.trans (hb8.mono hS2.size)
  refine hK _ _ (hS3) ?_
  clear hK K
  try simp only [Act.put, List.setIfInBounds_toArray, List.set_cons_zero, List.set_cons_succ]
  refine wpAnyH_takeI (i := 6) (v := ?v4) rfl (by kernel_rfl) (by kernel_rfl) (by kernel_rfl) (fun _ _ _ h => h) (yieldsIf_run rfl (fun w' hw' => ?y4)) hS3 ?_
  case y4 => first | (go_simp; rfl) | (go_simp; done) | rfl
  simp only [Act.put, List.setIfInBounds_toArray, List.set_cons_zero, List.set_cons_succ]
  refine wpAnyH_takeI (i := 7) (v := ?v5) rfl (by kernel_rfl) (by kernel_rfl) (by kernel_rfl) (fun _ _ _ h => h) (yieldsIf_run rfl (fun w' hw' => ?y5)) hS3 ?_
  case y5 => first | (go_simp; rfl) | (go_simp; done) | rfl
  simp only [Act.put, List.setIfInBounds_toArray, List.set_cons_zero, List.set_cons_succ]
  refine wpAnyH_takeI (i := 8) (v := ?v6) rfl (by kernel_rfl) (by kernel_rfl) (by kernel_rfl) (fun _ _ _ h => h) (yieldsIf_want rfl (fun w' hw' => ?y6)) hS3 ?_
  case y6 => first | (go_simp; rfl) | (go_simp; done) | rfl
  simp only [Act.put, List.setIfInBounds_toArray, List.set_cons_zero, List.set_cons_succ]
  refine wpAnyH_takeI (i := 9) (v := ?v7) rfl (by kernel_rfl) (by kernel_rfl) (by kernel_rfl) (fun _ _ _ h => h) (yieldsIf_want rfl (fun w' hw' => ?y7)) hS3 ?_
  case y7 => first | (go_simp; rfl) | (go_simp; done) | rfl
  simp only [Act.put, List.setIfInBounds_toArray, List.set_cons_zero, List.set_cons_succ]
  refine wpAnyH_takeI (i := 10) (v := ?v8) rfl (by kernel_rfl) (by kernel_rfl) (by kernel_rfl) (fun _ _ _ h => h) (yieldsIf_want rfl (fun w' hw' => ?y8)) hS3 ?_
  case y8 => first | (go_simp; rfl) | (go_simp; done) | rfl
  simp only [Act.put, List.setIfInBounds_toArray, List.set_cons_zero, List.set_cons_succ]
  refine wpAnyH_takeI (i := 11) (v := ?v9) rfl (by kernel_rfl) (by kernel_rfl) (by kernel_rfl) (fun _ _ _ h => h) (yieldsIf_run rfl (fun w' hw' => ?y9)) hS3 ?_
  case y9 => first | (go_simp; rfl) | (go_simp; done) | rfl
  simp only [Act.put, List.setIfInBounds_toArray, List.set_cons_zero, List.set_cons_succ]
  refine wpAnyH_takeI (i := 12) (v := ?v10) rfl (by kernel_rfl) (by kernel_rfl) (by kernel_rfl) (fun _ _ _ h => h) (yieldsIf_run rfl (fun w' hw' => ?y10)) hS3 ?_
  case y10 => first | (go_simp; rfl) | (go_simp; done) | rfl
  simp only [Act.put, List.setIfInBounds_toArray, List.set_cons_zero, List.set_cons_succ]
  refine wpAnyH_takeI (i := 13) (v := ?v11) rfl (by kernel_rfl) (by kernel_rfl) (by kernel_rfl) (fun _ _ _ h => h) (yieldsIf_want rfl (fun w' hw' => ?y11)) hS3 ?_
  case y11 => first | (go_simp; rfl) | (go_simp; done) | rfl
  simp only [Act.put, List.setIfInBounds_toArray, List.set_cons_zero, List.set_cons_succ]
  refine wpAnyH_takeI (i := 14) (v := ?v12) rfl (by kernel_rfl) (by kernel_rfl) (by kernel_rfl) (fun _ _ _ h => h) (yieldsIf_want rfl (fun w' hw' => ?y12)) hS3 ?_
  case y12 => first | (go_simp; rfl) | (go_simp; done) | rfl
  simp only [Act.put, List.setIfInBounds_toArray, List.set_cons_zero, List.set_cons_succ]
  refine wpAnyH_takeI (i := 15) (v := ?v13) rfl (by kernel_rfl) (by kernel_rfl) (by kernel_rfl) (fun _ _ _ h => h) (yieldsIf_want rfl (fun w' hw' => ?y13)) hS3 ?_
  case y13 => first | (go_simp; rfl) | (go_simp; done) | rfl
  simp only [Act.put, List.setIfInBounds_toArray, List.set_cons_zero, List.set_cons_succ]
  refine wpAnyH_takeI (i := 16) (v := ?v14) rfl (by kernel_rfl) (by kernel_rfl) (by kernel_rfl) (fun _ _ _ h => h) (yieldsIf_run rfl (fun w' hw' => ?y14)) hS3 ?_
  case y14 => first | (go_simp; rfl) | (go_simp; done) | rfl
  simp only [Act.put, List.setIfInBounds_toArray, List.set_cons_zero, List.set_cons_succ]
  refine wpAnyH_takeI (i := 17) (v := ?v15) rfl (by kernel_rfl) (by kernel_rfl) (by kernel_rfl) (fun _ _ _ h => h) (yieldsIf_run rfl (fun w' hw' => ?y15)) hS3 ?_
  case y15 => first | (go_simp; rfl) | (go_simp; done) | rfl
  simp only [Act.put, List.setIfInBounds_toArray, List.set_cons_zero, List.set_cons_succ]
  refine wpAnyH_done (by kernel_rfl) ?_ _
  refine NoPanic.normal ?_
  go_wp2_with fail
  go_ret
  exact ⟨rfl, HB5.out.trans (hS3.mono HB5.out.size)⟩

end Go.Proofs.YtloaenknhkfaeaaDoor
