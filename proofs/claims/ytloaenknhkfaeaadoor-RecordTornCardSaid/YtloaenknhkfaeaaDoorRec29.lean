/- Records: the law Torn. -/
import Derived.Test.YtloaenknhkfaeaaDoorRec26
import Derived.RegionTactic
import Derived.ChangeAlike
namespace Go.Proofs.YtloaenknhkfaeaaDoor
open Go.RowKit
set_option linter.unusedVariables false
set_option linter.unusedSimpArgs false

theorem enc_half {p : PartD} (h : p.bytes.length ≤ 224) : halfL ((encL p).drop 16) = (encL p).take 16 := by
  rw [encL_rest h, List.drop_left' (by simp [halfL]), List.take_left' (by simp [halfL])]
theorem slice_16 (g c : Nat) (hc : 256 ≤ c) (w : World) :
    (Instr.sliceAt 22 (.slice (some ⟨g, 0, none⟩) 256 c) (some (.int .i64 16)) none none).run Tryd.prog w = .ok (.slice (some ⟨g, 16, none⟩) 240 (c - 16)) w := by
  have h := slice_from g 0 256 c 16 (by omega) hc w
  rw [if_neg (by omega)] at h
  simpa using h
theorem bytes_16 {w : World} {B g c : Nat} {l : List UInt8} (h : w.ownsRow B 5 1 (.slice (some ⟨g, 0, none⟩) 256 c) 256 (bvs l)) (hc : 256 ≤ c) : BytesN w (fun k => B ≤ k) (.slice (some ⟨g, 16, none⟩) 240 (c - 16)) (l.drop 16) := by
  have hb := from_bytes h (i := 16) (by omega)
  rw [if_neg (by omega)] at hb
  exact ⟨by simpa using hb, fun k c e => by cases e⟩

theorem slice_cut8 (g n c m : Nat) (hm : m ≤ c) (w : World) :
    (Instr.sliceAt 22 (.slice (some ⟨g, 0, none⟩) n c) none (some (.int .u8 (m : Int))) none).run Tryd.prog w = .ok (.slice (some ⟨g, 0, none⟩) m c) w := by
  have h1 : (m : Int) ≤ (c : Int) := by omega
  go_simp
theorem slice_from8 (g n c i : Nat) (hi : i < n) (hc : n ≤ c) (w : World) :
    (Instr.sliceAt 22 (.slice (some ⟨g, 0, none⟩) n c) (some (.int .u8 (i : Int))) none none).run Tryd.prog w = .ok (.slice (some ⟨g, i, none⟩) (n - i) (c - i)) w := by
  have h1 : (i : Int) ≤ (n : Int) := by omega
  have h2 : (n : Int) ≤ (c : Int) := by omega
  have h : ¬ c = i := by omega
  go_simp
theorem row6_last {w : World} {b : Nat} {T : TypeId} {c0 c1 c2 c3 c4 c5 : Value} (v : Value) (h : w.heap[b]? = some (.cells #[c0, c1, c2, c3, c4, c5] T (0, 0))) :
    (w.setCell ⟨b, 5, none⟩ v).heap[b]? = some (.cells #[c0, c1, c2, c3, c4, v] T (0, 0)) := by rw [heap_setCell_same _ _ _ _ _ _ h]; rfl

set_option maxRecDepth 100000 in
set_option maxHeartbeats 2000000 in
theorem RecordTorn_any {w : World} {F G : Nat → Prop} (x0 x1 x2 x3 x4 : Int) (pa : Option Addr) (pn pc : Nat) (pl : List UInt8) (hp : BytesN w F (.slice pa pn pc) pl) (hpn : pn ≤ 9223372036854775807)
    (y0 y1 y2 y3 y4 : Int) (oa : Option Addr) (on oc : Nat) (ol : List UInt8) (ho : BytesN w G (.slice oa on oc) ol) (hon : on ≤ 9223372036854775807) (at8 : UInt8) (hK : KAt w) :
    Calls Tryd.prog 6 #[.agg #[.int .i64 x0, .int .i64 x1, .int .i64 x2, .int .i64 x3, .int .i64 x4, .slice pa pn pc], .agg #[.int .i64 y0, .int .i64 y1, .int .i64 y2, .int .i64 y3, .int .i64 y4, .slice oa on oc], .int .u8 (at8.toNat : Int)] w fun e w' => e = .returned (.bool true) ∧ Below w.heap.size w w' := by
  obtain ⟨at_, hat_⟩ : ∃ n : Nat, at8.toNat = n := ⟨_, rfl⟩
  have hat : at_ < 256 := by rw [← hat_]; exact at8.toNat_lt
  rw [hat_]
  clear hat_
  obtain ⟨pm, hpm⟩ : ∃ pm, capOf pn 224 = pm := ⟨_, rfl⟩
  obtain ⟨om, hom⟩ : ∃ om, capOf on 224 = om := ⟨_, rfl⟩
  have hpl := hp.at_.len
  have hol := ho.at_.len
  have hm1 := min_of pn
  have hm2 := min_of on
  simp only [hpm] at hm1
  simp only [hom] at hm2
  have hpm2 : pm ≤ pn ∧ pm ≤ 224 := by unfold capOf at hpm; omega
  have hom2 : om ≤ on ∧ om ≤ 224 := by unfold capOf at hom; omega
  have hs1 := slice_cut pa pn pc pm (by omega) (fun e => hp.nil pn pc (by rw [e]))
  have hs2 := slice_cut oa on oc om (by omega) (fun e => ho.nil on oc (by rw [e]))
  obtain ⟨w1, hw1⟩ : ∃ w1, (w.alloc (.cells #[.int .i64 x0, .int .i64 x1, .int .i64 x2, .int .i64 x3, .int .i64 x4, .slice pa pn pc] 24)).alloc (.cells #[.int .i64 y0, .int .i64 y1, .int .i64 y2, .int .i64 y3, .int .i64 y4, .slice oa on oc] 24) = w1 := ⟨_, rfl⟩
  have hb1 : Below w.heap.size w w1 := hw1 ▸ ((Below.refl _ w).alloc (Nat.le_refl _) _).alloc (by simp) _
  have g0 : w1.heap[w.heap.size]? = some (.cells #[.int .i64 x0, .int .i64 x1, .int .i64 x2, .int .i64 x3, .int .i64 x4, .slice pa pn pc] 24 (0, 0)) := by rw [← hw1]; exact (Below.heap_alloc _ _ _ (by simp)).trans (heap_alloc_new _ _)
  have g1 : w1.heap[w.heap.size + 1]? = some (.cells #[.int .i64 y0, .int .i64 y1, .int .i64 y2, .int .i64 y3, .int .i64 y4, .slice oa on oc] 24 (0, 0)) := by
    have := heap_alloc_new (w.alloc (.cells #[.int .i64 x0, .int .i64 x1, .int .i64 x2, .int .i64 x3, .int .i64 x4, .slice pa pn pc] 24)) (.cells #[.int .i64 y0, .int .i64 y1, .int .i64 y2, .int .i64 y3, .int .i64 y4, .slice oa on oc] 24)
    rw [World.size_alloc] at this
    rw [← hw1]; exact this
  have hcell : ∀ w' : World, Below w1.heap.size w1 w' → w'.cell? ⟨w.heap.size, 0, none⟩ = some (.int .i64 x0) ∧ w'.cell? ⟨w.heap.size, 1, none⟩ = some (.int .i64 x1) ∧ w'.cell? ⟨w.heap.size, 2, none⟩ = some (.int .i64 x2) ∧ w'.cell? ⟨w.heap.size, 3, none⟩ = some (.int .i64 x3) ∧ w'.cell? ⟨w.heap.size, 4, none⟩ = some (.int .i64 x4) ∧ w'.cell? ⟨w.heap.size, 5, none⟩ = some (.slice pa pn pc) ∧ w'.cell? ⟨w.heap.size + 1, 0, none⟩ = some (.int .i64 y0) ∧ w'.cell? ⟨w.heap.size + 1, 1, none⟩ = some (.int .i64 y1) ∧ w'.cell? ⟨w.heap.size + 1, 2, none⟩ = some (.int .i64 y2) ∧ w'.cell? ⟨w.heap.size + 1, 3, none⟩ = some (.int .i64 y3) ∧ w'.cell? ⟨w.heap.size + 1, 4, none⟩ = some (.int .i64 y4) ∧ w'.cell? ⟨w.heap.size + 1, 5, none⟩ = some (.slice oa on oc) := by
    intro w' hb
    have h0 := (hb.block w.heap.size (Array.getElem?_eq_some_iff.1 g0).1).trans g0
    have h1 := (hb.block (w.heap.size + 1) (Array.getElem?_eq_some_iff.1 g1).1).trans g1
    refine ⟨?_, ?_, ?_, ?_, ?_, ?_, ?_, ?_, ?_, ?_, ?_, ?_⟩ <;> first | (rw [cell_of_row _ _ _ _ _ _ h0]; rfl) | (rw [cell_of_row _ _ _ _ _ _ h1]; rfl)

  have HP := Lib.hid hp
  have HO := Lib.hid ho
  have HPM := Lib.hid hpm2
  have HOM := Lib.hid hom2
  have HPL := Lib.hid hpl
  have HOL := Lib.hid hol
  have HCELL := Lib.hid hcell
  have HW1 := Lib.hid hw1
  have HB1 := Lib.hid hb1
  have HG0 := Lib.hid g0
  have HG1 := Lib.hid g1
  have HK := Lib.hid hK
  clear hp ho hpm hom hpl hol hpm2 hom2 hw1 hb1 g0 g1 hcell hK
  go_enter Tryd.func6, Tryd.ntmps6
  go_wp2_with fail
  rw [HW1.out]
  obtain ⟨z0, z1, z2, z3, z4, z5, z6, z7, z8, z9, z10, z11⟩ := HCELL.out w1.drew ((Below.refl _ _).drew)
  obtain ⟨u0, u1, u2, u3, u4, u5, u6, u7, u8, u9, u10, u11⟩ := HCELL.out w1 (Below.refl _ _)
  have hf0 : ∀ j : Nat, w1.frozen? ⟨w.heap.size, j, none⟩ = false := fun j => frozen_of_row _ _ _ _ _ HG0.out
  have hf1 : ∀ j : Nat, w1.frozen? ⟨w.heap.size + 1, j, none⟩ = false := fun j => frozen_of_row _ _ _ _ _ HG1.out
  have hf0' : ∀ j : Nat, w1.drew.frozen? ⟨w.heap.size, j, none⟩ = false := fun j => frozen_of_row _ _ _ _ _ HG0.out
  have hf1' : ∀ j : Nat, w1.drew.frozen? ⟨w.heap.size + 1, j, none⟩ = false := fun j => frozen_of_row _ _ _ _ _ HG1.out
  go_region
  clear hf0 hf1 hf0' hf1' z0 z1 z2 z3 z4 z5 z6 z7 z8 z9 z10 z11 u0 u1 u2 u3 u4 u5 u6 u7 u8 u9 u10 u11
  obtain ⟨we, hwe⟩ : ∃ we, w1.setCell ⟨w.heap.size, 5, none⟩ (.slice pa pm pc) = we := ⟨_, rfl⟩
  have hce : Chg (fun k => k = w.heap.size) w1 we := hwe ▸ Chg.setCell _ _ rfl
  have r0 : we.heap[w.heap.size]? = some (.cells #[.int .i64 x0, .int .i64 x1, .int .i64 x2, .int .i64 x3, .int .i64 x4, .slice pa pm pc] 24 (0, 0)) := by rw [← hwe]; exact row6_last _ HG0.out
  have r1 := (hce.block (w.heap.size + 1) (Array.getElem?_eq_some_iff.1 HG1.out).1 (fun h => by have : w.heap.size + 1 = w.heap.size := h; omega)).trans HG1.out
  obtain ⟨w3, hw3⟩ : ∃ w3, (we.setCell ⟨w.heap.size + 1, 5, none⟩ (.slice oa om oc)).drew = w3 := ⟨_, rfl⟩
  have hc3 : Chg (fun k => k = w.heap.size + 1) we w3 := by rw [← hw3]; exact (Chg.setCell (F := fun k => k = w.heap.size + 1) _ _ rfl).drew
  have s1 : w3.heap[w.heap.size + 1]? = some (.cells #[.int .i64 y0, .int .i64 y1, .int .i64 y2, .int .i64 y3, .int .i64 y4, .slice oa om oc] 24 (0, 0)) := by rw [← hw3]; exact row6_last _ r1
  have s0 := (hc3.block w.heap.size (Array.getElem?_eq_some_iff.1 r0).1 (fun h => by have : w.heap.size = w.heap.size + 1 := h; omega)).trans r0
  rw [hwe, hw3]
  clear hwe hw3
  have hb3 : Below w.heap.size w w3 := below_chg (below_chg HB1.out hce (Nat.le_refl _) (Nat.le_refl _)) hc3 (by omega) (Nat.le_refl _)
  clear hm1 hm2 hs1 hs2 hce hc3 r0 r1 HCELL HW1 HG0 HG1
  have hcell : ∀ w' : World, Below w3.heap.size w3 w' → w'.cell? ⟨w.heap.size, 0, none⟩ = some (.int .i64 x0) ∧ w'.cell? ⟨w.heap.size, 1, none⟩ = some (.int .i64 x1) ∧ w'.cell? ⟨w.heap.size, 2, none⟩ = some (.int .i64 x2) ∧ w'.cell? ⟨w.heap.size, 3, none⟩ = some (.int .i64 x3) ∧ w'.cell? ⟨w.heap.size, 4, none⟩ = some (.int .i64 x4) ∧ w'.cell? ⟨w.heap.size, 5, none⟩ = some (.slice pa pm pc) ∧ w'.cell? ⟨w.heap.size + 1, 0, none⟩ = some (.int .i64 y0) ∧ w'.cell? ⟨w.heap.size + 1, 1, none⟩ = some (.int .i64 y1) ∧ w'.cell? ⟨w.heap.size + 1, 2, none⟩ = some (.int .i64 y2) ∧ w'.cell? ⟨w.heap.size + 1, 3, none⟩ = some (.int .i64 y3) ∧ w'.cell? ⟨w.heap.size + 1, 4, none⟩ = some (.int .i64 y4) ∧ w'.cell? ⟨w.heap.size + 1, 5, none⟩ = some (.slice oa om oc) := by
    intro w' hb
    have h0 := (hb.block w.heap.size (Array.getElem?_eq_some_iff.1 s0).1).trans s0
    have h1 := (hb.block (w.heap.size + 1) (Array.getElem?_eq_some_iff.1 s1).1).trans s1
    refine ⟨?_, ?_, ?_, ?_, ?_, ?_, ?_, ?_, ?_, ?_, ?_, ?_⟩ <;> first | (rw [cell_of_row _ _ _ _ _ _ h0]; rfl) | (rw [cell_of_row _ _ _ _ _ _ h1]; rfl)

  have hp3 : BytesN w3 F (.slice pa pm pc) (pl.take pm) := BytesN.take (HP.out.below hb3) pm HPM.out.1
  have ho3 : BytesN w3 G (.slice oa om oc) (ol.take om) := BytesN.take (HO.out.below hb3) om HOM.out.1
  have hpt : (pl.take pm).length = pm := by rw [List.length_take]; have := HPM.out; have := HPL.out; omega
  have hot : (ol.take om).length = om := by rw [List.length_take]; have := HOM.out; have := HOL.out; omega
  have HC1 := Lib.hid (fun w => rcheck_at ⟨x0, x1, x2, x3, x4, pl.take pm⟩ pa pm pc hpt w)
  have HC2 := Lib.hid (fun w => rcheck_at ⟨y0, y1, y2, y3, y4, ol.take om⟩ oa om oc hot w)
  have HPT := Lib.hid (show (pl.take pm).length ≤ 224 by have := HPM.out; omega)
  have HOT := Lib.hid (show (ol.take om).length ≤ 224 by have := HOM.out; omega)
  have hkn := known_any (HK.out.below hb3 HK.out.size)
  have HKN := Lib.hid hkn
  have HCELL := Lib.hid hcell
  have HB3 := Lib.hid hb3
  have HP3 := Lib.hid hp3
  have HO3 := Lib.hid ho3
  clear hcell s0 s1 hb3 hp3 ho3 hpt hot hkn HP HO HB1
  go_wp2_with fail
  refine HKN.out.mono ?_
  rintro e w4 ⟨rfl, hb4⟩
  obtain ⟨z0, z1, z2, z3, z4, z5, z6, z7, z8, z9, z10, z11⟩ := HCELL.out w4 hb4
  have HB4 := Lib.hid hb4
  clear hb4 HKN
  go_wp2_with fail
  refine (HC1.out w4).mono ?_
  rintro e w5 ⟨rfl, hb5⟩
  obtain ⟨E1, hE1⟩ : ∃ E1, chkP ⟨x0, x1, x2, x3, x4, pl.take pm⟩ = E1 := ⟨_, rfl⟩
  rw [hE1]
  have hb35 := HB4.out.trans (hb5.mono HB4.out.size)
  clear z0 z1 z2 z3 z4 z5 z6 z7 z8 z9 z10 z11 hb5 HB4 HC1
  obtain ⟨z0, z1, z2, z3, z4, z5, z6, z7, z8, z9, z10, z11⟩ := HCELL.out w5 hb35
  have hkn := known_any (HK.out.below (HB3.out.trans (hb35.mono HB3.out.size)) HK.out.size)
  have HKN := Lib.hid hkn
  have HB5 := Lib.hid hb35
  clear hb35 hkn
  by_cases h1 : E1 = 0
  case neg =>
    go_wp2_with fail
    refine HKN.out.mono ?_
    rintro e w6 ⟨rfl, hb6⟩
    go_wp2_with fail
    go_ret
    exact ⟨rfl, HB3.out.trans ((HB5.out.trans (hb6.mono HB5.out.size)).mono HB3.out.size)⟩
  subst h1
  have HE1 := Lib.hid hE1
  clear hE1 HKN
  go_wp2_with fail
  refine (HC2.out w5).mono ?_
  rintro e w6 ⟨rfl, hb6⟩
  obtain ⟨E2, hE2⟩ : ∃ E2, chkP ⟨y0, y1, y2, y3, y4, ol.take om⟩ = E2 := ⟨_, rfl⟩
  rw [hE2]
  have hb36 := HB5.out.trans (hb6.mono HB5.out.size)
  clear z0 z1 z2 z3 z4 z5 z6 z7 z8 z9 z10 z11 hb6 HB5 HC2
  obtain ⟨z0, z1, z2, z3, z4, z5, z6, z7, z8, z9, z10, z11⟩ := HCELL.out w6 hb36
  have hkn := known_any (HK.out.below (HB3.out.trans (hb36.mono HB3.out.size)) HK.out.size)
  have HKN := Lib.hid hkn
  have HB6 := Lib.hid hb36
  clear hb36 hkn
  by_cases h2 : E2 = 0
  case neg =>
    go_wp2_with fail
    refine HKN.out.mono ?_
    rintro e w7 ⟨rfl, hb7⟩
    go_wp2_with fail
    go_ret
    exact ⟨rfl, HB3.out.trans ((HB6.out.trans (hb7.mono HB6.out.size)).mono HB3.out.size)⟩
  subst h2
  have HE2 := Lib.hid hE2
  clear hE2 HKN z0 z1 z2 z3 z4 z5 z6 z7 z8 z9 z10 z11
  go_wp2_with fail
  refine wp_region_noPanic ?_
  refine wp_region_H (Below w3.heap.size w3) (by kernel_rfl) ?_
  have hS0 : (Below w3.heap.size w3) w6.drew := HB6.out.drew
  obtain ⟨wd, hwd⟩ : ∃ wd, w6.drew = wd := ⟨_, rfl⟩
  rw [hwd] at hS0 ⊢
  clear hwd
  refine wpAnyH_takeI (i := 0) (v := ?v1) rfl (by kernel_rfl) (by kernel_rfl) (by kernel_rfl) (fun _ _ _ h => h) (yieldsIf_run rfl (fun w' hw' => ?y1)) hS0 ?_
  case y1 => (obtain ⟨z0, z1, z2, z3, z4, z5, z6, z7, z8, z9, z10, z11⟩ := HCELL.out w' hw'; clear hw'; first | (go_simp; rfl) | (go_simp; done))
  simp only [Act.put, List.setIfInBounds_toArray, List.set_cons_zero, List.set_cons_succ]
  refine wpAnyH_takeI (i := 2) (v := ?v2) rfl (by kernel_rfl) (by kernel_rfl) (by kernel_rfl) (fun _ _ _ h => h) (yieldsIf_run rfl (fun w' hw' => ?y2)) hS0 ?_
  case y2 => (obtain ⟨z0, z1, z2, z3, z4, z5, z6, z7, z8, z9, z10, z11⟩ := HCELL.out w' hw'; clear hw'; first | (go_simp; rfl) | (go_simp; done))
  simp only [Act.put, List.setIfInBounds_toArray, List.set_cons_zero, List.set_cons_succ]
  refine wpAnyH_do (i := 1) (by kernel_rfl) rfl rfl (fun K hK => ?_)
  go_simp
  go_at_call 22
  refine (Encode_part ⟨x0, x1, x2, x3, x4, pl.take pm⟩ (chkP_ok HE1.out) pa pm pc (HP3.out.below hS0)).mono ?_
  rintro e w7 ⟨u7, rfl, hu7, hbw7⟩
  have hSw7 := hS0.trans (hbw7.mono hS0.size)
  refine hK _ _ (hSw7) ?_
  clear hK K
  try simp only [Act.put, List.setIfInBounds_toArray, List.set_cons_zero, List.set_cons_succ]
  refine wpAnyH_do (i := 3) (by kernel_rfl) rfl rfl (fun K hK => ?_)
  go_simp
  go_at_call 22
  refine (Encode_part ⟨y0, y1, y2, y3, y4, ol.take om⟩ (chkP_ok HE2.out) oa om oc (HO3.out.below hSw7)).mono ?_
  rintro e w8 ⟨u8, rfl, hu8, hbw8⟩
  have hSw8 := hSw7.trans (hbw8.mono hSw7.size)
  refine hK _ _ (hSw8) ?_
  clear hK K
  try simp only [Act.put, List.setIfInBounds_toArray, List.set_cons_zero, List.set_cons_succ]
  refine wpAnyH_takeI (i := 4) (v := ?v3) rfl (by kernel_rfl) (by kernel_rfl) (by kernel_rfl) (fun _ _ _ h => h) (yieldsIf_run rfl (fun w' hw' => ?y3)) hSw8 ?_
  case y3 => first | (go_simp; rfl) | (go_simp; done) | rfl
  simp only [Act.put, List.setIfInBounds_toArray, List.set_cons_zero, List.set_cons_succ]
  refine wpAnyH_takeI (i := 5) (v := ?v4) rfl (by kernel_rfl) (by kernel_rfl) (by kernel_rfl) (fun _ _ _ h => h) (yieldsIf_run rfl (fun w' hw' => ?y4)) hSw8 ?_
  case y4 => first | (go_simp; rfl) | (go_simp; done) | rfl
  simp only [Act.put, List.setIfInBounds_toArray, List.set_cons_zero, List.set_cons_succ]
  refine wpAnyH_done (by kernel_rfl) ?_ _
  refine NoPanic.normal ?_
  have hu7' := own_kept hu7 hbw8
  obtain ⟨L7, hL7⟩ : ∃ L7, encL ⟨x0, x1, x2, x3, x4, pl.take pm⟩ = L7 := ⟨_, rfl⟩
  obtain ⟨L8, hL8⟩ : ∃ L8, encL ⟨y0, y1, y2, y3, y4, ol.take om⟩ = L8 := ⟨_, rfl⟩
  have hd7 := dec_enc (chkP_ok HE1.out)
  have hd8 := dec_enc (chkP_ok HE2.out)
  have hh7 : halfL (L7.drop 16) = L7.take 16 := hL7 ▸ enc_half HPT.out
  have hh8 : halfL (L8.drop 16) = L8.take 16 := hL8 ▸ enc_half HOT.out
  rw [hL7] at hu7' hd7
  rw [hL8] at hu8 hd8
  have hl7 : L7.length = 256 := by simpa using hu7'.1
  have hl8 : L8.length = 256 := by simpa using hu8.1
  obtain ⟨a7, c7, rfl⟩ := ownsRow_form hu7'
  obtain ⟨a8, c8, rfl⟩ := ownsRow_form hu8
  obtain ⟨g7, rfl, _, hg7a, hg7b⟩ := own_addr hu7' (by decide)
  obtain ⟨g8, rfl, _, hg8a, hg8b⟩ := own_addr hu8 (by decide)
  have hc7 := (own_bytes hu7').len.2
  have hc8 := (own_bytes hu8).len.2
  have hsl7 := slice_cut8 g7 256 c7 at_ (by omega)
  have hsl8 := slice_from8 g8 256 c8 at_ hat hc8
  have hx7 : BytesN w8 (fun _ => True) (.slice (some ⟨g7, 0, none⟩) at_ c7) (L7.take at_) := BytesN.take (own_bytesN hu7').any at_ (by omega)
  have hx8 : BytesN w8 (fun _ => True) (.slice (some ⟨g8, at_, none⟩) (256 - at_) (c8 - at_)) (L8.drop at_) := by
    have hb := from_bytes hu8 (i := at_) (by omega)
    rw [if_neg (by omega)] at hb
    exact ⟨by simpa using hb.any, fun k c e => by cases e⟩
  have HU7 := Lib.hid hu7'
  have HU8 := Lib.hid hu8
  have HL7 := Lib.hid hl7
  have HL8 := Lib.hid hl8
  have HH7 := Lib.hid hh7
  have HH8 := Lib.hid hh8
  have HD7 := Lib.hid hd7
  have HD8 := Lib.hid hd8
  have HX7 := Lib.hid hx7
  have HX8 := Lib.hid hx8
  have HC7 := Lib.hid hc7
  have HC8 := Lib.hid hc8
  have HB8 := Lib.hid hSw8
  clear hu7 hu7' hu8 hL7 hL8 hl7 hl8 hh7 hh8 hd7 hd8 hx7 hx8 hc7 hc8 hg7a hg7b hg8a hg8b hbw7 hbw8 hS0 hSw7 hSw8
  go_wp2_with fail
  refine wp_region_noPanic ?_
  refine wp_region_H (Below w8.heap.size w8) (by kernel_rfl) ?_
  have hS0 : (Below w8.heap.size w8) w8.drew := (Below.refl _ _).drew
  obtain ⟨wd, hwd⟩ : ∃ wd, w8.drew = wd := ⟨_, rfl⟩
  rw [hwd] at hS0 ⊢
  clear hwd
  refine wpAnyH_takeI (i := 1) (v := ?v5) rfl (by kernel_rfl) (by kernel_rfl) (by kernel_rfl) (fun _ _ _ h => h) (yieldsIf_run rfl (fun w' hw' => ?y5)) hS0 ?_
  case y5 => first | (go_simp; rfl) | (go_simp; done) | rfl
  simp only [Act.put, List.setIfInBounds_toArray, List.set_cons_zero, List.set_cons_succ]
  refine wpAnyH_takeI (i := 2) (v := ?v6) rfl (by kernel_rfl) (by kernel_rfl) (by kernel_rfl) (fun _ _ _ h => h) (yieldsIf_run rfl (fun w' hw' => ?y6)) hS0 ?_
  case y6 => first | (go_simp; rfl) | (go_simp; done) | rfl
  simp only [Act.put, List.setIfInBounds_toArray, List.set_cons_zero, List.set_cons_succ]
  refine wpAnyH_takeI (i := 3) (v := ?v7) rfl (by kernel_rfl) (by kernel_rfl) (by kernel_rfl) (fun _ _ _ h => h) (yieldsIf_run rfl (fun w' hw' => ?y7)) hS0 ?_
  case y7 => first | (go_simp; rfl) | (go_simp; done) | rfl
  simp only [Act.put, List.setIfInBounds_toArray, List.set_cons_zero, List.set_cons_succ]
  refine wpAnyH_takeI (i := 5) (v := ?v8) rfl (by kernel_rfl) (by kernel_rfl) (by kernel_rfl) (fun _ _ _ h => h) (yieldsIf_run rfl (fun w' hw' => ?y8)) hS0 ?_
  case y8 => first | (go_simp; rfl) | (go_simp; done) | rfl
  simp only [Act.put, List.setIfInBounds_toArray, List.set_cons_zero, List.set_cons_succ]
  refine wpAnyH_takeI (i := 6) (v := ?v9) rfl (by kernel_rfl) (by kernel_rfl) (by kernel_rfl) (fun _ _ _ h => h) (yieldsIf_run rfl (fun w' hw' => ?y9)) hS0 ?_
  case y9 => first | (go_simp; rfl) | (go_simp; done) | rfl
  simp only [Act.put, List.setIfInBounds_toArray, List.set_cons_zero, List.set_cons_succ]
  refine wpAnyH_takeI (i := 7) (v := ?v10) rfl (by kernel_rfl) (by kernel_rfl) (by kernel_rfl) (fun _ _ _ h => h) (yieldsIf_run rfl (fun w' hw' => ?y10)) hS0 ?_
  case y10 => first | (go_simp; rfl) | (go_simp; done) | rfl
  simp only [Act.put, List.setIfInBounds_toArray, List.set_cons_zero, List.set_cons_succ]
  refine wpAnyH_do (i := 0) (by kernel_rfl) rfl rfl (fun K hK => ?_)
  go_simp
  obtain ⟨we, hwe⟩ : ∃ we, wd.alloc (.cells #[] 5) = we := ⟨_, rfl⟩
  have hSe : Below w8.heap.size w8 we := hwe ▸ hS0.alloc hS0.size _
  have hoe : we.ownsRow w8.heap.size 5 1 (.slice (some ⟨wd.heap.size, 0, none⟩) 0 0) 0 (bvs []) := hwe ▸ own_zero hS0.size 5
  try rw [hwe]
  refine hK _ _ (hSe) ?_
  clear hK K
  try simp only [Act.put, List.setIfInBounds_toArray, List.set_cons_zero, List.set_cons_succ]
  refine wpAnyH_do (i := 4) (by kernel_rfl) rfl rfl (fun K hK => ?_)
  refine wp_appN (m := at_) _ _ rfl rfl hoe rfl (HX7.out.below hSe) (by rw [List.length_take, HL7.out]; omega) (by omega) hSe.size ?_
  intro a' c' wa hoa hga
  have hSa : Below w8.heap.size w8 wa := hSe.grown hga hSe.size (fun j hj => (ownsRow_lt hoe j hj).1)
  rw [List.nil_append] at hoa
  simp only [Nat.zero_add] at hoa ⊢
  refine hK _ _ (hSa) ?_
  clear hK K
  try simp only [Act.put, List.setIfInBounds_toArray, List.set_cons_zero, List.set_cons_succ]
  refine wpAnyH_do (i := 8) (by kernel_rfl) rfl rfl (fun K hK => ?_)
  refine wp_appN (m := 256 - at_) _ _ rfl rfl hoa rfl (HX8.out.below hSa) (by rw [List.length_drop, HL8.out]) (by omega) hSa.size ?_
  intro aC cC wb hob hgb
  have hSb : Below w8.heap.size w8 wb := hSa.grown hgb hSa.size (fun j hj => (ownsRow_lt hoa j hj).1)
  have e256 : at_ + (256 - at_) = 256 := by omega
  rw [e256] at hob ⊢
  clear e256
  refine hK _ _ (hSb) ?_
  clear hK K
  try simp only [Act.put, List.setIfInBounds_toArray, List.set_cons_zero, List.set_cons_succ]
  refine wpAnyH_takeI (i := 9) (v := ?v11) rfl (by kernel_rfl) (by kernel_rfl) (by kernel_rfl) (fun _ _ _ h => h) (yieldsIf_run rfl (fun w' hw' => ?y11)) hSb ?_
  case y11 => first | (go_simp; rfl) | (go_simp; done) | rfl
  simp only [Act.put, List.setIfInBounds_toArray, List.set_cons_zero, List.set_cons_succ]
  refine wpAnyH_done (by kernel_rfl) ?_ _
  refine NoPanic.normal ?_
  obtain ⟨C, hC⟩ : ∃ C, L7.take at_ ++ L8.drop at_ = C := ⟨_, rfl⟩
  rw [hC] at hob
  have hlC : C.length = 256 := by simpa using hob.1
  obtain ⟨gC, rfl, _, _, _⟩ := own_addr hob (by decide)
  have hcC := (own_bytes hob).len.2
  have HOB := Lib.hid hob
  have HLC := Lib.hid hlC
  have HCC := Lib.hid hcC
  have HC := Lib.hid hC
  have HUB7 := Lib.hid (own_kept HU7.out hSb)
  have HUB8 := Lib.hid (own_kept HU8.out hSb)
  have hBb : Below w3.heap.size w3 wb := HB8.out.trans (hSb.mono HB8.out.size)
  have HBb := Lib.hid hBb
  have HKb := Lib.hid (HK.out.below (HB3.out.trans (hBb.mono HB3.out.size)) HK.out.size)
  clear hob hlC hcC hC hBb hoe hoa hSe hSa hSb hS0 HX7 HX8 HU7 HU8 HB8 hga hgb hwe hsl7 hsl8
  have HLP := Lib.hid (show (pl.take pm).length = pm by rw [List.length_take]; have := HPM.out; have := HPL.out; omega)
  have HLO := Lib.hid (show (ol.take om).length = om by rw [List.length_take]; have := HOM.out; have := HOL.out; omega)
  by_cases hc7 : L7 = C
  · subst hc7
    have hdec := DecodePart_any L7 _ (own_bytes HOB.out) HKb.out
    have HDEC := Lib.hid hdec
    clear hdec
    go_wp2_with fail
    refine HDEC.out.mono ?_
    intro e wA hd
    obtain ⟨a9, c9, rfl, ho9, hb9⟩ := hd.parts
    rw [HD7.out.1, HD7.out.2]
    rw [HD7.out.2] at ho9
    simp only [HLP.out] at ho9 ⊢
    obtain ⟨wB, hwB⟩ : ∃ wB, wA.alloc (.cells #[.int .i64 x0, .int .i64 x1, .int .i64 x2, .int .i64 x3, .int .i64 x4, .slice a9 pm c9] 25) = wB := ⟨_, rfl⟩
    have hbB : Below wA.heap.size wA wB := hwB ▸ (Below.refl _ _).alloc (Nat.le_refl _) _
    have hgB : wB.heap[wA.heap.size]? = some (.cells #[.int .i64 x0, .int .i64 x1, .int .i64 x2, .int .i64 x3, .int .i64 x4, .slice a9 pm c9] 25 (0, 0)) := by rw [← hwB]; exact heap_alloc_new _ _
    have hbb : Below wb.heap.size wb wB := hb9.trans (hbB.mono hb9.size)
    have hB3B : Below w3.heap.size w3 wB := HBb.out.trans (hbb.mono HBb.out.size)
    have hoB := own_kept HOB.out hbb
    have hu7B := own_kept HUB7.out hbb
    have hu8B := own_kept HUB8.out hbb
    have st0 := (own_bytes hoB).str
    have st7 := (own_bytes hu7B).str
    have st8 := (own_bytes hu8B).str
    rw [← hwB] at st0 st7 st8
    have HOC := Lib.hid hoB
    have HU7B := Lib.hid hu7B
    have HB3B := Lib.hid hB3B
    have HWB := Lib.hid hwB
    have HO9 := Lib.hid (own_kept ho9 hbB)
    have hcellB : ∀ w' : World, Below wB.heap.size wB w' → w'.cell? ⟨w.heap.size, 0, none⟩ = some (.int .i64 x0) ∧ w'.cell? ⟨w.heap.size, 1, none⟩ = some (.int .i64 x1) ∧ w'.cell? ⟨w.heap.size, 2, none⟩ = some (.int .i64 x2) ∧ w'.cell? ⟨w.heap.size, 3, none⟩ = some (.int .i64 x3) ∧ w'.cell? ⟨w.heap.size, 4, none⟩ = some (.int .i64 x4) ∧ w'.cell? ⟨w.heap.size, 5, none⟩ = some (.slice pa pm pc) ∧ w'.cell? ⟨wA.heap.size, 0, none⟩ = some (.int .i64 x0) ∧ w'.cell? ⟨wA.heap.size, 1, none⟩ = some (.int .i64 x1) ∧ w'.cell? ⟨wA.heap.size, 2, none⟩ = some (.int .i64 x2) ∧ w'.cell? ⟨wA.heap.size, 3, none⟩ = some (.int .i64 x3) ∧ w'.cell? ⟨wA.heap.size, 4, none⟩ = some (.int .i64 x4) ∧ w'.cell? ⟨wA.heap.size, 5, none⟩ = some (.slice a9 pm c9) := by
      intro w' hb
      obtain ⟨z0, z1, z2, z3, z4, z5, z6, z7, z8, z9, z10, z11⟩ := HCELL.out w' (HB3B.out.trans (hb.mono HB3B.out.size))
      have h1 := (hb.block wA.heap.size (Array.getElem?_eq_some_iff.1 hgB).1).trans hgB
      refine ⟨z0, z1, z2, z3, z4, z5, ?_, ?_, ?_, ?_, ?_, ?_⟩ <;> (rw [cell_of_row _ _ _ _ _ _ h1]; rfl)
    have HCELLB := Lib.hid hcellB
    clear hcellB ho9
    clear hd hwB hbB hgB hB3B hoB hu7B hu8B hb9 hbb
    go_wp2_with fail
    try rw [HWB.out]
    clear st0 st7 st8
    refine wp_region_noPanic ?_
    refine wp_region_H (Below wB.heap.size wB) (by kernel_rfl) ?_
    have hS0 : (Below wB.heap.size wB) wB.drew := (Below.refl _ _).drew
    obtain ⟨wd, hwd⟩ : ∃ wd, wB.drew = wd := ⟨_, rfl⟩
    rw [hwd] at hS0 ⊢
    clear hwd
    refine wpAnyH_takeI (i := 0) (v := ?v12) rfl (by kernel_rfl) (by kernel_rfl) (by kernel_rfl) (fun _ _ _ h => h) (yieldsIf_run rfl (fun w' hw' => ?y12)) hS0 ?_
    case y12 => first | (go_simp; rfl) | (go_simp; done) | rfl
    simp only [Act.put, List.setIfInBounds_toArray, List.set_cons_zero, List.set_cons_succ]
    refine wpAnyH_takeI (i := 1) (v := ?v13) rfl (by kernel_rfl) (by kernel_rfl) (by kernel_rfl) (fun _ _ _ h => h) (yieldsIf_run rfl (fun w' hw' => ?y13)) hS0 ?_
    case y13 => first | (go_simp; rfl) | (go_simp; done) | rfl
    simp only [Act.put, List.setIfInBounds_toArray, List.set_cons_zero, List.set_cons_succ]
    refine wpAnyH_takeI (i := 2) (v := ?v14) rfl (by kernel_rfl) (by kernel_rfl) (by kernel_rfl) (fun _ _ _ h => h) (yieldsIf_run rfl (fun w' hw' => ?y14)) hS0 ?_
    case y14 => first | (go_simp; rfl) | (go_simp; done) | rfl
    simp only [Act.put, List.setIfInBounds_toArray, List.set_cons_zero, List.set_cons_succ]
    refine wpAnyH_takeI (i := 3) (v := ?v15) rfl (by kernel_rfl) (by kernel_rfl) (by kernel_rfl) (fun _ _ _ h => h) (yieldsIf_want rfl (fun w' hw' => ?y15)) hS0 ?_
    case y15 => (obtain ⟨z0, z1, z2, z3, z4, z5, z6, z7, z8, z9, z10, z11⟩ := HCELLB.out w' hw'; clear hw'; first | (go_simp; rfl) | (go_simp; done))
    simp only [Act.put, List.setIfInBounds_toArray, List.set_cons_zero, List.set_cons_succ]
    refine wpAnyH_takeI (i := 5) (v := ?v16) rfl (by kernel_rfl) (by kernel_rfl) (by kernel_rfl) (fun _ _ _ h => h) (yieldsIf_want rfl (fun w' hw' => ?y16)) hS0 ?_
    case y16 => (obtain ⟨z0, z1, z2, z3, z4, z5, z6, z7, z8, z9, z10, z11⟩ := HCELLB.out w' hw'; clear hw'; first | (go_simp; rfl) | (go_simp; done))
    simp only [Act.put, List.setIfInBounds_toArray, List.set_cons_zero, List.set_cons_succ]
    refine wpAnyH_want (i := 4) (by kernel_rfl) rfl rfl (fun K hK => ?_)
    go_simp
    go_at_call 16
    refine (back_any x0 x1 x2 x3 x4 a9 pm c9 wd).mono ?_
    rintro e wx ⟨rfl, hbwx⟩
    have hSwx := hS0.trans (hbwx.mono hS0.size)
    refine hK _ _ (hSwx) ?_
    clear hK K
    try simp only [Act.put, List.setIfInBounds_toArray, List.set_cons_zero, List.set_cons_succ]
    refine wpAnyH_want (i := 6) (by kernel_rfl) rfl rfl (fun K hK => ?_)
    go_simp
    go_at_call 23
    refine (same_any x0 x1 x2 x3 x4 a9 pa pm c9 pm pc (pl.take pm) ((own_bytes HO9.out).below hSwx) ((HP3.out.below (HB3B.out.trans (hSwx.mono HB3B.out.size))).at_)).mono ?_
    rintro e wy ⟨rfl, hbwy⟩
    have hSwy := hSwx.trans (hbwy.mono hSwx.size)
    refine hK _ _ (hSwy) ?_
    clear hK K
    try simp only [Act.put, List.setIfInBounds_toArray, List.set_cons_zero, List.set_cons_succ]
    refine wpAnyH_takeI (i := 7) (v := ?v17) rfl (by kernel_rfl) (by kernel_rfl) (by kernel_rfl) (fun _ _ _ h => h) (yieldsIf_run rfl (fun w' hw' => ?y17)) hSwy ?_
    case y17 => first | (go_simp; rfl) | (go_simp; done) | rfl
    simp only [Act.put, List.setIfInBounds_toArray, List.set_cons_zero, List.set_cons_succ]
    refine wpAnyH_takeI (i := 8) (v := ?v18) rfl (by kernel_rfl) (by kernel_rfl) (by kernel_rfl) (fun _ _ _ h => h) (yieldsIf_run rfl (fun w' hw' => ?y18)) hSwy ?_
    case y18 => first | (go_simp; rfl) | (go_simp; done) | rfl
    simp only [Act.put, List.setIfInBounds_toArray, List.set_cons_zero, List.set_cons_succ]
    refine wpAnyH_done (by kernel_rfl) ?_ _
    refine NoPanic.normal ?_
    go_wp2_with fail
    go_ret
    exact ⟨rfl, HB3.out.trans ((HB3B.out.trans (hSwy.mono HB3B.out.size)).mono HB3.out.size)⟩
  have hn7 : (C == L7) = false := by simpa using (fun h : C = L7 => hc7 h.symm)
  by_cases hc8 : L8 = C
  · subst hc8
    have hdec := DecodePart_any L8 _ (own_bytes HOB.out) HKb.out
    have HDEC := Lib.hid hdec
    clear hdec
    go_wp2_with fail
    refine HDEC.out.mono ?_
    intro e wA hd
    obtain ⟨a9, c9, rfl, ho9, hb9⟩ := hd.parts
    rw [HD8.out.1, HD8.out.2]
    rw [HD8.out.2] at ho9
    simp only [HLO.out] at ho9 ⊢
    obtain ⟨wB, hwB⟩ : ∃ wB, wA.alloc (.cells #[.int .i64 y0, .int .i64 y1, .int .i64 y2, .int .i64 y3, .int .i64 y4, .slice a9 om c9] 25) = wB := ⟨_, rfl⟩
    have hbB : Below wA.heap.size wA wB := hwB ▸ (Below.refl _ _).alloc (Nat.le_refl _) _
    have hgB : wB.heap[wA.heap.size]? = some (.cells #[.int .i64 y0, .int .i64 y1, .int .i64 y2, .int .i64 y3, .int .i64 y4, .slice a9 om c9] 25 (0, 0)) := by rw [← hwB]; exact heap_alloc_new _ _
    have hbb : Below wb.heap.size wb wB := hb9.trans (hbB.mono hb9.size)
    have hB3B : Below w3.heap.size w3 wB := HBb.out.trans (hbb.mono HBb.out.size)
    have hoB := own_kept HOB.out hbb
    have hu7B := own_kept HUB7.out hbb
    have hu8B := own_kept HUB8.out hbb
    have st0 := (own_bytes hoB).str
    have st7 := (own_bytes hu7B).str
    have st8 := (own_bytes hu8B).str
    rw [← hwB] at st0 st7 st8
    have HOC := Lib.hid hoB
    have HU7B := Lib.hid hu7B
    have HB3B := Lib.hid hB3B
    have HWB := Lib.hid hwB
    have HO9 := Lib.hid (own_kept ho9 hbB)
    have hcellB : ∀ w' : World, Below wB.heap.size wB w' → w'.cell? ⟨w.heap.size + 1, 0, none⟩ = some (.int .i64 y0) ∧ w'.cell? ⟨w.heap.size + 1, 1, none⟩ = some (.int .i64 y1) ∧ w'.cell? ⟨w.heap.size + 1, 2, none⟩ = some (.int .i64 y2) ∧ w'.cell? ⟨w.heap.size + 1, 3, none⟩ = some (.int .i64 y3) ∧ w'.cell? ⟨w.heap.size + 1, 4, none⟩ = some (.int .i64 y4) ∧ w'.cell? ⟨w.heap.size + 1, 5, none⟩ = some (.slice oa om oc) ∧ w'.cell? ⟨wA.heap.size, 0, none⟩ = some (.int .i64 y0) ∧ w'.cell? ⟨wA.heap.size, 1, none⟩ = some (.int .i64 y1) ∧ w'.cell? ⟨wA.heap.size, 2, none⟩ = some (.int .i64 y2) ∧ w'.cell? ⟨wA.heap.size, 3, none⟩ = some (.int .i64 y3) ∧ w'.cell? ⟨wA.heap.size, 4, none⟩ = some (.int .i64 y4) ∧ w'.cell? ⟨wA.heap.size, 5, none⟩ = some (.slice a9 om c9) := by
      intro w' hb
      obtain ⟨z0, z1, z2, z3, z4, z5, z6, z7, z8, z9, z10, z11⟩ := HCELL.out w' (HB3B.out.trans (hb.mono HB3B.out.size))
      have h1 := (hb.block wA.heap.size (Array.getElem?_eq_some_iff.1 hgB).1).trans hgB
      refine ⟨z6, z7, z8, z9, z10, z11, ?_, ?_, ?_, ?_, ?_, ?_⟩ <;> (rw [cell_of_row _ _ _ _ _ _ h1]; rfl)
    have HCELLB := Lib.hid hcellB
    clear hcellB ho9
    clear hd hwB hbB hgB hB3B hoB hu7B hu8B hb9 hbb
    go_wp2_with fail
    try rw [HWB.out]
    clear st0 st7 st8
    refine wp_region_noPanic ?_
    refine wp_region_H (Below wB.heap.size wB) (by kernel_rfl) ?_
    have hS0 : (Below wB.heap.size wB) wB.drew := (Below.refl _ _).drew
    obtain ⟨wd, hwd⟩ : ∃ wd, wB.drew = wd := ⟨_, rfl⟩
    rw [hwd] at hS0 ⊢
    clear hwd
    refine wpAnyH_takeI (i := 0) (v := ?v19) rfl (by kernel_rfl) (by kernel_rfl) (by kernel_rfl) (fun _ _ _ h => h) (yieldsIf_run rfl (fun w' hw' => ?y19)) hS0 ?_
    case y19 => first | (go_simp; rfl) | (go_simp; done) | rfl
    simp only [Act.put, List.setIfInBounds_toArray, List.set_cons_zero, List.set_cons_succ]
    refine wpAnyH_takeI (i := 1) (v := ?v20) rfl (by kernel_rfl) (by kernel_rfl) (by kernel_rfl) (fun _ _ _ h => h) (yieldsIf_run rfl (fun w' hw' => ?y20)) hS0 ?_
    case y20 => first | (go_simp; rfl) | (go_simp; done) | rfl
    simp only [Act.put, List.setIfInBounds_toArray, List.set_cons_zero, List.set_cons_succ]
    refine wpAnyH_takeI (i := 2) (v := ?v21) rfl (by kernel_rfl) (by kernel_rfl) (by kernel_rfl) (fun _ _ _ h => h) (yieldsIf_run rfl (fun w' hw' => ?y21)) hS0 ?_
    case y21 => first | (go_simp; rfl) | (go_simp; done) | rfl
    simp only [Act.put, List.setIfInBounds_toArray, List.set_cons_zero, List.set_cons_succ]
    refine wpAnyH_takeI (i := 3) (v := ?v22) rfl (by kernel_rfl) (by kernel_rfl) (by kernel_rfl) (fun _ _ _ h => h) (yieldsIf_want rfl (fun w' hw' => ?y22)) hS0 ?_
    case y22 => (obtain ⟨z0, z1, z2, z3, z4, z5, z6, z7, z8, z9, z10, z11⟩ := HCELLB.out w' hw'; clear hw'; first | (go_simp; rfl) | (go_simp; done))
    simp only [Act.put, List.setIfInBounds_toArray, List.set_cons_zero, List.set_cons_succ]
    refine wpAnyH_takeI (i := 5) (v := ?v23) rfl (by kernel_rfl) (by kernel_rfl) (by kernel_rfl) (fun _ _ _ h => h) (yieldsIf_want rfl (fun w' hw' => ?y23)) hS0 ?_
    case y23 => (obtain ⟨z0, z1, z2, z3, z4, z5, z6, z7, z8, z9, z10, z11⟩ := HCELLB.out w' hw'; clear hw'; first | (go_simp; rfl) | (go_simp; done))
    simp only [Act.put, List.setIfInBounds_toArray, List.set_cons_zero, List.set_cons_succ]
    refine wpAnyH_want (i := 4) (by kernel_rfl) rfl rfl (fun K hK => ?_)
    go_simp
    go_at_call 16
    refine (back_any y0 y1 y2 y3 y4 a9 om c9 wd).mono ?_
    rintro e wx ⟨rfl, hbwx⟩
    have hSwx := hS0.trans (hbwx.mono hS0.size)
    refine hK _ _ (hSwx) ?_
    clear hK K
    try simp only [Act.put, List.setIfInBounds_toArray, List.set_cons_zero, List.set_cons_succ]
    refine wpAnyH_want (i := 6) (by kernel_rfl) rfl rfl (fun K hK => ?_)
    go_simp
    go_at_call 23
    refine (same_any y0 y1 y2 y3 y4 a9 oa om c9 om oc (ol.take om) ((own_bytes HO9.out).below hSwx) ((HO3.out.below (HB3B.out.trans (hSwx.mono HB3B.out.size))).at_)).mono ?_
    rintro e wy ⟨rfl, hbwy⟩
    have hSwy := hSwx.trans (hbwy.mono hSwx.size)
    refine hK _ _ (hSwy) ?_
    clear hK K
    try simp only [Act.put, List.setIfInBounds_toArray, List.set_cons_zero, List.set_cons_succ]
    refine wpAnyH_takeI (i := 7) (v := ?v24) rfl (by kernel_rfl) (by kernel_rfl) (by kernel_rfl) (fun _ _ _ h => h) (yieldsIf_run rfl (fun w' hw' => ?y24)) hSwy ?_
    case y24 => first | (go_simp; rfl) | (go_simp; done) | rfl
    simp only [Act.put, List.setIfInBounds_toArray, List.set_cons_zero, List.set_cons_succ]
    refine wpAnyH_takeI (i := 8) (v := ?v25) rfl (by kernel_rfl) (by kernel_rfl) (by kernel_rfl) (fun _ _ _ h => h) (yieldsIf_run rfl (fun w' hw' => ?y25)) hSwy ?_
    case y25 => first | (go_simp; rfl) | (go_simp; done) | rfl
    simp only [Act.put, List.setIfInBounds_toArray, List.set_cons_zero, List.set_cons_succ]
    refine wpAnyH_done (by kernel_rfl) ?_ _
    refine NoPanic.normal ?_
    go_wp2_with fail
    go_ret
    exact ⟨rfl, HB3.out.trans ((HB3B.out.trans (hSwy.mono HB3B.out.size)).mono HB3.out.size)⟩
  have hn8 : (C == L8) = false := by simpa using (fun h : C = L8 => hc8 h.symm)
  have HT := Lib.hid (torn HL7.out HL8.out HH7.out HH8.out (Nat.le_of_lt hat) (fun h => hc7 (h.symm.trans HC.out)) (fun h => hc8 (h.symm.trans HC.out)))
  clear hc7 hc8
  have hdec := DecodePart_any C _ (own_bytes HOB.out) HKb.out
  have HDEC := Lib.hid hdec
  clear hdec
  go_wp2_with fail
  refine HDEC.out.mono ?_
  intro e wA hd
  obtain ⟨a9, c9, rfl, ho9, hb9⟩ := hd.parts
  obtain ⟨d, hd'⟩ : ∃ d, decP C = d := ⟨_, rfl⟩
  obtain ⟨E, hE⟩ : ∃ E, decE C = E := ⟨_, rfl⟩
  rw [hd', hE]
  obtain ⟨N, hN⟩ : ∃ N, d.bytes.length = N := ⟨_, rfl⟩
  rw [hN]
  clear hd' hN ho9
  obtain ⟨wB, hwB⟩ : ∃ wB, wA.alloc (.cells #[.int .i64 d.kind, .int .i64 d.gen, .int .i64 d.num, .int .i64 d.idx, .int .i64 d.cnt, .slice a9 N c9] 25) = wB := ⟨_, rfl⟩
  have hbB : Below wA.heap.size wA wB := hwB ▸ (Below.refl _ _).alloc (Nat.le_refl _) _
  have hgB : wB.heap[wA.heap.size]? = some (.cells #[.int .i64 d.kind, .int .i64 d.gen, .int .i64 d.num, .int .i64 d.idx, .int .i64 d.cnt, .slice a9 N c9] 25 (0, 0)) := by rw [← hwB]; exact heap_alloc_new _ _
  have hbb : Below wb.heap.size wb wB := hb9.trans (hbB.mono hb9.size)
  have hB3B : Below w3.heap.size w3 wB := HBb.out.trans (hbb.mono HBb.out.size)
  have hoB := own_kept HOB.out hbb
  have hu7B := own_kept HUB7.out hbb
  have hu8B := own_kept HUB8.out hbb
  have st0 := (own_bytes hoB).str
  have st7 := (own_bytes hu7B).str
  have st8 := (own_bytes hu8B).str
  rw [← hwB] at st0 st7 st8
  have HOC := Lib.hid hoB
  have HU7B := Lib.hid hu7B
  have HB3B := Lib.hid hB3B
  have HWB := Lib.hid hwB
  clear hd hwB hbB hgB hB3B hoB hu7B hu8B hb9 hbb
  have hsl1 := slice_16 g7 c7 HC7.out
  have hsl2 := slice_16 gC cC HCC.out
  have HX1 := Lib.hid (bytes_16 HU7B.out HC7.out)
  have HX2 := Lib.hid (bytes_16 HOC.out HCC.out)
  have HE := Lib.hid hE
  clear hE
  go_wp2_with fail
  try rw [HWB.out]
  clear st0 st7 st8 hn7 hn8
  rcases HT.out with ht | ⟨hne, hhf⟩
  · rw [HC.out, HE.out] at ht
    subst ht
    refine wp_region_noPanic ?_
    refine wp_region_H (Below wB.heap.size wB) (by kernel_rfl) ?_
    have hS0 : (Below wB.heap.size wB) wB.drew := (Below.refl _ _).drew
    obtain ⟨wd, hwd⟩ : ∃ wd, wB.drew = wd := ⟨_, rfl⟩
    rw [hwd] at hS0 ⊢
    clear hwd
    refine wpAnyH_takeI (i := 0) (v := ?v26) rfl (by kernel_rfl) (by kernel_rfl) (by kernel_rfl) (fun _ _ _ h => h) (yieldsIf_run rfl (fun w' hw' => ?y26)) hS0 ?_
    case y26 => first | (go_simp; rfl) | (go_simp; done) | rfl
    simp only [Act.put, List.setIfInBounds_toArray, List.set_cons_zero, List.set_cons_succ]
    refine wpAnyH_takeI (i := 1) (v := ?v27) rfl (by kernel_rfl) (by kernel_rfl) (by kernel_rfl) (fun _ _ _ h => h) (yieldsIf_run rfl (fun w' hw' => ?y27)) hS0 ?_
    case y27 => first | (go_simp; rfl) | (go_simp; done) | rfl
    simp only [Act.put, List.setIfInBounds_toArray, List.set_cons_zero, List.set_cons_succ]
    refine wpAnyH_takeI (i := 2) (v := ?v28) rfl (by kernel_rfl) (by kernel_rfl) (by kernel_rfl) (fun _ _ _ h => h) (yieldsIf_run rfl (fun w' hw' => ?y28)) hS0 ?_
    case y28 => first | (go_simp; rfl) | (go_simp; done) | rfl
    simp only [Act.put, List.setIfInBounds_toArray, List.set_cons_zero, List.set_cons_succ]
    refine wpAnyH_takeI (i := 3) (v := undef) rfl (by kernel_rfl) (by kernel_rfl) (by kernel_rfl) (fun _ _ _ h => h) (yieldsIf_skip rfl) hS0 ?_
    simp only [Act.put, List.setIfInBounds_toArray, List.set_cons_zero, List.set_cons_succ]
    refine wpAnyH_takeI (i := 4) (v := undef) rfl (by kernel_rfl) (by kernel_rfl) (by kernel_rfl) (fun _ _ _ h => h) (yieldsIf_skip rfl) hS0 ?_
    simp only [Act.put, List.setIfInBounds_toArray, List.set_cons_zero, List.set_cons_succ]
    refine wpAnyH_takeI (i := 5) (v := undef) rfl (by kernel_rfl) (by kernel_rfl) (by kernel_rfl) (fun _ _ _ h => h) (yieldsIf_skip rfl) hS0 ?_
    simp only [Act.put, List.setIfInBounds_toArray, List.set_cons_zero, List.set_cons_succ]
    refine wpAnyH_takeI (i := 6) (v := undef) rfl (by kernel_rfl) (by kernel_rfl) (by kernel_rfl) (fun _ _ _ h => h) (yieldsIf_skip rfl) hS0 ?_
    simp only [Act.put, List.setIfInBounds_toArray, List.set_cons_zero, List.set_cons_succ]
    refine wpAnyH_takeI (i := 7) (v := undef) rfl (by kernel_rfl) (by kernel_rfl) (by kernel_rfl) (fun _ _ _ h => h) (yieldsIf_skip rfl) hS0 ?_
    simp only [Act.put, List.setIfInBounds_toArray, List.set_cons_zero, List.set_cons_succ]
    refine wpAnyH_takeI (i := 8) (v := ?v29) rfl (by kernel_rfl) (by kernel_rfl) (by kernel_rfl) (fun _ _ _ h => h) (yieldsIf_run rfl (fun w' hw' => ?y29)) hS0 ?_
    case y29 => first | (go_simp; rfl) | (go_simp; done) | rfl
    simp only [Act.put, List.setIfInBounds_toArray, List.set_cons_zero, List.set_cons_succ]
    refine wpAnyH_takeI (i := 9) (v := ?v30) rfl (by kernel_rfl) (by kernel_rfl) (by kernel_rfl) (fun _ _ _ h => h) (yieldsIf_run rfl (fun w' hw' => ?y30)) hS0 ?_
    case y30 => first | (go_simp; rfl) | (go_simp; done) | rfl
    simp only [Act.put, List.setIfInBounds_toArray, List.set_cons_zero, List.set_cons_succ]
    refine wpAnyH_done (by kernel_rfl) ?_ _
    refine NoPanic.normal ?_
    go_wp2_with fail
    go_ret
    exact ⟨rfl, HB3.out.trans ((HB3B.out.trans (hS0.mono HB3B.out.size)).mono HB3.out.size)⟩
  · rw [HC.out] at hne hhf
    by_cases h22 : E = 22
    · subst h22
      refine wp_region_noPanic ?_
      refine wp_region_H (Below wB.heap.size wB) (by kernel_rfl) ?_
      have hS0 : (Below wB.heap.size wB) wB.drew := (Below.refl _ _).drew
      obtain ⟨wd, hwd⟩ : ∃ wd, wB.drew = wd := ⟨_, rfl⟩
      rw [hwd] at hS0 ⊢
      clear hwd
      refine wpAnyH_takeI (i := 0) (v := ?v31) rfl (by kernel_rfl) (by kernel_rfl) (by kernel_rfl) (fun _ _ _ h => h) (yieldsIf_run rfl (fun w' hw' => ?y31)) hS0 ?_
      case y31 => first | (go_simp; rfl) | (go_simp; done) | rfl
      simp only [Act.put, List.setIfInBounds_toArray, List.set_cons_zero, List.set_cons_succ]
      refine wpAnyH_takeI (i := 1) (v := ?v32) rfl (by kernel_rfl) (by kernel_rfl) (by kernel_rfl) (fun _ _ _ h => h) (yieldsIf_run rfl (fun w' hw' => ?y32)) hS0 ?_
      case y32 => first | (go_simp; rfl) | (go_simp; done) | rfl
      simp only [Act.put, List.setIfInBounds_toArray, List.set_cons_zero, List.set_cons_succ]
      refine wpAnyH_takeI (i := 2) (v := ?v33) rfl (by kernel_rfl) (by kernel_rfl) (by kernel_rfl) (fun _ _ _ h => h) (yieldsIf_run rfl (fun w' hw' => ?y33)) hS0 ?_
      case y33 => first | (go_simp; rfl) | (go_simp; done) | rfl
      simp only [Act.put, List.setIfInBounds_toArray, List.set_cons_zero, List.set_cons_succ]
      refine wpAnyH_takeI (i := 3) (v := undef) rfl (by kernel_rfl) (by kernel_rfl) (by kernel_rfl) (fun _ _ _ h => h) (yieldsIf_skip rfl) hS0 ?_
      simp only [Act.put, List.setIfInBounds_toArray, List.set_cons_zero, List.set_cons_succ]
      refine wpAnyH_takeI (i := 4) (v := undef) rfl (by kernel_rfl) (by kernel_rfl) (by kernel_rfl) (fun _ _ _ h => h) (yieldsIf_skip rfl) hS0 ?_
      simp only [Act.put, List.setIfInBounds_toArray, List.set_cons_zero, List.set_cons_succ]
      refine wpAnyH_takeI (i := 5) (v := undef) rfl (by kernel_rfl) (by kernel_rfl) (by kernel_rfl) (fun _ _ _ h => h) (yieldsIf_skip rfl) hS0 ?_
      simp only [Act.put, List.setIfInBounds_toArray, List.set_cons_zero, List.set_cons_succ]
      refine wpAnyH_takeI (i := 6) (v := undef) rfl (by kernel_rfl) (by kernel_rfl) (by kernel_rfl) (fun _ _ _ h => h) (yieldsIf_skip rfl) hS0 ?_
      simp only [Act.put, List.setIfInBounds_toArray, List.set_cons_zero, List.set_cons_succ]
      refine wpAnyH_takeI (i := 7) (v := undef) rfl (by kernel_rfl) (by kernel_rfl) (by kernel_rfl) (fun _ _ _ h => h) (yieldsIf_skip rfl) hS0 ?_
      simp only [Act.put, List.setIfInBounds_toArray, List.set_cons_zero, List.set_cons_succ]
      refine wpAnyH_takeI (i := 8) (v := ?v34) rfl (by kernel_rfl) (by kernel_rfl) (by kernel_rfl) (fun _ _ _ h => h) (yieldsIf_run rfl (fun w' hw' => ?y34)) hS0 ?_
      case y34 => first | (go_simp; rfl) | (go_simp; done) | rfl
      simp only [Act.put, List.setIfInBounds_toArray, List.set_cons_zero, List.set_cons_succ]
      refine wpAnyH_takeI (i := 9) (v := ?v35) rfl (by kernel_rfl) (by kernel_rfl) (by kernel_rfl) (fun _ _ _ h => h) (yieldsIf_run rfl (fun w' hw' => ?y35)) hS0 ?_
      case y35 => first | (go_simp; rfl) | (go_simp; done) | rfl
      simp only [Act.put, List.setIfInBounds_toArray, List.set_cons_zero, List.set_cons_succ]
      refine wpAnyH_done (by kernel_rfl) ?_ _
      refine NoPanic.normal ?_
      go_wp2_with fail
      go_ret
      exact ⟨rfl, HB3.out.trans ((HB3B.out.trans (hS0.mono HB3B.out.size)).mono HB3.out.size)⟩
    · have h22b : (E == 22) = false := by simpa using h22
      refine wp_region_noPanic ?_
      refine wp_region_H (Below wB.heap.size wB) (by kernel_rfl) ?_
      have hS0 : (Below wB.heap.size wB) wB.drew := (Below.refl _ _).drew
      obtain ⟨wd, hwd⟩ : ∃ wd, wB.drew = wd := ⟨_, rfl⟩
      rw [hwd] at hS0 ⊢
      clear hwd
      refine wpAnyH_takeI (i := 0) (v := ?v36) rfl (by kernel_rfl) (by kernel_rfl) (by kernel_rfl) (fun _ _ _ h => h) (yieldsIf_run rfl (fun w' hw' => ?y36)) hS0 ?_
      case y36 => first | (go_simp; rfl) | (go_simp; done) | rfl
      simp only [Act.put, List.setIfInBounds_toArray, List.set_cons_zero, List.set_cons_succ]
      refine wpAnyH_takeI (i := 1) (v := ?v37) rfl (by kernel_rfl) (by kernel_rfl) (by kernel_rfl) (fun _ _ _ h => h) (yieldsIf_run rfl (fun w' hw' => ?y37)) hS0 ?_
      case y37 => first | (go_simp; rfl) | (go_simp; done) | rfl
      simp only [Act.put, List.setIfInBounds_toArray, List.set_cons_zero, List.set_cons_succ]
      refine wpAnyH_takeI (i := 2) (v := ?v38) rfl (by kernel_rfl) (by kernel_rfl) (by kernel_rfl) (fun _ _ _ h => h) (yieldsIf_run rfl (fun w' hw' => ?y38)) hS0 ?_
      case y38 => first | (go_simp; rfl) | (go_simp; done) | rfl
      simp only [Act.put, List.setIfInBounds_toArray, List.set_cons_zero, List.set_cons_succ]
      refine wpAnyH_takeI (i := 3) (v := ?v39) rfl (by kernel_rfl) (by kernel_rfl) (by kernel_rfl) (fun _ _ _ h => h) (yieldsIf_want rfl (fun w' hw' => ?y39)) hS0 ?_
      case y39 => first | (go_simp; rfl) | (go_simp; done) | rfl
      simp only [Act.put, List.setIfInBounds_toArray, List.set_cons_zero, List.set_cons_succ]
      refine wpAnyH_takeI (i := 4) (v := ?v40) rfl (by kernel_rfl) (by kernel_rfl) (by kernel_rfl) (fun _ _ _ h => h) (yieldsIf_want rfl (fun w' hw' => ?y40)) hS0 ?_
      case y40 => first | (go_simp; rfl) | (go_simp; done) | rfl
      simp only [Act.put, List.setIfInBounds_toArray, List.set_cons_zero, List.set_cons_succ]
      refine wpAnyH_takeI (i := 5) (v := ?v41) rfl (by kernel_rfl) (by kernel_rfl) (by kernel_rfl) (fun _ _ _ h => h) (yieldsIf_want rfl (fun w' hw' => ?y41)) hS0 ?_
      case y41 => first | (go_simp; rfl) | (go_simp; done) | rfl
      simp only [Act.put, List.setIfInBounds_toArray, List.set_cons_zero, List.set_cons_succ]
      refine wpAnyH_takeI (i := 6) (v := ?v42) rfl (by kernel_rfl) (by kernel_rfl) (by kernel_rfl) (fun _ _ _ h => h) (yieldsIf_want rfl (fun w' hw' => ?y42)) hS0 ?_
      case y42 => first | (go_simp; rfl) | (go_simp; done) | rfl
      simp only [Act.put, List.setIfInBounds_toArray, List.set_cons_zero, List.set_cons_succ]
      refine wpAnyH_want (i := 7) (by kernel_rfl) rfl rfl (fun K hK => ?_)
      go_simp
      go_at_call 26
      refine (collide_any _ _ _ _ (HX1.out.below hS0) (HX2.out.below hS0) (by rw [List.length_drop, HL7.out]; omega) (by rw [List.length_drop, HLC.out]; omega) hne hhf).mono ?_
      rintro e wz ⟨rfl, hbwz⟩
      have hSwz := hS0.trans (hbwz.mono hS0.size)
      refine hK _ _ (hSwz) ?_
      clear hK K
      try simp only [Act.put, List.setIfInBounds_toArray, List.set_cons_zero, List.set_cons_succ]
      refine wpAnyH_takeI (i := 8) (v := ?v43) rfl (by kernel_rfl) (by kernel_rfl) (by kernel_rfl) (fun _ _ _ h => h) (yieldsIf_run rfl (fun w' hw' => ?y43)) hSwz ?_
      case y43 => first | (go_simp; rfl) | (go_simp; done) | rfl
      simp only [Act.put, List.setIfInBounds_toArray, List.set_cons_zero, List.set_cons_succ]
      refine wpAnyH_takeI (i := 9) (v := ?v44) rfl (by kernel_rfl) (by kernel_rfl) (by kernel_rfl) (fun _ _ _ h => h) (yieldsIf_run rfl (fun w' hw' => ?y44)) hSwz ?_
      case y44 => first | (go_simp; rfl) | (go_simp; done) | rfl
      simp only [Act.put, List.setIfInBounds_toArray, List.set_cons_zero, List.set_cons_succ]
      refine wpAnyH_done (by kernel_rfl) ?_ _
      refine NoPanic.normal ?_
      go_wp2_with fail
      go_ret
      exact ⟨rfl, HB3.out.trans ((HB3B.out.trans (hSwz.mono HB3B.out.size)).mono HB3.out.size)⟩

end Go.Proofs.YtloaenknhkfaeaaDoor
