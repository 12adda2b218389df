/- Records: the law Tampering. -/
import Derived.Test.YtloaenknhkfaeaaDoorRec26
namespace Go.Proofs.YtloaenknhkfaeaaDoor
open Go.RowKit
set_option linter.unusedVariables false
set_option linter.unusedSimpArgs false

theorem enc_half {p : PartD} (h : p.bytes.length ≤ 224) : halfL ((encL p).drop 16) = (encL p).take 16 := by
  rw [encL_rest h, List.drop_left' (by simp [halfL]), List.take_left' (by simp [halfL])]
theorem xor_ne (c b : UInt8) (h : b ≠ 0) : c ^^^ b ≠ c := fun e => h (by
  have h2 : c ^^^ (c ^^^ b) = c ^^^ c := by rw [e]
  rwa [← UInt8.xor_assoc, UInt8.xor_self, UInt8.zero_xor] at h2)
theorem slice_16 (g c : Nat) (hc : 256 ≤ c) (w : World) :
    (Instr.sliceAt 22 (.slice (some ⟨g, 0, none⟩) 256 c) (some (.int .i64 16)) none none).run Tryd.prog w = .ok (.slice (some ⟨g, 16, none⟩) 240 (c - 16)) w := by
  have h := slice_from g 0 256 c 16 (by omega) hc w
  rw [if_neg (by omega)] at h
  simpa using h
theorem bytes_16 {w : World} {B g c : Nat} {l : List UInt8} (h : w.ownsRow B 5 1 (.slice (some ⟨g, 0, none⟩) 256 c) 256 (bvs l)) (hc : 256 ≤ c) : BytesN w (fun k => B ≤ k) (.slice (some ⟨g, 16, none⟩) 240 (c - 16)) (l.drop 16) := by
  have hb := from_bytes h (i := 16) (by omega)
  rw [if_neg (by omega)] at hb
  exact ⟨by simpa using hb, fun k c e => by cases e⟩

set_option maxRecDepth 100000 in
set_option maxHeartbeats 2000000 in
theorem RecordTampering_any {w : World} {F : Nat → Prop} (x0 x1 x2 x3 x4 : Int) (pa : Option Addr) (pn pc : Nat) (pl : List UInt8) (hp : BytesN w F (.slice pa pn pc) pl) (hpn : pn ≤ 9223372036854775807) (at8 by_ : UInt8) (hK : KAt w) :
    Calls Tryd.prog 5 #[.agg #[.int .i64 x0, .int .i64 x1, .int .i64 x2, .int .i64 x3, .int .i64 x4, .slice pa pn pc], .int .u8 (at8.toNat : Int), .int .u8 (by_.toNat : Int)] w fun e w' => e = .returned (.bool true) ∧ Below w.heap.size w w' := by
  obtain ⟨at_, hat_⟩ : ∃ n : Nat, at8.toNat = n := ⟨_, rfl⟩
  have hat : at_ < 256 := by rw [← hat_]; exact at8.toNat_lt
  rw [hat_]
  clear hat_
  obtain ⟨pm, hpm⟩ : ∃ pm, capOf pn 224 = pm := ⟨_, rfl⟩
  have hpl := hp.at_.len
  have hm1 := min_of pn
  simp only [hpm] at hm1
  have hpm2 : pm ≤ pn ∧ pm ≤ 224 := by unfold capOf at hpm; omega
  have hs1 := slice_cut pa pn pc pm (by omega) (fun e => hp.nil pn pc (by rw [e]))
  obtain ⟨w3, hw3⟩ : ∃ w3, w.alloc (.cells #[.int .i64 x0, .int .i64 x1, .int .i64 x2, .int .i64 x3, .int .i64 x4, .slice pa pm pc] 24) = w3 := ⟨_, rfl⟩
  have hb3 : Below w.heap.size w w3 := hw3 ▸ (Below.refl _ w).alloc (Nat.le_refl _) _
  have g0 : w3.heap[w.heap.size]? = some (.cells #[.int .i64 x0, .int .i64 x1, .int .i64 x2, .int .i64 x3, .int .i64 x4, .slice pa pm pc] 24 (0, 0)) := by rw [← hw3]; exact heap_alloc_new _ _
  have hlt := (Array.getElem?_eq_some_iff.1 g0).1
  have hcell : ∀ w' : World, Below w3.heap.size w3 w' → w'.cell? ⟨w.heap.size, 0, none⟩ = some (.int .i64 x0) ∧ w'.cell? ⟨w.heap.size, 1, none⟩ = some (.int .i64 x1) ∧ w'.cell? ⟨w.heap.size, 2, none⟩ = some (.int .i64 x2) ∧ w'.cell? ⟨w.heap.size, 3, none⟩ = some (.int .i64 x3) ∧ w'.cell? ⟨w.heap.size, 4, none⟩ = some (.int .i64 x4) ∧ w'.cell? ⟨w.heap.size, 5, none⟩ = some (.slice pa pm pc) := by
    intro w' hb
    have h0 := (hb.block w.heap.size (by omega)).trans g0
    refine ⟨?_, ?_, ?_, ?_, ?_, ?_⟩ <;> (rw [cell_of_row _ _ _ _ _ _ h0]; rfl)
  have hp3 : BytesN w3 F (.slice pa pm pc) (pl.take pm) := BytesN.take (hp.below hb3) pm (by omega)
  have hpt : (pl.take pm).length = pm := by rw [List.length_take]; omega
  have HC1 := Lib.hid (fun w => rcheck_at ⟨x0, x1, x2, x3, x4, pl.take pm⟩ pa pm pc hpt w)
  have HPT := Lib.hid (show (pl.take pm).length ≤ 224 by omega)
  have HCELL := Lib.hid hcell
  have HP := Lib.hid hp3
  have HW3 := Lib.hid hw3
  have HB3 := Lib.hid hb3
  have HK := Lib.hid hK
  have hkn := known_any (HK.out.below hb3 HK.out.size)
  have HKN := Lib.hid hkn
  clear hp hpm hpl hpm2 hw3 hb3 g0 hlt hcell hp3 hpt hK hkn
  go_enter Tryd.func5, Tryd.ntmps5
  go_wp2_with fail
  rw [HW3.out]
  clear hm1 hs1
  refine HKN.out.mono ?_
  rintro e w4 ⟨rfl, hb4⟩
  obtain ⟨z0, z1, z2, z3, z4, z5⟩ := HCELL.out w4 hb4
  have HB4 := Lib.hid hb4
  clear hb4 HKN
  go_wp2_with fail
  refine (HC1.out w4).mono ?_
  rintro e w5 ⟨rfl, hb5⟩
  obtain ⟨E1, hE1⟩ : ∃ E1, chkP ⟨x0, x1, x2, x3, x4, pl.take pm⟩ = E1 := ⟨_, rfl⟩
  rw [hE1]
  have hb35 := HB4.out.trans (hb5.mono HB4.out.size)
  clear z0 z1 z2 z3 z4 z5 hb5 HB4 HC1
  obtain ⟨z0, z1, z2, z3, z4, z5⟩ := HCELL.out w5 hb35
  have hkn := known_any (HK.out.below (HB3.out.trans (hb35.mono HB3.out.size)) HK.out.size)
  have HKN := Lib.hid hkn
  have HB5 := Lib.hid hb35
  clear hb35 hkn
  by_cases h1 : E1 = 0
  case neg =>
    go_wp2_with fail
    refine HKN.out.mono ?_
    rintro e w6 ⟨rfl, hb6⟩
    go_wp2_with fail
    go_ret
    exact ⟨rfl, HB3.out.trans ((HB5.out.trans (hb6.mono HB5.out.size)).mono HB3.out.size)⟩
  subst h1
  by_cases hby : by_ = 0
  · subst hby
    have hb0 : ((0 : UInt8).toNat : Int) = 0 := rfl
    rw [hb0]
    go_wp2_with fail
    refine HKN.out.mono ?_
    rintro e w6 ⟨rfl, hb6⟩
    go_wp2_with fail
    go_ret
    exact ⟨rfl, HB3.out.trans ((HB5.out.trans (hb6.mono HB5.out.size)).mono HB3.out.size)⟩
  have hbyI : ((by_.toNat : Int) == 0) = false := by
    have : by_.toNat ≠ 0 := fun e => hby (UInt8.toNat_inj.1 e)
    simp; omega
  have henc := Encode_part ⟨x0, x1, x2, x3, x4, pl.take pm⟩ (chkP_ok hE1) pa pm pc (HP.out.below HB5.out)
  have HENC := Lib.hid henc
  have HBY := Lib.hid hby
  clear henc hE1 hby
  go_wp2_with fail
  refine HENC.out.mono ?_
  rintro e w6 ⟨u6, rfl, hu6, hb6⟩
  have hhalf : halfL ((encL ⟨x0, x1, x2, x3, x4, pl.take pm⟩).drop 16) = (encL ⟨x0, x1, x2, x3, x4, pl.take pm⟩).take 16 := enc_half HPT.out
  obtain ⟨L6, hL6⟩ : ∃ L6, encL ⟨x0, x1, x2, x3, x4, pl.take pm⟩ = L6 := ⟨_, rfl⟩
  rw [hL6] at hu6 hhalf
  have hll : L6.length = 256 := by simpa using hu6.1
  obtain ⟨ua, uc, rfl⟩ := ownsRow_form hu6
  obtain ⟨ug, rfl, _, hug1, hug2⟩ := own_addr hu6 (by decide)
  have hucap := (own_bytes hu6).len.2
  have hbd6 := HB3.out.trans ((HB5.out.trans (hb6.mono HB5.out.size)).mono HB3.out.size)
  have hba : Below w6.heap.size w6 (w6.alloc (.cells #[] 5)) := (Below.refl _ _).alloc (Nat.le_refl _) _
  have ho := own_zero (w := w6) (Nat.le_refl _) 5
  have hbv := own_bytesN (own_kept hu6 hba)
  have HU := Lib.hid hu6
  have HLL := Lib.hid hll
  have HHALF := Lib.hid hhalf
  have HUC := Lib.hid hucap
  have HBD6 := Lib.hid hbd6
  have HBA := Lib.hid hba
  have HO := Lib.hid ho
  have HBV := Lib.hid hbv
  clear z0 z1 z2 z3 z4 z5 HENC HB5 hL6 hb6 hu6 hll hhalf hug1 hug2 hucap hbd6 hba ho hbv HKN
  go_wp2_with (at_builtin; refine wpList_appBytes (xs := []) rfl (.tmp 33) (.tmp 34) rfl rfl HO.out rfl HBV.out.at_ HBV.out.nil (by rw [HLL.out]; omega) HBA.out.size ?_)
  intro a7 c7 w7 hO7 hg7
  rw [HLL.out] at hO7 ⊢
  try simp only [Nat.zero_add, List.nil_append] at hO7 ⊢
  have hB7 : Below w6.heap.size w6 w7 := HBA.out.grown hg7 HBA.out.size (fun j hj => by cases hj; exact Nat.le_refl _)
  obtain ⟨vg, rfl, _, hvg1, hvg2⟩ := own_addr hO7 (by decide)
  have hvcap := (own_bytes hO7).len.2
  obtain ⟨g9, o9, e9, hcu⟩ := (own_bytes hO7).get (i := at_) (by rw [HLL.out]; exact hat)
  cases e9
  rw [Nat.zero_add] at hcu
  obtain ⟨c, hc⟩ : ∃ c, L6[at_]'(by rw [HLL.out]; exact hat) = c := ⟨_, rfl⟩
  rw [hc] at hcu
  have hxor := bits_xor_u8 c by_
  obtain ⟨cur, hcur, _⟩ := own_row hO7
  have hfz : ∀ j : Nat, w7.frozen? ⟨vg, j, none⟩ = false := fun j => frozen_of_row _ _ _ _ _ hcur
  have hset := ownsRow_set hO7 (i := at_) (bv (c ^^^ by_))
  rw [← bvs_set] at hset
  have hatI : (at_ : Int) < 256 := by omega
  obtain ⟨w8, hw8⟩ : ∃ w8, w7.setCell ⟨vg, at_, none⟩ (bv (c ^^^ by_)) = w8 := ⟨_, rfl⟩
  rw [hw8] at hset
  have hw8' : w7.setCell ⟨vg, at_, none⟩ (.int .u8 ((c.toNat ^^^ by_.toNat : Nat) : Int)) = w8 := by rw [← UInt8.toNat_xor]; exact hw8
  have hB8 : Below w6.heap.size w6 w8 := below_chg hB7 (hw8 ▸ Chg.setCell (F := fun k => k = vg) _ _ rfl) hvg1 (Nat.le_refl _)
  have hub := own_kept HU.out hB8
  have htam := tamper HLL.out HHALF.out hat (show c ^^^ by_ ≠ L6[at_]'(by rw [HLL.out]; exact hat) by rw [hc]; exact xor_ne c by_ HBY.out)
  obtain ⟨L8, hL8⟩ : ∃ L8, L6.set at_ (c ^^^ by_) = L8 := ⟨_, rfl⟩
  rw [hL8] at hset htam
  have hdec := DecodePart_any L8 _ (own_bytes hset) (HK.out.below (HBD6.out.trans (hB8.mono HBD6.out.size)) HK.out.size)
  have HDEC := Lib.hid hdec
  have HSET := Lib.hid hset
  have HUB := Lib.hid hub
  have HTAM := Lib.hid htam
  have HVC := Lib.hid hvcap
  have HBD8 := Lib.hid (HBD6.out.trans (hB8.mono HBD6.out.size))
  have HW8 := Lib.hid hw8'
  clear hdec hset hub htam hvcap hB8 hL8 hc hB7 hg7 hO7 HO HBV HBA HHALF hvg1 hvg2 hw8 hw8' hcur
  go_wp2_with fail
  try rw [HW8.out]
  refine HDEC.out.mono ?_
  intro e w9 hd9
  obtain ⟨a9, c9, rfl, ho9, hb9⟩ := hd9.parts
  obtain ⟨d, hd⟩ : ∃ d, decP L8 = d := ⟨_, rfl⟩
  obtain ⟨E, hE⟩ : ∃ E, decE L8 = E := ⟨_, rfl⟩
  rw [hd, hE]
  obtain ⟨N, hN⟩ : ∃ N, d.bytes.length = N := ⟨_, rfl⟩
  rw [hN]
  obtain ⟨wa, hwa⟩ : ∃ wa, w9.alloc (.cells #[.int .i64 d.kind, .int .i64 d.gen, .int .i64 d.num, .int .i64 d.idx, .int .i64 d.cnt, .slice a9 N c9] 25) = wa := ⟨_, rfl⟩
  have hba : Below w9.heap.size w9 wa := hwa ▸ (Below.refl _ _).alloc (Nat.le_refl _) _
  have HWA := Lib.hid hwa
  have hx1 := own_kept (own_kept HUB.out hb9) hba
  have hx2 := own_kept (own_kept HSET.out hb9) hba
  have HBDA := Lib.hid (HBD8.out.trans ((hb9.trans (hba.mono hb9.size)).mono HBD8.out.size))
  have HX1 := Lib.hid (bytes_16 hx1 HUC.out)
  have HX2 := Lib.hid (bytes_16 hx2 HVC.out)
  have hsl1 := slice_16 ug uc HUC.out
  have hsl2 := slice_16 vg c7 HVC.out
  clear hd9 hd hN ho9 hb9 hwa hba hx1 hx2 hcu hfz hxor
  go_wp2_with fail
  try rw [HWA.out]
  by_cases h22 : E = 22
  · subst h22
    refine wp_region_noPanic ?_
    refine wp_region_H (Below wa.heap.size wa) (by kernel_rfl) ?_
    have hS0 : (Below wa.heap.size wa) wa.drew := (Below.refl _ _).drew
    obtain ⟨wd, hwd⟩ : ∃ wd, wa.drew = wd := ⟨_, rfl⟩
    rw [hwd] at hS0 ⊢
    clear hwd
    refine wpAnyH_takeI (i := 0) (v := ?v1) rfl (by kernel_rfl) (by kernel_rfl) (by kernel_rfl) (fun _ _ _ h => h) (yieldsIf_run rfl (fun w' hw' => ?y1)) hS0 ?_
    case y1 => first | (go_simp; rfl) | (go_simp; done) | rfl
    simp only [Act.put, List.setIfInBounds_toArray, List.set_cons_zero, List.set_cons_succ]
    refine wpAnyH_takeI (i := 1) (v := ?v2) rfl (by kernel_rfl) (by kernel_rfl) (by kernel_rfl) (fun _ _ _ h => h) (yieldsIf_run rfl (fun w' hw' => ?y2)) hS0 ?_
    case y2 => first | (go_simp; rfl) | (go_simp; done) | rfl
    simp only [Act.put, List.setIfInBounds_toArray, List.set_cons_zero, List.set_cons_succ]
    refine wpAnyH_takeI (i := 2) (v := ?v3) rfl (by kernel_rfl) (by kernel_rfl) (by kernel_rfl) (fun _ _ _ h => h) (yieldsIf_run rfl (fun w' hw' => ?y3)) hS0 ?_
    case y3 => first | (go_simp; rfl) | (go_simp; done) | rfl
    simp only [Act.put, List.setIfInBounds_toArray, List.set_cons_zero, List.set_cons_succ]
    refine wpAnyH_takeI (i := 3) (v := undef) rfl (by kernel_rfl) (by kernel_rfl) (by kernel_rfl) (fun _ _ _ h => h) (yieldsIf_skip rfl) hS0 ?_
    simp only [Act.put, List.setIfInBounds_toArray, List.set_cons_zero, List.set_cons_succ]
    refine wpAnyH_takeI (i := 4) (v := undef) rfl (by kernel_rfl) (by kernel_rfl) (by kernel_rfl) (fun _ _ _ h => h) (yieldsIf_skip rfl) hS0 ?_
    simp only [Act.put, List.setIfInBounds_toArray, List.set_cons_zero, List.set_cons_succ]
    refine wpAnyH_takeI (i := 5) (v := undef) rfl (by kernel_rfl) (by kernel_rfl) (by kernel_rfl) (fun _ _ _ h => h) (yieldsIf_skip rfl) hS0 ?_
    simp only [Act.put, List.setIfInBounds_toArray, List.set_cons_zero, List.set_cons_succ]
    refine wpAnyH_takeI (i := 6) (v := undef) rfl (by kernel_rfl) (by kernel_rfl) (by kernel_rfl) (fun _ _ _ h => h) (yieldsIf_skip rfl) hS0 ?_
    simp only [Act.put, List.setIfInBounds_toArray, List.set_cons_zero, List.set_cons_succ]
    refine wpAnyH_takeI (i := 7) (v := undef) rfl (by kernel_rfl) (by kernel_rfl) (by kernel_rfl) (fun _ _ _ h => h) (yieldsIf_skip rfl) hS0 ?_
    simp only [Act.put, List.setIfInBounds_toArray, List.set_cons_zero, List.set_cons_succ]
    refine wpAnyH_takeI (i := 8) (v := ?v4) rfl (by kernel_rfl) (by kernel_rfl) (by kernel_rfl) (fun _ _ _ h => h) (yieldsIf_run rfl (fun w' hw' => ?y4)) hS0 ?_
    case y4 => first | (go_simp; rfl) | (go_simp; done) | rfl
    simp only [Act.put, List.setIfInBounds_toArray, List.set_cons_zero, List.set_cons_succ]
    refine wpAnyH_takeI (i := 9) (v := ?v5) rfl (by kernel_rfl) (by kernel_rfl) (by kernel_rfl) (fun _ _ _ h => h) (yieldsIf_run rfl (fun w' hw' => ?y5)) hS0 ?_
    case y5 => first | (go_simp; rfl) | (go_simp; done) | rfl
    simp only [Act.put, List.setIfInBounds_toArray, List.set_cons_zero, List.set_cons_succ]
    refine wpAnyH_done (by kernel_rfl) ?_ _
    refine NoPanic.normal ?_
    go_wp2_with fail
    go_ret
    exact ⟨rfl, HBDA.out.trans (hS0.mono HBDA.out.size)⟩
  · have h22b : (E == 22) = false := by simpa using h22
    rcases HTAM.out with ht | ⟨hne, hhf⟩
    · exact absurd (hE.symm.trans ht) h22
    have hlen8 : L8.length = 256 := by simpa using HSET.out.1
    refine wp_region_noPanic ?_
    refine wp_region_H (Below wa.heap.size wa) (by kernel_rfl) ?_
    have hS0 : (Below wa.heap.size wa) wa.drew := (Below.refl _ _).drew
    obtain ⟨wd, hwd⟩ : ∃ wd, wa.drew = wd := ⟨_, rfl⟩
    rw [hwd] at hS0 ⊢
    clear hwd
    refine wpAnyH_takeI (i := 0) (v := ?v6) rfl (by kernel_rfl) (by kernel_rfl) (by kernel_rfl) (fun _ _ _ h => h) (yieldsIf_run rfl (fun w' hw' => ?y6)) hS0 ?_
    case y6 => first | (go_simp; rfl) | (go_simp; done) | rfl
    simp only [Act.put, List.setIfInBounds_toArray, List.set_cons_zero, List.set_cons_succ]
    refine wpAnyH_takeI (i := 1) (v := ?v7) rfl (by kernel_rfl) (by kernel_rfl) (by kernel_rfl) (fun _ _ _ h => h) (yieldsIf_run rfl (fun w' hw' => ?y7)) hS0 ?_
    case y7 => first | (go_simp; rfl) | (go_simp; done) | rfl
    simp only [Act.put, List.setIfInBounds_toArray, List.set_cons_zero, List.set_cons_succ]
    refine wpAnyH_takeI (i := 2) (v := ?v8) rfl (by kernel_rfl) (by kernel_rfl) (by kernel_rfl) (fun _ _ _ h => h) (yieldsIf_run rfl (fun w' hw' => ?y8)) hS0 ?_
    case y8 => first | (go_simp; rfl) | (go_simp; done) | rfl
    simp only [Act.put, List.setIfInBounds_toArray, List.set_cons_zero, List.set_cons_succ]
    refine wpAnyH_takeI (i := 3) (v := ?v9) rfl (by kernel_rfl) (by kernel_rfl) (by kernel_rfl) (fun _ _ _ h => h) (yieldsIf_want rfl (fun w' hw' => ?y9)) hS0 ?_
    case y9 => first | (go_simp; rfl) | (go_simp; done) | rfl
    simp only [Act.put, List.setIfInBounds_toArray, List.set_cons_zero, List.set_cons_succ]
    refine wpAnyH_takeI (i := 4) (v := ?v10) rfl (by kernel_rfl) (by kernel_rfl) (by kernel_rfl) (fun _ _ _ h => h) (yieldsIf_want rfl (fun w' hw' => ?y10)) hS0 ?_
    case y10 => first | (go_simp; rfl) | (go_simp; done) | rfl
    simp only [Act.put, List.setIfInBounds_toArray, List.set_cons_zero, List.set_cons_succ]
    refine wpAnyH_takeI (i := 5) (v := ?v11) rfl (by kernel_rfl) (by kernel_rfl) (by kernel_rfl) (fun _ _ _ h => h) (yieldsIf_want rfl (fun w' hw' => ?y11)) hS0 ?_
    case y11 => first | (go_simp; rfl) | (go_simp; done) | rfl
    simp only [Act.put, List.setIfInBounds_toArray, List.set_cons_zero, List.set_cons_succ]
    refine wpAnyH_takeI (i := 6) (v := ?v12) rfl (by kernel_rfl) (by kernel_rfl) (by kernel_rfl) (fun _ _ _ h => h) (yieldsIf_want rfl (fun w' hw' => ?y12)) hS0 ?_
    case y12 => first | (go_simp; rfl) | (go_simp; done) | rfl
    simp only [Act.put, List.setIfInBounds_toArray, List.set_cons_zero, List.set_cons_succ]
    refine wpAnyH_want (i := 7) (by kernel_rfl) rfl rfl (fun K hK => ?_)
    go_simp
    go_at_call 26
    refine (collide_any _ _ _ _ (HX1.out.below hS0) (HX2.out.below hS0) (by rw [List.length_drop, HLL.out]; omega) (by rw [List.length_drop, hlen8]; omega) hne hhf).mono ?_
    rintro e wz ⟨rfl, hbz⟩
    have hS1 := hS0.trans (hbz.mono hS0.size)
    refine hK _ _ (hS1) ?_
    clear hK K
    try simp only [Act.put, List.setIfInBounds_toArray, List.set_cons_zero, List.set_cons_succ]
    refine wpAnyH_takeI (i := 8) (v := ?v13) rfl (by kernel_rfl) (by kernel_rfl) (by kernel_rfl) (fun _ _ _ h => h) (yieldsIf_run rfl (fun w' hw' => ?y13)) hS1 ?_
    case y13 => first | (go_simp; rfl) | (go_simp; done) | rfl
    simp only [Act.put, List.setIfInBounds_toArray, List.set_cons_zero, List.set_cons_succ]
    refine wpAnyH_takeI (i := 9) (v := ?v14) rfl (by kernel_rfl) (by kernel_rfl) (by kernel_rfl) (fun _ _ _ h => h) (yieldsIf_run rfl (fun w' hw' => ?y14)) hS1 ?_
    case y14 => first | (go_simp; rfl) | (go_simp; done) | rfl
    simp only [Act.put, List.setIfInBounds_toArray, List.set_cons_zero, List.set_cons_succ]
    refine wpAnyH_done (by kernel_rfl) ?_ _
    refine NoPanic.normal ?_
    go_wp2_with fail
    go_ret
    exact ⟨rfl, HBDA.out.trans (hS1.mono HBDA.out.size)⟩

end Go.Proofs.YtloaenknhkfaeaaDoor
