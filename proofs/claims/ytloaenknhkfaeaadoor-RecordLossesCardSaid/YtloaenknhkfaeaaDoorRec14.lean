/- Records: the reference's Split. -/
import Derived.Test.YtloaenknhkfaeaaDoorRec13
namespace Go.Proofs.YtloaenknhkfaeaaDoor
open Go.RowKit
set_option linter.unusedVariables false
set_option linter.unusedSimpArgs false

theorem Encode_part {w : World} {F : Nat → Prop} (p : PartD) (hp : PartOk p) (a : Option Addr) (len cap : Nat) (hv : BytesN w F (.slice a len cap) p.bytes) :
    Calls Tryd.prog 22 #[.agg #[.int .i64 p.kind, .int .i64 p.gen, .int .i64 p.num, .int .i64 p.idx, .int .i64 p.cnt, .slice a len cap]] w fun e w' =>
      ∃ u, e = .returned u ∧ w'.ownsRow w.heap.size 5 1 u 256 (bvs (encL p)) ∧ Below w.heap.size w w' := by
  obtain ⟨k', g', n', i', c', l⟩ := p
  obtain ⟨a1, a2, a3, a4, a5, a6, a7, a8, a9, a10, a11, _, _⟩ := hp
  simp only at *
  obtain ⟨k, rfl⟩ := Int.eq_ofNat_of_zero_le a1
  obtain ⟨g, rfl⟩ := Int.eq_ofNat_of_zero_le a3
  obtain ⟨n, rfl⟩ := Int.eq_ofNat_of_zero_le a5
  obtain ⟨i, rfl⟩ := Int.eq_ofNat_of_zero_le a9
  obtain ⟨c, rfl⟩ := Int.eq_ofNat_of_zero_le (by omega : (0 : Int) ≤ c')
  obtain ⟨rfl, _⟩ := hv.at_.len
  exact Encode_any k g n i c l a _ cap hv rfl (by omega) (by omega) (by omega) (by omega) (by omega) (by omega)

set_option maxRecDepth 100000 in
set_option maxHeartbeats 2000000 in
theorem rSplit_ok {w : World} {F : Nat → Prop} (k g n : Int) (l : List UInt8) (a : Option Addr) (len cap : Nat) (hv : BytesN w F (.slice a len cap) l) (hl : l.length = len) (h : splitE ⟨k, g, n, l⟩ = 0) :
    Calls Tryd.prog 29 #[.agg #[.int .i64 k, .int .i64 g, .int .i64 n, .slice a len cap]] w (SplitPost w ⟨k, g, n, l⟩) := by
  obtain ⟨hf, hle⟩ := splitE_ok h
  simp only at hf hle
  have hneed := fun w => rNeed_any len (by omega) w
  have hnb := need_le (n := len) (by omega)
  obtain ⟨N, hN⟩ : ∃ N, needN len = N := ⟨_, rfl⟩
  rw [hN] at hneed hnb
  obtain ⟨w1, hw1⟩ : ∃ w1, w.alloc (.cells #[.int .i64 k, .int .i64 g, .int .i64 n, .slice a len cap] 49) = w1 := ⟨_, rfl⟩
  have hb1 : Below w.heap.size w w1 := hw1 ▸ (Below.refl _ w).alloc (Nat.le_refl _) _
  have hx1 : w1.heap[w.heap.size]? = some (.cells #[.int .i64 k, .int .i64 g, .int .i64 n, .slice a len cap] 49 (0, 0)) := by rw [← hw1]; exact heap_alloc_new _ _
  have hval := fun w => fine_any k g n w
  rw [hf] at hval
  have hcell : ∀ w' : World, Below w1.heap.size w1 w' → w'.cell? ⟨w.heap.size, 0, none⟩ = some (.int .i64 k) ∧ w'.cell? ⟨w.heap.size, 1, none⟩ = some (.int .i64 g) ∧ w'.cell? ⟨w.heap.size, 2, none⟩ = some (.int .i64 n) ∧
      w'.cell? ⟨w.heap.size, 3, none⟩ = some (.slice a len cap) := by
    intro w' hb
    have hh := (hb.block w.heap.size (Array.getElem?_eq_some_iff.1 hx1).1).trans hx1
    refine ⟨?_, ?_, ?_, ?_⟩ <;> (rw [cell_of_row _ _ _ _ _ _ hh]; rfl)
  have hlt1 := (Array.getElem?_eq_some_iff.1 hx1).1
  have HVAL := Lib.hid hval
  have HNEED := Lib.hid hneed
  have HW1 := Lib.hid hw1
  have HBD := Lib.hid hb1
  have HCELL := Lib.hid hcell
  have HV := Lib.hid hv
  have HL := Lib.hid hl
  have HE := Lib.hid h
  have HN := Lib.hid hN
  have hN1 := hnb.1
  have hN2 := hnb.2
  rw [hl] at hle
  have hc3 := (hcell w1 (Below.refl _ _)).2.2.2
  clear hf hneed hnb hN hw1 hb1 hx1 hval hv hl h hcell
  go_enter Tryd.func29, Tryd.ntmps29
  go_wp2_with fail
  rw [HW1.out]
  refine (HVAL.out _).mono ?_
  rintro e w' ⟨rfl, rfl⟩
  go_wp2_with fail
  refine (HNEED.out _).mono ?_
  rintro e w' ⟨rfl, rfl⟩
  go_wp2_with fail
  go_loopw [4, 6] (fun pv iv wr => ∃ i : Nat, i ≤ N ∧ iv = .int .i64 (i : Int) ∧ OwnSecs wr w1.heap.size pv (encs ⟨k, g, n, l⟩ i) ∧ Below w1.heap.size w1 wr) (fun _ iv _ => N - (intOf iv).toNat)
  case atStart => exact ⟨0, Nat.zero_le _, rfl, ownSecs_nil _ _, Below.refl _ _⟩
  case round =>
    obtain ⟨i, hi, rfl, hO, hB⟩ := hrel
    obtain ⟨pa, pc, rfl⟩ := hO.form
    rw [encs_length] at hO ⊢
    have hbr := HBD.out.trans (hB.mono HBD.out.size)
    have hvr := HV.out.below hbr
    have HVR := Lib.hid hvr
    have HO := Lib.hid hO
    have HB := Lib.hid hB
    clear hbr hO hB hc3
    by_cases hlt : i < N
    · have hpo := partOf_ok HE.out (i := i) (by show i < needN l.length; rw [HL.out, HN.out]; exact hlt)
      have hpe : partOf ⟨k, g, n, l⟩ i = ⟨k, g, n, (i : Int), (N : Int), seg l (224 * i) 224⟩ := by unfold partOf; simp only; rw [HL.out, HN.out]
      have hpo2 := hpo
      rw [hpe] at hpo2
      have HPO := Lib.hid hpo2
      have HPE := Lib.hid hpe
      clear hpo hpo2 hpe
      have hi586 : (i : Int) < 586 := by omega
      by_cases h0 : len = 0
      · subst h0
        have hl0 : l = [] := List.eq_nil_of_length_eq_zero HL.out
        have hN0 : N = 1 := by rw [← HN.out]; rfl
        obtain rfl : i = 0 := by omega
        have hsg : seg l (224 * 0) 224 = [] := by rw [hl0]; rfl
        have hnil : a = none → cap = 0 := fun e => hvr.nil _ _ (by rw [e])
        have HSG := Lib.hid hsg
        have HNIL := Lib.hid hnil
        have hwz : IntKind.i64.wrap 0 = 0 := by decide
        have hwz2 : IntKind.i64.wrap 224 = 224 := by decide
        clear hl0 hN0 hsg hvr hnil
        by_cases hcap : cap = 0
        · subst hcap
          go_wp2_with fail
          refine wp_region_noPanic ?_
          refine wp_region_F 25 (Below w1.heap.size w1) (by kernel_rfl) ?_
          have hS0 : (Below w1.heap.size w1) wr.drew := HB.out.drew
          obtain ⟨wd, hwd⟩ : ∃ wd, wr.drew = wd := ⟨_, rfl⟩
          have hOD : OwnSecs wd w1.heap.size (.slice pa 0 pc) (encs ⟨k, g, n, l⟩ 0) := hwd ▸ HO.out.below (show Below wr.heap.size wr wr.drew from (Below.refl _ _).drew)
          have hVD : BytesN wd F _ l := hwd ▸ HVR.out.below (show Below wr.heap.size wr wr.drew from (Below.refl _ _).drew)
          rw [hwd] at hS0 ⊢
          clear hwd
          refine wpAnyF_take (i := 0) (fin := 25) (v := ?v1) rfl (by kernel_rfl) (by kernel_rfl) (by kernel_rfl) (by kernel_rfl) (fun _ _ _ h => h) (yieldsIf_run rfl (fun w' hw' => ?y1)) hS0 ?_
          case y1 => first | (go_simp; rfl) | (go_simp; done) | rfl
          simp only [Act.put, List.setIfInBounds_toArray, List.set_cons_zero, List.set_cons_succ]
          refine wpAnyF_take (i := 1) (fin := 25) (v := ?v2) rfl (by kernel_rfl) (by kernel_rfl) (by kernel_rfl) (by kernel_rfl) (fun _ _ _ h => h) (yieldsIf_run rfl (fun w' hw' => ?y2)) hS0 ?_
          case y2 => first | (go_simp; rfl) | (go_simp; done) | rfl
          simp only [Act.put, List.setIfInBounds_toArray, List.set_cons_zero, List.set_cons_succ]
          refine wpAnyF_take (i := 2) (fin := 25) (v := ?v3) rfl (by kernel_rfl) (by kernel_rfl) (by kernel_rfl) (by kernel_rfl) (fun _ _ _ h => h) (yieldsIf_run rfl (fun w' hw' => ?y3)) hS0 ?_
          case y3 => (obtain ⟨z0, z1, z2, z3⟩ := HCELL.out w' hw'; clear hw'; first | (go_simp; rfl) | (go_simp; done))
          simp only [Act.put, List.setIfInBounds_toArray, List.set_cons_zero, List.set_cons_succ]
          refine wpAnyF_take (i := 3) (fin := 25) (v := ?v4) rfl (by kernel_rfl) (by kernel_rfl) (by kernel_rfl) (by kernel_rfl) (fun _ _ _ h => h) (yieldsIf_run rfl (fun w' hw' => ?y4)) hS0 ?_
          case y4 => first | (go_simp; rfl) | (go_simp; done) | rfl
          simp only [Act.put, List.setIfInBounds_toArray, List.set_cons_zero, List.set_cons_succ]
          refine wpAnyF_take (i := 4) (fin := 25) (v := ?v5) rfl (by kernel_rfl) (by kernel_rfl) (by kernel_rfl) (by kernel_rfl) (fun _ _ _ h => h) (yieldsIf_run rfl (fun w' hw' => ?y5)) hS0 ?_
          case y5 => (obtain ⟨z0, z1, z2, z3⟩ := HCELL.out w' hw'; clear hw'; first | (go_simp; rfl) | (go_simp; done))
          simp only [Act.put, List.setIfInBounds_toArray, List.set_cons_zero, List.set_cons_succ]
          refine wpAnyF_take (i := 5) (fin := 25) (v := ?v6) rfl (by kernel_rfl) (by kernel_rfl) (by kernel_rfl) (by kernel_rfl) (fun _ _ _ h => h) (yieldsIf_run rfl (fun w' hw' => ?y6)) hS0 ?_
          case y6 => first | (go_simp; rfl) | (go_simp; done) | rfl
          simp only [Act.put, List.setIfInBounds_toArray, List.set_cons_zero, List.set_cons_succ]
          refine wpAnyF_take (i := 6) (fin := 25) (v := ?v7) rfl (by kernel_rfl) (by kernel_rfl) (by kernel_rfl) (by kernel_rfl) (fun _ _ _ h => h) (yieldsIf_run rfl (fun w' hw' => ?y7)) hS0 ?_
          case y7 => (obtain ⟨z0, z1, z2, z3⟩ := HCELL.out w' hw'; clear hw'; first | (go_simp; rfl) | (go_simp; done))
          simp only [Act.put, List.setIfInBounds_toArray, List.set_cons_zero, List.set_cons_succ]
          refine wpAnyF_take (i := 7) (fin := 25) (v := ?v8) rfl (by kernel_rfl) (by kernel_rfl) (by kernel_rfl) (by kernel_rfl) (fun _ _ _ h => h) (yieldsIf_run rfl (fun w' hw' => ?y8)) hS0 ?_
          case y8 => first | (go_simp; rfl) | (go_simp; done) | rfl
          simp only [Act.put, List.setIfInBounds_toArray, List.set_cons_zero, List.set_cons_succ]
          refine wpAnyF_take (i := 8) (fin := 25) (v := ?v9) rfl (by kernel_rfl) (by kernel_rfl) (by kernel_rfl) (by kernel_rfl) (fun _ _ _ h => h) (yieldsIf_run rfl (fun w' hw' => ?y9)) hS0 ?_
          case y9 => first | (go_simp; rfl) | (go_simp; done) | rfl
          simp only [Act.put, List.setIfInBounds_toArray, List.set_cons_zero, List.set_cons_succ]
          refine wpAnyF_take (i := 9) (fin := 25) (v := ?v10) rfl (by kernel_rfl) (by kernel_rfl) (by kernel_rfl) (by kernel_rfl) (fun _ _ _ h => h) (yieldsIf_run rfl (fun w' hw' => ?y10)) hS0 ?_
          case y10 => first | (go_simp; rfl) | (go_simp; done) | rfl
          simp only [Act.put, List.setIfInBounds_toArray, List.set_cons_zero, List.set_cons_succ]
          refine wpAnyF_take (i := 10) (fin := 25) (v := ?v11) rfl (by kernel_rfl) (by kernel_rfl) (by kernel_rfl) (by kernel_rfl) (fun _ _ _ h => h) (yieldsIf_run rfl (fun w' hw' => ?y11)) hS0 ?_
          case y11 => (obtain ⟨z0, z1, z2, z3⟩ := HCELL.out w' hw'; clear hw'; first | (go_simp; rfl) | (go_simp; done))
          simp only [Act.put, List.setIfInBounds_toArray, List.set_cons_zero, List.set_cons_succ]
          refine wpAnyF_take (i := 11) (fin := 25) (v := ?v12) rfl (by kernel_rfl) (by kernel_rfl) (by kernel_rfl) (by kernel_rfl) (fun _ _ _ h => h) (yieldsIf_run rfl (fun w' hw' => ?y12)) hS0 ?_
          case y12 => first | (go_simp; rfl) | (go_simp; done) | rfl
          simp only [Act.put, List.setIfInBounds_toArray, List.set_cons_zero, List.set_cons_succ]
          refine wpAnyF_take (i := 12) (fin := 25) (v := (.int .i64 0)) rfl (by kernel_rfl) (by kernel_rfl) (by kernel_rfl) (by kernel_rfl) (fun _ _ _ h => h) (yieldsIf_run rfl (fun w' hw' => ?y13)) hS0 ?_
          case y13 => first | (go_simp; rfl) | (go_simp; done) | rfl
          simp only [Act.put, List.setIfInBounds_toArray, List.set_cons_zero, List.set_cons_succ]
          refine wpAnyF_take (i := 13) (fin := 25) (v := ?v14) rfl (by kernel_rfl) (by kernel_rfl) (by kernel_rfl) (by kernel_rfl) (fun _ _ _ h => h) (yieldsIf_run rfl (fun w' hw' => ?y14)) hS0 ?_
          case y14 => first | (go_simp; rfl) | (go_simp; done) | rfl
          simp only [Act.put, List.setIfInBounds_toArray, List.set_cons_zero, List.set_cons_succ]
          refine wpAnyF_take (i := 14) (fin := 25) (v := (.int .i64 0)) rfl (by kernel_rfl) (by kernel_rfl) (by kernel_rfl) (by kernel_rfl) (fun _ _ _ h => h) (yieldsIf_run rfl (fun w' hw' => ?y15)) hS0 ?_
          case y15 => first | (go_simp; rfl) | (go_simp; done) | rfl
          simp only [Act.put, List.setIfInBounds_toArray, List.set_cons_zero, List.set_cons_succ]
          refine wpAnyF_take (i := 15) (fin := 25) (v := (.int .i64 224)) rfl (by kernel_rfl) (by kernel_rfl) (by kernel_rfl) (by kernel_rfl) (fun _ _ _ h => h) (yieldsIf_run rfl (fun w' hw' => ?y16)) hS0 ?_
          case y16 => first | (go_simp; rfl) | (go_simp; done) | rfl
          simp only [Act.put, List.setIfInBounds_toArray, List.set_cons_zero, List.set_cons_succ]
          refine wpAnyF_take (i := 16) (fin := 25) (v := ?v17) rfl (by kernel_rfl) (by kernel_rfl) (by kernel_rfl) (by kernel_rfl) (fun _ _ _ h => h) (yieldsIf_run rfl (fun w' hw' => ?y17)) hS0 ?_
          case y17 => first | (go_simp; rfl) | (go_simp; done) | rfl
          simp only [Act.put, List.setIfInBounds_toArray, List.set_cons_zero, List.set_cons_succ]
          refine wpAnyF_take (i := 17) (fin := 25) (v := ?v18) rfl (by kernel_rfl) (by kernel_rfl) (by kernel_rfl) (by kernel_rfl) (fun _ _ _ h => h) (yieldsIf_run rfl (fun w' hw' => ?y18)) hS0 ?_
          case y18 => (obtain ⟨z0, z1, z2, z3⟩ := HCELL.out w' hw'; clear hw'; first | (go_simp; rfl) | (go_simp; done))
          simp only [Act.put, List.setIfInBounds_toArray, List.set_cons_zero, List.set_cons_succ]
          refine wpAnyF_take (i := 18) (fin := 25) (v := ?v19) rfl (by kernel_rfl) (by kernel_rfl) (by kernel_rfl) (by kernel_rfl) (fun _ _ _ h => h) (yieldsIf_run rfl (fun w' hw' => ?y19)) hS0 ?_
          case y19 => first | (go_simp; rfl) | (go_simp; done) | rfl
          simp only [Act.put, List.setIfInBounds_toArray, List.set_cons_zero, List.set_cons_succ]
          refine wpAnyF_take (i := 19) (fin := 25) (v := (.int .i64 (0))) rfl (by kernel_rfl) (by kernel_rfl) (by kernel_rfl) (by kernel_rfl) (fun _ _ _ h => h) (yieldsIf_run rfl (fun w' hw' => ?y20)) hS0 ?_
          case y20 => first | (go_simp; rfl) | (go_simp; done) | rfl
          simp only [Act.put, List.setIfInBounds_toArray, List.set_cons_zero, List.set_cons_succ]
          refine wpAnyF_take (i := 20) (fin := 25) (v := (.slice a 0 0)) rfl (by kernel_rfl) (by kernel_rfl) (by kernel_rfl) (by kernel_rfl) (fun _ _ _ h => h) (yieldsIf_run rfl (fun w' hw' => ?y21)) hS0 ?_
          case y21 => first | (go_simp; rfl) | (go_simp; done) | rfl
          simp only [Act.put, List.setIfInBounds_toArray, List.set_cons_zero, List.set_cons_succ]
          refine wpAnyF_take (i := 21) (fin := 25) (v := ?v22) rfl (by kernel_rfl) (by kernel_rfl) (by kernel_rfl) (by kernel_rfl) (fun _ _ _ h => h) (yieldsIf_run rfl (fun w' hw' => ?y22)) hS0 ?_
          case y22 => first | (go_simp; rfl) | (go_simp; done) | rfl
          simp only [Act.put, List.setIfInBounds_toArray, List.set_cons_zero, List.set_cons_succ]
          refine wpAnyF_do (i := 22) (by kernel_rfl) rfl rfl (fun K hK => ?_)
          go_simp
          go_at_call 22
          refine (Encode_part ⟨k, g, n, ((0 : Nat) : Int), (N : Int), seg l (224 * 0) 224⟩ HPO.out _ _ _ (by rw [HSG.out]; exact ⟨bytesAt_empty _ (fun _ => True) _ _, fun k c e => by cases e; rfl⟩)).mono ?_
          rintro e w3 ⟨u, rfl, hu, hb3⟩
          obtain ⟨ua, uc, rfl⟩ := ownsRow_form hu
          have ho3 := hOD.below hb3
          have hu3 : w3.ownsRow w1.heap.size 5 1 (.slice ua 256 uc) (encL (partOf ⟨k, g, n, l⟩ 0)).length (bvs (encL (partOf ⟨k, g, n, l⟩ 0))) := by
            rw [encL_length, HPE.out]
            exact ownsRow_base hu hS0.size
          have hS1 := hS0.trans (hb3.mono hS0.size)
          refine hK _ _ (fun _ => hS1) ?_
          clear hK K
          try simp only [Act.put, List.setIfInBounds_toArray, List.set_cons_zero, List.set_cons_succ]
          refine wpAnyF_do (i := 23) (by kernel_rfl) rfl rfl (fun K hK => ?_)
          go_simp
          have hS2 : Below w1.heap.size w1 (w3.alloc (.cells #[.slice ua 256 uc] 22)) := hS1.alloc hS1.size _
          refine hK _ _ (fun _ => hS2) ?_
          clear hK K
          try simp only [Act.put, List.setIfInBounds_toArray, List.set_cons_zero, List.set_cons_succ]
          refine wpAnyF_do (i := 24) (by kernel_rfl) rfl rfl (fun K hK => ?_)
          refine wp_appSec (.tmp 28) (.tmp 51) rfl rfl ho3 hu3 rfl (encs_length _ _) (by omega) hS1.size ?_
          intro a' cap' w4 ho4 hb4
          have hS3 := hS1.trans hb4
          refine hK _ _ (fun _ => hS3) ?_
          clear hK K
          try simp only [Act.put, List.setIfInBounds_toArray, List.set_cons_zero, List.set_cons_succ]
          refine wpAnyF_do (i := 25) (by kernel_rfl) rfl rfl (fun K hK => ?_)
          go_simp
          refine hK _ _ (fun h => absurd rfl h) ?_
          clear hK K
          refine wpAnyF_done (by kernel_rfl) ?_ _
          refine NoPanic.normal ?_
          have HO4 := Lib.hid ho4
          have HB4 := Lib.hid hS3
          clear ho4 hb4 hS3 hS2 hS1 hS0 hu3 ho3 hu hb3 hOD hVD
          go_wp2_with fail
          go_roundw
          case rel => first | exact ⟨0 + 1, by omega, by go_num, by rw [encs_succ]; exact HO4.out, HB4.out⟩ | ((repeat apply Exists.intro); exact ⟨⟨0 + 1, by omega, by go_num, by rw [encs_succ]; exact HO4.out, HB4.out⟩, rfl⟩)
          case measure => simp [intOf]; omega
        · obtain ⟨aa, rfl⟩ : ∃ aa, a = some aa := by
            cases a with
            | none => exact absurd (HNIL.out rfl) hcap
            | some aa => exact ⟨aa, rfl⟩
          go_wp2_with fail
          refine wp_region_noPanic ?_
          refine wp_region_F 25 (Below w1.heap.size w1) (by kernel_rfl) ?_
          have hS0 : (Below w1.heap.size w1) wr.drew := HB.out.drew
          obtain ⟨wd, hwd⟩ : ∃ wd, wr.drew = wd := ⟨_, rfl⟩
          have hOD : OwnSecs wd w1.heap.size (.slice pa 0 pc) (encs ⟨k, g, n, l⟩ 0) := hwd ▸ HO.out.below (show Below wr.heap.size wr wr.drew from (Below.refl _ _).drew)
          have hVD : BytesN wd F _ l := hwd ▸ HVR.out.below (show Below wr.heap.size wr wr.drew from (Below.refl _ _).drew)
          rw [hwd] at hS0 ⊢
          clear hwd
          refine wpAnyF_take (i := 0) (fin := 25) (v := ?v23) rfl (by kernel_rfl) (by kernel_rfl) (by kernel_rfl) (by kernel_rfl) (fun _ _ _ h => h) (yieldsIf_run rfl (fun w' hw' => ?y23)) hS0 ?_
          case y23 => first | (go_simp; rfl) | (go_simp; done) | rfl
          simp only [Act.put, List.setIfInBounds_toArray, List.set_cons_zero, List.set_cons_succ]
          refine wpAnyF_take (i := 1) (fin := 25) (v := ?v24) rfl (by kernel_rfl) (by kernel_rfl) (by kernel_rfl) (by kernel_rfl) (fun _ _ _ h => h) (yieldsIf_run rfl (fun w' hw' => ?y24)) hS0 ?_
          case y24 => first | (go_simp; rfl) | (go_simp; done) | rfl
          simp only [Act.put, List.setIfInBounds_toArray, List.set_cons_zero, List.set_cons_succ]
          refine wpAnyF_take (i := 2) (fin := 25) (v := ?v25) rfl (by kernel_rfl) (by kernel_rfl) (by kernel_rfl) (by kernel_rfl) (fun _ _ _ h => h) (yieldsIf_run rfl (fun w' hw' => ?y25)) hS0 ?_
          case y25 => (obtain ⟨z0, z1, z2, z3⟩ := HCELL.out w' hw'; clear hw'; first | (go_simp; rfl) | (go_simp; done))
          simp only [Act.put, List.setIfInBounds_toArray, List.set_cons_zero, List.set_cons_succ]
          refine wpAnyF_take (i := 3) (fin := 25) (v := ?v26) rfl (by kernel_rfl) (by kernel_rfl) (by kernel_rfl) (by kernel_rfl) (fun _ _ _ h => h) (yieldsIf_run rfl (fun w' hw' => ?y26)) hS0 ?_
          case y26 => first | (go_simp; rfl) | (go_simp; done) | rfl
          simp only [Act.put, List.setIfInBounds_toArray, List.set_cons_zero, List.set_cons_succ]
          refine wpAnyF_take (i := 4) (fin := 25) (v := ?v27) rfl (by kernel_rfl) (by kernel_rfl) (by kernel_rfl) (by kernel_rfl) (fun _ _ _ h => h) (yieldsIf_run rfl (fun w' hw' => ?y27)) hS0 ?_
          case y27 => (obtain ⟨z0, z1, z2, z3⟩ := HCELL.out w' hw'; clear hw'; first | (go_simp; rfl) | (go_simp; done))
          simp only [Act.put, List.setIfInBounds_toArray, List.set_cons_zero, List.set_cons_succ]
          refine wpAnyF_take (i := 5) (fin := 25) (v := ?v28) rfl (by kernel_rfl) (by kernel_rfl) (by kernel_rfl) (by kernel_rfl) (fun _ _ _ h => h) (yieldsIf_run rfl (fun w' hw' => ?y28)) hS0 ?_
          case y28 => first | (go_simp; rfl) | (go_simp; done) | rfl
          simp only [Act.put, List.setIfInBounds_toArray, List.set_cons_zero, List.set_cons_succ]
          refine wpAnyF_take (i := 6) (fin := 25) (v := ?v29) rfl (by kernel_rfl) (by kernel_rfl) (by kernel_rfl) (by kernel_rfl) (fun _ _ _ h => h) (yieldsIf_run rfl (fun w' hw' => ?y29)) hS0 ?_
          case y29 => (obtain ⟨z0, z1, z2, z3⟩ := HCELL.out w' hw'; clear hw'; first | (go_simp; rfl) | (go_simp; done))
          simp only [Act.put, List.setIfInBounds_toArray, List.set_cons_zero, List.set_cons_succ]
          refine wpAnyF_take (i := 7) (fin := 25) (v := ?v30) rfl (by kernel_rfl) (by kernel_rfl) (by kernel_rfl) (by kernel_rfl) (fun _ _ _ h => h) (yieldsIf_run rfl (fun w' hw' => ?y30)) hS0 ?_
          case y30 => first | (go_simp; rfl) | (go_simp; done) | rfl
          simp only [Act.put, List.setIfInBounds_toArray, List.set_cons_zero, List.set_cons_succ]
          refine wpAnyF_take (i := 8) (fin := 25) (v := ?v31) rfl (by kernel_rfl) (by kernel_rfl) (by kernel_rfl) (by kernel_rfl) (fun _ _ _ h => h) (yieldsIf_run rfl (fun w' hw' => ?y31)) hS0 ?_
          case y31 => first | (go_simp; rfl) | (go_simp; done) | rfl
          simp only [Act.put, List.setIfInBounds_toArray, List.set_cons_zero, List.set_cons_succ]
          refine wpAnyF_take (i := 9) (fin := 25) (v := ?v32) rfl (by kernel_rfl) (by kernel_rfl) (by kernel_rfl) (by kernel_rfl) (fun _ _ _ h => h) (yieldsIf_run rfl (fun w' hw' => ?y32)) hS0 ?_
          case y32 => first | (go_simp; rfl) | (go_simp; done) | rfl
          simp only [Act.put, List.setIfInBounds_toArray, List.set_cons_zero, List.set_cons_succ]
          refine wpAnyF_take (i := 10) (fin := 25) (v := ?v33) rfl (by kernel_rfl) (by kernel_rfl) (by kernel_rfl) (by kernel_rfl) (fun _ _ _ h => h) (yieldsIf_run rfl (fun w' hw' => ?y33)) hS0 ?_
          case y33 => (obtain ⟨z0, z1, z2, z3⟩ := HCELL.out w' hw'; clear hw'; first | (go_simp; rfl) | (go_simp; done))
          simp only [Act.put, List.setIfInBounds_toArray, List.set_cons_zero, List.set_cons_succ]
          refine wpAnyF_take (i := 11) (fin := 25) (v := ?v34) rfl (by kernel_rfl) (by kernel_rfl) (by kernel_rfl) (by kernel_rfl) (fun _ _ _ h => h) (yieldsIf_run rfl (fun w' hw' => ?y34)) hS0 ?_
          case y34 => first | (go_simp; rfl) | (go_simp; done) | rfl
          simp only [Act.put, List.setIfInBounds_toArray, List.set_cons_zero, List.set_cons_succ]
          refine wpAnyF_take (i := 12) (fin := 25) (v := (.int .i64 0)) rfl (by kernel_rfl) (by kernel_rfl) (by kernel_rfl) (by kernel_rfl) (fun _ _ _ h => h) (yieldsIf_run rfl (fun w' hw' => ?y35)) hS0 ?_
          case y35 => first | (go_simp; rfl) | (go_simp; done) | rfl
          simp only [Act.put, List.setIfInBounds_toArray, List.set_cons_zero, List.set_cons_succ]
          refine wpAnyF_take (i := 13) (fin := 25) (v := ?v36) rfl (by kernel_rfl) (by kernel_rfl) (by kernel_rfl) (by kernel_rfl) (fun _ _ _ h => h) (yieldsIf_run rfl (fun w' hw' => ?y36)) hS0 ?_
          case y36 => first | (go_simp; rfl) | (go_simp; done) | rfl
          simp only [Act.put, List.setIfInBounds_toArray, List.set_cons_zero, List.set_cons_succ]
          refine wpAnyF_take (i := 14) (fin := 25) (v := (.int .i64 0)) rfl (by kernel_rfl) (by kernel_rfl) (by kernel_rfl) (by kernel_rfl) (fun _ _ _ h => h) (yieldsIf_run rfl (fun w' hw' => ?y37)) hS0 ?_
          case y37 => first | (go_simp; rfl) | (go_simp; done) | rfl
          simp only [Act.put, List.setIfInBounds_toArray, List.set_cons_zero, List.set_cons_succ]
          refine wpAnyF_take (i := 15) (fin := 25) (v := (.int .i64 224)) rfl (by kernel_rfl) (by kernel_rfl) (by kernel_rfl) (by kernel_rfl) (fun _ _ _ h => h) (yieldsIf_run rfl (fun w' hw' => ?y38)) hS0 ?_
          case y38 => first | (go_simp; rfl) | (go_simp; done) | rfl
          simp only [Act.put, List.setIfInBounds_toArray, List.set_cons_zero, List.set_cons_succ]
          refine wpAnyF_take (i := 16) (fin := 25) (v := ?v39) rfl (by kernel_rfl) (by kernel_rfl) (by kernel_rfl) (by kernel_rfl) (fun _ _ _ h => h) (yieldsIf_run rfl (fun w' hw' => ?y39)) hS0 ?_
          case y39 => first | (go_simp; rfl) | (go_simp; done) | rfl
          simp only [Act.put, List.setIfInBounds_toArray, List.set_cons_zero, List.set_cons_succ]
          refine wpAnyF_take (i := 17) (fin := 25) (v := ?v40) rfl (by kernel_rfl) (by kernel_rfl) (by kernel_rfl) (by kernel_rfl) (fun _ _ _ h => h) (yieldsIf_run rfl (fun w' hw' => ?y40)) hS0 ?_
          case y40 => (obtain ⟨z0, z1, z2, z3⟩ := HCELL.out w' hw'; clear hw'; first | (go_simp; rfl) | (go_simp; done))
          simp only [Act.put, List.setIfInBounds_toArray, List.set_cons_zero, List.set_cons_succ]
          refine wpAnyF_take (i := 18) (fin := 25) (v := ?v41) rfl (by kernel_rfl) (by kernel_rfl) (by kernel_rfl) (by kernel_rfl) (fun _ _ _ h => h) (yieldsIf_run rfl (fun w' hw' => ?y41)) hS0 ?_
          case y41 => first | (go_simp; rfl) | (go_simp; done) | rfl
          simp only [Act.put, List.setIfInBounds_toArray, List.set_cons_zero, List.set_cons_succ]
          refine wpAnyF_take (i := 19) (fin := 25) (v := (.int .i64 (0))) rfl (by kernel_rfl) (by kernel_rfl) (by kernel_rfl) (by kernel_rfl) (fun _ _ _ h => h) (yieldsIf_run rfl (fun w' hw' => ?y42)) hS0 ?_
          case y42 => first | (go_simp; rfl) | (go_simp; done) | rfl
          simp only [Act.put, List.setIfInBounds_toArray, List.set_cons_zero, List.set_cons_succ]
          refine wpAnyF_take (i := 20) (fin := 25) (v := (.slice (some aa) 0 cap)) rfl (by kernel_rfl) (by kernel_rfl) (by kernel_rfl) (by kernel_rfl) (fun _ _ _ h => h) (yieldsIf_run rfl (fun w' hw' => ?y43)) hS0 ?_
          case y43 => first | (go_simp; rfl) | (go_simp; done) | rfl
          simp only [Act.put, List.setIfInBounds_toArray, List.set_cons_zero, List.set_cons_succ]
          refine wpAnyF_take (i := 21) (fin := 25) (v := ?v44) rfl (by kernel_rfl) (by kernel_rfl) (by kernel_rfl) (by kernel_rfl) (fun _ _ _ h => h) (yieldsIf_run rfl (fun w' hw' => ?y44)) hS0 ?_
          case y44 => first | (go_simp; rfl) | (go_simp; done) | rfl
          simp only [Act.put, List.setIfInBounds_toArray, List.set_cons_zero, List.set_cons_succ]
          refine wpAnyF_do (i := 22) (by kernel_rfl) rfl rfl (fun K hK => ?_)
          go_simp
          go_at_call 22
          refine (Encode_part ⟨k, g, n, ((0 : Nat) : Int), (N : Int), seg l (224 * 0) 224⟩ HPO.out _ _ _ (by rw [HSG.out]; exact ⟨bytesAt_empty _ (fun _ => True) _ _, fun k c e => by cases e⟩)).mono ?_
          rintro e w3 ⟨u, rfl, hu, hb3⟩
          obtain ⟨ua, uc, rfl⟩ := ownsRow_form hu
          have ho3 := hOD.below hb3
          have hu3 : w3.ownsRow w1.heap.size 5 1 (.slice ua 256 uc) (encL (partOf ⟨k, g, n, l⟩ 0)).length (bvs (encL (partOf ⟨k, g, n, l⟩ 0))) := by
            rw [encL_length, HPE.out]
            exact ownsRow_base hu hS0.size
          have hS1 := hS0.trans (hb3.mono hS0.size)
          refine hK _ _ (fun _ => hS1) ?_
          clear hK K
          try simp only [Act.put, List.setIfInBounds_toArray, List.set_cons_zero, List.set_cons_succ]
          refine wpAnyF_do (i := 23) (by kernel_rfl) rfl rfl (fun K hK => ?_)
          go_simp
          have hS2 : Below w1.heap.size w1 (w3.alloc (.cells #[.slice ua 256 uc] 22)) := hS1.alloc hS1.size _
          refine hK _ _ (fun _ => hS2) ?_
          clear hK K
          try simp only [Act.put, List.setIfInBounds_toArray, List.set_cons_zero, List.set_cons_succ]
          refine wpAnyF_do (i := 24) (by kernel_rfl) rfl rfl (fun K hK => ?_)
          refine wp_appSec (.tmp 28) (.tmp 51) rfl rfl ho3 hu3 rfl (encs_length _ _) (by omega) hS1.size ?_
          intro a' cap' w4 ho4 hb4
          have hS3 := hS1.trans hb4
          refine hK _ _ (fun _ => hS3) ?_
          clear hK K
          try simp only [Act.put, List.setIfInBounds_toArray, List.set_cons_zero, List.set_cons_succ]
          refine wpAnyF_do (i := 25) (by kernel_rfl) rfl rfl (fun K hK => ?_)
          go_simp
          refine hK _ _ (fun h => absurd rfl h) ?_
          clear hK K
          refine wpAnyF_done (by kernel_rfl) ?_ _
          refine NoPanic.normal ?_
          have HO4 := Lib.hid ho4
          have HB4 := Lib.hid hS3
          clear ho4 hb4 hS3 hS2 hS1 hS0 hu3 ho3 hu hb3 hOD hVD
          go_wp2_with fail
          go_roundw
          case rel => first | exact ⟨0 + 1, by omega, by go_num, by rw [encs_succ]; exact HO4.out, HB4.out⟩ | ((repeat apply Exists.intro); exact ⟨⟨0 + 1, by omega, by go_num, by rw [encs_succ]; exact HO4.out, HB4.out⟩, rfl⟩)
          case measure => simp [intOf]; omega
      · have hlo : 224 * i < len := by have := HN.out; unfold needN at this; omega
        obtain ⟨ag, ao, rfl⟩ := hvr.at_.addr (fun e => h0 (by rw [← HL.out, e]; rfl))
        have hcl := hvr.at_.len.2
        have hck : ¬ cap = i * 224 := by omega
        have hck2 : ¬ cap = 224 * i := by omega
        have hw224 : IntKind.i64.wrap (224 * (i : Int)) = 224 * (i : Int) := IntWalk.i64_in _ (by omega)
        have hw448 : IntKind.i64.wrap (224 * (i : Int) + 224) = 224 * (i : Int) + 224 := IntWalk.i64_in _ (by omega)
        have hge0 : (0 : Int) ≤ 224 * (i : Int) := by omega
        have htn0 : (224 * (i : Int)).toNat = 224 * i := by omega
        have hge1 : 224 * (i : Int) ≤ 224 * (i : Int) + 224 := by omega
        have htn1 : (224 * (i : Int) + 224).toNat = 224 * i + 224 := by omega
        have hleI : 224 * (i : Int) ≤ (len : Int) := by omega
        have hcapI : (len : Int) ≤ (cap : Int) := by omega
        by_cases hlast : 224 * i + 224 ≤ len
        · have hI1 : 224 * (i : Int) + 224 ≤ (len : Int) := by omega
          have hI2 : 224 * (i : Int) + 224 ≤ (cap : Int) := by omega
          have hI4 : ¬ ((len : Int) < 224 * (i : Int) + 224) := by omega
          have hmin : min (224 * (i : Int) + 224) (len : Int) = 224 * (i : Int) + 224 := by omega
          clear hvr
          go_wp2_with fail
          refine wp_region_noPanic ?_
          refine wp_region_F 25 (Below w1.heap.size w1) (by kernel_rfl) ?_
          have hS0 : (Below w1.heap.size w1) wr.drew := HB.out.drew
          obtain ⟨wd, hwd⟩ : ∃ wd, wr.drew = wd := ⟨_, rfl⟩
          have hOD : OwnSecs wd w1.heap.size (.slice pa i pc) (encs ⟨k, g, n, l⟩ i) := hwd ▸ HO.out.below (show Below wr.heap.size wr wr.drew from (Below.refl _ _).drew)
          have hVD : BytesN wd F _ l := hwd ▸ HVR.out.below (show Below wr.heap.size wr wr.drew from (Below.refl _ _).drew)
          rw [hwd] at hS0 ⊢
          clear hwd
          refine wpAnyF_take (i := 0) (fin := 25) (v := ?v45) rfl (by kernel_rfl) (by kernel_rfl) (by kernel_rfl) (by kernel_rfl) (fun _ _ _ h => h) (yieldsIf_run rfl (fun w' hw' => ?y45)) hS0 ?_
          case y45 => first | (go_simp; rfl) | (go_simp; done) | rfl
          simp only [Act.put, List.setIfInBounds_toArray, List.set_cons_zero, List.set_cons_succ]
          refine wpAnyF_take (i := 1) (fin := 25) (v := ?v46) rfl (by kernel_rfl) (by kernel_rfl) (by kernel_rfl) (by kernel_rfl) (fun _ _ _ h => h) (yieldsIf_run rfl (fun w' hw' => ?y46)) hS0 ?_
          case y46 => first | (go_simp; rfl) | (go_simp; done) | rfl
          simp only [Act.put, List.setIfInBounds_toArray, List.set_cons_zero, List.set_cons_succ]
          refine wpAnyF_take (i := 2) (fin := 25) (v := ?v47) rfl (by kernel_rfl) (by kernel_rfl) (by kernel_rfl) (by kernel_rfl) (fun _ _ _ h => h) (yieldsIf_run rfl (fun w' hw' => ?y47)) hS0 ?_
          case y47 => (obtain ⟨z0, z1, z2, z3⟩ := HCELL.out w' hw'; clear hw'; first | (go_simp; rfl) | (go_simp; done))
          simp only [Act.put, List.setIfInBounds_toArray, List.set_cons_zero, List.set_cons_succ]
          refine wpAnyF_take (i := 3) (fin := 25) (v := ?v48) rfl (by kernel_rfl) (by kernel_rfl) (by kernel_rfl) (by kernel_rfl) (fun _ _ _ h => h) (yieldsIf_run rfl (fun w' hw' => ?y48)) hS0 ?_
          case y48 => first | (go_simp; rfl) | (go_simp; done) | rfl
          simp only [Act.put, List.setIfInBounds_toArray, List.set_cons_zero, List.set_cons_succ]
          refine wpAnyF_take (i := 4) (fin := 25) (v := ?v49) rfl (by kernel_rfl) (by kernel_rfl) (by kernel_rfl) (by kernel_rfl) (fun _ _ _ h => h) (yieldsIf_run rfl (fun w' hw' => ?y49)) hS0 ?_
          case y49 => (obtain ⟨z0, z1, z2, z3⟩ := HCELL.out w' hw'; clear hw'; first | (go_simp; rfl) | (go_simp; done))
          simp only [Act.put, List.setIfInBounds_toArray, List.set_cons_zero, List.set_cons_succ]
          refine wpAnyF_take (i := 5) (fin := 25) (v := ?v50) rfl (by kernel_rfl) (by kernel_rfl) (by kernel_rfl) (by kernel_rfl) (fun _ _ _ h => h) (yieldsIf_run rfl (fun w' hw' => ?y50)) hS0 ?_
          case y50 => first | (go_simp; rfl) | (go_simp; done) | rfl
          simp only [Act.put, List.setIfInBounds_toArray, List.set_cons_zero, List.set_cons_succ]
          refine wpAnyF_take (i := 6) (fin := 25) (v := ?v51) rfl (by kernel_rfl) (by kernel_rfl) (by kernel_rfl) (by kernel_rfl) (fun _ _ _ h => h) (yieldsIf_run rfl (fun w' hw' => ?y51)) hS0 ?_
          case y51 => (obtain ⟨z0, z1, z2, z3⟩ := HCELL.out w' hw'; clear hw'; first | (go_simp; rfl) | (go_simp; done))
          simp only [Act.put, List.setIfInBounds_toArray, List.set_cons_zero, List.set_cons_succ]
          refine wpAnyF_take (i := 7) (fin := 25) (v := ?v52) rfl (by kernel_rfl) (by kernel_rfl) (by kernel_rfl) (by kernel_rfl) (fun _ _ _ h => h) (yieldsIf_run rfl (fun w' hw' => ?y52)) hS0 ?_
          case y52 => first | (go_simp; rfl) | (go_simp; done) | rfl
          simp only [Act.put, List.setIfInBounds_toArray, List.set_cons_zero, List.set_cons_succ]
          refine wpAnyF_take (i := 8) (fin := 25) (v := ?v53) rfl (by kernel_rfl) (by kernel_rfl) (by kernel_rfl) (by kernel_rfl) (fun _ _ _ h => h) (yieldsIf_run rfl (fun w' hw' => ?y53)) hS0 ?_
          case y53 => first | (go_simp; rfl) | (go_simp; done) | rfl
          simp only [Act.put, List.setIfInBounds_toArray, List.set_cons_zero, List.set_cons_succ]
          refine wpAnyF_take (i := 9) (fin := 25) (v := ?v54) rfl (by kernel_rfl) (by kernel_rfl) (by kernel_rfl) (by kernel_rfl) (fun _ _ _ h => h) (yieldsIf_run rfl (fun w' hw' => ?y54)) hS0 ?_
          case y54 => first | (go_simp; rfl) | (go_simp; done) | rfl
          simp only [Act.put, List.setIfInBounds_toArray, List.set_cons_zero, List.set_cons_succ]
          refine wpAnyF_take (i := 10) (fin := 25) (v := ?v55) rfl (by kernel_rfl) (by kernel_rfl) (by kernel_rfl) (by kernel_rfl) (fun _ _ _ h => h) (yieldsIf_run rfl (fun w' hw' => ?y55)) hS0 ?_
          case y55 => (obtain ⟨z0, z1, z2, z3⟩ := HCELL.out w' hw'; clear hw'; first | (go_simp; rfl) | (go_simp; done))
          simp only [Act.put, List.setIfInBounds_toArray, List.set_cons_zero, List.set_cons_succ]
          refine wpAnyF_take (i := 11) (fin := 25) (v := ?v56) rfl (by kernel_rfl) (by kernel_rfl) (by kernel_rfl) (by kernel_rfl) (fun _ _ _ h => h) (yieldsIf_run rfl (fun w' hw' => ?y56)) hS0 ?_
          case y56 => first | (go_simp; rfl) | (go_simp; done) | rfl
          simp only [Act.put, List.setIfInBounds_toArray, List.set_cons_zero, List.set_cons_succ]
          refine wpAnyF_take (i := 12) (fin := 25) (v := (.int .i64 (224 * (i : Int)))) rfl (by kernel_rfl) (by kernel_rfl) (by kernel_rfl) (by kernel_rfl) (fun _ _ _ h => h) (yieldsIf_run rfl (fun w' hw' => ?y57)) hS0 ?_
          case y57 => first | (go_simp; rfl) | (go_simp; done) | rfl
          simp only [Act.put, List.setIfInBounds_toArray, List.set_cons_zero, List.set_cons_succ]
          refine wpAnyF_take (i := 13) (fin := 25) (v := ?v58) rfl (by kernel_rfl) (by kernel_rfl) (by kernel_rfl) (by kernel_rfl) (fun _ _ _ h => h) (yieldsIf_run rfl (fun w' hw' => ?y58)) hS0 ?_
          case y58 => first | (go_simp; rfl) | (go_simp; done) | rfl
          simp only [Act.put, List.setIfInBounds_toArray, List.set_cons_zero, List.set_cons_succ]
          refine wpAnyF_take (i := 14) (fin := 25) (v := (.int .i64 (224 * (i : Int)))) rfl (by kernel_rfl) (by kernel_rfl) (by kernel_rfl) (by kernel_rfl) (fun _ _ _ h => h) (yieldsIf_run rfl (fun w' hw' => ?y59)) hS0 ?_
          case y59 => first | (go_simp; rfl) | (go_simp; done) | rfl
          simp only [Act.put, List.setIfInBounds_toArray, List.set_cons_zero, List.set_cons_succ]
          refine wpAnyF_take (i := 15) (fin := 25) (v := (.int .i64 (224 * (i : Int) + 224))) rfl (by kernel_rfl) (by kernel_rfl) (by kernel_rfl) (by kernel_rfl) (fun _ _ _ h => h) (yieldsIf_run rfl (fun w' hw' => ?y60)) hS0 ?_
          case y60 => first | (go_simp; rfl) | (go_simp; done) | rfl
          simp only [Act.put, List.setIfInBounds_toArray, List.set_cons_zero, List.set_cons_succ]
          refine wpAnyF_take (i := 16) (fin := 25) (v := ?v61) rfl (by kernel_rfl) (by kernel_rfl) (by kernel_rfl) (by kernel_rfl) (fun _ _ _ h => h) (yieldsIf_run rfl (fun w' hw' => ?y61)) hS0 ?_
          case y61 => first | (go_simp; rfl) | (go_simp; done) | rfl
          simp only [Act.put, List.setIfInBounds_toArray, List.set_cons_zero, List.set_cons_succ]
          refine wpAnyF_take (i := 17) (fin := 25) (v := ?v62) rfl (by kernel_rfl) (by kernel_rfl) (by kernel_rfl) (by kernel_rfl) (fun _ _ _ h => h) (yieldsIf_run rfl (fun w' hw' => ?y62)) hS0 ?_
          case y62 => (obtain ⟨z0, z1, z2, z3⟩ := HCELL.out w' hw'; clear hw'; first | (go_simp; rfl) | (go_simp; done))
          simp only [Act.put, List.setIfInBounds_toArray, List.set_cons_zero, List.set_cons_succ]
          refine wpAnyF_take (i := 18) (fin := 25) (v := ?v63) rfl (by kernel_rfl) (by kernel_rfl) (by kernel_rfl) (by kernel_rfl) (fun _ _ _ h => h) (yieldsIf_run rfl (fun w' hw' => ?y63)) hS0 ?_
          case y63 => first | (go_simp; rfl) | (go_simp; done) | rfl
          simp only [Act.put, List.setIfInBounds_toArray, List.set_cons_zero, List.set_cons_succ]
          refine wpAnyF_take (i := 19) (fin := 25) (v := (.int .i64 (224 * (i : Int) + 224))) rfl (by kernel_rfl) (by kernel_rfl) (by kernel_rfl) (by kernel_rfl) (fun _ _ _ h => h) (yieldsIf_run rfl (fun w' hw' => ?y64)) hS0 ?_
          case y64 => first | (clear hw'; go_simp; intro hlt0; omega) | (go_simp; rfl) | (go_simp; done) | rfl
          simp only [Act.put, List.setIfInBounds_toArray, List.set_cons_zero, List.set_cons_succ]
          refine wpAnyF_take (i := 20) (fin := 25) (v := (.slice (some ⟨ag, ao + 224 * i, none⟩) (224 * i + 224 - 224 * i) (cap - 224 * i))) rfl (by kernel_rfl) (by kernel_rfl) (by kernel_rfl) (by kernel_rfl) (fun _ _ _ h => h) (yieldsIf_run rfl (fun w' hw' => ?y65)) hS0 ?_
          case y65 => first | (go_simp; rfl) | (go_simp; done) | rfl
          simp only [Act.put, List.setIfInBounds_toArray, List.set_cons_zero, List.set_cons_succ]
          refine wpAnyF_take (i := 21) (fin := 25) (v := ?v66) rfl (by kernel_rfl) (by kernel_rfl) (by kernel_rfl) (by kernel_rfl) (fun _ _ _ h => h) (yieldsIf_run rfl (fun w' hw' => ?y66)) hS0 ?_
          case y66 => first | (go_simp; rfl) | (go_simp; done) | rfl
          simp only [Act.put, List.setIfInBounds_toArray, List.set_cons_zero, List.set_cons_succ]
          refine wpAnyF_do (i := 22) (by kernel_rfl) rfl rfl (fun K hK => ?_)
          go_simp
          go_at_call 22
          refine (Encode_part ⟨k, g, n, ((i : Nat) : Int), (N : Int), seg l (224 * i) 224⟩ HPO.out _ _ _ ((hVD.at_.seg (224 * i) 224 (by omega) (by rw [HL.out]; omega) (by rw [HL.out]; omega) (by omega)).n)).mono ?_
          rintro e w3 ⟨u, rfl, hu, hb3⟩
          obtain ⟨ua, uc, rfl⟩ := ownsRow_form hu
          have ho3 := hOD.below hb3
          have hu3 : w3.ownsRow w1.heap.size 5 1 (.slice ua 256 uc) (encL (partOf ⟨k, g, n, l⟩ i)).length (bvs (encL (partOf ⟨k, g, n, l⟩ i))) := by
            rw [encL_length, HPE.out]
            exact ownsRow_base hu hS0.size
          have hS1 := hS0.trans (hb3.mono hS0.size)
          refine hK _ _ (fun _ => hS1) ?_
          clear hK K
          try simp only [Act.put, List.setIfInBounds_toArray, List.set_cons_zero, List.set_cons_succ]
          refine wpAnyF_do (i := 23) (by kernel_rfl) rfl rfl (fun K hK => ?_)
          go_simp
          have hS2 : Below w1.heap.size w1 (w3.alloc (.cells #[.slice ua 256 uc] 22)) := hS1.alloc hS1.size _
          refine hK _ _ (fun _ => hS2) ?_
          clear hK K
          try simp only [Act.put, List.setIfInBounds_toArray, List.set_cons_zero, List.set_cons_succ]
          refine wpAnyF_do (i := 24) (by kernel_rfl) rfl rfl (fun K hK => ?_)
          refine wp_appSec (.tmp 28) (.tmp 51) rfl rfl ho3 hu3 rfl (encs_length _ _) (by omega) hS1.size ?_
          intro a' cap' w4 ho4 hb4
          have hS3 := hS1.trans hb4
          refine hK _ _ (fun _ => hS3) ?_
          clear hK K
          try simp only [Act.put, List.setIfInBounds_toArray, List.set_cons_zero, List.set_cons_succ]
          refine wpAnyF_do (i := 25) (by kernel_rfl) rfl rfl (fun K hK => ?_)
          go_simp
          refine hK _ _ (fun h => absurd rfl h) ?_
          clear hK K
          refine wpAnyF_done (by kernel_rfl) ?_ _
          refine NoPanic.normal ?_
          have HO4 := Lib.hid ho4
          have HB4 := Lib.hid hS3
          clear ho4 hb4 hS3 hS2 hS1 hS0 hu3 ho3 hu hb3 hOD hVD
          go_wp2_with fail
          go_roundw
          case rel => first | exact ⟨i + 1, by omega, by go_num, by rw [encs_succ]; exact HO4.out, HB4.out⟩ | ((repeat apply Exists.intro); exact ⟨⟨i + 1, by omega, by go_num, by rw [encs_succ]; exact HO4.out, HB4.out⟩, rfl⟩)
          case measure => simp [intOf]; omega
        · have hI1 : (len : Int) < 224 * (i : Int) + 224 := by omega
          have hI2 : ¬ (224 * (i : Int) + 224 ≤ (len : Int)) := by omega
          have hI3 : (len : Int) ≤ 224 * (i : Int) + 224 := by omega
          clear hvr
          go_wp2_with fail
          refine wp_region_noPanic ?_
          refine wp_region_F 25 (Below w1.heap.size w1) (by kernel_rfl) ?_
          have hS0 : (Below w1.heap.size w1) wr.drew := HB.out.drew
          obtain ⟨wd, hwd⟩ : ∃ wd, wr.drew = wd := ⟨_, rfl⟩
          have hOD : OwnSecs wd w1.heap.size (.slice pa i pc) (encs ⟨k, g, n, l⟩ i) := hwd ▸ HO.out.below (show Below wr.heap.size wr wr.drew from (Below.refl _ _).drew)
          have hVD : BytesN wd F _ l := hwd ▸ HVR.out.below (show Below wr.heap.size wr wr.drew from (Below.refl _ _).drew)
          rw [hwd] at hS0 ⊢
          clear hwd
          refine wpAnyF_take (i := 0) (fin := 25) (v := ?v67) rfl (by kernel_rfl) (by kernel_rfl) (by kernel_rfl) (by kernel_rfl) (fun _ _ _ h => h) (yieldsIf_run rfl (fun w' hw' => ?y67)) hS0 ?_
          case y67 => first | (go_simp; rfl) | (go_simp; done) | rfl
          simp only [Act.put, List.setIfInBounds_toArray, List.set_cons_zero, List.set_cons_succ]
          refine wpAnyF_take (i := 1) (fin := 25) (v := ?v68) rfl (by kernel_rfl) (by kernel_rfl) (by kernel_rfl) (by kernel_rfl) (fun _ _ _ h => h) (yieldsIf_run rfl (fun w' hw' => ?y68)) hS0 ?_
          case y68 => first | (go_simp; rfl) | (go_simp; done) | rfl
          simp only [Act.put, List.setIfInBounds_toArray, List.set_cons_zero, List.set_cons_succ]
          refine wpAnyF_take (i := 2) (fin := 25) (v := ?v69) rfl (by kernel_rfl) (by kernel_rfl) (by kernel_rfl) (by kernel_rfl) (fun _ _ _ h => h) (yieldsIf_run rfl (fun w' hw' => ?y69)) hS0 ?_
          case y69 => (obtain ⟨z0, z1, z2, z3⟩ := HCELL.out w' hw'; clear hw'; first | (go_simp; rfl) | (go_simp; done))
          simp only [Act.put, List.setIfInBounds_toArray, List.set_cons_zero, List.set_cons_succ]
          refine wpAnyF_take (i := 3) (fin := 25) (v := ?v70) rfl (by kernel_rfl) (by kernel_rfl) (by kernel_rfl) (by kernel_rfl) (fun _ _ _ h => h) (yieldsIf_run rfl (fun w' hw' => ?y70)) hS0 ?_
          case y70 => first | (go_simp; rfl) | (go_simp; done) | rfl
          simp only [Act.put, List.setIfInBounds_toArray, List.set_cons_zero, List.set_cons_succ]
          refine wpAnyF_take (i := 4) (fin := 25) (v := ?v71) rfl (by kernel_rfl) (by kernel_rfl) (by kernel_rfl) (by kernel_rfl) (fun _ _ _ h => h) (yieldsIf_run rfl (fun w' hw' => ?y71)) hS0 ?_
          case y71 => (obtain ⟨z0, z1, z2, z3⟩ := HCELL.out w' hw'; clear hw'; first | (go_simp; rfl) | (go_simp; done))
          simp only [Act.put, List.setIfInBounds_toArray, List.set_cons_zero, List.set_cons_succ]
          refine wpAnyF_take (i := 5) (fin := 25) (v := ?v72) rfl (by kernel_rfl) (by kernel_rfl) (by kernel_rfl) (by kernel_rfl) (fun _ _ _ h => h) (yieldsIf_run rfl (fun w' hw' => ?y72)) hS0 ?_
          case y72 => first | (go_simp; rfl) | (go_simp; done) | rfl
          simp only [Act.put, List.setIfInBounds_toArray, List.set_cons_zero, List.set_cons_succ]
          refine wpAnyF_take (i := 6) (fin := 25) (v := ?v73) rfl (by kernel_rfl) (by kernel_rfl) (by kernel_rfl) (by kernel_rfl) (fun _ _ _ h => h) (yieldsIf_run rfl (fun w' hw' => ?y73)) hS0 ?_
          case y73 => (obtain ⟨z0, z1, z2, z3⟩ := HCELL.out w' hw'; clear hw'; first | (go_simp; rfl) | (go_simp; done))
          simp only [Act.put, List.setIfInBounds_toArray, List.set_cons_zero, List.set_cons_succ]
          refine wpAnyF_take (i := 7) (fin := 25) (v := ?v74) rfl (by kernel_rfl) (by kernel_rfl) (by kernel_rfl) (by kernel_rfl) (fun _ _ _ h => h) (yieldsIf_run rfl (fun w' hw' => ?y74)) hS0 ?_
          case y74 => first | (go_simp; rfl) | (go_simp; done) | rfl
          simp only [Act.put, List.setIfInBounds_toArray, List.set_cons_zero, List.set_cons_succ]
          refine wpAnyF_take (i := 8) (fin := 25) (v := ?v75) rfl (by kernel_rfl) (by kernel_rfl) (by kernel_rfl) (by kernel_rfl) (fun _ _ _ h => h) (yieldsIf_run rfl (fun w' hw' => ?y75)) hS0 ?_
          case y75 => first | (go_simp; rfl) | (go_simp; done) | rfl
          simp only [Act.put, List.setIfInBounds_toArray, List.set_cons_zero, List.set_cons_succ]
          refine wpAnyF_take (i := 9) (fin := 25) (v := ?v76) rfl (by kernel_rfl) (by kernel_rfl) (by kernel_rfl) (by kernel_rfl) (fun _ _ _ h => h) (yieldsIf_run rfl (fun w' hw' => ?y76)) hS0 ?_
          case y76 => first | (go_simp; rfl) | (go_simp; done) | rfl
          simp only [Act.put, List.setIfInBounds_toArray, List.set_cons_zero, List.set_cons_succ]
          refine wpAnyF_take (i := 10) (fin := 25) (v := ?v77) rfl (by kernel_rfl) (by kernel_rfl) (by kernel_rfl) (by kernel_rfl) (fun _ _ _ h => h) (yieldsIf_run rfl (fun w' hw' => ?y77)) hS0 ?_
          case y77 => (obtain ⟨z0, z1, z2, z3⟩ := HCELL.out w' hw'; clear hw'; first | (go_simp; rfl) | (go_simp; done))
          simp only [Act.put, List.setIfInBounds_toArray, List.set_cons_zero, List.set_cons_succ]
          refine wpAnyF_take (i := 11) (fin := 25) (v := ?v78) rfl (by kernel_rfl) (by kernel_rfl) (by kernel_rfl) (by kernel_rfl) (fun _ _ _ h => h) (yieldsIf_run rfl (fun w' hw' => ?y78)) hS0 ?_
          case y78 => first | (go_simp; rfl) | (go_simp; done) | rfl
          simp only [Act.put, List.setIfInBounds_toArray, List.set_cons_zero, List.set_cons_succ]
          refine wpAnyF_take (i := 12) (fin := 25) (v := (.int .i64 (224 * (i : Int)))) rfl (by kernel_rfl) (by kernel_rfl) (by kernel_rfl) (by kernel_rfl) (fun _ _ _ h => h) (yieldsIf_run rfl (fun w' hw' => ?y79)) hS0 ?_
          case y79 => first | (go_simp; rfl) | (go_simp; done) | rfl
          simp only [Act.put, List.setIfInBounds_toArray, List.set_cons_zero, List.set_cons_succ]
          refine wpAnyF_take (i := 13) (fin := 25) (v := ?v80) rfl (by kernel_rfl) (by kernel_rfl) (by kernel_rfl) (by kernel_rfl) (fun _ _ _ h => h) (yieldsIf_run rfl (fun w' hw' => ?y80)) hS0 ?_
          case y80 => first | (go_simp; rfl) | (go_simp; done) | rfl
          simp only [Act.put, List.setIfInBounds_toArray, List.set_cons_zero, List.set_cons_succ]
          refine wpAnyF_take (i := 14) (fin := 25) (v := (.int .i64 (224 * (i : Int)))) rfl (by kernel_rfl) (by kernel_rfl) (by kernel_rfl) (by kernel_rfl) (fun _ _ _ h => h) (yieldsIf_run rfl (fun w' hw' => ?y81)) hS0 ?_
          case y81 => first | (go_simp; rfl) | (go_simp; done) | rfl
          simp only [Act.put, List.setIfInBounds_toArray, List.set_cons_zero, List.set_cons_succ]
          refine wpAnyF_take (i := 15) (fin := 25) (v := (.int .i64 (224 * (i : Int) + 224))) rfl (by kernel_rfl) (by kernel_rfl) (by kernel_rfl) (by kernel_rfl) (fun _ _ _ h => h) (yieldsIf_run rfl (fun w' hw' => ?y82)) hS0 ?_
          case y82 => first | (go_simp; rfl) | (go_simp; done) | rfl
          simp only [Act.put, List.setIfInBounds_toArray, List.set_cons_zero, List.set_cons_succ]
          refine wpAnyF_take (i := 16) (fin := 25) (v := ?v83) rfl (by kernel_rfl) (by kernel_rfl) (by kernel_rfl) (by kernel_rfl) (fun _ _ _ h => h) (yieldsIf_run rfl (fun w' hw' => ?y83)) hS0 ?_
          case y83 => first | (go_simp; rfl) | (go_simp; done) | rfl
          simp only [Act.put, List.setIfInBounds_toArray, List.set_cons_zero, List.set_cons_succ]
          refine wpAnyF_take (i := 17) (fin := 25) (v := ?v84) rfl (by kernel_rfl) (by kernel_rfl) (by kernel_rfl) (by kernel_rfl) (fun _ _ _ h => h) (yieldsIf_run rfl (fun w' hw' => ?y84)) hS0 ?_
          case y84 => (obtain ⟨z0, z1, z2, z3⟩ := HCELL.out w' hw'; clear hw'; first | (go_simp; rfl) | (go_simp; done))
          simp only [Act.put, List.setIfInBounds_toArray, List.set_cons_zero, List.set_cons_succ]
          refine wpAnyF_take (i := 18) (fin := 25) (v := ?v85) rfl (by kernel_rfl) (by kernel_rfl) (by kernel_rfl) (by kernel_rfl) (fun _ _ _ h => h) (yieldsIf_run rfl (fun w' hw' => ?y85)) hS0 ?_
          case y85 => first | (go_simp; rfl) | (go_simp; done) | rfl
          simp only [Act.put, List.setIfInBounds_toArray, List.set_cons_zero, List.set_cons_succ]
          refine wpAnyF_take (i := 19) (fin := 25) (v := (.int .i64 ((len : Int)))) rfl (by kernel_rfl) (by kernel_rfl) (by kernel_rfl) (by kernel_rfl) (fun _ _ _ h => h) (yieldsIf_run rfl (fun w' hw' => ?y86)) hS0 ?_
          case y86 => first | (go_simp; rfl) | (go_simp; done) | rfl
          simp only [Act.put, List.setIfInBounds_toArray, List.set_cons_zero, List.set_cons_succ]
          refine wpAnyF_take (i := 20) (fin := 25) (v := (.slice (some ⟨ag, ao + 224 * i, none⟩) (len - 224 * i) (cap - 224 * i))) rfl (by kernel_rfl) (by kernel_rfl) (by kernel_rfl) (by kernel_rfl) (fun _ _ _ h => h) (yieldsIf_run rfl (fun w' hw' => ?y87)) hS0 ?_
          case y87 => first | (go_simp; rfl) | (go_simp; done) | rfl
          simp only [Act.put, List.setIfInBounds_toArray, List.set_cons_zero, List.set_cons_succ]
          refine wpAnyF_take (i := 21) (fin := 25) (v := ?v88) rfl (by kernel_rfl) (by kernel_rfl) (by kernel_rfl) (by kernel_rfl) (fun _ _ _ h => h) (yieldsIf_run rfl (fun w' hw' => ?y88)) hS0 ?_
          case y88 => first | (go_simp; rfl) | (go_simp; done) | rfl
          simp only [Act.put, List.setIfInBounds_toArray, List.set_cons_zero, List.set_cons_succ]
          refine wpAnyF_do (i := 22) (by kernel_rfl) rfl rfl (fun K hK => ?_)
          go_simp
          go_at_call 22
          refine (Encode_part ⟨k, g, n, ((i : Nat) : Int), (N : Int), seg l (224 * i) 224⟩ HPO.out _ _ _ ((hVD.at_.seg (224 * i) 224 (by omega) (by rw [HL.out]; omega) (by rw [HL.out]; omega) (by omega)).n)).mono ?_
          rintro e w3 ⟨u, rfl, hu, hb3⟩
          obtain ⟨ua, uc, rfl⟩ := ownsRow_form hu
          have ho3 := hOD.below hb3
          have hu3 : w3.ownsRow w1.heap.size 5 1 (.slice ua 256 uc) (encL (partOf ⟨k, g, n, l⟩ i)).length (bvs (encL (partOf ⟨k, g, n, l⟩ i))) := by
            rw [encL_length, HPE.out]
            exact ownsRow_base hu hS0.size
          have hS1 := hS0.trans (hb3.mono hS0.size)
          refine hK _ _ (fun _ => hS1) ?_
          clear hK K
          try simp only [Act.put, List.setIfInBounds_toArray, List.set_cons_zero, List.set_cons_succ]
          refine wpAnyF_do (i := 23) (by kernel_rfl) rfl rfl (fun K hK => ?_)
          go_simp
          have hS2 : Below w1.heap.size w1 (w3.alloc (.cells #[.slice ua 256 uc] 22)) := hS1.alloc hS1.size _
          refine hK _ _ (fun _ => hS2) ?_
          clear hK K
          try simp only [Act.put, List.setIfInBounds_toArray, List.set_cons_zero, List.set_cons_succ]
          refine wpAnyF_do (i := 24) (by kernel_rfl) rfl rfl (fun K hK => ?_)
          refine wp_appSec (.tmp 28) (.tmp 51) rfl rfl ho3 hu3 rfl (encs_length _ _) (by omega) hS1.size ?_
          intro a' cap' w4 ho4 hb4
          have hS3 := hS1.trans hb4
          refine hK _ _ (fun _ => hS3) ?_
          clear hK K
          try simp only [Act.put, List.setIfInBounds_toArray, List.set_cons_zero, List.set_cons_succ]
          refine wpAnyF_do (i := 25) (by kernel_rfl) rfl rfl (fun K hK => ?_)
          go_simp
          refine hK _ _ (fun h => absurd rfl h) ?_
          clear hK K
          refine wpAnyF_done (by kernel_rfl) ?_ _
          refine NoPanic.normal ?_
          have HO4 := Lib.hid ho4
          have HB4 := Lib.hid hS3
          clear ho4 hb4 hS3 hS2 hS1 hS0 hu3 ho3 hu hb3 hOD hVD
          go_wp2_with fail
          go_roundw
          case rel => first | exact ⟨i + 1, by omega, by go_num, by rw [encs_succ]; exact HO4.out, HB4.out⟩ | ((repeat apply Exists.intro); exact ⟨⟨i + 1, by omega, by go_num, by rw [encs_succ]; exact HO4.out, HB4.out⟩, rfl⟩)
          case measure => simp [intOf]; omega
    · obtain rfl : i = N := by omega
      go_wp2_with fail
      go_ret2
      exact SplitPost.yes HE.out (by show needN l.length = _; rw [HL.out, HN.out]) HO.out HBD.out.size (HBD.out.trans (HB.out.mono HBD.out.size))

set_option maxRecDepth 100000 in
set_option maxHeartbeats 2000000 in
theorem rSplit_no {w : World} (k g n : Int) (l : List UInt8) (a : Option Addr) (len cap : Nat) (hl : l.length = len) (h : splitE ⟨k, g, n, l⟩ ≠ 0) :
    Calls Tryd.prog 29 #[.agg #[.int .i64 k, .int .i64 g, .int .i64 n, .slice a len cap]] w (SplitPost w ⟨k, g, n, l⟩) := by
  have hval := fun w => fine_any k g n w
  by_cases hf : fineB k g n = false
  · have h2 : splitE ⟨k, g, n, l⟩ = 2 := by unfold splitE; rw [if_pos hf]
    rw [hf] at hval
    have HVAL := Lib.hid hval
    have H2 := Lib.hid h2
    clear hval h2 hf hl h
    go_enter Tryd.func29, Tryd.ntmps29
    go_wp2_with fail
    refine (HVAL.out _).mono ?_
    rintro e w' ⟨rfl, rfl⟩
    go_wp2_with fail
    go_ret2
    exact SplitPost.no H2.out (by decide) ((Below.refl _ _).alloc (Nat.le_refl _) _)
  · have hf' : fineB k g n = true := by simpa using hf
    have hbig : 131072 < len := by
      rcases Nat.lt_or_ge 131072 len with h1 | h1
      · exact h1
      · exact absurd (by unfold splitE; rw [if_neg hf, if_neg (by simp only; omega)]) h
    have h5 : splitE ⟨k, g, n, l⟩ = 5 := by unfold splitE; rw [if_neg hf, if_pos (by simp only; omega)]
    rw [hf'] at hval
    have HVAL := Lib.hid hval
    have H5 := Lib.hid h5
    clear hval h5 hf hf' hl h
    go_enter Tryd.func29, Tryd.ntmps29
    go_wp2_with fail
    refine (HVAL.out _).mono ?_
    rintro e w' ⟨rfl, rfl⟩
    go_wp2_with fail
    go_ret2
    exact SplitPost.no H5.out (by decide) ((Below.refl _ _).alloc (Nat.le_refl _) _)
theorem rSplit_any {w : World} {F : Nat → Prop} (r : RecD) (a : Option Addr) (len cap : Nat) (hv : BytesN w F (.slice a len cap) r.load) :
    Calls Tryd.prog 29 #[.agg #[.int .i64 r.kind, .int .i64 r.gen, .int .i64 r.num, .slice a len cap]] w (SplitPost w r) := by
  obtain ⟨rfl, _⟩ := hv.at_.len
  by_cases h : splitE r = 0
  · exact rSplit_ok r.kind r.gen r.num r.load a _ cap hv rfl h
  · exact rSplit_no r.kind r.gen r.num r.load a _ cap rfl h

end Go.Proofs.YtloaenknhkfaeaaDoor
