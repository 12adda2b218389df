/- Records: the laws Scans and Salvages. -/
import Derived.Test.YtloaenknhkfaeaaDoorRec35
namespace Go.Proofs.YtloaenknhkfaeaaDoor
open Go.RowKit
set_option linter.unusedVariables false
set_option linter.unusedSimpArgs false

theorem scanGo_few (g n : Int) (l : List (List UInt8)) : ∀ k a out, (scanGo g n l k a out).1.length ≤ out.length + k
  | 0, a, out => Nat.le_refl _
  | k + 1, a, out => by
    rw [scanGo]
    split
    · simp only; omega
    · split
      · simp only; omega
      · split
        · have := scanGo_few g n l k (a + (joinL (l.drop a)).2.1) (out ++ [(joinL (l.drop a)).1])
          rw [List.length_append] at this
          simp at this
          omega
        · simp only; omega
theorem scanL_few (g n : Int) (l : List (List UInt8)) : (scanL g n l).1.length ≤ l.length := by
  unfold scanL
  split
  · exact Nat.zero_le _
  · have := scanGo_few g n l l.length 0 []
    simpa using this
theorem salGo_few (l : List (List UInt8)) : ∀ k a out, (salGo l k a out).length ≤ out.length + k
  | 0, a, out => Nat.le_refl _
  | k + 1, a, out => by
    rw [salGo]
    split
    · omega
    · split
      · have := salGo_few l k (a + 1) out
        omega
      · have := salGo_few l k (a + (joinL (l.drop a)).2.1) (out ++ [(joinL (l.drop a)).1])
        rw [List.length_append] at this
        simp at this
        omega
theorem salL_few (l : List (List UInt8)) : (salL l).length ≤ l.length := by
  have := salGo_few l l.length 0 []
  simpa [salL] using this
theorem RunV.cells_eq (R : RunV) : R.cells.toArray = #[.int .i64 R.g, .int .i64 R.n, R.pv, R.ov, .slice R.qa R.places.length R.qc, .int .u8 (R.cut.toNat : Int)] := rfl

set_option maxRecDepth 100000 in
set_option maxHeartbeats 2000000 in
theorem RecordScans_any {w : World} (R : RunV) (hR : R.At w) (g n : Int) (hK : KAt w) :
    Calls Tryd.prog 11 #[.agg R.cells.toArray, .int .i64 g, .int .i64 n] w fun e w' => e = .returned (.bool true) ∧ Below w.heap.size w w' := by
  obtain ⟨w1, hw1⟩ : ∃ w1, w.alloc (.cells #[.int .i64 R.g, .int .i64 R.n, R.pv, R.ov, .slice R.qa R.places.length R.qc, .int .u8 (R.cut.toNat : Int)] 75) = w1 := ⟨_, rfl⟩
  have hb1 : Below w.heap.size w w1 := hw1 ▸ (Below.refl _ w).alloc (Nat.le_refl _) _
  have hrun := run_any R (hR.below hb1)
  rw [R.cells_eq] at hrun ⊢
  have HRUN := Lib.hid hrun
  have HW1 := Lib.hid hw1
  have HB1 := Lib.hid hb1
  have HK := Lib.hid hK
  clear hrun hw1 hb1 hK hR
  go_enter Tryd.func11, Tryd.ntmps11
  go_wp2_with fail
  rw [HW1.out]
  refine HRUN.out.mono ?_
  rintro e w2 ⟨u, M, rfl, ho, _, hM, _, hb⟩
  obtain ⟨ua, uc, rfl⟩ := ho.form
  have hB2 := HB1.out.trans (hb.mono HB1.out.size)
  have hsc := Scan_any g n M _ ho.secs (by omega) (HK.out.below hB2 HK.out.size)
  have HSC := Lib.hid hsc
  have HB2 := Lib.hid hB2
  have HO := Lib.hid ho
  clear hb hB2 hsc ho HRUN
  go_wp2_with fail
  refine HSC.out.mono ?_
  rintro e w3 ⟨v3, rfl, ho3, hb3⟩
  have hfew := scanL_few g n M
  obtain ⟨S, hS⟩ : ∃ S, scanL g n M = S := ⟨_, rfl⟩
  rw [hS] at ho3 hfew ⊢
  obtain ⟨out, m, k⟩ := S
  simp only at ho3 hfew ⊢
  obtain ⟨a3, c3, rfl⟩ := ho3.form
  have hB3 := HB2.out.trans (hb3.mono HB2.out.size)
  have hsc := rScan_any g n M _ (HO.out.below hb3).secs (by omega)
  have HSC3 := Lib.hid hsc
  have HB3 := Lib.hid hB3
  have HO3 := Lib.hid ho3
  have HS := Lib.hid hS
  clear hb3 hB3 hsc ho3 hS HSC HO
  go_wp2_with fail
  refine HSC3.out.mono ?_
  rintro e w4 ⟨v4, rfl, ho4, hb4⟩
  rw [HS.out] at ho4 ⊢
  simp only at ho4 ⊢
  obtain ⟨a4, c4, rfl⟩ := ho4.form
  have hB4 := HB3.out.trans (hb4.mono HB3.out.size)
  have hkn := known_any (HK.out.below hB4 HK.out.size)
  have HKN := Lib.hid hkn
  have HB4 := Lib.hid hB4
  have HO3b := Lib.hid (HO3.out.below hb4)
  have HO4 := Lib.hid ho4
  clear hb4 hB4 hkn ho4 HO3 HSC3
  go_wp2_with fail
  refine HKN.out.mono ?_
  rintro e w5 ⟨rfl, hb5⟩
  have hl := list_any _ _ out (HO3b.out.below hb5) (HO4.out.below hb5) (by omega)
  have HL := Lib.hid hl
  have HB5 := Lib.hid (HB4.out.trans (hb5.mono HB4.out.size))
  have hmI : ((m : Int) == (m : Int)) = true := by simp
  have hkI : ((k : Int) == (k : Int)) = true := by simp
  clear hl hb5
  go_wp2_with fail
  refine HL.out.mono ?_
  rintro e w6 ⟨rfl, hb6⟩
  go_wp2_with fail
  go_ret
  exact ⟨rfl, HB5.out.trans (hb6.mono HB5.out.size)⟩

set_option maxRecDepth 100000 in
set_option maxHeartbeats 2000000 in
theorem RecordSalvages_any {w : World} (R : RunV) (hR : R.At w) (v : Value) (D : List SecV) (hD : DescsAt w v D) (hK : KAt w) :
    Calls Tryd.prog 14 #[.agg R.cells.toArray, v] w fun e w' => e = .returned (.bool true) ∧ Below w.heap.size w w' := by
  obtain ⟨va, vc, rfl, _⟩ := hD.ex
  obtain ⟨No, hNo⟩ : ∃ No, D.length = No := ⟨_, rfl⟩
  rw [hNo] at hD ⊢
  obtain ⟨w1, hw1⟩ : ∃ w1, w.alloc (.cells #[.int .i64 R.g, .int .i64 R.n, R.pv, R.ov, .slice R.qa R.places.length R.qc, .int .u8 (R.cut.toNat : Int)] 75) = w1 := ⟨_, rfl⟩
  have hb1 : Below w.heap.size w w1 := hw1 ▸ (Below.refl _ w).alloc (Nat.le_refl _) _
  have hX1 : w1.heap[w.heap.size]? = some (.cells #[.int .i64 R.g, .int .i64 R.n, R.pv, R.ov, .slice R.qa R.places.length R.qc, .int .u8 (R.cut.toNat : Int)] 75 (0, 0)) := by rw [← hw1]; exact heap_alloc_new _ _
  have hcell : ∀ w' : World, Below w1.heap.size w1 w' → w'.cell? ⟨w.heap.size, 0, none⟩ = some (.int .i64 R.g) ∧ w'.cell? ⟨w.heap.size, 1, none⟩ = some (.int .i64 R.n) ∧ w'.cell? ⟨w.heap.size, 2, none⟩ = some R.pv ∧ w'.cell? ⟨w.heap.size, 3, none⟩ = some R.ov ∧ w'.cell? ⟨w.heap.size, 4, none⟩ = some (.slice R.qa R.places.length R.qc) ∧ w'.cell? ⟨w.heap.size, 5, none⟩ = some (.int .u8 (R.cut.toNat : Int)) := by
    intro w' hb
    have h0 := (hb.block w.heap.size (Array.getElem?_eq_some_iff.1 hX1).1).trans hX1
    refine ⟨?_, ?_, ?_, ?_, ?_, ?_⟩ <;> (rw [cell_of_row _ _ _ _ _ _ h0]; rfl)
  have hrun : ∀ w', Below w1.heap.size w1 w' → Calls Tryd.prog 38 #[.agg #[.int .i64 R.g, .int .i64 R.n, R.pv, R.ov, .slice R.qa R.places.length R.qc, .int .u8 (R.cut.toNat : Int)]] w' (RunPost R w') := fun w' hb => by
    have h := run_any R ((hR.below hb1).below hb)
    rwa [R.cells_eq] at h
  rw [R.cells_eq]
  have HCELL := Lib.hid hcell
  have HRUN := Lib.hid hrun
  have HW1 := Lib.hid hw1
  have HB1 := Lib.hid hb1
  have HK := Lib.hid hK
  have HD := Lib.hid (hD.below hb1)
  clear hrun hw1 hb1 hK hR hX1 hcell hD hNo
  go_enter Tryd.func14, Tryd.ntmps14
  go_wp2_with fail
  rw [HW1.out]
  refine wp_region_noPanic ?_
  refine wp_region_H (Below w1.heap.size w1) (by kernel_rfl) ?_
  have hS0 : (Below w1.heap.size w1) w1.drew := (Below.refl _ _).drew
  obtain ⟨wd, hwd⟩ : ∃ wd, w1.drew = wd := ⟨_, rfl⟩
  rw [hwd] at hS0 ⊢
  clear hwd
  refine wpAnyH_takeI (i := 0) (v := ?v1) rfl (by kernel_rfl) (by kernel_rfl) (by kernel_rfl) (fun _ _ _ h => h) (yieldsIf_run rfl (fun w' hw' => ?y1)) hS0 ?_
  case y1 => first | (go_simp; rfl) | (go_simp; done) | rfl
  simp only [Act.put, List.setIfInBounds_toArray, List.set_cons_zero, List.set_cons_succ]
  refine wpAnyH_takeI (i := 2) (v := ?v2) rfl (by kernel_rfl) (by kernel_rfl) (by kernel_rfl) (fun _ _ _ h => h) (yieldsIf_run rfl (fun w' hw' => ?y2)) hS0 ?_
  case y2 => (obtain ⟨y0, y1, y2, y3, y4, y5⟩ := HCELL.out w' hw'; clear hw'; first | (go_simp; rfl) | (go_simp; done))
  simp only [Act.put, List.setIfInBounds_toArray, List.set_cons_zero, List.set_cons_succ]
  refine wpAnyH_do (i := 1) (by kernel_rfl) rfl rfl (fun K hK => ?_)
  go_simp
  go_at_call 35
  refine (sectors_any _ _ (HD.out.below hS0)).mono ?_
  rintro e w2 ⟨u1, M1, rfl, hO1, _, hM1, hbw2⟩
  obtain ⟨a1, c1, rfl⟩ := hO1.form
  have hSw2 := hS0.trans (hbw2.mono hS0.size)
  refine hK _ _ (hSw2) ?_
  clear hK K
  try simp only [Act.put, List.setIfInBounds_toArray, List.set_cons_zero, List.set_cons_succ]
  refine wpAnyH_do (i := 3) (by kernel_rfl) rfl rfl (fun K hK => ?_)
  go_simp
  go_at_call 38
  refine (HRUN.out _ hSw2).mono ?_
  rintro e w3 ⟨u2, M2, rfl, hO2, _, hM2, _, hbw3⟩
  obtain ⟨a2, c2, rfl⟩ := hO2.form
  have hSw3 := hSw2.trans (hbw3.mono hSw2.size)
  refine hK _ _ (hSw3) ?_
  clear hK K
  try simp only [Act.put, List.setIfInBounds_toArray, List.set_cons_zero, List.set_cons_succ]
  refine wpAnyH_do (i := 4) (by kernel_rfl) rfl rfl (fun K hK => ?_)
  refine wp_appSecs (n := M1.length) (m := M2.length) (.tmp 7) (.tmp 9) rfl rfl (hO1.below hbw3) rfl (hO2.base hbw2.size) rfl rfl (by omega) (by have := hS0.size; have := hbw2.size; have := hbw3.size; omega) wd.heap.size (fun k hk => (ownSecs_lt hO1 hk).1) (by have := hbw2.size; have := hbw3.size; omega) ?_
  intro a7 c7 w7 ho7 hk7 hb7
  have hS7 := hSw3.trans (hb7.mono hS0.size)
  refine hK _ _ (hS7) ?_
  clear hK K
  try simp only [Act.put, List.setIfInBounds_toArray, List.set_cons_zero, List.set_cons_succ]
  refine wpAnyH_takeI (i := 5) (v := ?v3) rfl (by kernel_rfl) (by kernel_rfl) (by kernel_rfl) (fun _ _ _ h => h) (yieldsIf_run rfl (fun w' hw' => ?y3)) hS7 ?_
  case y3 => first | (go_simp; rfl) | (go_simp; done) | rfl
  simp only [Act.put, List.setIfInBounds_toArray, List.set_cons_zero, List.set_cons_succ]
  refine wpAnyH_done (by kernel_rfl) ?_ _
  refine NoPanic.normal ?_
  have hB7 := HB1.out.trans (hS7.mono HB1.out.size)
  obtain ⟨M, hMM⟩ : ∃ M, M1 ++ M2 = M := ⟨_, rfl⟩
  have hml : M.length = M1.length + M2.length := by rw [← hMM, List.length_append]
  rw [hMM] at ho7
  rw [← hml] at ho7 ⊢
  have hM30 : M.length ≤ 30 := by omega
  have hkn := known_any (HK.out.below hB7 HK.out.size)
  have HKN := Lib.hid hkn
  have HB7 := Lib.hid hB7
  have HO7 := Lib.hid ho7
  clear hB7 hMM hml ho7 hk7 hb7 hO1 hO2 hbw2 hbw3 hS0 hSw2 hSw3 hS7 hkn HRUN HCELL hM1 hM2
  go_wp2_with fail
  refine HKN.out.mono ?_
  rintro e wa ⟨rfl, hba⟩
  have hBa := HB7.out.trans (hba.mono HB7.out.size)
  have hoa := HO7.out.below hba
  have hsl := Salvage_any M _ hoa.secs (by omega) (HK.out.below hBa HK.out.size)
  have HSL := Lib.hid hsl
  have HBA := Lib.hid hBa
  have HOA := Lib.hid hoa
  clear hba hBa hoa hsl
  go_wp2_with fail
  refine HSL.out.mono ?_
  rintro e wb ⟨vb, rfl, hob, hbb⟩
  obtain ⟨ab, cb, rfl⟩ := hob.form
  have hfew := salL_few M
  obtain ⟨S, hS⟩ : ∃ S, salL M = S := ⟨_, rfl⟩
  rw [hS] at hob hfew ⊢
  have hBb := HBA.out.trans (hbb.mono HBA.out.size)
  have hsl := rSalvage_any M _ (HOA.out.below hbb).secs (by omega)
  have HSLB := Lib.hid hsl
  have HBB := Lib.hid hBb
  have HOB := Lib.hid hob
  have HS := Lib.hid hS
  clear hbb hBb hob hsl hS HSL
  go_wp2_with fail
  refine HSLB.out.mono ?_
  rintro e wc ⟨vc2, rfl, hoc, hbc⟩
  obtain ⟨ac, cc, rfl⟩ := hoc.form
  rw [HS.out] at hoc ⊢
  have hl := list_any _ _ S (HOB.out.below hbc) hoc (by omega)
  have HL := Lib.hid hl
  have HBC := Lib.hid (HBB.out.trans (hbc.mono HBB.out.size))
  clear hl hbc hoc
  go_wp2_with fail
  refine HL.out.mono ?_
  rintro e we ⟨rfl, hbe⟩
  go_wp2_with fail
  go_ret
  exact ⟨rfl, HBC.out.trans (hbe.mono HBC.out.size)⟩

end Go.Proofs.YtloaenknhkfaeaaDoor
