/- Equal of spools. -/
import Derived.Test.YtnmdgjodbikndaaS29
namespace Go.Proofs.Ytnmdgjodbikndaa
open Go.RowKit
set_option linter.unusedVariables false
set_option linter.unusedSimpArgs false

theorem ba_inj {s t : ByteArray} (h : s.toList = t.toList) : s = t := by
  have e : ∀ b : ByteArray, b.toList = b.data.toList := fun b => by
    have := ByteArray.toList_mk b.data.toList
    exact this
  rw [e, e] at h
  exact ByteArray.ext (Array.ext' h)
theorem ref_entK {S S2 : SpD} (h : S.ref = S2.ref) : S.list.map entK = S2.list.map entK := by
  have e : ∀ l : List ArtD, l.map entK = (l.map toR).map (fun r => (r.id, r.min, r.text.size)) := fun l => by rw [List.map_map]; rfl
  rw [e, e]
  exact congrArg _ h
theorem ref_of {S S2 : SpD} (h1 : S.list.map entK = S2.list.map entK) (h2 : S.list.map (·.text) = S2.list.map (·.text)) : S.ref = S2.ref := by
  unfold SpD.ref
  have hl : S.list.length = S2.list.length := by simpa using congrArg List.length h1
  apply List.ext_getElem (by simpa using hl)
  intro i hi hj
  have hi' : i < S.list.length := by simpa using hi
  have hj' : i < S2.list.length := by simpa using hj
  have a1 : entK S.list[i] = entK S2.list[i] := by
    have := congrArg (fun l => l[i]?) h1
    simpa [hi', hj'] using this
  have a2 : S.list[i].text = S2.list[i].text := by
    have := congrArg (fun l => l[i]?) h2
    simpa [hi', hj'] using this
  rw [List.getElem_map, List.getElem_map]
  unfold entK at a1
  simp only [Prod.mk.injEq] at a1
  unfold toR
  rw [a1.1, a1.2.1, a2]
theorem okBnd {S : SpD} (h : S.Ok) : ∀ x ∈ S.list, (-9223372036854775808 ≤ x.arr ∧ x.arr ≤ 9223372036854775807) ∧ x.text.size ≤ 65536 := fun x hx => by
  have h1 := h.ar x hx
  have h2 := h.tx x hx
  omega
set_option maxRecDepth 100000 in
set_option maxHeartbeats 2000000 in
theorem Equal_any {w : World} {b m b2 m2 : Nat} {S S2 : SpD} (h : SpAt w b m S) (h2 : SpAt w b2 m2 S2) (hok : S.Ok) (hok2 : S2.Ok) (hl : S.list.length < 10000) (hl2 : S2.list.length < 10000) :
    Calls Try.prog 29 #[.pointer (some ⟨b, 0, none⟩), .pointer (some ⟨b2, 0, none⟩)] w fun e w' => e = .returned (.bool (decide (S.budget = S2.budget ∧ S.ref = S2.ref))) ∧ Below w.heap.size w w' := by
  obtain ⟨r, hr⟩ : ∃ r, decide (S.budget = S2.budget ∧ S.ref = S2.ref) = r := ⟨_, rfl⟩
  rw [hr]
  obtain ⟨B, hB⟩ : ∃ B, S.budget = B := ⟨_, rfl⟩
  obtain ⟨B2, hB2⟩ : ∃ B2, S2.budget = B2 := ⟨_, rfl⟩
  obtain ⟨q, hq⟩ : ∃ q, decide (S.list.map entK = S2.list.map entK) = q := ⟨_, rfl⟩
  have HS := Lib.hid h
  have HS2 := Lib.hid h2
  have HOK := Lib.hid hok
  have HOK2 := Lib.hid hok2
  have HLN := Lib.hid hl
  have HLN2 := Lib.hid hl2
  have HRR := Lib.hid hr
  have HQQ := Lib.hid hq
  have HBB := Lib.hid (And.intro hB hB2)
  have HSQ := Lib.hid (fun (w' : World) (v u : Value) (hv : ListAt entE w' v S.list) (hu : ListAt entE w' u S2.list) => hq ▸ SlEqEnt v u S.list S2.list hv hu (by omega) (by omega) (okBnd hok) (okBnd hok2))
  clear h h2 hok hok2 hl hl2 hr hq hB hB2
  go_enter Try.func29, Try.ntmps29
  go_wp2_with fail
  refine (entries_any HS.out HOK.out (by have := HLN.out; omega)).mono ?_
  rintro e w1 ⟨v, rfl, ho, hb1⟩
  obtain ⟨N, hN⟩ : ∃ N, S.list.length = N := ⟨_, rfl⟩
  have ho2 := ho.at_
  obtain ⟨va, vc, rfl⟩ := ho.form
  rw [hN] at ho2 ⊢
  have HNN := Lib.hid hN
  have HB1 := Lib.hid hb1
  have HO1 := Lib.hid (show ∀ w', Below w1.heap.size w1 w' → ListAt entE w' (.slice va N vc) S.list from fun w' hw' => ho2.below hw')
  have HE2 := Lib.hid (show ∀ w', Below w1.heap.size w1 w' → Calls Try.prog 37 #[.pointer (some ⟨b2, 0, none⟩)] w' (EntPost w' S2.list) from fun w' hw' => entries_any ((HS2.out.below hb1).below hw') HOK2.out (by have := HLN2.out; omega))
  have HCB := Lib.hid (show ∀ w', Below w1.heap.size w1 w' → w'.cell? ⟨b, 0, none⟩ = some (.int .i64 B) ∧ w'.cell? ⟨b2, 0, none⟩ = some (.int .i64 B2) from fun w' hw' => by
    have a1 := ((HS.out.below hb1).below hw').cells.1
    have a2 := ((HS2.out.below hb1).below hw').cells.1
    rw [HBB.out.1] at a1
    rw [HBB.out.2] at a2
    exact ⟨a1, a2⟩)
  clear ho ho2 hb1 hN
  go_wp2_with fail
  by_cases hBB : B = B2
  case neg =>
    have HBE := Lib.hid (show (B != B2) = true by simpa using hBB)
    have hrf : r = false := by rw [← HRR.out]; exact decide_eq_false (fun h => hBB (by rw [← HBB.out.1, ← HBB.out.2, h.1]))
    subst hrf
    clear hBB
    refine wp_region_noPanic ?_
    refine wp_region_H (Below w1.heap.size w1) (by kernel_rfl) ?_
    have hS0 : (Below w1.heap.size w1) w1.drew := (Below.refl _ _).drew
    obtain ⟨wd, hwd⟩ : ∃ wd, w1.drew = wd := ⟨_, rfl⟩
    rw [hwd] at hS0 ⊢
    clear hwd
    refine wpAnyH_takeI (i := 0) (v := ?v68) rfl (by kernel_rfl) (by kernel_rfl) (by kernel_rfl) (fun _ _ _ h => h) (yieldsIf_run rfl (fun w' hw' => ?y68)) hS0 ?_
    case y68 => first | (go_simp; rfl) | (go_simp; done) | rfl
    simp only [Act.put, List.setIfInBounds_toArray, List.set_cons_zero, List.set_cons_succ]
    refine wpAnyH_takeI (i := 1) (v := ?v69) rfl (by kernel_rfl) (by kernel_rfl) (by kernel_rfl) (fun _ _ _ h => h) (yieldsIf_run rfl (fun w' hw' => ?y69)) hS0 ?_
    case y69 => first | (go_simp; rfl) | (go_simp; done) | rfl
    simp only [Act.put, List.setIfInBounds_toArray, List.set_cons_zero, List.set_cons_succ]
    refine wpAnyH_takeI (i := 2) (v := ?v70) rfl (by kernel_rfl) (by kernel_rfl) (by kernel_rfl) (fun _ _ _ h => h) (yieldsIf_run rfl (fun w' hw' => ?y70)) hS0 ?_
    case y70 => first | (go_simp; rfl) | (go_simp; done) | rfl
    simp only [Act.put, List.setIfInBounds_toArray, List.set_cons_zero, List.set_cons_succ]
    refine wpAnyH_takeI (i := 3) (v := ?v71) rfl (by kernel_rfl) (by kernel_rfl) (by kernel_rfl) (fun _ _ _ h => h) (yieldsIf_run rfl (fun w' hw' => ?y71)) hS0 ?_
    case y71 => (obtain ⟨h0, h1⟩ := HCB.out w' hw'; clear hw'; first | (go_simp; rfl) | (go_simp; done))
    simp only [Act.put, List.setIfInBounds_toArray, List.set_cons_zero, List.set_cons_succ]
    refine wpAnyH_takeI (i := 4) (v := ?v72) rfl (by kernel_rfl) (by kernel_rfl) (by kernel_rfl) (fun _ _ _ h => h) (yieldsIf_run rfl (fun w' hw' => ?y72)) hS0 ?_
    case y72 => first | (go_simp; rfl) | (go_simp; done) | rfl
    simp only [Act.put, List.setIfInBounds_toArray, List.set_cons_zero, List.set_cons_succ]
    refine wpAnyH_takeI (i := 5) (v := ?v73) rfl (by kernel_rfl) (by kernel_rfl) (by kernel_rfl) (fun _ _ _ h => h) (yieldsIf_run rfl (fun w' hw' => ?y73)) hS0 ?_
    case y73 => first | (go_simp; rfl) | (go_simp; done) | rfl
    simp only [Act.put, List.setIfInBounds_toArray, List.set_cons_zero, List.set_cons_succ]
    refine wpAnyH_takeI (i := 6) (v := ?v74) rfl (by kernel_rfl) (by kernel_rfl) (by kernel_rfl) (fun _ _ _ h => h) (yieldsIf_run rfl (fun w' hw' => ?y74)) hS0 ?_
    case y74 => first | (go_simp; rfl) | (go_simp; done) | rfl
    simp only [Act.put, List.setIfInBounds_toArray, List.set_cons_zero, List.set_cons_succ]
    refine wpAnyH_takeI (i := 7) (v := ?v75) rfl (by kernel_rfl) (by kernel_rfl) (by kernel_rfl) (fun _ _ _ h => h) (yieldsIf_run rfl (fun w' hw' => ?y75)) hS0 ?_
    case y75 => (obtain ⟨h0, h1⟩ := HCB.out w' hw'; clear hw'; first | (go_simp; rfl) | (go_simp; done))
    simp only [Act.put, List.setIfInBounds_toArray, List.set_cons_zero, List.set_cons_succ]
    refine wpAnyH_takeI (i := 8) (v := .bool true) rfl (by kernel_rfl) (by kernel_rfl) (by kernel_rfl) (fun _ _ _ h => h) (yieldsIf_run rfl (fun w' hw' => ?y76)) hS0 ?_
    case y76 => (have h99 := HBE.out; clear hw'; first | (go_simp; rfl) | (go_simp; done))
    simp only [Act.put, List.setIfInBounds_toArray, List.set_cons_zero, List.set_cons_succ]
    refine wpAnyH_takeI (i := 9) (v := ?v77) rfl (by kernel_rfl) (by kernel_rfl) (by kernel_rfl) (fun _ _ _ h => h) (yieldsIf_run rfl (fun w' hw' => ?y77)) hS0 ?_
    case y77 => first | (go_simp; rfl) | (go_simp; done) | rfl
    simp only [Act.put, List.setIfInBounds_toArray, List.set_cons_zero, List.set_cons_succ]
    refine wpAnyH_takeI (i := 10) (v := undef) rfl (by kernel_rfl) (by kernel_rfl) (by kernel_rfl) (fun _ _ _ h => h) (yieldsIf_skip rfl) hS0 ?_
    simp only [Act.put, List.setIfInBounds_toArray, List.set_cons_zero, List.set_cons_succ]
    refine wpAnyH_takeI (i := 11) (v := undef) rfl (by kernel_rfl) (by kernel_rfl) (by kernel_rfl) (fun _ _ _ h => h) (yieldsIf_skip rfl) hS0 ?_
    simp only [Act.put, List.setIfInBounds_toArray, List.set_cons_zero, List.set_cons_succ]
    refine wpAnyH_takeI (i := 12) (v := undef) rfl (by kernel_rfl) (by kernel_rfl) (by kernel_rfl) (fun _ _ _ h => h) (yieldsIf_skip rfl) hS0 ?_
    simp only [Act.put, List.setIfInBounds_toArray, List.set_cons_zero, List.set_cons_succ]
    refine wpAnyH_takeI (i := 13) (v := undef) rfl (by kernel_rfl) (by kernel_rfl) (by kernel_rfl) (fun _ _ _ h => h) (yieldsIf_skip rfl) hS0 ?_
    simp only [Act.put, List.setIfInBounds_toArray, List.set_cons_zero, List.set_cons_succ]
    refine wpAnyH_takeI (i := 14) (v := undef) rfl (by kernel_rfl) (by kernel_rfl) (by kernel_rfl) (fun _ _ _ h => h) (yieldsIf_skip rfl) hS0 ?_
    simp only [Act.put, List.setIfInBounds_toArray, List.set_cons_zero, List.set_cons_succ]
    refine wpAnyH_takeI (i := 15) (v := ?v78) rfl (by kernel_rfl) (by kernel_rfl) (by kernel_rfl) (fun _ _ _ h => h) (yieldsIf_run rfl (fun w' hw' => ?y78)) hS0 ?_
    case y78 => first | (go_simp; rfl) | (go_simp; done) | rfl
    simp only [Act.put, List.setIfInBounds_toArray, List.set_cons_zero, List.set_cons_succ]
    refine wpAnyH_done (by kernel_rfl) ?_ _
    refine NoPanic.normal ?_
    have HBZ := Lib.hid (HB1.out.trans (hS0.mono HB1.out.size))
    clear hS0
    go_wp2_with fail
    exact bodyPost_ret (v := .bool false) (by simp [results, Try.results29, go_sem]) rfl ⟨rfl, HBZ.out⟩
  have HBE := Lib.hid (show (B != B2) = false by simpa using hBB)
  have HBS := Lib.hid hBB
  clear hBB
  refine wp_region_noPanic ?_
  refine wp_region_H (Below w1.heap.size w1) (by kernel_rfl) ?_
  have hS0 : (Below w1.heap.size w1) w1.drew := (Below.refl _ _).drew
  obtain ⟨wd, hwd⟩ : ∃ wd, w1.drew = wd := ⟨_, rfl⟩
  rw [hwd] at hS0 ⊢
  clear hwd
  refine wpAnyH_takeI (i := 0) (v := ?v54) rfl (by kernel_rfl) (by kernel_rfl) (by kernel_rfl) (fun _ _ _ h => h) (yieldsIf_run rfl (fun w' hw' => ?y54)) hS0 ?_
  case y54 => first | (go_simp; rfl) | (go_simp; done) | rfl
  simp only [Act.put, List.setIfInBounds_toArray, List.set_cons_zero, List.set_cons_succ]
  refine wpAnyH_takeI (i := 1) (v := ?v55) rfl (by kernel_rfl) (by kernel_rfl) (by kernel_rfl) (fun _ _ _ h => h) (yieldsIf_run rfl (fun w' hw' => ?y55)) hS0 ?_
  case y55 => first | (go_simp; rfl) | (go_simp; done) | rfl
  simp only [Act.put, List.setIfInBounds_toArray, List.set_cons_zero, List.set_cons_succ]
  refine wpAnyH_takeI (i := 2) (v := ?v56) rfl (by kernel_rfl) (by kernel_rfl) (by kernel_rfl) (fun _ _ _ h => h) (yieldsIf_run rfl (fun w' hw' => ?y56)) hS0 ?_
  case y56 => first | (go_simp; rfl) | (go_simp; done) | rfl
  simp only [Act.put, List.setIfInBounds_toArray, List.set_cons_zero, List.set_cons_succ]
  refine wpAnyH_takeI (i := 3) (v := ?v57) rfl (by kernel_rfl) (by kernel_rfl) (by kernel_rfl) (fun _ _ _ h => h) (yieldsIf_run rfl (fun w' hw' => ?y57)) hS0 ?_
  case y57 => (obtain ⟨h0, h1⟩ := HCB.out w' hw'; clear hw'; first | (go_simp; rfl) | (go_simp; done))
  simp only [Act.put, List.setIfInBounds_toArray, List.set_cons_zero, List.set_cons_succ]
  refine wpAnyH_takeI (i := 4) (v := ?v58) rfl (by kernel_rfl) (by kernel_rfl) (by kernel_rfl) (fun _ _ _ h => h) (yieldsIf_run rfl (fun w' hw' => ?y58)) hS0 ?_
  case y58 => first | (go_simp; rfl) | (go_simp; done) | rfl
  simp only [Act.put, List.setIfInBounds_toArray, List.set_cons_zero, List.set_cons_succ]
  refine wpAnyH_takeI (i := 5) (v := ?v59) rfl (by kernel_rfl) (by kernel_rfl) (by kernel_rfl) (fun _ _ _ h => h) (yieldsIf_run rfl (fun w' hw' => ?y59)) hS0 ?_
  case y59 => first | (go_simp; rfl) | (go_simp; done) | rfl
  simp only [Act.put, List.setIfInBounds_toArray, List.set_cons_zero, List.set_cons_succ]
  refine wpAnyH_takeI (i := 6) (v := ?v60) rfl (by kernel_rfl) (by kernel_rfl) (by kernel_rfl) (fun _ _ _ h => h) (yieldsIf_run rfl (fun w' hw' => ?y60)) hS0 ?_
  case y60 => first | (go_simp; rfl) | (go_simp; done) | rfl
  simp only [Act.put, List.setIfInBounds_toArray, List.set_cons_zero, List.set_cons_succ]
  refine wpAnyH_takeI (i := 7) (v := ?v61) rfl (by kernel_rfl) (by kernel_rfl) (by kernel_rfl) (fun _ _ _ h => h) (yieldsIf_run rfl (fun w' hw' => ?y61)) hS0 ?_
  case y61 => (obtain ⟨h0, h1⟩ := HCB.out w' hw'; clear hw'; first | (go_simp; rfl) | (go_simp; done))
  simp only [Act.put, List.setIfInBounds_toArray, List.set_cons_zero, List.set_cons_succ]
  refine wpAnyH_takeI (i := 8) (v := .bool false) rfl (by kernel_rfl) (by kernel_rfl) (by kernel_rfl) (fun _ _ _ h => h) (yieldsIf_run rfl (fun w' hw' => ?y62)) hS0 ?_
  case y62 => (have h99 := HBE.out; clear hw'; first | (go_simp; rfl) | (go_simp; done))
  simp only [Act.put, List.setIfInBounds_toArray, List.set_cons_zero, List.set_cons_succ]
  refine wpAnyH_takeI (i := 9) (v := ?v63) rfl (by kernel_rfl) (by kernel_rfl) (by kernel_rfl) (fun _ _ _ h => h) (yieldsIf_run rfl (fun w' hw' => ?y63)) hS0 ?_
  case y63 => first | (go_simp; rfl) | (go_simp; done) | rfl
  simp only [Act.put, List.setIfInBounds_toArray, List.set_cons_zero, List.set_cons_succ]
  refine wpAnyH_takeI (i := 10) (v := ?v64) rfl (by kernel_rfl) (by kernel_rfl) (by kernel_rfl) (fun _ _ _ h => h) (yieldsIf_want rfl (fun w' hw' => ?y64)) hS0 ?_
  case y64 => first | (go_simp; rfl) | (go_simp; done) | rfl
  simp only [Act.put, List.setIfInBounds_toArray, List.set_cons_zero, List.set_cons_succ]
  refine wpAnyH_takeI (i := 11) (v := ?v65) rfl (by kernel_rfl) (by kernel_rfl) (by kernel_rfl) (fun _ _ _ h => h) (yieldsIf_want rfl (fun w' hw' => ?y65)) hS0 ?_
  case y65 => first | (go_simp; rfl) | (go_simp; done) | rfl
  simp only [Act.put, List.setIfInBounds_toArray, List.set_cons_zero, List.set_cons_succ]
  refine wpAnyH_want (i := 12) (by kernel_rfl) rfl rfl (fun K hK => ?_)
  go_simp
  go_at_call 37
  refine (HE2.out _ hS0).mono ?_
  rintro e we ⟨u, rfl, hou, hbwe⟩
  have hou2 := hou.at_
  obtain ⟨ua, uc, rfl⟩ := hou.form
  have hSwe := hS0.trans (hbwe.mono hS0.size)
  refine hK _ _ (hSwe) ?_
  clear hK K
  try simp only [Act.put, List.setIfInBounds_toArray, List.set_cons_zero, List.set_cons_succ]
  refine wpAnyH_want (i := 13) (by kernel_rfl) rfl rfl (fun K hK => ?_)
  go_simp
  go_at_call 50
  refine (HSQ.out _ _ _ (HO1.out _ hSwe) hou2).mono ?_
  rintro e wq ⟨rfl, hbwq⟩
  have hSwq := hSwe.trans (hbwq.mono hSwe.size)
  refine hK _ _ (hSwq) ?_
  clear hK K
  try simp only [Act.put, List.setIfInBounds_toArray, List.set_cons_zero, List.set_cons_succ]
  refine wpAnyH_takeI (i := 14) (v := ?v66) rfl (by kernel_rfl) (by kernel_rfl) (by kernel_rfl) (fun _ _ _ h => h) (yieldsIf_want rfl (fun w' hw' => ?y66)) hSwq ?_
  case y66 => first | (go_simp; rfl) | (go_simp; done) | rfl
  simp only [Act.put, List.setIfInBounds_toArray, List.set_cons_zero, List.set_cons_succ]
  refine wpAnyH_takeI (i := 15) (v := ?v67) rfl (by kernel_rfl) (by kernel_rfl) (by kernel_rfl) (fun _ _ _ h => h) (yieldsIf_run rfl (fun w' hw' => ?y67)) hSwq ?_
  case y67 => first | (go_simp; rfl) | (go_simp; done) | rfl
  simp only [Act.put, List.setIfInBounds_toArray, List.set_cons_zero, List.set_cons_succ]
  refine wpAnyH_done (by kernel_rfl) ?_ _
  refine NoPanic.normal ?_
  have HBZ := Lib.hid hSwq
  clear hSwq
  cases q
  case false =>
    have hrf : r = false := by rw [← HRR.out]; exact decide_eq_false (fun h => (of_decide_eq_false HQQ.out) (ref_entK h.2))
    subst hrf
    go_wp2_with fail
    exact bodyPost_ret (v := .bool false) (by simp [results, Try.results29, go_sem]) rfl ⟨rfl, HB1.out.trans (HBZ.out.mono HB1.out.size)⟩
  case true =>
  have HKK := Lib.hid (of_decide_eq_true HQQ.out)
  go_wp2_with fail
  go_loopw [40] (fun iv wr => ∃ i : Nat, i ≤ N ∧ iv = .int .i64 (i : Int) ∧ Below w1.heap.size w1 wr ∧ Hid ((S.list.map (·.text)).take i = (S2.list.map (·.text)).take i)) (fun iv _ => N - (intOf iv).toNat)
  case atStart => exact ⟨0, Nat.zero_le _, rfl, HBZ.out, Lib.hid rfl⟩
  case round =>
    obtain ⟨i, hi, rfl, hBr, HP⟩ := hrel
    have HBR := Lib.hid hBr
    clear hBr
    have hl12 : S2.list.length = N := by
      have := congrArg List.length HKK.out
      rw [List.length_map, List.length_map, HNN.out] at this
      exact this.symm
    by_cases hlt : i < N
    · have hiI : (i : Int) < (N : Int) := by omega
      have hiI0 : (0 : Int) ≤ (i : Int) := by omega
      have hwi : IntKind.i64.wrap ((i : Int) + 1) = (i : Int) + 1 := IntWalk.i64_in _ (by have h1 := HLN.out; have h2 := HNN.out; omega)
      have hlt1 : i < S.list.length := by rw [HNN.out]; exact hlt
      have hlt2 : i < S2.list.length := by rw [hl12]; exact hlt
      obtain ⟨g, off, rfl, hg, hr⟩ := (HO1.out _ HBR.out).get hlt1
      have hf1 := find_inn HS.out (List.getElem_mem hlt1)
      have hf2 := find_inn HS2.out (List.getElem_mem hlt2)
      have hkk : entK S.list[i] = entK S2.list[i] := by
        have := congrArg (fun l => l[i]?) HKK.out
        simpa [hlt1, hlt2] using this
      obtain ⟨x, hx⟩ : ∃ x, S.list[i] = x := ⟨_, rfl⟩
      obtain ⟨y, hy⟩ : ∃ y, S2.list[i] = y := ⟨_, rfl⟩
      have hex : (S.list.map (·.text))[i]? = some x.text := by rw [List.getElem?_map, List.getElem?_eq_getElem hlt1, hx]; rfl
      have hey : (S2.list.map (·.text))[i]? = some y.text := by rw [List.getElem?_map, List.getElem?_eq_getElem hlt2, hy]; rfl
      rw [hx] at hr hf1 hkk
      rw [hy] at hf2 hkk
      have hid : x.id = y.id := by unfold entK at hkk; simp only [Prod.mk.injEq] at hkk; exact hkk.1
      rw [← hid] at hf2
      have hr : wr.rangeAt g (off + i * 34) (entC x) := hr
      have HR := Lib.hid hr
      have HF := Lib.hid (And.intro hf1 hf2)
      have HEX := Lib.hid hex
      have HEY := Lib.hid hey
      clear hr hx hy hex hey hf1 hf2 hkk hid hlt1 hlt2 hg hl12
      go_wp2_with (with_reducible refine wpList_load_mid rfl 44 _ rfl g (off + i * 34) rfl (entC x) _ HR.out Try.underlying44 rfl (sizeEntL x) ?_; refine Stop.on ?_)
      refine Stop.go ?_
      try simp only [Act.put, List.setIfInBounds_toArray, List.set_cons_zero, List.set_cons_succ]
      refine wpList_newV rfl (some 7) rfl 44 rfl (entC zA).toArray 34 (by kernel_rfl) ?_
      intro wn xn bn sn
      try simp only [Act.put, List.setIfInBounds_toArray, List.set_cons_zero, List.set_cons_succ]
      refine wpList_putV rfl rfl 44 (.tmp 7) (.tmp 43) rfl _ (entC x).toArray rfl rfl 44 _ xn (sizeEnt x) (by simp only [List.size_toArray, entC_length]) (all_oneCell_cells entE x) ?_
      intro wr2 xo co so
      try simp only [Act.put, List.setIfInBounds_toArray, List.set_cons_zero, List.set_cons_succ]
      have hb2 : Below wr.heap.size wr wr2 := bn.trans (co.below (B := wr.heap.size) (fun k e => by omega) (by omega))
      obtain ⟨A7, hA7⟩ : ∃ A7, wr.heap.size = A7 := ⟨_, rfl⟩
      have HB2 := Lib.hid (HBR.out.trans (hb2.mono HBR.out.size))
      rw [hA7] at xo ⊢
      have HI9 := Lib.hid (show ∀ w', Below wr2.heap.size wr2 w' → w'.rangeAt A7 0 (bvs x.id.1) from fun w' hw' => range_idE ((hw'.block _ (Array.getElem?_eq_some_iff.1 xo).1).trans xo))
      have HL9 := Lib.hid (show ∀ w', Below wr2.heap.size wr2 w' → w'.cell? ⟨b, 3, none⟩ = some (.map (some m)) ∧ w'.cell? ⟨b2, 3, none⟩ = some (.map (some m2)) ∧ (Instr.lookup 76 (.map (some m)) (.agg (bvs x.id.1).toArray) false).run Try.prog w' = .ok (.agg #[.string x.text, .int .i64 x.arr, .int .i64 x.place]) w' ∧ (Instr.lookup 76 (.map (some m2)) (.agg (bvs x.id.1).toArray) false).run Try.prog w' = .ok (.agg #[.string y.text, .int .i64 y.arr, .int .i64 y.place]) w' from fun w' hw' => by
        have a1 := HS.out.below (HB1.out.trans ((HB2.out.trans (hw'.mono HB2.out.size)).mono HB1.out.size))
        have a2 := HS2.out.below (HB1.out.trans ((HB2.out.trans (hw'.mono HB2.out.size)).mono HB1.out.size))
        have k1 := a1.look x.id false
        have k2 := a2.look x.id false
        rw [HF.out.1] at k1
        rw [HF.out.2] at k2
        exact ⟨a1.cells.2.2.2, a2.cells.2.2.2, k1, k2⟩)
      clear xn bn sn xo co so hb2 hA7
      go_wp2_with fail
      by_cases hxy : x.text = y.text
      · have HTX := Lib.hid (show x.text.toList = y.text.toList by rw [hxy])
        have HP2 := Lib.hid (show (S.list.map (·.text)).take (i + 1) = (S2.list.map (·.text)).take (i + 1) by rw [List.take_add_one, List.take_add_one, HP.out, HEX.out, HEY.out, hxy])
        clear hxy
        refine wp_region_noPanic ?_
        refine wp_region_H (Below wr2.heap.size wr2) (by kernel_rfl) ?_
        have hS0 : (Below wr2.heap.size wr2) wr2.drew := (Below.refl _ _).drew
        obtain ⟨wd, hwd⟩ : ∃ wd, wr2.drew = wd := ⟨_, rfl⟩
        rw [hwd] at hS0 ⊢
        clear hwd
        refine wpAnyH_takeI (i := 0) (v := ?v79) rfl (by kernel_rfl) (by kernel_rfl) (by kernel_rfl) (fun _ _ _ h => h) (yieldsIf_run rfl (fun w' hw' => ?y79)) hS0 ?_
        case y79 => first | (go_simp; rfl) | (go_simp; done) | rfl
        simp only [Act.put, List.setIfInBounds_toArray, List.set_cons_zero, List.set_cons_succ]
        refine wpAnyH_takeI (i := 1) (v := ?v80) rfl (by kernel_rfl) (by kernel_rfl) (by kernel_rfl) (fun _ _ _ h => h) (yieldsIf_run rfl (fun w' hw' => ?y80)) hS0 ?_
        case y80 => first | (go_simp; rfl) | (go_simp; done) | rfl
        simp only [Act.put, List.setIfInBounds_toArray, List.set_cons_zero, List.set_cons_succ]
        refine wpAnyH_takeI (i := 2) (v := ?v81) rfl (by kernel_rfl) (by kernel_rfl) (by kernel_rfl) (fun _ _ _ h => h) (yieldsIf_run rfl (fun w' hw' => ?y81)) hS0 ?_
        case y81 => first | (go_simp; rfl) | (go_simp; done) | rfl
        simp only [Act.put, List.setIfInBounds_toArray, List.set_cons_zero, List.set_cons_succ]
        refine wpAnyH_takeI (i := 3) (v := ?v82) rfl (by kernel_rfl) (by kernel_rfl) (by kernel_rfl) (fun _ _ _ h => h) (yieldsIf_run rfl (fun w' hw' => ?y82)) hS0 ?_
        case y82 => (obtain ⟨h0, h1, h2, h3⟩ := HL9.out w' hw'; clear hw'; first | (go_simp; rfl) | (go_simp; done))
        simp only [Act.put, List.setIfInBounds_toArray, List.set_cons_zero, List.set_cons_succ]
        refine wpAnyH_takeI (i := 4) (v := ?v83) rfl (by kernel_rfl) (by kernel_rfl) (by kernel_rfl) (fun _ _ _ h => h) (yieldsIf_run rfl (fun w' hw' => ?y83)) hS0 ?_
        case y83 => first | (go_simp; rfl) | (go_simp; done) | rfl
        simp only [Act.put, List.setIfInBounds_toArray, List.set_cons_zero, List.set_cons_succ]
        refine wpAnyH_takeI (i := 5) (v := .agg (bvs x.id.1).toArray) rfl (by kernel_rfl) (by kernel_rfl) (by kernel_rfl) (fun _ _ _ h => h) (yieldsIf_load_mid rfl 30 (.tmp 48) rfl A7 (0) rfl (bvs x.id.1) _ (fun w' hw' => (HI9.out w' hw')) Try.underlying30 rfl (sizeId x.id)) hS0 ?_
        simp only [Act.put, List.setIfInBounds_toArray, List.set_cons_zero, List.set_cons_succ]
        refine wpAnyH_takeI (i := 6) (v := (.agg #[.string x.text, .int .i64 x.arr, .int .i64 x.place])) rfl (by kernel_rfl) (by kernel_rfl) (by kernel_rfl) (fun _ _ _ h => h) (yieldsIf_run rfl (fun w' hw' => ?y84)) hS0 ?_
        case y84 => (have h99 := (HL9.out w' hw').2.2.1; clear hw'; first | (go_simp; rfl) | (go_simp; done))
        simp only [Act.put, List.setIfInBounds_toArray, List.set_cons_zero, List.set_cons_succ]
        refine wpAnyH_takeI (i := 7) (v := ?v85) rfl (by kernel_rfl) (by kernel_rfl) (by kernel_rfl) (fun _ _ _ h => h) (yieldsIf_run rfl (fun w' hw' => ?y85)) hS0 ?_
        case y85 => first | (go_simp; rfl) | (go_simp; done) | rfl
        simp only [Act.put, List.setIfInBounds_toArray, List.set_cons_zero, List.set_cons_succ]
        refine wpAnyH_takeI (i := 8) (v := ?v86) rfl (by kernel_rfl) (by kernel_rfl) (by kernel_rfl) (fun _ _ _ h => h) (yieldsIf_run rfl (fun w' hw' => ?y86)) hS0 ?_
        case y86 => first | (go_simp; rfl) | (go_simp; done) | rfl
        simp only [Act.put, List.setIfInBounds_toArray, List.set_cons_zero, List.set_cons_succ]
        refine wpAnyH_takeI (i := 9) (v := ?v87) rfl (by kernel_rfl) (by kernel_rfl) (by kernel_rfl) (fun _ _ _ h => h) (yieldsIf_run rfl (fun w' hw' => ?y87)) hS0 ?_
        case y87 => first | (go_simp; rfl) | (go_simp; done) | rfl
        simp only [Act.put, List.setIfInBounds_toArray, List.set_cons_zero, List.set_cons_succ]
        refine wpAnyH_takeI (i := 10) (v := ?v88) rfl (by kernel_rfl) (by kernel_rfl) (by kernel_rfl) (fun _ _ _ h => h) (yieldsIf_run rfl (fun w' hw' => ?y88)) hS0 ?_
        case y88 => first | (go_simp; rfl) | (go_simp; done) | rfl
        simp only [Act.put, List.setIfInBounds_toArray, List.set_cons_zero, List.set_cons_succ]
        refine wpAnyH_takeI (i := 11) (v := ?v89) rfl (by kernel_rfl) (by kernel_rfl) (by kernel_rfl) (fun _ _ _ h => h) (yieldsIf_run rfl (fun w' hw' => ?y89)) hS0 ?_
        case y89 => (obtain ⟨h0, h1, h2, h3⟩ := HL9.out w' hw'; clear hw'; first | (go_simp; rfl) | (go_simp; done))
        simp only [Act.put, List.setIfInBounds_toArray, List.set_cons_zero, List.set_cons_succ]
        refine wpAnyH_takeI (i := 12) (v := ?v90) rfl (by kernel_rfl) (by kernel_rfl) (by kernel_rfl) (fun _ _ _ h => h) (yieldsIf_run rfl (fun w' hw' => ?y90)) hS0 ?_
        case y90 => first | (go_simp; rfl) | (go_simp; done) | rfl
        simp only [Act.put, List.setIfInBounds_toArray, List.set_cons_zero, List.set_cons_succ]
        refine wpAnyH_takeI (i := 13) (v := .agg (bvs x.id.1).toArray) rfl (by kernel_rfl) (by kernel_rfl) (by kernel_rfl) (fun _ _ _ h => h) (yieldsIf_load_mid rfl 30 (.tmp 56) rfl A7 (0) rfl (bvs x.id.1) _ (fun w' hw' => (HI9.out w' hw')) Try.underlying30 rfl (sizeId x.id)) hS0 ?_
        simp only [Act.put, List.setIfInBounds_toArray, List.set_cons_zero, List.set_cons_succ]
        refine wpAnyH_takeI (i := 14) (v := (.agg #[.string y.text, .int .i64 y.arr, .int .i64 y.place])) rfl (by kernel_rfl) (by kernel_rfl) (by kernel_rfl) (fun _ _ _ h => h) (yieldsIf_run rfl (fun w' hw' => ?y91)) hS0 ?_
        case y91 => (have h99 := (HL9.out w' hw').2.2.2; clear hw'; first | (go_simp; rfl) | (go_simp; done))
        simp only [Act.put, List.setIfInBounds_toArray, List.set_cons_zero, List.set_cons_succ]
        refine wpAnyH_takeI (i := 15) (v := ?v92) rfl (by kernel_rfl) (by kernel_rfl) (by kernel_rfl) (fun _ _ _ h => h) (yieldsIf_run rfl (fun w' hw' => ?y92)) hS0 ?_
        case y92 => first | (go_simp; rfl) | (go_simp; done) | rfl
        simp only [Act.put, List.setIfInBounds_toArray, List.set_cons_zero, List.set_cons_succ]
        refine wpAnyH_takeI (i := 16) (v := .bool false) rfl (by kernel_rfl) (by kernel_rfl) (by kernel_rfl) (fun _ _ _ h => h) (yieldsIf_run rfl (fun w' hw' => ?y93)) hS0 ?_
        case y93 => (have h99 := HTX.out; clear hw'; first | (go_simp; rfl) | (go_simp; done))
        simp only [Act.put, List.setIfInBounds_toArray, List.set_cons_zero, List.set_cons_succ]
        refine wpAnyH_done (by kernel_rfl) ?_ _
        refine NoPanic.normal ?_
        have HB3 := Lib.hid (HB2.out.trans (hS0.mono HB2.out.size))
        clear hS0
        go_wp2_with fail
        go_roundw
        case rel => exact ⟨_, _, _, ⟨i + 1, by omega, by go_num, HB3.out, HP2⟩, rfl, rfl, rfl⟩
        case measure => simp [intOf]; omega
      · have HTX := Lib.hid (show ¬ x.text.toList = y.text.toList from fun h => hxy (ba_inj h))
        have hrf : r = false := by
          rw [← HRR.out]
          refine decide_eq_false (fun h => hxy ?_)
          have e : ∀ T : SpD, T.list.map (·.text) = T.ref.map (·.text) := fun T => by unfold SpD.ref; rw [List.map_map]; rfl
          have h2 := HEX.out
          rw [e, h.2, ← e, HEY.out] at h2
          exact (Option.some.inj h2).symm
        subst hrf
        clear hxy
        refine wp_region_noPanic ?_
        refine wp_region_H (Below wr2.heap.size wr2) (by kernel_rfl) ?_
        have hS0 : (Below wr2.heap.size wr2) wr2.drew := (Below.refl _ _).drew
        obtain ⟨wd, hwd⟩ : ∃ wd, wr2.drew = wd := ⟨_, rfl⟩
        rw [hwd] at hS0 ⊢
        clear hwd
        refine wpAnyH_takeI (i := 0) (v := ?v94) rfl (by kernel_rfl) (by kernel_rfl) (by kernel_rfl) (fun _ _ _ h => h) (yieldsIf_run rfl (fun w' hw' => ?y94)) hS0 ?_
        case y94 => first | (go_simp; rfl) | (go_simp; done) | rfl
        simp only [Act.put, List.setIfInBounds_toArray, List.set_cons_zero, List.set_cons_succ]
        refine wpAnyH_takeI (i := 1) (v := ?v95) rfl (by kernel_rfl) (by kernel_rfl) (by kernel_rfl) (fun _ _ _ h => h) (yieldsIf_run rfl (fun w' hw' => ?y95)) hS0 ?_
        case y95 => first | (go_simp; rfl) | (go_simp; done) | rfl
        simp only [Act.put, List.setIfInBounds_toArray, List.set_cons_zero, List.set_cons_succ]
        refine wpAnyH_takeI (i := 2) (v := ?v96) rfl (by kernel_rfl) (by kernel_rfl) (by kernel_rfl) (fun _ _ _ h => h) (yieldsIf_run rfl (fun w' hw' => ?y96)) hS0 ?_
        case y96 => first | (go_simp; rfl) | (go_simp; done) | rfl
        simp only [Act.put, List.setIfInBounds_toArray, List.set_cons_zero, List.set_cons_succ]
        refine wpAnyH_takeI (i := 3) (v := ?v97) rfl (by kernel_rfl) (by kernel_rfl) (by kernel_rfl) (fun _ _ _ h => h) (yieldsIf_run rfl (fun w' hw' => ?y97)) hS0 ?_
        case y97 => (obtain ⟨h0, h1, h2, h3⟩ := HL9.out w' hw'; clear hw'; first | (go_simp; rfl) | (go_simp; done))
        simp only [Act.put, List.setIfInBounds_toArray, List.set_cons_zero, List.set_cons_succ]
        refine wpAnyH_takeI (i := 4) (v := ?v98) rfl (by kernel_rfl) (by kernel_rfl) (by kernel_rfl) (fun _ _ _ h => h) (yieldsIf_run rfl (fun w' hw' => ?y98)) hS0 ?_
        case y98 => first | (go_simp; rfl) | (go_simp; done) | rfl
        simp only [Act.put, List.setIfInBounds_toArray, List.set_cons_zero, List.set_cons_succ]
        refine wpAnyH_takeI (i := 5) (v := .agg (bvs x.id.1).toArray) rfl (by kernel_rfl) (by kernel_rfl) (by kernel_rfl) (fun _ _ _ h => h) (yieldsIf_load_mid rfl 30 (.tmp 48) rfl A7 (0) rfl (bvs x.id.1) _ (fun w' hw' => (HI9.out w' hw')) Try.underlying30 rfl (sizeId x.id)) hS0 ?_
        simp only [Act.put, List.setIfInBounds_toArray, List.set_cons_zero, List.set_cons_succ]
        refine wpAnyH_takeI (i := 6) (v := (.agg #[.string x.text, .int .i64 x.arr, .int .i64 x.place])) rfl (by kernel_rfl) (by kernel_rfl) (by kernel_rfl) (fun _ _ _ h => h) (yieldsIf_run rfl (fun w' hw' => ?y99)) hS0 ?_
        case y99 => (have h99 := (HL9.out w' hw').2.2.1; clear hw'; first | (go_simp; rfl) | (go_simp; done))
        simp only [Act.put, List.setIfInBounds_toArray, List.set_cons_zero, List.set_cons_succ]
        refine wpAnyH_takeI (i := 7) (v := ?v100) rfl (by kernel_rfl) (by kernel_rfl) (by kernel_rfl) (fun _ _ _ h => h) (yieldsIf_run rfl (fun w' hw' => ?y100)) hS0 ?_
        case y100 => first | (go_simp; rfl) | (go_simp; done) | rfl
        simp only [Act.put, List.setIfInBounds_toArray, List.set_cons_zero, List.set_cons_succ]
        refine wpAnyH_takeI (i := 8) (v := ?v101) rfl (by kernel_rfl) (by kernel_rfl) (by kernel_rfl) (fun _ _ _ h => h) (yieldsIf_run rfl (fun w' hw' => ?y101)) hS0 ?_
        case y101 => first | (go_simp; rfl) | (go_simp; done) | rfl
        simp only [Act.put, List.setIfInBounds_toArray, List.set_cons_zero, List.set_cons_succ]
        refine wpAnyH_takeI (i := 9) (v := ?v102) rfl (by kernel_rfl) (by kernel_rfl) (by kernel_rfl) (fun _ _ _ h => h) (yieldsIf_run rfl (fun w' hw' => ?y102)) hS0 ?_
        case y102 => first | (go_simp; rfl) | (go_simp; done) | rfl
        simp only [Act.put, List.setIfInBounds_toArray, List.set_cons_zero, List.set_cons_succ]
        refine wpAnyH_takeI (i := 10) (v := ?v103) rfl (by kernel_rfl) (by kernel_rfl) (by kernel_rfl) (fun _ _ _ h => h) (yieldsIf_run rfl (fun w' hw' => ?y103)) hS0 ?_
        case y103 => first | (go_simp; rfl) | (go_simp; done) | rfl
        simp only [Act.put, List.setIfInBounds_toArray, List.set_cons_zero, List.set_cons_succ]
        refine wpAnyH_takeI (i := 11) (v := ?v104) rfl (by kernel_rfl) (by kernel_rfl) (by kernel_rfl) (fun _ _ _ h => h) (yieldsIf_run rfl (fun w' hw' => ?y104)) hS0 ?_
        case y104 => (obtain ⟨h0, h1, h2, h3⟩ := HL9.out w' hw'; clear hw'; first | (go_simp; rfl) | (go_simp; done))
        simp only [Act.put, List.setIfInBounds_toArray, List.set_cons_zero, List.set_cons_succ]
        refine wpAnyH_takeI (i := 12) (v := ?v105) rfl (by kernel_rfl) (by kernel_rfl) (by kernel_rfl) (fun _ _ _ h => h) (yieldsIf_run rfl (fun w' hw' => ?y105)) hS0 ?_
        case y105 => first | (go_simp; rfl) | (go_simp; done) | rfl
        simp only [Act.put, List.setIfInBounds_toArray, List.set_cons_zero, List.set_cons_succ]
        refine wpAnyH_takeI (i := 13) (v := .agg (bvs x.id.1).toArray) rfl (by kernel_rfl) (by kernel_rfl) (by kernel_rfl) (fun _ _ _ h => h) (yieldsIf_load_mid rfl 30 (.tmp 56) rfl A7 (0) rfl (bvs x.id.1) _ (fun w' hw' => (HI9.out w' hw')) Try.underlying30 rfl (sizeId x.id)) hS0 ?_
        simp only [Act.put, List.setIfInBounds_toArray, List.set_cons_zero, List.set_cons_succ]
        refine wpAnyH_takeI (i := 14) (v := (.agg #[.string y.text, .int .i64 y.arr, .int .i64 y.place])) rfl (by kernel_rfl) (by kernel_rfl) (by kernel_rfl) (fun _ _ _ h => h) (yieldsIf_run rfl (fun w' hw' => ?y106)) hS0 ?_
        case y106 => (have h99 := (HL9.out w' hw').2.2.2; clear hw'; first | (go_simp; rfl) | (go_simp; done))
        simp only [Act.put, List.setIfInBounds_toArray, List.set_cons_zero, List.set_cons_succ]
        refine wpAnyH_takeI (i := 15) (v := ?v107) rfl (by kernel_rfl) (by kernel_rfl) (by kernel_rfl) (fun _ _ _ h => h) (yieldsIf_run rfl (fun w' hw' => ?y107)) hS0 ?_
        case y107 => first | (go_simp; rfl) | (go_simp; done) | rfl
        simp only [Act.put, List.setIfInBounds_toArray, List.set_cons_zero, List.set_cons_succ]
        refine wpAnyH_takeI (i := 16) (v := .bool true) rfl (by kernel_rfl) (by kernel_rfl) (by kernel_rfl) (fun _ _ _ h => h) (yieldsIf_run rfl (fun w' hw' => ?y108)) hS0 ?_
        case y108 => (have h99 := HTX.out; clear hw'; first | (go_simp; rfl) | (go_simp; done))
        simp only [Act.put, List.setIfInBounds_toArray, List.set_cons_zero, List.set_cons_succ]
        refine wpAnyH_done (by kernel_rfl) ?_ _
        refine NoPanic.normal ?_
        have HB3 := Lib.hid (HB1.out.trans ((HB2.out.trans (hS0.mono HB2.out.size)).mono HB1.out.size))
        clear hS0
        go_wp2_with fail
        exact bodyPost_ret (v := .bool false) (by simp [results, Try.results29, go_sem]) rfl ⟨rfl, HB3.out⟩
    · obtain rfl : N = i := by omega
      have hrt : r = true := by
        rw [← HRR.out]
        have h := HP.out
        rw [List.take_of_length_le (by rw [List.length_map, HNN.out]; exact Nat.le_refl _), List.take_of_length_le (by rw [List.length_map, hl12]; exact Nat.le_refl _)] at h
        exact decide_eq_true ⟨by rw [HBB.out.1, HBB.out.2]; exact HBS.out, ref_of HKK.out h⟩
      have HB3 := Lib.hid (HB1.out.trans (HBR.out.mono HB1.out.size))
      subst hrt
      go_wp2_with fail
      exact bodyPost_ret (v := .bool true) (by simp [results, Try.results29, go_sem]) rfl ⟨rfl, HB3.out⟩
end Go.Proofs.Ytnmdgjodbikndaa
