/- Visibility: the law's own equal, few, check. -/
import Derived.Test.YtjjanjhoaiannaaV7
import Derived.Test.YtjjanjhoaiannaaVp1
namespace Go.Proofs.Ytjjanjhoaiannaa
open Go.RowKit
set_option linter.unusedVariables false
set_option linter.unusedSimpArgs false

theorem slice_cutR (a : Option Addr) (n c m : Nat) (hm : m ≤ c) (hz : a = none → c = 0) (w : World) :
    (Instr.sliceAt 22 (.slice a n c) none (some (.int .i64 (m : Int))) none).run Try.prog w = .ok (.slice a m c) w := by
  cases a with
  | none =>
    obtain rfl := hz rfl
    obtain rfl : m = 0 := by omega
    have h0 : ∀ w, (Instr.sliceAt 22 (.slice none n 0) none (some (.int .i64 0)) none).run Try.prog w = .ok (.slice none 0 0) w := fun w => by go_simp
    exact h0 w
  | some ad =>
    have h1 : (m : Int) ≤ (c : Int) := by omega
    go_simp
set_option maxRecDepth 100000 in
set_option maxHeartbeats 2000000 in
theorem equal_any {w : World} (v u : Value) (L M : List IdB) (hv : ListAt idE w v L) (hu : ListAt idE w u M) (hl : L.length < 1000000000) (hm : M.length < 1000000000) :
    Calls Try.prog 19 #[v, u] w fun e w' => e = .returned (.bool (decide (L = M))) ∧ Below w.heap.size w w' := by
  obtain ⟨va, vc, rfl⟩ := hv.form
  obtain ⟨ua, uc, rfl⟩ := hu.form
  rcases Decidable.em (¬ L.length = M.length) with hlen | hlen
  · obtain ⟨N, hN⟩ : ∃ N, L.length = N := ⟨_, rfl⟩
    obtain ⟨K, hK⟩ : ∃ K, M.length = K := ⟨_, rfl⟩
    have hne : L ≠ M := fun e => hlen (by rw [e])
    rw [decide_eq_false hne]
    rw [hN, hK] at hlen ⊢
    have hlI : ¬ (N : Int) = (K : Int) := by omega
    have hbI : ((N : Int) == (K : Int)) = false := by simpa using hlI
    clear hv hu hl hm hN hK hne
    go_enter Try.func19, Try.ntmps19
    go_wp2_with fail
    exact bodyPost_ret (v := .bool false) (by simp [results, Try.results19, go_sem]) rfl ⟨rfl, Below.refl _ _⟩
  replace hlen := Decidable.not_not.1 hlen
  obtain ⟨N, hN⟩ : ∃ N, L.length = N := ⟨_, rfl⟩
  rw [hN] at hv hl hlen ⊢
  rw [← hlen] at hu ⊢
  have HV := Lib.hid hv
  have HU := Lib.hid hu
  have HN := Lib.hid hN
  have HM := Lib.hid hlen
  clear hv hu hN hlen hm
  go_enter Try.func19, Try.ntmps19
  go_wp2_with fail
  go_loopw [5] (fun iv wr => ∃ i : Nat, i ≤ N ∧ iv = .int .i64 (i : Int) ∧ L.take i = M.take i ∧ Below w.heap.size w wr) (fun iv _ => N - (intOf iv).toNat)
  case atStart => exact ⟨0, Nat.zero_le _, rfl, rfl, Below.refl _ _⟩
  case round =>
    obtain ⟨i, hi, rfl, hno, hB⟩ := hrel
    have HNO := Lib.hid hno
    have HB := Lib.hid hB
    clear hno hB
    by_cases hlt : i < N
    · have hiI : (i : Int) < (N : Int) := by omega
      have hiI0 : (0 : Int) ≤ (i : Int) := by omega
      have hlt' : i < L.length := by rw [HN.out]; exact hlt
      have hlt2 : i < M.length := by rw [← HM.out]; exact hlt
      obtain ⟨g, off, rfl, hg, hr⟩ := (HV.out.below HB.out).get (i := i) hlt'
      obtain ⟨g2, off2, rfl, hg2, hr2⟩ := (HU.out.below HB.out).get (i := i) hlt2
      have hsn : (L.take (i + 1)) = L.take i ++ [L[i]] := List.take_succ_eq_append_getElem hlt'
      have hsm : (M.take (i + 1)) = M.take i ++ [M[i]] := List.take_succ_eq_append_getElem hlt2
      have hr : wr.rangeAt g (off + i * 32) (bvs L[i].1) := hr
      have hr2 : wr.rangeAt g2 (off2 + i * 32) (bvs M[i].1) := hr2
      have hne : L[i] ≠ M[i] → L ≠ M := fun h e => h (by simp [e])
      obtain ⟨q, hq⟩ : ∃ q, L[i] = q := ⟨_, rfl⟩
      obtain ⟨p, hp⟩ : ∃ p, M[i] = p := ⟨_, rfl⟩
      rw [hq] at hr hsn hne
      rw [hp] at hr2 hsm hne
      have hcell : ∀ w', Below wr.heap.size wr w' → w'.rangeAt g (off + i * 32) (bvs q.1) ∧ w'.rangeAt g2 (off2 + i * 32) (bvs p.1) := fun w' hw' =>
        ⟨range_below hr (id_lt hr) hw', range_below hr2 (id_lt hr2) hw'⟩
      have HCELL := Lib.hid hcell
      have HSQ := Lib.hid (sizeId q)
      have HSP := Lib.hid (sizeId p)
      have HSN := Lib.hid hsn
      have HSM := Lib.hid hsm
      have HNE := Lib.hid hne
      clear hr hr2 hcell hsn hsm hq hp hne
      go_wp2_with fail
      by_cases heq : q = p
      · have HEQ := Lib.hid (fun w' => (neq_Id q p w').trans (by rw [decide_eq_true heq, Bool.not_true]))
        have HE := Lib.hid heq
        clear heq
        refine wp_region_noPanic ?_
        refine wp_region_H (Below wr.heap.size wr) (by kernel_rfl) ?_
        have hS0 : (Below wr.heap.size wr) wr.drew := (Below.refl _ _).drew
        obtain ⟨wd, hwd⟩ : ∃ wd, wr.drew = wd := ⟨_, rfl⟩
        rw [hwd] at hS0 ⊢
        clear hwd
        refine wpAnyH_takeI (i := 0) (v := ?v1) rfl (by kernel_rfl) (by kernel_rfl) (by kernel_rfl) (fun _ _ _ h => h) (yieldsIf_run rfl (fun w' hw' => ?y1)) hS0 ?_
        case y1 => first | (go_simp; rfl) | (go_simp; done) | rfl
        simp only [Act.put, List.setIfInBounds_toArray, List.set_cons_zero, List.set_cons_succ]
        refine wpAnyH_takeI (i := 1) (v := ?v2) rfl (by kernel_rfl) (by kernel_rfl) (by kernel_rfl) (fun _ _ _ h => h) (yieldsIf_run rfl (fun w' hw' => ?y2)) hS0 ?_
        case y2 => first | (go_simp; rfl) | (go_simp; done) | rfl
        simp only [Act.put, List.setIfInBounds_toArray, List.set_cons_zero, List.set_cons_succ]
        refine wpAnyH_takeI (i := 2) (v := ?v3) rfl (by kernel_rfl) (by kernel_rfl) (by kernel_rfl) (fun _ _ _ h => h) (yieldsIf_run rfl (fun w' hw' => ?y3)) hS0 ?_
        case y3 => first | (go_simp; rfl) | (go_simp; done) | rfl
        simp only [Act.put, List.setIfInBounds_toArray, List.set_cons_zero, List.set_cons_succ]
        refine wpAnyH_takeI (i := 3) (v := .agg (bvs q.1).toArray) rfl (by kernel_rfl) (by kernel_rfl) (by kernel_rfl) (fun _ _ _ h => h) (yieldsIf_load_mid rfl 31 (.tmp 19) rfl g (off + i * 32) rfl (bvs q.1) _ (fun w' hw' => (HCELL.out w' hw').1) Try.underlying31 rfl HSQ.out) hS0 ?_
        simp only [Act.put, List.setIfInBounds_toArray, List.set_cons_zero, List.set_cons_succ]
        refine wpAnyH_takeI (i := 4) (v := ?v4) rfl (by kernel_rfl) (by kernel_rfl) (by kernel_rfl) (fun _ _ _ h => h) (yieldsIf_run rfl (fun w' hw' => ?y4)) hS0 ?_
        case y4 => first | (go_simp; rfl) | (go_simp; done) | rfl
        simp only [Act.put, List.setIfInBounds_toArray, List.set_cons_zero, List.set_cons_succ]
        refine wpAnyH_takeI (i := 5) (v := ?v5) rfl (by kernel_rfl) (by kernel_rfl) (by kernel_rfl) (fun _ _ _ h => h) (yieldsIf_run rfl (fun w' hw' => ?y5)) hS0 ?_
        case y5 => first | (go_simp; rfl) | (go_simp; done) | rfl
        simp only [Act.put, List.setIfInBounds_toArray, List.set_cons_zero, List.set_cons_succ]
        refine wpAnyH_takeI (i := 6) (v := ?v6) rfl (by kernel_rfl) (by kernel_rfl) (by kernel_rfl) (fun _ _ _ h => h) (yieldsIf_run rfl (fun w' hw' => ?y6)) hS0 ?_
        case y6 => first | (go_simp; rfl) | (go_simp; done) | rfl
        simp only [Act.put, List.setIfInBounds_toArray, List.set_cons_zero, List.set_cons_succ]
        refine wpAnyH_takeI (i := 7) (v := .agg (bvs p.1).toArray) rfl (by kernel_rfl) (by kernel_rfl) (by kernel_rfl) (fun _ _ _ h => h) (yieldsIf_load_mid rfl 31 (.tmp 23) rfl g2 (off2 + i * 32) rfl (bvs p.1) _ (fun w' hw' => (HCELL.out w' hw').2) Try.underlying31 rfl HSP.out) hS0 ?_
        simp only [Act.put, List.setIfInBounds_toArray, List.set_cons_zero, List.set_cons_succ]
        refine wpAnyH_takeI (i := 8) (v := .bool false) rfl (by kernel_rfl) (by kernel_rfl) (by kernel_rfl) (fun _ _ _ h => h) (yieldsIf_run rfl (fun w' hw' => ?ye1)) hS0 ?_
        case ye1 => exact vop_neq 31 (.tmp 20) (.tmp 24) 31 rfl rfl rfl guard_Id (HEQ.out w')
        simp only [Act.put, List.setIfInBounds_toArray, List.set_cons_zero, List.set_cons_succ]
        refine wpAnyH_done (by kernel_rfl) ?_ _
        refine NoPanic.normal ?_
        go_wp2_with fail
        go_roundw
        case rel => exact ⟨i + 1, by omega, by go_num, by rw [HSN.out, HSM.out, HNO.out, HE.out], HB.out.trans (hS0.mono HB.out.size)⟩
        case measure => simp [intOf]; omega
      · have HEQ := Lib.hid (fun w' => (neq_Id q p w').trans (by rw [decide_eq_false heq, Bool.not_false]))
        have HNE2 := Lib.hid (HNE.out heq)
        clear heq
        refine wp_region_noPanic ?_
        refine wp_region_H (Below wr.heap.size wr) (by kernel_rfl) ?_
        have hS0 : (Below wr.heap.size wr) wr.drew := (Below.refl _ _).drew
        obtain ⟨wd, hwd⟩ : ∃ wd, wr.drew = wd := ⟨_, rfl⟩
        rw [hwd] at hS0 ⊢
        clear hwd
        refine wpAnyH_takeI (i := 0) (v := ?v7) rfl (by kernel_rfl) (by kernel_rfl) (by kernel_rfl) (fun _ _ _ h => h) (yieldsIf_run rfl (fun w' hw' => ?y7)) hS0 ?_
        case y7 => first | (go_simp; rfl) | (go_simp; done) | rfl
        simp only [Act.put, List.setIfInBounds_toArray, List.set_cons_zero, List.set_cons_succ]
        refine wpAnyH_takeI (i := 1) (v := ?v8) rfl (by kernel_rfl) (by kernel_rfl) (by kernel_rfl) (fun _ _ _ h => h) (yieldsIf_run rfl (fun w' hw' => ?y8)) hS0 ?_
        case y8 => first | (go_simp; rfl) | (go_simp; done) | rfl
        simp only [Act.put, List.setIfInBounds_toArray, List.set_cons_zero, List.set_cons_succ]
        refine wpAnyH_takeI (i := 2) (v := ?v9) rfl (by kernel_rfl) (by kernel_rfl) (by kernel_rfl) (fun _ _ _ h => h) (yieldsIf_run rfl (fun w' hw' => ?y9)) hS0 ?_
        case y9 => first | (go_simp; rfl) | (go_simp; done) | rfl
        simp only [Act.put, List.setIfInBounds_toArray, List.set_cons_zero, List.set_cons_succ]
        refine wpAnyH_takeI (i := 3) (v := .agg (bvs q.1).toArray) rfl (by kernel_rfl) (by kernel_rfl) (by kernel_rfl) (fun _ _ _ h => h) (yieldsIf_load_mid rfl 31 (.tmp 19) rfl g (off + i * 32) rfl (bvs q.1) _ (fun w' hw' => (HCELL.out w' hw').1) Try.underlying31 rfl HSQ.out) hS0 ?_
        simp only [Act.put, List.setIfInBounds_toArray, List.set_cons_zero, List.set_cons_succ]
        refine wpAnyH_takeI (i := 4) (v := ?v10) rfl (by kernel_rfl) (by kernel_rfl) (by kernel_rfl) (fun _ _ _ h => h) (yieldsIf_run rfl (fun w' hw' => ?y10)) hS0 ?_
        case y10 => first | (go_simp; rfl) | (go_simp; done) | rfl
        simp only [Act.put, List.setIfInBounds_toArray, List.set_cons_zero, List.set_cons_succ]
        refine wpAnyH_takeI (i := 5) (v := ?v11) rfl (by kernel_rfl) (by kernel_rfl) (by kernel_rfl) (fun _ _ _ h => h) (yieldsIf_run rfl (fun w' hw' => ?y11)) hS0 ?_
        case y11 => first | (go_simp; rfl) | (go_simp; done) | rfl
        simp only [Act.put, List.setIfInBounds_toArray, List.set_cons_zero, List.set_cons_succ]
        refine wpAnyH_takeI (i := 6) (v := ?v12) rfl (by kernel_rfl) (by kernel_rfl) (by kernel_rfl) (fun _ _ _ h => h) (yieldsIf_run rfl (fun w' hw' => ?y12)) hS0 ?_
        case y12 => first | (go_simp; rfl) | (go_simp; done) | rfl
        simp only [Act.put, List.setIfInBounds_toArray, List.set_cons_zero, List.set_cons_succ]
        refine wpAnyH_takeI (i := 7) (v := .agg (bvs p.1).toArray) rfl (by kernel_rfl) (by kernel_rfl) (by kernel_rfl) (fun _ _ _ h => h) (yieldsIf_load_mid rfl 31 (.tmp 23) rfl g2 (off2 + i * 32) rfl (bvs p.1) _ (fun w' hw' => (HCELL.out w' hw').2) Try.underlying31 rfl HSP.out) hS0 ?_
        simp only [Act.put, List.setIfInBounds_toArray, List.set_cons_zero, List.set_cons_succ]
        refine wpAnyH_takeI (i := 8) (v := .bool true) rfl (by kernel_rfl) (by kernel_rfl) (by kernel_rfl) (fun _ _ _ h => h) (yieldsIf_run rfl (fun w' hw' => ?ye2)) hS0 ?_
        case ye2 => exact vop_neq 31 (.tmp 20) (.tmp 24) 31 rfl rfl rfl guard_Id (HEQ.out w')
        simp only [Act.put, List.setIfInBounds_toArray, List.set_cons_zero, List.set_cons_succ]
        refine wpAnyH_done (by kernel_rfl) ?_ _
        refine NoPanic.normal ?_
        go_wp2_with fail
        exact bodyPost_ret (v := .bool false) (by simp [results, Try.results19, go_sem]) rfl ⟨by rw [decide_eq_false HNE2.out], HB.out.trans (hS0.mono HB.out.size)⟩
    · obtain rfl : N = i := by omega
      have he : L = M := by
        have h := HNO.out
        rw [List.take_of_length_le (by rw [HN.out]; omega), List.take_of_length_le (by rw [← HM.out]; omega)] at h
        exact h
      have HE := Lib.hid he
      clear he
      go_wp2_with fail
      exact bodyPost_ret (v := .bool true) (by simp [results, Try.results19, go_sem]) rfl ⟨by rw [decide_eq_true HE.out], HB.out⟩

def fewB (L : List RowV) (G : List IdB) : Bool := L.all (fun r => decide (r.refs.length ≤ 30)) && (decide (L.length ≤ 30) && decide (G.length ≤ 30))
theorem few_iff {L : List RowV} {G : List IdB} : fewB L G = true ↔ (∀ r ∈ L, r.refs.length ≤ 30) ∧ L.length ≤ 30 ∧ G.length ≤ 30 := by simp [fewB]
set_option maxRecDepth 100000 in
set_option maxHeartbeats 2000000 in
theorem few_any {w : World} (v u : Value) (L : List RowV) (G : List IdB) (hv : RowsAt w v L) (hu : ListAt idE w u G) (hl : L.length ≤ 9223372036854775807) :
    Calls Try.prog 12 #[v, u] w fun e w' => e = .returned (.bool (fewB L G)) ∧ Below w.heap.size w w' := by
  obtain ⟨va, vc, rfl⟩ := hv.l.form
  obtain ⟨ua, uc, rfl⟩ := hu.form
  obtain ⟨N, hN⟩ : ∃ N, L.length = N := ⟨_, rfl⟩
  obtain ⟨K, hK⟩ : ∃ K, G.length = K := ⟨_, rfl⟩
  obtain ⟨C, hC⟩ : ∃ C, fewB L G = C := ⟨_, rfl⟩
  rw [hC, hN, hK]
  rw [hN] at hv hl
  have HV := Lib.hid hv
  have HN := Lib.hid hN
  have HK := Lib.hid hK
  have HC := Lib.hid hC
  clear hv hu hN hK hC
  go_enter Try.func12, Try.ntmps12
  go_wp2_with fail
  go_loopw [5] (fun iv wr => ∃ i : Nat, i ≤ N ∧ iv = .int .i64 (i : Int) ∧ (∀ r ∈ L.take i, r.refs.length ≤ 30) ∧ Below w.heap.size w wr) (fun iv _ => N - (intOf iv).toNat)
  case atStart => exact ⟨0, Nat.zero_le _, rfl, by simp, Below.refl _ _⟩
  case round =>
    obtain ⟨i, hi, rfl, hno, hB⟩ := hrel
    have HNO := Lib.hid hno
    have HB := Lib.hid hB
    clear hno hB
    by_cases hlt : i < N
    · have hiI : (i : Int) < (N : Int) := by omega
      have hiI0 : (0 : Int) ≤ (i : Int) := by omega
      have hlt' : i < L.length := by rw [HN.out]; exact hlt
      obtain ⟨g, off, n9, c9, e9, hr, hrf⟩ := row_at (HV.out.below HB.out) hlt'
      cases e9
      have hsn : (L.take (i + 1)) = L.take i ++ [L[i]] := List.take_succ_eq_append_getElem hlt'
      have hmem : L[i] ∈ L := List.getElem_mem hlt'
      obtain ⟨R, hR⟩ : ∃ R, L[i] = R := ⟨_, rfl⟩
      rw [hR] at hr hrf hsn hmem
      obtain ⟨hdt, _, hrv⟩ := row_mid hr
      obtain ⟨ra, rc, hre⟩ := hrf.form
      rw [hre] at hrv
      obtain ⟨nr, hnr⟩ : ∃ nr, R.refs.length = nr := ⟨_, rfl⟩
      rw [hnr] at hrv
      have HSN := Lib.hid hsn
      have HMEM := Lib.hid hmem
      have HNR := Lib.hid hnr
      clear hr hdt hrf hsn hmem hR hre hnr
      by_cases h30 : 30 < nr
      · have hnI : (30 : Int) < (nr : Int) := by omega
        obtain rfl : C = false := by
          rw [← HC.out, Bool.eq_false_iff]
          intro h
          have := (few_iff.1 h).1 R HMEM.out
          rw [HNR.out] at this
          omega
        go_wp2_with fail
        exact bodyPost_ret (v := .bool false) (by simp [results, Try.results12, go_sem]) rfl ⟨rfl, HB.out⟩
      · have hnI : ¬ (30 : Int) < (nr : Int) := by omega
        go_wp2_with fail
        go_roundw
        case rel => exact ⟨i + 1, by omega, by go_num, (by rw [HSN.out]; intro x hx; rcases List.mem_append.1 hx with h | h; exact HNO.out x h; rw [List.mem_singleton.1 h, HNR.out]; omega), HB.out⟩
        case measure => simp [intOf]; omega
    · obtain rfl : N = i := by omega
      have hall : ∀ r ∈ L, r.refs.length ≤ 30 := by
        have h := HNO.out
        rw [List.take_of_length_le (by rw [HN.out]; omega)] at h
        exact h
      have HALL := Lib.hid hall
      clear hall
      by_cases h1 : N ≤ 30
      · have h1I : (N : Int) ≤ 30 := by omega
        by_cases h2 : K ≤ 30
        · have h2I : (K : Int) ≤ 30 := by omega
          obtain rfl : C = true := by rw [← HC.out]; exact few_iff.2 ⟨HALL.out, by rw [HN.out]; exact h1, by rw [HK.out]; exact h2⟩
          go_wp2_with fail
          exact bodyPost_ret (v := .bool true) (by simp [results, Try.results12, go_sem]) rfl ⟨rfl, HB.out⟩
        · have h2I : ¬ (K : Int) ≤ 30 := by omega
          obtain rfl : C = false := by
            rw [← HC.out, Bool.eq_false_iff]
            intro h
            have := (few_iff.1 h).2.2
            rw [HK.out] at this
            omega
          go_wp2_with fail
          exact bodyPost_ret (v := .bool false) (by simp [results, Try.results12, go_sem]) rfl ⟨rfl, HB.out⟩
      · have h1I : ¬ (N : Int) ≤ 30 := by omega
        obtain rfl : C = false := by
          rw [← HC.out, Bool.eq_false_iff]
          intro h
          have := (few_iff.1 h).2.1
          rw [HN.out] at this
          omega
        go_wp2_with fail
        exact bodyPost_ret (v := .bool false) (by simp [results, Try.results12, go_sem]) rfl ⟨rfl, HB.out⟩

theorem rowIx_nonneg (L : List RowV) (a : IdB) : decide (0 ≤ rowIx L a) = decide (a ∈ L.map (·.id)) := by
  by_cases h : a ∈ L.map (·.id)
  · rw [decide_eq_true h]
    unfold rowIx
    cases hf : L.findIdx? (fun r => r.id == a) with
    | some i => simp
    | none =>
      obtain ⟨x, hx, he⟩ := List.mem_map.1 h
      have := List.findIdx?_eq_none_iff.1 hf x hx
      rw [he] at this
      simp at this
  · rw [decide_eq_false h, rowIx_no (fun x hx e => h (List.mem_map.2 ⟨x, hx, e⟩))]
    rfl
theorem RowsAt.take {w : World} {L : List RowV} {a : Option Addr} {n c : Nat} (h : RowsAt w (.slice a n c) L) (k : Nat) (hk : k ≤ n) : RowsAt w (.slice a k c) (L.take k) :=
  ⟨h.l.take hk, fun R hR => h.r R (List.mem_of_mem_take hR)⟩
set_option maxRecDepth 100000 in
set_option maxHeartbeats 2000000 in
theorem check_any {w : World} (v : Value) (L : List RowV) (hv : RowsAt w v L) (hl : L.length < 1000000000) :
    Calls Try.prog 13 #[v] w fun e w' => e = .returned (.int .i64 (chkL L)) ∧ Below w.heap.size w w' := by
  obtain ⟨va, vc, rfl⟩ := hv.l.form
  obtain ⟨N, hN⟩ : ∃ N, L.length = N := ⟨_, rfl⟩
  obtain ⟨C, hC⟩ : ∃ C, chkL L = C := ⟨_, rfl⟩
  by_cases hbig : 4096 < N
  · have hbI : (4096 : Int) < (N : Int) := by omega
    obtain rfl : 9 = C := by rw [← hC]; unfold chkL; rw [hN, if_pos hbig]
    rw [hN, hC]
    clear hv hC hN hl
    go_enter Try.func13, Try.ntmps13
    go_wp2_with fail
    exact bodyPost_ret (v := .int .i64 9) (by simp [results, Try.results13, go_sem]) rfl ⟨rfl, Below.refl _ _⟩
  have hbI : ¬ (4096 : Int) < (N : Int) := by omega
  have hC2 : vchkGo [] L = C := by rw [← hC]; unfold chkL; rw [hN, if_neg hbig]
  rw [hC]
  rw [hN] at hv hl ⊢
  have HV := Lib.hid hv
  have HN := Lib.hid hN
  have HC := Lib.hid hC2
  have hNI0 : (0 : Int) ≤ (N : Int) := by omega
  clear hv hN hC hC2
  go_enter Try.func13, Try.ntmps13
  go_wp2_with fail
  go_loopw [3] (fun iv wr => ∃ i : Nat, i ≤ N ∧ iv = .int .i64 (i : Int) ∧ vchkGo ((L.take i).map (·.id)) (L.drop i) = C ∧ Below w.heap.size w wr) (fun iv _ => N - (intOf iv).toNat)
  case atStart => exact ⟨0, Nat.zero_le _, rfl, HC.out, Below.refl _ _⟩
  case round =>
    obtain ⟨i, hi, rfl, hc, hB⟩ := hrel
    have HB := Lib.hid hB
    have HCI := Lib.hid hc
    clear hB hc
    by_cases hlt : i < N
    · have hiI : (i : Int) < (N : Int) := by omega
      have hiI0 : (0 : Int) ≤ (i : Int) := by omega
      have hlt' : i < L.length := by rw [HN.out]; exact hlt
      obtain ⟨g, off, n9, c9, e9, hr, hrf⟩ := row_at (HV.out.below HB.out) hlt'
      cases e9
      have hstep := vchkGo_step L i hlt'
      rw [HCI.out] at hstep
      have htk := (HV.out.below HB.out).take i (by omega)
      have hix := rowIx_nonneg (L.take i) L[i].id
      obtain ⟨R, hR⟩ : ∃ R, L[i] = R := ⟨_, rfl⟩
      rw [hR] at hr hrf hstep hix
      obtain ⟨hdt, _, hrv⟩ := row_mid hr
      obtain ⟨ra, rc, hre⟩ := hrf.form
      rw [hre] at hrv
      obtain ⟨d, hd⟩ : ∃ d, R.date = d := ⟨_, rfl⟩
      obtain ⟨nr, hnr⟩ : ∃ nr, R.refs.length = nr := ⟨_, rfl⟩
      obtain ⟨ix, hxx⟩ : ∃ ix, rowIx (L.take i) R.id = ix := ⟨_, rfl⟩
      obtain ⟨bx, hbx⟩ : ∃ bx, decide (R.id ∈ (L.take i).map (·.id)) = bx := ⟨_, rfl⟩
      rw [hd] at hdt hstep
      rw [hnr] at hrv hstep
      rw [hxx, hbx] at hix
      have hcut := slice_cutR (some ⟨g, off, none⟩) N vc i (by have := HV.out.l.len; omega) (fun e => by cases e)
      have HRI := Lib.hid (row_id hr)
      have HSI := Lib.hid (sizeId R.id)
      have HSTEP := Lib.hid hstep
      have HTK := Lib.hid htk
      have HTL := Lib.hid (show (L.take i).length ≤ N by rw [List.length_take, HN.out]; omega)
      have HIX := Lib.hid hxx
      have HBX := Lib.hid hix
      have HBV := Lib.hid hbx
      clear hr hstep hre hrf hR htk hxx hix hbx
      by_cases hd0 : d < 0
      · obtain rfl : C = 13 := by rw [HSTEP.out, if_pos (.inl hd0)]
        clear hd hnr
        go_wp2_with fail
        exact bodyPost_ret (v := .int .i64 13) (by simp [results, Try.results13, go_sem]) rfl ⟨rfl, HB.out⟩
      by_cases hd1 : 105190559 < d
      · obtain rfl : C = 13 := by rw [HSTEP.out, if_pos (.inr hd1)]
        clear hd hnr
        go_wp2_with fail
        exact bodyPost_ret (v := .int .i64 13) (by simp [results, Try.results13, go_sem]) rfl ⟨rfl, HB.out⟩
      by_cases hn20 : 20 < nr
      · have hnI : (20 : Int) < (nr : Int) := by omega
        obtain rfl : C = 9 := by rw [HSTEP.out, if_neg (by omega), if_pos hn20]
        clear hd hnr
        go_wp2_with fail
        exact bodyPost_ret (v := .int .i64 9) (by simp [results, Try.results13, go_sem]) rfl ⟨rfl, HB.out⟩
      have hnI : ¬ (20 : Int) < (nr : Int) := by omega
      clear hd hnr
      go_wp2_with fail
      refine wp_region_noPanic ?_
      refine wp_region_H (Below wr.heap.size wr) (by kernel_rfl) ?_
      have hS0 : (Below wr.heap.size wr) wr.drew := (Below.refl _ _).drew
      obtain ⟨wd, hwd⟩ : ∃ wd, wr.drew = wd := ⟨_, rfl⟩
      rw [hwd] at hS0 ⊢
      clear hwd
      refine wpAnyH_takeI (i := 0) (v := ?v13) rfl (by kernel_rfl) (by kernel_rfl) (by kernel_rfl) (fun _ _ _ h => h) (yieldsIf_run rfl (fun w' hw' => ?y13)) hS0 ?_
      case y13 => first | (go_simp; rfl) | (go_simp; done) | rfl
      simp only [Act.put, List.setIfInBounds_toArray, List.set_cons_zero, List.set_cons_succ]
      refine wpAnyH_takeI (i := 1) (v := ?v14) rfl (by kernel_rfl) (by kernel_rfl) (by kernel_rfl) (fun _ _ _ h => h) (yieldsIf_run rfl (fun w' hw' => ?y14)) hS0 ?_
      case y14 => first | (go_simp; rfl) | (go_simp; done) | rfl
      simp only [Act.put, List.setIfInBounds_toArray, List.set_cons_zero, List.set_cons_succ]
      refine wpAnyH_takeI (i := 2) (v := ?v15) rfl (by kernel_rfl) (by kernel_rfl) (by kernel_rfl) (fun _ _ _ h => h) (yieldsIf_run rfl (fun w' hw' => ?y15)) hS0 ?_
      case y15 => first | (go_simp; rfl) | (go_simp; done) | rfl
      simp only [Act.put, List.setIfInBounds_toArray, List.set_cons_zero, List.set_cons_succ]
      refine wpAnyH_takeI (i := 3) (v := ?v16) rfl (by kernel_rfl) (by kernel_rfl) (by kernel_rfl) (fun _ _ _ h => h) (yieldsIf_run rfl (fun w' hw' => ?y16)) hS0 ?_
      case y16 => first | (go_simp; rfl) | (go_simp; done) | rfl
      simp only [Act.put, List.setIfInBounds_toArray, List.set_cons_zero, List.set_cons_succ]
      refine wpAnyH_takeI (i := 4) (v := ?v17) rfl (by kernel_rfl) (by kernel_rfl) (by kernel_rfl) (fun _ _ _ h => h) (yieldsIf_run rfl (fun w' hw' => ?y17)) hS0 ?_
      case y17 => first | (go_simp; rfl) | (go_simp; done) | rfl
      simp only [Act.put, List.setIfInBounds_toArray, List.set_cons_zero, List.set_cons_succ]
      refine wpAnyH_takeI (i := 5) (v := ?v18) rfl (by kernel_rfl) (by kernel_rfl) (by kernel_rfl) (fun _ _ _ h => h) (yieldsIf_run rfl (fun w' hw' => ?y18)) hS0 ?_
      case y18 => first | (go_simp; rfl) | (go_simp; done) | rfl
      simp only [Act.put, List.setIfInBounds_toArray, List.set_cons_zero, List.set_cons_succ]
      refine wpAnyH_takeI (i := 6) (v := ?v19) rfl (by kernel_rfl) (by kernel_rfl) (by kernel_rfl) (fun _ _ _ h => h) (yieldsIf_run rfl (fun w' hw' => ?y19)) hS0 ?_
      case y19 => first | (go_simp; rfl) | (go_simp; done) | rfl
      simp only [Act.put, List.setIfInBounds_toArray, List.set_cons_zero, List.set_cons_succ]
      refine wpAnyH_takeI (i := 7) (v := .agg (bvs R.id.1).toArray) rfl (by kernel_rfl) (by kernel_rfl) (by kernel_rfl) (fun _ _ _ h => h) (yieldsIf_load_mid rfl 31 (.tmp 40) rfl g (off + i * 83) rfl (bvs R.id.1) _ (fun w' hw' => range_below HRI.out (id_lt HRI.out) hw') Try.underlying31 rfl HSI.out) hS0 ?_
      simp only [Act.put, List.setIfInBounds_toArray, List.set_cons_zero, List.set_cons_succ]
      refine wpAnyH_do (i := 8) (by kernel_rfl) rfl rfl (fun K hK => ?_)
      go_simp
      go_at_call 16
      refine (row_any _ _ R.id (HTK.out.below hS0) (by have := HTL.out; omega)).mono ?_
      rintro e wq ⟨rfl, hbwq⟩
      rw [HIX.out]
      have hSwq := hS0.trans (hbwq.mono hS0.size)
      refine hK _ _ (hSwq) ?_
      clear hK K
      try simp only [Act.put, List.setIfInBounds_toArray, List.set_cons_zero, List.set_cons_succ]
      refine wpAnyH_takeI (i := 9) (v := .bool bx) rfl (by kernel_rfl) (by kernel_rfl) (by kernel_rfl) (fun _ _ _ h => h) (yieldsIf_run rfl (fun w' hw' => ?y20)) hSwq ?_
      case y20 => (have hbx := HBX.out; clear hw'; first | (go_simp; rfl) | (go_simp; done))
      simp only [Act.put, List.setIfInBounds_toArray, List.set_cons_zero, List.set_cons_succ]
      refine wpAnyH_done (by kernel_rfl) ?_ _
      refine NoPanic.normal ?_

      cases bx with
      | true =>
        obtain rfl : C = 7 := by rw [HSTEP.out, if_neg (by omega), if_neg hn20, if_pos (decide_eq_true_iff.1 HBV.out)]
        go_wp2_with fail
        exact bodyPost_ret (v := .int .i64 7) (by simp [results, Try.results13, go_sem]) rfl ⟨rfl, HB.out.trans (hSwq.mono HB.out.size)⟩
      | false =>
        have hnx : vchkGo ((L.take (i + 1)).map (·.id)) (L.drop (i + 1)) = C := by rw [HSTEP.out, if_neg (by omega), if_neg hn20, if_neg (decide_eq_false_iff_not.1 HBV.out)]
        have HNX := Lib.hid hnx
        clear hnx
        go_wp2_with fail
        go_roundw
        case rel => exact ⟨i + 1, by omega, by go_num, HNX.out, HB.out.trans (hSwq.mono HB.out.size)⟩
        case measure => simp [intOf]; omega
    · obtain rfl : N = i := by omega
      obtain rfl : C = 0 := by rw [← HCI.out, List.drop_of_length_le (by rw [HN.out]; omega)]; rfl
      go_wp2_with fail
      exact bodyPost_ret (v := .int .i64 0) (by simp [results, Try.results13, go_sem]) rfl ⟨rfl, HB.out⟩

end Go.Proofs.Ytjjanjhoaiannaa
