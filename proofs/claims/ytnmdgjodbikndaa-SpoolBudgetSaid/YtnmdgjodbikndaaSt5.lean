/- The stable sort: symMerge where one half is of one element. -/
import Derived.Test.YtnmdgjodbikndaaSt4
namespace Go.Proofs.Ytnmdgjodbikndaa
open Go.RowKit Go.Sort Go.Shelf
set_option linter.unusedVariables false
set_option linter.unusedSimpArgs false

def LoA (d : Array TA) (a m i : Nat) : Prop := i = m ∨ d[i - 1]!.1.arr < d[a]!.1.arr
def HiA (d : Array TA) (a b j : Nat) : Prop := j = b ∨ ¬ d[j]!.1.arr < d[a]!.1.arr
def LoB (d : Array TA) (a m i : Nat) : Prop := i = a ∨ ¬ d[m]!.1.arr < d[i - 1]!.1.arr
def HiB (d : Array TA) (m j : Nat) : Prop := j = m ∨ d[m]!.1.arr < d[j]!.1.arr
set_option maxRecDepth 1000000 in
set_option maxHeartbeats 2000000 in
theorem symA {w0 w : World} {blk off cap : Nat} {d0 d : Array TA} (R : RowK encT 34 w0 blk off d0) (hs : d0.size = d.size) (S : SWK encT 34 w0 blk off d w) (a m b : Nat) (ham : a < m) (hmb : m < b) (hb : b ≤ d.size) (hsz : d.size < 1000000000) (hp : Pre d a m b) (hm : m = a + 1) : Calls Try.prog 67 #[.slice (some ⟨blk, off, none⟩) d.size cap, .int .i64 (a : Int), .int .i64 (m : Int), .int .i64 (b : Int), (.func (.func 40) #[] #[])] w fun e w' => e = .returned (.tuple #[]) ∧ ∃ d', SWK encT 34 w0 blk off d' w' ∧ Srt d' a b ∧ PermIn a b d d' := by
  obtain ⟨N, hN⟩ : ∃ N, d.size = N := ⟨_, rfl⟩
  rw [hN] at hs hb hsz ⊢
  have S0 := Lib.hid S
  have HP := Lib.hid hp
  clear S hp
  have hw1 : IntKind.i64.wrap ((m : Int) - (a : Int)) = 1 := (IntWalk.i64_in _ (by omega)).trans (by omega)
  have HM := Lib.hid hm
  clear hm
  go_enter Try.func67, Try.ntmps67
  go_wp2_with fail
  clear hw1
  go_loopw [10, 11] (fun iv jv wr => ∃ (i j : Nat), m ≤ i ∧ i ≤ j ∧ j ≤ b ∧ iv = .int .i64 (i : Int) ∧ jv = .int .i64 (j : Int) ∧ Hid (SWK encT 34 w0 blk off d wr) ∧ Hid (LoA d a m i) ∧ Hid (HiA d a b j)) (fun iv jv _ => (intOf jv).toNat - (intOf iv).toNat)
  case atStart => exact ⟨m, b, Nat.le_refl _, by omega, Nat.le_refl _, rfl, rfl, S0, Lib.hid (.inl rfl), Lib.hid (.inl rfl)⟩
  case round =>
    clear S0
    obtain ⟨i, j, hi, hij, hj, rfl, rfl, S1, HI, HJ⟩ := hrel
    by_cases hlt : i < j
    · have hltI : (i : Int) < (j : Int) := by omega
      obtain ⟨h, hh⟩ : ∃ h, (i + j) / 2 = h := ⟨_, rfl⟩
      have hhI : ((i : Int) + (j : Int)) / 2 = (h : Int) := by omega
      have hw1 : IntKind.i64.wrap ((i : Int) + (j : Int)) = (i : Int) + (j : Int) := IntWalk.i64_in _ (by omega)
      have hw2 : IntKind.i64.wrap ((h : Int) + 1) = (h : Int) + 1 := IntWalk.i64_in _ (by omega)
      have bhI : (h : Int) < (N : Int) := by omega
      have bh0 : (0 : Int) ≤ (h : Int) := by omega
      have baI : (a : Int) < (N : Int) := by omega
      have ba0 : (0 : Int) ≤ (a : Int) := by omega
      by_cases hlv : cfT d[h]! d[a]! < 0
      · have HN1 := Lib.hid (show LoA d a m (h + 1) from .inr (by rw [Nat.add_sub_cancel]; exact (cfT_neg _ _).1 hlv))
        have HD := Lib.hid (decide_eq_true hlv)
        go_wp2_with fail
        refine wp_region_noPanic ?_
        refine wp_region_H (SWK encT 34 w0 blk off d) (by kernel_rfl) ?_
        have hS0 : (SWK encT 34 w0 blk off d) wr.drew := S1.out.drew
        obtain ⟨wd, hwd⟩ : ∃ wd, wr.drew = wd := ⟨_, rfl⟩
        rw [hwd] at hS0 ⊢
        clear hwd
        refine wpAnyH_takeI (i := 0) (v := ?v29) rfl (by kernel_rfl) (by kernel_rfl) (by kernel_rfl) (fun _ _ _ h => h) (yieldsIf_run rfl (fun w' hw' => ?y29)) hS0 ?_
        case y29 => first | (go_simp; rfl) | (go_simp; done) | rfl
        simp only [Act.put, List.setIfInBounds_toArray, List.set_cons_zero, List.set_cons_succ]
        refine wpAnyH_takeI (i := 1) (v := ?v30) rfl (by kernel_rfl) (by kernel_rfl) (by kernel_rfl) (fun _ _ _ h => h) (yieldsIf_run rfl (fun w' hw' => ?y30)) hS0 ?_
        case y30 => first | (go_simp; rfl) | (go_simp; done) | rfl
        simp only [Act.put, List.setIfInBounds_toArray, List.set_cons_zero, List.set_cons_succ]
        refine wpAnyH_takeI (i := 2) (v := ?v31) rfl (by kernel_rfl) (by kernel_rfl) (by kernel_rfl) (fun _ _ _ h => h) (yieldsIf_run rfl (fun w' hw' => ?y31)) hS0 ?_
        case y31 => first | (go_simp; rfl) | (go_simp; done) | rfl
        simp only [Act.put, List.setIfInBounds_toArray, List.set_cons_zero, List.set_cons_succ]
        refine wpAnyH_takeI (i := 3) (v := ?v32) rfl (by kernel_rfl) (by kernel_rfl) (by kernel_rfl) (fun _ _ _ h => h) (yieldsIf_run rfl (fun w' hw' => ?y32)) hS0 ?_
        case y32 => first | (go_simp; rfl) | (go_simp; done) | rfl
        simp only [Act.put, List.setIfInBounds_toArray, List.set_cons_zero, List.set_cons_succ]
        refine wpAnyH_takeI (i := 4) (v := .agg (encT d[h]!).toArray) rfl (by kernel_rfl) (by kernel_rfl) (by kernel_rfl) (fun _ _ _ h => h) (yieldsIf_load_mid rfl 44 (.tmp 43) rfl blk (off + h * 34) rfl (encT d[h]!) _ (fun w' hw' => hw'.range R (by omega) (by omega)) Try.underlying44 rfl (sizeEntT _)) hS0 ?_
        simp only [Act.put, List.setIfInBounds_toArray, List.set_cons_zero, List.set_cons_succ]
        refine wpAnyH_takeI (i := 5) (v := ?v33) rfl (by kernel_rfl) (by kernel_rfl) (by kernel_rfl) (fun _ _ _ h => h) (yieldsIf_run rfl (fun w' hw' => ?y33)) hS0 ?_
        case y33 => first | (go_simp; rfl) | (go_simp; done) | rfl
        simp only [Act.put, List.setIfInBounds_toArray, List.set_cons_zero, List.set_cons_succ]
        refine wpAnyH_takeI (i := 6) (v := ?v34) rfl (by kernel_rfl) (by kernel_rfl) (by kernel_rfl) (fun _ _ _ h => h) (yieldsIf_run rfl (fun w' hw' => ?y34)) hS0 ?_
        case y34 => first | (go_simp; rfl) | (go_simp; done) | rfl
        simp only [Act.put, List.setIfInBounds_toArray, List.set_cons_zero, List.set_cons_succ]
        refine wpAnyH_takeI (i := 7) (v := ?v35) rfl (by kernel_rfl) (by kernel_rfl) (by kernel_rfl) (fun _ _ _ h => h) (yieldsIf_run rfl (fun w' hw' => ?y35)) hS0 ?_
        case y35 => first | (go_simp; rfl) | (go_simp; done) | rfl
        simp only [Act.put, List.setIfInBounds_toArray, List.set_cons_zero, List.set_cons_succ]
        refine wpAnyH_takeI (i := 8) (v := .agg (encT d[a]!).toArray) rfl (by kernel_rfl) (by kernel_rfl) (by kernel_rfl) (fun _ _ _ h => h) (yieldsIf_load_mid rfl 44 (.tmp 47) rfl blk (off + a * 34) rfl (encT d[a]!) _ (fun w' hw' => hw'.range R (by omega) (by omega)) Try.underlying44 rfl (sizeEntT _)) hS0 ?_
        simp only [Act.put, List.setIfInBounds_toArray, List.set_cons_zero, List.set_cons_succ]
        refine wpAnyH_do (i := 9) (by kernel_rfl) rfl rfl (fun K hK => ?_)
        go_simp
        go_at_call 40
        refine (cmpT hS0 _ _).mono ?_
        rintro e wc ⟨rfl, hSc⟩
        refine hK _ _ (hSc) ?_
        clear hK K
        try simp only [Act.put, List.setIfInBounds_toArray, List.set_cons_zero, List.set_cons_succ]
        refine wpAnyH_takeI (i := 10) (v := .bool true) rfl (by kernel_rfl) (by kernel_rfl) (by kernel_rfl) (fun _ _ _ h => h) (yieldsIf_run rfl (fun w' hw' => ?y36)) hSc ?_
        case y36 => (have h99 := HD.out; clear hw'; first | (go_simp; rfl) | (go_simp; done))
        simp only [Act.put, List.setIfInBounds_toArray, List.set_cons_zero, List.set_cons_succ]
        refine wpAnyH_done (by kernel_rfl) ?_ _
        refine NoPanic.normal ?_
        have S2 := Lib.hid hSc
        clear hS0 hSc
        go_wp2_with fail
        clear hlv
        go_roundw
        case rel => exact ⟨h + 1, j, by omega, by omega, hj, by go_num, rfl, S2, HN1, HJ⟩
        case measure => simp [intOf]; omega
      · have HN1 := Lib.hid (show HiA d a b h from .inr (fun hh => hlv ((cfT_neg _ _).2 hh)))
        have HD := Lib.hid (decide_eq_false hlv)
        go_wp2_with fail
        refine wp_region_noPanic ?_
        refine wp_region_H (SWK encT 34 w0 blk off d) (by kernel_rfl) ?_
        have hS0 : (SWK encT 34 w0 blk off d) wr.drew := S1.out.drew
        obtain ⟨wd, hwd⟩ : ∃ wd, wr.drew = wd := ⟨_, rfl⟩
        rw [hwd] at hS0 ⊢
        clear hwd
        refine wpAnyH_takeI (i := 0) (v := ?v37) rfl (by kernel_rfl) (by kernel_rfl) (by kernel_rfl) (fun _ _ _ h => h) (yieldsIf_run rfl (fun w' hw' => ?y37)) hS0 ?_
        case y37 => first | (go_simp; rfl) | (go_simp; done) | rfl
        simp only [Act.put, List.setIfInBounds_toArray, List.set_cons_zero, List.set_cons_succ]
        refine wpAnyH_takeI (i := 1) (v := ?v38) rfl (by kernel_rfl) (by kernel_rfl) (by kernel_rfl) (fun _ _ _ h => h) (yieldsIf_run rfl (fun w' hw' => ?y38)) hS0 ?_
        case y38 => first | (go_simp; rfl) | (go_simp; done) | rfl
        simp only [Act.put, List.setIfInBounds_toArray, List.set_cons_zero, List.set_cons_succ]
        refine wpAnyH_takeI (i := 2) (v := ?v39) rfl (by kernel_rfl) (by kernel_rfl) (by kernel_rfl) (fun _ _ _ h => h) (yieldsIf_run rfl (fun w' hw' => ?y39)) hS0 ?_
        case y39 => first | (go_simp; rfl) | (go_simp; done) | rfl
        simp only [Act.put, List.setIfInBounds_toArray, List.set_cons_zero, List.set_cons_succ]
        refine wpAnyH_takeI (i := 3) (v := ?v40) rfl (by kernel_rfl) (by kernel_rfl) (by kernel_rfl) (fun _ _ _ h => h) (yieldsIf_run rfl (fun w' hw' => ?y40)) hS0 ?_
        case y40 => first | (go_simp; rfl) | (go_simp; done) | rfl
        simp only [Act.put, List.setIfInBounds_toArray, List.set_cons_zero, List.set_cons_succ]
        refine wpAnyH_takeI (i := 4) (v := .agg (encT d[h]!).toArray) rfl (by kernel_rfl) (by kernel_rfl) (by kernel_rfl) (fun _ _ _ h => h) (yieldsIf_load_mid rfl 44 (.tmp 43) rfl blk (off + h * 34) rfl (encT d[h]!) _ (fun w' hw' => hw'.range R (by omega) (by omega)) Try.underlying44 rfl (sizeEntT _)) hS0 ?_
        simp only [Act.put, List.setIfInBounds_toArray, List.set_cons_zero, List.set_cons_succ]
        refine wpAnyH_takeI (i := 5) (v := ?v41) rfl (by kernel_rfl) (by kernel_rfl) (by kernel_rfl) (fun _ _ _ h => h) (yieldsIf_run rfl (fun w' hw' => ?y41)) hS0 ?_
        case y41 => first | (go_simp; rfl) | (go_simp; done) | rfl
        simp only [Act.put, List.setIfInBounds_toArray, List.set_cons_zero, List.set_cons_succ]
        refine wpAnyH_takeI (i := 6) (v := ?v42) rfl (by kernel_rfl) (by kernel_rfl) (by kernel_rfl) (fun _ _ _ h => h) (yieldsIf_run rfl (fun w' hw' => ?y42)) hS0 ?_
        case y42 => first | (go_simp; rfl) | (go_simp; done) | rfl
        simp only [Act.put, List.setIfInBounds_toArray, List.set_cons_zero, List.set_cons_succ]
        refine wpAnyH_takeI (i := 7) (v := ?v43) rfl (by kernel_rfl) (by kernel_rfl) (by kernel_rfl) (fun _ _ _ h => h) (yieldsIf_run rfl (fun w' hw' => ?y43)) hS0 ?_
        case y43 => first | (go_simp; rfl) | (go_simp; done) | rfl
        simp only [Act.put, List.setIfInBounds_toArray, List.set_cons_zero, List.set_cons_succ]
        refine wpAnyH_takeI (i := 8) (v := .agg (encT d[a]!).toArray) rfl (by kernel_rfl) (by kernel_rfl) (by kernel_rfl) (fun _ _ _ h => h) (yieldsIf_load_mid rfl 44 (.tmp 47) rfl blk (off + a * 34) rfl (encT d[a]!) _ (fun w' hw' => hw'.range R (by omega) (by omega)) Try.underlying44 rfl (sizeEntT _)) hS0 ?_
        simp only [Act.put, List.setIfInBounds_toArray, List.set_cons_zero, List.set_cons_succ]
        refine wpAnyH_do (i := 9) (by kernel_rfl) rfl rfl (fun K hK => ?_)
        go_simp
        go_at_call 40
        refine (cmpT hS0 _ _).mono ?_
        rintro e wc ⟨rfl, hSc⟩
        refine hK _ _ (hSc) ?_
        clear hK K
        try simp only [Act.put, List.setIfInBounds_toArray, List.set_cons_zero, List.set_cons_succ]
        refine wpAnyH_takeI (i := 10) (v := .bool false) rfl (by kernel_rfl) (by kernel_rfl) (by kernel_rfl) (fun _ _ _ h => h) (yieldsIf_run rfl (fun w' hw' => ?y44)) hSc ?_
        case y44 => (have h99 := HD.out; clear hw'; first | (go_simp; rfl) | (go_simp; done))
        simp only [Act.put, List.setIfInBounds_toArray, List.set_cons_zero, List.set_cons_succ]
        refine wpAnyH_done (by kernel_rfl) ?_ _
        refine NoPanic.normal ?_
        have S2 := Lib.hid hSc
        clear hS0 hSc
        go_wp2_with fail
        clear hlv
        go_roundw
        case rel => exact ⟨i, h, hi, by omega, by omega, rfl, rfl, S2, HI, HN1⟩
        case measure => simp [intOf]; omega
    · obtain rfl : i = j := by omega
      go_wp2_with fail
      go_loopw [13] (fun kv wr => ∃ (k : Nat) (dk : Array TA), a ≤ k ∧ k + 1 ≤ i ∧ kv = .int .i64 (k : Int) ∧ Hid (SWK encT 34 w0 blk off dk wr) ∧ Via (rotI a (a + 1) (k + 1)) a b d dk) (fun kv _ => i - (intOf kv).toNat)
      case atStart => exact ⟨a, d, Nat.le_refl _, by have := HM.out; omega, rfl, S1, by rw [rotI_id (.inr rfl) (by omega) (Nat.le_refl _)]; exact via_refl _ _ _⟩
      case round =>
      clear S1
      obtain ⟨k, dk, hak, hki, rfl, S3, hv⟩ := hrel
      have hds := hv.size
      rw [hN] at hds
      have hwi : IntKind.i64.wrap ((i : Int) - 1) = ((i - 1 : Nat) : Int) := (IntWalk.i64_in _ (by omega)).trans (by omega)
      by_cases hlt2 : k < i - 1
      · have hkI : (k : Int) < ((i - 1 : Nat) : Int) := by omega
        have HV := insl_next hv (Nat.le_refl _) hak (by omega) (by omega)
        obtain ⟨q, hq⟩ : ∃ q, k + 1 = q := ⟨_, rfl⟩
        rw [hq] at HV
        have HV := Lib.hid HV
        have hw3 : IntKind.i64.wrap ((k : Int) + 1) = (q : Int) := (IntWalk.i64_in _ (by omega)).trans (by omega)
        have bkI : (k : Int) < (N : Int) := by omega
        have bk0 : (0 : Int) ≤ (k : Int) := by omega
        have bqI : (q : Int) < (N : Int) := by omega
        have bq0 : (0 : Int) ≤ (q : Int) := by omega
        clear hv
        go_wp2_with fail
        refine wp_region_noPanic ?_
        refine wp_region_G [15, 17] (SWK encT 34 w0 blk off dk) (by kernel_rfl) ?_
        have hS0 : (SWK encT 34 w0 blk off dk) wr.drew := S3.out.drew
        obtain ⟨wd, hwd⟩ : ∃ wd, wr.drew = wd := ⟨_, rfl⟩
        rw [hwd] at hS0 ⊢
        clear hwd
        refine wpAnyG_pure (i := 0) (v := ?v1) rfl (by kernel_rfl) (by kernel_rfl) (by kernel_rfl) (by kernel_rfl) (fun _ _ _ h => h) (yieldsIf_run rfl (fun w' hw' => ?y1)) (fun _ => hS0) ?_
        case y1 => first | (go_simp; rfl) | (go_simp; done) | rfl
        simp only [Act.put, List.setIfInBounds_toArray, List.set_cons_zero, List.set_cons_succ]
        refine wpAnyG_pure (i := 1) (v := ?v2) rfl (by kernel_rfl) (by kernel_rfl) (by kernel_rfl) (by kernel_rfl) (fun _ _ _ h => h) (yieldsIf_run rfl (fun w' hw' => ?y2)) (fun _ => hS0) ?_
        case y2 => first | (go_simp; rfl) | (go_simp; done) | rfl
        simp only [Act.put, List.setIfInBounds_toArray, List.set_cons_zero, List.set_cons_succ]
        refine wpAnyG_pure (i := 2) (v := ?v3) rfl (by kernel_rfl) (by kernel_rfl) (by kernel_rfl) (by kernel_rfl) (fun _ _ _ h => h) (yieldsIf_run rfl (fun w' hw' => ?y3)) (fun _ => hS0) ?_
        case y3 => first | (go_simp; rfl) | (go_simp; done) | rfl
        simp only [Act.put, List.setIfInBounds_toArray, List.set_cons_zero, List.set_cons_succ]
        refine wpAnyG_pure (i := 3) (v := ?v4) rfl (by kernel_rfl) (by kernel_rfl) (by kernel_rfl) (by kernel_rfl) (fun _ _ _ h => h) (yieldsIf_run rfl (fun w' hw' => ?y4)) (fun _ => hS0) ?_
        case y4 => first | (go_simp; rfl) | (go_simp; done) | rfl
        simp only [Act.put, List.setIfInBounds_toArray, List.set_cons_zero, List.set_cons_succ]
        refine wpAnyG_pure (i := 4) (v := ?v5) rfl (by kernel_rfl) (by kernel_rfl) (by kernel_rfl) (by kernel_rfl) (fun _ _ _ h => h) (yieldsIf_run rfl (fun w' hw' => ?y5)) (fun _ => hS0) ?_
        case y5 => first | (go_simp; rfl) | (go_simp; done) | rfl
        simp only [Act.put, List.setIfInBounds_toArray, List.set_cons_zero, List.set_cons_succ]
        refine wpAnyG_pure (i := 5) (v := ?v6) rfl (by kernel_rfl) (by kernel_rfl) (by kernel_rfl) (by kernel_rfl) (fun _ _ _ h => h) (yieldsIf_run rfl (fun w' hw' => ?y6)) (fun _ => hS0) ?_
        case y6 => first | (go_simp; rfl) | (go_simp; done) | rfl
        simp only [Act.put, List.setIfInBounds_toArray, List.set_cons_zero, List.set_cons_succ]
        refine wpAnyG_pure (i := 6) (v := ?v7) rfl (by kernel_rfl) (by kernel_rfl) (by kernel_rfl) (by kernel_rfl) (fun _ _ _ h => h) (yieldsIf_run rfl (fun w' hw' => ?y7)) (fun _ => hS0) ?_
        case y7 => first | (go_simp; rfl) | (go_simp; done) | rfl
        simp only [Act.put, List.setIfInBounds_toArray, List.set_cons_zero, List.set_cons_succ]
        refine wpAnyG_pure (i := 7) (v := ?v8) rfl (by kernel_rfl) (by kernel_rfl) (by kernel_rfl) (by kernel_rfl) (fun _ _ _ h => h) (yieldsIf_run rfl (fun w' hw' => ?y8)) (fun _ => hS0) ?_
        case y8 => first | (go_simp; rfl) | (go_simp; done) | rfl
        simp only [Act.put, List.setIfInBounds_toArray, List.set_cons_zero, List.set_cons_succ]
        refine wpAnyG_pure (i := 8) (v := ?v9) rfl (by kernel_rfl) (by kernel_rfl) (by kernel_rfl) (by kernel_rfl) (fun _ _ _ h => h) (yieldsIf_run rfl (fun w' hw' => ?y9)) (fun _ => hS0) ?_
        case y9 => first | (go_simp; rfl) | (go_simp; done) | rfl
        simp only [Act.put, List.setIfInBounds_toArray, List.set_cons_zero, List.set_cons_succ]
        refine wpAnyG_takeZ (i := 9) (v := .agg (encT dk[q]!).toArray) rfl (by kernel_rfl) (by kernel_rfl) (by kernel_rfl) (by kernel_rfl) (fun _ _ _ h => h) (yieldsIf_load_mid rfl 44 (.tmp 69) rfl blk (off + q * 34) rfl (encT dk[q]!) _ (fun w' hw' => hw'.range R (by omega) (by omega)) Try.underlying44 rfl (sizeEntT _)) hS0 ?_
        simp only [Act.put, List.setIfInBounds_toArray, List.set_cons_zero, List.set_cons_succ]
        refine wpAnyG_pure (i := 10) (v := ?v10) rfl (by kernel_rfl) (by kernel_rfl) (by kernel_rfl) (by kernel_rfl) (fun _ _ _ h => h) (yieldsIf_run rfl (fun w' hw' => ?y10)) (fun _ => hS0) ?_
        case y10 => first | (go_simp; rfl) | (go_simp; done) | rfl
        simp only [Act.put, List.setIfInBounds_toArray, List.set_cons_zero, List.set_cons_succ]
        refine wpAnyG_pure (i := 11) (v := ?v11) rfl (by kernel_rfl) (by kernel_rfl) (by kernel_rfl) (by kernel_rfl) (fun _ _ _ h => h) (yieldsIf_run rfl (fun w' hw' => ?y11)) (fun _ => hS0) ?_
        case y11 => first | (go_simp; rfl) | (go_simp; done) | rfl
        simp only [Act.put, List.setIfInBounds_toArray, List.set_cons_zero, List.set_cons_succ]
        refine wpAnyG_pure (i := 12) (v := ?v12) rfl (by kernel_rfl) (by kernel_rfl) (by kernel_rfl) (by kernel_rfl) (fun _ _ _ h => h) (yieldsIf_run rfl (fun w' hw' => ?y12)) (fun _ => hS0) ?_
        case y12 => first | (go_simp; rfl) | (go_simp; done) | rfl
        simp only [Act.put, List.setIfInBounds_toArray, List.set_cons_zero, List.set_cons_succ]
        refine wpAnyG_takeZ (i := 13) (v := .agg (encT dk[k]!).toArray) rfl (by kernel_rfl) (by kernel_rfl) (by kernel_rfl) (by kernel_rfl) (fun _ _ _ h => h) (yieldsIf_load_mid rfl 44 (.tmp 73) rfl blk (off + k * 34) rfl (encT dk[k]!) _ (fun w' hw' => hw'.range R (by omega) (by omega)) Try.underlying44 rfl (sizeEntT _)) hS0 ?_
        simp only [Act.put, List.setIfInBounds_toArray, List.set_cons_zero, List.set_cons_succ]
        refine wpAnyG_pure (i := 14) (v := ?v13) rfl (by kernel_rfl) (by kernel_rfl) (by kernel_rfl) (by kernel_rfl) (fun _ _ _ h => h) (yieldsIf_run rfl (fun w' hw' => ?y13)) (fun _ => hS0) ?_
        case y13 => first | (go_simp; rfl) | (go_simp; done) | rfl
        simp only [Act.put, List.setIfInBounds_toArray, List.set_cons_zero, List.set_cons_succ]
        refine wpAnyG_fin (i := 15) (by kernel_rfl) rfl rfl (by kernel_rfl) (fun K hK => ?_)
        refine wp_store_mid 44 (.tmp 75) (.tmp 70) rfl blk (off + k * 34) (encT dk[q]!).toArray rfl rfl (hS0.there R (by omega) (by omega) (encT_size _)) (sizeEntA' _) (oneEnt _) ?_
        refine hK _ _ ?_
        clear hK K
        try simp only [Act.put, List.setIfInBounds_toArray, List.set_cons_zero, List.set_cons_succ]
        refine wpAnyG_late (i := 16) (v := ?v14) rfl (by kernel_rfl) (by kernel_rfl) (by kernel_rfl) (by kernel_rfl) (by kernel_rfl) (fun _ _ _ h => h) (yieldsIf_run rfl (fun w' hw' => ?y14)) ?_
        case y14 => first | (go_simp; rfl) | (go_simp; done) | rfl
        simp only [Act.put, List.setIfInBounds_toArray, List.set_cons_zero, List.set_cons_succ]
        refine wpAnyG_fin (i := 17) (by kernel_rfl) rfl rfl (by kernel_rfl) (fun K hK => ?_)
        refine wp_store_mid 44 (.tmp 76) (.tmp 74) rfl blk (off + q * 34) (encT dk[k]!).toArray rfl rfl (hS0.there2 R (by omega) (by omega) (by omega) (by omega) (encT_size _)) (sizeEntA' _) (oneEnt _) ?_
        have hsw := hS0.swapT R k q (by omega) (by omega)
        obtain ⟨wz, hwz⟩ : ∃ wz, World.setCells (World.setCells wd blk (off + k * 34) (encT dk[q]!).toArray.toList) blk (off + q * 34) (encT dk[k]!).toArray.toList = wz := ⟨_, rfl⟩
        rw [hwz] at hsw ⊢
        clear hwz
        refine hK _ _ ?_
        clear hK K
        try simp only [Act.put, List.setIfInBounds_toArray, List.set_cons_zero, List.set_cons_succ]
        refine wpAnyG_done (by kernel_rfl) ?_ _
        refine NoPanic.normal ?_
        have S4 := Lib.hid hsw
        clear hS0 hsw
        go_wp2_with fail
        go_roundw
        case rel => exact ⟨q, _, by omega, by omega, by go_num, S4, HV.out⟩
        case measure => simp [intOf]; omega
      · have hkI : ¬ (k : Int) < ((i - 1 : Nat) : Int) := by omega
        obtain rfl : i = k + 1 := by omega
        have HE := Lib.hid (ins_left HP.out HM.out hi hj (by have h := hv.1; rw [← HM.out] at h; exact h) HI.out HJ.out)
        go_wp2_with fail
        exact bodyPost_ret (results_none rfl _ _ _) rfl ⟨rfl, dk, S3.out, HE.out, hv.2⟩
set_option maxRecDepth 1000000 in
set_option maxHeartbeats 2000000 in
theorem symB {w0 w : World} {blk off cap : Nat} {d0 d : Array TA} (R : RowK encT 34 w0 blk off d0) (hs : d0.size = d.size) (S : SWK encT 34 w0 blk off d w) (a m b : Nat) (ham : a < m) (hmb : m < b) (hb : b ≤ d.size) (hsz : d.size < 1000000000) (hp : Pre d a m b) (hm0 : m ≠ a + 1) (hm : b = m + 1) : Calls Try.prog 67 #[.slice (some ⟨blk, off, none⟩) d.size cap, .int .i64 (a : Int), .int .i64 (m : Int), .int .i64 (b : Int), (.func (.func 40) #[] #[])] w fun e w' => e = .returned (.tuple #[]) ∧ ∃ d', SWK encT 34 w0 blk off d' w' ∧ Srt d' a b ∧ PermIn a b d d' := by
  obtain ⟨N, hN⟩ : ∃ N, d.size = N := ⟨_, rfl⟩
  rw [hN] at hs hb hsz ⊢
  have S0 := Lib.hid S
  have HP := Lib.hid hp
  clear S hp
  have hw1 : IntKind.i64.wrap ((m : Int) - (a : Int)) = ((m - a : Nat) : Int) := (IntWalk.i64_in _ (by omega)).trans (by omega)
  have hn1 : (((m - a : Nat) : Int) == 1) = false := beq_false_of_ne (by omega)
  have hw2 : IntKind.i64.wrap ((b : Int) - (m : Int)) = 1 := (IntWalk.i64_in _ (by omega)).trans (by omega)
  have HM := Lib.hid hm
  clear hm hm0
  go_enter Try.func67, Try.ntmps67
  go_wp2_with fail
  clear hw1 hw2 hn1
  go_loopw [14, 15] (fun iv jv wr => ∃ (i j : Nat), a ≤ i ∧ i ≤ j ∧ j ≤ m ∧ iv = .int .i64 (i : Int) ∧ jv = .int .i64 (j : Int) ∧ Hid (SWK encT 34 w0 blk off d wr) ∧ Hid (LoB d a m i) ∧ Hid (HiB d m j)) (fun iv jv _ => (intOf jv).toNat - (intOf iv).toNat)
  case atStart => exact ⟨a, m, Nat.le_refl _, by omega, Nat.le_refl _, rfl, rfl, S0, Lib.hid (.inl rfl), Lib.hid (.inl rfl)⟩
  case round =>
    clear S0
    obtain ⟨i, j, hi, hij, hj, rfl, rfl, S1, HI, HJ⟩ := hrel
    by_cases hlt : i < j
    · have hltI : (i : Int) < (j : Int) := by omega
      obtain ⟨h, hh⟩ : ∃ h, (i + j) / 2 = h := ⟨_, rfl⟩
      have hhI : ((i : Int) + (j : Int)) / 2 = (h : Int) := by omega
      have hw1 : IntKind.i64.wrap ((i : Int) + (j : Int)) = (i : Int) + (j : Int) := IntWalk.i64_in _ (by omega)
      have hw2 : IntKind.i64.wrap ((h : Int) + 1) = (h : Int) + 1 := IntWalk.i64_in _ (by omega)
      have bhI : (h : Int) < (N : Int) := by omega
      have bh0 : (0 : Int) ≤ (h : Int) := by omega
      have bmI : (m : Int) < (N : Int) := by omega
      have bm0 : (0 : Int) ≤ (m : Int) := by omega
      by_cases hlv : cfT d[m]! d[h]! < 0
      · have HN1 := Lib.hid (show HiB d m h from .inr ((cfT_neg _ _).1 hlv))
        have HD := Lib.hid (decide_eq_true hlv)
        go_wp2_with fail
        refine wp_region_noPanic ?_
        refine wp_region_H (SWK encT 34 w0 blk off d) (by kernel_rfl) ?_
        have hS0 : (SWK encT 34 w0 blk off d) wr.drew := S1.out.drew
        obtain ⟨wd, hwd⟩ : ∃ wd, wr.drew = wd := ⟨_, rfl⟩
        rw [hwd] at hS0 ⊢
        clear hwd
        refine wpAnyH_takeI (i := 0) (v := ?v45) rfl (by kernel_rfl) (by kernel_rfl) (by kernel_rfl) (fun _ _ _ h => h) (yieldsIf_run rfl (fun w' hw' => ?y45)) hS0 ?_
        case y45 => first | (go_simp; rfl) | (go_simp; done) | rfl
        simp only [Act.put, List.setIfInBounds_toArray, List.set_cons_zero, List.set_cons_succ]
        refine wpAnyH_takeI (i := 1) (v := ?v46) rfl (by kernel_rfl) (by kernel_rfl) (by kernel_rfl) (fun _ _ _ h => h) (yieldsIf_run rfl (fun w' hw' => ?y46)) hS0 ?_
        case y46 => first | (go_simp; rfl) | (go_simp; done) | rfl
        simp only [Act.put, List.setIfInBounds_toArray, List.set_cons_zero, List.set_cons_succ]
        refine wpAnyH_takeI (i := 2) (v := ?v47) rfl (by kernel_rfl) (by kernel_rfl) (by kernel_rfl) (fun _ _ _ h => h) (yieldsIf_run rfl (fun w' hw' => ?y47)) hS0 ?_
        case y47 => first | (go_simp; rfl) | (go_simp; done) | rfl
        simp only [Act.put, List.setIfInBounds_toArray, List.set_cons_zero, List.set_cons_succ]
        refine wpAnyH_takeI (i := 3) (v := ?v48) rfl (by kernel_rfl) (by kernel_rfl) (by kernel_rfl) (fun _ _ _ h => h) (yieldsIf_run rfl (fun w' hw' => ?y48)) hS0 ?_
        case y48 => first | (go_simp; rfl) | (go_simp; done) | rfl
        simp only [Act.put, List.setIfInBounds_toArray, List.set_cons_zero, List.set_cons_succ]
        refine wpAnyH_takeI (i := 4) (v := .agg (encT d[m]!).toArray) rfl (by kernel_rfl) (by kernel_rfl) (by kernel_rfl) (fun _ _ _ h => h) (yieldsIf_load_mid rfl 44 (.tmp 95) rfl blk (off + m * 34) rfl (encT d[m]!) _ (fun w' hw' => hw'.range R (by omega) (by omega)) Try.underlying44 rfl (sizeEntT _)) hS0 ?_
        simp only [Act.put, List.setIfInBounds_toArray, List.set_cons_zero, List.set_cons_succ]
        refine wpAnyH_takeI (i := 5) (v := ?v49) rfl (by kernel_rfl) (by kernel_rfl) (by kernel_rfl) (fun _ _ _ h => h) (yieldsIf_run rfl (fun w' hw' => ?y49)) hS0 ?_
        case y49 => first | (go_simp; rfl) | (go_simp; done) | rfl
        simp only [Act.put, List.setIfInBounds_toArray, List.set_cons_zero, List.set_cons_succ]
        refine wpAnyH_takeI (i := 6) (v := ?v50) rfl (by kernel_rfl) (by kernel_rfl) (by kernel_rfl) (fun _ _ _ h => h) (yieldsIf_run rfl (fun w' hw' => ?y50)) hS0 ?_
        case y50 => first | (go_simp; rfl) | (go_simp; done) | rfl
        simp only [Act.put, List.setIfInBounds_toArray, List.set_cons_zero, List.set_cons_succ]
        refine wpAnyH_takeI (i := 7) (v := ?v51) rfl (by kernel_rfl) (by kernel_rfl) (by kernel_rfl) (fun _ _ _ h => h) (yieldsIf_run rfl (fun w' hw' => ?y51)) hS0 ?_
        case y51 => first | (go_simp; rfl) | (go_simp; done) | rfl
        simp only [Act.put, List.setIfInBounds_toArray, List.set_cons_zero, List.set_cons_succ]
        refine wpAnyH_takeI (i := 8) (v := .agg (encT d[h]!).toArray) rfl (by kernel_rfl) (by kernel_rfl) (by kernel_rfl) (fun _ _ _ h => h) (yieldsIf_load_mid rfl 44 (.tmp 99) rfl blk (off + h * 34) rfl (encT d[h]!) _ (fun w' hw' => hw'.range R (by omega) (by omega)) Try.underlying44 rfl (sizeEntT _)) hS0 ?_
        simp only [Act.put, List.setIfInBounds_toArray, List.set_cons_zero, List.set_cons_succ]
        refine wpAnyH_do (i := 9) (by kernel_rfl) rfl rfl (fun K hK => ?_)
        go_simp
        go_at_call 40
        refine (cmpT hS0 _ _).mono ?_
        rintro e wc ⟨rfl, hSc⟩
        refine hK _ _ (hSc) ?_
        clear hK K
        try simp only [Act.put, List.setIfInBounds_toArray, List.set_cons_zero, List.set_cons_succ]
        refine wpAnyH_takeI (i := 10) (v := .bool true) rfl (by kernel_rfl) (by kernel_rfl) (by kernel_rfl) (fun _ _ _ h => h) (yieldsIf_run rfl (fun w' hw' => ?y52)) hSc ?_
        case y52 => (have h99 := HD.out; clear hw'; first | (go_simp; rfl) | (go_simp; done))
        simp only [Act.put, List.setIfInBounds_toArray, List.set_cons_zero, List.set_cons_succ]
        refine wpAnyH_takeI (i := 11) (v := ?v53) rfl (by kernel_rfl) (by kernel_rfl) (by kernel_rfl) (fun _ _ _ h => h) (yieldsIf_run rfl (fun w' hw' => ?y53)) hSc ?_
        case y53 => first | (go_simp; rfl) | (go_simp; done) | rfl
        simp only [Act.put, List.setIfInBounds_toArray, List.set_cons_zero, List.set_cons_succ]
        refine wpAnyH_done (by kernel_rfl) ?_ _
        refine NoPanic.normal ?_
        have S2 := Lib.hid hSc
        clear hS0 hSc
        go_wp2_with fail
        clear hlv
        go_roundw
        case rel => exact ⟨i, h, hi, by omega, by omega, rfl, rfl, S2, HI, HN1⟩
        case measure => simp [intOf]; omega
      · have HN1 := Lib.hid (show LoB d a m (h + 1) from .inr (by rw [Nat.add_sub_cancel]; exact fun hh => hlv ((cfT_neg _ _).2 hh)))
        have HD := Lib.hid (decide_eq_false hlv)
        go_wp2_with fail
        refine wp_region_noPanic ?_
        refine wp_region_H (SWK encT 34 w0 blk off d) (by kernel_rfl) ?_
        have hS0 : (SWK encT 34 w0 blk off d) wr.drew := S1.out.drew
        obtain ⟨wd, hwd⟩ : ∃ wd, wr.drew = wd := ⟨_, rfl⟩
        rw [hwd] at hS0 ⊢
        clear hwd
        refine wpAnyH_takeI (i := 0) (v := ?v54) rfl (by kernel_rfl) (by kernel_rfl) (by kernel_rfl) (fun _ _ _ h => h) (yieldsIf_run rfl (fun w' hw' => ?y54)) hS0 ?_
        case y54 => first | (go_simp; rfl) | (go_simp; done) | rfl
        simp only [Act.put, List.setIfInBounds_toArray, List.set_cons_zero, List.set_cons_succ]
        refine wpAnyH_takeI (i := 1) (v := ?v55) rfl (by kernel_rfl) (by kernel_rfl) (by kernel_rfl) (fun _ _ _ h => h) (yieldsIf_run rfl (fun w' hw' => ?y55)) hS0 ?_
        case y55 => first | (go_simp; rfl) | (go_simp; done) | rfl
        simp only [Act.put, List.setIfInBounds_toArray, List.set_cons_zero, List.set_cons_succ]
        refine wpAnyH_takeI (i := 2) (v := ?v56) rfl (by kernel_rfl) (by kernel_rfl) (by kernel_rfl) (fun _ _ _ h => h) (yieldsIf_run rfl (fun w' hw' => ?y56)) hS0 ?_
        case y56 => first | (go_simp; rfl) | (go_simp; done) | rfl
        simp only [Act.put, List.setIfInBounds_toArray, List.set_cons_zero, List.set_cons_succ]
        refine wpAnyH_takeI (i := 3) (v := ?v57) rfl (by kernel_rfl) (by kernel_rfl) (by kernel_rfl) (fun _ _ _ h => h) (yieldsIf_run rfl (fun w' hw' => ?y57)) hS0 ?_
        case y57 => first | (go_simp; rfl) | (go_simp; done) | rfl
        simp only [Act.put, List.setIfInBounds_toArray, List.set_cons_zero, List.set_cons_succ]
        refine wpAnyH_takeI (i := 4) (v := .agg (encT d[m]!).toArray) rfl (by kernel_rfl) (by kernel_rfl) (by kernel_rfl) (fun _ _ _ h => h) (yieldsIf_load_mid rfl 44 (.tmp 95) rfl blk (off + m * 34) rfl (encT d[m]!) _ (fun w' hw' => hw'.range R (by omega) (by omega)) Try.underlying44 rfl (sizeEntT _)) hS0 ?_
        simp only [Act.put, List.setIfInBounds_toArray, List.set_cons_zero, List.set_cons_succ]
        refine wpAnyH_takeI (i := 5) (v := ?v58) rfl (by kernel_rfl) (by kernel_rfl) (by kernel_rfl) (fun _ _ _ h => h) (yieldsIf_run rfl (fun w' hw' => ?y58)) hS0 ?_
        case y58 => first | (go_simp; rfl) | (go_simp; done) | rfl
        simp only [Act.put, List.setIfInBounds_toArray, List.set_cons_zero, List.set_cons_succ]
        refine wpAnyH_takeI (i := 6) (v := ?v59) rfl (by kernel_rfl) (by kernel_rfl) (by kernel_rfl) (fun _ _ _ h => h) (yieldsIf_run rfl (fun w' hw' => ?y59)) hS0 ?_
        case y59 => first | (go_simp; rfl) | (go_simp; done) | rfl
        simp only [Act.put, List.setIfInBounds_toArray, List.set_cons_zero, List.set_cons_succ]
        refine wpAnyH_takeI (i := 7) (v := ?v60) rfl (by kernel_rfl) (by kernel_rfl) (by kernel_rfl) (fun _ _ _ h => h) (yieldsIf_run rfl (fun w' hw' => ?y60)) hS0 ?_
        case y60 => first | (go_simp; rfl) | (go_simp; done) | rfl
        simp only [Act.put, List.setIfInBounds_toArray, List.set_cons_zero, List.set_cons_succ]
        refine wpAnyH_takeI (i := 8) (v := .agg (encT d[h]!).toArray) rfl (by kernel_rfl) (by kernel_rfl) (by kernel_rfl) (fun _ _ _ h => h) (yieldsIf_load_mid rfl 44 (.tmp 99) rfl blk (off + h * 34) rfl (encT d[h]!) _ (fun w' hw' => hw'.range R (by omega) (by omega)) Try.underlying44 rfl (sizeEntT _)) hS0 ?_
        simp only [Act.put, List.setIfInBounds_toArray, List.set_cons_zero, List.set_cons_succ]
        refine wpAnyH_do (i := 9) (by kernel_rfl) rfl rfl (fun K hK => ?_)
        go_simp
        go_at_call 40
        refine (cmpT hS0 _ _).mono ?_
        rintro e wc ⟨rfl, hSc⟩
        refine hK _ _ (hSc) ?_
        clear hK K
        try simp only [Act.put, List.setIfInBounds_toArray, List.set_cons_zero, List.set_cons_succ]
        refine wpAnyH_takeI (i := 10) (v := .bool false) rfl (by kernel_rfl) (by kernel_rfl) (by kernel_rfl) (fun _ _ _ h => h) (yieldsIf_run rfl (fun w' hw' => ?y61)) hSc ?_
        case y61 => (have h99 := HD.out; clear hw'; first | (go_simp; rfl) | (go_simp; done))
        simp only [Act.put, List.setIfInBounds_toArray, List.set_cons_zero, List.set_cons_succ]
        refine wpAnyH_takeI (i := 11) (v := ?v62) rfl (by kernel_rfl) (by kernel_rfl) (by kernel_rfl) (fun _ _ _ h => h) (yieldsIf_run rfl (fun w' hw' => ?y62)) hSc ?_
        case y62 => first | (go_simp; rfl) | (go_simp; done) | rfl
        simp only [Act.put, List.setIfInBounds_toArray, List.set_cons_zero, List.set_cons_succ]
        refine wpAnyH_done (by kernel_rfl) ?_ _
        refine NoPanic.normal ?_
        have S2 := Lib.hid hSc
        clear hS0 hSc
        go_wp2_with fail
        clear hlv
        go_roundw
        case rel => exact ⟨h + 1, j, by omega, by omega, hj, by go_num, rfl, S2, HN1, HJ⟩
        case measure => simp [intOf]; omega
    · obtain rfl : i = j := by omega
      go_wp2_with fail
      go_loopw [17] (fun kv wr => ∃ (k : Nat) (dk : Array TA), i ≤ k ∧ k ≤ m ∧ kv = .int .i64 (k : Int) ∧ Hid (SWK encT 34 w0 blk off dk wr) ∧ Via (rotI k m (m + 1)) a b d dk) (fun kv _ => (intOf kv).toNat)
      case atStart => exact ⟨m, d, hj, Nat.le_refl _, rfl, S1, by rw [rotI_id (.inl rfl) (Nat.le_refl _) (by omega)]; exact via_refl _ _ _⟩
      case round =>
      clear S1
      obtain ⟨k, dk, hik, hkm, rfl, S3, hv⟩ := hrel
      have hds := hv.size
      rw [hN] at hds
      by_cases hlt2 : i < k
      · have hkI : (i : Int) < (k : Int) := by omega
        obtain ⟨q, rfl⟩ : ∃ q, k = q + 1 := ⟨k - 1, by omega⟩
        have HV := insr_next hv (by omega) hkm (by omega) (by omega)
        obtain ⟨k, hk⟩ : ∃ k, q + 1 = k := ⟨_, rfl⟩
        rw [hk] at HV hkI hik hkm hlt2 ⊢
        have HV := Lib.hid HV
        have hw3 : IntKind.i64.wrap ((k : Int) - 1) = (q : Int) := (IntWalk.i64_in _ (by omega)).trans (by omega)
        have bkI : (k : Int) < (N : Int) := by omega
        have bk0 : (0 : Int) ≤ (k : Int) := by omega
        have bqI : (q : Int) < (N : Int) := by omega
        have bq0 : (0 : Int) ≤ (q : Int) := by omega
        clear hv
        go_wp2_with fail
        refine wp_region_noPanic ?_
        refine wp_region_G [15, 17] (SWK encT 34 w0 blk off dk) (by kernel_rfl) ?_
        have hS0 : (SWK encT 34 w0 blk off dk) wr.drew := S3.out.drew
        obtain ⟨wd, hwd⟩ : ∃ wd, wr.drew = wd := ⟨_, rfl⟩
        rw [hwd] at hS0 ⊢
        clear hwd
        refine wpAnyG_pure (i := 0) (v := ?v15) rfl (by kernel_rfl) (by kernel_rfl) (by kernel_rfl) (by kernel_rfl) (fun _ _ _ h => h) (yieldsIf_run rfl (fun w' hw' => ?y15)) (fun _ => hS0) ?_
        case y15 => first | (go_simp; rfl) | (go_simp; done) | rfl
        simp only [Act.put, List.setIfInBounds_toArray, List.set_cons_zero, List.set_cons_succ]
        refine wpAnyG_pure (i := 1) (v := ?v16) rfl (by kernel_rfl) (by kernel_rfl) (by kernel_rfl) (by kernel_rfl) (fun _ _ _ h => h) (yieldsIf_run rfl (fun w' hw' => ?y16)) (fun _ => hS0) ?_
        case y16 => first | (go_simp; rfl) | (go_simp; done) | rfl
        simp only [Act.put, List.setIfInBounds_toArray, List.set_cons_zero, List.set_cons_succ]
        refine wpAnyG_pure (i := 2) (v := ?v17) rfl (by kernel_rfl) (by kernel_rfl) (by kernel_rfl) (by kernel_rfl) (fun _ _ _ h => h) (yieldsIf_run rfl (fun w' hw' => ?y17)) (fun _ => hS0) ?_
        case y17 => first | (go_simp; rfl) | (go_simp; done) | rfl
        simp only [Act.put, List.setIfInBounds_toArray, List.set_cons_zero, List.set_cons_succ]
        refine wpAnyG_pure (i := 3) (v := ?v18) rfl (by kernel_rfl) (by kernel_rfl) (by kernel_rfl) (by kernel_rfl) (fun _ _ _ h => h) (yieldsIf_run rfl (fun w' hw' => ?y18)) (fun _ => hS0) ?_
        case y18 => first | (go_simp; rfl) | (go_simp; done) | rfl
        simp only [Act.put, List.setIfInBounds_toArray, List.set_cons_zero, List.set_cons_succ]
        refine wpAnyG_pure (i := 4) (v := ?v19) rfl (by kernel_rfl) (by kernel_rfl) (by kernel_rfl) (by kernel_rfl) (fun _ _ _ h => h) (yieldsIf_run rfl (fun w' hw' => ?y19)) (fun _ => hS0) ?_
        case y19 => first | (go_simp; rfl) | (go_simp; done) | rfl
        simp only [Act.put, List.setIfInBounds_toArray, List.set_cons_zero, List.set_cons_succ]
        refine wpAnyG_pure (i := 5) (v := ?v20) rfl (by kernel_rfl) (by kernel_rfl) (by kernel_rfl) (by kernel_rfl) (fun _ _ _ h => h) (yieldsIf_run rfl (fun w' hw' => ?y20)) (fun _ => hS0) ?_
        case y20 => first | (go_simp; rfl) | (go_simp; done) | rfl
        simp only [Act.put, List.setIfInBounds_toArray, List.set_cons_zero, List.set_cons_succ]
        refine wpAnyG_pure (i := 6) (v := ?v21) rfl (by kernel_rfl) (by kernel_rfl) (by kernel_rfl) (by kernel_rfl) (fun _ _ _ h => h) (yieldsIf_run rfl (fun w' hw' => ?y21)) (fun _ => hS0) ?_
        case y21 => first | (go_simp; rfl) | (go_simp; done) | rfl
        simp only [Act.put, List.setIfInBounds_toArray, List.set_cons_zero, List.set_cons_succ]
        refine wpAnyG_pure (i := 7) (v := ?v22) rfl (by kernel_rfl) (by kernel_rfl) (by kernel_rfl) (by kernel_rfl) (fun _ _ _ h => h) (yieldsIf_run rfl (fun w' hw' => ?y22)) (fun _ => hS0) ?_
        case y22 => first | (go_simp; rfl) | (go_simp; done) | rfl
        simp only [Act.put, List.setIfInBounds_toArray, List.set_cons_zero, List.set_cons_succ]
        refine wpAnyG_pure (i := 8) (v := ?v23) rfl (by kernel_rfl) (by kernel_rfl) (by kernel_rfl) (by kernel_rfl) (fun _ _ _ h => h) (yieldsIf_run rfl (fun w' hw' => ?y23)) (fun _ => hS0) ?_
        case y23 => first | (go_simp; rfl) | (go_simp; done) | rfl
        simp only [Act.put, List.setIfInBounds_toArray, List.set_cons_zero, List.set_cons_succ]
        refine wpAnyG_takeZ (i := 9) (v := .agg (encT dk[q]!).toArray) rfl (by kernel_rfl) (by kernel_rfl) (by kernel_rfl) (by kernel_rfl) (fun _ _ _ h => h) (yieldsIf_load_mid rfl 44 (.tmp 121) rfl blk (off + q * 34) rfl (encT dk[q]!) _ (fun w' hw' => hw'.range R (by omega) (by omega)) Try.underlying44 rfl (sizeEntT _)) hS0 ?_
        simp only [Act.put, List.setIfInBounds_toArray, List.set_cons_zero, List.set_cons_succ]
        refine wpAnyG_pure (i := 10) (v := ?v24) rfl (by kernel_rfl) (by kernel_rfl) (by kernel_rfl) (by kernel_rfl) (fun _ _ _ h => h) (yieldsIf_run rfl (fun w' hw' => ?y24)) (fun _ => hS0) ?_
        case y24 => first | (go_simp; rfl) | (go_simp; done) | rfl
        simp only [Act.put, List.setIfInBounds_toArray, List.set_cons_zero, List.set_cons_succ]
        refine wpAnyG_pure (i := 11) (v := ?v25) rfl (by kernel_rfl) (by kernel_rfl) (by kernel_rfl) (by kernel_rfl) (fun _ _ _ h => h) (yieldsIf_run rfl (fun w' hw' => ?y25)) (fun _ => hS0) ?_
        case y25 => first | (go_simp; rfl) | (go_simp; done) | rfl
        simp only [Act.put, List.setIfInBounds_toArray, List.set_cons_zero, List.set_cons_succ]
        refine wpAnyG_pure (i := 12) (v := ?v26) rfl (by kernel_rfl) (by kernel_rfl) (by kernel_rfl) (by kernel_rfl) (fun _ _ _ h => h) (yieldsIf_run rfl (fun w' hw' => ?y26)) (fun _ => hS0) ?_
        case y26 => first | (go_simp; rfl) | (go_simp; done) | rfl
        simp only [Act.put, List.setIfInBounds_toArray, List.set_cons_zero, List.set_cons_succ]
        refine wpAnyG_takeZ (i := 13) (v := .agg (encT dk[k]!).toArray) rfl (by kernel_rfl) (by kernel_rfl) (by kernel_rfl) (by kernel_rfl) (fun _ _ _ h => h) (yieldsIf_load_mid rfl 44 (.tmp 125) rfl blk (off + k * 34) rfl (encT dk[k]!) _ (fun w' hw' => hw'.range R (by omega) (by omega)) Try.underlying44 rfl (sizeEntT _)) hS0 ?_
        simp only [Act.put, List.setIfInBounds_toArray, List.set_cons_zero, List.set_cons_succ]
        refine wpAnyG_pure (i := 14) (v := ?v27) rfl (by kernel_rfl) (by kernel_rfl) (by kernel_rfl) (by kernel_rfl) (fun _ _ _ h => h) (yieldsIf_run rfl (fun w' hw' => ?y27)) (fun _ => hS0) ?_
        case y27 => first | (go_simp; rfl) | (go_simp; done) | rfl
        simp only [Act.put, List.setIfInBounds_toArray, List.set_cons_zero, List.set_cons_succ]
        refine wpAnyG_fin (i := 15) (by kernel_rfl) rfl rfl (by kernel_rfl) (fun K hK => ?_)
        refine wp_store_mid 44 (.tmp 127) (.tmp 122) rfl blk (off + k * 34) (encT dk[q]!).toArray rfl rfl (hS0.there R (by omega) (by omega) (encT_size _)) (sizeEntA' _) (oneEnt _) ?_
        refine hK _ _ ?_
        clear hK K
        try simp only [Act.put, List.setIfInBounds_toArray, List.set_cons_zero, List.set_cons_succ]
        refine wpAnyG_late (i := 16) (v := ?v28) rfl (by kernel_rfl) (by kernel_rfl) (by kernel_rfl) (by kernel_rfl) (by kernel_rfl) (fun _ _ _ h => h) (yieldsIf_run rfl (fun w' hw' => ?y28)) ?_
        case y28 => first | (go_simp; rfl) | (go_simp; done) | rfl
        simp only [Act.put, List.setIfInBounds_toArray, List.set_cons_zero, List.set_cons_succ]
        refine wpAnyG_fin (i := 17) (by kernel_rfl) rfl rfl (by kernel_rfl) (fun K hK => ?_)
        refine wp_store_mid 44 (.tmp 128) (.tmp 126) rfl blk (off + q * 34) (encT dk[k]!).toArray rfl rfl (hS0.there2 R (by omega) (by omega) (by omega) (by omega) (encT_size _)) (sizeEntA' _) (oneEnt _) ?_
        have hsw := hS0.swapT R k q (by omega) (by omega)
        obtain ⟨wz, hwz⟩ : ∃ wz, World.setCells (World.setCells wd blk (off + k * 34) (encT dk[q]!).toArray.toList) blk (off + q * 34) (encT dk[k]!).toArray.toList = wz := ⟨_, rfl⟩
        rw [hwz] at hsw ⊢
        clear hwz
        refine hK _ _ ?_
        clear hK K
        try simp only [Act.put, List.setIfInBounds_toArray, List.set_cons_zero, List.set_cons_succ]
        refine wpAnyG_done (by kernel_rfl) ?_ _
        refine NoPanic.normal ?_
        have S4 := Lib.hid hsw
        clear hS0 hsw
        go_wp2_with fail
        go_roundw
        case rel => exact ⟨q, _, by omega, by omega, by go_num, S4, HV.out⟩
        case measure => simp [intOf]; omega
      · have hkI : ¬ (i : Int) < (k : Int) := by omega
        obtain rfl : i = k := by omega
        have HE := Lib.hid (ins_right HP.out HM.out hi hj (by have h := hv.1; rw [← HM.out] at h; exact h) HI.out HJ.out)
        go_wp2_with fail
        exact bodyPost_ret (results_none rfl _ _ _) rfl ⟨rfl, dk, S3.out, HE.out, hv.2⟩
end Go.Proofs.Ytnmdgjodbikndaa
