/- The stable sort: symMerge. -/
import Derived.Test.YtnmdgjodbikndaaSt5
namespace Go.Proofs.Ytnmdgjodbikndaa
open Go.RowKit Go.Sort Go.Shelf
set_option linter.unusedVariables false
set_option linter.unusedSimpArgs false

theorem pre_keep {d2 d3 : Array TA} {a c e b : Nat} (h : Pre d2 c e b) (p : PermIn a c d2 d3) (hce : c ≤ e) : Pre d3 c e b := by
  have k : ∀ i, c ≤ i → d3[i]! = d2[i]! := fun i hi => p.2.1 i (.inr hi)
  obtain ⟨h1, h2, h3⟩ := h
  exact ⟨fun i j a1 a2 a3 => by rw [k i a1, k j (by omega)]; exact h1 i j a1 a2 a3, fun i j a1 a2 a3 => by rw [k i (by omega), k j (by omega)]; exact h2 i j a1 a2 a3, fun i j a1 a2 a3 a4 => by rw [k i a1, k j (by omega)]; exact h3 i j a1 a2 a3 a4⟩
theorem srt_half {d2 : Array TA} {a s c : Nat} (h : Pre d2 a s c) (h1 : a ≤ s) (h2 : s ≤ c) (h3 : s ≤ a ∨ c ≤ s) : Srt d2 a c := by
  rcases h3 with h3 | h3
  · obtain rfl : s = a := by omega
    exact h.2.1
  · obtain rfl : s = c := by omega
    exact h.1
def LoC (d : Array TA) (nn s0 s : Nat) : Prop := s = s0 ∨ ¬ d[nn - s]!.1.arr < d[s - 1]!.1.arr
def HiC (d : Array TA) (nn r0 r : Nat) : Prop := r = r0 ∨ d[nn - 1 - r]!.1.arr < d[r]!.1.arr
structure SymOk (n : Nat) : Prop where
  ok : ∀ {w0 w : World} {blk off cap : Nat} {d0 d : Array TA} (R : RowK encT 34 w0 blk off d0) (hs : d0.size = d.size) (S : SWK encT 34 w0 blk off d w) (a m b : Nat) (ham : a < m) (hmb : m < b) (hb : b ≤ d.size) (hsz : d.size < 1000000000) (hp : Pre d a m b) (hn : b - a ≤ n), Calls Try.prog 67 #[.slice (some ⟨blk, off, none⟩) d.size cap, .int .i64 (a : Int), .int .i64 (m : Int), .int .i64 (b : Int), (.func (.func 40) #[] #[])] w fun e w' => e = .returned (.tuple #[]) ∧ ∃ d', SWK encT 34 w0 blk off d' w' ∧ Srt d' a b ∧ PermIn a b d d'
set_option maxRecDepth 1000000 in
set_option maxHeartbeats 2000000 in
theorem symC {w0 w : World} {blk off cap : Nat} {d0 d : Array TA} (R : RowK encT 34 w0 blk off d0) (hs : d0.size = d.size) (S : SWK encT 34 w0 blk off d w) (a m b : Nat) (ham : a < m) (hmb : m < b) (hb : b ≤ d.size) (hsz : d.size < 1000000000) (hp : Pre d a m b) (hm0 : m ≠ a + 1) (hm1 : b ≠ m + 1) (n : Nat) (IH : SymOk n) (hn : b - a ≤ n + 1) : Calls Try.prog 67 #[.slice (some ⟨blk, off, none⟩) d.size cap, .int .i64 (a : Int), .int .i64 (m : Int), .int .i64 (b : Int), (.func (.func 40) #[] #[])] w fun e w' => e = .returned (.tuple #[]) ∧ ∃ d', SWK encT 34 w0 blk off d' w' ∧ Srt d' a b ∧ PermIn a b d d' := by
  obtain ⟨N, hN⟩ : ∃ N, d.size = N := ⟨_, rfl⟩
  rw [hN] at hs hb hsz ⊢
  have S0 := Lib.hid S
  have HP := Lib.hid hp
  clear S hp
  have IH := Lib.hid IH
  have hw1 : IntKind.i64.wrap ((m : Int) - (a : Int)) = ((m - a : Nat) : Int) := (IntWalk.i64_in _ (by omega)).trans (by omega)
  have hn1 : (((m - a : Nat) : Int) == 1) = false := beq_false_of_ne (by omega)
  have hw2 : IntKind.i64.wrap ((b : Int) - (m : Int)) = ((b - m : Nat) : Int) := (IntWalk.i64_in _ (by omega)).trans (by omega)
  have hn2 : (((b - m : Nat) : Int) == 1) = false := beq_false_of_ne (by omega)
  obtain ⟨mid, hmid⟩ : ∃ mid, (a + b) / 2 = mid := ⟨_, rfl⟩
  have hhm : ((a : Int) + (b : Int)) / 2 = (mid : Int) := by omega
  have hw3 : IntKind.i64.wrap ((a : Int) + (b : Int)) = (a : Int) + (b : Int) := IntWalk.i64_in _ (by omega)
  obtain ⟨nn, hnn⟩ : ∃ nn, mid + m = nn := ⟨_, rfl⟩
  have hw4 : IntKind.i64.wrap ((mid : Int) + (m : Int)) = (nn : Int) := (IntWalk.i64_in _ (by omega)).trans (by omega)
  obtain ⟨p, hpp⟩ : ∃ p, nn - 1 = p := ⟨_, rfl⟩
  have hw5 : IntKind.i64.wrap ((nn : Int) - 1) = (p : Int) := (IntWalk.i64_in _ (by omega)).trans (by omega)
  go_enter Try.func67, Try.ntmps67
  by_cases hc : mid < m
  · have hcI : (mid : Int) < (m : Int) := by omega
    obtain ⟨s0, hs0⟩ : ∃ s0, nn - b = s0 := ⟨_, rfl⟩
    have hw6 : IntKind.i64.wrap ((nn : Int) - (b : Int)) = (s0 : Int) := (IntWalk.i64_in _ (by omega)).trans (by omega)
    go_wp2_with fail
    go_loopw [20, 21] (fun iv jv wr => ∃ (s r : Nat), s0 ≤ s ∧ s ≤ r ∧ r ≤ mid ∧ iv = .int .i64 (s : Int) ∧ jv = .int .i64 (r : Int) ∧ Hid (SWK encT 34 w0 blk off d wr) ∧ Hid (LoC d nn s0 s) ∧ Hid (HiC d nn mid r)) (fun iv jv _ => (intOf jv).toNat - (intOf iv).toNat)
    case atStart => exact ⟨s0, mid, Nat.le_refl _, by omega, Nat.le_refl _, rfl, rfl, S0, Lib.hid (.inl rfl), Lib.hid (.inl rfl)⟩
    case round =>
      clear S0
      obtain ⟨s, r, hsl, hsr, hrr, rfl, rfl, S1, HI, HJ⟩ := hrel
      by_cases hlt : s < r
      · have hltI : (s : Int) < (r : Int) := by omega
        obtain ⟨c, hh⟩ : ∃ c, (s + r) / 2 = c := ⟨_, rfl⟩
        have hhI : ((s : Int) + (r : Int)) / 2 = (c : Int) := by omega
        have hw1 : IntKind.i64.wrap ((s : Int) + (r : Int)) = (s : Int) + (r : Int) := IntWalk.i64_in _ (by omega)
        have hw2 : IntKind.i64.wrap ((c : Int) + 1) = (c : Int) + 1 := IntWalk.i64_in _ (by omega)
        obtain ⟨q, hq⟩ : ∃ q, nn - 1 - c = q := ⟨_, rfl⟩
        have hw3 : IntKind.i64.wrap ((p : Int) - (c : Int)) = (q : Int) := (IntWalk.i64_in _ (by omega)).trans (by omega)
        have bcI : (c : Int) < (N : Int) := by omega
        have bc0 : (0 : Int) ≤ (c : Int) := by omega
        have bqI : (q : Int) < (N : Int) := by omega
        have bq0 : (0 : Int) ≤ (q : Int) := by omega
        by_cases hlv : cfT d[q]! d[c]! < 0
        · have HN1 := Lib.hid (show HiC d nn mid c from .inr (by rw [hq]; exact (cfT_neg _ _).1 hlv))
          have HD := Lib.hid (decide_eq_true hlv)
          go_wp2_with fail
          refine wp_region_noPanic ?_
          refine wp_region_H (SWK encT 34 w0 blk off d) (by kernel_rfl) ?_
          have hS0 : (SWK encT 34 w0 blk off d) wr.drew := S1.out.drew
          obtain ⟨wd, hwd⟩ : ∃ wd, wr.drew = wd := ⟨_, rfl⟩
          rw [hwd] at hS0 ⊢
          clear hwd
          refine wpAnyH_takeI (i := 0) (v := ?v29) rfl (by kernel_rfl) (by kernel_rfl) (by kernel_rfl) (fun _ _ _ h => h) (yieldsIf_run rfl (fun w' hw' => ?y29)) hS0 ?_
          case y29 => first | (go_simp; rfl) | (go_simp; done) | rfl
          simp only [Act.put, List.setIfInBounds_toArray, List.set_cons_zero, List.set_cons_succ]
          refine wpAnyH_takeI (i := 1) (v := ?v30) rfl (by kernel_rfl) (by kernel_rfl) (by kernel_rfl) (fun _ _ _ h => h) (yieldsIf_run rfl (fun w' hw' => ?y30)) hS0 ?_
          case y30 => first | (go_simp; rfl) | (go_simp; done) | rfl
          simp only [Act.put, List.setIfInBounds_toArray, List.set_cons_zero, List.set_cons_succ]
          refine wpAnyH_takeI (i := 2) (v := ?v31) rfl (by kernel_rfl) (by kernel_rfl) (by kernel_rfl) (fun _ _ _ h => h) (yieldsIf_run rfl (fun w' hw' => ?y31)) hS0 ?_
          case y31 => first | (go_simp; rfl) | (go_simp; done) | rfl
          simp only [Act.put, List.setIfInBounds_toArray, List.set_cons_zero, List.set_cons_succ]
          refine wpAnyH_takeI (i := 3) (v := ?v32) rfl (by kernel_rfl) (by kernel_rfl) (by kernel_rfl) (fun _ _ _ h => h) (yieldsIf_run rfl (fun w' hw' => ?y32)) hS0 ?_
          case y32 => first | (go_simp; rfl) | (go_simp; done) | rfl
          simp only [Act.put, List.setIfInBounds_toArray, List.set_cons_zero, List.set_cons_succ]
          refine wpAnyH_takeI (i := 4) (v := ?v33) rfl (by kernel_rfl) (by kernel_rfl) (by kernel_rfl) (fun _ _ _ h => h) (yieldsIf_run rfl (fun w' hw' => ?y33)) hS0 ?_
          case y33 => first | (go_simp; rfl) | (go_simp; done) | rfl
          simp only [Act.put, List.setIfInBounds_toArray, List.set_cons_zero, List.set_cons_succ]
          refine wpAnyH_takeI (i := 5) (v := ?v34) rfl (by kernel_rfl) (by kernel_rfl) (by kernel_rfl) (fun _ _ _ h => h) (yieldsIf_run rfl (fun w' hw' => ?y34)) hS0 ?_
          case y34 => first | (go_simp; rfl) | (go_simp; done) | rfl
          simp only [Act.put, List.setIfInBounds_toArray, List.set_cons_zero, List.set_cons_succ]
          refine wpAnyH_takeI (i := 6) (v := .agg (encT d[q]!).toArray) rfl (by kernel_rfl) (by kernel_rfl) (by kernel_rfl) (fun _ _ _ h => h) (yieldsIf_load_mid rfl 44 (.tmp 163) rfl blk (off + q * 34) rfl (encT d[q]!) _ (fun w' hw' => hw'.range R (by omega) (by omega)) Try.underlying44 rfl (sizeEntT _)) hS0 ?_
          simp only [Act.put, List.setIfInBounds_toArray, List.set_cons_zero, List.set_cons_succ]
          refine wpAnyH_takeI (i := 7) (v := ?v35) rfl (by kernel_rfl) (by kernel_rfl) (by kernel_rfl) (fun _ _ _ h => h) (yieldsIf_run rfl (fun w' hw' => ?y35)) hS0 ?_
          case y35 => first | (go_simp; rfl) | (go_simp; done) | rfl
          simp only [Act.put, List.setIfInBounds_toArray, List.set_cons_zero, List.set_cons_succ]
          refine wpAnyH_takeI (i := 8) (v := ?v36) rfl (by kernel_rfl) (by kernel_rfl) (by kernel_rfl) (fun _ _ _ h => h) (yieldsIf_run rfl (fun w' hw' => ?y36)) hS0 ?_
          case y36 => first | (go_simp; rfl) | (go_simp; done) | rfl
          simp only [Act.put, List.setIfInBounds_toArray, List.set_cons_zero, List.set_cons_succ]
          refine wpAnyH_takeI (i := 9) (v := ?v37) rfl (by kernel_rfl) (by kernel_rfl) (by kernel_rfl) (fun _ _ _ h => h) (yieldsIf_run rfl (fun w' hw' => ?y37)) hS0 ?_
          case y37 => first | (go_simp; rfl) | (go_simp; done) | rfl
          simp only [Act.put, List.setIfInBounds_toArray, List.set_cons_zero, List.set_cons_succ]
          refine wpAnyH_takeI (i := 10) (v := .agg (encT d[c]!).toArray) rfl (by kernel_rfl) (by kernel_rfl) (by kernel_rfl) (fun _ _ _ h => h) (yieldsIf_load_mid rfl 44 (.tmp 167) rfl blk (off + c * 34) rfl (encT d[c]!) _ (fun w' hw' => hw'.range R (by omega) (by omega)) Try.underlying44 rfl (sizeEntT _)) hS0 ?_
          simp only [Act.put, List.setIfInBounds_toArray, List.set_cons_zero, List.set_cons_succ]
          refine wpAnyH_do (i := 11) (by kernel_rfl) rfl rfl (fun K hK => ?_)
          go_simp
          go_at_call 40
          refine (cmpT hS0 _ _).mono ?_
          rintro e wc ⟨rfl, hSc⟩
          refine hK _ _ (hSc) ?_
          clear hK K
          try simp only [Act.put, List.setIfInBounds_toArray, List.set_cons_zero, List.set_cons_succ]
          refine wpAnyH_takeI (i := 12) (v := .bool true) rfl (by kernel_rfl) (by kernel_rfl) (by kernel_rfl) (fun _ _ _ h => h) (yieldsIf_run rfl (fun w' hw' => ?y38)) hSc ?_
          case y38 => (have h99 := HD.out; clear hw'; first | (go_simp; rfl) | (go_simp; done))
          simp only [Act.put, List.setIfInBounds_toArray, List.set_cons_zero, List.set_cons_succ]
          refine wpAnyH_takeI (i := 13) (v := ?v39) rfl (by kernel_rfl) (by kernel_rfl) (by kernel_rfl) (fun _ _ _ h => h) (yieldsIf_run rfl (fun w' hw' => ?y39)) hSc ?_
          case y39 => first | (go_simp; rfl) | (go_simp; done) | rfl
          simp only [Act.put, List.setIfInBounds_toArray, List.set_cons_zero, List.set_cons_succ]
          refine wpAnyH_done (by kernel_rfl) ?_ _
          refine NoPanic.normal ?_
          have S2 := Lib.hid hSc
          clear hS0 hSc
          go_wp2_with fail
          clear hlv HD
          go_roundw
          case rel => exact ⟨s, c, hsl, by omega, by omega, rfl, rfl, S2, HI, HN1⟩
          case measure => simp [intOf]; omega
        · have HN1 := Lib.hid (show LoC d nn s0 (c + 1) from .inr (by rw [Nat.add_sub_cancel, show nn - (c + 1) = q by omega]; exact fun hh => hlv ((cfT_neg _ _).2 hh)))
          have HD := Lib.hid (decide_eq_false hlv)
          go_wp2_with fail
          refine wp_region_noPanic ?_
          refine wp_region_H (SWK encT 34 w0 blk off d) (by kernel_rfl) ?_
          have hS0 : (SWK encT 34 w0 blk off d) wr.drew := S1.out.drew
          obtain ⟨wd, hwd⟩ : ∃ wd, wr.drew = wd := ⟨_, rfl⟩
          rw [hwd] at hS0 ⊢
          clear hwd
          refine wpAnyH_takeI (i := 0) (v := ?v40) rfl (by kernel_rfl) (by kernel_rfl) (by kernel_rfl) (fun _ _ _ h => h) (yieldsIf_run rfl (fun w' hw' => ?y40)) hS0 ?_
          case y40 => first | (go_simp; rfl) | (go_simp; done) | rfl
          simp only [Act.put, List.setIfInBounds_toArray, List.set_cons_zero, List.set_cons_succ]
          refine wpAnyH_takeI (i := 1) (v := ?v41) rfl (by kernel_rfl) (by kernel_rfl) (by kernel_rfl) (fun _ _ _ h => h) (yieldsIf_run rfl (fun w' hw' => ?y41)) hS0 ?_
          case y41 => first | (go_simp; rfl) | (go_simp; done) | rfl
          simp only [Act.put, List.setIfInBounds_toArray, List.set_cons_zero, List.set_cons_succ]
          refine wpAnyH_takeI (i := 2) (v := ?v42) rfl (by kernel_rfl) (by kernel_rfl) (by kernel_rfl) (fun _ _ _ h => h) (yieldsIf_run rfl (fun w' hw' => ?y42)) hS0 ?_
          case y42 => first | (go_simp; rfl) | (go_simp; done) | rfl
          simp only [Act.put, List.setIfInBounds_toArray, List.set_cons_zero, List.set_cons_succ]
          refine wpAnyH_takeI (i := 3) (v := ?v43) rfl (by kernel_rfl) (by kernel_rfl) (by kernel_rfl) (fun _ _ _ h => h) (yieldsIf_run rfl (fun w' hw' => ?y43)) hS0 ?_
          case y43 => first | (go_simp; rfl) | (go_simp; done) | rfl
          simp only [Act.put, List.setIfInBounds_toArray, List.set_cons_zero, List.set_cons_succ]
          refine wpAnyH_takeI (i := 4) (v := ?v44) rfl (by kernel_rfl) (by kernel_rfl) (by kernel_rfl) (fun _ _ _ h => h) (yieldsIf_run rfl (fun w' hw' => ?y44)) hS0 ?_
          case y44 => first | (go_simp; rfl) | (go_simp; done) | rfl
          simp only [Act.put, List.setIfInBounds_toArray, List.set_cons_zero, List.set_cons_succ]
          refine wpAnyH_takeI (i := 5) (v := ?v45) rfl (by kernel_rfl) (by kernel_rfl) (by kernel_rfl) (fun _ _ _ h => h) (yieldsIf_run rfl (fun w' hw' => ?y45)) hS0 ?_
          case y45 => first | (go_simp; rfl) | (go_simp; done) | rfl
          simp only [Act.put, List.setIfInBounds_toArray, List.set_cons_zero, List.set_cons_succ]
          refine wpAnyH_takeI (i := 6) (v := .agg (encT d[q]!).toArray) rfl (by kernel_rfl) (by kernel_rfl) (by kernel_rfl) (fun _ _ _ h => h) (yieldsIf_load_mid rfl 44 (.tmp 163) rfl blk (off + q * 34) rfl (encT d[q]!) _ (fun w' hw' => hw'.range R (by omega) (by omega)) Try.underlying44 rfl (sizeEntT _)) hS0 ?_
          simp only [Act.put, List.setIfInBounds_toArray, List.set_cons_zero, List.set_cons_succ]
          refine wpAnyH_takeI (i := 7) (v := ?v46) rfl (by kernel_rfl) (by kernel_rfl) (by kernel_rfl) (fun _ _ _ h => h) (yieldsIf_run rfl (fun w' hw' => ?y46)) hS0 ?_
          case y46 => first | (go_simp; rfl) | (go_simp; done) | rfl
          simp only [Act.put, List.setIfInBounds_toArray, List.set_cons_zero, List.set_cons_succ]
          refine wpAnyH_takeI (i := 8) (v := ?v47) rfl (by kernel_rfl) (by kernel_rfl) (by kernel_rfl) (fun _ _ _ h => h) (yieldsIf_run rfl (fun w' hw' => ?y47)) hS0 ?_
          case y47 => first | (go_simp; rfl) | (go_simp; done) | rfl
          simp only [Act.put, List.setIfInBounds_toArray, List.set_cons_zero, List.set_cons_succ]
          refine wpAnyH_takeI (i := 9) (v := ?v48) rfl (by kernel_rfl) (by kernel_rfl) (by kernel_rfl) (fun _ _ _ h => h) (yieldsIf_run rfl (fun w' hw' => ?y48)) hS0 ?_
          case y48 => first | (go_simp; rfl) | (go_simp; done) | rfl
          simp only [Act.put, List.setIfInBounds_toArray, List.set_cons_zero, List.set_cons_succ]
          refine wpAnyH_takeI (i := 10) (v := .agg (encT d[c]!).toArray) rfl (by kernel_rfl) (by kernel_rfl) (by kernel_rfl) (fun _ _ _ h => h) (yieldsIf_load_mid rfl 44 (.tmp 167) rfl blk (off + c * 34) rfl (encT d[c]!) _ (fun w' hw' => hw'.range R (by omega) (by omega)) Try.underlying44 rfl (sizeEntT _)) hS0 ?_
          simp only [Act.put, List.setIfInBounds_toArray, List.set_cons_zero, List.set_cons_succ]
          refine wpAnyH_do (i := 11) (by kernel_rfl) rfl rfl (fun K hK => ?_)
          go_simp
          go_at_call 40
          refine (cmpT hS0 _ _).mono ?_
          rintro e wc ⟨rfl, hSc⟩
          refine hK _ _ (hSc) ?_
          clear hK K
          try simp only [Act.put, List.setIfInBounds_toArray, List.set_cons_zero, List.set_cons_succ]
          refine wpAnyH_takeI (i := 12) (v := .bool false) rfl (by kernel_rfl) (by kernel_rfl) (by kernel_rfl) (fun _ _ _ h => h) (yieldsIf_run rfl (fun w' hw' => ?y49)) hSc ?_
          case y49 => (have h99 := HD.out; clear hw'; first | (go_simp; rfl) | (go_simp; done))
          simp only [Act.put, List.setIfInBounds_toArray, List.set_cons_zero, List.set_cons_succ]
          refine wpAnyH_takeI (i := 13) (v := ?v50) rfl (by kernel_rfl) (by kernel_rfl) (by kernel_rfl) (fun _ _ _ h => h) (yieldsIf_run rfl (fun w' hw' => ?y50)) hSc ?_
          case y50 => first | (go_simp; rfl) | (go_simp; done) | rfl
          simp only [Act.put, List.setIfInBounds_toArray, List.set_cons_zero, List.set_cons_succ]
          refine wpAnyH_done (by kernel_rfl) ?_ _
          refine NoPanic.normal ?_
          have S2 := Lib.hid hSc
          clear hS0 hSc
          go_wp2_with fail
          clear hlv HD
          go_roundw
          case rel => exact ⟨c + 1, r, by omega, by omega, hrr, by go_num, rfl, S2, HN1, HJ⟩
          case measure => simp [intOf]; omega
      · obtain rfl : s = r := by omega
        have hltI : ¬ (s : Int) < (s : Int) := by omega
        obtain ⟨e, he⟩ : ∃ e, nn - s = e := ⟨_, rfl⟩
        have hw4 : IntKind.i64.wrap ((nn : Int) - (s : Int)) = (e : Int) := (IntWalk.i64_in _ (by omega)).trans (by omega)
        have hme : m ≤ e := by omega
        have heb : e ≤ b := by omega
        have hmd : s + (e - m) = mid := by omega
        have hlo : s = a ∨ e = b ∨ ¬ d[e]!.1.arr < d[s - 1]!.1.arr := by
          rcases HI.out with h | h
          · rcases (show s = a ∨ e = b by omega) with h2 | h2
            · exact .inl h2
            · exact .inr (.inl h2)
          · rw [he] at h; exact .inr (.inr h)
        have hhi : s = m ∨ e = m ∨ d[e - 1]!.1.arr < d[s]!.1.arr := by
          rcases HJ.out with h | h
          · rcases (show s = m ∨ e = m by omega) with h2 | h2
            · exact .inl h2
            · exact .inr (.inl h2)
          · rw [show nn - 1 - s = e - 1 by omega] at h; exact .inr (.inr h)
        have hmr := fun (d2 : Array TA) (hv : ∀ k, d2[k]! = d[rotI s m e k]!) => merge_rot HP.out (by omega) (by omega) hme heb hv hlo hhi
        rw [hmd] at hmr
        have HMR := Lib.hid hmr
        clear hlo hhi hmr HI HJ hltI hlt
        by_cases q0 : s < m ∧ m < e
        · have q0a : (s : Int) < (m : Int) := by omega
          have q0b : (m : Int) < (e : Int) := by omega
          have hcr := rotate_any R (by omega) S1.out s m e (by omega) (by omega) (by omega) (by omega) (.func (.func 40) #[] #[]) (cap := cap)
          rw [hN] at hcr
          have HCR := Lib.hid hcr
          clear hcr
          go_wp2_with fail
          refine HCR.out.mono ?_
          rintro e3 w3 ⟨rfl, d2, S4, hv2⟩
          have S4 := Lib.hid S4
          have HQ := Lib.hid (HMR.out d2 hv2.1)
          have HP2 := Lib.hid (permIn_mono _ _ _ _ a b (by omega) heb (by omega) hv2.2)
          clear hv2 HCR
          have hz2 := HP2.out.1
          by_cases q1 : a < s ∧ s < mid
          · have q1a : (a : Int) < (s : Int) := by omega
            have q1b : (s : Int) < (mid : Int) := by omega
            have hcr := IH.out.ok R (by omega) S4.out a s mid (by omega) (by omega) (by omega) (by omega) HQ.out.1 (cap := cap) (by omega)
            rw [show d2.size = N by omega] at hcr
            have HCR := Lib.hid hcr
            clear hcr
            go_wp2_with fail
            refine HCR.out.mono ?_
            rintro e4 w4 ⟨rfl, d3, S5, s3, p3⟩
            have S5 := Lib.hid S5
            have HS3 := Lib.hid s3
            have HP3 := Lib.hid p3
            clear s3 p3 HCR
            have HPR := Lib.hid (pre_keep HQ.out.2.1 HP3.out (by omega))
            have hz3 := HP3.out.1
            by_cases q2 : mid < e ∧ e < b
            · have q2a : (mid : Int) < (e : Int) := by omega
              have q2b : (e : Int) < (b : Int) := by omega
              have hcr := IH.out.ok R (by omega) S5.out mid e b (by omega) (by omega) (by omega) (by omega) HPR.out (cap := cap) (by omega)
              rw [show d3.size = N by omega] at hcr
              have HCR := Lib.hid hcr
              clear hcr
              go_wp2_with fail
              refine HCR.out.mono ?_
              rintro e5 w5 ⟨rfl, d4, S6, s4, p4⟩
              have HE := Lib.hid (merge_done (by omega) (by omega) (by omega) HQ.out.2.2 HP3.out HS3.out p4 s4)
              have HPE := Lib.hid (permIn_trans _ _ _ _ _ (permIn_trans _ _ _ _ _ HP2.out (permIn_mono _ _ _ _ _ _ (Nat.le_refl _) (by omega) (by omega) HP3.out)) (permIn_mono _ _ _ _ a b (by omega) (Nat.le_refl _) (by omega) p4))
              have S6 := Lib.hid S6
              clear s4 p4
              go_wp2_with fail
              go_end0
              exact ⟨rfl, d4, S6.out, HE.out, HPE.out⟩
            · have HE := Lib.hid (merge_done (by omega) (by omega) (by omega) HQ.out.2.2 HP3.out HS3.out (permIn_refl _ _ _) (srt_half HPR.out (by omega) (by omega) (by omega)))
              have HPE := Lib.hid (permIn_trans _ _ _ _ _ HP2.out (permIn_mono _ _ _ _ a b (Nat.le_refl _) (by omega) (by omega) HP3.out))
              by_cases q3 : mid < e
              · have q2a : (mid : Int) < (e : Int) := by omega
                have q2b : ¬ (e : Int) < (b : Int) := by omega
                go_wp2_with fail
                go_end0
                exact ⟨rfl, _, S5.out, HE.out, HPE.out⟩
              · have q2a : ¬ (mid : Int) < (e : Int) := by omega
                go_wp2_with fail
                go_end0
                exact ⟨rfl, _, S5.out, HE.out, HPE.out⟩
          · have HS3 := Lib.hid (srt_half HQ.out.1 (by omega) (by omega) (by omega))
            have HP3 := Lib.hid (permIn_refl d2 a mid)
            have S5 := S4
            by_cases q4 : a < s
            · have q1a : (a : Int) < (s : Int) := by omega
              have q1b : ¬ (s : Int) < (mid : Int) := by omega
              have HPR := Lib.hid (pre_keep HQ.out.2.1 HP3.out (by omega))
              have hz3 := HP3.out.1
              by_cases q2 : mid < e ∧ e < b
              · have q2a : (mid : Int) < (e : Int) := by omega
                have q2b : (e : Int) < (b : Int) := by omega
                have hcr := IH.out.ok R (by omega) S5.out mid e b (by omega) (by omega) (by omega) (by omega) HPR.out (cap := cap) (by omega)
                rw [show d2.size = N by omega] at hcr
                have HCR := Lib.hid hcr
                clear hcr
                go_wp2_with fail
              · have HE := Lib.hid (merge_done (by omega) (by omega) (by omega) HQ.out.2.2 HP3.out HS3.out (permIn_refl _ _ _) (srt_half HPR.out (by omega) (by omega) (by omega)))
                have HPE := Lib.hid (permIn_trans _ _ _ _ _ HP2.out (permIn_mono _ _ _ _ a b (Nat.le_refl _) (by omega) (by omega) HP3.out))
                by_cases q3 : mid < e
                · have q2a : (mid : Int) < (e : Int) := by omega
                  have q2b : ¬ (e : Int) < (b : Int) := by omega
                  go_wp2_with fail
                · have q2a : ¬ (mid : Int) < (e : Int) := by omega
                  go_wp2_with fail
            · have q1a : ¬ (a : Int) < (s : Int) := by omega
              have HPR := Lib.hid (pre_keep HQ.out.2.1 HP3.out (by omega))
              have hz3 := HP3.out.1
              by_cases q2 : mid < e ∧ e < b
              · have q2a : (mid : Int) < (e : Int) := by omega
                have q2b : (e : Int) < (b : Int) := by omega
                have hcr := IH.out.ok R (by omega) S5.out mid e b (by omega) (by omega) (by omega) (by omega) HPR.out (cap := cap) (by omega)
                rw [show d2.size = N by omega] at hcr
                have HCR := Lib.hid hcr
                clear hcr
                go_wp2_with fail
                refine HCR.out.mono ?_
                rintro e5 w5 ⟨rfl, d4, S6, s4, p4⟩
                have HE := Lib.hid (merge_done (by omega) (by omega) (by omega) HQ.out.2.2 HP3.out HS3.out p4 s4)
                have HPE := Lib.hid (permIn_trans _ _ _ _ _ (permIn_trans _ _ _ _ _ HP2.out (permIn_mono _ _ _ _ _ _ (Nat.le_refl _) (by omega) (by omega) HP3.out)) (permIn_mono _ _ _ _ a b (by omega) (Nat.le_refl _) (by omega) p4))
                have S6 := Lib.hid S6
                clear s4 p4
                go_wp2_with fail
                go_end0
                exact ⟨rfl, d4, S6.out, HE.out, HPE.out⟩
              · have HE := Lib.hid (merge_done (by omega) (by omega) (by omega) HQ.out.2.2 HP3.out HS3.out (permIn_refl _ _ _) (srt_half HPR.out (by omega) (by omega) (by omega)))
                have HPE := Lib.hid (permIn_trans _ _ _ _ _ HP2.out (permIn_mono _ _ _ _ a b (Nat.le_refl _) (by omega) (by omega) HP3.out))
                by_cases q3 : mid < e
                · have q2a : (mid : Int) < (e : Int) := by omega
                  have q2b : ¬ (e : Int) < (b : Int) := by omega
                  go_wp2_with fail
                  go_end0
                  exact ⟨rfl, _, S5.out, HE.out, HPE.out⟩
                · have q2a : ¬ (mid : Int) < (e : Int) := by omega
                  go_wp2_with fail
                  go_end0
                  exact ⟨rfl, _, S5.out, HE.out, HPE.out⟩
        · have HQ := Lib.hid (HMR.out d (fun k => by rw [rotI_id (by omega) (by omega) hme]))
          have HP2 := Lib.hid (permIn_refl d a b)
          have S4 := S1
          by_cases q5 : s < m
          · have q0a : (s : Int) < (m : Int) := by omega
            have q0b : ¬ (m : Int) < (e : Int) := by omega
            have hz2 := HP2.out.1
            by_cases q1 : a < s ∧ s < mid
            · have q1a : (a : Int) < (s : Int) := by omega
              have q1b : (s : Int) < (mid : Int) := by omega
              have hcr := IH.out.ok R (by omega) S4.out a s mid (by omega) (by omega) (by omega) (by omega) HQ.out.1 (cap := cap) (by omega)
              rw [show d.size = N by omega] at hcr
              have HCR := Lib.hid hcr
              clear hcr
              go_wp2_with fail
              refine HCR.out.mono ?_
              rintro e4 w4 ⟨rfl, d3, S5, s3, p3⟩
              have S5 := Lib.hid S5
              have HS3 := Lib.hid s3
              have HP3 := Lib.hid p3
              clear s3 p3 HCR
              have HPR := Lib.hid (pre_keep HQ.out.2.1 HP3.out (by omega))
              have hz3 := HP3.out.1
              by_cases q2 : mid < e ∧ e < b
              · have q2a : (mid : Int) < (e : Int) := by omega
                have q2b : (e : Int) < (b : Int) := by omega
                have hcr := IH.out.ok R (by omega) S5.out mid e b (by omega) (by omega) (by omega) (by omega) HPR.out (cap := cap) (by omega)
                rw [show d3.size = N by omega] at hcr
                have HCR := Lib.hid hcr
                clear hcr
                go_wp2_with fail
                refine HCR.out.mono ?_
                rintro e5 w5 ⟨rfl, d4, S6, s4, p4⟩
                have HE := Lib.hid (merge_done (by omega) (by omega) (by omega) HQ.out.2.2 HP3.out HS3.out p4 s4)
                have HPE := Lib.hid (permIn_trans _ _ _ _ _ (permIn_trans _ _ _ _ _ HP2.out (permIn_mono _ _ _ _ _ _ (Nat.le_refl _) (by omega) (by omega) HP3.out)) (permIn_mono _ _ _ _ a b (by omega) (Nat.le_refl _) (by omega) p4))
                have S6 := Lib.hid S6
                clear s4 p4
                go_wp2_with fail
                go_end0
                exact ⟨rfl, d4, S6.out, HE.out, HPE.out⟩
              · have HE := Lib.hid (merge_done (by omega) (by omega) (by omega) HQ.out.2.2 HP3.out HS3.out (permIn_refl _ _ _) (srt_half HPR.out (by omega) (by omega) (by omega)))
                have HPE := Lib.hid (permIn_trans _ _ _ _ _ HP2.out (permIn_mono _ _ _ _ a b (Nat.le_refl _) (by omega) (by omega) HP3.out))
                by_cases q3 : mid < e
                · have q2a : (mid : Int) < (e : Int) := by omega
                  have q2b : ¬ (e : Int) < (b : Int) := by omega
                  go_wp2_with fail
                · have q2a : ¬ (mid : Int) < (e : Int) := by omega
                  go_wp2_with fail
                  go_end0
                  exact ⟨rfl, _, S5.out, HE.out, HPE.out⟩
            · have HS3 := Lib.hid (srt_half HQ.out.1 (by omega) (by omega) (by omega))
              have HP3 := Lib.hid (permIn_refl d a mid)
              have S5 := S4
              by_cases q4 : a < s
              · have q1a : (a : Int) < (s : Int) := by omega
                have q1b : ¬ (s : Int) < (mid : Int) := by omega
                have HPR := Lib.hid (pre_keep HQ.out.2.1 HP3.out (by omega))
                have hz3 := HP3.out.1
                by_cases q2 : mid < e ∧ e < b
                · have q2a : (mid : Int) < (e : Int) := by omega
                  have q2b : (e : Int) < (b : Int) := by omega
                  have hcr := IH.out.ok R (by omega) S5.out mid e b (by omega) (by omega) (by omega) (by omega) HPR.out (cap := cap) (by omega)
                  rw [show d.size = N by omega] at hcr
                  have HCR := Lib.hid hcr
                  clear hcr
                  go_wp2_with fail
                  refine HCR.out.mono ?_
                  rintro e5 w5 ⟨rfl, d4, S6, s4, p4⟩
                  have HE := Lib.hid (merge_done (by omega) (by omega) (by omega) HQ.out.2.2 HP3.out HS3.out p4 s4)
                  have HPE := Lib.hid (permIn_trans _ _ _ _ _ (permIn_trans _ _ _ _ _ HP2.out (permIn_mono _ _ _ _ _ _ (Nat.le_refl _) (by omega) (by omega) HP3.out)) (permIn_mono _ _ _ _ a b (by omega) (Nat.le_refl _) (by omega) p4))
                  have S6 := Lib.hid S6
                  clear s4 p4
                  go_wp2_with fail
                  go_end0
                  exact ⟨rfl, d4, S6.out, HE.out, HPE.out⟩
                · have HE := Lib.hid (merge_done (by omega) (by omega) (by omega) HQ.out.2.2 HP3.out HS3.out (permIn_refl _ _ _) (srt_half HPR.out (by omega) (by omega) (by omega)))
                  have HPE := Lib.hid (permIn_trans _ _ _ _ _ HP2.out (permIn_mono _ _ _ _ a b (Nat.le_refl _) (by omega) (by omega) HP3.out))
                  by_cases q3 : mid < e
                  · have q2a : (mid : Int) < (e : Int) := by omega
                    have q2b : ¬ (e : Int) < (b : Int) := by omega
                    go_wp2_with fail
                    go_end0
                    exact ⟨rfl, _, S5.out, HE.out, HPE.out⟩
                  · have q2a : ¬ (mid : Int) < (e : Int) := by omega
                    go_wp2_with fail
                    go_end0
                    exact ⟨rfl, _, S5.out, HE.out, HPE.out⟩
              · have q1a : ¬ (a : Int) < (s : Int) := by omega
                have HPR := Lib.hid (pre_keep HQ.out.2.1 HP3.out (by omega))
                have hz3 := HP3.out.1
                by_cases q2 : mid < e ∧ e < b
                · have q2a : (mid : Int) < (e : Int) := by omega
                  have q2b : (e : Int) < (b : Int) := by omega
                  have hcr := IH.out.ok R (by omega) S5.out mid e b (by omega) (by omega) (by omega) (by omega) HPR.out (cap := cap) (by omega)
                  rw [show d.size = N by omega] at hcr
                  have HCR := Lib.hid hcr
                  clear hcr
                  go_wp2_with fail
                  refine HCR.out.mono ?_
                  rintro e5 w5 ⟨rfl, d4, S6, s4, p4⟩
                  have HE := Lib.hid (merge_done (by omega) (by omega) (by omega) HQ.out.2.2 HP3.out HS3.out p4 s4)
                  have HPE := Lib.hid (permIn_trans _ _ _ _ _ (permIn_trans _ _ _ _ _ HP2.out (permIn_mono _ _ _ _ _ _ (Nat.le_refl _) (by omega) (by omega) HP3.out)) (permIn_mono _ _ _ _ a b (by omega) (Nat.le_refl _) (by omega) p4))
                  have S6 := Lib.hid S6
                  clear s4 p4
                  go_wp2_with fail
                  go_end0
                  exact ⟨rfl, d4, S6.out, HE.out, HPE.out⟩
                · have HE := Lib.hid (merge_done (by omega) (by omega) (by omega) HQ.out.2.2 HP3.out HS3.out (permIn_refl _ _ _) (srt_half HPR.out (by omega) (by omega) (by omega)))
                  have HPE := Lib.hid (permIn_trans _ _ _ _ _ HP2.out (permIn_mono _ _ _ _ a b (Nat.le_refl _) (by omega) (by omega) HP3.out))
                  by_cases q3 : mid < e
                  · have q2a : (mid : Int) < (e : Int) := by omega
                    have q2b : ¬ (e : Int) < (b : Int) := by omega
                    go_wp2_with fail
                    go_end0
                    exact ⟨rfl, _, S5.out, HE.out, HPE.out⟩
                  · have q2a : ¬ (mid : Int) < (e : Int) := by omega
                    go_wp2_with fail
                    go_end0
                    exact ⟨rfl, _, S5.out, HE.out, HPE.out⟩
          · have q0a : ¬ (s : Int) < (m : Int) := by omega
            have hz2 := HP2.out.1
            by_cases q1 : a < s ∧ s < mid
            · have q1a : (a : Int) < (s : Int) := by omega
              have q1b : (s : Int) < (mid : Int) := by omega
              have hcr := IH.out.ok R (by omega) S4.out a s mid (by omega) (by omega) (by omega) (by omega) HQ.out.1 (cap := cap) (by omega)
              rw [show d.size = N by omega] at hcr
              have HCR := Lib.hid hcr
              clear hcr
              go_wp2_with fail
              refine HCR.out.mono ?_
              rintro e4 w4 ⟨rfl, d3, S5, s3, p3⟩
              have S5 := Lib.hid S5
              have HS3 := Lib.hid s3
              have HP3 := Lib.hid p3
              clear s3 p3 HCR
              have HPR := Lib.hid (pre_keep HQ.out.2.1 HP3.out (by omega))
              have hz3 := HP3.out.1
              by_cases q2 : mid < e ∧ e < b
              · have q2a : (mid : Int) < (e : Int) := by omega
                have q2b : (e : Int) < (b : Int) := by omega
                have hcr := IH.out.ok R (by omega) S5.out mid e b (by omega) (by omega) (by omega) (by omega) HPR.out (cap := cap) (by omega)
                rw [show d3.size = N by omega] at hcr
                have HCR := Lib.hid hcr
                clear hcr
                go_wp2_with fail
                refine HCR.out.mono ?_
                rintro e5 w5 ⟨rfl, d4, S6, s4, p4⟩
                have HE := Lib.hid (merge_done (by omega) (by omega) (by omega) HQ.out.2.2 HP3.out HS3.out p4 s4)
                have HPE := Lib.hid (permIn_trans _ _ _ _ _ (permIn_trans _ _ _ _ _ HP2.out (permIn_mono _ _ _ _ _ _ (Nat.le_refl _) (by omega) (by omega) HP3.out)) (permIn_mono _ _ _ _ a b (by omega) (Nat.le_refl _) (by omega) p4))
                have S6 := Lib.hid S6
                clear s4 p4
                go_wp2_with fail
                go_end0
                exact ⟨rfl, d4, S6.out, HE.out, HPE.out⟩
              · have HE := Lib.hid (merge_done (by omega) (by omega) (by omega) HQ.out.2.2 HP3.out HS3.out (permIn_refl _ _ _) (srt_half HPR.out (by omega) (by omega) (by omega)))
                have HPE := Lib.hid (permIn_trans _ _ _ _ _ HP2.out (permIn_mono _ _ _ _ a b (Nat.le_refl _) (by omega) (by omega) HP3.out))
                by_cases q3 : mid < e
                · have q2a : (mid : Int) < (e : Int) := by omega
                  have q2b : ¬ (e : Int) < (b : Int) := by omega
                  go_wp2_with fail
                · have q2a : ¬ (mid : Int) < (e : Int) := by omega
                  go_wp2_with fail
                  go_end0
                  exact ⟨rfl, _, S5.out, HE.out, HPE.out⟩
            · have HS3 := Lib.hid (srt_half HQ.out.1 (by omega) (by omega) (by omega))
              have HP3 := Lib.hid (permIn_refl d a mid)
              have S5 := S4
              by_cases q4 : a < s
              · have q1a : (a : Int) < (s : Int) := by omega
                have q1b : ¬ (s : Int) < (mid : Int) := by omega
                have HPR := Lib.hid (pre_keep HQ.out.2.1 HP3.out (by omega))
                have hz3 := HP3.out.1
                by_cases q2 : mid < e ∧ e < b
                · have q2a : (mid : Int) < (e : Int) := by omega
                  have q2b : (e : Int) < (b : Int) := by omega
                  have hcr := IH.out.ok R (by omega) S5.out mid e b (by omega) (by omega) (by omega) (by omega) HPR.out (cap := cap) (by omega)
                  rw [show d.size = N by omega] at hcr
                  have HCR := Lib.hid hcr
                  clear hcr
                  go_wp2_with fail
                  refine HCR.out.mono ?_
                  rintro e5 w5 ⟨rfl, d4, S6, s4, p4⟩
                  have HE := Lib.hid (merge_done (by omega) (by omega) (by omega) HQ.out.2.2 HP3.out HS3.out p4 s4)
                  have HPE := Lib.hid (permIn_trans _ _ _ _ _ (permIn_trans _ _ _ _ _ HP2.out (permIn_mono _ _ _ _ _ _ (Nat.le_refl _) (by omega) (by omega) HP3.out)) (permIn_mono _ _ _ _ a b (by omega) (Nat.le_refl _) (by omega) p4))
                  have S6 := Lib.hid S6
                  clear s4 p4
                  go_wp2_with fail
                  go_end0
                  exact ⟨rfl, d4, S6.out, HE.out, HPE.out⟩
                · have HE := Lib.hid (merge_done (by omega) (by omega) (by omega) HQ.out.2.2 HP3.out HS3.out (permIn_refl _ _ _) (srt_half HPR.out (by omega) (by omega) (by omega)))
                  have HPE := Lib.hid (permIn_trans _ _ _ _ _ HP2.out (permIn_mono _ _ _ _ a b (Nat.le_refl _) (by omega) (by omega) HP3.out))
                  by_cases q3 : mid < e
                  · have q2a : (mid : Int) < (e : Int) := by omega
                    have q2b : ¬ (e : Int) < (b : Int) := by omega
                    go_wp2_with fail
                    go_end0
                    exact ⟨rfl, _, S5.out, HE.out, HPE.out⟩
                  · have q2a : ¬ (mid : Int) < (e : Int) := by omega
                    go_wp2_with fail
                    go_end0
                    exact ⟨rfl, _, S5.out, HE.out, HPE.out⟩
              · have q1a : ¬ (a : Int) < (s : Int) := by omega
                have HPR := Lib.hid (pre_keep HQ.out.2.1 HP3.out (by omega))
                have hz3 := HP3.out.1
                by_cases q2 : mid < e ∧ e < b
                · have q2a : (mid : Int) < (e : Int) := by omega
                  have q2b : (e : Int) < (b : Int) := by omega
                  have hcr := IH.out.ok R (by omega) S5.out mid e b (by omega) (by omega) (by omega) (by omega) HPR.out (cap := cap) (by omega)
                  rw [show d.size = N by omega] at hcr
                  have HCR := Lib.hid hcr
                  clear hcr
                  go_wp2_with fail
                  refine HCR.out.mono ?_
                  rintro e5 w5 ⟨rfl, d4, S6, s4, p4⟩
                  have HE := Lib.hid (merge_done (by omega) (by omega) (by omega) HQ.out.2.2 HP3.out HS3.out p4 s4)
                  have HPE := Lib.hid (permIn_trans _ _ _ _ _ (permIn_trans _ _ _ _ _ HP2.out (permIn_mono _ _ _ _ _ _ (Nat.le_refl _) (by omega) (by omega) HP3.out)) (permIn_mono _ _ _ _ a b (by omega) (Nat.le_refl _) (by omega) p4))
                  have S6 := Lib.hid S6
                  clear s4 p4
                  go_wp2_with fail
                  go_end0
                  exact ⟨rfl, d4, S6.out, HE.out, HPE.out⟩
                · have HE := Lib.hid (merge_done (by omega) (by omega) (by omega) HQ.out.2.2 HP3.out HS3.out (permIn_refl _ _ _) (srt_half HPR.out (by omega) (by omega) (by omega)))
                  have HPE := Lib.hid (permIn_trans _ _ _ _ _ HP2.out (permIn_mono _ _ _ _ a b (Nat.le_refl _) (by omega) (by omega) HP3.out))
                  by_cases q3 : mid < e
                  · have q2a : (mid : Int) < (e : Int) := by omega
                    have q2b : ¬ (e : Int) < (b : Int) := by omega
                    go_wp2_with fail
                    go_end0
                    exact ⟨rfl, _, S5.out, HE.out, HPE.out⟩
                  · have q2a : ¬ (mid : Int) < (e : Int) := by omega
                    go_wp2_with fail
                    go_end0
                    exact ⟨rfl, _, S5.out, HE.out, HPE.out⟩
  · have hcI : ¬ (mid : Int) < (m : Int) := by omega
    go_wp2_with fail
    go_loopw [20, 21] (fun iv jv wr => ∃ (s r : Nat), a ≤ s ∧ s ≤ r ∧ r ≤ m ∧ iv = .int .i64 (s : Int) ∧ jv = .int .i64 (r : Int) ∧ Hid (SWK encT 34 w0 blk off d wr) ∧ Hid (LoC d nn a s) ∧ Hid (HiC d nn m r)) (fun iv jv _ => (intOf jv).toNat - (intOf iv).toNat)
    case atStart => exact ⟨a, m, Nat.le_refl _, by omega, Nat.le_refl _, rfl, rfl, S0, Lib.hid (.inl rfl), Lib.hid (.inl rfl)⟩
    case round =>
      clear S0
      obtain ⟨s, r, hsl, hsr, hrr, rfl, rfl, S1, HI, HJ⟩ := hrel
      by_cases hlt : s < r
      · have hltI : (s : Int) < (r : Int) := by omega
        obtain ⟨c, hh⟩ : ∃ c, (s + r) / 2 = c := ⟨_, rfl⟩
        have hhI : ((s : Int) + (r : Int)) / 2 = (c : Int) := by omega
        have hw1 : IntKind.i64.wrap ((s : Int) + (r : Int)) = (s : Int) + (r : Int) := IntWalk.i64_in _ (by omega)
        have hw2 : IntKind.i64.wrap ((c : Int) + 1) = (c : Int) + 1 := IntWalk.i64_in _ (by omega)
        obtain ⟨q, hq⟩ : ∃ q, nn - 1 - c = q := ⟨_, rfl⟩
        have hw3 : IntKind.i64.wrap ((p : Int) - (c : Int)) = (q : Int) := (IntWalk.i64_in _ (by omega)).trans (by omega)
        have bcI : (c : Int) < (N : Int) := by omega
        have bc0 : (0 : Int) ≤ (c : Int) := by omega
        have bqI : (q : Int) < (N : Int) := by omega
        have bq0 : (0 : Int) ≤ (q : Int) := by omega
        by_cases hlv : cfT d[q]! d[c]! < 0
        · have HN1 := Lib.hid (show HiC d nn m c from .inr (by rw [hq]; exact (cfT_neg _ _).1 hlv))
          have HD := Lib.hid (decide_eq_true hlv)
          go_wp2_with fail
          refine wp_region_noPanic ?_
          refine wp_region_H (SWK encT 34 w0 blk off d) (by kernel_rfl) ?_
          have hS0 : (SWK encT 34 w0 blk off d) wr.drew := S1.out.drew
          obtain ⟨wd, hwd⟩ : ∃ wd, wr.drew = wd := ⟨_, rfl⟩
          rw [hwd] at hS0 ⊢
          clear hwd
          refine wpAnyH_takeI (i := 0) (v := ?v51) rfl (by kernel_rfl) (by kernel_rfl) (by kernel_rfl) (fun _ _ _ h => h) (yieldsIf_run rfl (fun w' hw' => ?y51)) hS0 ?_
          case y51 => first | (go_simp; rfl) | (go_simp; done) | rfl
          simp only [Act.put, List.setIfInBounds_toArray, List.set_cons_zero, List.set_cons_succ]
          refine wpAnyH_takeI (i := 1) (v := ?v52) rfl (by kernel_rfl) (by kernel_rfl) (by kernel_rfl) (fun _ _ _ h => h) (yieldsIf_run rfl (fun w' hw' => ?y52)) hS0 ?_
          case y52 => first | (go_simp; rfl) | (go_simp; done) | rfl
          simp only [Act.put, List.setIfInBounds_toArray, List.set_cons_zero, List.set_cons_succ]
          refine wpAnyH_takeI (i := 2) (v := ?v53) rfl (by kernel_rfl) (by kernel_rfl) (by kernel_rfl) (fun _ _ _ h => h) (yieldsIf_run rfl (fun w' hw' => ?y53)) hS0 ?_
          case y53 => first | (go_simp; rfl) | (go_simp; done) | rfl
          simp only [Act.put, List.setIfInBounds_toArray, List.set_cons_zero, List.set_cons_succ]
          refine wpAnyH_takeI (i := 3) (v := ?v54) rfl (by kernel_rfl) (by kernel_rfl) (by kernel_rfl) (fun _ _ _ h => h) (yieldsIf_run rfl (fun w' hw' => ?y54)) hS0 ?_
          case y54 => first | (go_simp; rfl) | (go_simp; done) | rfl
          simp only [Act.put, List.setIfInBounds_toArray, List.set_cons_zero, List.set_cons_succ]
          refine wpAnyH_takeI (i := 4) (v := ?v55) rfl (by kernel_rfl) (by kernel_rfl) (by kernel_rfl) (fun _ _ _ h => h) (yieldsIf_run rfl (fun w' hw' => ?y55)) hS0 ?_
          case y55 => first | (go_simp; rfl) | (go_simp; done) | rfl
          simp only [Act.put, List.setIfInBounds_toArray, List.set_cons_zero, List.set_cons_succ]
          refine wpAnyH_takeI (i := 5) (v := ?v56) rfl (by kernel_rfl) (by kernel_rfl) (by kernel_rfl) (fun _ _ _ h => h) (yieldsIf_run rfl (fun w' hw' => ?y56)) hS0 ?_
          case y56 => first | (go_simp; rfl) | (go_simp; done) | rfl
          simp only [Act.put, List.setIfInBounds_toArray, List.set_cons_zero, List.set_cons_succ]
          refine wpAnyH_takeI (i := 6) (v := .agg (encT d[q]!).toArray) rfl (by kernel_rfl) (by kernel_rfl) (by kernel_rfl) (fun _ _ _ h => h) (yieldsIf_load_mid rfl 44 (.tmp 163) rfl blk (off + q * 34) rfl (encT d[q]!) _ (fun w' hw' => hw'.range R (by omega) (by omega)) Try.underlying44 rfl (sizeEntT _)) hS0 ?_
          simp only [Act.put, List.setIfInBounds_toArray, List.set_cons_zero, List.set_cons_succ]
          refine wpAnyH_takeI (i := 7) (v := ?v57) rfl (by kernel_rfl) (by kernel_rfl) (by kernel_rfl) (fun _ _ _ h => h) (yieldsIf_run rfl (fun w' hw' => ?y57)) hS0 ?_
          case y57 => first | (go_simp; rfl) | (go_simp; done) | rfl
          simp only [Act.put, List.setIfInBounds_toArray, List.set_cons_zero, List.set_cons_succ]
          refine wpAnyH_takeI (i := 8) (v := ?v58) rfl (by kernel_rfl) (by kernel_rfl) (by kernel_rfl) (fun _ _ _ h => h) (yieldsIf_run rfl (fun w' hw' => ?y58)) hS0 ?_
          case y58 => first | (go_simp; rfl) | (go_simp; done) | rfl
          simp only [Act.put, List.setIfInBounds_toArray, List.set_cons_zero, List.set_cons_succ]
          refine wpAnyH_takeI (i := 9) (v := ?v59) rfl (by kernel_rfl) (by kernel_rfl) (by kernel_rfl) (fun _ _ _ h => h) (yieldsIf_run rfl (fun w' hw' => ?y59)) hS0 ?_
          case y59 => first | (go_simp; rfl) | (go_simp; done) | rfl
          simp only [Act.put, List.setIfInBounds_toArray, List.set_cons_zero, List.set_cons_succ]
          refine wpAnyH_takeI (i := 10) (v := .agg (encT d[c]!).toArray) rfl (by kernel_rfl) (by kernel_rfl) (by kernel_rfl) (fun _ _ _ h => h) (yieldsIf_load_mid rfl 44 (.tmp 167) rfl blk (off + c * 34) rfl (encT d[c]!) _ (fun w' hw' => hw'.range R (by omega) (by omega)) Try.underlying44 rfl (sizeEntT _)) hS0 ?_
          simp only [Act.put, List.setIfInBounds_toArray, List.set_cons_zero, List.set_cons_succ]
          refine wpAnyH_do (i := 11) (by kernel_rfl) rfl rfl (fun K hK => ?_)
          go_simp
          go_at_call 40
          refine (cmpT hS0 _ _).mono ?_
          rintro e wc ⟨rfl, hSc⟩
          refine hK _ _ (hSc) ?_
          clear hK K
          try simp only [Act.put, List.setIfInBounds_toArray, List.set_cons_zero, List.set_cons_succ]
          refine wpAnyH_takeI (i := 12) (v := .bool true) rfl (by kernel_rfl) (by kernel_rfl) (by kernel_rfl) (fun _ _ _ h => h) (yieldsIf_run rfl (fun w' hw' => ?y60)) hSc ?_
          case y60 => (have h99 := HD.out; clear hw'; first | (go_simp; rfl) | (go_simp; done))
          simp only [Act.put, List.setIfInBounds_toArray, List.set_cons_zero, List.set_cons_succ]
          refine wpAnyH_takeI (i := 13) (v := ?v61) rfl (by kernel_rfl) (by kernel_rfl) (by kernel_rfl) (fun _ _ _ h => h) (yieldsIf_run rfl (fun w' hw' => ?y61)) hSc ?_
          case y61 => first | (go_simp; rfl) | (go_simp; done) | rfl
          simp only [Act.put, List.setIfInBounds_toArray, List.set_cons_zero, List.set_cons_succ]
          refine wpAnyH_done (by kernel_rfl) ?_ _
          refine NoPanic.normal ?_
          have S2 := Lib.hid hSc
          clear hS0 hSc
          go_wp2_with fail
          clear hlv HD
          go_roundw
          case rel => exact ⟨s, c, hsl, by omega, by omega, rfl, rfl, S2, HI, HN1⟩
          case measure => simp [intOf]; omega
        · have HN1 := Lib.hid (show LoC d nn a (c + 1) from .inr (by rw [Nat.add_sub_cancel, show nn - (c + 1) = q by omega]; exact fun hh => hlv ((cfT_neg _ _).2 hh)))
          have HD := Lib.hid (decide_eq_false hlv)
          go_wp2_with fail
          refine wp_region_noPanic ?_
          refine wp_region_H (SWK encT 34 w0 blk off d) (by kernel_rfl) ?_
          have hS0 : (SWK encT 34 w0 blk off d) wr.drew := S1.out.drew
          obtain ⟨wd, hwd⟩ : ∃ wd, wr.drew = wd := ⟨_, rfl⟩
          rw [hwd] at hS0 ⊢
          clear hwd
          refine wpAnyH_takeI (i := 0) (v := ?v62) rfl (by kernel_rfl) (by kernel_rfl) (by kernel_rfl) (fun _ _ _ h => h) (yieldsIf_run rfl (fun w' hw' => ?y62)) hS0 ?_
          case y62 => first | (go_simp; rfl) | (go_simp; done) | rfl
          simp only [Act.put, List.setIfInBounds_toArray, List.set_cons_zero, List.set_cons_succ]
          refine wpAnyH_takeI (i := 1) (v := ?v63) rfl (by kernel_rfl) (by kernel_rfl) (by kernel_rfl) (fun _ _ _ h => h) (yieldsIf_run rfl (fun w' hw' => ?y63)) hS0 ?_
          case y63 => first | (go_simp; rfl) | (go_simp; done) | rfl
          simp only [Act.put, List.setIfInBounds_toArray, List.set_cons_zero, List.set_cons_succ]
          refine wpAnyH_takeI (i := 2) (v := ?v64) rfl (by kernel_rfl) (by kernel_rfl) (by kernel_rfl) (fun _ _ _ h => h) (yieldsIf_run rfl (fun w' hw' => ?y64)) hS0 ?_
          case y64 => first | (go_simp; rfl) | (go_simp; done) | rfl
          simp only [Act.put, List.setIfInBounds_toArray, List.set_cons_zero, List.set_cons_succ]
          refine wpAnyH_takeI (i := 3) (v := ?v65) rfl (by kernel_rfl) (by kernel_rfl) (by kernel_rfl) (fun _ _ _ h => h) (yieldsIf_run rfl (fun w' hw' => ?y65)) hS0 ?_
          case y65 => first | (go_simp; rfl) | (go_simp; done) | rfl
          simp only [Act.put, List.setIfInBounds_toArray, List.set_cons_zero, List.set_cons_succ]
          refine wpAnyH_takeI (i := 4) (v := ?v66) rfl (by kernel_rfl) (by kernel_rfl) (by kernel_rfl) (fun _ _ _ h => h) (yieldsIf_run rfl (fun w' hw' => ?y66)) hS0 ?_
          case y66 => first | (go_simp; rfl) | (go_simp; done) | rfl
          simp only [Act.put, List.setIfInBounds_toArray, List.set_cons_zero, List.set_cons_succ]
          refine wpAnyH_takeI (i := 5) (v := ?v67) rfl (by kernel_rfl) (by kernel_rfl) (by kernel_rfl) (fun _ _ _ h => h) (yieldsIf_run rfl (fun w' hw' => ?y67)) hS0 ?_
          case y67 => first | (go_simp; rfl) | (go_simp; done) | rfl
          simp only [Act.put, List.setIfInBounds_toArray, List.set_cons_zero, List.set_cons_succ]
          refine wpAnyH_takeI (i := 6) (v := .agg (encT d[q]!).toArray) rfl (by kernel_rfl) (by kernel_rfl) (by kernel_rfl) (fun _ _ _ h => h) (yieldsIf_load_mid rfl 44 (.tmp 163) rfl blk (off + q * 34) rfl (encT d[q]!) _ (fun w' hw' => hw'.range R (by omega) (by omega)) Try.underlying44 rfl (sizeEntT _)) hS0 ?_
          simp only [Act.put, List.setIfInBounds_toArray, List.set_cons_zero, List.set_cons_succ]
          refine wpAnyH_takeI (i := 7) (v := ?v68) rfl (by kernel_rfl) (by kernel_rfl) (by kernel_rfl) (fun _ _ _ h => h) (yieldsIf_run rfl (fun w' hw' => ?y68)) hS0 ?_
          case y68 => first | (go_simp; rfl) | (go_simp; done) | rfl
          simp only [Act.put, List.setIfInBounds_toArray, List.set_cons_zero, List.set_cons_succ]
          refine wpAnyH_takeI (i := 8) (v := ?v69) rfl (by kernel_rfl) (by kernel_rfl) (by kernel_rfl) (fun _ _ _ h => h) (yieldsIf_run rfl (fun w' hw' => ?y69)) hS0 ?_
          case y69 => first | (go_simp; rfl) | (go_simp; done) | rfl
          simp only [Act.put, List.setIfInBounds_toArray, List.set_cons_zero, List.set_cons_succ]
          refine wpAnyH_takeI (i := 9) (v := ?v70) rfl (by kernel_rfl) (by kernel_rfl) (by kernel_rfl) (fun _ _ _ h => h) (yieldsIf_run rfl (fun w' hw' => ?y70)) hS0 ?_
          case y70 => first | (go_simp; rfl) | (go_simp; done) | rfl
          simp only [Act.put, List.setIfInBounds_toArray, List.set_cons_zero, List.set_cons_succ]
          refine wpAnyH_takeI (i := 10) (v := .agg (encT d[c]!).toArray) rfl (by kernel_rfl) (by kernel_rfl) (by kernel_rfl) (fun _ _ _ h => h) (yieldsIf_load_mid rfl 44 (.tmp 167) rfl blk (off + c * 34) rfl (encT d[c]!) _ (fun w' hw' => hw'.range R (by omega) (by omega)) Try.underlying44 rfl (sizeEntT _)) hS0 ?_
          simp only [Act.put, List.setIfInBounds_toArray, List.set_cons_zero, List.set_cons_succ]
          refine wpAnyH_do (i := 11) (by kernel_rfl) rfl rfl (fun K hK => ?_)
          go_simp
          go_at_call 40
          refine (cmpT hS0 _ _).mono ?_
          rintro e wc ⟨rfl, hSc⟩
          refine hK _ _ (hSc) ?_
          clear hK K
          try simp only [Act.put, List.setIfInBounds_toArray, List.set_cons_zero, List.set_cons_succ]
          refine wpAnyH_takeI (i := 12) (v := .bool false) rfl (by kernel_rfl) (by kernel_rfl) (by kernel_rfl) (fun _ _ _ h => h) (yieldsIf_run rfl (fun w' hw' => ?y71)) hSc ?_
          case y71 => (have h99 := HD.out; clear hw'; first | (go_simp; rfl) | (go_simp; done))
          simp only [Act.put, List.setIfInBounds_toArray, List.set_cons_zero, List.set_cons_succ]
          refine wpAnyH_takeI (i := 13) (v := ?v72) rfl (by kernel_rfl) (by kernel_rfl) (by kernel_rfl) (fun _ _ _ h => h) (yieldsIf_run rfl (fun w' hw' => ?y72)) hSc ?_
          case y72 => first | (go_simp; rfl) | (go_simp; done) | rfl
          simp only [Act.put, List.setIfInBounds_toArray, List.set_cons_zero, List.set_cons_succ]
          refine wpAnyH_done (by kernel_rfl) ?_ _
          refine NoPanic.normal ?_
          have S2 := Lib.hid hSc
          clear hS0 hSc
          go_wp2_with fail
          clear hlv HD
          go_roundw
          case rel => exact ⟨c + 1, r, by omega, by omega, hrr, by go_num, rfl, S2, HN1, HJ⟩
          case measure => simp [intOf]; omega
      · obtain rfl : s = r := by omega
        have hltI : ¬ (s : Int) < (s : Int) := by omega
        obtain ⟨e, he⟩ : ∃ e, nn - s = e := ⟨_, rfl⟩
        have hw4 : IntKind.i64.wrap ((nn : Int) - (s : Int)) = (e : Int) := (IntWalk.i64_in _ (by omega)).trans (by omega)
        have hme : m ≤ e := by omega
        have heb : e ≤ b := by omega
        have hmd : s + (e - m) = mid := by omega
        have hlo : s = a ∨ e = b ∨ ¬ d[e]!.1.arr < d[s - 1]!.1.arr := by
          rcases HI.out with h | h
          · rcases (show s = a ∨ e = b by omega) with h2 | h2
            · exact .inl h2
            · exact .inr (.inl h2)
          · rw [he] at h; exact .inr (.inr h)
        have hhi : s = m ∨ e = m ∨ d[e - 1]!.1.arr < d[s]!.1.arr := by
          rcases HJ.out with h | h
          · rcases (show s = m ∨ e = m by omega) with h2 | h2
            · exact .inl h2
            · exact .inr (.inl h2)
          · rw [show nn - 1 - s = e - 1 by omega] at h; exact .inr (.inr h)
        have hmr := fun (d2 : Array TA) (hv : ∀ k, d2[k]! = d[rotI s m e k]!) => merge_rot HP.out (by omega) (by omega) hme heb hv hlo hhi
        rw [hmd] at hmr
        have HMR := Lib.hid hmr
        clear hlo hhi hmr HI HJ hltI hlt
        by_cases q0 : s < m ∧ m < e
        · have q0a : (s : Int) < (m : Int) := by omega
          have q0b : (m : Int) < (e : Int) := by omega
          have hcr := rotate_any R (by omega) S1.out s m e (by omega) (by omega) (by omega) (by omega) (.func (.func 40) #[] #[]) (cap := cap)
          rw [hN] at hcr
          have HCR := Lib.hid hcr
          clear hcr
          go_wp2_with fail
          refine HCR.out.mono ?_
          rintro e3 w3 ⟨rfl, d2, S4, hv2⟩
          have S4 := Lib.hid S4
          have HQ := Lib.hid (HMR.out d2 hv2.1)
          have HP2 := Lib.hid (permIn_mono _ _ _ _ a b (by omega) heb (by omega) hv2.2)
          clear hv2 HCR
          have hz2 := HP2.out.1
          by_cases q1 : a < s ∧ s < mid
          · have q1a : (a : Int) < (s : Int) := by omega
            have q1b : (s : Int) < (mid : Int) := by omega
            have hcr := IH.out.ok R (by omega) S4.out a s mid (by omega) (by omega) (by omega) (by omega) HQ.out.1 (cap := cap) (by omega)
            rw [show d2.size = N by omega] at hcr
            have HCR := Lib.hid hcr
            clear hcr
            go_wp2_with fail
            refine HCR.out.mono ?_
            rintro e4 w4 ⟨rfl, d3, S5, s3, p3⟩
            have S5 := Lib.hid S5
            have HS3 := Lib.hid s3
            have HP3 := Lib.hid p3
            clear s3 p3 HCR
            have HPR := Lib.hid (pre_keep HQ.out.2.1 HP3.out (by omega))
            have hz3 := HP3.out.1
            by_cases q2 : mid < e ∧ e < b
            · have q2a : (mid : Int) < (e : Int) := by omega
              have q2b : (e : Int) < (b : Int) := by omega
              have hcr := IH.out.ok R (by omega) S5.out mid e b (by omega) (by omega) (by omega) (by omega) HPR.out (cap := cap) (by omega)
              rw [show d3.size = N by omega] at hcr
              have HCR := Lib.hid hcr
              clear hcr
              go_wp2_with fail
              refine HCR.out.mono ?_
              rintro e5 w5 ⟨rfl, d4, S6, s4, p4⟩
              have HE := Lib.hid (merge_done (by omega) (by omega) (by omega) HQ.out.2.2 HP3.out HS3.out p4 s4)
              have HPE := Lib.hid (permIn_trans _ _ _ _ _ (permIn_trans _ _ _ _ _ HP2.out (permIn_mono _ _ _ _ _ _ (Nat.le_refl _) (by omega) (by omega) HP3.out)) (permIn_mono _ _ _ _ a b (by omega) (Nat.le_refl _) (by omega) p4))
              have S6 := Lib.hid S6
              clear s4 p4
              go_wp2_with fail
              go_end0
              exact ⟨rfl, d4, S6.out, HE.out, HPE.out⟩
            · have HE := Lib.hid (merge_done (by omega) (by omega) (by omega) HQ.out.2.2 HP3.out HS3.out (permIn_refl _ _ _) (srt_half HPR.out (by omega) (by omega) (by omega)))
              have HPE := Lib.hid (permIn_trans _ _ _ _ _ HP2.out (permIn_mono _ _ _ _ a b (Nat.le_refl _) (by omega) (by omega) HP3.out))
              by_cases q3 : mid < e
              · have q2a : (mid : Int) < (e : Int) := by omega
                have q2b : ¬ (e : Int) < (b : Int) := by omega
                go_wp2_with fail
              · have q2a : ¬ (mid : Int) < (e : Int) := by omega
                go_wp2_with fail
                go_end0
                exact ⟨rfl, _, S5.out, HE.out, HPE.out⟩
          · have HS3 := Lib.hid (srt_half HQ.out.1 (by omega) (by omega) (by omega))
            have HP3 := Lib.hid (permIn_refl d2 a mid)
            have S5 := S4
            by_cases q4 : a < s
            · have q1a : (a : Int) < (s : Int) := by omega
              have q1b : ¬ (s : Int) < (mid : Int) := by omega
              have HPR := Lib.hid (pre_keep HQ.out.2.1 HP3.out (by omega))
              have hz3 := HP3.out.1
              by_cases q2 : mid < e ∧ e < b
              · have q2a : (mid : Int) < (e : Int) := by omega
                have q2b : (e : Int) < (b : Int) := by omega
                have hcr := IH.out.ok R (by omega) S5.out mid e b (by omega) (by omega) (by omega) (by omega) HPR.out (cap := cap) (by omega)
                rw [show d2.size = N by omega] at hcr
                have HCR := Lib.hid hcr
                clear hcr
                go_wp2_with fail
              · have HE := Lib.hid (merge_done (by omega) (by omega) (by omega) HQ.out.2.2 HP3.out HS3.out (permIn_refl _ _ _) (srt_half HPR.out (by omega) (by omega) (by omega)))
                have HPE := Lib.hid (permIn_trans _ _ _ _ _ HP2.out (permIn_mono _ _ _ _ a b (Nat.le_refl _) (by omega) (by omega) HP3.out))
                by_cases q3 : mid < e
                · have q2a : (mid : Int) < (e : Int) := by omega
                  have q2b : ¬ (e : Int) < (b : Int) := by omega
                  go_wp2_with fail
                · have q2a : ¬ (mid : Int) < (e : Int) := by omega
                  go_wp2_with fail
            · have q1a : ¬ (a : Int) < (s : Int) := by omega
              have HPR := Lib.hid (pre_keep HQ.out.2.1 HP3.out (by omega))
              have hz3 := HP3.out.1
              by_cases q2 : mid < e ∧ e < b
              · have q2a : (mid : Int) < (e : Int) := by omega
                have q2b : (e : Int) < (b : Int) := by omega
                have hcr := IH.out.ok R (by omega) S5.out mid e b (by omega) (by omega) (by omega) (by omega) HPR.out (cap := cap) (by omega)
                rw [show d2.size = N by omega] at hcr
                have HCR := Lib.hid hcr
                clear hcr
                go_wp2_with fail
                refine HCR.out.mono ?_
                rintro e5 w5 ⟨rfl, d4, S6, s4, p4⟩
                have HE := Lib.hid (merge_done (by omega) (by omega) (by omega) HQ.out.2.2 HP3.out HS3.out p4 s4)
                have HPE := Lib.hid (permIn_trans _ _ _ _ _ (permIn_trans _ _ _ _ _ HP2.out (permIn_mono _ _ _ _ _ _ (Nat.le_refl _) (by omega) (by omega) HP3.out)) (permIn_mono _ _ _ _ a b (by omega) (Nat.le_refl _) (by omega) p4))
                have S6 := Lib.hid S6
                clear s4 p4
                go_wp2_with fail
                go_end0
                exact ⟨rfl, d4, S6.out, HE.out, HPE.out⟩
              · have HE := Lib.hid (merge_done (by omega) (by omega) (by omega) HQ.out.2.2 HP3.out HS3.out (permIn_refl _ _ _) (srt_half HPR.out (by omega) (by omega) (by omega)))
                have HPE := Lib.hid (permIn_trans _ _ _ _ _ HP2.out (permIn_mono _ _ _ _ a b (Nat.le_refl _) (by omega) (by omega) HP3.out))
                by_cases q3 : mid < e
                · have q2a : (mid : Int) < (e : Int) := by omega
                  have q2b : ¬ (e : Int) < (b : Int) := by omega
                  go_wp2_with fail
                  go_end0
                  exact ⟨rfl, _, S5.out, HE.out, HPE.out⟩
                · have q2a : ¬ (mid : Int) < (e : Int) := by omega
                  go_wp2_with fail
                  go_end0
                  exact ⟨rfl, _, S5.out, HE.out, HPE.out⟩
        · have HQ := Lib.hid (HMR.out d (fun k => by rw [rotI_id (by omega) (by omega) hme]))
          have HP2 := Lib.hid (permIn_refl d a b)
          have S4 := S1
          by_cases q5 : s < m
          · have q0a : (s : Int) < (m : Int) := by omega
            have q0b : ¬ (m : Int) < (e : Int) := by omega
            have hz2 := HP2.out.1
            by_cases q1 : a < s ∧ s < mid
            · have q1a : (a : Int) < (s : Int) := by omega
              have q1b : (s : Int) < (mid : Int) := by omega
              have hcr := IH.out.ok R (by omega) S4.out a s mid (by omega) (by omega) (by omega) (by omega) HQ.out.1 (cap := cap) (by omega)
              rw [show d.size = N by omega] at hcr
              have HCR := Lib.hid hcr
              clear hcr
              go_wp2_with fail
              refine HCR.out.mono ?_
              rintro e4 w4 ⟨rfl, d3, S5, s3, p3⟩
              have S5 := Lib.hid S5
              have HS3 := Lib.hid s3
              have HP3 := Lib.hid p3
              clear s3 p3 HCR
              have HPR := Lib.hid (pre_keep HQ.out.2.1 HP3.out (by omega))
              have hz3 := HP3.out.1
              by_cases q2 : mid < e ∧ e < b
              · have q2a : (mid : Int) < (e : Int) := by omega
                have q2b : (e : Int) < (b : Int) := by omega
                have hcr := IH.out.ok R (by omega) S5.out mid e b (by omega) (by omega) (by omega) (by omega) HPR.out (cap := cap) (by omega)
                rw [show d3.size = N by omega] at hcr
                have HCR := Lib.hid hcr
                clear hcr
                go_wp2_with fail
                refine HCR.out.mono ?_
                rintro e5 w5 ⟨rfl, d4, S6, s4, p4⟩
                have HE := Lib.hid (merge_done (by omega) (by omega) (by omega) HQ.out.2.2 HP3.out HS3.out p4 s4)
                have HPE := Lib.hid (permIn_trans _ _ _ _ _ (permIn_trans _ _ _ _ _ HP2.out (permIn_mono _ _ _ _ _ _ (Nat.le_refl _) (by omega) (by omega) HP3.out)) (permIn_mono _ _ _ _ a b (by omega) (Nat.le_refl _) (by omega) p4))
                have S6 := Lib.hid S6
                clear s4 p4
                go_wp2_with fail
                go_end0
                exact ⟨rfl, d4, S6.out, HE.out, HPE.out⟩
              · have HE := Lib.hid (merge_done (by omega) (by omega) (by omega) HQ.out.2.2 HP3.out HS3.out (permIn_refl _ _ _) (srt_half HPR.out (by omega) (by omega) (by omega)))
                have HPE := Lib.hid (permIn_trans _ _ _ _ _ HP2.out (permIn_mono _ _ _ _ a b (Nat.le_refl _) (by omega) (by omega) HP3.out))
                by_cases q3 : mid < e
                · have q2a : (mid : Int) < (e : Int) := by omega
                  have q2b : ¬ (e : Int) < (b : Int) := by omega
                  go_wp2_with fail
                · have q2a : ¬ (mid : Int) < (e : Int) := by omega
                  go_wp2_with fail
                  go_end0
                  exact ⟨rfl, _, S5.out, HE.out, HPE.out⟩
            · have HS3 := Lib.hid (srt_half HQ.out.1 (by omega) (by omega) (by omega))
              have HP3 := Lib.hid (permIn_refl d a mid)
              have S5 := S4
              by_cases q4 : a < s
              · have q1a : (a : Int) < (s : Int) := by omega
                have q1b : ¬ (s : Int) < (mid : Int) := by omega
                have HPR := Lib.hid (pre_keep HQ.out.2.1 HP3.out (by omega))
                have hz3 := HP3.out.1
                by_cases q2 : mid < e ∧ e < b
                · have q2a : (mid : Int) < (e : Int) := by omega
                  have q2b : (e : Int) < (b : Int) := by omega
                  have hcr := IH.out.ok R (by omega) S5.out mid e b (by omega) (by omega) (by omega) (by omega) HPR.out (cap := cap) (by omega)
                  rw [show d.size = N by omega] at hcr
                  have HCR := Lib.hid hcr
                  clear hcr
                  go_wp2_with fail
                  refine HCR.out.mono ?_
                  rintro e5 w5 ⟨rfl, d4, S6, s4, p4⟩
                  have HE := Lib.hid (merge_done (by omega) (by omega) (by omega) HQ.out.2.2 HP3.out HS3.out p4 s4)
                  have HPE := Lib.hid (permIn_trans _ _ _ _ _ (permIn_trans _ _ _ _ _ HP2.out (permIn_mono _ _ _ _ _ _ (Nat.le_refl _) (by omega) (by omega) HP3.out)) (permIn_mono _ _ _ _ a b (by omega) (Nat.le_refl _) (by omega) p4))
                  have S6 := Lib.hid S6
                  clear s4 p4
                  go_wp2_with fail
                  go_end0
                  exact ⟨rfl, d4, S6.out, HE.out, HPE.out⟩
                · have HE := Lib.hid (merge_done (by omega) (by omega) (by omega) HQ.out.2.2 HP3.out HS3.out (permIn_refl _ _ _) (srt_half HPR.out (by omega) (by omega) (by omega)))
                  have HPE := Lib.hid (permIn_trans _ _ _ _ _ HP2.out (permIn_mono _ _ _ _ a b (Nat.le_refl _) (by omega) (by omega) HP3.out))
                  by_cases q3 : mid < e
                  · have q2a : (mid : Int) < (e : Int) := by omega
                    have q2b : ¬ (e : Int) < (b : Int) := by omega
                    go_wp2_with fail
                    go_end0
                    exact ⟨rfl, _, S5.out, HE.out, HPE.out⟩
                  · have q2a : ¬ (mid : Int) < (e : Int) := by omega
                    go_wp2_with fail
                    go_end0
                    exact ⟨rfl, _, S5.out, HE.out, HPE.out⟩
              · have q1a : ¬ (a : Int) < (s : Int) := by omega
                have HPR := Lib.hid (pre_keep HQ.out.2.1 HP3.out (by omega))
                have hz3 := HP3.out.1
                by_cases q2 : mid < e ∧ e < b
                · have q2a : (mid : Int) < (e : Int) := by omega
                  have q2b : (e : Int) < (b : Int) := by omega
                  have hcr := IH.out.ok R (by omega) S5.out mid e b (by omega) (by omega) (by omega) (by omega) HPR.out (cap := cap) (by omega)
                  rw [show d.size = N by omega] at hcr
                  have HCR := Lib.hid hcr
                  clear hcr
                  go_wp2_with fail
                  refine HCR.out.mono ?_
                  rintro e5 w5 ⟨rfl, d4, S6, s4, p4⟩
                  have HE := Lib.hid (merge_done (by omega) (by omega) (by omega) HQ.out.2.2 HP3.out HS3.out p4 s4)
                  have HPE := Lib.hid (permIn_trans _ _ _ _ _ (permIn_trans _ _ _ _ _ HP2.out (permIn_mono _ _ _ _ _ _ (Nat.le_refl _) (by omega) (by omega) HP3.out)) (permIn_mono _ _ _ _ a b (by omega) (Nat.le_refl _) (by omega) p4))
                  have S6 := Lib.hid S6
                  clear s4 p4
                  go_wp2_with fail
                  go_end0
                  exact ⟨rfl, d4, S6.out, HE.out, HPE.out⟩
                · have HE := Lib.hid (merge_done (by omega) (by omega) (by omega) HQ.out.2.2 HP3.out HS3.out (permIn_refl _ _ _) (srt_half HPR.out (by omega) (by omega) (by omega)))
                  have HPE := Lib.hid (permIn_trans _ _ _ _ _ HP2.out (permIn_mono _ _ _ _ a b (Nat.le_refl _) (by omega) (by omega) HP3.out))
                  by_cases q3 : mid < e
                  · have q2a : (mid : Int) < (e : Int) := by omega
                    have q2b : ¬ (e : Int) < (b : Int) := by omega
                    go_wp2_with fail
                    go_end0
                    exact ⟨rfl, _, S5.out, HE.out, HPE.out⟩
                  · have q2a : ¬ (mid : Int) < (e : Int) := by omega
                    go_wp2_with fail
                    go_end0
                    exact ⟨rfl, _, S5.out, HE.out, HPE.out⟩
          · have q0a : ¬ (s : Int) < (m : Int) := by omega
            have hz2 := HP2.out.1
            by_cases q1 : a < s ∧ s < mid
            · have q1a : (a : Int) < (s : Int) := by omega
              have q1b : (s : Int) < (mid : Int) := by omega
              have hcr := IH.out.ok R (by omega) S4.out a s mid (by omega) (by omega) (by omega) (by omega) HQ.out.1 (cap := cap) (by omega)
              rw [show d.size = N by omega] at hcr
              have HCR := Lib.hid hcr
              clear hcr
              go_wp2_with fail
              refine HCR.out.mono ?_
              rintro e4 w4 ⟨rfl, d3, S5, s3, p3⟩
              have S5 := Lib.hid S5
              have HS3 := Lib.hid s3
              have HP3 := Lib.hid p3
              clear s3 p3 HCR
              have HPR := Lib.hid (pre_keep HQ.out.2.1 HP3.out (by omega))
              have hz3 := HP3.out.1
              by_cases q2 : mid < e ∧ e < b
              · have q2a : (mid : Int) < (e : Int) := by omega
                have q2b : (e : Int) < (b : Int) := by omega
                have hcr := IH.out.ok R (by omega) S5.out mid e b (by omega) (by omega) (by omega) (by omega) HPR.out (cap := cap) (by omega)
                rw [show d3.size = N by omega] at hcr
                have HCR := Lib.hid hcr
                clear hcr
                go_wp2_with fail
                refine HCR.out.mono ?_
                rintro e5 w5 ⟨rfl, d4, S6, s4, p4⟩
                have HE := Lib.hid (merge_done (by omega) (by omega) (by omega) HQ.out.2.2 HP3.out HS3.out p4 s4)
                have HPE := Lib.hid (permIn_trans _ _ _ _ _ (permIn_trans _ _ _ _ _ HP2.out (permIn_mono _ _ _ _ _ _ (Nat.le_refl _) (by omega) (by omega) HP3.out)) (permIn_mono _ _ _ _ a b (by omega) (Nat.le_refl _) (by omega) p4))
                have S6 := Lib.hid S6
                clear s4 p4
                go_wp2_with fail
                go_end0
                exact ⟨rfl, d4, S6.out, HE.out, HPE.out⟩
              · have HE := Lib.hid (merge_done (by omega) (by omega) (by omega) HQ.out.2.2 HP3.out HS3.out (permIn_refl _ _ _) (srt_half HPR.out (by omega) (by omega) (by omega)))
                have HPE := Lib.hid (permIn_trans _ _ _ _ _ HP2.out (permIn_mono _ _ _ _ a b (Nat.le_refl _) (by omega) (by omega) HP3.out))
                by_cases q3 : mid < e
                · have q2a : (mid : Int) < (e : Int) := by omega
                  have q2b : ¬ (e : Int) < (b : Int) := by omega
                  go_wp2_with fail
                · have q2a : ¬ (mid : Int) < (e : Int) := by omega
                  go_wp2_with fail
                  go_end0
                  exact ⟨rfl, _, S5.out, HE.out, HPE.out⟩
            · have HS3 := Lib.hid (srt_half HQ.out.1 (by omega) (by omega) (by omega))
              have HP3 := Lib.hid (permIn_refl d a mid)
              have S5 := S4
              by_cases q4 : a < s
              · have q1a : (a : Int) < (s : Int) := by omega
                have q1b : ¬ (s : Int) < (mid : Int) := by omega
                have HPR := Lib.hid (pre_keep HQ.out.2.1 HP3.out (by omega))
                have hz3 := HP3.out.1
                by_cases q2 : mid < e ∧ e < b
                · have q2a : (mid : Int) < (e : Int) := by omega
                  have q2b : (e : Int) < (b : Int) := by omega
                  have hcr := IH.out.ok R (by omega) S5.out mid e b (by omega) (by omega) (by omega) (by omega) HPR.out (cap := cap) (by omega)
                  rw [show d.size = N by omega] at hcr
                  have HCR := Lib.hid hcr
                  clear hcr
                  go_wp2_with fail
                  refine HCR.out.mono ?_
                  rintro e5 w5 ⟨rfl, d4, S6, s4, p4⟩
                  have HE := Lib.hid (merge_done (by omega) (by omega) (by omega) HQ.out.2.2 HP3.out HS3.out p4 s4)
                  have HPE := Lib.hid (permIn_trans _ _ _ _ _ (permIn_trans _ _ _ _ _ HP2.out (permIn_mono _ _ _ _ _ _ (Nat.le_refl _) (by omega) (by omega) HP3.out)) (permIn_mono _ _ _ _ a b (by omega) (Nat.le_refl _) (by omega) p4))
                  have S6 := Lib.hid S6
                  clear s4 p4
                  go_wp2_with fail
                  go_end0
                  exact ⟨rfl, d4, S6.out, HE.out, HPE.out⟩
                · have HE := Lib.hid (merge_done (by omega) (by omega) (by omega) HQ.out.2.2 HP3.out HS3.out (permIn_refl _ _ _) (srt_half HPR.out (by omega) (by omega) (by omega)))
                  have HPE := Lib.hid (permIn_trans _ _ _ _ _ HP2.out (permIn_mono _ _ _ _ a b (Nat.le_refl _) (by omega) (by omega) HP3.out))
                  by_cases q3 : mid < e
                  · have q2a : (mid : Int) < (e : Int) := by omega
                    have q2b : ¬ (e : Int) < (b : Int) := by omega
                    go_wp2_with fail
                    go_end0
                    exact ⟨rfl, _, S5.out, HE.out, HPE.out⟩
                  · have q2a : ¬ (mid : Int) < (e : Int) := by omega
                    go_wp2_with fail
                    go_end0
                    exact ⟨rfl, _, S5.out, HE.out, HPE.out⟩
              · have q1a : ¬ (a : Int) < (s : Int) := by omega
                have HPR := Lib.hid (pre_keep HQ.out.2.1 HP3.out (by omega))
                have hz3 := HP3.out.1
                by_cases q2 : mid < e ∧ e < b
                · have q2a : (mid : Int) < (e : Int) := by omega
                  have q2b : (e : Int) < (b : Int) := by omega
                  have hcr := IH.out.ok R (by omega) S5.out mid e b (by omega) (by omega) (by omega) (by omega) HPR.out (cap := cap) (by omega)
                  rw [show d.size = N by omega] at hcr
                  have HCR := Lib.hid hcr
                  clear hcr
                  go_wp2_with fail
                  refine HCR.out.mono ?_
                  rintro e5 w5 ⟨rfl, d4, S6, s4, p4⟩
                  have HE := Lib.hid (merge_done (by omega) (by omega) (by omega) HQ.out.2.2 HP3.out HS3.out p4 s4)
                  have HPE := Lib.hid (permIn_trans _ _ _ _ _ (permIn_trans _ _ _ _ _ HP2.out (permIn_mono _ _ _ _ _ _ (Nat.le_refl _) (by omega) (by omega) HP3.out)) (permIn_mono _ _ _ _ a b (by omega) (Nat.le_refl _) (by omega) p4))
                  have S6 := Lib.hid S6
                  clear s4 p4
                  go_wp2_with fail
                  go_end0
                  exact ⟨rfl, d4, S6.out, HE.out, HPE.out⟩
                · have HE := Lib.hid (merge_done (by omega) (by omega) (by omega) HQ.out.2.2 HP3.out HS3.out (permIn_refl _ _ _) (srt_half HPR.out (by omega) (by omega) (by omega)))
                  have HPE := Lib.hid (permIn_trans _ _ _ _ _ HP2.out (permIn_mono _ _ _ _ a b (Nat.le_refl _) (by omega) (by omega) HP3.out))
                  by_cases q3 : mid < e
                  · have q2a : (mid : Int) < (e : Int) := by omega
                    have q2b : ¬ (e : Int) < (b : Int) := by omega
                    go_wp2_with fail
                    go_end0
                    exact ⟨rfl, _, S5.out, HE.out, HPE.out⟩
                  · have q2a : ¬ (mid : Int) < (e : Int) := by omega
                    go_wp2_with fail
                    go_end0
                    exact ⟨rfl, _, S5.out, HE.out, HPE.out⟩
set_option maxRecDepth 1000000 in
set_option maxHeartbeats 2000000 in
theorem symOk : ∀ n, SymOk n
  | 0 => ⟨by intros; omega⟩
  | n + 1 => by
    refine ⟨?_⟩
    intro w0 w blk off cap d0 d R hs S a m b ham hmb hb hsz hp hn
    by_cases h1 : m = a + 1
    · exact symA R hs S a m b ham hmb hb hsz hp h1
    · by_cases h2 : b = m + 1
      · exact symB R hs S a m b ham hmb hb hsz hp h1 h2
      · exact symC R hs S a m b ham hmb hb hsz hp h1 h2 n (symOk n) hn
end Go.Proofs.Ytnmdgjodbikndaa
