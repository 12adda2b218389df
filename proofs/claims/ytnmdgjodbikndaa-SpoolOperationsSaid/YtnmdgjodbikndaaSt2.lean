/- The stable sort: swapRange. -/
import Derived.Test.YtnmdgjodbikndaaSt1
import Derived.Test.YtnmdgjodbikndaaRegion6
namespace Go.Proofs.Ytnmdgjodbikndaa
open Go.RowKit Go.Sort Go.Shelf
set_option linter.unusedVariables false
set_option linter.unusedSimpArgs false

variable {w0 W : World} {blk off : Nat} {d0 dk : Array TA}
theorem encT_size (x : TA) : (encT x).toArray.size = 34 := by rw [List.size_toArray]; exact encT_len x
theorem sizeEntT (x : TA) : (Try.prog.info? 44).map (·.size) = some (encT x).length := by rw [encT_len]; kernel_rfl
theorem sizeEntA' (x : TA) : (Try.prog.info? 44).map (·.size) = some (encT x).toArray.size := by rw [List.size_toArray]; exact sizeEntT x
theorem oneEnt (x : TA) : (encT x).toArray.all (·.oneCell') = true := all_oneCell_toArray (entC_one x.1)
theorem _root_.Go.Proofs.SWK.range {i : Nat} (h : SWK encT 34 w0 blk off dk W) (R : RowK encT 34 w0 blk off d0) (hs : dk.size = d0.size) (hi : i < dk.size) : W.rangeAt blk (off + i * 34) (encT dk[i]!) := fun j v hv => by
  have := HoldsK.cells (h.holds R.hblk R.hH hs) R.hk hi j v hv
  rwa [Addr.add_mid] at this
theorem _root_.Go.Proofs.SWK.there {i n : Nat} (h : SWK encT 34 w0 blk off dk W) (R : RowK encT 34 w0 blk off d0) (hs : dk.size = d0.size) (hi : i < dk.size) (hn : n = 34) : W.there blk (off + i * 34) n := fun j hj => by
  have := (h.holds R.hblk R.hH hs).cell hi (show j < 34 by omega)
  rw [this.1, this.2]
  exact ⟨rfl, rfl⟩
theorem _root_.Go.Proofs.SWK.there2 {i j n : Nat} {x : TA} (h : SWK encT 34 w0 blk off dk W) (R : RowK encT 34 w0 blk off d0) (hs : dk.size = d0.size) (hi : i < dk.size) (hj : j < dk.size) (hij : i ≠ j) (hn : n = 34) : (W.setCells blk (off + i * 34) (encT x).toArray.toList).there blk (off + j * 34) n := fun c hc => by
  have h0 := (h.holds R.hblk R.hH hs).cell hj (show c < 34 by omega)
  have hr := World.rangeAt_setCells_apart (h.range R hs hj) blk (off + i * 34) (encT x).toArray.toList (.inr (by
    have h1 : (encT x).toArray.toList.length = 34 := encT_len x
    have h2 : (encT dk[j]!).length = 34 := encT_len _
    rw [h1, h2]
    omega))
  have h3 := hr c (encT dk[j]!)[c]! (by rw [getElem!_pos _ c (by rw [encT_len]; omega)]; exact List.getElem?_eq_getElem _)
  rw [h3, World.frozen?_setCells, h0.2]
  exact ⟨rfl, rfl⟩
theorem _root_.Go.Proofs.SWK.swapT (h : SWK encT 34 w0 blk off dk W) (R : RowK encT 34 w0 blk off d0) (i j : Nat) (hi : i < dk.size) (hj : j < dk.size) :
    SWK encT 34 w0 blk off (swp dk i j) ((W.setCells blk (off + i * 34) (encT dk[j]!).toArray.toList).setCells blk (off + j * 34) (encT dk[i]!).toArray.toList) := h.swap R.hk R.hblk i j hi hj
theorem cmpT {w : World} (h : SWK encT 34 w0 blk off dk w) (x y : TA) : Calls Try.prog 40 #[.agg (encT x).toArray, .agg (encT y).toArray] w fun e w' => e = .returned (.int .i64 (cfT x y)) ∧ SWK encT 34 w0 blk off dk w' :=
  (oldCmp x.1 y.1 w).mono fun e w' hh => by
    obtain ⟨he, q, os, rfl⟩ := hh
    exact ⟨he, h.grown q os⟩

theorem mixedTry : Try.prog.follows .mixedOrders = true := by kernel_rfl
set_option maxRecDepth 1000000 in
set_option maxHeartbeats 2000000 in
theorem swapRange_any {w0 w : World} {blk off cap : Nat} {d0 d : Array TA} (R : RowK encT 34 w0 blk off d0) (hs : d0.size = d.size) (S : SWK encT 34 w0 blk off d w) (a b n hi : Nat) (hab : a + n ≤ b) (hb : b + n ≤ hi) (hhi : hi ≤ d.size) (hsz : d.size < 1000000000) (fv : Value) :
    Calls Try.prog 83 #[.slice (some ⟨blk, off, none⟩) d.size cap, .int .i64 (a : Int), .int .i64 (b : Int), .int .i64 (n : Int), fv] w fun e w' => e = .returned (.tuple #[]) ∧ ∃ d', SWK encT 34 w0 blk off d' w' ∧ Via (swI a b n) a hi d d' := by
  have mixed := mixedTry
  have aE := isAggEnt
  have zE := sizeOfEnt
  obtain ⟨N, hN⟩ : ∃ N, d.size = N := ⟨_, rfl⟩
  rw [hN] at hs hhi hsz ⊢
  have S0 := Lib.hid S
  clear S
  go_enter Try.func83, Try.ntmps83
  go_wp2_with fail
  go_loopw [10] (fun iv wr => ∃ (i : Nat) (dk : Array TA), i ≤ n ∧ iv = .int .i64 (i : Int) ∧ Hid (SWK encT 34 w0 blk off dk wr) ∧ Via (swI a b i) a hi d dk) (fun iv _ => n - (intOf iv).toNat)
  case atStart => exact ⟨0, d, Nat.zero_le _, rfl, S0, by rw [swI_zero]; exact via_refl _ _ _⟩
  case round =>
    clear S0
    obtain ⟨i, dk, hi', rfl, S1, hv⟩ := hrel
    have hds := hv.size
    rw [hN] at hds
    by_cases hlt : i < n
    · have hiI : (i : Int) < (n : Int) := by omega
      have HV := via_swap_next hv hlt hab (Nat.le_refl _) hb (by omega)
      obtain ⟨p, hp⟩ : ∃ p, a + i = p := ⟨_, rfl⟩
      obtain ⟨q, hq⟩ : ∃ q, b + i = q := ⟨_, rfl⟩
      rw [hp, hq] at HV
      have HV := Lib.hid HV
      have hw1 : IntKind.i64.wrap ((a : Int) + (i : Int)) = (p : Int) := (IntWalk.i64_in _ (by omega)).trans (by omega)
      have hw2 : IntKind.i64.wrap ((b : Int) + (i : Int)) = (q : Int) := (IntWalk.i64_in _ (by omega)).trans (by omega)
      clear hv
      have pI : (p : Int) < (N : Int) := by omega
      have qI : (q : Int) < (N : Int) := by omega
      have p0 : (0 : Int) ≤ (p : Int) := by omega
      have q0 : (0 : Int) ≤ (q : Int) := by omega
      go_wp2_with fail
      refine wp_region_noPanic ?_
      refine wp_region_G [21, 23] (SWK encT 34 w0 blk off dk) (by kernel_rfl) ?_
      have hS0 : (SWK encT 34 w0 blk off dk) wr.drew := S1.out.drew
      obtain ⟨wd, hwd⟩ : ∃ wd, wr.drew = wd := ⟨_, rfl⟩
      rw [hwd] at hS0 ⊢
      clear hwd
      refine wpAnyG_pure (i := 0) (v := ?v1) rfl (by kernel_rfl) (by kernel_rfl) (by kernel_rfl) (by kernel_rfl) (fun _ _ _ h => h) (yieldsIf_run rfl (fun w' hw' => ?y1)) (fun _ => hS0) ?_
      case y1 => first | (go_simp; rfl) | (go_simp; done) | rfl
      simp only [Act.put, List.setIfInBounds_toArray, List.set_cons_zero, List.set_cons_succ]
      refine wpAnyG_pure (i := 1) (v := ?v2) rfl (by kernel_rfl) (by kernel_rfl) (by kernel_rfl) (by kernel_rfl) (fun _ _ _ h => h) (yieldsIf_run rfl (fun w' hw' => ?y2)) (fun _ => hS0) ?_
      case y2 => first | (go_simp; rfl) | (go_simp; done) | rfl
      simp only [Act.put, List.setIfInBounds_toArray, List.set_cons_zero, List.set_cons_succ]
      refine wpAnyG_pure (i := 2) (v := ?v3) rfl (by kernel_rfl) (by kernel_rfl) (by kernel_rfl) (by kernel_rfl) (fun _ _ _ h => h) (yieldsIf_run rfl (fun w' hw' => ?y3)) (fun _ => hS0) ?_
      case y3 => first | (go_simp; rfl) | (go_simp; done) | rfl
      simp only [Act.put, List.setIfInBounds_toArray, List.set_cons_zero, List.set_cons_succ]
      refine wpAnyG_pure (i := 3) (v := ?v4) rfl (by kernel_rfl) (by kernel_rfl) (by kernel_rfl) (by kernel_rfl) (fun _ _ _ h => h) (yieldsIf_run rfl (fun w' hw' => ?y4)) (fun _ => hS0) ?_
      case y4 => first | (go_simp; rfl) | (go_simp; done) | rfl
      simp only [Act.put, List.setIfInBounds_toArray, List.set_cons_zero, List.set_cons_succ]
      refine wpAnyG_pure (i := 4) (v := ?v5) rfl (by kernel_rfl) (by kernel_rfl) (by kernel_rfl) (by kernel_rfl) (fun _ _ _ h => h) (yieldsIf_run rfl (fun w' hw' => ?y5)) (fun _ => hS0) ?_
      case y5 => first | (go_simp; rfl) | (go_simp; done) | rfl
      simp only [Act.put, List.setIfInBounds_toArray, List.set_cons_zero, List.set_cons_succ]
      refine wpAnyG_pure (i := 5) (v := ?v6) rfl (by kernel_rfl) (by kernel_rfl) (by kernel_rfl) (by kernel_rfl) (fun _ _ _ h => h) (yieldsIf_run rfl (fun w' hw' => ?y6)) (fun _ => hS0) ?_
      case y6 => first | (go_simp; rfl) | (go_simp; done) | rfl
      simp only [Act.put, List.setIfInBounds_toArray, List.set_cons_zero, List.set_cons_succ]
      refine wpAnyG_pure (i := 6) (v := ?v7) rfl (by kernel_rfl) (by kernel_rfl) (by kernel_rfl) (by kernel_rfl) (fun _ _ _ h => h) (yieldsIf_run rfl (fun w' hw' => ?y7)) (fun _ => hS0) ?_
      case y7 => first | (go_simp; rfl) | (go_simp; done) | rfl
      simp only [Act.put, List.setIfInBounds_toArray, List.set_cons_zero, List.set_cons_succ]
      refine wpAnyG_pure (i := 7) (v := ?v8) rfl (by kernel_rfl) (by kernel_rfl) (by kernel_rfl) (by kernel_rfl) (fun _ _ _ h => h) (yieldsIf_run rfl (fun w' hw' => ?y8)) (fun _ => hS0) ?_
      case y8 => first | (go_simp; rfl) | (go_simp; done) | rfl
      simp only [Act.put, List.setIfInBounds_toArray, List.set_cons_zero, List.set_cons_succ]
      refine wpAnyG_pure (i := 8) (v := ?v9) rfl (by kernel_rfl) (by kernel_rfl) (by kernel_rfl) (by kernel_rfl) (fun _ _ _ h => h) (yieldsIf_run rfl (fun w' hw' => ?y9)) (fun _ => hS0) ?_
      case y9 => first | (go_simp; rfl) | (go_simp; done) | rfl
      simp only [Act.put, List.setIfInBounds_toArray, List.set_cons_zero, List.set_cons_succ]
      refine wpAnyG_pure (i := 9) (v := ?v10) rfl (by kernel_rfl) (by kernel_rfl) (by kernel_rfl) (by kernel_rfl) (fun _ _ _ h => h) (yieldsIf_run rfl (fun w' hw' => ?y10)) (fun _ => hS0) ?_
      case y10 => first | (go_simp; rfl) | (go_simp; done) | rfl
      simp only [Act.put, List.setIfInBounds_toArray, List.set_cons_zero, List.set_cons_succ]
      refine wpAnyG_pure (i := 10) (v := ?v11) rfl (by kernel_rfl) (by kernel_rfl) (by kernel_rfl) (by kernel_rfl) (fun _ _ _ h => h) (yieldsIf_run rfl (fun w' hw' => ?y11)) (fun _ => hS0) ?_
      case y11 => first | (go_simp; rfl) | (go_simp; done) | rfl
      simp only [Act.put, List.setIfInBounds_toArray, List.set_cons_zero, List.set_cons_succ]
      refine wpAnyG_pure (i := 11) (v := ?v12) rfl (by kernel_rfl) (by kernel_rfl) (by kernel_rfl) (by kernel_rfl) (fun _ _ _ h => h) (yieldsIf_run rfl (fun w' hw' => ?y12)) (fun _ => hS0) ?_
      case y12 => first | (go_simp; rfl) | (go_simp; done) | rfl
      simp only [Act.put, List.setIfInBounds_toArray, List.set_cons_zero, List.set_cons_succ]
      refine wpAnyG_pure (i := 12) (v := ?v13) rfl (by kernel_rfl) (by kernel_rfl) (by kernel_rfl) (by kernel_rfl) (fun _ _ _ h => h) (yieldsIf_run rfl (fun w' hw' => ?y13)) (fun _ => hS0) ?_
      case y13 => first | (go_simp; rfl) | (go_simp; done) | rfl
      simp only [Act.put, List.setIfInBounds_toArray, List.set_cons_zero, List.set_cons_succ]
      refine wpAnyG_takeZ (i := 13) (v := .agg (encT dk[q]!).toArray) rfl (by kernel_rfl) (by kernel_rfl) (by kernel_rfl) (by kernel_rfl) (fun _ _ _ h => h) (yieldsIf_load_mid rfl 44 (.tmp 28) rfl blk (off + q * 34) rfl (encT dk[q]!) _ (fun w' hw' => hw'.range R (by omega) (by omega)) Try.underlying44 rfl (sizeEntT _)) hS0 ?_
      simp only [Act.put, List.setIfInBounds_toArray, List.set_cons_zero, List.set_cons_succ]
      refine wpAnyG_pure (i := 14) (v := ?v14) rfl (by kernel_rfl) (by kernel_rfl) (by kernel_rfl) (by kernel_rfl) (fun _ _ _ h => h) (yieldsIf_run rfl (fun w' hw' => ?y14)) (fun _ => hS0) ?_
      case y14 => first | (go_simp; rfl) | (go_simp; done) | rfl
      simp only [Act.put, List.setIfInBounds_toArray, List.set_cons_zero, List.set_cons_succ]
      refine wpAnyG_pure (i := 15) (v := ?v15) rfl (by kernel_rfl) (by kernel_rfl) (by kernel_rfl) (by kernel_rfl) (fun _ _ _ h => h) (yieldsIf_run rfl (fun w' hw' => ?y15)) (fun _ => hS0) ?_
      case y15 => first | (go_simp; rfl) | (go_simp; done) | rfl
      simp only [Act.put, List.setIfInBounds_toArray, List.set_cons_zero, List.set_cons_succ]
      refine wpAnyG_pure (i := 16) (v := ?v16) rfl (by kernel_rfl) (by kernel_rfl) (by kernel_rfl) (by kernel_rfl) (fun _ _ _ h => h) (yieldsIf_run rfl (fun w' hw' => ?y16)) (fun _ => hS0) ?_
      case y16 => first | (go_simp; rfl) | (go_simp; done) | rfl
      simp only [Act.put, List.setIfInBounds_toArray, List.set_cons_zero, List.set_cons_succ]
      refine wpAnyG_pure (i := 17) (v := ?v17) rfl (by kernel_rfl) (by kernel_rfl) (by kernel_rfl) (by kernel_rfl) (fun _ _ _ h => h) (yieldsIf_run rfl (fun w' hw' => ?y17)) (fun _ => hS0) ?_
      case y17 => first | (go_simp; rfl) | (go_simp; done) | rfl
      simp only [Act.put, List.setIfInBounds_toArray, List.set_cons_zero, List.set_cons_succ]
      refine wpAnyG_pure (i := 18) (v := ?v18) rfl (by kernel_rfl) (by kernel_rfl) (by kernel_rfl) (by kernel_rfl) (fun _ _ _ h => h) (yieldsIf_run rfl (fun w' hw' => ?y18)) (fun _ => hS0) ?_
      case y18 => first | (go_simp; rfl) | (go_simp; done) | rfl
      simp only [Act.put, List.setIfInBounds_toArray, List.set_cons_zero, List.set_cons_succ]
      refine wpAnyG_takeZ (i := 19) (v := .agg (encT dk[p]!).toArray) rfl (by kernel_rfl) (by kernel_rfl) (by kernel_rfl) (by kernel_rfl) (fun _ _ _ h => h) (yieldsIf_load_mid rfl 44 (.tmp 34) rfl blk (off + p * 34) rfl (encT dk[p]!) _ (fun w' hw' => hw'.range R (by omega) (by omega)) Try.underlying44 rfl (sizeEntT _)) hS0 ?_
      simp only [Act.put, List.setIfInBounds_toArray, List.set_cons_zero, List.set_cons_succ]
      refine wpAnyG_pure (i := 20) (v := ?v19) rfl (by kernel_rfl) (by kernel_rfl) (by kernel_rfl) (by kernel_rfl) (fun _ _ _ h => h) (yieldsIf_run rfl (fun w' hw' => ?y19)) (fun _ => hS0) ?_
      case y19 => first | (go_simp; rfl) | (go_simp; done) | rfl
      simp only [Act.put, List.setIfInBounds_toArray, List.set_cons_zero, List.set_cons_succ]
      refine wpAnyG_fin (i := 21) (by kernel_rfl) rfl rfl (by kernel_rfl) (fun K hK => ?_)
      refine wp_store_mid 44 (.tmp 36) (.tmp 29) rfl blk (off + p * 34) (encT dk[q]!).toArray rfl rfl (hS0.there R (by omega) (by omega) (encT_size _)) (sizeEntA' _) (oneEnt _) ?_
      refine hK _ _ ?_
      clear hK K
      try simp only [Act.put, List.setIfInBounds_toArray, List.set_cons_zero, List.set_cons_succ]
      refine wpAnyG_late (i := 22) (v := ?v20) rfl (by kernel_rfl) (by kernel_rfl) (by kernel_rfl) (by kernel_rfl) (by kernel_rfl) (fun _ _ _ h => h) (yieldsIf_run rfl (fun w' hw' => ?y20)) ?_
      case y20 => first | (go_simp; rfl) | (go_simp; done) | rfl
      simp only [Act.put, List.setIfInBounds_toArray, List.set_cons_zero, List.set_cons_succ]
      refine wpAnyG_fin (i := 23) (by kernel_rfl) rfl rfl (by kernel_rfl) (fun K hK => ?_)
      refine wp_store_mid 44 (.tmp 37) (.tmp 35) rfl blk (off + q * 34) (encT dk[p]!).toArray rfl rfl (hS0.there2 R (by omega) (by omega) (by omega) (by omega) (encT_size _)) (sizeEntA' _) (oneEnt _) ?_
      have hsw := hS0.swapT R p q (by omega) (by omega)
      obtain ⟨wz, hwz⟩ : ∃ wz, World.setCells (World.setCells wd blk (off + p * 34) (encT dk[q]!).toArray.toList) blk (off + q * 34) (encT dk[p]!).toArray.toList = wz := ⟨_, rfl⟩
      rw [hwz] at hsw ⊢
      clear hwz
      refine hK _ _ ?_
      clear hK K
      try simp only [Act.put, List.setIfInBounds_toArray, List.set_cons_zero, List.set_cons_succ]
      refine wpAnyG_done (by kernel_rfl) ?_ _
      refine NoPanic.normal ?_
      have S2 := Lib.hid hsw
      clear hS0 hsw
      clear S1 hp hq
      go_wp2_with fail
      go_roundw
      case rel => exact ⟨i + 1, _, by omega, by go_num, S2, HV.out⟩
      case measure => simp [intOf]; omega
    · obtain rfl : n = i := by omega
      go_wp2_with fail
      go_end0
      exact ⟨rfl, dk, S1.out, hv⟩
end Go.Proofs.Ytnmdgjodbikndaa
