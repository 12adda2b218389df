/- (*Disk).Equal. -/
import Derived.Test.YtkklbmnbjmicnaaEq2
namespace Go.Proofs.Ytkklbmnbjmicnaa
open Go.RowKit Go.Shelf
set_option linter.unusedVariables false
set_option linter.unusedSimpArgs false

theorem below_drewN (w : World) (n : Nat) : Below w.heap.size w (w.drewN n) := Below.drewN' w n _

set_option maxRecDepth 100000 in
set_option maxHeartbeats 2000000 in
/-- Two devices whose sizes or switches differ. -/
theorem Equal_head {w : World} (b b' : Nat) (n n' k k' : Int) (d d' l l' : Bool) (c0 : w.cell? ⟨b, 0, none⟩ = some (.int .i64 n)) (e0 : w.cell? ⟨b', 0, none⟩ = some (.int .i64 n'))
    (c4 : w.cell? ⟨b, 4, none⟩ = some (.bool l)) (e4 : w.cell? ⟨b', 4, none⟩ = some (.bool l')) (c5 : w.cell? ⟨b, 5, none⟩ = some (.int .i64 k)) (e5 : w.cell? ⟨b', 5, none⟩ = some (.int .i64 k'))
    (c6 : w.cell? ⟨b, 6, none⟩ = some (.bool d)) (e6 : w.cell? ⟨b', 6, none⟩ = some (.bool d')) (hne : ¬ (n = n' ∧ d = d' ∧ l = l' ∧ k = k')) :
    Calls Try.prog 32 #[.pointer (some ⟨b, 0, none⟩), .pointer (some ⟨b', 0, none⟩)] w fun e w' => e = .returned (.bool false) ∧ Below w.heap.size w w' := by
  by_cases h1 : n = n'
  · subst h1
    by_cases h2 : d = d'
    · subst h2
      by_cases h3 : l = l'
      · subst h3
        have h4 : ¬ k = k' := fun e => hne ⟨rfl, rfl, rfl, e⟩
        have h5 : (k != k') = true := by simpa using h4
        clear hne
        go_enter Try.func32, Try.ntmps32
        go_wp2_with fail
        go_quiet (fail)
        go_wp2_with fail
        go_ret
        exact ⟨rfl, below_drewN _ _⟩
      · clear hne
        go_enter Try.func32, Try.ntmps32
        go_wp2_with fail
        have h5 : (l != l') = true := by cases l <;> cases l' <;> simp_all
        go_quiet (fail)
        go_wp2_with fail
        go_ret
        exact ⟨rfl, below_drewN _ _⟩
    · clear hne
      obtain ⟨rfl, rfl⟩ | ⟨rfl, rfl⟩ : (d = true ∧ d' = false) ∨ (d = false ∧ d' = true) := by cases d <;> cases d' <;> simp_all
      · go_enter Try.func32, Try.ntmps32
        go_wp2_with fail
        go_quiet (fail)
        go_wp2_with fail
        go_ret
        exact ⟨rfl, below_drewN _ _⟩
      · go_enter Try.func32, Try.ntmps32
        go_wp2_with fail
        go_quiet (fail)
        go_wp2_with fail
        go_ret
        exact ⟨rfl, below_drewN _ _⟩
  · clear hne
    have h5 : (n != n') = true := by simpa using h1
    go_enter Try.func32, Try.ntmps32
    go_wp2_with fail
    go_quiet (fail)
    go_wp2_with fail
    go_ret
    exact ⟨rfl, below_drewN _ _⟩

def sameDS (S S' : DS) : Prop := S.dur = S'.dur ∧ S.pend = S'.pend ∧ S.limit = S'.limit ∧ S.down = S'.down
instance (S S' : DS) : Decidable (sameDS S S') := by unfold sameDS; infer_instance

def sameD (l l' : List (List UInt8)) (k : Nat) : Prop := ∀ i, i < k → l.getD i zeros = l'.getD i zeros

set_option maxRecDepth 100000 in
set_option maxHeartbeats 2000000 in
theorem Equal_any {w : World} {F F' : Nat → Prop} {b b' : Nat} {S S' : DS} (h : DiskAt w F b S) (h' : DiskAt w F' b' S') (hlen : S.pend.length < 1000000) (hlen' : S'.pend.length < 1000000) :
    Calls Try.prog 32 #[.pointer (some ⟨b, 0, none⟩), .pointer (some ⟨b', 0, none⟩)] w fun e w' => e = .returned (.bool (decide (sameDS S S'))) ∧ Below w.heap.size w w' := by
  obtain ⟨hok, m, pv, hx⟩ := h
  obtain ⟨hok', m', pv', hx'⟩ := h'
  obtain ⟨c0, c1, c2, c3, c4, c5, c6, f⟩ := hx.cells
  obtain ⟨e0, e1, e2, e3, e4, e5, e6, f'⟩ := hx'.cells
  by_cases hne : ¬ ((S.dur.length : Int) = (S'.dur.length : Int) ∧ S.down = S'.down ∧ S.limit.isSome = S'.limit.isSome ∧ ((S.limit.getD 0 : Nat) : Int) = ((S'.limit.getD 0 : Nat) : Int))
  · have hf : decide (sameDS S S') = false := by
      simp only [decide_eq_false_iff_not]
      rintro ⟨q1, q2, q3, q4⟩
      exact hne ⟨by rw [q1], q4, by rw [q3], by rw [q3]⟩
    rw [hf]
    exact Equal_head b b' _ _ _ _ _ _ _ _ c0 e0 c4 e4 c5 e5 c6 e6 hne
  · obtain ⟨hn, hd, hs, hl⟩ := Classical.not_not.1 hne
    have hlim : S.limit = S'.limit := by
      cases hA : S.limit <;> cases hB : S'.limit <;> rw [hA, hB] at hs hl <;> simp at hs hl ⊢ <;> omega
    have hn' : S'.dur.length = S.dur.length := by omega
    rw [← hn] at e0
    rw [← hd] at e6
    rw [← hs] at e4
    rw [← hl] at e5
    have hbl := hx.lt
    have hbl' := hx'.lt
    have hM := hx.hm
    have hM' := hx'.hm
    rw [hn'] at hM'
    have hml := hM.lt
    have hml' := hM'.lt
    have hP := pendAt_of (fun x h => (hok.pend x h).2) hx.hp
    have hP' := pendAt_of (fun x h => (hok'.pend x h).2) hx'.hp
    have hpl : ∀ g, pv.ownBlock = some g → g < w.heap.size := fun g e => (hx.hp.lt g e).2
    have hpl' : ∀ g, pv'.ownBlock = some g → g < w.heap.size := fun g e => (hx'.hp.lt g e).2
    obtain ⟨nn, hnn⟩ : ∃ nn, S.dur.length = nn := ⟨_, rfl⟩
    have hmost := hok.most
    have h2 : ∀ wr, Below w.heap.size w wr → (fun w' => w'.cell? ⟨b, 1, none⟩ = some (.map (some m)) ∧ w'.cell? ⟨b', 1, none⟩ = some (.map (some m')) ∧ MapIs w' m S.dur.length zeros (fun i => S.dur.getD i zeros) ∧ MapIs w' m' S.dur.length zeros (fun i => S'.dur.getD i zeros)) wr := fun wr hB => ⟨(hB.cell (p := ⟨b, 1, none⟩) hbl).trans c1, (hB.cell (p := ⟨b', 1, none⟩) hbl').trans e1, hM.kept (hB.block m hml), hM'.kept (hB.block m' hml')⟩
    have h3 : ∀ wr, Below w.heap.size w wr → (fun w' => w'.cell? ⟨b, 2, none⟩ = some pv ∧ w'.cell? ⟨b', 2, none⟩ = some pv' ∧ Below w.heap.size w w') wr := fun wr hB => ⟨(hB.cell (p := ⟨b, 2, none⟩) hbl).trans c2, (hB.cell (p := ⟨b', 2, none⟩) hbl').trans e2, hB⟩
    have hpp : ∀ x ∈ S.pend, x.1 < 1000000 ∧ x.2.length = 256 := fun x hh => ⟨by have := (hok.pend x hh).1; have := hok.most; omega, (hok.pend x hh).2⟩
    have hpp' : ∀ x ∈ S'.pend, x.1 < 1000000 ∧ x.2.length = 256 := fun x hh => ⟨by have := (hok'.pend x hh).1; have := hok'.most; omega, (hok'.pend x hh).2⟩
    have hq : ∀ w2, Below w.heap.size w w2 → Calls Try.prog 53 #[pv, pv'] w2 fun e w' => e = .returned (.bool (decide (S.pend = S'.pend))) ∧ Below w2.heap.size w2 w' :=
      fun w2 hB => SlEqual_any pv pv' S.pend S'.pend hpp hpp' (hP.below hpl hB) (hP'.below hpl' hB) hlen hlen'
    have hd0 : ∀ k, k < S.dur.length → (S.dur.getD k zeros).length = 256 := fun k hk => by
      rw [List.getD_eq_getElem?_getD, List.getElem?_eq_getElem hk]; exact hok.dur _ (List.getElem_mem _)
    have hd1 : ∀ k, k < S.dur.length → (S'.dur.getD k zeros).length = 256 := fun k hk => by
      rw [List.getD_eq_getElem?_getD, List.getElem?_eq_getElem (by omega)]; exact hok'.dur _ (List.getElem_mem _)
    have H2 := Lib.hid h2
    have H3 := Lib.hid h3
    have HQ := Lib.hid hq
    have HD0 := Lib.hid hd0
    have HD1 := Lib.hid hd1
    have HN := Lib.hid hn'
    have HLIM := Lib.hid hlim
    have HDN := Lib.hid hd
    clear hnn h2 h3 hq hd0 hd1 hn' hlim hd hn hs hl hne hM hM' hP hP' hpl hpl' hpp hpp' hok hok' hx hx' f f'
    go_enter Try.func32, Try.ntmps32
    go_wp2_with fail
    go_quiet (fail)
    obtain ⟨wq, hwq⟩ : ∃ wq, w.drewN nq = wq := ⟨_, rfl⟩
    have hbq : Below w.heap.size w wq := hwq ▸ below_drewN _ _
    rw [hwq]
    have c0 := (hbq.cell (p := ⟨b, 0, none⟩) hbl).trans c0
    have HBQ := Lib.hid hbq
    clear hwq hbq c1 c2 c3 c4 c5 c6 e0 e1 e2 e3 e4 e5 e6
    go_wp2_with fail
    go_loopw [64] (fun i wr => ∃ k : Nat, k ≤ S.dur.length ∧ i = .int .i64 (k : Int) ∧ sameD S.dur S'.dur k ∧ Below w.heap.size w wr) (fun i _ => S.dur.length - (intOf i).toNat)
    case atStart => exact ⟨0, Nat.zero_le _, rfl, fun i hi => by omega, HBQ.out⟩
    case round =>
      obtain ⟨k, hk, rfl, hs, hB⟩ := hrel
      have HS := Lib.hid hs
      have HB := Lib.hid hB
      clear hs hB
      by_cases hlt : k < S.dur.length
      · have hs8 := H2.out wr.drew HB.out.drew
        have hneq := neq_contents (HD0.out k hlt) (HD1.out k hlt)
        have HS8 := Lib.hid hs8
        have HNEQ := Lib.hid hneq
        clear hs8 hneq
        go_wp2_with fail
        refine wp_region_noPanic ?_
        refine wp_region_G [] (fun w' => w'.cell? ⟨b, 1, none⟩ = some (.map (some m)) ∧ w'.cell? ⟨b', 1, none⟩ = some (.map (some m')) ∧ MapIs w' m S.dur.length zeros (fun i => S.dur.getD i zeros) ∧ MapIs w' m' S.dur.length zeros (fun i => S'.dur.getD i zeros)) (by kernel_rfl) ?_
        have hS0 : (fun w' => w'.cell? ⟨b, 1, none⟩ = some (.map (some m)) ∧ w'.cell? ⟨b', 1, none⟩ = some (.map (some m')) ∧ MapIs w' m S.dur.length zeros (fun i => S.dur.getD i zeros) ∧ MapIs w' m' S.dur.length zeros (fun i => S'.dur.getD i zeros)) wr.drew := HS8.out
        refine wpAnyG_take (i := 0) (v := ?v1) rfl (by kernel_rfl) (by kernel_rfl) (by kernel_rfl) (by kernel_rfl) (fun _ _ _ h => h) (yieldsIf_run rfl (fun w' hw' => ?y1)) hS0 ?_
        case y1 => first | (go_simp; rfl) | (go_simp; done) | rfl
        simp only [Act.put, List.setIfInBounds_toArray, List.set_cons_zero, List.set_cons_succ]
        refine wpAnyG_take (i := 1) (v := ?v2) rfl (by kernel_rfl) (by kernel_rfl) (by kernel_rfl) (by kernel_rfl) (fun _ _ _ h => h) (yieldsIf_run rfl (fun w' hw' => ?y2)) hS0 ?_
        case y2 => first | (go_simp; rfl) | (go_simp; done) | rfl
        simp only [Act.put, List.setIfInBounds_toArray, List.set_cons_zero, List.set_cons_succ]
        refine wpAnyG_take (i := 2) (v := ?v3) rfl (by kernel_rfl) (by kernel_rfl) (by kernel_rfl) (by kernel_rfl) (fun _ _ _ h => h) (yieldsIf_run rfl (fun w' hw' => ?y3)) hS0 ?_
        case y3 => first | (go_simp; rfl) | (go_simp; done) | rfl
        simp only [Act.put, List.setIfInBounds_toArray, List.set_cons_zero, List.set_cons_succ]
        refine wpAnyG_take (i := 3) (v := ?v4) rfl (by kernel_rfl) (by kernel_rfl) (by kernel_rfl) (by kernel_rfl) (fun _ _ _ h => h) (yieldsIf_run rfl (fun w' hw' => ?y4)) hS0 ?_
        case y4 => (have h4 := hw'.1; clear hw'; first | (go_simp; rfl) | (go_simp; done))
        simp only [Act.put, List.setIfInBounds_toArray, List.set_cons_zero, List.set_cons_succ]
        refine wpAnyG_take (i := 4) (v := ?v5) rfl (by kernel_rfl) (by kernel_rfl) (by kernel_rfl) (by kernel_rfl) (fun _ _ _ h => h) (yieldsIf_run rfl (fun w' hw' => ?y5)) hS0 ?_
        case y5 => first | (go_simp; rfl) | (go_simp; done) | rfl
        simp only [Act.put, List.setIfInBounds_toArray, List.set_cons_zero, List.set_cons_succ]
        refine wpAnyG_take (i := 5) (v := cval (S.dur.getD k zeros)) rfl (by kernel_rfl) (by kernel_rfl) (by kernel_rfl) (by kernel_rfl) (fun _ _ _ h => h) (yieldsIf_run rfl (fun w' hw' => ?y6)) hS0 ?_
        case y6 => exact run_lookup_op 75 (.tmp 70) (.tmp 71) rfl rfl rfl (hw'.2.2.1.lookup Try.underlying75 Try.underlying3 zeroLookup hlt)
        simp only [Act.put, List.setIfInBounds_toArray, List.set_cons_zero, List.set_cons_succ]
        refine wpAnyG_take (i := 6) (v := ?v7) rfl (by kernel_rfl) (by kernel_rfl) (by kernel_rfl) (by kernel_rfl) (fun _ _ _ h => h) (yieldsIf_run rfl (fun w' hw' => ?y7)) hS0 ?_
        case y7 => first | (go_simp; rfl) | (go_simp; done) | rfl
        simp only [Act.put, List.setIfInBounds_toArray, List.set_cons_zero, List.set_cons_succ]
        refine wpAnyG_take (i := 7) (v := ?v8) rfl (by kernel_rfl) (by kernel_rfl) (by kernel_rfl) (by kernel_rfl) (fun _ _ _ h => h) (yieldsIf_run rfl (fun w' hw' => ?y8)) hS0 ?_
        case y8 => first | (go_simp; rfl) | (go_simp; done) | rfl
        simp only [Act.put, List.setIfInBounds_toArray, List.set_cons_zero, List.set_cons_succ]
        refine wpAnyG_take (i := 8) (v := ?v9) rfl (by kernel_rfl) (by kernel_rfl) (by kernel_rfl) (by kernel_rfl) (fun _ _ _ h => h) (yieldsIf_run rfl (fun w' hw' => ?y9)) hS0 ?_
        case y9 => first | (go_simp; rfl) | (go_simp; done) | rfl
        simp only [Act.put, List.setIfInBounds_toArray, List.set_cons_zero, List.set_cons_succ]
        refine wpAnyG_take (i := 9) (v := ?v10) rfl (by kernel_rfl) (by kernel_rfl) (by kernel_rfl) (by kernel_rfl) (fun _ _ _ h => h) (yieldsIf_run rfl (fun w' hw' => ?y10)) hS0 ?_
        case y10 => (have h4 := hw'.2.1; clear hw'; first | (go_simp; rfl) | (go_simp; done))
        simp only [Act.put, List.setIfInBounds_toArray, List.set_cons_zero, List.set_cons_succ]
        refine wpAnyG_take (i := 10) (v := ?v11) rfl (by kernel_rfl) (by kernel_rfl) (by kernel_rfl) (by kernel_rfl) (fun _ _ _ h => h) (yieldsIf_run rfl (fun w' hw' => ?y11)) hS0 ?_
        case y11 => first | (go_simp; rfl) | (go_simp; done) | rfl
        simp only [Act.put, List.setIfInBounds_toArray, List.set_cons_zero, List.set_cons_succ]
        refine wpAnyG_take (i := 11) (v := cval (S'.dur.getD k zeros)) rfl (by kernel_rfl) (by kernel_rfl) (by kernel_rfl) (by kernel_rfl) (fun _ _ _ h => h) (yieldsIf_run rfl (fun w' hw' => ?y12)) hS0 ?_
        case y12 => exact run_lookup_op 75 (.tmp 76) (.tmp 77) rfl rfl rfl (hw'.2.2.2.lookup Try.underlying75 Try.underlying3 zeroLookup hlt)
        simp only [Act.put, List.setIfInBounds_toArray, List.set_cons_zero, List.set_cons_succ]
        refine wpAnyG_take (i := 12) (v := .bool (!decide (S.dur.getD k zeros = S'.dur.getD k zeros))) rfl (by kernel_rfl) (by kernel_rfl) (by kernel_rfl) (by kernel_rfl) (fun _ _ _ h => h) (yieldsIf_run rfl (fun w' hw' => ?y13)) hS0 ?_
        case y13 => exact op_neq 80 (.tmp 72) (.tmp 78) 80 rfl rfl rfl guard_contents (HNEQ.out w')
        simp only [Act.put, List.setIfInBounds_toArray, List.set_cons_zero, List.set_cons_succ]
        refine wpAnyG_done (by kernel_rfl) ?_ _
        refine NoPanic.normal ?_
        clear hS0
        by_cases hxy : S.dur.getD k zeros = S'.dur.getD k zeros
        · have hd : decide (S.dur.getD k zeros = S'.dur.getD k zeros) = true := by simpa using hxy
          rw [hd]
          have hs2 : sameD S.dur S'.dur (k + 1) := fun i hi => by
            by_cases h1 : i = k
            · subst h1; exact hxy
            · exact HS.out i (by omega)
          have HS2 := Lib.hid hs2
          clear hs2 hd hxy
          simp only [Bool.not_true]
          go_wp2_with fail
          go_roundw
          case rel => exact ⟨k + 1, by omega, by go_num, HS2.out, HB.out.drew⟩
          case measure => simp [intOf]; omega
        · have hd : decide (S.dur.getD k zeros = S'.dur.getD k zeros) = false := by simpa using hxy
          rw [hd]
          have hll : decide (sameDS S S') = false := by
            simp only [decide_eq_false_iff_not]
            intro e
            exact hxy (by rw [e.1])
          have HLL := Lib.hid hll
          clear hd hxy hll
          simp only [Bool.not_false]
          go_wp2_with fail
          go_ret
          exact ⟨by rw [HLL.out]; rfl, HB.out.drew⟩
      · obtain rfl : k = S.dur.length := by omega
        have hll : decide (S.pend = S'.pend) = decide (sameDS S S') := by
          have hdd : S.dur = S'.dur := by
            apply List.ext_getElem (HN.out.symm)
            intro i h1 h2
            have := HS.out i h1
            rwa [List.getD_eq_getElem?_getD, List.getD_eq_getElem?_getD, List.getElem?_eq_getElem h1, List.getElem?_eq_getElem h2] at this
          simp only [sameDS, hdd, HLIM.out, HDN.out, true_and, and_true]
        have HLL := Lib.hid hll
        have hs11 := H3.out wr.drew HB.out.drew
        have HS11 := Lib.hid hs11
        clear hll hs11
        go_wp2_with fail
        refine wp_region_noPanic ?_
        refine wp_region_G [9] (fun w' => w'.cell? ⟨b, 2, none⟩ = some pv ∧ w'.cell? ⟨b', 2, none⟩ = some pv' ∧ Below w.heap.size w w') (by kernel_rfl) ?_
        have hS0 : (fun w' => w'.cell? ⟨b, 2, none⟩ = some pv ∧ w'.cell? ⟨b', 2, none⟩ = some pv' ∧ Below w.heap.size w w') wr.drew := HS11.out
        refine wpAnyG_take (i := 0) (v := ?v14) rfl (by kernel_rfl) (by kernel_rfl) (by kernel_rfl) (by kernel_rfl) (fun _ _ _ h => h) (yieldsIf_run rfl (fun w' hw' => ?y14)) hS0 ?_
        case y14 => first | (go_simp; rfl) | (go_simp; done) | rfl
        simp only [Act.put, List.setIfInBounds_toArray, List.set_cons_zero, List.set_cons_succ]
        refine wpAnyG_take (i := 1) (v := ?v15) rfl (by kernel_rfl) (by kernel_rfl) (by kernel_rfl) (by kernel_rfl) (fun _ _ _ h => h) (yieldsIf_run rfl (fun w' hw' => ?y15)) hS0 ?_
        case y15 => first | (go_simp; rfl) | (go_simp; done) | rfl
        simp only [Act.put, List.setIfInBounds_toArray, List.set_cons_zero, List.set_cons_succ]
        refine wpAnyG_take (i := 2) (v := ?v16) rfl (by kernel_rfl) (by kernel_rfl) (by kernel_rfl) (by kernel_rfl) (fun _ _ _ h => h) (yieldsIf_run rfl (fun w' hw' => ?y16)) hS0 ?_
        case y16 => first | (go_simp; rfl) | (go_simp; done) | rfl
        simp only [Act.put, List.setIfInBounds_toArray, List.set_cons_zero, List.set_cons_succ]
        refine wpAnyG_take (i := 3) (v := ?v17) rfl (by kernel_rfl) (by kernel_rfl) (by kernel_rfl) (by kernel_rfl) (fun _ _ _ h => h) (yieldsIf_run rfl (fun w' hw' => ?y17)) hS0 ?_
        case y17 => (have h4 := hw'.1; clear hw'; first | (go_simp; rfl) | (go_simp; done))
        simp only [Act.put, List.setIfInBounds_toArray, List.set_cons_zero, List.set_cons_succ]
        refine wpAnyG_take (i := 4) (v := ?v18) rfl (by kernel_rfl) (by kernel_rfl) (by kernel_rfl) (by kernel_rfl) (fun _ _ _ h => h) (yieldsIf_run rfl (fun w' hw' => ?y18)) hS0 ?_
        case y18 => first | (go_simp; rfl) | (go_simp; done) | rfl
        simp only [Act.put, List.setIfInBounds_toArray, List.set_cons_zero, List.set_cons_succ]
        refine wpAnyG_take (i := 5) (v := ?v19) rfl (by kernel_rfl) (by kernel_rfl) (by kernel_rfl) (by kernel_rfl) (fun _ _ _ h => h) (yieldsIf_run rfl (fun w' hw' => ?y19)) hS0 ?_
        case y19 => first | (go_simp; rfl) | (go_simp; done) | rfl
        simp only [Act.put, List.setIfInBounds_toArray, List.set_cons_zero, List.set_cons_succ]
        refine wpAnyG_take (i := 6) (v := ?v20) rfl (by kernel_rfl) (by kernel_rfl) (by kernel_rfl) (by kernel_rfl) (fun _ _ _ h => h) (yieldsIf_run rfl (fun w' hw' => ?y20)) hS0 ?_
        case y20 => first | (go_simp; rfl) | (go_simp; done) | rfl
        simp only [Act.put, List.setIfInBounds_toArray, List.set_cons_zero, List.set_cons_succ]
        refine wpAnyG_take (i := 7) (v := ?v21) rfl (by kernel_rfl) (by kernel_rfl) (by kernel_rfl) (by kernel_rfl) (fun _ _ _ h => h) (yieldsIf_run rfl (fun w' hw' => ?y21)) hS0 ?_
        case y21 => (have h4 := hw'.2.1; clear hw'; first | (go_simp; rfl) | (go_simp; done))
        simp only [Act.put, List.setIfInBounds_toArray, List.set_cons_zero, List.set_cons_succ]
        refine wpAnyG_do (i := 8) (by kernel_rfl) rfl rfl (fun K hK => ?_)
        go_simp
        refine (HQ.out wr.drew HB.out.drew).mono ?_
        rintro e w2 ⟨rfl, hb2⟩
        have hB2 : Below w.heap.size w w2 := HB.out.drew.trans (hb2.mono HB.out.drew.size)
        have hs2 := H3.out w2 hB2
        refine hK _ _ hs2 ?_
        clear hK K
        try simp only [Act.put, List.setIfInBounds_toArray, List.set_cons_zero, List.set_cons_succ]
        refine wpAnyG_fin (i := 9) (by kernel_rfl) rfl rfl (by kernel_rfl) (fun K hK => ?_)
        go_simp
        refine hK _ _ ?_
        clear hK K
        try simp only [Act.put, List.setIfInBounds_toArray, List.set_cons_zero, List.set_cons_succ]
        refine wpAnyG_done (by kernel_rfl) ?_ _
        refine NoPanic.normal ?_
        clear hS0

        go_wp2_with fail
        go_ret
        exact ⟨by rw [← HLL.out]; rfl, hB2⟩

set_option maxRecDepth 100000 in
theorem Equal_nil {w : World} (b : Nat) : Calls Try.prog 32 #[.pointer (some ⟨b, 0, none⟩), .pointer none] w fun e w' => e = .returned (.bool false) ∧ w' = w := by
  go_enter Try.func32, Try.ntmps32
  go_wp2_with fail
  go_ret
  exact ⟨rfl, rfl⟩

end Go.Proofs.Ytkklbmnbjmicnaa
