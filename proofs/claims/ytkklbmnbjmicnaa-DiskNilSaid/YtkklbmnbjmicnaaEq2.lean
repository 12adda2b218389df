/- slices.Equal over pending writes; (*Disk).Equal. -/
import Derived.Test.YtkklbmnbjmicnaaEq1
import Derived.Test.YtkklbmnbjmicnaaRegion2
import Derived.Test.YtkklbmnbjmicnaaView
namespace Go.Proofs.Ytkklbmnbjmicnaa
open Go.RowKit Go.Shelf
set_option linter.unusedVariables false
set_option linter.unusedSimpArgs false

/-- A comparison of two aggregates, as an operation. -/
theorem op_neq {P : Program} {w : World} {ρ : Operand → Value} {o : Oper} {xs ys : Array Value} {b : Bool} (t : TypeId) (x y : Operand) (u : TypeId) (ho : o.op = .binOp .neq t x y u) (hx : ρ x = .agg xs) (hy : ρ y = .agg ys) (hg : P.eqGuardType P.depth t = false)
    (h : (binOp .neq t (.agg xs) (.agg ys)).run P w = .ok (.bool b) w) : (execOp ρ o).run P w = .ok (.value (.bool b)) w := by
  unfold execOp
  simp only [ho, hx, hy, Sem.run_bind, run_eqGuard_agg w .neq t x y xs ys hg, h, Result.andThen_ok]
  rfl

def sameTo (l l' : List (Nat × List UInt8)) (k : Nat) : Prop := ∀ i, i < k → l[i]? = l'[i]?

set_option maxRecDepth 100000 in
set_option maxHeartbeats 2000000 in
theorem SlEqual_any {w : World} (pv pv' : Value) (l l' : List (Nat × List UInt8)) (hl : ∀ x ∈ l, x.1 < 1000000 ∧ x.2.length = 256) (hl' : ∀ x ∈ l', x.1 < 1000000 ∧ x.2.length = 256) (h : PendAt w pv l) (h' : PendAt w pv' l') (hlen : l.length < 1000000) (hlen' : l'.length < 1000000) :
    Calls Try.prog 53 #[pv, pv'] w fun e w' => e = .returned (.bool (decide (l = l'))) ∧ Below w.heap.size w w' := by
  have hpv : ∃ a cap, pv = .slice a l.length cap := by
    rcases h with ⟨rfl, rfl⟩ | ⟨g, cap, rfl, _⟩
    · exact ⟨none, 0, rfl⟩
    · exact ⟨_, _, rfl⟩
  have hpv' : ∃ a cap, pv' = .slice a l'.length cap := by
    rcases h' with ⟨rfl, rfl⟩ | ⟨g, cap, rfl, _⟩
    · exact ⟨none, 0, rfl⟩
    · exact ⟨_, _, rfl⟩
  obtain ⟨a, cap, rfl⟩ := hpv
  obtain ⟨a', cap', rfl⟩ := hpv'
  have H := Lib.hid h
  have H' := Lib.hid h'
  have HL := Lib.hid hl
  have HL' := Lib.hid hl'
  clear h h' hl hl'
  by_cases hne : l.length = l'.length
  · have HNE := Lib.hid hne
    rw [← hne]
    clear hne hlen'
    go_enter Try.func53, Try.ntmps53
    go_wp2_with fail
    go_loopw [13] (fun i wr => ∃ k : Nat, k ≤ l.length ∧ i = .int .i64 (k : Int) ∧ sameTo l l' k ∧ Below w.heap.size w wr) (fun i _ => l.length - (intOf i).toNat)
    case atStart => exact ⟨0, Nat.zero_le _, rfl, fun i hi => by omega, Below.refl _ _⟩
    case round =>
      obtain ⟨k, hk, rfl, hs, hB⟩ := hrel
      have HS := Lib.hid hs
      have HB := Lib.hid hB
      clear hs hB
      by_cases hlt : k < l.length
      · have hlt' : k < l'.length := by have := HNE.out; omega
        obtain ⟨g, c, e, hg, hr⟩ : ∃ g c, (Value.slice a l.length cap) = .slice (some ⟨g, 0, none⟩) l.length c ∧ g < w.heap.size ∧ ∀ i (h : i < l.length), w.rangeAt g (i * 257) (wcells l[i]) := by
          rcases H.out with ⟨_, e2⟩ | ⟨g, c, e, hg, hr⟩
          · rw [e2] at hlt; simp at hlt
          · exact ⟨g, c, e, hg, hr⟩
        obtain ⟨g', c', e', hg', hr'⟩ : ∃ g c, (Value.slice a' l'.length cap') = .slice (some ⟨g, 0, none⟩) l'.length c ∧ g < w.heap.size ∧ ∀ i (h : i < l'.length), w.rangeAt g (i * 257) (wcells l'[i]) := by
          rcases H'.out with ⟨_, e2⟩ | ⟨g, c, e, hg, hr⟩
          · rw [e2] at hlt'; simp at hlt'
          · exact ⟨g, c, e, hg, hr⟩
        simp only [Value.slice.injEq] at e e'
        obtain ⟨rfl, _, rfl⟩ := e
        obtain ⟨rfl, _, rfl⟩ := e'
        obtain ⟨x, hx⟩ : ∃ x, l[k] = x := ⟨_, rfl⟩
        obtain ⟨y, hy⟩ : ∃ y, l'[k] = y := ⟨_, rfl⟩
        have r1 := hr k hlt
        have r2 := hr' k hlt'
        rw [hx] at r1
        rw [hy] at r2
        have hxm := HL.out x (hx ▸ List.getElem_mem hlt)
        have hym := HL'.out y (hy ▸ List.getElem_mem hlt')
        have hss : (fun w' => w'.rangeAt g (k * 257) (wcells x) ∧ w'.rangeAt g' (k * 257) (wcells y)) wr := ⟨fun j v hv => (HB.out.cell (p := ⟨g, k * 257 + j, none⟩) hg).trans (r1 j v hv), fun j v hv => (HB.out.cell (p := ⟨g', k * 257 + j, none⟩) hg').trans (r2 j v hv)⟩
        have HSS := Lib.hid hss
        have hsx : (Try.prog.info? 82).map (·.size) = some (wcells x).length := by rw [wcells_length hxm.2]; exact sizeWrite
        have hsy : (Try.prog.info? 82).map (·.size) = some (wcells y).length := by rw [wcells_length hym.2]; exact sizeWrite
        have HSX := Lib.hid hsx
        have HSY := Lib.hid hsy
        have hneq := neq_write hxm.1 hxm.2 hym.1 hym.2
        have HNEQ := Lib.hid hneq
        have hxe : l[k]? = some x := by rw [List.getElem?_eq_getElem hlt, hx]
        have hye : l'[k]? = some y := by rw [List.getElem?_eq_getElem hlt', hy]
        have HX := Lib.hid hxe
        have HY := Lib.hid hye
        clear hr hr' hx hy r1 r2 hxm hym hss hsx hsy hneq hg hg' hxe hye
        go_wp2_with fail
        refine wp_region_noPanic ?_
        refine wp_region_G [] (fun w' => w'.rangeAt g (k * 257) (wcells x) ∧ w'.rangeAt g' (k * 257) (wcells y)) (by kernel_rfl) ?_
        have hS0 : (fun w' => w'.rangeAt g (k * 257) (wcells x) ∧ w'.rangeAt g' (k * 257) (wcells y)) wr.drew := HSS.out
        refine wpAnyG_take (i := 0) (v := ?v1) rfl (by kernel_rfl) (by kernel_rfl) (by kernel_rfl) (by kernel_rfl) (fun _ _ _ h => h) (yieldsIf_run rfl (fun w' hw' => ?y1)) hS0 ?_
        case y1 => first | (go_simp; rfl) | (go_simp; done) | rfl
        simp only [Act.put, List.setIfInBounds_toArray, List.set_cons_zero, List.set_cons_succ]
        refine wpAnyG_take (i := 1) (v := ?v2) rfl (by kernel_rfl) (by kernel_rfl) (by kernel_rfl) (by kernel_rfl) (fun _ _ _ h => h) (yieldsIf_run rfl (fun w' hw' => ?y2)) hS0 ?_
        case y2 => first | (go_simp; rfl) | (go_simp; done) | rfl
        simp only [Act.put, List.setIfInBounds_toArray, List.set_cons_zero, List.set_cons_succ]
        refine wpAnyG_take (i := 2) (v := ?v3) rfl (by kernel_rfl) (by kernel_rfl) (by kernel_rfl) (by kernel_rfl) (fun _ _ _ h => h) (yieldsIf_run rfl (fun w' hw' => ?y3)) hS0 ?_
        case y3 => first | (go_simp; rfl) | (go_simp; done) | rfl
        simp only [Act.put, List.setIfInBounds_toArray, List.set_cons_zero, List.set_cons_succ]
        refine wpAnyG_take (i := 3) (v := .agg (wcells x).toArray) rfl (by kernel_rfl) (by kernel_rfl) (by kernel_rfl) (by kernel_rfl) (fun _ _ _ h => h) (yieldsIf_run rfl (fun w' hw' => ?y4)) hS0 ?_
        case y4 => exact run_load_op 82 (.tmp 18) g (k * 257) (wcells x) _ rfl rfl hw'.1 Try.underlying82 rfl HSX.out
        simp only [Act.put, List.setIfInBounds_toArray, List.set_cons_zero, List.set_cons_succ]
        refine wpAnyG_take (i := 4) (v := ?v5) rfl (by kernel_rfl) (by kernel_rfl) (by kernel_rfl) (by kernel_rfl) (fun _ _ _ h => h) (yieldsIf_run rfl (fun w' hw' => ?y5)) hS0 ?_
        case y5 => first | (go_simp; rfl) | (go_simp; done) | rfl
        simp only [Act.put, List.setIfInBounds_toArray, List.set_cons_zero, List.set_cons_succ]
        refine wpAnyG_take (i := 5) (v := ?v6) rfl (by kernel_rfl) (by kernel_rfl) (by kernel_rfl) (by kernel_rfl) (fun _ _ _ h => h) (yieldsIf_run rfl (fun w' hw' => ?y6)) hS0 ?_
        case y6 => first | (go_simp; rfl) | (go_simp; done) | rfl
        simp only [Act.put, List.setIfInBounds_toArray, List.set_cons_zero, List.set_cons_succ]
        refine wpAnyG_take (i := 6) (v := ?v7) rfl (by kernel_rfl) (by kernel_rfl) (by kernel_rfl) (by kernel_rfl) (fun _ _ _ h => h) (yieldsIf_run rfl (fun w' hw' => ?y7)) hS0 ?_
        case y7 => first | (go_simp; rfl) | (go_simp; done) | rfl
        simp only [Act.put, List.setIfInBounds_toArray, List.set_cons_zero, List.set_cons_succ]
        refine wpAnyG_take (i := 7) (v := .agg (wcells y).toArray) rfl (by kernel_rfl) (by kernel_rfl) (by kernel_rfl) (by kernel_rfl) (fun _ _ _ h => h) (yieldsIf_run rfl (fun w' hw' => ?y8)) hS0 ?_
        case y8 => exact run_load_op 82 (.tmp 22) g' (k * 257) (wcells y) _ rfl rfl hw'.2 Try.underlying82 rfl HSY.out
        simp only [Act.put, List.setIfInBounds_toArray, List.set_cons_zero, List.set_cons_succ]
        refine wpAnyG_take (i := 8) (v := .bool (!decide (x = y))) rfl (by kernel_rfl) (by kernel_rfl) (by kernel_rfl) (by kernel_rfl) (fun _ _ _ h => h) (yieldsIf_run rfl (fun w' hw' => ?y9)) hS0 ?_
        case y9 => exact op_neq 82 (.tmp 19) (.tmp 23) 82 rfl rfl rfl guard_write (HNEQ.out w')
        simp only [Act.put, List.setIfInBounds_toArray, List.set_cons_zero, List.set_cons_succ]
        refine wpAnyG_done (by kernel_rfl) ?_ _
        refine NoPanic.normal ?_
        clear hS0
        by_cases hxy : x = y
        · have hd : decide (x = y) = true := by simpa using hxy
          rw [hd]
          have hs2 : sameTo l l' (k + 1) := fun i hi => by
            by_cases h1 : i = k
            · subst h1; rw [HX.out, HY.out, hxy]
            · exact HS.out i (by omega)
          have HS2 := Lib.hid hs2
          have HB2 := Lib.hid (HB.out.trans (Below.drewN' wr 1 _))
          clear hs2 hd hxy
          simp only [Bool.not_true]
          go_wp2_with fail
          go_roundw
          case rel => exact ⟨k + 1, by omega, by go_num, HS2.out, HB.out.drew⟩
          case measure => simp [intOf]; omega
        · have hd : decide (x = y) = false := by simpa using hxy
          rw [hd]
          have hll : decide (l = l') = false := by
            simp only [decide_eq_false_iff_not]
            intro e
            subst e
            have := HX.out.symm.trans HY.out
            exact hxy (Option.some.inj this)
          have HLL := Lib.hid hll
          clear hd hxy hll
          simp only [Bool.not_false]
          go_wp2_with fail
          go_ret
          exact ⟨by rw [HLL.out]; rfl, HB.out.drew⟩
      · obtain rfl : k = l.length := by omega
        have hll : decide (l = l') = true := by
          simp only [decide_eq_true_iff]
          apply List.ext_getElem?
          intro i
          by_cases hi : i < l.length
          · exact HS.out i hi
          · rw [List.getElem?_eq_none (by omega), List.getElem?_eq_none (by have := HNE.out; omega)]
        have HLL := Lib.hid hll
        clear hll
        go_wp2_with fail
        go_ret
        exact ⟨by rw [HLL.out]; rfl, HB.out⟩
  · have hb : ((l.length : Int) != (l'.length : Int)) = true := by simp; omega
    have hn : ¬ (l.length : Int) = (l'.length : Int) := by omega
    have hll : decide (l = l') = false := by
      simp only [decide_eq_false_iff_not]
      intro e
      subst e
      exact hne rfl
    rw [hll]
    clear hll hne
    go_enter Try.func53, Try.ntmps53
    go_wp2_with fail
    go_ret
    exact ⟨rfl, Below.refl _ _⟩

end Go.Proofs.Ytkklbmnbjmicnaa
