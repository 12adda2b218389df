/- slices.Clone at []byte and at the pending writes. -/
import Derived.Test.YtkklbmnbjmicnaaDisk7
import Derived.Lib.Walk
import Derived.Lib.SliceRun
import Derived.Shelf.RegionOpenPlain
import Derived.Shelf.Slices.Clone
namespace Go.Proofs.Ytkklbmnbjmicnaa
open Go.RowKit Go.Shelf Go.Lib
set_option linter.unusedVariables false
set_option linter.unusedSimpArgs false

theorem infoByte : (Try.prog.info? 5).map (fun i => (i.zero, i.size, i.bytes)) = some (some (.int .u8 0), 1, 1) := by kernel_rfl

theorem addr_add_none (g off j : Nat) : (⟨g, off, none⟩ : Addr).add j = ⟨g, off + j, none⟩ := by unfold Addr.add; split <;> simp_all

set_option maxRecDepth 100000 in
set_option maxHeartbeats 2000000 in
/-- slices.Clone of a slice of bytes that is not nil: the same bytes, in memory of the call's own. -/
theorem CloneB_any {w : World} (g off : Nat) (n cap : Nat) (l : List UInt8) (hr : w.rangeAt g off (bvs l)) (hg : g < w.heap.size) (hn : l.length = n) (hlen : n ≤ 140737488355328) :
    Calls Try.prog 37 #[.slice (some ⟨g, off, none⟩) n cap] w fun e w' => ∃ v', e = .returned v' ∧ w'.ownsRow w.heap.size 5 1 v' n (bvs l) ∧ v' ≠ .slice none 0 0 ∧ Below w.heap.size w w' := by
  obtain ⟨i0, hi, hz0, hz1, hz2⟩ := info_parts infoByte
  have q22 : ∀ (w : World) (a : Option Addr) (n c n' c' : Nat), (binOp .eql 30 (.slice a n c) (.slice none n' c')).run Try.prog w = .ok (.bool a.isNone) w := fun w a n c n' c' => Lib.run_eql_slice_nil w _ _ a n c n' c' Try.underlying30
  have HR := Lib.hid hr
  have HG := Lib.hid hg
  have HN := Lib.hid hn
  clear hr hg hn
  go_enter Try.func37, Try.ntmps37
  go_wp2_with (at_builtin; refine wpList_append_own _ rfl _ _ 30 rfl w.heap.size 5 i0 (.int .u8 0) 1 1 Try.underlying30 hi hz0 hz1 hz2 rfl (by decide) _ _ _ rfl (World.ownsRow_made w #[] 0 (Nat.le_refl _) (Nat.zero_le _) rfl) ⟨g, off, none⟩ n cap (bvs l) rfl ?qc1 ?qc2 ?qc3 ?qc4 ?qc5 ?qc6 ?_)
  case qc1 => rw [bvs_length, HN.out]; omega
  case qc2 =>
    intro j u hj
    rw [addr_add_none]
    exact (World.cell?_of_block (Below.heap_alloc w _ g HG.out)).trans (HR.out j u hj)
  case qc3 => exact bvs_oneCell
  case qc4 => unfold maxLen; omega
  case qc5 => omega
  case qc6 => simp
  intro v' w1 hown hgrow hnil
  go_wp2
  go_ret
  refine ⟨v', rfl, by simpa using hown, hnil, ?_⟩
  exact ((Below.refl _ w).alloc (Nat.le_refl _) _).grown hgrow (by simp) (by intro k hk; simp [Value.ownBlock] at hk; omega)

theorem oneCell_prow {l : List (Nat × List UInt8)} : ∀ v ∈ prow l, v.oneCell' = true := by
  intro v hv
  obtain ⟨x, _, hx⟩ := List.mem_flatMap.1 hv
  rcases List.mem_cons.1 hx with rfl | h
  · rfl
  · exact bvs_oneCell v h

set_option maxRecDepth 100000 in
set_option maxHeartbeats 2000000 in
/-- slices.Clone of the pending writes: the same writes, in memory of the call's own. -/
theorem ClonePend_any {w : World} {F : Nat → Prop} (pv : Value) (l : List (Nat × List UInt8)) (hl : ∀ x ∈ l, x.2.length = 256) (h : w.ownsRow 0 82 257 pv l.length (prow l)) (hF : ∀ g, pv.ownBlock = some g → F g) (hlen : l.length ≤ 100000000) :
    Calls Try.prog 46 #[pv] w fun e w' => ∃ v', e = .returned v' ∧ w'.ownsRow w.heap.size 82 257 v' l.length (prow l) ∧ Below w.heap.size w w' := by
  obtain ⟨i0, hi, hz0, hz1, hz2⟩ := info_parts infoWriteB
  have q22 : ∀ (w : World) (a : Option Addr) (n c n' c' : Nat), (binOp .eql 76 (.slice a n c) (.slice none n' c')).run Try.prog w = .ok (.bool a.isNone) w := fun w a n c n' c' => Lib.run_eql_slice_nil w _ _ a n c n' c' Try.underlying76
  have hplen : (prow l).length = l.length * 257 := prow_length hl
  have HPL := Lib.hid hplen
  have HL := Lib.hid hl
  clear hplen hl
  rcases h.2 with ⟨rfl, h0⟩ | ⟨g, cap, cur, rfl, hbg, hg, hcap, hsz, hcs, htake⟩
  · obtain rfl := List.eq_nil_of_length_eq_zero h0
    clear h
    go_enter Try.func46, Try.ntmps46
    go_wp2
    go_ret
    exact ⟨_, rfl, World.ownsRow_nil _ _ _ _, Below.refl _ _⟩
  · have hgs : g < w.heap.size := (Array.getElem?_eq_some_iff.1 hg).1
    have hr : w.rangeAt g 0 (prow l) := fun j u hj => by
      rw [cell_of_row w g _ cur _ _ hg, Nat.zero_add]
      rw [← htake, List.getElem?_take] at hj
      split at hj
      · simpa using hj
      · cases hj
    have HR := Lib.hid hr
    have HG := Lib.hid hgs
    clear h hg hcap hsz hcs htake hbg hr hgs
    go_enter Try.func46, Try.ntmps46
    go_wp2_with (at_builtin; refine wpList_append_own _ rfl _ _ 76 rfl w.heap.size 82 i0 _ 257 264 Try.underlying76 hi hz0 hz1 hz2 (by rw [agg_cells, List.size_toArray]; exact wcells_length zeros_length) (by decide) _ _ _ rfl (World.ownsRow_made w #[] 0 (Nat.le_refl _) (Nat.zero_le _) rfl) ⟨g, 0, none⟩ l.length cap (prow l) rfl ?qc1 ?qc2 ?qc3 ?qc4 ?qc5 ?qc6 ?_)
    case qc1 => exact HPL.out
    case qc2 =>
      intro j u hj
      rw [addr_add_none]
      exact (World.cell?_of_block (Below.heap_alloc w _ g HG.out)).trans (HR.out j u hj)
    case qc3 => exact oneCell_prow
    case qc4 => unfold maxLen; omega
    case qc5 => omega
    case qc6 => simp
    intro v' w1 hown hgrow hnil
    go_wp2
    go_ret
    refine ⟨v', rfl, by simpa using hown, ?_⟩
    exact ((Below.refl _ w).alloc (Nat.le_refl _) _).grown hgrow (by simp) (by intro k hk; simp [Value.ownBlock] at hk; omega)

end Go.Proofs.Ytkklbmnbjmicnaa
