/- Visibility: the limit of an article; a set of identities. -/
import Derived.Test.YtjjanjhoaiannaaRowm
import Derived.IntWalk
namespace Go.Proofs.Ytjjanjhoaiannaa
open Go.RowKit
set_option linter.unusedVariables false
set_option linter.unusedSimpArgs false

set_option maxRecDepth 100000 in
set_option maxHeartbeats 1000000 in
theorem Until_any {w : World} (R : RowV) (h0 : 0 ≤ R.date) (h1 : R.date ≤ 105190559) :
    Calls Try.prog 26 #[rowv R] w fun e w' => e = .returned (.int .i64 (R.date + 2880)) ∧ Below w.heap.size w w' := by
  obtain ⟨w1, hw1⟩ : ∃ w1, w.alloc (.cells R.cells.toArray 36) = w1 := ⟨_, rfl⟩
  have hb1 : Below w.heap.size w w1 := hw1 ▸ (Below.refl _ w).alloc (Nat.le_refl _) _
  have hx1 : w1.heap[w.heap.size]? = some (.cells R.cells.toArray 36 (0, 0)) := by rw [← hw1]; exact heap_alloc_new _ _
  have hd := (row_mid (range_block hx1)).1
  rw [Nat.zero_add] at hd
  obtain ⟨d, hde⟩ : ∃ d, R.date = d := ⟨_, rfl⟩
  rw [hde] at hd h0 h1 ⊢
  have HB := Lib.hid hb1
  unfold rowv
  clear hb1 hx1 hde
  go_enter Try.func26, Try.ntmps26
  go_wp2_with fail
  go_ret
  exact ⟨rfl, HB.out⟩

theorem mkMap {t kt et : TypeId} (hu : Try.prog.underlying t = some (.map kt et)) (n : Int) (w : World) : (Instr.makeMap t (some (.int .i64 n))).run Try.prog w = .ok (.map (some w.heap.size)) (w.alloc (.map #[] 0)) := by
  unfold Instr.makeMap
  simp only [Sem.run_bind, run_underlying hu, Result.andThen_ok, asInt, Sem.run_pure]
  rfl

def setF (L : List IdB) (k : IdB) : Option Value := if k ∈ L then some (.bool true) else none
set_option maxRecDepth 100000 in
set_option maxHeartbeats 2000000 in
theorem setOf_any {w : World} (v : Value) (L : List IdB) (hv : ListAt idE w v L) (hl : L.length < 1000000000) :
    Calls Try.prog 29 #[v] w fun e w' => ∃ b, e = .returned (.map (some b)) ∧ w.heap.size ≤ b ∧ KMap idKey w' b (setF L) ∧ Below w.heap.size w w' := by
  obtain ⟨va, vc, rfl⟩ := hv.form
  obtain ⟨N, hN⟩ : ∃ N, L.length = N := ⟨_, rfl⟩
  rw [hN] at hv hl ⊢
  have HV := Lib.hid hv
  have HN := Lib.hid hN
  have hNI0 : (0 : Int) ≤ (N : Int) := by omega
  clear hv hN
  have hmk := fun n w => mkMap Try.underlying64 n w
  go_enter Try.func29, Try.ntmps29
  go_wp2_with fail
  go_loopw [11] (fun iv wr => ∃ i : Nat, i ≤ N ∧ iv = .int .i64 (i : Int) ∧ KMap idKey wr w.heap.size (setF (L.take i)) ∧ Below w.heap.size w wr) (fun iv _ => N - (intOf iv).toNat)
  case atStart => exact ⟨0, Nat.zero_le _, rfl, (KMap.new w).ext (fun k => by simp [setF]), (Below.refl _ _).alloc (Nat.le_refl _) _⟩
  case round =>
    obtain ⟨i, hi, rfl, hm, hB⟩ := hrel
    have HM := Lib.hid hm
    have HB := Lib.hid hB
    clear hm hB
    by_cases hlt : i < N
    · have hiI : (i : Int) < (N : Int) := by omega
      have hiI0 : (0 : Int) ≤ (i : Int) := by omega
      obtain ⟨g, off, rfl, hg, hr⟩ := (HV.out.below HB.out).get (i := i) (by rw [HN.out]; exact hlt)
      obtain ⟨q, hq⟩ : ∃ q, L[i]'(by rw [HN.out]; exact hlt) = q := ⟨_, rfl⟩
      rw [hq] at hr
      have hr' : wr.rangeAt g (off + i * 32) (bvs q.1) := hr
      obtain ⟨wz, w1, hwz, hnz, hst, hx1, hb1, hs1, hbz⟩ := newId wr q
      have hr1 := range_block hx1
      obtain ⟨w2, hup, hm2, hc2⟩ := (HM.out.below hb1).upd Try.underlying64 q (.bool true)
      have hb2 : Below w.heap.size w w2 := (HB.out.trans (hb1.mono HB.out.size)).trans (hc2.below (fun k e => Nat.le_of_eq (show k = _ from e).symm) (Nat.le_trans HB.out.size hb1.size))
      have hset : ∀ k, (if k = q then some (.bool true) else setF (L.take i) k) = setF (L.take (i + 1)) k := fun k => by
        unfold setF
        rw [List.take_succ_eq_append_getElem (by rw [HN.out]; exact hlt), hq]
        by_cases hk : k = q
        · subst hk; simp
        · simp [hk]
      have hup' : (Instr.mapUpdate 64 (.map (some w.heap.size)) (.agg (bvs q.1).toArray) (.bool true)).run Try.prog w1 = .ok () w2 := hup
      have HM2 := Lib.hid (hm2.ext hset)
      have HR := Lib.hid hr'
      have HNZ := Lib.hid hnz
      have HST := Lib.hid hst
      have HR1 := Lib.hid hr1
      have HB2 := Lib.hid hb2
      have HSI := Lib.hid (sizeId q)
      have HSA := Lib.hid (sizeIdA q)
      have HZS := Lib.hid (zsId q)
      clear hr hr' hnz hst hr1 hx1 hb1 hs1 hbz hm2 hc2 hb2 hup hset hq
      go_wp2_with (first | (with_reducible refine wpList_load_mid rfl 31 _ rfl g (off + i * 32) rfl (bvs q.1) _ HR.out Try.underlying31 rfl HSI.out ?_) | (with_reducible refine wpList_store_row rfl 31 _ _ rfl wr.heap.size (bvs q.1).toArray rfl rfl 31 _ HNZ.out HSA.out HZS.out (oneCell_bvs _) ?_; rw [HST.out]) | (with_reducible refine wpList_load_mid rfl 31 _ rfl wr.heap.size (0) rfl (bvs q.1) _ HR1.out Try.underlying31 rfl HSI.out ?_))
      go_roundw
      case rel => exact ⟨i + 1, by omega, by go_num, HM2.out, HB2.out⟩
      case measure => simp [intOf]; omega
    · obtain rfl : i = N := by omega
      go_wp2_with fail
      go_ret
      exact ⟨_, rfl, Nat.le_refl _, HM.out.ext (fun k => by rw [List.take_of_length_le (by rw [HN.out]; omega)]), HB.out⟩

end Go.Proofs.Ytjjanjhoaiannaa
