/- The question of an article; Visibility: the limit of an article; a set of identities; Visibility: Check; Visibility: who is shown, in plain lists. No walk. -/
import Derived.Test.YtjjanjhoaiannaaRowb
import Derived.IntWalk
namespace Go.Proofs.Ytjjanjhoaiannaa
open Go.RowKit
set_option linter.unusedVariables false
set_option linter.unusedSimpArgs false

set_option maxRecDepth 100000 in
set_option maxHeartbeats 1000000 in
theorem question_any {w : World} (R : RowV) (hR : ListAt idE w R.rv R.refs) (hl : R.refs.length < 1000000000) :
    Calls Try.prog 30 #[rowv R] w fun e w' => e = .returned (.tuple #[idv (R.refs.getLast?.getD z32), .bool R.refs.getLast?.isSome]) ∧ Below w.heap.size w w' := by
  obtain ⟨w1, hw1⟩ : ∃ w1, w.alloc (.cells R.cells.toArray 36) = w1 := ⟨_, rfl⟩
  have hb1 : Below w.heap.size w w1 := hw1 ▸ (Below.refl _ w).alloc (Nat.le_refl _) _
  have hx1 : w1.heap[w.heap.size]? = some (.cells R.cells.toArray 36 (0, 0)) := by rw [← hw1]; exact heap_alloc_new _ _
  have hs1 : w1.heap.size = w.heap.size + 1 := by rw [← hw1]; simp
  obtain ⟨Q, hQ⟩ : ∃ Q, R.refs.getLast? = Q := ⟨_, rfl⟩
  rw [hQ]
  obtain ⟨q, hq⟩ : ∃ q, Q.getD z32 = q := ⟨_, rfl⟩
  obtain ⟨b, hbq⟩ : ∃ b, Q.isSome = b := ⟨_, rfl⟩
  rw [hq, hbq]
  obtain ⟨w2, w3, hw2, hn2, hst, hx3, hb3, hs3, hb2⟩ := newId w1 q
  have hx2 := (hb2.block _ (Array.getElem?_eq_some_iff.1 hx1).1).trans hx1
  have hrv := (row_mid (range_block hx2)).2.2
  rw [Nat.zero_add] at hrv
  have hr2 := (hR.below hb1).below hb2
  obtain ⟨ra, rc, hre⟩ := hR.form
  rw [hre] at hrv hr2
  obtain ⟨N, hN⟩ : ∃ N, R.refs.length = N := ⟨_, rfl⟩
  rw [hN] at hrv hr2 hl
  unfold rowv
  have HW1 := Lib.hid hw1
  have HB := Lib.hid (hb1.trans (hb3.mono hb1.size))
  have HX3 := Lib.hid hx3
  have HN2 := Lib.hid hn2
  have HST := Lib.hid hst
  have HSZ := Lib.hid (sizeIdA q)
  have HZS := Lib.hid (zsId q)
  by_cases h0 : N = 0
  · obtain rfl : Q = none := by rw [← hQ, List.getLast?_eq_none_iff]; exact List.eq_nil_of_length_eq_zero (hN.trans h0)
    obtain rfl : z32 = q := hq
    obtain rfl : false = b := hbq
    have hN0 : ((N : Int) == 0) = true := by simp [h0]
    have HR2 := Lib.hid hr2
    clear h0 hN hQ hre hx1 hb1 hb2 hx2 hb3 hx3 hr2 hR hs1 hn2 hst hs3
    go_enter Try.func30, Try.ntmps30
    go_wp2_with (with_reducible refine wpList_store_row rfl 31 _ _ rfl w1.heap.size (bvs z32.1).toArray rfl rfl 31 _ HN2.out HSZ.out HZS.out (oneCell_bvs _) ?_; rw [HST.out])
    exact bodyPost_ret (results_cell_tmp_row (g := w1.heap.size) rfl _ _ _ _ _ _ rfl HX3.out Try.underlying31 rfl HSZ.out) rfl ⟨rfl, HB.out⟩
  · have hlast : N - 1 < R.refs.length := by omega
    obtain rfl : Q = some (R.refs[N - 1]) := by rw [← hQ, List.getLast?_eq_getElem?, hN, List.getElem?_eq_getElem hlast]
    obtain rfl : true = b := hbq
    have hq2 : R.refs[N - 1] = q := hq
    obtain ⟨g, off, rfl, hg, hr⟩ := hr2.get hlast
    rw [hq2] at hr
    have hN0 : ((N : Int) == 0) = false := by simp [h0]
    obtain ⟨m, hm⟩ : ∃ m, N - 1 = m := ⟨_, rfl⟩
    rw [hm] at hr
    have hr' : w2.rangeAt g (off + m * 32) (bvs q.1) := hr
    have HLD := Lib.hid hr'
    clear hr'
    have HSL := Lib.hid (sizeId q)
    have hNl : (N : Int) - 1 = (m : Int) := by omega
    have hm0 : (0 : Int) ≤ (m : Int) := by omega
    have hNI : (1 : Int) ≤ (N : Int) := by omega
    have hlt1 : (m : Int) < (N : Int) := by omega
    have HR2 := Lib.hid hr2
    clear h0 hN hQ hre hx1 hb1 hb2 hx2 hb3 hx3 hr2 hR hs1 hq hq2 hr hm hn2 hst hlast
    go_enter Try.func30, Try.ntmps30
    go_wp2_with (first | (with_reducible refine wpList_load_mid rfl 31 _ rfl g (off + m * 32) rfl (bvs q.1) _ HLD.out Try.underlying31 rfl HSL.out ?_) | (with_reducible refine wpList_store_row rfl 31 _ _ rfl w1.heap.size (bvs q.1).toArray rfl rfl 31 _ HN2.out HSZ.out HZS.out (oneCell_bvs _) ?_; rw [HST.out]))
    exact bodyPost_ret (results_cell_tmp_row (g := w1.heap.size) rfl _ _ _ _ _ _ rfl HX3.out Try.underlying31 rfl HSZ.out) rfl ⟨rfl, HB.out⟩
end Go.Proofs.Ytjjanjhoaiannaa

namespace Go.Proofs.Ytjjanjhoaiannaa
open Go.RowKit
set_option linter.unusedVariables false
set_option linter.unusedSimpArgs false

set_option maxRecDepth 100000 in
set_option maxHeartbeats 1000000 in
theorem Until_any {w : World} (R : RowV) (h0 : 0 ≤ R.date) (h1 : R.date ≤ 105190559) :
    Calls Try.prog 26 #[rowv R] w fun e w' => e = .returned (.int .i64 (R.date + 2880)) ∧ Below w.heap.size w w' := by
  obtain ⟨w1, hw1⟩ : ∃ w1, w.alloc (.cells R.cells.toArray 36) = w1 := ⟨_, rfl⟩
  have hb1 : Below w.heap.size w w1 := hw1 ▸ (Below.refl _ w).alloc (Nat.le_refl _) _
  have hx1 : w1.heap[w.heap.size]? = some (.cells R.cells.toArray 36 (0, 0)) := by rw [← hw1]; exact heap_alloc_new _ _
  have hd := (row_mid (range_block hx1)).1
  rw [Nat.zero_add] at hd
  obtain ⟨d, hde⟩ : ∃ d, R.date = d := ⟨_, rfl⟩
  rw [hde] at hd h0 h1 ⊢
  have HB := Lib.hid hb1
  unfold rowv
  clear hb1 hx1 hde
  go_enter Try.func26, Try.ntmps26
  go_wp2_with fail
  go_ret
  exact ⟨rfl, HB.out⟩

theorem vmkMap {t kt et : TypeId} (hu : Try.prog.underlying t = some (.map kt et)) (n : Int) (w : World) : (Instr.makeMap t (some (.int .i64 n))).run Try.prog w = .ok (.map (some w.heap.size)) (w.alloc (.map #[] 0)) := by
  unfold Instr.makeMap
  simp only [Sem.run_bind, run_underlying hu, Result.andThen_ok, asInt, Sem.run_pure]
  rfl

def setF (L : List IdB) (k : IdB) : Option Value := if k ∈ L then some (.bool true) else none
set_option maxRecDepth 100000 in
set_option maxHeartbeats 2000000 in
theorem setOf_any {w : World} (v : Value) (L : List IdB) (hv : ListAt idE w v L) (hl : L.length < 1000000000) :
    Calls Try.prog 29 #[v] w fun e w' => ∃ b, e = .returned (.map (some b)) ∧ w.heap.size ≤ b ∧ KMap idKey w' b (setF L) ∧ Below w.heap.size w w' := by
  obtain ⟨va, vc, rfl⟩ := hv.form
  obtain ⟨N, hN⟩ : ∃ N, L.length = N := ⟨_, rfl⟩
  rw [hN] at hv hl ⊢
  have HV := Lib.hid hv
  have HN := Lib.hid hN
  have hNI0 : (0 : Int) ≤ (N : Int) := by omega
  clear hv hN
  have hmk := fun n w => vmkMap Try.underlying64 n w
  go_enter Try.func29, Try.ntmps29
  go_wp2_with fail
  go_loopw [11] (fun iv wr => ∃ i : Nat, i ≤ N ∧ iv = .int .i64 (i : Int) ∧ KMap idKey wr w.heap.size (setF (L.take i)) ∧ Below w.heap.size w wr) (fun iv _ => N - (intOf iv).toNat)
  case atStart => exact ⟨0, Nat.zero_le _, rfl, (KMap.new w).ext (fun k => by simp [setF]), (Below.refl _ _).alloc (Nat.le_refl _) _⟩
  case round =>
    obtain ⟨i, hi, rfl, hm, hB⟩ := hrel
    have HM := Lib.hid hm
    have HB := Lib.hid hB
    clear hm hB
    by_cases hlt : i < N
    · have hiI : (i : Int) < (N : Int) := by omega
      have hiI0 : (0 : Int) ≤ (i : Int) := by omega
      obtain ⟨g, off, rfl, hg, hr⟩ := (HV.out.below HB.out).get (i := i) (by rw [HN.out]; exact hlt)
      obtain ⟨q, hq⟩ : ∃ q, L[i]'(by rw [HN.out]; exact hlt) = q := ⟨_, rfl⟩
      rw [hq] at hr
      have hr' : wr.rangeAt g (off + i * 32) (bvs q.1) := hr
      obtain ⟨wz, w1, hwz, hnz, hst, hx1, hb1, hs1, hbz⟩ := newId wr q
      have hr1 := range_block hx1
      obtain ⟨w2, hup, hm2, hc2⟩ := (HM.out.below hb1).upd Try.underlying64 q (.bool true)
      have hb2 : Below w.heap.size w w2 := (HB.out.trans (hb1.mono HB.out.size)).trans (hc2.below (fun k e => Nat.le_of_eq (show k = _ from e).symm) (Nat.le_trans HB.out.size hb1.size))
      have hset : ∀ k, (if k = q then some (.bool true) else setF (L.take i) k) = setF (L.take (i + 1)) k := fun k => by
        unfold setF
        rw [List.take_succ_eq_append_getElem (by rw [HN.out]; exact hlt), hq]
        by_cases hk : k = q
        · subst hk; simp
        · simp [hk]
      have hup' : (Instr.mapUpdate 64 (.map (some w.heap.size)) (.agg (bvs q.1).toArray) (.bool true)).run Try.prog w1 = .ok () w2 := hup
      have HM2 := Lib.hid (hm2.ext hset)
      have HR := Lib.hid hr'
      have HNZ := Lib.hid hnz
      have HST := Lib.hid hst
      have HR1 := Lib.hid hr1
      have HB2 := Lib.hid hb2
      have HSI := Lib.hid (sizeId q)
      have HSA := Lib.hid (sizeIdA q)
      have HZS := Lib.hid (zsId q)
      clear hr hr' hnz hst hr1 hx1 hb1 hs1 hbz hm2 hc2 hb2 hup hset hq
      go_wp2_with (first | (with_reducible refine wpList_load_mid rfl 31 _ rfl g (off + i * 32) rfl (bvs q.1) _ HR.out Try.underlying31 rfl HSI.out ?_) | (with_reducible refine wpList_store_row rfl 31 _ _ rfl wr.heap.size (bvs q.1).toArray rfl rfl 31 _ HNZ.out HSA.out HZS.out (oneCell_bvs _) ?_; rw [HST.out]) | (with_reducible refine wpList_load_mid rfl 31 _ rfl wr.heap.size (0) rfl (bvs q.1) _ HR1.out Try.underlying31 rfl HSI.out ?_))
      go_roundw
      case rel => exact ⟨i + 1, by omega, by go_num, HM2.out, HB2.out⟩
      case measure => simp [intOf]; omega
    · obtain rfl : i = N := by omega
      go_wp2_with fail
      go_ret
      exact ⟨_, rfl, Nat.le_refl _, HM.out.ext (fun k => by rw [List.take_of_length_le (by rw [HN.out]; omega)]), HB.out⟩

end Go.Proofs.Ytjjanjhoaiannaa

namespace Go.Proofs.Ytjjanjhoaiannaa
open Go.RowKit
set_option linter.unusedVariables false
set_option linter.unusedSimpArgs false

def vchkGo (seen : List IdB) : List RowV → Int
  | [] => 0
  | r :: L => if r.date < 0 ∨ 105190559 < r.date then 13 else if 20 < r.refs.length then 9 else if r.id ∈ seen then 7 else vchkGo (seen ++ [r.id]) L
def chkL (L : List RowV) : Int := if 4096 < L.length then 9 else vchkGo [] L
theorem vchkGo_step (L : List RowV) (i : Nat) (h : i < L.length) : vchkGo ((L.take i).map (·.id)) (L.drop i) =
    (if L[i].date < 0 ∨ 105190559 < L[i].date then 13 else if 20 < L[i].refs.length then 9 else if L[i].id ∈ (L.take i).map (·.id) then 7 else vchkGo ((L.take (i + 1)).map (·.id)) (L.drop (i + 1))) := by
  rw [List.drop_eq_getElem_cons h, vchkGo, List.take_succ_eq_append_getElem h, List.map_append]
  rfl
/-- What a walk over a list of rows finds at the i-th: the row in its place, and a variable of its own. -/
theorem row_at {w : World} {v : Value} {L : List RowV} (h : RowsAt w v L) {i : Nat} (hi : i < L.length) : ∃ g off n c, v = .slice (some ⟨g, off, none⟩) n c ∧ w.rangeAt g (off + i * 83) L[i].cells ∧ ListAt idE w L[i].rv L[i].refs := by
  obtain ⟨a, c, rfl⟩ := h.l.form
  obtain ⟨g, off, rfl, hg, hr⟩ := h.l.get hi
  exact ⟨g, off, _, c, rfl, hr, h.r _ (List.getElem_mem hi)⟩

set_option maxRecDepth 100000 in
set_option maxHeartbeats 2000000 in
theorem vCheck_any {w : World} (v : Value) (L : List RowV) (hv : RowsAt w v L) (hl : L.length < 1000000000) :
    Calls Try.prog 25 #[v] w fun e w' => e = .returned (.int .i64 (chkL L)) ∧ Below w.heap.size w w' := by
  obtain ⟨va, vc, rfl⟩ := hv.l.form
  obtain ⟨N, hN⟩ : ∃ N, L.length = N := ⟨_, rfl⟩
  obtain ⟨C, hC⟩ : ∃ C, chkL L = C := ⟨_, rfl⟩
  have hmk := fun n w => vmkMap Try.underlying64 n w
  by_cases hbig : 4096 < N
  · have hbI : (4096 : Int) < (N : Int) := by omega
    obtain rfl : 9 = C := by rw [← hC]; unfold chkL; rw [hN, if_pos hbig]
    rw [hN, hC]
    clear hv hC hN hl
    go_enter Try.func25, Try.ntmps25
    go_wp2_with fail
    go_ret
    exact ⟨rfl, Below.refl _ _⟩
  have hbI : ¬ (4096 : Int) < (N : Int) := by omega
  have hC2 : vchkGo [] L = C := by rw [← hC]; unfold chkL; rw [hN, if_neg hbig]
  rw [hC]
  rw [hN] at hv hl ⊢
  have HV := Lib.hid hv
  have HN := Lib.hid hN
  have HC := Lib.hid hC2
  have hNI0 : (0 : Int) ≤ (N : Int) := by omega
  clear hv hN hC hC2
  go_enter Try.func25, Try.ntmps25
  go_wp2_with fail
  go_loopw [14] (fun iv wr => ∃ i : Nat, i ≤ N ∧ iv = .int .i64 (i : Int) ∧ vchkGo ((L.take i).map (·.id)) (L.drop i) = C ∧ KMap idKey wr w.heap.size (setF ((L.take i).map (·.id))) ∧ Below w.heap.size w wr) (fun iv _ => N - (intOf iv).toNat)
  case atStart => exact ⟨0, Nat.zero_le _, rfl, HC.out, (KMap.new w).ext (fun k => by simp [setF]), (Below.refl _ _).alloc (Nat.le_refl _) _⟩
  case round =>
    obtain ⟨i, hi, rfl, hc, hm, hB⟩ := hrel
    have HM := Lib.hid hm
    have HB := Lib.hid hB
    have HCI := Lib.hid hc
    clear hm hB hc
    by_cases hlt : i < N
    · have hiI : (i : Int) < (N : Int) := by omega
      have hiI0 : (0 : Int) ≤ (i : Int) := by omega
      have hlt' : i < L.length := by rw [HN.out]; exact hlt
      obtain ⟨g, off, n9, c9, e9, hr, hrf⟩ := row_at (HV.out.below HB.out) hlt'
      cases e9
      have hstep := vchkGo_step L i hlt'
      rw [HCI.out] at hstep
      have hset : ∀ k, (if k = L[i].id then some (.bool true) else setF ((L.take i).map (·.id)) k) = setF ((L.take (i + 1)).map (·.id)) k := fun k => by
        unfold setF
        rw [List.take_succ_eq_append_getElem hlt', List.map_append]
        by_cases hk : k = L[i].id
        · subst hk; simp
        · simp [hk]
      have hmem : ∀ b : Bool, decide (L[i].id ∈ (L.take i).map (·.id)) = b → setF ((L.take i).map (·.id)) L[i].id = (if b then some (.bool true) else none) := fun b hb => by
        unfold setF
        subst hb
        by_cases h : L[i].id ∈ (L.take i).map (·.id) <;> simp [h]
      obtain ⟨R, hR⟩ : ∃ R, L[i] = R := ⟨_, rfl⟩
      rw [hR] at hr hrf hstep hset hmem
      obtain ⟨S, hS⟩ : ∃ S, (L.take i).map (·.id) = S := ⟨_, rfl⟩
      rw [hS] at hstep hset hmem
      have hM0 := HM.out
      rw [hS] at hM0
      obtain ⟨wz, w1, hwz, hnz, hst, hx1, hb1, hs1, hbz⟩ := newRow wr R
      have hr1 := row_id (range_block hx1)
      obtain ⟨hdt, _, hrv⟩ := row_mid (range_block hx1)
      rw [Nat.zero_add] at hdt hrv
      obtain ⟨ra, rc, hre⟩ := hrf.form
      rw [hre] at hrv
      obtain ⟨d, hd⟩ : ∃ d, R.date = d := ⟨_, rfl⟩
      obtain ⟨nr, hnr⟩ : ∃ nr, R.refs.length = nr := ⟨_, rfl⟩
      rw [hd] at hdt hstep
      rw [hnr] at hrv hstep
      have hmk1 := hM0.below hb1
      have hlk := hmk1.look Try.underlying64 (z := .bool false) (fun _ => rfl) R.id false
      have hBW := HB.out.trans (hb1.mono HB.out.size)
      have HR := Lib.hid hr
      have HNZ := Lib.hid hnz
      have HST := Lib.hid hst
      have HR1 := Lib.hid hr1
      have HSR := Lib.hid (sizeRow R)
      have HSI := Lib.hid (sizeId R.id)
      have HSA := Lib.hid (sizeRowA R)
      have HZS := Lib.hid (zsRow R)
      have HBW := Lib.hid hBW
      have HSTEP := Lib.hid hstep
      have HMK1 := Lib.hid hmk1
      have HSET := Lib.hid hset
      have HMEM := Lib.hid hmem
      have HSS := Lib.hid hS
      clear hr hnz hst hr1 hx1 hb1 hs1 hbz hstep hset hmem hM0 hmk1 hBW hre hrf hS hmk
      by_cases hd0 : d < 0
      · obtain rfl : C = 13 := by rw [HSTEP.out, if_pos (.inl hd0)]
        clear hlk hd hnr
        go_wp2_with (first | (with_reducible refine wpList_load_mid rfl 36 _ rfl g (off + i * 83) rfl (R.cells) _ HR.out Try.underlying36 rfl HSR.out ?_) | (with_reducible refine wpList_store_row rfl 36 _ _ rfl wr.heap.size (R.cells).toArray rfl rfl 36 _ HNZ.out HSA.out HZS.out (oneRow R) ?_; rw [HST.out]) | (with_reducible refine wpList_load_mid rfl 31 _ rfl wr.heap.size (0) rfl (bvs R.id.1) _ HR1.out Try.underlying31 rfl HSI.out ?_))
        go_ret
        exact ⟨rfl, HBW.out⟩
      by_cases hd1 : 105190559 < d
      · obtain rfl : C = 13 := by rw [HSTEP.out, if_pos (.inr hd1)]
        clear hlk hd hnr
        go_wp2_with (first | (with_reducible refine wpList_load_mid rfl 36 _ rfl g (off + i * 83) rfl (R.cells) _ HR.out Try.underlying36 rfl HSR.out ?_) | (with_reducible refine wpList_store_row rfl 36 _ _ rfl wr.heap.size (R.cells).toArray rfl rfl 36 _ HNZ.out HSA.out HZS.out (oneRow R) ?_; rw [HST.out]) | (with_reducible refine wpList_load_mid rfl 31 _ rfl wr.heap.size (0) rfl (bvs R.id.1) _ HR1.out Try.underlying31 rfl HSI.out ?_))
        go_ret
        exact ⟨rfl, HBW.out⟩
      by_cases hn20 : 20 < nr
      · have hnI : (20 : Int) < (nr : Int) := by omega
        obtain rfl : C = 9 := by rw [HSTEP.out, if_neg (by omega), if_pos hn20]
        clear hlk hd hnr
        go_wp2_with (first | (with_reducible refine wpList_load_mid rfl 36 _ rfl g (off + i * 83) rfl (R.cells) _ HR.out Try.underlying36 rfl HSR.out ?_) | (with_reducible refine wpList_store_row rfl 36 _ _ rfl wr.heap.size (R.cells).toArray rfl rfl 36 _ HNZ.out HSA.out HZS.out (oneRow R) ?_; rw [HST.out]) | (with_reducible refine wpList_load_mid rfl 31 _ rfl wr.heap.size (0) rfl (bvs R.id.1) _ HR1.out Try.underlying31 rfl HSI.out ?_))
        go_ret
        exact ⟨rfl, HBW.out⟩
      have hnI : ¬ (20 : Int) < (nr : Int) := by omega
      obtain ⟨b, hb⟩ : ∃ b, decide (R.id ∈ S) = b := ⟨_, rfl⟩
      rw [HMEM.out b hb] at hlk
      have hlk' : (Instr.lookup 64 (.map (some w.heap.size)) (.agg (bvs R.id.1).toArray) false).run Try.prog w1 = .ok (.bool b) w1 := by
        have h := hlk
        cases b <;> exact h
      clear hlk
      cases b with
      | true =>
        obtain rfl : C = 7 := by rw [HSTEP.out, if_neg (by omega), if_neg hn20, if_pos (by simpa using hb)]
        clear hd hnr hb
        go_wp2_with (first | (with_reducible refine wpList_load_mid rfl 36 _ rfl g (off + i * 83) rfl (R.cells) _ HR.out Try.underlying36 rfl HSR.out ?_) | (with_reducible refine wpList_store_row rfl 36 _ _ rfl wr.heap.size (R.cells).toArray rfl rfl 36 _ HNZ.out HSA.out HZS.out (oneRow R) ?_; rw [HST.out]) | (with_reducible refine wpList_load_mid rfl 31 _ rfl wr.heap.size (0) rfl (bvs R.id.1) _ HR1.out Try.underlying31 rfl HSI.out ?_))
        go_ret
        exact ⟨rfl, HBW.out⟩
      | false =>
        have hcc : vchkGo ((L.take (i + 1)).map (·.id)) (L.drop (i + 1)) = C := by rw [HSTEP.out, if_neg (by omega), if_neg hn20, if_neg (by simpa using hb)]
        obtain ⟨w2, hup, hm2, hc2⟩ := HMK1.out.upd Try.underlying64 R.id (.bool true)
        have hb2 : Below w.heap.size w w2 := HBW.out.trans (hc2.below (fun k e => Nat.le_of_eq (show k = _ from e).symm) HBW.out.size)
        have hup' : (Instr.mapUpdate 64 (.map (some w.heap.size)) (.agg (bvs R.id.1).toArray) (.bool true)).run Try.prog w1 = .ok () w2 := hup
        have HM2 := Lib.hid (hm2.ext HSET.out)
        have HCC := Lib.hid hcc
        have HB2 := Lib.hid hb2
        clear hd hnr hb hup hm2 hc2 hb2 hcc
        go_wp2_with (first | (with_reducible refine wpList_load_mid rfl 36 _ rfl g (off + i * 83) rfl (R.cells) _ HR.out Try.underlying36 rfl HSR.out ?_) | (with_reducible refine wpList_store_row rfl 36 _ _ rfl wr.heap.size (R.cells).toArray rfl rfl 36 _ HNZ.out HSA.out HZS.out (oneRow R) ?_; rw [HST.out]) | (with_reducible refine wpList_load_mid rfl 31 _ rfl wr.heap.size (0) rfl (bvs R.id.1) _ HR1.out Try.underlying31 rfl HSI.out ?_))
        go_roundw
        case rel => exact ⟨i + 1, by omega, by go_num, HCC.out, HM2.out, HB2.out⟩
        case measure => simp [intOf]; omega
    · obtain rfl : i = N := by omega
      have hC0 : C = 0 := by
        rw [← HCI.out, List.drop_eq_nil_of_le (by rw [HN.out]; omega)]
        rfl
      subst hC0
      go_wp2_with fail
      go_ret
      exact ⟨rfl, HB.out⟩

end Go.Proofs.Ytjjanjhoaiannaa

namespace Go.Proofs.Ytjjanjhoaiannaa
open Go.RowKit
set_option linter.unusedVariables false
set_option linter.unusedSimpArgs false

theorem nodup_sub_length {α : Type} [DecidableEq α] : ∀ {l m : List α}, l.Nodup → (∀ x ∈ l, x ∈ m) → l.length ≤ m.length
  | [], m, _, _ => Nat.zero_le _
  | a :: l, m, hn, hs => by
    rw [List.nodup_cons] at hn
    have ha := hs a (by simp)
    have h1 : l.length ≤ (m.erase a).length := nodup_sub_length hn.2 (fun x hx => by
      have hxa : x ≠ a := fun e => hn.1 (e ▸ hx)
      exact (List.mem_erase_of_ne hxa).2 (hs x (by simp [hx])))
    rw [List.length_erase_of_mem ha] at h1
    have := List.length_pos_of_mem ha
    rw [List.length_cons]
    omega

section
variable (L : List RowV) (G : List IdB) (now : Int)
def findRow (q : IdB) : Option RowV := L.find? (fun r => r.id == q)
def stepR (r : RowV) : Option RowV := r.refs.getLast?.bind (findRow L)
def termR (r : RowV) : Bool := match r.refs.getLast? with | none => true | some q => decide (q ∈ G) || decide (r.date + 2880 ≤ now)
def dec : Nat → RowV → Bool
  | 0, _ => false
  | n + 1, r => match stepR L r with | some p => dec n p | none => termR G now r
def shB (r : RowV) : Bool := dec L G now L.length r
def iterR : Nat → RowV → Option RowV
  | 0, r => some r
  | k + 1, r => (stepR L r).bind (iterR k)
variable {L} {G} {now}
theorem findRow_mem {q : IdB} {p : RowV} (h : findRow L q = some p) : p ∈ L ∧ p.id = q := ⟨List.mem_of_find?_eq_some h, eq_of_beq (by simpa only using List.find?_some h)⟩
theorem stepR_mem {r p : RowV} (h : stepR L r = some p) : p ∈ L := by
  unfold stepR at h
  obtain ⟨q, _, hq⟩ := Option.bind_eq_some_iff.1 h
  exact (findRow_mem hq).1
theorem findRow_of (hn : (L.map (·.id)).Nodup) {r : RowV} (hr : r ∈ L) : findRow L r.id = some r := by
  unfold findRow
  induction L with
  | nil => cases hr
  | cons a L ih =>
    rw [List.map_cons, List.nodup_cons] at hn
    rw [List.find?_cons]
    rcases List.mem_cons.1 hr with rfl | h
    · simp
    · have hne : (a.id == r.id) = false := by
        rw [beq_eq_false_iff_ne]
        intro e
        exact hn.1 (by rw [e]; exact List.mem_map_of_mem h)
      rw [hne]
      exact ih hn.2 h
theorem row_eq (hn : (L.map (·.id)).Nodup) {a b : RowV} (ha : a ∈ L) (hb : b ∈ L) (h : a.id = b.id) : a = b := by
  have h1 := findRow_of hn ha
  have h2 := findRow_of hn hb
  rw [h] at h1
  exact Option.some.inj (h1.symm.trans h2)
theorem iterR_add (i : Nat) : ∀ (j : Nat) (r : RowV), iterR L (j + i) r = (iterR L j r).bind (iterR L i)
  | 0, r => by rw [Nat.zero_add, iterR]; rfl
  | j + 1, r => by
    rw [show j + 1 + i = (j + i) + 1 by omega, iterR, iterR]
    cases stepR L r with
    | none => rfl
    | some p => exact iterR_add i j p
theorem iterR_mem {r : RowV} (hr : r ∈ L) : ∀ (k : Nat) {s : RowV}, iterR L k r = some s → s ∈ L := by
  intro k
  induction k generalizing r with
  | zero => intro s h; cases h; exact hr
  | succ k ih =>
    intro s h
    rw [iterR] at h
    obtain ⟨p, h1, h2⟩ := Option.bind_eq_some_iff.1 h
    exact ih (stepR_mem h1) h2
theorem dec_iff : ∀ (n : Nat) (r : RowV), dec L G now n r = true ↔ ∃ k, k < n ∧ ∃ s, iterR L k r = some s ∧ stepR L s = none ∧ termR G now s = true
  | 0, r => by simp [dec]
  | n + 1, r => by
    rw [dec]
    cases h : stepR L r with
    | none =>
      simp only
      constructor
      · intro ht
        exact ⟨0, by omega, r, rfl, h, ht⟩
      · rintro ⟨k, _, s, h1, h2, h3⟩
        cases k with
        | zero => cases h1; exact h3
        | succ k => rw [iterR, h] at h1; cases h1
    | some p =>
      simp only
      rw [dec_iff n p]
      constructor
      · rintro ⟨k, hk, s, h1, h2, h3⟩
        exact ⟨k + 1, by omega, s, by rw [iterR, h]; exact h1, h2, h3⟩
      · rintro ⟨k, hk, s, h1, h2, h3⟩
        cases k with
        | zero => cases h1; rw [h] at h2; cases h2
        | succ k => rw [iterR, h] at h1; exact ⟨k, by omega, s, h1, h2, h3⟩
/-- Where a way ends, it does not come back. -/
theorem iterR_inj {r a s : RowV} {i j k : Nat} (hij : i < j) (hjk : j ≤ k) (hi : iterR L i r = some a) (hj : iterR L j r = some a) (hk : iterR L k r = some s) (hs : stepR L s = none) : False := by
  have h1 : iterR L (k - j) a = some s := by
    have := iterR_add (L := L) (k - j) j r
    rw [show j + (k - j) = k by omega, hk, hj] at this
    exact this.symm
  have h2 : iterR L (i + (k - j)) r = some s := by rw [iterR_add, hi]; exact h1
  have h3 : iterR L (i + (k - j) + 1) r = none := by
    rw [iterR_add, h2]
    show iterR L 1 s = none
    rw [iterR, hs]
    rfl
  have h4 := iterR_add (L := L) (k - (i + (k - j) + 1)) (i + (k - j) + 1) r
  rw [show i + (k - j) + 1 + (k - (i + (k - j) + 1)) = k by omega, hk, h3] at h4
  cases h4
theorem iterR_pre {r s : RowV} {k : Nat} (hk : iterR L k r = some s) {i : Nat} (hi : i ≤ k) : ∃ a, iterR L i r = some a := by
  have h := iterR_add (L := L) (k - i) i r
  rw [show i + (k - i) = k by omega, hk] at h
  cases hq : iterR L i r with
  | none => rw [hq] at h; cases h
  | some a => exact ⟨a, rfl⟩
theorem iterR_short (hn : (L.map (·.id)).Nodup) {r s : RowV} (hr : r ∈ L) {k : Nat} (hk : iterR L k r = some s) (hs : stepR L s = none) : k < L.length := by
  have hex : ∀ i, i < k + 1 → ∃ a, iterR L i r = some a := fun i hi => iterR_pre hk (by omega)
  have hid : ∀ i, i < k + 1 → ∃ q, (iterR L i r).map (·.id) = some q := fun i hi => by obtain ⟨a, ha⟩ := hex i hi; exact ⟨a.id, by rw [ha]; rfl⟩
  let f : Nat → IdB := fun i => ((iterR L i r).map (·.id)).getD default
  have hf : ∀ i, i < k + 1 → ∃ a, iterR L i r = some a ∧ f i = a.id := fun i hi => by
    obtain ⟨a, ha⟩ := hex i hi
    exact ⟨a, ha, by show ((iterR L i r).map (·.id)).getD default = _; rw [ha]; rfl⟩
  have hnd : ((List.range (k + 1)).map f).Nodup := by
    unfold List.Nodup
    rw [List.pairwise_iff_getElem]
    intro i j hi' hj0 hij e
    have hj' : j < k + 1 := by simpa using hj0
    simp only [List.getElem_map, List.getElem_range] at e
    obtain ⟨a, ha, hfa⟩ := hf i (by omega)
    obtain ⟨b, hb, hfb⟩ := hf j hj'
    have hab : a = b := row_eq hn (iterR_mem hr i ha) (iterR_mem hr j hb) (by rw [← hfa, ← hfb, e])
    subst hab
    exact iterR_inj hij (by omega) ha hb hk hs
  have := nodup_sub_length (m := L.map (·.id)) hnd (fun x hx => by
    obtain ⟨i, hi, rfl⟩ := List.mem_map.1 hx
    obtain ⟨a, ha, hfa⟩ := hf i (List.mem_range.1 hi)
    rw [hfa]
    exact List.mem_map_of_mem (iterR_mem hr i ha))
  simp at this
  omega
theorem shB_iff (hn : (L.map (·.id)).Nodup) {r : RowV} (hr : r ∈ L) : shB L G now r = true ↔ ∃ k s, iterR L k r = some s ∧ stepR L s = none ∧ termR G now s = true := by
  unfold shB
  rw [dec_iff]
  constructor
  · rintro ⟨k, _, s, h⟩; exact ⟨k, s, h⟩
  · rintro ⟨k, s, h1, h2, h3⟩; exact ⟨k, iterR_short hn hr h1 h2, s, h1, h2, h3⟩
theorem shB_step (hn : (L.map (·.id)).Nodup) {r p : RowV} (hr : r ∈ L) (h : stepR L r = some p) : shB L G now r = shB L G now p := by
  rw [Bool.eq_iff_iff, shB_iff hn hr, shB_iff hn (stepR_mem h)]
  constructor
  · rintro ⟨k, s, h1, h2, h3⟩
    cases k with
    | zero => cases h1; rw [h] at h2; cases h2
    | succ k => rw [iterR, h] at h1; exact ⟨k, s, h1, h2, h3⟩
  · rintro ⟨k, s, h1, h2, h3⟩
    exact ⟨k + 1, s, by rw [iterR, h]; exact h1, h2, h3⟩
theorem shB_term (hn : (L.map (·.id)).Nodup) {r : RowV} (hr : r ∈ L) (h : stepR L r = none) : shB L G now r = termR G now r := by
  rw [Bool.eq_iff_iff, shB_iff hn hr]
  constructor
  · rintro ⟨k, s, h1, h2, h3⟩
    cases k with
    | zero => cases h1; exact h3
    | succ k => rw [iterR, h] at h1; cases h1
  · intro ht; exact ⟨0, r, rfl, h, ht⟩
theorem shB_cycle (hn : (L.map (·.id)).Nodup) {r : RowV} (hr : r ∈ L) {k : Nat} (hk : 1 ≤ k) (h : iterR L k r = some r) : shB L G now r = false := by
  have hno : ¬ shB L G now r = true := by
    rw [shB_iff hn hr]
    rintro ⟨m, s, h1, h2, _⟩
    have hcyc : ∀ q, iterR L (q * k) r = some r := by
      intro q
      induction q with
      | zero => rw [Nat.zero_mul]; rfl
      | succ q ih => rw [Nat.add_mul, Nat.one_mul, iterR_add, ih]; exact h
    have hle : m ≤ m * k := by
      calc m = m * 1 := by omega
        _ ≤ m * k := Nat.mul_le_mul_left _ hk
    have h5 := iterR_add (L := L) (m * k - m) m r
    rw [show m + (m * k - m) = m * k by omega, hcyc, h1] at h5
    have h6 : iterR L (m * k - m) s = some r := h5.symm
    cases hz : m * k - m with
    | zero =>
      rw [hz] at h6
      cases h6
      cases k with
      | zero => omega
      | succ k => rw [iterR, h2] at h; cases h
    | succ z => rw [hz, iterR, h2] at h6; cases h6
  simpa using hno
end

end Go.Proofs.Ytjjanjhoaiannaa
