/- Visibility: Check. -/
import Derived.Test.YtjjanjhoaiannaaV1
namespace Go.Proofs.Ytjjanjhoaiannaa
open Go.RowKit
set_option linter.unusedVariables false
set_option linter.unusedSimpArgs false

def chkGo (seen : List IdB) : List RowV → Int
  | [] => 0
  | r :: L => if r.date < 0 ∨ 105190559 < r.date then 13 else if 20 < r.refs.length then 9 else if r.id ∈ seen then 7 else chkGo (seen ++ [r.id]) L
def chkL (L : List RowV) : Int := if 4096 < L.length then 9 else chkGo [] L
theorem chkGo_step (L : List RowV) (i : Nat) (h : i < L.length) : chkGo ((L.take i).map (·.id)) (L.drop i) =
    (if L[i].date < 0 ∨ 105190559 < L[i].date then 13 else if 20 < L[i].refs.length then 9 else if L[i].id ∈ (L.take i).map (·.id) then 7 else chkGo ((L.take (i + 1)).map (·.id)) (L.drop (i + 1))) := by
  rw [List.drop_eq_getElem_cons h, chkGo, List.take_succ_eq_append_getElem h, List.map_append]
  rfl
/-- What a walk over a list of rows finds at the i-th: the row in its place, and a variable of its own. -/
theorem row_at {w : World} {v : Value} {L : List RowV} (h : RowsAt w v L) {i : Nat} (hi : i < L.length) : ∃ g off n c, v = .slice (some ⟨g, off, none⟩) n c ∧ w.rangeAt g (off + i * 83) L[i].cells ∧ ListAt idE w L[i].rv L[i].refs := by
  obtain ⟨a, c, rfl⟩ := h.l.form
  obtain ⟨g, off, rfl, hg, hr⟩ := h.l.get hi
  exact ⟨g, off, _, c, rfl, hr, h.r _ (List.getElem_mem hi)⟩

set_option maxRecDepth 100000 in
set_option maxHeartbeats 2000000 in
theorem Check_any {w : World} (v : Value) (L : List RowV) (hv : RowsAt w v L) (hl : L.length < 1000000000) :
    Calls Try.prog 25 #[v] w fun e w' => e = .returned (.int .i64 (chkL L)) ∧ Below w.heap.size w w' := by
  obtain ⟨va, vc, rfl⟩ := hv.l.form
  obtain ⟨N, hN⟩ : ∃ N, L.length = N := ⟨_, rfl⟩
  obtain ⟨C, hC⟩ : ∃ C, chkL L = C := ⟨_, rfl⟩
  have hmk := fun n w => mkMap Try.underlying64 n w
  by_cases hbig : 4096 < N
  · have hbI : (4096 : Int) < (N : Int) := by omega
    obtain rfl : 9 = C := by rw [← hC]; unfold chkL; rw [hN, if_pos hbig]
    rw [hN, hC]
    clear hv hC hN hl
    go_enter Try.func25, Try.ntmps25
    go_wp2_with fail
    go_ret
    exact ⟨rfl, Below.refl _ _⟩
  have hbI : ¬ (4096 : Int) < (N : Int) := by omega
  have hC2 : chkGo [] L = C := by rw [← hC]; unfold chkL; rw [hN, if_neg hbig]
  rw [hC]
  rw [hN] at hv hl ⊢
  have HV := Lib.hid hv
  have HN := Lib.hid hN
  have HC := Lib.hid hC2
  have hNI0 : (0 : Int) ≤ (N : Int) := by omega
  clear hv hN hC hC2
  go_enter Try.func25, Try.ntmps25
  go_wp2_with fail
  go_loopw [14] (fun iv wr => ∃ i : Nat, i ≤ N ∧ iv = .int .i64 (i : Int) ∧ chkGo ((L.take i).map (·.id)) (L.drop i) = C ∧ KMap idKey wr w.heap.size (setF ((L.take i).map (·.id))) ∧ Below w.heap.size w wr) (fun iv _ => N - (intOf iv).toNat)
  case atStart => exact ⟨0, Nat.zero_le _, rfl, HC.out, (KMap.new w).ext (fun k => by simp [setF]), (Below.refl _ _).alloc (Nat.le_refl _) _⟩
  case round =>
    obtain ⟨i, hi, rfl, hc, hm, hB⟩ := hrel
    have HM := Lib.hid hm
    have HB := Lib.hid hB
    have HCI := Lib.hid hc
    clear hm hB hc
    by_cases hlt : i < N
    · have hiI : (i : Int) < (N : Int) := by omega
      have hiI0 : (0 : Int) ≤ (i : Int) := by omega
      have hlt' : i < L.length := by rw [HN.out]; exact hlt
      obtain ⟨g, off, n9, c9, e9, hr, hrf⟩ := row_at (HV.out.below HB.out) hlt'
      cases e9
      have hstep := chkGo_step L i hlt'
      rw [HCI.out] at hstep
      have hset : ∀ k, (if k = L[i].id then some (.bool true) else setF ((L.take i).map (·.id)) k) = setF ((L.take (i + 1)).map (·.id)) k := fun k => by
        unfold setF
        rw [List.take_succ_eq_append_getElem hlt', List.map_append]
        by_cases hk : k = L[i].id
        · subst hk; simp
        · simp [hk]
      have hmem : ∀ b : Bool, decide (L[i].id ∈ (L.take i).map (·.id)) = b → setF ((L.take i).map (·.id)) L[i].id = (if b then some (.bool true) else none) := fun b hb => by
        unfold setF
        subst hb
        by_cases h : L[i].id ∈ (L.take i).map (·.id) <;> simp [h]
      obtain ⟨R, hR⟩ : ∃ R, L[i] = R := ⟨_, rfl⟩
      rw [hR] at hr hrf hstep hset hmem
      obtain ⟨S, hS⟩ : ∃ S, (L.take i).map (·.id) = S := ⟨_, rfl⟩
      rw [hS] at hstep hset hmem
      have hM0 := HM.out
      rw [hS] at hM0
      obtain ⟨wz, w1, hwz, hnz, hst, hx1, hb1, hs1, hbz⟩ := newRow wr R
      have hr1 := row_id (range_block hx1)
      obtain ⟨hdt, _, hrv⟩ := row_mid (range_block hx1)
      rw [Nat.zero_add] at hdt hrv
      obtain ⟨ra, rc, hre⟩ := hrf.form
      rw [hre] at hrv
      obtain ⟨d, hd⟩ : ∃ d, R.date = d := ⟨_, rfl⟩
      obtain ⟨nr, hnr⟩ : ∃ nr, R.refs.length = nr := ⟨_, rfl⟩
      rw [hd] at hdt hstep
      rw [hnr] at hrv hstep
      have hmk1 := hM0.below hb1
      have hlk := hmk1.look Try.underlying64 (z := .bool false) (fun _ => rfl) R.id false
      have hBW := HB.out.trans (hb1.mono HB.out.size)
      have HR := Lib.hid hr
      have HNZ := Lib.hid hnz
      have HST := Lib.hid hst
      have HR1 := Lib.hid hr1
      have HSR := Lib.hid (sizeRow R)
      have HSI := Lib.hid (sizeId R.id)
      have HSA := Lib.hid (sizeRowA R)
      have HZS := Lib.hid (zsRow R)
      have HBW := Lib.hid hBW
      have HSTEP := Lib.hid hstep
      have HMK1 := Lib.hid hmk1
      have HSET := Lib.hid hset
      have HMEM := Lib.hid hmem
      have HSS := Lib.hid hS
      clear hr hnz hst hr1 hx1 hb1 hs1 hbz hstep hset hmem hM0 hmk1 hBW hre hrf hS hmk
      by_cases hd0 : d < 0
      · obtain rfl : C = 13 := by rw [HSTEP.out, if_pos (.inl hd0)]
        clear hlk hd hnr
        go_wp2_with (first | (with_reducible refine wpList_load_mid rfl 36 _ rfl g (off + i * 83) rfl (R.cells) _ HR.out Try.underlying36 rfl HSR.out ?_) | (with_reducible refine wpList_store_row rfl 36 _ _ rfl wr.heap.size (R.cells).toArray rfl rfl 36 _ HNZ.out HSA.out HZS.out (oneRow R) ?_; rw [HST.out]) | (with_reducible refine wpList_load_mid rfl 31 _ rfl wr.heap.size (0) rfl (bvs R.id.1) _ HR1.out Try.underlying31 rfl HSI.out ?_))
        go_ret
        exact ⟨rfl, HBW.out⟩
      by_cases hd1 : 105190559 < d
      · obtain rfl : C = 13 := by rw [HSTEP.out, if_pos (.inr hd1)]
        clear hlk hd hnr
        go_wp2_with (first | (with_reducible refine wpList_load_mid rfl 36 _ rfl g (off + i * 83) rfl (R.cells) _ HR.out Try.underlying36 rfl HSR.out ?_) | (with_reducible refine wpList_store_row rfl 36 _ _ rfl wr.heap.size (R.cells).toArray rfl rfl 36 _ HNZ.out HSA.out HZS.out (oneRow R) ?_; rw [HST.out]) | (with_reducible refine wpList_load_mid rfl 31 _ rfl wr.heap.size (0) rfl (bvs R.id.1) _ HR1.out Try.underlying31 rfl HSI.out ?_))
        go_ret
        exact ⟨rfl, HBW.out⟩
      by_cases hn20 : 20 < nr
      · have hnI : (20 : Int) < (nr : Int) := by omega
        obtain rfl : C = 9 := by rw [HSTEP.out, if_neg (by omega), if_pos hn20]
        clear hlk hd hnr
        go_wp2_with (first | (with_reducible refine wpList_load_mid rfl 36 _ rfl g (off + i * 83) rfl (R.cells) _ HR.out Try.underlying36 rfl HSR.out ?_) | (with_reducible refine wpList_store_row rfl 36 _ _ rfl wr.heap.size (R.cells).toArray rfl rfl 36 _ HNZ.out HSA.out HZS.out (oneRow R) ?_; rw [HST.out]) | (with_reducible refine wpList_load_mid rfl 31 _ rfl wr.heap.size (0) rfl (bvs R.id.1) _ HR1.out Try.underlying31 rfl HSI.out ?_))
        go_ret
        exact ⟨rfl, HBW.out⟩
      have hnI : ¬ (20 : Int) < (nr : Int) := by omega
      obtain ⟨b, hb⟩ : ∃ b, decide (R.id ∈ S) = b := ⟨_, rfl⟩
      rw [HMEM.out b hb] at hlk
      have hlk' : (Instr.lookup 64 (.map (some w.heap.size)) (.agg (bvs R.id.1).toArray) false).run Try.prog w1 = .ok (.bool b) w1 := by
        have h := hlk
        cases b <;> exact h
      clear hlk
      cases b with
      | true =>
        obtain rfl : C = 7 := by rw [HSTEP.out, if_neg (by omega), if_neg hn20, if_pos (by simpa using hb)]
        clear hd hnr hb
        go_wp2_with (first | (with_reducible refine wpList_load_mid rfl 36 _ rfl g (off + i * 83) rfl (R.cells) _ HR.out Try.underlying36 rfl HSR.out ?_) | (with_reducible refine wpList_store_row rfl 36 _ _ rfl wr.heap.size (R.cells).toArray rfl rfl 36 _ HNZ.out HSA.out HZS.out (oneRow R) ?_; rw [HST.out]) | (with_reducible refine wpList_load_mid rfl 31 _ rfl wr.heap.size (0) rfl (bvs R.id.1) _ HR1.out Try.underlying31 rfl HSI.out ?_))
        go_ret
        exact ⟨rfl, HBW.out⟩
      | false =>
        have hcc : chkGo ((L.take (i + 1)).map (·.id)) (L.drop (i + 1)) = C := by rw [HSTEP.out, if_neg (by omega), if_neg hn20, if_neg (by simpa using hb)]
        obtain ⟨w2, hup, hm2, hc2⟩ := HMK1.out.upd Try.underlying64 R.id (.bool true)
        have hb2 : Below w.heap.size w w2 := HBW.out.trans (hc2.below (fun k e => Nat.le_of_eq (show k = _ from e).symm) HBW.out.size)
        have hup' : (Instr.mapUpdate 64 (.map (some w.heap.size)) (.agg (bvs R.id.1).toArray) (.bool true)).run Try.prog w1 = .ok () w2 := hup
        have HM2 := Lib.hid (hm2.ext HSET.out)
        have HCC := Lib.hid hcc
        have HB2 := Lib.hid hb2
        clear hd hnr hb hup hm2 hc2 hb2 hcc
        go_wp2_with (first | (with_reducible refine wpList_load_mid rfl 36 _ rfl g (off + i * 83) rfl (R.cells) _ HR.out Try.underlying36 rfl HSR.out ?_) | (with_reducible refine wpList_store_row rfl 36 _ _ rfl wr.heap.size (R.cells).toArray rfl rfl 36 _ HNZ.out HSA.out HZS.out (oneRow R) ?_; rw [HST.out]) | (with_reducible refine wpList_load_mid rfl 31 _ rfl wr.heap.size (0) rfl (bvs R.id.1) _ HR1.out Try.underlying31 rfl HSI.out ?_))
        go_roundw
        case rel => exact ⟨i + 1, by omega, by go_num, HCC.out, HM2.out, HB2.out⟩
        case measure => simp [intOf]; omega
    · obtain rfl : i = N := by omega
      have hC0 : C = 0 := by
        rw [← HCI.out, List.drop_eq_nil_of_le (by rw [HN.out]; omega)]
        rfl
      subst hC0
      go_wp2_with fail
      go_ret
      exact ⟨rfl, HB.out⟩

end Go.Proofs.Ytjjanjhoaiannaa
