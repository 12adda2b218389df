/- Visibility: Next. -/
import Derived.Test.YtjjanjhoaiannaaV5
import Derived.Test.YtjjanjhoaiannaaVp1
namespace Go.Proofs.Ytjjanjhoaiannaa
open Go.RowKit
set_option linter.unusedVariables false
set_option linter.unusedSimpArgs false

theorem vwpList_met {P : Program} {ops : Array Oper} {Q : Exit → Act → World → Prop} {rest : List Oper} {a : Act} {w : World} {dst : Option Tmp} {op : Op} {ty : TypeId} {pos : String} {after : Array Edge} {g : Nat × Bool}
    (hw : Region.wanted ⟨dst, op, ty, pos, after, some g⟩ (yielded ops a.tmps) = true) (h : wpList P ops Q (⟨dst, op, ty, pos, after, none⟩ :: rest) a w) : wpList P ops Q (⟨dst, op, ty, pos, after, some g⟩ :: rest) a w := by
  have h2 : Region.wanted ⟨dst, op, ty, pos, after, none⟩ (yielded ops a.tmps) = true := rfl
  unfold wpList at h ⊢
  rw [if_pos hw]
  rw [if_pos h2] at h
  exact h
def missing (L : List RowV) (G : List IdB) (r : RowV) : Bool := match r.refs.getLast? with | none => false | some q => !(decide (q ∈ L.map (·.id))) && !(decide (q ∈ G))
def nxStep (L : List RowV) (G : List IdB) (now : Int) (s : Int × Bool) (r : RowV) : Int × Bool :=
  if (missing L G r && decide (now < r.date + 2880) && (!s.2 || decide (r.date + 2880 < s.1))) = true then (r.date + 2880, true) else s
def nextL (L : List RowV) (G : List IdB) (now : Int) : Int × Bool := L.foldl (nxStep L G now) (0, false)
theorem fold_next {β : Type} (f : β → RowV → β) (b : β) (L : List RowV) {j : Nat} (h : j < L.length) : (L.take (j + 1)).foldl f b = f ((L.take j).foldl f b) L[j] := by
  rw [List.take_succ_eq_append_getElem h, List.foldl_append]
  rfl
def NextPost (w : World) (L : List RowV) (G : List IdB) (now : Int) (e : Ending) (w' : World) : Prop :=
  e = .returned (.tuple #[.int .i64 (if chkL L = 0 then (nextL L G now).1 else 0), .bool (if chkL L = 0 then (nextL L G now).2 else false), .int .i64 (chkL L)]) ∧ Below w.heap.size w w'

set_option maxRecDepth 100000 in
set_option maxHeartbeats 2000000 in
theorem Next_any {w : World} (v u : Value) (L : List RowV) (G : List IdB) (now : Int) (hv : RowsAt w v L) (hu : ListAt idE w u G) (hl : L.length < 1000000000) (hG : G.length < 1000000000) :
    Calls Try.prog 17 #[v, u, .int .i64 now] w (NextPost w L G now) := by
  have hck := vCheck_any v L hv hl
  unfold NextPost
  obtain ⟨va, vc, rfl⟩ := hv.l.form
  obtain ⟨ua, uc, rfl⟩ := hu.form
  obtain ⟨N, hN⟩ : ∃ N, L.length = N := ⟨_, rfl⟩
  obtain ⟨c, hc⟩ : ∃ c, chkL L = c := ⟨_, rfl⟩
  rw [hN] at hv hck ⊢
  rw [hc] at hck ⊢
  have HV := Lib.hid hv
  have HU := Lib.hid hu
  have HCK := Lib.hid hck
  have HC := Lib.hid hc
  have HN := Lib.hid hN
  clear hv hu hck hc hN
  go_enter Try.func17, Try.ntmps17
  go_wp2_with fail
  refine HCK.out.mono ?_
  rintro e w0 ⟨rfl, hb0⟩
  rcases Decidable.em (¬ c = 0) with h0 | h0
  · have HB0 := Lib.hid hb0
    clear hb0
    have hb : (c == 0) = false := by simpa using h0
    go_wp2_with fail
    exact bodyPost_ret (v := .tuple #[.int .i64 0, .bool false, .int .i64 c]) (by simp [results, Try.results17, go_sem]) rfl ⟨by simp [h0], HB0.out⟩
  obtain rfl : c = 0 := Decidable.not_not.1 h0
  clear h0
  obtain ⟨hlen, hdt, hrf, hnd⟩ := chk_zero HC.out
  rw [HN.out] at hlen
  obtain ⟨wm, hwm⟩ : ∃ wm, w0.alloc (.map #[] 0) = wm := ⟨_, rfl⟩
  have hbm : Below w0.heap.size w0 wm := hwm ▸ (Below.refl _ _).alloc (Nat.le_refl _) _
  have hmm : KMap idKey wm w0.heap.size (fun _ => none) := hwm ▸ KMap.new w0
  have hmm := hmm.ext (g := setF ((L.take 0).map (·.id))) (fun k => by simp [setF])
  have hmk := fun n w => vmkMap Try.underlying64 n w
  have HMM := Lib.hid hmm
  have HS0 := Lib.hid hb0.size
  have HBM := Lib.hid (hb0.trans (hbm.mono hb0.size))
  have HDT := Lib.hid hdt
  have HRFL := Lib.hid hrf
  clear hb0 hbm hmm hdt hrf hnd
  go_wp2_with fail
  clear hwm
  go_loopw [29] (fun iv wr => ∃ i : Nat, i ≤ N ∧ iv = .int .i64 (i : Int) ∧ KMap idKey wr w0.heap.size (setF ((L.take i).map (·.id))) ∧ Below w.heap.size w wr) (fun iv _ => N - (intOf iv).toNat)
  case atStart => exact ⟨0, Nat.zero_le _, rfl, HMM.out, HBM.out⟩
  case round =>
    obtain ⟨i, hi, rfl, hm, hB⟩ := hrel
    have HM := Lib.hid hm
    have HB := Lib.hid hB
    clear hm hB
    by_cases hlt : i < N
    · have hiI : (i : Int) < (N : Int) := by omega
      have hiI0 : (0 : Int) ≤ (i : Int) := by omega
      have hlt' : i < L.length := by rw [HN.out]; exact hlt
      obtain ⟨g, off, n9, c9, e9, hr, _⟩ := row_at (HV.out.below HB.out) hlt'
      cases e9
      have hset : ∀ k, (if k = L[i].id then some (.bool true) else setF ((L.take i).map (·.id)) k) = setF ((L.take (i + 1)).map (·.id)) k := fun k => by
        unfold setF
        rw [List.take_succ_eq_append_getElem hlt', List.map_append, List.map_cons, List.map_nil]
        by_cases hk : k = L[i].id
        · rw [if_pos hk, if_pos (by rw [hk]; simp)]
        · rw [if_neg hk]
          congr 1
          rw [List.mem_append, List.mem_singleton]
          simp [hk]
      obtain ⟨R, hR⟩ : ∃ R, L[i] = R := ⟨_, rfl⟩
      rw [hR] at hr hset
      obtain ⟨wz, w1, hwz, hnz, hst, hx1, hb1, hs1, hbz⟩ := newRow wr R
      obtain ⟨w2, hup, hm2, hc2⟩ := (HM.out.below hb1).upd Try.underlying64 R.id (.bool true)
      have hup' : (Instr.mapUpdate 64 (.map (some w0.heap.size)) (.agg (bvs R.id.1).toArray) (.bool true)).run Try.prog w1 = .ok () w2 := hup
      have hb2 : Below w.heap.size w w2 := (HB.out.trans (hb1.mono HB.out.size)).trans (hc2.below (fun k e => by have h := HS0.out; have e2 : k = w0.heap.size := e; omega) (Nat.le_trans HB.out.size hb1.size))
      have HM2 := Lib.hid (hm2.ext hset)
      have HR := Lib.hid hr
      have HNZ := Lib.hid hnz
      have HST := Lib.hid hst
      have HR1 := Lib.hid (row_id (range_block hx1))
      have HB2 := Lib.hid hb2
      have HSI := Lib.hid (sizeId R.id)
      have HSR := Lib.hid (sizeRow R)
      have HSA := Lib.hid (sizeRowA R)
      have HZS := Lib.hid (zsRow R)
      clear hr hnz hst hx1 hb1 hs1 hbz hm2 hc2 hb2 hup hset hR hmk
      go_wp2_with (first | (with_reducible refine wpList_load_mid rfl 36 _ rfl g (off + i * 83) rfl (R.cells) _ HR.out Try.underlying36 rfl HSR.out ?_) | (with_reducible refine wpList_store_row rfl 36 _ _ rfl wr.heap.size (R.cells).toArray rfl rfl 36 _ HNZ.out HSA.out HZS.out (oneRow R) ?_; rw [HST.out]) | (with_reducible refine wpList_load_mid rfl 31 _ rfl wr.heap.size (0) rfl (bvs R.id.1) _ HR1.out Try.underlying31 rfl HSI.out ?_))
      go_roundw
      case rel => exact ⟨i + 1, by omega, by go_num, HM2.out, HB2.out⟩
      case measure => simp [intOf]; omega
    · obtain rfl : N = i := by omega
      have hmw := HM.out.ext (g := setF (L.map (·.id))) (fun k => by rw [List.take_of_length_le (by rw [HN.out]; omega)])
      have hso := setOf_any _ G (HU.out.below HB.out) hG
      have HSO := Lib.hid hso
      have HMW := Lib.hid hmw
      clear hmw hso hmk
      go_wp2_with fail
      refine HSO.out.mono ?_
      rintro e wA ⟨mA, rfl, hmA0, hma, hbA⟩
      have HM := Lib.hid (HMW.out.below hbA)
      have HA := Lib.hid hma
      have HBA := Lib.hid (HB.out.trans (hbA.mono HB.out.size))
      clear hma hbA hmA0
      go_wp2_with fail
      go_loopw [6, 7, 41] (fun tv bv jv wr => ∃ (j : Nat) (t : Int) (b : Bool), j ≤ N ∧ (L.take j).foldl (nxStep L G now) (0, false) = (t, b) ∧ jv = .int .i64 (j : Int) ∧ tv = .int .i64 t ∧ bv = .bool b ∧ KMap idKey wr w0.heap.size (setF (L.map (·.id))) ∧ KMap idKey wr mA (setF G) ∧ Below w.heap.size w wr) (fun _ _ jv _ => N - (intOf jv).toNat)
      case atStart => exact ⟨0, 0, false, Nat.zero_le _, rfl, rfl, rfl, rfl, HM.out, HA.out, HBA.out⟩
      case round =>
        obtain ⟨j, t, b, hj, hfd, rfl, rfl, rfl, hm, ha, hB⟩ := hrel
        have HM := Lib.hid hm
        have HA := Lib.hid ha
        have HB := Lib.hid hB
        have HFD := Lib.hid hfd
        clear hm ha hB hfd
        by_cases hlt : j < N
        · have hjI : (j : Int) < (N : Int) := by omega
          have hjI0 : (0 : Int) ≤ (j : Int) := by omega
          have hlt' : j < L.length := by rw [HN.out]; exact hlt
          obtain ⟨g, off, n9, c9, e9, hr, hrl⟩ := row_at (HV.out.below HB.out) hlt'
          cases e9
          have hf1 := fold_next (nxStep L G now) (0, false) L hlt'
          rw [HFD.out] at hf1
          have hmem : L[j] ∈ L := List.getElem_mem hlt'
          obtain ⟨R, hR⟩ : ∃ R, L[j] = R := ⟨_, rfl⟩
          rw [hR] at hr hf1 hmem hrl
          obtain ⟨wz, w1, hwz, hnz, hst, hx1, hb1, hs1, hbz⟩ := newRow wr R
          have HR := Lib.hid hr
          have HNZ := Lib.hid hnz
          have HST := Lib.hid hst
          have HX1 := Lib.hid hx1
          have HRW := Lib.hid (range_block hx1)
          have HB0 := Lib.hid hb1
          have HB1 := Lib.hid (HB.out.trans (hb1.mono HB.out.size))
          have HSR := Lib.hid (sizeRow R)
          have HSA := Lib.hid (sizeRowA R)
          have HZS := Lib.hid (zsRow R)
          have HF1 := Lib.hid hf1
          have HRL := Lib.hid (hrl.below hb1)
          have HRF := Lib.hid (HRFL.out R hmem)
          have HDR := Lib.hid (HDT.out R hmem)
          clear hr hnz hst hx1 hb1 hs1 hbz hf1 hmem hR hrl
          rcases hQ : R.refs.getLast? with _ | q
          · obtain ⟨q, hq⟩ : ∃ q : IdB, z32 = q := ⟨_, rfl⟩
            have hqs : Calls Try.prog 30 #[.agg R.cells.toArray] w1 fun e w' => e = .returned (.tuple #[.agg (bvs q.1).toArray, .bool false]) ∧ Below w1.heap.size w1 w' := by
              have h := question_any R HRL.out (by have := HRF.out; omega)
              rw [hQ] at h; rw [← hq]
              exact h
            have HQS := Lib.hid hqs
            have HQ := Lib.hid hQ
            clear hqs hQ hq
            go_wp2_with (first | (with_reducible refine wpList_load_mid rfl 36 _ rfl g (off + j * 83) rfl (R.cells) _ HR.out Try.underlying36 rfl HSR.out ?_) | (with_reducible refine wpList_store_row rfl 36 _ _ rfl wr.heap.size (R.cells).toArray rfl rfl 36 _ HNZ.out HSA.out HZS.out (oneRow R) ?_; rw [HST.out]) | (with_reducible refine wpList_load_mid rfl 36 _ rfl wr.heap.size (0) rfl (R.cells) _ HRW.out Try.underlying36 rfl HSR.out ?_))
            refine HQS.out.mono ?_
            rintro e w2 ⟨rfl, hb2⟩
            obtain ⟨wz2, w3, hwz2, hnz2, hst2, hx2, hb3, hs3, hbz2⟩ := newId w2 q
            have hbr := HB1.out.trans (hb2.mono HB1.out.size)
            have hb13 := hb2.trans (hb3.mono hb2.size)
            have hbw := hbr.trans (hb3.mono hbr.size)
            have HNZ2 := Lib.hid hnz2
            have HST2 := Lib.hid hst2
            have HRQ := Lib.hid (range_block hx2)
            have HRW3 := Lib.hid (range_block ((hb13.block _ (Array.getElem?_eq_some_iff.1 HX1.out).1).trans HX1.out))
            have HSQ := Lib.hid (sizeId q)
            have HSAI := Lib.hid (sizeIdA q)
            have HZSI := Lib.hid (zsId q)
            have HM3 := Lib.hid ((HM.out.below HB0.out).below hb13)
            have HA3 := Lib.hid ((HA.out.below HB0.out).below hb13)
            have HBW := Lib.hid hbw
            clear hb2 hnz2 hst2 hx2 hb3 hs3 hbz2 hbr hb13 hbw

            have hms : missing L G R = false := by unfold missing; rw [HQ.out]
            have HMS := Lib.hid hms
            clear hms
            go_wp2_with (first | (with_reducible refine wpList_store_row rfl 31 _ _ rfl w2.heap.size (bvs q.1).toArray rfl rfl 31 _ HNZ2.out HSAI.out HZSI.out (oneCell_bvs _) ?_; rw [HST2.out]) | (with_reducible refine wpList_load_mid rfl 31 _ rfl w2.heap.size (0) rfl (bvs q.1) _ HRQ.out Try.underlying31 rfl HSQ.out ?_) | (with_reducible refine wpList_load_mid rfl 36 _ rfl wr.heap.size (0) rfl (R.cells) _ HRW3.out Try.underlying36 rfl HSR.out ?_) | (refine vwpList_met rfl ?_; (with_reducible refine wpList_load_mid rfl 31 _ rfl w2.heap.size (0) rfl (bvs q.1) _ HRQ.out Try.underlying31 rfl HSQ.out ?_)))
            go_roundw
            case rel => exact ⟨j + 1, t, b, by omega, (by rw [HF1.out]; simp [nxStep, HMS.out]), by go_num, rfl, rfl, HM3.out, HA3.out, HBW.out⟩
            case measure => simp [intOf]; omega

          · obtain ⟨b1, hb1⟩ : ∃ b1, decide (q ∈ L.map (·.id)) = b1 := ⟨_, rfl⟩
            obtain ⟨b2, hb2⟩ : ∃ b2, decide (q ∈ G) = b2 := ⟨_, rfl⟩
            have hms : missing L G R = (!b1 && !b2) := by unfold missing; rw [hQ, ← hb1, ← hb2]
            have HMS := Lib.hid hms
            have HBB1 := Lib.hid hb1
            have HBB2 := Lib.hid hb2
            clear hms hb1 hb2
            have hqs : Calls Try.prog 30 #[.agg R.cells.toArray] w1 fun e w' => e = .returned (.tuple #[.agg (bvs q.1).toArray, .bool true]) ∧ Below w1.heap.size w1 w' := by
              have h := question_any R HRL.out (by have := HRF.out; omega)
              rw [hQ] at h
              exact h
            have HQS := Lib.hid hqs
            have HQ := Lib.hid hQ
            clear hqs hQ
            go_wp2_with (first | (with_reducible refine wpList_load_mid rfl 36 _ rfl g (off + j * 83) rfl (R.cells) _ HR.out Try.underlying36 rfl HSR.out ?_) | (with_reducible refine wpList_store_row rfl 36 _ _ rfl wr.heap.size (R.cells).toArray rfl rfl 36 _ HNZ.out HSA.out HZS.out (oneRow R) ?_; rw [HST.out]) | (with_reducible refine wpList_load_mid rfl 36 _ rfl wr.heap.size (0) rfl (R.cells) _ HRW.out Try.underlying36 rfl HSR.out ?_))
            refine HQS.out.mono ?_
            rintro e w2 ⟨rfl, hb2⟩
            obtain ⟨wz2, w3, hwz2, hnz2, hst2, hx2, hb3, hs3, hbz2⟩ := newId w2 q
            have hbr := HB1.out.trans (hb2.mono HB1.out.size)
            have hb13 := hb2.trans (hb3.mono hb2.size)
            have hbw := hbr.trans (hb3.mono hbr.size)
            have HNZ2 := Lib.hid hnz2
            have HST2 := Lib.hid hst2
            have HRQ := Lib.hid (range_block hx2)
            have HRW3 := Lib.hid (range_block ((hb13.block _ (Array.getElem?_eq_some_iff.1 HX1.out).1).trans HX1.out))
            have HSQ := Lib.hid (sizeId q)
            have HSAI := Lib.hid (sizeIdA q)
            have HZSI := Lib.hid (zsId q)
            have HM3 := Lib.hid ((HM.out.below HB0.out).below hb13)
            have HA3 := Lib.hid ((HA.out.below HB0.out).below hb13)
            have HBW := Lib.hid hbw
            clear hb2 hnz2 hst2 hx2 hb3 hs3 hbz2 hbr hb13 hbw

            have hl1 : (Instr.lookup 64 (.map (some w0.heap.size)) (.agg (bvs q.1).toArray) false).run Try.prog w3 = .ok (.bool b1) w3 := by
              rw [lookEq HM3.out, ← HBB1.out]
              unfold setF
              by_cases h : q ∈ L.map (·.id)
              · rw [if_pos h, decide_eq_true h]; rfl
              · rw [if_neg h, decide_eq_false h]; rfl
            have hl2 : (Instr.lookup 64 (.map (some mA)) (.agg (bvs q.1).toArray) false).run Try.prog w3 = .ok (.bool b2) w3 := by
              rw [lookEq HA3.out, ← HBB2.out]
              unfold setF
              by_cases h : q ∈ G <;> simp [h]
            cases b1 with
            | true =>
              go_wp2_with (first | (with_reducible refine wpList_store_row rfl 31 _ _ rfl w2.heap.size (bvs q.1).toArray rfl rfl 31 _ HNZ2.out HSAI.out HZSI.out (oneCell_bvs _) ?_; rw [HST2.out]) | (with_reducible refine wpList_load_mid rfl 31 _ rfl w2.heap.size (0) rfl (bvs q.1) _ HRQ.out Try.underlying31 rfl HSQ.out ?_) | (with_reducible refine wpList_load_mid rfl 36 _ rfl wr.heap.size (0) rfl (R.cells) _ HRW3.out Try.underlying36 rfl HSR.out ?_) | (refine vwpList_met rfl ?_; (with_reducible refine wpList_load_mid rfl 31 _ rfl w2.heap.size (0) rfl (bvs q.1) _ HRQ.out Try.underlying31 rfl HSQ.out ?_)))
              go_roundw
              case rel => exact ⟨j + 1, t, b, by omega, (by rw [HF1.out]; simp [nxStep, HMS.out]), by go_num, rfl, rfl, HM3.out, HA3.out, HBW.out⟩
              case measure => simp [intOf]; omega

            | false =>
              cases b2 with
              | true =>
                go_wp2_with (first | (with_reducible refine wpList_store_row rfl 31 _ _ rfl w2.heap.size (bvs q.1).toArray rfl rfl 31 _ HNZ2.out HSAI.out HZSI.out (oneCell_bvs _) ?_; rw [HST2.out]) | (with_reducible refine wpList_load_mid rfl 31 _ rfl w2.heap.size (0) rfl (bvs q.1) _ HRQ.out Try.underlying31 rfl HSQ.out ?_) | (with_reducible refine wpList_load_mid rfl 36 _ rfl wr.heap.size (0) rfl (R.cells) _ HRW3.out Try.underlying36 rfl HSR.out ?_) | (refine vwpList_met rfl ?_; (with_reducible refine wpList_load_mid rfl 31 _ rfl w2.heap.size (0) rfl (bvs q.1) _ HRQ.out Try.underlying31 rfl HSQ.out ?_)))
                go_roundw
                case rel => exact ⟨j + 1, t, b, by omega, (by rw [HF1.out]; simp [nxStep, HMS.out]), by go_num, rfl, rfl, HM3.out, HA3.out, HBW.out⟩
                case measure => simp [intOf]; omega

              | false =>
                have hun := Until_any (w := w3) R HDR.out.1 HDR.out.2
                have HUN := Lib.hid hun
                clear hun
                go_wp2_with (first | (with_reducible refine wpList_store_row rfl 31 _ _ rfl w2.heap.size (bvs q.1).toArray rfl rfl 31 _ HNZ2.out HSAI.out HZSI.out (oneCell_bvs _) ?_; rw [HST2.out]) | (with_reducible refine wpList_load_mid rfl 31 _ rfl w2.heap.size (0) rfl (bvs q.1) _ HRQ.out Try.underlying31 rfl HSQ.out ?_) | (with_reducible refine wpList_load_mid rfl 36 _ rfl wr.heap.size (0) rfl (R.cells) _ HRW3.out Try.underlying36 rfl HSR.out ?_) | (refine vwpList_met rfl ?_; (with_reducible refine wpList_load_mid rfl 31 _ rfl w2.heap.size (0) rfl (bvs q.1) _ HRQ.out Try.underlying31 rfl HSQ.out ?_)))
                refine HUN.out.mono ?_
                rintro e w4 ⟨rfl, hb4⟩
                have HBX := Lib.hid (HBW.out.trans (hb4.mono HBW.out.size))
                have HM4 := Lib.hid (HM3.out.below hb4)
                have HA4 := Lib.hid (HA3.out.below hb4)
                clear hb4 hl1 hl2
                by_cases hu1 : now < R.date + 2880
                · cases b with
                  | false =>
                    go_wp2_with fail
                    go_roundw
                    case rel => exact ⟨j + 1, R.date + 2880, true, by omega, (by rw [HF1.out]; simp [nxStep, HMS.out, hu1]), by go_num, rfl, rfl, HM4.out, HA4.out, HBX.out⟩
                    case measure => simp [intOf]; omega

                  | true =>
                    by_cases hu2 : R.date + 2880 < t
                    · go_wp2_with fail
                      go_roundw
                      case rel => exact ⟨j + 1, R.date + 2880, true, by omega, (by rw [HF1.out]; simp [nxStep, HMS.out, hu1, hu2]), by go_num, rfl, rfl, HM4.out, HA4.out, HBX.out⟩
                      case measure => simp [intOf]; omega

                    · have HSTP := Lib.hid (show nxStep L G now (t, true) R = (t, true) by unfold nxStep; rw [HMS.out, decide_eq_false hu2]; simp)
                      go_wp2_with fail
                      go_roundw
                      case rel => exact ⟨j + 1, t, true, by omega, (by rw [HF1.out]; exact HSTP.out), by go_num, rfl, rfl, HM4.out, HA4.out, HBX.out⟩
                      case measure => simp [intOf]; omega

                · have HSTP := Lib.hid (show nxStep L G now (t, b) R = (t, b) by unfold nxStep; rw [HMS.out, decide_eq_false hu1]; simp)
                  go_wp2_with fail
                  go_roundw
                  case rel => exact ⟨j + 1, t, b, by omega, (by rw [HF1.out]; exact HSTP.out), by go_num, rfl, rfl, HM4.out, HA4.out, HBX.out⟩
                  case measure => simp [intOf]; omega

        · obtain rfl : N = j := by omega
          have he : L.take N = L := List.take_of_length_le (by rw [HN.out]; omega)
          have hfin : nextL L G now = (t, b) := by have h := HFD.out; rw [he] at h; exact h
          have HFIN := Lib.hid hfin
          clear he hfin
          go_wp2_with fail
          exact bodyPost_ret (v := .tuple #[.int .i64 t, .bool b, .int .i64 0]) (by simp [results, Try.results17, go_sem]) rfl ⟨by simp [HFIN.out], HB.out⟩

end Go.Proofs.Ytjjanjhoaiannaa
