/- Visibility: the law's own marks. -/
import Derived.Test.YtjjanjhoaiannaaVp2
import Derived.Test.YtjjanjhoaiannaaV8
namespace Go.Proofs.Ytjjanjhoaiannaa
open Go.RowKit
set_option linter.unusedVariables false
set_option linter.unusedSimpArgs false

theorem cell_mark {w : World} {g : Nat} {M : List Bool} (h : w.heap[g]? = some (.cells (M.map Value.bool).toArray 4 (0, 0))) {i : Nat} (hi : i < M.length) : w.cell? ⟨g, i, none⟩ = some (.bool (M.getD i false)) := by
  rw [cell_of_row _ _ _ _ _ _ h]
  simpa using getD_map_bool hi
theorem set_mark {w : World} {g : Nat} {M : List Bool} (h : w.heap[g]? = some (.cells (M.map Value.bool).toArray 4 (0, 0))) {i : Nat} (_ : i < M.length) (b : Bool) : (w.setCell ⟨g, i, none⟩ (.bool b)).heap[g]? = some (.cells ((M.set i b).map Value.bool).toArray 4 (0, 0)) := by
  rw [heap_setCell_same _ _ _ _ _ _ h]
  simp
theorem closed_next {L : List RowV} {G : List IdB} {now : Int} {M : List Bool} {j : Nat} (h : ClosedTo L G now M j) (hj : j < L.length) (hc : okM L G now M L[j] = true → M.getD j false = true) : ClosedTo L G now M (j + 1) := by
  intro i hi hij hok
  by_cases e : i = j
  · subst e; exact hc hok
  · exact h i hi (by omega) hok
def MarksPost (w : World) (M : List Bool) (e : Ending) (w' : World) : Prop := ∃ a, e = .returned a ∧ OwnL boolE w' w.heap.size a M ∧ Below w.heap.size w w'

set_option maxRecDepth 100000 in
set_option maxHeartbeats 2000000 in
theorem shown_any {w : World} (v u : Value) (L : List RowV) (G : List IdB) (now : Int) (hv : RowsAt w v L) (hu : ListAt idE w u G) (hl : L.length ≤ 4096) (hG : G.length < 1000000000) (hn : (L.map (·.id)).Nodup) (hd : ∀ x ∈ L, 0 ≤ x.date ∧ x.date ≤ 105190559) (hrf : ∀ x ∈ L, x.refs.length ≤ 20) :
    Calls Try.prog 18 #[v, u, .int .i64 now] w (MarksPost w (L.map (shB L G now))) := by
  obtain ⟨va, vc, rfl⟩ := hv.l.form
  obtain ⟨ua, uc, rfl⟩ := hu.form
  obtain ⟨N, hN⟩ : ∃ N, L.length = N := ⟨_, rfl⟩
  rw [hN] at hv hl ⊢
  have hmk := make_marks N (by omega)
  obtain ⟨Z, hZ⟩ : ∃ Z, List.replicate N false = Z := ⟨_, rfl⟩
  obtain ⟨C0, hC0⟩ : ∃ C0, ((List.replicate N false).map Value.bool).toArray = C0 := ⟨_, rfl⟩
  rw [hC0] at hmk
  obtain ⟨w0, hw0⟩ : ∃ w0, w.alloc (.cells C0 4) = w0 := ⟨_, rfl⟩
  have hx0 : w0.heap[w.heap.size]? = some (.cells (Z.map Value.bool).toArray 4 (0, 0)) := by rw [← hw0, ← hZ, hC0]; exact heap_alloc_new _ _
  have HZ := Lib.hid hZ
  clear hZ hC0
  have hb0 : Below w.heap.size w w0 := hw0 ▸ (Below.refl _ _).alloc (Nat.le_refl _) _
  have HV := Lib.hid hv
  have HU := Lib.hid hu
  have HN := Lib.hid hN
  have HNN := Lib.hid hn
  have HDT := Lib.hid hd
  have HRFL := Lib.hid hrf
  have HX0 := Lib.hid hx0
  have HB0 := Lib.hid hb0
  clear hv hu hN hn hd hrf hx0 hb0
  go_enter Try.func18, Try.ntmps18
  go_wp2_with fail
  clear hmk hw0
  go_loopw [8] (fun gv wr => ∃ (M : List Bool) (ag : Bool), gv = .bool ag ∧ wr.heap[w.heap.size]? = some (.cells (M.map Value.bool).toArray 4 (0, 0)) ∧ M.length = N ∧ Snd L G now M ∧ (ag = false → ClosedTo L G now M N) ∧ Below w.heap.size w wr) (fun gv wr => 2 * cntW w.heap.size wr + (match gv with | .bool true => 1 | _ => 0))
  case atStart => exact ⟨Z, true, rfl, HX0.out, by rw [← HZ.out]; simp, (fun i _ h => by rw [← HZ.out, List.getD_eq_getElem?_getD, List.getElem?_replicate] at h; split at h <;> simp at h), (fun e => by cases e), HB0.out⟩
  case round =>
    obtain ⟨M0, ag, rfl, hx, hlm, hsnd, hcl, hB⟩ := hrel
    have HX := Lib.hid hx
    have HLM0 := Lib.hid hlm
    have HSND0 := Lib.hid hsnd
    have HCL0 := Lib.hid hcl
    have HB := Lib.hid hB
    have HCW := Lib.hid (cntW_of hx)
    clear hx hlm hsnd hcl hB
    cases ag with
    | false =>
      have hme : M0 = L.map (shB L G now) := marks_eq (by rw [HLM0.out, HN.out]) HSND0.out (by rw [HN.out]; exact HCL0.out rfl)
      have hown := own_marks HX.out (Nat.le_refl _) (by rw [HLM0.out]; unfold maxLen; omega)
      rw [HLM0.out, hme] at hown
      have HOWN := Lib.hid hown
      clear hme hown
      go_wp2_with fail
      exact bodyPost_ret (v := .slice (some ⟨w.heap.size, 0, none⟩) N N) (by simp [results, Try.results18, go_sem]) rfl ⟨_, rfl, HOWN.out, HB.out⟩
    | true =>
      go_wp2_with fail
      obtain ⟨wo, hwo⟩ : ∃ wo, wr = wo := ⟨_, rfl⟩
      have HWO := Lib.hid hwo
      clear hwo
      go_loopw [8, 9] (fun gv jv wr => ∃ (j : Nat) (M : List Bool) (ag : Bool), j ≤ N ∧ jv = .int .i64 (j : Int) ∧ gv = .bool ag ∧ wr.heap[w.heap.size]? = some (.cells (M.map Value.bool).toArray 4 (0, 0)) ∧ M.length = N ∧ Snd L G now M ∧ M.count false ≤ M0.count false ∧ (ag = true → M.count false < M0.count false) ∧ (ag = false → M = M0 ∧ ClosedTo L G now M0 j) ∧ Below w.heap.size w wr) (fun _ jv _ => N - (intOf jv).toNat)
      case atStart => exact ⟨0, M0, false, Nat.zero_le _, rfl, rfl, HX.out, HLM0.out, HSND0.out, Nat.le_refl _, (fun e => by cases e), (fun _ => ⟨rfl, fun i _ h => by omega⟩), HB.out⟩
      case round =>
        obtain ⟨j, M, ag, hj, rfl, rfl, hx, hlm, hsnd, hc1, hc2, hcl, hB⟩ := hrel
        have HX := Lib.hid hx
        have HLM := Lib.hid hlm
        have HSND := Lib.hid hsnd
        have HC1 := Lib.hid hc1
        have HC2 := Lib.hid hc2
        have HCL := Lib.hid hcl
        have HB := Lib.hid hB
        clear hx hlm hsnd hc1 hc2 hcl hB
        by_cases hlt : j < N
        · have hjI : (j : Int) < (N : Int) := by omega
          have hjI0 : (0 : Int) ≤ (j : Int) := by omega
          have hlt' : j < L.length := by rw [HN.out]; exact hlt
          obtain ⟨g, off, n9, c9, e9, hr, hrl⟩ := row_at (HV.out.below HB.out) hlt'
          cases e9
          obtain ⟨hdt, _, hrv⟩ := row_mid hr
          obtain ⟨ra, rc, hre⟩ := hrl.form
          have hmem : L[j] ∈ L := List.getElem_mem hlt'
          have hr20 := HRFL.out _ hmem
          have hdd := HDT.out _ hmem
          rcases hQ : L[j].refs.getLast? with _ | q
          · have hnil : L[j].refs = [] := List.getLast?_eq_none_iff.1 hQ
            have hn0 : L[j].refs.length = 0 := by rw [hnil]; rfl
            have hok : okM L G now M L[j] = true := by unfold okM; rw [hQ]
            have HOK := Lib.hid hok
            rw [hre, hn0] at hrv
            clear hr hdt hrl hre hmem hr20 hdd hQ hnil hn0 hok
            have HBR := Lib.hid HB.out
            obtain ⟨mi, hmi⟩ : ∃ mi, M.getD j false = mi := ⟨_, rfl⟩
            have hci := cell_mark HX.out (i := j) (by rw [HLM.out]; exact hlt)
            rw [hmi] at hci
            cases mi with
            | true =>
              have HCT := Lib.hid (show ag = false → M = M0 ∧ ClosedTo L G now M0 (j + 1) from fun e => by
                obtain ⟨e1, e2⟩ := HCL.out e
                exact ⟨e1, closed_next e2 hlt' (fun _ => e1 ▸ hmi)⟩)
              clear hmi
              go_wp2_with fail
              go_roundw
              case rel => exact ⟨j + 1, M, ag, by omega, by go_num, rfl, HX.out, HLM.out, HSND.out, HC1.out, HC2.out, HCT.out, HB.out⟩
              case measure => simp [intOf]; omega
            | false =>
              have HMI := Lib.hid hmi
              clear hmi
              have hst0 := set_mark HX.out (i := j) (by rw [HLM.out]; exact hlt) true
              have hfz : wr.frozen? ⟨w.heap.size, j, none⟩ = false := frozen_of_row _ _ _ _ _ HX.out
              have HS9 := Lib.hid hst0
              have HSD9 := Lib.hid (HSND.out.set HNN.out hlt' HOK.out)
              have hcs : (M.set j true).count false + 1 = M.count false := count_set (by rw [HLM.out]; exact hlt) (by have h := HMI.out; rw [List.getD_eq_getElem?_getD, List.getElem?_eq_getElem (by rw [HLM.out]; exact hlt)] at h; exact h)
              have HCS := Lib.hid hcs
              have HB9 := Lib.hid ((HB.out : Below w.heap.size w wr).setCell (p := ⟨w.heap.size, j, none⟩) (Nat.le_refl _) (.bool true))
              clear hst0 hcs
              go_wp2_with fail
              go_roundw
              case rel => exact ⟨j + 1, M.set j true, true, by omega, by go_num, rfl, HS9.out, by rw [List.length_set]; exact HLM.out, HSD9.out, by have h1 := HCS.out; have h2 := HC1.out; omega, fun _ => by have h1 := HCS.out; have h2 := HC1.out; omega, (fun e => by cases e), HB9.out⟩
              case measure => simp [intOf]; omega

          · obtain ⟨K, hK⟩ : ∃ K, L[j].refs.length = K := ⟨_, rfl⟩
            have hKp : 0 < K := by
              cases h : L[j].refs with
              | nil => rw [h] at hQ; cases hQ
              | cons a t => rw [← hK, h]; exact Nat.succ_pos _
            have hqe : L[j].refs[K - 1]'(by omega) = q := by
              rw [List.getLast?_eq_getElem?, hK, List.getElem?_eq_getElem (by omega)] at hQ
              exact Option.some.inj hQ
            have hrl2 := hre ▸ hrl
            obtain ⟨qg, qo, hqa, hqg, hqr⟩ := hrl2.get (i := K - 1) (by omega)
            rw [hqe] at hqr
            obtain ⟨m, hm⟩ : ∃ m, K - 1 = m := ⟨_, rfl⟩
            rw [hm] at hqr
            have hqr : wr.rangeAt qg (qo + m * 32) (bvs q.1) := hqr
            subst hqa
            rw [hre, hK] at hrv
            have hNl : (K : Int) - 1 = (m : Int) := by omega
            have hKI : (1 : Int) ≤ (K : Int) := by omega
            have hK20 : K ≤ 20 := by omega
            have hm20 : m ≤ 20 := by omega
            have hmlt : (m : Int) < (K : Int) := by omega
            have hm0 : (0 : Int) ≤ (m : Int) := by omega
            have hmpos : (0 : Int) < (K : Int) := by omega
            have hmne : ((K : Int) == 0) = false := by simp; omega
            obtain ⟨d, hdq⟩ : ∃ d, L[j].date = d := ⟨_, rfl⟩
            rw [hdq] at hdt hdd
            obtain ⟨hd1, hd2⟩ := hdd
            obtain ⟨wz, w1, hwz, hnz, hst, hx1, hb1, hs1, hbz⟩ := newId wr q
            have hrow := row_any _ L q ((HV.out.below HB.out).below hb1) (by have := HN.out; omega)
            have HNZ := Lib.hid hnz
            have HST := Lib.hid hst
            have HRQS := Lib.hid hqr
            have HX1 := Lib.hid hx1
            have HRQ := Lib.hid (range_block hx1)
            have HB1 := Lib.hid hb1
            have HSQ := Lib.hid (sizeId q)
            have HSAI := Lib.hid (sizeIdA q)
            have HZSI := Lib.hid (zsId q)
            have HROW := Lib.hid hrow
            have HQ := Lib.hid hQ
            have HDQ := Lib.hid hdq
            clear hr hrl hre hmem hr20 hQ hm hqe hqr hrl2 hK hnz hst hx1 hb1 hs1 hbz hrow hdq
            go_wp2_with (first | (with_reducible refine wpList_store_row rfl 31 _ _ rfl wr.heap.size (bvs q.1).toArray rfl rfl 31 _ HNZ.out HSAI.out HZSI.out (oneCell_bvs _) ?_; rw [HST.out]) | (with_reducible refine wpList_load_mid rfl 31 _ rfl qg (qo + m * 32) rfl (bvs q.1) _ HRQS.out Try.underlying31 rfl HSQ.out ?_) | (with_reducible refine wpList_load_mid rfl 31 _ rfl wr.heap.size (0) rfl (bvs q.1) _ HRQ.out Try.underlying31 rfl HSQ.out ?_))
            refine HROW.out.mono ?_
            rintro e w2 ⟨rfl, hb2⟩
            have hb12 := HB1.out.trans (hb2.mono HB1.out.size)
            have hx2 := (hb12.block _ (Array.getElem?_eq_some_iff.1 HX.out).1).trans HX.out
            have hrq2 := range_block ((hb2.block _ (Array.getElem?_eq_some_iff.1 HX1.out).1).trans HX1.out)
            have hhas := has_any _ G q ((HU.out.below HB.out).below hb12) hG
            have hdt2 := (hb12.cell (p := ⟨g, off + j * 83 + 48, none⟩) (World.block_lt_of_cell? _ _ hdt)).trans hdt
            have HX2 := Lib.hid hx2
            have HRQ2 := Lib.hid hrq2
            have HB12 := Lib.hid hb12
            have HBW2 := Lib.hid (HB.out.trans (hb12.mono HB.out.size))
            have HHAS := Lib.hid hhas
            have HDT2 := Lib.hid hdt2
            clear hb2 hb12 hx2 hrq2 hhas hdt2 hdt
            rcases hk : L.findIdx? (fun r => r.id == q) with _ | k
            · have hix : rowIx L q = -1 := by unfold rowIx; rw [hk]
              rw [hix]
              have HK := Lib.hid hk
              clear hk hix
              go_wp2_with (first | (with_reducible refine wpList_load_mid rfl 31 _ rfl wr.heap.size (0) rfl (bvs q.1) _ HRQ2.out Try.underlying31 rfl HSQ.out ?_) | (refine vwpList_met rfl ?_; (with_reducible refine wpList_load_mid rfl 31 _ rfl wr.heap.size (0) rfl (bvs q.1) _ HRQ2.out Try.underlying31 rfl HSQ.out ?_)))
              refine HHAS.out.mono ?_
              rintro e w3 ⟨rfl, hb3⟩
              have hx3 := (hb3.block _ (Array.getElem?_eq_some_iff.1 HX2.out).1).trans HX2.out
              have hdt3 := (hb3.cell (p := ⟨g, off + j * 83 + 48, none⟩) (World.block_lt_of_cell? _ _ HDT2.out)).trans HDT2.out
              have HX3 := Lib.hid hx3
              have HBW3 := Lib.hid (HBW2.out.trans (hb3.mono HBW2.out.size))
              clear hb3 hx3
              obtain ⟨bg, hbg⟩ : ∃ bg, decide (q ∈ G) = bg := ⟨_, rfl⟩
              rw [hbg]
              have hok : okM L G now M L[j] = (bg || decide (d + 2880 ≤ now)) := by
                unfold okM
                rw [HQ.out]
                simp only [HK.out]
                rw [hbg, HDQ.out]
              have HOK0 := Lib.hid hok
              clear hbg hok
              cases bg with
              | true =>
                have HOK := Lib.hid (HOK0.out.trans (Bool.true_or _))
                obtain ⟨mi, hmi⟩ : ∃ mi, M.getD j false = mi := ⟨_, rfl⟩
                have hci := cell_mark HX3.out (i := j) (by rw [HLM.out]; exact hlt)
                rw [hmi] at hci
                cases mi with
                | true =>
                  have HCT := Lib.hid (show ag = false → M = M0 ∧ ClosedTo L G now M0 (j + 1) from fun e => by
                    obtain ⟨e1, e2⟩ := HCL.out e
                    exact ⟨e1, closed_next e2 hlt' (fun _ => e1 ▸ hmi)⟩)
                  clear hmi
                  go_wp2_with fail
                  go_roundw
                  case rel => exact ⟨j + 1, M, ag, by omega, by go_num, rfl, HX3.out, HLM.out, HSND.out, HC1.out, HC2.out, HCT.out, HBW3.out⟩
                  case measure => simp [intOf]; omega
                | false =>
                  have HMI := Lib.hid hmi
                  clear hmi
                  have hst0 := set_mark HX3.out (i := j) (by rw [HLM.out]; exact hlt) true
                  have hfz : w3.frozen? ⟨w.heap.size, j, none⟩ = false := frozen_of_row _ _ _ _ _ HX3.out
                  have HS9 := Lib.hid hst0
                  have HSD9 := Lib.hid (HSND.out.set HNN.out hlt' HOK.out)
                  have hcs : (M.set j true).count false + 1 = M.count false := count_set (by rw [HLM.out]; exact hlt) (by have h := HMI.out; rw [List.getD_eq_getElem?_getD, List.getElem?_eq_getElem (by rw [HLM.out]; exact hlt)] at h; exact h)
                  have HCS := Lib.hid hcs
                  have HB9 := Lib.hid ((HBW3.out : Below w.heap.size w w3).setCell (p := ⟨w.heap.size, j, none⟩) (Nat.le_refl _) (.bool true))
                  clear hst0 hcs
                  go_wp2_with fail
                  go_roundw
                  case rel => exact ⟨j + 1, M.set j true, true, by omega, by go_num, rfl, HS9.out, by rw [List.length_set]; exact HLM.out, HSD9.out, by have h1 := HCS.out; have h2 := HC1.out; omega, fun _ => by have h1 := HCS.out; have h2 := HC1.out; omega, (fun e => by cases e), HB9.out⟩
                  case measure => simp [intOf]; omega

              | false =>
                by_cases ht : d + 2880 ≤ now
                · have HOK := Lib.hid (HOK0.out.trans (by rw [Bool.false_or, decide_eq_true ht]))
                  obtain ⟨mi, hmi⟩ : ∃ mi, M.getD j false = mi := ⟨_, rfl⟩
                  have hci := cell_mark HX3.out (i := j) (by rw [HLM.out]; exact hlt)
                  rw [hmi] at hci
                  cases mi with
                  | true =>
                    have HCT := Lib.hid (show ag = false → M = M0 ∧ ClosedTo L G now M0 (j + 1) from fun e => by
                      obtain ⟨e1, e2⟩ := HCL.out e
                      exact ⟨e1, closed_next e2 hlt' (fun _ => e1 ▸ hmi)⟩)
                    clear hmi
                    go_wp2_with fail
                    go_roundw
                    case rel => exact ⟨j + 1, M, ag, by omega, by go_num, rfl, HX3.out, HLM.out, HSND.out, HC1.out, HC2.out, HCT.out, HBW3.out⟩
                    case measure => simp [intOf]; omega
                  | false =>
                    have HMI := Lib.hid hmi
                    clear hmi
                    have hst0 := set_mark HX3.out (i := j) (by rw [HLM.out]; exact hlt) true
                    have hfz : w3.frozen? ⟨w.heap.size, j, none⟩ = false := frozen_of_row _ _ _ _ _ HX3.out
                    have HS9 := Lib.hid hst0
                    have HSD9 := Lib.hid (HSND.out.set HNN.out hlt' HOK.out)
                    have hcs : (M.set j true).count false + 1 = M.count false := count_set (by rw [HLM.out]; exact hlt) (by have h := HMI.out; rw [List.getD_eq_getElem?_getD, List.getElem?_eq_getElem (by rw [HLM.out]; exact hlt)] at h; exact h)
                    have HCS := Lib.hid hcs
                    have HB9 := Lib.hid ((HBW3.out : Below w.heap.size w w3).setCell (p := ⟨w.heap.size, j, none⟩) (Nat.le_refl _) (.bool true))
                    clear hst0 hcs
                    go_wp2_with fail
                    go_roundw
                    case rel => exact ⟨j + 1, M.set j true, true, by omega, by go_num, rfl, HS9.out, by rw [List.length_set]; exact HLM.out, HSD9.out, by have h1 := HCS.out; have h2 := HC1.out; omega, fun _ => by have h1 := HCS.out; have h2 := HC1.out; omega, (fun e => by cases e), HB9.out⟩
                    case measure => simp [intOf]; omega

                · have HOK := Lib.hid (HOK0.out.trans (by rw [Bool.false_or, decide_eq_false ht]))
                  have HCT := Lib.hid (show ag = false → M = M0 ∧ ClosedTo L G now M0 (j + 1) from fun e => by
                    obtain ⟨e1, e2⟩ := HCL.out e
                    exact ⟨e1, closed_next e2 hlt' (fun h => by rw [← e1, HOK.out] at h; cases h)⟩)
                  go_wp2_with fail
                  go_roundw
                  case rel => exact ⟨j + 1, M, ag, by omega, by go_num, rfl, HX3.out, HLM.out, HSND.out, HC1.out, HC2.out, HCT.out, HBW3.out⟩
                  case measure => simp [intOf]; omega

            · have hix : rowIx L q = (k : Int) := by unfold rowIx; rw [hk]
              rw [hix]
              obtain ⟨hkl, _⟩ := find_idx.1 hk
              rw [HN.out] at hkl
              have hkI : (k : Int) < (N : Int) := by omega
              have hkI0 : (0 : Int) ≤ (k : Int) := by omega
              have hck := cell_mark HX2.out (i := k) (by rw [HLM.out]; exact hkl)
              obtain ⟨mk, hmk⟩ : ∃ mk, M.getD k false = mk := ⟨_, rfl⟩
              have hok : okM L G now M L[j] = mk := by
                unfold okM
                rw [HQ.out]
                simp only [hk]
                exact hmk
              have HOK := Lib.hid hok
              rw [hmk] at hck
              clear hk hix hmk hok
              cases mk with
              | true =>
                obtain ⟨mi, hmi⟩ : ∃ mi, M.getD j false = mi := ⟨_, rfl⟩
                have hci := cell_mark HX2.out (i := j) (by rw [HLM.out]; exact hlt)
                rw [hmi] at hci
                cases mi with
                | true =>
                  have HCT := Lib.hid (show ag = false → M = M0 ∧ ClosedTo L G now M0 (j + 1) from fun e => by
                    obtain ⟨e1, e2⟩ := HCL.out e
                    exact ⟨e1, closed_next e2 hlt' (fun _ => e1 ▸ hmi)⟩)
                  clear hmi
                  go_wp2_with fail
                  go_roundw
                  case rel => exact ⟨j + 1, M, ag, by omega, by go_num, rfl, HX2.out, HLM.out, HSND.out, HC1.out, HC2.out, HCT.out, HBW2.out⟩
                  case measure => simp [intOf]; omega
                | false =>
                  have HMI := Lib.hid hmi
                  clear hmi
                  have hst0 := set_mark HX2.out (i := j) (by rw [HLM.out]; exact hlt) true
                  have hfz : w2.frozen? ⟨w.heap.size, j, none⟩ = false := frozen_of_row _ _ _ _ _ HX2.out
                  have HS9 := Lib.hid hst0
                  have HSD9 := Lib.hid (HSND.out.set HNN.out hlt' HOK.out)
                  have hcs : (M.set j true).count false + 1 = M.count false := count_set (by rw [HLM.out]; exact hlt) (by have h := HMI.out; rw [List.getD_eq_getElem?_getD, List.getElem?_eq_getElem (by rw [HLM.out]; exact hlt)] at h; exact h)
                  have HCS := Lib.hid hcs
                  have HB9 := Lib.hid ((HBW2.out : Below w.heap.size w w2).setCell (p := ⟨w.heap.size, j, none⟩) (Nat.le_refl _) (.bool true))
                  clear hst0 hcs
                  go_wp2_with fail
                  go_roundw
                  case rel => exact ⟨j + 1, M.set j true, true, by omega, by go_num, rfl, HS9.out, by rw [List.length_set]; exact HLM.out, HSD9.out, by have h1 := HCS.out; have h2 := HC1.out; omega, fun _ => by have h1 := HCS.out; have h2 := HC1.out; omega, (fun e => by cases e), HB9.out⟩
                  case measure => simp [intOf]; omega

              | false =>
                have HCT := Lib.hid (show ag = false → M = M0 ∧ ClosedTo L G now M0 (j + 1) from fun e => by
                  obtain ⟨e1, e2⟩ := HCL.out e
                  exact ⟨e1, closed_next e2 hlt' (fun h => by rw [← e1, HOK.out] at h; cases h)⟩)
                go_wp2_with fail
                go_roundw
                case rel => exact ⟨j + 1, M, ag, by omega, by go_num, rfl, HX2.out, HLM.out, HSND.out, HC1.out, HC2.out, HCT.out, HBW2.out⟩
                case measure => simp [intOf]; omega

        · obtain rfl : N = j := by omega
          have HCW2 := Lib.hid (cntW_of HX.out)
          go_wp2_with fail
          go_roundw
          case rel => exact ⟨M, ag, rfl, HX.out, HLM.out, HSND.out, (fun e => (HCL.out e).1 ▸ (HCL.out e).2), HB.out⟩
          case measure =>
            rw [HCW2.out, HCW.out]
            have h1 := HC1.out
            cases ag with
            | true => have h2 := HC2.out rfl; simp; omega
            | false => simp; omega

end Go.Proofs.Ytjjanjhoaiannaa
