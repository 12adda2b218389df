/- Visibility: the sorted identities of rows; Held, Shown. -/
import Derived.Test.YtjjanjhoaiannaaV4
import Derived.Test.YtjjanjhoaiannaaVp3
import Derived.Test.YtjjanjhoaiannaaVp1
namespace Go.Proofs.Ytjjanjhoaiannaa
open Go.RowKit
set_option linter.unusedVariables false
set_option linter.unusedSimpArgs false

def IdsPost (w : World) (L : List RowV) (e : Ending) (w' : World) : Prop :=
  ∃ a, e = .returned a ∧ OwnL idE w' w.heap.size a (sortB (L.map (·.id))) ∧ Below w.heap.size w w'
theorem zOkId : ((Try.prog.info? 31).bind (·.zero)).isSome = true := by kernel_rfl

set_option maxRecDepth 100000 in
set_option maxHeartbeats 2000000 in
theorem ids_any {w : World} (v : Value) (L : List RowV) (hv : RowsAt w v L) (hl : L.length ≤ 4096) :
    Calls Try.prog 28 #[v] w (IdsPost w L) := by
  obtain ⟨va, vc, rfl⟩ := hv.l.form
  obtain ⟨N, hN⟩ : ∃ N, L.length = N := ⟨_, rfl⟩
  rw [hN] at hv hl ⊢
  obtain ⟨w0, hmk, ho, hb0⟩ := run_mkL idE w (B := w.heap.size) N (by omega) (Nat.le_refl _)
  have HV := Lib.hid hv
  have HN := Lib.hid hN
  have HO := Lib.hid ho
  have HB0 := Lib.hid hb0
  clear hv hN ho hb0
  go_enter Try.func28, Try.ntmps28
  go_wp2_with fail
  clear hmk
  go_loopw [3, 11] (fun av jv wr => ∃ j : Nat, j ≤ N ∧ jv = .int .i64 (j : Int) ∧ OwnL idE wr w.heap.size av ((L.take j).map (·.id)) ∧ Below w.heap.size w wr) (fun _ jv _ => N - (intOf jv).toNat)
  case atStart => exact ⟨0, Nat.zero_le _, rfl, HO.out, HB0.out⟩
  case round =>
    obtain ⟨j, hj, rfl, hoa, hB⟩ := hrel
    obtain ⟨aa, ac, rfl⟩ := hoa.form
    have hna : ((L.take j).map (·.id)).length = j := by rw [List.length_map, List.length_take, HN.out]; omega
    rw [hna] at hoa ⊢
    have HOA := Lib.hid hoa
    have HB := Lib.hid hB
    have HNA := Lib.hid hna
    clear hoa hB hna
    by_cases hlt : j < N
    · have hjI : (j : Int) < (N : Int) := by omega
      have hjI0 : (0 : Int) ≤ (j : Int) := by omega
      have hlt' : j < L.length := by rw [HN.out]; exact hlt
      obtain ⟨g, off, n9, c9, e9, hr, _⟩ := row_at (HV.out.below HB.out) hlt'
      cases e9
      have hf1 : (L.take (j + 1)).map (·.id) = (L.take j).map (·.id) ++ [L[j].id] := by
        rw [List.take_succ_eq_append_getElem hlt', List.map_append, List.map_cons, List.map_nil]
      obtain ⟨R, hR⟩ : ∃ R, L[j] = R := ⟨_, rfl⟩
      rw [hR] at hr hf1
      obtain ⟨wz, w1, hwz, hnz, hst, hx1, hb1, hs1, hbz⟩ := newRow wr R
      have HR := Lib.hid hr
      have HNZ := Lib.hid hnz
      have HST := Lib.hid hst
      have HR1 := Lib.hid (row_id (range_block hx1))
      have HSI := Lib.hid (sizeId R.id)
      have HSIA := Lib.hid (sizeIdA R.id)
      have HSR := Lib.hid (sizeRow R)
      have HSA := Lib.hid (sizeRowA R)
      have HZS := Lib.hid (zsRow R)
      have HF1 := Lib.hid hf1
      have HOA1 := Lib.hid (HOA.out.below hb1)
      have HB1 := Lib.hid (HB.out.trans (hb1.mono HB.out.size))
      obtain ⟨we, hwe⟩ : ∃ we, w1.alloc (.cells (bvs R.id.1).toArray 31) = we := ⟨_, rfl⟩
      have hbe : Below w1.heap.size w1 we := hwe ▸ one_below idE w1 R.id
      have hone : ListAt idE we (.slice (some ⟨w1.heap.size, 0, none⟩) 1 1) [R.id] := hwe ▸ listAt_one idE w1 R.id
      have HONE := Lib.hid hone
      have HOAE := Lib.hid (HOA1.out.below hbe)
      have HBE := Lib.hid (HB1.out.trans (hbe.mono HB1.out.size))
      have HWE := Lib.hid hwe
      have HCS := Lib.hid (show (bvs R.id.1).toArray.size = 32 from by rw [List.size_toArray, bvs_length, R.id.2])
      have HZO := Lib.hid zOkId
      clear hr hnz hst hx1 hb1 hs1 hbz hf1 hone hbe hwe hR
      go_wp2_with (first | (with_reducible refine wpList_load_mid rfl 36 _ rfl g (off + j * 83) rfl (R.cells) _ HR.out Try.underlying36 rfl HSR.out ?_) | (with_reducible refine wpList_store_row rfl 36 _ _ rfl wr.heap.size (R.cells).toArray rfl rfl 36 _ HNZ.out HSA.out HZS.out (oneRow R) ?_; rw [HST.out]) | (with_reducible refine wpList_load_mid rfl 31 _ rfl wr.heap.size (0) rfl (bvs R.id.1) _ HR1.out Try.underlying31 rfl HSI.out ?_) | (with_reducible refine wpList_lit1 rfl 23 31 (.tmp 17) rfl (bvs R.id.1).toArray rfl HWE.out Try.underlying23 HSIA.out HZO.out (by rw [HCS.out]; decide) (by rw [HCS.out]; decide) ?_) | (at_builtin; refine wpList_appL idE rfl (n := j) (m := 1) (.tmp 15) (.tmp 18) rfl rfl HOAE.out rfl HONE.out HNA.out rfl (by omega) HBE.out.size ?_))
      intro a2 c2 wq ho2 hgr hat
      go_wp2_with fail
      have hbq := HOAE.out.grown_below hgr HBE.out.size
      go_roundw
      case rel => exact ⟨j + 1, by omega, by go_num, (by rw [HF1.out, List.map_take]; exact ho2), HBE.out.trans hbq⟩
      case measure => simp [intOf]; omega
    · obtain rfl : N = j := by omega
      have he : L.take N = L := List.take_of_length_le (by rw [HN.out]; omega)
      have hfa : OwnL idE wr w.heap.size (.slice aa N ac) (L.map (·.id)) := by have h := HOA.out; rw [he] at h; exact h
      have hso := vsortId_any (L.map (·.id)) hfa HB.out.size (by rw [List.length_map, HN.out]; omega)
      have HSO := Lib.hid hso
      clear hso hfa he
      go_wp2_with fail
      refine HSO.out.mono ?_
      rintro e w2 ⟨rfl, ho2, hb2⟩
      have HO2 := Lib.hid ho2
      have HB2 := Lib.hid hb2
      clear ho2 hb2
      go_wp2_with fail
      exact bodyPost_ret (v := .slice aa N ac) (by simp [results, Try.results28, go_sem]) rfl ⟨_, rfl, HO2.out, HB.out.trans HB2.out⟩

theorem chkGo_zero {seen : List IdB} {L : List RowV} (h : vchkGo seen L = 0) : (∀ x ∈ L, 0 ≤ x.date ∧ x.date ≤ 105190559) ∧ (∀ x ∈ L, x.refs.length ≤ 20) ∧ (∀ x ∈ L, x.id ∉ seen) ∧ (L.map (·.id)).Nodup := by
  induction L generalizing seen with
  | nil => simp
  | cons r L ih =>
    unfold vchkGo at h
    split at h
    · simp at h
    · split at h
      · simp at h
      · split at h
        · simp at h
        · rename_i h1 h2 h3
          obtain ⟨i1, i2, i3, i4⟩ := ih h
          refine ⟨?_, ?_, ?_, ?_⟩
          · intro x hx
            rcases List.mem_cons.1 hx with rfl | hx
            · omega
            · exact i1 x hx
          · intro x hx
            rcases List.mem_cons.1 hx with rfl | hx
            · omega
            · exact i2 x hx
          · intro x hx
            rcases List.mem_cons.1 hx with rfl | hx
            · exact h3
            · intro hm
              exact i3 x hx (List.mem_append_left _ hm)
          · rw [List.map_cons, List.nodup_cons]
            refine ⟨fun hm => ?_, i4⟩
            obtain ⟨x, hx, he⟩ := List.mem_map.1 hm
            exact i3 x hx (he ▸ List.mem_append_right _ (List.mem_singleton.2 rfl))
theorem chk_zero {L : List RowV} (h : chkL L = 0) : L.length ≤ 4096 ∧ (∀ x ∈ L, 0 ≤ x.date ∧ x.date ≤ 105190559) ∧ (∀ x ∈ L, x.refs.length ≤ 20) ∧ (L.map (·.id)).Nodup := by
  unfold chkL at h
  split at h
  · simp at h
  · obtain ⟨h1, h2, _, h4⟩ := chkGo_zero h
    exact ⟨by omega, h1, h2, h4⟩
def ListPost (w : World) (c : Int) (M : List IdB) (e : Ending) (w' : World) : Prop :=
  ∃ a, e = .returned (.tuple #[a, .int .i64 c]) ∧ OwnL idE w' w.heap.size a (if c = 0 then M else []) ∧ Below w.heap.size w w'

set_option maxRecDepth 100000 in
set_option maxHeartbeats 2000000 in
theorem Held_any {w : World} (v u : Value) (L : List RowV) (G : List IdB) (now : Int) (hv : RowsAt w v L) (hu : ListAt idE w u G) (hl : L.length < 1000000000) (hG : G.length < 1000000000) :
    Calls Try.prog 24 #[v, u, .int .i64 now] w (ListPost w (chkL L) (sortB ((L.filter fun r => !shB L G now r).map (·.id)))) := by
  have hck := vCheck_any v L hv hl
  obtain ⟨va, vc, rfl⟩ := hv.l.form
  obtain ⟨ua, uc, rfl⟩ := hu.form
  obtain ⟨N, hN⟩ : ∃ N, L.length = N := ⟨_, rfl⟩
  obtain ⟨c, hc⟩ : ∃ c, chkL L = c := ⟨_, rfl⟩
  rw [hN] at hv hck ⊢
  rw [hc] at hck ⊢
  have HV := Lib.hid hv
  have HU := Lib.hid hu
  have HCK := Lib.hid hck
  have HC := Lib.hid hc
  have HN := Lib.hid hN
  clear hv hu hck hc hN
  go_enter Try.func24, Try.ntmps24
  go_wp2_with fail
  refine HCK.out.mono ?_
  rintro e w1 ⟨rfl, hb1⟩
  have HB1 := Lib.hid hb1
  clear hb1
  by_cases h0 : c = 0
  · obtain ⟨hlen, hdt, hrf, hnd⟩ := chk_zero (HC.out.trans h0)
    subst h0
    have hdv := divide_any _ _ L G now (HN.out.symm ▸ HV.out.below HB1.out) (HU.out.below HB1.out) hlen hG hnd hdt hrf
    rw [HN.out] at hdv
    have HDV := Lib.hid hdv
    clear hdv hlen hdt hrf hnd
    go_wp2_with fail
    refine HDV.out.mono ?_
    rintro e w2 ⟨a, b, rfl, hoa, hob, hb2⟩
    have hbA := HB1.out.trans (hb2.mono HB1.out.size)
    have hrows : RowsAt w2 b (L.filter fun r => !shB L G now r) := ⟨hob.at_, fun R hR => (HV.out.r R (List.mem_filter.1 hR).1).below hbA⟩
    have hid := ids_any _ _ hrows (by have h1 := List.length_filter_le (fun r => !shB L G now r) L; have h2 := (chk_zero HC.out).1; omega)
    have HID := Lib.hid hid
    have HBA := Lib.hid hbA
    clear hoa hob hb2 hbA hrows hid
    go_wp2_with fail
    refine HID.out.mono ?_
    rintro e w3 ⟨m, rfl, hom, hb3⟩
    have HOM := Lib.hid hom
    have HB3 := Lib.hid hb3
    clear hom hb3
    go_wp2_with fail
    exact bodyPost_ret (v := .tuple #[m, .int .i64 0]) (by simp [results, Try.results24, go_sem]) rfl ⟨m, rfl, by rw [if_pos rfl]; exact HOM.out.base HBA.out.size, HBA.out.trans (HB3.out.mono HBA.out.size)⟩
  · have hb : (c == 0) = false := by simpa using h0
    go_wp2_with fail
    exact bodyPost_ret (v := .tuple #[.slice none 0 0, .int .i64 c]) (by simp [results, Try.results24, go_sem]) rfl ⟨_, rfl, by rw [if_neg h0]; exact ownL_nil _ _ _, HB1.out⟩

set_option maxRecDepth 100000 in
set_option maxHeartbeats 2000000 in
theorem Shown_any {w : World} (v u : Value) (L : List RowV) (G : List IdB) (now : Int) (hv : RowsAt w v L) (hu : ListAt idE w u G) (hl : L.length < 1000000000) (hG : G.length < 1000000000) :
    Calls Try.prog 14 #[v, u, .int .i64 now] w (ListPost w (chkL L) (sortB ((L.filter fun r => shB L G now r).map (·.id)))) := by
  have hck := vCheck_any v L hv hl
  obtain ⟨va, vc, rfl⟩ := hv.l.form
  obtain ⟨ua, uc, rfl⟩ := hu.form
  obtain ⟨N, hN⟩ : ∃ N, L.length = N := ⟨_, rfl⟩
  obtain ⟨c, hc⟩ : ∃ c, chkL L = c := ⟨_, rfl⟩
  rw [hN] at hv hck ⊢
  rw [hc] at hck ⊢
  have HV := Lib.hid hv
  have HU := Lib.hid hu
  have HCK := Lib.hid hck
  have HC := Lib.hid hc
  have HN := Lib.hid hN
  clear hv hu hck hc hN
  go_enter Try.func14, Try.ntmps14
  go_wp2_with fail
  refine HCK.out.mono ?_
  rintro e w1 ⟨rfl, hb1⟩
  have HB1 := Lib.hid hb1
  clear hb1
  by_cases h0 : c = 0
  · obtain ⟨hlen, hdt, hrf, hnd⟩ := chk_zero (HC.out.trans h0)
    subst h0
    have hdv := divide_any _ _ L G now (HN.out.symm ▸ HV.out.below HB1.out) (HU.out.below HB1.out) hlen hG hnd hdt hrf
    rw [HN.out] at hdv
    have HDV := Lib.hid hdv
    clear hdv hlen hdt hrf hnd
    go_wp2_with fail
    refine HDV.out.mono ?_
    rintro e w2 ⟨a, b, rfl, hoa, hob, hb2⟩
    have hbA := HB1.out.trans (hb2.mono HB1.out.size)
    have hrows : RowsAt w2 a (L.filter fun r => shB L G now r) := ⟨hoa.at_, fun R hR => (HV.out.r R (List.mem_filter.1 hR).1).below hbA⟩
    have hid := ids_any _ _ hrows (by have h1 := List.length_filter_le (fun r => shB L G now r) L; have h2 := (chk_zero HC.out).1; omega)
    have HID := Lib.hid hid
    have HBA := Lib.hid hbA
    clear hoa hob hb2 hbA hrows hid
    go_wp2_with fail
    refine HID.out.mono ?_
    rintro e w3 ⟨m, rfl, hom, hb3⟩
    have HOM := Lib.hid hom
    have HB3 := Lib.hid hb3
    clear hom hb3
    go_wp2_with fail
    exact bodyPost_ret (v := .tuple #[m, .int .i64 0]) (by simp [results, Try.results14, go_sem]) rfl ⟨m, rfl, by rw [if_pos rfl]; exact HOM.out.base HBA.out.size, HBA.out.trans (HB3.out.mono HBA.out.size)⟩
  · have hb : (c == 0) = false := by simpa using h0
    go_wp2_with fail
    exact bodyPost_ret (v := .tuple #[.slice none 0 0, .int .i64 c]) (by simp [results, Try.results14, go_sem]) rfl ⟨_, rfl, by rw [if_neg h0]; exact ownL_nil _ _ _, HB1.out⟩

end Go.Proofs.Ytjjanjhoaiannaa
