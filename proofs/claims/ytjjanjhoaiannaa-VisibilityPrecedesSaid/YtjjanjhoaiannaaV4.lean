/- Visibility: divide. -/
import Derived.Test.YtjjanjhoaiannaaV3
import Derived.Test.YtjjanjhoaiannaaLit
import Derived.Laws.EntriesVeiled
namespace Go.Proofs.Ytjjanjhoaiannaa
open Go.RowKit
set_option linter.unusedVariables false
set_option linter.unusedSimpArgs false

theorem rowsF_next {L : List RowV} (hn : (L.map (·.id)).Nodup) {i : Nat} (h : i < L.length) (k : IdB) : (if k = L[i].id then some (rowv L[i]) else rowsF (L.take i) k) = rowsF (L.take (i + 1)) k := by
  have ht : (L.take (i + 1)) = L.take i ++ [L[i]] := List.take_succ_eq_append_getElem h
  unfold rowsF findRow
  rw [ht, List.find?_append]
  by_cases hk : k = L[i].id
  · subst hk
    rw [if_pos rfl]
    have hno : (L.take i).find? (fun r => r.id == L[i].id) = none := by
      rw [List.find?_eq_none]
      intro x hx hb
      have he : x.id = L[i].id := eq_of_beq hb
      obtain ⟨j, hj, rfl⟩ := List.mem_iff_getElem.1 hx
      rw [List.length_take] at hj
      rw [List.getElem_take] at he
      unfold List.Nodup at hn
      rw [List.pairwise_iff_getElem] at hn
      exact hn j i (by rw [List.length_map]; omega) (by rw [List.length_map]; omega) (by omega) (by simpa using he)
    rw [hno]
    simp
  · have hb : (L[i].id == k) = false := by rw [beq_eq_false_iff_ne]; exact fun e => hk e.symm
    rw [if_neg hk, List.find?_cons, hb]
    simp
theorem Env.keepB {w7 w w' : World} {C : Cs} {L : List RowV} {G : List IdB} {now : Int} (h7 : Env w7 C L G now) (h : Env w C L G now) (hb : Below w7.heap.size w w') : Env w' C L G now :=
  ⟨(hb.block _ (Array.getElem?_eq_some_iff.1 h7.r).1).trans h.r, (hb.block _ (Array.getElem?_eq_some_iff.1 h7.w_).1).trans h.w_, (hb.block _ (Array.getElem?_eq_some_iff.1 h7.d).1).trans h.d, (hb.block _ (Array.getElem?_eq_some_iff.1 h7.a).1).trans h.a, (hb.block _ (Array.getElem?_eq_some_iff.1 h7.n).1).trans h.n,
   h.mw.kept (hb.block _ h7.mw.lt), h.ma.kept (hb.block _ h7.ma.lt), h.hw, h.ha⟩
theorem filter_next (L : List RowV) (p : RowV → Bool) {j : Nat} (h : j < L.length) : (L.take (j + 1)).filter p = (L.take j).filter p ++ (if p L[j] then [L[j]] else []) := by
  rw [List.take_succ_eq_append_getElem h, List.filter_append, List.filter_cons, List.filter_nil]
theorem zOk : ((Try.prog.info? 36).bind (·.zero)).isSome = true := by kernel_rfl
def DivPost (w : World) (L : List RowV) (G : List IdB) (now : Int) (e : Ending) (w' : World) : Prop :=
  ∃ a b, e = .returned (.tuple #[a, b]) ∧ OwnL rowE w' w.heap.size a (L.filter (shB L G now)) ∧ OwnL rowE w' w.heap.size b (L.filter fun r => !shB L G now r) ∧ Below w.heap.size w w'

set_option maxRecDepth 100000 in
set_option maxHeartbeats 2000000 in
theorem divide_any {w : World} (v u : Value) (L : List RowV) (G : List IdB) (now : Int) (hv : RowsAt w v L) (hu : ListAt idE w u G) (hl : L.length ≤ 4096) (hG : G.length < 1000000000) (hn : (L.map (·.id)).Nodup) (hd : ∀ x ∈ L, 0 ≤ x.date ∧ x.date ≤ 105190559) (hrf : ∀ x ∈ L, x.refs.length ≤ 20) :
    Calls Try.prog 27 #[v, u, .int .i64 now] w (DivPost w L G now) := by
  obtain ⟨va, vc, rfl⟩ := hv.l.form
  obtain ⟨ua, uc, rfl⟩ := hu.form
  obtain ⟨N, hN⟩ : ∃ N, L.length = N := ⟨_, rfl⟩
  rw [hN] at hv hl ⊢
  obtain ⟨wn, hwn⟩ : ∃ wn, w.alloc (.cells #[.int .i64 now] 3) = wn := ⟨_, rfl⟩
  have hbn : Below w.heap.size w wn := hwn ▸ (Below.refl _ w).alloc (Nat.le_refl _) _
  have hsn : wn.heap.size = w.heap.size + 1 := by rw [← hwn]; simp
  have hxn : wn.heap[w.heap.size]? = some (.cells #[.int .i64 now] 3 (0, 0)) := by rw [← hwn]; exact heap_alloc_new _ _
  obtain ⟨wm, hwm⟩ : ∃ wm, wn.alloc (.map #[] 0) = wm := ⟨_, rfl⟩
  have hbm : Below wn.heap.size wn wm := hwm ▸ (Below.refl _ _).alloc (Nat.le_refl _) _
  have hsm : wm.heap.size = wn.heap.size + 1 := by rw [← hwm]; simp
  have hmm : KMap idKey wm wn.heap.size (fun _ => none) := hwm ▸ KMap.new wn
  obtain ⟨ww, hww⟩ : ∃ ww, wm.alloc (.cells #[.map (some wn.heap.size)] 81) = ww := ⟨_, rfl⟩
  have hbw : Below wm.heap.size wm ww := hww ▸ (Below.refl _ _).alloc (Nat.le_refl _) _
  have hxw : ww.heap[wm.heap.size]? = some (.cells #[.map (some wn.heap.size)] 81 (0, 0)) := by rw [← hww]; exact heap_alloc_new _ _
  have hbnw := hbm.trans (hbw.mono hbm.size)
  have hbW := hbn.trans (hbnw.mono hbn.size)
  have hxn2 := (hbnw.block _ (Array.getElem?_eq_some_iff.1 hxn).1).trans hxn
  have hmw := (hmm.below hbw).ext (g := rowsF (L.take 0)) (fun k => rfl)
  have hmk := fun n w => vmkMap Try.underlying81 n w
  have HV := Lib.hid hv
  have HU := Lib.hid hu
  have HN := Lib.hid hN
  have HNN := Lib.hid hn
  have HBW := Lib.hid hbW
  have HXN := Lib.hid hxn2
  have HXW := Lib.hid hxw
  have HMAP := Lib.hid hmw
  have HD := Lib.hid hd
  have HRF := Lib.hid hrf
  have HSZ := Lib.hid (show wn.heap.size = w.heap.size + 1 ∧ wm.heap.size = w.heap.size + 2 by omega)
  clear hbn hsn hxn hbm hsm hmm hbw hxw hbnw hbW hxn2 hmw hv hu hN hn hd hrf
  go_enter Try.func27, Try.ntmps27
  go_wp2_with fail
  clear hwn hwm hww
  go_loopw [21] (fun iv wr => ∃ i : Nat, i ≤ N ∧ iv = .int .i64 (i : Int) ∧ KMap idKey wr wn.heap.size (rowsF (L.take i)) ∧ wr.heap[w.heap.size]? = some (.cells #[.int .i64 now] 3 (0, 0)) ∧ wr.heap[wm.heap.size]? = some (.cells #[.map (some wn.heap.size)] 81 (0, 0)) ∧ Below w.heap.size w wr) (fun iv _ => N - (intOf iv).toNat)
  case atStart => exact ⟨0, Nat.zero_le _, rfl, HMAP.out, HXN.out, HXW.out, HBW.out⟩
  case round =>
    obtain ⟨i, hi, rfl, hm, hxn, hxw, hB⟩ := hrel
    have HM := Lib.hid hm
    have HXN2 := Lib.hid hxn
    have HXW2 := Lib.hid hxw
    have HB := Lib.hid hB
    clear hm hxn hxw hB
    by_cases hlt : i < N
    · have hiI : (i : Int) < (N : Int) := by omega
      have hiI0 : (0 : Int) ≤ (i : Int) := by omega
      have hlt' : i < L.length := by rw [HN.out]; exact hlt
      obtain ⟨g, off, n9, c9, e9, hr, _⟩ := row_at (HV.out.below HB.out) hlt'
      cases e9
      have hset := rowsF_next HNN.out hlt'
      obtain ⟨R, hR⟩ : ∃ R, L[i] = R := ⟨_, rfl⟩
      rw [hR] at hr hset
      obtain ⟨wz, w1, hwz, hnz, hst, hx1, hb1, hs1, hbz⟩ := newRow wr R
      have hm1 := HM.out.below hb1
      have hxw1 := (hb1.block _ (Array.getElem?_eq_some_iff.1 HXW2.out).1).trans HXW2.out
      have hxn1 := (hb1.block _ (Array.getElem?_eq_some_iff.1 HXN2.out).1).trans HXN2.out
      have hcw := cell_one hxw1
      obtain ⟨w2, hup, hm2, hc2⟩ := hm1.upd Try.underlying81 R.id (rowv R)
      have hup' : (Instr.mapUpdate 81 (.map (some wn.heap.size)) (.agg (bvs R.id.1).toArray) (.agg R.cells.toArray)).run Try.prog w1 = .ok () w2 := hup
      have hb2 : Below w.heap.size w w2 := (HB.out.trans (hb1.mono HB.out.size)).trans (hc2.below (fun k e => by have h := HSZ.out; have e2 : k = wn.heap.size := e; omega) (Nat.le_trans HB.out.size hb1.size))
      have hxw2 := (hc2.block _ (Array.getElem?_eq_some_iff.1 hxw1).1 (fun e => by have h := HSZ.out; have e2 : wm.heap.size = wn.heap.size := e; omega)).trans hxw1
      have hxn2 := (hc2.block _ (Array.getElem?_eq_some_iff.1 hxn1).1 (fun e => by have h := HSZ.out; have e2 : w.heap.size = wn.heap.size := e; omega)).trans hxn1
      have HM2 := Lib.hid (hm2.ext hset)
      have HR := Lib.hid hr
      have HNZ := Lib.hid hnz
      have HST := Lib.hid hst
      have HR1 := Lib.hid (row_id (range_block hx1))
      have HRW := Lib.hid (range_block hx1)
      have HB2 := Lib.hid hb2
      have HSI := Lib.hid (sizeId R.id)
      have HSR := Lib.hid (sizeRow R)
      have HSA := Lib.hid (sizeRowA R)
      have HZS := Lib.hid (zsRow R)
      have HXW3 := Lib.hid hxw2
      have HXN3 := Lib.hid hxn2
      clear hr hnz hst hx1 hb1 hs1 hbz hm2 hc2 hb2 hup hset hR hxw1 hxn1 hxw2 hxn2 hm1 hmk
      go_wp2_with (first | (with_reducible refine wpList_load_mid rfl 36 _ rfl g (off + i * 83) rfl (R.cells) _ HR.out Try.underlying36 rfl HSR.out ?_) | (with_reducible refine wpList_store_row rfl 36 _ _ rfl wr.heap.size (R.cells).toArray rfl rfl 36 _ HNZ.out HSA.out HZS.out (oneRow R) ?_; rw [HST.out]) | (with_reducible refine wpList_load_mid rfl 31 _ rfl wr.heap.size (0) rfl (bvs R.id.1) _ HR1.out Try.underlying31 rfl HSI.out ?_) | (with_reducible refine wpList_load_mid rfl 36 _ rfl wr.heap.size (0) rfl (R.cells) _ HRW.out Try.underlying36 rfl HSR.out ?_))
      go_roundw
      case rel => exact ⟨i + 1, by omega, by go_num, HM2.out, HXN3.out, HXW3.out, HB2.out⟩
      case measure => simp [intOf]; omega
    · obtain rfl : N = i := by omega
      have hmw := HM.out.ext (g := rowsF L) (fun k => by rw [List.take_of_length_le (by rw [HN.out]; omega)])
      have hso := setOf_any _ G (HU.out.below HB.out) hG
      have HSO := Lib.hid hso
      have HMW := Lib.hid hmw
      have hmk2 := fun n w => vmkMap Try.underlying64 n w
      clear hmw hso hmk
      go_wp2_with fail
      refine HSO.out.mono ?_
      rintro e w2 ⟨mA, rfl, hmA0, hma, hb2⟩
      obtain ⟨w3, hw3⟩ : ∃ w3, w2.alloc (.cells #[.map (some mA)] 64) = w3 := ⟨_, rfl⟩
      have hb3 : Below w2.heap.size w2 w3 := hw3 ▸ (Below.refl _ _).alloc (Nat.le_refl _) _
      have hxa : w3.heap[w2.heap.size]? = some (.cells #[.map (some mA)] 64 (0, 0)) := by rw [← hw3]; exact heap_alloc_new _ _
      obtain ⟨w4, hw4⟩ : ∃ w4, w3.alloc (.map #[] 0) = w4 := ⟨_, rfl⟩
      have hb4 : Below w3.heap.size w3 w4 := hw4 ▸ (Below.refl _ _).alloc (Nat.le_refl _) _
      have hmr : KMap idKey w4 w3.heap.size (fun _ => none) := hw4 ▸ KMap.new w3
      obtain ⟨w5, hw5⟩ : ∃ w5, w4.alloc (.cells #[.map (some w3.heap.size)] 64) = w5 := ⟨_, rfl⟩
      have hb5 : Below w4.heap.size w4 w5 := hw5 ▸ (Below.refl _ _).alloc (Nat.le_refl _) _
      have hxr : w5.heap[w4.heap.size]? = some (.cells #[.map (some w3.heap.size)] 64 (0, 0)) := by rw [← hw5]; exact heap_alloc_new _ _
      obtain ⟨C, hC⟩ : ∃ C : Cs, C = ⟨w4.heap.size, wm.heap.size, w5.heap.size, w2.heap.size, w.heap.size, w3.heap.size, wn.heap.size, mA⟩ := ⟨_, rfl⟩
      obtain ⟨w6, hw6⟩ : ∃ w6, w5.alloc (.cells #[.nilFunc] 82) = w6 := ⟨_, rfl⟩
      have hb6 : Below w5.heap.size w5 w6 := hw6 ▸ (Below.refl _ _).alloc (Nat.le_refl _) _
      have hx6 : w6.heap[w5.heap.size]? = some (.cells #[.nilFunc] 82 (0, 0)) := by rw [← hw6]; exact heap_alloc_new _ _
      have hc6 := cell_one hx6
      have hf6 : w6.frozen? ⟨w5.heap.size, 0, none⟩ = false := frozen_of_row _ _ _ _ _ hx6
      obtain ⟨w7, hw7⟩ : ∃ w7, w6.setCell ⟨w5.heap.size, 0, none⟩ (.func (.func 35) #[] #[.pointer (some ⟨w4.heap.size, 0, none⟩), .pointer (some ⟨wm.heap.size, 0, none⟩), .pointer (some ⟨w5.heap.size, 0, none⟩), .pointer (some ⟨w2.heap.size, 0, none⟩), .pointer (some ⟨w.heap.size, 0, none⟩)]) = w7 := ⟨_, rfl⟩
      have hx7 : w7.heap[w5.heap.size]? = some (.cells #[.func (.func 35) #[] C.caps.toArray] 82 (0, 0)) := by
        rw [← hw7, heap_setCell_same _ _ _ _ _ _ hx6, hC]
        rfl
      have hc7 : Chg (fun k => k = w5.heap.size) w6 w7 := hw7 ▸ Chg.setCell _ _ rfl
      have hsz3 : w3.heap.size = w2.heap.size + 1 := by rw [← hw3]; simp
      have hsz4 : w4.heap.size = w3.heap.size + 1 := by rw [← hw4]; simp
      have hsz5 : w5.heap.size = w4.heap.size + 1 := by rw [← hw5]; simp
      have hwm2 : wm.heap.size < wr.heap.size := (Array.getElem?_eq_some_iff.1 HXW2.out).1
      have hwn2 := HSZ.out
      have hr2 := hb2.size
      have hb36 := hb3.trans ((hb4.trans ((hb5.trans (hb6.mono hb5.size)).mono hb4.size)).mono hb3.size)
      have hb56 : Below w5.heap.size w5 w6 := hb6
      have hb46 := hb5.trans (hb6.mono hb5.size)
      have hb346 := hb4.trans (hb46.mono hb4.size)
      have hb7 : Below w2.heap.size w2 w7 := hb36.trans (hc7.below (fun k (h : k = w5.heap.size) => by omega) hb36.size)
      have henv : Env w7 C L G now := by
        have k0 : ∀ c, c < w2.heap.size → w7.heap[c]? = w2.heap[c]? := fun c hc => hb7.block c hc
        subst hC
        refine ⟨?_, ?_, hx7, ?_, ?_, ?_, ?_, by show wn.heap.size ≠ w3.heap.size; omega, by show mA ≠ w3.heap.size; have := hma.lt; omega⟩
        · show w7.heap[w4.heap.size]? = _
          rw [hc7.block _ (by have := hb6.size; omega) (fun h => by have h2 : w4.heap.size = w5.heap.size := h; omega), hb6.block _ (by omega)]
          exact hxr
        · show w7.heap[wm.heap.size]? = _
          rw [k0 _ (by omega), hb2.block _ hwm2]
          exact HXW2.out
        · show w7.heap[w2.heap.size]? = _
          rw [hc7.block _ (by have := hb6.size; omega) (fun h => by have h2 : w2.heap.size = w5.heap.size := h; omega), hb346.block _ (by omega)]
          exact hxa
        · show w7.heap[w.heap.size]? = _
          rw [k0 _ (by omega), hb2.block _ (by omega)]
          exact HXN2.out
        · exact (HMW.out.below hb2).kept (k0 _ (by show wn.heap.size < _; omega))
        · exact hma.kept (k0 _ hma.lt)
      have hmr7 : KMap idKey w7 C.mR (fun _ => none) := by
        subst hC
        refine (hmr.kept ?_)
        show w7.heap[w3.heap.size]? = _
        rw [hc7.block _ (by have := hb6.size; omega) (fun h => by have h2 : w3.heap.size = w5.heap.size := h; omega), hb46.block _ (by omega)]
      have hbw7 : Below w.heap.size w w7 := HB.out.trans ((hb2.trans (hb7.mono hb2.size)).mono HB.out.size)
      have hCR : C.mR = w3.heap.size := by rw [hC]
      have hCD : w7.heap[w5.heap.size]? = some (.cells #[.func (.func 35) #[] C.caps.toArray] 82 (0, 0)) := hx7
      have hmRw : w.heap.size ≤ C.mR := by rw [hCR]; omega
      have hCcd : C.cD = w5.heap.size := by rw [hC]
      have hcaps : C.caps.toArray = #[.pointer (some ⟨w4.heap.size, 0, none⟩), .pointer (some ⟨wm.heap.size, 0, none⟩), .pointer (some ⟨w5.heap.size, 0, none⟩), .pointer (some ⟨w2.heap.size, 0, none⟩), .pointer (some ⟨w.heap.size, 0, none⟩)] := by rw [hC]; rfl
      have HENV := Lib.hid henv
      have HMR := Lib.hid hmr7
      have HBW7 := Lib.hid hbw7
      have HCR := Lib.hid hCR
      have HMRW := Lib.hid hmRw
      have HCCD := Lib.hid hCcd
      have HCAPS := Lib.hid hcaps
      clear hma hb2 hb3 hxa hb4 hmr hb5 hxr hb6 hx6 hx7 hc7 hsz3 hsz4 hsz5 hwm2 hwn2 hr2 hb36 hb56 hb46 hb346 hb7 henv hmr7 hbw7 hCR hCD hmRw hC hmA0 hCcd hcaps
      go_wp2_with fail
      clear hw3 hw4 hw5 hw6 hw7 hc6 hf6 hmk2
      go_loopw [6, 7, 38] (fun av bv jv wr => ∃ (j : Nat) (f : IdB → Option Value), j ≤ N ∧ jv = .int .i64 (j : Int) ∧ KMap idKey wr C.mR f ∧ vGood L G now f [] ∧ Env wr C L G now ∧ OwnL rowE wr w7.heap.size av ((L.take j).filter (shB L G now)) ∧ OwnL rowE wr w7.heap.size bv ((L.take j).filter fun r => !shB L G now r) ∧ (∀ k, av.ownBlock = some k → bv.ownBlock ≠ some k) ∧ w7.heap.size ≤ wr.heap.size ∧ Below w.heap.size w wr) (fun _ _ jv _ => N - (intOf jv).toNat)
      case atStart => exact ⟨0, _, Nat.zero_le _, rfl, HMR.out, (fun x hx => ⟨fun _ => .inl rfl, (fun h => by cases h)⟩), HENV.out, ownL_nil _ _ _, ownL_nil _ _ _, (fun k hk => by cases hk), Nat.le_refl _, HBW7.out⟩
      case round =>
        obtain ⟨j, f, hj, rfl, hm, hg, henv, hoa, hob, hab, hbs, hB⟩ := hrel
        obtain ⟨aa, ac, rfl⟩ := hoa.form
        obtain ⟨ba, bc, rfl⟩ := hob.form
        obtain ⟨na, hna⟩ : ∃ na, ((L.take j).filter (shB L G now)).length = na := ⟨_, rfl⟩
        obtain ⟨nb, hnb⟩ : ∃ nb, ((L.take j).filter fun r => !shB L G now r).length = nb := ⟨_, rfl⟩
        have hna2 : na ≤ 4096 := by have h1 := List.length_filter_le (shB L G now) (L.take j); have h2 := List.length_take_le j L; omega
        have hnb2 : nb ≤ 4096 := by have h1 := List.length_filter_le (fun r => !shB L G now r) (L.take j); have h2 := List.length_take_le j L; omega
        rw [hna] at hoa hab ⊢
        rw [hnb] at hob hab ⊢
        have HM := Lib.hid hm
        have HG := Lib.hid hg
        have HE := Lib.hid henv
        have HOA := Lib.hid hoa
        have HOB := Lib.hid hob
        have HAB := Lib.hid hab
        have HB2 := Lib.hid hB
        have HNA := Lib.hid hna
        have HNB := Lib.hid hnb
        clear hm hg henv hoa hob hab hB hna hnb
        by_cases hlt : j < N
        · have hjI : (j : Int) < (N : Int) := by omega
          have hjI0 : (0 : Int) ≤ (j : Int) := by omega
          have hlt' : j < L.length := by rw [HN.out]; exact hlt
          obtain ⟨g, off, n9, c9, e9, hr, _⟩ := row_at (HV.out.below HB2.out) hlt'
          cases e9
          have hf1 := filter_next L (shB L G now) hlt'
          have hf2 := filter_next L (fun r => !shB L G now r) hlt'
          have hmem : L[j] ∈ L := List.getElem_mem hlt'
          obtain ⟨R, hR⟩ : ∃ R, L[j] = R := ⟨_, rfl⟩
          rw [hR] at hr hf1 hf2 hmem
          obtain ⟨wz, w1, hwz, hnz, hst, hx1, hb1, hs1, hbz⟩ := newRow wr R
          have henv1 := HE.out.below hb1
          have hm1 := HM.out.below hb1
          have hcd := cell_one henv1.d
          rw [HCCD.out] at hcd
          have hdec := decide_any (w0 := w) C L G now HNN.out HD.out (fun x hx => ⟨HRF.out x hx, HV.out.r x hx⟩) HMRW.out (L.map (·.id)).length w1 f [] (L.map (·.id)) R (Nat.le_refl _) (HB2.out.trans (hb1.mono HB2.out.size)) henv1 hm1 HG.out (fun x hx _ => List.mem_map_of_mem hx) hmem (fun s hs => by cases hs)
          have HDEC := Lib.hid hdec
          have HR := Lib.hid hr
          have HNZ := Lib.hid hnz
          have HST := Lib.hid hst
          have HX1 := Lib.hid hx1
          have HRW := Lib.hid (range_block hx1)
          have HB1 := Lib.hid hb1
          have HSR := Lib.hid (sizeRow R)
          have HSA := Lib.hid (sizeRowA R)
          have HZS := Lib.hid (zsRow R)
          have HF1 := Lib.hid hf1
          have HF2 := Lib.hid hf2
          have HE1 := Lib.hid henv1
          have HM1 := Lib.hid hm1
          clear hr hnz hst hx1 hb1 hs1 hbz hf1 hf2 henv1 hm1 hdec hmem hR
          go_wp2_with (first | (with_reducible refine wpList_load_mid rfl 36 _ rfl g (off + j * 83) rfl (R.cells) _ HR.out Try.underlying36 rfl HSR.out ?_) | (with_reducible refine wpList_store_row rfl 36 _ _ rfl wr.heap.size (R.cells).toArray rfl rfl 36 _ HNZ.out HSA.out HZS.out (oneRow R) ?_; rw [HST.out]) | (with_reducible refine wpList_load_mid rfl 36 _ rfl wr.heap.size (0) rfl (R.cells) _ HRW.out Try.underlying36 rfl HSR.out ?_))
          have hrow : Calls Try.prog 35 (Value.agg R.cells.toArray :: C.caps).toArray w1 (DecPost w1 C L G now [] R) := HDEC.out
          refine hrow.mono ?_
          rintro e wd ⟨f2, rfl, hm2, hg2, hc2⟩
          have henv2 := HE1.out.chg HM1.out hc2
          have hneR : wr.heap.size ≠ C.mR := by have h := HM.out.lt; omega
          have hx2 := (hc2.block _ (Array.getElem?_eq_some_iff.1 HX1.out).1 hneR).trans HX1.out
          have hkeep : ∀ {v : Value} {M : List RowV}, OwnL rowE wr w7.heap.size v M → OwnL rowE wd w7.heap.size v M := fun h =>
            (h.below HB1.out).chg hc2 (fun k hk e => by have h1 := (h.lt hk).1; have h2 := HMR.out.lt; have e2 : k = C.mR := e; omega)
          have hoa2 := hkeep HOA.out
          have hob2 := hkeep HOB.out
          have hB3 : Below w.heap.size w wd := (HB2.out.trans (HB1.out.mono HB2.out.size)).trans (hc2.below (fun k (h : k = C.mR) => h ▸ HMRW.out) (Nat.le_trans HB2.out.size HB1.out.size))
          have hbase : w7.heap.size ≤ wd.heap.size := by
            have h2 := HB1.out.size
            have h3 := hc2.size
            omega
          obtain ⟨b, hb⟩ : ∃ b, shB L G now R = b := ⟨_, rfl⟩
          have HNAN := Lib.hid (show (Value.slice aa na ac).ownBlock = (Value.slice aa na ac).ownBlock from rfl)
          have HG2 := Lib.hid hg2
          have HM2 := Lib.hid hm2
          have HE2 := Lib.hid henv2
          have HRW2 := Lib.hid (range_block hx2)
          have HOA2 := Lib.hid hoa2
          have HOB2 := Lib.hid hob2
          have HB3 := Lib.hid hB3
          have HBS := Lib.hid hbase
          clear hrow hm2 hg2 hc2 henv2 hx2 hoa2 hob2 hB3 hbase hkeep hcd
          rw [hb]
          cases b with
          | true =>
            have hT : (L.take (j + 1)).filter (shB L G now) = (L.take j).filter (shB L G now) ++ [R] := by rw [HF1.out, hb]; rfl
            have hF : (L.take (j + 1)).filter (fun r => !shB L G now r) = (L.take j).filter (fun r => !shB L G now r) := by rw [HF2.out, hb]; simp
            have HT := Lib.hid hT
            have HF := Lib.hid hF
            obtain ⟨we, hwe⟩ : ∃ we, wd.alloc (.cells R.cells.toArray 36) = we := ⟨_, rfl⟩
            have hbe : Below wd.heap.size wd we := hwe ▸ one_below rowE wd R
            have hone : ListAt rowE we (.slice (some ⟨wd.heap.size, 0, none⟩) 1 1) [R] := hwe ▸ listAt_one rowE wd R
            have HONE := Lib.hid hone
            have HBE := Lib.hid hbe
            have HOAE := Lib.hid (HOA2.out.below hbe)
            have HOBE := Lib.hid (HOB2.out.below hbe)
            have HWE := Lib.hid hwe
            have HCS := Lib.hid (show R.cells.toArray.size = 83 from by rw [List.size_toArray, R.cells_length])
            have HZO := Lib.hid zOk
            clear hT hF hone hbe hb hwe
            go_wp2_with (first | (with_reducible refine wpList_load_mid rfl 36 _ rfl wr.heap.size (0) rfl (R.cells) _ HRW2.out Try.underlying36 rfl HSR.out ?_) | (with_reducible refine wpList_lit1 rfl 22 36 (.tmp 46) rfl R.cells.toArray rfl HWE.out Try.underlying22 HSA.out HZO.out (by rw [HCS.out]; decide) (by rw [HCS.out]; decide) ?_) | (at_builtin; refine wpList_appL rowE rfl (n := na) (m := 1) (.tmp 45) (.tmp 47) rfl rfl HOAE.out rfl HONE.out HNA.out rfl (by omega) (Nat.le_trans HBS.out HBE.out.size) ?_))
            intro a2 c2 wq ho2 hgr hat
            go_wp2_with fail
            have hbq := HOAE.out.grown_below hgr (Nat.le_trans HBS.out HBE.out.size)
            have hoo := HOBE.out.chg (OwnL.grown_chg hgr) (fun k hk e => HAB.out k e hk)
            go_roundw
            case rel => exact ⟨j + 1, f2, by omega, by go_num, (HM2.out.below HBE.out).kept (hbq.block _ HMR.out.lt), HG2.out, HENV.out.keepB (HE2.out.below HBE.out) hbq, HT.out ▸ ho2, HF.out ▸ hoo, (fun k hk hk2 => by
              rcases hat k hk with h1 | h1
              · exact HAB.out k h1 hk2
              · have h2 := (HOBE.out.lt hk2).2; omega), Nat.le_trans (Nat.le_trans HBS.out HBE.out.size) hbq.size, (HB3.out.trans (HBE.out.mono HB3.out.size)).trans (hbq.mono HBW7.out.size)⟩
            case measure => simp [intOf]; omega
          | false =>
            have hT : (L.take (j + 1)).filter (shB L G now) = (L.take j).filter (shB L G now) := by rw [HF1.out, hb]; simp
            have hF : (L.take (j + 1)).filter (fun r => !shB L G now r) = (L.take j).filter (fun r => !shB L G now r) ++ [R] := by rw [HF2.out, hb]; rfl
            have HT := Lib.hid hT
            have HF := Lib.hid hF
            obtain ⟨we, hwe⟩ : ∃ we, wd.alloc (.cells R.cells.toArray 36) = we := ⟨_, rfl⟩
            have hbe : Below wd.heap.size wd we := hwe ▸ one_below rowE wd R
            have hone : ListAt rowE we (.slice (some ⟨wd.heap.size, 0, none⟩) 1 1) [R] := hwe ▸ listAt_one rowE wd R
            have HONE := Lib.hid hone
            have HBE := Lib.hid hbe
            have HOAE := Lib.hid (HOA2.out.below hbe)
            have HOBE := Lib.hid (HOB2.out.below hbe)
            have HWE := Lib.hid hwe
            have HCS := Lib.hid (show R.cells.toArray.size = 83 from by rw [List.size_toArray, R.cells_length])
            have HZO := Lib.hid zOk
            clear hT hF hone hbe hb hwe
            go_wp2_with (first | (with_reducible refine wpList_load_mid rfl 36 _ rfl wr.heap.size (0) rfl (R.cells) _ HRW2.out Try.underlying36 rfl HSR.out ?_) | (with_reducible refine wpList_lit1 rfl 22 36 (.tmp 50) rfl R.cells.toArray rfl HWE.out Try.underlying22 HSA.out HZO.out (by rw [HCS.out]; decide) (by rw [HCS.out]; decide) ?_) | (at_builtin; refine wpList_appL rowE rfl (n := nb) (m := 1) (.tmp 49) (.tmp 51) rfl rfl HOBE.out rfl HONE.out HNB.out rfl (by omega) (Nat.le_trans HBS.out HBE.out.size) ?_))
            intro a2 c2 wq ho2 hgr hat
            go_wp2_with fail
            have hbq := HOBE.out.grown_below hgr (Nat.le_trans HBS.out HBE.out.size)
            have hoo := HOAE.out.chg (OwnL.grown_chg hgr) (fun k hk e => HAB.out k hk e)
            go_roundw
            case rel => exact ⟨j + 1, f2, by omega, by go_num, (HM2.out.below HBE.out).kept (hbq.block _ HMR.out.lt), HG2.out, HENV.out.keepB (HE2.out.below HBE.out) hbq, HT.out ▸ hoo, HF.out ▸ ho2, (fun k hk hk2 => by
              rcases hat k hk2 with h1 | h1
              · exact HAB.out k hk h1
              · have h2 := (HOAE.out.lt hk).2; omega), Nat.le_trans (Nat.le_trans HBS.out HBE.out.size) hbq.size, (HB3.out.trans (HBE.out.mono HB3.out.size)).trans (hbq.mono HBW7.out.size)⟩
            case measure => simp [intOf]; omega
        · obtain rfl : N = j := by omega
          have he : L.take N = L := List.take_of_length_le (by rw [HN.out]; omega)
          have hfa : OwnL rowE wr w7.heap.size (.slice aa na ac) (L.filter (shB L G now)) := by have h := HOA.out; rw [he] at h; exact h
          have hfb : OwnL rowE wr w7.heap.size (.slice ba nb bc) (L.filter fun r => !shB L G now r) := by have h := HOB.out; rw [he] at h; exact h
          go_wp2_with fail
          exact bodyPost_ret (v := .tuple #[.slice aa na ac, .slice ba nb bc]) (by simp [results, Try.results27, go_sem]) rfl ⟨_, _, rfl, hfa.base HBW7.out.size, hfb.base HBW7.out.size, HB2.out⟩

end Go.Proofs.Ytjjanjhoaiannaa
