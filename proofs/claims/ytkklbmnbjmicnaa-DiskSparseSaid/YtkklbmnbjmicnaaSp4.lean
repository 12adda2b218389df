/- sparse: the numbers of the sectors that hold another byte than zero, ascending. -/
import Derived.Test.YtkklbmnbjmicnaaSp3
import Derived.Test.YtkklbmnbjmicnaaMr
namespace Go.Proofs.Ytkklbmnbjmicnaa
open Go.RowKit Go.Shelf
set_option linter.unusedVariables false
set_option linter.unusedSimpArgs false

theorem run_build_zeros (w : World) : (Instr.build 80 #[]).run Try.prog w = .ok (cval zeros) w := by kernel_rfl
theorem zsz : (Try.zeroCells80).size = 256 := by kernel_rfl

def nz (b : List UInt8) : Bool := !b.all (· == 0)
theorem nz_zeros (b : List UInt8) (h : b.length = 256) : (!decide (b = zeros)) = nz b := by
  unfold nz
  congr 1
  rw [Bool.eq_iff_iff, decide_eq_true_iff, List.all_eq_true]
  constructor
  · rintro rfl x hx
    have := (List.mem_replicate.1 hx).2
    simp [this]
  · intro hx
    refine List.eq_replicate_iff.2 ⟨h, fun x hm => by simpa using hx x hm⟩

theorem ents_at {es : Array MapEntry} {L : List (Nat × List UInt8)} (h : Ents es L) {j : Nat} (hj : j < es.size) : ∃ h' : j < L.length, es[j].key = .int .i64 (L[j].1 : Int) ∧ es[j].val = cval L[j].2 := by
  have hlen : es.size = L.length := by have := congrArg List.length h.eq; simpa using this
  have hjl : j < L.length := by omega
  refine ⟨hjl, ?_⟩
  have h1 : (es.toList.map entOf)[j]? = (L.map pairV)[j]? := by rw [h.eq]
  have h2 : entOf es[j] = pairV L[j] := by simpa [hj, hjl] using h1
  exact ⟨congrArg Prod.fst h2, congrArg Prod.snd h2⟩

set_option maxRecDepth 100000 in
set_option maxHeartbeats 2000000 in
theorem sparse_up {w : World} {F : Nat → Prop} {b : Nat} {S : DS} (h : DiskAt w F b S) (hdn : S.down = false) (hlen : S.pend.length < 100000000) :
    Calls Try.prog 56 #[.pointer (some ⟨b, 0, none⟩)] w fun e w' => ∃ v, e = .returned v ∧ w'.ownsRow w.heap.size 3 1 v (spK S S.dur.length).length (spV (spK S S.dur.length)) ∧ Below w.heap.size w w' := by
  obtain ⟨hok, m, pv, hx⟩ := h
  obtain ⟨c0, c1, c2, c3, c4, c5, c6, f⟩ := hx.cells
  rw [hdn] at c6
  obtain ⟨es, clock, L, hm, hE, hL, hA, hST⟩ := hx.hm.ex
  have hP := pendAt_of (fun x h => (hok.pend x h).2) hx.hp
  obtain ⟨pa, pcap, hpv⟩ : ∃ a cap, pv = .slice a S.pend.length cap := by
    rcases hP with ⟨rfl, e⟩ | ⟨g, cap, rfl, _⟩
    · exact ⟨none, 0, by rw [e]; rfl⟩
    · exact ⟨_, _, rfl⟩
  subst hpv
  have hbl := hx.lt
  have hpd := hok.pend
  have hM0 : ∀ w1, w1 = w.alloc (.map es clock) → MapIs w1 w.heap.size S.dur.length zeros (fun i => (fdur S 0).getD i zeros) := fun w1 e => ⟨es, clock, L, by rw [e]; exact heap_alloc_new _ _, hE, hL, hA, hST⟩
  have HX := Lib.hid hx
  have HOK := Lib.hid hok
  have HPD := Lib.hid hpd
  have HP := Lib.hid hP
  have HM := Lib.hid hm
  have HM0 := Lib.hid hM0
  clear hx hok hP hm hM0 hE hL hA hST hdn hpd
  go_enter Try.func56, Try.ntmps56
  go_wp2_with fail
  refine (MapsClone_any m es clock w HM.out).mono ?_
  rintro e w1 ⟨rfl, hw1⟩
  have hm1 := HM0.out w1 hw1
  have hb1 : Below w.heap.size w w1 := hw1 ▸ (Below.refl _ _).alloc (Nat.le_refl _) _
  have hs1 : w1.heap.size = w.heap.size + 1 := by rw [hw1, World.size_alloc]
  have d2 : w1.cell? ⟨b, 2, none⟩ = some (.slice pa S.pend.length pcap) := (hb1.cell (p := ⟨b, 2, none⟩) hbl).trans c2
  have HM1 := Lib.hid hm1
  have HB1 := Lib.hid hb1
  have HS1 := Lib.hid hs1
  clear hw1 hm1 hb1 hs1 c0 c1 c2 c3 c4 c5 c6 f HM0
  go_wp2_with fail
  clear d2
  go_loopw [27] (fun i wr => ∃ k : Nat, k ≤ S.pend.length ∧ i = .int .i64 (k : Int) ∧ MapIs wr w.heap.size S.dur.length zeros (fun i => (fdur S k).getD i zeros) ∧ Below w.heap.size w wr)
    (fun i _ => S.pend.length - (intOf i).toNat)
  case atStart => exact ⟨0, Nat.zero_le _, rfl, HM1.out, HB1.out⟩
  case round =>
    obtain ⟨k, hk, rfl, hM, hC⟩ := hrel
    by_cases hlt : k < S.pend.length
    · rcases HP.out with ⟨_, e2⟩ | ⟨g, cap', e1, hg, hr⟩
      · rw [e2] at hlt; simp at hlt
      simp only [Value.slice.injEq] at e1
      obtain ⟨rfl, _, rfl⟩ := e1
      obtain ⟨x1, x2, hx⟩ : ∃ x1 x2, S.pend[k] = (x1, x2) := ⟨_, _, rfl⟩
      have hxm : (x1, x2) ∈ S.pend := hx ▸ List.getElem_mem hlt
      have hx1 : x1 < S.dur.length := (HPD.out _ hxm).1
      have hx2 : x2.length = 256 := (HPD.out _ hxm).2
      have hrq : wr.rangeAt g (k * 257) (wcells (x1, x2)) := fun j u hu => (World.cell?_of_block (hC.block g hg)).trans (hr k hlt j u (by rw [hx]; exact hu))
      have hwl : (wcells (x1, x2)).length = 257 := wcells_length hx2
      have hsw : (Try.prog.info? 82).map (·.size) = some (wcells (x1, x2)).length := by rw [hwl]; exact sizeWrite
      have hsw2 : (Try.prog.info? 82).map (·.size) = some (wcells (x1, x2)).toArray.size := by rw [List.size_toArray]; exact hsw
      have hsw3 : (Try.zeroCells82).size = (wcells (x1, x2)).toArray.size := by rw [zc82, List.size_toArray, List.size_toArray, hwl]; exact wcells_length zeros_length
      have hnw := heap_alloc_new wr (.cells Try.zeroCells82 82)
      obtain ⟨W1, hW1⟩ : ∃ W1, wr.alloc (.cells (wcells (x1, x2)).toArray 82) = W1 := ⟨_, rfl⟩
      have hmr : w.heap.size < wr.heap.size := hM.lt
      have hbk : ∀ i, i < wr.heap.size → W1.heap[i]? = wr.heap[i]? := fun i hi => by rw [← hW1]; exact Below.heap_alloc wr _ i hi
      have hW1n : W1.heap[wr.heap.size]? = some (.cells (wcells (x1, x2)).toArray 82 (0, 0)) := by rw [← hW1]; exact heap_alloc_new _ _
      obtain ⟨p2, p4⟩ := mid_of_row (c := .int .i64 (x1 : Int)) (l := bvs x2) hW1n
      have p5 : MapIs W1 w.heap.size S.dur.length zeros (fun i => (fdur S k).getD i zeros) := hM.kept (hbk _ hmr)
      have hVl : x2.length = zeros.length := by rw [hx2, zeros_length]
      have hext : ∀ i, i < S.dur.length → (fun i => if i = x1 then x2 else (fdur S k).getD i zeros) i = (fun i => (fdur S (k + 1)).getD i zeros) i := by
        intro i hi
        have hl : (fdur S k).length = S.dur.length := rdur_length S _ k
        have e5 : fdur S (k + 1) = (fdur S k).set x1 x2 := by rw [fdur_succ S k hlt, hx]
        show (if i = x1 then x2 else (fdur S k).getD i zeros) = (fdur S (k + 1)).getD i zeros
        rw [e5]
        simp only [List.getD_eq_getElem?_getD, List.getElem?_set]
        by_cases hix : i = x1
        · subst hix
          simp [show i < (fdur S k).length by omega]
        · simp [hix, Ne.symm hix]
      obtain ⟨w3, hrun3, hM3, hg3⟩ := p5.update (P := Try.prog) Try.underlying75 Try.underlying3 hx1 x2 hVl
      unfold cval at hrun3
      have hC3 : Below w.heap.size w w3 := (hC.trans ((hW1 ▸ (Below.refl _ _).alloc (Nat.le_refl _) _ : Below wr.heap.size wr W1).mono (Nat.le_of_lt hmr))).grown hg3 (by rw [← hW1]; simp; omega) (fun j e => by rw [← Option.some.inj e]; exact Nat.le_refl _)
      have hsz80 : (Try.prog.info? 80).map (·.size) = some (bvs x2).length := by have := sizeContents hx2; rw [List.size_toArray] at this; exact this
      have HRQ := Lib.hid hrq
      have HSW := Lib.hid hsw
      have HSW2 := Lib.hid hsw2
      have HSW3 := Lib.hid hsw3
      have HNW := Lib.hid hnw
      have HW2 := Lib.hid hW1
      have HSZ := Lib.hid hsz80
      have HM3 := Lib.hid (hM3.ext hext)
      have HC3 := Lib.hid hC3
      have HP4 := Lib.hid p4
      clear hrq hsw hsw2 hsw3 hnw hW1 hx1 hsz80 hext hVl hM hC hr hx hxm hbk hW1n hg hwl hx2 p5 hmr hM3 hg3 hC3 p4
      go_wp2_with (first | (with_reducible refine wpList_load_mid rfl 82 _ rfl g (k * 257) rfl (wcells (x1, x2)) _ HRQ.out Try.underlying82 rfl HSW.out ?_) | (with_reducible refine wpList_store_row rfl 82 _ _ rfl wr.heap.size (wcells (x1, x2)).toArray rfl rfl 82 Try.zeroCells82 HNW.out HSW2.out HSW3.out (oneCell_wcells _) ?_; rw [World.setRow_alloc_new, HW2.out]) | (with_reducible refine wpList_load_mid rfl 80 _ rfl wr.heap.size 1 rfl (bvs x2) _ HP4.out Try.underlying80 rfl HSZ.out ?_))
      go_roundw
      case rel => exact ⟨k + 1, by omega, by go_num, HM3.out, HC3.out⟩
      case measure => simp [intOf]; omega
    · obtain rfl : k = S.pend.length := by omega
      have hbw : ∀ i, i < S.dur.length → (fdur S S.pend.length).getD i zeros = S.visible i := fun i hi => back_whole HOK.out i hi
      obtain ⟨es', clock', L', hm', hE', hL', hA', hST'⟩ := hM.ex
      have hne := hE'.nodup
      obtain ⟨M, hMe⟩ : ∃ M, M = w.heap.size := ⟨_, rfl⟩
      obtain ⟨w2, rfl⟩ : ∃ w2, w2 = wr := ⟨_, rfl⟩
      rw [← hMe] at hm'
      have hMlt : M < w2.heap.size := (Array.getElem?_eq_some_iff.1 hm').1
      have hes : es'.size = L'.length := by have := congrArg List.length hE'.eq; simpa using this
      have HME := Lib.hid hMe
      have HBW := Lib.hid hbw
      have HM' := Lib.hid hm'
      have HE' := Lib.hid hE'
      have HL' := Lib.hid hL'
      have HA' := Lib.hid hA'
      have HST' := Lib.hid hST'
      have HC := Lib.hid hC
      have HES := Lib.hid hes
      have hmv : (Value.map (some w.heap.size)) = .map (some M) := by rw [hMe]
      rw [hmv]
      clear hbw hm' hE' hL' hA' hST' hM hC hMe hes hmv
      go_wp2_with (at_range; refine wpList_rangeM rfl (.tmp 37) _ rfl Try.underlying75 rfl HM'.out HST'.out ?_; intro w4 hR4 hB4 hs4)
      go_frame
      have HR4 := Lib.hid hR4
      have HB4 := Lib.hid hB4
      have HS4 := Lib.hid hs4
      clear hR4 hB4 hs4
      go_loopw [6] (fun ov wr => ∃ got xs, RgAt wr M w2.heap.size es' clock' got ∧ Gathered L' nz got xs ∧ wr.ownsRow w4.heap.size 3 1 ov xs.length (spV xs) ∧ Below w2.heap.size w2 wr)
        (fun _ wr => wr.rangeLeft M w2.heap.size)
      case atStart => exact ⟨_, [], HR4.out, Gathered.nil _ _, World.ownsRow_nil _ _ _ _, HB4.out⟩
      case round =>
        obtain ⟨got, xs, hR, hG, hO, hB⟩ := hrel
        have hxl : xs.length ≤ 4096 := Nat.le_trans (hG.length_le (fun p hp => (HL'.out p hp).1)) HOK.out.most
        obtain ⟨va, vc, rfl⟩ := ownsRow_form hO
        have HR := Lib.hid hR
        have HG := Lib.hid hG
        have HO := Lib.hid hO
        have HB := Lib.hid hB
        clear hR hG hO hB
        go_wp2_with (at_next; refine wpList_nextM rfl (.tmp 38) rfl rfl HR.out ?_ ?_)
        · intro hdone
          have hperm : xs.Perm (spK S S.dur.length) := by
            have h1 := HG.out.perm HE'.out.nodup (z := zeros) (by decide) (fun p hp => (HL'.out p hp).1) HA'.out (fun i hi => hdone i (by rw [HES.out]; exact hi))
            have h2 : (List.range S.dur.length).filter (fun i => !((fdur S S.pend.length).getD i zeros).all (· == 0)) = spK S S.dur.length := by
              unfold spK
              refine List.filter_congr fun i hi => ?_
              rw [HBW.out i (List.mem_range.1 hi)]
            rw [h2] at h1
            exact h1
          have hsort := sortN_spK hperm
          have HSO := Lib.hid hsort
          have hll := hperm.length_eq
          have HLL := Lib.hid hll
          clear hdone hperm hsort hll
          go_wp2_with fail
          by_cases hnil : xs = []
          · subst hnil
            refine (sort_none va vc _).mono ?_
            rintro e w7 ⟨rfl, rfl⟩
            go_wp2_with fail
            go_ret
            have e0 : spK S S.dur.length = [] := by rw [← HSO.out]; simp [sortN]
            refine ⟨_, rfl, ?_, HC.out.trans (HB.out.mono HC.out.size)⟩
            rw [e0]
            exact ownsRow_base HO.out (by have := HS4.out; have := HC.out.size; omega)
          · rcases HO.out.2 with ⟨e1, e2⟩ | ⟨g, cap, cur, e1, hbg, _⟩
            · exact absurd (List.eq_nil_of_length_eq_zero e2) hnil
            simp only [Value.slice.injEq] at e1
            obtain ⟨rfl, _, rfl⟩ := e1
            refine (sort_row xs HO.out (by omega)).mono ?_
            rintro e w7 ⟨rfl, hO7, hB7⟩
            rw [HSO.out, HLL.out] at hO7
            have HO7 := Lib.hid hO7
            have HB7 := Lib.hid hB7
            rw [HLL.out]
            clear hO7 hB7
            go_wp2_with fail
            go_ret
            exact ⟨_, rfl, ownsRow_base HO7.out (by have := HS4.out; have := HC.out.size; omega), HC.out.trans ((HB.out.trans (HB7.out.mono (by have := HS4.out; omega))).mono HC.out.size)⟩
        · intro j hj w5 hgj hR5 hlt5 hgr5 hs5 hen5
          obtain ⟨hjl, hkey, hval⟩ := ents_at HE'.out hj
          obtain ⟨k1, k2, hx⟩ : ∃ k1 k2, L'[j] = (k1, k2) := ⟨_, _, rfl⟩
          have hk2 : k2.length = 256 := by have := (HL'.out _ (List.getElem_mem hjl)).2; rw [hx] at this; rw [this]; exact zeros_length
          rw [hkey, hval, hx] at hen5
          rw [hkey, hval, hx]
          unfold cval at hen5 ⊢
          have hsk : nz k2 = false → Gathered L' nz (fun i => got i || i == j) xs := fun e => HG.out.skip hjl (by rw [hx]; exact e)
          have htk : nz k2 = true → Gathered L' nz (fun i => got i || i == j) (xs ++ [k1]) := fun e => by
            have := HG.out.take HE'.out.nodup hjl hgj (by rw [hx]; exact e)
            rwa [hx] at this
          have hsz : (Try.prog.info? 80).map (·.size) = some (bvs k2).toArray.size := sizeContents hk2
          have hzs : (Try.zeroCells80).size = (bvs k2).toArray.size := by rw [zsz, List.size_toArray, bvs_length, hk2]
          have hnw := heap_alloc_new w5 (.cells Try.zeroCells80 80)
          obtain ⟨W6, hW6⟩ : ∃ W6, w5.alloc (.cells (bvs k2).toArray 80) = W6 := ⟨_, rfl⟩
          have hn6 : W6.heap[w5.heap.size]? = some (.cells (bvs k2).toArray 80 (0, 0)) := by rw [← hW6]; exact heap_alloc_new _ _
          have hb6 : Below w5.heap.size w5 W6 := hW6 ▸ (Below.refl _ _).alloc (Nat.le_refl _) _
          have hneq : ∀ w, (Op.equalIn 10000 80 (.agg (bvs k2).toArray) (.agg Try.zeroCells80)).run Try.prog w = .ok (!nz k2) w := fun w => by
            have := eq_contents hk2 zeros_length w
            rw [← nz_zeros k2 hk2, Bool.not_not, zc80]
            exact this
          have hR6 := hR5.below hb6
          have hl6 : W6.rangeLeft M w2.heap.size < wr.rangeLeft M w2.heap.size := by rw [rangeLeft_kept (hb6.block _ hR5.lt.1) (hb6.block _ hR5.lt.2)]; exact hlt5
          have hB6 : Below w2.heap.size w2 W6 := (HB.out.grown hgr5 HB.out.size (fun j e => by rw [← Option.some.inj e]; exact Nat.le_refl _)).trans (hb6.mono (Nat.le_trans HB.out.size (by omega)))
          have hO6 : W6.ownsRow w4.heap.size 3 1 (.slice va xs.length vc) xs.length (spV xs) := by
            have h5 := HO.out.kept hgr5 (.inr (fun e => by have := (ownsRow_lt HO.out _ e).1; have := HS4.out; omega))
            exact ownsRow_chg (G := fun _ => False) h5 (Chg.of_below hb6) (fun _ _ _ h => h)
          have HSZ := Lib.hid hsz
          have HZS := Lib.hid hzs
          have HNW := Lib.hid hnw
          have HN6 := Lib.hid hn6
          have HW6 := Lib.hid hW6
          have HR6 := Lib.hid hR6
          have HL6 := Lib.hid hl6
          have HB6 := Lib.hid hB6
          have HO6 := Lib.hid hO6
          have HSK := Lib.hid hsk
          have HTK := Lib.hid htk
          have HNE := Lib.hid hneq
          have hs6 : W6.heap.size = w5.heap.size + 1 := by rw [← hW6, World.size_alloc]
          have HS6 := Lib.hid hs6
          clear hsz hzs hnw hn6 hW6 hR6 hl6 hB6 hO6 hsk htk hneq hs6 hb6 hR5 hlt5 hgr5 hs5 hgj hx hkey hval hk2
          cases hz : nz k2 with
          | false =>
            have hneq := HNE.out
            rw [hz] at hneq
            simp only [Bool.not_true, Bool.not_false] at hneq
            have HZ := Lib.hid hz
            clear hz
            go_wp2_with (first | (with_reducible refine wpList_store_row rfl 80 _ _ rfl w5.heap.size (bvs k2).toArray rfl rfl 80 Try.zeroCells80 HNW.out HSZ.out HZS.out (oneCell_bvs _) ?_; rw [World.setRow_alloc_new, HW6.out]) | (with_reducible refine wpList_load_row rfl 80 _ rfl w5.heap.size rfl 80 (bvs k2).toArray (0, 0) _ HN6.out Try.underlying80 rfl HSZ.out ?_))
            go_roundw
            case rel => exact ⟨_, _, HR6.out, HSK.out HZ.out, HO6.out, HB6.out⟩
            case measure => exact HL6.out
          | true =>
            have hneq := HNE.out
            rw [hz] at hneq
            simp only [Bool.not_true, Bool.not_false] at hneq
            have HZ := Lib.hid hz
            clear hz
            have hgn := heap_alloc_new W6 (.cells #[.int .i64 (k1 : Int)] 3)
            have hba : Below W6.heap.size W6 (W6.alloc (.cells #[.int .i64 (k1 : Int)] 3)) := (Below.refl _ _).alloc (Nat.le_refl _) _
            have hO7 := ownsRow_chg (G := fun _ => False) HO6.out (Chg.of_below hba) (fun _ _ _ h => h)
            have hR7 := HR6.out.below hba
            have hB7 := HB6.out.trans (hba.mono HB6.out.size)
            have hl7 := HL6.out
            rw [← rangeLeft_kept (hba.block _ HR6.out.lt.1) (hba.block _ HR6.out.lt.2)] at hl7
            have hw4 : w4.heap.size ≤ (W6.alloc (.cells #[.int .i64 (k1 : Int)] 3)).heap.size := by have := HS4.out; have := HB6.out.size; have := HR6.out.lt.2; simp; omega
            have HGN := Lib.hid hgn
            have HO7 := Lib.hid hO7
            have HR7 := Lib.hid hR7
            have HB7 := Lib.hid hB7
            have HL7 := Lib.hid hl7
            have HW4 := Lib.hid hw4
            clear hgn hba hO7 hR7 hB7 hl7 hw4
            go_wp2_with (first | (with_reducible refine wpList_store_row rfl 80 _ _ rfl w5.heap.size (bvs k2).toArray rfl rfl 80 Try.zeroCells80 HNW.out HSZ.out HZS.out (oneCell_bvs _) ?_; rw [World.setRow_alloc_new, HW6.out]) | (with_reducible refine wpList_load_row rfl 80 _ rfl w5.heap.size rfl 80 (bvs k2).toArray (0, 0) _ HN6.out Try.underlying80 rfl HSZ.out ?_) | (at_builtin; refine wpList_appInt rfl (.tmp 47) (.tmp 49) rfl rfl HO7.out W6.heap.size rfl HGN.out (by omega) HW4.out ?_))
            intro g' cap' w8 hlt8 hown8 hgr8 hat8
            have hns : ∀ j, j < w4.heap.size → some j ≠ (Value.slice va xs.length vc).ownBlock := fun j hj e => by have := (ownsRow_lt HO7.out _ e.symm).1; omega
            have hM4 := HR4.out.lt
            have hR8 := HR7.out.grown hgr8 (hns _ hM4.1) (hns _ hM4.2)
            have hl8 := HL7.out
            rw [← rangeLeft_kept (hgr8.block _ HR7.out.lt.1 (hns _ hM4.1)) (hgr8.block _ HR7.out.lt.2 (hns _ hM4.2))] at hl8
            have hB8 : Below w2.heap.size w2 w8 := HB7.out.grown hgr8 HB7.out.size (fun j hj => by have := (ownsRow_lt HO7.out j hj).1; have := HS4.out; omega)
            have HR8 := Lib.hid hR8
            have HL8 := Lib.hid hl8
            have HB8 := Lib.hid hB8
            have HO8 := Lib.hid hown8
            clear hown8 hgr8 hat8 hns hM4 hR8 hl8 hB8
            go_wp2_with fail
            go_roundw
            case rel => exact ⟨_, _, HR8.out, HTK.out HZ.out, by rw [List.length_append]; exact HO8.out, HB8.out⟩
            case measure => exact HL8.out

end Go.Proofs.Ytkklbmnbjmicnaa
