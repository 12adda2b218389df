/- Flush. -/
import Derived.Test.YtkklbmnbjmicnaaDisk7
namespace Go.Proofs.Ytkklbmnbjmicnaa
open Go.RowKit
set_option linter.unusedVariables false
set_option linter.unusedSimpArgs false

/-- The durable contents when the first k pending writes have been applied whole. -/
def fdur (S : DS) (k : Nat) : List (List UInt8) := rdur S (List.replicate S.pend.length 1) k
def DS.flush (S : DS) : DS × Int :=
  if S.down then (S, 28) else if S.operate.2 then ({ S.operate.1 with dur := fdur S S.pend.length, pend := [] }, 0) else (S.operate.1, 28)

theorem fdur_succ (S : DS) (k : Nat) (hk : k < S.pend.length) : fdur S (k + 1) = (fdur S k).set S.pend[k].1 S.pend[k].2 := by
  unfold fdur
  conv => lhs; unfold rdur
  rw [List.getElem?_eq_getElem hk]
  simp [hk, fate]

theorem operate_rdur (S : DS) (cs : List UInt8) : ∀ k, rdur S.operate.1 cs k = rdur S cs k
  | 0 => (operate_pend S).2
  | k + 1 => by
    unfold rdur
    rw [operate_rdur S cs k, (operate_pend S).1]

set_option maxRecDepth 100000 in
set_option maxHeartbeats 2000000 in
theorem Flush_good {w : World} {F : Nat → Prop} {b : Nat} {S : DS} (h : DiskAt w F b S) (hd : S.down = false) (hop : S.operate.2 = true)
    (hlen : S.pend.length < 100000000000) (hops : S.ops < 1000000000000) (hlim : S.limit.getD 0 ≤ 9223372036854775807) :
    Calls Try.prog 20 #[.pointer (some ⟨b, 0, none⟩)] w fun e w' => e = .returned (.int .i64 0) ∧
      DiskAt w' F b { S.operate.1 with dur := fdur S S.pend.length, pend := [] } ∧ Chg F w w' := by
  have HH := Lib.hid h
  have HOK := Lib.hid h.ok
  obtain ⟨hok, m0, pv0, hx0⟩ := h
  obtain ⟨c0, c1, c2, c3, c4, c5, c6, f⟩ := hx0.cells
  rw [hd] at c6
  clear hx0 hok hd
  go_enter Try.func20, Try.ntmps20
  go_wp2_with fail
  refine (operate_any HH.out hops hlim).mono ?_
  rintro e w1 ⟨rfl, hD1, hC1⟩
  rw [hop]
  obtain ⟨hok1, m, pv, hx1⟩ := hD1
  have hpend := (operate_pend S).1
  have hdur := (operate_pend S).2
  have hP1 := pendAt_of (fun x h => (hok1.pend x h).2) hx1.hp
  rw [hpend] at hP1
  obtain ⟨pa, pcap, hpv⟩ : ∃ a cap, pv = .slice a S.pend.length cap := by
    rcases hP1 with ⟨rfl, e⟩ | ⟨g, cap, rfl, _⟩
    · exact ⟨none, 0, by rw [e]; rfl⟩
    · exact ⟨_, _, rfl⟩
  subst hpv
  clear c0 c1 c2 c3 c4 c5 c6 f
  have hM1 : MapIs w1 m S.dur.length zeros (fun i => (fdur S 0).getD i zeros) := by have := hx1.hm; rw [hdur] at this; exact this
  obtain ⟨d0, d1, d2, d3, d4, d5, d6, df⟩ := hx1.cells
  have HX1 := Lib.hid hx1
  have HOK1 := Lib.hid hok1
  have HC1 := Lib.hid hC1
  have HP1 := Lib.hid hP1
  have HM1 := Lib.hid hM1
  have HPE := Lib.hid hpend
  have HDU := Lib.hid hdur
  clear hx1 hok1 hC1 hP1 hM1 hpend hdur
  go_wp2
  clear d0 d1 d2 d3 d4 d5 d6 df
  go_loopw [21] (fun i wr => ∃ k : Nat, k ≤ S.pend.length ∧ i = .int .i64 (k : Int) ∧ MapIs wr m S.dur.length zeros (fun i => (fdur S k).getD i zeros) ∧ Chg (fun i => i = m) w1 wr)
    (fun i _ => S.pend.length - (intOf i).toNat)
  case atStart => exact ⟨0, Nat.zero_le _, rfl, HM1.out, Chg.refl _ _⟩
  case round =>
    obtain ⟨k, hk, rfl, hM, hC⟩ := hrel
    by_cases hlt : k < S.pend.length
    · have hP1 := HP1.out
      rcases hP1 with ⟨_, e2⟩ | ⟨g, cap', e1, hg, hr⟩
      · rw [e2] at hlt; simp at hlt
      simp only [Value.slice.injEq] at e1
      obtain ⟨rfl, _, rfl⟩ := e1
      have hgm : g ≠ m := fun e => HX1.out.pm (by rw [e]; rfl)
      obtain ⟨x1, x2, hx⟩ : ∃ x1 x2, S.pend[k] = (x1, x2) := ⟨_, _, rfl⟩
      have hxm : (x1, x2) ∈ S.pend := hx ▸ List.getElem_mem hlt
      have hx1 : x1 < S.dur.length := (HOK.out.pend _ hxm).1
      have hx2 : x2.length = 256 := (HOK.out.pend _ hxm).2
      have hrq : wr.rangeAt g (k * 257) (wcells (x1, x2)) := fun j u hu => (World.cell?_of_block (hC.block g hg hgm)).trans (hr k hlt j u (by rw [hx]; exact hu))
      have hwl : (wcells (x1, x2)).length = 257 := wcells_length hx2
      have hsw : (Try.prog.info? 82).map (·.size) = some (wcells (x1, x2)).length := by rw [hwl]; exact sizeWrite
      have hsw2 : (Try.prog.info? 82).map (·.size) = some (wcells (x1, x2)).toArray.size := by rw [List.size_toArray]; exact hsw
      have hsw3 : (Try.zeroCells82).size = (wcells (x1, x2)).toArray.size := by rw [zc82, List.size_toArray, List.size_toArray, hwl]; exact wcells_length zeros_length
      have hnw := heap_alloc_new wr (.cells Try.zeroCells82 82)
      obtain ⟨W1, hW1⟩ : ∃ W1, wr.alloc (.cells (wcells (x1, x2)).toArray 82) = W1 := ⟨_, rfl⟩
      have hbr : b < wr.heap.size := Nat.lt_of_lt_of_le HX1.out.lt hC.size
      have hmr : m < wr.heap.size := hM.lt
      have hbk : ∀ i, i < wr.heap.size → W1.heap[i]? = wr.heap[i]? := fun i hi => by rw [← hW1]; exact Below.heap_alloc wr _ i hi
      have hW1n : W1.heap[wr.heap.size]? = some (.cells (wcells (x1, x2)).toArray 82 (0, 0)) := by rw [← hW1]; exact heap_alloc_new _ _
      obtain ⟨p2, p4⟩ := mid_of_row (c := .int .i64 (x1 : Int)) (l := bvs x2) hW1n
      have hb1 : W1.heap[b]? = w1.heap[b]? := (hbk b hbr).trans (hC.block b HX1.out.lt (fun e => HX1.out.mb e.symm))
      obtain ⟨d0, p1, d2, d3, d4, d5, d6, df⟩ := cells_of (hb1.trans HX1.out.hb)
      have p5 : MapIs W1 m S.dur.length zeros (fun i => (fdur S k).getD i zeros) := hM.kept (hbk m hmr)
      have hVl : x2.length = zeros.length := by rw [hx2, zeros_length]
      have hext : ∀ i, i < S.dur.length → (fun i => if i = x1 then x2 else (fdur S k).getD i zeros) i = (fun i => (fdur S (k + 1)).getD i zeros) i := by
        intro i hi
        have hl : (fdur S k).length = S.dur.length := rdur_length S _ k
        have e5 : fdur S (k + 1) = (fdur S k).set x1 x2 := by rw [fdur_succ S k hlt, hx]
        show (if i = x1 then x2 else (fdur S k).getD i zeros) = (fdur S (k + 1)).getD i zeros
        rw [e5]
        simp only [List.getD_eq_getElem?_getD, List.getElem?_set]
        by_cases hix : i = x1
        · subst hix
          simp [show i < (fdur S k).length by omega]
        · simp [hix, Ne.symm hix]
      have hcr2 : ∀ w3, W1.drew.grownBy w3 (some m) → Chg (fun i => i = m) w1 w3 := fun w3 hg3 =>
        ((hC.trans (hW1 ▸ Chg.alloc (F := fun i => i = m) wr _) (fun _ h => .inl h)).trans ((Chg.refl (fun i => i = m) W1).drew) (fun _ h => .inl h)).trans (Chg.grown (F := fun i => i = m) hg3 (fun k e => .inl (Option.some.inj e).symm)) (fun _ h => .inl h)
      have hsz80 : (Try.prog.info? 80).map (·.size) = some (bvs x2).length := by have := sizeContents hx2; rw [List.size_toArray] at this; exact this
      have HRQ := Lib.hid hrq
      have HSW := Lib.hid hsw
      have HSW2 := Lib.hid hsw2
      have HSW3 := Lib.hid hsw3
      have HNW := Lib.hid hnw
      have HW2 := Lib.hid hW1
      have HXK := Lib.hid hx1
      have HSZ := Lib.hid hsz80
      have HEXT := Lib.hid hext
      have HCR := Lib.hid hcr2
      have HV := Lib.hid hVl
      have HP5 := Lib.hid p5
      clear hrq hsw hsw2 hsw3 hnw hW1 hx1 hsz80 hext hcr2 hVl hM hC d0 d2 d3 d4 d5 d6 df hr hx hxm hbk hW1n hb1 hgm hg hwl hx2 p5 hbr hmr
      go_wp2_with (first | (with_reducible refine wpList_load_mid rfl 82 _ rfl g (k * 257) rfl (wcells (x1, x2)) _ HRQ.out Try.underlying82 rfl HSW.out ?_) | (with_reducible refine wpList_store_row rfl 82 _ _ rfl wr.heap.size (wcells (x1, x2)).toArray rfl rfl 82 Try.zeroCells82 HNW.out HSW2.out HSW3.out (oneCell_wcells _) ?_; rw [World.setRow_alloc_new, HW2.out]))
      refine wp_region_noPanic ?_
      refine wp_region_F 8 (fun w' => w'.cell? ⟨b, 1, none⟩ = some (.map (some m)) ∧ w'.cell? ⟨wr.heap.size, 0, none⟩ = some (.int .i64 (x1 : Int)) ∧ w'.rangeAt wr.heap.size 1 (bvs x2)) (by kernel_rfl) ?_
      have hS0 : (fun w' => w'.cell? ⟨b, 1, none⟩ = some (.map (some m)) ∧ w'.cell? ⟨wr.heap.size, 0, none⟩ = some (.int .i64 (x1 : Int)) ∧ w'.rangeAt wr.heap.size 1 (bvs x2)) W1.drew := ⟨p1, p2, p4⟩
      refine wpAnyF_take (i := 0) (fin := 8) (v := .pointer (some ⟨b, 0, none⟩)) rfl (by kernel_rfl) (by kernel_rfl) (by kernel_rfl) (by kernel_rfl) (fun _ _ _ h => h) (yieldsIf_run rfl (fun w' hw' => ?_)) hS0 ?_
      · rfl
      simp only [Act.put, List.setIfInBounds_toArray, List.set_cons_zero, List.set_cons_succ]
      refine wpAnyF_take (i := 1) (fin := 8) (v := .pointer (some ⟨b, 0, none⟩)) rfl (by kernel_rfl) (by kernel_rfl) (by kernel_rfl) (by kernel_rfl) (fun _ _ _ h => h) (yieldsIf_run rfl (fun w' hw' => ?_)) hS0 ?_
      · go_simp
      simp only [Act.put, List.setIfInBounds_toArray, List.set_cons_zero, List.set_cons_succ]
      refine wpAnyF_take (i := 2) (fin := 8) (v := .pointer (some ⟨b, 1, none⟩)) rfl (by kernel_rfl) (by kernel_rfl) (by kernel_rfl) (by kernel_rfl) (fun _ _ _ h => h) (yieldsIf_run rfl (fun w' hw' => ?_)) hS0 ?_
      · go_simp
      simp only [Act.put, List.setIfInBounds_toArray, List.set_cons_zero, List.set_cons_succ]
      refine wpAnyF_take (i := 3) (fin := 8) (v := .map (some m)) rfl (by kernel_rfl) (by kernel_rfl) (by kernel_rfl) (by kernel_rfl) (fun _ _ _ h => h) (yieldsIf_run rfl (fun w' hw' => ?_)) hS0 ?_
      · (have h4 := hw'.1; clear hw'; go_simp)
      simp only [Act.put, List.setIfInBounds_toArray, List.set_cons_zero, List.set_cons_succ]
      refine wpAnyF_take (i := 4) (fin := 8) (v := .pointer (some ⟨wr.heap.size, 0, none⟩)) rfl (by kernel_rfl) (by kernel_rfl) (by kernel_rfl) (by kernel_rfl) (fun _ _ _ h => h) (yieldsIf_run rfl (fun w' hw' => ?_)) hS0 ?_
      · go_simp
      simp only [Act.put, List.setIfInBounds_toArray, List.set_cons_zero, List.set_cons_succ]
      refine wpAnyF_take (i := 5) (fin := 8) (v := .int .i64 (x1 : Int)) rfl (by kernel_rfl) (by kernel_rfl) (by kernel_rfl) (by kernel_rfl) (fun _ _ _ h => h) (yieldsIf_run rfl (fun w' hw' => ?_)) hS0 ?_
      · (have h4 := hw'.2.1; clear hw'; go_simp)
      simp only [Act.put, List.setIfInBounds_toArray, List.set_cons_zero, List.set_cons_succ]
      refine wpAnyF_take (i := 6) (fin := 8) (v := .pointer (some ⟨wr.heap.size, 1, none⟩)) rfl (by kernel_rfl) (by kernel_rfl) (by kernel_rfl) (by kernel_rfl) (fun _ _ _ h => h) (yieldsIf_run rfl (fun w' hw' => ?_)) hS0 ?_
      · go_simp
      simp only [Act.put, List.setIfInBounds_toArray, List.set_cons_zero, List.set_cons_succ]
      refine wpAnyF_take (i := 7) (fin := 8) (v := .agg (bvs x2).toArray) rfl (by kernel_rfl) (by kernel_rfl) (by kernel_rfl) (by kernel_rfl) (fun _ _ _ h => h) (yieldsIf_run rfl (fun w' hw' => ?_)) hS0 ?_
      · exact run_load_op 80 (.tmp 31) wr.heap.size 1 (bvs x2) _ rfl rfl hw'.2.2 Try.underlying80 rfl HSZ.out
      simp only [Act.put, List.setIfInBounds_toArray, List.set_cons_zero, List.set_cons_succ]
      obtain ⟨w3, hrun3, hM3, hg3⟩ := (HP5.out.kept (w' := W1.drew) rfl).update Try.underlying75 Try.underlying3 HXK.out x2 HV.out
      unfold cval at hrun3
      refine wpAnyF_do (i := 8) (by kernel_rfl) rfl rfl (fun K hK => ?_)
      go_simp
      refine hK _ _ (fun h => absurd rfl h) ?_
      clear hK K
      refine wpAnyF_done (by kernel_rfl) ?_ _
      refine NoPanic.normal ?_
      go_wp2
      go_roundw
      case rel => exact ⟨k + 1, by omega, by go_num, hM3.ext HEXT.out, HCR.out w3 hg3⟩
      case measure => simp [intOf]; omega
    · obtain rfl : k = S.pend.length := by omega
      have hx2 : DiskX wr F b m (.slice pa S.pend.length pcap) { S.operate.1 with dur := fdur S S.pend.length } := by
        have hx1 := HX1.out
        have hbm : b ≠ m := fun e => hx1.mb e.symm
        have hlE : (fdur S S.pend.length).length = S.dur.length := rdur_length S _ _
        refine ⟨hx1.fb, hx1.fm, hx1.fp, (hC.block b hx1.lt hbm).trans ?_, by rw [hlE]; exact hM, ?_⟩
        · rw [hx1.hb]; simp [dcells, hlE, HDU.out]
        · refine ⟨hx1.hp.1, ?_⟩
          rcases hx1.hp.2 with hn | ⟨g, cap, cur, e, hbg, hg, rest⟩
          · exact .inl hn
          · refine .inr ⟨g, cap, cur, e, hbg, (hC.block g (Array.getElem?_eq_some_iff.1 hg).1 (fun e2 => hx1.pm (by rw [e, ← e2]; rfl))).trans hg, rest⟩
      obtain ⟨d0, d1, d2, d3, d4, d5, d6, df⟩ := hx2.cells
      have HX2 := Lib.hid hx2
      have HM := Lib.hid hM
      have HC := Lib.hid hC
      clear hx2 hM hC
      go_wp2
      go_ret
      have hx1 := HX1.out
      have hx2 := HX2.out
      have hok := HOK.out
      have hgr : wr.grownBy (wr.setCell ⟨b, 2, none⟩ (.slice none 0 0)) (some b) := grownBy_setCell wr b 2 _
      have hlE : (fdur S S.pend.length).length = S.dur.length := rdur_length S _ _
      refine ⟨rfl, ?_, ?_⟩
      · refine ⟨⟨rdur_256 hok _ _, by simp, by rw [hlE]; exact hok.most⟩, m, .slice none 0 0, hx1.fb, hx1.fm, by simp [Value.ownBlock], ?_, ?_, World.ownsRow_nil _ _ _ _⟩
        · rw [heap_set7 2 _ hx2.hb]; simp [dcells]
        · exact hx2.hm.kept (hgr.block m hx2.hm.lt (by simp [hx1.mb]))
      · exact (HC1.out.trans (HC.out.mono (G := F) (fun k e => by rw [e]; exact hx1.fm)) (fun _ h => .inl h)).trans (Chg.grown (F := F) hgr (fun k e => .inl (by rw [← Option.some.inj e]; exact hx1.fb))) (fun _ h => .inl h)

set_option maxHeartbeats 1000000 in
theorem Flush_any {w : World} {F : Nat → Prop} {b : Nat} {S : DS} (h : DiskAt w F b S)
    (hlen : S.pend.length < 100000000000) (hops : S.ops < 1000000000000) (hlim : S.limit.getD 0 ≤ 9223372036854775807) :
    Calls Try.prog 20 #[.pointer (some ⟨b, 0, none⟩)] w fun e w' => e = .returned (.int .i64 S.flush.2) ∧ DiskAt w' F b S.flush.1 ∧ Chg F w w' := by
  cases hd : S.down with
  | true =>
    have e1 : S.flush = (S, 28) := by simp [DS.flush, hd]
    rw [e1]
    have HH := Lib.hid h
    obtain ⟨hok, m, pv, hx⟩ := h
    obtain ⟨c0, c1, c2, c3, c4, c5, c6, f⟩ := hx.cells
    rw [hd] at c6
    clear hx hok e1 hd
    go_enter Try.func20, Try.ntmps20
    go_wp2
    go_ret
    exact ⟨rfl, HH.out, Chg.refl _ _⟩
  | false =>
    cases hop : S.operate.2 with
    | true =>
      refine (Flush_good h hd hop hlen hops hlim).mono ?_
      rintro e w' ⟨rfl, h1, h2⟩
      have e1 : S.flush = ({ S.operate.1 with dur := fdur S S.pend.length, pend := [] }, 0) := by simp [DS.flush, hd, hop]
      rw [e1]
      exact ⟨rfl, h1, h2⟩
    | false =>
      have e1 : S.flush = (S.operate.1, 28) := by simp [DS.flush, hd, hop]
      rw [e1]
      have HH := Lib.hid h
      obtain ⟨hok, m, pv, hx⟩ := h
      obtain ⟨c0, c1, c2, c3, c4, c5, c6, f⟩ := hx.cells
      rw [hd] at c6
      clear hx hok e1 hd
      go_enter Try.func20, Try.ntmps20
      go_wp2_with fail
      refine (operate_any HH.out hops hlim).mono ?_
      rintro e w1 ⟨rfl, hD1, hC1⟩
      rw [hop]
      go_wp2
      go_ret
      exact ⟨rfl, hD1, hC1⟩

end Go.Proofs.Ytkklbmnbjmicnaa
