/- The three fates of a pending write (closures of (*Disk).Restart). -/
import Derived.Test.YtkklbmnbjmicnaaDisk5
namespace Go.Proofs.Ytkklbmnbjmicnaa
open Go.RowKit
set_option linter.unusedVariables false
set_option linter.unusedSimpArgs false

def fate (before after : List UInt8) (c : Nat) : List UInt8 :=
  if c % 3 = 0 then before else if c % 3 = 1 then after else after.take (c / 3 % 17 * 16) ++ before.drop (c / 3 % 17 * 16)

theorem fate_length {a b : List UInt8} (ha : a.length = 256) (hb : b.length = 256) (c : Nat) : (fate a b c).length = 256 := by
  unfold fate
  have h17 : c / 3 % 17 < 17 := Nat.mod_lt _ (by decide)
  by_cases h0 : c % 3 = 0
  · simp [h0, ha]
  · by_cases h1 : c % 3 = 1
    · simp [h1, hb]
    · rw [if_neg h0, if_neg h1]; simp [ha, hb]; omega

theorem below3 (w : World) (A B C : Obj) : Below w.heap.size w (((w.alloc A).alloc B).alloc C) :=
  (((Below.refl _ w).alloc (Nat.le_refl _) _).alloc (by simp) _).alloc (by simp; omega) _

set_option maxHeartbeats 1000000 in
theorem fate0 (a b : List UInt8) (ha : a.length = 256) (c : Int) (w : World) :
    Calls Try.prog 42 #[cval a, cval b, .int .i64 c] w fun e w' => e = .returned (cval a) ∧ Below w.heap.size w w' := by
  have h3 := heap3 w (.cells (bvs a).toArray 80) (.cells (bvs b).toArray 80) (.cells Try.zeroCells80 80)
  have hb3 := below3 w (.cells (bvs a).toArray 80) (.cells (bvs b).toArray 80) (.cells Try.zeroCells80 80)
  have hsz := sizeContents ha
  have H3 := Lib.hid h3
  have HS := Lib.hid hsz
  have HB := Lib.hid hb3
  have HA := Lib.hid ha
  clear h3 hsz hb3 ha
  unfold cval
  go_enter Try.func42, Try.ntmps42
  go_wp2_with (first | (with_reducible refine wpList_load_row rfl 80 _ rfl w.heap.size rfl 80 (bvs a).toArray (0, 0) _ H3.out.1 Try.underlying80 rfl HS.out ?_) | (with_reducible refine wpList_store_row rfl 80 _ _ rfl (w.heap.size + 2) (bvs a).toArray rfl rfl 80 Try.zeroCells80 H3.out.2.2 HS.out (by rw [zc80]; simp [HA.out, zeros_length]) (oneCell_bvs _) ?_))
  exact bodyPost_ret (v := .agg (bvs a).toArray) (results_cell_row (g := w.heap.size + 2) rfl _ _ _ _ _ _ rfl (setRow_heap _ _ _ _ _ _ H3.out.2.2) Try.underlying80 rfl HS.out) rfl ⟨rfl, below_setRow HB.out (by omega) _⟩

set_option maxHeartbeats 1000000 in
theorem fate1 (a b : List UInt8) (ha : b.length = 256) (c : Int) (w : World) :
    Calls Try.prog 43 #[cval a, cval b, .int .i64 c] w fun e w' => e = .returned (cval b) ∧ Below w.heap.size w w' := by
  have h3 := heap3 w (.cells (bvs a).toArray 80) (.cells (bvs b).toArray 80) (.cells Try.zeroCells80 80)
  have hb3 := below3 w (.cells (bvs a).toArray 80) (.cells (bvs b).toArray 80) (.cells Try.zeroCells80 80)
  have hsz := sizeContents ha
  have H3 := Lib.hid h3
  have HS := Lib.hid hsz
  have HB := Lib.hid hb3
  have HA := Lib.hid ha
  clear h3 hsz hb3 ha
  unfold cval
  go_enter Try.func43, Try.ntmps43
  go_wp2_with (first | (with_reducible refine wpList_load_row rfl 80 _ rfl (w.heap.size + 1) rfl 80 (bvs b).toArray (0, 0) _ H3.out.2.1 Try.underlying80 rfl HS.out ?_) | (with_reducible refine wpList_store_row rfl 80 _ _ rfl (w.heap.size + 2) (bvs b).toArray rfl rfl 80 Try.zeroCells80 H3.out.2.2 HS.out (by rw [zc80]; simp [HA.out, zeros_length]) (oneCell_bvs _) ?_))
  exact bodyPost_ret (v := .agg (bvs b).toArray) (results_cell_row (g := w.heap.size + 2) rfl _ _ _ _ _ _ rfl (setRow_heap _ _ _ _ _ _ H3.out.2.2) Try.underlying80 rfl HS.out) rfl ⟨rfl, below_setRow HB.out (by omega) _⟩

theorem slice_to (w : World) (g n : Nat) (hn : n ≤ 256) :
    (Instr.sliceAt 80 (.pointer (some ⟨g, 0, none⟩)) none (some (.int .i64 (n : Int))) none).run Try.prog w = .ok (.slice (some ⟨g, 0, none⟩) n 256) w := by
  have h1 : (n : Int) ≤ 256 := by omega
  have hs : (sizeOf 5).run Try.prog w = .ok 1 w := by kernel_rfl
  simp [Instr.sliceAt, run_underlying Try.underlying80, Instr.sureAddr, Instr.sliceBounds, Instr.sliceBound, asIntOf, h1, hs, hn]
  rfl

set_option maxRecDepth 100000 in
set_option maxHeartbeats 2000000 in
theorem fate2 (a b : List UInt8) (ha : a.length = 256) (hb : b.length = 256) (c : Nat) (hc : c ≤ 255) (w : World) :
    Calls Try.prog 44 #[cval a, cval b, .int .i64 (c : Int)] w fun e w' => e = .returned (cval (b.take (c / 3 % 17 * 16) ++ a.drop (c / 3 % 17 * 16))) ∧ Below w.heap.size w w' := by
  have h3 := heap3 w (.cells (bvs a).toArray 80) (.cells (bvs b).toArray 80) (.cells Try.zeroCells80 80)
  have hb3 := below3 w (.cells (bvs a).toArray 80) (.cells (bvs b).toArray 80) (.cells Try.zeroCells80 80)
  have hsz := sizeContents ha
  have H3 := Lib.hid h3
  have HS := Lib.hid hsz
  have HB := Lib.hid hb3
  have HA := Lib.hid ha
  have HBl := Lib.hid hb
  clear h3 hsz hb3 ha hb
  unfold cval
  go_enter Try.func44, Try.ntmps44
  go_wp2
  obtain ⟨W, hW⟩ : ∃ W, ((w.alloc (.cells (bvs a).toArray 80)).alloc (.cells (bvs b).toArray 80)).alloc (.cells Try.zeroCells80 80) = W := ⟨_, rfl⟩
  rw [hW] at H3 HB ⊢
  clear hW
  obtain ⟨n, hn⟩ : ∃ n, n = c / 3 % 17 * 16 := ⟨_, rfl⟩
  have hn256 : n ≤ 256 := by have : c / 3 % 17 < 17 := Nat.mod_lt _ (by decide); omega
  have e : (c : Int) / 3 % 17 * 16 = (n : Int) := by omega
  rw [e]
  have HN := Lib.hid hn
  clear e hn
  have hs1 := slice_to W.drew w.heap.size n hn256
  have hs2 := slice_to W.drew (w.heap.size + 1) n hn256
  have hBs : w.heap.size + 2 < W.heap.size := (Array.getElem?_eq_some_iff.1 H3.out.2.2).1
  have hsu : (Try.prog.info? 5).map (·.size) = some 1 := by kernel_rfl
  have HU := Lib.hid hsu
  clear hsu
  go_still_tail 4, (by kernel_rfl)
  obtain ⟨W1, hW1⟩ : ∃ W1 : World, { W with drawn := W.drawn + 1 } = W1 := ⟨_, rfl⟩
  have g0 : W1.heap[w.heap.size]? = some (.cells (bvs a).toArray 80 (0, 0)) := by rw [← hW1]; exact H3.out.1
  have g1 : W1.heap[w.heap.size + 1]? = some (.cells (bvs b).toArray 80 (0, 0)) := by rw [← hW1]; exact H3.out.2.1
  have g2 : W1.heap[w.heap.size + 2]? = some (.cells Try.zeroCells80 80 (0, 0)) := by rw [← hW1]; exact H3.out.2.2
  have hB1 : Below w.heap.size w W1 := by rw [← hW1]; exact HB.out.drew
  rw [hW1]
  clear hW1 hs1 hs2
  have hlen : (bvs (b.take n)).length = n := by rw [bvs_length, List.length_take, HBl.out]; omega
  refine wpList_copy_own rfl (.tmp 13) (.tmp 15) 30 30 rfl 5 Try.underlying30 HU.out w.heap.size 0 n 256 ⟨w.heap.size + 1, 0, none⟩ n 256 rfl rfl (bvs a).toArray 80 g0 (bvs (b.take n)) (by rw [hlen]; simp) ?_ (by rw [hlen, List.size_toArray, bvs_length, HA.out]; omega) bvs_oneCell ?_
  · intro j v hv
    have hadd : (⟨w.heap.size + 1, 0, none⟩ : Addr).add j = ⟨w.heap.size + 1, j, none⟩ := by unfold Addr.add; split <;> simp_all
    rw [hadd, cell_of_row W1 _ _ _ _ _ g1]
    rw [bvs_getElem?, List.getElem?_take] at hv
    split at hv
    · simp [bvs_getElem?, hv]
    · cases hv
  · obtain ⟨W2, hW2⟩ : ∃ W2, W1.setRow w.heap.size (List.take 0 (bvs a).toArray.toList ++ (bvs (b.take n) ++ List.drop (0 + (bvs (b.take n)).length) (bvs a).toArray.toList)).toArray = W2 := ⟨_, rfl⟩
    have ea : (List.take 0 (bvs a).toArray.toList ++ (bvs (b.take n) ++ List.drop (0 + (bvs (b.take n)).length) (bvs a).toArray.toList)).toArray = (bvs (b.take n ++ a.drop n)).toArray := by
      rw [hlen]; simp [bvs, List.map_drop]
    have k0 : W2.heap[w.heap.size]? = some (.cells (bvs (b.take n ++ a.drop n)).toArray 80 (0, 0)) := by rw [← hW2, ea]; exact setRow_heap _ _ _ _ _ _ g0
    have k2 : W2.heap[w.heap.size + 2]? = some (.cells Try.zeroCells80 80 (0, 0)) := by rw [← hW2, setRow_other _ _ _ _ (by omega)]; exact g2
    have hB2 : Below w.heap.size w W2 := by rw [← hW2]; exact below_setRow hB1 (Nat.le_refl _) _
    have hrl : (b.take n ++ a.drop n).length = 256 := by rw [List.length_append, List.length_take, List.length_drop, HA.out, HBl.out]; omega
    have hsz := sizeContents hrl
    obtain ⟨R, hR⟩ : ∃ R, R = b.take n ++ a.drop n := ⟨_, rfl⟩
    rw [← hR] at k0 hsz hrl
    rw [hW2]
    have HSz := Lib.hid hsz
    have HRl := Lib.hid hrl
    have HR := Lib.hid hR
    clear hW2 ea hsz hrl hlen g0 g1 g2 hR
    go_wp2_with (first | (with_reducible refine wpList_load_row rfl 80 _ rfl w.heap.size rfl 80 (bvs R).toArray (0, 0) _ k0 Try.underlying80 rfl HSz.out ?_) | (with_reducible refine wpList_store_row rfl 80 _ _ rfl (w.heap.size + 2) (bvs R).toArray rfl rfl 80 Try.zeroCells80 k2 HSz.out (by rw [zc80]; simp [HRl.out, zeros_length]) (oneCell_bvs _) ?_))
    refine bodyPost_ret (v := .agg (bvs R).toArray) (results_cell_row (g := w.heap.size + 2) rfl _ _ _ _ _ _ rfl (setRow_heap _ _ _ _ _ _ k2) Try.underlying80 rfl HSz.out) rfl ⟨?_, below_setRow hB2 (by omega) _⟩
    rw [HR.out, HN.out]

end Go.Proofs.Ytkklbmnbjmicnaa
