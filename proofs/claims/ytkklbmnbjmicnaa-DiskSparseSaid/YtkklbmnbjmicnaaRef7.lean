/- The reference: New. -/
import Derived.Test.YtkklbmnbjmicnaaRef6
namespace Go.Proofs.Ytkklbmnbjmicnaa
open Go.RowKit Go.Shelf
set_option linter.unusedVariables false
set_option linter.unusedSimpArgs false

theorem ownsRow_whole {w : World} {B g n : Nat} {T : TypeId} {l : List UInt8} (hg : w.heap[g]? = some (.cells (bvs l).toArray T (0, 0))) (hl : l.length = n) (hB : B ≤ g) (hn : n ≤ maxLen) :
    w.ownsRow B T 1 (.slice (some ⟨g, 0, none⟩) n n) n (bvs l) :=
  ⟨by simp [hl], .inr ⟨g, n, _, rfl, hB, hg, Nat.le_refl _, hn, by simp [hl], by rw [List.take_of_length_le (by simp [hl])]⟩⟩

/-- One more sector behind the others: behind the append. -/
theorem RefOwnX.pushDur {w w' : World} {B : Nat} {n : Nat} {dv wv : Value} {D : List (List UInt8 × Value)} (h : RefOwnX w B (newDS n) dv wv D []) {gg capg g : Nat}
    (hown : w'.ownsRow B 30 1 (.slice (some ⟨gg, 0, none⟩) ((newDS n).dur.length + 1) capg) ((newDS n).dur.length + 1) (D.map (·.2) ++ [.slice (some ⟨g, 0, none⟩) 256 256])) (hgrow : w.grownBy w' dv.ownBlock) (hB : B ≤ g)
    (hg : w.heap[g]? = some (.cells (bvs zeros).toArray 5 (0, 0))) (hn : ∀ x ∈ D ++ ([] : List (Nat × List UInt8 × Value)).map (·.2), x.2.ownBlock ≠ some g) :
    RefOwnX w' B (newDS (n + 1)) (.slice (some ⟨gg, 0, none⟩) (n + 1) capg) wv (D ++ [(zeros, .slice (some ⟨g, 0, none⟩) 256 256)]) [] := by
  have hc : Chg (fun i => dv.ownBlock = some i) w w' := Chg.grown hgrow (fun i e => .inl e)
  have e1 : (newDS (n + 1)).dur.length = (newDS n).dur.length + 1 := by simp [newDS]
  have e2 : (newDS n).dur.length = n := by simp [newDS]
  have hgr : w.ownsRow B 5 1 (.slice (some ⟨g, 0, none⟩) 256 256) 256 (bvs zeros) := ownsRow_whole hg zeros_length hB (by decide)
  have hgn : dv.ownBlock ≠ some g := fun e => ownsRow_ne h.rd hgr (by decide) g e rfl
  refine ⟨?_, h.pend, ?_, ?_, ?_⟩
  · rw [List.map_append, h.dur]; simp [newDS, List.replicate_succ']
  · rw [e1]; rw [e2] at hown ⊢; simpa using hown
  · exact ownsRow_chg' h.rw hc (fun i e e3 => ownsRow_ne h.rd h.rw (by decide) i e3 e)
  · have hr : Rows w' B (D ++ ([] : List (Nat × List UInt8 × Value)).map (·.2)) := h.rows.kept hc (fun x hx i e e3 => by
      obtain ⟨_, g, cap, _, hr⟩ := h.rows.row x hx
      exact ownsRow_ne h.rd hr (by decide) i e3 e)
    have hp := hr.push (l := zeros) zeros_length (ownsRow_chg' hgr hc (fun i e e3 => hgn (by rw [e3, ← e]; rfl))) hn
    simpa using hp

set_option maxRecDepth 100000 in
set_option maxHeartbeats 2000000 in
theorem refNew_any (n : Nat) (w : World) (h1 : 1 ≤ n) (h2 : n ≤ 4096) :
    Calls Try.prog 41 #[.int .i64 (n : Int)] w fun e w' => ∃ v, e = .returned (.tuple #[v, .int .i64 0]) ∧ RefOwn w' w.heap.size (newDS n) v ∧ Below w.heap.size w w' := by
  have h1' : ¬ (n : Int) < 1 := by omega
  have h2' : ¬ 4096 < (n : Int) := by omega
  have hmk := make256
  go_enter Try.func41, Try.ntmps41
  go_wp2_with fail
  go_loopw [5] (fun i wr => ∃ (k : Nat) (dv : Value) (D : List (List UInt8 × Value)), k ≤ n ∧ i = .int .i64 (k : Int) ∧ wr.heap[w.heap.size + 1]? = some (.cells #[dv, .slice none 0 0, .int .i64 (-1), .bool false, .int .i64 0] 45 (0, 0)) ∧
      wr.heap[w.heap.size]? = some (.cells #[.slice none 0 0, .slice none 0 0, .int .i64 0, .bool false, .int .i64 0] 45 (0, 0)) ∧ RefOwnX wr (w.heap.size + 2) (newDS k) dv (.slice none 0 0) D [] ∧ Below w.heap.size w wr)
    (fun i _ => n - (intOf i).toNat)
  case atStart =>
    have hs2 := World.size_alloc w (.cells #[.slice none 0 0, .slice none 0 0, .int .i64 0, .bool false, .int .i64 0] 45)
    refine ⟨0, .slice none 0 0, [], Nat.zero_le _, rfl, ?_, ?_, ⟨by simp [newDS], rfl, World.ownsRow_nil _ _ _ _, World.ownsRow_nil _ _ _ _, ⟨by simp, by simp⟩⟩, ?_⟩
    · exact heap_alloc2_new _ _ _
    · exact heap_alloc2_old _ _ _
    · exact ((Below.refl _ _).alloc (Nat.le_refl _) _).alloc (by simp) _
  case round =>
    obtain ⟨k, dv, D, hk, rfl, hn, hr, hX, hB⟩ := hrel
    obtain ⟨x0, x1, x2, x3, x4, xf⟩ := cells5 hn
    have hlt0 : w.heap.size + 1 < wr.heap.size := (Array.getElem?_eq_some_iff.1 hn).1
    have HN := Lib.hid hn
    have HR := Lib.hid hr
    have HX := Lib.hid hX
    have HB := Lib.hid hB
    have HLT := Lib.hid hlt0
    clear hn hr hX hB hlt0
    by_cases hlt : k < n
    · go_wp2_with fail
      clear x1 x2 x3 x4
      refine wp_region_noPanic ?_
      refine wp_region_F 6 (fun w' => w'.cell? ⟨w.heap.size + 1, 0, none⟩ = some dv) (by kernel_rfl) ?_
      have hS0 : (fun w' => w'.cell? ⟨w.heap.size + 1, 0, none⟩ = some dv) wr.drew := x0
      refine wpAnyF_take (i := 0) (fin := 6) (v := ?v1) rfl (by kernel_rfl) (by kernel_rfl) (by kernel_rfl) (by kernel_rfl) (fun _ _ _ h => h) (yieldsIf_run rfl (fun w' hw' => ?y1)) hS0 ?_
      case y1 => first | (go_simp; rfl) | (go_simp; done) | rfl
      simp only [Act.put, List.setIfInBounds_toArray, List.set_cons_zero, List.set_cons_succ]
      refine wpAnyF_take (i := 1) (fin := 6) (v := dv) rfl (by kernel_rfl) (by kernel_rfl) (by kernel_rfl) (by kernel_rfl) (fun _ _ _ h => h) (yieldsIf_run rfl (fun w' hw' => ?y2)) hS0 ?_
      case y2 => (have h4 := hw'; clear hw'; first | (go_simp; rfl) | (go_simp; done))
      simp only [Act.put, List.setIfInBounds_toArray, List.set_cons_zero, List.set_cons_succ]
      refine wpAnyF_do (i := 2) (by kernel_rfl) rfl rfl (fun K hK => ?_)
      go_simp
      obtain ⟨w2, hw2⟩ : ∃ w2, (wr.alloc (.cells (bvs zeros).toArray 5)).drew = w2 := ⟨_, rfl⟩
      have hb2 : Below wr.heap.size wr w2 := hw2 ▸ ((Below.refl _ wr).alloc (Nat.le_refl _) _).drew
      have hg2 : w2.heap[wr.heap.size]? = some (.cells (bvs zeros).toArray 5 (0, 0)) := by rw [← hw2]; exact heap_alloc_new wr _
      have hl2 : w2.heap.size = wr.heap.size + 1 := by rw [← hw2]; exact World.size_alloc _ _
      have HL2 := Lib.hid hl2
      clear hl2
      have q2 : w2.cell? ⟨w.heap.size + 1, 0, none⟩ = some dv := (hb2.cell (p := ⟨w.heap.size + 1, 0, none⟩) HLT.out).trans x0
      rw [hw2]
      refine hK _ _ (fun _ => q2) ?_
      clear hK K
      try simp only [Act.put, List.setIfInBounds_toArray, List.set_cons_zero, List.set_cons_succ]
      refine wpAnyF_do (i := 3) (by kernel_rfl) rfl rfl (fun K hK => ?_)
      go_simp
      obtain ⟨w3, hw3⟩ : ∃ w3, w2.alloc (.cells #[.slice (some ⟨wr.heap.size, 0, none⟩) 256 256] 30) = w3 := ⟨_, rfl⟩
      have hb3 : Below w2.heap.size w2 w3 := hw3 ▸ (Below.refl _ w2).alloc (Nat.le_refl _) _
      have hn3 : w3.heap[w2.heap.size]? = some (.cells #[.slice (some ⟨wr.heap.size, 0, none⟩) 256 256] 30 (0, 0)) := by rw [← hw3]; exact heap_alloc_new w2 _
      have hbr3 : Below wr.heap.size wr w3 := hb2.trans (hb3.mono hb2.size)
      have q3 : w3.cell? ⟨w.heap.size + 1, 0, none⟩ = some dv := (hbr3.cell (p := ⟨w.heap.size + 1, 0, none⟩) HLT.out).trans x0
      have hg3 : w3.heap[wr.heap.size]? = _ := (hb3.block _ (by have := HL2.out; omega)).trans hg2
      have hX3 : RefOwnX w3 (w.heap.size + 2) (newDS k) dv (.slice none 0 0) D [] := HX.out.chg (G := fun _ => False) (Chg.of_below hbr3) (fun _ _ h => h)
      rw [hw3]
      refine hK _ _ (fun _ => q3) ?_
      clear hK K
      try simp only [Act.put, List.setIfInBounds_toArray, List.set_cons_zero, List.set_cons_succ]
      refine wpAnyF_do (i := 4) (by kernel_rfl) rfl rfl (fun K hK => ?_)
      refine wp_appRow (.tmp 20) (.tmp 22) rfl rfl hX3.rd w2.heap.size rfl hn3 rfl (by have h9 : (newDS k).dur.length = k := List.length_replicate; omega) (by have := hbr3.size; have := HLT.out; omega) ?_
      intro gg capg w4 hlt4 hown4 hgrow4 hat4
      have hX4 := hX3.pushDur hown4 hgrow4 (by have := HLT.out; omega) hg3 (fun x hx e => by
        obtain ⟨_, g, cap, _, hr⟩ := HX.out.rows.row x hx
        have := (ownsRow_lt hr _ e).2
        omega)
      have hne4 : dv.ownBlock ≠ some (w.heap.size + 1) := fun e => by have := (ownsRow_lt HX.out.rd _ e).1; omega
      have hne4' : dv.ownBlock ≠ some w.heap.size := fun e => by have := (ownsRow_lt HX.out.rd _ e).1; omega
      have hbd4 : w4.heap[w.heap.size + 1]? = _ := (hgrow4.block _ (by have := HLT.out; have := hbr3.size; omega) (Ne.symm hne4)).trans ((hbr3.block _ HLT.out).trans HN.out)
      have hbr4 : w4.heap[w.heap.size]? = _ := (hgrow4.block _ (by have := HLT.out; have := hbr3.size; omega) (Ne.symm hne4')).trans ((hbr3.block _ (by have := HLT.out; omega)).trans HR.out)
      have q4 : w4.cell? ⟨w.heap.size + 1, 0, none⟩ = some dv := (cells5 hbd4).1
      have f4 : w4.frozen? ⟨w.heap.size + 1, 0, none⟩ = false := (cells5 hbd4).2.2.2.2.2 0
      have hb4 : Below w.heap.size w w4 := (HB.out.trans (hbr3.mono HB.out.size)).grown hgrow4 (Nat.le_trans HB.out.size hbr3.size) (fun i e => by have := (ownsRow_lt HX.out.rd _ e).1; omega)
      refine hK _ _ (fun _ => q4) ?_
      clear hK K
      try simp only [Act.put, List.setIfInBounds_toArray, List.set_cons_zero, List.set_cons_succ]
      refine wpAnyF_do (i := 5) (by kernel_rfl) rfl rfl (fun K hK => ?_)
      go_simp
      refine hK _ _ (fun _ => q4) ?_
      clear hK K
      try simp only [Act.put, List.setIfInBounds_toArray, List.set_cons_zero, List.set_cons_succ]
      refine wpAnyF_do (i := 6) (by kernel_rfl) rfl rfl (fun K hK => ?_)
      go_simp
      refine hK _ _ (fun h => absurd rfl h) ?_
      clear hK K
      refine wpAnyF_done (by kernel_rfl) ?_ _
      refine NoPanic.normal ?_
      obtain ⟨w5, hw5⟩ : ∃ w5, w4.setCell ⟨w.heap.size + 1, 0, none⟩ (.slice (some ⟨gg, 0, none⟩) ((newDS k).dur.length + 1) capg) = w5 := ⟨_, rfl⟩
      have hc5 : Chg (fun i => i = w.heap.size + 1) w4 w5 := hw5 ▸ Chg.setCell (F := fun i => i = w.heap.size + 1) w4 _ rfl
      have e2 : (newDS k).dur.length = k := List.length_replicate
      have hn5 : w5.heap[w.heap.size + 1]? = some (.cells #[.slice (some ⟨gg, 0, none⟩) (k + 1) capg, .slice none 0 0, .int .i64 (-1), .bool false, .int .i64 0] 45 (0, 0)) := by
        rw [← hw5, heap_setCell_same _ _ _ _ _ _ hbd4, e2]; rfl
      have hr5 : w5.heap[w.heap.size]? = _ := (hc5.block _ (by have := hb4.size; have := HLT.out; have := hgrow4.size; have := hbr3.size; omega) (by omega)).trans hbr4
      have hb5 : Below w.heap.size w w5 := hb4.trans (hc5.below (fun i e => by omega) hb4.size)
      have hX5 := hX4.chg hc5 (fun i h e => by omega)
      rw [hw5]
      have HN5 := Lib.hid hn5
      have HR5 := Lib.hid hr5
      have HB5 := Lib.hid hb5
      have HX5 := Lib.hid hX5
      clear hw5 hc5 hn5 hr5 hb5 hX5 e2 hX4 hX3 hown4 hgrow4 hat4 hlt4 hb4 q4 f4 hbd4 hbr4 hne4 hne4' hbr3 hn3 hb3 hw3 hg3 q3 q2 hg2 hb2 hw2 hS0 x0 xf hmk
      go_wp2_with fail
      go_roundw
      case rel => exact ⟨k + 1, _, _, by omega, by go_num, HN5.out, HR5.out, HX5.out, HB5.out⟩
      case measure => simp [intOf]; omega
    · obtain rfl : k = n := by omega
      obtain ⟨y0, y1, y2, y3, y4, yf⟩ := cells5 HR.out
      have hfin := put5_heap HR.out dv (.slice none 0 0) (.int .i64 (-1)) (.bool false) (.int .i64 0)
      have hcf := put5_chg wr w.heap.size dv (.slice none 0 0) (.int .i64 (-1)) (.bool false) (.int .i64 0)
      have hXf := (HX.out.chg hcf (fun i h e => by omega)).base (B' := w.heap.size) (by omega)
      have hbf := HB.out.trans (hcf.below (fun i e => by omega) HB.out.size)
      have HXF := Lib.hid hXf
      have HBF := Lib.hid hbf
      have HFIN := Lib.hid hfin
      have hdv : ∃ a c, dv = .slice a k c := by have := HX.out.slices.1; simpa [newDS] using this
      obtain ⟨da, dc, rfl⟩ := hdv
      clear hfin hcf hXf hbf hmk
      go_wp2_with fail
      exact bodyPost_ret (results_cell_tmp_row (g := w.heap.size) rfl _ _ _ _ _ _ rfl HFIN.out Try.underlying45 rfl infoD) rfl ⟨_, rfl, ⟨_, _, D, _, rfl, HXF.out⟩, HBF.out⟩

end Go.Proofs.Ytkklbmnbjmicnaa
