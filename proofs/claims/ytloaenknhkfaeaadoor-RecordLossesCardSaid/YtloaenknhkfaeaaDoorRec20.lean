/- Records: the examples hold (known). -/
import Derived.Test.YtloaenknhkfaeaaDoorRec19
namespace Go.Proofs.YtloaenknhkfaeaaDoor
open Go.RowKit
set_option linter.unusedVariables false
set_option linter.unusedSimpArgs false

theorem half0 : (halfL (List.replicate 240 0) == List.replicate 16 0) = false := by decide +kernel
theorem z256_dec : decE z256 = 22 := by
  refine decE_sum z256_length ?_
  have e1 : z256.drop 16 = List.replicate 240 0 := by unfold z256; rw [List.drop_replicate]
  have e2 : z256.take 16 = List.replicate 16 0 := by unfold z256; rw [List.take_replicate]; rfl
  rw [e1, e2]
  exact beq_eq_false_iff_ne.1 half0
theorem z256_scan : scanL 0 0 [z256] = ([], 0, 22) := by
  have hj : joinL [z256] = (.zero, 0, 22) := by rw [joinL, if_pos (by rw [z256_dec]; decide), z256_dec]
  have hf : ¬ fineB 0 0 0 = false := by decide
  unfold scanL
  rw [if_neg hf]
  show scanGo 0 0 [z256] 1 0 [] = _
  rw [scanGo.eq_2, if_neg (by simp), List.drop_zero, hj, if_pos (by decide)]
def r300 : RecD := ⟨1, 2, 3, List.replicate 300 0⟩
theorem r300_len : r300.load.length = 300 := List.length_replicate
theorem r300_need : needN r300.load.length = 2 := by rw [r300_len]; rfl
theorem r300_ok : splitE r300 = 0 := by
  have hf : ¬ fineB r300.kind r300.gen r300.num = false := by decide
  unfold splitE
  rw [if_neg hf, if_neg (by rw [r300_len]; omega)]
theorem r300_split : splitL r300 = [encL (partOf r300 0), encL (partOf r300 1)] := by
  unfold splitL
  rw [if_pos r300_ok, r300_need]
  rfl
theorem r300_27 : (encL (partOf r300 1)).getD 27 0 = 1 := by decide +kernel
theorem r300_31 : (encL (partOf r300 1)).getD 31 0 = 76 := by decide +kernel
theorem mk300 : ∀ w, (Instr.makeSlice 22 (.int .i64 300) (.int .i64 300)).run Tryd.prog w = .ok (.slice (some ⟨w.heap.size, 0, none⟩) 300 300) (w.alloc (.cells (bvs r300.load).toArray 5)) := fun _ => by kernel_rfl
theorem mk5 : ∀ w, (Instr.makeSlice 22 (.int .i64 5) (.int .i64 5)).run Tryd.prog w = .ok (.slice (some ⟨w.heap.size, 0, none⟩) 5 5) (w.alloc (.cells (bvs [0, 0, 0, 0, 0]).toArray 5)) := fun _ => by kernel_rfl
theorem block_whole {w : World} {g n : Nat} {l : List UInt8} {T : TypeId} (h : w.heap[g]? = some (.cells (bvs l).toArray T (0, 0))) (hn : l.length = n) : BytesN w (fun _ => True) (.slice (some ⟨g, 0, none⟩) n n) l := by
  subst hn
  have := block_bytes h 0 l.length l.length (by omega) (Nat.le_refl _)
  rw [List.drop_zero, List.take_length] at this
  exact ⟨this.any, fun k c e => by cases e⟩
theorem secs_one {w : World} {g : Nat} {u : Value} {l : List UInt8} {T : TypeId} (h : w.heap[g]? = some (.cells #[u] T (0, 0))) (hu : BytesN w (fun _ => True) u l) : SecsAt w (.slice (some ⟨g, 0, none⟩) 1 1) [l] :=
  ⟨_, 1, [u], rfl, Nat.le_refl _, rfl, fun _ => ⟨g, 0, rfl, (Array.getElem?_eq_some_iff.1 h).1, fun j x hx => by
    rw [cell_of_row _ _ _ _ _ _ h, Nat.zero_add]; simpa using hx⟩, (fun k c e => by cases e), fun i hi => by
    obtain rfl : i = 0 := by simp at hi; omega
    exact ⟨u, rfl, hu⟩⟩

set_option maxRecDepth 100000 in
set_option maxHeartbeats 2000000 in
theorem known_any {w : World} (hK : KAt w) : Calls Tryd.prog 18 #[] w fun e w' => e = .returned (.bool true) ∧ Below w.heap.size w w' := by
  obtain ⟨w1, hw1⟩ : ∃ w1, w.alloc (.cells (bvs r300.load).toArray 5) = w1 := ⟨_, rfl⟩
  have hb1 : Below w.heap.size w w1 := hw1 ▸ (Below.refl _ w).alloc (Nat.le_refl _) _
  have hn1 : w1.heap[w.heap.size]? = some (.cells (bvs r300.load).toArray 5 (0, 0)) := by rw [← hw1]; exact heap_alloc_new _ _
  have hsplit : Calls Tryd.prog 28 #[.agg #[.int .i64 1, .int .i64 2, .int .i64 3, .slice (some ⟨w.heap.size, 0, none⟩) 300 300]] w1 (fun e w' => ∃ a c, e = .returned (.tuple #[.slice a 2 c, .int .i64 0]) ∧
      OwnSecs w' w1.heap.size (.slice a 2 c) [encL (partOf r300 0), encL (partOf r300 1)] ∧ Below w1.heap.size w1 w') :=
    (Split_any r300 _ 300 300 (block_whole hn1 r300_len) (hK.below hb1 hK.size)).mono (fun e w' h => by
      obtain ⟨v, h1, h2, h3⟩ := h
      rw [r300_ok] at h1
      rw [r300_split] at h2
      obtain ⟨a, c, rfl⟩ := h2.form
      exact ⟨a, c, h1, h2, h3⟩)
  have hneed := fun w => Need_any 225 w
  have e1 : needV 225 = 2 := by decide
  have e2 : needE 225 = 0 := by decide
  rw [e1, e2] at hneed
  have hmk := mk300
  have hmk2 := mk256
  have hmk3 := mk5
  have HSPLIT := Lib.hid hsplit
  have HNEED := Lib.hid hneed
  have HW1 := Lib.hid hw1
  have HB1 := Lib.hid hb1
  have HK := Lib.hid hK
  have hmk2' : ∀ w, (Instr.makeSlice 22 (.int .i64 256) (.int .i64 256)).run Tryd.prog w = .ok (.slice (some ⟨w.heap.size, 0, none⟩) 256 256) (w.alloc (.cells (bvs z256).toArray 5)) := mk256
  clear hsplit hneed hw1 hb1 hn1 hK e1 e2 hmk2
  go_enter Tryd.func18, Tryd.ntmps18
  go_wp2_with fail
  rw [HW1.out]
  refine HSPLIT.out.mono ?_
  rintro e w2 ⟨sa, sc, rfl, hO2, hb2⟩
  have HO2 := Lib.hid hO2
  have hb2' := HB1.out.trans (hb2.mono HB1.out.size)
  have HB2 := Lib.hid hb2'
  clear hO2 hb2 hb2'
  go_wp2_with fail
  refine (HNEED.out _).mono ?_
  rintro e w' ⟨rfl, rfl⟩
  obtain ⟨w3a, hw3a⟩ : ∃ w3a, w2.alloc (.cells (bvs z256).toArray 5) = w3a := ⟨_, rfl⟩
  have hb3a : Below w2.heap.size w2 w3a := hw3a ▸ (Below.refl _ _).alloc (Nat.le_refl _) _
  have hn3a : w3a.heap[w2.heap.size]? = some (.cells (bvs z256).toArray 5 (0, 0)) := by rw [← hw3a]; exact heap_alloc_new _ _
  have hs3a : w3a.heap.size = w2.heap.size + 1 := by rw [← hw3a]; simp
  obtain ⟨w3, hw3⟩ : ∃ w3, w3a.alloc (.cells #[.slice (some ⟨w2.heap.size, 0, none⟩) 256 256] 22) = w3 := ⟨_, rfl⟩
  have hb3 : Below w3a.heap.size w3a w3 := hw3 ▸ (Below.refl _ _).alloc (Nat.le_refl _) _
  have hn3 : w3.heap[w2.heap.size + 1]? = some (.cells #[.slice (some ⟨w2.heap.size, 0, none⟩) 256 256] 22 (0, 0)) := by rw [← hw3, ← hs3a]; exact heap_alloc_new _ _
  have hbz := (block_whole hn3a z256_length).below hb3
  have hsec := secs_one hn3 hbz
  have hbd3 := (HB2.out.trans (hb3a.mono HB2.out.size)).trans (hb3.mono (Nat.le_trans HB2.out.size hb3a.size))
  have hO3 := (HO2.out.below hb3a).below hb3
  have hscan : Calls Tryd.prog 39 #[.int .i64 0, .int .i64 0, .slice (some ⟨w2.heap.size + 1, 0, none⟩) 1 1] w3 (fun e w' => ∃ v, e = .returned (.tuple #[v, .int .i64 0, .int .i64 22]) ∧ Below w3.heap.size w3 w') :=
    (Scan_any 0 0 [z256] _ hsec (by simp) (HK.out.below hbd3 HK.out.size)).mono (fun e w' h => by
      obtain ⟨v, h1, h2, h3⟩ := h
      rw [z256_scan] at h1
      exact ⟨v, h1, h3⟩)
  have hw3' : (w2.alloc (.cells (bvs z256).toArray 5)).alloc (.cells #[.slice (some ⟨w2.heap.size, 0, none⟩) 256 256] 22) = w3 := by rw [hw3a]; exact hw3
  have HSCAN := Lib.hid hscan
  have HW3 := Lib.hid hw3'
  have HB3 := Lib.hid hbd3
  have HO3 := Lib.hid hO3
  clear hw3a hb3a hn3a hs3a hw3 hw3' hb3 hn3 hbz hsec hbd3 hO3 hscan
  go_wp2_with fail
  rw [HW3.out]
  refine HSCAN.out.mono ?_
  rintro e w4 ⟨sv, rfl, hb4⟩
  have hb4' := HB3.out.trans (hb4.mono HB3.out.size)
  have hsecs := (HO3.out.below hb4).secs
  obtain ⟨gg, oo, x0, m0, cc0, rfl, hc0, hs0⟩ := hsecs.get (i := 0) (by simp)
  obtain ⟨g1, o1, x1, m1, cc1, e1, hc1, hs1⟩ := hsecs.get (i := 1) (by simp)
  cases e1
  have hm0 : m0 = 256 := by rw [hs0.at_.len.1]; exact encL_length _
  have hm1 : m1 = 256 := by rw [hs1.at_.len.1]; exact encL_length _
  subst hm0
  subst hm1
  have hl1 : ([encL (partOf r300 0), encL (partOf r300 1)][1]'(by simp)).length = 256 := encL_length _
  obtain ⟨g27, o27, rfl, h27⟩ := hs1.at_.get (i := 27) (by rw [hl1]; omega)
  obtain ⟨g31, o31, e31, h31⟩ := hs1.at_.get (i := 31) (by rw [hl1]; omega)
  cases e31
  have v27 : ([encL (partOf r300 0), encL (partOf r300 1)][1]'(by simp))[27]'(by rw [hl1]; omega) = 1 := by
    have := r300_27
    rw [List.getD_eq_getElem?_getD, List.getElem?_eq_getElem (by rw [encL_length]; omega)] at this
    exact this
  have v31 : ([encL (partOf r300 0), encL (partOf r300 1)][1]'(by simp))[31]'(by rw [hl1]; omega) = 76 := by
    have := r300_31
    rw [List.getD_eq_getElem?_getD, List.getElem?_eq_getElem (by rw [encL_length]; omega)] at this
    exact this
  rw [v27] at h27
  rw [v31] at h31
  have h27' : w4.cell? ⟨g27, o27 + 27, none⟩ = some (.int .u8 1) := h27
  have h31' : w4.cell? ⟨g27, o27 + 31, none⟩ = some (.int .u8 76) := h31
  rw [Nat.add_zero] at hc0
  obtain ⟨w5, hw5⟩ : ∃ w5, w4.alloc (.cells (bvs [0, 0, 0, 0, 0]).toArray 5) = w5 := ⟨_, rfl⟩
  have hb5 : Below w4.heap.size w4 w5 := hw5 ▸ (Below.refl _ _).alloc (Nat.le_refl _) _
  have hn5 : w5.heap[w4.heap.size]? = some (.cells (bvs [0, 0, 0, 0, 0]).toArray 5 (0, 0)) := by rw [← hw5]; exact heap_alloc_new _ _
  have hbl1 : Calls Tryd.prog 42 #[.slice (some ⟨w4.heap.size, 0, none⟩) 5 5] w5 (fun e w' => e = .returned (.bool true) ∧ w5 = w') := (IsBlank_any (block_whole hn5 rfl).at_ (by simp)).mono (fun e w' h => h)
  obtain ⟨w6, hw6⟩ : ∃ w6, w5.alloc (.cells #[.int .u8 0, .int .u8 1] 5) = w6 := ⟨_, rfl⟩
  have hb6 : Below w5.heap.size w5 w6 := hw6 ▸ (Below.refl _ _).alloc (Nat.le_refl _) _
  have hn6 : w6.heap[w5.heap.size]? = some (.cells (bvs [0, 1]).toArray 5 (0, 0)) := by rw [← hw6]; exact heap_alloc_new _ _
  have hbl2 : Calls Tryd.prog 42 #[.slice (some ⟨w5.heap.size, 0, none⟩) 2 2] w6 (fun e w' => e = .returned (.bool false) ∧ w6 = w') := (IsBlank_any (block_whole hn6 rfl).at_ (by simp)).mono (fun e w' h => h)
  have HBL1 := Lib.hid hbl1
  have HBL2 := Lib.hid hbl2
  have HW5 := Lib.hid hw5
  have HW6 := Lib.hid hw6
  have hend := (hb4'.trans (hb5.mono hb4'.size)).trans (hb6.mono (Nat.le_trans hb4'.size hb5.size))
  have HEND := Lib.hid hend
  clear hbl1 hbl2 hw5 hw6 hb5 hb6 hn5 hn6 hend hb4 hb4' hsecs hs0 hs1 hl1 v27 v31 h27 h31
  go_wp2_with fail
  rw [HW5.out]
  refine HBL1.out.mono ?_
  rintro e w' ⟨rfl, rfl⟩
  go_wp2_with fail
  rw [HW6.out]
  refine HBL2.out.mono ?_
  rintro e w' ⟨rfl, rfl⟩
  go_wp2_with fail
  go_ret
  exact ⟨rfl, HEND.out⟩

end Go.Proofs.YtloaenknhkfaeaaDoor
