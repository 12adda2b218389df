/- The examples on which the laws insist. -/
import Derived.Test.YthfinofmbnfijaaTh13
namespace Go.Proofs.Ythfinofmbnfijaa
open Go.Shelf Go.RowKit Go.Lib Go.Sort
set_option linter.unusedVariables false
set_option linter.unusedSimpArgs false

def idN (n : UInt8) : IdB := ⟨n :: List.replicate 31 0, by simp⟩
def kRow (a : IdB) (d : Int) (v : Value) (h : v.oneCell' = true) (M : List IdB) : RowV := ⟨a, List.replicate 16 0, by simp, d, .slice none 0 0, rfl, v, h, z32, M⟩
def rowR (a : IdB) (d : Int) (b n : Nat) (M : List IdB) : RowV := kRow a d (.slice (some ⟨b, 0, none⟩) n n) rfl M
def row0 (a : IdB) (d : Int) : RowV := kRow a d (.slice none 0 0) rfl []
set_option maxRecDepth 100000 in
theorem build_id (n : UInt8) (w : World) : (Instr.build 35 #[(0, .int .u8 (n.toNat : Int))]).run Try.prog w = .ok (.agg (bvs (idN n).1).toArray) w := by
  kernel_rfl
theorem build_rowR (a : IdB) (d : Int) (b n : Nat) (M : List IdB) (w : World) : (Instr.build 43 #[(0, .agg (bvs a.1).toArray), (2, .int .i64 d), (4, .slice (some ⟨b, 0, none⟩) n n)]).run Try.prog w = .ok (.agg (rowR a d b n M).cells.toArray) w := by
  obtain ⟨l, hl⟩ := a
  obtain ⟨x0, x1, x2, x3, x4, x5, x6, x7, x8, x9, x10, x11, x12, x13, x14, x15, x16, x17, x18, x19, x20, x21, x22, x23, x24, x25, x26, x27, x28, x29, x30, x31, rfl⟩ := list32 hl
  kernel_rfl
theorem build_row0 (a : IdB) (d : Int) (w : World) : (Instr.build 43 #[(0, .agg (bvs a.1).toArray), (2, .int .i64 d)]).run Try.prog w = .ok (.agg (row0 a d).cells.toArray) w := by
  obtain ⟨l, hl⟩ := a
  obtain ⟨x0, x1, x2, x3, x4, x5, x6, x7, x8, x9, x10, x11, x12, x13, x14, x15, x16, x17, x18, x19, x20, x21, x22, x23, x24, x25, x26, x27, x28, x29, x30, x31, rfl⟩ := list32 hl
  kernel_rfl
theorem build_node3 (a : IdB) (r p : Int) (w : World) : (Instr.build 37 #[(0, .agg (bvs a.1).toArray), (1, .int .i64 r), (2, .int .i64 p)]).run Try.prog w = .ok (.agg (NodeV.cells ⟨a, r, p, 0⟩).toArray) w := by
  obtain ⟨l, hl⟩ := a
  obtain ⟨x0, x1, x2, x3, x4, x5, x6, x7, x8, x9, x10, x11, x12, x13, x14, x15, x16, x17, x18, x19, x20, x21, x22, x23, x24, x25, x26, x27, x28, x29, x30, x31, rfl⟩ := list32 hl
  kernel_rfl
/-! ### what the examples amount to -/
def idxI (ids : List IdB) (x : IdB) : Int := match ids.findIdx? (fun r => decide (r = x)) with
  | some i => (i : Int)
  | none => -1
theorem idxL_ids (L : List RowV) : idxL L = idxI (L.map (·.id)) := by
  funext x
  unfold idxL idxI
  rw [List.findIdx?_map]
  rfl
def kS1 : List Tw := [⟨idN 1, 1, []⟩, ⟨idN 2, 2, [idN 1]⟩, ⟨idN 3, 3, [idN 1, idN 9]⟩]
def kS2 : List Tw := [⟨idN 3, 3, [idN 1, idN 9]⟩]
def kF1 : List NodeV := [⟨idN 1, 1, -1, 0⟩, ⟨idN 2, 2, 0, 1⟩, ⟨idN 9, -1, 0, 1⟩, ⟨idN 3, 0, 2, 2⟩]
def kF2 : List NodeV := [⟨idN 9, -1, -1, 0⟩, ⟨idN 3, 0, 0, 1⟩]
def kL1 (b1 b2 : Nat) : List RowV := [rowR (idN 3) 3 b1 2 [idN 1, idN 9], row0 (idN 1) 1, rowR (idN 2) 2 b2 1 [idN 1]]
def kL2 (b1 : Nat) : List RowV := [rowR (idN 3) 3 b1 2 [idN 1, idN 9]]
set_option maxRecDepth 100000 in
theorem kF1_eq : forestS kS1 (pM (isArt kS1) kS1) (idxI [idN 3, idN 1, idN 2]) = kF1 := by decide +kernel
set_option maxRecDepth 100000 in
theorem kF2_eq : forestS kS2 (pM (isArt kS2) kS2) (idxI [idN 3]) = kF2 := by decide +kernel
set_option maxRecDepth 100000 in
theorem kF1_check : checkP kF1 = 0 := by decide +kernel
set_option maxRecDepth 100000 in
theorem kS1_ac : ∀ y ∈ univ kS1, it (pM (isArt kS1) kS1) 3 y = none := by decide +kernel
set_option maxRecDepth 100000 in
theorem kS2_ac : ∀ y ∈ univ kS2, it (pM (isArt kS2) kS2) 2 y = none := by decide +kernel
set_option maxRecDepth 100000 in
theorem kS1_asc : Asc kS1 := by unfold Asc; decide +kernel
theorem kS2_asc : Asc kS2 := List.pairwise_singleton _ _
set_option maxRecDepth 100000 in
theorem kL1_nd (b1 b2 : Nat) : ((kL1 b1 b2).map (·.id)).Nodup := by
  show [idN 3, idN 1, idN 2].Nodup
  decide +kernel
theorem kL2_nd (b1 : Nat) : ((kL2 b1).map (·.id)).Nodup := by
  show [idN 3].Nodup
  simp
theorem kL1_S (b1 b2 : Nat) : arrS (kL1 b1 b2) = kS1 := by
  refine asc_unique ((arrS_perm _).trans ?_) (arrS_asc (kL1_nd b1 b2)) kS1_asc
  show ([⟨idN 3, 3, [idN 1, idN 9]⟩] ++ [⟨idN 1, 1, []⟩, ⟨idN 2, 2, [idN 1]⟩] : List Tw).Perm _
  exact List.perm_append_comm
theorem kL2_S (b1 : Nat) : arrS (kL2 b1) = kS2 := asc_unique (arrS_perm _) (arrS_asc (kL2_nd b1)) kS2_asc
theorem kL1_F (b1 b2 : Nat) (c : Par) (h : IsCut (pM (isArt (arrS (kL1 b1 b2))) (arrS (kL1 b1 b2))) (arrS (kL1 b1 b2)) c) : forestV (kL1 b1 b2) c = kF1 := by
  rw [forestV_eq (kL1_nd b1 b2), idxL_ids, kL1_S]
  rw [kL1_S] at h
  rw [cut_none h (acyclic_of 3 kS1_ac)]
  exact kF1_eq
theorem kL2_F (b1 : Nat) (c : Par) (h : IsCut (pM (isArt (arrS (kL2 b1))) (arrS (kL2 b1))) (arrS (kL2 b1)) c) : forestV (kL2 b1) c = kF2 := by
  rw [forestV_eq (kL2_nd b1), idxL_ids, kL2_S]
  rw [kL2_S] at h
  rw [cut_none h (acyclic_of 2 kS2_ac)]
  exact kF2_eq
set_option maxRecDepth 100000 in
set_option maxHeartbeats 2000000 in
theorem known_any {w : World} : Calls Try.prog 18 #[] w fun e w' => e = .returned (.bool true) ∧ Below w.heap.size w w' := by
  obtain ⟨i1, hi1⟩ : ∃ i, idN 1 = i := ⟨_, rfl⟩
  obtain ⟨i2, hi2⟩ : ∃ i, idN 2 = i := ⟨_, rfl⟩
  obtain ⟨i3, hi3⟩ : ∃ i, idN 3 = i := ⟨_, rfl⟩
  obtain ⟨i9, hi9⟩ : ∃ i, idN 9 = i := ⟨_, rfl⟩
  have HI1 := Lib.hid (fun w => hi1 ▸ build_id 1 w)
  have HI2 := Lib.hid (fun w => hi2 ▸ build_id 2 w)
  have HI3 := Lib.hid (fun w => hi3 ▸ build_id 3 w)
  have HI9 := Lib.hid (fun w => hi9 ▸ build_id 9 w)
  have HL1 := Lib.hid (show ∀ b1 b2, kL1 b1 b2 = [rowR i3 3 b1 2 [i1, i9], row0 i1 1, rowR i2 2 b2 1 [i1]] from fun b1 b2 => by unfold kL1; rw [hi1, hi2, hi3, hi9])
  have HL2 := Lib.hid (show ∀ b1, kL2 b1 = [rowR i3 3 b1 2 [i1, i9]] from fun b1 => by unfold kL2; rw [hi1, hi3, hi9])
  have HF1 := Lib.hid (show kF1 = [⟨i1, 1, -1, 0⟩, ⟨i2, 2, 0, 1⟩, ⟨i9, -1, 0, 1⟩, ⟨i3, 0, 2, 2⟩] by unfold kF1; rw [hi1, hi2, hi3, hi9])
  have HF2 := Lib.hid (show kF2 = [⟨i9, -1, -1, 0⟩, ⟨i3, 0, 0, 1⟩] by unfold kF2; rw [hi3, hi9])
  clear hi1 hi2 hi3 hi9
  go_enter Try.func18, Try.ntmps18
  go_wp2_with (refine wpList_buildV rfl (some 9) rfl 35 _ rfl [(0, .int .u8 1)] rfl (.agg (bvs i1.1).toArray) (HI1.out _) ?_; refine Stop.on ?_)
  refine Stop.go ?_
  try simp only [Act.put, List.setIfInBounds_toArray, List.set_cons_zero, List.set_cons_succ]
  go_wp2_with (refine wpList_buildV rfl (some 10) rfl 35 _ rfl [(0, .int .u8 2)] rfl (.agg (bvs i2.1).toArray) (HI2.out _) ?_; refine Stop.on ?_)
  refine Stop.go ?_
  try simp only [Act.put, List.setIfInBounds_toArray, List.set_cons_zero, List.set_cons_succ]
  go_wp2_with (refine wpList_buildV rfl (some 11) rfl 35 _ rfl [(0, .int .u8 3)] rfl (.agg (bvs i3.1).toArray) (HI3.out _) ?_; refine Stop.on ?_)
  refine Stop.go ?_
  try simp only [Act.put, List.setIfInBounds_toArray, List.set_cons_zero, List.set_cons_succ]
  go_wp2_with (refine wpList_buildV rfl (some 12) rfl 35 _ rfl [(0, .int .u8 9)] rfl (.agg (bvs i9.1).toArray) (HI9.out _) ?_; refine Stop.on ?_)
  refine Stop.go ?_
  try simp only [Act.put, List.setIfInBounds_toArray, List.set_cons_zero, List.set_cons_succ]
  go_wp2_with (refine wpList_newV rfl (some 1) rfl 35 rfl #[.int .u8 0, .int .u8 0, .int .u8 0, .int .u8 0, .int .u8 0, .int .u8 0, .int .u8 0, .int .u8 0, .int .u8 0, .int .u8 0, .int .u8 0, .int .u8 0, .int .u8 0, .int .u8 0, .int .u8 0, .int .u8 0, .int .u8 0, .int .u8 0, .int .u8 0, .int .u8 0, .int .u8 0, .int .u8 0, .int .u8 0, .int .u8 0, .int .u8 0, .int .u8 0, .int .u8 0, .int .u8 0, .int .u8 0, .int .u8 0, .int .u8 0, .int .u8 0] 32 (by kernel_rfl) ?_; refine Stop.on ?_)
  refine Stop.go ?_
  try simp only [Act.put, List.setIfInBounds_toArray, List.set_cons_zero, List.set_cons_succ]
  intro wa1 x b s
  try simp only [Act.put, List.setIfInBounds_toArray, List.set_cons_zero, List.set_cons_succ]
  obtain ⟨A1, hA⟩ : ∃ A, w.heap.size = A := ⟨_, rfl⟩
  rw [hA] at x ⊢
  have X1 := Lib.hid x
  have HB := Lib.hid b
  have S1 := Lib.hid (show A1 + 1 = wa1.heap.size ∧ A1 = w.heap.size by omega)
  clear x b s hA
  go_wp2_with (refine wpList_newV rfl (some 2) rfl 35 rfl #[.int .u8 0, .int .u8 0, .int .u8 0, .int .u8 0, .int .u8 0, .int .u8 0, .int .u8 0, .int .u8 0, .int .u8 0, .int .u8 0, .int .u8 0, .int .u8 0, .int .u8 0, .int .u8 0, .int .u8 0, .int .u8 0, .int .u8 0, .int .u8 0, .int .u8 0, .int .u8 0, .int .u8 0, .int .u8 0, .int .u8 0, .int .u8 0, .int .u8 0, .int .u8 0, .int .u8 0, .int .u8 0, .int .u8 0, .int .u8 0, .int .u8 0, .int .u8 0] 32 (by kernel_rfl) ?_; refine Stop.on ?_)
  refine Stop.go ?_
  try simp only [Act.put, List.setIfInBounds_toArray, List.set_cons_zero, List.set_cons_succ]
  intro wa2 x b s
  try simp only [Act.put, List.setIfInBounds_toArray, List.set_cons_zero, List.set_cons_succ]
  obtain ⟨A2, hA⟩ : ∃ A, wa1.heap.size = A := ⟨_, rfl⟩
  rw [hA] at x ⊢
  replace X1 := Lib.hid ((b.block A1 (Array.getElem?_eq_some_iff.1 X1.out).1).trans X1.out)
  have X2 := Lib.hid x
  replace HB := Lib.hid (HB.out.trans (b.mono HB.out.size))
  have S2 := Lib.hid (show A2 + 1 = wa2.heap.size ∧ A2 = wa1.heap.size by omega)
  clear x b s hA
  go_wp2_with (refine wpList_newV rfl (some 3) rfl 35 rfl #[.int .u8 0, .int .u8 0, .int .u8 0, .int .u8 0, .int .u8 0, .int .u8 0, .int .u8 0, .int .u8 0, .int .u8 0, .int .u8 0, .int .u8 0, .int .u8 0, .int .u8 0, .int .u8 0, .int .u8 0, .int .u8 0, .int .u8 0, .int .u8 0, .int .u8 0, .int .u8 0, .int .u8 0, .int .u8 0, .int .u8 0, .int .u8 0, .int .u8 0, .int .u8 0, .int .u8 0, .int .u8 0, .int .u8 0, .int .u8 0, .int .u8 0, .int .u8 0] 32 (by kernel_rfl) ?_; refine Stop.on ?_)
  refine Stop.go ?_
  try simp only [Act.put, List.setIfInBounds_toArray, List.set_cons_zero, List.set_cons_succ]
  intro wa3 x b s
  try simp only [Act.put, List.setIfInBounds_toArray, List.set_cons_zero, List.set_cons_succ]
  obtain ⟨A3, hA⟩ : ∃ A, wa2.heap.size = A := ⟨_, rfl⟩
  rw [hA] at x ⊢
  replace X1 := Lib.hid ((b.block A1 (Array.getElem?_eq_some_iff.1 X1.out).1).trans X1.out)
  replace X2 := Lib.hid ((b.block A2 (Array.getElem?_eq_some_iff.1 X2.out).1).trans X2.out)
  have X3 := Lib.hid x
  replace HB := Lib.hid (HB.out.trans (b.mono HB.out.size))
  have S3 := Lib.hid (show A3 + 1 = wa3.heap.size ∧ A3 = wa2.heap.size by omega)
  clear x b s hA
  go_wp2_with (refine wpList_newV rfl (some 4) rfl 35 rfl #[.int .u8 0, .int .u8 0, .int .u8 0, .int .u8 0, .int .u8 0, .int .u8 0, .int .u8 0, .int .u8 0, .int .u8 0, .int .u8 0, .int .u8 0, .int .u8 0, .int .u8 0, .int .u8 0, .int .u8 0, .int .u8 0, .int .u8 0, .int .u8 0, .int .u8 0, .int .u8 0, .int .u8 0, .int .u8 0, .int .u8 0, .int .u8 0, .int .u8 0, .int .u8 0, .int .u8 0, .int .u8 0, .int .u8 0, .int .u8 0, .int .u8 0, .int .u8 0] 32 (by kernel_rfl) ?_; refine Stop.on ?_)
  refine Stop.go ?_
  try simp only [Act.put, List.setIfInBounds_toArray, List.set_cons_zero, List.set_cons_succ]
  intro wa4 x b s
  try simp only [Act.put, List.setIfInBounds_toArray, List.set_cons_zero, List.set_cons_succ]
  obtain ⟨A4, hA⟩ : ∃ A, wa3.heap.size = A := ⟨_, rfl⟩
  rw [hA] at x ⊢
  replace X1 := Lib.hid ((b.block A1 (Array.getElem?_eq_some_iff.1 X1.out).1).trans X1.out)
  replace X2 := Lib.hid ((b.block A2 (Array.getElem?_eq_some_iff.1 X2.out).1).trans X2.out)
  replace X3 := Lib.hid ((b.block A3 (Array.getElem?_eq_some_iff.1 X3.out).1).trans X3.out)
  have X4 := Lib.hid x
  replace HB := Lib.hid (HB.out.trans (b.mono HB.out.size))
  have S4 := Lib.hid (show A4 + 1 = wa4.heap.size ∧ A4 = wa3.heap.size by omega)
  clear x b s hA
  have SA := Lib.hid (show w.heap.size = A1 ∧ A2 = A1 + 1 ∧ A3 = A1 + 2 ∧ A4 = A1 + 3 by have := S1.out; have := S2.out; have := S3.out; have := S4.out; omega)
  clear S1 S2 S3 S4
  go_wp2_with (refine wpList_putV rfl rfl 35 (.tmp 1) (.tmp 9) rfl A1 (bvs i1.1).toArray rfl rfl 35 _ X1.out (sizeIdA i1) (zsId i1) (all_oneCell_toArray bvs_oneCell) ?_; refine Stop.on ?_)
  refine Stop.go ?_
  try simp only [Act.put, List.setIfInBounds_toArray, List.set_cons_zero, List.set_cons_succ]
  intro wp1 x c s
  try simp only [Act.put, List.setIfInBounds_toArray, List.set_cons_zero, List.set_cons_succ]
  replace X2 := Lib.hid ((c.block A2 (Array.getElem?_eq_some_iff.1 X2.out).1 (by have := SA.out; omega)).trans X2.out)
  replace X3 := Lib.hid ((c.block A3 (Array.getElem?_eq_some_iff.1 X3.out).1 (by have := SA.out; omega)).trans X3.out)
  replace X4 := Lib.hid ((c.block A4 (Array.getElem?_eq_some_iff.1 X4.out).1 (by have := SA.out; omega)).trans X4.out)
  replace X1 := Lib.hid x
  replace HB := Lib.hid (HB.out.trans (c.below (B := w.heap.size) (fun k e => by have := SA.out; omega) HB.out.size))
  clear x c s
  go_wp2_with (refine wpList_putV rfl rfl 35 (.tmp 2) (.tmp 10) rfl A2 (bvs i2.1).toArray rfl rfl 35 _ X2.out (sizeIdA i2) (zsId i2) (all_oneCell_toArray bvs_oneCell) ?_; refine Stop.on ?_)
  refine Stop.go ?_
  try simp only [Act.put, List.setIfInBounds_toArray, List.set_cons_zero, List.set_cons_succ]
  intro wp2 x c s
  try simp only [Act.put, List.setIfInBounds_toArray, List.set_cons_zero, List.set_cons_succ]
  replace X1 := Lib.hid ((c.block A1 (Array.getElem?_eq_some_iff.1 X1.out).1 (by have := SA.out; omega)).trans X1.out)
  replace X3 := Lib.hid ((c.block A3 (Array.getElem?_eq_some_iff.1 X3.out).1 (by have := SA.out; omega)).trans X3.out)
  replace X4 := Lib.hid ((c.block A4 (Array.getElem?_eq_some_iff.1 X4.out).1 (by have := SA.out; omega)).trans X4.out)
  replace X2 := Lib.hid x
  replace HB := Lib.hid (HB.out.trans (c.below (B := w.heap.size) (fun k e => by have := SA.out; omega) HB.out.size))
  clear x c s
  go_wp2_with (refine wpList_putV rfl rfl 35 (.tmp 3) (.tmp 11) rfl A3 (bvs i3.1).toArray rfl rfl 35 _ X3.out (sizeIdA i3) (zsId i3) (all_oneCell_toArray bvs_oneCell) ?_; refine Stop.on ?_)
  refine Stop.go ?_
  try simp only [Act.put, List.setIfInBounds_toArray, List.set_cons_zero, List.set_cons_succ]
  intro wp3 x c s
  try simp only [Act.put, List.setIfInBounds_toArray, List.set_cons_zero, List.set_cons_succ]
  replace X1 := Lib.hid ((c.block A1 (Array.getElem?_eq_some_iff.1 X1.out).1 (by have := SA.out; omega)).trans X1.out)
  replace X2 := Lib.hid ((c.block A2 (Array.getElem?_eq_some_iff.1 X2.out).1 (by have := SA.out; omega)).trans X2.out)
  replace X4 := Lib.hid ((c.block A4 (Array.getElem?_eq_some_iff.1 X4.out).1 (by have := SA.out; omega)).trans X4.out)
  replace X3 := Lib.hid x
  replace HB := Lib.hid (HB.out.trans (c.below (B := w.heap.size) (fun k e => by have := SA.out; omega) HB.out.size))
  clear x c s
  go_wp2_with (refine wpList_putV rfl rfl 35 (.tmp 4) (.tmp 12) rfl A4 (bvs i9.1).toArray rfl rfl 35 _ X4.out (sizeIdA i9) (zsId i9) (all_oneCell_toArray bvs_oneCell) ?_; refine Stop.on ?_)
  refine Stop.go ?_
  try simp only [Act.put, List.setIfInBounds_toArray, List.set_cons_zero, List.set_cons_succ]
  intro wp4 x c s
  try simp only [Act.put, List.setIfInBounds_toArray, List.set_cons_zero, List.set_cons_succ]
  replace X1 := Lib.hid ((c.block A1 (Array.getElem?_eq_some_iff.1 X1.out).1 (by have := SA.out; omega)).trans X1.out)
  replace X2 := Lib.hid ((c.block A2 (Array.getElem?_eq_some_iff.1 X2.out).1 (by have := SA.out; omega)).trans X2.out)
  replace X3 := Lib.hid ((c.block A3 (Array.getElem?_eq_some_iff.1 X3.out).1 (by have := SA.out; omega)).trans X3.out)
  replace X4 := Lib.hid x
  replace HB := Lib.hid (HB.out.trans (c.below (B := w.heap.size) (fun k e => by have := SA.out; omega) HB.out.size))
  clear x c s
  go_wp2_with (refine wpList_loadV rfl (some 14) rfl 35 (.tmp 3) rfl _ rfl 35 (bvs i3.1).toArray (0, 0) _ X3.out Try.underlying35 rfl (sizeIdA i3) ?_; refine Stop.on ?_)
  refine Stop.go ?_
  try simp only [Act.put, List.setIfInBounds_toArray, List.set_cons_zero, List.set_cons_succ]
  go_wp2_with (refine wpList_loadV rfl (some 15) rfl 35 (.tmp 1) rfl _ rfl 35 (bvs i1.1).toArray (0, 0) _ X1.out Try.underlying35 rfl (sizeIdA i1) ?_; refine Stop.on ?_)
  refine Stop.go ?_
  try simp only [Act.put, List.setIfInBounds_toArray, List.set_cons_zero, List.set_cons_succ]
  go_wp2_with (refine wpList_loadV rfl (some 16) rfl 35 (.tmp 4) rfl _ rfl 35 (bvs i9.1).toArray (0, 0) _ X4.out Try.underlying35 rfl (sizeIdA i9) ?_; refine Stop.on ?_)
  refine Stop.go ?_
  try simp only [Act.put, List.setIfInBounds_toArray, List.set_cons_zero, List.set_cons_succ]
  obtain ⟨b1, hb1⟩ : ∃ b, wp4.heap.size = b := ⟨_, rfl⟩
  go_wp2_with (refine wpList_litsV idE rfl (some 17) rfl 2 _ rfl [i1, i9] rfl rfl (by decide) (by decide) ?_; refine Stop.on ?_)
  refine Stop.go ?_
  try simp only [Act.put, List.setIfInBounds_toArray, List.set_cons_zero, List.set_cons_succ]
  intro wc1 x b s
  try simp only [Act.put, List.setIfInBounds_toArray, List.set_cons_zero, List.set_cons_succ]
  replace X1 := Lib.hid ((b.block A1 (Array.getElem?_eq_some_iff.1 X1.out).1).trans X1.out)
  replace X2 := Lib.hid ((b.block A2 (Array.getElem?_eq_some_iff.1 X2.out).1).trans X2.out)
  replace X3 := Lib.hid ((b.block A3 (Array.getElem?_eq_some_iff.1 X3.out).1).trans X3.out)
  replace X4 := Lib.hid ((b.block A4 (Array.getElem?_eq_some_iff.1 X4.out).1).trans X4.out)
  replace HB := Lib.hid (HB.out.trans (b.mono HB.out.size))
  have HR1 := Lib.hid (list_of_block idE (M := [i1, i9]) x (by unfold maxLen; simp))
  clear x b s
  rw [hb1] at HR1 ⊢
  clear hb1
  go_wp2_with (refine wpList_buildV rfl (some 18) rfl 43 _ rfl [(0, .agg (bvs i3.1).toArray), (2, .int .i64 3), (4, .slice (some ⟨b1, 0, none⟩) 2 2)] rfl (.agg (rowR i3 3 b1 2 [i1, i9]).cells.toArray) (build_rowR i3 3 b1 2 [i1, i9] _) ?_; refine Stop.on ?_)
  refine Stop.go ?_
  try simp only [Act.put, List.setIfInBounds_toArray, List.set_cons_zero, List.set_cons_succ]
  go_wp2_with (refine wpList_loadV rfl (some 19) rfl 35 (.tmp 1) rfl _ rfl 35 (bvs i1.1).toArray (0, 0) _ X1.out Try.underlying35 rfl (sizeIdA i1) ?_; refine Stop.on ?_)
  refine Stop.go ?_
  try simp only [Act.put, List.setIfInBounds_toArray, List.set_cons_zero, List.set_cons_succ]
  go_wp2_with (refine wpList_buildV rfl (some 20) rfl 43 _ rfl [(0, .agg (bvs i1.1).toArray), (2, .int .i64 1)] rfl (.agg (row0 i1 1).cells.toArray) (build_row0 i1 1 _) ?_; refine Stop.on ?_)
  refine Stop.go ?_
  try simp only [Act.put, List.setIfInBounds_toArray, List.set_cons_zero, List.set_cons_succ]
  go_wp2_with (refine wpList_loadV rfl (some 21) rfl 35 (.tmp 2) rfl _ rfl 35 (bvs i2.1).toArray (0, 0) _ X2.out Try.underlying35 rfl (sizeIdA i2) ?_; refine Stop.on ?_)
  refine Stop.go ?_
  try simp only [Act.put, List.setIfInBounds_toArray, List.set_cons_zero, List.set_cons_succ]
  go_wp2_with (refine wpList_loadV rfl (some 22) rfl 35 (.tmp 1) rfl _ rfl 35 (bvs i1.1).toArray (0, 0) _ X1.out Try.underlying35 rfl (sizeIdA i1) ?_; refine Stop.on ?_)
  refine Stop.go ?_
  try simp only [Act.put, List.setIfInBounds_toArray, List.set_cons_zero, List.set_cons_succ]
  obtain ⟨b2, hb2⟩ : ∃ b, wc1.heap.size = b := ⟨_, rfl⟩
  go_wp2_with (refine wpList_litsV idE rfl (some 23) rfl 1 _ rfl [i1] rfl rfl (by decide) (by decide) ?_; refine Stop.on ?_)
  refine Stop.go ?_
  try simp only [Act.put, List.setIfInBounds_toArray, List.set_cons_zero, List.set_cons_succ]
  intro wc2 x b s
  try simp only [Act.put, List.setIfInBounds_toArray, List.set_cons_zero, List.set_cons_succ]
  replace X1 := Lib.hid ((b.block A1 (Array.getElem?_eq_some_iff.1 X1.out).1).trans X1.out)
  replace X2 := Lib.hid ((b.block A2 (Array.getElem?_eq_some_iff.1 X2.out).1).trans X2.out)
  replace X3 := Lib.hid ((b.block A3 (Array.getElem?_eq_some_iff.1 X3.out).1).trans X3.out)
  replace X4 := Lib.hid ((b.block A4 (Array.getElem?_eq_some_iff.1 X4.out).1).trans X4.out)
  replace HB := Lib.hid (HB.out.trans (b.mono HB.out.size))
  replace HR1 := Lib.hid (HR1.out.below b)
  have HR2 := Lib.hid (list_of_block idE (M := [i1]) x (by unfold maxLen; simp))
  clear x b s
  rw [hb2] at HR2 ⊢
  clear hb2
  go_wp2_with (refine wpList_buildV rfl (some 24) rfl 43 _ rfl [(0, .agg (bvs i2.1).toArray), (2, .int .i64 2), (4, .slice (some ⟨b2, 0, none⟩) 1 1)] rfl (.agg (rowR i2 2 b2 1 [i1]).cells.toArray) (build_rowR i2 2 b2 1 [i1] _) ?_; refine Stop.on ?_)
  refine Stop.go ?_
  try simp only [Act.put, List.setIfInBounds_toArray, List.set_cons_zero, List.set_cons_succ]
  obtain ⟨r1, hr1⟩ : ∃ r, rowR i3 3 b1 2 [i1, i9] = r := ⟨_, rfl⟩
  obtain ⟨r2, hr2⟩ : ∃ r, row0 i1 1 = r := ⟨_, rfl⟩
  obtain ⟨r3, hr3⟩ : ∃ r, rowR i2 2 b2 1 [i1] = r := ⟨_, rfl⟩
  rw [hr1, hr2, hr3]
  have HRR := Lib.hid (And.intro hr1 (And.intro hr2 hr3))
  clear hr1 hr2 hr3
  go_wp2_with (refine wpList_litsV rowE rfl (some 25) rfl 3 _ rfl [r1, r2, r3] rfl rfl (by decide) (by decide) ?_; refine Stop.on ?_)
  refine Stop.go ?_
  try simp only [Act.put, List.setIfInBounds_toArray, List.set_cons_zero, List.set_cons_succ]
  intro wc3 x b s
  try simp only [Act.put, List.setIfInBounds_toArray, List.set_cons_zero, List.set_cons_succ]
  replace X1 := Lib.hid ((b.block A1 (Array.getElem?_eq_some_iff.1 X1.out).1).trans X1.out)
  replace X2 := Lib.hid ((b.block A2 (Array.getElem?_eq_some_iff.1 X2.out).1).trans X2.out)
  replace X3 := Lib.hid ((b.block A3 (Array.getElem?_eq_some_iff.1 X3.out).1).trans X3.out)
  replace X4 := Lib.hid ((b.block A4 (Array.getElem?_eq_some_iff.1 X4.out).1).trans X4.out)
  replace HB := Lib.hid (HB.out.trans (b.mono HB.out.size))
  replace HR1 := Lib.hid (HR1.out.below b)
  replace HR2 := Lib.hid (HR2.out.below b)
  have HRW := Lib.hid (list_of_block rowE (M := [r1, r2, r3]) x (by unfold maxLen; simp))
  clear x b s
  have HRA := Lib.hid (show RowsAt wc3 (.slice (some ⟨wc2.heap.size, 0, none⟩) 3 3) (kL1 b1 b2) by
    obtain ⟨e1, e2, e3⟩ := HRR.out
    rw [HL1.out, e1, e2, e3]
    refine ⟨HRW.out, fun R hR => ?_⟩
    rcases List.mem_cons.1 hR with rfl | hR
    · rw [← e1]; exact HR1.out
    · rcases List.mem_cons.1 hR with rfl | hR
      · rw [← e2]; exact listAt_nil idE _
      · obtain rfl := List.mem_singleton.1 hR
        rw [← e3]; exact HR2.out)
  clear HRW
  go_wp2_with fail
  refine (Build_any _ _ HRA.out (by show 3 ≤ 100000; decide)).mono ?_
  rintro e wd1 (⟨hno, _, _⟩ | ⟨_, fv, c1, rfl, hcut, hown, hb⟩)
  · exact absurd (kL1_nd b1 b2) hno
  rw [kL1_F b1 b2 c1 hcut] at hown
  have HO1 := Lib.hid hown
  replace X1 := Lib.hid ((hb.block A1 (Array.getElem?_eq_some_iff.1 X1.out).1).trans X1.out)
  replace X2 := Lib.hid ((hb.block A2 (Array.getElem?_eq_some_iff.1 X2.out).1).trans X2.out)
  replace X3 := Lib.hid ((hb.block A3 (Array.getElem?_eq_some_iff.1 X3.out).1).trans X3.out)
  replace X4 := Lib.hid ((hb.block A4 (Array.getElem?_eq_some_iff.1 X4.out).1).trans X4.out)
  replace HB := Lib.hid (HB.out.trans (hb.mono HB.out.size))
  clear hcut hown hb HRA HRR HR1 HR2
  go_wp2_with (refine wpList_loadV rfl (some 30) rfl 35 (.tmp 3) rfl _ rfl 35 (bvs i3.1).toArray (0, 0) _ X3.out Try.underlying35 rfl (sizeIdA i3) ?_; refine Stop.on ?_)
  refine Stop.go ?_
  try simp only [Act.put, List.setIfInBounds_toArray, List.set_cons_zero, List.set_cons_succ]
  go_wp2_with (refine wpList_loadV rfl (some 31) rfl 35 (.tmp 1) rfl _ rfl 35 (bvs i1.1).toArray (0, 0) _ X1.out Try.underlying35 rfl (sizeIdA i1) ?_; refine Stop.on ?_)
  refine Stop.go ?_
  try simp only [Act.put, List.setIfInBounds_toArray, List.set_cons_zero, List.set_cons_succ]
  go_wp2_with (refine wpList_loadV rfl (some 32) rfl 35 (.tmp 4) rfl _ rfl 35 (bvs i9.1).toArray (0, 0) _ X4.out Try.underlying35 rfl (sizeIdA i9) ?_; refine Stop.on ?_)
  refine Stop.go ?_
  try simp only [Act.put, List.setIfInBounds_toArray, List.set_cons_zero, List.set_cons_succ]
  obtain ⟨b3, hb3⟩ : ∃ b, wd1.heap.size = b := ⟨_, rfl⟩
  go_wp2_with (refine wpList_litsV idE rfl (some 33) rfl 2 _ rfl [i1, i9] rfl rfl (by decide) (by decide) ?_; refine Stop.on ?_)
  refine Stop.go ?_
  try simp only [Act.put, List.setIfInBounds_toArray, List.set_cons_zero, List.set_cons_succ]
  intro we1 x b s
  try simp only [Act.put, List.setIfInBounds_toArray, List.set_cons_zero, List.set_cons_succ]
  replace X1 := Lib.hid ((b.block A1 (Array.getElem?_eq_some_iff.1 X1.out).1).trans X1.out)
  replace X2 := Lib.hid ((b.block A2 (Array.getElem?_eq_some_iff.1 X2.out).1).trans X2.out)
  replace X3 := Lib.hid ((b.block A3 (Array.getElem?_eq_some_iff.1 X3.out).1).trans X3.out)
  replace X4 := Lib.hid ((b.block A4 (Array.getElem?_eq_some_iff.1 X4.out).1).trans X4.out)
  replace HB := Lib.hid (HB.out.trans (b.mono HB.out.size))
  have HR1 := Lib.hid (list_of_block idE (M := [i1, i9]) x (by unfold maxLen; simp))
  have QB := Lib.hid b
  clear x b s
  rw [hb3] at HR1 ⊢
  clear hb3
  replace HO1 := Lib.hid (OwnL.base (show OwnL nodeE we1 wc3.heap.size fv kF1 from HO1.out.below QB.out) (Nat.le_refl _))
  go_wp2_with (refine wpList_buildV rfl (some 34) rfl 43 _ rfl [(0, .agg (bvs i3.1).toArray), (2, .int .i64 3), (4, .slice (some ⟨b3, 0, none⟩) 2 2)] rfl (.agg (rowR i3 3 b3 2 [i1, i9]).cells.toArray) (build_rowR i3 3 b3 2 [i1, i9] _) ?_; refine Stop.on ?_)
  refine Stop.go ?_
  try simp only [Act.put, List.setIfInBounds_toArray, List.set_cons_zero, List.set_cons_succ]
  obtain ⟨r4, hr4⟩ : ∃ r, rowR i3 3 b3 2 [i1, i9] = r := ⟨_, rfl⟩
  rw [hr4]
  have HRR := Lib.hid hr4
  clear hr4
  go_wp2_with (refine wpList_litsV rowE rfl (some 35) rfl 1 _ rfl [r4] rfl rfl (by decide) (by decide) ?_; refine Stop.on ?_)
  refine Stop.go ?_
  try simp only [Act.put, List.setIfInBounds_toArray, List.set_cons_zero, List.set_cons_succ]
  intro we2 x b s
  try simp only [Act.put, List.setIfInBounds_toArray, List.set_cons_zero, List.set_cons_succ]
  replace X1 := Lib.hid ((b.block A1 (Array.getElem?_eq_some_iff.1 X1.out).1).trans X1.out)
  replace X2 := Lib.hid ((b.block A2 (Array.getElem?_eq_some_iff.1 X2.out).1).trans X2.out)
  replace X3 := Lib.hid ((b.block A3 (Array.getElem?_eq_some_iff.1 X3.out).1).trans X3.out)
  replace X4 := Lib.hid ((b.block A4 (Array.getElem?_eq_some_iff.1 X4.out).1).trans X4.out)
  replace HB := Lib.hid (HB.out.trans (b.mono HB.out.size))
  replace HR1 := Lib.hid (HR1.out.below b)
  replace HO1 := Lib.hid (HO1.out.below b)
  have HRW := Lib.hid (list_of_block rowE (M := [r4]) x (by unfold maxLen; simp))
  clear x b s
  have HRA := Lib.hid (show RowsAt we2 (.slice (some ⟨we1.heap.size, 0, none⟩) 1 1) (kL2 b3) by
    have e1 := HRR.out
    rw [HL2.out, e1]
    refine ⟨HRW.out, fun R hR => ?_⟩
    obtain rfl := List.mem_singleton.1 hR
    rw [← e1]; exact HR1.out)
  clear HRW
  go_wp2_with fail
  refine (Build_any _ _ HRA.out (by show 1 ≤ 100000; decide)).mono ?_
  rintro e wf (⟨hno, _, _⟩ | ⟨_, gv, c2, rfl, hcut, hown, hb⟩)
  · exact absurd (kL2_nd b3) hno
  rw [kL2_F b3 c2 hcut] at hown
  have HO2 := Lib.hid hown
  replace X1 := Lib.hid ((hb.block A1 (Array.getElem?_eq_some_iff.1 X1.out).1).trans X1.out)
  replace X2 := Lib.hid ((hb.block A2 (Array.getElem?_eq_some_iff.1 X2.out).1).trans X2.out)
  replace X3 := Lib.hid ((hb.block A3 (Array.getElem?_eq_some_iff.1 X3.out).1).trans X3.out)
  replace X4 := Lib.hid ((hb.block A4 (Array.getElem?_eq_some_iff.1 X4.out).1).trans X4.out)
  replace HB := Lib.hid (HB.out.trans (hb.mono HB.out.size))
  replace HO1 := Lib.hid (HO1.out.below hb)
  clear hcut hown hb HRA HRR HR1
  go_wp2_with (refine wpList_met rfl ?_; refine wpList_loadV rfl (some 43) rfl 35 (.tmp 1) rfl _ rfl 35 (bvs i1.1).toArray (0, 0) _ X1.out Try.underlying35 rfl (sizeIdA i1) ?_; refine Stop.on ?_)
  refine Stop.go ?_
  try simp only [Act.put, List.setIfInBounds_toArray, List.set_cons_zero, List.set_cons_succ]
  go_wp2_with (refine wpList_met rfl ?_; refine wpList_buildV rfl (some 44) rfl 37 _ rfl [(0, .agg (bvs i1.1).toArray), (1, .int .i64 (1)), (2, .int .i64 (-1))] rfl (.agg (NodeV.cells ⟨i1, 1, -1, 0⟩).toArray) (build_node3 i1 1 (-1) _) ?_; refine Stop.on ?_)
  refine Stop.go ?_
  try simp only [Act.put, List.setIfInBounds_toArray, List.set_cons_zero, List.set_cons_succ]
  go_wp2_with (refine wpList_met rfl ?_; refine wpList_loadV rfl (some 45) rfl 35 (.tmp 2) rfl _ rfl 35 (bvs i2.1).toArray (0, 0) _ X2.out Try.underlying35 rfl (sizeIdA i2) ?_; refine Stop.on ?_)
  refine Stop.go ?_
  try simp only [Act.put, List.setIfInBounds_toArray, List.set_cons_zero, List.set_cons_succ]
  go_wp2_with (refine wpList_met rfl ?_; refine wpList_buildV rfl (some 46) rfl 37 _ rfl [(0, .agg (bvs i2.1).toArray), (1, .int .i64 (2)), (2, .int .i64 (0)), (3, .int .i64 (1))] rfl (.agg (NodeV.cells ⟨i2, 2, 0, 1⟩).toArray) (build_node ⟨i2, 2, 0, 1⟩ _) ?_; refine Stop.on ?_)
  refine Stop.go ?_
  try simp only [Act.put, List.setIfInBounds_toArray, List.set_cons_zero, List.set_cons_succ]
  go_wp2_with (refine wpList_met rfl ?_; refine wpList_loadV rfl (some 47) rfl 35 (.tmp 4) rfl _ rfl 35 (bvs i9.1).toArray (0, 0) _ X4.out Try.underlying35 rfl (sizeIdA i9) ?_; refine Stop.on ?_)
  refine Stop.go ?_
  try simp only [Act.put, List.setIfInBounds_toArray, List.set_cons_zero, List.set_cons_succ]
  go_wp2_with (refine wpList_met rfl ?_; refine wpList_buildV rfl (some 48) rfl 37 _ rfl [(0, .agg (bvs i9.1).toArray), (1, .int .i64 (-1)), (2, .int .i64 (0)), (3, .int .i64 (1))] rfl (.agg (NodeV.cells ⟨i9, -1, 0, 1⟩).toArray) (build_node ⟨i9, -1, 0, 1⟩ _) ?_; refine Stop.on ?_)
  refine Stop.go ?_
  try simp only [Act.put, List.setIfInBounds_toArray, List.set_cons_zero, List.set_cons_succ]
  go_wp2_with (refine wpList_met rfl ?_; refine wpList_loadV rfl (some 49) rfl 35 (.tmp 3) rfl _ rfl 35 (bvs i3.1).toArray (0, 0) _ X3.out Try.underlying35 rfl (sizeIdA i3) ?_; refine Stop.on ?_)
  refine Stop.go ?_
  try simp only [Act.put, List.setIfInBounds_toArray, List.set_cons_zero, List.set_cons_succ]
  go_wp2_with (refine wpList_met rfl ?_; refine wpList_buildV rfl (some 50) rfl 37 _ rfl [(0, .agg (bvs i3.1).toArray), (1, .int .i64 (0)), (2, .int .i64 (2)), (3, .int .i64 (2))] rfl (.agg (NodeV.cells ⟨i3, 0, 2, 2⟩).toArray) (build_node ⟨i3, 0, 2, 2⟩ _) ?_; refine Stop.on ?_)
  refine Stop.go ?_
  try simp only [Act.put, List.setIfInBounds_toArray, List.set_cons_zero, List.set_cons_succ]
  obtain ⟨n1, hn1⟩ : ∃ n : NodeV, ⟨i1, 1, -1, 0⟩ = n := ⟨_, rfl⟩
  obtain ⟨n2, hn2⟩ : ∃ n : NodeV, ⟨i2, 2, 0, 1⟩ = n := ⟨_, rfl⟩
  obtain ⟨n3, hn3⟩ : ∃ n : NodeV, ⟨i9, -1, 0, 1⟩ = n := ⟨_, rfl⟩
  obtain ⟨n4, hn4⟩ : ∃ n : NodeV, ⟨i3, 0, 2, 2⟩ = n := ⟨_, rfl⟩
  have hf1 := HF1.out
  rw [hn1, hn2, hn3, hn4] at hf1 ⊢
  have HF1' := Lib.hid hf1
  clear hn1 hn2 hn3 hn4 hf1
  go_wp2_with (refine wpList_met rfl ?_; refine wpList_litsV nodeE rfl (some 51) rfl 4 _ rfl [n1, n2, n3, n4] rfl rfl (by decide) (by decide) ?_; refine Stop.on ?_)
  refine Stop.go ?_
  try simp only [Act.put, List.setIfInBounds_toArray, List.set_cons_zero, List.set_cons_succ]
  intro wg x b s
  try simp only [Act.put, List.setIfInBounds_toArray, List.set_cons_zero, List.set_cons_succ]
  replace X1 := Lib.hid ((b.block A1 (Array.getElem?_eq_some_iff.1 X1.out).1).trans X1.out)
  replace X2 := Lib.hid ((b.block A2 (Array.getElem?_eq_some_iff.1 X2.out).1).trans X2.out)
  replace X3 := Lib.hid ((b.block A3 (Array.getElem?_eq_some_iff.1 X3.out).1).trans X3.out)
  replace X4 := Lib.hid ((b.block A4 (Array.getElem?_eq_some_iff.1 X4.out).1).trans X4.out)
  replace HB := Lib.hid (HB.out.trans (b.mono HB.out.size))
  replace HO1 := Lib.hid (HO1.out.below b)
  replace HO2 := Lib.hid (HO2.out.below b)
  have HN4 := Lib.hid (list_of_block nodeE (M := [n1, n2, n3, n4]) x (by unfold maxLen; simp))
  clear x b s
  go_wp2_with fail
  refine (same_any _ _ kF1 kF1 HO1.out.at_ (by rw [HF1'.out]; exact HN4.out) (by decide) (by decide) (fun n hn => ?_) (fun n hn => ?_)).mono ?_
  case refine_1 => unfold kF1 at hn; simp only [List.mem_cons, List.not_mem_nil, or_false] at hn; rcases hn with rfl | rfl | rfl | rfl <;> (unfold NSm; decide)
  case refine_2 => unfold kF1 at hn; simp only [List.mem_cons, List.not_mem_nil, or_false] at hn; rcases hn with rfl | rfl | rfl | rfl <;> (unfold NSm; decide)
  rintro e wh ⟨rfl, hb⟩
  rw [decide_eq_true rfl]
  replace X1 := Lib.hid ((hb.block A1 (Array.getElem?_eq_some_iff.1 X1.out).1).trans X1.out)
  replace X2 := Lib.hid ((hb.block A2 (Array.getElem?_eq_some_iff.1 X2.out).1).trans X2.out)
  replace X3 := Lib.hid ((hb.block A3 (Array.getElem?_eq_some_iff.1 X3.out).1).trans X3.out)
  replace X4 := Lib.hid ((hb.block A4 (Array.getElem?_eq_some_iff.1 X4.out).1).trans X4.out)
  replace HB := Lib.hid (HB.out.trans (hb.mono HB.out.size))
  replace HO1 := Lib.hid (HO1.out.below hb)
  replace HO2 := Lib.hid (HO2.out.below hb)
  clear hb HN4
  go_wp2_with (refine wpList_met rfl ?_; refine wpList_loadV rfl (some 60) rfl 35 (.tmp 4) rfl _ rfl 35 (bvs i9.1).toArray (0, 0) _ X4.out Try.underlying35 rfl (sizeIdA i9) ?_; refine Stop.on ?_)
  refine Stop.go ?_
  try simp only [Act.put, List.setIfInBounds_toArray, List.set_cons_zero, List.set_cons_succ]
  go_wp2_with (refine wpList_met rfl ?_; refine wpList_buildV rfl (some 61) rfl 37 _ rfl [(0, .agg (bvs i9.1).toArray), (1, .int .i64 (-1)), (2, .int .i64 (-1))] rfl (.agg (NodeV.cells ⟨i9, -1, -1, 0⟩).toArray) (build_node3 i9 (-1) (-1) _) ?_; refine Stop.on ?_)
  refine Stop.go ?_
  try simp only [Act.put, List.setIfInBounds_toArray, List.set_cons_zero, List.set_cons_succ]
  go_wp2_with (refine wpList_met rfl ?_; refine wpList_loadV rfl (some 62) rfl 35 (.tmp 3) rfl _ rfl 35 (bvs i3.1).toArray (0, 0) _ X3.out Try.underlying35 rfl (sizeIdA i3) ?_; refine Stop.on ?_)
  refine Stop.go ?_
  try simp only [Act.put, List.setIfInBounds_toArray, List.set_cons_zero, List.set_cons_succ]
  go_wp2_with (refine wpList_met rfl ?_; refine wpList_buildV rfl (some 63) rfl 37 _ rfl [(0, .agg (bvs i3.1).toArray), (1, .int .i64 (0)), (2, .int .i64 (0)), (3, .int .i64 (1))] rfl (.agg (NodeV.cells ⟨i3, 0, 0, 1⟩).toArray) (build_node ⟨i3, 0, 0, 1⟩ _) ?_; refine Stop.on ?_)
  refine Stop.go ?_
  try simp only [Act.put, List.setIfInBounds_toArray, List.set_cons_zero, List.set_cons_succ]
  obtain ⟨n5, hn5⟩ : ∃ n : NodeV, ⟨i9, -1, -1, 0⟩ = n := ⟨_, rfl⟩
  obtain ⟨n6, hn6⟩ : ∃ n : NodeV, ⟨i3, 0, 0, 1⟩ = n := ⟨_, rfl⟩
  have hf2 := HF2.out
  rw [hn5, hn6] at hf2 ⊢
  have HF2' := Lib.hid hf2
  clear hn5 hn6 hf2
  go_wp2_with (refine wpList_met rfl ?_; refine wpList_litsV nodeE rfl (some 64) rfl 2 _ rfl [n5, n6] rfl rfl (by decide) (by decide) ?_; refine Stop.on ?_)
  refine Stop.go ?_
  try simp only [Act.put, List.setIfInBounds_toArray, List.set_cons_zero, List.set_cons_succ]
  intro wi x b s
  try simp only [Act.put, List.setIfInBounds_toArray, List.set_cons_zero, List.set_cons_succ]
  replace X1 := Lib.hid ((b.block A1 (Array.getElem?_eq_some_iff.1 X1.out).1).trans X1.out)
  replace X2 := Lib.hid ((b.block A2 (Array.getElem?_eq_some_iff.1 X2.out).1).trans X2.out)
  replace X3 := Lib.hid ((b.block A3 (Array.getElem?_eq_some_iff.1 X3.out).1).trans X3.out)
  replace X4 := Lib.hid ((b.block A4 (Array.getElem?_eq_some_iff.1 X4.out).1).trans X4.out)
  replace HB := Lib.hid (HB.out.trans (b.mono HB.out.size))
  replace HO1 := Lib.hid (HO1.out.below b)
  replace HO2 := Lib.hid (HO2.out.below b)
  have HN4 := Lib.hid (list_of_block nodeE (M := [n5, n6]) x (by unfold maxLen; simp))
  clear x b s
  go_wp2_with fail
  refine (same_any _ _ kF2 kF2 HO2.out.at_ (by rw [HF2'.out]; exact HN4.out) (by decide) (by decide) (fun n hn => ?_) (fun n hn => ?_)).mono ?_
  case refine_1 => unfold kF2 at hn; simp only [List.mem_cons, List.not_mem_nil, or_false] at hn; rcases hn with rfl | rfl <;> (unfold NSm; decide)
  case refine_2 => unfold kF2 at hn; simp only [List.mem_cons, List.not_mem_nil, or_false] at hn; rcases hn with rfl | rfl <;> (unfold NSm; decide)
  rintro e wj ⟨rfl, hb⟩
  rw [decide_eq_true rfl]
  replace X1 := Lib.hid ((hb.block A1 (Array.getElem?_eq_some_iff.1 X1.out).1).trans X1.out)
  replace X2 := Lib.hid ((hb.block A2 (Array.getElem?_eq_some_iff.1 X2.out).1).trans X2.out)
  replace X3 := Lib.hid ((hb.block A3 (Array.getElem?_eq_some_iff.1 X3.out).1).trans X3.out)
  replace X4 := Lib.hid ((hb.block A4 (Array.getElem?_eq_some_iff.1 X4.out).1).trans X4.out)
  replace HB := Lib.hid (HB.out.trans (hb.mono HB.out.size))
  replace HO1 := Lib.hid (HO1.out.below hb)
  clear hb HN4 HO2
  go_wp2_with fail
  refine (Check_any _ kF1 HO1.out.at_ (by decide)).mono ?_
  rintro e wk ⟨rfl, hb⟩
  rw [kF1_check]
  replace X1 := Lib.hid ((hb.block A1 (Array.getElem?_eq_some_iff.1 X1.out).1).trans X1.out)
  replace X2 := Lib.hid ((hb.block A2 (Array.getElem?_eq_some_iff.1 X2.out).1).trans X2.out)
  replace X3 := Lib.hid ((hb.block A3 (Array.getElem?_eq_some_iff.1 X3.out).1).trans X3.out)
  replace X4 := Lib.hid ((hb.block A4 (Array.getElem?_eq_some_iff.1 X4.out).1).trans X4.out)
  replace HB := Lib.hid (HB.out.trans (hb.mono HB.out.size))
  clear hb HO1
  go_wp2_with fail
  exact bodyPost_ret (v := .bool true) (by simp [results, Try.results18, go_sem]) rfl ⟨rfl, HB.out⟩
end Go.Proofs.Ythfinofmbnfijaa
