/- The examples on which the laws insist. -/
import Derived.Test.YtjjanjhoaiannaaTh13
namespace Go.Proofs.Ytjjanjhoaiannaa
open Go.Shelf Go.RowKit Go.Lib Go.Sort
set_option linter.unusedVariables false
set_option linter.unusedSimpArgs false

def idN (n : UInt8) : IdB := ⟨n :: List.replicate 31 0, by simp⟩
def kRow (a : IdB) (d : Int) (v : Value) (h : v.oneCell' = true) (M : List IdB) : RowV := ⟨a, List.replicate 16 0, by simp, d, .slice none 0 0, rfl, v, h, z32, M⟩
def rowR (a : IdB) (d : Int) (b n : Nat) (M : List IdB) : RowV := kRow a d (.slice (some ⟨b, 0, none⟩) n n) rfl M
def row0 (a : IdB) (d : Int) : RowV := kRow a d (.slice none 0 0) rfl []
set_option maxRecDepth 100000 in
theorem build_id (n : UInt8) (w : World) : (Instr.build 31 #[(0, .int .u8 (n.toNat : Int))]).run Try.prog w = .ok (.agg (bvs (idN n).1).toArray) w := by
  kernel_rfl
theorem build_rowR (a : IdB) (d : Int) (b n : Nat) (M : List IdB) (w : World) : (Instr.build 36 #[(0, .agg (bvs a.1).toArray), (2, .int .i64 d), (4, .slice (some ⟨b, 0, none⟩) n n)]).run Try.prog w = .ok (.agg (rowR a d b n M).cells.toArray) w := by
  obtain ⟨l, hl⟩ := a
  obtain ⟨x0, x1, x2, x3, x4, x5, x6, x7, x8, x9, x10, x11, x12, x13, x14, x15, x16, x17, x18, x19, x20, x21, x22, x23, x24, x25, x26, x27, x28, x29, x30, x31, rfl⟩ := list32 hl
  kernel_rfl
theorem build_row0 (a : IdB) (d : Int) (w : World) : (Instr.build 36 #[(0, .agg (bvs a.1).toArray), (2, .int .i64 d)]).run Try.prog w = .ok (.agg (row0 a d).cells.toArray) w := by
  obtain ⟨l, hl⟩ := a
  obtain ⟨x0, x1, x2, x3, x4, x5, x6, x7, x8, x9, x10, x11, x12, x13, x14, x15, x16, x17, x18, x19, x20, x21, x22, x23, x24, x25, x26, x27, x28, x29, x30, x31, rfl⟩ := list32 hl
  kernel_rfl
theorem build_node3 (a : IdB) (r p : Int) (w : World) : (Instr.build 57 #[(0, .agg (bvs a.1).toArray), (1, .int .i64 r), (2, .int .i64 p)]).run Try.prog w = .ok (.agg (NodeV.cells ⟨a, r, p, 0⟩).toArray) w := by
  obtain ⟨l, hl⟩ := a
  obtain ⟨x0, x1, x2, x3, x4, x5, x6, x7, x8, x9, x10, x11, x12, x13, x14, x15, x16, x17, x18, x19, x20, x21, x22, x23, x24, x25, x26, x27, x28, x29, x30, x31, rfl⟩ := list32 hl
  kernel_rfl
/-! ### what the examples amount to -/
def idxI (ids : List IdB) (x : IdB) : Int := match ids.findIdx? (fun r => decide (r = x)) with
  | some i => (i : Int)
  | none => -1
theorem idxL_ids (L : List RowV) : idxL L = idxI (L.map (·.id)) := by
  funext x
  unfold idxL idxI
  rw [List.findIdx?_map]
  rfl
def kS1 : List Tw := [⟨idN 1, 1, []⟩, ⟨idN 2, 2, [idN 1]⟩, ⟨idN 3, 3, [idN 1, idN 9]⟩]
def kS2 : List Tw := [⟨idN 3, 3, [idN 1, idN 9]⟩]
def kF1 : List NodeV := [⟨idN 1, 1, -1, 0⟩, ⟨idN 2, 2, 0, 1⟩, ⟨idN 9, -1, 0, 1⟩, ⟨idN 3, 0, 2, 2⟩]
def kF2 : List NodeV := [⟨idN 9, -1, -1, 0⟩, ⟨idN 3, 0, 0, 1⟩]
def kL1 (b1 b2 : Nat) : List RowV := [rowR (idN 3) 3 b1 2 [idN 1, idN 9], row0 (idN 1) 1, rowR (idN 2) 2 b2 1 [idN 1]]
def kL2 (b1 : Nat) : List RowV := [rowR (idN 3) 3 b1 2 [idN 1, idN 9]]
set_option maxRecDepth 100000 in
theorem kF1_eq : forestS kS1 (pM (isArt kS1) kS1) (idxI [idN 3, idN 1, idN 2]) = kF1 := by decide +kernel
set_option maxRecDepth 100000 in
theorem kF2_eq : forestS kS2 (pM (isArt kS2) kS2) (idxI [idN 3]) = kF2 := by decide +kernel
set_option maxRecDepth 100000 in
theorem kF1_check : checkP kF1 = 0 := by decide +kernel
set_option maxRecDepth 100000 in
theorem kS1_ac : ∀ y ∈ univ kS1, it (pM (isArt kS1) kS1) 3 y = none := by decide +kernel
set_option maxRecDepth 100000 in
theorem kS2_ac : ∀ y ∈ univ kS2, it (pM (isArt kS2) kS2) 2 y = none := by decide +kernel
set_option maxRecDepth 100000 in
theorem kS1_asc : Asc kS1 := by unfold Asc; decide +kernel
theorem kS2_asc : Asc kS2 := List.pairwise_singleton _ _
set_option maxRecDepth 100000 in
theorem kL1_nd (b1 b2 : Nat) : ((kL1 b1 b2).map (·.id)).Nodup := by
  show [idN 3, idN 1, idN 2].Nodup
  decide +kernel
theorem kL2_nd (b1 : Nat) : ((kL2 b1).map (·.id)).Nodup := by
  show [idN 3].Nodup
  simp
theorem kL1_S (b1 b2 : Nat) : arrS (kL1 b1 b2) = kS1 := by
  refine asc_unique ((arrS_perm _).trans ?_) (arrS_asc (kL1_nd b1 b2)) kS1_asc
  show ([⟨idN 3, 3, [idN 1, idN 9]⟩] ++ [⟨idN 1, 1, []⟩, ⟨idN 2, 2, [idN 1]⟩] : List Tw).Perm _
  exact List.perm_append_comm
theorem kL2_S (b1 : Nat) : arrS (kL2 b1) = kS2 := asc_unique (arrS_perm _) (arrS_asc (kL2_nd b1)) kS2_asc
theorem kL1_F (b1 b2 : Nat) (c : Par) (h : IsCut (pM (isArt (arrS (kL1 b1 b2))) (arrS (kL1 b1 b2))) (arrS (kL1 b1 b2)) c) : forestV (kL1 b1 b2) c = kF1 := by
  rw [forestV_eq (kL1_nd b1 b2), idxL_ids, kL1_S]
  rw [kL1_S] at h
  rw [cut_none h (acyclic_of 3 kS1_ac)]
  exact kF1_eq
theorem kL2_F (b1 : Nat) (c : Par) (h : IsCut (pM (isArt (arrS (kL2 b1))) (arrS (kL2 b1))) (arrS (kL2 b1)) c) : forestV (kL2 b1) c = kF2 := by
  rw [forestV_eq (kL2_nd b1), idxL_ids, kL2_S]
  rw [kL2_S] at h
  rw [cut_none h (acyclic_of 2 kS2_ac)]
  exact kF2_eq
end Go.Proofs.Ytjjanjhoaiannaa
