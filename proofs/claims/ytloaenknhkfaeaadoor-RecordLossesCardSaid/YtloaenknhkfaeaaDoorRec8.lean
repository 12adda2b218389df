/- Records: DecodePart. -/
import Derived.Test.YtloaenknhkfaeaaDoorRec7
import Derived.Deep.QuietTactic
import Derived.BigQuiet
namespace Go.Proofs.YtloaenknhkfaeaaDoor
open Go.RowKit
set_option linter.unusedVariables false
set_option linter.unusedSimpArgs false

def partVs (p : PartD) (bv : Value) : Array Value := #[.int .i64 p.kind, .int .i64 p.gen, .int .i64 p.num, .int .i64 p.idx, .int .i64 p.cnt, bv]
/-- What both decoders return. -/
def DecPost (w : World) (l : List UInt8) (e : Ending) (w' : World) : Prop :=
  ∃ a c, e = .returned (.tuple #[.agg (partVs (decP l) (.slice a (decP l).bytes.length c)), .int .i64 (decE l)]) ∧
    w'.ownsRow w.heap.size 5 1 (.slice a (decP l).bytes.length c) (decP l).bytes.length (bvs (decP l).bytes) ∧ Below w.heap.size w w'
theorem DecPost.no {w w' : World} {l : List UInt8} {k : Int} (hk : decE l = k) (h0 : k ≠ 0) (hb : Below w.heap.size w w') : DecPost w l (.returned (.tuple #[.agg #[.int .i64 0, .int .i64 0, .int .i64 0, .int .i64 0, .int .i64 0, .slice none 0 0], .int .i64 k])) w' := by
  subst hk
  have h1 := decE_nz h0
  refine ⟨none, 0, ?_, ?_, hb⟩
  · rw [h1]; rfl
  · rw [h1]; exact own_none _ _ _
theorem DecPost.yes {w w' : World} {l : List UInt8} {a : Option Addr} {n c : Nat} (hk : decE l = 0) (hn : (rawP l).bytes.length = n)
    (ho : w'.ownsRow w.heap.size 5 1 (.slice a n c) n (bvs (rawP l).bytes)) (hb : Below w.heap.size w w') :
    DecPost w l (.returned (.tuple #[.agg (partVs (rawP l) (.slice a n c)), .int .i64 0])) w' := by
  subst hn
  have h1 : decP l = rawP l := by unfold decP; rw [if_pos hk]
  refine ⟨a, c, ?_, ?_, hb⟩
  · rw [h1, hk]
  · rw [h1]; exact ho

set_option maxRecDepth 100000 in
set_option maxHeartbeats 2000000 in
theorem DecodePart_len {w : World} (l : List UInt8) (a : Option Addr) (n cap : Nat) (hl : l.length = n) (h : n ≠ 256) :
    Calls Tryd.prog 21 #[.slice a n cap] w (DecPost w l) := by
  by_cases h1 : n < 256
  · have hd : decE l = 4 := by unfold decE; rw [if_pos (by omega)]
    have HD := Lib.hid hd
    clear hd hl h
    go_enter Tryd.func21, Tryd.ntmps21
    go_wp2_with fail
    exact bodyPost_ret (v := .tuple #[.agg #[.int .i64 0, .int .i64 0, .int .i64 0, .int .i64 0, .int .i64 0, .slice none 0 0], .int .i64 4]) (by simp [results, Tryd.results21, go_sem]) rfl (DecPost.no HD.out (by decide) (((Below.refl _ _).alloc (Nat.le_refl _) _).alloc (by simp) _))
  · have h2 : 256 < n := by omega
    have hd : decE l = 5 := by unfold decE; rw [if_neg (by omega), if_pos (by omega)]
    have HD := Lib.hid hd
    have h1' : 256 ≤ n := by omega
    clear hd hl h h1
    go_enter Tryd.func21, Tryd.ntmps21
    go_wp2_with fail
    exact bodyPost_ret (v := .tuple #[.agg #[.int .i64 0, .int .i64 0, .int .i64 0, .int .i64 0, .int .i64 0, .slice none 0 0], .int .i64 5]) (by simp [results, Tryd.results21, go_sem]) rfl (DecPost.no HD.out (by decide) (((Below.refl _ _).alloc (Nat.le_refl _) _).alloc (by simp) _))

set_option maxRecDepth 100000 in
set_option maxHeartbeats 2000000 in
theorem DecodePart_sum {w : World} (l : List UInt8) (g off cap : Nat) {F : Nat → Prop} (hv : BytesAt w F (.slice (some ⟨g, off, none⟩) 256 cap) l) (hl : l.length = 256) (hK : KAt w) (hsum : halfL (l.drop 16) ≠ l.take 16) :
    Calls Tryd.prog 21 #[.slice (some ⟨g, off, none⟩) 256 cap] w (DecPost w l) := by
  have hlc := hv.len
  obtain ⟨-, hcap⟩ := hlc
  have hc16 : ¬ cap = 16 := by omega
  have hc0 : ¬ cap = 0 := by omega
  have hci : (16 : Int) ≤ (cap : Int) := by omega
  obtain ⟨w2, hw2⟩ : ∃ w2, (w.alloc (.cells #[.slice (some ⟨g, off, none⟩) 256 cap] 22)).alloc (.cells #[.int .i64 0, .int .i64 0, .int .i64 0, .int .i64 0, .int .i64 0, .slice none 0 0] 25) = w2 := ⟨_, rfl⟩
  have hb2 : Below w.heap.size w w2 := hw2 ▸ ((Below.refl _ w).alloc (Nat.le_refl _) _).alloc (by simp) _
  have hs2 : w2.heap.size = w.heap.size + 2 := by rw [← hw2]; simp
  have hP2 : w2.heap[w.heap.size]? = some (.cells #[.slice (some ⟨g, off, none⟩) 256 cap] 22 (0, 0)) := by rw [← hw2]; exact (Below.heap_alloc _ _ _ (by simp)).trans (heap_alloc_new _ _)
  have hR2 : w2.heap[w.heap.size + 1]? = some (.cells #[.int .i64 0, .int .i64 0, .int .i64 0, .int .i64 0, .int .i64 0, .slice none 0 0] 25 (0, 0)) := by
    have := heap_alloc_new (w.alloc (.cells #[.slice (some ⟨g, off, none⟩) 256 cap] 22)) (.cells #[.int .i64 0, .int .i64 0, .int .i64 0, .int .i64 0, .int .i64 0, .slice none 0 0] 25)
    rw [World.size_alloc] at this
    rw [← hw2]; exact this
  have hl0 := hv.here.below hb2
  rw [← hl] at hl0
  have hl2 := hl0.part 16 240 (cap - 16) (by omega) (by omega)
  rw [List.take_of_length_le (by simp; omega)] at hl2
  have hka := hK.below hb2 hK.size
  have hsum2 : Calls Tryd.prog 47 #[.slice (some ⟨g, off + 16, none⟩) 240 (cap - 16)] w2 (fun e w' => e = .returned (.agg (bvs (halfL (l.drop 16))).toArray) ∧ Below w2.heap.size w2 w') := SumHalf_any _ _ hl2 hka (by simp; omega)
  have HSUM := Lib.hid hsum2
  have HS := Lib.hid hsum
  have HV := Lib.hid hv
  have HL := Lib.hid hl
  have HW2 := Lib.hid hw2
  have HB2 := Lib.hid hb2
  have HS2 := Lib.hid hs2
  have HP2 := Lib.hid hP2
  have HR2 := Lib.hid hR2
  clear hsum2 hsum hv hl hK hw2 hb2 hs2 hP2 hR2 hl0 hl2 hka
  go_enter Tryd.func21, Tryd.ntmps21
  go_wp2_with fail
  rw [HW2.out]
  refine HSUM.out.mono ?_
  rintro e w3 ⟨rfl, hb3⟩
  have hb3' := HB2.out.trans (hb3.mono HB2.out.size)
  obtain ⟨w4, hw4⟩ : ∃ w4, w3.alloc (.cells (bvs (halfL (l.drop 16))).toArray 95) = w4 := ⟨_, rfl⟩
  have hb4 : Below w3.heap.size w3 w4 := hw4 ▸ (Below.refl _ _).alloc (Nat.le_refl _) _
  have hq3 := hb3.size
  have hs2 := HS2.out
  have hq4 : w4.heap.size = w3.heap.size + 1 := by rw [← hw4]; simp
  have hP4 := (hb4.block w.heap.size (by omega)).trans ((hb3.block w.heap.size (by omega)).trans HP2.out)
  have hR4 := (hb4.block (w.heap.size + 1) (by omega)).trans ((hb3.block (w.heap.size + 1) (by omega)).trans HR2.out)
  have hD4 : w4.heap[w3.heap.size]? = some (.cells (bvs (halfL (l.drop 16))).toArray 95 (0, 0)) := by rw [← hw4]; exact heap_alloc_new _ _
  have hnw := heap_alloc_new w3 (.cells #[.int .u8 0, .int .u8 0, .int .u8 0, .int .u8 0, .int .u8 0, .int .u8 0, .int .u8 0, .int .u8 0, .int .u8 0, .int .u8 0, .int .u8 0, .int .u8 0, .int .u8 0, .int .u8 0, .int .u8 0, .int .u8 0] 95)
  have hszh := hSize (l.drop 16)
  have hzsh : (#[.int .u8 0, .int .u8 0, .int .u8 0, .int .u8 0, .int .u8 0, .int .u8 0, .int .u8 0, .int .u8 0, .int .u8 0, .int .u8 0, .int .u8 0, .int .u8 0, .int .u8 0, .int .u8 0, .int .u8 0, .int .u8 0] : Array Value).size = (bvs (halfL (l.drop 16))).toArray.size := by
    show 16 = _
    rw [List.size_toArray, bvs_length, halfL_length]
  have hsl2 := fun w => slice_half w3.heap.size w
  have hbd := block_bytes hD4 0 16 16 (by simp) (Nat.le_refl _)
  rw [List.drop_zero, List.take_of_length_le (by simp)] at hbd
  have hbd4 := hb3'.trans (hb4.mono hb3'.size)
  have hl4 := HV.out.here.below hbd4
  rw [← HL.out] at hl4
  have hl5 := hl4.part 0 16 cap (by rw [HL.out]; omega) (by omega)
  rw [List.drop_zero, Nat.add_zero] at hl5
  have heq : ∀ n, Calls Tryd.prog 51 #[.slice (some ⟨w3.heap.size, 0, none⟩) 16 16, .slice (some ⟨g, off, none⟩) 16 cap] (w4.drewN n) (fun e w' => e = .returned (.bool false) ∧ w' = w4.drewN n) := by
    intro n
    refine (bytesEqual_any (hbd.drewN n) (hl5.drewN n)).mono fun e w' ⟨h1, h2⟩ => ⟨?_, h2.symm⟩
    rw [h1]
    congr 2
    exact beq_eq_false_iff_ne.2 HS.out
  have HEQ := Lib.hid heq
  have HSZ := Lib.hid hszh
  have HZS := Lib.hid hzsh
  have HNW := Lib.hid hnw
  have HW4 := Lib.hid hw4
  have HP4 := Lib.hid hP4
  have HR4 := Lib.hid hR4
  have HBD := Lib.hid hbd4
  have hx4 : w4.cell? ⟨w.heap.size, 0, none⟩ = some (.slice (some ⟨g, off, none⟩) 256 cap) := by rw [cell_of_row _ _ _ _ _ _ hP4]; rfl
  have HQ4 := Lib.hid hq4
  have HQ3 := Lib.hid hq3
  clear hb3 hb3' hw4 hb4 hP4 hR4 hD4 hnw hszh hzsh hbd hbd4 hl4 hl5 heq hq4 hq3 hs2
  go_wp2_with (with_reducible refine wpList_store_row rfl 95 _ _ rfl w3.heap.size (bvs (halfL (l.drop 16))).toArray rfl rfl 95 _ HNW.out HSZ.out HZS.out (oneCell_bvs _) ?_; rw [World.setRow_alloc_new, HW4.out])
  go_quiet ((go_at_call 51; exact Calls.quiet_of_same (HEQ.out _)))
  obtain ⟨w5, hw5⟩ : ∃ w5, w4.drewN nq = w5 := ⟨_, rfl⟩
  have hb5 : Below w.heap.size w w5 := hw5 ▸ HBD.out.trans (below_drewN2 w4 nq _)
  have hP5 : w5.heap[w.heap.size]? = some (.cells #[.slice (some ⟨g, off, none⟩) 256 cap] 22 (0, 0)) := by rw [← hw5]; exact HP4.out
  have hR5 : w5.heap[w.heap.size + 1]? = some (.cells #[.int .i64 0, .int .i64 0, .int .i64 0, .int .i64 0, .int .i64 0, .slice none 0 0] 25 (0, 0)) := by rw [← hw5]; exact HR4.out
  have hq5 : w.heap.size + 2 ≤ w5.heap.size := by rw [← hw5]; show _ ≤ w4.heap.size; have := HQ4.out; have := HQ3.out; have := HS2.out; omega
  rw [hw5]
  clear hw5 hx4
  have hr5 : ∀ j : Nat, w5.frozen? ⟨w.heap.size + 1, j, none⟩ = false := fun j => frozen_of_row _ _ _ _ _ hR5
  have hy0 : w5.cell? ⟨w.heap.size + 1, 0, none⟩ = some (.int .i64 0) := by rw [cell_of_row _ _ _ _ _ _ hR5]; rfl
  have hy1 : w5.cell? ⟨w.heap.size + 1, 1, none⟩ = some (.int .i64 0) := by rw [cell_of_row _ _ _ _ _ _ hR5]; rfl
  have hy2 : w5.cell? ⟨w.heap.size + 1, 2, none⟩ = some (.int .i64 0) := by rw [cell_of_row _ _ _ _ _ _ hR5]; rfl
  have hy3 : w5.cell? ⟨w.heap.size + 1, 3, none⟩ = some (.int .i64 0) := by rw [cell_of_row _ _ _ _ _ _ hR5]; rfl
  have hy4 : w5.cell? ⟨w.heap.size + 1, 4, none⟩ = some (.int .i64 0) := by rw [cell_of_row _ _ _ _ _ _ hR5]; rfl
  have hy5 : w5.cell? ⟨w.heap.size + 1, 5, none⟩ = some (.slice none 0 0) := by rw [cell_of_row _ _ _ _ _ _ hR5]; rfl
  have HB5 := Lib.hid hb5
  have hdec := decE_sum HL.out HS.out
  have HDEC := Lib.hid hdec
  clear hP5 hR5 hb5 hdec
  go_wp2_with fail
  exact bodyPost_ret (v := .tuple #[.agg #[.int .i64 0, .int .i64 0, .int .i64 0, .int .i64 0, .int .i64 0, .slice none 0 0], .int .i64 22]) (by simp [results, Tryd.results21, go_sem, hy0, hy1, hy2, hy3, hy4, hy5]) rfl (DecPost.no HDEC.out (by decide) ((((((HB5.out.setCell (by show w.heap.size ≤ w.heap.size + 1; omega) _).setCell (by show w.heap.size ≤ w.heap.size + 1; omega) _).setCell (by show w.heap.size ≤ w.heap.size + 1; omega) _).setCell (by show w.heap.size ≤ w.heap.size + 1; omega) _).setCell (by show w.heap.size ≤ w.heap.size + 1; omega) _).setCell (by show w.heap.size ≤ w.heap.size + 1; omega) _))

theorem chg6 (w : World) (b : Nat) (v0 v1 v2 v3 v4 v5 : Value) : Chg (fun k => k = b) w ((((((w.setCell ⟨b, 0, none⟩ v0).setCell ⟨b, 1, none⟩ v1).setCell ⟨b, 2, none⟩ v2).setCell ⟨b, 3, none⟩ v3).setCell ⟨b, 4, none⟩ v4).setCell ⟨b, 5, none⟩ v5) := by
  have t : ∀ {a c : World} (j : Nat) (v : Value), Chg (fun k => k = b) a c → Chg (fun k => k = b) a (c.setCell ⟨b, j, none⟩ v) := fun j v h => h.trans (Chg.setCell (F := fun k => k = b) _ _ rfl) (fun _ h => .inl h)
  exact t 5 _ (t 4 _ (t 3 _ (t 2 _ (t 1 _ (t 0 _ (Chg.refl _ _))))))
theorem setCell_at (w : World) (b j : Nat) (v : Value) (k : Nat) (h : k ≠ b) : (w.setCell ⟨b, j, none⟩ v).heap[k]? = w.heap[k]? := heap_setCell_other w ⟨b, j, none⟩ k v h
theorem get_at (size i pb at_ : Nat) (l : List UInt8) (N cap g off : Nat) (hN : l.length = N) (hs : size ≤ 4) (hi : i + size ≤ N) (hl : N ≤ 1000) {w : World} (hb : BytesAt w (fun k => k ≠ at_) (.slice (some ⟨g, off, none⟩) N cap) l)
    (hp : w.cell? ⟨pb, 0, none⟩ = some (.slice (some ⟨g, off, none⟩) N cap)) (hne : pb ≠ at_) (ha : w.heap[at_]? = some (.cells #[.int .i64 (i : Int)] 3 (0, 0))) :
    Calls Tryd.prog 52 #[.int .i64 (size : Int), .pointer (some ⟨pb, 0, none⟩), .pointer (some ⟨at_, 0, none⟩)] w fun e w' =>
      e = .returned (.int .i64 (valN (seg l i size) : Int)) ∧ w'.heap[at_]? = some (.cells #[.int .i64 ((i + size : Nat) : Int)] 3 (0, 0)) ∧ Chg (fun k => k = at_) w w' := by
  subst hN
  exact get_any size i pb at_ l cap g off hs hi hl hb hp hne ha

set_option maxRecDepth 100000 in
set_option maxHeartbeats 2000000 in
theorem DecodePart_go {w : World} (l : List UInt8) (g off cap : Nat) {F : Nat → Prop} (hv : BytesAt w F (.slice (some ⟨g, off, none⟩) 256 cap) l) (hl : l.length = 256) (hK : KAt w) (hsum : halfL (l.drop 16) = l.take 16) :
    Calls Tryd.prog 21 #[.slice (some ⟨g, off, none⟩) 256 cap] w (DecPost w l) := by
  have hlc := hv.len
  obtain ⟨-, hcap⟩ := hlc
  have hc16 : ¬ cap = 16 := by omega
  have hc0 : ¬ cap = 0 := by omega
  have hci : (16 : Int) ≤ (cap : Int) := by omega
  obtain ⟨w2, hw2⟩ : ∃ w2, (w.alloc (.cells #[.slice (some ⟨g, off, none⟩) 256 cap] 22)).alloc (.cells #[.int .i64 0, .int .i64 0, .int .i64 0, .int .i64 0, .int .i64 0, .slice none 0 0] 25) = w2 := ⟨_, rfl⟩
  have hb2 : Below w.heap.size w w2 := hw2 ▸ ((Below.refl _ w).alloc (Nat.le_refl _) _).alloc (by simp) _
  have hs2 : w2.heap.size = w.heap.size + 2 := by rw [← hw2]; simp
  have hP2 : w2.heap[w.heap.size]? = some (.cells #[.slice (some ⟨g, off, none⟩) 256 cap] 22 (0, 0)) := by rw [← hw2]; exact (Below.heap_alloc _ _ _ (by simp)).trans (heap_alloc_new _ _)
  have hR2 : w2.heap[w.heap.size + 1]? = some (.cells #[.int .i64 0, .int .i64 0, .int .i64 0, .int .i64 0, .int .i64 0, .slice none 0 0] 25 (0, 0)) := by
    have := heap_alloc_new (w.alloc (.cells #[.slice (some ⟨g, off, none⟩) 256 cap] 22)) (.cells #[.int .i64 0, .int .i64 0, .int .i64 0, .int .i64 0, .int .i64 0, .slice none 0 0] 25)
    rw [World.size_alloc] at this
    rw [← hw2]; exact this
  have hl0 := hv.here.below hb2
  rw [← hl] at hl0
  have hl2 := hl0.part 16 240 (cap - 16) (by omega) (by omega)
  rw [List.take_of_length_le (by simp; omega)] at hl2
  have hka := hK.below hb2 hK.size
  have hsum2 : Calls Tryd.prog 47 #[.slice (some ⟨g, off + 16, none⟩) 240 (cap - 16)] w2 (fun e w' => e = .returned (.agg (bvs (halfL (l.drop 16))).toArray) ∧ Below w2.heap.size w2 w') := SumHalf_any _ _ hl2 hka (by simp; omega)
  have HSUM := Lib.hid hsum2
  have HS := Lib.hid hsum
  have HV := Lib.hid hv
  have HL := Lib.hid hl
  have HW2 := Lib.hid hw2
  have HB2 := Lib.hid hb2
  have HS2 := Lib.hid hs2
  have HP2 := Lib.hid hP2
  have HR2 := Lib.hid hR2
  clear hsum2 hsum hv hl hK hw2 hb2 hs2 hP2 hR2 hl0 hl2 hka
  go_enter Tryd.func21, Tryd.ntmps21
  go_wp2_with fail
  rw [HW2.out]
  refine HSUM.out.mono ?_
  rintro e w3 ⟨rfl, hb3⟩
  have hb3' := HB2.out.trans (hb3.mono HB2.out.size)
  obtain ⟨w4, hw4⟩ : ∃ w4, w3.alloc (.cells (bvs (halfL (l.drop 16))).toArray 95) = w4 := ⟨_, rfl⟩
  have hb4 : Below w3.heap.size w3 w4 := hw4 ▸ (Below.refl _ _).alloc (Nat.le_refl _) _
  have hq3 := hb3.size
  have hs2 := HS2.out
  have hq4 : w4.heap.size = w3.heap.size + 1 := by rw [← hw4]; simp
  have hP4 := (hb4.block w.heap.size (by omega)).trans ((hb3.block w.heap.size (by omega)).trans HP2.out)
  have hR4 := (hb4.block (w.heap.size + 1) (by omega)).trans ((hb3.block (w.heap.size + 1) (by omega)).trans HR2.out)
  have hD4 : w4.heap[w3.heap.size]? = some (.cells (bvs (halfL (l.drop 16))).toArray 95 (0, 0)) := by rw [← hw4]; exact heap_alloc_new _ _
  have hnw := heap_alloc_new w3 (.cells #[.int .u8 0, .int .u8 0, .int .u8 0, .int .u8 0, .int .u8 0, .int .u8 0, .int .u8 0, .int .u8 0, .int .u8 0, .int .u8 0, .int .u8 0, .int .u8 0, .int .u8 0, .int .u8 0, .int .u8 0, .int .u8 0] 95)
  have hszh := hSize (l.drop 16)
  have hzsh : (#[.int .u8 0, .int .u8 0, .int .u8 0, .int .u8 0, .int .u8 0, .int .u8 0, .int .u8 0, .int .u8 0, .int .u8 0, .int .u8 0, .int .u8 0, .int .u8 0, .int .u8 0, .int .u8 0, .int .u8 0, .int .u8 0] : Array Value).size = (bvs (halfL (l.drop 16))).toArray.size := by
    show 16 = _
    rw [List.size_toArray, bvs_length, halfL_length]
  have hsl2 := fun w => slice_half w3.heap.size w
  have hbd := block_bytes hD4 0 16 16 (by simp) (Nat.le_refl _)
  rw [List.drop_zero, List.take_of_length_le (by simp)] at hbd
  have hbd4 := hb3'.trans (hb4.mono hb3'.size)
  have hl4 := HV.out.here.below hbd4
  rw [← HL.out] at hl4
  have hl5 := hl4.part 0 16 cap (by rw [HL.out]; omega) (by omega)
  rw [List.drop_zero, Nat.add_zero] at hl5
  have heq : ∀ n, Calls Tryd.prog 51 #[.slice (some ⟨w3.heap.size, 0, none⟩) 16 16, .slice (some ⟨g, off, none⟩) 16 cap] (w4.drewN n) (fun e w' => e = .returned (.bool true) ∧ w' = w4.drewN n) := by
    intro n
    refine (bytesEqual_any (hbd.drewN n) (hl5.drewN n)).mono fun e w' ⟨h1, h2⟩ => ⟨?_, h2.symm⟩
    rw [h1]
    congr 2
    exact beq_iff_eq.2 HS.out
  have HEQ := Lib.hid heq
  have HSZ := Lib.hid hszh
  have HZS := Lib.hid hzsh
  have HNW := Lib.hid hnw
  have HW4 := Lib.hid hw4
  have HP4 := Lib.hid hP4
  have HR4 := Lib.hid hR4
  have HBD := Lib.hid hbd4
  have hx4 : w4.cell? ⟨w.heap.size, 0, none⟩ = some (.slice (some ⟨g, off, none⟩) 256 cap) := by rw [cell_of_row _ _ _ _ _ _ hP4]; rfl
  have HQ4 := Lib.hid hq4
  have HQ3 := Lib.hid hq3
  clear hb3 hb3' hw4 hb4 hP4 hR4 hD4 hnw hszh hzsh hbd hbd4 hl4 hl5 heq hq4 hq3 hs2
  go_wp2_with (with_reducible refine wpList_store_row rfl 95 _ _ rfl w3.heap.size (bvs (halfL (l.drop 16))).toArray rfl rfl 95 _ HNW.out HSZ.out HZS.out (oneCell_bvs _) ?_; rw [World.setRow_alloc_new, HW4.out])
  go_quiet ((go_at_call 51; exact Calls.quiet_of_same (HEQ.out _)))
  obtain ⟨w5, hw5⟩ : ∃ w5, w4.drewN nq = w5 := ⟨_, rfl⟩
  have hb5 : Below w.heap.size w w5 := hw5 ▸ HBD.out.trans (below_drewN2 w4 nq _)
  have hP5 : w5.heap[w.heap.size]? = some (.cells #[.slice (some ⟨g, off, none⟩) 256 cap] 22 (0, 0)) := by rw [← hw5]; exact HP4.out
  have hR5 : w5.heap[w.heap.size + 1]? = some (.cells #[.int .i64 0, .int .i64 0, .int .i64 0, .int .i64 0, .int .i64 0, .slice none 0 0] 25 (0, 0)) := by rw [← hw5]; exact HR4.out
  have hq5 : w.heap.size + 2 ≤ w5.heap.size := by rw [← hw5]; show _ ≤ w4.heap.size; have := HQ4.out; have := HQ3.out; have := HS2.out; omega
  rw [hw5]
  clear hw5 hx4
  obtain ⟨w6, hw6⟩ : ∃ w6, (w5.alloc (.cells #[.int .i64 16] 3)).alloc (.cells #[.int .i64 0, .int .i64 0, .int .i64 0, .int .i64 0, .int .i64 0, .slice none 0 0] 25) = w6 := ⟨_, rfl⟩
  have hb6 : Below w5.heap.size w5 w6 := hw6 ▸ ((Below.refl _ w5).alloc (Nat.le_refl _) _).alloc (by simp) _
  have hq6 : w6.heap.size = w5.heap.size + 2 := by rw [← hw6]; simp
  have hA6 : w6.heap[w5.heap.size]? = some (.cells #[.int .i64 16] 3 (0, 0)) := by rw [← hw6]; exact (Below.heap_alloc _ _ _ (by simp)).trans (heap_alloc_new _ _)
  have hT6 : w6.heap[w5.heap.size + 1]? = some (.cells #[.int .i64 0, .int .i64 0, .int .i64 0, .int .i64 0, .int .i64 0, .slice none 0 0] 25 (0, 0)) := by
    have := heap_alloc_new (w5.alloc (.cells #[.int .i64 16] 3)) (.cells #[.int .i64 0, .int .i64 0, .int .i64 0, .int .i64 0, .int .i64 0, .slice none 0 0] 25)
    rw [World.size_alloc] at this
    rw [← hw6]; exact this
  have hbd6 := hb5.trans (hb6.mono hb5.size)
  have hl6 := HV.out.here.below hbd6
  have hP6 := (hb6.block w.heap.size (by omega)).trans hP5
  have hR6 := (hb6.block (w.heap.size + 1) (by omega)).trans hR5
  have hC6 : Chg (fun k => k = w5.heap.size ∨ k = w5.heap.size + 1) w6 w6 := Chg.refl _ _
  have hx6 : w6.cell? ⟨w.heap.size, 0, none⟩ = some (.slice (some ⟨g, off, none⟩) 256 cap) := by rw [cell_of_row _ _ _ _ _ _ hP6]; rfl
  have HW6 := Lib.hid hw6
  have HB6 := Lib.hid hbd6
  have HL6 := Lib.hid hl6
  have HP6 := Lib.hid hP6
  have HR6 := Lib.hid hR6
  have HA0 := Lib.hid hA6
  have HT0 := Lib.hid hT6
  have HC0 := Lib.hid hC6
  have HX0 := Lib.hid hx6
  clear hw6 hb6 hA6 hT6 hbd6 hl6 hP6 hR6 hC6 hP5 hR5 hb5 hx6
  go_wp2_with fail
  rw [HW6.out]
  have hbl : BytesAt w6 (fun k => k ≠ w5.heap.size) (.slice (some ⟨g, off, none⟩) 256 cap) l := (HL6.out.kept HC0.out (fun k hk h => by have hk' : k < w.heap.size := hk; omega)).mono (fun k (hk : k < w.heap.size) => by omega)
  have hget := get_at 4 16 w.heap.size w5.heap.size l 256 cap g off HL.out (by omega) (by omega) (by omega) hbl HX0.out (by omega) HA0.out
  refine hget.mono ?_
  clear hget hbl
  rintro e v0 ⟨rfl, hA, hC⟩
  have hcc := HC0.out.trans hC (fun _ h => .inl (.inl h))
  have hT := (hC.block (w5.heap.size + 1) (Array.getElem?_eq_some_iff.1 HT0.out).1 (by omega)).trans HT0.out
  have hP := (hcc.block w.heap.size (by omega) (by omega)).trans HP6.out
  have hxx : v0.cell? ⟨w.heap.size, 0, none⟩ = some (.slice (some ⟨g, off, none⟩) 256 cap) := by rw [cell_of_row _ _ _ _ _ _ hP]; rfl
  have HX1 := Lib.hid hxx
  have HA1 := Lib.hid hA
  have HT1 := Lib.hid hT
  have HC1 := Lib.hid hcc
  clear hA hC hcc hT hP hxx
  go_wp2_with fail
  have hbl : BytesAt v0 (fun k => k ≠ w5.heap.size) (.slice (some ⟨g, off, none⟩) 256 cap) l := (HL6.out.kept HC1.out (fun k hk h => by have hk' : k < w.heap.size := hk; omega)).mono (fun k (hk : k < w.heap.size) => by omega)
  have hget := get_at 4 20 w.heap.size w5.heap.size l 256 cap g off HL.out (by omega) (by omega) (by omega) hbl HX1.out (by omega) HA1.out
  refine hget.mono ?_
  clear hget hbl
  rintro e v1 ⟨rfl, hA, hC⟩
  have hcc := HC1.out.trans hC (fun _ h => .inl (.inl h))
  have hT := (hC.block (w5.heap.size + 1) (Array.getElem?_eq_some_iff.1 HT1.out).1 (by omega)).trans HT1.out
  have hP := (hcc.block w.heap.size (by omega) (by omega)).trans HP6.out
  have hxx : v1.cell? ⟨w.heap.size, 0, none⟩ = some (.slice (some ⟨g, off, none⟩) 256 cap) := by rw [cell_of_row _ _ _ _ _ _ hP]; rfl
  have hfT : ∀ j : Nat, v1.frozen? ⟨w5.heap.size + 1, j, none⟩ = false := fun j => frozen_of_row _ _ _ _ _ hT
  have ht1 : v1.cell? ⟨w5.heap.size + 1, 1, none⟩ = some (.int .i64 0) := by rw [cell_of_row _ _ _ _ _ _ hT]; rfl
  have ht2 : v1.cell? ⟨w5.heap.size + 1, 2, none⟩ = some (.int .i64 0) := by rw [cell_of_row _ _ _ _ _ _ hT]; rfl
  obtain ⟨u1, hu⟩ : ∃ u1, ((v1.setCell ⟨w5.heap.size + 1, 1, none⟩ (.int .i64 (valN (seg l 16 4) : Nat))).setCell ⟨w5.heap.size + 1, 2, none⟩ (.int .i64 (valN (seg l 20 4) : Nat))) = u1 := ⟨_, rfl⟩
  have hTu : u1.heap[w5.heap.size + 1]? = some (.cells #[.int .i64 0, .int .i64 (valN (seg l 16 4) : Nat), .int .i64 (valN (seg l 20 4) : Nat), .int .i64 0, .int .i64 0, .slice none 0 0] 25 (0, 0)) := by rw [← hu]; exact (heap_setCell_same _ _ 2 _ _ (.int .i64 (valN (seg l 20 4) : Nat)) (heap_setCell_same _ _ 1 _ _ (.int .i64 (valN (seg l 16 4) : Nat)) hT))
  have hcs : Chg (fun k => k = w5.heap.size ∨ k = w5.heap.size + 1) v1 u1 := by
    rw [← hu]
    exact ((Chg.setCell _ _ (.inr rfl)).trans (Chg.setCell _ _ (.inr rfl)) (fun _ h => .inl h))
  have hneA : w5.heap.size ≠ w5.heap.size + 1 := by omega
  have hAu : u1.heap[w5.heap.size]? = v1.heap[w5.heap.size]? := by
    rw [← hu]
    rw [setCell_at _ _ _ _ _ hneA, setCell_at _ _ _ _ _ hneA]
  have hccu := hcc.trans hcs (fun _ h => .inl h)
  have hPu := (hccu.block w.heap.size (by omega) (by omega)).trans HP6.out
  have hxu : u1.cell? ⟨w.heap.size, 0, none⟩ = some (.slice (some ⟨g, off, none⟩) 256 cap) := by rw [cell_of_row _ _ _ _ _ _ hPu]; rfl
  have HX2 := Lib.hid hxu
  have HA2 := Lib.hid (hAu.trans hA)
  have HT2 := Lib.hid hTu
  have HC2 := Lib.hid hccu
  have HU := Lib.hid hu
  clear hA hC hcc hT hP hxx hu hTu hcs hAu hccu hPu hxu hneA
  go_wp2_with fail
  rw [HU.out]
  clear HU hfT ht1 ht2
  have hbl : BytesAt u1 (fun k => k ≠ w5.heap.size) (.slice (some ⟨g, off, none⟩) 256 cap) l := (HL6.out.kept HC2.out (fun k hk h => by have hk' : k < w.heap.size := hk; omega)).mono (fun k (hk : k < w.heap.size) => by omega)
  have hget := get_at 2 24 w.heap.size w5.heap.size l 256 cap g off HL.out (by omega) (by omega) (by omega) hbl HX2.out (by omega) HA2.out
  refine hget.mono ?_
  clear hget hbl
  rintro e v2 ⟨rfl, hA, hC⟩
  have hcc := HC2.out.trans hC (fun _ h => .inl (.inl h))
  have hT := (hC.block (w5.heap.size + 1) (Array.getElem?_eq_some_iff.1 HT2.out).1 (by omega)).trans HT2.out
  have hP := (hcc.block w.heap.size (by omega) (by omega)).trans HP6.out
  have hxx : v2.cell? ⟨w.heap.size, 0, none⟩ = some (.slice (some ⟨g, off, none⟩) 256 cap) := by rw [cell_of_row _ _ _ _ _ _ hP]; rfl
  have HX3 := Lib.hid hxx
  have HA3 := Lib.hid hA
  have HT3 := Lib.hid hT
  have HC3 := Lib.hid hcc
  clear hA hC hcc hT hP hxx
  go_wp2_with fail
  have hbl : BytesAt v2 (fun k => k ≠ w5.heap.size) (.slice (some ⟨g, off, none⟩) 256 cap) l := (HL6.out.kept HC3.out (fun k hk h => by have hk' : k < w.heap.size := hk; omega)).mono (fun k (hk : k < w.heap.size) => by omega)
  have hget := get_at 2 26 w.heap.size w5.heap.size l 256 cap g off HL.out (by omega) (by omega) (by omega) hbl HX3.out (by omega) HA3.out
  refine hget.mono ?_
  clear hget hbl
  rintro e v3 ⟨rfl, hA, hC⟩
  have hcc := HC3.out.trans hC (fun _ h => .inl (.inl h))
  have hT := (hC.block (w5.heap.size + 1) (Array.getElem?_eq_some_iff.1 HT3.out).1 (by omega)).trans HT3.out
  have hP := (hcc.block w.heap.size (by omega) (by omega)).trans HP6.out
  have hxx : v3.cell? ⟨w.heap.size, 0, none⟩ = some (.slice (some ⟨g, off, none⟩) 256 cap) := by rw [cell_of_row _ _ _ _ _ _ hP]; rfl
  have HX4 := Lib.hid hxx
  have HA4 := Lib.hid hA
  have HT4 := Lib.hid hT
  have HC4 := Lib.hid hcc
  clear hA hC hcc hT hP hxx
  go_wp2_with fail
  have hbl : BytesAt v3 (fun k => k ≠ w5.heap.size) (.slice (some ⟨g, off, none⟩) 256 cap) l := (HL6.out.kept HC4.out (fun k hk h => by have hk' : k < w.heap.size := hk; omega)).mono (fun k (hk : k < w.heap.size) => by omega)
  have hget := get_at 2 28 w.heap.size w5.heap.size l 256 cap g off HL.out (by omega) (by omega) (by omega) hbl HX4.out (by omega) HA4.out
  refine hget.mono ?_
  clear hget hbl
  rintro e v4 ⟨rfl, hA, hC⟩
  have hcc := HC4.out.trans hC (fun _ h => .inl (.inl h))
  have hT := (hC.block (w5.heap.size + 1) (Array.getElem?_eq_some_iff.1 HT4.out).1 (by omega)).trans HT4.out
  have hP := (hcc.block w.heap.size (by omega) (by omega)).trans HP6.out
  have hxx : v4.cell? ⟨w.heap.size, 0, none⟩ = some (.slice (some ⟨g, off, none⟩) 256 cap) := by rw [cell_of_row _ _ _ _ _ _ hP]; rfl
  have hfT : ∀ j : Nat, v4.frozen? ⟨w5.heap.size + 1, j, none⟩ = false := fun j => frozen_of_row _ _ _ _ _ hT
  have ht0 : v4.cell? ⟨w5.heap.size + 1, 0, none⟩ = some (.int .i64 0) := by rw [cell_of_row _ _ _ _ _ _ hT]; rfl
  have ht3 : v4.cell? ⟨w5.heap.size + 1, 3, none⟩ = some (.int .i64 0) := by rw [cell_of_row _ _ _ _ _ _ hT]; rfl
  have ht4 : v4.cell? ⟨w5.heap.size + 1, 4, none⟩ = some (.int .i64 0) := by rw [cell_of_row _ _ _ _ _ _ hT]; rfl
  obtain ⟨u4, hu⟩ : ∃ u4, (((v4.setCell ⟨w5.heap.size + 1, 0, none⟩ (.int .i64 (valN (seg l 24 2) : Nat))).setCell ⟨w5.heap.size + 1, 3, none⟩ (.int .i64 (valN (seg l 26 2) : Nat))).setCell ⟨w5.heap.size + 1, 4, none⟩ (.int .i64 (valN (seg l 28 2) : Nat))) = u4 := ⟨_, rfl⟩
  have hTu : u4.heap[w5.heap.size + 1]? = some (.cells #[.int .i64 (valN (seg l 24 2) : Nat), .int .i64 (valN (seg l 16 4) : Nat), .int .i64 (valN (seg l 20 4) : Nat), .int .i64 (valN (seg l 26 2) : Nat), .int .i64 (valN (seg l 28 2) : Nat), .slice none 0 0] 25 (0, 0)) := by rw [← hu]; exact (heap_setCell_same _ _ 4 _ _ (.int .i64 (valN (seg l 28 2) : Nat)) (heap_setCell_same _ _ 3 _ _ (.int .i64 (valN (seg l 26 2) : Nat)) (heap_setCell_same _ _ 0 _ _ (.int .i64 (valN (seg l 24 2) : Nat)) hT)))
  have hcs : Chg (fun k => k = w5.heap.size ∨ k = w5.heap.size + 1) v4 u4 := by
    rw [← hu]
    exact (((Chg.setCell _ _ (.inr rfl)).trans (Chg.setCell _ _ (.inr rfl)) (fun _ h => .inl h)).trans (Chg.setCell _ _ (.inr rfl)) (fun _ h => .inl h))
  have hneA : w5.heap.size ≠ w5.heap.size + 1 := by omega
  have hAu : u4.heap[w5.heap.size]? = v4.heap[w5.heap.size]? := by
    rw [← hu]
    rw [setCell_at _ _ _ _ _ hneA, setCell_at _ _ _ _ _ hneA, setCell_at _ _ _ _ _ hneA]
  have hccu := hcc.trans hcs (fun _ h => .inl h)
  have hPu := (hccu.block w.heap.size (by omega) (by omega)).trans HP6.out
  have hxu : u4.cell? ⟨w.heap.size, 0, none⟩ = some (.slice (some ⟨g, off, none⟩) 256 cap) := by rw [cell_of_row _ _ _ _ _ _ hPu]; rfl
  have HX5 := Lib.hid hxu
  have HA5 := Lib.hid (hAu.trans hA)
  have HT5 := Lib.hid hTu
  have HC5 := Lib.hid hccu
  have HU := Lib.hid hu
  clear hA hC hcc hT hP hxx hu hTu hcs hAu hccu hPu hxu hneA
  go_wp2_with fail
  rw [HU.out]
  clear HU hfT ht0 ht3 ht4
  have hbl : BytesAt u4 (fun k => k ≠ w5.heap.size) (.slice (some ⟨g, off, none⟩) 256 cap) l := (HL6.out.kept HC5.out (fun k hk h => by have hk' : k < w.heap.size := hk; omega)).mono (fun k (hk : k < w.heap.size) => by omega)
  have hget := get_at 2 30 w.heap.size w5.heap.size l 256 cap g off HL.out (by omega) (by omega) (by omega) hbl HX5.out (by omega) HA5.out
  obtain ⟨sz, hsz⟩ : ∃ sz, valN (seg l 30 2) = sz := ⟨_, rfl⟩
  rw [hsz] at hget
  have HSZL := Lib.hid hsz
  refine hget.mono ?_
  clear hget hbl
  rintro e v5 ⟨rfl, hA, hC⟩
  have hcc := HC5.out.trans hC (fun _ h => .inl (.inl h))
  have hT := (hC.block (w5.heap.size + 1) (Array.getElem?_eq_some_iff.1 HT5.out).1 (by omega)).trans HT5.out
  have hP := (hcc.block w.heap.size (by omega) (by omega)).trans HP6.out
  have hxx : v5.cell? ⟨w.heap.size, 0, none⟩ = some (.slice (some ⟨g, off, none⟩) 256 cap) := by rw [cell_of_row _ _ _ _ _ _ hP]; rfl
  have HX6 := Lib.hid hxx
  have HA6 := Lib.hid hA
  have HT6 := Lib.hid hT
  have HC6 := Lib.hid hcc
  clear hA hC hcc hT hP hxx
  have hbv5 : Below w.heap.size w v5 := HB6.out.trans (HC6.out.below (fun k h => by omega) (by omega))
  have hRv := (HC6.out.block (w.heap.size + 1) (by omega) (by omega)).trans HR6.out
  have hr5 : ∀ j : Nat, v5.frozen? ⟨w.heap.size + 1, j, none⟩ = false := fun j => frozen_of_row _ _ _ _ _ hRv
  have hy0 : v5.cell? ⟨w.heap.size + 1, 0, none⟩ = some (.int .i64 0) := by rw [cell_of_row _ _ _ _ _ _ hRv]; rfl
  have hy1 : v5.cell? ⟨w.heap.size + 1, 1, none⟩ = some (.int .i64 0) := by rw [cell_of_row _ _ _ _ _ _ hRv]; rfl
  have hy2 : v5.cell? ⟨w.heap.size + 1, 2, none⟩ = some (.int .i64 0) := by rw [cell_of_row _ _ _ _ _ _ hRv]; rfl
  have hy3 : v5.cell? ⟨w.heap.size + 1, 3, none⟩ = some (.int .i64 0) := by rw [cell_of_row _ _ _ _ _ _ hRv]; rfl
  have hy4 : v5.cell? ⟨w.heap.size + 1, 4, none⟩ = some (.int .i64 0) := by rw [cell_of_row _ _ _ _ _ _ hRv]; rfl
  have hy5 : v5.cell? ⟨w.heap.size + 1, 5, none⟩ = some (.slice none 0 0) := by rw [cell_of_row _ _ _ _ _ _ hRv]; rfl
  have hxv := HX6.out
  have hlv : BytesAt v5 (fun k => k < w.heap.size) (.slice (some ⟨g, off, none⟩) 256 cap) l := HL6.out.kept HC6.out (fun k hk h => by have hk' : k < w.heap.size := hk; omega)
  have hszq : szL l = sz := HSZL.out
  have hszb : sz ≤ 65535 := by have h1 := valN_lt (seg l 30 2); rw [HSZL.out, seg_length _ _ _ (by rw [HL.out]; omega)] at h1; omega
  have HBV := Lib.hid hbv5
  have HRV := Lib.hid hRv
  have HLV := Lib.hid hlv
  have HSZQ := Lib.hid hszq
  clear hbv5 hRv hlv hszq HA0 HA1 HA2 HA3 HA4 HA5 HT0 HT1 HT2 HT3 HT4 HT5 HC0 HC1 HC2 HC3 HC4 HC5 HX0 HX1 HX2 HX3 HX4 HX5
  have hdE : decE l = (if szL l ≤ 224 ∧ zerosB (l.drop (32 + szL l)) = true ∧ chkP (rawP l) = 0 then 0 else 3) := by
    unfold decE
    rw [if_neg (by rw [HL.out]; omega), if_neg (by rw [HL.out]; omega), if_neg (by rw [HS.out]; simp)]
  have HDE := Lib.hid hdE
  clear hdE
  by_cases h224 : 224 < sz
  · have h3 : decE l = 3 := by rw [HDE.out, if_neg (by rw [HSZQ.out]; omega)]
    have HD3 := Lib.hid h3
    clear h3
    go_wp2_with fail
    exact bodyPost_ret (v := .tuple #[.agg #[.int .i64 0, .int .i64 0, .int .i64 0, .int .i64 0, .int .i64 0, .slice none 0 0], .int .i64 3]) (by simp [results, Tryd.results21, go_sem, hy0, hy1, hy2, hy3, hy4, hy5]) rfl (DecPost.no HD3.out (by decide) ((((((HBV.out.setCell (by show w.heap.size ≤ w.heap.size + 1; omega) _).setCell (by show w.heap.size ≤ w.heap.size + 1; omega) _).setCell (by show w.heap.size ≤ w.heap.size + 1; omega) _).setCell (by show w.heap.size ≤ w.heap.size + 1; omega) _).setCell (by show w.heap.size ≤ w.heap.size + 1; omega) _).setCell (by show w.heap.size ≤ w.heap.size + 1; omega) _))
  · have h224' : sz ≤ 224 := by omega
    have hsegl : (seg l 32 sz).length = sz := seg_length _ _ _ (by rw [HL.out]; omega)
    have hrb : (rawP l).bytes = seg l 32 sz := by unfold rawP; rw [HSZQ.out]
    have HSEG := Lib.hid hsegl
    have HRB := Lib.hid hrb
    clear h224 hsegl hrb
    by_cases hck : cap = 32 + sz
    · obtain rfl : sz = 224 := by omega
      obtain rfl : cap = 256 := by omega
      clear hck
      have hblank : BytesAt v5 (fun _ => True) (.slice (some ⟨g, off, none⟩) (0) (0)) (l.drop (32 + 224)) := by
        rw [List.drop_of_length_le (by have := HL.out; omega)]
        exact bytesAt_empty _ _ _ _
      by_cases hz : zerosB (l.drop (32 + 224)) = true
      · have hIB : Calls Tryd.prog 42 #[.slice (some ⟨g, off, none⟩) (0) (0)] v5 (fun e w' => e = .returned (.bool true) ∧ v5 = w') :=
          (IsBlank_any hblank (by simp; have := HL.out; omega)).mono fun e w' ⟨h1, h2⟩ => ⟨by rw [h1, hz], h2⟩
        have hlv := HLV.out
        rw [← HL.out] at hlv
        have hcl0 := hlv.part 32 224 (256 - 32) (by rw [HL.out]; omega) (by omega)
        have hcl : Calls Tryd.prog 53 #[.slice (some ⟨g, off + 32, none⟩) 224 (256 - 32)] v5 (fun e w' => ∃ v, e = .returned v ∧ w'.ownsRow v5.heap.size 5 1 v (seg l 32 224).length (bvs (seg l 32 224)) ∧ Below v5.heap.size v5 w') := bytesClone_any hcl0 (by have := HSEG.out; omega)
        have HIB := Lib.hid hIB
        have HCL := Lib.hid hcl
        have HZ := Lib.hid hz
        clear hblank hIB hlv hcl0 hcl hz
        go_wp2_with fail
        refine HIB.out.mono ?_
        rintro e v' ⟨rfl, rfl⟩
        go_wp2_with fail
        refine HCL.out.mono ?_
        rintro e y ⟨cv, rfl, hO, hY⟩
        obtain ⟨ca, cc, rfl⟩ := ownsRow_form hO
        rw [HSEG.out] at hO ⊢
        have hTl := (Array.getElem?_eq_some_iff.1 HT6.out).1
        have hTy := (hY.block (w5.heap.size + 1) hTl).trans HT6.out
        have hRl := (Array.getElem?_eq_some_iff.1 HRV.out).1
        have hRy := (hY.block (w.heap.size + 1) hRl).trans HRV.out
        have hfy : ∀ j : Nat, y.frozen? ⟨w5.heap.size + 1, j, none⟩ = false := fun j => frozen_of_row _ _ _ _ _ hTy
        have hty0 : y.cell? ⟨w5.heap.size + 1, 0, none⟩ = some (.int .i64 (valN (seg l 24 2) : Nat)) := by rw [cell_of_row _ _ _ _ _ _ hTy]; rfl
        have hty1 : y.cell? ⟨w5.heap.size + 1, 1, none⟩ = some (.int .i64 (valN (seg l 16 4) : Nat)) := by rw [cell_of_row _ _ _ _ _ _ hTy]; rfl
        have hty2 : y.cell? ⟨w5.heap.size + 1, 2, none⟩ = some (.int .i64 (valN (seg l 20 4) : Nat)) := by rw [cell_of_row _ _ _ _ _ _ hTy]; rfl
        have hty3 : y.cell? ⟨w5.heap.size + 1, 3, none⟩ = some (.int .i64 (valN (seg l 26 2) : Nat)) := by rw [cell_of_row _ _ _ _ _ _ hTy]; rfl
        have hty4 : y.cell? ⟨w5.heap.size + 1, 4, none⟩ = some (.int .i64 (valN (seg l 28 2) : Nat)) := by rw [cell_of_row _ _ _ _ _ _ hTy]; rfl
        have hty5 : y.cell? ⟨w5.heap.size + 1, 5, none⟩ = some (.slice none 0 0) := by rw [cell_of_row _ _ _ _ _ _ hTy]; rfl
        obtain ⟨y2, hy2'⟩ : ∃ y2, y.setCell ⟨w5.heap.size + 1, 5, none⟩ (.slice ca 224 cc) = y2 := ⟨_, rfl⟩
        have hT2 : y2.heap[w5.heap.size + 1]? = some (.cells #[.int .i64 (valN (seg l 24 2) : Nat), .int .i64 (valN (seg l 16 4) : Nat), .int .i64 (valN (seg l 20 4) : Nat), .int .i64 (valN (seg l 26 2) : Nat), .int .i64 (valN (seg l 28 2) : Nat), .slice ca 224 cc] 25 (0, 0)) := by rw [← hy2']; exact heap_setCell_same _ _ 5 _ _ (.slice ca 224 cc) hTy
        have hR2' : y2.heap[w.heap.size + 1]? = some (.cells #[.int .i64 0, .int .i64 0, .int .i64 0, .int .i64 0, .int .i64 0, .slice none 0 0] 25 (0, 0)) := by rw [← hy2', setCell_at _ _ _ _ _ (by omega)]; exact hRy
        have hc2 : Chg (fun k => k = w5.heap.size + 1) y y2 := by rw [← hy2']; exact Chg.setCell _ _ rfl
        have hO2 : y2.ownsRow v5.heap.size 5 1 (.slice ca 224 cc) 224 (bvs (seg l 32 224)) := ownsRow_chg hO hc2 (fun k h1 _ h3 => by have : k = w5.heap.size + 1 := h3; omega)
        have hB2' : Below w.heap.size w y2 := (HBV.out.trans (hY.mono (by omega))).trans (hc2.below (fun k h => by omega) (by have := hY.size; omega))
        have hchk : Calls Tryd.prog 19 #[.agg #[.int .i64 (valN (seg l 24 2) : Nat), .int .i64 (valN (seg l 16 4) : Nat), .int .i64 (valN (seg l 20 4) : Nat), .int .i64 (valN (seg l 26 2) : Nat), .int .i64 (valN (seg l 28 2) : Nat), .slice ca 224 cc]] y2 (fun e w' => e = .returned (.int .i64 (chkP (rawP l))) ∧ Below y2.heap.size y2 w') := check_at (rawP l) ca 224 cc (by rw [HRB.out]; exact HSEG.out) y2
        have HCHK := Lib.hid hchk
        have HY2 := Lib.hid hy2'
        have HT2 := Lib.hid hT2
        have HRR2 := Lib.hid hR2'
        have HO2 := Lib.hid hO2
        have HBB2 := Lib.hid hB2'
        clear hO hY hTl hTy hRl hRy hy2' hT2 hR2' hc2 hO2 hB2' hchk
        go_wp2_with fail
        rw [HY2.out]
        clear hfy hty0 hty1 hty2 hty3 hty4 hty5 hy0 hy1 hy2 hy3 hy4 hy5 hr5 HY2
        have hr5 : True := trivial
        by_cases hk : chkP (rawP l) = 0
        · have hk2 : (chkP (rawP l) != 0) = false := by simp [hk]
          have hd0 : decE l = 0 := by rw [HDE.out, if_pos ⟨by rw [HSZQ.out]; omega, by rw [HSZQ.out]; exact HZ.out, hk⟩]
          have HD0 := Lib.hid hd0
          clear hk hd0
          refine HCHK.out.mono ?_
          rintro e z ⟨rfl, hZ⟩
          have hTz := (hZ.block _ (Array.getElem?_eq_some_iff.1 HT2.out).1).trans HT2.out
          have hRz := (hZ.block _ (Array.getElem?_eq_some_iff.1 HRR2.out).1).trans HRR2.out
          have htz0 : z.cell? ⟨w5.heap.size + 1, 0, none⟩ = some (.int .i64 (valN (seg l 24 2) : Nat)) := by rw [cell_of_row _ _ _ _ _ _ hTz]; rfl
          have htz1 : z.cell? ⟨w5.heap.size + 1, 1, none⟩ = some (.int .i64 (valN (seg l 16 4) : Nat)) := by rw [cell_of_row _ _ _ _ _ _ hTz]; rfl
          have htz2 : z.cell? ⟨w5.heap.size + 1, 2, none⟩ = some (.int .i64 (valN (seg l 20 4) : Nat)) := by rw [cell_of_row _ _ _ _ _ _ hTz]; rfl
          have htz3 : z.cell? ⟨w5.heap.size + 1, 3, none⟩ = some (.int .i64 (valN (seg l 26 2) : Nat)) := by rw [cell_of_row _ _ _ _ _ _ hTz]; rfl
          have htz4 : z.cell? ⟨w5.heap.size + 1, 4, none⟩ = some (.int .i64 (valN (seg l 28 2) : Nat)) := by rw [cell_of_row _ _ _ _ _ _ hTz]; rfl
          have htz5 : z.cell? ⟨w5.heap.size + 1, 5, none⟩ = some (.slice ca 224 cc) := by rw [cell_of_row _ _ _ _ _ _ hTz]; rfl
          have hrz : ∀ j : Nat, z.frozen? ⟨w.heap.size + 1, j, none⟩ = false := fun j => frozen_of_row _ _ _ _ _ hRz
          have hz0 : z.cell? ⟨w.heap.size + 1, 0, none⟩ = some (.int .i64 0) := by rw [cell_of_row _ _ _ _ _ _ hRz]; rfl
          have hz1 : z.cell? ⟨w.heap.size + 1, 1, none⟩ = some (.int .i64 0) := by rw [cell_of_row _ _ _ _ _ _ hRz]; rfl
          have hz2 : z.cell? ⟨w.heap.size + 1, 2, none⟩ = some (.int .i64 0) := by rw [cell_of_row _ _ _ _ _ _ hRz]; rfl
          have hz3 : z.cell? ⟨w.heap.size + 1, 3, none⟩ = some (.int .i64 0) := by rw [cell_of_row _ _ _ _ _ _ hRz]; rfl
          have hz4 : z.cell? ⟨w.heap.size + 1, 4, none⟩ = some (.int .i64 0) := by rw [cell_of_row _ _ _ _ _ _ hRz]; rfl
          have hz5 : z.cell? ⟨w.heap.size + 1, 5, none⟩ = some (.slice none 0 0) := by rw [cell_of_row _ _ _ _ _ _ hRz]; rfl
          have hOz := own_kept HO2.out hZ
          have hBz := HBB2.out.trans (hZ.mono HBB2.out.size)
          have hvR : w.heap.size + 1 < v5.heap.size := (Array.getElem?_eq_some_iff.1 HRV.out).1
          have HOZ := Lib.hid hOz
          have HBZ := Lib.hid hBz
          clear hZ hTz hRz hOz hBz
          go_wp2_with fail
          refine bodyPost_ret (v := .tuple #[.agg #[.int .i64 (valN (seg l 24 2) : Nat), .int .i64 (valN (seg l 16 4) : Nat), .int .i64 (valN (seg l 20 4) : Nat), .int .i64 (valN (seg l 26 2) : Nat), .int .i64 (valN (seg l 28 2) : Nat), .slice ca 224 cc], .int .i64 0]) (by simp [results, Tryd.results21, go_sem, hz0, hz1, hz2, hz3, hz4, hz5]) rfl ?_
          refine DecPost.yes HD0.out (by rw [HRB.out]; exact HSEG.out) ?_ ?_
          · rw [HRB.out]
            refine ownsRow_base (ownsRow_chg (G := fun k => k = w.heap.size + 1) HOZ.out (chg6 _ _ _ _ _ _ _ _) (fun k h1 _ h3 => by have : k = w.heap.size + 1 := h3; omega)) (by omega)
          · exact HBZ.out.trans ((chg6 _ _ _ _ _ _ _ _).below (fun k h => by have : k = w.heap.size + 1 := h; omega) HBZ.out.size)
        · have hk2 : (chkP (rawP l) != 0) = true := by simpa using hk
          have hd3 : decE l = 3 := by rw [HDE.out, if_neg (fun h => hk h.2.2)]
          have HD3 := Lib.hid hd3
          clear hk hd3
          refine HCHK.out.mono ?_
          rintro e z ⟨rfl, hZ⟩
          have hRz := (hZ.block _ (Array.getElem?_eq_some_iff.1 HRR2.out).1).trans HRR2.out
          have hrz : ∀ j : Nat, z.frozen? ⟨w.heap.size + 1, j, none⟩ = false := fun j => frozen_of_row _ _ _ _ _ hRz
          have hy0 : z.cell? ⟨w.heap.size + 1, 0, none⟩ = some (.int .i64 0) := by rw [cell_of_row _ _ _ _ _ _ hRz]; rfl
          have hy1 : z.cell? ⟨w.heap.size + 1, 1, none⟩ = some (.int .i64 0) := by rw [cell_of_row _ _ _ _ _ _ hRz]; rfl
          have hy2 : z.cell? ⟨w.heap.size + 1, 2, none⟩ = some (.int .i64 0) := by rw [cell_of_row _ _ _ _ _ _ hRz]; rfl
          have hy3 : z.cell? ⟨w.heap.size + 1, 3, none⟩ = some (.int .i64 0) := by rw [cell_of_row _ _ _ _ _ _ hRz]; rfl
          have hy4 : z.cell? ⟨w.heap.size + 1, 4, none⟩ = some (.int .i64 0) := by rw [cell_of_row _ _ _ _ _ _ hRz]; rfl
          have hy5 : z.cell? ⟨w.heap.size + 1, 5, none⟩ = some (.slice none 0 0) := by rw [cell_of_row _ _ _ _ _ _ hRz]; rfl
          have hBz := HBB2.out.trans (hZ.mono HBB2.out.size)
          have HBZ := Lib.hid hBz
          clear hZ hRz hBz
          go_wp2_with fail
          exact bodyPost_ret (v := .tuple #[.agg #[.int .i64 0, .int .i64 0, .int .i64 0, .int .i64 0, .int .i64 0, .slice none 0 0], .int .i64 3]) (by simp [results, Tryd.results21, go_sem, hy0, hy1, hy2, hy3, hy4, hy5]) rfl (DecPost.no HD3.out (by decide) ((((((HBZ.out.setCell (by show w.heap.size ≤ w.heap.size + 1; omega) _).setCell (by show w.heap.size ≤ w.heap.size + 1; omega) _).setCell (by show w.heap.size ≤ w.heap.size + 1; omega) _).setCell (by show w.heap.size ≤ w.heap.size + 1; omega) _).setCell (by show w.heap.size ≤ w.heap.size + 1; omega) _).setCell (by show w.heap.size ≤ w.heap.size + 1; omega) _))
      · have hz' : zerosB (l.drop (32 + 224)) = false := by simpa using hz
        have hIB : Calls Tryd.prog 42 #[.slice (some ⟨g, off, none⟩) (0) (0)] v5 (fun e w' => e = .returned (.bool false) ∧ v5 = w') :=
          (IsBlank_any hblank (by simp; have := HL.out; omega)).mono fun e w' ⟨h1, h2⟩ => ⟨by rw [h1, hz'], h2⟩
        have hd3 : decE l = 3 := by rw [HDE.out, if_neg (fun h => hz (by rw [HSZQ.out] at h; exact h.2.1))]
        have HIB := Lib.hid hIB
        have HD3 := Lib.hid hd3
        clear hblank hIB hz hz' hd3
        go_wp2_with fail
        refine HIB.out.mono ?_
        rintro e v' ⟨rfl, rfl⟩
        go_wp2_with fail
        exact bodyPost_ret (v := .tuple #[.agg #[.int .i64 0, .int .i64 0, .int .i64 0, .int .i64 0, .int .i64 0, .slice none 0 0], .int .i64 3]) (by simp [results, Tryd.results21, go_sem, hy0, hy1, hy2, hy3, hy4, hy5]) rfl (DecPost.no HD3.out (by decide) ((((((HBV.out.setCell (by show w.heap.size ≤ w.heap.size + 1; omega) _).setCell (by show w.heap.size ≤ w.heap.size + 1; omega) _).setCell (by show w.heap.size ≤ w.heap.size + 1; omega) _).setCell (by show w.heap.size ≤ w.heap.size + 1; omega) _).setCell (by show w.heap.size ≤ w.heap.size + 1; omega) _).setCell (by show w.heap.size ≤ w.heap.size + 1; omega) _))
    · have hc32 : ¬ cap = 32 := by omega
      have hblank : BytesAt v5 (fun _ => True) (.slice (some ⟨g, off + (32 + sz), none⟩) (256 - (32 + sz)) (cap - (32 + sz))) (l.drop (32 + sz)) := by
        have hlv := HLV.out.any
        rw [← HL.out] at hlv
        have h1 := hlv.part (32 + sz) (256 - (32 + sz)) (cap - (32 + sz)) (by rw [HL.out]; omega) (by omega)
        rwa [List.take_of_length_le (by simp; have := HL.out; omega)] at h1
      by_cases hz : zerosB (l.drop (32 + sz)) = true
      · have hIB : Calls Tryd.prog 42 #[.slice (some ⟨g, off + (32 + sz), none⟩) (256 - (32 + sz)) (cap - (32 + sz))] v5 (fun e w' => e = .returned (.bool true) ∧ v5 = w') :=
          (IsBlank_any hblank (by simp; have := HL.out; omega)).mono fun e w' ⟨h1, h2⟩ => ⟨by rw [h1, hz], h2⟩
        have hlv := HLV.out
        rw [← HL.out] at hlv
        have hcl0 := hlv.part 32 sz (cap - 32) (by rw [HL.out]; omega) (by omega)
        have hcl : Calls Tryd.prog 53 #[.slice (some ⟨g, off + 32, none⟩) sz (cap - 32)] v5 (fun e w' => ∃ v, e = .returned v ∧ w'.ownsRow v5.heap.size 5 1 v (seg l 32 sz).length (bvs (seg l 32 sz)) ∧ Below v5.heap.size v5 w') := bytesClone_any hcl0 (by have := HSEG.out; omega)
        have HIB := Lib.hid hIB
        have HCL := Lib.hid hcl
        have HZ := Lib.hid hz
        clear hblank hIB hlv hcl0 hcl hz
        go_wp2_with fail
        refine HIB.out.mono ?_
        rintro e v' ⟨rfl, rfl⟩
        go_wp2_with fail
        refine HCL.out.mono ?_
        rintro e y ⟨cv, rfl, hO, hY⟩
        obtain ⟨ca, cc, rfl⟩ := ownsRow_form hO
        rw [HSEG.out] at hO ⊢
        have hTl := (Array.getElem?_eq_some_iff.1 HT6.out).1
        have hTy := (hY.block (w5.heap.size + 1) hTl).trans HT6.out
        have hRl := (Array.getElem?_eq_some_iff.1 HRV.out).1
        have hRy := (hY.block (w.heap.size + 1) hRl).trans HRV.out
        have hfy : ∀ j : Nat, y.frozen? ⟨w5.heap.size + 1, j, none⟩ = false := fun j => frozen_of_row _ _ _ _ _ hTy
        have hty0 : y.cell? ⟨w5.heap.size + 1, 0, none⟩ = some (.int .i64 (valN (seg l 24 2) : Nat)) := by rw [cell_of_row _ _ _ _ _ _ hTy]; rfl
        have hty1 : y.cell? ⟨w5.heap.size + 1, 1, none⟩ = some (.int .i64 (valN (seg l 16 4) : Nat)) := by rw [cell_of_row _ _ _ _ _ _ hTy]; rfl
        have hty2 : y.cell? ⟨w5.heap.size + 1, 2, none⟩ = some (.int .i64 (valN (seg l 20 4) : Nat)) := by rw [cell_of_row _ _ _ _ _ _ hTy]; rfl
        have hty3 : y.cell? ⟨w5.heap.size + 1, 3, none⟩ = some (.int .i64 (valN (seg l 26 2) : Nat)) := by rw [cell_of_row _ _ _ _ _ _ hTy]; rfl
        have hty4 : y.cell? ⟨w5.heap.size + 1, 4, none⟩ = some (.int .i64 (valN (seg l 28 2) : Nat)) := by rw [cell_of_row _ _ _ _ _ _ hTy]; rfl
        have hty5 : y.cell? ⟨w5.heap.size + 1, 5, none⟩ = some (.slice none 0 0) := by rw [cell_of_row _ _ _ _ _ _ hTy]; rfl
        obtain ⟨y2, hy2'⟩ : ∃ y2, y.setCell ⟨w5.heap.size + 1, 5, none⟩ (.slice ca sz cc) = y2 := ⟨_, rfl⟩
        have hT2 : y2.heap[w5.heap.size + 1]? = some (.cells #[.int .i64 (valN (seg l 24 2) : Nat), .int .i64 (valN (seg l 16 4) : Nat), .int .i64 (valN (seg l 20 4) : Nat), .int .i64 (valN (seg l 26 2) : Nat), .int .i64 (valN (seg l 28 2) : Nat), .slice ca sz cc] 25 (0, 0)) := by rw [← hy2']; exact heap_setCell_same _ _ 5 _ _ (.slice ca sz cc) hTy
        have hR2' : y2.heap[w.heap.size + 1]? = some (.cells #[.int .i64 0, .int .i64 0, .int .i64 0, .int .i64 0, .int .i64 0, .slice none 0 0] 25 (0, 0)) := by rw [← hy2', setCell_at _ _ _ _ _ (by omega)]; exact hRy
        have hc2 : Chg (fun k => k = w5.heap.size + 1) y y2 := by rw [← hy2']; exact Chg.setCell _ _ rfl
        have hO2 : y2.ownsRow v5.heap.size 5 1 (.slice ca sz cc) sz (bvs (seg l 32 sz)) := ownsRow_chg hO hc2 (fun k h1 _ h3 => by have : k = w5.heap.size + 1 := h3; omega)
        have hB2' : Below w.heap.size w y2 := (HBV.out.trans (hY.mono (by omega))).trans (hc2.below (fun k h => by omega) (by have := hY.size; omega))
        have hchk : Calls Tryd.prog 19 #[.agg #[.int .i64 (valN (seg l 24 2) : Nat), .int .i64 (valN (seg l 16 4) : Nat), .int .i64 (valN (seg l 20 4) : Nat), .int .i64 (valN (seg l 26 2) : Nat), .int .i64 (valN (seg l 28 2) : Nat), .slice ca sz cc]] y2 (fun e w' => e = .returned (.int .i64 (chkP (rawP l))) ∧ Below y2.heap.size y2 w') := check_at (rawP l) ca sz cc (by rw [HRB.out]; exact HSEG.out) y2
        have HCHK := Lib.hid hchk
        have HY2 := Lib.hid hy2'
        have HT2 := Lib.hid hT2
        have HRR2 := Lib.hid hR2'
        have HO2 := Lib.hid hO2
        have HBB2 := Lib.hid hB2'
        clear hO hY hTl hTy hRl hRy hy2' hT2 hR2' hc2 hO2 hB2' hchk
        go_wp2_with fail
        rw [HY2.out]
        clear hfy hty0 hty1 hty2 hty3 hty4 hty5 hy0 hy1 hy2 hy3 hy4 hy5 hr5 HY2
        have hr5 : True := trivial
        by_cases hk : chkP (rawP l) = 0
        · have hk2 : (chkP (rawP l) != 0) = false := by simp [hk]
          have hd0 : decE l = 0 := by rw [HDE.out, if_pos ⟨by rw [HSZQ.out]; omega, by rw [HSZQ.out]; exact HZ.out, hk⟩]
          have HD0 := Lib.hid hd0
          clear hk hd0
          refine HCHK.out.mono ?_
          rintro e z ⟨rfl, hZ⟩
          have hTz := (hZ.block _ (Array.getElem?_eq_some_iff.1 HT2.out).1).trans HT2.out
          have hRz := (hZ.block _ (Array.getElem?_eq_some_iff.1 HRR2.out).1).trans HRR2.out
          have htz0 : z.cell? ⟨w5.heap.size + 1, 0, none⟩ = some (.int .i64 (valN (seg l 24 2) : Nat)) := by rw [cell_of_row _ _ _ _ _ _ hTz]; rfl
          have htz1 : z.cell? ⟨w5.heap.size + 1, 1, none⟩ = some (.int .i64 (valN (seg l 16 4) : Nat)) := by rw [cell_of_row _ _ _ _ _ _ hTz]; rfl
          have htz2 : z.cell? ⟨w5.heap.size + 1, 2, none⟩ = some (.int .i64 (valN (seg l 20 4) : Nat)) := by rw [cell_of_row _ _ _ _ _ _ hTz]; rfl
          have htz3 : z.cell? ⟨w5.heap.size + 1, 3, none⟩ = some (.int .i64 (valN (seg l 26 2) : Nat)) := by rw [cell_of_row _ _ _ _ _ _ hTz]; rfl
          have htz4 : z.cell? ⟨w5.heap.size + 1, 4, none⟩ = some (.int .i64 (valN (seg l 28 2) : Nat)) := by rw [cell_of_row _ _ _ _ _ _ hTz]; rfl
          have htz5 : z.cell? ⟨w5.heap.size + 1, 5, none⟩ = some (.slice ca sz cc) := by rw [cell_of_row _ _ _ _ _ _ hTz]; rfl
          have hrz : ∀ j : Nat, z.frozen? ⟨w.heap.size + 1, j, none⟩ = false := fun j => frozen_of_row _ _ _ _ _ hRz
          have hz0 : z.cell? ⟨w.heap.size + 1, 0, none⟩ = some (.int .i64 0) := by rw [cell_of_row _ _ _ _ _ _ hRz]; rfl
          have hz1 : z.cell? ⟨w.heap.size + 1, 1, none⟩ = some (.int .i64 0) := by rw [cell_of_row _ _ _ _ _ _ hRz]; rfl
          have hz2 : z.cell? ⟨w.heap.size + 1, 2, none⟩ = some (.int .i64 0) := by rw [cell_of_row _ _ _ _ _ _ hRz]; rfl
          have hz3 : z.cell? ⟨w.heap.size + 1, 3, none⟩ = some (.int .i64 0) := by rw [cell_of_row _ _ _ _ _ _ hRz]; rfl
          have hz4 : z.cell? ⟨w.heap.size + 1, 4, none⟩ = some (.int .i64 0) := by rw [cell_of_row _ _ _ _ _ _ hRz]; rfl
          have hz5 : z.cell? ⟨w.heap.size + 1, 5, none⟩ = some (.slice none 0 0) := by rw [cell_of_row _ _ _ _ _ _ hRz]; rfl
          have hOz := own_kept HO2.out hZ
          have hBz := HBB2.out.trans (hZ.mono HBB2.out.size)
          have hvR : w.heap.size + 1 < v5.heap.size := (Array.getElem?_eq_some_iff.1 HRV.out).1
          have HOZ := Lib.hid hOz
          have HBZ := Lib.hid hBz
          clear hZ hTz hRz hOz hBz
          go_wp2_with fail
          refine bodyPost_ret (v := .tuple #[.agg #[.int .i64 (valN (seg l 24 2) : Nat), .int .i64 (valN (seg l 16 4) : Nat), .int .i64 (valN (seg l 20 4) : Nat), .int .i64 (valN (seg l 26 2) : Nat), .int .i64 (valN (seg l 28 2) : Nat), .slice ca sz cc], .int .i64 0]) (by simp [results, Tryd.results21, go_sem, hz0, hz1, hz2, hz3, hz4, hz5]) rfl ?_
          refine DecPost.yes HD0.out (by rw [HRB.out]; exact HSEG.out) ?_ ?_
          · rw [HRB.out]
            refine ownsRow_base (ownsRow_chg (G := fun k => k = w.heap.size + 1) HOZ.out (chg6 _ _ _ _ _ _ _ _) (fun k h1 _ h3 => by have : k = w.heap.size + 1 := h3; omega)) (by omega)
          · exact HBZ.out.trans ((chg6 _ _ _ _ _ _ _ _).below (fun k h => by have : k = w.heap.size + 1 := h; omega) HBZ.out.size)
        · have hk2 : (chkP (rawP l) != 0) = true := by simpa using hk
          have hd3 : decE l = 3 := by rw [HDE.out, if_neg (fun h => hk h.2.2)]
          have HD3 := Lib.hid hd3
          clear hk hd3
          refine HCHK.out.mono ?_
          rintro e z ⟨rfl, hZ⟩
          have hRz := (hZ.block _ (Array.getElem?_eq_some_iff.1 HRR2.out).1).trans HRR2.out
          have hrz : ∀ j : Nat, z.frozen? ⟨w.heap.size + 1, j, none⟩ = false := fun j => frozen_of_row _ _ _ _ _ hRz
          have hy0 : z.cell? ⟨w.heap.size + 1, 0, none⟩ = some (.int .i64 0) := by rw [cell_of_row _ _ _ _ _ _ hRz]; rfl
          have hy1 : z.cell? ⟨w.heap.size + 1, 1, none⟩ = some (.int .i64 0) := by rw [cell_of_row _ _ _ _ _ _ hRz]; rfl
          have hy2 : z.cell? ⟨w.heap.size + 1, 2, none⟩ = some (.int .i64 0) := by rw [cell_of_row _ _ _ _ _ _ hRz]; rfl
          have hy3 : z.cell? ⟨w.heap.size + 1, 3, none⟩ = some (.int .i64 0) := by rw [cell_of_row _ _ _ _ _ _ hRz]; rfl
          have hy4 : z.cell? ⟨w.heap.size + 1, 4, none⟩ = some (.int .i64 0) := by rw [cell_of_row _ _ _ _ _ _ hRz]; rfl
          have hy5 : z.cell? ⟨w.heap.size + 1, 5, none⟩ = some (.slice none 0 0) := by rw [cell_of_row _ _ _ _ _ _ hRz]; rfl
          have hBz := HBB2.out.trans (hZ.mono HBB2.out.size)
          have HBZ := Lib.hid hBz
          clear hZ hRz hBz
          go_wp2_with fail
          exact bodyPost_ret (v := .tuple #[.agg #[.int .i64 0, .int .i64 0, .int .i64 0, .int .i64 0, .int .i64 0, .slice none 0 0], .int .i64 3]) (by simp [results, Tryd.results21, go_sem, hy0, hy1, hy2, hy3, hy4, hy5]) rfl (DecPost.no HD3.out (by decide) ((((((HBZ.out.setCell (by show w.heap.size ≤ w.heap.size + 1; omega) _).setCell (by show w.heap.size ≤ w.heap.size + 1; omega) _).setCell (by show w.heap.size ≤ w.heap.size + 1; omega) _).setCell (by show w.heap.size ≤ w.heap.size + 1; omega) _).setCell (by show w.heap.size ≤ w.heap.size + 1; omega) _).setCell (by show w.heap.size ≤ w.heap.size + 1; omega) _))
      · have hz' : zerosB (l.drop (32 + sz)) = false := by simpa using hz
        have hIB : Calls Tryd.prog 42 #[.slice (some ⟨g, off + (32 + sz), none⟩) (256 - (32 + sz)) (cap - (32 + sz))] v5 (fun e w' => e = .returned (.bool false) ∧ v5 = w') :=
          (IsBlank_any hblank (by simp; have := HL.out; omega)).mono fun e w' ⟨h1, h2⟩ => ⟨by rw [h1, hz'], h2⟩
        have hd3 : decE l = 3 := by rw [HDE.out, if_neg (fun h => hz (by rw [HSZQ.out] at h; exact h.2.1))]
        have HIB := Lib.hid hIB
        have HD3 := Lib.hid hd3
        clear hblank hIB hz hz' hd3
        go_wp2_with fail
        refine HIB.out.mono ?_
        rintro e v' ⟨rfl, rfl⟩
        go_wp2_with fail
        exact bodyPost_ret (v := .tuple #[.agg #[.int .i64 0, .int .i64 0, .int .i64 0, .int .i64 0, .int .i64 0, .slice none 0 0], .int .i64 3]) (by simp [results, Tryd.results21, go_sem, hy0, hy1, hy2, hy3, hy4, hy5]) rfl (DecPost.no HD3.out (by decide) ((((((HBV.out.setCell (by show w.heap.size ≤ w.heap.size + 1; omega) _).setCell (by show w.heap.size ≤ w.heap.size + 1; omega) _).setCell (by show w.heap.size ≤ w.heap.size + 1; omega) _).setCell (by show w.heap.size ≤ w.heap.size + 1; omega) _).setCell (by show w.heap.size ≤ w.heap.size + 1; omega) _).setCell (by show w.heap.size ≤ w.heap.size + 1; omega) _))

end Go.Proofs.YtloaenknhkfaeaaDoor
