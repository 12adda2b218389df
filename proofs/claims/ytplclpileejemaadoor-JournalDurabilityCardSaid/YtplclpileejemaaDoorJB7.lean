/- Records: EncodePart; Records: bytes.Equal, bytes.Clone; Records: DecodePart; The reference's SHA-256: rotate, the constants, the padding; The reference's SHA-256: the padding; The reference's SHA-256: the schedule of a block; The reference's SHA-256: Sum. -/
import Derived.Test.YtplclpileejemaaDoorJB6
import Derived.Outline
import Derived.Deep.QuietTactic
import Derived.BigQuiet
import Derived.Deep.Cut
namespace Go.Proofs.YtplclpileejemaaDoor
open Go.RowKit
set_option linter.unusedVariables false
set_option linter.unusedSimpArgs false

def hdrZ (X : List UInt8) : List UInt8 := List.replicate 16 0 ++ X ++ List.replicate (16 - X.length) 0
theorem hdrZ_length (X : List UInt8) (h : X.length ≤ 16) : (hdrZ X).length = 32 := by simp [hdrZ]; omega
theorem hdrZ_splice (X c : List UInt8) (h : X.length + c.length ≤ 16) : spliceL (hdrZ X) (16 + X.length) c = hdrZ (X ++ c) := by
  unfold spliceL hdrZ
  have h1 : (List.replicate 16 (0 : UInt8) ++ X).length = 16 + X.length := by rw [List.length_append, List.length_replicate]
  have e1 : (List.replicate 16 (0 : UInt8) ++ X ++ List.replicate (16 - X.length) 0).take (16 + X.length) = List.replicate 16 0 ++ X := List.take_left' h1
  have e2 : (List.replicate 16 (0 : UInt8) ++ X ++ List.replicate (16 - X.length) 0).drop (16 + X.length + c.length) = List.replicate (16 - (X ++ c).length) 0 := by
    rw [List.drop_append, h1, List.drop_of_length_le (by rw [h1]; omega), List.nil_append, List.drop_replicate]
    congr 1
    simp; omega
  rw [e1, e2]
  simp
theorem put_hdr (n size h at_ : Nat) (X : List UInt8) (hn : n < 4611686018427387904) (hs : size ≤ 4) (hi : X.length + size ≤ 16) (hne : h ≠ at_) {w : World} (hw : hdrAt w h at_ (hdrZ X) (16 + X.length)) :
    Calls Tryd.prog 75 #[.int .i64 (n : Int), .int .i64 (size : Int), .pointer (some ⟨h, 0, none⟩), .pointer (some ⟨at_, 0, none⟩)] w fun e w' =>
      e = .returned (.tuple #[]) ∧ hdrAt w' h at_ (hdrZ (X ++ beL size n)) (16 + (X ++ beL size n).length) ∧ Chg (fun k => k = h ∨ k = at_) w w' := by
  refine (put_any n size (16 + X.length) h at_ (hdrZ X) hn hs (by omega) (hdrZ_length X (by omega)) hne hw).mono fun e w' ⟨h1, h2, h3⟩ => ⟨h1, ?_, h3⟩
  rw [hdrZ_splice X _ (by simpa using hi)] at h2
  simpa [Nat.add_assoc] using h2
theorem check_at (p : PartD) (a : Option Addr) (len cap : Nat) (h : p.bytes.length = len) (w : World) : Calls Tryd.prog 66 #[.agg #[.int .i64 p.kind, .int .i64 p.gen, .int .i64 p.num, .int .i64 p.idx, .int .i64 p.cnt, .slice a len cap]] w fun e w' => e = .returned (.int .i64 (chkP p)) ∧ Below w.heap.size w w' := by
  subst h
  exact check_any p.kind p.gen p.num p.idx p.cnt a p.bytes.length cap w

def z256 : List UInt8 := List.replicate 256 0
theorem z256_length : z256.length = 256 := List.length_replicate
theorem mk256 : ∀ w, (Instr.makeSlice 36 (.int .i64 256) (.int .i64 256)).run Tryd.prog w = .ok (.slice (some ⟨w.heap.size, 0, none⟩) 256 256) (w.alloc (.cells (bvs z256).toArray 5)) := fun _ => by kernel_rfl
theorem slice_arr32 (g : Nat) (w : World) : (Instr.sliceAt 129 (.pointer (some ⟨g, 0, none⟩)) none none none).run Tryd.prog w = .ok (.slice (some ⟨g, 0, none⟩) 32 32) w := by
  simp [Instr.sliceAt, run_underlying Tryd.underlying129, Instr.sureAddr, Instr.sliceBounds, Instr.sliceBound, asIntOf, size_u8]
  rfl
theorem slice_half (g : Nat) (w : World) : (Instr.sliceAt 114 (.pointer (some ⟨g, 0, none⟩)) none none none).run Tryd.prog w = .ok (.slice (some ⟨g, 0, none⟩) 16 16) w := by
  simp [Instr.sliceAt, run_underlying Tryd.underlying114, Instr.sureAddr, Instr.sliceBounds, Instr.sliceBound, asIntOf, size_u8]
  rfl
/-- A block of bytes as a slice. -/
theorem block_bytes {w : World} {g : Nat} {l : List UInt8} {T : TypeId} (h : w.heap[g]? = some (.cells (bvs l).toArray T (0, 0))) (i n c : Nat) (hn : i + n ≤ l.length) (hc : n ≤ c) :
    BytesAt w (fun k => k = g) (.slice (some ⟨g, i, none⟩) n c) ((l.drop i).take n) := by
  have h0 : BytesAt w (fun k => k = g) (.slice (some ⟨g, 0, none⟩) l.length l.length) l :=
    ⟨some ⟨g, 0, none⟩, l.length, rfl, Nat.le_refl _, fun _ => ⟨g, 0, rfl, rfl, (Array.getElem?_eq_some_iff.1 h).1, fun j u hu => by rw [cell_of_row w _ _ _ _ _ h, Nat.zero_add]; simpa using hu⟩⟩
  have h1 := h0.part i n c hn hc
  rwa [Nat.zero_add] at h1
/-- The 256 bytes: zeros, the header, the bytes, the digest. -/
theorem enc_assemble {p : PartD} (h : p.bytes.length ≤ 224) :
    spliceL (spliceL (spliceL z256 0 (hdrZ (hdrL p))) 32 p.bytes) 0 (halfL ((spliceL (spliceL z256 0 (hdrZ (hdrL p))) 32 p.bytes).drop 16)) = encL p := by
  have e1 : spliceL z256 0 (hdrZ (hdrL p)) = List.replicate 16 0 ++ (hdrL p ++ List.replicate 224 0) := by
    unfold spliceL
    rw [hdrZ_length _ (by simp)]
    simp [hdrZ, z256]
  have e2 : spliceL (List.replicate 16 0 ++ (hdrL p ++ List.replicate 224 0)) 32 p.bytes = List.replicate 16 0 ++ restL p := by
    unfold spliceL
    have h1 : (List.replicate 16 (0 : UInt8) ++ hdrL p).length = 32 := by simp
    rw [← List.append_assoc, List.take_left' h1, List.drop_append, h1, List.drop_of_length_le (by rw [h1]; omega), List.nil_append, List.drop_replicate]
    have h2 : 224 - (32 + p.bytes.length - 32) = 224 - p.bytes.length := by omega
    rw [h2]
    simp [restL]
  rw [e1, e2, encL_rest h]
  have e3 : (List.replicate 16 (0 : UInt8) ++ restL p).drop 16 = restL p := by simp
  rw [e3]
  unfold spliceL
  simp

set_option maxRecDepth 100000 in
set_option maxHeartbeats 2000000 in
theorem EncodePart_no {w : World} (p : PartD) (a : Option Addr) (len cap : Nat) (hl : p.bytes.length = len) (h : chkP p ≠ 0) :
    Calls Tryd.prog 70 #[.agg #[.int .i64 p.kind, .int .i64 p.gen, .int .i64 p.num, .int .i64 p.idx, .int .i64 p.cnt, .slice a len cap]] w fun e w' =>
      e = .returned (.tuple #[.slice none 0 0, .int .i64 (chkP p)]) ∧ Below w.heap.size w w' := by
  have hc := check_at p a len cap hl
  have hb1 : (chkP p != 0) = true := by simpa using h
  have HC := Lib.hid hc
  clear hc h hl
  go_enter Tryd.func70, Tryd.ntmps70
  go_wp2_with fail
  refine (HC.out _).mono ?_
  rintro e w1 ⟨rfl, hb1⟩
  go_wp2_with fail
  go_ret2
  exact ⟨rfl, ((Below.refl _ _).alloc (Nat.le_refl _) _).trans (hb1.mono (by simp))⟩

set_option maxRecDepth 100000 in
set_option maxHeartbeats 2000000 in
theorem EncodePart_ok {w : World} (p : PartD) (a : Option Addr) (len cap : Nat) {F : Nat → Prop} (hv : BytesAt w F (.slice a len cap) p.bytes) (hl : p.bytes.length = len) (hK : KAt w) (h : chkP p = 0) :
    Calls Tryd.prog 70 #[.agg #[.int .i64 p.kind, .int .i64 p.gen, .int .i64 p.num, .int .i64 p.idx, .int .i64 p.cnt, .slice a len cap]] w fun e w' =>
      ∃ v, e = .returned (.tuple #[v, .int .i64 0]) ∧ w'.ownsRow w.heap.size 5 1 v 256 (bvs (encL p)) ∧ Below w.heap.size w w' := by
  have hc := check_at p a len cap hl
  have hok := chkP_ok h
  rw [h] at hc
  have hasm := enc_assemble (p := p) hok.len
  obtain ⟨k', g', n', i', c', l⟩ := p
  obtain ⟨a1, a2, a3, a4, a5, a6, a7, a8, a9, a10, a11, x1, x2⟩ := hok
  clear x1 x2
  simp only at *
  obtain ⟨k, rfl⟩ := Int.eq_ofNat_of_zero_le a1
  obtain ⟨g, rfl⟩ := Int.eq_ofNat_of_zero_le a3
  obtain ⟨n, rfl⟩ := Int.eq_ofNat_of_zero_le a5
  obtain ⟨i, rfl⟩ := Int.eq_ofNat_of_zero_le a9
  obtain ⟨c, rfl⟩ := Int.eq_ofNat_of_zero_le (by omega : (0 : Int) ≤ c')
  have b1 : k ≤ 65535 := by omega
  have b2 : g ≤ 2147483647 := by omega
  have b3 : n ≤ 2147483647 := by omega
  have b4 : i < 586 := by omega
  have b5 : c ≤ 586 := by omega
  have b6 : len ≤ 224 := by omega
  have HA := Lib.hid hasm
  have HC := Lib.hid hc
  have HL := Lib.hid hl
  have HV := Lib.hid hv
  have HK := Lib.hid hK
  clear hasm hc h hl hv hK a1 a2 a3 a4 a5 a6 a7 a8 a9 a10 a11
  go_enter Tryd.func70, Tryd.ntmps70
  go_wp2_with fail
  refine (HC.out _).mono ?_
  rintro e w1 ⟨rfl, hb1⟩
  have hbx : w1.heap[w.heap.size]? = some (.cells #[.int .i64 k, .int .i64 g, .int .i64 n, .int .i64 i, .int .i64 c, .slice a len cap] 101 (0, 0)) := (hb1.block _ (by simp)).trans (heap_alloc_new _ _)
  have hz1 := hb1.size
  rw [World.size_alloc] at hz1
  have hzl : w.heap.size < w1.heap.size := hz1
  have hx1 : w1.cell? ⟨w.heap.size, 1, none⟩ = some (.int .i64 g) := by rw [cell_of_row _ _ _ _ _ _ hbx]; rfl
  have hb2 : Below w.heap.size w w1 := ((Below.refl _ _).alloc (Nat.le_refl _) _).trans (hb1.mono (by simp))
  have HB := Lib.hid hb2
  have HBX := Lib.hid hbx
  obtain ⟨w2, hw2⟩ : ∃ w2, (w1.alloc (.cells #[.int .u8 0, .int .u8 0, .int .u8 0, .int .u8 0, .int .u8 0, .int .u8 0, .int .u8 0, .int .u8 0, .int .u8 0, .int .u8 0, .int .u8 0, .int .u8 0, .int .u8 0, .int .u8 0, .int .u8 0, .int .u8 0, .int .u8 0, .int .u8 0, .int .u8 0, .int .u8 0, .int .u8 0, .int .u8 0, .int .u8 0, .int .u8 0, .int .u8 0, .int .u8 0, .int .u8 0, .int .u8 0, .int .u8 0, .int .u8 0, .int .u8 0, .int .u8 0] 129)).alloc (.cells #[.int .i64 16] 3) = w2 := ⟨_, rfl⟩
  have hb3 : Below w1.heap.size w1 w2 := hw2 ▸ ((Below.refl _ w1).alloc (Nat.le_refl _) _).alloc (by simp) _
  have hh2 : hdrAt w2 w1.heap.size (w1.heap.size + 1) (hdrZ []) (16 + ([] : List UInt8).length) := by
    rw [← hw2]
    refine ⟨(Below.heap_alloc _ _ _ (by simp)).trans (heap_alloc_new _ _), ?_⟩
    have := heap_alloc_new (w1.alloc (.cells #[.int .u8 0, .int .u8 0, .int .u8 0, .int .u8 0, .int .u8 0, .int .u8 0, .int .u8 0, .int .u8 0, .int .u8 0, .int .u8 0, .int .u8 0, .int .u8 0, .int .u8 0, .int .u8 0, .int .u8 0, .int .u8 0, .int .u8 0, .int .u8 0, .int .u8 0, .int .u8 0, .int .u8 0, .int .u8 0, .int .u8 0, .int .u8 0, .int .u8 0, .int .u8 0, .int .u8 0, .int .u8 0, .int .u8 0, .int .u8 0, .int .u8 0, .int .u8 0] 129)) (.cells #[.int .i64 16] 3)
    rw [World.size_alloc] at this
    exact this
  have HB3 := Lib.hid hb3
  have HH0 := Lib.hid hh2
  have HW2 := Lib.hid hw2
  have hc2 : Chg (fun k => k = w1.heap.size ∨ k = w1.heap.size + 1) w1 w2 := Chg.of_below hb3
  have HG0 := Lib.hid hc2
  clear hb1 hb2 hbx hw2 hh2 hb3 hc2
  go_wp2_with fail
  rw [HW2.out]
  have hput0 := put_hdr g 4 w1.heap.size (w1.heap.size + 1) [] (by omega) (by omega) (by simp) (by omega) HH0.out
  rw [List.nil_append] at hput0
  refine hput0.mono ?_
  clear hput0
  rintro e v0 ⟨rfl, hh, hc⟩
  have HH1 := Lib.hid hh
  have hcc := HG0.out.trans hc (fun _ h => .inl h)
  have HG1 := Lib.hid hcc
  have hbx := (hcc.block _ hzl (by omega)).trans HBX.out
  have hx0_2 : v0.cell? ⟨w.heap.size, 2, none⟩ = some (.int .i64 n) := by rw [cell_of_row _ _ _ _ _ _ hbx]; rfl
  clear hh hc hcc hbx
  go_wp2_with fail
  have hput1 := put_hdr n 4 w1.heap.size (w1.heap.size + 1) (beL 4 g) (by omega) (by omega) (by simp) (by omega) HH1.out
  refine hput1.mono ?_
  clear hput1
  rintro e v1 ⟨rfl, hh, hc⟩
  have HH2 := Lib.hid hh
  have hcc := HG1.out.trans hc (fun _ h => .inl h)
  have HG2 := Lib.hid hcc
  have hbx := (hcc.block _ hzl (by omega)).trans HBX.out
  have hx1_0 : v1.cell? ⟨w.heap.size, 0, none⟩ = some (.int .i64 k) := by rw [cell_of_row _ _ _ _ _ _ hbx]; rfl
  clear hh hc hcc hbx
  go_wp2_with fail
  have hput2 := put_hdr k 2 w1.heap.size (w1.heap.size + 1) ((beL 4 g) ++ beL 4 n) (by omega) (by omega) (by simp) (by omega) HH2.out
  refine hput2.mono ?_
  clear hput2
  rintro e v2 ⟨rfl, hh, hc⟩
  have HH3 := Lib.hid hh
  have hcc := HG2.out.trans hc (fun _ h => .inl h)
  have HG3 := Lib.hid hcc
  have hbx := (hcc.block _ hzl (by omega)).trans HBX.out
  have hx2_3 : v2.cell? ⟨w.heap.size, 3, none⟩ = some (.int .i64 i) := by rw [cell_of_row _ _ _ _ _ _ hbx]; rfl
  clear hh hc hcc hbx
  go_wp2_with fail
  have hput3 := put_hdr i 2 w1.heap.size (w1.heap.size + 1) (((beL 4 g) ++ beL 4 n) ++ beL 2 k) (by omega) (by omega) (by simp) (by omega) HH3.out
  refine hput3.mono ?_
  clear hput3
  rintro e v3 ⟨rfl, hh, hc⟩
  have HH4 := Lib.hid hh
  have hcc := HG3.out.trans hc (fun _ h => .inl h)
  have HG4 := Lib.hid hcc
  have hbx := (hcc.block _ hzl (by omega)).trans HBX.out
  have hx3_4 : v3.cell? ⟨w.heap.size, 4, none⟩ = some (.int .i64 c) := by rw [cell_of_row _ _ _ _ _ _ hbx]; rfl
  clear hh hc hcc hbx
  go_wp2_with fail
  have hput4 := put_hdr c 2 w1.heap.size (w1.heap.size + 1) ((((beL 4 g) ++ beL 4 n) ++ beL 2 k) ++ beL 2 i) (by omega) (by omega) (by simp) (by omega) HH4.out
  refine hput4.mono ?_
  clear hput4
  rintro e v4 ⟨rfl, hh, hc⟩
  have HH5 := Lib.hid hh
  have hcc := HG4.out.trans hc (fun _ h => .inl h)
  have HG5 := Lib.hid hcc
  have hbx := (hcc.block _ hzl (by omega)).trans HBX.out
  have hx4_5 : v4.cell? ⟨w.heap.size, 5, none⟩ = some (.slice a len cap) := by rw [cell_of_row _ _ _ _ _ _ hbx]; rfl
  clear hh hc hcc hbx
  go_wp2_with fail
  have hput5 := put_hdr len 2 w1.heap.size (w1.heap.size + 1) (((((beL 4 g) ++ beL 4 n) ++ beL 2 k) ++ beL 2 i) ++ beL 2 c) (by omega) (by omega) (by simp) (by omega) HH5.out
  refine hput5.mono ?_
  clear hput5
  rintro e v5 ⟨rfl, hh, hc⟩
  have HH6 := Lib.hid hh
  have hcc := HG5.out.trans hc (fun _ h => .inl h)
  have HG6 := Lib.hid hcc
  have hbx := (hcc.block _ hzl (by omega)).trans HBX.out
  have hs5 := hcc.size
  clear hh hc hcc hbx
  have hX : ((((((beL 4 g) ++ beL 4 n) ++ beL 2 k) ++ beL 2 i) ++ beL 2 c) ++ beL 2 len) = hdrL ⟨k, g, n, i, c, l⟩ := by
    unfold hdrL
    rw [← HL.out]
    rfl
  have hh6 := HH6.out
  rw [hX] at hh6
  obtain ⟨w4, hw4⟩ : ∃ w4, v5.alloc (.cells (bvs z256).toArray 5) = w4 := ⟨_, rfl⟩
  have hb4 : Below v5.heap.size v5 w4 := hw4 ▸ (Below.refl _ _).alloc (Nat.le_refl _) _
  have hn4 : w4.heap[v5.heap.size]? = some (.cells (bvs z256).toArray 5 (0, 0)) := by rw [← hw4]; exact heap_alloc_new _ _
  have hzz : w1.heap.size + 1 < v5.heap.size := (Array.getElem?_eq_some_iff.1 hh6.2).1
  have hh4 := (hb4.block w1.heap.size (by omega)).trans hh6.1
  have hbh := block_bytes hh4 0 32 32 (by rw [hdrZ_length _ (by simp)]; omega) (Nat.le_refl _)
  rw [List.drop_zero, List.take_of_length_le (by rw [hdrZ_length _ (by simp)]; omega)] at hbh
  have hmk := mk256
  have hsl := fun w => slice_arr32 w1.heap.size w
  have hcc5 := HG6.out.trans (Chg.of_below (F := fun k => False) hb4) (fun _ h => h.elim)
  have hbx4 := (hcc5.block _ hzl (by omega)).trans HBX.out
  have HB4 := Lib.hid hb4
  have HN4 := Lib.hid hn4
  have HW4 := Lib.hid hw4
  have HBH := Lib.hid hbh
  have HC5 := Lib.hid hcc5
  have HBX4 := Lib.hid hbx4
  have hs4 := hb4.size
  clear hX hh6 hb4 hn4 hw4 hh4 hbh hcc5 hbx4 HH0 HH1 HH2 HH3 HH4 HH5 HH6 HG0 HG1 HG2 HG3 HG4 HG5 HG6
  go_wp2_with (rw [HW4.out]; with_reducible refine wpList_copyBytes rfl (.tmp 42) (.tmp 43) rfl rfl rfl HBH.out HN4.out ?hf ?_)
  case hf => rw [hdrZ_length _ (by simp), z256_length]; omega
  intro w5 hn5 hc5
  have ht : (hdrZ (hdrL ⟨k, g, n, i, c, l⟩)).take 256 = hdrZ (hdrL ⟨k, g, n, i, c, l⟩) := List.take_of_length_le (by rw [hdrZ_length _ (by simp)]; omega)
  rw [ht] at hn5
  have hcc6 := HC5.out.trans hc5 (fun k h => .inr (by omega))
  have hbx5 := (hcc6.block _ hzl (by omega)).trans HBX.out
  have hx5 : w5.cell? ⟨w.heap.size, 5, none⟩ = some (.slice a len cap) := by rw [cell_of_row _ _ _ _ _ _ hbx5]; rfl
  have hbl : BytesAt w5 (fun k => k < w.heap.size) (.slice a len cap) l := by
    have h1 := (HV.out.mono' (G := fun k => k < w.heap.size) (fun k hk _ => hk)).below HB.out
    exact h1.kept hcc6 (fun k hk => by omega)
  have hq5 := hc5.size
  have HN5 := Lib.hid hn5
  have HC6 := Lib.hid hcc6
  have HBL := Lib.hid hbl
  clear ht hn5 hc5 hcc6 hbx5 hbl HN4 HB4 HW4 HBH HC5 HBX4 HW2 HB3
  go_wp2_with fail
  go_still_tail 4, (by kernel_rfl)
  obtain ⟨w6, hw6⟩ : ∃ w6 : World, { w5 with drawn := w5.drawn + 1 } = w6 := ⟨_, rfl⟩
  have hn6 : w6.heap[v5.heap.size]? = some (.cells (bvs (spliceL z256 0 (hdrZ (hdrL ⟨k, g, n, i, c, l⟩)))).toArray 5 (0, 0)) := by rw [← hw6]; exact HN5.out
  have hc6 : Chg (fun k => k = w1.heap.size ∨ k = w1.heap.size + 1) w1 w6 := by rw [← hw6]; exact HC6.out.drew
  have hb6 : BytesAt w6 (fun k => k < w.heap.size) (.slice a len cap) l := HBL.out.kept (F := fun k => k < w.heap.size) (G := fun _ => False) (by rw [← hw6]; exact (Chg.refl _ _).drew) (fun _ _ h => h)
  have hq6 : w6.heap.size = w5.heap.size := by rw [← hw6]
  have hlz : (spliceL z256 0 (hdrZ (hdrL ⟨k, g, n, i, c, l⟩))).length = 256 := by rw [spliceL_length _ _ _ (by rw [hdrZ_length _ (by simp), z256_length]; omega), z256_length]
  rw [hw6]
  clear hw6
  have HN6 := Lib.hid hn6
  have HC6' := Lib.hid hc6
  have HB6 := Lib.hid hb6
  clear hn6 hc6 hb6 hx5
  refine wpList_copyBytes rfl (.tmp 46) (.tmp 48) rfl rfl rfl HB6.out HN6.out ?hf2 ?_
  case hf2 => rw [hlz, HL.out]; omega
  intro w7 hn7 hc7
  have ht : l.take 224 = l := List.take_of_length_le (by rw [HL.out]; omega)
  rw [ht] at hn7
  have hq8 := (Array.getElem?_eq_some_iff.1 hn7).1
  obtain ⟨Y, hY⟩ : ∃ Y, spliceL (spliceL z256 0 (hdrZ (hdrL ⟨k, g, n, i, c, l⟩))) 32 l = Y := ⟨_, rfl⟩
  have hYl : Y.length = 256 := by rw [← hY, spliceL_length _ _ _ (by rw [hlz, HL.out]; omega), hlz]
  rw [hY] at hn7
  have hcc7 := HC6'.out.trans hc7 (fun k h => .inr (by omega))
  have hbd7 : Below w.heap.size w w7 := HB.out.trans (hcc7.below (fun k h => by omega) (by omega))
  have hka := HK.out.below hbd7 HK.out.size
  have hq7 := hc7.size
  have hbs := block_bytes hn7 16 240 240 (by omega) (Nat.le_refl _)
  rw [List.take_of_length_le (by simp; omega)] at hbs
  obtain ⟨w8, hw8⟩ : ∃ w8, w8 = w7 := ⟨_, rfl⟩
  have hsum : Calls Tryd.prog 62 #[.slice (some ⟨v5.heap.size, 16, none⟩) 240 240] w7 (fun e w' => e = .returned (.agg (bvs (halfL (Y.drop 16))).toArray) ∧ Below w7.heap.size w7 w') := SumHalf_any _ _ hbs hka (by simp; omega)
  have HSUM := Lib.hid hsum
  have HN7 := Lib.hid hn7
  have HBD7 := Lib.hid hbd7
  have HY := Lib.hid hY
  have HYL := Lib.hid hYl
  clear ht hn7 hc7 hcc7 hbd7 hka hbs hw8 w8 hsum hY hYl hlz HN6 HC6' HB6 HN5 HC6 HBL
  go_wp2_with fail
  refine HSUM.out.mono ?_
  rintro e w8 ⟨rfl, hb8⟩
  have hn8 := (hb8.block v5.heap.size (by omega)).trans HN7.out
  have hb8' := HBD7.out.trans (hb8.mono HBD7.out.size)
  obtain ⟨w9, hw9⟩ : ∃ w9, w8.alloc (.cells (bvs (halfL (Y.drop 16))).toArray 114) = w9 := ⟨_, rfl⟩
  have hb9 : Below w8.heap.size w8 w9 := hw9 ▸ (Below.refl _ _).alloc (Nat.le_refl _) _
  have hn9 := (hb9.block v5.heap.size (by have := hb8.size; omega)).trans hn8
  have hm9 : w9.heap[w8.heap.size]? = some (.cells (bvs (halfL (Y.drop 16))).toArray 114 (0, 0)) := by rw [← hw9]; exact heap_alloc_new _ _
  have hnw := heap_alloc_new w8 (.cells #[.int .u8 0, .int .u8 0, .int .u8 0, .int .u8 0, .int .u8 0, .int .u8 0, .int .u8 0, .int .u8 0, .int .u8 0, .int .u8 0, .int .u8 0, .int .u8 0, .int .u8 0, .int .u8 0, .int .u8 0, .int .u8 0] 114)
  have hszh := hSize (Y.drop 16)
  have hzsh : (#[.int .u8 0, .int .u8 0, .int .u8 0, .int .u8 0, .int .u8 0, .int .u8 0, .int .u8 0, .int .u8 0, .int .u8 0, .int .u8 0, .int .u8 0, .int .u8 0, .int .u8 0, .int .u8 0, .int .u8 0, .int .u8 0] : Array Value).size = (bvs (halfL (Y.drop 16))).toArray.size := by
    show 16 = _
    rw [List.size_toArray, bvs_length, halfL_length]
  have hsl2 := fun w => slice_half w8.heap.size w
  have hbh := block_bytes hm9 0 16 16 (by simp) (Nat.le_refl _)
  rw [List.drop_zero, List.take_of_length_le (by simp)] at hbh
  have hbd9 := hb8'.trans (hb9.mono hb8'.size)
  have HSZ := Lib.hid hszh
  have HZS := Lib.hid hzsh
  have HNW := Lib.hid hnw
  have HW9 := Lib.hid hw9
  have HN9 := Lib.hid hn9
  have HBH := Lib.hid hbh
  have HBD9 := Lib.hid hbd9
  clear hb8 hn8 hb8' hw9 hb9 hn9 hm9 hnw hszh hzsh hbh hbd9
  go_wp2_with (first | (with_reducible refine wpList_store_row rfl 114 _ _ rfl w8.heap.size (bvs (halfL (Y.drop 16))).toArray rfl rfl 114 _ HNW.out HSZ.out HZS.out (oneCell_bvs _) ?_; rw [World.setRow_alloc_new, HW9.out]) | (with_reducible refine wpList_copyBytes rfl (.tmp 53) (.tmp 54) rfl rfl rfl HBH.out HN9.out ?hf3 ?_))
  case hf3 => rw [halfL_length, HYL.out]; omega
  intro w10 hn10 hc10
  have ht : (halfL (Y.drop 16)).take 256 = halfL (Y.drop 16) := List.take_of_length_le (by simp)
  rw [ht, ← HY.out, HA.out] at hn10
  have hbd10 := HBD9.out.trans (hc10.below (B := w.heap.size) (fun k h => by omega) HBD9.out.size)
  have HN10 := Lib.hid hn10
  have HBD10 := Lib.hid hbd10
  clear ht hn10 hc10 hbd10
  go_wp2_with fail
  go_ret2
  exact ⟨_, rfl, ⟨by rw [bvs_length, encL_length], .inr ⟨v5.heap.size, 256, _, rfl, by omega, HN10.out, Nat.le_refl _, by decide, by rw [List.size_toArray, bvs_length, encL_length], List.take_of_length_le (by rw [bvs_length, encL_length]; exact Nat.le_refl _)⟩⟩, HBD10.out⟩

end Go.Proofs.YtplclpileejemaaDoor

namespace Go.Proofs.YtplclpileejemaaDoor
open Go.RowKit
set_option linter.unusedVariables false
set_option linter.unusedSimpArgs false

set_option maxHeartbeats 1000000 in
theorem bytesEqual_any {w : World} {F G : Nat → Prop} {v u : Value} {l m : List UInt8} (hv : BytesAt w F v l) (hu : BytesAt w G u m) :
    Calls Tryd.prog 63 #[v, u] w fun e w' => e = .returned (.bool (l == m)) ∧ w = w' := by
  have h1 := hv.str
  have h2 := hu.str
  clear hv hu
  go_enter Tryd.func63, Tryd.ntmps63
  go_wp2_with fail
  go_ret
  exact ⟨rfl, rfl⟩

set_option maxHeartbeats 1000000 in
theorem bytesClone_any {w : World} {F : Nat → Prop} {l : List UInt8} {g off n cap : Nat} (hv : BytesAt w F (.slice (some ⟨g, off, none⟩) n cap) l) (hl : l.length ≤ 1000000000) :
    Calls Tryd.prog 40 #[.slice (some ⟨g, off, none⟩) n cap] w fun e w' => ∃ v, e = .returned v ∧ w'.ownsRow w.heap.size 5 1 v l.length (bvs l) ∧ Below w.heap.size w w' := by
  have hnil := fun (w : World) => Lib.run_eql_slice_nil (P := Tryd.prog) w 36 5 (some ⟨g, off, none⟩) n cap 0 0 Tryd.underlying36
  have hba : Below w.heap.size w (w.alloc (.cells #[] 5)) := (Below.refl _ _).alloc (Nat.le_refl _) _
  have hbv := hv.below hba
  have ho := own_zero (w := w) (Nat.le_refl _) 5
  have hbs : w.heap.size ≤ (w.alloc (.cells #[] 5)).heap.size := hba.size
  have hnc : ∀ k c, Value.slice (some ⟨g, off, none⟩) n cap = .slice none k c → c = 0 := by intro k c e; cases e
  have HBA := Lib.hid hba
  have HBV := Lib.hid hbv
  have HO := Lib.hid ho
  have HBS := Lib.hid hbs
  have HNC := Lib.hid hnc
  have HL := Lib.hid hl
  clear hv hba hbv ho hbs hnc hl
  go_enter Tryd.func40, Tryd.ntmps40
  go_wp2_with (at_builtin; refine wpList_appBytes (xs := []) rfl (.tmp 5) (.tmp 6) rfl rfl HO.out rfl HBV.out HNC.out ?hn HBS.out ?_)
  case hn => have := HL.out; omega
  intro a' cap' w3 hO3 hg3
  have hB3 : Below w.heap.size w w3 := HBA.out.grown hg3 HBS.out (fun j hj => by cases hj; exact Nat.le_refl _)
  have HO3 := Lib.hid hO3
  have HB3 := Lib.hid hB3
  clear hO3 hg3 hB3
  go_wp2_with fail
  go_ret
  exact ⟨_, rfl, HO3.out, HB3.out⟩

end Go.Proofs.YtplclpileejemaaDoor

namespace Go.Proofs.YtplclpileejemaaDoor
open Go.RowKit
set_option linter.unusedVariables false
set_option linter.unusedSimpArgs false

def partVs (p : PartD) (bv : Value) : Array Value := #[.int .i64 p.kind, .int .i64 p.gen, .int .i64 p.num, .int .i64 p.idx, .int .i64 p.cnt, bv]
/-- What both decoders return. -/
def DecPost (w : World) (l : List UInt8) (e : Ending) (w' : World) : Prop :=
  ∃ a c, e = .returned (.tuple #[.agg (partVs (decP l) (.slice a (decP l).bytes.length c)), .int .i64 (decE l)]) ∧
    w'.ownsRow w.heap.size 5 1 (.slice a (decP l).bytes.length c) (decP l).bytes.length (bvs (decP l).bytes) ∧ Below w.heap.size w w'
theorem DecPost.no {w w' : World} {l : List UInt8} {k : Int} (hk : decE l = k) (h0 : k ≠ 0) (hb : Below w.heap.size w w') : DecPost w l (.returned (.tuple #[.agg #[.int .i64 0, .int .i64 0, .int .i64 0, .int .i64 0, .int .i64 0, .slice none 0 0], .int .i64 k])) w' := by
  subst hk
  have h1 := decE_nz h0
  refine ⟨none, 0, ?_, ?_, hb⟩
  · rw [h1]; rfl
  · rw [h1]; exact own_none _ _ _
theorem DecPost.yes {w w' : World} {l : List UInt8} {a : Option Addr} {n c : Nat} (hk : decE l = 0) (hn : (rawP l).bytes.length = n)
    (ho : w'.ownsRow w.heap.size 5 1 (.slice a n c) n (bvs (rawP l).bytes)) (hb : Below w.heap.size w w') :
    DecPost w l (.returned (.tuple #[.agg (partVs (rawP l) (.slice a n c)), .int .i64 0])) w' := by
  subst hn
  have h1 : decP l = rawP l := by unfold decP; rw [if_pos hk]
  refine ⟨a, c, ?_, ?_, hb⟩
  · rw [h1, hk]
  · rw [h1]; exact ho

set_option maxRecDepth 100000 in
set_option maxHeartbeats 2000000 in
theorem DecodePart_len {w : World} (l : List UInt8) (a : Option Addr) (n cap : Nat) (hl : l.length = n) (h : n ≠ 256) :
    Calls Tryd.prog 56 #[.slice a n cap] w (DecPost w l) := by
  by_cases h1 : n < 256
  · have hd : decE l = 4 := by unfold decE; rw [if_pos (by omega)]
    have HD := Lib.hid hd
    clear hd hl h
    go_enter Tryd.func56, Tryd.ntmps56
    go_wp2_with fail
    exact bodyPost_ret (v := .tuple #[.agg #[.int .i64 0, .int .i64 0, .int .i64 0, .int .i64 0, .int .i64 0, .slice none 0 0], .int .i64 4]) (by simp [results, Tryd.results56, go_sem]) rfl (DecPost.no HD.out (by decide) (((Below.refl _ _).alloc (Nat.le_refl _) _).alloc (by simp) _))
  · have h2 : 256 < n := by omega
    have hd : decE l = 5 := by unfold decE; rw [if_neg (by omega), if_pos (by omega)]
    have HD := Lib.hid hd
    have h1' : 256 ≤ n := by omega
    clear hd hl h h1
    go_enter Tryd.func56, Tryd.ntmps56
    go_wp2_with fail
    exact bodyPost_ret (v := .tuple #[.agg #[.int .i64 0, .int .i64 0, .int .i64 0, .int .i64 0, .int .i64 0, .slice none 0 0], .int .i64 5]) (by simp [results, Tryd.results56, go_sem]) rfl (DecPost.no HD.out (by decide) (((Below.refl _ _).alloc (Nat.le_refl _) _).alloc (by simp) _))

set_option maxRecDepth 100000 in
set_option maxHeartbeats 2000000 in
theorem DecodePart_sum {w : World} (l : List UInt8) (g off cap : Nat) {F : Nat → Prop} (hv : BytesAt w F (.slice (some ⟨g, off, none⟩) 256 cap) l) (hl : l.length = 256) (hK : KAt w) (hsum : halfL (l.drop 16) ≠ l.take 16) :
    Calls Tryd.prog 56 #[.slice (some ⟨g, off, none⟩) 256 cap] w (DecPost w l) := by
  have hlc := hv.len
  obtain ⟨-, hcap⟩ := hlc
  have hc16 : ¬ cap = 16 := by omega
  have hc0 : ¬ cap = 0 := by omega
  have hci : (16 : Int) ≤ (cap : Int) := by omega
  obtain ⟨w2, hw2⟩ : ∃ w2, (w.alloc (.cells #[.slice (some ⟨g, off, none⟩) 256 cap] 36)).alloc (.cells #[.int .i64 0, .int .i64 0, .int .i64 0, .int .i64 0, .int .i64 0, .slice none 0 0] 101) = w2 := ⟨_, rfl⟩
  have hb2 : Below w.heap.size w w2 := hw2 ▸ ((Below.refl _ w).alloc (Nat.le_refl _) _).alloc (by simp) _
  have hs2 : w2.heap.size = w.heap.size + 2 := by rw [← hw2]; simp
  have hP2 : w2.heap[w.heap.size]? = some (.cells #[.slice (some ⟨g, off, none⟩) 256 cap] 36 (0, 0)) := by rw [← hw2]; exact (Below.heap_alloc _ _ _ (by simp)).trans (heap_alloc_new _ _)
  have hR2 : w2.heap[w.heap.size + 1]? = some (.cells #[.int .i64 0, .int .i64 0, .int .i64 0, .int .i64 0, .int .i64 0, .slice none 0 0] 101 (0, 0)) := by
    have := heap_alloc_new (w.alloc (.cells #[.slice (some ⟨g, off, none⟩) 256 cap] 36)) (.cells #[.int .i64 0, .int .i64 0, .int .i64 0, .int .i64 0, .int .i64 0, .slice none 0 0] 101)
    rw [World.size_alloc] at this
    rw [← hw2]; exact this
  have hl0 := hv.here.below hb2
  rw [← hl] at hl0
  have hl2 := hl0.part 16 240 (cap - 16) (by omega) (by omega)
  rw [List.take_of_length_le (by simp; omega)] at hl2
  have hka := hK.below hb2 hK.size
  have hsum2 : Calls Tryd.prog 62 #[.slice (some ⟨g, off + 16, none⟩) 240 (cap - 16)] w2 (fun e w' => e = .returned (.agg (bvs (halfL (l.drop 16))).toArray) ∧ Below w2.heap.size w2 w') := SumHalf_any _ _ hl2 hka (by simp; omega)
  have HSUM := Lib.hid hsum2
  have HS := Lib.hid hsum
  have HV := Lib.hid hv
  have HL := Lib.hid hl
  have HW2 := Lib.hid hw2
  have HB2 := Lib.hid hb2
  have HS2 := Lib.hid hs2
  have HP2 := Lib.hid hP2
  have HR2 := Lib.hid hR2
  clear hsum2 hsum hv hl hK hw2 hb2 hs2 hP2 hR2 hl0 hl2 hka
  go_enter Tryd.func56, Tryd.ntmps56
  go_wp2_with fail
  rw [HW2.out]
  refine HSUM.out.mono ?_
  rintro e w3 ⟨rfl, hb3⟩
  have hb3' := HB2.out.trans (hb3.mono HB2.out.size)
  obtain ⟨w4, hw4⟩ : ∃ w4, w3.alloc (.cells (bvs (halfL (l.drop 16))).toArray 114) = w4 := ⟨_, rfl⟩
  have hb4 : Below w3.heap.size w3 w4 := hw4 ▸ (Below.refl _ _).alloc (Nat.le_refl _) _
  have hq3 := hb3.size
  have hs2 := HS2.out
  have hq4 : w4.heap.size = w3.heap.size + 1 := by rw [← hw4]; simp
  have hP4 := (hb4.block w.heap.size (by omega)).trans ((hb3.block w.heap.size (by omega)).trans HP2.out)
  have hR4 := (hb4.block (w.heap.size + 1) (by omega)).trans ((hb3.block (w.heap.size + 1) (by omega)).trans HR2.out)
  have hD4 : w4.heap[w3.heap.size]? = some (.cells (bvs (halfL (l.drop 16))).toArray 114 (0, 0)) := by rw [← hw4]; exact heap_alloc_new _ _
  have hnw := heap_alloc_new w3 (.cells #[.int .u8 0, .int .u8 0, .int .u8 0, .int .u8 0, .int .u8 0, .int .u8 0, .int .u8 0, .int .u8 0, .int .u8 0, .int .u8 0, .int .u8 0, .int .u8 0, .int .u8 0, .int .u8 0, .int .u8 0, .int .u8 0] 114)
  have hszh := hSize (l.drop 16)
  have hzsh : (#[.int .u8 0, .int .u8 0, .int .u8 0, .int .u8 0, .int .u8 0, .int .u8 0, .int .u8 0, .int .u8 0, .int .u8 0, .int .u8 0, .int .u8 0, .int .u8 0, .int .u8 0, .int .u8 0, .int .u8 0, .int .u8 0] : Array Value).size = (bvs (halfL (l.drop 16))).toArray.size := by
    show 16 = _
    rw [List.size_toArray, bvs_length, halfL_length]
  have hsl2 := fun w => slice_half w3.heap.size w
  have hbd := block_bytes hD4 0 16 16 (by simp) (Nat.le_refl _)
  rw [List.drop_zero, List.take_of_length_le (by simp)] at hbd
  have hbd4 := hb3'.trans (hb4.mono hb3'.size)
  have hl4 := HV.out.here.below hbd4
  rw [← HL.out] at hl4
  have hl5 := hl4.part 0 16 cap (by rw [HL.out]; omega) (by omega)
  rw [List.drop_zero, Nat.add_zero] at hl5
  have heq : ∀ n, Calls Tryd.prog 63 #[.slice (some ⟨w3.heap.size, 0, none⟩) 16 16, .slice (some ⟨g, off, none⟩) 16 cap] (w4.drewN n) (fun e w' => e = .returned (.bool false) ∧ w' = w4.drewN n) := by
    intro n
    refine (bytesEqual_any (hbd.drewN n) (hl5.drewN n)).mono fun e w' ⟨h1, h2⟩ => ⟨?_, h2.symm⟩
    rw [h1]
    congr 2
    exact beq_eq_false_iff_ne.2 HS.out
  have HEQ := Lib.hid heq
  have HSZ := Lib.hid hszh
  have HZS := Lib.hid hzsh
  have HNW := Lib.hid hnw
  have HW4 := Lib.hid hw4
  have HP4 := Lib.hid hP4
  have HR4 := Lib.hid hR4
  have HBD := Lib.hid hbd4
  have hx4 : w4.cell? ⟨w.heap.size, 0, none⟩ = some (.slice (some ⟨g, off, none⟩) 256 cap) := by rw [cell_of_row _ _ _ _ _ _ hP4]; rfl
  have HQ4 := Lib.hid hq4
  have HQ3 := Lib.hid hq3
  clear hb3 hb3' hw4 hb4 hP4 hR4 hD4 hnw hszh hzsh hbd hbd4 hl4 hl5 heq hq4 hq3 hs2
  go_wp2_with (with_reducible refine wpList_store_row rfl 114 _ _ rfl w3.heap.size (bvs (halfL (l.drop 16))).toArray rfl rfl 114 _ HNW.out HSZ.out HZS.out (oneCell_bvs _) ?_; rw [World.setRow_alloc_new, HW4.out])
  go_quiet ((go_at_call 63; exact Calls.quiet_of_same (HEQ.out _)))
  obtain ⟨w5, hw5⟩ : ∃ w5, w4.drewN nq = w5 := ⟨_, rfl⟩
  have hb5 : Below w.heap.size w w5 := hw5 ▸ HBD.out.trans (below_drewN2 w4 nq _)
  have hP5 : w5.heap[w.heap.size]? = some (.cells #[.slice (some ⟨g, off, none⟩) 256 cap] 36 (0, 0)) := by rw [← hw5]; exact HP4.out
  have hR5 : w5.heap[w.heap.size + 1]? = some (.cells #[.int .i64 0, .int .i64 0, .int .i64 0, .int .i64 0, .int .i64 0, .slice none 0 0] 101 (0, 0)) := by rw [← hw5]; exact HR4.out
  have hq5 : w.heap.size + 2 ≤ w5.heap.size := by rw [← hw5]; show _ ≤ w4.heap.size; have := HQ4.out; have := HQ3.out; have := HS2.out; omega
  rw [hw5]
  clear hw5 hx4
  have hr5 : ∀ j : Nat, w5.frozen? ⟨w.heap.size + 1, j, none⟩ = false := fun j => frozen_of_row _ _ _ _ _ hR5
  have hy0 : w5.cell? ⟨w.heap.size + 1, 0, none⟩ = some (.int .i64 0) := by rw [cell_of_row _ _ _ _ _ _ hR5]; rfl
  have hy1 : w5.cell? ⟨w.heap.size + 1, 1, none⟩ = some (.int .i64 0) := by rw [cell_of_row _ _ _ _ _ _ hR5]; rfl
  have hy2 : w5.cell? ⟨w.heap.size + 1, 2, none⟩ = some (.int .i64 0) := by rw [cell_of_row _ _ _ _ _ _ hR5]; rfl
  have hy3 : w5.cell? ⟨w.heap.size + 1, 3, none⟩ = some (.int .i64 0) := by rw [cell_of_row _ _ _ _ _ _ hR5]; rfl
  have hy4 : w5.cell? ⟨w.heap.size + 1, 4, none⟩ = some (.int .i64 0) := by rw [cell_of_row _ _ _ _ _ _ hR5]; rfl
  have hy5 : w5.cell? ⟨w.heap.size + 1, 5, none⟩ = some (.slice none 0 0) := by rw [cell_of_row _ _ _ _ _ _ hR5]; rfl
  have HB5 := Lib.hid hb5
  have hdec := decE_sum HL.out HS.out
  have HDEC := Lib.hid hdec
  clear hP5 hR5 hb5 hdec
  go_wp2_with fail
  exact bodyPost_ret (v := .tuple #[.agg #[.int .i64 0, .int .i64 0, .int .i64 0, .int .i64 0, .int .i64 0, .slice none 0 0], .int .i64 22]) (by simp [results, Tryd.results56, go_sem, hy0, hy1, hy2, hy3, hy4, hy5]) rfl (DecPost.no HDEC.out (by decide) ((((((HB5.out.setCell (by show w.heap.size ≤ w.heap.size + 1; omega) _).setCell (by show w.heap.size ≤ w.heap.size + 1; omega) _).setCell (by show w.heap.size ≤ w.heap.size + 1; omega) _).setCell (by show w.heap.size ≤ w.heap.size + 1; omega) _).setCell (by show w.heap.size ≤ w.heap.size + 1; omega) _).setCell (by show w.heap.size ≤ w.heap.size + 1; omega) _))

theorem chg6 (w : World) (b : Nat) (v0 v1 v2 v3 v4 v5 : Value) : Chg (fun k => k = b) w ((((((w.setCell ⟨b, 0, none⟩ v0).setCell ⟨b, 1, none⟩ v1).setCell ⟨b, 2, none⟩ v2).setCell ⟨b, 3, none⟩ v3).setCell ⟨b, 4, none⟩ v4).setCell ⟨b, 5, none⟩ v5) := by
  have t : ∀ {a c : World} (j : Nat) (v : Value), Chg (fun k => k = b) a c → Chg (fun k => k = b) a (c.setCell ⟨b, j, none⟩ v) := fun j v h => h.trans (Chg.setCell (F := fun k => k = b) _ _ rfl) (fun _ h => .inl h)
  exact t 5 _ (t 4 _ (t 3 _ (t 2 _ (t 1 _ (t 0 _ (Chg.refl _ _))))))
theorem setCell_at (w : World) (b j : Nat) (v : Value) (k : Nat) (h : k ≠ b) : (w.setCell ⟨b, j, none⟩ v).heap[k]? = w.heap[k]? := heap_setCell_other w ⟨b, j, none⟩ k v h
theorem get_at (size i pb at_ : Nat) (l : List UInt8) (N cap g off : Nat) (hN : l.length = N) (hs : size ≤ 4) (hi : i + size ≤ N) (hl : N ≤ 1000) {w : World} (hb : BytesAt w (fun k => k ≠ at_) (.slice (some ⟨g, off, none⟩) N cap) l)
    (hp : w.cell? ⟨pb, 0, none⟩ = some (.slice (some ⟨g, off, none⟩) N cap)) (hne : pb ≠ at_) (ha : w.heap[at_]? = some (.cells #[.int .i64 (i : Int)] 3 (0, 0))) :
    Calls Tryd.prog 64 #[.int .i64 (size : Int), .pointer (some ⟨pb, 0, none⟩), .pointer (some ⟨at_, 0, none⟩)] w fun e w' =>
      e = .returned (.int .i64 (valN (seg l i size) : Int)) ∧ w'.heap[at_]? = some (.cells #[.int .i64 ((i + size : Nat) : Int)] 3 (0, 0)) ∧ Chg (fun k => k = at_) w w' := by
  subst hN
  exact get_any size i pb at_ l cap g off hs hi hl hb hp hne ha

set_option maxRecDepth 100000 in
set_option maxHeartbeats 2000000 in
theorem DecodePart_go {w : World} (l : List UInt8) (g off cap : Nat) {F : Nat → Prop} (hv : BytesAt w F (.slice (some ⟨g, off, none⟩) 256 cap) l) (hl : l.length = 256) (hK : KAt w) (hsum : halfL (l.drop 16) = l.take 16) :
    Calls Tryd.prog 56 #[.slice (some ⟨g, off, none⟩) 256 cap] w (DecPost w l) := by
  have hlc := hv.len
  obtain ⟨-, hcap⟩ := hlc
  have hc16 : ¬ cap = 16 := by omega
  have hc0 : ¬ cap = 0 := by omega
  have hci : (16 : Int) ≤ (cap : Int) := by omega
  obtain ⟨w2, hw2⟩ : ∃ w2, (w.alloc (.cells #[.slice (some ⟨g, off, none⟩) 256 cap] 36)).alloc (.cells #[.int .i64 0, .int .i64 0, .int .i64 0, .int .i64 0, .int .i64 0, .slice none 0 0] 101) = w2 := ⟨_, rfl⟩
  have hb2 : Below w.heap.size w w2 := hw2 ▸ ((Below.refl _ w).alloc (Nat.le_refl _) _).alloc (by simp) _
  have hs2 : w2.heap.size = w.heap.size + 2 := by rw [← hw2]; simp
  have hP2 : w2.heap[w.heap.size]? = some (.cells #[.slice (some ⟨g, off, none⟩) 256 cap] 36 (0, 0)) := by rw [← hw2]; exact (Below.heap_alloc _ _ _ (by simp)).trans (heap_alloc_new _ _)
  have hR2 : w2.heap[w.heap.size + 1]? = some (.cells #[.int .i64 0, .int .i64 0, .int .i64 0, .int .i64 0, .int .i64 0, .slice none 0 0] 101 (0, 0)) := by
    have := heap_alloc_new (w.alloc (.cells #[.slice (some ⟨g, off, none⟩) 256 cap] 36)) (.cells #[.int .i64 0, .int .i64 0, .int .i64 0, .int .i64 0, .int .i64 0, .slice none 0 0] 101)
    rw [World.size_alloc] at this
    rw [← hw2]; exact this
  have hl0 := hv.here.below hb2
  rw [← hl] at hl0
  have hl2 := hl0.part 16 240 (cap - 16) (by omega) (by omega)
  rw [List.take_of_length_le (by simp; omega)] at hl2
  have hka := hK.below hb2 hK.size
  have hsum2 : Calls Tryd.prog 62 #[.slice (some ⟨g, off + 16, none⟩) 240 (cap - 16)] w2 (fun e w' => e = .returned (.agg (bvs (halfL (l.drop 16))).toArray) ∧ Below w2.heap.size w2 w') := SumHalf_any _ _ hl2 hka (by simp; omega)
  have HSUM := Lib.hid hsum2
  have HS := Lib.hid hsum
  have HV := Lib.hid hv
  have HL := Lib.hid hl
  have HW2 := Lib.hid hw2
  have HB2 := Lib.hid hb2
  have HS2 := Lib.hid hs2
  have HP2 := Lib.hid hP2
  have HR2 := Lib.hid hR2
  clear hsum2 hsum hv hl hK hw2 hb2 hs2 hP2 hR2 hl0 hl2 hka
  go_enter Tryd.func56, Tryd.ntmps56
  go_wp2_with fail
  rw [HW2.out]
  refine HSUM.out.mono ?_
  rintro e w3 ⟨rfl, hb3⟩
  have hb3' := HB2.out.trans (hb3.mono HB2.out.size)
  obtain ⟨w4, hw4⟩ : ∃ w4, w3.alloc (.cells (bvs (halfL (l.drop 16))).toArray 114) = w4 := ⟨_, rfl⟩
  have hb4 : Below w3.heap.size w3 w4 := hw4 ▸ (Below.refl _ _).alloc (Nat.le_refl _) _
  have hq3 := hb3.size
  have hs2 := HS2.out
  have hq4 : w4.heap.size = w3.heap.size + 1 := by rw [← hw4]; simp
  have hP4 := (hb4.block w.heap.size (by omega)).trans ((hb3.block w.heap.size (by omega)).trans HP2.out)
  have hR4 := (hb4.block (w.heap.size + 1) (by omega)).trans ((hb3.block (w.heap.size + 1) (by omega)).trans HR2.out)
  have hD4 : w4.heap[w3.heap.size]? = some (.cells (bvs (halfL (l.drop 16))).toArray 114 (0, 0)) := by rw [← hw4]; exact heap_alloc_new _ _
  have hnw := heap_alloc_new w3 (.cells #[.int .u8 0, .int .u8 0, .int .u8 0, .int .u8 0, .int .u8 0, .int .u8 0, .int .u8 0, .int .u8 0, .int .u8 0, .int .u8 0, .int .u8 0, .int .u8 0, .int .u8 0, .int .u8 0, .int .u8 0, .int .u8 0] 114)
  have hszh := hSize (l.drop 16)
  have hzsh : (#[.int .u8 0, .int .u8 0, .int .u8 0, .int .u8 0, .int .u8 0, .int .u8 0, .int .u8 0, .int .u8 0, .int .u8 0, .int .u8 0, .int .u8 0, .int .u8 0, .int .u8 0, .int .u8 0, .int .u8 0, .int .u8 0] : Array Value).size = (bvs (halfL (l.drop 16))).toArray.size := by
    show 16 = _
    rw [List.size_toArray, bvs_length, halfL_length]
  have hsl2 := fun w => slice_half w3.heap.size w
  have hbd := block_bytes hD4 0 16 16 (by simp) (Nat.le_refl _)
  rw [List.drop_zero, List.take_of_length_le (by simp)] at hbd
  have hbd4 := hb3'.trans (hb4.mono hb3'.size)
  have hl4 := HV.out.here.below hbd4
  rw [← HL.out] at hl4
  have hl5 := hl4.part 0 16 cap (by rw [HL.out]; omega) (by omega)
  rw [List.drop_zero, Nat.add_zero] at hl5
  have heq : ∀ n, Calls Tryd.prog 63 #[.slice (some ⟨w3.heap.size, 0, none⟩) 16 16, .slice (some ⟨g, off, none⟩) 16 cap] (w4.drewN n) (fun e w' => e = .returned (.bool true) ∧ w' = w4.drewN n) := by
    intro n
    refine (bytesEqual_any (hbd.drewN n) (hl5.drewN n)).mono fun e w' ⟨h1, h2⟩ => ⟨?_, h2.symm⟩
    rw [h1]
    congr 2
    exact beq_iff_eq.2 HS.out
  have HEQ := Lib.hid heq
  have HSZ := Lib.hid hszh
  have HZS := Lib.hid hzsh
  have HNW := Lib.hid hnw
  have HW4 := Lib.hid hw4
  have HP4 := Lib.hid hP4
  have HR4 := Lib.hid hR4
  have HBD := Lib.hid hbd4
  have hx4 : w4.cell? ⟨w.heap.size, 0, none⟩ = some (.slice (some ⟨g, off, none⟩) 256 cap) := by rw [cell_of_row _ _ _ _ _ _ hP4]; rfl
  have HQ4 := Lib.hid hq4
  have HQ3 := Lib.hid hq3
  clear hb3 hb3' hw4 hb4 hP4 hR4 hD4 hnw hszh hzsh hbd hbd4 hl4 hl5 heq hq4 hq3 hs2
  go_wp2_with (with_reducible refine wpList_store_row rfl 114 _ _ rfl w3.heap.size (bvs (halfL (l.drop 16))).toArray rfl rfl 114 _ HNW.out HSZ.out HZS.out (oneCell_bvs _) ?_; rw [World.setRow_alloc_new, HW4.out])
  go_quiet ((go_at_call 63; exact Calls.quiet_of_same (HEQ.out _)))
  obtain ⟨w5, hw5⟩ : ∃ w5, w4.drewN nq = w5 := ⟨_, rfl⟩
  have hb5 : Below w.heap.size w w5 := hw5 ▸ HBD.out.trans (below_drewN2 w4 nq _)
  have hP5 : w5.heap[w.heap.size]? = some (.cells #[.slice (some ⟨g, off, none⟩) 256 cap] 36 (0, 0)) := by rw [← hw5]; exact HP4.out
  have hR5 : w5.heap[w.heap.size + 1]? = some (.cells #[.int .i64 0, .int .i64 0, .int .i64 0, .int .i64 0, .int .i64 0, .slice none 0 0] 101 (0, 0)) := by rw [← hw5]; exact HR4.out
  have hq5 : w.heap.size + 2 ≤ w5.heap.size := by rw [← hw5]; show _ ≤ w4.heap.size; have := HQ4.out; have := HQ3.out; have := HS2.out; omega
  rw [hw5]
  clear hw5 hx4
  obtain ⟨w6, hw6⟩ : ∃ w6, (w5.alloc (.cells #[.int .i64 16] 3)).alloc (.cells #[.int .i64 0, .int .i64 0, .int .i64 0, .int .i64 0, .int .i64 0, .slice none 0 0] 101) = w6 := ⟨_, rfl⟩
  have hb6 : Below w5.heap.size w5 w6 := hw6 ▸ ((Below.refl _ w5).alloc (Nat.le_refl _) _).alloc (by simp) _
  have hq6 : w6.heap.size = w5.heap.size + 2 := by rw [← hw6]; simp
  have hA6 : w6.heap[w5.heap.size]? = some (.cells #[.int .i64 16] 3 (0, 0)) := by rw [← hw6]; exact (Below.heap_alloc _ _ _ (by simp)).trans (heap_alloc_new _ _)
  have hT6 : w6.heap[w5.heap.size + 1]? = some (.cells #[.int .i64 0, .int .i64 0, .int .i64 0, .int .i64 0, .int .i64 0, .slice none 0 0] 101 (0, 0)) := by
    have := heap_alloc_new (w5.alloc (.cells #[.int .i64 16] 3)) (.cells #[.int .i64 0, .int .i64 0, .int .i64 0, .int .i64 0, .int .i64 0, .slice none 0 0] 101)
    rw [World.size_alloc] at this
    rw [← hw6]; exact this
  have hbd6 := hb5.trans (hb6.mono hb5.size)
  have hl6 := HV.out.here.below hbd6
  have hP6 := (hb6.block w.heap.size (by omega)).trans hP5
  have hR6 := (hb6.block (w.heap.size + 1) (by omega)).trans hR5
  have hC6 : Chg (fun k => k = w5.heap.size ∨ k = w5.heap.size + 1) w6 w6 := Chg.refl _ _
  have hx6 : w6.cell? ⟨w.heap.size, 0, none⟩ = some (.slice (some ⟨g, off, none⟩) 256 cap) := by rw [cell_of_row _ _ _ _ _ _ hP6]; rfl
  have HW6 := Lib.hid hw6
  have HB6 := Lib.hid hbd6
  have HL6 := Lib.hid hl6
  have HP6 := Lib.hid hP6
  have HR6 := Lib.hid hR6
  have HA0 := Lib.hid hA6
  have HT0 := Lib.hid hT6
  have HC0 := Lib.hid hC6
  have HX0 := Lib.hid hx6
  clear hw6 hb6 hA6 hT6 hbd6 hl6 hP6 hR6 hC6 hP5 hR5 hb5 hx6
  go_wp2_with fail
  rw [HW6.out]
  have hbl : BytesAt w6 (fun k => k ≠ w5.heap.size) (.slice (some ⟨g, off, none⟩) 256 cap) l := (HL6.out.kept HC0.out (fun k hk h => by have hk' : k < w.heap.size := hk; omega)).mono (fun k (hk : k < w.heap.size) => by omega)
  have hget := get_at 4 16 w.heap.size w5.heap.size l 256 cap g off HL.out (by omega) (by omega) (by omega) hbl HX0.out (by omega) HA0.out
  refine hget.mono ?_
  clear hget hbl
  rintro e v0 ⟨rfl, hA, hC⟩
  have hcc := HC0.out.trans hC (fun _ h => .inl (.inl h))
  have hT := (hC.block (w5.heap.size + 1) (Array.getElem?_eq_some_iff.1 HT0.out).1 (by omega)).trans HT0.out
  have hP := (hcc.block w.heap.size (by omega) (by omega)).trans HP6.out
  have hxx : v0.cell? ⟨w.heap.size, 0, none⟩ = some (.slice (some ⟨g, off, none⟩) 256 cap) := by rw [cell_of_row _ _ _ _ _ _ hP]; rfl
  have HX1 := Lib.hid hxx
  have HA1 := Lib.hid hA
  have HT1 := Lib.hid hT
  have HC1 := Lib.hid hcc
  clear hA hC hcc hT hP hxx
  go_wp2_with fail
  have hbl : BytesAt v0 (fun k => k ≠ w5.heap.size) (.slice (some ⟨g, off, none⟩) 256 cap) l := (HL6.out.kept HC1.out (fun k hk h => by have hk' : k < w.heap.size := hk; omega)).mono (fun k (hk : k < w.heap.size) => by omega)
  have hget := get_at 4 20 w.heap.size w5.heap.size l 256 cap g off HL.out (by omega) (by omega) (by omega) hbl HX1.out (by omega) HA1.out
  refine hget.mono ?_
  clear hget hbl
  rintro e v1 ⟨rfl, hA, hC⟩
  have hcc := HC1.out.trans hC (fun _ h => .inl (.inl h))
  have hT := (hC.block (w5.heap.size + 1) (Array.getElem?_eq_some_iff.1 HT1.out).1 (by omega)).trans HT1.out
  have hP := (hcc.block w.heap.size (by omega) (by omega)).trans HP6.out
  have hxx : v1.cell? ⟨w.heap.size, 0, none⟩ = some (.slice (some ⟨g, off, none⟩) 256 cap) := by rw [cell_of_row _ _ _ _ _ _ hP]; rfl
  have hfT : ∀ j : Nat, v1.frozen? ⟨w5.heap.size + 1, j, none⟩ = false := fun j => frozen_of_row _ _ _ _ _ hT
  have ht1 : v1.cell? ⟨w5.heap.size + 1, 1, none⟩ = some (.int .i64 0) := by rw [cell_of_row _ _ _ _ _ _ hT]; rfl
  have ht2 : v1.cell? ⟨w5.heap.size + 1, 2, none⟩ = some (.int .i64 0) := by rw [cell_of_row _ _ _ _ _ _ hT]; rfl
  obtain ⟨u1, hu⟩ : ∃ u1, ((v1.setCell ⟨w5.heap.size + 1, 1, none⟩ (.int .i64 (valN (seg l 16 4) : Nat))).setCell ⟨w5.heap.size + 1, 2, none⟩ (.int .i64 (valN (seg l 20 4) : Nat))) = u1 := ⟨_, rfl⟩
  have hTu : u1.heap[w5.heap.size + 1]? = some (.cells #[.int .i64 0, .int .i64 (valN (seg l 16 4) : Nat), .int .i64 (valN (seg l 20 4) : Nat), .int .i64 0, .int .i64 0, .slice none 0 0] 101 (0, 0)) := by rw [← hu]; exact (heap_setCell_same _ _ 2 _ _ (.int .i64 (valN (seg l 20 4) : Nat)) (heap_setCell_same _ _ 1 _ _ (.int .i64 (valN (seg l 16 4) : Nat)) hT))
  have hcs : Chg (fun k => k = w5.heap.size ∨ k = w5.heap.size + 1) v1 u1 := by
    rw [← hu]
    exact ((Chg.setCell _ _ (.inr rfl)).trans (Chg.setCell _ _ (.inr rfl)) (fun _ h => .inl h))
  have hneA : w5.heap.size ≠ w5.heap.size + 1 := by omega
  have hAu : u1.heap[w5.heap.size]? = v1.heap[w5.heap.size]? := by
    rw [← hu]
    rw [setCell_at _ _ _ _ _ hneA, setCell_at _ _ _ _ _ hneA]
  have hccu := hcc.trans hcs (fun _ h => .inl h)
  have hPu := (hccu.block w.heap.size (by omega) (by omega)).trans HP6.out
  have hxu : u1.cell? ⟨w.heap.size, 0, none⟩ = some (.slice (some ⟨g, off, none⟩) 256 cap) := by rw [cell_of_row _ _ _ _ _ _ hPu]; rfl
  have HX2 := Lib.hid hxu
  have HA2 := Lib.hid (hAu.trans hA)
  have HT2 := Lib.hid hTu
  have HC2 := Lib.hid hccu
  have HU := Lib.hid hu
  clear hA hC hcc hT hP hxx hu hTu hcs hAu hccu hPu hxu hneA
  go_wp2_with fail
  rw [HU.out]
  clear HU hfT ht1 ht2
  have hbl : BytesAt u1 (fun k => k ≠ w5.heap.size) (.slice (some ⟨g, off, none⟩) 256 cap) l := (HL6.out.kept HC2.out (fun k hk h => by have hk' : k < w.heap.size := hk; omega)).mono (fun k (hk : k < w.heap.size) => by omega)
  have hget := get_at 2 24 w.heap.size w5.heap.size l 256 cap g off HL.out (by omega) (by omega) (by omega) hbl HX2.out (by omega) HA2.out
  refine hget.mono ?_
  clear hget hbl
  rintro e v2 ⟨rfl, hA, hC⟩
  have hcc := HC2.out.trans hC (fun _ h => .inl (.inl h))
  have hT := (hC.block (w5.heap.size + 1) (Array.getElem?_eq_some_iff.1 HT2.out).1 (by omega)).trans HT2.out
  have hP := (hcc.block w.heap.size (by omega) (by omega)).trans HP6.out
  have hxx : v2.cell? ⟨w.heap.size, 0, none⟩ = some (.slice (some ⟨g, off, none⟩) 256 cap) := by rw [cell_of_row _ _ _ _ _ _ hP]; rfl
  have HX3 := Lib.hid hxx
  have HA3 := Lib.hid hA
  have HT3 := Lib.hid hT
  have HC3 := Lib.hid hcc
  clear hA hC hcc hT hP hxx
  go_wp2_with fail
  have hbl : BytesAt v2 (fun k => k ≠ w5.heap.size) (.slice (some ⟨g, off, none⟩) 256 cap) l := (HL6.out.kept HC3.out (fun k hk h => by have hk' : k < w.heap.size := hk; omega)).mono (fun k (hk : k < w.heap.size) => by omega)
  have hget := get_at 2 26 w.heap.size w5.heap.size l 256 cap g off HL.out (by omega) (by omega) (by omega) hbl HX3.out (by omega) HA3.out
  refine hget.mono ?_
  clear hget hbl
  rintro e v3 ⟨rfl, hA, hC⟩
  have hcc := HC3.out.trans hC (fun _ h => .inl (.inl h))
  have hT := (hC.block (w5.heap.size + 1) (Array.getElem?_eq_some_iff.1 HT3.out).1 (by omega)).trans HT3.out
  have hP := (hcc.block w.heap.size (by omega) (by omega)).trans HP6.out
  have hxx : v3.cell? ⟨w.heap.size, 0, none⟩ = some (.slice (some ⟨g, off, none⟩) 256 cap) := by rw [cell_of_row _ _ _ _ _ _ hP]; rfl
  have HX4 := Lib.hid hxx
  have HA4 := Lib.hid hA
  have HT4 := Lib.hid hT
  have HC4 := Lib.hid hcc
  clear hA hC hcc hT hP hxx
  go_wp2_with fail
  have hbl : BytesAt v3 (fun k => k ≠ w5.heap.size) (.slice (some ⟨g, off, none⟩) 256 cap) l := (HL6.out.kept HC4.out (fun k hk h => by have hk' : k < w.heap.size := hk; omega)).mono (fun k (hk : k < w.heap.size) => by omega)
  have hget := get_at 2 28 w.heap.size w5.heap.size l 256 cap g off HL.out (by omega) (by omega) (by omega) hbl HX4.out (by omega) HA4.out
  refine hget.mono ?_
  clear hget hbl
  rintro e v4 ⟨rfl, hA, hC⟩
  have hcc := HC4.out.trans hC (fun _ h => .inl (.inl h))
  have hT := (hC.block (w5.heap.size + 1) (Array.getElem?_eq_some_iff.1 HT4.out).1 (by omega)).trans HT4.out
  have hP := (hcc.block w.heap.size (by omega) (by omega)).trans HP6.out
  have hxx : v4.cell? ⟨w.heap.size, 0, none⟩ = some (.slice (some ⟨g, off, none⟩) 256 cap) := by rw [cell_of_row _ _ _ _ _ _ hP]; rfl
  have hfT : ∀ j : Nat, v4.frozen? ⟨w5.heap.size + 1, j, none⟩ = false := fun j => frozen_of_row _ _ _ _ _ hT
  have ht0 : v4.cell? ⟨w5.heap.size + 1, 0, none⟩ = some (.int .i64 0) := by rw [cell_of_row _ _ _ _ _ _ hT]; rfl
  have ht3 : v4.cell? ⟨w5.heap.size + 1, 3, none⟩ = some (.int .i64 0) := by rw [cell_of_row _ _ _ _ _ _ hT]; rfl
  have ht4 : v4.cell? ⟨w5.heap.size + 1, 4, none⟩ = some (.int .i64 0) := by rw [cell_of_row _ _ _ _ _ _ hT]; rfl
  obtain ⟨u4, hu⟩ : ∃ u4, (((v4.setCell ⟨w5.heap.size + 1, 0, none⟩ (.int .i64 (valN (seg l 24 2) : Nat))).setCell ⟨w5.heap.size + 1, 3, none⟩ (.int .i64 (valN (seg l 26 2) : Nat))).setCell ⟨w5.heap.size + 1, 4, none⟩ (.int .i64 (valN (seg l 28 2) : Nat))) = u4 := ⟨_, rfl⟩
  have hTu : u4.heap[w5.heap.size + 1]? = some (.cells #[.int .i64 (valN (seg l 24 2) : Nat), .int .i64 (valN (seg l 16 4) : Nat), .int .i64 (valN (seg l 20 4) : Nat), .int .i64 (valN (seg l 26 2) : Nat), .int .i64 (valN (seg l 28 2) : Nat), .slice none 0 0] 101 (0, 0)) := by rw [← hu]; exact (heap_setCell_same _ _ 4 _ _ (.int .i64 (valN (seg l 28 2) : Nat)) (heap_setCell_same _ _ 3 _ _ (.int .i64 (valN (seg l 26 2) : Nat)) (heap_setCell_same _ _ 0 _ _ (.int .i64 (valN (seg l 24 2) : Nat)) hT)))
  have hcs : Chg (fun k => k = w5.heap.size ∨ k = w5.heap.size + 1) v4 u4 := by
    rw [← hu]
    exact (((Chg.setCell _ _ (.inr rfl)).trans (Chg.setCell _ _ (.inr rfl)) (fun _ h => .inl h)).trans (Chg.setCell _ _ (.inr rfl)) (fun _ h => .inl h))
  have hneA : w5.heap.size ≠ w5.heap.size + 1 := by omega
  have hAu : u4.heap[w5.heap.size]? = v4.heap[w5.heap.size]? := by
    rw [← hu]
    rw [setCell_at _ _ _ _ _ hneA, setCell_at _ _ _ _ _ hneA, setCell_at _ _ _ _ _ hneA]
  have hccu := hcc.trans hcs (fun _ h => .inl h)
  have hPu := (hccu.block w.heap.size (by omega) (by omega)).trans HP6.out
  have hxu : u4.cell? ⟨w.heap.size, 0, none⟩ = some (.slice (some ⟨g, off, none⟩) 256 cap) := by rw [cell_of_row _ _ _ _ _ _ hPu]; rfl
  have HX5 := Lib.hid hxu
  have HA5 := Lib.hid (hAu.trans hA)
  have HT5 := Lib.hid hTu
  have HC5 := Lib.hid hccu
  have HU := Lib.hid hu
  clear hA hC hcc hT hP hxx hu hTu hcs hAu hccu hPu hxu hneA
  go_wp2_with fail
  rw [HU.out]
  clear HU hfT ht0 ht3 ht4
  have hbl : BytesAt u4 (fun k => k ≠ w5.heap.size) (.slice (some ⟨g, off, none⟩) 256 cap) l := (HL6.out.kept HC5.out (fun k hk h => by have hk' : k < w.heap.size := hk; omega)).mono (fun k (hk : k < w.heap.size) => by omega)
  have hget := get_at 2 30 w.heap.size w5.heap.size l 256 cap g off HL.out (by omega) (by omega) (by omega) hbl HX5.out (by omega) HA5.out
  obtain ⟨sz, hsz⟩ : ∃ sz, valN (seg l 30 2) = sz := ⟨_, rfl⟩
  rw [hsz] at hget
  have HSZL := Lib.hid hsz
  refine hget.mono ?_
  clear hget hbl
  rintro e v5 ⟨rfl, hA, hC⟩
  have hcc := HC5.out.trans hC (fun _ h => .inl (.inl h))
  have hT := (hC.block (w5.heap.size + 1) (Array.getElem?_eq_some_iff.1 HT5.out).1 (by omega)).trans HT5.out
  have hP := (hcc.block w.heap.size (by omega) (by omega)).trans HP6.out
  have hxx : v5.cell? ⟨w.heap.size, 0, none⟩ = some (.slice (some ⟨g, off, none⟩) 256 cap) := by rw [cell_of_row _ _ _ _ _ _ hP]; rfl
  have HX6 := Lib.hid hxx
  have HA6 := Lib.hid hA
  have HT6 := Lib.hid hT
  have HC6 := Lib.hid hcc
  clear hA hC hcc hT hP hxx
  have hbv5 : Below w.heap.size w v5 := HB6.out.trans (HC6.out.below (fun k h => by omega) (by omega))
  have hRv := (HC6.out.block (w.heap.size + 1) (by omega) (by omega)).trans HR6.out
  have hr5 : ∀ j : Nat, v5.frozen? ⟨w.heap.size + 1, j, none⟩ = false := fun j => frozen_of_row _ _ _ _ _ hRv
  have hy0 : v5.cell? ⟨w.heap.size + 1, 0, none⟩ = some (.int .i64 0) := by rw [cell_of_row _ _ _ _ _ _ hRv]; rfl
  have hy1 : v5.cell? ⟨w.heap.size + 1, 1, none⟩ = some (.int .i64 0) := by rw [cell_of_row _ _ _ _ _ _ hRv]; rfl
  have hy2 : v5.cell? ⟨w.heap.size + 1, 2, none⟩ = some (.int .i64 0) := by rw [cell_of_row _ _ _ _ _ _ hRv]; rfl
  have hy3 : v5.cell? ⟨w.heap.size + 1, 3, none⟩ = some (.int .i64 0) := by rw [cell_of_row _ _ _ _ _ _ hRv]; rfl
  have hy4 : v5.cell? ⟨w.heap.size + 1, 4, none⟩ = some (.int .i64 0) := by rw [cell_of_row _ _ _ _ _ _ hRv]; rfl
  have hy5 : v5.cell? ⟨w.heap.size + 1, 5, none⟩ = some (.slice none 0 0) := by rw [cell_of_row _ _ _ _ _ _ hRv]; rfl
  have hxv := HX6.out
  have hlv : BytesAt v5 (fun k => k < w.heap.size) (.slice (some ⟨g, off, none⟩) 256 cap) l := HL6.out.kept HC6.out (fun k hk h => by have hk' : k < w.heap.size := hk; omega)
  have hszq : szL l = sz := HSZL.out
  have hszb : sz ≤ 65535 := by have h1 := valN_lt (seg l 30 2); rw [HSZL.out, seg_length _ _ _ (by rw [HL.out]; omega)] at h1; omega
  have HBV := Lib.hid hbv5
  have HRV := Lib.hid hRv
  have HLV := Lib.hid hlv
  have HSZQ := Lib.hid hszq
  clear hbv5 hRv hlv hszq HA0 HA1 HA2 HA3 HA4 HA5 HT0 HT1 HT2 HT3 HT4 HT5 HC0 HC1 HC2 HC3 HC4 HC5 HX0 HX1 HX2 HX3 HX4 HX5
  have hdE : decE l = (if szL l ≤ 224 ∧ zerosB (l.drop (32 + szL l)) = true ∧ chkP (rawP l) = 0 then 0 else 3) := by
    unfold decE
    rw [if_neg (by rw [HL.out]; omega), if_neg (by rw [HL.out]; omega), if_neg (by rw [HS.out]; simp)]
  have HDE := Lib.hid hdE
  clear hdE
  by_cases h224 : 224 < sz
  · have h3 : decE l = 3 := by rw [HDE.out, if_neg (by rw [HSZQ.out]; omega)]
    have HD3 := Lib.hid h3
    clear h3
    go_wp2_with fail
    exact bodyPost_ret (v := .tuple #[.agg #[.int .i64 0, .int .i64 0, .int .i64 0, .int .i64 0, .int .i64 0, .slice none 0 0], .int .i64 3]) (by simp [results, Tryd.results56, go_sem, hy0, hy1, hy2, hy3, hy4, hy5]) rfl (DecPost.no HD3.out (by decide) ((((((HBV.out.setCell (by show w.heap.size ≤ w.heap.size + 1; omega) _).setCell (by show w.heap.size ≤ w.heap.size + 1; omega) _).setCell (by show w.heap.size ≤ w.heap.size + 1; omega) _).setCell (by show w.heap.size ≤ w.heap.size + 1; omega) _).setCell (by show w.heap.size ≤ w.heap.size + 1; omega) _).setCell (by show w.heap.size ≤ w.heap.size + 1; omega) _))
  · have h224' : sz ≤ 224 := by omega
    have hsegl : (seg l 32 sz).length = sz := seg_length _ _ _ (by rw [HL.out]; omega)
    have hrb : (rawP l).bytes = seg l 32 sz := by unfold rawP; rw [HSZQ.out]
    have HSEG := Lib.hid hsegl
    have HRB := Lib.hid hrb
    clear h224 hsegl hrb
    by_cases hck : cap = 32 + sz
    · obtain rfl : sz = 224 := by omega
      obtain rfl : cap = 256 := by omega
      clear hck
      have hblank : BytesAt v5 (fun _ => True) (.slice (some ⟨g, off, none⟩) (0) (0)) (l.drop (32 + 224)) := by
        rw [List.drop_of_length_le (by have := HL.out; omega)]
        exact bytesAt_empty _ _ _ _
      by_cases hz : zerosB (l.drop (32 + 224)) = true
      · have hIB : Calls Tryd.prog 65 #[.slice (some ⟨g, off, none⟩) (0) (0)] v5 (fun e w' => e = .returned (.bool true) ∧ v5 = w') :=
          (IsBlank_any hblank (by simp; have := HL.out; omega)).mono fun e w' ⟨h1, h2⟩ => ⟨by rw [h1, hz], h2⟩
        have hlv := HLV.out
        rw [← HL.out] at hlv
        have hcl0 := hlv.part 32 224 (256 - 32) (by rw [HL.out]; omega) (by omega)
        have hcl : Calls Tryd.prog 40 #[.slice (some ⟨g, off + 32, none⟩) 224 (256 - 32)] v5 (fun e w' => ∃ v, e = .returned v ∧ w'.ownsRow v5.heap.size 5 1 v (seg l 32 224).length (bvs (seg l 32 224)) ∧ Below v5.heap.size v5 w') := bytesClone_any hcl0 (by have := HSEG.out; omega)
        have HIB := Lib.hid hIB
        have HCL := Lib.hid hcl
        have HZ := Lib.hid hz
        clear hblank hIB hlv hcl0 hcl hz
        go_wp2_with fail
        refine HIB.out.mono ?_
        rintro e v' ⟨rfl, rfl⟩
        go_wp2_with fail
        refine HCL.out.mono ?_
        rintro e y ⟨cv, rfl, hO, hY⟩
        obtain ⟨ca, cc, rfl⟩ := ownsRow_form hO
        rw [HSEG.out] at hO ⊢
        have hTl := (Array.getElem?_eq_some_iff.1 HT6.out).1
        have hTy := (hY.block (w5.heap.size + 1) hTl).trans HT6.out
        have hRl := (Array.getElem?_eq_some_iff.1 HRV.out).1
        have hRy := (hY.block (w.heap.size + 1) hRl).trans HRV.out
        have hfy : ∀ j : Nat, y.frozen? ⟨w5.heap.size + 1, j, none⟩ = false := fun j => frozen_of_row _ _ _ _ _ hTy
        have hty0 : y.cell? ⟨w5.heap.size + 1, 0, none⟩ = some (.int .i64 (valN (seg l 24 2) : Nat)) := by rw [cell_of_row _ _ _ _ _ _ hTy]; rfl
        have hty1 : y.cell? ⟨w5.heap.size + 1, 1, none⟩ = some (.int .i64 (valN (seg l 16 4) : Nat)) := by rw [cell_of_row _ _ _ _ _ _ hTy]; rfl
        have hty2 : y.cell? ⟨w5.heap.size + 1, 2, none⟩ = some (.int .i64 (valN (seg l 20 4) : Nat)) := by rw [cell_of_row _ _ _ _ _ _ hTy]; rfl
        have hty3 : y.cell? ⟨w5.heap.size + 1, 3, none⟩ = some (.int .i64 (valN (seg l 26 2) : Nat)) := by rw [cell_of_row _ _ _ _ _ _ hTy]; rfl
        have hty4 : y.cell? ⟨w5.heap.size + 1, 4, none⟩ = some (.int .i64 (valN (seg l 28 2) : Nat)) := by rw [cell_of_row _ _ _ _ _ _ hTy]; rfl
        have hty5 : y.cell? ⟨w5.heap.size + 1, 5, none⟩ = some (.slice none 0 0) := by rw [cell_of_row _ _ _ _ _ _ hTy]; rfl
        obtain ⟨y2, hy2'⟩ : ∃ y2, y.setCell ⟨w5.heap.size + 1, 5, none⟩ (.slice ca 224 cc) = y2 := ⟨_, rfl⟩
        have hT2 : y2.heap[w5.heap.size + 1]? = some (.cells #[.int .i64 (valN (seg l 24 2) : Nat), .int .i64 (valN (seg l 16 4) : Nat), .int .i64 (valN (seg l 20 4) : Nat), .int .i64 (valN (seg l 26 2) : Nat), .int .i64 (valN (seg l 28 2) : Nat), .slice ca 224 cc] 101 (0, 0)) := by rw [← hy2']; exact heap_setCell_same _ _ 5 _ _ (.slice ca 224 cc) hTy
        have hR2' : y2.heap[w.heap.size + 1]? = some (.cells #[.int .i64 0, .int .i64 0, .int .i64 0, .int .i64 0, .int .i64 0, .slice none 0 0] 101 (0, 0)) := by rw [← hy2', setCell_at _ _ _ _ _ (by omega)]; exact hRy
        have hc2 : Chg (fun k => k = w5.heap.size + 1) y y2 := by rw [← hy2']; exact Chg.setCell _ _ rfl
        have hO2 : y2.ownsRow v5.heap.size 5 1 (.slice ca 224 cc) 224 (bvs (seg l 32 224)) := ownsRow_chg hO hc2 (fun k h1 _ h3 => by have : k = w5.heap.size + 1 := h3; omega)
        have hB2' : Below w.heap.size w y2 := (HBV.out.trans (hY.mono (by omega))).trans (hc2.below (fun k h => by omega) (by have := hY.size; omega))
        have hchk : Calls Tryd.prog 66 #[.agg #[.int .i64 (valN (seg l 24 2) : Nat), .int .i64 (valN (seg l 16 4) : Nat), .int .i64 (valN (seg l 20 4) : Nat), .int .i64 (valN (seg l 26 2) : Nat), .int .i64 (valN (seg l 28 2) : Nat), .slice ca 224 cc]] y2 (fun e w' => e = .returned (.int .i64 (chkP (rawP l))) ∧ Below y2.heap.size y2 w') := check_at (rawP l) ca 224 cc (by rw [HRB.out]; exact HSEG.out) y2
        have HCHK := Lib.hid hchk
        have HY2 := Lib.hid hy2'
        have HT2 := Lib.hid hT2
        have HRR2 := Lib.hid hR2'
        have HO2 := Lib.hid hO2
        have HBB2 := Lib.hid hB2'
        clear hO hY hTl hTy hRl hRy hy2' hT2 hR2' hc2 hO2 hB2' hchk
        go_wp2_with fail
        rw [HY2.out]
        clear hfy hty0 hty1 hty2 hty3 hty4 hty5 hy0 hy1 hy2 hy3 hy4 hy5 hr5 HY2
        have hr5 : True := trivial
        by_cases hk : chkP (rawP l) = 0
        · have hk2 : (chkP (rawP l) != 0) = false := by simp [hk]
          have hd0 : decE l = 0 := by rw [HDE.out, if_pos ⟨by rw [HSZQ.out]; omega, by rw [HSZQ.out]; exact HZ.out, hk⟩]
          have HD0 := Lib.hid hd0
          clear hk hd0
          refine HCHK.out.mono ?_
          rintro e z ⟨rfl, hZ⟩
          have hTz := (hZ.block _ (Array.getElem?_eq_some_iff.1 HT2.out).1).trans HT2.out
          have hRz := (hZ.block _ (Array.getElem?_eq_some_iff.1 HRR2.out).1).trans HRR2.out
          have htz0 : z.cell? ⟨w5.heap.size + 1, 0, none⟩ = some (.int .i64 (valN (seg l 24 2) : Nat)) := by rw [cell_of_row _ _ _ _ _ _ hTz]; rfl
          have htz1 : z.cell? ⟨w5.heap.size + 1, 1, none⟩ = some (.int .i64 (valN (seg l 16 4) : Nat)) := by rw [cell_of_row _ _ _ _ _ _ hTz]; rfl
          have htz2 : z.cell? ⟨w5.heap.size + 1, 2, none⟩ = some (.int .i64 (valN (seg l 20 4) : Nat)) := by rw [cell_of_row _ _ _ _ _ _ hTz]; rfl
          have htz3 : z.cell? ⟨w5.heap.size + 1, 3, none⟩ = some (.int .i64 (valN (seg l 26 2) : Nat)) := by rw [cell_of_row _ _ _ _ _ _ hTz]; rfl
          have htz4 : z.cell? ⟨w5.heap.size + 1, 4, none⟩ = some (.int .i64 (valN (seg l 28 2) : Nat)) := by rw [cell_of_row _ _ _ _ _ _ hTz]; rfl
          have htz5 : z.cell? ⟨w5.heap.size + 1, 5, none⟩ = some (.slice ca 224 cc) := by rw [cell_of_row _ _ _ _ _ _ hTz]; rfl
          have hrz : ∀ j : Nat, z.frozen? ⟨w.heap.size + 1, j, none⟩ = false := fun j => frozen_of_row _ _ _ _ _ hRz
          have hz0 : z.cell? ⟨w.heap.size + 1, 0, none⟩ = some (.int .i64 0) := by rw [cell_of_row _ _ _ _ _ _ hRz]; rfl
          have hz1 : z.cell? ⟨w.heap.size + 1, 1, none⟩ = some (.int .i64 0) := by rw [cell_of_row _ _ _ _ _ _ hRz]; rfl
          have hz2 : z.cell? ⟨w.heap.size + 1, 2, none⟩ = some (.int .i64 0) := by rw [cell_of_row _ _ _ _ _ _ hRz]; rfl
          have hz3 : z.cell? ⟨w.heap.size + 1, 3, none⟩ = some (.int .i64 0) := by rw [cell_of_row _ _ _ _ _ _ hRz]; rfl
          have hz4 : z.cell? ⟨w.heap.size + 1, 4, none⟩ = some (.int .i64 0) := by rw [cell_of_row _ _ _ _ _ _ hRz]; rfl
          have hz5 : z.cell? ⟨w.heap.size + 1, 5, none⟩ = some (.slice none 0 0) := by rw [cell_of_row _ _ _ _ _ _ hRz]; rfl
          have hOz := own_kept HO2.out hZ
          have hBz := HBB2.out.trans (hZ.mono HBB2.out.size)
          have hvR : w.heap.size + 1 < v5.heap.size := (Array.getElem?_eq_some_iff.1 HRV.out).1
          have HOZ := Lib.hid hOz
          have HBZ := Lib.hid hBz
          clear hZ hTz hRz hOz hBz
          go_wp2_with fail
          refine bodyPost_ret (v := .tuple #[.agg #[.int .i64 (valN (seg l 24 2) : Nat), .int .i64 (valN (seg l 16 4) : Nat), .int .i64 (valN (seg l 20 4) : Nat), .int .i64 (valN (seg l 26 2) : Nat), .int .i64 (valN (seg l 28 2) : Nat), .slice ca 224 cc], .int .i64 0]) (by simp [results, Tryd.results56, go_sem, hz0, hz1, hz2, hz3, hz4, hz5]) rfl ?_
          refine DecPost.yes HD0.out (by rw [HRB.out]; exact HSEG.out) ?_ ?_
          · rw [HRB.out]
            refine ownsRow_base (ownsRow_chg (G := fun k => k = w.heap.size + 1) HOZ.out (chg6 _ _ _ _ _ _ _ _) (fun k h1 _ h3 => by have : k = w.heap.size + 1 := h3; omega)) (by omega)
          · exact HBZ.out.trans ((chg6 _ _ _ _ _ _ _ _).below (fun k h => by have : k = w.heap.size + 1 := h; omega) HBZ.out.size)
        · have hk2 : (chkP (rawP l) != 0) = true := by simpa using hk
          have hd3 : decE l = 3 := by rw [HDE.out, if_neg (fun h => hk h.2.2)]
          have HD3 := Lib.hid hd3
          clear hk hd3
          refine HCHK.out.mono ?_
          rintro e z ⟨rfl, hZ⟩
          have hRz := (hZ.block _ (Array.getElem?_eq_some_iff.1 HRR2.out).1).trans HRR2.out
          have hrz : ∀ j : Nat, z.frozen? ⟨w.heap.size + 1, j, none⟩ = false := fun j => frozen_of_row _ _ _ _ _ hRz
          have hy0 : z.cell? ⟨w.heap.size + 1, 0, none⟩ = some (.int .i64 0) := by rw [cell_of_row _ _ _ _ _ _ hRz]; rfl
          have hy1 : z.cell? ⟨w.heap.size + 1, 1, none⟩ = some (.int .i64 0) := by rw [cell_of_row _ _ _ _ _ _ hRz]; rfl
          have hy2 : z.cell? ⟨w.heap.size + 1, 2, none⟩ = some (.int .i64 0) := by rw [cell_of_row _ _ _ _ _ _ hRz]; rfl
          have hy3 : z.cell? ⟨w.heap.size + 1, 3, none⟩ = some (.int .i64 0) := by rw [cell_of_row _ _ _ _ _ _ hRz]; rfl
          have hy4 : z.cell? ⟨w.heap.size + 1, 4, none⟩ = some (.int .i64 0) := by rw [cell_of_row _ _ _ _ _ _ hRz]; rfl
          have hy5 : z.cell? ⟨w.heap.size + 1, 5, none⟩ = some (.slice none 0 0) := by rw [cell_of_row _ _ _ _ _ _ hRz]; rfl
          have hBz := HBB2.out.trans (hZ.mono HBB2.out.size)
          have HBZ := Lib.hid hBz
          clear hZ hRz hBz
          go_wp2_with fail
          exact bodyPost_ret (v := .tuple #[.agg #[.int .i64 0, .int .i64 0, .int .i64 0, .int .i64 0, .int .i64 0, .slice none 0 0], .int .i64 3]) (by simp [results, Tryd.results56, go_sem, hy0, hy1, hy2, hy3, hy4, hy5]) rfl (DecPost.no HD3.out (by decide) ((((((HBZ.out.setCell (by show w.heap.size ≤ w.heap.size + 1; omega) _).setCell (by show w.heap.size ≤ w.heap.size + 1; omega) _).setCell (by show w.heap.size ≤ w.heap.size + 1; omega) _).setCell (by show w.heap.size ≤ w.heap.size + 1; omega) _).setCell (by show w.heap.size ≤ w.heap.size + 1; omega) _).setCell (by show w.heap.size ≤ w.heap.size + 1; omega) _))
      · have hz' : zerosB (l.drop (32 + 224)) = false := by simpa using hz
        have hIB : Calls Tryd.prog 65 #[.slice (some ⟨g, off, none⟩) (0) (0)] v5 (fun e w' => e = .returned (.bool false) ∧ v5 = w') :=
          (IsBlank_any hblank (by simp; have := HL.out; omega)).mono fun e w' ⟨h1, h2⟩ => ⟨by rw [h1, hz'], h2⟩
        have hd3 : decE l = 3 := by rw [HDE.out, if_neg (fun h => hz (by rw [HSZQ.out] at h; exact h.2.1))]
        have HIB := Lib.hid hIB
        have HD3 := Lib.hid hd3
        clear hblank hIB hz hz' hd3
        go_wp2_with fail
        refine HIB.out.mono ?_
        rintro e v' ⟨rfl, rfl⟩
        go_wp2_with fail
        exact bodyPost_ret (v := .tuple #[.agg #[.int .i64 0, .int .i64 0, .int .i64 0, .int .i64 0, .int .i64 0, .slice none 0 0], .int .i64 3]) (by simp [results, Tryd.results56, go_sem, hy0, hy1, hy2, hy3, hy4, hy5]) rfl (DecPost.no HD3.out (by decide) ((((((HBV.out.setCell (by show w.heap.size ≤ w.heap.size + 1; omega) _).setCell (by show w.heap.size ≤ w.heap.size + 1; omega) _).setCell (by show w.heap.size ≤ w.heap.size + 1; omega) _).setCell (by show w.heap.size ≤ w.heap.size + 1; omega) _).setCell (by show w.heap.size ≤ w.heap.size + 1; omega) _).setCell (by show w.heap.size ≤ w.heap.size + 1; omega) _))
    · have hc32 : ¬ cap = 32 := by omega
      have hblank : BytesAt v5 (fun _ => True) (.slice (some ⟨g, off + (32 + sz), none⟩) (256 - (32 + sz)) (cap - (32 + sz))) (l.drop (32 + sz)) := by
        have hlv := HLV.out.any
        rw [← HL.out] at hlv
        have h1 := hlv.part (32 + sz) (256 - (32 + sz)) (cap - (32 + sz)) (by rw [HL.out]; omega) (by omega)
        rwa [List.take_of_length_le (by simp; have := HL.out; omega)] at h1
      by_cases hz : zerosB (l.drop (32 + sz)) = true
      · have hIB : Calls Tryd.prog 65 #[.slice (some ⟨g, off + (32 + sz), none⟩) (256 - (32 + sz)) (cap - (32 + sz))] v5 (fun e w' => e = .returned (.bool true) ∧ v5 = w') :=
          (IsBlank_any hblank (by simp; have := HL.out; omega)).mono fun e w' ⟨h1, h2⟩ => ⟨by rw [h1, hz], h2⟩
        have hlv := HLV.out
        rw [← HL.out] at hlv
        have hcl0 := hlv.part 32 sz (cap - 32) (by rw [HL.out]; omega) (by omega)
        have hcl : Calls Tryd.prog 40 #[.slice (some ⟨g, off + 32, none⟩) sz (cap - 32)] v5 (fun e w' => ∃ v, e = .returned v ∧ w'.ownsRow v5.heap.size 5 1 v (seg l 32 sz).length (bvs (seg l 32 sz)) ∧ Below v5.heap.size v5 w') := bytesClone_any hcl0 (by have := HSEG.out; omega)
        have HIB := Lib.hid hIB
        have HCL := Lib.hid hcl
        have HZ := Lib.hid hz
        clear hblank hIB hlv hcl0 hcl hz
        go_wp2_with fail
        refine HIB.out.mono ?_
        rintro e v' ⟨rfl, rfl⟩
        go_wp2_with fail
        refine HCL.out.mono ?_
        rintro e y ⟨cv, rfl, hO, hY⟩
        obtain ⟨ca, cc, rfl⟩ := ownsRow_form hO
        rw [HSEG.out] at hO ⊢
        have hTl := (Array.getElem?_eq_some_iff.1 HT6.out).1
        have hTy := (hY.block (w5.heap.size + 1) hTl).trans HT6.out
        have hRl := (Array.getElem?_eq_some_iff.1 HRV.out).1
        have hRy := (hY.block (w.heap.size + 1) hRl).trans HRV.out
        have hfy : ∀ j : Nat, y.frozen? ⟨w5.heap.size + 1, j, none⟩ = false := fun j => frozen_of_row _ _ _ _ _ hTy
        have hty0 : y.cell? ⟨w5.heap.size + 1, 0, none⟩ = some (.int .i64 (valN (seg l 24 2) : Nat)) := by rw [cell_of_row _ _ _ _ _ _ hTy]; rfl
        have hty1 : y.cell? ⟨w5.heap.size + 1, 1, none⟩ = some (.int .i64 (valN (seg l 16 4) : Nat)) := by rw [cell_of_row _ _ _ _ _ _ hTy]; rfl
        have hty2 : y.cell? ⟨w5.heap.size + 1, 2, none⟩ = some (.int .i64 (valN (seg l 20 4) : Nat)) := by rw [cell_of_row _ _ _ _ _ _ hTy]; rfl
        have hty3 : y.cell? ⟨w5.heap.size + 1, 3, none⟩ = some (.int .i64 (valN (seg l 26 2) : Nat)) := by rw [cell_of_row _ _ _ _ _ _ hTy]; rfl
        have hty4 : y.cell? ⟨w5.heap.size + 1, 4, none⟩ = some (.int .i64 (valN (seg l 28 2) : Nat)) := by rw [cell_of_row _ _ _ _ _ _ hTy]; rfl
        have hty5 : y.cell? ⟨w5.heap.size + 1, 5, none⟩ = some (.slice none 0 0) := by rw [cell_of_row _ _ _ _ _ _ hTy]; rfl
        obtain ⟨y2, hy2'⟩ : ∃ y2, y.setCell ⟨w5.heap.size + 1, 5, none⟩ (.slice ca sz cc) = y2 := ⟨_, rfl⟩
        have hT2 : y2.heap[w5.heap.size + 1]? = some (.cells #[.int .i64 (valN (seg l 24 2) : Nat), .int .i64 (valN (seg l 16 4) : Nat), .int .i64 (valN (seg l 20 4) : Nat), .int .i64 (valN (seg l 26 2) : Nat), .int .i64 (valN (seg l 28 2) : Nat), .slice ca sz cc] 101 (0, 0)) := by rw [← hy2']; exact heap_setCell_same _ _ 5 _ _ (.slice ca sz cc) hTy
        have hR2' : y2.heap[w.heap.size + 1]? = some (.cells #[.int .i64 0, .int .i64 0, .int .i64 0, .int .i64 0, .int .i64 0, .slice none 0 0] 101 (0, 0)) := by rw [← hy2', setCell_at _ _ _ _ _ (by omega)]; exact hRy
        have hc2 : Chg (fun k => k = w5.heap.size + 1) y y2 := by rw [← hy2']; exact Chg.setCell _ _ rfl
        have hO2 : y2.ownsRow v5.heap.size 5 1 (.slice ca sz cc) sz (bvs (seg l 32 sz)) := ownsRow_chg hO hc2 (fun k h1 _ h3 => by have : k = w5.heap.size + 1 := h3; omega)
        have hB2' : Below w.heap.size w y2 := (HBV.out.trans (hY.mono (by omega))).trans (hc2.below (fun k h => by omega) (by have := hY.size; omega))
        have hchk : Calls Tryd.prog 66 #[.agg #[.int .i64 (valN (seg l 24 2) : Nat), .int .i64 (valN (seg l 16 4) : Nat), .int .i64 (valN (seg l 20 4) : Nat), .int .i64 (valN (seg l 26 2) : Nat), .int .i64 (valN (seg l 28 2) : Nat), .slice ca sz cc]] y2 (fun e w' => e = .returned (.int .i64 (chkP (rawP l))) ∧ Below y2.heap.size y2 w') := check_at (rawP l) ca sz cc (by rw [HRB.out]; exact HSEG.out) y2
        have HCHK := Lib.hid hchk
        have HY2 := Lib.hid hy2'
        have HT2 := Lib.hid hT2
        have HRR2 := Lib.hid hR2'
        have HO2 := Lib.hid hO2
        have HBB2 := Lib.hid hB2'
        clear hO hY hTl hTy hRl hRy hy2' hT2 hR2' hc2 hO2 hB2' hchk
        go_wp2_with fail
        rw [HY2.out]
        clear hfy hty0 hty1 hty2 hty3 hty4 hty5 hy0 hy1 hy2 hy3 hy4 hy5 hr5 HY2
        have hr5 : True := trivial
        by_cases hk : chkP (rawP l) = 0
        · have hk2 : (chkP (rawP l) != 0) = false := by simp [hk]
          have hd0 : decE l = 0 := by rw [HDE.out, if_pos ⟨by rw [HSZQ.out]; omega, by rw [HSZQ.out]; exact HZ.out, hk⟩]
          have HD0 := Lib.hid hd0
          clear hk hd0
          refine HCHK.out.mono ?_
          rintro e z ⟨rfl, hZ⟩
          have hTz := (hZ.block _ (Array.getElem?_eq_some_iff.1 HT2.out).1).trans HT2.out
          have hRz := (hZ.block _ (Array.getElem?_eq_some_iff.1 HRR2.out).1).trans HRR2.out
          have htz0 : z.cell? ⟨w5.heap.size + 1, 0, none⟩ = some (.int .i64 (valN (seg l 24 2) : Nat)) := by rw [cell_of_row _ _ _ _ _ _ hTz]; rfl
          have htz1 : z.cell? ⟨w5.heap.size + 1, 1, none⟩ = some (.int .i64 (valN (seg l 16 4) : Nat)) := by rw [cell_of_row _ _ _ _ _ _ hTz]; rfl
          have htz2 : z.cell? ⟨w5.heap.size + 1, 2, none⟩ = some (.int .i64 (valN (seg l 20 4) : Nat)) := by rw [cell_of_row _ _ _ _ _ _ hTz]; rfl
          have htz3 : z.cell? ⟨w5.heap.size + 1, 3, none⟩ = some (.int .i64 (valN (seg l 26 2) : Nat)) := by rw [cell_of_row _ _ _ _ _ _ hTz]; rfl
          have htz4 : z.cell? ⟨w5.heap.size + 1, 4, none⟩ = some (.int .i64 (valN (seg l 28 2) : Nat)) := by rw [cell_of_row _ _ _ _ _ _ hTz]; rfl
          have htz5 : z.cell? ⟨w5.heap.size + 1, 5, none⟩ = some (.slice ca sz cc) := by rw [cell_of_row _ _ _ _ _ _ hTz]; rfl
          have hrz : ∀ j : Nat, z.frozen? ⟨w.heap.size + 1, j, none⟩ = false := fun j => frozen_of_row _ _ _ _ _ hRz
          have hz0 : z.cell? ⟨w.heap.size + 1, 0, none⟩ = some (.int .i64 0) := by rw [cell_of_row _ _ _ _ _ _ hRz]; rfl
          have hz1 : z.cell? ⟨w.heap.size + 1, 1, none⟩ = some (.int .i64 0) := by rw [cell_of_row _ _ _ _ _ _ hRz]; rfl
          have hz2 : z.cell? ⟨w.heap.size + 1, 2, none⟩ = some (.int .i64 0) := by rw [cell_of_row _ _ _ _ _ _ hRz]; rfl
          have hz3 : z.cell? ⟨w.heap.size + 1, 3, none⟩ = some (.int .i64 0) := by rw [cell_of_row _ _ _ _ _ _ hRz]; rfl
          have hz4 : z.cell? ⟨w.heap.size + 1, 4, none⟩ = some (.int .i64 0) := by rw [cell_of_row _ _ _ _ _ _ hRz]; rfl
          have hz5 : z.cell? ⟨w.heap.size + 1, 5, none⟩ = some (.slice none 0 0) := by rw [cell_of_row _ _ _ _ _ _ hRz]; rfl
          have hOz := own_kept HO2.out hZ
          have hBz := HBB2.out.trans (hZ.mono HBB2.out.size)
          have hvR : w.heap.size + 1 < v5.heap.size := (Array.getElem?_eq_some_iff.1 HRV.out).1
          have HOZ := Lib.hid hOz
          have HBZ := Lib.hid hBz
          clear hZ hTz hRz hOz hBz
          go_wp2_with fail
          refine bodyPost_ret (v := .tuple #[.agg #[.int .i64 (valN (seg l 24 2) : Nat), .int .i64 (valN (seg l 16 4) : Nat), .int .i64 (valN (seg l 20 4) : Nat), .int .i64 (valN (seg l 26 2) : Nat), .int .i64 (valN (seg l 28 2) : Nat), .slice ca sz cc], .int .i64 0]) (by simp [results, Tryd.results56, go_sem, hz0, hz1, hz2, hz3, hz4, hz5]) rfl ?_
          refine DecPost.yes HD0.out (by rw [HRB.out]; exact HSEG.out) ?_ ?_
          · rw [HRB.out]
            refine ownsRow_base (ownsRow_chg (G := fun k => k = w.heap.size + 1) HOZ.out (chg6 _ _ _ _ _ _ _ _) (fun k h1 _ h3 => by have : k = w.heap.size + 1 := h3; omega)) (by omega)
          · exact HBZ.out.trans ((chg6 _ _ _ _ _ _ _ _).below (fun k h => by have : k = w.heap.size + 1 := h; omega) HBZ.out.size)
        · have hk2 : (chkP (rawP l) != 0) = true := by simpa using hk
          have hd3 : decE l = 3 := by rw [HDE.out, if_neg (fun h => hk h.2.2)]
          have HD3 := Lib.hid hd3
          clear hk hd3
          refine HCHK.out.mono ?_
          rintro e z ⟨rfl, hZ⟩
          have hRz := (hZ.block _ (Array.getElem?_eq_some_iff.1 HRR2.out).1).trans HRR2.out
          have hrz : ∀ j : Nat, z.frozen? ⟨w.heap.size + 1, j, none⟩ = false := fun j => frozen_of_row _ _ _ _ _ hRz
          have hy0 : z.cell? ⟨w.heap.size + 1, 0, none⟩ = some (.int .i64 0) := by rw [cell_of_row _ _ _ _ _ _ hRz]; rfl
          have hy1 : z.cell? ⟨w.heap.size + 1, 1, none⟩ = some (.int .i64 0) := by rw [cell_of_row _ _ _ _ _ _ hRz]; rfl
          have hy2 : z.cell? ⟨w.heap.size + 1, 2, none⟩ = some (.int .i64 0) := by rw [cell_of_row _ _ _ _ _ _ hRz]; rfl
          have hy3 : z.cell? ⟨w.heap.size + 1, 3, none⟩ = some (.int .i64 0) := by rw [cell_of_row _ _ _ _ _ _ hRz]; rfl
          have hy4 : z.cell? ⟨w.heap.size + 1, 4, none⟩ = some (.int .i64 0) := by rw [cell_of_row _ _ _ _ _ _ hRz]; rfl
          have hy5 : z.cell? ⟨w.heap.size + 1, 5, none⟩ = some (.slice none 0 0) := by rw [cell_of_row _ _ _ _ _ _ hRz]; rfl
          have hBz := HBB2.out.trans (hZ.mono HBB2.out.size)
          have HBZ := Lib.hid hBz
          clear hZ hRz hBz
          go_wp2_with fail
          exact bodyPost_ret (v := .tuple #[.agg #[.int .i64 0, .int .i64 0, .int .i64 0, .int .i64 0, .int .i64 0, .slice none 0 0], .int .i64 3]) (by simp [results, Tryd.results56, go_sem, hy0, hy1, hy2, hy3, hy4, hy5]) rfl (DecPost.no HD3.out (by decide) ((((((HBZ.out.setCell (by show w.heap.size ≤ w.heap.size + 1; omega) _).setCell (by show w.heap.size ≤ w.heap.size + 1; omega) _).setCell (by show w.heap.size ≤ w.heap.size + 1; omega) _).setCell (by show w.heap.size ≤ w.heap.size + 1; omega) _).setCell (by show w.heap.size ≤ w.heap.size + 1; omega) _).setCell (by show w.heap.size ≤ w.heap.size + 1; omega) _))
      · have hz' : zerosB (l.drop (32 + sz)) = false := by simpa using hz
        have hIB : Calls Tryd.prog 65 #[.slice (some ⟨g, off + (32 + sz), none⟩) (256 - (32 + sz)) (cap - (32 + sz))] v5 (fun e w' => e = .returned (.bool false) ∧ v5 = w') :=
          (IsBlank_any hblank (by simp; have := HL.out; omega)).mono fun e w' ⟨h1, h2⟩ => ⟨by rw [h1, hz'], h2⟩
        have hd3 : decE l = 3 := by rw [HDE.out, if_neg (fun h => hz (by rw [HSZQ.out] at h; exact h.2.1))]
        have HIB := Lib.hid hIB
        have HD3 := Lib.hid hd3
        clear hblank hIB hz hz' hd3
        go_wp2_with fail
        refine HIB.out.mono ?_
        rintro e v' ⟨rfl, rfl⟩
        go_wp2_with fail
        exact bodyPost_ret (v := .tuple #[.agg #[.int .i64 0, .int .i64 0, .int .i64 0, .int .i64 0, .int .i64 0, .slice none 0 0], .int .i64 3]) (by simp [results, Tryd.results56, go_sem, hy0, hy1, hy2, hy3, hy4, hy5]) rfl (DecPost.no HD3.out (by decide) ((((((HBV.out.setCell (by show w.heap.size ≤ w.heap.size + 1; omega) _).setCell (by show w.heap.size ≤ w.heap.size + 1; omega) _).setCell (by show w.heap.size ≤ w.heap.size + 1; omega) _).setCell (by show w.heap.size ≤ w.heap.size + 1; omega) _).setCell (by show w.heap.size ≤ w.heap.size + 1; omega) _).setCell (by show w.heap.size ≤ w.heap.size + 1; omega) _))

end Go.Proofs.YtplclpileejemaaDoor

namespace Go.Proofs.YtplclpileejemaaDoor
open Go.RowKit
set_option linter.unusedVariables false
set_option linter.unusedSimpArgs false

theorem sizeT64 (l : List UInt32) (h : l.length = 64) : (Tryd.prog.info? 155).map (·.size) = some (wvs l).toArray.size := by
  have : (Tryd.prog.info? 155).map (·.size) = some 64 := by kernel_rfl
  rw [this, List.size_toArray, wvs_length, h]
/-- An operation whose run is known. -/
theorem wpList_known {P : Program} {ops : Array Oper} {rest : List Oper} {o : Oper} {a : Act} {w : World} {Q : Exit → Act → World → Prop} (hgd : o.guard = none) (v : Value) (hr : (execOp a.eval o).run P w = .ok (.value v) w)
    (h : wpList P ops Q rest (a.put o.dst v) w) : wpList P ops Q (o :: rest) a w := by
  refine wpList_plain hgd fun _ hK => ?_
  unfold Oper.wp
  rw [hr]
  exact hK _ _ h

end Go.Proofs.YtplclpileejemaaDoor

namespace Go.Proofs.YtplclpileejemaaDoor
open Go.RowKit
set_option linter.unusedVariables false
set_option linter.unusedSimpArgs false

/-- A byte slice, nil only as nil is. -/
structure BytesN (w : World) (F : Nat → Prop) (v : Value) (l : List UInt8) : Prop where
  at_ : BytesAt w F v l
  nil : ∀ k c, v = .slice none k c → c = 0
theorem BytesN.kept {w w' : World} {F G : Nat → Prop} {v : Value} {l : List UInt8} (h : BytesN w F v l) (hc : Chg G w w') (hd : ∀ k, F k → ¬ G k) : BytesN w' F v l := ⟨h.at_.kept hc hd, h.nil⟩
theorem BytesN.below {w w' : World} {F : Nat → Prop} {v : Value} {l : List UInt8} (h : BytesN w F v l) (hb : Below w.heap.size w w') : BytesN w' F v l := h.kept (G := fun _ => False) (Chg.of_below hb) (fun _ _ h => h)
theorem BytesN.of_own {w : World} {B n : Nat} {v : Value} {l : List UInt8} (h : w.ownsRow B 5 1 v n (bvs l)) (hn : l.length = n) : BytesN w (fun k => B ≤ k) v l :=
  ⟨ownsRow_bytes h hn, fun k c e => by
    rcases h.2 with ⟨e2, _⟩ | ⟨g, cap, cur, e2, _⟩
    · rw [e] at e2; cases e2; rfl
    · rw [e] at e2; cases e2⟩

end Go.Proofs.YtplclpileejemaaDoor

namespace Go.Proofs.YtplclpileejemaaDoor
open Go.RowKit
set_option linter.unusedVariables false
set_option linter.unusedSimpArgs false

def word4 (l : List UInt8) (t : Nat) : UInt32 :=
  ((l.getD (4 * t) 0).toUInt32 <<< 24) ||| ((l.getD (4 * t + 1) 0).toUInt32 <<< 16) ||| ((l.getD (4 * t + 2) 0).toUInt32 <<< 8) ||| (l.getD (4 * t + 3) 0).toUInt32
/-- The schedule when the first t words are there. -/
def rsAt (l : List UInt8) : Nat → List UInt32
  | 0 => List.replicate 64 0
  | t + 1 => (rsAt l t).set t (if t < 16 then word4 l t else ss1 ((rsAt l t).getD (t - 2) 0) + (rsAt l t).getD (t - 7) 0 + ss0 ((rsAt l t).getD (t - 15) 0) + (rsAt l t).getD (t - 16) 0)
theorem rsAt_length (l : List UInt8) : ∀ t, (rsAt l t).length = 64
  | 0 => by simp [rsAt]
  | t + 1 => by simp [rsAt, rsAt_length l t]
theorem rsAt_zero (l : List UInt8) : ∀ t j, t ≤ j → (rsAt l t).getD j 0 = 0
  | 0, j, _ => by
    simp only [rsAt, List.getD_eq_getElem?_getD, List.getElem?_replicate]
    split <;> rfl
  | t + 1, j, h => by
    have ih := rsAt_zero l t j (by omega)
    simp only [rsAt, List.getD_eq_getElem?_getD] at ih ⊢
    rw [List.getElem?_set_ne (by omega)]
    exact ih
def rsch (l : List UInt8) : List UInt32 := rsAt l 64

theorem n_wrap (a : UInt32) : IntKind.u32.wrap (wN a) = wN a := IntWalk.u32_in _ ⟨wN_nonneg a, by have := wN_lt a; omega⟩
theorem n_shlk (a : UInt32) (yk : IntKind) (n : Nat) (h : n < 32) : Op.shift .shl .u32 (wN a) yk (n : Int) = (pure (.int .u32 (wN (a <<< (UInt32.ofNat n)))) : Sem Value) := by
  rw [shift_shl_any _ _ _ _ (by omega)]
  have e : min (n : Int).toNat IntKind.u32.bits = n := by simp [IntKind.bits]; omega
  rw [e]
  have := n_shl a n h
  rw [← IntKind.wrap_u32'] at this
  exact congrArg _ (congrArg _ this)

theorem shl_24 (a : UInt32) : wN a * (16777216 : Int) % (4294967296 : Int) = wN (a <<< 24) := n_shl a 24 (by decide)
theorem shl_16 (a : UInt32) : wN a * (65536 : Int) % (4294967296 : Int) = wN (a <<< 16) := n_shl a 16 (by decide)
theorem shl_8 (a : UInt32) : wN a * (256 : Int) % (4294967296 : Int) = wN (a <<< 8) := n_shl a 8 (by decide)
theorem word_int (a b c d : UInt32) : bits .or .u32 (bits .or .u32 (bits .or .u32 (wN a * 16777216 % 4294967296) (wN b * 65536 % 4294967296)) (wN c * 256 % 4294967296)) (wN d) = wN (a <<< 24 ||| b <<< 16 ||| c <<< 8 ||| d) := by
  rw [shl_24, shl_16, shl_8, n_or, n_or, n_or]

end Go.Proofs.YtplclpileejemaaDoor

namespace Go.Proofs.YtplclpileejemaaDoor
open Go.RowKit
set_option linter.unusedVariables false
set_option linter.unusedSimpArgs false

def rvAt (h : W8) (S : List UInt32) : Nat → W8
  | 0 => h
  | t + 1 => (rvAt h S t).round (kTab.getD t 0) (S.getD t 0)
def blkOf (P : List UInt8) (j : Nat) : List UInt8 := (P.drop (64 * j)).take 64
def rH (P : List UInt8) : Nat → W8
  | 0 => w8init
  | j + 1 => (rH P j).plus (rvAt (rH P j) (rsch (blkOf P j)) 64)
theorem quiet_add2 {P : Program} {f : FuncId} {args : Array Value} {w : World} {a n : Nat} {v : Value}
    (h : Calls P f args (w.drewN (a + n)) fun e w' => e = .returned v ∧ ∃ m, w' = (w.drewN (a + n)).drewN m) :
    Calls P f args (w.drewN (a + n)) fun e w'' => e = .returned v ∧ ∃ m, w'' = w.drewN (a + m) :=
  h.mono fun _ _ ⟨he, m, hm⟩ => ⟨he, n + m, by rw [hm, World.drewN_drewN, Nat.add_assoc]⟩
theorem hide_post {P : Program} {c : Code} {Q : Exit → Act → World → Prop} {a : Act} {w : World} (h : ∀ Q', Hid (Q' = Q) → Code.wp P c Q' a w) : Code.wp P c Q a w := h Q (Lib.hid rfl)
/-- The first n of eight words added. -/
def mixAt (hl vl : List UInt32) : Nat → List UInt32
  | 0 => hl
  | n + 1 => (mixAt hl vl n).set n ((mixAt hl vl n).getD n 0 + vl.getD n 0)
theorem mixAt_length (hl vl : List UInt32) : ∀ n, (mixAt hl vl n).length = hl.length
  | 0 => rfl
  | n + 1 => by rw [mixAt, List.length_set, mixAt_length hl vl n]
theorem mixAt_end (h v : W8) : mixAt h.list v.list 8 = (h.plus v).list := rfl
theorem cells_list (v : W8) : v.cells = wvs v.list := rfl
theorem kTab_length : kTab.length = 64 := rfl
theorem tab_cell {w : World} {b i : Nat} {ws : List UInt32} {T : TypeId} {x : UInt32} (h : w.heap[b]? = some (.cells (wvs ws).toArray T (0, 0))) (hi : i < ws.length) (hx : ws.getD i 0 = x) : w.cell? ⟨b, i, none⟩ = some (.int .u32 (wN x)) := by
  rw [cell_of_row w _ _ _ _ _ h, wvs_at _ _ hi, hx]
theorem v8_cells {w : World} {b : Nat} {v : W8} {T : TypeId} (h : w.heap[b]? = some (.cells v.cells.toArray T (0, 0))) :
    w.cell? ⟨b, 0, none⟩ = some (.int .u32 (wN v.a)) ∧ w.cell? ⟨b, 1, none⟩ = some (.int .u32 (wN v.b)) ∧ w.cell? ⟨b, 2, none⟩ = some (.int .u32 (wN v.c)) ∧ w.cell? ⟨b, 3, none⟩ = some (.int .u32 (wN v.d)) ∧
    w.cell? ⟨b, 4, none⟩ = some (.int .u32 (wN v.e)) ∧ w.cell? ⟨b, 5, none⟩ = some (.int .u32 (wN v.f)) ∧ w.cell? ⟨b, 6, none⟩ = some (.int .u32 (wN v.g)) ∧ w.cell? ⟨b, 7, none⟩ = some (.int .u32 (wN v.i)) := by
  have c := fun i => cell_of_row w b i _ _ _ h
  exact ⟨(c 0).trans rfl, (c 1).trans rfl, (c 2).trans rfl, (c 3).trans rfl, (c 4).trans rfl, (c 5).trans rfl, (c 6).trans rfl, (c 7).trans rfl⟩
theorem sizeT8 : (Tryd.prog.info? 157).map (·.size) = some 8 := by kernel_rfl
theorem set8 {w : World} {b : Nat} {v : W8} {T : TypeId} (h : w.heap[b]? = some (.cells v.cells.toArray T (0, 0))) (v' : W8) :
    ((((((((w.setCell ⟨b, 0, none⟩ (.int .u32 (wN v'.a))).setCell ⟨b, 1, none⟩ (.int .u32 (wN v'.b))).setCell ⟨b, 2, none⟩ (.int .u32 (wN v'.c))).setCell ⟨b, 3, none⟩ (.int .u32 (wN v'.d))).setCell ⟨b, 4, none⟩ (.int .u32 (wN v'.e))).setCell
      ⟨b, 5, none⟩ (.int .u32 (wN v'.f))).setCell ⟨b, 6, none⟩ (.int .u32 (wN v'.g))).setCell ⟨b, 7, none⟩ (.int .u32 (wN v'.i))).heap[b]? = some (.cells v'.cells.toArray T (0, 0)) := by
  have h0 := heap_setCell_same _ b 0 _ _ (.int .u32 (wN v'.a)) h
  have h1 := heap_setCell_same _ b 1 _ _ (.int .u32 (wN v'.b)) h0
  have h2 := heap_setCell_same _ b 2 _ _ (.int .u32 (wN v'.c)) h1
  have h3 := heap_setCell_same _ b 3 _ _ (.int .u32 (wN v'.d)) h2
  have h4 := heap_setCell_same _ b 4 _ _ (.int .u32 (wN v'.e)) h3
  have h5 := heap_setCell_same _ b 5 _ _ (.int .u32 (wN v'.f)) h4
  have h6 := heap_setCell_same _ b 6 _ _ (.int .u32 (wN v'.g)) h5
  have h7 := heap_setCell_same _ b 7 _ _ (.int .u32 (wN v'.i)) h6
  refine h7.trans ?_
  simp [W8.cells, wv]

/-- One round of the reference's loop: a walk of its own. -/
def RInv (W0 : World) (Bv : Nat) (v : W8) (wr : World) : Prop := wr.heap[Bv]? = some (.cells v.cells.toArray 157 (0, 0)) ∧ Chg (fun k => k = Bv) W0 wr

end Go.Proofs.YtplclpileejemaaDoor
