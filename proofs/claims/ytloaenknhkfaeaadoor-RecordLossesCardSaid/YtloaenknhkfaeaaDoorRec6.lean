/- Records: EncodePart. -/
import Derived.Test.YtloaenknhkfaeaaDoorRec5
namespace Go.Proofs.YtloaenknhkfaeaaDoor
open Go.RowKit
set_option linter.unusedVariables false
set_option linter.unusedSimpArgs false

def hdrZ (X : List UInt8) : List UInt8 := List.replicate 16 0 ++ X ++ List.replicate (16 - X.length) 0
theorem hdrZ_length (X : List UInt8) (h : X.length ≤ 16) : (hdrZ X).length = 32 := by simp [hdrZ]; omega
theorem hdrZ_splice (X c : List UInt8) (h : X.length + c.length ≤ 16) : spliceL (hdrZ X) (16 + X.length) c = hdrZ (X ++ c) := by
  unfold spliceL hdrZ
  have h1 : (List.replicate 16 (0 : UInt8) ++ X).length = 16 + X.length := by rw [List.length_append, List.length_replicate]
  have e1 : (List.replicate 16 (0 : UInt8) ++ X ++ List.replicate (16 - X.length) 0).take (16 + X.length) = List.replicate 16 0 ++ X := List.take_left' h1
  have e2 : (List.replicate 16 (0 : UInt8) ++ X ++ List.replicate (16 - X.length) 0).drop (16 + X.length + c.length) = List.replicate (16 - (X ++ c).length) 0 := by
    rw [List.drop_append, h1, List.drop_of_length_le (by rw [h1]; omega), List.nil_append, List.drop_replicate]
    congr 1
    simp; omega
  rw [e1, e2]
  simp
theorem put_hdr (n size h at_ : Nat) (X : List UInt8) (hn : n < 4611686018427387904) (hs : size ≤ 4) (hi : X.length + size ≤ 16) (hne : h ≠ at_) {w : World} (hw : hdrAt w h at_ (hdrZ X) (16 + X.length)) :
    Calls Tryd.prog 46 #[.int .i64 (n : Int), .int .i64 (size : Int), .pointer (some ⟨h, 0, none⟩), .pointer (some ⟨at_, 0, none⟩)] w fun e w' =>
      e = .returned (.tuple #[]) ∧ hdrAt w' h at_ (hdrZ (X ++ beL size n)) (16 + (X ++ beL size n).length) ∧ Chg (fun k => k = h ∨ k = at_) w w' := by
  refine (put_any n size (16 + X.length) h at_ (hdrZ X) hn hs (by omega) (hdrZ_length X (by omega)) hne hw).mono fun e w' ⟨h1, h2, h3⟩ => ⟨h1, ?_, h3⟩
  rw [hdrZ_splice X _ (by simpa using hi)] at h2
  simpa [Nat.add_assoc] using h2
theorem check_at (p : PartD) (a : Option Addr) (len cap : Nat) (h : p.bytes.length = len) (w : World) : Calls Tryd.prog 19 #[.agg #[.int .i64 p.kind, .int .i64 p.gen, .int .i64 p.num, .int .i64 p.idx, .int .i64 p.cnt, .slice a len cap]] w fun e w' => e = .returned (.int .i64 (chkP p)) ∧ Below w.heap.size w w' := by
  subst h
  exact check_any p.kind p.gen p.num p.idx p.cnt a p.bytes.length cap w

def z256 : List UInt8 := List.replicate 256 0
theorem z256_length : z256.length = 256 := List.length_replicate
theorem mk256 : ∀ w, (Instr.makeSlice 22 (.int .i64 256) (.int .i64 256)).run Tryd.prog w = .ok (.slice (some ⟨w.heap.size, 0, none⟩) 256 256) (w.alloc (.cells (bvs z256).toArray 5)) := fun _ => by kernel_rfl
theorem slice_arr32 (g : Nat) (w : World) : (Instr.sliceAt 92 (.pointer (some ⟨g, 0, none⟩)) none none none).run Tryd.prog w = .ok (.slice (some ⟨g, 0, none⟩) 32 32) w := by
  simp [Instr.sliceAt, run_underlying Tryd.underlying92, Instr.sureAddr, Instr.sliceBounds, Instr.sliceBound, asIntOf, size_u8]
  rfl
theorem slice_half (g : Nat) (w : World) : (Instr.sliceAt 95 (.pointer (some ⟨g, 0, none⟩)) none none none).run Tryd.prog w = .ok (.slice (some ⟨g, 0, none⟩) 16 16) w := by
  simp [Instr.sliceAt, run_underlying Tryd.underlying95, Instr.sureAddr, Instr.sliceBounds, Instr.sliceBound, asIntOf, size_u8]
  rfl
/-- A block of bytes as a slice. -/
theorem block_bytes {w : World} {g : Nat} {l : List UInt8} {T : TypeId} (h : w.heap[g]? = some (.cells (bvs l).toArray T (0, 0))) (i n c : Nat) (hn : i + n ≤ l.length) (hc : n ≤ c) :
    BytesAt w (fun k => k = g) (.slice (some ⟨g, i, none⟩) n c) ((l.drop i).take n) := by
  have h0 : BytesAt w (fun k => k = g) (.slice (some ⟨g, 0, none⟩) l.length l.length) l :=
    ⟨some ⟨g, 0, none⟩, l.length, rfl, Nat.le_refl _, fun _ => ⟨g, 0, rfl, rfl, (Array.getElem?_eq_some_iff.1 h).1, fun j u hu => by rw [cell_of_row w _ _ _ _ _ h, Nat.zero_add]; simpa using hu⟩⟩
  have h1 := h0.part i n c hn hc
  rwa [Nat.zero_add] at h1
/-- The 256 bytes: zeros, the header, the bytes, the digest. -/
theorem enc_assemble {p : PartD} (h : p.bytes.length ≤ 224) :
    spliceL (spliceL (spliceL z256 0 (hdrZ (hdrL p))) 32 p.bytes) 0 (halfL ((spliceL (spliceL z256 0 (hdrZ (hdrL p))) 32 p.bytes).drop 16)) = encL p := by
  have e1 : spliceL z256 0 (hdrZ (hdrL p)) = List.replicate 16 0 ++ (hdrL p ++ List.replicate 224 0) := by
    unfold spliceL
    rw [hdrZ_length _ (by simp)]
    simp [hdrZ, z256]
  have e2 : spliceL (List.replicate 16 0 ++ (hdrL p ++ List.replicate 224 0)) 32 p.bytes = List.replicate 16 0 ++ restL p := by
    unfold spliceL
    have h1 : (List.replicate 16 (0 : UInt8) ++ hdrL p).length = 32 := by simp
    rw [← List.append_assoc, List.take_left' h1, List.drop_append, h1, List.drop_of_length_le (by rw [h1]; omega), List.nil_append, List.drop_replicate]
    have h2 : 224 - (32 + p.bytes.length - 32) = 224 - p.bytes.length := by omega
    rw [h2]
    simp [restL]
  rw [e1, e2, encL_rest h]
  have e3 : (List.replicate 16 (0 : UInt8) ++ restL p).drop 16 = restL p := by simp
  rw [e3]
  unfold spliceL
  simp

set_option maxRecDepth 100000 in
set_option maxHeartbeats 2000000 in
theorem EncodePart_no {w : World} (p : PartD) (a : Option Addr) (len cap : Nat) (hl : p.bytes.length = len) (h : chkP p ≠ 0) :
    Calls Tryd.prog 17 #[.agg #[.int .i64 p.kind, .int .i64 p.gen, .int .i64 p.num, .int .i64 p.idx, .int .i64 p.cnt, .slice a len cap]] w fun e w' =>
      e = .returned (.tuple #[.slice none 0 0, .int .i64 (chkP p)]) ∧ Below w.heap.size w w' := by
  have hc := check_at p a len cap hl
  have hb1 : (chkP p != 0) = true := by simpa using h
  have HC := Lib.hid hc
  clear hc h hl
  go_enter Tryd.func17, Tryd.ntmps17
  go_wp2_with fail
  refine (HC.out _).mono ?_
  rintro e w1 ⟨rfl, hb1⟩
  go_wp2_with fail
  go_ret2
  exact ⟨rfl, ((Below.refl _ _).alloc (Nat.le_refl _) _).trans (hb1.mono (by simp))⟩

set_option maxRecDepth 100000 in
set_option maxHeartbeats 2000000 in
theorem EncodePart_ok {w : World} (p : PartD) (a : Option Addr) (len cap : Nat) {F : Nat → Prop} (hv : BytesAt w F (.slice a len cap) p.bytes) (hl : p.bytes.length = len) (hK : KAt w) (h : chkP p = 0) :
    Calls Tryd.prog 17 #[.agg #[.int .i64 p.kind, .int .i64 p.gen, .int .i64 p.num, .int .i64 p.idx, .int .i64 p.cnt, .slice a len cap]] w fun e w' =>
      ∃ v, e = .returned (.tuple #[v, .int .i64 0]) ∧ w'.ownsRow w.heap.size 5 1 v 256 (bvs (encL p)) ∧ Below w.heap.size w w' := by
  have hc := check_at p a len cap hl
  have hok := chkP_ok h
  rw [h] at hc
  have hasm := enc_assemble (p := p) hok.len
  obtain ⟨k', g', n', i', c', l⟩ := p
  obtain ⟨a1, a2, a3, a4, a5, a6, a7, a8, a9, a10, a11, x1, x2⟩ := hok
  clear x1 x2
  simp only at *
  obtain ⟨k, rfl⟩ := Int.eq_ofNat_of_zero_le a1
  obtain ⟨g, rfl⟩ := Int.eq_ofNat_of_zero_le a3
  obtain ⟨n, rfl⟩ := Int.eq_ofNat_of_zero_le a5
  obtain ⟨i, rfl⟩ := Int.eq_ofNat_of_zero_le a9
  obtain ⟨c, rfl⟩ := Int.eq_ofNat_of_zero_le (by omega : (0 : Int) ≤ c')
  have b1 : k ≤ 65535 := by omega
  have b2 : g ≤ 2147483647 := by omega
  have b3 : n ≤ 2147483647 := by omega
  have b4 : i < 586 := by omega
  have b5 : c ≤ 586 := by omega
  have b6 : len ≤ 224 := by omega
  have HA := Lib.hid hasm
  have HC := Lib.hid hc
  have HL := Lib.hid hl
  have HV := Lib.hid hv
  have HK := Lib.hid hK
  clear hasm hc h hl hv hK a1 a2 a3 a4 a5 a6 a7 a8 a9 a10 a11
  go_enter Tryd.func17, Tryd.ntmps17
  go_wp2_with fail
  refine (HC.out _).mono ?_
  rintro e w1 ⟨rfl, hb1⟩
  have hbx : w1.heap[w.heap.size]? = some (.cells #[.int .i64 k, .int .i64 g, .int .i64 n, .int .i64 i, .int .i64 c, .slice a len cap] 25 (0, 0)) := (hb1.block _ (by simp)).trans (heap_alloc_new _ _)
  have hz1 := hb1.size
  rw [World.size_alloc] at hz1
  have hzl : w.heap.size < w1.heap.size := hz1
  have hx1 : w1.cell? ⟨w.heap.size, 1, none⟩ = some (.int .i64 g) := by rw [cell_of_row _ _ _ _ _ _ hbx]; rfl
  have hb2 : Below w.heap.size w w1 := ((Below.refl _ _).alloc (Nat.le_refl _) _).trans (hb1.mono (by simp))
  have HB := Lib.hid hb2
  have HBX := Lib.hid hbx
  obtain ⟨w2, hw2⟩ : ∃ w2, (w1.alloc (.cells #[.int .u8 0, .int .u8 0, .int .u8 0, .int .u8 0, .int .u8 0, .int .u8 0, .int .u8 0, .int .u8 0, .int .u8 0, .int .u8 0, .int .u8 0, .int .u8 0, .int .u8 0, .int .u8 0, .int .u8 0, .int .u8 0, .int .u8 0, .int .u8 0, .int .u8 0, .int .u8 0, .int .u8 0, .int .u8 0, .int .u8 0, .int .u8 0, .int .u8 0, .int .u8 0, .int .u8 0, .int .u8 0, .int .u8 0, .int .u8 0, .int .u8 0, .int .u8 0] 92)).alloc (.cells #[.int .i64 16] 3) = w2 := ⟨_, rfl⟩
  have hb3 : Below w1.heap.size w1 w2 := hw2 ▸ ((Below.refl _ w1).alloc (Nat.le_refl _) _).alloc (by simp) _
  have hh2 : hdrAt w2 w1.heap.size (w1.heap.size + 1) (hdrZ []) (16 + ([] : List UInt8).length) := by
    rw [← hw2]
    refine ⟨(Below.heap_alloc _ _ _ (by simp)).trans (heap_alloc_new _ _), ?_⟩
    have := heap_alloc_new (w1.alloc (.cells #[.int .u8 0, .int .u8 0, .int .u8 0, .int .u8 0, .int .u8 0, .int .u8 0, .int .u8 0, .int .u8 0, .int .u8 0, .int .u8 0, .int .u8 0, .int .u8 0, .int .u8 0, .int .u8 0, .int .u8 0, .int .u8 0, .int .u8 0, .int .u8 0, .int .u8 0, .int .u8 0, .int .u8 0, .int .u8 0, .int .u8 0, .int .u8 0, .int .u8 0, .int .u8 0, .int .u8 0, .int .u8 0, .int .u8 0, .int .u8 0, .int .u8 0, .int .u8 0] 92)) (.cells #[.int .i64 16] 3)
    rw [World.size_alloc] at this
    exact this
  have HB3 := Lib.hid hb3
  have HH0 := Lib.hid hh2
  have HW2 := Lib.hid hw2
  have hc2 : Chg (fun k => k = w1.heap.size ∨ k = w1.heap.size + 1) w1 w2 := Chg.of_below hb3
  have HG0 := Lib.hid hc2
  clear hb1 hb2 hbx hw2 hh2 hb3 hc2
  go_wp2_with fail
  rw [HW2.out]
  have hput0 := put_hdr g 4 w1.heap.size (w1.heap.size + 1) [] (by omega) (by omega) (by simp) (by omega) HH0.out
  rw [List.nil_append] at hput0
  refine hput0.mono ?_
  clear hput0
  rintro e v0 ⟨rfl, hh, hc⟩
  have HH1 := Lib.hid hh
  have hcc := HG0.out.trans hc (fun _ h => .inl h)
  have HG1 := Lib.hid hcc
  have hbx := (hcc.block _ hzl (by omega)).trans HBX.out
  have hx0_2 : v0.cell? ⟨w.heap.size, 2, none⟩ = some (.int .i64 n) := by rw [cell_of_row _ _ _ _ _ _ hbx]; rfl
  clear hh hc hcc hbx
  go_wp2_with fail
  have hput1 := put_hdr n 4 w1.heap.size (w1.heap.size + 1) (beL 4 g) (by omega) (by omega) (by simp) (by omega) HH1.out
  refine hput1.mono ?_
  clear hput1
  rintro e v1 ⟨rfl, hh, hc⟩
  have HH2 := Lib.hid hh
  have hcc := HG1.out.trans hc (fun _ h => .inl h)
  have HG2 := Lib.hid hcc
  have hbx := (hcc.block _ hzl (by omega)).trans HBX.out
  have hx1_0 : v1.cell? ⟨w.heap.size, 0, none⟩ = some (.int .i64 k) := by rw [cell_of_row _ _ _ _ _ _ hbx]; rfl
  clear hh hc hcc hbx
  go_wp2_with fail
  have hput2 := put_hdr k 2 w1.heap.size (w1.heap.size + 1) ((beL 4 g) ++ beL 4 n) (by omega) (by omega) (by simp) (by omega) HH2.out
  refine hput2.mono ?_
  clear hput2
  rintro e v2 ⟨rfl, hh, hc⟩
  have HH3 := Lib.hid hh
  have hcc := HG2.out.trans hc (fun _ h => .inl h)
  have HG3 := Lib.hid hcc
  have hbx := (hcc.block _ hzl (by omega)).trans HBX.out
  have hx2_3 : v2.cell? ⟨w.heap.size, 3, none⟩ = some (.int .i64 i) := by rw [cell_of_row _ _ _ _ _ _ hbx]; rfl
  clear hh hc hcc hbx
  go_wp2_with fail
  have hput3 := put_hdr i 2 w1.heap.size (w1.heap.size + 1) (((beL 4 g) ++ beL 4 n) ++ beL 2 k) (by omega) (by omega) (by simp) (by omega) HH3.out
  refine hput3.mono ?_
  clear hput3
  rintro e v3 ⟨rfl, hh, hc⟩
  have HH4 := Lib.hid hh
  have hcc := HG3.out.trans hc (fun _ h => .inl h)
  have HG4 := Lib.hid hcc
  have hbx := (hcc.block _ hzl (by omega)).trans HBX.out
  have hx3_4 : v3.cell? ⟨w.heap.size, 4, none⟩ = some (.int .i64 c) := by rw [cell_of_row _ _ _ _ _ _ hbx]; rfl
  clear hh hc hcc hbx
  go_wp2_with fail
  have hput4 := put_hdr c 2 w1.heap.size (w1.heap.size + 1) ((((beL 4 g) ++ beL 4 n) ++ beL 2 k) ++ beL 2 i) (by omega) (by omega) (by simp) (by omega) HH4.out
  refine hput4.mono ?_
  clear hput4
  rintro e v4 ⟨rfl, hh, hc⟩
  have HH5 := Lib.hid hh
  have hcc := HG4.out.trans hc (fun _ h => .inl h)
  have HG5 := Lib.hid hcc
  have hbx := (hcc.block _ hzl (by omega)).trans HBX.out
  have hx4_5 : v4.cell? ⟨w.heap.size, 5, none⟩ = some (.slice a len cap) := by rw [cell_of_row _ _ _ _ _ _ hbx]; rfl
  clear hh hc hcc hbx
  go_wp2_with fail
  have hput5 := put_hdr len 2 w1.heap.size (w1.heap.size + 1) (((((beL 4 g) ++ beL 4 n) ++ beL 2 k) ++ beL 2 i) ++ beL 2 c) (by omega) (by omega) (by simp) (by omega) HH5.out
  refine hput5.mono ?_
  clear hput5
  rintro e v5 ⟨rfl, hh, hc⟩
  have HH6 := Lib.hid hh
  have hcc := HG5.out.trans hc (fun _ h => .inl h)
  have HG6 := Lib.hid hcc
  have hbx := (hcc.block _ hzl (by omega)).trans HBX.out
  have hs5 := hcc.size
  clear hh hc hcc hbx
  have hX : ((((((beL 4 g) ++ beL 4 n) ++ beL 2 k) ++ beL 2 i) ++ beL 2 c) ++ beL 2 len) = hdrL ⟨k, g, n, i, c, l⟩ := by
    unfold hdrL
    rw [← HL.out]
    rfl
  have hh6 := HH6.out
  rw [hX] at hh6
  obtain ⟨w4, hw4⟩ : ∃ w4, v5.alloc (.cells (bvs z256).toArray 5) = w4 := ⟨_, rfl⟩
  have hb4 : Below v5.heap.size v5 w4 := hw4 ▸ (Below.refl _ _).alloc (Nat.le_refl _) _
  have hn4 : w4.heap[v5.heap.size]? = some (.cells (bvs z256).toArray 5 (0, 0)) := by rw [← hw4]; exact heap_alloc_new _ _
  have hzz : w1.heap.size + 1 < v5.heap.size := (Array.getElem?_eq_some_iff.1 hh6.2).1
  have hh4 := (hb4.block w1.heap.size (by omega)).trans hh6.1
  have hbh := block_bytes hh4 0 32 32 (by rw [hdrZ_length _ (by simp)]; omega) (Nat.le_refl _)
  rw [List.drop_zero, List.take_of_length_le (by rw [hdrZ_length _ (by simp)]; omega)] at hbh
  have hmk := mk256
  have hsl := fun w => slice_arr32 w1.heap.size w
  have hcc5 := HG6.out.trans (Chg.of_below (F := fun k => False) hb4) (fun _ h => h.elim)
  have hbx4 := (hcc5.block _ hzl (by omega)).trans HBX.out
  have HB4 := Lib.hid hb4
  have HN4 := Lib.hid hn4
  have HW4 := Lib.hid hw4
  have HBH := Lib.hid hbh
  have HC5 := Lib.hid hcc5
  have HBX4 := Lib.hid hbx4
  have hs4 := hb4.size
  clear hX hh6 hb4 hn4 hw4 hh4 hbh hcc5 hbx4 HH0 HH1 HH2 HH3 HH4 HH5 HH6 HG0 HG1 HG2 HG3 HG4 HG5 HG6
  go_wp2_with (rw [HW4.out]; with_reducible refine wpList_copyBytes rfl (.tmp 42) (.tmp 43) rfl rfl rfl HBH.out HN4.out ?hf ?_)
  case hf => rw [hdrZ_length _ (by simp), z256_length]; omega
  intro w5 hn5 hc5
  have ht : (hdrZ (hdrL ⟨k, g, n, i, c, l⟩)).take 256 = hdrZ (hdrL ⟨k, g, n, i, c, l⟩) := List.take_of_length_le (by rw [hdrZ_length _ (by simp)]; omega)
  rw [ht] at hn5
  have hcc6 := HC5.out.trans hc5 (fun k h => .inr (by omega))
  have hbx5 := (hcc6.block _ hzl (by omega)).trans HBX.out
  have hx5 : w5.cell? ⟨w.heap.size, 5, none⟩ = some (.slice a len cap) := by rw [cell_of_row _ _ _ _ _ _ hbx5]; rfl
  have hbl : BytesAt w5 (fun k => k < w.heap.size) (.slice a len cap) l := by
    have h1 := (HV.out.mono' (G := fun k => k < w.heap.size) (fun k hk _ => hk)).below HB.out
    exact h1.kept hcc6 (fun k hk => by omega)
  have hq5 := hc5.size
  have HN5 := Lib.hid hn5
  have HC6 := Lib.hid hcc6
  have HBL := Lib.hid hbl
  clear ht hn5 hc5 hcc6 hbx5 hbl HN4 HB4 HW4 HBH HC5 HBX4 HW2 HB3
  go_wp2_with fail
  go_still_tail 4, (by kernel_rfl)
  obtain ⟨w6, hw6⟩ : ∃ w6 : World, { w5 with drawn := w5.drawn + 1 } = w6 := ⟨_, rfl⟩
  have hn6 : w6.heap[v5.heap.size]? = some (.cells (bvs (spliceL z256 0 (hdrZ (hdrL ⟨k, g, n, i, c, l⟩)))).toArray 5 (0, 0)) := by rw [← hw6]; exact HN5.out
  have hc6 : Chg (fun k => k = w1.heap.size ∨ k = w1.heap.size + 1) w1 w6 := by rw [← hw6]; exact HC6.out.drew
  have hb6 : BytesAt w6 (fun k => k < w.heap.size) (.slice a len cap) l := HBL.out.kept (F := fun k => k < w.heap.size) (G := fun _ => False) (by rw [← hw6]; exact (Chg.refl _ _).drew) (fun _ _ h => h)
  have hq6 : w6.heap.size = w5.heap.size := by rw [← hw6]
  have hlz : (spliceL z256 0 (hdrZ (hdrL ⟨k, g, n, i, c, l⟩))).length = 256 := by rw [spliceL_length _ _ _ (by rw [hdrZ_length _ (by simp), z256_length]; omega), z256_length]
  rw [hw6]
  clear hw6
  have HN6 := Lib.hid hn6
  have HC6' := Lib.hid hc6
  have HB6 := Lib.hid hb6
  clear hn6 hc6 hb6 hx5
  refine wpList_copyBytes rfl (.tmp 46) (.tmp 48) rfl rfl rfl HB6.out HN6.out ?hf2 ?_
  case hf2 => rw [hlz, HL.out]; omega
  intro w7 hn7 hc7
  have ht : l.take 224 = l := List.take_of_length_le (by rw [HL.out]; omega)
  rw [ht] at hn7
  have hq8 := (Array.getElem?_eq_some_iff.1 hn7).1
  obtain ⟨Y, hY⟩ : ∃ Y, spliceL (spliceL z256 0 (hdrZ (hdrL ⟨k, g, n, i, c, l⟩))) 32 l = Y := ⟨_, rfl⟩
  have hYl : Y.length = 256 := by rw [← hY, spliceL_length _ _ _ (by rw [hlz, HL.out]; omega), hlz]
  rw [hY] at hn7
  have hcc7 := HC6'.out.trans hc7 (fun k h => .inr (by omega))
  have hbd7 : Below w.heap.size w w7 := HB.out.trans (hcc7.below (fun k h => by omega) (by omega))
  have hka := HK.out.below hbd7 HK.out.size
  have hq7 := hc7.size
  have hbs := block_bytes hn7 16 240 240 (by omega) (Nat.le_refl _)
  rw [List.take_of_length_le (by simp; omega)] at hbs
  obtain ⟨w8, hw8⟩ : ∃ w8, w8 = w7 := ⟨_, rfl⟩
  have hsum : Calls Tryd.prog 47 #[.slice (some ⟨v5.heap.size, 16, none⟩) 240 240] w7 (fun e w' => e = .returned (.agg (bvs (halfL (Y.drop 16))).toArray) ∧ Below w7.heap.size w7 w') := SumHalf_any _ _ hbs hka (by simp; omega)
  have HSUM := Lib.hid hsum
  have HN7 := Lib.hid hn7
  have HBD7 := Lib.hid hbd7
  have HY := Lib.hid hY
  have HYL := Lib.hid hYl
  clear ht hn7 hc7 hcc7 hbd7 hka hbs hw8 w8 hsum hY hYl hlz HN6 HC6' HB6 HN5 HC6 HBL
  go_wp2_with fail
  refine HSUM.out.mono ?_
  rintro e w8 ⟨rfl, hb8⟩
  have hn8 := (hb8.block v5.heap.size (by omega)).trans HN7.out
  have hb8' := HBD7.out.trans (hb8.mono HBD7.out.size)
  obtain ⟨w9, hw9⟩ : ∃ w9, w8.alloc (.cells (bvs (halfL (Y.drop 16))).toArray 95) = w9 := ⟨_, rfl⟩
  have hb9 : Below w8.heap.size w8 w9 := hw9 ▸ (Below.refl _ _).alloc (Nat.le_refl _) _
  have hn9 := (hb9.block v5.heap.size (by have := hb8.size; omega)).trans hn8
  have hm9 : w9.heap[w8.heap.size]? = some (.cells (bvs (halfL (Y.drop 16))).toArray 95 (0, 0)) := by rw [← hw9]; exact heap_alloc_new _ _
  have hnw := heap_alloc_new w8 (.cells #[.int .u8 0, .int .u8 0, .int .u8 0, .int .u8 0, .int .u8 0, .int .u8 0, .int .u8 0, .int .u8 0, .int .u8 0, .int .u8 0, .int .u8 0, .int .u8 0, .int .u8 0, .int .u8 0, .int .u8 0, .int .u8 0] 95)
  have hszh := hSize (Y.drop 16)
  have hzsh : (#[.int .u8 0, .int .u8 0, .int .u8 0, .int .u8 0, .int .u8 0, .int .u8 0, .int .u8 0, .int .u8 0, .int .u8 0, .int .u8 0, .int .u8 0, .int .u8 0, .int .u8 0, .int .u8 0, .int .u8 0, .int .u8 0] : Array Value).size = (bvs (halfL (Y.drop 16))).toArray.size := by
    show 16 = _
    rw [List.size_toArray, bvs_length, halfL_length]
  have hsl2 := fun w => slice_half w8.heap.size w
  have hbh := block_bytes hm9 0 16 16 (by simp) (Nat.le_refl _)
  rw [List.drop_zero, List.take_of_length_le (by simp)] at hbh
  have hbd9 := hb8'.trans (hb9.mono hb8'.size)
  have HSZ := Lib.hid hszh
  have HZS := Lib.hid hzsh
  have HNW := Lib.hid hnw
  have HW9 := Lib.hid hw9
  have HN9 := Lib.hid hn9
  have HBH := Lib.hid hbh
  have HBD9 := Lib.hid hbd9
  clear hb8 hn8 hb8' hw9 hb9 hn9 hm9 hnw hszh hzsh hbh hbd9
  go_wp2_with (first | (with_reducible refine wpList_store_row rfl 95 _ _ rfl w8.heap.size (bvs (halfL (Y.drop 16))).toArray rfl rfl 95 _ HNW.out HSZ.out HZS.out (oneCell_bvs _) ?_; rw [World.setRow_alloc_new, HW9.out]) | (with_reducible refine wpList_copyBytes rfl (.tmp 53) (.tmp 54) rfl rfl rfl HBH.out HN9.out ?hf3 ?_))
  case hf3 => rw [halfL_length, HYL.out]; omega
  intro w10 hn10 hc10
  have ht : (halfL (Y.drop 16)).take 256 = halfL (Y.drop 16) := List.take_of_length_le (by simp)
  rw [ht, ← HY.out, HA.out] at hn10
  have hbd10 := HBD9.out.trans (hc10.below (B := w.heap.size) (fun k h => by omega) HBD9.out.size)
  have HN10 := Lib.hid hn10
  have HBD10 := Lib.hid hbd10
  clear ht hn10 hc10 hbd10
  go_wp2_with fail
  go_ret2
  exact ⟨_, rfl, ⟨by rw [bvs_length, encL_length], .inr ⟨v5.heap.size, 256, _, rfl, by omega, HN10.out, Nat.le_refl _, by decide, by rw [List.size_toArray, bvs_length, encL_length], List.take_of_length_le (by rw [bvs_length, encL_length]; exact Nat.le_refl _)⟩⟩, HBD10.out⟩

end Go.Proofs.YtloaenknhkfaeaaDoor
