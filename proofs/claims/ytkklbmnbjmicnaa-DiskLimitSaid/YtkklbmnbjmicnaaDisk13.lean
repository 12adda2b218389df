/- DiskLimit of the statements: true, whatever the limit and the kinds. -/
import Derived.Test.YtkklbmnbjmicnaaDisk12
import Derived.Test.YtkklbmnbjmicnaaDisk8
import Derived.Test.YtkklbmnbjmicnaaArgs
namespace Go.Proofs.Ytkklbmnbjmicnaa
open Go.RowKit

structure LimInv (n i : Nat) (S : DS) : Prop where
  dur : S.dur.length = 3
  ops : S.ops = min i n
  pend : S.pend.length ≤ i
  lo : i ≤ n → S.limit = some (n - i) ∧ S.down = false
  hi : n < i → S.down = true
  lim : S.limit.getD 0 ≤ n

structure LimStep (n i : Nat) (S S' : DS) (e : Int) : Prop where
  inv : LimInv n (i + 1) S'
  lo : i < n → e = 0 ∧ S'.down = false ∧ S'.ops = i + 1
  hi : n ≤ i → e = 28 ∧ S'.down = true ∧ S'.pend.length = S.pend.length

theorem limStep_flush {n i : Nat} {S : DS} (h : LimInv n i S) : LimStep n i S S.flush.1 S.flush.2 := by
  obtain ⟨h1, h2, h3, h4, h5, h6⟩ := h
  rcases Nat.lt_trichotomy i n with hlt | heq | hgt
  · obtain ⟨hl, hd⟩ := h4 (by omega)
    obtain ⟨k, hk⟩ : ∃ k, n - i = k + 1 := ⟨n - i - 1, by omega⟩
    rw [hk] at hl
    have e : S.flush = ({ dur := fdur S S.pend.length, pend := [], ops := S.ops + 1, limit := some k, down := false }, 0) := by simp [DS.flush, DS.operate, hd, hl]
    rw [e]
    exact ⟨⟨(rdur_length S _ _).trans h1, by show S.ops + 1 = _; omega, by simp, fun _ => ⟨by show some k = _; congr 1; omega, rfl⟩, fun h => by omega, by show k ≤ n; omega⟩, fun _ => ⟨rfl, rfl, by show S.ops + 1 = _; omega⟩, fun h => by omega⟩
  · obtain ⟨hl, hd⟩ := h4 (by omega)
    have hk : n - i = 0 := by omega
    rw [hk] at hl
    have e : S.flush = ({ S with down := true }, 28) := by simp [DS.flush, DS.operate, hd, hl]
    rw [e]
    exact ⟨⟨h1, by show S.ops = _; omega, by show S.pend.length ≤ _; omega, fun h => by omega, fun _ => rfl, h6⟩, fun h => by omega, fun _ => ⟨rfl, rfl, rfl⟩⟩
  · have hd := h5 hgt
    have e : S.flush = (S, 28) := by simp [DS.flush, hd]
    rw [e]
    exact ⟨⟨h1, by show S.ops = _; omega, by show S.pend.length ≤ _; omega, fun h => by omega, fun _ => hd, h6⟩, fun h => by omega, fun _ => ⟨rfl, hd, rfl⟩⟩

theorem limStep_write {n i : Nat} {S : DS} (h : LimInv n i S) (s : Nat) (hs : s < 3) (l : List UInt8) (hl : l.length = 256) : LimStep n i S (S.write s l).1 (S.write s l).2 := by
  obtain ⟨h1, h2, h3, h4, h5, h6⟩ := h
  have hh : S.has s = true := by simp [DS.has]; omega
  rcases Nat.lt_trichotomy i n with hlt | heq | hgt
  · obtain ⟨hl', hd⟩ := h4 (by omega)
    obtain ⟨k, hk⟩ : ∃ k, n - i = k + 1 := ⟨n - i - 1, by omega⟩
    rw [hk] at hl'
    have e : S.write s l = ({ S with pend := S.pend ++ [(s, l)], ops := S.ops + 1, limit := some k }, 0) := by simp [DS.write, DS.operate, hd, hl', hl, hh]
    rw [e]
    exact ⟨⟨h1, by show S.ops + 1 = _; omega, by simp; omega, fun _ => ⟨by show some k = _; congr 1; omega, hd⟩, fun h => by omega, by show k ≤ n; omega⟩, fun _ => ⟨rfl, hd, by show S.ops + 1 = _; omega⟩, fun h => by omega⟩
  · obtain ⟨hl', hd⟩ := h4 (by omega)
    have hk : n - i = 0 := by omega
    rw [hk] at hl'
    have e : S.write s l = ({ S with down := true }, 28) := by simp [DS.write, DS.operate, hd, hl', hl, hh]
    rw [e]
    exact ⟨⟨h1, by show S.ops = _; omega, by show S.pend.length ≤ _; omega, fun h => by omega, fun _ => rfl, h6⟩, fun h => by omega, fun _ => ⟨rfl, rfl, rfl⟩⟩
  · have hd := h5 hgt
    have e : S.write s l = (S, 28) := by simp [DS.write, hd]
    rw [e]
    exact ⟨⟨h1, by show S.ops = _; omega, by show S.pend.length ≤ _; omega, fun h => by omega, fun _ => hd, h6⟩, fun h => by omega, fun _ => ⟨rfl, hd, rfl⟩⟩

theorem New_3 (w : World) : Calls Try.prog 13 #[.int .i64 3] w fun e w' => e = .returned (.tuple #[.pointer (some ⟨w.heap.size + 1, 0, none⟩), .int .i64 0]) ∧
      DiskAt w' (fun k => w.heap.size ≤ k) (w.heap.size + 1) (newDS 3) ∧ Below w.heap.size w w' := New_good 3 w (by decide) (by decide)
theorem Bytes_k (k : Nat) (hk : k < 256) (w : World) : Calls Try.prog 22 #[.int .u8 (k : Int), .int .u8 1] w fun e w' => ∃ v, e = .returned v ∧ OwnBytes w' (fun k => w.heap.size ≤ k) v (bytesOf (UInt8.ofNat k) 1) ∧ Below w.heap.size w w' := by
  have := Bytes_any (UInt8.ofNat k) 1 w
  unfold bv at this
  rw [show (UInt8.ofNat k).toNat = k by simp; omega] at this
  exact this

set_option maxRecDepth 100000 in
set_option maxHeartbeats 8000000 in
theorem DiskLimit_any (n : Nat) (hn : n < 256) (ks : List Bool) (kv : Value) (w : World) (hk : SliceAt w (fun _ => True) kv ks.length (ks.map Value.bool)) :
    Calls Try.prog 4 #[.int .u8 (n : Int), kv] w fun e w' => e = .returned (.bool true) ∧ Below w.heap.size w w' := by
  obtain ⟨a, cap, rfl, hcap, hr⟩ := hk
  have HR := Lib.hid hr
  clear hr
  by_cases h40 : 40 < ks.length
  · go_enter Try.func4, Try.ntmps4
    go_wp2_with (first
      | (go_at_call 12; refine (known_any w).mono ?_; rintro e w1 ⟨rfl, hB1⟩)
      | (go_at_call 12; refine (known_any w1).mono ?_; rintro e w2 ⟨rfl, hB2⟩))
    go_ret
    exact ⟨rfl, hB1.trans (hB2.mono hB1.size)⟩
  · go_enter Try.func4, Try.ntmps4
    go_wp2_with (first
      | (go_at_call 12; refine (known_any w).mono ?_; rintro e w1 ⟨rfl, hB1⟩)
      | (go_at_call 13; refine (New_3 w1).mono ?_; rintro e w2 ⟨rfl, hD2, hB2⟩)
      | (go_at_call 19; refine (SetLimit_any (n : Int) hD2).mono ?_; rintro e w3 ⟨rfl, hD3, hC3⟩))
    have hB3 : Below w.heap.size w w3 := (hB1.trans (hB2.mono hB1.size)).trans (hC3.below (fun k h => Nat.le_trans hB1.size h) (Nat.le_trans hB1.size hB2.size))
    have hS3 : LimInv n 0 ((newDS 3).setLimit n) := ⟨rfl, by simp [DS.setLimit, newDS], by simp [DS.setLimit, newDS], fun _ => by simp [DS.setLimit, newDS], fun h => by omega, by simp [DS.setLimit, newDS]⟩
    have HD3 := Lib.hid hD3
    have HB3 := Lib.hid hB3
    have HS3 := Lib.hid hS3
    have HB1 := Lib.hid hB1
    clear hD2 hB2 hD3 hC3 hB3 hS3 hB1
    go_loopw [7] (fun i wr => ∃ k S, k ≤ ks.length ∧ i = .int .i64 (k : Int) ∧ DiskAt wr (fun j => w1.heap.size ≤ j) (w1.heap.size + 1) S ∧ LimInv n k S ∧ Below w.heap.size w wr)
      (fun i _ => ks.length - (intOf i).toNat)
    case atStart => exact ⟨0, _, Nat.zero_le _, rfl, HD3.out, HS3.out, HB3.out⟩
    case round =>
      obtain ⟨k, S, hk, rfl, hD, hS, hB⟩ := hrel
      have HWS := Lib.hid (show w1.heap.size ≤ wr.heap.size by obtain ⟨_, m, pv, hx⟩ := hD; have := hx.lt; omega)
      have hpl : S.pend.length < 100 := by have := hS.pend; omega
      have hol : S.ops < 1000 := by have := hS.ops; omega
      have hll : S.limit.getD 0 < 1000 := by have := hS.lim; omega
      have HD := Lib.hid hD
      have HS := Lib.hid hS
      have HB := Lib.hid hB
      have HPL := Lib.hid hpl
      have HOL := Lib.hid hol
      have HLL := Lib.hid hll
      clear hD hS hB hpl hol hll
      by_cases hlt : k < ks.length
      · obtain ⟨g, off, rfl, _, hg, hrr⟩ := HR.out (by omega)
        have hcell : ∀ wx, Below w.heap.size w wx → wx.cell? ⟨g, off + k, none⟩ = some (.bool ks[k]) := fun wx hb => (hb.cell (p := ⟨g, off + k, none⟩) hg).trans (hrr k _ (by simp [hlt]))
        have HCELL := Lib.hid hcell
        clear hrr hcell
        obtain ⟨kk, hkk⟩ : ∃ b, ks[k] = b := ⟨_, rfl⟩
        rw [hkk] at HCELL
        clear hkk
        cases kk with
        | true =>
          go_wp2_with (first
            | (go_at_call 17; refine (Pending_any HD.out (by have := HPL.out; omega)).mono ?_; rintro e w4 ⟨v, rfl, hW4, hB4⟩; obtain ⟨pa, pcap, rfl⟩ := hW4.len; have hcl := HCELL.out w4 (HB.out.trans (hB4.mono HB.out.size))))
          have hD4 := HD.out.bound.below hB4
          have hB4' := HB.out.trans (hB4.mono HB.out.size)
          have hst := limStep_flush HS.out
          clear hcl hW4
          refine (Flush_any hD4 (by have := HPL.out; omega) (by have := HOL.out; omega) (by have := HLL.out; omega)).mono ?_
          rintro e w5 ⟨rfl, hD5, hC5⟩
          obtain ⟨S', hS'⟩ : ∃ S', S.flush.1 = S' := ⟨_, rfl⟩
          obtain ⟨ev, hev⟩ : ∃ ev, S.flush.2 = ev := ⟨_, rfl⟩
          rw [hS', hev] at hst
          rw [hS'] at hD5
          rw [hev]
          clear hS' hev
          have hD5' : DiskAt w5 (fun j => w1.heap.size ≤ j) (w1.heap.size + 1) S' := hD5.mono (fun j h => h.1)
          have hB5 : Below w.heap.size w w5 := hB4'.trans (hC5.below (fun j h => by have := HB1.out.size; omega) hB4'.size)
          have hpl' : S'.pend.length < 100000000 := by have := hst.inv.pend; omega
          have HD5 := Lib.hid hD5'
          have HB5 := Lib.hid hB5
          have HPL' := Lib.hid hpl'
          clear hD5 hC5 hD5' hB5 hpl'
          by_cases hkn : k < n
          · obtain ⟨rfl, hd', hop'⟩ := hst.lo hkn
            have HST := Lib.hid hst
            have HDN := Lib.hid hd'
            have HOP := Lib.hid hop'
            clear hst hd' hop'
            go_wp2_with (first
              | (go_at_call 16; refine (Down_any HD5.out).mono ?_; rw [HDN.out]; rintro e w6 ⟨rfl, rfl⟩)
              | (go_at_call 15; refine (Operations_any HD5.out).mono ?_; rw [HOP.out]; rintro e w6 ⟨rfl, rfl⟩))
            go_roundw
            case rel => exact ⟨k + 1, S', by omega, by go_num, HD5.out, HST.out.inv, HB5.out⟩
            case measure => simp [intOf]; omega
          · obtain ⟨rfl, hd', hpe'⟩ := hst.hi (by omega)
            have HST := Lib.hid hst
            have HDN := Lib.hid hd'
            have HPE := Lib.hid hpe'
            clear hst hd' hpe'
            go_wp2_with (first
              | (go_at_call 16; refine (Down_any HD5.out).mono ?_; rw [HDN.out]; rintro e w6 ⟨rfl, rfl⟩)
              | (go_at_call 17; refine (Pending_any HD5.out HPL'.out).mono ?_; rintro e w6 ⟨v6, rfl, hW6, hB6⟩; obtain ⟨pa6, pcap6, rfl⟩ := hW6.len; rw [HPE.out]; have hD6 := Lib.hid (HD5.out.below hB6); have hB6' := Lib.hid (HB5.out.trans (hB6.mono HB5.out.size))))
            go_roundw
            case rel => exact ⟨k + 1, S', by omega, by go_num, hD6.out, HST.out.inv, hB6'.out⟩
            case measure => simp [intOf]; omega
        | false =>
          go_wp2_with (first
            | (go_at_call 17; refine (Pending_any HD.out (by have := HPL.out; omega)).mono ?_; rintro e w4 ⟨v, rfl, hW4, hB4⟩; obtain ⟨pa, pcap, rfl⟩ := hW4.len; have hcl := HCELL.out w4 (HB.out.trans (hB4.mono HB.out.size)))
            | (go_at_call 22; refine (Bytes_k k (by omega) w4).mono ?_; rintro e w4b ⟨v4, rfl, hO4, hB4b⟩))
          have hD4 := (HD.out.bound.below hB4).below hB4b
          have hB4' := (HB.out.trans (hB4.mono HB.out.size)).trans (hB4b.mono (Nat.le_trans HB.out.size hB4.size))
          have hst := limStep_write HS.out (k % 3) (Nat.mod_lt _ (by decide)) (bytesOf (UInt8.ofNat k) 1) (bytesOf_length _ _)
          clear hcl hW4
          refine (Write_any ((k % 3 : Nat) : Int) v4 (bytesOf (UInt8.ofNat k) 1) hD4 hO4.bytes (fun j h1 h2 => by have := hB4.size; omega) (by have := HPL.out; omega) (by have := HOL.out; omega) (by have := HLL.out; omega) (by rw [bytesOf_length]; decide)).mono ?_
          rintro e w5 ⟨rfl, hD5, hC5⟩
          obtain ⟨S', hS'⟩ : ∃ S', (S.write ((k % 3 : Nat) : Int) (bytesOf (UInt8.ofNat k) 1)).1 = S' := ⟨_, rfl⟩
          obtain ⟨ev, hev⟩ : ∃ ev, (S.write ((k % 3 : Nat) : Int) (bytesOf (UInt8.ofNat k) 1)).2 = ev := ⟨_, rfl⟩
          rw [hS', hev] at hst
          rw [hS'] at hD5
          rw [hev]
          clear hS' hev
          have hD5' : DiskAt w5 (fun j => w1.heap.size ≤ j) (w1.heap.size + 1) S' := hD5.mono (fun j h => by rcases h with h | h; exact h.1; have := hB4.size; have := hB4b.size; have := HB.out.size; have := HWS.out; omega)
          have hB5 : Below w.heap.size w w5 := hB4'.trans (hC5.below (fun j h => by have := HB1.out.size; omega) hB4'.size)
          have hpl' : S'.pend.length < 100000000 := by have := hst.inv.pend; omega
          have HD5 := Lib.hid hD5'
          have HB5 := Lib.hid hB5
          have HPL' := Lib.hid hpl'
          clear hD5 hC5 hD5' hB5 hpl'
          by_cases hkn : k < n
          · obtain ⟨rfl, hd', hop'⟩ := hst.lo hkn
            have HST := Lib.hid hst
            have HDN := Lib.hid hd'
            have HOP := Lib.hid hop'
            clear hst hd' hop'
            go_wp2_with (first
              | (go_at_call 16; refine (Down_any HD5.out).mono ?_; rw [HDN.out]; rintro e w6 ⟨rfl, rfl⟩)
              | (go_at_call 15; refine (Operations_any HD5.out).mono ?_; rw [HOP.out]; rintro e w6 ⟨rfl, rfl⟩))
            go_roundw
            case rel => exact ⟨k + 1, S', by omega, by go_num, HD5.out, HST.out.inv, HB5.out⟩
            case measure => simp [intOf]; omega
          · obtain ⟨rfl, hd', hpe'⟩ := hst.hi (by omega)
            have HST := Lib.hid hst
            have HDN := Lib.hid hd'
            have HPE := Lib.hid hpe'
            clear hst hd' hpe'
            go_wp2_with (first
              | (go_at_call 16; refine (Down_any HD5.out).mono ?_; rw [HDN.out]; rintro e w6 ⟨rfl, rfl⟩)
              | (go_at_call 17; refine (Pending_any HD5.out HPL'.out).mono ?_; rintro e w6 ⟨v6, rfl, hW6, hB6⟩; obtain ⟨pa6, pcap6, rfl⟩ := hW6.len; rw [HPE.out]; have hD6 := Lib.hid (HD5.out.below hB6); have hB6' := Lib.hid (HB5.out.trans (hB6.mono HB5.out.size))))
            go_roundw
            case rel => exact ⟨k + 1, S', by omega, by go_num, hD6.out, HST.out.inv, hB6'.out⟩
            case measure => simp [intOf]; omega
      · obtain rfl : k = ks.length := by omega
        have hmin : S.ops = min ks.length n := HS.out.ops
        have HMIN := Lib.hid hmin
        clear hmin
        go_wp2_with (go_at_call 15; refine (Operations_any HD.out).mono ?_; rw [HMIN.out]; rintro e w6 ⟨rfl, rfl⟩)
        go_ret
        have hbe : (((min ks.length n : Nat) : Int) == min (ks.length : Int) (n : Int)) = true := by simp; omega
        exact ⟨congrArg (fun x => Ending.returned (.bool x)) hbe, HB.out⟩

end Go.Proofs.Ytkklbmnbjmicnaa
