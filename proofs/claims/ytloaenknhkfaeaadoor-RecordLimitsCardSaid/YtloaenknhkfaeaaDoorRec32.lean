/- Records: the law Limits. -/
import Derived.Test.YtloaenknhkfaeaaDoorRec26
import Derived.Laws.MakeOwn
namespace Go.Proofs.YtloaenknhkfaeaaDoor
open Go.RowKit
set_option linter.unusedVariables false
set_option linter.unusedSimpArgs false

theorem mk_bytes (n : Nat) (hn : n ≤ 281474976710656) (w : World) :
    (Instr.makeSlice 22 (.int .i64 (n : Int)) (.int .i64 (n : Int))).run Tryd.prog w = .ok (.slice (some ⟨w.heap.size, 0, none⟩) n n) (w.alloc (.cells (bvs (List.replicate n 0)).toArray 5)) := by
  obtain ⟨i0, hi, hz0, hz1, hz2⟩ := info_parts infoByte
  have h := run_make (P := Tryd.prog) w 22 5 i0 _ Tryd.underlying22 hi hz0 .i64 .i64 (n : Int) (n : Int) (by omega) (Int.le_refl _) (by rw [hz2]; omega) (by omega)
  rw [h, hz1]
  have e : madeCells (Value.int .u8 0).cells ((n : Int).toNat * 1) = (bvs (List.replicate n 0)).toArray := by
    apply Array.ext'
    unfold madeCells bvs
    rw [List.map_replicate]
    apply List.ext_getElem
    · simp
    · intro j h1 h2
      simp [Value.cells, Nat.mod_one]
      rfl
  rw [e]
  rfl
theorem u8_bv (z : Int) : ∃ x : UInt8, Value.int .u8 (IntKind.u8.wrap z) = bv x := by
  have h : 0 ≤ IntKind.u8.wrap z ∧ IntKind.u8.wrap z < 256 := by
    have := IntKind.wrap_u8 z
    omega
  refine ⟨UInt8.ofNat (IntKind.u8.wrap z).toNat, ?_⟩
  unfold bv
  rw [UInt8.toNat_ofNat']
  congr 1
  omega

theorem fill_rel {w wr : World} {n i : Nat} {l : List UInt8} (z : Int) (hO : wr.ownsRow w.heap.size 5 1 (.slice (some ⟨w.heap.size, 0, none⟩) n n) n (bvs l)) (hlt : i < n) (hl : l.length = n) (hB : Below w.heap.size w wr) :
    ∃ l' : List UInt8, i + 1 ≤ n ∧ Value.int .i64 ((i : Int) + 1) = .int .i64 ((i + 1 : Nat) : Int) ∧ l'.length = n ∧ (wr.setCell ⟨w.heap.size, i, none⟩ (.int .u8 (IntKind.u8.wrap z))).ownsRow w.heap.size 5 1 (.slice (some ⟨w.heap.size, 0, none⟩) n n) n (bvs l') ∧
      Below w.heap.size w (wr.setCell ⟨w.heap.size, i, none⟩ (.int .u8 (IntKind.u8.wrap z))) := by
  obtain ⟨x, hx⟩ := u8_bv z
  refine ⟨l.set i x, by omega, by go_num, by rw [List.length_set]; exact hl, ?_, ?_⟩
  · rw [hx, bvs_set]; exact ownsRow_set hO (i := i) (bv x)
  · exact below_chg hB (Chg.setCell (F := fun k => k = w.heap.size) _ _ rfl) (Nat.le_refl _) (Nat.le_refl _)

set_option maxRecDepth 100000 in
set_option maxHeartbeats 2000000 in
theorem RecordLimits_any {w : World} (a c : Int) (ha : 0 ≤ a ∧ a ≤ 65535) (hc : 0 ≤ c ∧ c ≤ 255) (hK : KAt w) :
    Calls Tryd.prog 8 #[.int .u16 a, .int .u8 c] w fun e w' => e = .returned (.bool true) ∧ Below w.heap.size w w' := by
  obtain ⟨n, hn⟩ := Int.eq_ofNat_of_zero_le (show 0 ≤ 131372 - a % 900 by omega)
  have hn1 : 130473 ≤ n := by omega
  have hn2 : n ≤ 131372 := by omega
  have hmk := mk_bytes n (by omega)
  have ha0 := ha.1
  have ha1 := ha.2
  have hc0 := hc.1
  have hc1 := hc.2
  have HK := Lib.hid hK
  clear hK ha hc
  go_enter Tryd.func8, Tryd.ntmps8
  go_wp2_with fail
  clear hn
  go_loopw [7] (fun iv wr => ∃ (i : Nat) (l : List UInt8), i ≤ n ∧ iv = .int .i64 (i : Int) ∧ l.length = n ∧ wr.ownsRow w.heap.size 5 1 (.slice (some ⟨w.heap.size, 0, none⟩) n n) n (bvs l) ∧ Below w.heap.size w wr) (fun iv _ => n - (intOf iv).toNat)
  case atStart =>
    refine ⟨0, List.replicate n 0, Nat.zero_le _, rfl, by simp, ?_, (Below.refl _ w).alloc (Nat.le_refl _) _⟩
    exact ownsRow_whole (heap_alloc_new _ _) (by simp) (Nat.le_refl _) (by unfold maxLen; omega)
  case round =>
    obtain ⟨i, l, hi, rfl, hl, hO, hB⟩ := hrel
    by_cases hlt : i < n
    · have hiI : (i : Int) < (n : Int) := by omega
      have hiI0 : (0 : Int) ≤ (i : Int) := by omega
      obtain ⟨cur, hcur, _⟩ := own_row hO
      have hfz : ∀ j : Nat, wr.frozen? ⟨w.heap.size, j, none⟩ = false := fun j => frozen_of_row _ _ _ _ _ hcur
      obtain ⟨g9, o9, e9, hcu'⟩ := (own_bytes hO).get (i := i) (by rw [hl]; exact hlt)
      cases e9
      rw [Nat.zero_add] at hcu'
      have ⟨c9, hcu⟩ : ∃ v, wr.cell? ⟨w.heap.size, i, none⟩ = some v := ⟨_, hcu'⟩
      have HO := Lib.hid hO
      have HB := Lib.hid hB
      have HL := Lib.hid hl
      clear hcu' hO hB hl hcur hmk
      go_wp2_with fail
      go_roundw
      case rel => exact ⟨i + 1, fill_rel _ HO.out hlt HL.out HB.out⟩
      case measure => simp [intOf]; omega
    · obtain rfl : i = n := by omega
      have hB1 := hB
      obtain ⟨r, hr⟩ : ∃ r : RecD, r = ⟨0, 0, 0, l⟩ := ⟨_, rfl⟩
      have hrl : r.load = l := by rw [hr]
      have hE : splitE r = if 131072 < i then 5 else 0 := by rw [hr]; unfold splitE; rw [if_neg (show ¬ fineB 0 0 0 = false by decide)]; simp only [hl]
      have hsp : Calls Tryd.prog 28 #[.agg #[.int .i64 0, .int .i64 0, .int .i64 0, .slice (some ⟨w.heap.size, 0, none⟩) i i]] wr (SplitPost wr r) := by
        have h := Split_any (w := wr) ⟨0, 0, 0, l⟩ (some ⟨w.heap.size, 0, none⟩) i i (own_bytesN hO) (HK.out.below hB HK.out.size)
        rw [hr]
        exact h
      have HSP := Lib.hid hsp
      have HO := Lib.hid hO
      have HB := Lib.hid hB
      have HL := Lib.hid hl
      have HR := Lib.hid hr
      have HRL := Lib.hid hrl
      obtain ⟨E, hE2⟩ : ∃ E, splitE r = E := ⟨_, rfl⟩
      obtain ⟨L, hL⟩ : ∃ L, splitL r = L := ⟨_, rfl⟩
      obtain ⟨N, hN⟩ : ∃ N, L.length = N := ⟨_, rfl⟩
      have HE := Lib.hid hE
      have HE2 := Lib.hid hE2
      have HLL := Lib.hid hL
      have HN := Lib.hid hN
      clear hO hB hl hr hrl hsp hE hE2 hL hN hmk hB1
      go_wp2_with fail
      refine HSP.out.mono ?_
      rintro e w2 ⟨v2, rfl, ho2, hb2⟩
      rw [HE2.out]
      rw [HLL.out] at ho2
      obtain ⟨va, vc, rfl⟩ := ho2.form
      rw [HN.out]
      have HO2 := Lib.hid ho2
      have HB2 := Lib.hid (HB.out.trans (hb2.mono HB.out.size))
      have HOB := Lib.hid (own_kept HO.out hb2)
      have hkn := known_any (HK.out.below HB2.out HK.out.size)
      have HKN := Lib.hid hkn
      clear ho2 hb2 hkn
      by_cases hbig : 131072 < i
      · have hbI : (131072 : Int) < (i : Int) := by omega
        have e5 : E = 5 := by rw [← HE2.out, HE.out, if_pos hbig]
        have n0 : N = 0 := by
          rw [← HN.out, ← HLL.out]; unfold splitL; rw [HE2.out, e5]; rfl
        subst e5
        subst n0
        go_wp2_with fail
        refine HKN.out.mono ?_
        rintro e w3 ⟨rfl, hb3⟩
        have HB3 := Lib.hid (HB2.out.trans (hb3.mono HB2.out.size))
        have hkn := known_any (HK.out.below HB3.out HK.out.size)
        have HKN3 := Lib.hid hkn
        clear hb3 hkn
        go_wp2_with fail
        refine HKN3.out.mono ?_
        rintro e w4 ⟨rfl, hb4⟩
        go_wp2_with fail
        go_ret
        exact ⟨rfl, HB3.out.trans (hb4.mono HB3.out.size)⟩
      · have hbI : ¬ (131072 : Int) < (i : Int) := by omega
        have e0 : E = 0 := by rw [← HE2.out, HE.out, if_neg hbig]
        subst e0
        have hnn : N = needN i := by rw [← HN.out, ← HLL.out, splitL_length HE2.out, HRL.out, HL.out]
        have hneed := fun w => rNeed_any i (by omega) w
        rw [← hnn] at hneed
        have HNEED := Lib.hid hneed
        have HNN := Lib.hid hnn
        have hNs : N < 1000 := by rw [hnn]; unfold needN; omega
        clear hneed hnn
        go_wp2_with fail
        refine HKN.out.mono ?_
        rintro e w3 ⟨rfl, hb3⟩
        have HB3 := Lib.hid (HB2.out.trans (hb3.mono HB2.out.size))
        have ho3 := HO2.out.below hb3
        have hj := Join_any L _ ho3.secs (by rw [HN.out]; omega) (HK.out.below HB3.out HK.out.size)
        rw [HN.out] at hj
        have HJ := Lib.hid hj
        have HOB3 := Lib.hid (own_kept HOB.out hb3)
        clear hb3 ho3 hj
        go_wp2_with fail
        refine HJ.out.mono ?_
        intro e w4 hj4
        obtain ⟨a4, c4, rfl, hr4, hb4⟩ := hj4.parts
        have hjs : joinL L = (r, N, 0) := by
          have h := join_split HE2.out []
          rw [List.append_nil, HLL.out, ← splitL_length HE2.out, HLL.out, HN.out] at h
          exact h
        rw [hjs] at hr4 ⊢
        simp only [HRL.out, HL.out] at hr4 ⊢
        rw [HR.out]
        obtain ⟨w5, hw5⟩ : ∃ w5, w4.alloc (.cells #[.int .i64 0, .int .i64 0, .int .i64 0, .slice a4 i c4] 50) = w5 := ⟨_, rfl⟩
        have hb5 : Below w4.heap.size w4 w5 := hw5 ▸ (Below.refl _ _).alloc (Nat.le_refl _) _
        have st1 := (own_bytes (own_kept hr4 hb5)).str
        have st2 := (own_bytes (own_kept (own_kept HOB3.out hb4) hb5)).str
        rw [← hw5] at st1 st2
        have HB5 := Lib.hid (HB3.out.trans ((hb4.trans (hb5.mono hb4.size)).mono HB3.out.size))
        have HW5 := Lib.hid hw5
        have hNI : (N : Int) == (N : Int) := by simp
        clear hj4 hjs hr4 hb4 hw5 hb5
        go_wp2_with fail
        try rw [HW5.out]
        refine (HNEED.out _).mono ?_
        rintro e w6 ⟨rfl, rfl⟩
        try rw [← HW5.out]
        go_wp2_with fail
        go_ret
        try rw [HW5.out]
        exact ⟨rfl, HB5.out⟩

end Go.Proofs.YtloaenknhkfaeaaDoor
