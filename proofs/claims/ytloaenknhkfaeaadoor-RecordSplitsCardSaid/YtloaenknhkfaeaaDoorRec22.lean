/- RecordSplits: the law's walk. -/
import Derived.Test.YtloaenknhkfaeaaDoorRec21
namespace Go.Proofs.YtloaenknhkfaeaaDoor
open Go.RowKit
set_option linter.unusedVariables false
set_option linter.unusedSimpArgs false

theorem split_few (r : RecD) : (splitL r).length < 1000000000 := by
  by_cases h : splitE r = 0
  · rw [splitL_length h]
    have := need_le (splitE_ok h).2
    omega
  · unfold splitL
    rw [if_neg h]
    simp

set_option maxRecDepth 100000 in
set_option maxHeartbeats 2000000 in
theorem RecordSplits_any {w : World} {F : Nat → Prop} (k g n : Int) (a : Option Addr) (len cap : Nat) (l : List UInt8) (hv : BytesN w F (.slice a len cap) l) (hl : l.length = len) (hn : len ≤ 9223372036854775807) (q : Int) (hK : KAt w) :
    Calls Tryd.prog 7 #[.agg #[.int .i64 k, .int .i64 g, .int .i64 n, .slice a len cap], .int .i64 q] w fun e w' => e = .returned (.bool true) ∧ Below w.heap.size w w' := by
  obtain ⟨w1, hw1⟩ : ∃ w1, w.alloc (.cells #[.int .i64 k, .int .i64 g, .int .i64 n, .slice a len cap] 49) = w1 := ⟨_, rfl⟩
  have hb1 : Below w.heap.size w w1 := hw1 ▸ (Below.refl _ w).alloc (Nat.le_refl _) _
  have hof := of_any k g n a len cap l (hv.below hb1) hl hn
  have HOF := Lib.hid hof
  have HW1 := Lib.hid hw1
  have HB1 := Lib.hid hb1
  have HK := Lib.hid hK
  clear hof hw1 hb1 hK hv hl
  go_enter Tryd.func7, Tryd.ntmps7
  go_wp2_with fail
  rw [HW1.out]
  refine HOF.out.mono ?_
  rintro e w2 ⟨a', m, c', rfl, hm, ho2, hb2⟩
  obtain ⟨r, hr⟩ : ∃ r : RecD, r = ⟨k, g, n, l.take m⟩ := ⟨_, rfl⟩
  have hload : r.load = l.take m := by rw [hr]
  obtain ⟨w3, hw3⟩ : ∃ w3, w2.alloc (.cells #[.int .i64 k, .int .i64 g, .int .i64 n, .slice a' m c'] 50) = w3 := ⟨_, rfl⟩
  have hb3 : Below w2.heap.size w2 w3 := hw3 ▸ (Below.refl _ _).alloc (Nat.le_refl _) _
  have hX3 : w3.heap[w2.heap.size]? = some (.cells #[.int .i64 k, .int .i64 g, .int .i64 n, .slice a' m c'] 50 (0, 0)) := by rw [← hw3]; exact heap_alloc_new _ _
  have hB2 := HB1.out.trans (hb2.mono HB1.out.size)
  have hB3 := hB2.trans (hb3.mono hB2.size)
  have hv3 : BytesN w3 (fun k => w1.heap.size ≤ k) (.slice a' m c') r.load := by rw [hload]; exact (own_bytesN ho2).below hb3
  have hsp : Calls Tryd.prog 28 #[.agg #[.int .i64 k, .int .i64 g, .int .i64 n, .slice a' m c']] w3 (SplitPost w3 r) := by
    have h := Split_any r a' m c' hv3 (HK.out.below hB3 HK.out.size)
    rw [hr] at h ⊢
    exact h
  have HSP := Lib.hid hsp
  have HW3 := Lib.hid hw3
  have HX3 := Lib.hid hX3
  have HV3 := Lib.hid hv3
  have HB3 := Lib.hid hB3
  have HR := Lib.hid hr
  obtain ⟨E, hE⟩ : ∃ E, splitE r = E := ⟨_, rfl⟩
  have HE := Lib.hid hE
  have hlen := split_few r
  have HLEN := Lib.hid hlen
  clear hm ho2 hb2 hload hw3 hb3 hX3 hB2 hB3 hv3 hsp hr hE hlen
  go_wp2_with fail
  rw [HW3.out]
  refine HSP.out.mono ?_
  rintro e w4 ⟨v4, rfl, ho4, hb4⟩
  rw [HE.out]
  obtain ⟨sa, sc, rfl⟩ := ho4.form
  have hX4 := (hb4.block w2.heap.size (Array.getElem?_eq_some_iff.1 HX3.out).1).trans HX3.out
  have hx0 : w4.cell? ⟨w2.heap.size, 0, none⟩ = some (.int .i64 k) := by rw [cell_of_row _ _ _ _ _ _ hX4]; rfl
  have hx1 : w4.cell? ⟨w2.heap.size, 1, none⟩ = some (.int .i64 g) := by rw [cell_of_row _ _ _ _ _ _ hX4]; rfl
  have hx2 : w4.cell? ⟨w2.heap.size, 2, none⟩ = some (.int .i64 n) := by rw [cell_of_row _ _ _ _ _ _ hX4]; rfl
  have hx3 : w4.cell? ⟨w2.heap.size, 3, none⟩ = some (.slice a' m c') := by rw [cell_of_row _ _ _ _ _ _ hX4]; rfl
  have hv4 := HV3.out.below hb4
  have hB4 := HB3.out.trans (hb4.mono HB3.out.size)
  have HO4 := Lib.hid ho4
  have HV4 := Lib.hid hv4
  have HB4 := Lib.hid hB4
  clear ho4 hb4 hX4 hv4 hB4
  go_wp2_with fail
  refine (to_any k g n a' m c' w4).mono ?_
  rintro e w5 ⟨rfl, hb5⟩
  have hsp : Calls Tryd.prog 29 #[.agg #[.int .i64 k, .int .i64 g, .int .i64 n, .slice a' m c']] w5 (SplitPost w5 r) := by
    have h := rSplit_any r a' m c' (HV4.out.below hb5)
    have hr := HR.out
    rw [hr] at h ⊢
    exact h
  have ho5 := HO4.out.below hb5
  have hB5 := HB4.out.trans (hb5.mono HB4.out.size)
  have HSP5 := Lib.hid hsp
  have HO5 := Lib.hid ho5
  have HB5 := Lib.hid hB5
  clear hsp ho5 hB5 hb5 hx0 hx1 hx2 hx3 HO4
  go_wp2_with fail
  refine HSP5.out.mono ?_
  rintro e w6 ⟨v6, rfl, ho6, hb6⟩
  rw [HE.out]
  obtain ⟨ta, tc, rfl⟩ := ho6.form
  have ho4 := HO5.out.below hb6
  have hB6 := HB5.out.trans (hb6.mono HB5.out.size)
  have hkn := known_any (HK.out.below hB6 HK.out.size)
  have HO4 := Lib.hid ho4
  have HO6 := Lib.hid ho6
  have HB6 := Lib.hid hB6
  have HKN := Lib.hid hkn
  clear ho6 hb6 ho4 hB6 hkn HO5
  go_wp2_with fail
  refine (Need_any q _).mono ?_
  rintro e w' ⟨rfl, rfl⟩
  by_cases hq0 : q < 0
  · have e1 : needV q = 0 := by unfold needV; rw [if_pos (.inl hq0)]
    have e2 : needE q = 2 := by unfold needE; rw [if_pos (.inl hq0)]
    rw [e1, e2]
    clear e1 e2
    go_wp2_with fail
    refine HKN.out.mono ?_
    rintro e w7 ⟨rfl, hb7⟩
    have hs1 := HO6.out.below hb7
    have hs2 := HO4.out.below hb7
    have hby := bytesSame_any (splitL r) _ _ hs2.secs hs1.secs HLEN.out
    have hB7 := HB6.out.trans (hb7.mono HB6.out.size)
    have HBY := Lib.hid hby
    have HB7 := Lib.hid hB7
    clear hb7 hs1 hs2 hby hB7
    go_wp2_with fail
    refine HBY.out.mono ?_
    rintro e w8 ⟨rfl, hb8⟩
    have hB8 := HB7.out.trans (hb8.mono HB7.out.size)
    go_wp2_with fail
    go_ret
    exact ⟨rfl, hB8⟩
  · have hq0' : 0 ≤ q := by omega
    by_cases hq1 : 131072 < q
    · have e1 : needV q = 0 := by unfold needV; rw [if_pos (.inr hq1)]
      have e2 : needE q = 2 := by unfold needE; rw [if_pos (.inr hq1)]
      rw [e1, e2]
      clear e1 e2
      go_wp2_with fail
      refine HKN.out.mono ?_
      rintro e w7 ⟨rfl, hb7⟩
      have hs1 := HO6.out.below hb7
      have hs2 := HO4.out.below hb7
      have hby := bytesSame_any (splitL r) _ _ hs2.secs hs1.secs HLEN.out
      have hB7 := HB6.out.trans (hb7.mono HB6.out.size)
      have HBY := Lib.hid hby
      have HB7 := Lib.hid hB7
      clear hb7 hs1 hs2 hby hB7
      go_wp2_with fail
      refine HBY.out.mono ?_
      rintro e w8 ⟨rfl, hb8⟩
      have hB8 := HB7.out.trans (hb8.mono HB7.out.size)
      go_wp2_with fail
      go_ret
      exact ⟨rfl, hB8⟩
    · have hq1' : q ≤ 131072 := by omega
      have e1 : needV q = needN q.toNat := by unfold needV; rw [if_neg (by omega)]
      have e2 : needE q = 0 := by unfold needE; rw [if_neg (by omega)]
      rw [e1, e2]
      obtain ⟨z, rfl⟩ := Int.eq_ofNat_of_zero_le hq0'
      have hrn := fun w => rNeed_any z (by omega) w
      have ez : (z : Int).toNat = z := rfl
      rw [ez]
      obtain ⟨N, hN⟩ : ∃ N, needN z = N := ⟨_, rfl⟩
      rw [hN] at hrn ⊢
      have HRN := Lib.hid hrn
      clear e1 e2 ez hN hrn hq0
      go_wp2_with fail
      refine HKN.out.mono ?_
      rintro e w7 ⟨rfl, hb7⟩
      have hs1 := HO6.out.below hb7
      have hs2 := HO4.out.below hb7
      have hby := bytesSame_any (splitL r) _ _ hs2.secs hs1.secs HLEN.out
      have hB7 := HB6.out.trans (hb7.mono HB6.out.size)
      have HBY := Lib.hid hby
      have HB7 := Lib.hid hB7
      clear hb7 hs1 hs2 hby hB7
      go_wp2_with fail
      refine HBY.out.mono ?_
      rintro e w8 ⟨rfl, hb8⟩
      have hB8 := HB7.out.trans (hb8.mono HB7.out.size)
      go_wp2_with fail
      refine (HRN.out _).mono ?_
      rintro e w' ⟨rfl, rfl⟩
      go_wp2_with fail
      go_ret
      exact ⟨rfl, hB8⟩

end Go.Proofs.YtloaenknhkfaeaaDoor
