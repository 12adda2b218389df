/- The reference: Damage. -/
import Derived.Test.YtkklbmnbjmicnaaRef9
namespace Go.Proofs.Ytkklbmnbjmicnaa
open Go.RowKit Go.Shelf
set_option linter.unusedVariables false
set_option linter.unusedSimpArgs false

theorem dmgAt_zero (S : DS) (s p : Nat) (hs : s < S.dur.length) (y : UInt8) : { S with dur := S.dur.set s (S.dur[s].set p (S.dur[s].getD p 0 ^^^ y)) } = S.dmgAt s p y 0 := by
  unfold DS.dmgAt xorAt
  simp [hs]
theorem dmgAt_next (S : DS) (s p : Nat) (y : UInt8) (k : Nat) (hk : k < S.pend.length) : ∃ h : k < (S.dmgAt s p y k).pend.length, (S.dmgAt s p y k).pend[k] = S.pend[k] ∧
    S.dmgAt s p y (k + 1) = if S.pend[k].1 = s then { S.dmgAt s p y k with pend := (S.dmgAt s p y k).pend.set k (S.pend[k].1, S.pend[k].2.set p (S.pend[k].2.getD p 0 ^^^ y)) } else S.dmgAt s p y k := by
  have hat : (S.dmgAt s p y k).pend[k]? = some S.pend[k] := dpend_at _ _ _ hk
  obtain ⟨hl, he⟩ := List.getElem?_eq_some_iff.1 hat
  refine ⟨hl, he, ?_⟩
  have h1 := dpend (dmg s p y) S.pend k hk
  by_cases hxs : S.pend[k].1 = s
  · rw [if_pos hxs]
    have h2 : dmg s p y S.pend[k] = (S.pend[k].1, S.pend[k].2.set p (S.pend[k].2.getD p 0 ^^^ y)) := by unfold dmg xorAt; rw [if_pos hxs]
    rw [h2] at h1
    unfold DS.dmgAt
    simp only [← h1]
  · rw [if_neg hxs]
    have h2 : dmg s p y S.pend[k] = S.pend[k] := by unfold dmg; rw [if_neg hxs]
    rw [h2] at h1
    unfold DS.dmgAt
    rw [← h1]
    have h3 : ((S.pend.take k).map (dmg s p y) ++ S.pend.drop k).set k S.pend[k] = (S.pend.take k).map (dmg s p y) ++ S.pend.drop k := by
      conv => lhs; rw [← he]
      exact List.set_getElem_self hl
    rw [h3]
theorem dmgAt_end (S : DS) (s p : Nat) (hs : s < S.dur.length) (hp : p < 256) (y : UInt8) : S.damage (s : Int) (p : Int) y = (S.dmgAt s p y S.pend.length, 0) := by
  have hh : S.has s = true := by simp [DS.has]; omega
  have h1 : (0 : Int) ≤ p ∧ (p : Int) < 256 := by omega
  simp [DS.damage, hh, h1, DS.dmgAt]

set_option maxRecDepth 100000 in
set_option maxHeartbeats 2000000 in
theorem ref_damage_good {w : World} {G : Nat → Prop} {S : DS} {v : Value} (s p : Nat) (y : UInt8) (h : RefAt w G S v) (hok : S.ok) (hs : s < S.dur.length) (hp : p < 256) (hlen : S.pend.length < 100000000) :
    Calls Try.prog 52 #[v, .int .i64 (s : Int), .int .i64 (p : Int), bv y] w fun e w' => ∃ v', e = .returned (.tuple #[v', .int .i64 0]) ∧ RefOwn w' w.heap.size (S.dmgAt s p y S.pend.length) v' ∧ Below w.heap.size w w' := by
  have HH := Lib.hid h
  have HOK := Lib.hid hok
  have hh : S.has s = true := by simp [DS.has]; omega
  obtain ⟨dv, wv, rfl, hdu, hw⟩ := h
  obtain ⟨ad, capd, rfl⟩ := hdu.len
  obtain ⟨aw, capw, rfl⟩ := hw.len
  clear hdu hw hok
  unfold refV at HH ⊢
  unfold bv
  have hf := front w S (.slice ad S.dur.length capd) (.slice aw S.pend.length capw)
  obtain ⟨w1, hw1⟩ : ∃ w1, (w.alloc (.cells #[.slice ad S.dur.length capd, .slice aw S.pend.length capw, .int .i64 (limI S), .bool S.down, .int .i64 (S.ops : Int)] 45)).alloc (.cells #[.slice none 0 0, .slice none 0 0, .int .i64 0, .bool false, .int .i64 0] 45) = w1 := ⟨_, rfl⟩
  rw [hw1] at hf
  obtain ⟨n1, n2, hb⟩ := hf.below (Below.refl _ _)
  obtain ⟨c0, c1, c2, c3, c4, cf⟩ := cells5 n1
  have HF := Lib.hid hf
  have HHAS := Lib.hid hh
  clear hf n1 n2 hb hh
  have hp1 : (p : Int) < 256 := by omega
  have hp2 : (0 : Int) ≤ (p : Int) := by omega
  have hs2 : (s : Int) < (S.dur.length : Int) := by omega
  have hsm : S.dur.length ≤ 4096 := HOK.out.most
  have hd1 : decide ((p : Int) < 0) = false := by simp
  have hd2 : decide ((256 : Int) ≤ (p : Int)) = false := by simp; omega
  go_enter Try.func52, Try.ntmps52
  go_wp2_with fail
  clear hw1 c0 c1 c2 c3 c4 cf
  refine (ref_is (s : Int) (HH.out.below HF.out.b1)).mono ?_
  rw [HHAS.out]
  rintro e w2 ⟨rfl, hb2⟩
  have n1 := (HF.out.below hb2).1
  obtain ⟨c0, c1, c2, c3, c4, cf⟩ := cells5 n1
  have hbw2 := (HF.out.below hb2).2.2
  have HB2 := Lib.hid hb2
  have HBW2 := Lib.hid hbw2
  clear hb2 hbw2 n1
  go_wp2_with fail
  refine (ref_copy (HH.out.below HBW2.out) HOK.out hlen).mono ?_
  rintro e w3 ⟨v3, rfl, ⟨dv', wv', D, L, rfl, hX3⟩, hb3⟩
  obtain ⟨⟨ad', cd', rfl⟩, ⟨aw', cw', rfl⟩⟩ := hX3.slices
  unfold refV
  have hb13 : Below w1.heap.size w1 w3 := HB2.out.trans (hb3.mono HB2.out.size)
  have n1 := (HF.out.below hb13).1
  have n2 := (HF.out.below hb13).2.1
  have hbw3 := (HF.out.below hb13).2.2
  clear c0 c1 c2 c3 c4 cf
  obtain ⟨c0, c1, c2, c3, c4, cf⟩ := cells5 n1
  have hs1 := HF.out.s1
  have hn5 := put5_heap n1 (.slice ad' S.dur.length cd') (.slice aw' S.pend.length cw') (.int .i64 (limI S)) (.bool S.down) (.int .i64 (S.ops : Int))
  have hc5 := put5_chg w3 w.heap.size (.slice ad' S.dur.length cd') (.slice aw' S.pend.length cw') (.int .i64 (limI S)) (.bool S.down) (.int .i64 (S.ops : Int))
  have hw2s : w.heap.size + 2 ≤ w2.heap.size := by have := HB2.out.size; omega
  obtain ⟨w5, hw5⟩ : ∃ w5, put5 w3 w.heap.size (.slice ad' S.dur.length cd') (.slice aw' S.pend.length cw') (.int .i64 (limI S)) (.bool S.down) (.int .i64 (S.ops : Int)) = w5 := ⟨_, rfl⟩
  rw [hw5] at hn5 hc5
  have hn52 : w5.heap[w.heap.size + 1]? = _ := (hc5.block _ (by have := hb3.size; omega) (by omega)).trans n2
  have hbw5 : Below w.heap.size w w5 := hbw3.trans (hc5.below (fun i e => by omega) hbw3.size)
  have hX5 : RefOwnX w5 w2.heap.size S (.slice ad' S.dur.length cd') (.slice aw' S.pend.length cw') D L := hX3.chg hc5 (fun i h e => by omega)
  have hw25 : w2.heap.size ≤ w5.heap.size := by have := hb3.size; have := hc5.size; omega
  obtain ⟨gd, cd2, gx, cx, e, hgd, hgx, hgxl, hcr0, hcb, hfz, _, hset⟩ := hX5.atD s hs
  simp only [Value.slice.injEq] at e
  obtain ⟨rfl, _, rfl⟩ := e
  have hcr : w5.cell? ⟨gd, s, none⟩ = _ := hcr0
  have hcbp : w5.cell? ⟨gx, p, none⟩ = _ := hcb p hp
  have hfzp : w5.frozen? ⟨gx, p, none⟩ = _ := hfz p
  obtain ⟨z, hz⟩ : ∃ z, S.dur[s].getD p 0 = z := ⟨_, rfl⟩
  rw [hz] at hcbp
  unfold bv at hcbp
  obtain ⟨D2, hX6⟩ := hset p (z ^^^ y)
  have hX6' : RefOwnX (w5.setCell ⟨gx, p, none⟩ (bv (z ^^^ y))).drew w2.heap.size (S.dmgAt s p y 0) (.slice (some ⟨gd, 0, none⟩) S.dur.length cd') (.slice aw' S.pend.length cw') D2 L := by
    have h9 := dmgAt_zero S s p hs y
    rw [hz] at h9
    rw [← h9]
    exact hX6.drew
  rw [bv_xor] at hX6'
  clear hX6
  have hX6 := hX6'
  obtain ⟨w6, hw6⟩ : ∃ w6, (w5.setCell ⟨gx, p, none⟩ (.int .u8 ((z.toNat ^^^ y.toNat : Nat) : Int))).drew = w6 := ⟨_, rfl⟩
  have hc6 : Chg (fun i => i = gx) w5 w6 := hw6 ▸ (Chg.setCell (F := fun i => i = gx) w5 _ rfl).drew
  rw [hw6] at hX6
  have hn61 : w6.heap[w.heap.size]? = _ := (hc6.block _ (Array.getElem?_eq_some_iff.1 hn5).1 (by omega)).trans hn5
  have hn62 : w6.heap[w.heap.size + 1]? = _ := (hc6.block _ (Array.getElem?_eq_some_iff.1 hn52).1 (by omega)).trans hn52
  have hb6 : Below w.heap.size w w6 := hbw5.trans (hc6.below (fun i e => by omega) hbw5.size)
  have hbx := bits_xor_u8 z y
  obtain ⟨x0, x1, x2, x3, x4, xf⟩ := cells5 hn5
  have HN1 := Lib.hid hn61
  have HN2 := Lib.hid hn62
  have HB5 := Lib.hid hb6
  have HX6 := Lib.hid hX6
  have HW2 := Lib.hid hw2s
  have HW6 := Lib.hid hw6
  unfold put5 at hw5
  clear hb3 hb13 n1 n2 hbw3 hn5 hn52 hbw5 hX5 hX3 hw2s hw25 hs1 hX6 hX6' hset hcb hfz hz hgx hgd hgxl hc5 hn61 hn62 hb6 hc6 hw6 hcr0
  go_wp2_with fail
  clear hw5 c0 c1 c2 c3 c4 cf
  go_region
  rw [HW6.out]
  clear x0 x1 x2 x3 x4 xf HW6
  obtain ⟨x0, x1, x2, x3, x4, xf⟩ := cells5 HN1.out
  go_wp2_with fail
  clear x0 x1 x2 x3 x4 xf
  go_loopw [10] (fun i wr => ∃ (k : Nat) (L : List (Nat × List UInt8 × Value)), k ≤ S.pend.length ∧ i = .int .i64 (k : Int) ∧ wr.heap[w.heap.size]? = some (.cells #[.slice (some ⟨gd, 0, none⟩) S.dur.length cd', .slice aw' S.pend.length cw', .int .i64 (limI S), .bool S.down, .int .i64 (S.ops : Int)] 45 (0, 0)) ∧
      wr.heap[w.heap.size + 1]? = some (.cells #[.slice none 0 0, .slice none 0 0, .int .i64 0, .bool false, .int .i64 0] 45 (0, 0)) ∧ RefOwnX wr w2.heap.size (S.dmgAt s p y k) (.slice (some ⟨gd, 0, none⟩) S.dur.length cd') (.slice aw' S.pend.length cw') D2 L ∧ Below w.heap.size w wr)
    (fun i _ => S.pend.length - (intOf i).toNat)
  case atStart => exact ⟨0, L, Nat.zero_le _, rfl, HN1.out, HN2.out, HX6.out, HB5.out⟩
  case round =>
    clear HN1 HN2 HX6 HB5 L
    obtain ⟨k, L, hk, rfl, hn, hn2, hX, hB⟩ := hrel
    obtain ⟨x0, x1, x2, x3, x4, xf⟩ := cells5 hn
    have hpl : (S.dmgAt s p y k).pend.length = S.pend.length := dpend_length _ _ _ hk
    have HN := Lib.hid hn
    have HN2 := Lib.hid hn2
    have HB := Lib.hid hB
    have HPL := Lib.hid hpl
    clear hn hn2 hB hpl
    by_cases hlt : k < S.pend.length
    · obtain ⟨hkl, hke, hnext⟩ := dmgAt_next S s p y k hlt
      obtain ⟨gw, cw2, gx2, cx2, e, hgw, hgx, hgxl, hne, hc0, hc1, hcb, hfz, hset⟩ := hX.atL k hkl
      simp only [Value.slice.injEq] at e
      obtain ⟨rfl, ee, rfl⟩ := e
      clear ee
      rw [hke] at hc0 hcb hset
      have hc0' : wr.cell? ⟨gw, k * 2, none⟩ = _ := hc0
      have hc1' : wr.cell? ⟨gw, k * 2 + 1, none⟩ = _ := hc1
      have hcbp : wr.cell? ⟨gx2, p, none⟩ = _ := hcb p hp
      have hfzp : wr.frozen? ⟨gx2, p, none⟩ = _ := hfz p
      obtain ⟨q1, q2, hq⟩ : ∃ q1 q2, S.pend[k] = (q1, q2) := ⟨_, _, rfl⟩
      rw [hq] at hc0' hcbp hnext hset
      simp only at hc0' hcbp hnext hset
      obtain ⟨z2, hz2⟩ : ∃ z, q2.getD p 0 = z := ⟨_, rfl⟩
      rw [hz2] at hcbp hnext
      unfold bv at hcbp
      have hX0 := hX
      have HX := Lib.hid hX
      have HNX := Lib.hid hnext
      have HGX := Lib.hid hgx
      have HSET := Lib.hid hset
      have hbx2 := bits_xor_u8 z2 y
      clear hX hX0 hnext hset hcb hfz hc0 hc1 hke hq hz2 hgw hgx hne hkl hbx
      by_cases hqs : q1 = s
      · subst hqs
        obtain ⟨L2, hX9⟩ := HSET.out p (z2 ^^^ y)
        have hX9' : RefOwnX (wr.setCell ⟨gx2, p, none⟩ (bv (z2 ^^^ y))).drew w2.heap.size (S.dmgAt q1 p y (k + 1)) (.slice (some ⟨gd, 0, none⟩) S.dur.length cd') (.slice (some ⟨gw, 0, none⟩) S.pend.length cw') D2 L2 := by
          rw [HNX.out, if_pos rfl]
          exact hX9.drew
        rw [bv_xor] at hX9'
        obtain ⟨w9, hw9⟩ : ∃ w9, (wr.setCell ⟨gx2, p, none⟩ (.int .u8 ((z2.toNat ^^^ y.toNat : Nat) : Int))).drew = w9 := ⟨_, rfl⟩
        have hc9 : Chg (fun i => i = gx2) wr w9 := hw9 ▸ (Chg.setCell (F := fun i => i = gx2) wr _ rfl).drew
        rw [hw9] at hX9'
        have hgx := HGX.out
        have hw2s := HW2.out
        have hn91 : w9.heap[w.heap.size]? = _ := (hc9.block _ (Array.getElem?_eq_some_iff.1 HN.out).1 (by omega)).trans HN.out
        have hn92 : w9.heap[w.heap.size + 1]? = _ := (hc9.block _ (Array.getElem?_eq_some_iff.1 HN2.out).1 (by omega)).trans HN2.out
        have hb9 : Below w.heap.size w w9 := HB.out.trans (hc9.below (fun i e => by omega) HB.out.size)
        have HN91 := Lib.hid hn91
        have HN92 := Lib.hid hn92
        have HB9 := Lib.hid hb9
        have HX9 := Lib.hid hX9'
        have HW9 := Lib.hid hw9
        clear hn91 hn92 hb9 hX9 hX9' hw9 hc9 hgx hw2s
        go_wp2_with fail
        go_region
        rw [HW9.out]
        clear x0 x1 x2 x3 x4 xf hc0' hc1' hcbp hfzp
        go_wp2_with fail
        go_roundw
        case rel => exact ⟨k + 1, L2, by omega, by go_num, HN91.out, HN92.out, HX9.out, HB9.out⟩
        case measure => simp [intOf]; omega
      · have hX9' : RefOwnX wr w2.heap.size (S.dmgAt s p y (k + 1)) (.slice (some ⟨gd, 0, none⟩) S.dur.length cd') (.slice (some ⟨gw, 0, none⟩) S.pend.length cw') D2 L := by
          rw [HNX.out, if_neg hqs]
          exact HX.out
        have HX9 := Lib.hid hX9'
        have hqs' : ¬ (q1 : Int) = (s : Int) := by omega
        clear hX9'
        go_wp2_with fail
        go_roundw
        case rel => exact ⟨k + 1, L, by omega, by go_num, HN.out, HN2.out, HX9.out, HB.out⟩
        case measure => simp [intOf]; omega
    · obtain rfl : k = S.pend.length := by omega
      obtain ⟨y0, y1, y2, y3, y4, yf⟩ := cells5 HN2.out
      have hw2s := HW2.out
      have hfin := put5_heap HN2.out (.slice (some ⟨gd, 0, none⟩) S.dur.length cd') (.slice aw' S.pend.length cw') (.int .i64 (limI S)) (.bool S.down) (.int .i64 (S.ops : Int))
      have hcf := put5_chg wr (w.heap.size + 1) (.slice (some ⟨gd, 0, none⟩) S.dur.length cd') (.slice aw' S.pend.length cw') (.int .i64 (limI S)) (.bool S.down) (.int .i64 (S.ops : Int))
      have hXf := (hX.chg hcf (fun i h e => by omega)).base (B' := w.heap.size) (by omega)
      have hbf := HB.out.trans (hcf.below (fun i e => by omega) HB.out.size)
      have HXF := Lib.hid hXf
      have HBF := Lib.hid hbf
      have HFIN := Lib.hid hfin
      clear hfin hcf hXf hbf hX hw2s
      go_wp2_with fail
      exact bodyPost_ret (results_cell_tmp_row (g := w.heap.size + 1) rfl _ _ _ _ _ _ rfl HFIN.out Try.underlying45 rfl infoD) rfl ⟨_, rfl, ⟨_, _, D2, _, rfl, HXF.out⟩, HBF.out⟩

end Go.Proofs.Ytkklbmnbjmicnaa
