/- The reference: Write, where it writes. -/
import Derived.Test.YtkklbmnbjmicnaaRef5
namespace Go.Proofs.Ytkklbmnbjmicnaa
open Go.RowKit Go.Shelf
set_option linter.unusedVariables false
set_option linter.unusedSimpArgs false

theorem RefOwnX.slices {w : World} {B : Nat} {S : DS} {dv wv : Value} {D : List (List UInt8 × Value)} {L : List (Nat × List UInt8 × Value)} (h : RefOwnX w B S dv wv D L) :
    (∃ a c, dv = .slice a S.dur.length c) ∧ ∃ a c, wv = .slice a S.pend.length c := by
  constructor
  · rcases h.rd.2 with ⟨rfl, h0⟩ | ⟨g, cap, cur, rfl, _⟩
    · exact ⟨none, 0, by rw [h0]⟩
    · exact ⟨_, _, rfl⟩
  · rcases h.rw.2 with ⟨rfl, h0⟩ | ⟨g, cap, cur, rfl, _⟩
    · exact ⟨none, 0, by rw [h0]⟩
    · exact ⟨_, _, rfl⟩
theorem RefOwnX.operate {w : World} {B : Nat} {S : DS} {dv wv : Value} {D : List (List UInt8 × Value)} {L : List (Nat × List UInt8 × Value)} (h : RefOwnX w B S dv wv D L) : RefOwnX w B S.operate.1 dv wv D L := by
  have e1 := (operate_pend S).1
  have e2 := (operate_pend S).2
  exact ⟨h.dur.trans e2.symm, h.pend.trans e1.symm, by rw [e2]; exact h.rd, by rw [e1]; exact h.rw, h.rows⟩

set_option maxRecDepth 100000 in
set_option maxHeartbeats 2000000 in
theorem ref_write_lim {w : World} {G Gb : Nat → Prop} {S : DS} {v : Value} (s : Nat) (bv' : Value) (l : List UInt8) (h : RefAt w G S v) (hbv : BytesAt w Gb bv' l) (hl : l.length = 256) (hok : S.ok) (hd : S.down = false) (hs : s < S.dur.length)
    (hop : S.operate.2 = false) (hlen : S.pend.length < 100000000) (hops : S.ops < 1000000000000) (hlim : S.limit.getD 0 ≤ 9223372036854775807) :
    Calls Try.prog 50 #[v, .int .i64 (s : Int), bv'] w fun e w' => ∃ v', e = .returned (.tuple #[v', .int .i64 (S.write s l).2]) ∧ RefOwn w' w.heap.size (S.write s l).1 v' ∧ Below w.heap.size w w' := by
  have HH := Lib.hid h
  have HOK := Lib.hid hok
  obtain ⟨gb, ob, capb, rfl, _, hgb, hrb⟩ := hbv.some' hl
  have hh : S.has s = true := by simp [DS.has]; omega
  have hwr : S.write s l = (S.operate.1, 28) := by simp [DS.write, hd, hh, hl, hop]
  rw [hwr]
  have HOP := Lib.hid hop
  clear hop
  obtain ⟨dv, wv, rfl, hdu, hw⟩ := h
  obtain ⟨ad, capd, rfl⟩ := hdu.len
  obtain ⟨aw, capw, rfl⟩ := hw.len
  clear hdu hw hwr hok
  unfold refV at HH ⊢
  rw [hd] at HH ⊢
  have hf := front w S (.slice ad S.dur.length capd) (.slice aw S.pend.length capw)
  rw [hd] at hf
  obtain ⟨w1, hw1⟩ : ∃ w1, (w.alloc (.cells #[.slice ad S.dur.length capd, .slice aw S.pend.length capw, .int .i64 (limI S), .bool false, .int .i64 (S.ops : Int)] 45)).alloc (.cells #[.slice none 0 0, .slice none 0 0, .int .i64 0, .bool false, .int .i64 0] 45) = w1 := ⟨_, rfl⟩
  rw [hw1] at hf
  obtain ⟨n1, n2, hb⟩ := hf.below (Below.refl _ _)
  rw [hd] at n1
  obtain ⟨c0, c1, c2, c3, c4, cf⟩ := cells5 n1
  have HF := Lib.hid hf
  have HRB := Lib.hid hrb
  have HGB := Lib.hid hgb
  have HLL := Lib.hid hl
  have HD := Lib.hid hd
  have HHAS := Lib.hid hh
  clear hf n1 n2 hb hrb hgb hl hd hh hbv
  go_enter Try.func50, Try.ntmps50
  go_wp2_with fail
  clear hw1 c0 c1 c2 c3 c4 cf
  refine (ref_is (s : Int) (HH.out.below HF.out.b1)).mono ?_
  rw [HHAS.out]
  rintro e w2 ⟨rfl, hb2⟩
  have n1 := (HF.out.below hb2).1
  rw [HD.out] at n1
  obtain ⟨c0, c1, c2, c3, c4, cf⟩ := cells5 n1
  have hbw2 := (HF.out.below hb2).2.2
  have HB2 := Lib.hid hb2
  have HBW2 := Lib.hid hbw2
  clear hb2 hbw2 n1
  go_wp2_with fail
  have hR2 : RefAt w2 G S (refV S (.slice ad S.dur.length capd) (.slice aw S.pend.length capw)) := by unfold refV; rw [HD.out]; exact HH.out.below HBW2.out
  unfold refV at hR2
  rw [HD.out] at hR2
  refine (ref_copy hR2 HOK.out hlen).mono ?_
  rintro e w3 ⟨v3, rfl, ⟨dv', wv', D, L, rfl, hX3⟩, hb3⟩
  obtain ⟨⟨ad', cd', rfl⟩, ⟨aw', cw', rfl⟩⟩ := hX3.slices
  have HX3 := Lib.hid hX3
  have HB3 := Lib.hid hb3
  clear hX3 hb3 hR2 c0 c1 c2 c3 c4 cf
  go_wp2_with fail
  refine (ref_counted ad' aw' _ _ cd' cw' hops hlim).mono ?_
  rw [HOP.out]
  rintro e w4 ⟨rfl, hb4⟩
  unfold refV
  have hb14 : Below w1.heap.size w1 w4 := (HB2.out.trans (HB3.out.mono HB2.out.size)).trans (hb4.mono (Nat.le_trans HB2.out.size HB3.out.size))
  have n1 := (HF.out.below hb14).1
  have n2 := (HF.out.below hb14).2.1
  have hbw4 := (HF.out.below hb14).2.2
  obtain ⟨c0, c1, c2, c3, c4, cf⟩ := cells5 n1
  have hs1 := HF.out.s1
  have hn5 := put5_heap n1 (.slice ad' S.dur.length cd') (.slice aw' S.pend.length cw') (.int .i64 (limI S.operate.1)) (.bool S.operate.1.down) (.int .i64 (S.operate.1.ops : Int))
  have hc5 := put5_chg w4 w.heap.size (.slice ad' S.dur.length cd') (.slice aw' S.pend.length cw') (.int .i64 (limI S.operate.1)) (.bool S.operate.1.down) (.int .i64 (S.operate.1.ops : Int))
  have hw2s : w.heap.size + 2 ≤ w2.heap.size := by have := HB2.out.size; omega
  obtain ⟨w5, hw5⟩ : ∃ w5, put5 w4 w.heap.size (.slice ad' S.dur.length cd') (.slice aw' S.pend.length cw') (.int .i64 (limI S.operate.1)) (.bool S.operate.1.down) (.int .i64 (S.operate.1.ops : Int)) = w5 := ⟨_, rfl⟩
  rw [hw5] at hn5 hc5
  have hn52 : w5.heap[w.heap.size + 1]? = _ := (hc5.block _ (by have := HB3.out.size; have := hb4.size; omega) (by omega)).trans n2
  have hbw5 : Below w.heap.size w w5 := hbw4.trans (hc5.below (fun i e => by omega) hbw4.size)
  have hX5 : RefOwnX w5 w2.heap.size S (.slice ad' S.dur.length cd') (.slice aw' S.pend.length cw') D L :=
    (HX3.out.chg (G := fun _ => False) (Chg.of_below hb4) (fun _ _ h => h)).chg hc5 (fun i h e => by omega)
  have hw25 : w2.heap.size ≤ w5.heap.size := by have := HB3.out.size; have := hb4.size; have := hc5.size; omega
  have HN1 := Lib.hid hn5
  have HN2 := Lib.hid hn52
  have HB5 := Lib.hid hbw5
  have HX5 := Lib.hid hX5
  have HW2 := Lib.hid hw2s
  have HW25 := Lib.hid hw25
  have HW5 := Lib.hid hw5
  unfold put5 at hw5
  clear hb4 hb14 n1 n2 hbw4 hn5 hn52 hbw5 hX5 hw2s hw25 hs1
  have hbx : w.heap.size < w5.heap.size ∧ (Value.slice aw' S.pend.length cw').ownBlock ≠ some w.heap.size ∧ w.heap.size + 1 < w5.heap.size ∧ (Value.slice aw' S.pend.length cw').ownBlock ≠ some (w.heap.size + 1) := by
    have h1 := HW2.out
    have h2 := HW25.out
    refine ⟨by omega, fun e => ?_, by omega, fun e => ?_⟩
    · have := (ownsRow_lt HX5.out.rw _ e).1; omega
    · have := (ownsRow_lt HX5.out.rw _ e).1; omega
  have hbox : ∀ wx, Chg (fun i => (Value.slice aw' S.pend.length cw').ownBlock = some i) w5 wx → wx.cell? ⟨w.heap.size, 1, none⟩ = some (.slice aw' S.pend.length cw') := fun wx hc => by
    have h1 := (hc.block _ hbx.1 hbx.2.1).trans HN1.out
    exact (cells5 h1).2.1
  have hgb5 : gb < w5.heap.size := Nat.lt_of_lt_of_le HGB.out HB5.out.size
  have hrb5 : w5.rangeAt gb ob (bvs l) := fun j u hu => (HB5.out.cell (p := ⟨gb, ob + j, none⟩) HGB.out).trans (HRB.out j u hu)
  clear HRB HGB
  have HRB := Lib.hid hrb5
  have HGB := Lib.hid hgb5
  have HBX := Lib.hid hbx
  have HBOX := Lib.hid hbox
  clear hbx hbox hgb5 hrb5
  obtain ⟨x0, x1, x2, x3, x4, xf⟩ := cells5 HN1.out
  obtain ⟨y0, y1, y2, y3, y4, yf⟩ := cells5 HN2.out
  simp only [Bool.not_false, Bool.not_true]
  have hfin := put5_heap HN2.out (.slice ad' S.dur.length cd') (.slice aw' S.pend.length cw') (.int .i64 (limI S.operate.1)) (.bool S.operate.1.down) (.int .i64 (S.operate.1.ops : Int))
  have hcf := put5_chg w5 (w.heap.size + 1) (.slice ad' S.dur.length cd') (.slice aw' S.pend.length cw') (.int .i64 (limI S.operate.1)) (.bool S.operate.1.down) (.int .i64 (S.operate.1.ops : Int))
  have hXf := HX5.out.operate.chg hcf (fun i h e => by have := HW2.out; omega)
  have hbf := HB5.out.trans (hcf.below (fun i e => by omega) HB5.out.size)
  have HXF := Lib.hid hXf
  have HBF := Lib.hid hbf
  have HFIN := Lib.hid hfin
  clear hfin hcf hXf hbf
  go_wp2_with fail
  exact bodyPost_ret (results_cell_tmp_row (g := w.heap.size + 1) rfl _ _ _ _ _ _ rfl HFIN.out Try.underlying45 rfl infoD) rfl ⟨_, rfl, ⟨_, _, D, _, rfl, HXF.out.base (by have := HW2.out; omega)⟩, HBF.out⟩
set_option maxRecDepth 100000 in
set_option maxHeartbeats 2000000 in
theorem ref_write_do {w : World} {G Gb : Nat → Prop} {S : DS} {v : Value} (s : Nat) (bv' : Value) (l : List UInt8) (h : RefAt w G S v) (hbv : BytesAt w Gb bv' l) (hl : l.length = 256) (hok : S.ok) (hd : S.down = false) (hs : s < S.dur.length)
    (hop : S.operate.2 = true) (hlen : S.pend.length < 100000000) (hops : S.ops < 1000000000000) (hlim : S.limit.getD 0 ≤ 9223372036854775807) :
    Calls Try.prog 50 #[v, .int .i64 (s : Int), bv'] w fun e w' => ∃ v', e = .returned (.tuple #[v', .int .i64 (S.write s l).2]) ∧ RefOwn w' w.heap.size (S.write s l).1 v' ∧ Below w.heap.size w w' := by
  have HH := Lib.hid h
  have HOK := Lib.hid hok
  obtain ⟨gb, ob, capb, rfl, _, hgb, hrb⟩ := hbv.some' hl
  have hh : S.has s = true := by simp [DS.has]; omega
  have hwr : S.write s l = ({ S.operate.1 with pend := S.operate.1.pend ++ [(s, l)] }, 0) := by simp [DS.write, hd, hh, hl, hop]
  rw [hwr]
  have HOP := Lib.hid hop
  clear hop
  obtain ⟨dv, wv, rfl, hdu, hw⟩ := h
  obtain ⟨ad, capd, rfl⟩ := hdu.len
  obtain ⟨aw, capw, rfl⟩ := hw.len
  clear hdu hw hwr hok
  unfold refV at HH ⊢
  rw [hd] at HH ⊢
  have hf := front w S (.slice ad S.dur.length capd) (.slice aw S.pend.length capw)
  rw [hd] at hf
  obtain ⟨w1, hw1⟩ : ∃ w1, (w.alloc (.cells #[.slice ad S.dur.length capd, .slice aw S.pend.length capw, .int .i64 (limI S), .bool false, .int .i64 (S.ops : Int)] 45)).alloc (.cells #[.slice none 0 0, .slice none 0 0, .int .i64 0, .bool false, .int .i64 0] 45) = w1 := ⟨_, rfl⟩
  rw [hw1] at hf
  obtain ⟨n1, n2, hb⟩ := hf.below (Below.refl _ _)
  rw [hd] at n1
  obtain ⟨c0, c1, c2, c3, c4, cf⟩ := cells5 n1
  have HF := Lib.hid hf
  have HRB := Lib.hid hrb
  have HGB := Lib.hid hgb
  have HLL := Lib.hid hl
  have HD := Lib.hid hd
  have HHAS := Lib.hid hh
  clear hf n1 n2 hb hrb hgb hl hd hh hbv
  go_enter Try.func50, Try.ntmps50
  go_wp2_with fail
  clear hw1 c0 c1 c2 c3 c4 cf
  refine (ref_is (s : Int) (HH.out.below HF.out.b1)).mono ?_
  rw [HHAS.out]
  rintro e w2 ⟨rfl, hb2⟩
  have n1 := (HF.out.below hb2).1
  rw [HD.out] at n1
  obtain ⟨c0, c1, c2, c3, c4, cf⟩ := cells5 n1
  have hbw2 := (HF.out.below hb2).2.2
  have HB2 := Lib.hid hb2
  have HBW2 := Lib.hid hbw2
  clear hb2 hbw2 n1
  go_wp2_with fail
  have hR2 : RefAt w2 G S (refV S (.slice ad S.dur.length capd) (.slice aw S.pend.length capw)) := by unfold refV; rw [HD.out]; exact HH.out.below HBW2.out
  unfold refV at hR2
  rw [HD.out] at hR2
  refine (ref_copy hR2 HOK.out hlen).mono ?_
  rintro e w3 ⟨v3, rfl, ⟨dv', wv', D, L, rfl, hX3⟩, hb3⟩
  obtain ⟨⟨ad', cd', rfl⟩, ⟨aw', cw', rfl⟩⟩ := hX3.slices
  have HX3 := Lib.hid hX3
  have HB3 := Lib.hid hb3
  clear hX3 hb3 hR2 c0 c1 c2 c3 c4 cf
  go_wp2_with fail
  refine (ref_counted ad' aw' _ _ cd' cw' hops hlim).mono ?_
  rw [HOP.out]
  rintro e w4 ⟨rfl, hb4⟩
  unfold refV
  have hb14 : Below w1.heap.size w1 w4 := (HB2.out.trans (HB3.out.mono HB2.out.size)).trans (hb4.mono (Nat.le_trans HB2.out.size HB3.out.size))
  have n1 := (HF.out.below hb14).1
  have n2 := (HF.out.below hb14).2.1
  have hbw4 := (HF.out.below hb14).2.2
  obtain ⟨c0, c1, c2, c3, c4, cf⟩ := cells5 n1
  have hs1 := HF.out.s1
  have hn5 := put5_heap n1 (.slice ad' S.dur.length cd') (.slice aw' S.pend.length cw') (.int .i64 (limI S.operate.1)) (.bool S.operate.1.down) (.int .i64 (S.operate.1.ops : Int))
  have hc5 := put5_chg w4 w.heap.size (.slice ad' S.dur.length cd') (.slice aw' S.pend.length cw') (.int .i64 (limI S.operate.1)) (.bool S.operate.1.down) (.int .i64 (S.operate.1.ops : Int))
  have hw2s : w.heap.size + 2 ≤ w2.heap.size := by have := HB2.out.size; omega
  obtain ⟨w5, hw5⟩ : ∃ w5, put5 w4 w.heap.size (.slice ad' S.dur.length cd') (.slice aw' S.pend.length cw') (.int .i64 (limI S.operate.1)) (.bool S.operate.1.down) (.int .i64 (S.operate.1.ops : Int)) = w5 := ⟨_, rfl⟩
  rw [hw5] at hn5 hc5
  have hn52 : w5.heap[w.heap.size + 1]? = _ := (hc5.block _ (by have := HB3.out.size; have := hb4.size; omega) (by omega)).trans n2
  have hbw5 : Below w.heap.size w w5 := hbw4.trans (hc5.below (fun i e => by omega) hbw4.size)
  have hX5 : RefOwnX w5 w2.heap.size S (.slice ad' S.dur.length cd') (.slice aw' S.pend.length cw') D L :=
    (HX3.out.chg (G := fun _ => False) (Chg.of_below hb4) (fun _ _ h => h)).chg hc5 (fun i h e => by omega)
  have hw25 : w2.heap.size ≤ w5.heap.size := by have := HB3.out.size; have := hb4.size; have := hc5.size; omega
  have HN1 := Lib.hid hn5
  have HN2 := Lib.hid hn52
  have HB5 := Lib.hid hbw5
  have HX5 := Lib.hid hX5
  have HW2 := Lib.hid hw2s
  have HW25 := Lib.hid hw25
  have HW5 := Lib.hid hw5
  unfold put5 at hw5
  clear hb4 hb14 n1 n2 hbw4 hn5 hn52 hbw5 hX5 hw2s hw25 hs1
  have hbx : w.heap.size < w5.heap.size ∧ (Value.slice aw' S.pend.length cw').ownBlock ≠ some w.heap.size ∧ w.heap.size + 1 < w5.heap.size ∧ (Value.slice aw' S.pend.length cw').ownBlock ≠ some (w.heap.size + 1) := by
    have h1 := HW2.out
    have h2 := HW25.out
    refine ⟨by omega, fun e => ?_, by omega, fun e => ?_⟩
    · have := (ownsRow_lt HX5.out.rw _ e).1; omega
    · have := (ownsRow_lt HX5.out.rw _ e).1; omega
  have hbox : ∀ wx, Chg (fun i => (Value.slice aw' S.pend.length cw').ownBlock = some i) w5 wx → wx.cell? ⟨w.heap.size, 1, none⟩ = some (.slice aw' S.pend.length cw') := fun wx hc => by
    have h1 := (hc.block _ hbx.1 hbx.2.1).trans HN1.out
    exact (cells5 h1).2.1
  have hgb5 : gb < w5.heap.size := Nat.lt_of_lt_of_le HGB.out HB5.out.size
  have hrb5 : w5.rangeAt gb ob (bvs l) := fun j u hu => (HB5.out.cell (p := ⟨gb, ob + j, none⟩) HGB.out).trans (HRB.out j u hu)
  clear HRB HGB
  have HRB := Lib.hid hrb5
  have HGB := Lib.hid hgb5
  have HBX := Lib.hid hbx
  have HBOX := Lib.hid hbox
  clear hbx hbox hgb5 hrb5
  obtain ⟨x0, x1, x2, x3, x4, xf⟩ := cells5 HN1.out
  obtain ⟨y0, y1, y2, y3, y4, yf⟩ := cells5 HN2.out
  simp only [Bool.not_false, Bool.not_true]
  go_wp2_with fail
  clear x0 x1 x2 x3 x4 xf y0 y1 y2 y3 y4 yf
  refine wp_region_noPanic ?_
  refine wp_region_F 10 (Chg (fun i => (Value.slice aw' S.pend.length cw').ownBlock = some i) w5) (by kernel_rfl) ?_
  have hS0 : (Chg (fun i => (Value.slice aw' S.pend.length cw').ownBlock = some i) w5) w5.drew := (Chg.refl _ w5).drew
  refine wpAnyF_take (i := 0) (fin := 10) (v := .pointer (some ⟨w.heap.size, 1, none⟩)) rfl (by kernel_rfl) (by kernel_rfl) (by kernel_rfl) (by kernel_rfl) (fun _ _ _ h => h) (yieldsIf_run rfl (fun w' hw' => ?_)) hS0 ?_
  · go_simp
  simp only [Act.put, List.setIfInBounds_toArray, List.set_cons_zero, List.set_cons_succ]
  refine wpAnyF_take (i := 1) (fin := 10) (v := .slice aw' S.pend.length cw') rfl (by kernel_rfl) (by kernel_rfl) (by kernel_rfl) (by kernel_rfl) (fun _ _ _ h => h) (yieldsIf_run rfl (fun w' hw' => ?_)) hS0 ?_
  · (have h4 := HBOX.out w' hw'; clear hw'; go_simp)
  simp only [Act.put, List.setIfInBounds_toArray, List.set_cons_zero, List.set_cons_succ]
  refine wpAnyF_take (i := 2) (fin := 10) (v := .int .i64 (s : Int)) rfl (by kernel_rfl) (by kernel_rfl) (by kernel_rfl) (by kernel_rfl) (fun _ _ _ h => h) (yieldsIf_run rfl (fun w' hw' => ?_)) hS0 ?_
  · rfl
  simp only [Act.put, List.setIfInBounds_toArray, List.set_cons_zero, List.set_cons_succ]
  refine wpAnyF_take (i := 4) (fin := 10) (v := .slice (some ⟨gb, ob, none⟩) 256 capb) rfl (by kernel_rfl) (by kernel_rfl) (by kernel_rfl) (by kernel_rfl) (fun _ _ _ h => h) (yieldsIf_run rfl (fun w' hw' => ?_)) hS0 ?_
  · rfl
  simp only [Act.put, List.setIfInBounds_toArray, List.set_cons_zero, List.set_cons_succ]
  refine wpAnyF_do (i := 3) (by kernel_rfl) rfl rfl (fun K hK => ?_)
  go_simp
  have hS1 : (Chg (fun i => (Value.slice aw' S.pend.length cw').ownBlock = some i) w5) (w5.drew.alloc (.cells #[] 5)) := hS0.trans (Chg.alloc _ _) (fun _ h => .inl h)
  refine hK _ _ (fun _ => hS1) ?_
  clear hK K
  try simp only [Act.put, List.setIfInBounds_toArray, List.set_cons_zero, List.set_cons_succ]
  refine wpAnyF_do (i := 5) (by kernel_rfl) rfl rfl (fun K hK => ?_)
  refine wp_app256 (wr := w5.drew) (.tmp 32) (.tmp 33) rfl rfl gb ob capb l rfl HRB.out HGB.out HLL.out ?_
  intro g' cap' w6 hg1 hg2 ho2 hb6
  have hS2 : (Chg (fun i => (Value.slice aw' S.pend.length cw').ownBlock = some i) w5) w6 := hS0.trans (Chg.of_below hb6) (fun _ h => .inl h)
  refine hK _ _ (fun _ => hS2) ?_
  clear hK K
  try simp only [Act.put, List.setIfInBounds_toArray, List.set_cons_zero, List.set_cons_succ]
  refine wpAnyF_do (i := 6) (by kernel_rfl) rfl rfl (fun K hK => ?_)
  go_simp
  refine hK _ _ (fun _ => hS2) ?_
  clear hK K
  refine wpAnyF_do (i := 7) (by kernel_rfl) rfl rfl (fun K hK => ?_)
  go_simp
  obtain ⟨w7, hw7⟩ : ∃ w7, w6.alloc (.cells #[.int .i64 (s : Int), .slice (some ⟨g', 0, none⟩) 256 cap'] 90) = w7 := ⟨_, rfl⟩
  have hb7 : Below w6.heap.size w6 w7 := hw7 ▸ (Below.refl _ _).alloc (Nat.le_refl _) _
  have hn7 : w7.heap[w6.heap.size]? = some (.cells #[.int .i64 (s : Int), .slice (some ⟨g', 0, none⟩) 256 cap'] 90 (0, 0)) := by rw [← hw7]; exact heap_alloc_new _ _
  have hb57 : Below w5.heap.size w5 w7 := ((Below.refl _ w5).drew.trans hb6).trans (hb7.mono hb6.size)
  have ho3 : w7.ownsRow w5.drew.heap.size 5 1 (.slice (some ⟨g', 0, none⟩) 256 cap') 256 (bvs l) := ownsRow_chg (G := fun _ => False) ho2 (Chg.of_below hb7) (fun _ _ _ h => h)
  have hX7 : RefOwnX w7 w2.heap.size S (.slice ad' S.dur.length cd') (.slice aw' S.pend.length cw') D L := HX5.out.chg (G := fun _ => False) (Chg.of_below hb57) (fun _ _ h => h)
  rw [hw7]
  refine hK _ _ (fun _ => Chg.of_below hb57) ?_
  clear hK K
  try simp only [Act.put, List.setIfInBounds_toArray, List.set_cons_zero, List.set_cons_succ]
  refine wpAnyF_do (i := 8) (by kernel_rfl) rfl rfl (fun K hK => ?_)
  refine wp_appW (.tmp 30) (.tmp 36) rfl rfl hX7.rw w6.heap.size rfl hn7 rfl rfl (by omega) (Nat.le_trans HW25.out hb57.size) ?_
  intro gg capg w8 hlt8 hown8 hgrow8 hat8
  have hc8 : (Chg (fun i => (Value.slice aw' S.pend.length cw').ownBlock = some i) w5) w8 := (Chg.of_below hb57).trans (Chg.grown (F := fun i => (Value.slice aw' S.pend.length cw').ownBlock = some i) hgrow8 (fun i e => .inl e)) (fun _ h => .inl h)
  refine hK _ _ (fun _ => hc8) ?_
  clear hK K
  try simp only [Act.put, List.setIfInBounds_toArray, List.set_cons_zero, List.set_cons_succ]
  have hc78 : Chg (fun i => (Value.slice aw' S.pend.length cw').ownBlock = some i) w7 w8 := Chg.grown hgrow8 (fun i e => .inl e)
  have ho8 : w8.ownsRow w2.heap.size 5 1 (.slice (some ⟨g', 0, none⟩) 256 cap') 256 (bvs l) :=
    ownsRow_base (ownsRow_chg' ho3 hc78 (fun i e e2 => ownsRow_ne hX7.rw ho3 (by decide) i e2 e)) HW25.out
  have hX8 : RefOwnX w8 w2.heap.size { S.operate.1 with pend := S.operate.1.pend ++ [(s, l)] } (.slice ad' S.dur.length cd') (.slice (some ⟨gg, 0, none⟩) (S.pend.length + 1) capg) D (L ++ [(s, l, .slice (some ⟨g', 0, none⟩) 256 cap')]) := by
    have e1 := (operate_pend S).1
    have e2 := (operate_pend S).2
    refine ⟨by rw [hX7.dur]; exact e2.symm, by rw [List.map_append, hX7.pend, ← e1]; rfl, ?_, ?_, ?_⟩
    · show w8.ownsRow _ _ _ _ S.operate.1.dur.length _
      rw [e2]
      exact ownsRow_chg' hX7.rd hc78 (fun i e e3 => ownsRow_ne hX7.rw hX7.rd (by decide) i e3 e)
    · show w8.ownsRow _ _ _ _ (S.operate.1.pend ++ [(s, l)]).length _
      rw [e1, List.length_append]
      simpa [lrow] using hown8
    · have hr : Rows w8 w2.heap.size (D ++ L.map (·.2)) := hX7.rows.kept hc78 (fun x hx i e e3 => by
        obtain ⟨_, g, cap, _, hr⟩ := hX7.rows.row x hx
        exact ownsRow_ne hX7.rw hr (by decide) i e3 e)
      have hp := hr.push (l := l) HLL.out ho8 (fun x hx e => by
        obtain ⟨_, g, cap, _, hr5⟩ := HX5.out.rows.row x hx
        have h3 := (ownsRow_lt hr5 g' e).2
        have h2 : w5.heap.size ≤ g' := hg1
        omega)
      simpa using hp
  have hbox8 : w8.heap[w.heap.size]? = w5.heap[w.heap.size]? := hc8.block _ HBX.out.1 HBX.out.2.1
  have hres8 : w8.heap[w.heap.size + 1]? = w5.heap[w.heap.size + 1]? := hc8.block _ HBX.out.2.2.1 HBX.out.2.2.2
  have hn81 := hbox8.trans HN1.out
  have hn82 := hres8.trans HN2.out
  have hsz8 : w5.heap.size ≤ w8.heap.size := hc8.size
  have hb28 : Below w.heap.size w w8 := HB5.out.trans (hc8.below (fun i e => by have := (ownsRow_lt HX5.out.rw i e).1; have := HW2.out; omega) HB5.out.size)
  obtain ⟨x0, x1, x2, x3, x4, xf⟩ := cells5 hn81
  refine wpAnyF_do (i := 9) (by kernel_rfl) rfl rfl (fun K hK => ?_)
  go_simp
  refine hK _ _ (fun _ => hc8) ?_
  clear hK K
  try simp only [Act.put, List.setIfInBounds_toArray, List.set_cons_zero, List.set_cons_succ]
  refine wpAnyF_do (i := 10) (by kernel_rfl) rfl rfl (fun K hK => ?_)
  go_simp
  refine hK _ _ (fun h => absurd rfl h) ?_
  clear hK K
  refine wpAnyF_done (by kernel_rfl) ?_ _
  refine NoPanic.normal ?_
  obtain ⟨w9, hw9⟩ : ∃ w9, w8.setCell ⟨w.heap.size, 1, none⟩ (.slice (some ⟨gg, 0, none⟩) (S.pend.length + 1) capg) = w9 := ⟨_, rfl⟩
  have hc9 : Chg (fun i => i = w.heap.size) w8 w9 := hw9 ▸ Chg.setCell (F := fun i => i = w.heap.size) w8 _ rfl
  have hn91 : w9.heap[w.heap.size]? = some (.cells #[.slice ad' S.dur.length cd', .slice (some ⟨gg, 0, none⟩) (S.pend.length + 1) capg, .int .i64 (limI S.operate.1), .bool S.operate.1.down, .int .i64 (S.operate.1.ops : Int)] 45 (0, 0)) := by
    rw [← hw9, heap_setCell_same _ _ _ _ _ _ hn81]; rfl
  have hn92 : w9.heap[w.heap.size + 1]? = _ := (hc9.block _ (by have := HBX.out.2.2.1; omega) (by omega)).trans hn82
  have hb29 : Below w.heap.size w w9 := hb28.trans (hc9.below (fun i e => by omega) hb28.size)
  have hX9 := hX8.chg hc9 (fun i h e => by have := HW2.out; omega)
  rw [hw9]
  clear hw9 hn81 hn82 hbox8 hres8 x0 x1 x2 x3 x4 xf hX8 hX7 ho8 ho3 hc78 hown8 hgrow8 hat8 hlt8 hn7 hb7 hw7 hS1 hS2 hb57 ho2 hb6 hg1 hg2 hc8 hS0 hc9 hb28
  obtain ⟨x0, x1, x2, x3, x4, xf⟩ := cells5 hn91
  obtain ⟨y0, y1, y2, y3, y4, yf⟩ := cells5 hn92
  have hfin := put5_heap hn92 (.slice ad' S.dur.length cd') (.slice (some ⟨gg, 0, none⟩) (S.pend.length + 1) capg) (.int .i64 (limI S.operate.1)) (.bool S.operate.1.down) (.int .i64 (S.operate.1.ops : Int))
  have hcf := put5_chg w9 (w.heap.size + 1) (.slice ad' S.dur.length cd') (.slice (some ⟨gg, 0, none⟩) (S.pend.length + 1) capg) (.int .i64 (limI S.operate.1)) (.bool S.operate.1.down) (.int .i64 (S.operate.1.ops : Int))
  have hXf := hX9.chg hcf (fun i h e => by have := HW2.out; omega)
  have hbf := hb29.trans (hcf.below (fun i e => by omega) hb29.size)
  have HXF := Lib.hid hXf
  have HBF := Lib.hid hbf
  have HFIN := Lib.hid hfin
  clear hfin hcf hXf hbf hX9 hb29 hn91 hn92
  go_wp2_with fail
  exact bodyPost_ret (results_cell_tmp_row (g := w.heap.size + 1) rfl _ _ _ _ _ _ rfl HFIN.out Try.underlying45 rfl infoD) rfl ⟨_, rfl, ⟨_, _, D, _, rfl, HXF.out.base (by have := HW2.out; omega)⟩, HBF.out⟩

end Go.Proofs.Ytkklbmnbjmicnaa
