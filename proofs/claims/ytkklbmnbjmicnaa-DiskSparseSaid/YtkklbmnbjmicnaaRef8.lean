/- The reference: Flush. -/
import Derived.Test.YtkklbmnbjmicnaaRef7
namespace Go.Proofs.Ytkklbmnbjmicnaa
open Go.RowKit Go.Shelf
set_option linter.unusedVariables false
set_option linter.unusedSimpArgs false

/-- The device when the first k sectors have been flushed. -/
def DS.flushAt (S : DS) (k : Nat) : DS := { S.operate.1 with dur := ((List.range S.dur.length).map S.visible).take k ++ S.dur.drop k }
theorem flushAt_len (S : DS) (k : Nat) : (S.flushAt k).dur.length = S.dur.length := by
  simp only [DS.flushAt, List.length_append, List.length_take, List.length_map, List.length_range, List.length_drop]; omega
theorem flushAt_pend (S : DS) (k : Nat) : (S.flushAt k).pend = S.pend := (operate_pend S).1
theorem flushAt_at (S : DS) (k : Nat) (hk : k < S.dur.length) : (S.flushAt k).dur.getD k zeros = S.dur.getD k zeros := by
  have hl : (((List.range S.dur.length).map S.visible).take k).length = k := by simp; omega
  simp only [DS.flushAt, List.getD_eq_getElem?_getD]
  rw [List.getElem?_append_right (by omega), hl, Nat.sub_self, List.getElem?_drop, Nat.add_zero]
theorem flushAt_vis (S : DS) (k : Nat) (hk : k < S.dur.length) : (S.flushAt k).visible k = S.visible k := by
  unfold DS.visible
  rw [flushAt_pend, flushAt_at S k hk]
theorem flushAt_ok {S : DS} (h : S.ok) (k : Nat) : (S.flushAt k).ok := by
  refine ⟨fun x hx => ?_, fun x hx => ?_, by rw [flushAt_len]; exact h.most⟩
  · rcases List.mem_append.1 hx with hx | hx
    · obtain ⟨i, hi, rfl⟩ := List.mem_map.1 (List.mem_of_mem_take hx)
      exact visible_length h (List.mem_range.1 hi)
    · exact h.dur _ (List.mem_of_mem_drop hx)
  · rw [flushAt_pend] at hx
    rw [flushAt_len]
    exact h.pend x hx
theorem RefOwnX.flush0 {w : World} {B : Nat} {S : DS} {dv wv : Value} {D : List (List UInt8 × Value)} {L : List (Nat × List UInt8 × Value)} (h : RefOwnX w B S dv wv D L) : RefOwnX w B (S.flushAt 0) dv wv D L := by
  have e : (S.flushAt 0).dur = S.dur := by simp [DS.flushAt]
  exact ⟨h.dur.trans e.symm, h.pend.trans (flushAt_pend S 0).symm, by rw [e]; exact h.rd, by rw [flushAt_pend]; exact h.rw, h.rows⟩
theorem flushAt_succ (S : DS) (k : Nat) (hk : k < S.dur.length) : (S.flushAt k).dur.set k (S.visible k) = (S.flushAt (k + 1)).dur := by
  simp only [DS.flushAt]
  apply List.ext_getElem?
  intro i
  rw [List.getElem?_set]
  simp only [List.length_append, List.length_take, List.length_map, List.length_range, List.length_drop, List.getElem?_append, List.getElem?_take, List.getElem?_map, List.getElem?_drop]
  by_cases h1 : k = i
  · subst h1
    rw [if_pos rfl, if_pos (by omega), if_pos (by omega), if_pos (by omega)]
    simp [hk]
  · rw [if_neg h1]
    by_cases h2 : i < k
    · rw [if_pos (by omega), if_pos h2, if_pos (by omega), if_pos (by omega)]
    · rw [if_neg (by omega), if_neg (by omega)]
      congr 1
      omega
theorem fdur_vis (S : DS) : ∀ k, k ≤ S.pend.length → (∀ x ∈ S.pend, x.1 < S.dur.length) → fdur S k = (List.range S.dur.length).map (fun s => (visP (S.pend.take k) s).getD (S.dur.getD s zeros))
  | 0, _, _ => by
    apply List.ext_getElem?
    intro i
    simp only [fdur, rdur, List.take_zero, List.getElem?_map]
    by_cases hi : i < S.dur.length
    · simp [hi, visP]
    · simp [hi]
  | k + 1, hk, hp => by
    rw [fdur_succ S k (by omega), fdur_vis S k (by omega) hp]
    apply List.ext_getElem?
    intro i
    have hpk := hp S.pend[k] (List.getElem_mem _)
    rw [List.getElem?_set]
    simp only [List.length_map, List.length_range, List.getElem?_map]
    by_cases hi : i < S.dur.length
    · rw [List.getElem?_range hi]
      simp only [Option.map_some]
      rw [visP_succ _ _ _ (by omega)]
      by_cases h1 : S.pend[k].1 = i
      · subst h1; simp [hi]
      · simp [h1]
    · have h1 : S.pend[k].1 ≠ i := by omega
      simp [hi, h1]
theorem flushAt_end {S : DS} (h : S.ok) : (S.flushAt S.dur.length).dur = fdur S S.pend.length := by
  rw [fdur_vis S _ (Nat.le_refl _) (fun x hx => (h.pend x hx).1)]
  simp only [DS.flushAt, List.drop_length, List.append_nil, List.take_length]
  rw [List.take_of_length_le (by simp)]
  rfl

theorem ownsRow_set {w : World} {B g n cap : Nat} {T : TypeId} {xs : List Value} (h : w.ownsRow B T 1 (.slice (some ⟨g, 0, none⟩) n cap) n xs) {i : Nat} (u : Value) :
    (w.setCell ⟨g, i, none⟩ u).ownsRow B T 1 (.slice (some ⟨g, 0, none⟩) n cap) n (xs.set i u) := by
  refine ⟨by rw [List.length_set]; exact h.1, .inr ?_⟩
  rcases h.2 with ⟨e, _⟩ | ⟨g', cap', cur, e, hb, hg, h1, h2, h3, h4⟩
  · cases e
  · simp only [Value.slice.injEq, Option.some.injEq, Addr.mk.injEq] at e
    obtain ⟨⟨rfl, _⟩, _, rfl⟩ := e
    exact ⟨g, cap, _, rfl, hb, heap_setCell_same _ _ _ _ _ _ hg, h1, h2, by simpa using h3, by rw [Array.toList_setIfInBounds, List.take_set, h4]⟩
theorem nodup_set {α : Type} {a : α} : ∀ {l : List α} {i : Nat}, l.Nodup → a ∉ l → (l.set i a).Nodup
  | [], _, _, _ => by simp
  | b :: l, 0, h, ha => by
    simp only [List.set_cons_zero, List.nodup_cons] at h ⊢
    exact ⟨fun hm => ha (List.mem_cons_of_mem _ hm), h.2⟩
  | b :: l, i + 1, h, ha => by
    simp only [List.set_cons_succ, List.nodup_cons] at h ⊢
    refine ⟨fun hm => ?_, nodup_set h.2 (fun hm => ha (List.mem_cons_of_mem _ hm))⟩
    rcases List.mem_or_eq_of_mem_set hm with h1 | h1
    · exact h.1 h1
    · exact ha (by rw [h1]; simp)
theorem rows_lt {w : World} {B : Nat} {D : List (List UInt8 × Value)} (h : Rows w B D) {x : List UInt8 × Value} (hx : x ∈ D) (g : Nat) (e : x.2.ownBlock = some g) : g < w.heap.size := by
  obtain ⟨_, g', cap, _, hr⟩ := h.row x hx
  exact (ownsRow_lt hr g e).2
theorem Rows.setL {w : World} {B : Nat} {D L : List (List UInt8 × Value)} (h : Rows w B (D ++ L)) {k : Nat} {l : List UInt8} {u : Value} (hl : l.length = 256) (hu : ∃ g cap, u = .slice (some ⟨g, 0, none⟩) 256 cap) (hr : w.ownsRow B 5 1 u 256 (bvs l))
    (hn : ∀ x ∈ D ++ L, x.2.ownBlock ≠ u.ownBlock) : Rows w B (D.set k (l, u) ++ L) := by
  refine ⟨fun x hx => ?_, ?_⟩
  · rcases List.mem_append.1 hx with hx | hx
    · rcases List.mem_or_eq_of_mem_set hx with h1 | h1
      · exact h.row x (List.mem_append.2 (.inl h1))
      · subst h1
        obtain ⟨g, cap, e⟩ := hu
        exact ⟨hl, g, cap, e, hr⟩
    · exact h.row x (List.mem_append.2 (.inr hx))
  · have h1 := h.nodup
    rw [List.map_append] at h1 ⊢
    by_cases hk : k < D.length
    · have e : (D.set k (l, u)).map (fun x => x.2.ownBlock) ++ L.map (fun x => x.2.ownBlock) = (D.map (fun x => x.2.ownBlock) ++ L.map (fun x => x.2.ownBlock)).set k u.ownBlock := by
        rw [List.map_set, List.set_append_left _ _ (by simpa using hk)]
      rw [e]
      refine nodup_set h1 (fun hm => ?_)
      rw [← List.map_append] at hm
      obtain ⟨x, hx, e⟩ := List.mem_map.1 hm
      exact hn x hx e
    · rw [List.set_eq_of_length_le (by omega)]
      exact h1
/-- A sector's slice is replaced by that of new bytes. -/
theorem RefOwnX.setDur {w : World} {B B' : Nat} {S : DS} {gd n cd : Nat} {wv : Value} {D : List (List UInt8 × Value)} {L : List (Nat × List UInt8 × Value)} (h : RefOwnX w B S (.slice (some ⟨gd, 0, none⟩) n cd) wv D L) {k : Nat} {l l' : List UInt8} {u : Value} (hk : k < S.dur.length)
    (hu : w.ownsRow B' 5 1 u 256 (bvs l')) (hll : l' = l) (hl : l.length = 256) (hB : B ≤ B') (hn : ∀ x ∈ D ++ L.map (·.2), x.2.ownBlock ≠ u.ownBlock) :
    RefOwnX (w.setCell ⟨gd, k, none⟩ u) B { S with dur := S.dur.set k l } (.slice (some ⟨gd, 0, none⟩) n cd) wv (D.set k (l, u)) L ∧ (∃ c, w.cell? ⟨gd, k, none⟩ = some c) ∧ w.frozen? ⟨gd, k, none⟩ = false := by
  subst hll
  have hne : n = S.dur.length := by
    rcases h.rd.2 with ⟨e, _⟩ | ⟨g', cap', cur, e, _⟩
    · cases e
    · simp only [Value.slice.injEq] at e; exact e.2.1
  subst hne
  have hu1 : ∃ g cap, u = .slice (some ⟨g, 0, none⟩) 256 cap := by
    rcases hu.2 with ⟨_, e⟩ | ⟨g', cap', cur, e, _⟩
    · cases e
    · exact ⟨g', cap', e⟩
  have hc : Chg (fun i => i = gd) w (w.setCell ⟨gd, k, none⟩ u) := Chg.setCell (F := fun i => i = gd) w _ rfl
  have hgd : (Value.slice (some ⟨gd, 0, none⟩) S.dur.length cd).ownBlock = some gd := rfl
  refine ⟨⟨?_, h.pend, ?_, ?_, ?_⟩, ?_, ?_⟩
  · rw [List.map_set, h.dur]
  · have := ownsRow_set h.rd (i := k) u
    rw [List.map_set]
    show World.ownsRow _ _ _ _ _ (S.dur.set k l').length _
    rw [List.length_set]
    exact this
  · exact ownsRow_chg' h.rw hc (fun i e e3 => ownsRow_ne h.rd h.rw (by decide) i (by rw [e3]; rfl) e)
  · refine (h.rows.kept hc (fun x hx i e e3 => ?_)).setL hl hu1 (ownsRow_base (ownsRow_chg' hu hc (fun i e e3 => ?_)) hB) hn
    · obtain ⟨_, g, cap, _, hr⟩ := h.rows.row x hx
      exact ownsRow_ne h.rd hr (by decide) i (by rw [e3]; rfl) e
    · exact ownsRow_ne h.rd hu (by decide) i (by rw [e3]; rfl) e
  · have hlD : D.length = S.dur.length := by rw [← h.dur, List.length_map]
    obtain ⟨g, cap, e, _, _, hcc⟩ := ownsRow_at h.rd (by omega)
    simp only [Value.slice.injEq, Option.some.injEq, Addr.mk.injEq] at e
    obtain ⟨⟨rfl, _⟩, _, rfl⟩ := e
    exact ⟨_, hcc k _ (by rw [List.getElem?_map, List.getElem?_eq_getElem (by omega)]; rfl)⟩
  · rcases h.rd.2 with ⟨e, _⟩ | ⟨g', cap', cur, e, _, hg, _⟩
    · cases e
    · simp only [Value.slice.injEq, Option.some.injEq, Addr.mk.injEq] at e
      obtain ⟨⟨rfl, _⟩, _, rfl⟩ := e
      exact frozen_of_row w _ _ _ _ hg

theorem RefOwnX.noPend {w : World} {B : Nat} {S : DS} {dv wv : Value} {D : List (List UInt8 × Value)} {L : List (Nat × List UInt8 × Value)} (h : RefOwnX w B S dv wv D L) : RefOwnX w B { S with pend := [] } dv (.slice none 0 0) D [] := by
  refine ⟨h.dur, rfl, h.rd, World.ownsRow_nil _ _ _ _, ⟨fun x hx => h.rows.row x (List.mem_append.2 (.inl (by simpa using hx))), ?_⟩⟩
  have := h.rows.nodup
  rw [List.map_append] at this
  simpa using (List.nodup_append.1 this).1

set_option maxRecDepth 100000 in
set_option maxHeartbeats 2000000 in
theorem ref_flush_lim {w : World} {G : Nat → Prop} {S : DS} {v : Value} (h : RefAt w G S v) (hok : S.ok) (hd : S.down = false) (hop : S.operate.2 = false)
    (hlen : S.pend.length < 100000000) (hops : S.ops < 1000000000000) (hlim : S.limit.getD 0 ≤ 9223372036854775807) :
    Calls Try.prog 30 #[v] w fun e w' => ∃ v', e = .returned (.tuple #[v', .int .i64 S.flush.2]) ∧ RefOwn w' w.heap.size S.flush.1 v' ∧ Below w.heap.size w w' := by
  have HH := Lib.hid h
  have HOK := Lib.hid hok
  have hwr : S.flush = (S.operate.1, 28) := by simp [DS.flush, hd, hop]
  rw [hwr]
  have HOP := Lib.hid hop
  clear hop
  obtain ⟨dv, wv, rfl, hdu, hw⟩ := h
  obtain ⟨ad, capd, rfl⟩ := hdu.len
  obtain ⟨aw, capw, rfl⟩ := hw.len
  clear hdu hw hwr hok
  unfold refV at HH ⊢
  rw [hd] at HH ⊢
  have hf := front w S (.slice ad S.dur.length capd) (.slice aw S.pend.length capw)
  rw [hd] at hf
  obtain ⟨w1, hw1⟩ : ∃ w1, (w.alloc (.cells #[.slice ad S.dur.length capd, .slice aw S.pend.length capw, .int .i64 (limI S), .bool false, .int .i64 (S.ops : Int)] 45)).alloc (.cells #[.slice none 0 0, .slice none 0 0, .int .i64 0, .bool false, .int .i64 0] 45) = w1 := ⟨_, rfl⟩
  rw [hw1] at hf
  obtain ⟨n1, n2, hb⟩ := hf.below (Below.refl _ _)
  rw [hd] at n1
  obtain ⟨c0, c1, c2, c3, c4, cf⟩ := cells5 n1
  have HF := Lib.hid hf
  have HD := Lib.hid hd
  clear hf n1 n2 hb hd
  go_enter Try.func30, Try.ntmps30
  go_wp2_with fail
  clear hw1
  have hR2 : RefAt w1 G S (refV S (.slice ad S.dur.length capd) (.slice aw S.pend.length capw)) := by unfold refV; rw [HD.out]; exact HH.out.below HF.out.b1
  unfold refV at hR2
  rw [HD.out] at hR2
  refine (ref_copy hR2 HOK.out hlen).mono ?_
  rintro e w3 ⟨v3, rfl, ⟨dv', wv', D, L, rfl, hX3⟩, hb3⟩
  obtain ⟨⟨ad', cd', rfl⟩, ⟨aw', cw', rfl⟩⟩ := hX3.slices
  have HX3 := Lib.hid hX3
  have HB3 := Lib.hid hb3
  clear hX3 hb3 hR2 c0 c1 c2 c3 c4 cf
  go_wp2_with fail
  refine (ref_counted ad' aw' _ _ cd' cw' hops hlim).mono ?_
  rw [HOP.out]
  rintro e w4 ⟨rfl, hb4⟩
  unfold refV
  have hb14 : Below w1.heap.size w1 w4 := HB3.out.trans (hb4.mono HB3.out.size)
  have n1 := (HF.out.below hb14).1
  have n2 := (HF.out.below hb14).2.1
  have hbw4 := (HF.out.below hb14).2.2
  obtain ⟨c0, c1, c2, c3, c4, cf⟩ := cells5 n1
  have hs1 := HF.out.s1
  have hn5 := put5_heap n1 (.slice ad' S.dur.length cd') (.slice aw' S.pend.length cw') (.int .i64 (limI S.operate.1)) (.bool S.operate.1.down) (.int .i64 (S.operate.1.ops : Int))
  have hc5 := put5_chg w4 w.heap.size (.slice ad' S.dur.length cd') (.slice aw' S.pend.length cw') (.int .i64 (limI S.operate.1)) (.bool S.operate.1.down) (.int .i64 (S.operate.1.ops : Int))
  have hw2s : w.heap.size + 2 ≤ w1.heap.size := by omega
  obtain ⟨w5, hw5⟩ : ∃ w5, put5 w4 w.heap.size (.slice ad' S.dur.length cd') (.slice aw' S.pend.length cw') (.int .i64 (limI S.operate.1)) (.bool S.operate.1.down) (.int .i64 (S.operate.1.ops : Int)) = w5 := ⟨_, rfl⟩
  rw [hw5] at hn5 hc5
  have hn52 : w5.heap[w.heap.size + 1]? = _ := (hc5.block _ (by have := HB3.out.size; have := hb4.size; omega) (by omega)).trans n2
  have hbw5 : Below w.heap.size w w5 := hbw4.trans (hc5.below (fun i e => by omega) hbw4.size)
  have hX5 : RefOwnX w5 w1.heap.size S (.slice ad' S.dur.length cd') (.slice aw' S.pend.length cw') D L :=
    (HX3.out.chg (G := fun _ => False) (Chg.of_below hb4) (fun _ _ h => h)).chg hc5 (fun i h e => by omega)
  have hw25 : w1.heap.size ≤ w5.heap.size := by have := HB3.out.size; have := hb4.size; have := hc5.size; omega
  have HN1 := Lib.hid hn5
  have HN2 := Lib.hid hn52
  have HB5 := Lib.hid hbw5
  have HX5 := Lib.hid hX5
  have HW2 := Lib.hid hw2s
  have HW25 := Lib.hid hw25
  have HW5 := Lib.hid hw5
  unfold put5 at hw5
  clear hb4 hb14 n1 n2 hbw4 hn5 hn52 hbw5 hX5 hw2s hw25 hs1
  have hbx : w.heap.size < w5.heap.size ∧ (Value.slice aw' S.pend.length cw').ownBlock ≠ some w.heap.size ∧ w.heap.size + 1 < w5.heap.size ∧ (Value.slice aw' S.pend.length cw').ownBlock ≠ some (w.heap.size + 1) := by
    have h1 := HW2.out
    have h2 := HW25.out
    refine ⟨by omega, fun e => ?_, by omega, fun e => ?_⟩
    · have := (ownsRow_lt HX5.out.rw _ e).1; omega
    · have := (ownsRow_lt HX5.out.rw _ e).1; omega
  have hbox : ∀ wx, Chg (fun i => (Value.slice aw' S.pend.length cw').ownBlock = some i) w5 wx → wx.cell? ⟨w.heap.size, 1, none⟩ = some (.slice aw' S.pend.length cw') := fun wx hc => by
    have h1 := (hc.block _ hbx.1 hbx.2.1).trans HN1.out
    exact (cells5 h1).2.1
  have HBX := Lib.hid hbx
  have HBOX := Lib.hid hbox
  clear hbx hbox
  obtain ⟨x0, x1, x2, x3, x4, xf⟩ := cells5 HN1.out
  obtain ⟨y0, y1, y2, y3, y4, yf⟩ := cells5 HN2.out
  simp only [Bool.not_false, Bool.not_true]
  have hfin := put5_heap HN2.out (.slice ad' S.dur.length cd') (.slice aw' S.pend.length cw') (.int .i64 (limI S.operate.1)) (.bool S.operate.1.down) (.int .i64 (S.operate.1.ops : Int))
  have hcf := put5_chg w5 (w.heap.size + 1) (.slice ad' S.dur.length cd') (.slice aw' S.pend.length cw') (.int .i64 (limI S.operate.1)) (.bool S.operate.1.down) (.int .i64 (S.operate.1.ops : Int))
  have hXf := HX5.out.operate.chg hcf (fun i h e => by have := HW2.out; omega)
  have hbf := HB5.out.trans (hcf.below (fun i e => by omega) HB5.out.size)
  have HXF := Lib.hid hXf
  have HBF := Lib.hid hbf
  have HFIN := Lib.hid hfin
  clear hfin hcf hXf hbf
  go_wp2_with fail
  exact bodyPost_ret (results_cell_tmp_row (g := w.heap.size + 1) rfl _ _ _ _ _ _ rfl HFIN.out Try.underlying45 rfl infoD) rfl ⟨_, rfl, ⟨_, _, D, _, rfl, HXF.out.base (by have := HW2.out; omega)⟩, HBF.out⟩

set_option maxRecDepth 100000 in
set_option maxHeartbeats 2000000 in
theorem ref_flush_do {w : World} {G : Nat → Prop} {S : DS} {v : Value} (h : RefAt w G S v) (hok : S.ok) (hd : S.down = false) (hop : S.operate.2 = true)
    (hlen : S.pend.length < 100000000) (hops : S.ops < 1000000000000) (hlim : S.limit.getD 0 ≤ 9223372036854775807) :
    Calls Try.prog 30 #[v] w fun e w' => ∃ v', e = .returned (.tuple #[v', .int .i64 S.flush.2]) ∧ RefOwn w' w.heap.size S.flush.1 v' ∧ Below w.heap.size w w' := by
  have HH := Lib.hid h
  have HOK := Lib.hid hok
  have hwr : S.flush = ({ S.operate.1 with dur := fdur S S.pend.length, pend := [] }, 0) := by simp [DS.flush, hd, hop]
  rw [hwr]
  have HOP := Lib.hid hop
  clear hop
  obtain ⟨dv, wv, rfl, hdu, hw⟩ := h
  obtain ⟨ad, capd, rfl⟩ := hdu.len
  obtain ⟨aw, capw, rfl⟩ := hw.len
  clear hdu hw hwr hok
  unfold refV at HH ⊢
  rw [hd] at HH ⊢
  have hf := front w S (.slice ad S.dur.length capd) (.slice aw S.pend.length capw)
  rw [hd] at hf
  obtain ⟨w1, hw1⟩ : ∃ w1, (w.alloc (.cells #[.slice ad S.dur.length capd, .slice aw S.pend.length capw, .int .i64 (limI S), .bool false, .int .i64 (S.ops : Int)] 45)).alloc (.cells #[.slice none 0 0, .slice none 0 0, .int .i64 0, .bool false, .int .i64 0] 45) = w1 := ⟨_, rfl⟩
  rw [hw1] at hf
  obtain ⟨n1, n2, hb⟩ := hf.below (Below.refl _ _)
  rw [hd] at n1
  obtain ⟨c0, c1, c2, c3, c4, cf⟩ := cells5 n1
  have HF := Lib.hid hf
  have HD := Lib.hid hd
  clear hf n1 n2 hb hd
  go_enter Try.func30, Try.ntmps30
  go_wp2_with fail
  clear hw1
  have hR2 : RefAt w1 G S (refV S (.slice ad S.dur.length capd) (.slice aw S.pend.length capw)) := by unfold refV; rw [HD.out]; exact HH.out.below HF.out.b1
  unfold refV at hR2
  rw [HD.out] at hR2
  refine (ref_copy hR2 HOK.out hlen).mono ?_
  rintro e w3 ⟨v3, rfl, ⟨dv', wv', D, L, rfl, hX3⟩, hb3⟩
  obtain ⟨⟨ad', cd', rfl⟩, ⟨aw', cw', rfl⟩⟩ := hX3.slices
  have HX3 := Lib.hid hX3
  have HB3 := Lib.hid hb3
  clear hX3 hb3 hR2 c0 c1 c2 c3 c4 cf
  go_wp2_with fail
  refine (ref_counted ad' aw' _ _ cd' cw' hops hlim).mono ?_
  rw [HOP.out]
  rintro e w4 ⟨rfl, hb4⟩
  unfold refV
  have hb14 : Below w1.heap.size w1 w4 := HB3.out.trans (hb4.mono HB3.out.size)
  have n1 := (HF.out.below hb14).1
  have n2 := (HF.out.below hb14).2.1
  have hbw4 := (HF.out.below hb14).2.2
  obtain ⟨c0, c1, c2, c3, c4, cf⟩ := cells5 n1
  have hs1 := HF.out.s1
  have hn5 := put5_heap n1 (.slice ad' S.dur.length cd') (.slice aw' S.pend.length cw') (.int .i64 (limI S.operate.1)) (.bool S.operate.1.down) (.int .i64 (S.operate.1.ops : Int))
  have hc5 := put5_chg w4 w.heap.size (.slice ad' S.dur.length cd') (.slice aw' S.pend.length cw') (.int .i64 (limI S.operate.1)) (.bool S.operate.1.down) (.int .i64 (S.operate.1.ops : Int))
  have hw2s : w.heap.size + 2 ≤ w1.heap.size := by omega
  obtain ⟨w5, hw5⟩ : ∃ w5, put5 w4 w.heap.size (.slice ad' S.dur.length cd') (.slice aw' S.pend.length cw') (.int .i64 (limI S.operate.1)) (.bool S.operate.1.down) (.int .i64 (S.operate.1.ops : Int)) = w5 := ⟨_, rfl⟩
  rw [hw5] at hn5 hc5
  have hn52 : w5.heap[w.heap.size + 1]? = _ := (hc5.block _ (by have := HB3.out.size; have := hb4.size; omega) (by omega)).trans n2
  have hbw5 : Below w.heap.size w w5 := hbw4.trans (hc5.below (fun i e => by omega) hbw4.size)
  have hX5 : RefOwnX w5 w1.heap.size S (.slice ad' S.dur.length cd') (.slice aw' S.pend.length cw') D L :=
    (HX3.out.chg (G := fun _ => False) (Chg.of_below hb4) (fun _ _ h => h)).chg hc5 (fun i h e => by omega)
  have hw25 : w1.heap.size ≤ w5.heap.size := by have := HB3.out.size; have := hb4.size; have := hc5.size; omega
  have HN1 := Lib.hid hn5
  have HN2 := Lib.hid hn52
  have HB5 := Lib.hid hbw5
  have HX5 := Lib.hid hX5
  have HW2 := Lib.hid hw2s
  have HW25 := Lib.hid hw25
  have HW5 := Lib.hid hw5
  unfold put5 at hw5
  clear hb4 hb14 n1 n2 hbw4 hn5 hn52 hbw5 hX5 hw2s hw25 hs1
  have hbx : w.heap.size < w5.heap.size ∧ (Value.slice aw' S.pend.length cw').ownBlock ≠ some w.heap.size ∧ w.heap.size + 1 < w5.heap.size ∧ (Value.slice aw' S.pend.length cw').ownBlock ≠ some (w.heap.size + 1) := by
    have h1 := HW2.out
    have h2 := HW25.out
    refine ⟨by omega, fun e => ?_, by omega, fun e => ?_⟩
    · have := (ownsRow_lt HX5.out.rw _ e).1; omega
    · have := (ownsRow_lt HX5.out.rw _ e).1; omega
  have hbox : ∀ wx, Chg (fun i => (Value.slice aw' S.pend.length cw').ownBlock = some i) w5 wx → wx.cell? ⟨w.heap.size, 1, none⟩ = some (.slice aw' S.pend.length cw') := fun wx hc => by
    have h1 := (hc.block _ hbx.1 hbx.2.1).trans HN1.out
    exact (cells5 h1).2.1
  have HBX := Lib.hid hbx
  have HBOX := Lib.hid hbox
  clear hbx hbox
  obtain ⟨x0, x1, x2, x3, x4, xf⟩ := cells5 HN1.out
  obtain ⟨y0, y1, y2, y3, y4, yf⟩ := cells5 HN2.out
  simp only [Bool.not_false, Bool.not_true]
  clear HBOX HBX
  have hlenk : (S.flushAt 0).pend.length < 100000000 := by rw [flushAt_pend]; exact hlen
  have hX0 : RefOwnX w5 w1.heap.size (S.flushAt 0) (.slice ad' S.dur.length cd') (.slice aw' S.pend.length cw') D L := HX5.out.flush0
  have HX0 := Lib.hid hX0
  clear hX0 hlenk
  go_wp2_with fail
  clear hw5 x0 x1 x2 x3 x4 xf y0 y1 y2 y3 y4 yf
  go_loopw [5] (fun i wr => ∃ (k : Nat) (D : List (List UInt8 × Value)), k ≤ S.dur.length ∧ i = .int .i64 (k : Int) ∧ wr.heap[w.heap.size]? = some (.cells #[.slice ad' S.dur.length cd', .slice aw' S.pend.length cw', .int .i64 (limI S.operate.1), .bool S.operate.1.down, .int .i64 (S.operate.1.ops : Int)] 45 (0, 0)) ∧
      wr.heap[w.heap.size + 1]? = some (.cells #[.slice none 0 0, .slice none 0 0, .int .i64 0, .bool false, .int .i64 0] 45 (0, 0)) ∧ RefOwnX wr w1.heap.size (S.flushAt k) (.slice ad' S.dur.length cd') (.slice aw' S.pend.length cw') D L ∧ Below w.heap.size w wr)
    (fun i _ => S.dur.length - (intOf i).toNat)
  case atStart => exact ⟨0, D, Nat.zero_le _, rfl, HN1.out, HN2.out, HX0.out, HB5.out⟩
  case round =>
    clear HN1 HN2 HX0 HB5 HX5 HW25 HW5
    obtain ⟨k, D, hk, rfl, hn, hn2, hX, hB⟩ := hrel
    obtain ⟨x0, x1, x2, x3, x4, xf⟩ := cells5 hn
    have hlt1 : w.heap.size < wr.heap.size := (Array.getElem?_eq_some_iff.1 hn).1
    have hlt2 : w.heap.size + 1 < wr.heap.size := (Array.getElem?_eq_some_iff.1 hn2).1
    have hbl : w1.heap.size ≤ wr.heap.size := by have := HF.out.s1; omega
    have HN := Lib.hid hn
    have HN2 := Lib.hid hn2
    have HX := Lib.hid hX
    have HB := Lib.hid hB
    have HLT := Lib.hid hlt1
    have HLT2 := Lib.hid hlt2
    have HBL := Lib.hid hbl
    clear hn hn2 hX hB hlt1 hlt2 hbl
    by_cases hltn : k < S.dur.length
    · obtain ⟨gd, rfl⟩ : ∃ gd, ad' = some ⟨gd, 0, none⟩ := by
        have := HX.out.rd
        rw [flushAt_len] at this
        rcases this.2 with ⟨_, h0⟩ | ⟨g, cap, cur, e, _⟩
        · omega
        · simp only [Value.slice.injEq] at e
          exact ⟨g, e.1⟩
      have hlenk : (S.flushAt k).pend.length < 100000000 := by rw [flushAt_pend]; exact hlen
      have hRd : RefAt wr.drew (fun j => w1.heap.size ≤ j) (S.flushAt k) (.agg #[.slice (some ⟨gd, 0, none⟩) S.dur.length cd', .slice aw' S.pend.length cw', .int .i64 (limI S.operate.1), .bool S.operate.1.down, .int .i64 (S.operate.1.ops : Int)]) := by
        have h1 : RefAt wr (fun j => w1.heap.size ≤ j) (S.flushAt k) (refV (S.flushAt k) (.slice (some ⟨gd, 0, none⟩) S.dur.length cd') (.slice aw' S.pend.length cw')) := RefOwn.at ⟨_, _, D, L, rfl, HX.out⟩
        exact h1.kept ((Chg.refl (fun _ => False) wr).drew) (fun _ _ h => h)
      have HRD := Lib.hid hRd
      have hkb : k < 4096 := by have := HOK.out.most; omega
      clear hRd
      go_wp2_with fail
      clear x0 x1 x2 x3 x4 xf
      have hRd := HRD.out
      refine wp_region_noPanic ?_
      refine wp_region_F 7 (fun w' => w'.heap[w.heap.size]? = some (.cells #[.slice (some ⟨gd, 0, none⟩) S.dur.length cd', .slice aw' S.pend.length cw', .int .i64 (limI S.operate.1), .bool S.operate.1.down, .int .i64 (S.operate.1.ops : Int)] 45 (0, 0))) (by kernel_rfl) ?_
      have hS0 : (fun w' => w'.heap[w.heap.size]? = some (.cells #[.slice (some ⟨gd, 0, none⟩) S.dur.length cd', .slice aw' S.pend.length cw', .int .i64 (limI S.operate.1), .bool S.operate.1.down, .int .i64 (S.operate.1.ops : Int)] 45 (0, 0))) wr.drew := HN.out
      refine wpAnyF_take (i := 0) (fin := 7) (v := ?v1) rfl (by kernel_rfl) (by kernel_rfl) (by kernel_rfl) (by kernel_rfl) (fun _ _ _ h => h) (yieldsIf_run rfl (fun w' hw' => ?y1)) hS0 ?_
      case y1 => first | (go_simp; rfl) | (go_simp; done) | rfl
      simp only [Act.put, List.setIfInBounds_toArray, List.set_cons_zero, List.set_cons_succ]
      refine wpAnyF_take (i := 1) (fin := 7) (v := ?v2) rfl (by kernel_rfl) (by kernel_rfl) (by kernel_rfl) (by kernel_rfl) (fun _ _ _ h => h) (yieldsIf_run rfl (fun w' hw' => ?y2)) hS0 ?_
      case y2 => (obtain ⟨h0, h1, h2, h3, h4, _⟩ := cells5 hw'; clear hw'; first | (go_simp; rfl) | (go_simp; done))
      simp only [Act.put, List.setIfInBounds_toArray, List.set_cons_zero, List.set_cons_succ]
      refine wpAnyF_take (i := 2) (fin := 7) (v := ?v3) rfl (by kernel_rfl) (by kernel_rfl) (by kernel_rfl) (by kernel_rfl) (fun _ _ _ h => h) (yieldsIf_run rfl (fun w' hw' => ?y3)) hS0 ?_
      case y3 => first | (go_simp; rfl) | (go_simp; done) | rfl
      simp only [Act.put, List.setIfInBounds_toArray, List.set_cons_zero, List.set_cons_succ]
      refine wpAnyF_take (i := 3) (fin := 7) (v := ?v4) rfl (by kernel_rfl) (by kernel_rfl) (by kernel_rfl) (by kernel_rfl) (fun _ _ _ h => h) (yieldsIf_run rfl (fun w' hw' => ?y4)) hS0 ?_
      case y4 => (obtain ⟨h0, h1, h2, h3, h4, _⟩ := cells5 hw'; clear hw'; first | (go_simp; rfl) | (go_simp; done))
      simp only [Act.put, List.setIfInBounds_toArray, List.set_cons_zero, List.set_cons_succ]
      refine wpAnyF_take (i := 4) (fin := 7) (v := ?v5) rfl (by kernel_rfl) (by kernel_rfl) (by kernel_rfl) (by kernel_rfl) (fun _ _ _ h => h) (yieldsIf_run rfl (fun w' hw' => ?y5)) hS0 ?_
      case y5 => first | (go_simp; rfl) | (go_simp; done) | rfl
      simp only [Act.put, List.setIfInBounds_toArray, List.set_cons_zero, List.set_cons_succ]
      refine wpAnyF_do (i := 5) (by kernel_rfl) rfl rfl (fun K hK => ?_)
      go_simp
      refine (ref_visible k (by rw [flushAt_len]; exact hltn) hRd (flushAt_ok HOK.out k) hlenk).mono ?_
      rintro e w2 ⟨v', rfl, hown2, hb2⟩
      have hv2 := ownsRow_bytes hown2 (visible_length (flushAt_ok HOK.out k) (by rw [flushAt_len]; exact hltn))
      obtain ⟨g', o', c', rfl, hg'B, hg'l, _⟩ := hv2.some' (visible_length (flushAt_ok HOK.out k) (by rw [flushAt_len]; exact hltn))
      have hbr2 : Below wr.heap.size wr w2 := (Below.refl _ wr).drew.trans hb2
      have q2 : w2.heap[w.heap.size]? = _ := (hbr2.block _ HLT.out).trans HN.out
      have hX2 := HX.out.chg (G := fun _ => False) (Chg.of_below hbr2) (fun _ _ h => h)
      have hB2 := HB.out.trans (hbr2.mono HB.out.size)
      have n22 : w2.heap[w.heap.size + 1]? = _ := (hbr2.block _ HLT2.out).trans HN2.out
      have hst := hX2.setDur (k := k) (l := S.visible k) (by rw [flushAt_len]; exact hltn) (u := .slice (some ⟨g', o', none⟩) 256 c') (B' := wr.heap.size) hown2 (by rw [flushAt_vis S k hltn]) (visible_length HOK.out hltn) HBL.out
        (fun x hx e => by have h3 : g' < wr.heap.size := rows_lt HX.out.rows hx g' e; have h4 : wr.heap.size ≤ g' := hg'B; omega)
      obtain ⟨hX3, ⟨c9, hcl⟩, hfz⟩ := hst
      have HX3 := Lib.hid hX3
      have HB2 := Lib.hid hB2
      have HN22 := Lib.hid n22
      have Q2 := Lib.hid q2
      clear hX3 hB2 n22 hX2 hbr2 hv2 hown2 hb2 hg'l
      refine hK _ _ (fun _ => Q2.out) ?_
      clear hK K
      try simp only [Act.put, List.setIfInBounds_toArray, List.set_cons_zero, List.set_cons_succ]
      refine wpAnyF_do (i := 6) (by kernel_rfl) rfl rfl (fun K hK => ?_)
      go_simp
      refine hK _ _ (fun _ => Q2.out) ?_
      clear hK K
      try simp only [Act.put, List.setIfInBounds_toArray, List.set_cons_zero, List.set_cons_succ]
      refine wpAnyF_do (i := 7) (by kernel_rfl) rfl rfl (fun K hK => ?_)
      go_simp
      refine hK _ _ (fun h => absurd rfl h) ?_
      clear hK K
      refine wpAnyF_done (by kernel_rfl) ?_ _
      refine NoPanic.normal ?_
      obtain ⟨w5, hw5⟩ : ∃ w5, w2.setCell ⟨gd, k, none⟩ (.slice (some ⟨g', o', none⟩) 256 c') = w5 := ⟨_, rfl⟩
      have hgd : w1.heap.size ≤ gd := (ownsRow_lt HX.out.rd gd rfl).1
      have hc5 : Chg (fun i => i = gd) w2 w5 := hw5 ▸ Chg.setCell (F := fun i => i = gd) w2 _ rfl
      have hs1 := HF.out.s1
      have hlt2 := HB2.out.size
      have hn5 : w5.heap[w.heap.size]? = _ := (hc5.block _ (Array.getElem?_eq_some_iff.1 Q2.out).1 (by omega)).trans Q2.out
      have hn52 : w5.heap[w.heap.size + 1]? = _ := (hc5.block _ (Array.getElem?_eq_some_iff.1 HN22.out).1 (by omega)).trans HN22.out
      have hb5 := HB2.out.trans (hc5.below (fun i e => by omega) HB2.out.size)
      have hX5 : RefOwnX w5 w1.heap.size (S.flushAt (k + 1)) (.slice (some ⟨gd, 0, none⟩) S.dur.length cd') (.slice aw' S.pend.length cw') (D.set k (S.visible k, .slice (some ⟨g', o', none⟩) 256 c')) L := by
        have := HX3.out
        rw [flushAt_succ S k hltn, hw5] at this
        exact this
      rw [hw5]
      have HN5 := Lib.hid hn5
      have HN52 := Lib.hid hn52
      have HB5 := Lib.hid hb5
      have HX5 := Lib.hid hX5
      clear hw5 hgd hc5 hs1 hlt2 hn5 hn52 hb5 hX5 hcl hfz hS0 hRd
      go_wp2_with fail
      go_roundw
      case rel => exact ⟨k + 1, _, by omega, by go_num, HN5.out, HN52.out, HX5.out, HB5.out⟩
      case measure => simp [intOf]; omega
    · obtain rfl : k = S.dur.length := by omega
      have hs1 := HF.out.s1
      have hX6 : RefOwnX wr w1.heap.size { S.operate.1 with dur := fdur S S.pend.length, pend := [] } (.slice ad' S.dur.length cd') (.slice none 0 0) D [] := by
        have := HX.out.noPend
        simpa [DS.flushAt, ← flushAt_end HOK.out] using this
      obtain ⟨wf, hwf⟩ : ∃ wf, (((((wr.setCell ⟨w.heap.size, 1, none⟩ (.slice none 0 0)).setCell ⟨w.heap.size + 1, 0, none⟩ (.slice ad' S.dur.length cd')).setCell ⟨w.heap.size + 1, 1, none⟩ (.slice none 0 0)).setCell ⟨w.heap.size + 1, 2, none⟩ (.int .i64 (limI S.operate.1))).setCell
            ⟨w.heap.size + 1, 3, none⟩ (.bool S.operate.1.down)).setCell ⟨w.heap.size + 1, 4, none⟩ (.int .i64 (S.operate.1.ops : Int)) = wf := ⟨_, rfl⟩
      have hcf : Chg (fun i => i = w.heap.size ∨ i = w.heap.size + 1) wr wf := by
        rw [← hwf]
        exact (Chg.setCell (F := fun i => i = w.heap.size ∨ i = w.heap.size + 1) wr _ (.inl rfl)).trans (put5_chg _ (w.heap.size + 1) _ _ _ _ _) (fun _ h => .inl (.inr h))
      have hn2' : (wr.setCell ⟨w.heap.size, 1, none⟩ (.slice none 0 0)).heap[w.heap.size + 1]? = _ := (heap_setCell_other wr ⟨w.heap.size, 1, none⟩ _ _ (by show w.heap.size + 1 ≠ w.heap.size; omega)).trans HN2.out
      have hn1' : (wr.setCell ⟨w.heap.size, 1, none⟩ (.slice none 0 0)).heap[w.heap.size]? = some (.cells #[.slice ad' S.dur.length cd', .slice none 0 0, .int .i64 (limI S.operate.1), .bool S.operate.1.down, .int .i64 (S.operate.1.ops : Int)] 45 (0, 0)) := by
        rw [heap_setCell_same _ _ _ _ _ _ HN.out]; rfl
      have hfin : wf.heap[w.heap.size + 1]? = some (.cells #[.slice ad' S.dur.length cd', .slice none 0 0, .int .i64 (limI S.operate.1), .bool S.operate.1.down, .int .i64 (S.operate.1.ops : Int)] 45 (0, 0)) := by
        rw [← hwf]; exact put5_heap hn2' _ _ _ _ _
      have hXf := (hX6.chg hcf (fun i h e => by omega)).base (B' := w.heap.size) (by omega)
      have hbf := HB.out.trans (hcf.below (fun i e => by omega) HB.out.size)
      obtain ⟨z0, z1, z2, z3, z4, zf⟩ := cells5 hn1'
      obtain ⟨y0, y1, y2, y3, y4, yf⟩ := cells5 hn2'
      have HXF := Lib.hid hXf
      have HBF := Lib.hid hbf
      have HFIN := Lib.hid hfin
      obtain ⟨w6, hw6⟩ : ∃ w6, wr.setCell ⟨w.heap.size, 1, none⟩ (.slice none 0 0) = w6 := ⟨_, rfl⟩
      rw [hw6] at z0 z1 z2 z3 z4 zf y0 y1 y2 y3 y4 yf hwf
      clear hcf hn2' hn1' hfin hXf hbf hs1 hX6 x2 x3 x4
      go_wp2_with fail
      exact bodyPost_ret (results_cell_tmp_row (g := w.heap.size + 1) rfl _ _ _ _ _ _ rfl HFIN.out Try.underlying45 rfl infoD) rfl ⟨_, rfl, ⟨_, _, D, _, rfl, HXF.out⟩, HBF.out⟩

end Go.Proofs.Ytkklbmnbjmicnaa
