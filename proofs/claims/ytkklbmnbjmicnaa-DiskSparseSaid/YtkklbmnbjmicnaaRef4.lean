/- The reference: Copy. -/
import Derived.Test.YtkklbmnbjmicnaaRef3
namespace Go.Proofs.Ytkklbmnbjmicnaa
open Go.RowKit Go.Shelf
set_option linter.unusedVariables false
set_option linter.unusedSimpArgs false

/-- v is the reference's device in state S, in memory of its own, from block B on, no two slices of bytes in one block. -/
structure RefOwnX (w : World) (B : Nat) (S : DS) (dv wv : Value) (D : List (List UInt8 × Value)) (L : List (Nat × List UInt8 × Value)) : Prop where
  dur : D.map (·.1) = S.dur
  pend : L.map (fun x => (x.1, x.2.1)) = S.pend
  rd : w.ownsRow B 30 1 dv S.dur.length (D.map (·.2))
  rw : w.ownsRow B 90 2 wv S.pend.length (lrow L)
  rows : Rows w B (D ++ L.map (·.2))
def RefOwn (w : World) (B : Nat) (S : DS) (v : Value) : Prop := ∃ dv wv D L, v = refV S dv wv ∧ RefOwnX w B S dv wv D L

theorem ownsRow_chg' {w w' : World} {G : Nat → Prop} {B n s : Nat} {T : TypeId} {v : Value} {xs : List Value} (h : w.ownsRow B T s v n xs) (hc : Chg G w w') (hd : ∀ k, v.ownBlock = some k → ¬ G k) : w'.ownsRow B T s v n xs := by
  refine ⟨h.1, ?_⟩
  rcases h.2 with hn | ⟨g, cap, cur, e, hbg, hg, rest⟩
  · exact .inl hn
  · exact .inr ⟨g, cap, cur, e, hbg, (hc.block g (Array.getElem?_eq_some_iff.1 hg).1 (hd g (by rw [e]; rfl))).trans hg, rest⟩
theorem ownsRow_base {w : World} {B B' n s : Nat} {T : TypeId} {v : Value} {xs : List Value} (h : w.ownsRow B T s v n xs) (hB : B' ≤ B) : w.ownsRow B' T s v n xs := by
  refine ⟨h.1, ?_⟩
  rcases h.2 with h | ⟨g, cap, cur, e, hb, rest⟩
  · exact .inl h
  · exact .inr ⟨g, cap, cur, e, Nat.le_trans hB hb, rest⟩
theorem Rows.base {w : World} {B B' : Nat} {D : List (List UInt8 × Value)} (h : Rows w B D) (hB : B' ≤ B) : Rows w B' D := by
  refine ⟨fun x hx => ?_, h.nodup⟩
  obtain ⟨hl, g, cap, e, hr⟩ := h.row x hx
  exact ⟨hl, g, cap, e, ownsRow_base hr hB⟩
/-- What is owned from block B on stays, where nothing from B on changes. -/
theorem RefOwnX.chg {w w' : World} {B : Nat} {S : DS} {dv wv : Value} {D : List (List UInt8 × Value)} {L : List (Nat × List UInt8 × Value)} (h : RefOwnX w B S dv wv D L) {G : Nat → Prop} (hc : Chg G w w') (hd : ∀ k, B ≤ k → ¬ G k) : RefOwnX w' B S dv wv D L :=
  ⟨h.dur, h.pend, ownsRow_chg h.rd hc (fun k hk _ => hd k hk), ownsRow_chg h.rw hc (fun k hk _ => hd k hk), h.rows.kept hc (fun x hx g e => by
    obtain ⟨_, g', cap, e', hr⟩ := h.rows.row x hx
    exact hd g (ownsRow_lt hr g e).1)⟩
theorem RefOwnX.base {w : World} {B B' : Nat} {S : DS} {dv wv : Value} {D : List (List UInt8 × Value)} {L : List (Nat × List UInt8 × Value)} (h : RefOwnX w B S dv wv D L) (hB : B' ≤ B) : RefOwnX w B' S dv wv D L :=
  ⟨h.dur, h.pend, ownsRow_base h.rd hB, ownsRow_base h.rw hB, h.rows.base hB⟩
theorem ownsRow_zero {w : World} {B n s : Nat} {T : TypeId} {v : Value} {xs : List Value} (h : w.ownsRow B T s v n xs) : w.ownsRow 0 T s v n xs := by
  refine ⟨h.1, ?_⟩
  rcases h.2 with h | ⟨g, cap, cur, e, _, rest⟩
  · exact .inl h
  · exact .inr ⟨g, cap, cur, e, Nat.zero_le _, rest⟩
theorem Rows.bytes {w : World} {B : Nat} {D : List (List UInt8 × Value)} (h : Rows w B D) {x : List UInt8 × Value} (hx : x ∈ D) : BytesAt w (fun k => B ≤ k) x.2 x.1 := by
  obtain ⟨hl, g, cap, e, hr⟩ := h.row x hx
  exact ownsRow_bytes hr hl
theorem RefOwn.at {w : World} {B : Nat} {S : DS} {v : Value} (h : RefOwn w B S v) : RefAt w (fun k => B ≤ k) S v := by
  obtain ⟨dv, wv, D, L, rfl, hx⟩ := h
  exact ⟨dv, wv, rfl, ⟨D, hx.dur, ownsRow_zero hx.rd, fun g e => (ownsRow_lt hx.rd g e).1, fun x hm => hx.rows.bytes (List.mem_append.2 (.inl hm))⟩,
    ⟨L, hx.pend, ownsRow_zero hx.rw, fun g e => (ownsRow_lt hx.rw g e).1, fun x hm => hx.rows.bytes (x := x.2) (List.mem_append.2 (.inr (List.mem_map.2 ⟨x, hm, rfl⟩)))⟩⟩

set_option maxRecDepth 100000 in
set_option maxHeartbeats 2000000 in
theorem ref_copy {w : World} {G : Nat → Prop} {S : DS} {v : Value} (h : RefAt w G S v) (hok : S.ok) (hlen : S.pend.length < 100000000) :
    Calls Try.prog 49 #[v] w fun e w' => ∃ v', e = .returned v' ∧ RefOwn w' w.heap.size S v' ∧ Below w.heap.size w w' := by
  obtain ⟨dv, wv, rfl, hd, hw⟩ := h
  obtain ⟨ad, capd, rfl⟩ := hd.len
  obtain ⟨aw, capw, rfl⟩ := hw.len
  unfold refV
  obtain ⟨w1, hw1⟩ : ∃ w1, (w.alloc (.cells #[.slice ad S.dur.length capd, .slice aw S.pend.length capw, .int .i64 (limI S), .bool S.down, .int .i64 (S.ops : Int)] 45)).alloc (.cells #[.slice none 0 0, .slice none 0 0, .int .i64 0, .bool false, .int .i64 0] 45) = w1 := ⟨_, rfl⟩
  have hb1 : Below w.heap.size w w1 := hw1 ▸ ((Below.refl _ _).alloc (Nat.le_refl _) _).alloc (by simp) _
  have hs1 : w1.heap.size = w.heap.size + 2 := by rw [← hw1, World.size_alloc, World.size_alloc]
  have hn1 : w1.heap[w.heap.size]? = some (.cells #[.slice ad S.dur.length capd, .slice aw S.pend.length capw, .int .i64 (limI S), .bool S.down, .int .i64 (S.ops : Int)] 45 (0, 0)) := by
    rw [← hw1]; exact (Below.heap_alloc _ _ _ (by rw [World.size_alloc]; omega)).trans (heap_alloc_new _ _)
  have hn2 : w1.heap[w.heap.size + 1]? = some (.cells #[.slice none 0 0, .slice none 0 0, .int .i64 0, .bool false, .int .i64 0] 45 (0, 0)) := by
    rw [← hw1]; exact heap_alloc2_new _ _ _
  have hcell : ∀ wx, Below w1.heap.size w1 wx → wx.cell? ⟨w.heap.size, 0, none⟩ = some (.slice ad S.dur.length capd) ∧ wx.cell? ⟨w.heap.size, 1, none⟩ = some (.slice aw S.pend.length capw) := fun wx hb => by
    have h1 : wx.heap[w.heap.size]? = _ := (hb.block _ (by omega)).trans hn1
    simp [World.cell?, h1]
  have hkeep : ∀ wx, Below w1.heap.size w1 wx → ∀ g o, g < w.heap.size → wx.cell? ⟨g, o, none⟩ = w.cell? ⟨g, o, none⟩ := fun wx hb g o hg =>
    (hb.cell (p := ⟨g, o, none⟩) (by show g < _; omega)).trans (hb1.cell (p := ⟨g, o, none⟩) hg)
  have HB1 := Lib.hid hb1
  have HS1 := Lib.hid hs1
  have HN1 := Lib.hid hn1
  have HN2 := Lib.hid hn2
  have HCELL := Lib.hid hcell
  have HKEEP := Lib.hid hkeep
  have HD := Lib.hid hd
  have HW := Lib.hid hw
  have HOK := Lib.hid hok
  clear hb1 hs1 hn1 hn2 hcell hkeep hd hw hok
  go_enter Try.func49, Try.ntmps49
  go_wp2_with fail
  clear hw1
  go_loopw [3, 4] (fun sv i wr => ∃ (k : Nat) (D : List (List UInt8 × Value)), k ≤ S.dur.length ∧ i = .int .i64 (k : Int) ∧ D.map (·.1) = S.dur.take k ∧ wr.ownsRow w1.heap.size 30 1 sv k (D.map (·.2)) ∧ Rows wr w1.heap.size D ∧ Below w1.heap.size w1 wr)
    (fun _ i _ => S.dur.length - (intOf i).toNat)
  case atStart => exact ⟨0, [], Nat.zero_le _, rfl, rfl, World.ownsRow_nil _ _ _ _, ⟨by simp, by simp⟩, Below.refl _ _⟩
  case round =>
    obtain ⟨k, D, hk, rfl, hD, hown, hrows, hB⟩ := hrel
    obtain ⟨q0, q1⟩ := HCELL.out wr hB
    have HDm := Lib.hid hD
    have HOWN := Lib.hid hown
    have HROWS := Lib.hid hrows
    have HB := Lib.hid hB
    clear hD hown hrows hB
    by_cases hlt : k < S.dur.length
    · obtain ⟨gd, cpd, vs, e, hgd, _, hcs, hbs⟩ := HD.out.at k hlt
      obtain ⟨rfl, rfl⟩ : ad = some ⟨gd, 0, none⟩ ∧ capd = cpd := by simpa using e
      obtain ⟨D0, hD0⟩ : ∃ D0, S.dur[k] = D0 := ⟨_, rfl⟩
      have hD0l : D0.length = 256 := by rw [← hD0]; exact HOK.out.dur _ (List.getElem_mem _)
      rw [hD0] at hbs
      obtain ⟨gs, os, caps, rfl, _, hgs, hrs⟩ := hbs.some' hD0l
      have hb5 : Below wr.heap.size wr (wr.alloc (.cells #[] 5)) := (Below.refl _ _).alloc (Nat.le_refl _) _
      have hb6 : Below w1.heap.size w1 (wr.alloc (.cells #[] 5)) := HB.out.trans (hb5.mono HB.out.size)
      obtain ⟨r0, r1⟩ := HCELL.out _ hb6
      have r2 := (HKEEP.out _ hb6 gd k hgd).trans hcs
      have hrs' : wr.rangeAt gs os (bvs D0) := fun j u hu => (HKEEP.out wr HB.out gs (os + j) hgs).trans (hrs j u hu)
      have hgs' : gs < wr.heap.size := by have := HS1.out; have := HB.out.size; omega
      have HRS := Lib.hid hrs'
      have HGS := Lib.hid hgs'
      have HDL := Lib.hid hD0l
      have HD0 := Lib.hid hD0
      clear hrs hrs' hgs' hD0l hD0 hbs hcs e hb5 hb6
      go_wp2_with (at_builtin; refine wpList_app256 (wr := wr) rfl (.tmp 15) (.tmp 20) rfl rfl gs os caps D0 rfl HRS.out HGS.out HDL.out ?_)
      intro g' cap' w2 hg1 hg2 ho2 hb2
      have hb3 : Below w2.heap.size w2 (w2.alloc (.cells #[.slice (some ⟨g', 0, none⟩) 256 cap'] 30)) := (Below.refl _ _).alloc (Nat.le_refl _) _
      have hbr3 : Below wr.heap.size wr (w2.alloc (.cells #[.slice (some ⟨g', 0, none⟩) 256 cap'] 30)) := hb2.trans (hb3.mono hb2.size)
      have hown3 := ownsRow_chg (G := fun _ => False) HOWN.out (Chg.of_below hbr3) (fun _ _ _ h => h)
      have hn3 := heap_alloc_new w2 (.cells #[.slice (some ⟨g', 0, none⟩) 256 cap'] 30)
      have hB3 : w1.heap.size ≤ (w2.alloc (.cells #[.slice (some ⟨g', 0, none⟩) 256 cap'] 30)).heap.size := Nat.le_trans HB.out.size hbr3.size
      have ho3 := ownsRow_chg (G := fun _ => False) ho2 (Chg.of_below hb3) (fun _ _ _ h => h)
      have HOWN3 := Lib.hid hown3
      have HN3 := Lib.hid hn3
      have HB3 := Lib.hid hB3
      have HO3 := Lib.hid ho3
      have HBR3 := Lib.hid hbr3
      have HG1 := Lib.hid hg1
      have hkk : k < 1000000000 := by have := HOK.out.most; omega
      clear hown3 hn3 hB3 ho3 hbr3 hb3 hb2 ho2 hg1 hg2 r0 r1 r2 q0 q1
      go_wp2_with (at_builtin; refine wpList_appRow rfl (.tmp 14) (.tmp 22) rfl rfl HOWN3.out w2.heap.size rfl HN3.out rfl hkk HB3.out ?_)
      intro gg capg w4 hlt4 hown4 hgrow4 hat4
      have hb4 : Below w1.heap.size w1 w4 := (HB.out.trans (HBR3.out.mono HB.out.size)).grown hgrow4 HB3.out (fun i e => (ownsRow_lt HOWN.out i e).1)
      have hc4 : Chg (fun i => u3.ownBlock = some i) wr w4 := (Chg.of_below HBR3.out).trans (Chg.grown (F := fun i => u3.ownBlock = some i) hgrow4 (fun i e => .inl e)) (fun i h => .inl h)
      have ho4 : w4.ownsRow w1.heap.size 5 1 (.slice (some ⟨g', 0, none⟩) 256 cap') 256 (bvs D0) := by
        have h1 := HO3.out.kept hgrow4 (.inr (fun e => by have h3 := (ownsRow_lt HOWN.out g' e.symm).2; have := HG1.out; omega))
        refine ⟨h1.1, ?_⟩
        rcases h1.2 with h | ⟨g, cap, cur, e, hb, rest⟩
        · exact .inl h
        · exact .inr ⟨g, cap, cur, e, Nat.le_trans HB.out.size hb, rest⟩
      have hrows4 : Rows w4 w1.heap.size (D ++ [(D0, .slice (some ⟨g', 0, none⟩) 256 cap')]) := by
        refine (HROWS.out.kept hc4 (fun x hx i e e2 => ?_)).push HDL.out ho4 (fun x hx e => ?_)
        · obtain ⟨_, g, cap, e3, hr⟩ := HROWS.out.row x hx
          exact ownsRow_ne HOWN.out hr (by decide) i e2 e
        · obtain ⟨_, g, cap, e3, hr⟩ := HROWS.out.row x hx
          have h3 := (ownsRow_lt hr g' e).2
          have := HG1.out
          omega
      have HB4 := Lib.hid hb4
      have HOWN4 := Lib.hid hown4
      have HROWS4 := Lib.hid hrows4
      clear hb4 hown4 hrows4 ho4 hc4 hgrow4 hat4 hlt4
      go_wp2_with fail
      go_roundw
      case rel =>
        have htk : S.dur.take (k + 1) = S.dur.take k ++ [D0] := by rw [List.take_add_one, List.getElem?_eq_getElem hlt, HD0.out]; rfl
        refine ⟨k + 1, D ++ [(D0, .slice (some ⟨g', 0, none⟩) 256 cap')], by omega, by go_num, by rw [List.map_append, HDm.out, htk]; rfl, by simpa using HOWN4.out, HROWS4.out, HB4.out⟩
      case measure => simp [intOf]; omega
    · obtain rfl : k = S.dur.length := by omega
      have hDm : D.map (·.1) = S.dur := by rw [HDm.out, List.take_length]
      have HDe := Lib.hid hDm
      clear hDm HDm q1
      go_wp2_with fail
      clear q0
      obtain ⟨sv, hsv⟩ : ∃ sv, sv = u3 := ⟨_, rfl⟩
      rw [← hsv] at HOWN ⊢
      clear hsv
      go_loopw [5, 6] (fun lv i ws => ∃ (j : Nat) (L : List (Nat × List UInt8 × Value)), j ≤ S.pend.length ∧ i = .int .i64 (j : Int) ∧ L.map (fun x => (x.1, x.2.1)) = S.pend.take j ∧ ws.ownsRow w1.heap.size 90 2 lv j (lrow L) ∧
          ws.ownsRow w1.heap.size 30 1 sv S.dur.length (D.map (·.2)) ∧ Rows ws w1.heap.size (D ++ L.map (·.2)) ∧ Below w1.heap.size w1 ws)
        (fun _ i _ => S.pend.length - (intOf i).toNat)
      case atStart => exact ⟨0, [], Nat.zero_le _, rfl, rfl, World.ownsRow_nil _ _ _ _, HOWN.out, by simpa using HROWS.out, HB.out⟩
      case round =>
        clear HOWN HROWS HB
        obtain ⟨j, L, hj, rfl, hLm, hown2, hsv, hrows, hB⟩ := hrel
        obtain ⟨q0, q1⟩ := HCELL.out wr hB
        have HLm := Lib.hid hLm
        have HOWN2 := Lib.hid hown2
        have HOWN := Lib.hid hsv
        have HROWS2 := Lib.hid hrows
        have HB := Lib.hid hB
        clear hLm hown2 hsv hrows hB
        by_cases hltj : j < S.pend.length
        · obtain ⟨gw, cpw, vw, e, hgw, _, hc0, hc1, hbw⟩ := HW.out.at j hltj
          obtain ⟨rfl, rfl⟩ : aw = some ⟨gw, 0, none⟩ ∧ capw = cpw := by simpa using e
          obtain ⟨x1, x2, hx⟩ : ∃ x1 x2, S.pend[j] = (x1, x2) := ⟨_, _, rfl⟩
          have hx2 : x2.length = 256 := (HOK.out.pend (x1, x2) (hx ▸ List.getElem_mem hltj)).2
          rw [hx] at hc0 hbw
          obtain ⟨gb, ob, capb, rfl, _, hgb, hrb⟩ := hbw.some' hx2
          have hrb' : wr.rangeAt gb ob (bvs x2) := fun i u hu => (HKEEP.out wr HB.out gb (ob + i) hgb).trans (hrb i u hu)
          have hgb' : gb < wr.heap.size := by have := HS1.out; have := HB.out.size; omega
          have HX := Lib.hid hx
          have HX2 := Lib.hid hx2
          have HRB := Lib.hid hrb'
          have HGB := Lib.hid hgb'
          have HGW := Lib.hid hgw
          have HC0 := Lib.hid hc0
          have HC1 := Lib.hid hc1
          clear hx hx2 hrb hrb' hgb' hgw hc0 hc1 hbw e q0
          go_wp2_with fail
          refine wp_region_noPanic ?_
          refine wp_region_F 18 (Below w1.heap.size w1) (by kernel_rfl) ?_
          have hS0 : Below w1.heap.size w1 wr.drew := HB.out.drew
          refine wpAnyF_take (i := 0) (fin := 18) (v := u5) rfl (by kernel_rfl) (by kernel_rfl) (by kernel_rfl) (by kernel_rfl) (fun _ _ _ h => h) (yieldsIf_run rfl (fun w' hw' => ?_)) hS0 ?_
          · rfl
          simp only [Act.put, List.setIfInBounds_toArray, List.set_cons_zero, List.set_cons_succ]
          refine wpAnyF_take (i := 1) (fin := 18) (v := .pointer (some ⟨w.heap.size, 1, none⟩)) rfl (by kernel_rfl) (by kernel_rfl) (by kernel_rfl) (by kernel_rfl) (fun _ _ _ h => h) (yieldsIf_run rfl (fun w' hw' => ?_)) hS0 ?_
          · go_simp
          simp only [Act.put, List.setIfInBounds_toArray, List.set_cons_zero, List.set_cons_succ]
          refine wpAnyF_take (i := 2) (fin := 18) (v := .slice (some ⟨gw, 0, none⟩) S.pend.length capw) rfl (by kernel_rfl) (by kernel_rfl) (by kernel_rfl) (by kernel_rfl) (fun _ _ _ h => h) (yieldsIf_run rfl (fun w' hw' => ?_)) hS0 ?_
          · (have h4 := (HCELL.out w' hw').2; clear hw'; go_simp)
          simp only [Act.put, List.setIfInBounds_toArray, List.set_cons_zero, List.set_cons_succ]
          refine wpAnyF_take (i := 3) (fin := 18) (v := .int .i64 (j : Int)) rfl (by kernel_rfl) (by kernel_rfl) (by kernel_rfl) (by kernel_rfl) (fun _ _ _ h => h) (yieldsIf_run rfl (fun w' hw' => ?_)) hS0 ?_
          · rfl
          simp only [Act.put, List.setIfInBounds_toArray, List.set_cons_zero, List.set_cons_succ]
          refine wpAnyF_take (i := 4) (fin := 18) (v := .pointer (some ⟨gw, j * 2, none⟩)) rfl (by kernel_rfl) (by kernel_rfl) (by kernel_rfl) (by kernel_rfl) (fun _ _ _ h => h) (yieldsIf_run rfl (fun w' hw' => ?_)) hS0 ?_
          · go_simp
          simp only [Act.put, List.setIfInBounds_toArray, List.set_cons_zero, List.set_cons_succ]
          refine wpAnyF_take (i := 5) (fin := 18) (v := .pointer (some ⟨gw, j * 2, none⟩)) rfl (by kernel_rfl) (by kernel_rfl) (by kernel_rfl) (by kernel_rfl) (fun _ _ _ h => h) (yieldsIf_run rfl (fun w' hw' => ?_)) hS0 ?_
          · go_simp
          simp only [Act.put, List.setIfInBounds_toArray, List.set_cons_zero, List.set_cons_succ]
          refine wpAnyF_take (i := 6) (fin := 18) (v := .int .i64 (x1 : Int)) rfl (by kernel_rfl) (by kernel_rfl) (by kernel_rfl) (by kernel_rfl) (fun _ _ _ h => h) (yieldsIf_run rfl (fun w' hw' => ?_)) hS0 ?_
          · (have h4 := (HKEEP.out w' hw' gw (j * 2) HGW.out).trans HC0.out; clear hw'; go_simp)
          simp only [Act.put, List.setIfInBounds_toArray, List.set_cons_zero, List.set_cons_succ]
          refine wpAnyF_take (i := 8) (fin := 18) (v := .pointer (some ⟨w.heap.size, 1, none⟩)) rfl (by kernel_rfl) (by kernel_rfl) (by kernel_rfl) (by kernel_rfl) (fun _ _ _ h => h) (yieldsIf_run rfl (fun w' hw' => ?_)) hS0 ?_
          · go_simp
          simp only [Act.put, List.setIfInBounds_toArray, List.set_cons_zero, List.set_cons_succ]
          refine wpAnyF_take (i := 9) (fin := 18) (v := .slice (some ⟨gw, 0, none⟩) S.pend.length capw) rfl (by kernel_rfl) (by kernel_rfl) (by kernel_rfl) (by kernel_rfl) (fun _ _ _ h => h) (yieldsIf_run rfl (fun w' hw' => ?_)) hS0 ?_
          · (have h4 := (HCELL.out w' hw').2; clear hw'; go_simp)
          simp only [Act.put, List.setIfInBounds_toArray, List.set_cons_zero, List.set_cons_succ]
          refine wpAnyF_take (i := 10) (fin := 18) (v := .int .i64 (j : Int)) rfl (by kernel_rfl) (by kernel_rfl) (by kernel_rfl) (by kernel_rfl) (fun _ _ _ h => h) (yieldsIf_run rfl (fun w' hw' => ?_)) hS0 ?_
          · rfl
          simp only [Act.put, List.setIfInBounds_toArray, List.set_cons_zero, List.set_cons_succ]
          refine wpAnyF_take (i := 11) (fin := 18) (v := .pointer (some ⟨gw, j * 2, none⟩)) rfl (by kernel_rfl) (by kernel_rfl) (by kernel_rfl) (by kernel_rfl) (fun _ _ _ h => h) (yieldsIf_run rfl (fun w' hw' => ?_)) hS0 ?_
          · go_simp
          simp only [Act.put, List.setIfInBounds_toArray, List.set_cons_zero, List.set_cons_succ]
          refine wpAnyF_take (i := 12) (fin := 18) (v := .pointer (some ⟨gw, j * 2 + 1, none⟩)) rfl (by kernel_rfl) (by kernel_rfl) (by kernel_rfl) (by kernel_rfl) (fun _ _ _ h => h) (yieldsIf_run rfl (fun w' hw' => ?_)) hS0 ?_
          · go_simp
          simp only [Act.put, List.setIfInBounds_toArray, List.set_cons_zero, List.set_cons_succ]
          refine wpAnyF_take (i := 13) (fin := 18) (v := .slice (some ⟨gb, ob, none⟩) 256 capb) rfl (by kernel_rfl) (by kernel_rfl) (by kernel_rfl) (by kernel_rfl) (fun _ _ _ h => h) (yieldsIf_run rfl (fun w' hw' => ?_)) hS0 ?_
          · (have h4 := (HKEEP.out w' hw' gw (j * 2 + 1) HGW.out).trans HC1.out; clear hw'; go_simp)
          try simp only [Act.put, List.setIfInBounds_toArray, List.set_cons_zero, List.set_cons_succ]
          refine wpAnyF_do (i := 7) (by kernel_rfl) rfl rfl (fun K hK => ?_)
          go_simp
          have hS1 : Below w1.heap.size w1 (wr.drew.alloc (.cells #[] 5)) := hS0.alloc hS0.size _
          refine hK _ _ (fun _ => hS1) ?_
          clear hK K
          try simp only [Act.put, List.setIfInBounds_toArray, List.set_cons_zero, List.set_cons_succ]
          refine wpAnyF_do (i := 14) (by kernel_rfl) rfl rfl (fun K hK => ?_)
          refine wp_app256 (wr := wr.drew) (.tmp 38) (.tmp 44) rfl rfl gb ob capb x2 rfl HRB.out HGB.out HX2.out ?_
          intro g' cap' w2 hg1 hg2 ho2 hb2
          have hS2 : Below w1.heap.size w1 w2 := hS0.trans (hb2.mono hS0.size)
          refine hK _ _ (fun _ => hS2) ?_
          clear hK K
          try simp only [Act.put, List.setIfInBounds_toArray, List.set_cons_zero, List.set_cons_succ]
          refine wpAnyF_do (i := 15) (by kernel_rfl) rfl rfl (fun K hK => ?_)
          go_simp
          refine hK _ _ (fun _ => hS2) ?_
          clear hK K
          refine wpAnyF_do (i := 16) (by kernel_rfl) rfl rfl (fun K hK => ?_)
          go_simp
          obtain ⟨w3, hw3⟩ : ∃ w3, w2.alloc (.cells #[.int .i64 (x1 : Int), .slice (some ⟨g', 0, none⟩) 256 cap'] 90) = w3 := ⟨_, rfl⟩
          have hb3 : Below w2.heap.size w2 w3 := hw3 ▸ (Below.refl _ _).alloc (Nat.le_refl _) _
          have hn3 : w3.heap[w2.heap.size]? = some (.cells #[.int .i64 (x1 : Int), .slice (some ⟨g', 0, none⟩) 256 cap'] 90 (0, 0)) := by rw [← hw3]; exact heap_alloc_new _ _
          have hS3 : Below w1.heap.size w1 w3 := hS2.trans (hb3.mono hS2.size)
          have hbs3 : Below wr.heap.size wr w3 := ((Below.refl _ wr).drew.trans hb2).trans (hb3.mono hb2.size)
          have ho3 : w3.ownsRow wr.drew.heap.size 5 1 (.slice (some ⟨g', 0, none⟩) 256 cap') 256 (bvs x2) := ownsRow_chg (G := fun _ => False) ho2 (Chg.of_below hb3) (fun _ _ _ h => h)
          have hown3 : w3.ownsRow w1.heap.size 90 2 u5 j (lrow L) := ownsRow_chg (G := fun _ => False) HOWN2.out (Chg.of_below hbs3) (fun _ _ _ h => h)
          rw [hw3]
          refine hK _ _ (fun _ => hS3) ?_
          clear hK K
          try simp only [Act.put, List.setIfInBounds_toArray, List.set_cons_zero, List.set_cons_succ]
          refine wpAnyF_do (i := 17) (by kernel_rfl) rfl rfl (fun K hK => ?_)
          refine wp_appW (.tmp 31) (.tmp 47) rfl rfl hown3 w2.heap.size rfl hn3 rfl rfl (by omega) hS3.size ?_
          intro gg capg w4 hlt4 hown4 hgrow4 hat4
          have hb4 : Below w1.heap.size w1 w4 := hS3.grown hgrow4 hS3.size (fun i e => (ownsRow_lt HOWN2.out i e).1)
          refine hK _ _ (fun _ => hb4) ?_
          clear hK K
          try simp only [Act.put, List.setIfInBounds_toArray, List.set_cons_zero, List.set_cons_succ]
          refine wpAnyF_do (i := 18) (by kernel_rfl) rfl rfl (fun K hK => ?_)
          go_simp
          refine hK _ _ (fun h => absurd rfl h) ?_
          clear hK K
          refine wpAnyF_done (by kernel_rfl) ?_ _
          refine NoPanic.normal ?_
          have hc4 : Chg (fun i => u5.ownBlock = some i) wr w4 := (Chg.of_below hbs3).trans (Chg.grown (F := fun i => u5.ownBlock = some i) hgrow4 (fun i e => .inl e)) (fun i h => .inl h)
          have ho4 : w4.ownsRow w1.heap.size 5 1 (.slice (some ⟨g', 0, none⟩) 256 cap') 256 (bvs x2) := by
            have h1 := ho3.kept hgrow4 (.inr (fun e => by have h3 := (ownsRow_lt HOWN2.out g' e.symm).2; have h2 : wr.heap.size ≤ g' := hg1; omega))
            refine ⟨h1.1, ?_⟩
            rcases h1.2 with h | ⟨g, cap, cur, e, hb, rest⟩
            · exact .inl h
            · exact .inr ⟨g, cap, cur, e, Nat.le_trans HB.out.size hb, rest⟩
          have hsv4 : w4.ownsRow w1.heap.size 30 1 sv S.dur.length (D.map (·.2)) := ownsRow_chg' HOWN.out hc4 (fun i e e2 => ownsRow_ne HOWN2.out HOWN.out (by decide) i e2 e)
          have hrows4 : Rows w4 w1.heap.size ((D ++ L.map (·.2)) ++ [(x2, .slice (some ⟨g', 0, none⟩) 256 cap')]) := by
            refine (HROWS2.out.kept hc4 (fun x hx i e e2 => ?_)).push HX2.out ho4 (fun x hx e => ?_)
            · obtain ⟨_, g, cap, e3, hr⟩ := HROWS2.out.row x hx
              exact ownsRow_ne HOWN2.out hr (by decide) i e2 e
            · obtain ⟨_, g, cap, e3, hr⟩ := HROWS2.out.row x hx
              have h3 := (ownsRow_lt hr g' e).2
              have h2 : wr.heap.size ≤ g' := hg1
              omega
          have HB4 := Lib.hid hb4
          have HOWN4 := Lib.hid hown4
          have HSV4 := Lib.hid hsv4
          have HROWS4 := Lib.hid hrows4
          clear hb4 hown4 hsv4 hrows4 ho4 hc4 hgrow4 hat4 hlt4 hown3 ho3 hbs3 hS3 hn3 hb3 hw3 hS2 hg1 hg2 ho2 hb2 hS1 hS0
          go_wp2_with fail
          go_roundw
          case rel =>
            have htk : S.pend.take (j + 1) = S.pend.take j ++ [(x1, x2)] := by rw [List.take_add_one, List.getElem?_eq_getElem hltj, HX.out]; rfl
            refine ⟨j + 1, L ++ [(x1, x2, .slice (some ⟨g', 0, none⟩) 256 cap')], by omega, by go_num, by rw [List.map_append, HLm.out, htk]; rfl, by simpa [lrow] using HOWN4.out, HSV4.out, by simpa using HROWS4.out, HB4.out⟩
          case measure => simp [intOf]; omega
        · obtain rfl : j = S.pend.length := by omega
          have hLm : L.map (fun x => (x.1, x.2.1)) = S.pend := by rw [HLm.out, List.take_length]
          have n1 : wr.heap[w.heap.size]? = _ := (HB.out.block _ (by have := HS1.out; omega)).trans HN1.out
          have n2 : wr.heap[w.heap.size + 1]? = _ := (HB.out.block _ (by have := HS1.out; omega)).trans HN2.out
          have hsv : ∃ a cap, sv = .slice a S.dur.length cap := by
            rcases HOWN.out.2 with ⟨rfl, h0⟩ | ⟨g, cap, cur, rfl, _⟩
            · exact ⟨none, 0, by rw [h0]⟩
            · exact ⟨_, _, rfl⟩
          have hlv : ∃ a cap, u5 = .slice a S.pend.length cap := by
            rcases HOWN2.out.2 with ⟨rfl, h0⟩ | ⟨g, cap, cur, rfl, _⟩
            · exact ⟨none, 0, by rw [h0]⟩
            · exact ⟨_, _, rfl⟩
          obtain ⟨sa, sc, rfl⟩ := hsv
          obtain ⟨la, lc, rfl⟩ := hlv
          have hne : w.heap.size ≠ w.heap.size + 1 := by omega
          have f1 : ∀ i, wr.frozen? ⟨w.heap.size, i, none⟩ = false := fun i => frozen_of_row wr _ _ _ _ n1
          have f2 : ∀ i, wr.frozen? ⟨w.heap.size + 1, i, none⟩ = false := fun i => frozen_of_row wr _ _ _ _ n2
          have c10 : wr.cell? ⟨w.heap.size, 0, none⟩ = some (.slice ad S.dur.length capd) := by simp [World.cell?, n1]
          have c12 : wr.cell? ⟨w.heap.size, 2, none⟩ = some (.int .i64 (limI S)) := by simp [World.cell?, n1]
          have c13 : wr.cell? ⟨w.heap.size, 3, none⟩ = some (.bool S.down) := by simp [World.cell?, n1]
          have c14 : wr.cell? ⟨w.heap.size, 4, none⟩ = some (.int .i64 (S.ops : Int)) := by simp [World.cell?, n1]
          have c20 : wr.cell? ⟨w.heap.size + 1, 0, none⟩ = some (.slice none 0 0) := by simp [World.cell?, n2]
          have c21 : wr.cell? ⟨w.heap.size + 1, 1, none⟩ = some (.slice none 0 0) := by simp [World.cell?, n2]
          have c22 : wr.cell? ⟨w.heap.size + 1, 2, none⟩ = some (.int .i64 0) := by simp [World.cell?, n2]
          have c23 : wr.cell? ⟨w.heap.size + 1, 3, none⟩ = some (.bool false) := by simp [World.cell?, n2]
          have c24 : wr.cell? ⟨w.heap.size + 1, 4, none⟩ = some (.int .i64 0) := by simp [World.cell?, n2]
          have N1 := Lib.hid n1
          have N2 := Lib.hid n2
          have HLM := Lib.hid hLm
          clear n1 n2 hLm q0
          go_wp2_with fail
          obtain ⟨wf, hwf⟩ : ∃ wf, ((((((wr.setCell ⟨w.heap.size, 0, none⟩ (.slice sa S.dur.length sc)).setCell ⟨w.heap.size, 1, none⟩ (.slice la S.pend.length lc)).setCell ⟨w.heap.size + 1, 0, none⟩ (.slice sa S.dur.length sc)).setCell ⟨w.heap.size + 1, 1, none⟩ (.slice la S.pend.length lc)).setCell
            ⟨w.heap.size + 1, 2, none⟩ (.int .i64 (limI S))).setCell ⟨w.heap.size + 1, 3, none⟩ (.bool S.down)).setCell ⟨w.heap.size + 1, 4, none⟩ (.int .i64 (S.ops : Int)) = wf := ⟨_, rfl⟩
          have hh : wf.heap[w.heap.size + 1]? = some (.cells #[.slice sa S.dur.length sc, .slice la S.pend.length lc, .int .i64 (limI S), .bool S.down, .int .i64 (S.ops : Int)] 45 (0, 0)) := by
            rw [← hwf, heap_setCell_same _ _ _ _ _ _ (heap_setCell_same _ _ _ _ _ _ (heap_setCell_same _ _ _ _ _ _ (heap_setCell_same _ _ _ _ _ _ (heap_setCell_same _ _ _ _ _ _
              (((heap_setCell_other _ ⟨w.heap.size, 1, none⟩ _ _ (by show w.heap.size + 1 ≠ w.heap.size; omega)).trans (heap_setCell_other _ ⟨w.heap.size, 0, none⟩ _ _ (by show w.heap.size + 1 ≠ w.heap.size; omega))).trans N2.out)))))]
            rfl
          have hcf : Chg (fun i => i = w.heap.size ∨ i = w.heap.size + 1) wr wf := by
            have s := fun (x : World) (i k : Nat) (v : Value) (h : i = w.heap.size ∨ i = w.heap.size + 1) => Chg.setCell (F := fun i => i = w.heap.size ∨ i = w.heap.size + 1) x (a := ⟨i, k, none⟩) v h
            rw [← hwf]
            exact ((((((s wr _ _ _ (.inl rfl)).trans (s _ _ _ _ (.inl rfl)) (fun _ h => .inl h)).trans (s _ _ _ _ (.inr rfl)) (fun _ h => .inl h)).trans (s _ _ _ _ (.inr rfl)) (fun _ h => .inl h)).trans (s _ _ _ _ (.inr rfl)) (fun _ h => .inl h)).trans (s _ _ _ _ (.inr rfl)) (fun _ h => .inl h)).trans (s _ _ _ _ (.inr rfl)) (fun _ h => .inl h)
          have hX : RefOwnX wr w1.heap.size S (.slice sa S.dur.length sc) (.slice la S.pend.length lc) D L := ⟨HDe.out, HLM.out, HOWN.out, HOWN2.out, HROWS2.out⟩
          have hX2 := (hX.chg hcf (fun k hk h => by have := HS1.out; omega)).base (B' := w.heap.size) (by have := HS1.out; omega)
          have hbf : Below w.heap.size w wf := (HB1.out.trans (HB.out.mono (by have := HS1.out; omega))).trans (hcf.below (fun k h => by omega) (by have := HS1.out; have := HB.out.size; omega))
          rw [hwf]
          exact bodyPost_ret (v := refV S (.slice sa S.dur.length sc) (.slice la S.pend.length lc)) (results_cell_row (g := w.heap.size + 1) rfl _ _ _ _ _ _ rfl hh Try.underlying45 rfl infoD) rfl ⟨_, rfl, ⟨_, _, D, L, rfl, hX2⟩, hbf⟩

end Go.Proofs.Ytkklbmnbjmicnaa
