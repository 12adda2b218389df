/- The reference: counted, Visible, Read. -/
import Derived.Test.YtkklbmnbjmicnaaRef1
import Derived.Laws.ResultCell
namespace Go.Proofs.Ytkklbmnbjmicnaa
open Go.RowKit
set_option linter.unusedVariables false
set_option linter.unusedSimpArgs false

theorem results_cell_tmp_row {P : Program} {fn : Func} {p u : Tmp} {ty : TypeId} (h : fn.results = #[.cell p ty, .tmp u]) (tmps : Array Value) (w : World) (g : Nat) (t : TypeId) (cs : Array Value) (fr : Nat × Nat) (d : TypeDesc)
    (hp : tmps.getD p undef = .pointer (some ⟨g, 0, none⟩)) (hg : w.heap[g]? = some (.cells cs t fr)) (hu : P.underlying ty = some d) (hd : (match d with | .struct _ | .array _ _ => true | _ => false) = true) (hi : (P.info? ty).map (·.size) = some cs.size) :
    (results fn tmps).run P w = .ok (.tuple #[.agg cs, tmps.getD u undef]) w := by
  rw [results_cell_tmp h]
  have hp' : tmps[p]?.getD undef = .pointer (some ⟨g, 0, none⟩) := by simpa using hp
  simp [hp', asAddr, run_loadVar_row w g t ty cs fr d hg hu hd hi]

theorem infoD : (Try.prog.info? 45).map (·.size) = some 5 := by kernel_rfl

set_option maxHeartbeats 2000000 in
theorem ref_counted {w : World} {S : DS} (a a' : Option Addr) (n n' cap cap' : Nat) (hops : S.ops < 1000000000000) (hlim : S.limit.getD 0 ≤ 9223372036854775807) :
    Calls Try.prog 48 #[refV S (.slice a n cap) (.slice a' n' cap')] w fun e w' =>
      e = .returned (.tuple #[refV S.operate.1 (.slice a n cap) (.slice a' n' cap'), .bool (!S.operate.2)]) ∧ Below w.heap.size w w' := by
  unfold refV
  cases hl : S.limit with
  | none =>
    have e1 : S.operate = ({ S with ops := S.ops + 1 }, true) := by simp [DS.operate, hl]
    have e2 : limI S = -1 := by simp [limI, hl]
    have e3 : limI { S with ops := S.ops + 1 } = -1 := by simp [limI, hl]
    rw [e1]
    simp only [e2, e3]
    clear e1 e2 e3 hl
    go_enter Try.func48, Try.ntmps48
    go_wp2
    exact bodyPost_ret (results_cell_tmp_row (g := w.heap.size + 1) rfl _ _ _ _ _ _ rfl (heap_alloc2_new _ _ _) Try.underlying45 rfl infoD) rfl ⟨rfl, ((Below.refl _ _).alloc (Nat.le_refl _) _).alloc (by simp) _⟩
  | some k =>
    rw [hl] at hlim
    simp only [Option.getD_some] at hlim
    cases k with
    | zero =>
      have e1 : S.operate = ({ S with down := true }, false) := by simp [DS.operate, hl]
      have e2 : limI S = 0 := by simp [limI, hl]
      have e3 : limI { S with down := true } = 0 := by simp [limI, hl]
      rw [e1]
      simp only [e2, e3]
      clear e1 e2 e3 hl
      go_enter Try.func48, Try.ntmps48
      go_wp2
      exact bodyPost_ret (results_cell_tmp_row (g := w.heap.size + 1) rfl _ _ _ _ _ _ rfl (heap_alloc2_new _ _ _) Try.underlying45 rfl infoD) rfl ⟨rfl, ((Below.refl _ _).alloc (Nat.le_refl _) _).alloc (by simp) _⟩
    | succ k =>
      have e1 : S.operate = ({ S with limit := some k, ops := S.ops + 1 }, true) := by simp [DS.operate, hl]
      obtain ⟨x, hx⟩ : ∃ x : Int, x = ((k + 1 : Nat) : Int) := ⟨_, rfl⟩
      have e2 : limI S = x := by rw [hx]; simp [limI, hl]
      have e3 : limI { S with limit := some k, ops := S.ops + 1 } = x - 1 := by rw [hx]; simp [limI]
      rw [e1]
      simp only [e2, e3]
      have hx1 : 1 ≤ x := by omega
      have hx2 : x ≤ 9223372036854775807 := by omega
      have hx3 : (x == 0) = false := by simp; omega
      have hx4 : 0 < x := by omega
      clear e1 e2 e3 hl hx
      go_enter Try.func48, Try.ntmps48
      go_wp2
      exact bodyPost_ret (results_cell_tmp_row (g := w.heap.size + 1) rfl _ _ _ _ _ _ rfl (heap_alloc2_new _ _ _) Try.underlying45 rfl infoD) rfl ⟨rfl, ((Below.refl _ _).alloc (Nat.le_refl _) _).alloc (by simp) _⟩

theorem BytesAt.some' {w : World} {F : Nat → Prop} {v : Value} {l : List UInt8} (h : BytesAt w F v l) (hl : l.length = 256) :
    ∃ g off cap, v = .slice (some ⟨g, off, none⟩) 256 cap ∧ F g ∧ g < w.heap.size ∧ w.rangeAt g off (bvs l) := by
  obtain ⟨a, cap, rfl, hcap, hr⟩ := h
  obtain ⟨g, off, rfl, hF, hg, hr⟩ := hr (by intro e; rw [e] at hl; simp at hl)
  exact ⟨g, off, cap, by rw [hl], hF, hg, hr⟩

theorem visP_succ (l : List (Nat × List UInt8)) (s k : Nat) (hk : k < l.length) : visP (l.take (k + 1)) s = if l[k].1 = s then some l[k].2 else visP (l.take k) s := by
  unfold visP
  rw [List.take_add_one, List.getElem?_eq_getElem hk, Option.toList_some, List.reverse_append, List.reverse_cons, List.reverse_nil, List.nil_append, List.singleton_append, List.find?_cons]
  by_cases h : l[k].1 = s
  · simp [h]
  · have h2 : (l[k].1 == s) = false := by simpa using h
    simp [h, h2]

set_option maxRecDepth 100000 in
set_option maxHeartbeats 2000000 in
theorem ref_visible {w : World} {G : Nat → Prop} {S : DS} {v : Value} (s : Nat) (hs : s < S.dur.length) (h : RefAt w G S v) (hok : S.ok) (hlen : S.pend.length < 100000000) :
    Calls Try.prog 28 #[v, .int .i64 (s : Int)] w fun e w' => ∃ v', e = .returned v' ∧ w'.ownsRow w.heap.size 5 1 v' 256 (bvs (S.visible s)) ∧ Below w.heap.size w w' := by
  obtain ⟨dv, wv, rfl, hd, hw⟩ := h
  obtain ⟨i0, hi, hz0, hz1, hz2⟩ := info_parts infoByte
  obtain ⟨gd, capd, vs, rfl, hgd, _, hcs, hbs⟩ := hd.at s hs
  obtain ⟨D0, hD0⟩ : ∃ D0, S.dur[s] = D0 := ⟨_, rfl⟩
  have hD0l : D0.length = 256 := by rw [← hD0]; exact hok.dur _ (List.getElem_mem _)
  rw [hD0] at hbs
  obtain ⟨gs, os, caps, rfl, _, hgs, hrs⟩ := hbs.some' hD0l
  obtain ⟨a', cap', rfl⟩ := hw.len
  obtain ⟨w1, hw1⟩ : ∃ w1, w.alloc (.cells #[.slice (some ⟨gd, 0, none⟩) S.dur.length capd, .slice a' S.pend.length cap', .int .i64 (limI S), .bool S.down, .int .i64 (S.ops : Int)] 45) = w1 := ⟨_, rfl⟩
  have hb1 : Below w.heap.size w w1 := hw1 ▸ (Below.refl _ _).alloc (Nat.le_refl _) _
  have hs1 : w1.heap.size = w.heap.size + 1 := by rw [← hw1, World.size_alloc]
  have hn1 : w1.heap[w.heap.size]? = some (.cells #[.slice (some ⟨gd, 0, none⟩) S.dur.length capd, .slice a' S.pend.length cap', .int .i64 (limI S), .bool S.down, .int .i64 (S.ops : Int)] 45 (0, 0)) := by rw [← hw1]; exact heap_alloc_new _ _
  have hcell : ∀ wx, Below w1.heap.size w1 wx → wx.cell? ⟨w.heap.size, 0, none⟩ = some (.slice (some ⟨gd, 0, none⟩) S.dur.length capd) ∧ wx.cell? ⟨w.heap.size, 1, none⟩ = some (.slice a' S.pend.length cap') := fun wx hb => by
    have h1 : wx.heap[w.heap.size]? = _ := (hb.block _ (by omega)).trans hn1
    simp [World.cell?, h1]
  have hcs1 : w1.cell? ⟨gd, s, none⟩ = _ := (hb1.cell (p := ⟨gd, s, none⟩) hgd).trans hcs
  have HCS := Lib.hid hcs
  have HRS := Lib.hid hrs
  have HB1 := Lib.hid hb1
  have HS1 := Lib.hid hs1
  have HCELL := Lib.hid hcell
  have HW := Lib.hid hw
  have HD := Lib.hid hD0
  have HDL := Lib.hid hD0l
  have HOK := Lib.hid hok
  have hb2 : Below w1.heap.size w1 (w1.alloc (.cells #[] 5)) := (Below.refl _ _).alloc (Nat.le_refl _) _
  obtain ⟨q0, q1⟩ := hcell _ hb2
  have hcs2 : (w1.alloc (.cells #[] 5)).cell? ⟨gd, s, none⟩ = _ := (hb2.cell (p := ⟨gd, s, none⟩) (by show gd < _; omega)).trans hcs1
  clear hb2 hcs1
  clear hcs hrs hb1 hs1 hcell hw hD0 hD0l hok hd hbs hn1
  unfold refV
  go_enter Try.func28, Try.ntmps28
  go_wp2_with (at_builtin; refine wpList_append_own _ rfl _ _ 30 rfl w1.heap.size 5 i0 (.int .u8 0) 1 1 Try.underlying30 hi hz0 hz1 hz2 rfl (by decide) _ _ _ rfl (World.ownsRow_made w1 #[] 0 (Nat.le_refl _) (Nat.zero_le _) rfl) ⟨gs, os, none⟩ 256 caps (bvs D0) rfl ?qc1 ?qc2 ?qc3 ?qc4 ?qc5 ?qc6 ?_)
  case qc1 => rw [bvs_length, HDL.out]
  case qc2 =>
    intro j u hj
    rw [addr_add_none]
    have := HS1.out
    exact (World.cell?_of_block (Below.heap_alloc w1 _ gs (by omega))).trans ((HB1.out.cell (p := ⟨gs, os + j, none⟩) hgs).trans (HRS.out j u hj))
  case qc3 => exact bvs_oneCell
  case qc4 => unfold maxLen; omega
  case qc5 => omega
  case qc6 => simp
  intro v1 w2 hown hgrow hnil
  have hb2 : Below w1.heap.size w1 w2 := ((Below.refl _ w1).alloc (Nat.le_refl _) _).grown hgrow (by simp) (by intro k hk; simp [Value.ownBlock] at hk; omega)
  have hown2 : w2.ownsRow w1.heap.size 5 1 v1 256 (bvs D0) := by simpa using hown
  have HB2 := Lib.hid hb2
  have HO2 := Lib.hid hown2
  clear hown hgrow hnil hb2 hown2 q0 q1 hcs2
  go_wp2_with fail
  go_loopw [5, 6] (fun bv i wr => ∃ k : Nat, k ≤ S.pend.length ∧ i = .int .i64 (k : Int) ∧ wr.ownsRow w1.heap.size 5 1 bv 256 (bvs ((visP (S.pend.take k) s).getD D0)) ∧ Below w1.heap.size w1 wr)
    (fun _ i _ => S.pend.length - (intOf i).toNat)
  case atStart => exact ⟨0, Nat.zero_le _, rfl, HO2.out, HB2.out⟩
  case round =>
    obtain ⟨k, hk, rfl, hO, hB⟩ := hrel
    obtain ⟨q0, q1⟩ := HCELL.out wr hB
    have HO := Lib.hid hO
    have HB := Lib.hid hB
    clear hO hB
    by_cases hlt : k < S.pend.length
    · obtain ⟨gw, capw, vw, e, hgw, _, hc0, hc1, hbw⟩ := HW.out.at k hlt
      obtain ⟨rfl, rfl⟩ : a' = some ⟨gw, 0, none⟩ ∧ cap' = capw := by simpa using e
      obtain ⟨x1, x2, hx⟩ : ∃ x1 x2, S.pend[k] = (x1, x2) := ⟨_, _, rfl⟩
      have hx2 : x2.length = 256 := (HOK.out.pend (x1, x2) (hx ▸ List.getElem_mem hlt)).2
      rw [hx] at hc0 hbw
      obtain ⟨gb, ob, capb, rfl, _, hgb, hrb⟩ := hbw.some' hx2
      have hkeep : ∀ wx, Below w1.heap.size w1 wx → ∀ g o, g < w.heap.size → wx.cell? ⟨g, o, none⟩ = w.cell? ⟨g, o, none⟩ := fun wx hb g o hg =>
        (hb.cell (p := ⟨g, o, none⟩) (by have := HS1.out; show g < _; omega)).trans (HB1.out.cell (p := ⟨g, o, none⟩) hg)
      have r0 := (hkeep wr HB.out gw (k * 2) hgw).trans hc0
      have HX := Lib.hid hx
      have HX2 := Lib.hid hx2
      have HKEEP := Lib.hid hkeep
      have HRB := Lib.hid hrb
      have HC1 := Lib.hid hc1
      have hstep := visP_succ S.pend s k hlt
      rw [hx] at hstep
      have HST := Lib.hid hstep
      clear hx hx2 hkeep hrb hc0 hc1 hbw e hstep
      by_cases hxs : x1 = s
      · subst hxs
        have hb5 : Below wr.heap.size wr (wr.alloc (.cells #[] 5)) := (Below.refl _ _).alloc (Nat.le_refl _) _
        have hb6 : Below w1.heap.size w1 (wr.alloc (.cells #[] 5)) := HB.out.trans (hb5.mono HB.out.size)
        obtain ⟨q2, q3⟩ := HCELL.out _ hb6
        have r1 := (HKEEP.out _ hb6 gw (k * 2 + 1) hgw).trans HC1.out
        clear hb5 hb6
        go_wp2_with (at_builtin; refine wpList_append_own _ rfl _ _ 30 rfl wr.heap.size 5 i0 (.int .u8 0) 1 1 Try.underlying30 hi hz0 hz1 hz2 rfl (by decide) _ _ _ rfl (World.ownsRow_made wr #[] 0 (Nat.le_refl _) (Nat.zero_le _) rfl) ⟨gb, ob, none⟩ 256 capb (bvs x2) rfl ?qc1 ?qc2 ?qc3 ?qc4 ?qc5 ?qc6 ?_)
        case qc1 => simpa using HX2.out
        case qc2 =>
          intro j u hj
          try rw [addr_add_none]
          have := HS1.out
          have := HB.out.size
          exact (World.cell?_of_block (Below.heap_alloc wr _ gb (by omega))).trans ((HKEEP.out wr HB.out gb (ob + j) hgb).trans (HRB.out j u hj))
        case qc3 => exact bvs_oneCell
        case qc4 => unfold maxLen; omega
        intro v3 w3 hown hgrow hnil
        have hb3 : Below wr.heap.size wr w3 := ((Below.refl _ wr).alloc (Nat.le_refl _) _).grown hgrow (by simp) (by intro k hk; simp [Value.ownBlock] at hk; omega)
        have hown3 : w3.ownsRow w1.heap.size 5 1 v3 256 (bvs x2) := by
          have h0 : w3.ownsRow wr.heap.size 5 1 v3 256 (bvs x2) := by simpa using hown
          refine ⟨h0.1, ?_⟩
          rcases h0.2 with h | ⟨g, cap, cur, e, hb, rest⟩
          · exact .inl h
          · exact .inr ⟨g, cap, cur, e, Nat.le_trans HB.out.size hb, rest⟩
        have HB3 := Lib.hid hb3
        have HO3 := Lib.hid hown3
        clear hown hgrow hnil hb3 hown3 q0 q1 q2 q3 r0 r1
        go_wp2_with fail
        go_roundw
        case rel => exact ⟨k + 1, by omega, by go_num, by rw [HST.out]; simpa using HO3.out, HB.out.trans (HB3.out.mono HB.out.size)⟩
        case measure => simp [intOf]; omega
      · have hxs' : ¬ (x1 : Int) = (s : Int) := by omega
        go_wp2_with fail
        go_roundw
        case rel => exact ⟨k + 1, by omega, by go_num, by rw [HST.out, if_neg hxs]; exact HO.out, HB.out⟩
        case measure => simp [intOf]; omega
    · obtain rfl : k = S.pend.length := by omega
      go_wp2_with fail
      go_ret
      have hO := HO.out
      have e9 : (visP S.pend s).getD D0 = S.visible s := by
        unfold DS.visible
        congr 1
        rw [← HD.out]; simp [hs]
      rw [List.take_length, e9] at hO
      have := HB1.out.size
      refine ⟨_, rfl, ⟨hO.1, ?_⟩, HB1.out.trans (HB.out.mono this)⟩
      rcases hO.2 with h | ⟨g, cap, cur, e, hb, rest⟩
      · exact .inl h
      · exact .inr ⟨g, cap, cur, e, Nat.le_trans this hb, rest⟩

set_option maxHeartbeats 2000000 in
theorem ref_read {w : World} {G : Nat → Prop} {S : DS} {v : Value} (s : Int) (h : RefAt w G S v) (hok : S.ok) (hlen : S.pend.length < 100000000) :
    Calls Try.prog 47 #[v, .int .i64 s] w fun e w' => ∃ v', e = .returned (.tuple #[v', .int .i64 (S.readE s)]) ∧ BytesAt w' (fun k => w.heap.size ≤ k) v' (S.readB s) ∧ Below w.heap.size w w' := by
  have HH := Lib.hid h
  have HOK := Lib.hid hok
  obtain ⟨dv, wv, rfl, hd, hw⟩ := h
  obtain ⟨a, cap, rfl⟩ := hd.len
  obtain ⟨a', cap', rfl⟩ := hw.len
  obtain ⟨w1, hw1⟩ : ∃ w1, w.alloc (.cells #[.slice a S.dur.length cap, .slice a' S.pend.length cap', .int .i64 (limI S), .bool S.down, .int .i64 (S.ops : Int)] 45) = w1 := ⟨_, rfl⟩
  have hb1 : Below w.heap.size w w1 := hw1 ▸ (Below.refl _ _).alloc (Nat.le_refl _) _
  have hn1 : w1.heap[w.heap.size]? = some (.cells #[.slice a S.dur.length cap, .slice a' S.pend.length cap', .int .i64 (limI S), .bool S.down, .int .i64 (S.ops : Int)] 45 (0, 0)) := by rw [← hw1]; exact heap_alloc_new _ _
  have hs1 : w.heap.size < w1.heap.size := by rw [← hw1, World.size_alloc]; omega
  have q3 : w1.cell? ⟨w.heap.size, 3, none⟩ = some (.bool S.down) := by simp [World.cell?, hn1]
  have hall : ∀ wx, Below w1.heap.size w1 wx → wx.cell? ⟨w.heap.size, 0, none⟩ = some (.slice a S.dur.length cap) ∧ wx.cell? ⟨w.heap.size, 1, none⟩ = some (.slice a' S.pend.length cap') ∧ wx.cell? ⟨w.heap.size, 2, none⟩ = some (.int .i64 (limI S)) ∧
      wx.cell? ⟨w.heap.size, 3, none⟩ = some (.bool S.down) ∧ wx.cell? ⟨w.heap.size, 4, none⟩ = some (.int .i64 (S.ops : Int)) := fun wx hb => by
    have h1 : wx.heap[w.heap.size]? = _ := (hb.block _ hs1).trans hn1
    simp [World.cell?, h1]
  have HB1 := Lib.hid hb1
  have HALL := Lib.hid hall
  clear hd hw hb1 hn1 hs1 hall hok
  unfold refV at HH ⊢
  cases hdn : S.down with
  | true =>
    have e1 : S.readE s = 28 := by simp [DS.readE, hdn]
    have e2 : S.readB s = [] := by simp [DS.readB, hdn]
    rw [e1, e2]
    rw [hdn] at q3 hw1
    clear e1 e2 HH HALL
    go_enter Try.func47, Try.ntmps47
    go_wp2
    go_ret2
    exact ⟨_, rfl, bytesAt_nil _ _, HB1.out⟩
  | false =>
    rw [hdn] at q3 hw1
    obtain ⟨q0, q1, q2, q3', q4⟩ := HALL.out w1 (Below.refl _ _)
    rw [hdn] at HH
    have HD := Lib.hid hdn
    clear hdn q3'
    cases hh : S.has s with
    | false =>
      have e1 : S.readE s = 8 := by simp [DS.readE, HD.out, hh]
      have e2 : S.readB s = [] := by simp [DS.readB, HD.out, hh]
      rw [e1, e2]
      clear e1 e2
      go_enter Try.func47, Try.ntmps47
      go_wp2_with fail
      refine (ref_is s (HH.out.below HB1.out)).mono ?_
      rw [hh]
      rintro e w2 ⟨rfl, hb2⟩
      go_wp2_with fail
      go_ret2
      exact ⟨_, rfl, bytesAt_nil _ _, HB1.out.trans (hb2.mono HB1.out.size)⟩
    | true =>
      have hs : 0 ≤ s ∧ s < (S.dur.length : Int) := by simpa [DS.has] using hh
      obtain ⟨k, rfl⟩ := Int.eq_ofNat_of_zero_le hs.1
      have hlk : k < S.dur.length := by omega
      have e1 : S.readE k = 0 := by simp [DS.readE, HD.out, hh]
      have e2 : S.readB k = S.visible k := by simp [DS.readB, HD.out, hh]
      rw [e1, e2]
      clear e1 e2
      go_enter Try.func47, Try.ntmps47
      go_wp2_with fail
      refine (ref_is (k : Int) (HH.out.below HB1.out)).mono ?_
      rw [hh]
      rintro e w2 ⟨rfl, hb2⟩
      obtain ⟨r0, r1, r2, r3, r4⟩ := HALL.out w2 hb2
      rw [HD.out] at r3
      have HB2 := Lib.hid hb2
      clear q0 q1 q2 q3 q4 hb2 hs hh
      go_wp2_with fail
      have hbb : Below w.heap.size w w2 := HB1.out.trans (HB2.out.mono HB1.out.size)
      refine (ref_visible k hlk (HH.out.below hbb) HOK.out hlen).mono ?_
      rintro e w3 ⟨v', rfl, hown, hb3⟩
      have hv := ownsRow_bytes hown (visible_length HOK.out hlk)
      obtain ⟨g, off, cp, rfl, hg, hgl, hrr⟩ := hv.some' (visible_length HOK.out hlk)
      have hv' : BytesAt w3 (fun j => w.heap.size ≤ j) (.slice (some ⟨g, off, none⟩) 256 cp) (S.visible k) := hv.mono (fun j h => Nat.le_trans hbb.size h)
      have HV := Lib.hid hv'
      have HBB := Lib.hid (hbb.trans (hb3.mono hbb.size))
      clear hown hb3 hv hg hgl hrr hv' hbb r0 r1 r2 r3 r4
      go_wp2_with fail
      go_ret2
      exact ⟨_, rfl, HV.out, HBB.out⟩

end Go.Proofs.Ytkklbmnbjmicnaa
