/- The reference's Same. -/
import Derived.Test.YtkklbmnbjmicnaaEq5
namespace Go.Proofs.Ytkklbmnbjmicnaa
open Go.RowKit Go.Shelf
set_option linter.unusedVariables false
set_option linter.unusedSimpArgs false

theorem limI_inj {S S' : DS} (h : limI S = limI S') : S.limit = S'.limit := by
  unfold limI at h
  cases hA : S.limit <;> cases hB : S'.limit <;> rw [hA, hB] at h <;> simp at h ⊢ <;> omega

set_option maxRecDepth 100000 in
set_option maxHeartbeats 2000000 in
theorem Same_any {w : World} {G G' : Nat → Prop} {S S' : DS} {v v' : Value} (h : RefAt w G S v) (h' : RefAt w G' S' v') (hok : S.ok) (hlen : S.pend.length < 100000000) :
    Calls Try.prog 33 #[v, v'] w fun e w' => e = .returned (.bool (decide (sameDS S S'))) ∧ Below w.heap.size w w' := by
  obtain ⟨dv, wv, rfl, hd, hw⟩ := h
  obtain ⟨dv', wv', rfl, hd', hw'⟩ := h'
  obtain ⟨ad, cd, rfl⟩ := hd.len
  obtain ⟨aw, cw, rfl⟩ := hw.len
  obtain ⟨ad', cd', rfl⟩ := hd'.len
  obtain ⟨aw', cw', rfl⟩ := hw'.len
  unfold refV
  by_cases hne : ¬ ((S.dur.length : Int) = (S'.dur.length : Int) ∧ (S.pend.length : Int) = (S'.pend.length : Int) ∧ S.down = S'.down ∧ limI S = limI S')
  · have hf : decide (sameDS S S') = false := by
      simp only [decide_eq_false_iff_not]
      rintro ⟨q1, q2, q3, q4⟩
      exact hne ⟨by rw [q1], by rw [q2], q4, by unfold limI; rw [q3]⟩
    rw [hf]
    exact Same_head _ _ _ _ _ _ _ _ _ _ _ _ _ _ _ _ _ _ hne
  · obtain ⟨hn, hp, hdn, hl⟩ := Classical.not_not.1 hne
    have hlim := limI_inj hl
    have hn' : S'.dur.length = S.dur.length := by omega
    have hp' : S'.pend.length = S.pend.length := by omega
    rw [hn', hp', ← hdn, ← hl]
    obtain ⟨w1, hw1⟩ : ∃ w1, w.alloc (.cells #[.slice ad S.dur.length cd, .slice aw S.pend.length cw, .int .i64 (limI S), .bool S.down, .int .i64 (S.ops : Int)] 45) = w1 := ⟨_, rfl⟩
    have n1 : w1.heap[w.heap.size]? = some (.cells #[.slice ad S.dur.length cd, .slice aw S.pend.length cw, .int .i64 (limI S), .bool S.down, .int .i64 (S.ops : Int)] 45 (0, 0)) := by rw [← hw1]; exact heap_alloc_new w _
    have hb1 : Below w.heap.size w w1 := hw1 ▸ (Below.refl _ _).alloc (Nat.le_refl _) _
    have hs1 : w1.heap.size = w.heap.size + 1 := by rw [← hw1, World.size_alloc]
    obtain ⟨w2, hw2⟩ : ∃ w2, w1.alloc (.cells #[.slice ad' S.dur.length cd', .slice aw' S.pend.length cw', .int .i64 (limI S), .bool S.down, .int .i64 (S'.ops : Int)] 45) = w2 := ⟨_, rfl⟩
    have n2 : w2.heap[w.heap.size + 1]? = some (.cells #[.slice ad' S.dur.length cd', .slice aw' S.pend.length cw', .int .i64 (limI S), .bool S.down, .int .i64 (S'.ops : Int)] 45 (0, 0)) := by rw [← hw2, ← hs1]; exact heap_alloc_new w1 _
    have hb12 : Below w1.heap.size w1 w2 := hw2 ▸ (Below.refl _ _).alloc (Nat.le_refl _) _
    have hb2 : Below w.heap.size w w2 := hb1.trans (hb12.mono (by omega))
    have hs2 : w2.heap.size = w.heap.size + 2 := by rw [← hw2, World.size_alloc, hs1]
    have n1' : w2.heap[w.heap.size]? = _ := (hb12.block _ (by omega)).trans n1
    have hcell : ∀ wr, Below w2.heap.size w2 wr → _ := fun wr hb => cells5 ((hb.block w.heap.size (by omega)).trans n1')
    have hcell' : ∀ wr, Below w2.heap.size w2 wr → _ := fun wr hb => cells5 ((hb.block (w.heap.size + 1) (by omega)).trans n2)
    obtain ⟨c0, c1, c2, c3, c4, cf⟩ := hcell w2 (Below.refl _ _)
    obtain ⟨k0, k1, k2, k3, k4, kf⟩ := hcell' w2 (Below.refl _ _)
    have hd2 := hd.kept (F := fun _ => False) (Chg.of_below hb2) (fun _ _ h => h)
    have hw2' := hw.kept (F := fun _ => False) (Chg.of_below hb2) (fun _ _ h => h)
    have hd3 := hd'.kept (F := fun _ => False) (Chg.of_below hb2) (fun _ _ h => h)
    have hw3 := hw'.kept (F := fun _ => False) (Chg.of_below hb2) (fun _ _ h => h)
    have hmost := hok.most
    have HB2 := Lib.hid hb2
    have HCELL := Lib.hid hcell
    have HCELL' := Lib.hid hcell'
    have HD := Lib.hid hd2
    have HW := Lib.hid hw2'
    have HD' := Lib.hid hd3
    have HW' := Lib.hid hw3
    have HN := Lib.hid hn'
    have HP := Lib.hid hp'
    have HLIM := Lib.hid hlim
    have HDN := Lib.hid hdn
    clear hn' hp' hlim hd hd' hw hw' hd2 hd3 hw2' hw3 n1 n1' n2 hb1 hb12 hb2 hcell hcell' hok hne hn hp hdn hl
    go_enter Try.func33, Try.ntmps33
    go_wp2_with (rw [hw1, hw2])
    clear c0 c1 c2 c3 c4 cf k0 k1 k2 k3 k4 kf hw1 hw2 hs1 hs2
    go_loopw [5] (fun i wr => ∃ k : Nat, k ≤ S.dur.length ∧ i = .int .i64 (k : Int) ∧ (∀ q, q < k → S.dur[q]? = S'.dur[q]?) ∧ Below w2.heap.size w2 wr) (fun i _ => S.dur.length - (intOf i).toNat)
    case atStart => exact ⟨0, Nat.zero_le _, rfl, fun i hi => by omega, Below.refl _ _⟩
    case round =>
      obtain ⟨k, hk, rfl, hs, hB⟩ := hrel
      obtain ⟨c0, c1, c2, c3, c4, cf⟩ := HCELL.out wr hB
      obtain ⟨k0, k1, k2, k3, k4, kf⟩ := HCELL'.out wr hB
      have HS := Lib.hid hs
      have HB := Lib.hid hB
      clear hs hB
      by_cases hlt : k < S.dur.length
      · have hlt' : k < S'.dur.length := by have := HN.out; omega
        obtain ⟨g, gc, u, e, hg, _, hc, hub⟩ := HD.out.at k hlt
        simp only [Value.slice.injEq] at e
        obtain ⟨rfl, _, rfl⟩ := e
        obtain ⟨g', gc', u', e, hg', _, hc', hub'⟩ := HD'.out.at k hlt'
        have e2 := HN.out
        simp only [Value.slice.injEq] at e
        obtain ⟨rfl, e3, rfl⟩ := e
        clear e2 e3
        have p0 := (HB.out.cell (p := ⟨g, k, none⟩) hg).trans hc
        have p1 := (HB.out.cell (p := ⟨g', k, none⟩) hg').trans hc'
        have hu2 := hub.kept (G := fun _ => False) (Chg.of_below HB.out) (fun _ _ h => h)
        have hu2' := hub'.kept (G := fun _ => False) (Chg.of_below HB.out) (fun _ _ h => h)
        obtain ⟨x, hx⟩ : ∃ x, S.dur[k] = x := ⟨_, rfl⟩
        obtain ⟨y, hy⟩ : ∃ y, S'.dur[k] = y := ⟨_, rfl⟩
        have hxe : S.dur[k]? = some x := by rw [List.getElem?_eq_getElem hlt, hx]
        have hye : S'.dur[k]? = some y := by rw [List.getElem?_eq_getElem hlt', hy]
        rw [hx] at hu2
        rw [hy] at hu2'
        have HX := Lib.hid hxe
        have HY := Lib.hid hye
        have HU := Lib.hid hu2
        have HU' := Lib.hid hu2'
        clear hx hy hxe hye hu2 hu2' hub hub' hc hc' hg hg'
        by_cases hxy : x = y
        · have hd : decide (x = y) = true := by simpa using hxy
          have hs2 : ∀ q, q < k + 1 → S.dur[q]? = S'.dur[q]? := fun q hq => by
            by_cases h1 : q = k
            · subst h1; rw [HX.out, HY.out, hxy]
            · exact HS.out q (by omega)
          have HS2 := Lib.hid hs2
          clear hs2 hxy
          go_wp2_with fail
          go_quiet (first | (go_at_call 54; exact Calls.quiet_of_same ((ref_same2 (HU.out.drewN _) (HU'.out.drewN _) hd).mono fun _ _ h => ⟨h.1, h.2⟩)))
          obtain ⟨w5, hw5⟩ : ∃ w5, wr.drewN nq = w5 := ⟨_, rfl⟩
          have hb5 : Below w2.heap.size w2 w5 := hw5 ▸ HB.out.trans ((Below.drewN' wr nq _).mono HB.out.size)
          have HB5 := Lib.hid hb5
          rw [hw5]
          clear hb5 hw5 p0 p1 c0 c1 c2 c3 c4 cf k0 k1 k2 k3 k4 kf
          go_wp2_with fail
          go_roundw
          case rel => exact ⟨k + 1, by omega, by go_num, HS2.out, HB5.out⟩
          case measure => simp [intOf]; omega
        · have hd : decide (x = y) = false := by simpa using hxy
          have hll : decide (sameDS S S') = false := by
            simp only [decide_eq_false_iff_not]
            intro e
            have := HX.out
            rw [e.1] at this
            exact hxy (Option.some.inj (this.symm.trans HY.out))
          have HLL := Lib.hid hll
          clear hxy hll
          go_wp2_with fail
          go_quiet (first | (go_at_call 54; exact Calls.quiet_of_same ((ref_same2 (HU.out.drewN _) (HU'.out.drewN _) hd).mono fun _ _ h => ⟨h.1, h.2⟩)))
          obtain ⟨w5, hw5⟩ : ∃ w5, wr.drewN nq = w5 := ⟨_, rfl⟩
          have hb5 : Below w2.heap.size w2 w5 := hw5 ▸ HB.out.trans ((Below.drewN' wr nq _).mono HB.out.size)
          have HB5 := Lib.hid hb5
          rw [hw5]
          clear hb5 hw5 p0 p1 c0 c1 c2 c3 c4 cf k0 k1 k2 k3 k4 kf
          go_wp2_with fail
          go_ret
          exact ⟨by rw [HLL.out]; rfl, HB2.out.trans (HB5.out.mono HB2.out.size)⟩
      · obtain rfl : k = S.dur.length := by omega
        have hdur : S.dur = S'.dur := by
          apply List.ext_getElem?
          intro i
          by_cases hi : i < S.dur.length
          · exact HS.out i hi
          · rw [List.getElem?_eq_none (by omega), List.getElem?_eq_none (by have := HN.out; omega)]
        have HDUR := Lib.hid hdur
        have HB3 := Lib.hid (HB.out)
        clear hdur HS HB
        go_wp2_with fail
        clear c0 c1 c2 c3 c4 cf k0 k1 k2 k3 k4 kf
        go_loopw [6] (fun i wx => ∃ k : Nat, k ≤ S.pend.length ∧ i = .int .i64 (k : Int) ∧ (∀ q, q < k → S.pend[q]? = S'.pend[q]?) ∧ Below w2.heap.size w2 wx) (fun i _ => S.pend.length - (intOf i).toNat)
        case atStart => exact ⟨0, Nat.zero_le _, rfl, fun i hi => by omega, HB3.out⟩
        case round =>
          clear HB3
          obtain ⟨j, hj, rfl, hs, hB⟩ := hrel
          obtain ⟨c0, c1, c2, c3, c4, cf⟩ := HCELL.out wr hB
          obtain ⟨k0, k1, k2, k3, k4, kf⟩ := HCELL'.out wr hB
          have HS := Lib.hid hs
          have HB := Lib.hid hB
          clear hs hB
          by_cases hlt : j < S.pend.length
          · have hlt' : j < S'.pend.length := by have := HP.out; omega
            obtain ⟨g, gc, u, e, hg, _, hc0, hc, hub⟩ := HW.out.at j hlt
            simp only [Value.slice.injEq] at e
            obtain ⟨rfl, _, rfl⟩ := e
            obtain ⟨g', gc', u', e, hg', _, hc0', hc', hub'⟩ := HW'.out.at j hlt'
            have e2 := HP.out
            simp only [Value.slice.injEq] at e
            obtain ⟨rfl, e3, rfl⟩ := e
            clear e2 e3
            obtain ⟨x1, x2, hx⟩ : ∃ x1 x2, S.pend[j] = (x1, x2) := ⟨_, _, rfl⟩
            obtain ⟨y1, y2, hy⟩ : ∃ y1 y2, S'.pend[j] = (y1, y2) := ⟨_, _, rfl⟩
            have hxe : S.pend[j]? = some (x1, x2) := by rw [List.getElem?_eq_getElem hlt, hx]
            have hye : S'.pend[j]? = some (y1, y2) := by rw [List.getElem?_eq_getElem hlt', hy]
            rw [hx] at hub hc0
            rw [hy] at hub' hc0'
            simp only at hub hc0 hub' hc0'
            have p0 := (HB.out.cell (p := ⟨g, j * 2, none⟩) hg).trans hc0
            have p1 := (HB.out.cell (p := ⟨g', j * 2, none⟩) hg').trans hc0'
            have q0 := (HB.out.cell (p := ⟨g, j * 2 + 1, none⟩) hg).trans hc
            have q1 := (HB.out.cell (p := ⟨g', j * 2 + 1, none⟩) hg').trans hc'
            have hu2 := hub.kept (G := fun _ => False) (Chg.of_below HB.out) (fun _ _ h => h)
            have hu2' := hub'.kept (G := fun _ => False) (Chg.of_below HB.out) (fun _ _ h => h)
            have HX := Lib.hid hxe
            have HY := Lib.hid hye
            have HU := Lib.hid hu2
            have HU' := Lib.hid hu2'
            clear hx hy hxe hye hu2 hu2' hub hub' hc hc' hg hg' hc0 hc0'
            by_cases hnum : (x1 : Int) = (y1 : Int)
            · have hnb : ((x1 : Int) != (y1 : Int)) = false := by simpa using hnum
              have hxy1 : x1 = y1 := by omega
              by_cases hxy : x2 = y2
              · have hd : decide (x2 = y2) = true := by simpa using hxy
                have hs2 : ∀ q, q < j + 1 → S.pend[q]? = S'.pend[q]? := fun q hq => by
                  by_cases h1 : q = j
                  · subst h1; rw [HX.out, HY.out, hxy, hxy1]
                  · exact HS.out q (by omega)
                have HS2 := Lib.hid hs2
                clear hs2 hxy hxy1
                go_wp2_with fail
                go_quiet (first | (go_at_call 54; exact Calls.quiet_of_same ((ref_same2 (HU.out.drewN _) (HU'.out.drewN _) hd).mono fun _ _ h => ⟨h.1, h.2⟩)))
                obtain ⟨w5, hw5⟩ : ∃ w5, wr.drewN nq = w5 := ⟨_, rfl⟩
                have hb5 : Below w2.heap.size w2 w5 := hw5 ▸ HB.out.trans ((Below.drewN' wr nq _).mono HB.out.size)
                have HB5 := Lib.hid hb5
                rw [hw5]
                clear hb5 hw5 p0 p1 q0 q1 c0 c1 c2 c3 c4 cf k0 k1 k2 k3 k4 kf
                go_wp2_with fail
                go_roundw
                case rel => exact ⟨j + 1, by omega, by go_num, HS2.out, HB5.out⟩
                case measure => simp [intOf]; omega
              · have hd : decide (x2 = y2) = false := by simpa using hxy
                have hll : decide (sameDS S S') = false := by
                  simp only [decide_eq_false_iff_not]
                  intro e
                  have := HX.out
                  rw [e.2.1] at this
                  have h9 := Option.some.inj (this.symm.trans HY.out)
                  exact hxy (Prod.mk.inj h9).2
                have HLL := Lib.hid hll
                clear hxy hll hxy1
                go_wp2_with fail
                go_quiet (first | (go_at_call 54; exact Calls.quiet_of_same ((ref_same2 (HU.out.drewN _) (HU'.out.drewN _) hd).mono fun _ _ h => ⟨h.1, h.2⟩)))
                obtain ⟨w5, hw5⟩ : ∃ w5, wr.drewN nq = w5 := ⟨_, rfl⟩
                have hb5 : Below w2.heap.size w2 w5 := hw5 ▸ HB.out.trans ((Below.drewN' wr nq _).mono HB.out.size)
                have HB5 := Lib.hid hb5
                rw [hw5]
                clear hb5 hw5 p0 p1 q0 q1 c0 c1 c2 c3 c4 cf k0 k1 k2 k3 k4 kf
                go_wp2_with fail
                go_ret
                exact ⟨by rw [HLL.out]; rfl, HB2.out.trans (HB5.out.mono HB2.out.size)⟩
            · have hnb : ((x1 : Int) != (y1 : Int)) = true := by simpa using hnum
              have hll : decide (sameDS S S') = false := by
                simp only [decide_eq_false_iff_not]
                intro e
                have := HX.out
                rw [e.2.1] at this
                have h9 := Option.some.inj (this.symm.trans HY.out)
                exact hnum (by rw [(Prod.mk.inj h9).1])
              have HLL := Lib.hid hll
              clear hll
              go_wp2_with fail
              go_quiet (fail)
              obtain ⟨w5, hw5⟩ : ∃ w5, wr.drewN nq = w5 := ⟨_, rfl⟩
              have hb5 : Below w2.heap.size w2 w5 := hw5 ▸ HB.out.trans ((Below.drewN' wr nq _).mono HB.out.size)
              have HB5 := Lib.hid hb5
              rw [hw5]
              clear hb5 hw5 p0 p1 q0 q1 c0 c1 c2 c3 c4 cf k0 k1 k2 k3 k4 kf
              go_wp2_with fail
              go_ret
              exact ⟨by rw [HLL.out]; rfl, HB2.out.trans (HB5.out.mono HB2.out.size)⟩
          · obtain rfl : j = S.pend.length := by omega
            have hll : decide (sameDS S S') = true := by
              simp only [decide_eq_true_iff]
              refine ⟨HDUR.out, ?_, HLIM.out, HDN.out⟩
              apply List.ext_getElem?
              intro i
              by_cases hi : i < S.pend.length
              · exact HS.out i hi
              · rw [List.getElem?_eq_none (by omega), List.getElem?_eq_none (by have := HP.out; omega)]
            have HLL := Lib.hid hll
            clear hll
            go_wp2_with fail
            go_ret
            exact ⟨by rw [HLL.out]; rfl, HB2.out.trans (HB.out.mono HB2.out.size)⟩

end Go.Proofs.Ytkklbmnbjmicnaa
