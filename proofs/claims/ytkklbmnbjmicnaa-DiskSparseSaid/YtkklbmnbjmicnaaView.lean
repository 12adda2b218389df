/- view: the device looks as the reference says. -/
import Derived.Test.YtkklbmnbjmicnaaDo2
import Derived.Test.YtkklbmnbjmicnaaDisk12
namespace Go.Proofs.Ytkklbmnbjmicnaa
open Go.RowKit Go.Shelf
set_option linter.unusedVariables false
set_option linter.unusedSimpArgs false

theorem Chg.drewN (F : Nat → Prop) (w : World) (n : Nat) : Chg F w (w.drewN n) := ⟨rfl, rfl, rfl, Nat.le_refl _, fun _ _ _ => rfl⟩
theorem Below.drewN' (w : World) (n B : Nat) : Below B w (w.drewN n) := ⟨rfl, rfl, rfl, Nat.le_refl _, fun _ _ => rfl⟩
theorem DiskAt.drewN {w : World} {F : Nat → Prop} {b : Nat} {S : DS} (h : DiskAt w F b S) (n : Nat) : DiskAt (w.drewN n) F b S := h.chg (G := fun _ => False) (Chg.drewN _ w n) (fun _ _ h => h)
theorem BytesAt.drewN {w : World} {F : Nat → Prop} {v : Value} {l : List UInt8} (h : BytesAt w F v l) (n : Nat) : BytesAt (w.drewN n) F v l := h.kept (G := fun _ => False) (Chg.drewN _ w n) (fun _ _ h => h)

theorem WritesAt.at {T : TypeId} {w : World} {B : Nat} {G : Nat → Prop} {v : Value} {l : List (Nat × List UInt8)} (h : WritesAt T w B G v l) (i : Nat) (hi : i < l.length) :
    ∃ g cap u, v = .slice (some ⟨g, 0, none⟩) l.length cap ∧ g < w.heap.size ∧ w.cell? ⟨g, i * 2, none⟩ = some (.int .i64 (l[i].1 : Int)) ∧ w.cell? ⟨g, i * 2 + 1, none⟩ = some u ∧ BytesAt w G u l[i].2 := by
  obtain ⟨L, hL, hr, hb⟩ := h
  obtain ⟨g, cap, e, hg, hob, hc⟩ := ownsRow_at hr (by omega)
  have hl : L.length = l.length := by rw [← hL, List.length_map]
  have hiL : i < L.length := by omega
  have hx := lrow_at L i hiL
  have e2 : l[i] = (L[i].1, L[i].2.1) := by simp [← hL]
  refine ⟨g, cap, L[i].2.2, e, hg, ?_, hc _ _ hx.2, ?_⟩
  · rw [e2]; exact hc _ _ hx.1
  · rw [e2]; exact (hb L[i] (List.getElem_mem hiL)).mono (fun k h => h.1)

set_option maxRecDepth 100000 in
set_option maxHeartbeats 2000000 in
theorem view_any {w : World} {F G : Nat → Prop} {b : Nat} {S : DS} {v : Value} (h : DiskAt w F b S) (hr : RefAt w G S v) (hlen : S.pend.length < 1000000) :
    Calls Try.prog 29 #[.pointer (some ⟨b, 0, none⟩), v] w fun e w' => e = .returned (.bool true) ∧ Below w.heap.size w w' := by
  have hok := h.ok
  have hm := hok.most
  have HH := Lib.hid h
  have HR := Lib.hid hr
  have HOK := Lib.hid hok
  obtain ⟨dv, wv, rfl, hdu, hw⟩ := hr
  obtain ⟨ad, capd, rfl⟩ := hdu.len
  obtain ⟨aw, capw, rfl⟩ := hw.len
  have HDU := Lib.hid hdu
  have HW := Lib.hid hw
  clear hdu hw hok h
  unfold refV at HR ⊢
  obtain ⟨w1, hw1⟩ : ∃ w1, w.alloc (.cells #[.slice ad S.dur.length capd, .slice aw S.pend.length capw, .int .i64 (limI S), .bool S.down, .int .i64 (S.ops : Int)] 45) = w1 := ⟨_, rfl⟩
  have n1 : w1.heap[w.heap.size]? = some (.cells #[.slice ad S.dur.length capd, .slice aw S.pend.length capw, .int .i64 (limI S), .bool S.down, .int .i64 (S.ops : Int)] 45 (0, 0)) := by rw [← hw1]; exact heap_alloc_new w _
  have hb1 : Below w.heap.size w w1 := hw1 ▸ (Below.refl _ _).alloc (Nat.le_refl _) _
  have hs1 : w1.heap.size = w.heap.size + 1 := by rw [← hw1, World.size_alloc]
  obtain ⟨c0, c1, c2, c3, c4, cf⟩ := cells5 n1
  have hD1 := HH.out.below hb1
  have HN1 := Lib.hid n1
  have HB1 := Lib.hid hb1
  have HS1 := Lib.hid hs1
  have HD1 := Lib.hid hD1
  clear n1 hb1 hs1 hD1
  go_enter Try.func29, Try.ntmps29
  go_wp2_with fail
  go_quiet (first
    | (go_at_call 14; exact Calls.quiet_of_same ((Sectors_any (HD1.out.drewN _)).mono fun _ _ h => ⟨h.1, h.2.symm⟩))
    | (go_at_call 16; exact Calls.quiet_of_same ((Down_any (HD1.out.drewN _)).mono fun _ _ h => ⟨h.1, h.2.symm⟩))
    | (go_at_call 15; exact Calls.quiet_of_same ((Operations_any (HD1.out.drewN _)).mono fun _ _ h => ⟨h.1, h.2.symm⟩)))
  obtain ⟨w2, hw2⟩ : ∃ w2, w1.drewN nq = w2 := ⟨_, rfl⟩
  have hb2 : Below w1.heap.size w1 w2 := hw2 ▸ Below.drewN' w1 nq _
  rw [hw2]
  have hn2 : w2.heap[w.heap.size]? = _ := (hb2.block _ (by have := HS1.out; omega)).trans HN1.out
  have hw12 := HB1.out.trans (hb2.mono HB1.out.size)
  have HN2 := Lib.hid hn2
  have HB2 := Lib.hid hw12
  have hs2 : w.heap.size < w2.heap.size := by have := HS1.out; have := hb2.size; omega
  have HS2 := Lib.hid hs2
  have hcell : ∀ wr, Below w2.heap.size w2 wr → _ := fun wr hb => cells5 ((hb.block _ HS2.out).trans HN2.out)
  have HCELL := Lib.hid hcell
  clear hb2 hn2 hw12 hs2 hcell hw2 hw1 c0 c1 c2 c3 c4 cf
  go_wp2_with fail
  go_loopw [5] (fun i wr => ∃ k : Nat, k ≤ S.dur.length ∧ i = .int .i64 (k : Int) ∧ Below w2.heap.size w2 wr) (fun i _ => S.dur.length - (intOf i).toNat)
  case atStart => exact ⟨0, Nat.zero_le _, rfl, Below.refl _ _⟩
  case round =>
    obtain ⟨k, hk, rfl, hB⟩ := hrel
    obtain ⟨c0, c1, c2, c3, c4, cf⟩ := HCELL.out wr hB
    have HB := Lib.hid hB
    clear hB
    by_cases hlt : k < S.dur.length
    · have hwr : Below w.heap.size w wr := HB2.out.trans (HB.out.mono (Nat.le_of_lt HS2.out))
      have HWR := Lib.hid hwr
      clear hwr
      go_wp2_with fail
      clear c0 c1 c2 c3 c4 cf
      refine (Read_at (k : Int) (HH.out.below HWR.out) (by omega)).mono ?_
      rintro e w3 ⟨v3, rfl, hby3, hb3⟩
      obtain ⟨c0, c1, c2, c3, c4, cf⟩ := HCELL.out w3 (HB.out.trans (hb3.mono HB.out.size))
      have HBY3 := Lib.hid hby3
      have HB3 := Lib.hid hb3
      obtain ⟨ra, rc, rfl, _⟩ := hby3
      clear hb3
      go_wp2_with fail
      clear c0 c1 c2 c3 c4 cf
      have hR3 := HR.out.below (HWR.out.trans (HB3.out.mono HWR.out.size))
      refine (ref_read (k : Int) hR3 HOK.out (by omega)).mono ?_
      rintro e w4 ⟨v4, rfl, hby4, hb4⟩
      have hst1 := (HBY3.out.kept (F := fun j => wr.heap.size ≤ j) (G := fun _ => False) (Chg.of_below hb4) (fun _ _ h => h)).str
      have hst2 := hby4.str
      have hB4 : Below w2.heap.size w2 w4 := (HB.out.trans (HB3.out.mono HB.out.size)).trans (hb4.mono (Nat.le_trans HB.out.size HB3.out.size))
      obtain ⟨ra4, rc4, rfl, _⟩ := hby4
      have HB4 := Lib.hid hB4
      clear hb4 hB4 hR3
      go_wp2_with fail
      go_roundw
      case rel => exact ⟨k + 1, by omega, by go_num, HB4.out⟩
      case measure => simp [intOf]; omega
    · obtain rfl : k = S.dur.length := by omega
      have hwr : Below w.heap.size w wr := HB2.out.trans (HB.out.mono (Nat.le_of_lt HS2.out))
      have HWR := Lib.hid hwr
      clear hwr
      go_wp2_with fail
      clear c0 c1 c2 c3 c4 cf
      refine (Pending_any (HH.out.below HWR.out) (by omega)).mono ?_
      rintro e w3 ⟨pv, rfl, hP, hb3⟩
      obtain ⟨c0, c1, c2, c3, c4, cf⟩ := HCELL.out w3 (HB.out.trans (hb3.mono HB.out.size))
      have HP := Lib.hid hP
      obtain ⟨pa, pc, rfl⟩ := hP.len
      have hB3 : Below w2.heap.size w2 w3 := HB.out.trans (hb3.mono HB.out.size)
      have hW3 : Below w.heap.size w w3 := HWR.out.trans (hb3.mono HWR.out.size)
      have HB3 := Lib.hid hB3
      have HW3 := Lib.hid hW3
      clear hP hb3 hB3 hW3
      go_wp2_with fail
      clear c0 c1 c2 c3 c4 cf
      go_loopw [11] (fun i wx => ∃ j : Nat, j ≤ S.pend.length ∧ i = .int .i64 (j : Int) ∧ Below w3.heap.size w3 wx) (fun i _ => S.pend.length - (intOf i).toNat)
      case atStart => exact ⟨0, Nat.zero_le _, rfl, Below.refl _ _⟩
      case round =>
        clear HB HWR
        obtain ⟨j, hj, rfl, hB⟩ := hrel
        obtain ⟨c0, c1, c2, c3, c4, cf⟩ := HCELL.out wr (HB3.out.trans (hB.mono HB3.out.size))
        have HB := Lib.hid hB
        clear hB
        by_cases hltj : j < S.pend.length
        · obtain ⟨gp, cp, up, e, hgp, hp0, hp1, hpb⟩ := HP.out.at j hltj
          simp only [Value.slice.injEq] at e
          obtain ⟨rfl, _, rfl⟩ := e
          obtain ⟨gw, cw, uw, e, hgw, _, hw0, hw1, hwb⟩ := (HW.out.kept (F := fun _ => False) (Chg.of_below HW3.out) (fun _ _ h => h)).at j hltj
          simp only [Value.slice.injEq] at e
          obtain ⟨rfl, _, rfl⟩ := e
          obtain ⟨x1, x2, hx⟩ : ∃ x1 x2, S.pend[j] = (x1, x2) := ⟨_, _, rfl⟩
          rw [hx] at hp0 hpb hw0 hwb
          simp only at hp0 hpb hw0 hwb
          have p0 := (HB.out.cell (p := ⟨gp, j * 2, none⟩) hgp).trans hp0
          have p1 := (HB.out.cell (p := ⟨gp, j * 2 + 1, none⟩) hgp).trans hp1
          have q0 := (HB.out.cell (p := ⟨gw, j * 2, none⟩) hgw).trans hw0
          have q1 := (HB.out.cell (p := ⟨gw, j * 2 + 1, none⟩) hgw).trans hw1
          have hpb' := hpb.kept (G := fun _ => False) (Chg.of_below HB.out) (fun _ _ h => h)
          have hwb' := hwb.kept (G := fun _ => False) (Chg.of_below HB.out) (fun _ _ h => h)
          have s1 := fun n => (hpb'.drewN n).str
          have s2 := fun n => (hwb'.drewN n).str
          clear hp0 hp1 hw0 hw1 hpb hwb hpb' hwb' hx hgp hgw
          go_wp2_with fail
          go_quiet (fail)
          obtain ⟨w5, hw5⟩ : ∃ w5, wr.drewN nq = w5 := ⟨_, rfl⟩
          have hb5 : Below w3.heap.size w3 w5 := hw5 ▸ HB.out.trans ((Below.drewN' wr nq _).mono HB.out.size)
          have HB5 := Lib.hid hb5
          rw [hw5]
          clear hb5 hw5 s1 s2 p0 p1 q0 q1 c0 c1 c2 c3 c4 cf
          go_wp2_with fail
          go_roundw
          case rel => exact ⟨j + 1, by omega, by go_num, HB5.out⟩
          case measure => simp [intOf]; omega
        · obtain rfl : j = S.pend.length := by omega
          go_wp2_with fail
          go_ret
          exact ⟨rfl, HW3.out.trans (HB.out.mono HW3.out.size)⟩

end Go.Proofs.Ytkklbmnbjmicnaa
