/- DiskUnits. -/
import Derived.Test.YtkklbmnbjmicnaaLaw3
namespace Go.Proofs.Ytkklbmnbjmicnaa
open Go.RowKit Go.Shelf
set_option linter.unusedVariables false
set_option linter.unusedSimpArgs false

set_option maxRecDepth 100000 in
set_option maxHeartbeats 2000000 in
theorem DiskUnits_yes (sd : Nat) (hsd : sd < 256) (l : List OpD) (lv cv : Value) (cs : List UInt8) (w : World) (h : OpsAt w (fun k => k < w.heap.size) lv l) (hcv : BytesAt w (fun k => k < w.heap.size) cv cs) (ha : ∀ o ∈ l, o.a ≤ 9223372036854775807 ∧ o.cs.length ≤ 9223372036854775807) (hl : l.length ≤ 40) (hcl : cs.length ≤ 100) :
    Calls Try.prog 5 #[.int .u8 (sd : Int), lv, cv] w fun e w' => e = .returned (.bool true) ∧ Below w.heap.size w w' := by
  have HCV := Lib.hid hcv
  have hcd : decide (100 < (cs.length : Int)) = false := by simp; omega
  obtain ⟨ca, cc, rfl, _⟩ := hcv
  have HO := Lib.hid h
  have HA := Lib.hid ha
  obtain ⟨la, lc, rfl, _⟩ := h
  clear ha
  obtain ⟨n, hn, hn1, hn2⟩ := sectors_of sd
  have HN := Lib.hid hn
  clear hn
  go_enter Try.func5, Try.ntmps5
  go_wp2_with fail
  refine (known_any _).mono ?_
  rintro e w1 ⟨rfl, hb1⟩
  go_wp2_with fail
  refine (small_yes _ _ _ hl).mono ?_
  rintro e w2 ⟨rfl, rfl⟩
  go_wp2_with fail
  rw [HN.out]
  refine (run_at n l _ hn1 hn2 HO.out hb1 hl HA.out).mono ?_
  rintro e w3 ⟨b, v, F, G, rfl, hD, hR, hFG, hF, hG, hb3⟩
  have hbd := (runDS_bnd n l (fun o ho => (HA.out o ho).1) l.length (Nat.le_refl _)).pend
  rw [List.take_length] at hbd
  obtain ⟨S, hS⟩ : ∃ S, runDS n l = S := ⟨_, rfl⟩
  rw [hS] at hD hR hbd
  have hok := hD.ok
  have hm := hok.most
  have hD' := hD.bound
  have hR' := hR.bound
  have HD := Lib.hid hD'
  have HR := Lib.hid hR'
  have HFG := Lib.hid hFG
  have HOK := Lib.hid hok
  have hb13 : Below w.heap.size w w3 := hb1.trans (hb3.mono hb1.size)
  have HF : Hid (∀ k, F k → w.heap.size ≤ k) := Lib.hid (fun k h => Nat.le_trans hb1.size (hF k h))
  have HB := Lib.hid hb13
  obtain ⟨da, dc, wa, wc, rfl⟩ := hR.form
  have hdu : DurAt w3 (fun k => G k ∧ k < w3.heap.size) (.slice da S.dur.length dc) S.dur := hR.durAt
  have HDU := Lib.hid hdu
  clear hdu
  unfold refV at HR ⊢
  obtain ⟨w4, hw4⟩ : ∃ w4, w3.alloc (.cells #[.slice da S.dur.length dc, .slice wa S.pend.length wc, .int .i64 (limI S), .bool S.down, .int .i64 (S.ops : Int)] 45) = w4 := ⟨_, rfl⟩
  have hb4 : Below w3.heap.size w3 w4 := hw4 ▸ (Below.refl _ _).alloc (Nat.le_refl _) _
  have n4 : w4.heap[w3.heap.size]? = some (.cells #[.slice da S.dur.length dc, .slice wa S.pend.length wc, .int .i64 (limI S), .bool S.down, .int .i64 (S.ops : Int)] 45 (0, 0)) := by rw [← hw4]; exact heap_alloc_new w3 _
  have hs4 : w4.heap.size = w3.heap.size + 1 := by rw [← hw4, World.size_alloc]
  have HB4 := Lib.hid hb4
  have HN4 := Lib.hid n4
  have HS4 := Lib.hid hs4
  clear hD hR hFG hF hG hb3 hb1 hb13 hb4 n4 hs4 hD' hR' hok hS
  go_wp2_with fail
  clear hw4
  refine (Pending_any (HD.out.below HB4.out) (by omega)).mono ?_
  rintro e w5 ⟨pv, rfl, hP, hb5⟩
  have HP := Lib.hid hP
  obtain ⟨pa, pc, rfl⟩ := hP.len
  have HB5 := Lib.hid hb5
  clear hP hb5
  go_wp2_with fail
  refine (Fail_any (HD.out.below (HB4.out.trans (HB5.out.mono HB4.out.size)))).mono ?_
  rintro e w6 ⟨rfl, hD6, hC6⟩
  have hB35 : Below w3.heap.size w3 w5 := HB4.out.trans (HB5.out.mono HB4.out.size)
  have hcv6 := (HCV.out.kept (F := fun k => k < w.heap.size) (G := F) ((Chg.of_below (F := F) (HB.out.trans (hB35.mono HB.out.size))).trans (hC6.mono (fun k h => h.1)) (fun _ h => .inl h)) (fun k h1 h2 => by have := HF.out k h2; omega))
  have HCV6 := Lib.hid hcv6
  have HD6 := Lib.hid hD6
  have HC6 := Lib.hid hC6
  have HB35 := Lib.hid hB35
  clear hcv6 hD6 hC6 hB35
  go_wp2_with fail
  refine (Restart_any _ cs HD6.out HCV6.out (fun k h1 h2 => by have := HF.out k h1.1; omega) (by show S.pend.length < _; omega) (by omega)).mono ?_
  rw [restart_down]
  rintro e wx ⟨rfl, hDx, hCx⟩
  have hC5x : Chg (fun k => F k ∧ k < w3.heap.size) w5 wx := HC6.out.trans hCx (fun _ h => .inl h)
  have hw3x : Chg (fun k => F k ∧ k < w3.heap.size) w3 wx := (Chg.of_below HB35.out).trans hC5x (fun _ h => .inl h)
  have nx : wx.heap[w3.heap.size]? = _ := (hC5x.block _ (by have := HS4.out; have := HB5.out.size; omega) (by omega)).trans ((HB5.out.block _ (by have := HS4.out; omega)).trans HN4.out)
  have hbx : Below w.heap.size w wx := HB.out.trans (hw3x.below (fun k h => HF.out k h.1) HB.out.size)
  have hdux := HDU.out.kept hw3x (fun k h1 h2 => HFG.out k h2.1 h1.1)
  have hPx : WritesAt 50 wx w4.heap.size (fun k => w4.heap.size ≤ k) (.slice pa S.pend.length pc) S.pend := by
    obtain ⟨L, hL, hr, hb⟩ := HP.out
    refine ⟨L, hL, ownsRow_chg hr hC5x (fun k h1 h2 h3 => by have := HS4.out; omega), fun x hx => (hb x hx).kept hC5x (fun k h1 h2 => by have := HS4.out; omega)⟩
  have hxlt : w3.heap.size < wx.heap.size := (Array.getElem?_eq_some_iff.1 nx).1
  have hcell : ∀ wr, Below wx.heap.size wx wr → _ := fun wr hb => cells5 ((hb.block _ hxlt).trans nx)
  have HDX := Lib.hid hDx
  have HNX := Lib.hid nx
  have HBX := Lib.hid hbx
  have HDUX := Lib.hid hdux
  have HPX := Lib.hid hPx
  have HXLT := Lib.hid hxlt
  have HCELL := Lib.hid hcell
  clear hDx hCx hC5x hw3x nx hbx hdux hPx hxlt hcell
  clear HCV6 HD6 HC6 HB35 HP HB5 HN4 HDU HD HR HCV HO
  go_wp2_with fail
  go_loopw [11] (fun i wr => ∃ k : Nat, k ≤ S.dur.length ∧ i = .int .i64 (k : Int) ∧ Below wx.heap.size wx wr) (fun i _ => S.dur.length - (intOf i).toNat)
  case atStart => exact ⟨0, Nat.zero_le _, rfl, Below.refl _ _⟩
  case round =>
    obtain ⟨k, hk, rfl, hB⟩ := hrel
    obtain ⟨c0, c1, c2, c3, c4, cf⟩ := HCELL.out wr hB
    have HBr := Lib.hid hB
    clear hB
    by_cases hlt : k < S.dur.length
    · have hra := back_read S cs k hlt
      obtain ⟨R, hR⟩ : ∃ R, (rdur S cs S.pend.length).getD k zeros = R := ⟨_, rfl⟩
      rw [hR] at hra
      have hRl : R.length = 256 := by
        rw [← hR]
        have hl := rdur_length S cs S.pend.length
        have : (rdur S cs S.pend.length).getD k zeros = (rdur S cs S.pend.length)[k]'(by omega) := by simp [show k < (rdur S cs S.pend.length).length by omega]
        rw [this]; exact rdur_256 HOK.out cs _ _ (List.getElem_mem _)
      have huo : ∀ j, j < 16 → fnd S.pend (unitOf R (16 * j)) (unitOf S.dur[k] (16 * j)) k 0 = true ∨ True := fun _ _ => .inr trivial
      have hall : ∀ j, j < 16 → (unitOf R (16 * j) == unitOf S.dur[k] (16 * j) || S.pend.any (fun x => x.1 == k && unitOf R (16 * j) == unitOf x.2 (16 * j))) = true := fun j hj => by
        have := units_ok HOK.out cs k hlt j hj S.pend.length (Nat.le_refl _)
        rw [hR] at this
        rcases this with h1 | ⟨m, hm, _, h3, h4⟩
        · rw [h1]; simp
        · rw [Bool.or_eq_true]
          right
          rw [List.any_eq_true]
          exact ⟨S.pend[m], List.getElem_mem _, by simp [h3, h4]⟩
      have HRA := Lib.hid hra
      have HRL := Lib.hid hRl
      have HALL := Lib.hid hall
      clear hra hR hRl huo hall
      go_wp2_with fail
      clear c0 c1 c2 c3 c4 cf
      refine (Read_at (k : Int) (HDX.out.below HBr.out) (by show (0 : Nat) < _; decide)).mono ?_
      rw [HRA.out.1, HRA.out.2]
      rintro e wy ⟨v1, rfl, hby1, hb1⟩
      obtain ⟨g1, o1, p1, rfl, hp1, _, hg1, hr1⟩ := hby1.whole HRL.out
      have hBy := HBr.out.trans (hb1.mono HBr.out.size)
      obtain ⟨gd, cd, ud, e, hgd, _, hud, hubd⟩ := (HDUX.out.kept (F := fun _ => False) (Chg.of_below hBy) (fun _ _ h => h)).at k hlt
      simp only [Value.slice.injEq] at e
      obtain ⟨rfl, _, rfl⟩ := e
      obtain ⟨D0, hD0⟩ : ∃ D0, S.dur[k] = D0 := ⟨_, rfl⟩
      have hD0l : D0.length = 256 := by rw [← hD0]; exact HOK.out.dur _ (List.getElem_mem _)
      rw [hD0] at hubd HALL
      obtain ⟨g2, o2, p2, rfl, hp2, _, hg2, hr2⟩ := hubd.whole hD0l
      have HBY := Lib.hid hBy
      have HR1 := Lib.hid hr1
      have HR2 := Lib.hid hr2
      have HG1 := Lib.hid hg1
      have HG2 := Lib.hid hg2
      have HGD := Lib.hid hgd
      have HUD := Lib.hid hud
      have HD0L := Lib.hid hD0l
      have hplen : S.pend.length ≤ 40 := by omega
      obtain ⟨c0, c1, c2, c3, c4, cf⟩ := HCELL.out wy hBy
      clear hby1 hb1 hBy hubd hr1 hr2 hg1 hg2 hgd hud hD0 hD0l HRA
      go_wp2_with fail
      clear c0 c1 c2 c3 c4 cf
      go_loopw [14] (fun i wr => ∃ j : Nat, j ≤ 16 ∧ i = .int .i64 ((16 * j : Nat) : Int) ∧ Below wy.heap.size wy wr) (fun i _ => 256 - (intOf i).toNat)
      case atStart => exact ⟨0, by omega, rfl, Below.refl _ _⟩
      case round =>
        clear HBr
        obtain ⟨j, hj, rfl, hB⟩ := hrel
        obtain ⟨c0, c1, c2, c3, c4, cf⟩ := HCELL.out wr (HBY.out.trans (hB.mono HBY.out.size))
        have HBr := Lib.hid hB
        obtain ⟨u, hu⟩ : ∃ u, 16 * j = u := ⟨_, rfl⟩
        rw [hu]
        have HU := Lib.hid hu
        by_cases hlj : j < 16
        · have hu1 : u ≤ 240 := by omega
          have hall := HALL.out j hlj
          rw [hu] at hall
          have hb1 := BytesAt.cut (w := wr) (F := fun _ => True) HRL.out trivial (Nat.lt_of_lt_of_le HG1.out hB.size) (fun j v hv => (hB.cell (p := ⟨g1, o1 + j, none⟩) HG1.out).trans (HR1.out j v hv)) hp1 hu1
          have hb2 := BytesAt.cut (w := wr) (F := fun _ => True) HD0L.out trivial (Nat.lt_of_lt_of_le HG2.out hB.size) (fun j v hv => (hB.cell (p := ⟨g2, o2 + j, none⟩) HG2.out).trans (HR2.out j v hv)) hp2 hu1
          have s1 := hb1.str
          have s2 := hb2.str
          have hud := (hB.cell (p := ⟨gd, k, none⟩) HGD.out).trans HUD.out
          have HAL := Lib.hid hall
          clear hB hb1 hb2 hall hu
          have hud1 : decide ((u : Int) < 256) = true := by simp; omega
          go_wp2_with fail
          obtain ⟨P, hP⟩ : ∃ P, S.pend.map (fun x => (x.1, unitOf x.2 u)) = P := ⟨_, rfl⟩
          have hPl : P.length = S.pend.length := by rw [← hP]; simp
          have hfin : fnd P (unitOf R u) (unitOf D0 u) k S.pend.length = true := by
            have := HAL.out
            rw [← hP]
            unfold fnd
            rw [← List.map_take, List.take_length, List.any_map]
            exact this
          have hz := fnd_zero P (unitOf R u) (unitOf D0 u) k
          rw [← hz]
          have hnext : ∀ m, ∀ hm : m < S.pend.length, fnd P (unitOf R u) (unitOf D0 u) k (m + 1) = (fnd P (unitOf R u) (unitOf D0 u) k m || (S.pend[m].1 == k && unitOf R u == unitOf S.pend[m].2 u)) := fun m hm => by
            rw [fnd_succ _ _ _ _ _ (by omega)]
            simp [← hP]
          have HFIN := Lib.hid hfin
          have HNEXT := Lib.hid hnext
          have HBry := Lib.hid (HBY.out.trans (HBr.out.mono HBY.out.size))
          clear hP hPl hfin hz hnext s1 s2 hud c0 c1 c2 c3 c4 cf
          obtain ⟨wu, hwu⟩ : ∃ wu, wr = wu := ⟨_, rfl⟩
          rw [hwu] at HBr HBry ⊢
          clear hwu
          go_loopw [16, 17] (fun fv i wz => ∃ m : Nat, m ≤ S.pend.length ∧ i = .int .i64 (m : Int) ∧ fv = .bool (fnd P (unitOf R u) (unitOf D0 u) k m) ∧ Below wu.heap.size wu wz) (fun _ i _ => S.pend.length - (intOf i).toNat)
          case atStart => exact ⟨0, Nat.zero_le _, rfl, rfl, Below.refl _ _⟩
          case round =>
            obtain ⟨m, hm, rfl, rfl, hB⟩ := hrel
            by_cases hlm : m < S.pend.length
            · have hBxr : Below wx.heap.size wx wr := HBry.out.trans (hB.mono HBry.out.size)
              obtain ⟨gp, cp, up, e, hgp, hp0, hp1, hpb⟩ := HPX.out.at m hlm
              simp only [Value.slice.injEq] at e
              obtain ⟨rfl, _, rfl⟩ := e
              obtain ⟨x1, x2, hx⟩ : ∃ x1 x2, S.pend[m] = (x1, x2) := ⟨_, _, rfl⟩
              have hx2 : x2.length = 256 := (HOK.out.pend (x1, x2) (hx ▸ List.getElem_mem hlm)).2
              have hnx := HNEXT.out m hlm
              rw [hx] at hp0 hpb hnx
              simp only at hp0 hpb hnx
              obtain ⟨g3, o3, p3, rfl, hp3, _, hg3, hr3⟩ := hpb.whole hx2
              have p0 := (hBxr.cell (p := ⟨gp, m * 2, none⟩) hgp).trans hp0
              have p1' := (hBxr.cell (p := ⟨gp, m * 2 + 1, none⟩) hgp).trans hp1
              have hb3 := BytesAt.cut (w := wr) (F := fun _ => True) hx2 trivial (Nat.lt_of_lt_of_le hg3 hBxr.size) (fun j v hv => (hBxr.cell (p := ⟨g3, o3 + j, none⟩) hg3).trans (hr3 j v hv)) hp3 hu1
              have s3 := hb3.str
              have HBB := Lib.hid hB
              have HNX := Lib.hid hnx
              clear hb3 hB hBxr hp0 hp1 hpb hr3 hg3 hgp hx hx2 hnx
              cases hf : fnd P (unitOf R u) (unitOf D0 u) k m with
              | true =>
                rw [hf] at HNX
                clear hf
                go_wp2_with fail
                go_roundw
                case rel => exact ⟨m + 1, by omega, by go_num, by rw [HNX.out]; rfl, HBB.out⟩
                case measure => simp [intOf]; omega
              | false =>
                rw [hf] at HNX
                clear hf
                by_cases hxk : x1 = k
                · subst hxk
                  go_wp2_with fail
                  go_roundw
                  case rel => exact ⟨m + 1, by omega, by go_num, by rw [HNX.out]; simp, HBB.out⟩
                  case measure => simp [intOf]; omega
                · have hxk1 : ((x1 : Int) == (k : Int)) = false := by simp; omega
                  have hxk2 : (x1 == k) = false := by simp; omega
                  have HXK := Lib.hid hxk2
                  clear hxk
                  go_wp2_with fail
                  go_roundw
                  case rel => exact ⟨m + 1, by omega, by go_num, by rw [HNX.out, HXK.out]; simp, HBB.out⟩
                  case measure => simp [intOf]; omega
            · obtain rfl : m = S.pend.length := by omega
              rw [HFIN.out]
              have HBB := Lib.hid (HBr.out.trans (hB.mono HBr.out.size))
              clear hB
              go_wp2_with fail
              go_roundw
              case rel => exact ⟨j + 1, by omega, by rw [← HU.out]; go_num, HBB.out⟩
              case measure => simp [intOf]; omega
        · obtain rfl : j = 16 := by omega
          have hu' : u = 256 := by omega
          subst hu'
          have HBB := Lib.hid (HBY.out.trans (hB.mono HBY.out.size))
          clear hB hu
          go_wp2_with fail
          go_roundw
          case rel => exact ⟨k + 1, by omega, by go_num, HBB.out⟩
          case measure => simp [intOf]; omega
    · obtain rfl : k = S.dur.length := by omega
      go_wp2_with fail
      go_ret
      exact ⟨rfl, HBX.out.trans (HBr.out.mono HBX.out.size)⟩

set_option maxHeartbeats 2000000 in
theorem DiskUnits_any (sd : Nat) (hsd : sd < 256) (l : List OpD) (lv cv : Value) (cs : List UInt8) (w : World) (h : OpsAt w (fun k => k < w.heap.size) lv l) (hcv : BytesAt w (fun k => k < w.heap.size) cv cs) (ha : ∀ o ∈ l, o.a ≤ 9223372036854775807 ∧ o.cs.length ≤ 9223372036854775807) (hcm : cs.length ≤ 9223372036854775807) :
    Calls Try.prog 5 #[.int .u8 (sd : Int), lv, cv] w fun e w' => e = .returned (.bool true) ∧ Below w.heap.size w w' := by
  by_cases hl : l.length ≤ 40
  · by_cases hc : cs.length ≤ 100
    · exact DiskUnits_yes sd hsd l lv cv cs w h hcv ha hl hc
    · obtain ⟨la, lc, rfl, _⟩ := h
      obtain ⟨ca, cc, rfl, _⟩ := hcv
      have hcd : decide (100 < (cs.length : Int)) = true := by simp; omega
      clear ha
      go_enter Try.func5, Try.ntmps5
      go_wp2_with fail
      refine (known_any _).mono ?_
      rintro e w1 ⟨rfl, hb1⟩
      go_wp2_with fail
      refine (small_yes _ _ _ hl).mono ?_
      rintro e w2 ⟨rfl, rfl⟩
      go_wp2_with fail
      refine (known_any _).mono ?_
      rintro e w3 ⟨rfl, hb3⟩
      go_wp2_with fail
      go_ret
      exact ⟨rfl, hb1.trans (hb3.mono hb1.size)⟩
  · obtain ⟨la, lc, rfl, _⟩ := h
    obtain ⟨ca, cc, rfl, _⟩ := hcv
    clear ha
    go_enter Try.func5, Try.ntmps5
    go_wp2_with fail
    refine (known_any _).mono ?_
    rintro e w1 ⟨rfl, hb1⟩
    go_wp2_with fail
    refine (small_no _ _ _ (by omega)).mono ?_
    rintro e w2 ⟨rfl, rfl⟩
    go_wp2_with fail
    refine (known_any _).mono ?_
    rintro e w3 ⟨rfl, hb3⟩
    go_wp2_with fail
    go_ret
    exact ⟨rfl, hb1.trans (hb3.mono hb1.size)⟩

end Go.Proofs.Ytkklbmnbjmicnaa
