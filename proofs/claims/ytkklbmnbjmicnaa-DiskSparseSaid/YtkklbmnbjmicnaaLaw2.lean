/- DiskExtremes. -/
import Derived.Test.YtkklbmnbjmicnaaLaw1
import Derived.Test.YtkklbmnbjmicnaaDisk15
namespace Go.Proofs.Ytkklbmnbjmicnaa
open Go.RowKit Go.Shelf
set_option linter.unusedVariables false
set_option linter.unusedSimpArgs false

theorem rdur_down (S : DS) (d : Bool) (cs : List UInt8) : ∀ k, rdur { S with down := d } cs k = rdur S cs k
  | 0 => rfl
  | k + 1 => by
    unfold rdur
    rw [rdur_down S d cs k]
theorem rdur_lost {S : DS} (h : S.ok) : ∀ k, rdur S [] k = S.dur
  | 0 => rfl
  | k + 1 => by
    unfold rdur
    rw [rdur_lost h k]
    cases hp : S.pend[k]? with
    | none => rfl
    | some x =>
      have hx := h.pend x (List.mem_of_getElem? hp)
      simp only [fate, List.getD_nil]
      have e : S.dur.getD x.1 zeros = S.dur[x.1] := by simp [hx.1]
      simp only [UInt8.toNat_zero, Nat.zero_mod, if_true]
      rw [e]
      exact List.set_getElem_self _
/-- The device behind a failure and a restart. -/
def DS.back (S : DS) (cs : List UInt8) : DS := { dur := rdur S cs S.pend.length, pend := [], ops := S.ops, limit := none, down := false }
theorem restart_down (S : DS) (cs : List UInt8) : DS.restart { S with down := true } cs = (S.back cs, 0) := by
  unfold DS.restart DS.back
  simp [rdur_down]
theorem back_read (S : DS) (cs : List UInt8) (k : Nat) (hk : k < S.dur.length) : (S.back cs).readE k = 0 ∧ (S.back cs).readB k = (rdur S cs S.pend.length).getD k zeros := by
  have hh : (S.back cs).has k = true := by simp [DS.has, DS.back, rdur_length]; omega
  have hd : (S.back cs).down = false := rfl
  refine ⟨by simp [DS.readE, hh, hd], ?_⟩
  unfold DS.readB
  rw [hd, hh]
  simp [DS.visible, visP, DS.back]
theorem back_whole {S : DS} (h : S.ok) (k : Nat) (hk : k < S.dur.length) : (rdur S (List.replicate S.pend.length 1) S.pend.length).getD k zeros = S.visible k := by
  have e : rdur S (List.replicate S.pend.length 1) S.pend.length = fdur S S.pend.length := rfl
  rw [e, fdur_vis S _ (Nat.le_refl _) (fun x hx => (h.pend x hx).1), List.take_length]
  simp [hk, DS.visible]
theorem back_lost {S : DS} (h : S.ok) (k : Nat) (hk : k < S.dur.length) : (rdur S [] S.pend.length).getD k zeros = S.dur[k] := by
  rw [rdur_lost h]; simp [hk]

section
variable {ops : Array Oper} {rest : List Oper} {o : Oper} {a : Act} {Q : Exit → Act → World → Prop}
/-- One more byte for a row of bytes. -/
theorem wpList_appByte {w : World} (hgd : o.guard = none) (s x : Operand) (ho : o.op = .call { callee := .builtin .append, args := #[s, x], argTypes := #[30, 30] })
    {B n : Nat} {v : Value} {b : UInt8} {xs : List UInt8} (hs : a.eval s = v) (hown : w.ownsRow B 5 1 v n (bvs xs)) (g : Nat) (hx : a.eval x = .slice (some ⟨g, 0, none⟩) 1 1) (hg : w.heap[g]? = some (.cells #[bv b] 5 (0, 0)))
    (hn : n < 1000000000) (hB : B ≤ w.heap.size)
    (h : ∀ g' cap' w', g' < w'.heap.size → w'.ownsRow B 5 1 (.slice (some ⟨g', 0, none⟩) (n + 1) cap') (n + 1) (bvs (xs ++ [b])) → w.grownBy w' v.ownBlock → (v.ownBlock = some g' ∨ g' = w.heap.size) → wpList Try.prog ops Q rest (a.put o.dst (.slice (some ⟨g', 0, none⟩) (n + 1) cap')) w') :
    wpList Try.prog ops Q (o :: rest) a w := by
  refine wpList_plain hgd fun _ hK => ?_
  obtain ⟨i0, hi, hz0, hz1, hz2⟩ := info_parts infoByte
  refine wp_append_lies _ s x 30 ho B 5 i0 _ 1 1 Try.underlying30 hi hz0 hz1 hz2 rfl (by decide) v n (bvs xs) hs hown
    ⟨g, 0, none⟩ 1 1 [bv b] hx rfl (World.news_of_block (cs := #[bv b]) (t := 5) (fr := (0, 0)) hg) (fun y hy => by obtain rfl := List.mem_singleton.1 hy; rfl) (by decide) (by unfold maxLen; omega) (by omega) hB _ rfl ?_
  intro g' cap' w' hown hgrow hat hlt
  refine hK _ _ (h g' cap' w' hlt ?_ hgrow hat)
  rw [bvs_append]
  exact hown
end

set_option maxRecDepth 100000 in
set_option maxHeartbeats 2000000 in
theorem DiskExtremes_yes (sd : Nat) (hsd : sd < 256) (l : List OpD) (lv : Value) (w : World) (h : OpsAt w (fun k => k < w.heap.size) lv l) (ha : ∀ o ∈ l, o.a ≤ 9223372036854775807 ∧ o.cs.length ≤ 9223372036854775807) (hl : l.length ≤ 40) :
    Calls Try.prog 6 #[.int .u8 (sd : Int), lv] w fun e w' => e = .returned (.bool true) ∧ Below w.heap.size w w' := by
  have HO := Lib.hid h
  have HA := Lib.hid ha
  obtain ⟨la, lc, rfl, _⟩ := h
  clear ha
  obtain ⟨n, hn, hn1, hn2⟩ := sectors_of sd
  have HN := Lib.hid hn
  clear hn
  go_enter Try.func6, Try.ntmps6
  go_wp2_with fail
  refine (known_any _).mono ?_
  rintro e w1 ⟨rfl, hb1⟩
  go_wp2_with fail
  refine (small_yes _ _ _ hl).mono ?_
  rintro e w2 ⟨rfl, rfl⟩
  go_wp2_with fail
  rw [HN.out]
  refine (run_at n l _ hn1 hn2 HO.out hb1 hl HA.out).mono ?_
  rintro e w3 ⟨b, v, F, G, rfl, hD, hR, hFG, hF, hG, hb3⟩
  have hbd := (runDS_bnd n l (fun o ho => (HA.out o ho).1) l.length (Nat.le_refl _)).pend
  rw [List.take_length] at hbd
  obtain ⟨S, hS⟩ : ∃ S, runDS n l = S := ⟨_, rfl⟩
  rw [hS] at hD hR hbd
  have hok := hD.ok
  have hm := hok.most
  have hD' := hD.bound
  have hR' := hR.bound
  have HD := Lib.hid hD'
  have HR := Lib.hid hR'
  have HFG := Lib.hid hFG
  have HOK := Lib.hid hok
  have hb13 : Below w.heap.size w w3 := hb1.trans (hb3.mono hb1.size)
  have HF : Hid (∀ k, F k → w.heap.size ≤ k) := Lib.hid (fun k h => Nat.le_trans hb1.size (hF k h))
  have HB := Lib.hid hb13
  obtain ⟨da, dc, wa, wc, rfl⟩ := hR.form
  have hdu : DurAt w3 (fun k => G k ∧ k < w3.heap.size) (.slice da S.dur.length dc) S.dur := hR.durAt
  have HDU := Lib.hid hdu
  clear hdu
  unfold refV at HR ⊢
  obtain ⟨w4, hw4⟩ : ∃ w4, w3.alloc (.cells #[.slice da S.dur.length dc, .slice wa S.pend.length wc, .int .i64 (limI S), .bool S.down, .int .i64 (S.ops : Int)] 45) = w4 := ⟨_, rfl⟩
  have hb4 : Below w3.heap.size w3 w4 := hw4 ▸ (Below.refl _ _).alloc (Nat.le_refl _) _
  have n4 : w4.heap[w3.heap.size]? = some (.cells #[.slice da S.dur.length dc, .slice wa S.pend.length wc, .int .i64 (limI S), .bool S.down, .int .i64 (S.ops : Int)] 45 (0, 0)) := by rw [← hw4]; exact heap_alloc_new w3 _
  have hs4 : w4.heap.size = w3.heap.size + 1 := by rw [← hw4, World.size_alloc]
  have HB4 := Lib.hid hb4
  have HN4 := Lib.hid n4
  have HS4 := Lib.hid hs4
  clear hD hR hFG hF hG hb3 hb1 hb13 hb4 n4 hs4 hD' hR' hok hS
  go_wp2_with fail
  clear hw4
  refine (Clone_any (HD.out.below HB4.out) (by omega)).mono ?_
  rintro e w5 ⟨rfl, hL, hb5⟩
  have hLb := hL.bound
  have n5 : w5.heap[w3.heap.size]? = _ := (hb5.block _ (by have := HS4.out; omega)).trans HN4.out
  have hcell : ∀ wr, Below w5.heap.size w5 wr → _ := fun wr hb => cells5 ((hb.block _ (Array.getElem?_eq_some_iff.1 n5).1).trans n5)
  have HCELL := Lib.hid hcell
  have HL := Lib.hid hLb
  have HB5 := Lib.hid hb5
  have HN5 := Lib.hid n5
  clear hL hLb hb5 n5 hcell
  go_wp2_with fail
  go_loopw [9, 10] (fun sv i wr => ∃ k : Nat, k ≤ S.pend.length ∧ i = .int .i64 (k : Int) ∧ wr.ownsRow w5.heap.size 5 1 sv k (bvs (List.replicate k 1)) ∧ Below w5.heap.size w5 wr) (fun _ i _ => S.pend.length - (intOf i).toNat)
  case atStart => exact ⟨0, Nat.zero_le _, rfl, World.ownsRow_nil _ _ _ _, Below.refl _ _⟩
  case round =>
    obtain ⟨k, hk, rfl, hown, hB⟩ := hrel
    obtain ⟨c0, c1, c2, c3, c4, cf⟩ := HCELL.out wr hB
    have HB6 := Lib.hid hB
    have HOWN := Lib.hid hown
    by_cases hlt : k < S.pend.length
    · have hbx : Below wr.heap.size wr (wr.alloc (.cells #[.int .u8 1] 5)) := (Below.refl _ _).alloc (Nat.le_refl _) _
      have hown2 := ownsRow_chg (G := fun _ => False) hown (Chg.of_below hbx) (fun _ _ _ h => h)
      have hgn : (wr.alloc (.cells #[.int .u8 1] 5)).heap[wr.heap.size]? = some (.cells #[bv 1] 5 (0, 0)) := heap_alloc_new wr _
      have hBx : w5.heap.size ≤ (wr.alloc (.cells #[.int .u8 1] 5)).heap.size := Nat.le_trans hB.size hbx.size
      have HOWN2 := Lib.hid hown2
      have HGN := Lib.hid hgn
      have HBX := Lib.hid hBx
      have HBX2 := Lib.hid hbx
      clear hB hown hbx hown2 hgn hBx
      go_wp2_with (at_builtin; refine wpList_appByte rfl (.tmp 45) (.tmp 46) rfl rfl HOWN2.out wr.heap.size rfl HGN.out (by omega) HBX.out ?_)
      intro g' cap' w6 hlt6 hown6 hgrow6 hat6
      have hb6 : Below w5.heap.size w5 w6 := (HB6.out.trans (HBX2.out.mono HB6.out.size)).grown hgrow6 HBX.out (fun i e => (ownsRow_lt HOWN.out i e).1)
      rw [← List.replicate_succ'] at hown6
      have HO6 := Lib.hid hown6
      have HB7 := Lib.hid hb6
      clear hown6 hgrow6 hat6 hlt6 hb6 c0 c1 c2 c3 c4 cf
      go_wp2_with fail
      go_roundw
      case rel => exact ⟨k + 1, by omega, by go_num, HO6.out, HB7.out⟩
      case measure => simp [intOf]; omega
    · obtain rfl : k = S.pend.length := by omega
      have hD6 := HD.out.below (HB4.out.trans ((HB5.out.trans (hB.mono HB5.out.size)).mono HB4.out.size))
      have hby := (ownsRow_bytes hown (by simp)).mono' (G := fun k => w5.heap.size ≤ k ∧ k < wr.heap.size) (fun k hk h => ⟨h, hk⟩)
      have hL6 := HL.out.below hB
      have HD6 := Lib.hid hD6
      have HBY := Lib.hid hby
      have HL6 := Lib.hid hL6
      obtain ⟨ya, yc, hy, _⟩ := hby
      rw [List.length_replicate] at hy
      subst hy
      clear hB hown hD6 hL6
      go_wp2_with fail
      clear c0 c1 c2 c3 c4 cf
      refine (Fail_any HD6.out).mono ?_
      rintro e w7 ⟨rfl, hD7, hC7⟩
      have h35 : w3.heap.size + 1 ≤ w5.heap.size := by have := HS4.out; have := HB5.out.size; omega
      have hL7 := HL6.out.chg hC7 (fun k h1 h2 => by have := HS4.out; omega)
      have HL7 := Lib.hid hL7
      have HD7 := Lib.hid hD7
      have HC7 := Lib.hid hC7
      have H35 := Lib.hid h35
      clear hL7 hD7 hC7 h35
      go_wp2_with fail
      refine (Fail_any HL7.out).mono ?_
      rintro e w8 ⟨rfl, hL8, hC8⟩
      have hD8 := HD7.out.chg hC8 (fun k h1 h2 => by have := HS4.out; omega)
      have hby8 := (HBY.out.kept HC7.out (fun k h1 h2 => by have := H35.out; omega)).kept hC8 (fun k h1 h2 => by omega)
      have HL8 := Lib.hid hL8
      have HD8 := Lib.hid hD8
      have HC8 := Lib.hid hC8
      have HBY8 := Lib.hid hby8
      clear hL8 hD8 hC8 hby8
      go_wp2_with fail
      refine (Restart_any _ _ HD8.out HBY8.out (fun k h1 h2 => by have := H35.out; omega) (by show S.pend.length < _; omega) (by rw [List.length_replicate]; omega)).mono ?_
      rw [restart_down]
      rintro e w9 ⟨rfl, hD9, hC9⟩
      have hL9 := HL8.out.chg hC9 (fun k h1 h2 => by have := HS4.out; omega)
      have HL9 := Lib.hid hL9
      have HD9 := Lib.hid hD9
      have HC9 := Lib.hid hC9
      clear hL9 hD9 hC9
      go_wp2_with fail
      refine (Restart_any (.slice none 0 0) [] HL9.out (bytesAt_nil _ (fun _ => False)) (fun k h1 h2 => h2) (by show S.pend.length < _; omega) (by simp)).mono ?_
      rw [restart_down]
      rintro e wx ⟨rfl, hLx, hCx⟩
      have hDx := HD9.out.chg hCx (fun k h1 h2 => by have := HS4.out; omega)
      have hCC : Chg (fun k => (F k ∧ k < w3.heap.size) ∨ (w4.heap.size ≤ k ∧ k < w5.heap.size)) wr wx :=
        (((HC7.out.mono (fun k h => .inl h)).trans (HC8.out.mono (fun k h => .inr h)) (fun _ h => .inl h)).trans (HC9.out.mono (fun k h => .inl h)) (fun _ h => .inl h)).trans (hCx.mono (fun k h => .inr h)) (fun _ h => .inl h)
      have hw3x : Chg (fun k => (F k ∧ k < w3.heap.size) ∨ (w4.heap.size ≤ k ∧ k < w5.heap.size)) w3 wx :=
        (Chg.of_below (F := fun k => (F k ∧ k < w3.heap.size) ∨ (w4.heap.size ≤ k ∧ k < w5.heap.size)) (HB4.out.trans ((HB5.out.trans (HB6.out.mono HB5.out.size)).mono HB4.out.size))).trans hCC (fun _ h => .inl h)
      have nx : wx.heap[w3.heap.size]? = _ := (hCC.block _ (by have := H35.out; have := HB6.out.size; omega) (by have := HS4.out; omega)).trans ((HB6.out.block _ (by have := H35.out; omega)).trans HN5.out)
      have hRx := HR.out.kept hw3x (fun k h1 h2 => by
        rcases h2 with h2 | h2
        · exact HFG.out k h2.1 h1.1
        · have := HS4.out; omega)
      have hbx : Below w.heap.size w wx := HB.out.trans (hw3x.below (fun k h => by
        rcases h with h | h
        · exact HF.out k h.1
        · have := HS4.out; have := HB.out.size; omega) HB.out.size)
      have HDX := Lib.hid hDx
      have HLX := Lib.hid hLx
      have HNX := Lib.hid nx
      have HRX := Lib.hid hRx
      have HBX := Lib.hid hbx
      have hxlt : w3.heap.size < wx.heap.size := (Array.getElem?_eq_some_iff.1 nx).1
      have HXLT := Lib.hid hxlt
      clear hDx hLx hCx hCC nx hRx hbx hxlt
      clear HB6 HOWN HD6 HBY HL6 HD7 HC7 HL7 HD8 HL8 HC8 HBY8 HD9 HC9 HL9 HCELL HN5 HN4 HL
      have HDUX := Lib.hid (HDU.out.kept hw3x (fun k h1 h2 => by
        rcases h2 with h2 | h2
        · exact HFG.out k h2.1 h1.1
        · have := HS4.out; omega))
      clear HDU hw3x
      have hcell : ∀ wr, Below wx.heap.size wx wr → _ := fun wr hb => cells5 ((hb.block _ HXLT.out).trans HNX.out)
      have HCELL := Lib.hid hcell
      clear hcell
      go_wp2_with fail
      go_loopw [11] (fun i wr => ∃ k : Nat, k ≤ S.dur.length ∧ i = .int .i64 (k : Int) ∧ Below wx.heap.size wx wr) (fun i _ => S.dur.length - (intOf i).toNat)
      case atStart => exact ⟨0, Nat.zero_le _, rfl, Below.refl _ _⟩
      case round =>
        obtain ⟨k, hk2, rfl, hB⟩ := hrel
        obtain ⟨c0, c1, c2, c3, c4, cf⟩ := HCELL.out wr hB
        have HBr := Lib.hid hB
        clear hB
        by_cases hlt : k < S.dur.length
        · have hra := back_read S (List.replicate S.pend.length 1) k hlt
          have hrb := back_read S [] k hlt
          rw [back_whole HOK.out k hlt] at hra
          rw [back_lost HOK.out k hlt] at hrb
          have HRA := Lib.hid hra
          have HRB := Lib.hid hrb
          clear hra hrb
          go_wp2_with fail
          clear c0 c1 c2 c3 c4 cf
          refine (Read_at (k : Int) (HDX.out.below HBr.out) (by show (0 : Nat) < _; decide)).mono ?_
          rw [HRA.out.1, HRA.out.2]
          rintro e wa1 ⟨v1, rfl, hby1, hb1⟩
          obtain ⟨a1, p1, rfl, _⟩ := id hby1
          have HBY1 := Lib.hid hby1
          have hB1 := HBr.out.trans (hb1.mono HBr.out.size)
          have HB1 := Lib.hid hB1
          clear hby1 hb1 hB1
          go_wp2_with fail
          refine (Read_at (k : Int) (HLX.out.below HB1.out) (by show (0 : Nat) < _; decide)).mono ?_
          rw [HRB.out.1, HRB.out.2]
          rintro e wy ⟨v2, rfl, hby2, hb2⟩
          obtain ⟨a2, p2, rfl, _⟩ := id hby2
          obtain ⟨gd, cd, ud, e, hgd, _, hud, hubd⟩ := (HDUX.out.kept (F := fun _ => False) (Chg.of_below (HB1.out.trans (hb2.mono HB1.out.size))) (fun _ _ h => h)).at k hlt
          simp only [Value.slice.injEq] at e
          obtain ⟨rfl, _, rfl⟩ := e
          have hBy := HB1.out.trans (hb2.mono HB1.out.size)
          obtain ⟨D0, hD0⟩ : ∃ D0, S.dur[k] = D0 := ⟨_, rfl⟩
          rw [hD0] at hubd
          have hss : (fun w' => w'.heap[w3.heap.size]? = some (.cells #[.slice (some ⟨gd, 0, none⟩) S.dur.length dc, .slice wa S.pend.length wc, .int .i64 (limI S), .bool S.down, .int .i64 (S.ops : Int)] 45 (0, 0)) ∧ w'.cell? ⟨gd, k, none⟩ = some ud ∧ BytesAt w' (fun _ => True) (.slice a1 (S.visible k).length p1) (S.visible k) ∧ BytesAt w' (fun _ => True) (.slice a2 S.dur[k].length p2) D0 ∧ BytesAt w' (fun _ => True) ud D0) wy := ⟨(hBy.block _ HXLT.out).trans HNX.out, hud, (HBY1.out.kept (F := fun k => wr.heap.size ≤ k) (G := fun _ => False) (Chg.of_below hb2) (fun _ _ h => h)).mono (fun _ _ => trivial), by rw [← hD0]; exact hby2.mono (fun _ _ => trivial), hubd.mono (fun _ _ => trivial)⟩
          have HSS := Lib.hid hss
          have HBY := Lib.hid hBy
          have hRy := (HRX.out.below hBy).kept (F := fun _ => False) ((Chg.refl _ wy).drew) (fun _ _ h => h)
          have HRy := Lib.hid hRy
          have HD0 := Lib.hid hD0
          have HBYY := Lib.hid hBy
          clear hgd hud hubd hby2 hb2 hBy hss hRy hD0
          have hvl := visible_length HOK.out hlt
          have hdl : D0.length = 256 := by rw [← HD0.out]; exact HOK.out.dur _ (List.getElem_mem _)
          rw [HD0.out, hdl] at HSS ⊢
          rw [hvl] at HSS ⊢
          clear hvl hdl
          go_wp2_with fail
          refine wp_region_noPanic ?_
          refine wp_region_G [] (fun w' => w'.heap[w3.heap.size]? = some (.cells #[.slice (some ⟨gd, 0, none⟩) S.dur.length dc, .slice wa S.pend.length wc, .int .i64 (limI S), .bool S.down, .int .i64 (S.ops : Int)] 45 (0, 0)) ∧ w'.cell? ⟨gd, k, none⟩ = some ud ∧ BytesAt w' (fun _ => True) (.slice a1 256 p1) (S.visible k) ∧ BytesAt w' (fun _ => True) (.slice a2 256 p2) D0 ∧ BytesAt w' (fun _ => True) ud D0) (by kernel_rfl) ?_
          have hS0 : (fun w' => w'.heap[w3.heap.size]? = some (.cells #[.slice (some ⟨gd, 0, none⟩) S.dur.length dc, .slice wa S.pend.length wc, .int .i64 (limI S), .bool S.down, .int .i64 (S.ops : Int)] 45 (0, 0)) ∧ w'.cell? ⟨gd, k, none⟩ = some ud ∧ BytesAt w' (fun _ => True) (.slice a1 256 p1) (S.visible k) ∧ BytesAt w' (fun _ => True) (.slice a2 256 p2) D0 ∧ BytesAt w' (fun _ => True) ud D0) wy.drew := HSS.out
          refine wpAnyG_take (i := 0) (v := ?v1) rfl (by kernel_rfl) (by kernel_rfl) (by kernel_rfl) (by kernel_rfl) (fun _ _ _ h => h) (yieldsIf_run rfl (fun w' hw' => ?y1)) hS0 ?_
          case y1 => first | (go_simp; rfl) | (go_simp; done) | rfl
          simp only [Act.put, List.setIfInBounds_toArray, List.set_cons_zero, List.set_cons_succ]
          refine wpAnyG_take (i := 1) (v := ?v2) rfl (by kernel_rfl) (by kernel_rfl) (by kernel_rfl) (by kernel_rfl) (fun _ _ _ h => h) (yieldsIf_run rfl (fun w' hw' => ?y2)) hS0 ?_
          case y2 => first | (go_simp; rfl) | (go_simp; done) | rfl
          simp only [Act.put, List.setIfInBounds_toArray, List.set_cons_zero, List.set_cons_succ]
          refine wpAnyG_take (i := 2) (v := ?v3) rfl (by kernel_rfl) (by kernel_rfl) (by kernel_rfl) (by kernel_rfl) (fun _ _ _ h => h) (yieldsIf_run rfl (fun w' hw' => ?y3)) hS0 ?_
          case y3 => first | (go_simp; rfl) | (go_simp; done) | rfl
          simp only [Act.put, List.setIfInBounds_toArray, List.set_cons_zero, List.set_cons_succ]
          refine wpAnyG_take (i := 3) (v := ?v4) rfl (by kernel_rfl) (by kernel_rfl) (by kernel_rfl) (by kernel_rfl) (fun _ _ _ h => h) (yieldsIf_want rfl (fun w' hw' => ?y4)) hS0 ?_
          case y4 => first | (go_simp; rfl) | (go_simp; done) | rfl
          simp only [Act.put, List.setIfInBounds_toArray, List.set_cons_zero, List.set_cons_succ]
          refine wpAnyG_take (i := 4) (v := ?v5) rfl (by kernel_rfl) (by kernel_rfl) (by kernel_rfl) (by kernel_rfl) (fun _ _ _ h => h) (yieldsIf_want rfl (fun w' hw' => ?y5)) hS0 ?_
          case y5 => first | (go_simp; rfl) | (go_simp; done) | rfl
          simp only [Act.put, List.setIfInBounds_toArray, List.set_cons_zero, List.set_cons_succ]
          refine wpAnyG_take (i := 5) (v := ?v6) rfl (by kernel_rfl) (by kernel_rfl) (by kernel_rfl) (by kernel_rfl) (fun _ _ _ h => h) (yieldsIf_run rfl (fun w' hw' => ?y6)) hS0 ?_
          case y6 => first | (go_simp; rfl) | (go_simp; done) | rfl
          simp only [Act.put, List.setIfInBounds_toArray, List.set_cons_zero, List.set_cons_succ]
          refine wpAnyG_take (i := 6) (v := ?v7) rfl (by kernel_rfl) (by kernel_rfl) (by kernel_rfl) (by kernel_rfl) (fun _ _ _ h => h) (yieldsIf_run rfl (fun w' hw' => ?y7)) hS0 ?_
          case y7 => first | (go_simp; rfl) | (go_simp; done) | rfl
          simp only [Act.put, List.setIfInBounds_toArray, List.set_cons_zero, List.set_cons_succ]
          refine wpAnyG_take (i := 7) (v := ?v8) rfl (by kernel_rfl) (by kernel_rfl) (by kernel_rfl) (by kernel_rfl) (fun _ _ _ h => h) (yieldsIf_want rfl (fun w' hw' => ?y8)) hS0 ?_
          case y8 => first | (go_simp; rfl) | (go_simp; done) | rfl
          simp only [Act.put, List.setIfInBounds_toArray, List.set_cons_zero, List.set_cons_succ]
          refine wpAnyG_take (i := 8) (v := ?v9) rfl (by kernel_rfl) (by kernel_rfl) (by kernel_rfl) (by kernel_rfl) (fun _ _ _ h => h) (yieldsIf_want rfl (fun w' hw' => ?y9)) hS0 ?_
          case y9 => (have h8 := hw'.2.2.1.str; clear hw'; first | (go_simp; rfl) | (go_simp; done))
          simp only [Act.put, List.setIfInBounds_toArray, List.set_cons_zero, List.set_cons_succ]
          refine wpAnyG_take (i := 9) (v := ?v10) rfl (by kernel_rfl) (by kernel_rfl) (by kernel_rfl) (by kernel_rfl) (fun _ _ _ h => h) (yieldsIf_want rfl (fun w' hw' => ?y10)) hS0 ?_
          case y10 => (obtain ⟨h0, h1, h2, h3, h4, _⟩ := cells5 hw'.1; clear hw'; first | (go_simp; rfl) | (go_simp; done))
          simp only [Act.put, List.setIfInBounds_toArray, List.set_cons_zero, List.set_cons_succ]
          refine wpAnyG_take (i := 10) (v := ?v11) rfl (by kernel_rfl) (by kernel_rfl) (by kernel_rfl) (by kernel_rfl) (fun _ _ _ h => h) (yieldsIf_want rfl (fun w' hw' => ?y11)) hS0 ?_
          case y11 => first | (go_simp; rfl) | (go_simp; done) | rfl
          simp only [Act.put, List.setIfInBounds_toArray, List.set_cons_zero, List.set_cons_succ]
          refine wpAnyG_want (i := 11) (by kernel_rfl) rfl rfl (fun K hK => ?_)
          go_simp
          refine (ref_visible k hlt HRy.out HOK.out (by omega)).mono ?_
          rintro e wz ⟨vz, rfl, hown, hbz⟩
          have hbz' : Below wy.heap.size wy wz := (Below.refl _ wy).drew.trans hbz
          have hvz := (ownsRow_bytes hown (visible_length HOK.out hlt)).mono (G := fun _ => True) (fun _ _ => trivial)
          have hSz : (fun w' => w'.heap[w3.heap.size]? = some (.cells #[.slice (some ⟨gd, 0, none⟩) S.dur.length dc, .slice wa S.pend.length wc, .int .i64 (limI S), .bool S.down, .int .i64 (S.ops : Int)] 45 (0, 0)) ∧ w'.cell? ⟨gd, k, none⟩ = some ud ∧ BytesAt w' (fun _ => True) (.slice a1 256 p1) (S.visible k) ∧ BytesAt w' (fun _ => True) (.slice a2 256 p2) D0 ∧ BytesAt w' (fun _ => True) ud D0) wz := by
            obtain ⟨q1, q2, q3, q4, q5⟩ := HSS.out
            have hcf := Chg.of_below (F := fun _ => False) hbz'
            exact ⟨(hbz'.block _ (Array.getElem?_eq_some_iff.1 q1).1).trans q1, hcf.cell (fun h => h) q2, q3.kept hcf (fun _ _ h => h), q4.kept hcf (fun _ _ h => h), q5.kept hcf (fun _ _ h => h)⟩
          have HSZ := Lib.hid hSz
          have HVZ := Lib.hid hvz
          have HBZ := Lib.hid hbz'
          obtain ⟨az, cz, rfl, _⟩ := hvz
          have hstz := HVZ.out.str
          clear hown hbz hbz' hSz
          refine hK _ _ HSZ.out ?_
          clear hK K
          try simp only [Act.put, List.setIfInBounds_toArray, List.set_cons_zero, List.set_cons_succ]
          refine wpAnyG_want (i := 12) (by kernel_rfl) rfl rfl (fun K hK => ?_)
          go_simp
          refine hK _ _ HSZ.out ?_
          clear hK K
          try simp only [Act.put, List.setIfInBounds_toArray, List.set_cons_zero, List.set_cons_succ]
          clear hstz hS0
          refine wpAnyG_take (i := 13) (v := ?v12) rfl (by kernel_rfl) (by kernel_rfl) (by kernel_rfl) (by kernel_rfl) (fun _ _ _ h => h) (yieldsIf_want rfl (fun w' hw' => ?y12)) HSZ.out ?_
          case y12 => first | (go_simp; rfl) | (go_simp; done) | rfl
          simp only [Act.put, List.setIfInBounds_toArray, List.set_cons_zero, List.set_cons_succ]
          refine wpAnyG_take (i := 14) (v := ?v13) rfl (by kernel_rfl) (by kernel_rfl) (by kernel_rfl) (by kernel_rfl) (fun _ _ _ h => h) (yieldsIf_run rfl (fun w' hw' => ?y13)) HSZ.out ?_
          case y13 => first | (go_simp; rfl) | (go_simp; done) | rfl
          simp only [Act.put, List.setIfInBounds_toArray, List.set_cons_zero, List.set_cons_succ]
          refine wpAnyG_take (i := 15) (v := ?v14) rfl (by kernel_rfl) (by kernel_rfl) (by kernel_rfl) (by kernel_rfl) (fun _ _ _ h => h) (yieldsIf_run rfl (fun w' hw' => ?y14)) HSZ.out ?_
          case y14 => first | (go_simp; rfl) | (go_simp; done) | rfl
          simp only [Act.put, List.setIfInBounds_toArray, List.set_cons_zero, List.set_cons_succ]
          refine wpAnyG_take (i := 16) (v := ?v15) rfl (by kernel_rfl) (by kernel_rfl) (by kernel_rfl) (by kernel_rfl) (fun _ _ _ h => h) (yieldsIf_want rfl (fun w' hw' => ?y15)) HSZ.out ?_
          case y15 => first | (go_simp; rfl) | (go_simp; done) | rfl
          simp only [Act.put, List.setIfInBounds_toArray, List.set_cons_zero, List.set_cons_succ]
          refine wpAnyG_take (i := 17) (v := ?v16) rfl (by kernel_rfl) (by kernel_rfl) (by kernel_rfl) (by kernel_rfl) (fun _ _ _ h => h) (yieldsIf_want rfl (fun w' hw' => ?y16)) HSZ.out ?_
          case y16 => (have h8 := hw'.2.2.2.1.str; clear hw'; first | (go_simp; rfl) | (go_simp; done))
          simp only [Act.put, List.setIfInBounds_toArray, List.set_cons_zero, List.set_cons_succ]
          refine wpAnyG_take (i := 18) (v := ?v17) rfl (by kernel_rfl) (by kernel_rfl) (by kernel_rfl) (by kernel_rfl) (fun _ _ _ h => h) (yieldsIf_want rfl (fun w' hw' => ?y17)) HSZ.out ?_
          case y17 => first | (go_simp; rfl) | (go_simp; done) | rfl
          simp only [Act.put, List.setIfInBounds_toArray, List.set_cons_zero, List.set_cons_succ]
          refine wpAnyG_take (i := 19) (v := ?v18) rfl (by kernel_rfl) (by kernel_rfl) (by kernel_rfl) (by kernel_rfl) (fun _ _ _ h => h) (yieldsIf_want rfl (fun w' hw' => ?y18)) HSZ.out ?_
          case y18 => (obtain ⟨h0, h1, h2, h3, h4, _⟩ := cells5 hw'.1; clear hw'; first | (go_simp; rfl) | (go_simp; done))
          simp only [Act.put, List.setIfInBounds_toArray, List.set_cons_zero, List.set_cons_succ]
          refine wpAnyG_take (i := 20) (v := ?v19) rfl (by kernel_rfl) (by kernel_rfl) (by kernel_rfl) (by kernel_rfl) (fun _ _ _ h => h) (yieldsIf_want rfl (fun w' hw' => ?y19)) HSZ.out ?_
          case y19 => first | (go_simp; rfl) | (go_simp; done) | rfl
          simp only [Act.put, List.setIfInBounds_toArray, List.set_cons_zero, List.set_cons_succ]
          refine wpAnyG_take (i := 21) (v := ?v20) rfl (by kernel_rfl) (by kernel_rfl) (by kernel_rfl) (by kernel_rfl) (fun _ _ _ h => h) (yieldsIf_want rfl (fun w' hw' => ?y20)) HSZ.out ?_
          case y20 => first | (go_simp; rfl) | (go_simp; done) | rfl
          simp only [Act.put, List.setIfInBounds_toArray, List.set_cons_zero, List.set_cons_succ]
          refine wpAnyG_take (i := 22) (v := ?v21) rfl (by kernel_rfl) (by kernel_rfl) (by kernel_rfl) (by kernel_rfl) (fun _ _ _ h => h) (yieldsIf_want rfl (fun w' hw' => ?y21)) HSZ.out ?_
          case y21 => (have h9 := hw'.2.1; clear hw'; first | (go_simp; rfl) | (go_simp; done))
          simp only [Act.put, List.setIfInBounds_toArray, List.set_cons_zero, List.set_cons_succ]
          refine wpAnyG_take (i := 23) (v := ?v22) rfl (by kernel_rfl) (by kernel_rfl) (by kernel_rfl) (by kernel_rfl) (fun _ _ _ h => h) (yieldsIf_want rfl (fun w' hw' => ?y22)) HSZ.out ?_
          case y22 => (have h8 := hw'.2.2.2.2.str; clear hw'; first | (go_simp; rfl) | (go_simp; done))
          simp only [Act.put, List.setIfInBounds_toArray, List.set_cons_zero, List.set_cons_succ]
          refine wpAnyG_take (i := 24) (v := ?v23) rfl (by kernel_rfl) (by kernel_rfl) (by kernel_rfl) (by kernel_rfl) (fun _ _ _ h => h) (yieldsIf_want rfl (fun w' hw' => ?y23)) HSZ.out ?_
          case y23 => first | (go_simp; rfl) | (go_simp; done) | rfl
          simp only [Act.put, List.setIfInBounds_toArray, List.set_cons_zero, List.set_cons_succ]
          refine wpAnyG_take (i := 25) (v := ?v24) rfl (by kernel_rfl) (by kernel_rfl) (by kernel_rfl) (by kernel_rfl) (fun _ _ _ h => h) (yieldsIf_run rfl (fun w' hw' => ?y24)) HSZ.out ?_
          case y24 => first | (go_simp; rfl) | (go_simp; done) | rfl
          simp only [Act.put, List.setIfInBounds_toArray, List.set_cons_zero, List.set_cons_succ]
          refine wpAnyG_done (by kernel_rfl) ?_ _
          refine NoPanic.normal ?_
          go_wp2_with fail
          go_roundw
          case rel => exact ⟨k + 1, by omega, by go_num, HBYY.out.trans (HBZ.out.mono HBYY.out.size)⟩
          case measure => simp [intOf]; omega
        · obtain rfl : k = S.dur.length := by omega
          go_wp2_with fail
          go_ret
          exact ⟨rfl, HBX.out.trans (HBr.out.mono HBX.out.size)⟩

set_option maxHeartbeats 2000000 in
theorem DiskExtremes_any (sd : Nat) (hsd : sd < 256) (l : List OpD) (lv : Value) (w : World) (h : OpsAt w (fun k => k < w.heap.size) lv l) (ha : ∀ o ∈ l, o.a ≤ 9223372036854775807 ∧ o.cs.length ≤ 9223372036854775807) :
    Calls Try.prog 6 #[.int .u8 (sd : Int), lv] w fun e w' => e = .returned (.bool true) ∧ Below w.heap.size w w' := by
  by_cases hl : l.length ≤ 40
  · exact DiskExtremes_yes sd hsd l lv w h ha hl
  · obtain ⟨la, lc, rfl, _⟩ := h
    clear ha
    go_enter Try.func6, Try.ntmps6
    go_wp2_with fail
    refine (known_any _).mono ?_
    rintro e w1 ⟨rfl, hb1⟩
    go_wp2_with fail
    refine (small_no _ _ _ (by omega)).mono ?_
    rintro e w2 ⟨rfl, rfl⟩
    go_wp2_with fail
    refine (known_any _).mono ?_
    rintro e w3 ⟨rfl, hb3⟩
    go_wp2_with fail
    go_ret
    exact ⟨rfl, hb1.trans (hb3.mono hb1.size)⟩

end Go.Proofs.Ytkklbmnbjmicnaa
