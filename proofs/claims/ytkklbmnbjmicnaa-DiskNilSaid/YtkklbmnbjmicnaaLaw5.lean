/- DiskClone. -/
import Derived.Test.YtkklbmnbjmicnaaEq6
import Derived.Test.YtkklbmnbjmicnaaLaw4b
namespace Go.Proofs.Ytkklbmnbjmicnaa
open Go.RowKit Go.Shelf
set_option linter.unusedVariables false
set_option linter.unusedSimpArgs false

set_option maxRecDepth 100000 in
set_option maxHeartbeats 2000000 in
theorem DiskClone_yes (sd : Nat) (hsd : sd < 256) (l m : List OpD) (lv mv : Value) (w : World) (h : OpsAt w (fun k => k < w.heap.size) lv l) (h' : OpsAt w (fun k => k < w.heap.size) mv m) (ha : ∀ o ∈ l, o.a ≤ 9223372036854775807 ∧ o.cs.length ≤ 9223372036854775807) (ha' : ∀ o ∈ m, o.a ≤ 9223372036854775807 ∧ o.cs.length ≤ 9223372036854775807) (hl : l.length ≤ 40) (hl' : m.length ≤ 40) :
    Calls Try.prog 9 #[.int .u8 (sd : Int), lv, mv] w fun e w' => e = .returned (.bool true) ∧ Below w.heap.size w w' := by
  have HO1 := Lib.hid h
  have HA := Lib.hid ha
  have ha1 : ∀ o ∈ m, o.a ≤ 9223372036854775807 := fun o ho => (ha' o ho).1
  have ha2 : ∀ o ∈ m, o.cs.length ≤ 9223372036854775807 := fun o ho => (ha' o ho).2
  have HAM := Lib.hid ha1
  have HCL := Lib.hid ha2
  obtain ⟨la, lc, rfl, _⟩ := h
  have HO2 := Lib.hid h'
  obtain ⟨ma, mc, rfl, _⟩ := h'
  clear ha ha' ha1 ha2
  obtain ⟨n, hn, hn1, hn2⟩ := sectors_of sd
  have HN := Lib.hid hn
  clear hn
  go_enter Try.func9, Try.ntmps9
  go_wp2_with fail
  refine (known_any _).mono ?_
  rintro e w1 ⟨rfl, hb1⟩
  go_wp2_with fail
  refine (small_yes _ _ _ hl).mono ?_
  rintro e w2 ⟨rfl, rfl⟩
  go_wp2_with fail
  refine (small_yes _ _ _ hl').mono ?_
  rintro e w2 ⟨rfl, rfl⟩
  go_wp2_with fail
  rw [HN.out]
  refine (run_at n l _ hn1 hn2 HO1.out hb1 hl HA.out).mono ?_
  rintro e w3 ⟨b, v, F, G, rfl, hD, hR, hFG, hF, hG, hb3⟩
  have hbd := runDS_bnd n l (fun o ho => (HA.out o ho).1) l.length (Nat.le_refl _)
  rw [List.take_length] at hbd
  obtain ⟨S, hS⟩ : ∃ S, runDS n l = S := ⟨_, rfl⟩
  rw [hS] at hD hR hbd
  have hSB : Bnd 40 S := hbd.more hl
  have hSp := hSB.pend
  have hok := hD.ok
  have hD' := hD.bound
  have hR' := hR.bound
  have hb13 : Below w.heap.size w w3 := hb1.trans (hb3.mono hb1.size)
  obtain ⟨da, dc, wa, wc, rfl⟩ := hR.form
  obtain ⟨w4, hw4⟩ : ∃ w4, w3.alloc (.cells #[.slice da (S).dur.length dc, .slice wa (S).pend.length wc, .int .i64 (limI (S)), .bool (S).down, .int .i64 ((S).ops : Int)] 45) = w4 := ⟨_, rfl⟩
  have hb4 : Below w3.heap.size w3 w4 := hw4 ▸ (Below.refl _ _).alloc (Nat.le_refl _) _
  have n4 : w4.heap[w3.heap.size]? = some (.cells #[.slice da (S).dur.length dc, .slice wa (S).pend.length wc, .int .i64 (limI (S)), .bool (S).down, .int .i64 ((S).ops : Int)] 45 (0, 0)) := by rw [← hw4]; exact heap_alloc_new w3 _
  have hs4 : w4.heap.size = w3.heap.size + 1 := by rw [← hw4, World.size_alloc]
  have hD4 := hD'.below hb4
  have hR4 := hR'.below hb4
  have hz1 : w.heap.size ≤ w1.heap.size := hb1.size
  have HB3 := Lib.hid hb13
  have HB4 := Lib.hid hb4
  have HN4 := Lib.hid n4
  have HS4 := Lib.hid hs4
  have HD4 := Lib.hid hD4
  have HR4 := Lib.hid hR4
  have HFG := Lib.hid hFG
  have HF : Hid (∀ k, F k → w.heap.size ≤ k) := Lib.hid (fun k h => Nat.le_trans hz1 (hF k h))
  have HG : Hid (∀ k, G k → w.heap.size ≤ k) := Lib.hid (fun k h => Nat.le_trans hz1 (hG k h))
  have HSB := Lib.hid hSB
  have HOK := Lib.hid hok
  unfold refV at HR4 ⊢
  clear hD hR hbd hSB hok hD' hR' hb13 hb4 n4 hs4 hD4 hR4 hFG hF hG hb1 hb3 hz1 hS
  go_wp2_with fail
  try rw [hw4]
  refine (Clone_any HD4.out (by omega)).mono ?_
  rintro e w5 ⟨rfl, hDc, hb5⟩
  have hDc' := hDc.bound
  have hs4 := HS4.out
  have n5 : w5.heap[w3.heap.size]? = _ := (hb5.block _ (by omega)).trans HN4.out
  obtain ⟨w6, hw6⟩ : ∃ w6, w5.alloc (.cells #[.slice da (S).dur.length dc, .slice wa (S).pend.length wc, .int .i64 (limI (S)), .bool (S).down, .int .i64 ((S).ops : Int)] 45) = w6 := ⟨_, rfl⟩
  have hb6 : Below w5.heap.size w5 w6 := hw6 ▸ (Below.refl _ _).alloc (Nat.le_refl _) _
  have n6 : w6.heap[w5.heap.size]? = some (.cells #[.slice da (S).dur.length dc, .slice wa (S).pend.length wc, .int .i64 (limI (S)), .bool (S).down, .int .i64 ((S).ops : Int)] 45 (0, 0)) := by rw [← hw6]; exact heap_alloc_new w5 _
  have n6' : w6.heap[w3.heap.size]? = _ := (hb6.block _ (by have := hb5.size; omega)).trans n5
  have hs6 : w6.heap.size = w5.heap.size + 1 := by rw [← hw6, World.size_alloc]
  have hD6 : DiskAt w6 (fun k => F k ∧ k < w3.heap.size) b (afterDS S (m.take 0)) := (HD4.out.below hb5).below hb6
  have hR6 := (HR4.out.below hb5).below hb6
  have hDc6 := hDc'.below hb6
  have hq : w.heap.size ≤ w3.heap.size ∧ w3.heap.size < w4.heap.size ∧ w4.heap.size ≤ w5.heap.size ∧ w6.heap.size = w5.heap.size + 1 := ⟨HB3.out.size, by omega, hb5.size, hs6⟩
  have hB6 : Below w.heap.size w w6 := by
    have e1 := HB3.out.trans (HB4.out.mono HB3.out.size)
    have e2 := e1.trans (hb5.mono e1.size)
    exact e2.trans (hb6.mono e2.size)
  obtain ⟨F0, hF0⟩ : ∃ F0 : Nat → Prop, F0 = F := ⟨_, rfl⟩
  have hF6 : ∀ k, F k ∧ k < w3.heap.size → (w.heap.size ≤ k ∧ k < w3.heap.size ∧ F0 k) ∨ w6.heap.size ≤ k := fun k h => .inl ⟨HF.out k h.1, h.2, hF0 ▸ h.1⟩
  have hG6 : ∀ k, G k ∧ k < w3.heap.size → (w.heap.size ≤ k ∧ k < w3.heap.size) ∨ w6.heap.size ≤ k := fun k h => .inl ⟨HG.out k h.1, h.2⟩
  have hFG6 : ∀ k, (F k ∧ k < w3.heap.size) → ¬ (G k ∧ k < w3.heap.size) := fun k h1 h2 => HFG.out k h1.1 h2.1
  have hF0G : ∀ k, G k → ¬ F0 k := fun k h1 h2 => HFG.out k (hF0 ▸ h2) h1
  obtain ⟨c0, c1, c2, c3, c4, cf⟩ := cells5 n5
  have HN6 := Lib.hid n6
  have HN6' := Lib.hid n6'
  have HD6 := Lib.hid hD6
  have HR6 := Lib.hid hR6
  have HDC6 := Lib.hid hDc6
  have HQ := Lib.hid hq
  have HB6 := Lib.hid hB6
  have HF6 := Lib.hid hF6
  have HG6 := Lib.hid hG6
  have HFG6 := Lib.hid hFG6
  have HF0G := Lib.hid hF0G
  have hops2 := HO2.out.kept (F := fun k => w.heap.size ≤ k) (w' := w6) ⟨hB6.os, hB6.tape, hB6.output, hB6.size, fun i hi hf => hB6.block i (by omega)⟩ (fun k hc h => by omega)
  have HOP6 := Lib.hid hops2
  clear hDc hb5 hDc' hs4 n5 hb6 n6 n6' hs6 hD6 hR6 hDc6 hq hB6 hF6 hG6 hFG6 hF0G hops2 hw4 hF0
  clear HD4 HR4 HN4 HFG HF HG HB3 HB4 HS4
  go_wp2_with fail
  try rw [hw6]
  clear hw6 c0 c1 c2 c3 c4 cf
  have ex6 := (⟨0, _, _, da, wa, dc, wc, Nat.zero_le _, rfl, HN6.out, HD6.out, HR6.out, HFG6.out, HF6.out, HG6.out, Chg.refl _ _⟩ : ∃ (k : Nat) (F G : Nat → Prop) (da wa : Option Addr) (dc wc : Nat), k ≤ m.length ∧ (.int .i64 0 : Value) = .int .i64 (k : Int) ∧ w6.heap[w5.heap.size]? = some (.cells #[.slice da (afterDS S (m.take k)).dur.length dc, .slice wa (afterDS S (m.take k)).pend.length wc, .int .i64 (limI (afterDS S (m.take k))), .bool (afterDS S (m.take k)).down, .int .i64 ((afterDS S (m.take k)).ops : Int)] 45 (0, 0)) ∧
      DiskAt w6 F b (afterDS S (m.take k)) ∧ RefAt w6 G (afterDS S (m.take k)) (refV (afterDS S (m.take k)) (.slice da (afterDS S (m.take k)).dur.length dc) (.slice wa (afterDS S (m.take k)).pend.length wc)) ∧
      (∀ k, F k → ¬ G k) ∧ (∀ k, F k → (w.heap.size ≤ k ∧ k < w3.heap.size ∧ F0 k) ∨ w6.heap.size ≤ k) ∧ (∀ k, G k → (w.heap.size ≤ k ∧ k < w3.heap.size) ∨ w6.heap.size ≤ k) ∧ Chg (fun k => (w.heap.size ≤ k ∧ k < w3.heap.size ∧ F0 k) ∨ k = w5.heap.size) w6 w6)
  have EX6 := Lib.hid ex6
  clear ex6 HD6 HN6 HFG6 HF6 HG6
  go_loopw [12] (fun i wr => ∃ (k : Nat) (F G : Nat → Prop) (da wa : Option Addr) (dc wc : Nat), k ≤ m.length ∧ i = .int .i64 (k : Int) ∧ wr.heap[w5.heap.size]? = some (.cells #[.slice da (afterDS S (m.take k)).dur.length dc, .slice wa (afterDS S (m.take k)).pend.length wc, .int .i64 (limI (afterDS S (m.take k))), .bool (afterDS S (m.take k)).down, .int .i64 ((afterDS S (m.take k)).ops : Int)] 45 (0, 0)) ∧
      DiskAt wr F b (afterDS S (m.take k)) ∧ RefAt wr G (afterDS S (m.take k)) (refV (afterDS S (m.take k)) (.slice da (afterDS S (m.take k)).dur.length dc) (.slice wa (afterDS S (m.take k)).pend.length wc)) ∧
      (∀ k, F k → ¬ G k) ∧ (∀ k, F k → (w.heap.size ≤ k ∧ k < w3.heap.size ∧ F0 k) ∨ w6.heap.size ≤ k) ∧ (∀ k, G k → (w.heap.size ≤ k ∧ k < w3.heap.size) ∨ w6.heap.size ≤ k) ∧ Chg (fun k => (w.heap.size ≤ k ∧ k < w3.heap.size ∧ F0 k) ∨ k = w5.heap.size) w6 wr)
    (fun i _ => m.length - (intOf i).toNat)
  case atStart => exact EX6.out
  case round =>
    clear EX6
    obtain ⟨k, F, G, da', wa', dc', wc', hk, rfl, hn, hD, hR, hFG, hF, hG, hC⟩ := hrel
    have HN := Lib.hid hn
    have HD := Lib.hid hD
    have HR := Lib.hid hR
    have HFG := Lib.hid hFG
    have HF := Lib.hid hF
    have HG := Lib.hid hG
    have HC := Lib.hid hC
    have hop := HOP6.out.kept hC (fun k h1 h2 => by have := HQ.out; rcases h2 with h3 | h3 <;> omega)
    have HOP := Lib.hid hop
    clear hn hD hR hFG hF hG hC hop
    by_cases hlt : k < m.length
    · obtain ⟨ma', mc', e, _, hops⟩ := HOP.out
      simp only [Value.slice.injEq] at e
      obtain ⟨rfl, _, rfl⟩ := e
      obtain ⟨g, off, rfl, hCg, hgl, hat⟩ := hops (by intro e; rw [e] at hlt; simp at hlt)
      obtain ⟨ov, hra, hby⟩ := hat k hlt
      obtain ⟨o, ho⟩ : ∃ o, m[k] = o := ⟨_, rfl⟩
      rw [ho] at hra hby
      obtain ⟨oa, oc, rfl, _⟩ := id hby
      have HO := Lib.hid ho
      have HBY := Lib.hid hby
      have HOPS := Lib.hid hra
      have HGL := Lib.hid hCg
      clear hops hCg hgl hat hra hby ho
      go_wp2_with fail
      refine wp_region_noPanic ?_
      refine wp_region_G [10, 11] (fun w' => w'.heap[w5.heap.size]? = some (.cells #[.slice da' (afterDS S (m.take k)).dur.length dc', .slice wa' (afterDS S (m.take k)).pend.length wc', .int .i64 (limI (afterDS S (m.take k))), .bool (afterDS S (m.take k)).down, .int .i64 ((afterDS S (m.take k)).ops : Int)] 45 (0, 0)) ∧ w'.rangeAt g (off + k * 6) [.int .i64 o.kind, .int .i64 o.s, .int .i64 o.a, .int .u8 (o.f.toNat : Int), .int .u8 (o.t.toNat : Int), .slice oa o.cs.length oc]) (by kernel_rfl) ?_
      have hS0 : (fun w' => w'.heap[w5.heap.size]? = some (.cells #[.slice da' (afterDS S (m.take k)).dur.length dc', .slice wa' (afterDS S (m.take k)).pend.length wc', .int .i64 (limI (afterDS S (m.take k))), .bool (afterDS S (m.take k)).down, .int .i64 ((afterDS S (m.take k)).ops : Int)] 45 (0, 0)) ∧ w'.rangeAt g (off + k * 6) [.int .i64 o.kind, .int .i64 o.s, .int .i64 o.a, .int .u8 (o.f.toNat : Int), .int .u8 (o.t.toNat : Int), .slice oa o.cs.length oc]) wr.drew := ⟨HN.out, HOPS.out⟩
      refine wpAnyG_take (i := 0) (v := ?v1) rfl (by kernel_rfl) (by kernel_rfl) (by kernel_rfl) (by kernel_rfl) (fun _ _ _ h => h) (yieldsIf_run rfl (fun w' hw' => ?y1)) hS0 ?_
      case y1 => first | (go_simp; rfl) | (go_simp; done) | rfl
      simp only [Act.put, List.setIfInBounds_toArray, List.set_cons_zero, List.set_cons_succ]
      refine wpAnyG_take (i := 1) (v := ?v2) rfl (by kernel_rfl) (by kernel_rfl) (by kernel_rfl) (by kernel_rfl) (fun _ _ _ h => h) (yieldsIf_run rfl (fun w' hw' => ?y2)) hS0 ?_
      case y2 => (obtain ⟨g0, g1, g2, g3, g4, _⟩ := cells5 hw'.1; clear hw'; first | (go_simp; rfl) | (go_simp; done))
      simp only [Act.put, List.setIfInBounds_toArray, List.set_cons_zero, List.set_cons_succ]
      refine wpAnyG_take (i := 2) (v := ?v3) rfl (by kernel_rfl) (by kernel_rfl) (by kernel_rfl) (by kernel_rfl) (fun _ _ _ h => h) (yieldsIf_run rfl (fun w' hw' => ?y3)) hS0 ?_
      case y3 => first | (go_simp; rfl) | (go_simp; done) | rfl
      simp only [Act.put, List.setIfInBounds_toArray, List.set_cons_zero, List.set_cons_succ]
      refine wpAnyG_take (i := 3) (v := ?v4) rfl (by kernel_rfl) (by kernel_rfl) (by kernel_rfl) (by kernel_rfl) (fun _ _ _ h => h) (yieldsIf_run rfl (fun w' hw' => ?y4)) hS0 ?_
      case y4 => first | (go_simp; rfl) | (go_simp; done) | rfl
      simp only [Act.put, List.setIfInBounds_toArray, List.set_cons_zero, List.set_cons_succ]
      refine wpAnyG_take (i := 4) (v := ?v5) rfl (by kernel_rfl) (by kernel_rfl) (by kernel_rfl) (by kernel_rfl) (fun _ _ _ h => h) (yieldsIf_run rfl (fun w' hw' => ?y5)) hS0 ?_
      case y5 => first | (go_simp; rfl) | (go_simp; done) | rfl
      simp only [Act.put, List.setIfInBounds_toArray, List.set_cons_zero, List.set_cons_succ]
      refine wpAnyG_take (i := 5) (v := ?v6) rfl (by kernel_rfl) (by kernel_rfl) (by kernel_rfl) (by kernel_rfl) (fun _ _ _ h => h) (yieldsIf_run rfl (fun w' hw' => ?y6)) hS0 ?_
      case y6 => (obtain ⟨h0, h1, h2, h3, h4, h5⟩ := range6 hw'.2; clear hw'; first | (go_simp; rfl) | (go_simp; done))
      simp only [Act.put, List.setIfInBounds_toArray, List.set_cons_zero, List.set_cons_succ]
      refine wpAnyG_do (i := 6) (by kernel_rfl) rfl rfl (fun K hK => ?_)
      go_simp
      have hbd := afterDS_bnd HSB.out m HAM.out k hk
      refine (Do_any o (HD.out.chg (G := fun _ => False) ((Chg.refl _ wr).drew) (fun _ _ h => h)) (HR.out.kept (F := fun _ => False) ((Chg.refl _ wr).drew) (fun _ _ h => h)) (HBY.out.kept (G := fun _ => False) ((Chg.refl _ wr).drew) (fun _ _ h => h)) HFG.out (fun k h hc => by have hc' : k < w.heap.size := hc; have := HQ.out; rcases HF.out k h with h2 | h2 <;> omega) (by have := hbd.pend; omega) (by have := hbd.ops; omega) hbd.limit (HCL.out o (by rw [← HO.out]; exact List.getElem_mem _))).mono ?_
      rintro e w7 ⟨v7, F7, G7, rfl, hD7, hR7, hFG7, hF7, hG7, hC7⟩
      have hst := afterDS_succ S m k hlt
      rw [HO.out] at hst
      rw [← hst] at hD7 hR7
      obtain ⟨da7, dc7, wa7, wc7, rfl⟩ := hR7.form
      have hq := HQ.out
      have hz6 := HC.out.size
      have hC7' : Chg F wr w7 := ((Chg.refl F wr).drew).trans hC7 (fun _ h => .inl h)
      have hFb : ∀ k, F k → k ≠ w5.heap.size := fun k h => by rcases HF.out k h with h2 | h2 <;> omega
      have n7 : w7.heap[w5.heap.size]? = _ := (hC7'.block _ (Array.getElem?_eq_some_iff.1 HN.out).1 (fun h => hFb _ h rfl)).trans HN.out
      have r7 : w7.rangeAt g (off + k * 6) [.int .i64 o.kind, .int .i64 o.s, .int .i64 o.a, .int .u8 (o.f.toNat : Int), .int .u8 (o.t.toNat : Int), .slice oa o.cs.length oc] := fun j u hu => hC7'.cell (p := ⟨g, off + k * 6 + j, none⟩) (fun h => by have h1 := HF.out g h; have h3 : g < w.heap.size := HGL.out; have hq := HQ.out; rcases h1 with h2 | h2 <;> omega) (HOPS.out j u hu)
      have HN7 := Lib.hid n7
      have HR7' := Lib.hid r7
      have hF7' : ∀ k, F7 k → (w.heap.size ≤ k ∧ k < w3.heap.size ∧ F0 k) ∨ w6.heap.size ≤ k := fun k h => (hF7 k h).elim (HF.out k) (fun h => .inr (Nat.le_trans hz6 h))
      have hG7' : ∀ k, G7 k → (w.heap.size ≤ k ∧ k < w3.heap.size) ∨ w6.heap.size ≤ k := fun k h => (hG7 k h).elim (HG.out k) (fun h => .inr (Nat.le_trans hz6 h))
      have hCC : Chg (fun k => (w.heap.size ≤ k ∧ k < w3.heap.size ∧ F0 k) ∨ k = w5.heap.size) w6 w7 := HC.out.trans hC7' (fun i hi => (HF.out i hi).elim (fun h => .inl (.inl h)) .inr)
      obtain ⟨w8, hw8⟩ : ∃ w8, put5 w7 w5.heap.size (.slice da7 (afterDS S (m.take (k + 1))).dur.length dc7) (.slice wa7 (afterDS S (m.take (k + 1))).pend.length wc7) (.int .i64 (limI (afterDS S (m.take (k + 1))))) (.bool (afterDS S (m.take (k + 1))).down) (.int .i64 ((afterDS S (m.take (k + 1))).ops : Int)) = w8 := ⟨_, rfl⟩
      have n8 := put5_heap n7 (.slice da7 (afterDS S (m.take (k + 1))).dur.length dc7) (.slice wa7 (afterDS S (m.take (k + 1))).pend.length wc7) (.int .i64 (limI (afterDS S (m.take (k + 1))))) (.bool (afterDS S (m.take (k + 1))).down) (.int .i64 ((afterDS S (m.take (k + 1))).ops : Int))
      have hc8 := put5_chg w7 w5.heap.size (.slice da7 (afterDS S (m.take (k + 1))).dur.length dc7) (.slice wa7 (afterDS S (m.take (k + 1))).pend.length wc7) (.int .i64 (limI (afterDS S (m.take (k + 1))))) (.bool (afterDS S (m.take (k + 1))).down) (.int .i64 ((afterDS S (m.take (k + 1))).ops : Int))
      rw [hw8] at n8 hc8
      have hD8 := hD7.chg hc8 (fun k h e => by rcases hF7' k h with h2 | h2 <;> omega)
      have hR8 := hR7.kept hc8 (fun k h e => by rcases hG7' k h with h2 | h2 <;> omega)
      have hCC8 : Chg (fun k => (w.heap.size ≤ k ∧ k < w3.heap.size ∧ F0 k) ∨ k = w5.heap.size) w6 w8 := hCC.trans hc8 (fun i hi => .inl (.inr hi))
      have HN8 := Lib.hid n8
      have HD8 := Lib.hid hD8
      have HR8 := Lib.hid hR8
      have HC8 := Lib.hid hCC8
      have HFG8 := Lib.hid hFG7
      have HF8 := Lib.hid hF7'
      have HG8 := Lib.hid hG7'
      obtain ⟨c0, c1, c2, c3, c4, cf⟩ := cells5 n7
      unfold put5 at hw8
      unfold refV
      clear hD7 hR7 hFG7 hF7 hG7 hC7 hC7' n7 r7 hF7' hG7' hCC n8 hc8 hD8 hR8 hCC8 hst hbd hFb hq hz6
      refine hK _ _ ⟨HN7.out, HR7'.out⟩ ?_
      clear hK K
      try simp only [Act.put, List.setIfInBounds_toArray, List.set_cons_zero, List.set_cons_succ]
      refine wpAnyG_take (i := 7) (v := ?v7) rfl (by kernel_rfl) (by kernel_rfl) (by kernel_rfl) (by kernel_rfl) (fun _ _ _ h => h) (yieldsIf_run rfl (fun w' hw' => ?y7)) ⟨HN7.out, HR7'.out⟩ ?_
      case y7 => first | (go_simp; rfl) | (go_simp; done) | rfl
      simp only [Act.put, List.setIfInBounds_toArray, List.set_cons_zero, List.set_cons_succ]
      refine wpAnyG_take (i := 8) (v := ?v8) rfl (by kernel_rfl) (by kernel_rfl) (by kernel_rfl) (by kernel_rfl) (fun _ _ _ h => h) (yieldsIf_run rfl (fun w' hw' => ?y8)) ⟨HN7.out, HR7'.out⟩ ?_
      case y8 => first | (go_simp; rfl) | (go_simp; done) | rfl
      simp only [Act.put, List.setIfInBounds_toArray, List.set_cons_zero, List.set_cons_succ]
      refine wpAnyG_pure (i := 9) (v := ?v9) rfl (by kernel_rfl) (by kernel_rfl) (by kernel_rfl) (by kernel_rfl) (fun _ _ _ h => h) (yieldsIf_run rfl (fun w' hw' => ?y9)) (fun _ => ⟨HN7.out, HR7'.out⟩) ?_
      case y9 => first | (go_simp; rfl) | (go_simp; done) | rfl
      simp only [Act.put, List.setIfInBounds_toArray, List.set_cons_zero, List.set_cons_succ]
      refine wpAnyG_fin (i := 10) (by kernel_rfl) rfl rfl (by kernel_rfl) (fun K hK => ?_)
      go_simp
      refine hK _ _ ?_
      clear hK K
      try simp only [Act.put, List.setIfInBounds_toArray, List.set_cons_zero, List.set_cons_succ]
      refine wpAnyG_fin (i := 11) (by kernel_rfl) rfl rfl (by kernel_rfl) (fun K hK => ?_)
      go_simp
      refine hK _ _ ?_
      clear hK K
      try simp only [Act.put, List.setIfInBounds_toArray, List.set_cons_zero, List.set_cons_succ]
      refine wpAnyG_done (by kernel_rfl) ?_ _
      refine NoPanic.normal ?_
      clear hw8 c0 c1 c2 c3 c4 cf hS0
      go_wp2_with fail
      go_roundw
      case rel => exact ⟨k + 1, F7, G7, da7, wa7, dc7, wc7, by omega, by go_num, HN8.out, HD8.out, HR8.out, HFG8.out, HF8.out, HG8.out, HC8.out⟩
      case measure => simp [intOf]; omega

    · obtain rfl : k = m.length := by omega
      have hDe := HD.out
      have hRe := HR.out
      have hNe := HN.out
      have hbm := (afterDS_bnd HSB.out m HAM.out m.length (Nat.le_refl _)).pend
      rw [List.take_length] at hDe hRe hbm hNe
      obtain ⟨X, hX⟩ : ∃ X, afterDS S m = X := ⟨_, rfl⟩
      rw [hX] at hDe hRe hbm hNe
      have hq := HQ.out
      have hn8 : wr.heap[w3.heap.size]? = _ := (HC.out.block _ (by omega) (by rintro (h | h) <;> omega)).trans HN6'.out
      have hdc : DiskAt wr _ w4.heap.size S := HDC6.out.chg HC.out (fun k h1 h2 => by rcases h2 with h | h <;> omega)
      have hra := HR6.out.kept HC.out (fun k h1 h2 => by rcases h2 with h | h; exact HF0G.out k h1.1 h.2.2; omega)
      have hbw := HB6.out.trans (HC.out.below (fun k h => by rcases h with h | h <;> omega) HB6.out.size)
      have HDE := Lib.hid hDe
      have HRE := Lib.hid hRe
      have HNE := Lib.hid hNe
      have HN8 := Lib.hid hn8
      have HDC := Lib.hid hdc
      have HRA := Lib.hid hra
      have HBW := Lib.hid hbw
      obtain ⟨c0, c1, c2, c3, c4, cf⟩ := cells5 hn8
      clear hDe hRe hNe hn8 hdc hra hbw hq hX
      clear HD HR HN HFG HF HG HC HOP HN6' HR6 HDC6 HB6 HOP6 HF0G
      unfold refV at HRE HRA
      go_wp2_with fail
      refine (view_any HDC.out HRA.out (by omega)).mono ?_
      rintro e wx ⟨rfl, hbx⟩
      have HBX := Lib.hid hbx
      clear hbx c0 c1 c2 c3 c4 cf
      go_wp2_with fail
      refine (Equal_nil b).mono ?_
      rintro e wv ⟨rfl, hwv⟩
      subst hwv
      have hn8 := (HBX.out.block _ (Array.getElem?_eq_some_iff.1 HN8.out).1).trans HN8.out
      have hn11 := (HBX.out.block _ (Array.getElem?_eq_some_iff.1 HNE.out).1).trans HNE.out
      have hl8 := (Array.getElem?_eq_some_iff.1 hn8).1
      have hl11 := (Array.getElem?_eq_some_iff.1 hn11).1
      have hdc := HDC.out.below HBX.out
      have hdd := HDE.out.below HBX.out
      have hra := HRA.out.below HBX.out
      have hrb := HRE.out.below HBX.out
      obtain ⟨r, hr⟩ : ∃ r, decide (sameDS S X) = r := ⟨_, rfl⟩
      have hbv : Below w.heap.size w wv := HBW.out.trans (HBX.out.mono HBW.out.size)
      clear HN8 HDC HDE HRA HRE HNE HBX HBW
      have HN8 := Lib.hid hn8
      have HN11 := Lib.hid hn11
      have HL8 := Lib.hid hl8
      have HL11 := Lib.hid hl11
      have HDC := Lib.hid hdc
      have HDD := Lib.hid hdd
      have HRA := Lib.hid hra
      have HRB := Lib.hid hrb
      have HRR := Lib.hid hr
      have HBV := Lib.hid hbv
      clear hn8 hn11 hl8 hl11 hdc hdd hra hrb hr hbv
      go_wp2_with fail
      refine wp_region_noPanic ?_
      refine wp_region_G [7] (fun w' => Below wv.heap.size wv w') (by kernel_rfl) ?_
      have hS0 : (fun w' => Below wv.heap.size wv w') wv.drew := (Below.refl _ _).drew
      refine wpAnyG_take (i := 0) (v := ?v10) rfl (by kernel_rfl) (by kernel_rfl) (by kernel_rfl) (by kernel_rfl) (fun _ _ _ h => h) (yieldsIf_run rfl (fun w' hw' => ?y10)) hS0 ?_
      case y10 => first | (go_simp; rfl) | (go_simp; done) | rfl
      simp only [Act.put, List.setIfInBounds_toArray, List.set_cons_zero, List.set_cons_succ]
      refine wpAnyG_take (i := 1) (v := ?v11) rfl (by kernel_rfl) (by kernel_rfl) (by kernel_rfl) (by kernel_rfl) (fun _ _ _ h => h) (yieldsIf_run rfl (fun w' hw' => ?y11)) hS0 ?_
      case y11 => first | (go_simp; rfl) | (go_simp; done) | rfl
      simp only [Act.put, List.setIfInBounds_toArray, List.set_cons_zero, List.set_cons_succ]
      refine wpAnyG_take (i := 3) (v := ?v12) rfl (by kernel_rfl) (by kernel_rfl) (by kernel_rfl) (by kernel_rfl) (fun _ _ _ h => h) (yieldsIf_run rfl (fun w' hw' => ?y12)) hS0 ?_
      case y12 => (obtain ⟨g0, g1, g2, g3, g4, _⟩ := cells5 ((hw'.block _ HL8.out).trans HN8.out); clear hw'; first | (go_simp; rfl) | (go_simp; done))
      simp only [Act.put, List.setIfInBounds_toArray, List.set_cons_zero, List.set_cons_succ]
      refine wpAnyG_take (i := 4) (v := ?v13) rfl (by kernel_rfl) (by kernel_rfl) (by kernel_rfl) (by kernel_rfl) (fun _ _ _ h => h) (yieldsIf_run rfl (fun w' hw' => ?y13)) hS0 ?_
      case y13 => (obtain ⟨g0, g1, g2, g3, g4, _⟩ := cells5 ((hw'.block _ HL11.out).trans HN11.out); clear hw'; first | (go_simp; rfl) | (go_simp; done))
      simp only [Act.put, List.setIfInBounds_toArray, List.set_cons_zero, List.set_cons_succ]
      refine wpAnyG_do (i := 2) (by kernel_rfl) rfl rfl (fun K hK => ?_)
      go_simp
      refine (Equal_any (HDC.out.below (Below.refl _ _).drew) (HDD.out.below (Below.refl _ _).drew) (by omega) (by omega)).mono ?_
      rw [HRR.out]
      rintro e w20 ⟨rfl, hb20⟩
      have hb20' : Below wv.heap.size wv w20 := (Below.refl _ wv).drew.trans hb20
      refine hK _ _ hb20' ?_
      clear hK K
      try simp only [Act.put, List.setIfInBounds_toArray, List.set_cons_zero, List.set_cons_succ]
      refine wpAnyG_do (i := 5) (by kernel_rfl) rfl rfl (fun K hK => ?_)
      go_simp
      refine (Same_any (HRA.out.below hb20') (HRB.out.below hb20') HOK.out (by omega)).mono ?_
      rw [HRR.out]
      rintro e w21 ⟨rfl, hb21⟩
      have hb21' : Below wv.heap.size wv w21 := hb20'.trans (hb21.mono hb20'.size)
      refine hK _ _ hb21' ?_
      clear hK K
      try simp only [Act.put, List.setIfInBounds_toArray, List.set_cons_zero, List.set_cons_succ]
      refine wpAnyG_take (i := 6) (v := ?v14) rfl (by kernel_rfl) (by kernel_rfl) (by kernel_rfl) (by kernel_rfl) (fun _ _ _ h => h) (yieldsIf_run rfl (fun w' hw' => ?y14)) hb21' ?_
      case y14 => first | (go_simp; rfl) | (go_simp; done) | rfl
      simp only [Act.put, List.setIfInBounds_toArray, List.set_cons_zero, List.set_cons_succ]
      refine wpAnyG_fin (i := 7) (by kernel_rfl) rfl rfl (by kernel_rfl) (fun K hK => ?_)
      go_simp
      refine hK _ _ ?_
      clear hK K
      try simp only [Act.put, List.setIfInBounds_toArray, List.set_cons_zero, List.set_cons_succ]
      refine wpAnyG_done (by kernel_rfl) ?_ _
      refine NoPanic.normal ?_

      clear hS0
      go_wp2_with fail
      go_ret
      exact ⟨by simp, HBV.out.trans (hb21'.mono HBV.out.size)⟩

end Go.Proofs.Ytkklbmnbjmicnaa
