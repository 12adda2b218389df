/- The current area: the walk; Lists of records whose payloads lie in given blocks; Journals, plainly: records that are scanned again. -/
import Derived.Test.YtplclpileejemaaDoorJB11
import Derived.Test.YtplclpileejemaaDoorJB6
namespace Go.Proofs.YtplclpileejemaaDoor
open Go.RowKit
set_option linter.unusedVariables false
set_option linter.unusedSimpArgs false

def pickA (A0 A1 : Option ArD) (o : Option Nat) : Option ArD := match o with | none => none | some 0 => A0 | some _ => A1
def twoC (s t : StD) : Array Value := #[.int .i64 s.g, .int .i64 s.f, s.v, .int .i64 0, .int .i64 t.g, .int .i64 t.f, t.v, .int .i64 0]
def CurIs (o : Option ArD) (ok : Bool) (s : StD) (bi : Nat) : Prop := match o with | none => ok = false | some x => ok = true ∧ s.is x ∧ x.gen % 2 = bi
theorem cur_end0 {A0 A1 : Option ArD} {fd : Bool} {s : StD} (hs : selI A0 A1 2 = if fd then some 0 else none) (hI : ∀ x, A0 = some x → s.is x) (hP : ∀ x, A0 = some x → x.gen % 2 = 0) : CurIs (pickA A0 A1 (selI A0 A1 2)) fd s 0 := by
  rw [hs]
  cases fd with
  | false => rfl
  | true =>
    cases h : A0 with
    | none => rw [h] at hs; cases A1 <;> simp [selI] at hs
    | some x => exact ⟨rfl, hI x h, hP x h⟩
theorem cur_end1 {A0 A1 : Option ArD} {fd : Bool} {s : StD} (hs : selI A0 A1 2 = if fd then some 1 else none) (hI : ∀ x, A1 = some x → s.is x) (hP : ∀ x, A1 = some x → x.gen % 2 = 1) : CurIs (pickA A0 A1 (selI A0 A1 2)) fd s 1 := by
  rw [hs]
  cases fd with
  | false => rfl
  | true =>
    cases h : A1 with
    | none => rw [h] at hs; cases A0 <;> simp [selI] at hs
    | some x => exact ⟨rfl, hI x h, hP x h⟩
theorem LoadPost.parts {w w' : World} {o : Option ArD} {e : Ending} (h : LoadPost w o e w') : ∃ (ok : Bool) (g f : Int) (v : Value) (L : List (List UInt8)), e = .returned (.tuple #[.agg (stC g f v 0), .bool ok, .int .i64 0]) ∧ EntsAt w' (fun k => w.heap.size ≤ k) v L ∧ Below w.heap.size w w' ∧ (ok = o.isSome ∧ ∀ x, o = some x → (⟨g, f, v, L⟩ : StD).is x) := by
  obtain ⟨c, g, f, v, L, h1, h2, h3, h4⟩ := h
  refine ⟨c, g, f, v, L, h1, h2, h3, ?_⟩
  cases o with
  | none => exact ⟨h4, fun x hx => by cases hx⟩
  | some y => exact ⟨h4.1, fun x hx => by cases hx; exact ⟨h4.2.1, h4.2.2.1, h4.2.2.2⟩⟩
theorem sel_one {A0 A1 : Option ArD} {ok : Bool} (h : ok = A0.isSome) : selI A0 A1 1 = if ok then some 0 else none := by
  subst h
  cases A0 <;> rfl
theorem sel_two {A0 A1 : Option ArD} {ok fd : Bool} {bi : Nat} {g0 g1 : Int} (h : ok = A1.isSome) (hs : selI A0 A1 1 = if fd then some bi else none) (h0 : ∀ x, A0 = some x → g0 = (x.gen : Int)) (h1 : ∀ x, A1 = some x → g1 = (x.gen : Int)) {r : Bool} (hr : r = (ok && (!fd || decide (g0 < g1)))) :
    selI A0 A1 2 = if fd || ok then some (if r then 1 else bi) else none := by
  subst h
  cases A0 with
  | none =>
    obtain rfl : fd = false := by cases fd with | false => rfl | true => cases hs
    cases A1 with
    | none => rfl
    | some y => subst hr; rfl
  | some x =>
    cases fd with
    | false => cases hs
    | true =>
      obtain rfl : (0 : Nat) = bi := Option.some.inj hs
      cases A1 with
      | none => subst hr; rfl
      | some y =>
        have e0 := h0 x rfl
        have e1 := h1 y rfl
        subst e0 e1
        subst hr
        by_cases hlt : x.gen < y.gen <;> simp [selI, hlt]
def CurPost (w : World) (o : Option ArD) (e : Ending) (w' : World) : Prop :=
  ∃ (bi : Nat) (ok : Bool) (s : StD), e = .returned (.tuple #[.int .i64 (bi : Int), .agg s.cells, .bool ok, .int .i64 0]) ∧ EntsAt w' (fun k => w.heap.size ≤ k) s.v s.L ∧ Below w.heap.size w w' ∧ bi ≤ 1 ∧ CurIs o ok s bi
set_option maxRecDepth 100000 in
set_option maxHeartbeats 2000000 in
theorem Jcurrent_any {w : World} {F : Nat → Prop} {b : Nat} {S : DS} (h : DiskAt w F b S) (hK : KAt w) (a c : Nat) (hc8 : 8 ≤ c) (hd : S.down = false) (hr : a + c ≤ S.dur.length) (hlen : S.pend.length < 1000000000) :
    Calls Tryd.prog 38 #[stV b (a : Int) (c : Int)] w (CurPost w (currL S ⟨a, c⟩)) := by
  obtain ⟨A0, hA0⟩ : ∃ A0, areaL (secL S (a + 0 * (c / 2)) (c / 2)) 0 = A0 := ⟨_, rfl⟩
  obtain ⟨A1, hA1⟩ : ∃ A1, areaL (secL S (a + 1 * (c / 2)) (c / 2)) 1 = A1 := ⟨_, rfl⟩
  have hcur : currL S ⟨a, c⟩ = pickA A0 A1 (selI A0 A1 2) := by
    subst hA0
    subst hA1
    exact curr_sel _ _
  have HL0 := Lib.hid (show ∀ w1, Below w.heap.size w w1 → Calls Tryd.prog 58 #[stV b (a : Int) (c : Int), .int .i64 0] w1 (LoadPost w1 A0) from fun w1 hb => by
    rw [← hA0]; exact Jload_any (h.below hb) (KAt.below hK hb hK.size) a c 0 hc8 (by omega) hd hr hlen)
  have HL1 := Lib.hid (show ∀ w1, Below w.heap.size w w1 → Calls Tryd.prog 58 #[stV b (a : Int) (c : Int), .int .i64 1] w1 (LoadPost w1 A1) from fun w1 hb => by
    rw [← hA1]; exact Jload_any (h.below hb) (KAt.below hK hb hK.size) a c 1 hc8 (by omega) hd hr hlen)
  have HP0 := Lib.hid (show ∀ x, A0 = some x → x.gen % 2 = 0 from fun x hx => areaL_parity (hA0.trans hx))
  have HP1 := Lib.hid (show ∀ x, A1 = some x → x.gen % 2 = 1 from fun x hx => areaL_parity (hA1.trans hx))
  obtain ⟨A, hA⟩ : ∃ A, currL S ⟨a, c⟩ = A := ⟨_, rfl⟩
  rw [hA] at hcur ⊢
  have HA := Lib.hid hcur
  clear hA hcur hA0 hA1
  obtain ⟨w1, hw1⟩ : ∃ w1, w.alloc (.cells #[.pointer (some ⟨b, 0, none⟩), .int .i64 (a : Int), .int .i64 (c : Int)] 75) = w1 := ⟨_, rfl⟩
  have hb1 : Below w.heap.size w w1 := hw1 ▸ (Below.refl _ _).alloc (Nat.le_refl _) _
  have s1 : w1.heap.size = w.heap.size + 1 := by rw [← hw1]; simp
  have x1 : w1.heap[w.heap.size]? = some (.cells #[.pointer (some ⟨b, 0, none⟩), .int .i64 (a : Int), .int .i64 (c : Int)] 75 (0, 0)) := by rw [← hw1]; exact heap_alloc_new _ _
  obtain ⟨w2, hw2⟩ : ∃ w2, w1.alloc (.cells StD.zero.cells 77) = w2 := ⟨_, rfl⟩
  have hb2 : Below w1.heap.size w1 w2 := hw2 ▸ (Below.refl _ _).alloc (Nat.le_refl _) _
  have s2 : w2.heap.size = w1.heap.size + 1 := by rw [← hw2]; simp
  have x2 : w2.heap[w1.heap.size]? = some (.cells StD.zero.cells 77 (0, 0)) := by rw [← hw2]; exact heap_alloc_new _ _
  obtain ⟨w3, hw3⟩ : ∃ w3, w2.alloc (.cells (twoC .zero .zero) 106) = w3 := ⟨_, rfl⟩
  have hb3 : Below w2.heap.size w2 w3 := hw3 ▸ (Below.refl _ _).alloc (Nat.le_refl _) _
  have s3 : w3.heap.size = w2.heap.size + 1 := by rw [← hw3]; simp
  have x3 : w3.heap[w2.heap.size]? = some (.cells (twoC .zero .zero) 106 (0, 0)) := by rw [← hw3]; exact heap_alloc_new _ _
  obtain ⟨B, hB⟩ : ∃ B, w.heap.size = B := ⟨_, rfl⟩
  have x2 := (hb3.block _ (by omega)).trans x2
  have x1 := (hb3.block _ (by omega)).trans ((hb2.block _ (by omega)).trans x1)
  rw [show w2.heap.size = B + 2 by omega] at x3
  rw [show w1.heap.size = B + 1 by omega] at x2
  rw [hB] at x1
  have HB := Lib.hid hB
  have HW1 := Lib.hid hw1
  have HW2 := Lib.hid hw2
  have HW3 := Lib.hid hw3
  have HX1 := Lib.hid x1
  have HX2 := Lib.hid x2
  have HX3 := Lib.hid x3
  have HB3 := Lib.hid ((hb1.trans (hb2.mono (by omega))).trans (hb3.mono (by omega)))
  have HS3 := Lib.hid (show w3.heap.size = B + 3 by omega)
  have HE3 := Lib.hid (entsAt_nil w3 (fun k => B + 3 ≤ k))
  have HC3 := Lib.hid (Chg.refl (fun k => k = B + 2) w3)
  clear hw1 hw2 hw3 hb1 hb2 hb3 s1 s2 s3 x1 x2 x3 hB h hK hr hlen hd hc8
  unfold stV at HL0 HL1 ⊢
  unfold StD.cells StD.zero stC at HW2
  unfold twoC StD.zero at HW3
  go_enter Tryd.func38, Tryd.ntmps38
  go_wp2_with fail
  rw [HW1.out, HW2.out, HW3.out, HB.out]
  go_loopw [2, 4, 9] (fun bv fv iv wr => ∃ (i : Nat) (s0 s1 : StD) (bi : Nat) (fd : Bool), i ≤ 2 ∧ iv = .int .i64 (i : Int) ∧ bv = .int .i64 (bi : Int) ∧ fv = .bool fd ∧ bi ≤ 1 ∧ Hid (selI A0 A1 i = if fd then some bi else none) ∧ Hid (wr.heap[B + 2]? = some (.cells (twoC s0 s1) 106 (0, 0))) ∧ Hid (EntsAt wr (fun k => B + 3 ≤ k) s0.v s0.L) ∧ Hid (EntsAt wr (fun k => B + 3 ≤ k) s1.v s1.L) ∧ Hid (∀ x, 0 < i → A0 = some x → s0.is x) ∧ Hid (∀ x, 1 < i → A1 = some x → s1.is x) ∧ Hid (Chg (fun k => k = B + 2) w3 wr)) (fun _ _ iv _ => 2 - (intOf iv).toNat)
  case atStart => exact ⟨0, .zero, .zero, 0, false, by omega, rfl, rfl, rfl, by omega, Lib.hid rfl, HX3, HE3, HE3, Lib.hid (fun x h => absurd h (by omega)), Lib.hid (fun x h => absurd h (by omega)), HC3⟩
  case round =>
    obtain ⟨i, s0, s1, bi, fd, hi, rfl, rfl, rfl, hbi, HSE, HXR, HEA, HEB, HI0, HI1, HCR⟩ := hrel
    obtain ⟨W1, rfl⟩ : ∃ W1, W1 = wr := ⟨_, rfl⟩
    clear HX3 HE3 HC3
    obtain ⟨g0, f0, v0, L0⟩ := s0
    obtain ⟨g1, f1, v1, L1⟩ := s1
    obtain ⟨a0, c0, e0⟩ := HEA.out.form
    obtain ⟨a1, c1, e1⟩ := HEB.out.form
    simp only at e0 e1
    subst e0
    subst e1
    obtain ⟨n0, hn0⟩ : ∃ n, L0.length = n := ⟨_, rfl⟩
    obtain ⟨n1, hn1⟩ : ∃ n, L1.length = n := ⟨_, rfl⟩
    rw [hn0] at HXR HEA HI0
    rw [hn1] at HXR HEB HI1
    clear hn0 hn1
    have HBW := Lib.hid (HB3.out.trans (HCR.out.below (B := w.heap.size) (fun k e => by have := HB.out; omega) HB3.out.size))
    have HCB := Lib.hid ((HCR.out.block B (by have := HS3.out; omega) (by omega)).trans HX1.out)
    have HR2 := Lib.hid ((HCR.out.block (B + 1) (by have := HS3.out; omega) (by omega)).trans HX2.out)
    rcases (show i = 2 ∨ i = 0 ∨ i = 1 by omega) with rfl | rfl | rfl
    · have HLC := Lib.hid (show ∀ w', Chg (fun j => j = B + 1) W1 w' → w'.cell? ⟨B + 2, 0, none⟩ = some (.int .i64 g0) ∧ w'.cell? ⟨B + 2, 1, none⟩ = some (.int .i64 f0) ∧ w'.cell? ⟨B + 2, 2, none⟩ = some (.slice a0 n0 c0) ∧ w'.cell? ⟨B + 2, 3, none⟩ = some (.int .i64 0) ∧ w'.cell? ⟨B + 2, 4, none⟩ = some (.int .i64 g1) ∧ w'.cell? ⟨B + 2, 5, none⟩ = some (.int .i64 f1) ∧ w'.cell? ⟨B + 2, 6, none⟩ = some (.slice a1 n1 c1) ∧ w'.cell? ⟨B + 2, 7, none⟩ = some (.int .i64 0) from fun w' hw' => by
        have h1 := (hw'.block (B + 2) (Array.getElem?_eq_some_iff.1 HXR.out).1 (by omega)).trans HXR.out
        refine ⟨?_, ?_, ?_, ?_, ?_, ?_, ?_, ?_⟩ <;> rw [cell_of_row _ _ _ _ _ _ h1] <;> rfl)
      rcases (show bi = 0 ∨ bi = 1 by omega) with rfl | rfl
      · go_wp2_with fail
        refine wp_region_noPanic ?_
        refine wp_region_H (Chg (fun j => j = B + 1) W1) (by kernel_rfl) ?_
        have hS0 : (Chg (fun j => j = B + 1) W1) W1.drew := Chg.of_below ((Below.refl _ _).drew)
        obtain ⟨wd, hwd⟩ : ∃ wd, W1.drew = wd := ⟨_, rfl⟩
        rw [hwd] at hS0 ⊢
        have hd0 : Below W1.heap.size W1 wd := hwd ▸ (Below.refl _ _).drew
        clear hwd
        refine wpAnyH_takeI (i := 0) (v := ?v1) rfl (by kernel_rfl) (by kernel_rfl) (by kernel_rfl) (fun _ _ _ h => h) (yieldsIf_run rfl (fun w' hw' => ?y1)) hS0 ?_
        case y1 => first | (go_simp; rfl) | (go_simp; done) | rfl
        simp only [Act.put, List.setIfInBounds_toArray, List.set_cons_zero, List.set_cons_succ]
        refine wpAnyH_takeI (i := 1) (v := ?v2) rfl (by kernel_rfl) (by kernel_rfl) (by kernel_rfl) (fun _ _ _ h => h) (yieldsIf_run rfl (fun w' hw' => ?y2)) hS0 ?_
        case y2 => first | (go_simp; rfl) | (go_simp; done) | rfl
        simp only [Act.put, List.setIfInBounds_toArray, List.set_cons_zero, List.set_cons_succ]
        refine wpAnyH_takeI (i := 2) (v := ?v3) rfl (by kernel_rfl) (by kernel_rfl) (by kernel_rfl) (fun _ _ _ h => h) (yieldsIf_run rfl (fun w' hw' => ?y3)) hS0 ?_
        case y3 => first | (go_simp; rfl) | (go_simp; done) | rfl
        simp only [Act.put, List.setIfInBounds_toArray, List.set_cons_zero, List.set_cons_succ]
        refine wpAnyH_takeI (i := 3) (v := ?v4) rfl (by kernel_rfl) (by kernel_rfl) (by kernel_rfl) (fun _ _ _ h => h) (yieldsIf_run rfl (fun w' hw' => ?y4)) hS0 ?_
        case y4 => (obtain ⟨h1, h2, h3, h4, h5, h6, h7, h8⟩ := HLC.out w' hw'; clear hw'; first | (go_simp; rfl) | (go_simp; done))
        simp only [Act.put, List.setIfInBounds_toArray, List.set_cons_zero, List.set_cons_succ]
        refine wpAnyH_takeI (i := 4) (v := ?v5) rfl (by kernel_rfl) (by kernel_rfl) (by kernel_rfl) (fun _ _ _ h => h) (yieldsIf_run rfl (fun w' hw' => ?y5)) hS0 ?_
        case y5 => first | (go_simp; rfl) | (go_simp; done) | rfl
        simp only [Act.put, List.setIfInBounds_toArray, List.set_cons_zero, List.set_cons_succ]
        refine wpAnyH_takeI (i := 5) (v := ?v6) rfl (by kernel_rfl) (by kernel_rfl) (by kernel_rfl) (fun _ _ _ h => h) (yieldsIf_run rfl (fun w' hw' => ?y6)) hS0 ?_
        case y6 => first | (go_simp; rfl) | (go_simp; done) | rfl
        simp only [Act.put, List.setIfInBounds_toArray, List.set_cons_zero, List.set_cons_succ]
        refine wpAnyH_do (i := 6) (by kernel_rfl) rfl rfl (fun K hK => ?_)
        refine wp_putV rfl 77 (.tmp 3) (.tmp 46) rfl _ #[.int .i64 g0, .int .i64 f0, .slice a0 n0 c0, .int .i64 0] rfl rfl 77 _ ((hd0.block _ (Array.getElem?_eq_some_iff.1 HR2.out).1).trans HR2.out) (by kernel_rfl) rfl (by kernel_rfl) ?_
        intro V8 x8 c8 s8
        have hS8 : Chg (fun j => j = B + 1) W1 V8 := hS0.trans c8 (fun j e => .inl e)
        refine hK _ _ (hS8) ?_
        clear hK K
        try simp only [Act.put, List.setIfInBounds_toArray, List.set_cons_zero, List.set_cons_succ]
        have hS0 := hS8
        refine wpAnyH_takeI (i := 7) (v := ?v7) rfl (by kernel_rfl) (by kernel_rfl) (by kernel_rfl) (fun _ _ _ h => h) (yieldsIf_run rfl (fun w' hw' => ?y7)) hS0 ?_
        case y7 => first | (go_simp; rfl) | (go_simp; done) | rfl
        simp only [Act.put, List.setIfInBounds_toArray, List.set_cons_zero, List.set_cons_succ]
        refine wpAnyH_takeI (i := 8) (v := ?v8) rfl (by kernel_rfl) (by kernel_rfl) (by kernel_rfl) (fun _ _ _ h => h) (yieldsIf_run rfl (fun w' hw' => ?y8)) hS0 ?_
        case y8 => first | (go_simp; rfl) | (go_simp; done) | rfl
        simp only [Act.put, List.setIfInBounds_toArray, List.set_cons_zero, List.set_cons_succ]
        refine wpAnyH_done (by kernel_rfl) ?_ _
        refine NoPanic.normal ?_
        have k0 : V8.cell? ⟨B + 1, 0, none⟩ = some (.int .i64 g0) := by rw [cell_of_row _ _ _ _ _ _ x8]; rfl
        have k1 : V8.cell? ⟨B + 1, 1, none⟩ = some (.int .i64 f0) := by rw [cell_of_row _ _ _ _ _ _ x8]; rfl
        have k2 : V8.cell? ⟨B + 1, 2, none⟩ = some (.slice a0 n0 c0) := by rw [cell_of_row _ _ _ _ _ _ x8]; rfl
        have k3 : V8.cell? ⟨B + 1, 3, none⟩ = some (.int .i64 0) := by rw [cell_of_row _ _ _ _ _ _ x8]; rfl
        have HEZ := Lib.hid (((HEA.out.chg hS8 (fun j _ h1 e => by omega)).weak (G := fun k => w.heap.size ≤ k) (fun j _ h1 => by have h4 := HB.out; omega)))
        have HBV8 := Lib.hid (HBW.out.trans (hS8.below (B := w.heap.size) (fun j e => by have h3 := HB.out; omega) HBW.out.size))
        clear x8 c8 s8 hS8 hd0 hS0
        go_wp2_with fail
        exact bodyPost_ret (v := .tuple #[.int .i64 0, .agg #[.int .i64 g0, .int .i64 f0, .slice a0 n0 c0, .int .i64 0], .bool fd, .int .i64 0]) (by simp [results, Tryd.results38, go_sem, k0, k1, k2, k3]) rfl ⟨0, fd, ⟨g0, f0, .slice a0 n0 c0, L0⟩, rfl, HEZ.out, HBV8.out, by omega, by
          rw [HA.out]
          exact cur_end0 HSE.out (fun x h => HI0.out x (by omega) h) HP0.out⟩
      · go_wp2_with fail
        refine wp_region_noPanic ?_
        refine wp_region_H (Chg (fun j => j = B + 1) W1) (by kernel_rfl) ?_
        have hS0 : (Chg (fun j => j = B + 1) W1) W1.drew := Chg.of_below ((Below.refl _ _).drew)
        obtain ⟨wd, hwd⟩ : ∃ wd, W1.drew = wd := ⟨_, rfl⟩
        rw [hwd] at hS0 ⊢
        have hd0 : Below W1.heap.size W1 wd := hwd ▸ (Below.refl _ _).drew
        clear hwd
        refine wpAnyH_takeI (i := 0) (v := ?v9) rfl (by kernel_rfl) (by kernel_rfl) (by kernel_rfl) (fun _ _ _ h => h) (yieldsIf_run rfl (fun w' hw' => ?y9)) hS0 ?_
        case y9 => first | (go_simp; rfl) | (go_simp; done) | rfl
        simp only [Act.put, List.setIfInBounds_toArray, List.set_cons_zero, List.set_cons_succ]
        refine wpAnyH_takeI (i := 1) (v := ?v10) rfl (by kernel_rfl) (by kernel_rfl) (by kernel_rfl) (fun _ _ _ h => h) (yieldsIf_run rfl (fun w' hw' => ?y10)) hS0 ?_
        case y10 => first | (go_simp; rfl) | (go_simp; done) | rfl
        simp only [Act.put, List.setIfInBounds_toArray, List.set_cons_zero, List.set_cons_succ]
        refine wpAnyH_takeI (i := 2) (v := ?v11) rfl (by kernel_rfl) (by kernel_rfl) (by kernel_rfl) (fun _ _ _ h => h) (yieldsIf_run rfl (fun w' hw' => ?y11)) hS0 ?_
        case y11 => first | (go_simp; rfl) | (go_simp; done) | rfl
        simp only [Act.put, List.setIfInBounds_toArray, List.set_cons_zero, List.set_cons_succ]
        refine wpAnyH_takeI (i := 3) (v := ?v12) rfl (by kernel_rfl) (by kernel_rfl) (by kernel_rfl) (fun _ _ _ h => h) (yieldsIf_run rfl (fun w' hw' => ?y12)) hS0 ?_
        case y12 => (obtain ⟨h1, h2, h3, h4, h5, h6, h7, h8⟩ := HLC.out w' hw'; clear hw'; first | (go_simp; rfl) | (go_simp; done))
        simp only [Act.put, List.setIfInBounds_toArray, List.set_cons_zero, List.set_cons_succ]
        refine wpAnyH_takeI (i := 4) (v := ?v13) rfl (by kernel_rfl) (by kernel_rfl) (by kernel_rfl) (fun _ _ _ h => h) (yieldsIf_run rfl (fun w' hw' => ?y13)) hS0 ?_
        case y13 => first | (go_simp; rfl) | (go_simp; done) | rfl
        simp only [Act.put, List.setIfInBounds_toArray, List.set_cons_zero, List.set_cons_succ]
        refine wpAnyH_takeI (i := 5) (v := ?v14) rfl (by kernel_rfl) (by kernel_rfl) (by kernel_rfl) (fun _ _ _ h => h) (yieldsIf_run rfl (fun w' hw' => ?y14)) hS0 ?_
        case y14 => first | (go_simp; rfl) | (go_simp; done) | rfl
        simp only [Act.put, List.setIfInBounds_toArray, List.set_cons_zero, List.set_cons_succ]
        refine wpAnyH_do (i := 6) (by kernel_rfl) rfl rfl (fun K hK => ?_)
        refine wp_putV rfl 77 (.tmp 3) (.tmp 46) rfl _ #[.int .i64 g1, .int .i64 f1, .slice a1 n1 c1, .int .i64 0] rfl rfl 77 _ ((hd0.block _ (Array.getElem?_eq_some_iff.1 HR2.out).1).trans HR2.out) (by kernel_rfl) rfl (by kernel_rfl) ?_
        intro V8 x8 c8 s8
        have hS8 : Chg (fun j => j = B + 1) W1 V8 := hS0.trans c8 (fun j e => .inl e)
        refine hK _ _ (hS8) ?_
        clear hK K
        try simp only [Act.put, List.setIfInBounds_toArray, List.set_cons_zero, List.set_cons_succ]
        have hS0 := hS8
        refine wpAnyH_takeI (i := 7) (v := ?v15) rfl (by kernel_rfl) (by kernel_rfl) (by kernel_rfl) (fun _ _ _ h => h) (yieldsIf_run rfl (fun w' hw' => ?y15)) hS0 ?_
        case y15 => first | (go_simp; rfl) | (go_simp; done) | rfl
        simp only [Act.put, List.setIfInBounds_toArray, List.set_cons_zero, List.set_cons_succ]
        refine wpAnyH_takeI (i := 8) (v := ?v16) rfl (by kernel_rfl) (by kernel_rfl) (by kernel_rfl) (fun _ _ _ h => h) (yieldsIf_run rfl (fun w' hw' => ?y16)) hS0 ?_
        case y16 => first | (go_simp; rfl) | (go_simp; done) | rfl
        simp only [Act.put, List.setIfInBounds_toArray, List.set_cons_zero, List.set_cons_succ]
        refine wpAnyH_done (by kernel_rfl) ?_ _
        refine NoPanic.normal ?_
        have k0 : V8.cell? ⟨B + 1, 0, none⟩ = some (.int .i64 g1) := by rw [cell_of_row _ _ _ _ _ _ x8]; rfl
        have k1 : V8.cell? ⟨B + 1, 1, none⟩ = some (.int .i64 f1) := by rw [cell_of_row _ _ _ _ _ _ x8]; rfl
        have k2 : V8.cell? ⟨B + 1, 2, none⟩ = some (.slice a1 n1 c1) := by rw [cell_of_row _ _ _ _ _ _ x8]; rfl
        have k3 : V8.cell? ⟨B + 1, 3, none⟩ = some (.int .i64 0) := by rw [cell_of_row _ _ _ _ _ _ x8]; rfl
        have HEZ := Lib.hid (((HEB.out.chg hS8 (fun j _ h1 e => by omega)).weak (G := fun k => w.heap.size ≤ k) (fun j _ h1 => by have h4 := HB.out; omega)))
        have HBV8 := Lib.hid (HBW.out.trans (hS8.below (B := w.heap.size) (fun j e => by have h3 := HB.out; omega) HBW.out.size))
        clear x8 c8 s8 hS8 hd0 hS0
        go_wp2_with fail
        exact bodyPost_ret (v := .tuple #[.int .i64 1, .agg #[.int .i64 g1, .int .i64 f1, .slice a1 n1 c1, .int .i64 0], .bool fd, .int .i64 0]) (by simp [results, Tryd.results38, go_sem, k0, k1, k2, k3]) rfl ⟨1, fd, ⟨g1, f1, .slice a1 n1 c1, L1⟩, rfl, HEZ.out, HBV8.out, by omega, by
          rw [HA.out]
          exact cur_end1 HSE.out (fun x h => HI1.out x (by omega) h) HP1.out⟩
    · have k0 : W1.cell? ⟨B, 0, none⟩ = some (.pointer (some ⟨b, 0, none⟩)) := by rw [cell_of_row _ _ _ _ _ _ HCB.out]; rfl
      have k1 : W1.cell? ⟨B, 1, none⟩ = some (.int .i64 (a : Int)) := by rw [cell_of_row _ _ _ _ _ _ HCB.out]; rfl
      have k2 : W1.cell? ⟨B, 2, none⟩ = some (.int .i64 (c : Int)) := by rw [cell_of_row _ _ _ _ _ _ HCB.out]; rfl
      go_wp2_with fail
      refine (HL0.out W1 HBW.out).mono ?_
      intro e W2 hpost
      obtain ⟨ok, g9, f9, v9, L9, rfl, he, hb, hA⟩ := hpost.parts
      clear hpost
      obtain ⟨a9, c9, rfl⟩ := he.form
      obtain ⟨n9, hn9⟩ : ∃ n, L9.length = n := ⟨_, rfl⟩
      rw [hn9] at he ⊢
      unfold stC
      have hsz := (Array.getElem?_eq_some_iff.1 HXR.out).1
      have HX2' := Lib.hid ((hb.block _ hsz).trans HXR.out)
      have HE9 := Lib.hid (he.weak (G := fun k => B + 3 ≤ k) (fun k _ h1 => by omega))
      have HEA2 := Lib.hid (HEA.out.below hb)
      have HEB2 := Lib.hid (HEB.out.below hb)
      have HC2 := Lib.hid (HCR.out.trans (Chg.of_below (F := fun k => k = B + 2) hb) (fun k e => .inl e))
      have HAA := Lib.hid hA
      clear he hb hA k0 k1 k2 hsz
      go_wp2_with (refine wpList_putM rfl rfl 77 (.tmp 20) (.tmp 17) rfl (B + 1 + 1) 0 #[.int .i64 g9, .int .i64 f9, .slice a9 n9 c9, .int .i64 0] rfl rfl (cs := twoC ⟨g0, f0, .slice a0 n0 c0, L0⟩ ⟨g1, f1, .slice a1 n1 c1, L1⟩) HX2'.out (by show 0 + 4 ≤ 8; decide) (by kernel_rfl) (by kernel_rfl) ?_; refine Stop.on ?_)
      refine Stop.go ?_
      try simp only [Act.put, List.setIfInBounds_toArray, List.set_cons_zero, List.set_cons_succ]
      intro W3 x3 c3 s3
      try simp only [Act.put, List.setIfInBounds_toArray, List.set_cons_zero, List.set_cons_succ]
      have HX3 := Lib.hid (show W3.heap[B + 2]? = some (.cells (twoC ⟨g9, f9, .slice a9 n9 c9, L9⟩ ⟨g1, f1, .slice a1 n1 c1, L1⟩) 106 (0, 0)) from x3)
      have HEN := Lib.hid (HE9.out.chg c3 (fun j _ h1 e => by omega))
      have HEA3 := Lib.hid (HEA2.out.chg c3 (fun j _ h1 e => by omega))
      have HEB3 := Lib.hid (HEB2.out.chg c3 (fun j _ h1 e => by omega))
      have HC3 := Lib.hid (HC2.out.trans c3 (fun j e => .inl e))
      clear x3 c3 s3 HX2' HE9 HEA2 HEB2 HC2
      have HLC := Lib.hid (show ∀ w', Chg (fun _ => False) W3 w' → w'.cell? ⟨B + 2, 0, none⟩ = some (.int .i64 g9) ∧ w'.cell? ⟨B + 2, 4, none⟩ = some (.int .i64 g1) from fun w' hw' => by
        have h1 := (hw'.block (B + 2) (Array.getElem?_eq_some_iff.1 HX3.out).1 (fun h => h)).trans HX3.out
        refine ⟨?_, ?_⟩ <;> rw [cell_of_row _ _ _ _ _ _ h1] <;> rfl)
      cases ok
      · go_wp2_with fail
        refine wp_region_noPanic ?_
        refine wp_region_H (Chg (fun _ => False) W3) (by kernel_rfl) ?_
        have hS0 : (Chg (fun _ => False) W3) W3.drew := Chg.of_below ((Below.refl _ _).drew)
        obtain ⟨wd, hwd⟩ : ∃ wd, W3.drew = wd := ⟨_, rfl⟩
        rw [hwd] at hS0 ⊢
        have hd0 : Below W3.heap.size W3 wd := hwd ▸ (Below.refl _ _).drew
        clear hwd
        refine wpAnyH_takeI (i := 0) (v := ?v17) rfl (by kernel_rfl) (by kernel_rfl) (by kernel_rfl) (fun _ _ _ h => h) (yieldsIf_run rfl (fun w' hw' => ?y17)) hS0 ?_
        case y17 => first | (go_simp; rfl) | (go_simp; done) | rfl
        simp only [Act.put, List.setIfInBounds_toArray, List.set_cons_zero, List.set_cons_succ]
        refine wpAnyH_takeI (i := 1) (v := ?v18) rfl (by kernel_rfl) (by kernel_rfl) (by kernel_rfl) (fun _ _ _ h => h) (yieldsIf_run rfl (fun w' hw' => ?y18)) hS0 ?_
        case y18 => first | (go_simp; rfl) | (go_simp; done) | rfl
        simp only [Act.put, List.setIfInBounds_toArray, List.set_cons_zero, List.set_cons_succ]
        refine wpAnyH_takeI (i := 2) (v := undef) rfl (by kernel_rfl) (by kernel_rfl) (by kernel_rfl) (fun _ _ _ h => h) (yieldsIf_skip rfl) hS0 ?_
        simp only [Act.put, List.setIfInBounds_toArray, List.set_cons_zero, List.set_cons_succ]
        refine wpAnyH_takeI (i := 3) (v := undef) rfl (by kernel_rfl) (by kernel_rfl) (by kernel_rfl) (fun _ _ _ h => h) (yieldsIf_skip rfl) hS0 ?_
        simp only [Act.put, List.setIfInBounds_toArray, List.set_cons_zero, List.set_cons_succ]
        refine wpAnyH_takeI (i := 4) (v := undef) rfl (by kernel_rfl) (by kernel_rfl) (by kernel_rfl) (fun _ _ _ h => h) (yieldsIf_skip rfl) hS0 ?_
        simp only [Act.put, List.setIfInBounds_toArray, List.set_cons_zero, List.set_cons_succ]
        refine wpAnyH_takeI (i := 5) (v := undef) rfl (by kernel_rfl) (by kernel_rfl) (by kernel_rfl) (fun _ _ _ h => h) (yieldsIf_skip rfl) hS0 ?_
        simp only [Act.put, List.setIfInBounds_toArray, List.set_cons_zero, List.set_cons_succ]
        refine wpAnyH_takeI (i := 6) (v := undef) rfl (by kernel_rfl) (by kernel_rfl) (by kernel_rfl) (fun _ _ _ h => h) (yieldsIf_skip rfl) hS0 ?_
        simp only [Act.put, List.setIfInBounds_toArray, List.set_cons_zero, List.set_cons_succ]
        refine wpAnyH_takeI (i := 7) (v := undef) rfl (by kernel_rfl) (by kernel_rfl) (by kernel_rfl) (fun _ _ _ h => h) (yieldsIf_skip rfl) hS0 ?_
        simp only [Act.put, List.setIfInBounds_toArray, List.set_cons_zero, List.set_cons_succ]
        refine wpAnyH_takeI (i := 8) (v := undef) rfl (by kernel_rfl) (by kernel_rfl) (by kernel_rfl) (fun _ _ _ h => h) (yieldsIf_skip rfl) hS0 ?_
        simp only [Act.put, List.setIfInBounds_toArray, List.set_cons_zero, List.set_cons_succ]
        refine wpAnyH_takeI (i := 9) (v := undef) rfl (by kernel_rfl) (by kernel_rfl) (by kernel_rfl) (fun _ _ _ h => h) (yieldsIf_skip rfl) hS0 ?_
        simp only [Act.put, List.setIfInBounds_toArray, List.set_cons_zero, List.set_cons_succ]
        refine wpAnyH_takeI (i := 10) (v := undef) rfl (by kernel_rfl) (by kernel_rfl) (by kernel_rfl) (fun _ _ _ h => h) (yieldsIf_skip rfl) hS0 ?_
        simp only [Act.put, List.setIfInBounds_toArray, List.set_cons_zero, List.set_cons_succ]
        refine wpAnyH_takeI (i := 11) (v := undef) rfl (by kernel_rfl) (by kernel_rfl) (by kernel_rfl) (fun _ _ _ h => h) (yieldsIf_skip rfl) hS0 ?_
        simp only [Act.put, List.setIfInBounds_toArray, List.set_cons_zero, List.set_cons_succ]
        refine wpAnyH_takeI (i := 12) (v := undef) rfl (by kernel_rfl) (by kernel_rfl) (by kernel_rfl) (fun _ _ _ h => h) (yieldsIf_skip rfl) hS0 ?_
        simp only [Act.put, List.setIfInBounds_toArray, List.set_cons_zero, List.set_cons_succ]
        refine wpAnyH_takeI (i := 13) (v := undef) rfl (by kernel_rfl) (by kernel_rfl) (by kernel_rfl) (fun _ _ _ h => h) (yieldsIf_skip rfl) hS0 ?_
        simp only [Act.put, List.setIfInBounds_toArray, List.set_cons_zero, List.set_cons_succ]
        refine wpAnyH_takeI (i := 14) (v := undef) rfl (by kernel_rfl) (by kernel_rfl) (by kernel_rfl) (fun _ _ _ h => h) (yieldsIf_skip rfl) hS0 ?_
        simp only [Act.put, List.setIfInBounds_toArray, List.set_cons_zero, List.set_cons_succ]
        refine wpAnyH_takeI (i := 15) (v := ?v19) rfl (by kernel_rfl) (by kernel_rfl) (by kernel_rfl) (fun _ _ _ h => h) (yieldsIf_run rfl (fun w' hw' => ?y19)) hS0 ?_
        case y19 => first | (go_simp; rfl) | (go_simp; done) | rfl
        simp only [Act.put, List.setIfInBounds_toArray, List.set_cons_zero, List.set_cons_succ]
        refine wpAnyH_done (by kernel_rfl) ?_ _
        refine NoPanic.normal ?_
        go_wp2_with fail
        go_roundw
        case rel => exact ⟨1, ⟨g9, f9, .slice a9 n9 c9, L9⟩, ⟨g1, f1, .slice a1 n1 c1, L1⟩, bi, fd, by omega, rfl, rfl, rfl, by omega, Lib.hid ((sel_one HAA.out.1).trans (by have h1 := HSE.out; cases fd with | false => rfl | true => cases h1)), Lib.hid ((hd0.block _ (Array.getElem?_eq_some_iff.1 HX3.out).1).trans HX3.out), Lib.hid (HEN.out.below hd0), Lib.hid (HEB3.out.below hd0), Lib.hid (fun x _ h => HAA.out.2 x h), Lib.hid (fun x h => absurd h (by omega)), Lib.hid (HC3.out.trans (Chg.of_below hd0) (fun j e => .inl e))⟩
        case measure => simp [intOf] <;> omega
      · obtain rfl : fd = false := by
          have h1 := HSE.out
          cases fd with
          | false => rfl
          | true => cases h1
        go_wp2_with fail
        refine wp_region_noPanic ?_
        refine wp_region_H (Chg (fun _ => False) W3) (by kernel_rfl) ?_
        have hS0 : (Chg (fun _ => False) W3) W3.drew := Chg.of_below ((Below.refl _ _).drew)
        obtain ⟨wd, hwd⟩ : ∃ wd, W3.drew = wd := ⟨_, rfl⟩
        rw [hwd] at hS0 ⊢
        have hd0 : Below W3.heap.size W3 wd := hwd ▸ (Below.refl _ _).drew
        clear hwd
        refine wpAnyH_takeI (i := 0) (v := ?v20) rfl (by kernel_rfl) (by kernel_rfl) (by kernel_rfl) (fun _ _ _ h => h) (yieldsIf_run rfl (fun w' hw' => ?y20)) hS0 ?_
        case y20 => first | (go_simp; rfl) | (go_simp; done) | rfl
        simp only [Act.put, List.setIfInBounds_toArray, List.set_cons_zero, List.set_cons_succ]
        refine wpAnyH_takeI (i := 1) (v := ?v21) rfl (by kernel_rfl) (by kernel_rfl) (by kernel_rfl) (fun _ _ _ h => h) (yieldsIf_run rfl (fun w' hw' => ?y21)) hS0 ?_
        case y21 => first | (go_simp; rfl) | (go_simp; done) | rfl
        simp only [Act.put, List.setIfInBounds_toArray, List.set_cons_zero, List.set_cons_succ]
        refine wpAnyH_takeI (i := 2) (v := ?v22) rfl (by kernel_rfl) (by kernel_rfl) (by kernel_rfl) (fun _ _ _ h => h) (yieldsIf_want rfl (fun w' hw' => ?y22)) hS0 ?_
        case y22 => first | (go_simp; rfl) | (go_simp; done) | rfl
        simp only [Act.put, List.setIfInBounds_toArray, List.set_cons_zero, List.set_cons_succ]
        refine wpAnyH_takeI (i := 3) (v := ?v23) rfl (by kernel_rfl) (by kernel_rfl) (by kernel_rfl) (fun _ _ _ h => h) (yieldsIf_want rfl (fun w' hw' => ?y23)) hS0 ?_
        case y23 => first | (go_simp; rfl) | (go_simp; done) | rfl
        simp only [Act.put, List.setIfInBounds_toArray, List.set_cons_zero, List.set_cons_succ]
        refine wpAnyH_takeI (i := 4) (v := ?v24) rfl (by kernel_rfl) (by kernel_rfl) (by kernel_rfl) (fun _ _ _ h => h) (yieldsIf_want rfl (fun w' hw' => ?y24)) hS0 ?_
        case y24 => first | (go_simp; rfl) | (go_simp; done) | rfl
        simp only [Act.put, List.setIfInBounds_toArray, List.set_cons_zero, List.set_cons_succ]
        refine wpAnyH_takeI (i := 5) (v := undef) rfl (by kernel_rfl) (by kernel_rfl) (by kernel_rfl) (fun _ _ _ h => h) (yieldsIf_skip rfl) hS0 ?_
        simp only [Act.put, List.setIfInBounds_toArray, List.set_cons_zero, List.set_cons_succ]
        refine wpAnyH_takeI (i := 6) (v := undef) rfl (by kernel_rfl) (by kernel_rfl) (by kernel_rfl) (fun _ _ _ h => h) (yieldsIf_skip rfl) hS0 ?_
        simp only [Act.put, List.setIfInBounds_toArray, List.set_cons_zero, List.set_cons_succ]
        refine wpAnyH_takeI (i := 7) (v := undef) rfl (by kernel_rfl) (by kernel_rfl) (by kernel_rfl) (fun _ _ _ h => h) (yieldsIf_skip rfl) hS0 ?_
        simp only [Act.put, List.setIfInBounds_toArray, List.set_cons_zero, List.set_cons_succ]
        refine wpAnyH_takeI (i := 8) (v := undef) rfl (by kernel_rfl) (by kernel_rfl) (by kernel_rfl) (fun _ _ _ h => h) (yieldsIf_skip rfl) hS0 ?_
        simp only [Act.put, List.setIfInBounds_toArray, List.set_cons_zero, List.set_cons_succ]
        refine wpAnyH_takeI (i := 9) (v := undef) rfl (by kernel_rfl) (by kernel_rfl) (by kernel_rfl) (fun _ _ _ h => h) (yieldsIf_skip rfl) hS0 ?_
        simp only [Act.put, List.setIfInBounds_toArray, List.set_cons_zero, List.set_cons_succ]
        refine wpAnyH_takeI (i := 10) (v := undef) rfl (by kernel_rfl) (by kernel_rfl) (by kernel_rfl) (fun _ _ _ h => h) (yieldsIf_skip rfl) hS0 ?_
        simp only [Act.put, List.setIfInBounds_toArray, List.set_cons_zero, List.set_cons_succ]
        refine wpAnyH_takeI (i := 11) (v := undef) rfl (by kernel_rfl) (by kernel_rfl) (by kernel_rfl) (fun _ _ _ h => h) (yieldsIf_skip rfl) hS0 ?_
        simp only [Act.put, List.setIfInBounds_toArray, List.set_cons_zero, List.set_cons_succ]
        refine wpAnyH_takeI (i := 12) (v := undef) rfl (by kernel_rfl) (by kernel_rfl) (by kernel_rfl) (fun _ _ _ h => h) (yieldsIf_skip rfl) hS0 ?_
        simp only [Act.put, List.setIfInBounds_toArray, List.set_cons_zero, List.set_cons_succ]
        refine wpAnyH_takeI (i := 13) (v := undef) rfl (by kernel_rfl) (by kernel_rfl) (by kernel_rfl) (fun _ _ _ h => h) (yieldsIf_skip rfl) hS0 ?_
        simp only [Act.put, List.setIfInBounds_toArray, List.set_cons_zero, List.set_cons_succ]
        refine wpAnyH_takeI (i := 14) (v := ?v25) rfl (by kernel_rfl) (by kernel_rfl) (by kernel_rfl) (fun _ _ _ h => h) (yieldsIf_want rfl (fun w' hw' => ?y25)) hS0 ?_
        case y25 => first | (go_simp; rfl) | (go_simp; done) | rfl
        simp only [Act.put, List.setIfInBounds_toArray, List.set_cons_zero, List.set_cons_succ]
        refine wpAnyH_takeI (i := 15) (v := ?v26) rfl (by kernel_rfl) (by kernel_rfl) (by kernel_rfl) (fun _ _ _ h => h) (yieldsIf_run rfl (fun w' hw' => ?y26)) hS0 ?_
        case y26 => first | (go_simp; rfl) | (go_simp; done) | rfl
        simp only [Act.put, List.setIfInBounds_toArray, List.set_cons_zero, List.set_cons_succ]
        refine wpAnyH_done (by kernel_rfl) ?_ _
        refine NoPanic.normal ?_
        go_wp2_with fail
        go_roundw
        case rel => exact ⟨1, ⟨g9, f9, .slice a9 n9 c9, L9⟩, ⟨g1, f1, .slice a1 n1 c1, L1⟩, 0, true, by omega, rfl, rfl, rfl, by omega, Lib.hid (sel_one HAA.out.1), Lib.hid ((hd0.block _ (Array.getElem?_eq_some_iff.1 HX3.out).1).trans HX3.out), Lib.hid (HEN.out.below hd0), Lib.hid (HEB3.out.below hd0), Lib.hid (fun x _ h => HAA.out.2 x h), Lib.hid (fun x h => absurd h (by omega)), Lib.hid (HC3.out.trans (Chg.of_below hd0) (fun j e => .inl e))⟩
        case measure => simp [intOf] <;> omega
    · have k0 : W1.cell? ⟨B, 0, none⟩ = some (.pointer (some ⟨b, 0, none⟩)) := by rw [cell_of_row _ _ _ _ _ _ HCB.out]; rfl
      have k1 : W1.cell? ⟨B, 1, none⟩ = some (.int .i64 (a : Int)) := by rw [cell_of_row _ _ _ _ _ _ HCB.out]; rfl
      have k2 : W1.cell? ⟨B, 2, none⟩ = some (.int .i64 (c : Int)) := by rw [cell_of_row _ _ _ _ _ _ HCB.out]; rfl
      go_wp2_with fail
      refine (HL1.out W1 HBW.out).mono ?_
      intro e W2 hpost
      obtain ⟨ok, g9, f9, v9, L9, rfl, he, hb, hA⟩ := hpost.parts
      clear hpost
      obtain ⟨a9, c9, rfl⟩ := he.form
      obtain ⟨n9, hn9⟩ : ∃ n, L9.length = n := ⟨_, rfl⟩
      rw [hn9] at he ⊢
      unfold stC
      have hsz := (Array.getElem?_eq_some_iff.1 HXR.out).1
      have HX2' := Lib.hid ((hb.block _ hsz).trans HXR.out)
      have HE9 := Lib.hid (he.weak (G := fun k => B + 3 ≤ k) (fun k _ h1 => by omega))
      have HEA2 := Lib.hid (HEA.out.below hb)
      have HEB2 := Lib.hid (HEB.out.below hb)
      have HC2 := Lib.hid (HCR.out.trans (Chg.of_below (F := fun k => k = B + 2) hb) (fun k e => .inl e))
      have HAA := Lib.hid hA
      clear he hb hA k0 k1 k2 hsz
      go_wp2_with (refine wpList_putM rfl rfl 77 (.tmp 20) (.tmp 17) rfl (B + 1 + 1) 4 #[.int .i64 g9, .int .i64 f9, .slice a9 n9 c9, .int .i64 0] rfl rfl (cs := twoC ⟨g0, f0, .slice a0 n0 c0, L0⟩ ⟨g1, f1, .slice a1 n1 c1, L1⟩) HX2'.out (by show 4 + 4 ≤ 8; decide) (by kernel_rfl) (by kernel_rfl) ?_; refine Stop.on ?_)
      refine Stop.go ?_
      try simp only [Act.put, List.setIfInBounds_toArray, List.set_cons_zero, List.set_cons_succ]
      intro W3 x3 c3 s3
      try simp only [Act.put, List.setIfInBounds_toArray, List.set_cons_zero, List.set_cons_succ]
      have HX3 := Lib.hid (show W3.heap[B + 2]? = some (.cells (twoC ⟨g0, f0, .slice a0 n0 c0, L0⟩ ⟨g9, f9, .slice a9 n9 c9, L9⟩) 106 (0, 0)) from x3)
      have HEN := Lib.hid (HE9.out.chg c3 (fun j _ h1 e => by omega))
      have HEA3 := Lib.hid (HEA2.out.chg c3 (fun j _ h1 e => by omega))
      have HEB3 := Lib.hid (HEB2.out.chg c3 (fun j _ h1 e => by omega))
      have HC3 := Lib.hid (HC2.out.trans c3 (fun j e => .inl e))
      clear x3 c3 s3 HX2' HE9 HEA2 HEB2 HC2
      have HLC := Lib.hid (show ∀ w', Chg (fun _ => False) W3 w' → w'.cell? ⟨B + 2, 0, none⟩ = some (.int .i64 g0) ∧ w'.cell? ⟨B + 2, 4, none⟩ = some (.int .i64 g9) from fun w' hw' => by
        have h1 := (hw'.block (B + 2) (Array.getElem?_eq_some_iff.1 HX3.out).1 (fun h => h)).trans HX3.out
        refine ⟨?_, ?_⟩ <;> rw [cell_of_row _ _ _ _ _ _ h1] <;> rfl)
      cases ok
      · go_wp2_with fail
        refine wp_region_noPanic ?_
        refine wp_region_H (Chg (fun _ => False) W3) (by kernel_rfl) ?_
        have hS0 : (Chg (fun _ => False) W3) W3.drew := Chg.of_below ((Below.refl _ _).drew)
        obtain ⟨wd, hwd⟩ : ∃ wd, W3.drew = wd := ⟨_, rfl⟩
        rw [hwd] at hS0 ⊢
        have hd0 : Below W3.heap.size W3 wd := hwd ▸ (Below.refl _ _).drew
        clear hwd
        refine wpAnyH_takeI (i := 0) (v := ?v27) rfl (by kernel_rfl) (by kernel_rfl) (by kernel_rfl) (fun _ _ _ h => h) (yieldsIf_run rfl (fun w' hw' => ?y27)) hS0 ?_
        case y27 => first | (go_simp; rfl) | (go_simp; done) | rfl
        simp only [Act.put, List.setIfInBounds_toArray, List.set_cons_zero, List.set_cons_succ]
        refine wpAnyH_takeI (i := 1) (v := ?v28) rfl (by kernel_rfl) (by kernel_rfl) (by kernel_rfl) (fun _ _ _ h => h) (yieldsIf_run rfl (fun w' hw' => ?y28)) hS0 ?_
        case y28 => first | (go_simp; rfl) | (go_simp; done) | rfl
        simp only [Act.put, List.setIfInBounds_toArray, List.set_cons_zero, List.set_cons_succ]
        refine wpAnyH_takeI (i := 2) (v := undef) rfl (by kernel_rfl) (by kernel_rfl) (by kernel_rfl) (fun _ _ _ h => h) (yieldsIf_skip rfl) hS0 ?_
        simp only [Act.put, List.setIfInBounds_toArray, List.set_cons_zero, List.set_cons_succ]
        refine wpAnyH_takeI (i := 3) (v := undef) rfl (by kernel_rfl) (by kernel_rfl) (by kernel_rfl) (fun _ _ _ h => h) (yieldsIf_skip rfl) hS0 ?_
        simp only [Act.put, List.setIfInBounds_toArray, List.set_cons_zero, List.set_cons_succ]
        refine wpAnyH_takeI (i := 4) (v := undef) rfl (by kernel_rfl) (by kernel_rfl) (by kernel_rfl) (fun _ _ _ h => h) (yieldsIf_skip rfl) hS0 ?_
        simp only [Act.put, List.setIfInBounds_toArray, List.set_cons_zero, List.set_cons_succ]
        refine wpAnyH_takeI (i := 5) (v := undef) rfl (by kernel_rfl) (by kernel_rfl) (by kernel_rfl) (fun _ _ _ h => h) (yieldsIf_skip rfl) hS0 ?_
        simp only [Act.put, List.setIfInBounds_toArray, List.set_cons_zero, List.set_cons_succ]
        refine wpAnyH_takeI (i := 6) (v := undef) rfl (by kernel_rfl) (by kernel_rfl) (by kernel_rfl) (fun _ _ _ h => h) (yieldsIf_skip rfl) hS0 ?_
        simp only [Act.put, List.setIfInBounds_toArray, List.set_cons_zero, List.set_cons_succ]
        refine wpAnyH_takeI (i := 7) (v := undef) rfl (by kernel_rfl) (by kernel_rfl) (by kernel_rfl) (fun _ _ _ h => h) (yieldsIf_skip rfl) hS0 ?_
        simp only [Act.put, List.setIfInBounds_toArray, List.set_cons_zero, List.set_cons_succ]
        refine wpAnyH_takeI (i := 8) (v := undef) rfl (by kernel_rfl) (by kernel_rfl) (by kernel_rfl) (fun _ _ _ h => h) (yieldsIf_skip rfl) hS0 ?_
        simp only [Act.put, List.setIfInBounds_toArray, List.set_cons_zero, List.set_cons_succ]
        refine wpAnyH_takeI (i := 9) (v := undef) rfl (by kernel_rfl) (by kernel_rfl) (by kernel_rfl) (fun _ _ _ h => h) (yieldsIf_skip rfl) hS0 ?_
        simp only [Act.put, List.setIfInBounds_toArray, List.set_cons_zero, List.set_cons_succ]
        refine wpAnyH_takeI (i := 10) (v := undef) rfl (by kernel_rfl) (by kernel_rfl) (by kernel_rfl) (fun _ _ _ h => h) (yieldsIf_skip rfl) hS0 ?_
        simp only [Act.put, List.setIfInBounds_toArray, List.set_cons_zero, List.set_cons_succ]
        refine wpAnyH_takeI (i := 11) (v := undef) rfl (by kernel_rfl) (by kernel_rfl) (by kernel_rfl) (fun _ _ _ h => h) (yieldsIf_skip rfl) hS0 ?_
        simp only [Act.put, List.setIfInBounds_toArray, List.set_cons_zero, List.set_cons_succ]
        refine wpAnyH_takeI (i := 12) (v := undef) rfl (by kernel_rfl) (by kernel_rfl) (by kernel_rfl) (fun _ _ _ h => h) (yieldsIf_skip rfl) hS0 ?_
        simp only [Act.put, List.setIfInBounds_toArray, List.set_cons_zero, List.set_cons_succ]
        refine wpAnyH_takeI (i := 13) (v := undef) rfl (by kernel_rfl) (by kernel_rfl) (by kernel_rfl) (fun _ _ _ h => h) (yieldsIf_skip rfl) hS0 ?_
        simp only [Act.put, List.setIfInBounds_toArray, List.set_cons_zero, List.set_cons_succ]
        refine wpAnyH_takeI (i := 14) (v := undef) rfl (by kernel_rfl) (by kernel_rfl) (by kernel_rfl) (fun _ _ _ h => h) (yieldsIf_skip rfl) hS0 ?_
        simp only [Act.put, List.setIfInBounds_toArray, List.set_cons_zero, List.set_cons_succ]
        refine wpAnyH_takeI (i := 15) (v := ?v29) rfl (by kernel_rfl) (by kernel_rfl) (by kernel_rfl) (fun _ _ _ h => h) (yieldsIf_run rfl (fun w' hw' => ?y29)) hS0 ?_
        case y29 => first | (go_simp; rfl) | (go_simp; done) | rfl
        simp only [Act.put, List.setIfInBounds_toArray, List.set_cons_zero, List.set_cons_succ]
        refine wpAnyH_done (by kernel_rfl) ?_ _
        refine NoPanic.normal ?_
        go_wp2_with fail
        go_roundw
        case rel => exact ⟨2, ⟨g0, f0, .slice a0 n0 c0, L0⟩, ⟨g9, f9, .slice a9 n9 c9, L9⟩, bi, fd, by omega, rfl, rfl, rfl, by omega, Lib.hid ((sel_two HAA.out.1 HSE.out (h0 := fun x h => (HI0.out x (by omega) h).1) (h1 := fun x h => (HAA.out.2 x h).1) (r := false) rfl).trans (by cases fd <;> rfl)), Lib.hid ((hd0.block _ (Array.getElem?_eq_some_iff.1 HX3.out).1).trans HX3.out), Lib.hid (HEA3.out.below hd0), Lib.hid (HEN.out.below hd0), Lib.hid (fun x _ h => HI0.out x (by omega) h), Lib.hid (fun x _ h => HAA.out.2 x h), Lib.hid (HC3.out.trans (Chg.of_below hd0) (fun j e => .inl e))⟩
        case measure => simp [intOf] <;> omega
      · cases fd
        · go_wp2_with fail
          refine wp_region_noPanic ?_
          refine wp_region_H (Chg (fun _ => False) W3) (by kernel_rfl) ?_
          have hS0 : (Chg (fun _ => False) W3) W3.drew := Chg.of_below ((Below.refl _ _).drew)
          obtain ⟨wd, hwd⟩ : ∃ wd, W3.drew = wd := ⟨_, rfl⟩
          rw [hwd] at hS0 ⊢
          have hd0 : Below W3.heap.size W3 wd := hwd ▸ (Below.refl _ _).drew
          clear hwd
          refine wpAnyH_takeI (i := 0) (v := ?v30) rfl (by kernel_rfl) (by kernel_rfl) (by kernel_rfl) (fun _ _ _ h => h) (yieldsIf_run rfl (fun w' hw' => ?y30)) hS0 ?_
          case y30 => first | (go_simp; rfl) | (go_simp; done) | rfl
          simp only [Act.put, List.setIfInBounds_toArray, List.set_cons_zero, List.set_cons_succ]
          refine wpAnyH_takeI (i := 1) (v := ?v31) rfl (by kernel_rfl) (by kernel_rfl) (by kernel_rfl) (fun _ _ _ h => h) (yieldsIf_run rfl (fun w' hw' => ?y31)) hS0 ?_
          case y31 => first | (go_simp; rfl) | (go_simp; done) | rfl
          simp only [Act.put, List.setIfInBounds_toArray, List.set_cons_zero, List.set_cons_succ]
          refine wpAnyH_takeI (i := 2) (v := ?v32) rfl (by kernel_rfl) (by kernel_rfl) (by kernel_rfl) (fun _ _ _ h => h) (yieldsIf_want rfl (fun w' hw' => ?y32)) hS0 ?_
          case y32 => first | (go_simp; rfl) | (go_simp; done) | rfl
          simp only [Act.put, List.setIfInBounds_toArray, List.set_cons_zero, List.set_cons_succ]
          refine wpAnyH_takeI (i := 3) (v := ?v33) rfl (by kernel_rfl) (by kernel_rfl) (by kernel_rfl) (fun _ _ _ h => h) (yieldsIf_want rfl (fun w' hw' => ?y33)) hS0 ?_
          case y33 => first | (go_simp; rfl) | (go_simp; done) | rfl
          simp only [Act.put, List.setIfInBounds_toArray, List.set_cons_zero, List.set_cons_succ]
          refine wpAnyH_takeI (i := 4) (v := ?v34) rfl (by kernel_rfl) (by kernel_rfl) (by kernel_rfl) (fun _ _ _ h => h) (yieldsIf_want rfl (fun w' hw' => ?y34)) hS0 ?_
          case y34 => first | (go_simp; rfl) | (go_simp; done) | rfl
          simp only [Act.put, List.setIfInBounds_toArray, List.set_cons_zero, List.set_cons_succ]
          refine wpAnyH_takeI (i := 5) (v := undef) rfl (by kernel_rfl) (by kernel_rfl) (by kernel_rfl) (fun _ _ _ h => h) (yieldsIf_skip rfl) hS0 ?_
          simp only [Act.put, List.setIfInBounds_toArray, List.set_cons_zero, List.set_cons_succ]
          refine wpAnyH_takeI (i := 6) (v := undef) rfl (by kernel_rfl) (by kernel_rfl) (by kernel_rfl) (fun _ _ _ h => h) (yieldsIf_skip rfl) hS0 ?_
          simp only [Act.put, List.setIfInBounds_toArray, List.set_cons_zero, List.set_cons_succ]
          refine wpAnyH_takeI (i := 7) (v := undef) rfl (by kernel_rfl) (by kernel_rfl) (by kernel_rfl) (fun _ _ _ h => h) (yieldsIf_skip rfl) hS0 ?_
          simp only [Act.put, List.setIfInBounds_toArray, List.set_cons_zero, List.set_cons_succ]
          refine wpAnyH_takeI (i := 8) (v := undef) rfl (by kernel_rfl) (by kernel_rfl) (by kernel_rfl) (fun _ _ _ h => h) (yieldsIf_skip rfl) hS0 ?_
          simp only [Act.put, List.setIfInBounds_toArray, List.set_cons_zero, List.set_cons_succ]
          refine wpAnyH_takeI (i := 9) (v := undef) rfl (by kernel_rfl) (by kernel_rfl) (by kernel_rfl) (fun _ _ _ h => h) (yieldsIf_skip rfl) hS0 ?_
          simp only [Act.put, List.setIfInBounds_toArray, List.set_cons_zero, List.set_cons_succ]
          refine wpAnyH_takeI (i := 10) (v := undef) rfl (by kernel_rfl) (by kernel_rfl) (by kernel_rfl) (fun _ _ _ h => h) (yieldsIf_skip rfl) hS0 ?_
          simp only [Act.put, List.setIfInBounds_toArray, List.set_cons_zero, List.set_cons_succ]
          refine wpAnyH_takeI (i := 11) (v := undef) rfl (by kernel_rfl) (by kernel_rfl) (by kernel_rfl) (fun _ _ _ h => h) (yieldsIf_skip rfl) hS0 ?_
          simp only [Act.put, List.setIfInBounds_toArray, List.set_cons_zero, List.set_cons_succ]
          refine wpAnyH_takeI (i := 12) (v := undef) rfl (by kernel_rfl) (by kernel_rfl) (by kernel_rfl) (fun _ _ _ h => h) (yieldsIf_skip rfl) hS0 ?_
          simp only [Act.put, List.setIfInBounds_toArray, List.set_cons_zero, List.set_cons_succ]
          refine wpAnyH_takeI (i := 13) (v := undef) rfl (by kernel_rfl) (by kernel_rfl) (by kernel_rfl) (fun _ _ _ h => h) (yieldsIf_skip rfl) hS0 ?_
          simp only [Act.put, List.setIfInBounds_toArray, List.set_cons_zero, List.set_cons_succ]
          refine wpAnyH_takeI (i := 14) (v := ?v35) rfl (by kernel_rfl) (by kernel_rfl) (by kernel_rfl) (fun _ _ _ h => h) (yieldsIf_want rfl (fun w' hw' => ?y35)) hS0 ?_
          case y35 => first | (go_simp; rfl) | (go_simp; done) | rfl
          simp only [Act.put, List.setIfInBounds_toArray, List.set_cons_zero, List.set_cons_succ]
          refine wpAnyH_takeI (i := 15) (v := ?v36) rfl (by kernel_rfl) (by kernel_rfl) (by kernel_rfl) (fun _ _ _ h => h) (yieldsIf_run rfl (fun w' hw' => ?y36)) hS0 ?_
          case y36 => first | (go_simp; rfl) | (go_simp; done) | rfl
          simp only [Act.put, List.setIfInBounds_toArray, List.set_cons_zero, List.set_cons_succ]
          refine wpAnyH_done (by kernel_rfl) ?_ _
          refine NoPanic.normal ?_
          go_wp2_with fail
          go_roundw
          case rel => exact ⟨2, ⟨g0, f0, .slice a0 n0 c0, L0⟩, ⟨g9, f9, .slice a9 n9 c9, L9⟩, 1, true, by omega, rfl, rfl, rfl, by omega, Lib.hid ((sel_two HAA.out.1 HSE.out (h0 := fun x h => (HI0.out x (by omega) h).1) (h1 := fun x h => (HAA.out.2 x h).1) (fd := false) (r := true) rfl).trans rfl), Lib.hid ((hd0.block _ (Array.getElem?_eq_some_iff.1 HX3.out).1).trans HX3.out), Lib.hid (HEA3.out.below hd0), Lib.hid (HEN.out.below hd0), Lib.hid (fun x _ h => HI0.out x (by omega) h), Lib.hid (fun x _ h => HAA.out.2 x h), Lib.hid (HC3.out.trans (Chg.of_below hd0) (fun j e => .inl e))⟩
          case measure => simp [intOf] <;> omega
        · obtain rfl : bi = 0 := by
            have h1 := HSE.out
            cases hq : A0 with
            | none => rw [hq] at h1; cases h1
            | some x => rw [hq] at h1; exact (Option.some.inj h1).symm
          by_cases hgt : g0 < g9
          · go_wp2_with fail
            refine wp_region_noPanic ?_
            refine wp_region_H (Chg (fun _ => False) W3) (by kernel_rfl) ?_
            have hS0 : (Chg (fun _ => False) W3) W3.drew := Chg.of_below ((Below.refl _ _).drew)
            obtain ⟨wd, hwd⟩ : ∃ wd, W3.drew = wd := ⟨_, rfl⟩
            rw [hwd] at hS0 ⊢
            have hd0 : Below W3.heap.size W3 wd := hwd ▸ (Below.refl _ _).drew
            clear hwd
            refine wpAnyH_takeI (i := 0) (v := ?v37) rfl (by kernel_rfl) (by kernel_rfl) (by kernel_rfl) (fun _ _ _ h => h) (yieldsIf_run rfl (fun w' hw' => ?y37)) hS0 ?_
            case y37 => first | (go_simp; rfl) | (go_simp; done) | rfl
            simp only [Act.put, List.setIfInBounds_toArray, List.set_cons_zero, List.set_cons_succ]
            refine wpAnyH_takeI (i := 1) (v := ?v38) rfl (by kernel_rfl) (by kernel_rfl) (by kernel_rfl) (fun _ _ _ h => h) (yieldsIf_run rfl (fun w' hw' => ?y38)) hS0 ?_
            case y38 => first | (go_simp; rfl) | (go_simp; done) | rfl
            simp only [Act.put, List.setIfInBounds_toArray, List.set_cons_zero, List.set_cons_succ]
            refine wpAnyH_takeI (i := 2) (v := ?v39) rfl (by kernel_rfl) (by kernel_rfl) (by kernel_rfl) (fun _ _ _ h => h) (yieldsIf_want rfl (fun w' hw' => ?y39)) hS0 ?_
            case y39 => first | (go_simp; rfl) | (go_simp; done) | rfl
            simp only [Act.put, List.setIfInBounds_toArray, List.set_cons_zero, List.set_cons_succ]
            refine wpAnyH_takeI (i := 3) (v := ?v40) rfl (by kernel_rfl) (by kernel_rfl) (by kernel_rfl) (fun _ _ _ h => h) (yieldsIf_want rfl (fun w' hw' => ?y40)) hS0 ?_
            case y40 => first | (go_simp; rfl) | (go_simp; done) | rfl
            simp only [Act.put, List.setIfInBounds_toArray, List.set_cons_zero, List.set_cons_succ]
            refine wpAnyH_takeI (i := 4) (v := ?v41) rfl (by kernel_rfl) (by kernel_rfl) (by kernel_rfl) (fun _ _ _ h => h) (yieldsIf_want rfl (fun w' hw' => ?y41)) hS0 ?_
            case y41 => first | (go_simp; rfl) | (go_simp; done) | rfl
            simp only [Act.put, List.setIfInBounds_toArray, List.set_cons_zero, List.set_cons_succ]
            refine wpAnyH_takeI (i := 5) (v := ?v42) rfl (by kernel_rfl) (by kernel_rfl) (by kernel_rfl) (fun _ _ _ h => h) (yieldsIf_want rfl (fun w' hw' => ?y42)) hS0 ?_
            case y42 => first | (go_simp; rfl) | (go_simp; done) | rfl
            simp only [Act.put, List.setIfInBounds_toArray, List.set_cons_zero, List.set_cons_succ]
            refine wpAnyH_takeI (i := 6) (v := ?v43) rfl (by kernel_rfl) (by kernel_rfl) (by kernel_rfl) (fun _ _ _ h => h) (yieldsIf_want rfl (fun w' hw' => ?y43)) hS0 ?_
            case y43 => first | (go_simp; rfl) | (go_simp; done) | rfl
            simp only [Act.put, List.setIfInBounds_toArray, List.set_cons_zero, List.set_cons_succ]
            refine wpAnyH_takeI (i := 7) (v := ?v44) rfl (by kernel_rfl) (by kernel_rfl) (by kernel_rfl) (fun _ _ _ h => h) (yieldsIf_want rfl (fun w' hw' => ?y44)) hS0 ?_
            case y44 => first | (go_simp; rfl) | (go_simp; done) | rfl
            simp only [Act.put, List.setIfInBounds_toArray, List.set_cons_zero, List.set_cons_succ]
            refine wpAnyH_takeI (i := 8) (v := ?v45) rfl (by kernel_rfl) (by kernel_rfl) (by kernel_rfl) (fun _ _ _ h => h) (yieldsIf_want rfl (fun w' hw' => ?y45)) hS0 ?_
            case y45 => (obtain ⟨h1, h2⟩ := HLC.out w' hw'; clear hw'; first | (go_simp; rfl) | (go_simp; done))
            simp only [Act.put, List.setIfInBounds_toArray, List.set_cons_zero, List.set_cons_succ]
            refine wpAnyH_takeI (i := 9) (v := ?v46) rfl (by kernel_rfl) (by kernel_rfl) (by kernel_rfl) (fun _ _ _ h => h) (yieldsIf_want rfl (fun w' hw' => ?y46)) hS0 ?_
            case y46 => first | (go_simp; rfl) | (go_simp; done) | rfl
            simp only [Act.put, List.setIfInBounds_toArray, List.set_cons_zero, List.set_cons_succ]
            refine wpAnyH_takeI (i := 10) (v := ?v47) rfl (by kernel_rfl) (by kernel_rfl) (by kernel_rfl) (fun _ _ _ h => h) (yieldsIf_want rfl (fun w' hw' => ?y47)) hS0 ?_
            case y47 => first | (go_simp; rfl) | (go_simp; done) | rfl
            simp only [Act.put, List.setIfInBounds_toArray, List.set_cons_zero, List.set_cons_succ]
            refine wpAnyH_takeI (i := 11) (v := ?v48) rfl (by kernel_rfl) (by kernel_rfl) (by kernel_rfl) (fun _ _ _ h => h) (yieldsIf_want rfl (fun w' hw' => ?y48)) hS0 ?_
            case y48 => first | (go_simp; rfl) | (go_simp; done) | rfl
            simp only [Act.put, List.setIfInBounds_toArray, List.set_cons_zero, List.set_cons_succ]
            refine wpAnyH_takeI (i := 12) (v := ?v49) rfl (by kernel_rfl) (by kernel_rfl) (by kernel_rfl) (fun _ _ _ h => h) (yieldsIf_want rfl (fun w' hw' => ?y49)) hS0 ?_
            case y49 => (obtain ⟨h1, h2⟩ := HLC.out w' hw'; clear hw'; first | (go_simp; rfl) | (go_simp; done))
            simp only [Act.put, List.setIfInBounds_toArray, List.set_cons_zero, List.set_cons_succ]
            refine wpAnyH_takeI (i := 13) (v := ?v50) rfl (by kernel_rfl) (by kernel_rfl) (by kernel_rfl) (fun _ _ _ h => h) (yieldsIf_want rfl (fun w' hw' => ?y50)) hS0 ?_
            case y50 => first | (go_simp; rfl) | (go_simp; done) | rfl
            simp only [Act.put, List.setIfInBounds_toArray, List.set_cons_zero, List.set_cons_succ]
            refine wpAnyH_takeI (i := 14) (v := ?v51) rfl (by kernel_rfl) (by kernel_rfl) (by kernel_rfl) (fun _ _ _ h => h) (yieldsIf_want rfl (fun w' hw' => ?y51)) hS0 ?_
            case y51 => first | (go_simp; rfl) | (go_simp; done) | rfl
            simp only [Act.put, List.setIfInBounds_toArray, List.set_cons_zero, List.set_cons_succ]
            refine wpAnyH_takeI (i := 15) (v := ?v52) rfl (by kernel_rfl) (by kernel_rfl) (by kernel_rfl) (fun _ _ _ h => h) (yieldsIf_run rfl (fun w' hw' => ?y52)) hS0 ?_
            case y52 => first | (go_simp; rfl) | (go_simp; done) | rfl
            simp only [Act.put, List.setIfInBounds_toArray, List.set_cons_zero, List.set_cons_succ]
            refine wpAnyH_done (by kernel_rfl) ?_ _
            refine NoPanic.normal ?_
            go_wp2_with fail
            go_roundw
            case rel => exact ⟨2, ⟨g0, f0, .slice a0 n0 c0, L0⟩, ⟨g9, f9, .slice a9 n9 c9, L9⟩, 1, true, by omega, rfl, rfl, rfl, by omega, Lib.hid ((sel_two HAA.out.1 HSE.out (h0 := fun x h => (HI0.out x (by omega) h).1) (h1 := fun x h => (HAA.out.2 x h).1) (fd := true) (r := true) (by simp [hgt])).trans rfl), Lib.hid ((hd0.block _ (Array.getElem?_eq_some_iff.1 HX3.out).1).trans HX3.out), Lib.hid (HEA3.out.below hd0), Lib.hid (HEN.out.below hd0), Lib.hid (fun x _ h => HI0.out x (by omega) h), Lib.hid (fun x _ h => HAA.out.2 x h), Lib.hid (HC3.out.trans (Chg.of_below hd0) (fun j e => .inl e))⟩
            case measure => simp [intOf] <;> omega
          · go_wp2_with fail
            refine wp_region_noPanic ?_
            refine wp_region_H (Chg (fun _ => False) W3) (by kernel_rfl) ?_
            have hS0 : (Chg (fun _ => False) W3) W3.drew := Chg.of_below ((Below.refl _ _).drew)
            obtain ⟨wd, hwd⟩ : ∃ wd, W3.drew = wd := ⟨_, rfl⟩
            rw [hwd] at hS0 ⊢
            have hd0 : Below W3.heap.size W3 wd := hwd ▸ (Below.refl _ _).drew
            clear hwd
            refine wpAnyH_takeI (i := 0) (v := ?v53) rfl (by kernel_rfl) (by kernel_rfl) (by kernel_rfl) (fun _ _ _ h => h) (yieldsIf_run rfl (fun w' hw' => ?y53)) hS0 ?_
            case y53 => first | (go_simp; rfl) | (go_simp; done) | rfl
            simp only [Act.put, List.setIfInBounds_toArray, List.set_cons_zero, List.set_cons_succ]
            refine wpAnyH_takeI (i := 1) (v := ?v54) rfl (by kernel_rfl) (by kernel_rfl) (by kernel_rfl) (fun _ _ _ h => h) (yieldsIf_run rfl (fun w' hw' => ?y54)) hS0 ?_
            case y54 => first | (go_simp; rfl) | (go_simp; done) | rfl
            simp only [Act.put, List.setIfInBounds_toArray, List.set_cons_zero, List.set_cons_succ]
            refine wpAnyH_takeI (i := 2) (v := ?v55) rfl (by kernel_rfl) (by kernel_rfl) (by kernel_rfl) (fun _ _ _ h => h) (yieldsIf_want rfl (fun w' hw' => ?y55)) hS0 ?_
            case y55 => first | (go_simp; rfl) | (go_simp; done) | rfl
            simp only [Act.put, List.setIfInBounds_toArray, List.set_cons_zero, List.set_cons_succ]
            refine wpAnyH_takeI (i := 3) (v := ?v56) rfl (by kernel_rfl) (by kernel_rfl) (by kernel_rfl) (fun _ _ _ h => h) (yieldsIf_want rfl (fun w' hw' => ?y56)) hS0 ?_
            case y56 => first | (go_simp; rfl) | (go_simp; done) | rfl
            simp only [Act.put, List.setIfInBounds_toArray, List.set_cons_zero, List.set_cons_succ]
            refine wpAnyH_takeI (i := 4) (v := ?v57) rfl (by kernel_rfl) (by kernel_rfl) (by kernel_rfl) (fun _ _ _ h => h) (yieldsIf_want rfl (fun w' hw' => ?y57)) hS0 ?_
            case y57 => first | (go_simp; rfl) | (go_simp; done) | rfl
            simp only [Act.put, List.setIfInBounds_toArray, List.set_cons_zero, List.set_cons_succ]
            refine wpAnyH_takeI (i := 5) (v := ?v58) rfl (by kernel_rfl) (by kernel_rfl) (by kernel_rfl) (fun _ _ _ h => h) (yieldsIf_want rfl (fun w' hw' => ?y58)) hS0 ?_
            case y58 => first | (go_simp; rfl) | (go_simp; done) | rfl
            simp only [Act.put, List.setIfInBounds_toArray, List.set_cons_zero, List.set_cons_succ]
            refine wpAnyH_takeI (i := 6) (v := ?v59) rfl (by kernel_rfl) (by kernel_rfl) (by kernel_rfl) (fun _ _ _ h => h) (yieldsIf_want rfl (fun w' hw' => ?y59)) hS0 ?_
            case y59 => first | (go_simp; rfl) | (go_simp; done) | rfl
            simp only [Act.put, List.setIfInBounds_toArray, List.set_cons_zero, List.set_cons_succ]
            refine wpAnyH_takeI (i := 7) (v := ?v60) rfl (by kernel_rfl) (by kernel_rfl) (by kernel_rfl) (fun _ _ _ h => h) (yieldsIf_want rfl (fun w' hw' => ?y60)) hS0 ?_
            case y60 => first | (go_simp; rfl) | (go_simp; done) | rfl
            simp only [Act.put, List.setIfInBounds_toArray, List.set_cons_zero, List.set_cons_succ]
            refine wpAnyH_takeI (i := 8) (v := ?v61) rfl (by kernel_rfl) (by kernel_rfl) (by kernel_rfl) (fun _ _ _ h => h) (yieldsIf_want rfl (fun w' hw' => ?y61)) hS0 ?_
            case y61 => (obtain ⟨h1, h2⟩ := HLC.out w' hw'; clear hw'; first | (go_simp; rfl) | (go_simp; done))
            simp only [Act.put, List.setIfInBounds_toArray, List.set_cons_zero, List.set_cons_succ]
            refine wpAnyH_takeI (i := 9) (v := ?v62) rfl (by kernel_rfl) (by kernel_rfl) (by kernel_rfl) (fun _ _ _ h => h) (yieldsIf_want rfl (fun w' hw' => ?y62)) hS0 ?_
            case y62 => first | (go_simp; rfl) | (go_simp; done) | rfl
            simp only [Act.put, List.setIfInBounds_toArray, List.set_cons_zero, List.set_cons_succ]
            refine wpAnyH_takeI (i := 10) (v := ?v63) rfl (by kernel_rfl) (by kernel_rfl) (by kernel_rfl) (fun _ _ _ h => h) (yieldsIf_want rfl (fun w' hw' => ?y63)) hS0 ?_
            case y63 => first | (go_simp; rfl) | (go_simp; done) | rfl
            simp only [Act.put, List.setIfInBounds_toArray, List.set_cons_zero, List.set_cons_succ]
            refine wpAnyH_takeI (i := 11) (v := ?v64) rfl (by kernel_rfl) (by kernel_rfl) (by kernel_rfl) (fun _ _ _ h => h) (yieldsIf_want rfl (fun w' hw' => ?y64)) hS0 ?_
            case y64 => first | (go_simp; rfl) | (go_simp; done) | rfl
            simp only [Act.put, List.setIfInBounds_toArray, List.set_cons_zero, List.set_cons_succ]
            refine wpAnyH_takeI (i := 12) (v := ?v65) rfl (by kernel_rfl) (by kernel_rfl) (by kernel_rfl) (fun _ _ _ h => h) (yieldsIf_want rfl (fun w' hw' => ?y65)) hS0 ?_
            case y65 => (obtain ⟨h1, h2⟩ := HLC.out w' hw'; clear hw'; first | (go_simp; rfl) | (go_simp; done))
            simp only [Act.put, List.setIfInBounds_toArray, List.set_cons_zero, List.set_cons_succ]
            refine wpAnyH_takeI (i := 13) (v := ?v66) rfl (by kernel_rfl) (by kernel_rfl) (by kernel_rfl) (fun _ _ _ h => h) (yieldsIf_want rfl (fun w' hw' => ?y66)) hS0 ?_
            case y66 => first | (go_simp; rfl) | (go_simp; done) | rfl
            simp only [Act.put, List.setIfInBounds_toArray, List.set_cons_zero, List.set_cons_succ]
            refine wpAnyH_takeI (i := 14) (v := ?v67) rfl (by kernel_rfl) (by kernel_rfl) (by kernel_rfl) (fun _ _ _ h => h) (yieldsIf_want rfl (fun w' hw' => ?y67)) hS0 ?_
            case y67 => first | (go_simp; rfl) | (go_simp; done) | rfl
            simp only [Act.put, List.setIfInBounds_toArray, List.set_cons_zero, List.set_cons_succ]
            refine wpAnyH_takeI (i := 15) (v := ?v68) rfl (by kernel_rfl) (by kernel_rfl) (by kernel_rfl) (fun _ _ _ h => h) (yieldsIf_run rfl (fun w' hw' => ?y68)) hS0 ?_
            case y68 => first | (go_simp; rfl) | (go_simp; done) | rfl
            simp only [Act.put, List.setIfInBounds_toArray, List.set_cons_zero, List.set_cons_succ]
            refine wpAnyH_done (by kernel_rfl) ?_ _
            refine NoPanic.normal ?_
            go_wp2_with fail
            go_roundw
            case rel => exact ⟨2, ⟨g0, f0, .slice a0 n0 c0, L0⟩, ⟨g9, f9, .slice a9 n9 c9, L9⟩, 0, true, by omega, rfl, rfl, rfl, by omega, Lib.hid ((sel_two HAA.out.1 HSE.out (h0 := fun x h => (HI0.out x (by omega) h).1) (h1 := fun x h => (HAA.out.2 x h).1) (fd := true) (r := false) (by simp [hgt])).trans rfl), Lib.hid ((hd0.block _ (Array.getElem?_eq_some_iff.1 HX3.out).1).trans HX3.out), Lib.hid (HEA3.out.below hd0), Lib.hid (HEN.out.below hd0), Lib.hid (fun x _ h => HI0.out x (by omega) h), Lib.hid (fun x _ h => HAA.out.2 x h), Lib.hid (HC3.out.trans (Chg.of_below hd0) (fun j e => .inl e))⟩
            case measure => simp [intOf] <;> omega
end Go.Proofs.YtplclpileejemaaDoor

namespace Go.Proofs.YtplclpileejemaaDoor
open Go.RowKit
set_option linter.unusedVariables false
set_option linter.unusedSimpArgs false

/-- The slice value v is a row of its own, of records that read as the list L; payloads and row in blocks of F. -/
structure RecsAt (w : World) (F : Nat → Prop) (v : Value) (L : List RecD) : Prop where
  ex : ∃ ps, ps.length = L.length ∧ w.ownsRow 0 88 4 v L.length (flatR L ps) ∧ (∀ g, v.ownBlock = some g → F g) ∧ ∀ i (h : i < L.length), ∃ u, ps[i]? = some u ∧ BytesN w (fun k => F k ∧ v.ownBlock ≠ some k) u L[i].load
section
variable {w w' : World} {F G : Nat → Prop} {v : Value} {L : List RecD}
theorem RecsAt.form (h : RecsAt w F v L) : ∃ a cap, v = .slice a L.length cap := by obtain ⟨ps, _, h, _⟩ := h.ex; exact ownsRow_form h
theorem RecsAt.weak (h : RecsAt w F v L) (hFG : ∀ k, k < w.heap.size → F k → G k) : RecsAt w G v L := by
  obtain ⟨ps, h0, h1, h2, h3⟩ := h.ex
  refine ⟨ps, h0, h1, fun g hg => hFG g (ownsRow_lt h1 g hg).2 (h2 g hg), fun i hi => ?_⟩
  obtain ⟨u, h4, h5⟩ := h3 i hi
  exact ⟨u, h4, h5.weak fun k hk h6 => ⟨hFG k hk h6.1, h6.2⟩⟩
theorem RecsAt.chg (h : RecsAt w F v L) (hc : Chg G w w') (hd : ∀ k, k < w.heap.size → F k → ¬ G k) : RecsAt w' F v L := by
  obtain ⟨ps, h0, h1, h2, h3⟩ := h.ex
  refine ⟨ps, h0, ownsRow_chg' h1 hc (fun k hk => hd k (ownsRow_lt h1 k hk).2 (h2 k hk)), h2, fun i hi => ?_⟩
  obtain ⟨u, h4, h5⟩ := h3 i hi
  exact ⟨u, h4, h5.chg hc fun k hk h6 => hd k hk h6.1⟩
theorem RecsAt.below (h : RecsAt w F v L) (hb : Below w.heap.size w w') : RecsAt w' F v L := h.chg (G := fun _ => False) (Chg.of_below hb) (fun _ _ _ h => h)
/-- One of them. -/
theorem RecsAt.get {a : Option Addr} {n cap : Nat} (h : RecsAt w F (.slice a n cap) L) {i : Nat} (hi : i < L.length) : ∃ g u, a = some ⟨g, 0, none⟩ ∧ F g ∧ g < w.heap.size ∧ w.cell? ⟨g, i * 4, none⟩ = some (.int .i64 L[i].kind) ∧ w.cell? ⟨g, i * 4 + 1, none⟩ = some (.int .i64 L[i].gen) ∧
    w.cell? ⟨g, i * 4 + 2, none⟩ = some (.int .i64 L[i].num) ∧ w.cell? ⟨g, i * 4 + 3, none⟩ = some u ∧ BytesN w F u L[i].load := by
  obtain ⟨ps, h0, h1, h2, h3⟩ := h.ex
  obtain ⟨u, h4, h5⟩ := h3 i hi
  obtain ⟨g, cap', e, hgl, _, hr⟩ := ownsRow_at h1 (by omega)
  cases e
  have hp : ps[i]'(by omega) = u := by
    have := List.getElem?_eq_getElem (l := ps) (i := i) (by omega)
    rw [h4] at this
    simpa using this.symm
  have key : ∀ j u', j < 4 → (recC L[i] u)[j]? = some u' → w.cell? ⟨g, i * 4 + j, none⟩ = some u' := fun j u' hj hu => hr _ _ (by rw [flatR_get L ps i j hi h0 hj, hp]; exact hu)
  exact ⟨g, u, rfl, h2 g rfl, hgl, key 0 _ (by omega) rfl, key 1 _ (by omega) rfl, key 2 _ (by omega) rfl, key 3 _ (by omega) rfl, h5.weak fun k _ h6 => h6.1⟩
/-- One record. -/
theorem recsAt_one {g : Nat} {r : RecD} {u : Value} (hg : w.heap[g]? = some (.cells #[.int .i64 r.kind, .int .i64 r.gen, .int .i64 r.num, u] 88 (0, 0))) (hF : F g) (hne : BytesN w (fun k => F k ∧ k ≠ g) u r.load) : RecsAt w F (.slice (some ⟨g, 0, none⟩) 1 1) [r] := by
  obtain ⟨a, c, rfl⟩ := hne.form
  refine ⟨[.slice a r.load.length c], rfl, ⟨rfl, .inr ⟨g, 1, #[.int .i64 r.kind, .int .i64 r.gen, .int .i64 r.num, .slice a r.load.length c], rfl, Nat.zero_le _, hg, Nat.le_refl _, by decide, rfl, rfl⟩⟩, fun k hk => ?_, fun i hi => ?_⟩
  · obtain rfl : g = k := Option.some.inj hk
    exact hF
  · obtain rfl : i = 0 := by simp at hi; omega
    refine ⟨_, rfl, hne.weak fun k _ h => ⟨h.1, fun e => h.2 ?_⟩⟩
    exact (Option.some.inj e).symm
/-- One more record. -/
theorem wp_appRecA {o : Oper} {a : Act} {Q : Exit → Act → World → Prop} {K : Act → World → Prop} (s x : Operand) (ho : o.op = .call { callee := .builtin .append, args := #[s, x], argTypes := #[105, 105] })
    {u : Value} {r : RecD} (hs : a.eval s = v) (hown : RecsAt w F v L) (hu : BytesN w (fun k => F k ∧ v.ownBlock ≠ some k) u r.load) (hx : a.eval x = .slice (some ⟨w.heap.size, 0, none⟩) 1 1)
    {n : Nat} (hL : L.length = n) (hn : n < 1000000000)
    (h : ∀ a' cap' w', RecsAt w' (fun k => F k ∨ w.heap.size ≤ k) (.slice a' (n + 1) cap') (L ++ [r]) → Chg (fun k => v.ownBlock = some k) w w' → (∀ g, (Value.slice a' (n + 1) cap').ownBlock = some g → v.ownBlock = some g ∨ w.heap.size ≤ g) → K (a.put o.dst (.slice a' (n + 1) cap')) w') :
    o.wp Tryd.prog a (w.alloc (.cells #[.int .i64 r.kind, .int .i64 r.gen, .int .i64 r.num, u] 88)) K Q := by
  subst hL
  obtain ⟨i0, hi, hz0, hz1, hz2⟩ := info_parts infoRec
  have hba : Below w.heap.size w (w.alloc (.cells #[.int .i64 r.kind, .int .i64 r.gen, .int .i64 r.num, u] 88)) := (Below.refl _ _).alloc (Nat.le_refl _) _
  obtain ⟨ps, h0, hr, hF, he⟩ := hown.ex
  have hr1 := own_kept hr hba
  have hu1 := hu.below hba
  obtain ⟨ua, uc, hue⟩ := hu.form
  refine wp_append_lies _ s x 105 ho 0 88 i0 _ 4 48 Tryd.underlying105 hi hz0 hz1 hz2 rfl (by decide) v L.length (flatR L ps) hs hr1
    ⟨w.heap.size, 0, none⟩ 1 1 (recC r u) hx rfl (World.news_of_block (cs := #[.int .i64 r.kind, .int .i64 r.gen, .int .i64 r.num, u]) (t := 88) (fr := (0, 0)) (heap_alloc_new _ _)) (fun y hy => by
      simp only [recC, List.mem_cons, List.not_mem_nil, or_false] at hy
      rcases hy with rfl | rfl | rfl | rfl <;> first | rfl | (rw [hue]; rfl)) (by decide) (by unfold maxLen; omega) (by omega) (Nat.zero_le _) _ rfl ?_
  intro g' cap' w' hown' hgrow hat hlt
  have hc1 : Chg (fun k => v.ownBlock = some k) (w.alloc (.cells #[.int .i64 r.kind, .int .i64 r.gen, .int .i64 r.num, u] 88)) w' := Chg.grown hgrow (fun k hk => .inl hk)
  have hc2 : Chg (fun k => v.ownBlock = some k) w w' := (Chg.of_below hba).trans hc1 (fun k hk => .inl hk)
  have hat' : v.ownBlock = some g' ∨ w.heap.size ≤ g' := hat.elim .inl (fun e => .inr (by rw [e, World.size_alloc]; omega))
  have keep : ∀ (y : Value) (ys : List UInt8), BytesN w (fun k => F k ∧ v.ownBlock ≠ some k) y ys → BytesN w' (fun k => (F k ∨ w.heap.size ≤ k) ∧ (Value.slice (some ⟨g', 0, none⟩) (L.length + 1) cap').ownBlock ≠ some k) y ys := fun y ys hy => by
    have h1 := (hy.weak (G := fun k => (F k ∧ v.ownBlock ≠ some k) ∧ k < w.heap.size) (fun k h1 h2 => ⟨h2, h1⟩)).chg hc2 (fun k _ h3 => h3.1.2)
    refine h1.weak fun k _ h2 => ⟨.inl h2.1.1, fun e => ?_⟩
    have e' : g' = k := Option.some.inj e
    subst e'
    rcases hat' with h3 | h3
    · exact h2.1.2 h3
    · have := h2.2; omega
  refine h _ cap' w' ⟨ps ++ [u], by simp [h0], by rw [List.length_append, flatR_append L ps r u h0]; exact hown', fun g hg => ?_, fun i hi => ?_⟩ hc2 (fun g hg => by obtain rfl : g' = g := Option.some.inj hg; exact hat')
  · obtain rfl : g' = g := Option.some.inj hg
    exact hat'.elim (fun h3 => .inl (hF _ h3)) .inr
  by_cases hlt : i < L.length
  · obtain ⟨y, h1, h2⟩ := he i hlt
    refine ⟨y, by rw [List.getElem?_append_left (by omega)]; exact h1, ?_⟩
    rw [List.getElem_append_left hlt]
    exact keep _ _ h2
  · rw [List.length_append] at hi
    simp at hi
    obtain rfl : i = L.length := by omega
    refine ⟨u, by rw [List.getElem?_append_right (by omega), h0, Nat.sub_self]; rfl, ?_⟩
    simp only [List.getElem_append_right (Nat.le_refl _), Nat.sub_self, List.getElem_cons_zero]
    exact keep _ _ hu
theorem wpList_appRecA {ops : Array Oper} {rest : List Oper} {o : Oper} {a : Act} {Q : Exit → Act → World → Prop} (hgd : o.guard = none) (s x : Operand) (ho : o.op = .call { callee := .builtin .append, args := #[s, x], argTypes := #[105, 105] })
    {u : Value} (r : RecD) (hs : a.eval s = v) (hown : RecsAt w F v L) (hu : BytesN w (fun k => F k ∧ v.ownBlock ≠ some k) u r.load) (hx : a.eval x = .slice (some ⟨w.heap.size, 0, none⟩) 1 1)
    {n : Nat} (hL : L.length = n) (hn : n < 1000000000)
    (h : ∀ a' cap' w', RecsAt w' (fun k => F k ∨ w.heap.size ≤ k) (.slice a' (n + 1) cap') (L ++ [r]) → Chg (fun k => v.ownBlock = some k) w w' → (∀ g, (Value.slice a' (n + 1) cap').ownBlock = some g → v.ownBlock = some g ∨ w.heap.size ≤ g) → wpList Tryd.prog ops Q rest (a.put o.dst (.slice a' (n + 1) cap')) w') :
    wpList Tryd.prog ops Q (o :: rest) a (w.alloc (.cells #[.int .i64 r.kind, .int .i64 r.gen, .int .i64 r.num, u] 88)) :=
  wpList_plain hgd fun _ hK => wp_appRecA s x ho hs hown hu hx hL hn fun a' cap' w' h1 h2 h3 => hK _ _ (h a' cap' w' h1 h2 h3)
end
end Go.Proofs.YtplclpileejemaaDoor

namespace Go.Proofs.YtplclpileejemaaDoor
open Go.RowKit
set_option linter.unusedVariables false
set_option linter.unusedSimpArgs false

theorem joinGo_head (l : List (List UInt8)) (f : PartD) : ∀ k i acc, (joinGo l f i k acc).2.2 = 0 → (joinGo l f i k acc).1.gen = f.gen ∧ (joinGo l f i k acc).1.num = f.num
  | 0, _, _, _ => ⟨rfl, rfl⟩
  | k + 1, i, acc, h => by
    rw [joinGo] at h ⊢
    cases hb : l[i]? with
    | none => rw [hb] at h; cases h
    | some b =>
      rw [hb] at h
      simp only at h ⊢
      by_cases h1 : decE b ≠ 0
      · rw [if_pos h1] at h; exact absurd h h1
      · rw [if_neg h1] at h ⊢
        by_cases h2 : samePl f (decP b) i = true
        · rw [if_pos h2] at h ⊢
          exact joinGo_head l f k (i + 1) _ h
        · rw [if_neg h2] at h; cases h
theorem joinGo_mono {l l' : List (List UInt8)} {f : PartD} (hL : ∀ (i : Nat) x, l'[i]? = some x → decE x = 0 → (decP x).gen = f.gen → l[i]? = some x) : ∀ k i acc, (joinGo l' f i k acc).2.2 = 0 → joinGo l f i k acc = joinGo l' f i k acc
  | 0, _, _, _ => rfl
  | k + 1, i, acc, h => by
    rw [joinGo] at h
    rw [joinGo, joinGo]
    cases hb : l'[i]? with
    | none => rw [hb] at h; cases h
    | some b =>
      rw [hb] at h
      simp only at h ⊢
      by_cases h1 : decE b ≠ 0
      · rw [if_pos h1] at h; exact absurd h h1
      · rw [if_neg h1] at h ⊢
        by_cases h2 : samePl f (decP b) i = true
        · rw [if_pos h2] at h ⊢
          have h3 : (decP b).gen = f.gen := by
            simp only [samePl, Bool.and_eq_true, beq_iff_eq] at h2
            exact h2.1.1.1.2
          rw [hL i b hb (Classical.not_not.1 h1) h3]
          simp only
          rw [if_neg h1, if_pos h2]
          exact joinGo_mono hL k (i + 1) _ h
        · rw [if_neg h2] at h; cases h
/-- What joins does so in any list that holds the sectors of its generation. -/
theorem join_mono {l l' : List (List UInt8)} {g : Int} (hL : ∀ (i : Nat) x, l'[i]? = some x → decE x = 0 → (decP x).gen = g → l[i]? = some x) (h0 : (joinL l').2.2 = 0) (hg : (joinL l').1.gen = g) : joinL l = joinL l' := by
  cases l' with
  | nil => cases h0
  | cons b t' =>
    rw [joinL] at h0 hg ⊢
    by_cases h1 : decE b ≠ 0
    · rw [if_pos h1] at h0; exact absurd h0 h1
    · rw [if_neg h1] at h0 hg ⊢
      by_cases h2 : (decP b).idx ≠ 0
      · rw [if_pos h2] at h0; cases h0
      · rw [if_neg h2] at h0 hg ⊢
        have h3 := (joinGo_head _ _ _ _ _ h0).1
        rw [hg] at h3
        have h4 := hL 0 b rfl (Classical.not_not.1 h1) h3.symm
        cases l with
        | nil => cases h4
        | cons b' t =>
          obtain rfl : b' = b := Option.some.inj h4
          rw [joinL, if_neg h1, if_neg h2]
          exact joinGo_mono (fun i x e1 e2 e3 => hL i x e1 e2 (e3.trans h3.symm)) _ _ _ h0
theorem scan_grow (g n : Int) (l : List (List UInt8)) : ∀ k a out, out <+: (scanGo g n l k a out).1
  | 0, _, out => List.prefix_refl out
  | k + 1, a, out => by
    rw [scanGo]
    by_cases h1 : l.length ≤ a
    · rw [if_pos h1]; exact List.prefix_refl out
    · rw [if_neg h1]
      by_cases h2 : (joinL (l.drop a)).2.2 ≠ 0
      · rw [if_pos h2]; exact List.prefix_refl out
      · rw [if_neg h2]
        by_cases h3 : (joinL (l.drop a)).1.gen = g ∧ (joinL (l.drop a)).1.num = n + out.length
        · rw [if_pos h3]
          exact (List.prefix_append out _).trans (scan_grow g n l k _ _)
        · rw [if_neg h3]; exact List.prefix_refl out
theorem scanGo_mono {g n : Int} {l l' : List (List UInt8)} (hl : l'.length = l.length) (hL : ∀ (i : Nat) x, l'[i]? = some x → decE x = 0 → (decP x).gen = g → l[i]? = some x) : ∀ k a out, (scanGo g n l' k a out).1 <+: (scanGo g n l k a out).1
  | 0, _, out => List.prefix_refl out
  | k + 1, a, out => by
    rw [scanGo.eq_2 g n l']
    by_cases h1 : l'.length ≤ a
    · rw [if_pos h1]; exact scan_grow g n l _ _ _
    · rw [if_neg h1]
      by_cases h2 : (joinL (l'.drop a)).2.2 ≠ 0
      · rw [if_pos h2]; exact scan_grow g n l _ _ _
      · rw [if_neg h2]
        by_cases h3 : (joinL (l'.drop a)).1.gen = g ∧ (joinL (l'.drop a)).1.num = n + out.length
        · rw [if_pos h3]
          have h4 := join_mono (l := l.drop a) (l' := l'.drop a) (fun i x e1 e2 e3 => by
            rw [List.getElem?_drop] at e1 ⊢
            exact hL _ x e1 e2 e3) (Classical.not_not.1 h2) h3.1
          rw [scanGo.eq_2, if_neg (by omega), h4, if_neg h2, if_pos h3]
          exact scanGo_mono hl hL k _ _
        · rw [if_neg h3]; exact scan_grow g n l _ _ _
/-- A scan of fewer sectors of the generation finds a beginning of the records. -/
theorem scan_mono {g n : Int} {l l' : List (List UInt8)} (hl : l'.length = l.length) (hL : ∀ (i : Nat) x, l'[i]? = some x → decE x = 0 → (decP x).gen = g → l[i]? = some x) : (scanL g n l').1 <+: (scanL g n l).1 := by
  unfold scanL
  by_cases h : fineB 0 g n = false
  · rw [if_pos h, if_pos h]; exact List.prefix_refl _
  · rw [if_neg h, if_neg h, hl]
    exact scanGo_mono hl hL _ _ _
/-- The sectors of records. -/
def seqL (rs : List RecD) : List (List UInt8) := rs.flatMap splitL
theorem seqL_cons (r : RecD) (rs : List RecD) : seqL (r :: rs) = splitL r ++ seqL rs := by simp [seqL]
theorem seqL_append (rs qs : List RecD) : seqL (rs ++ qs) = seqL rs ++ seqL qs := by simp [seqL]
/-- Records of a generation, numbered. -/
structure RecsOk (g n : Int) (rs : List RecD) : Prop where
  fine : fineB 0 g n = true
  ok : ∀ (i : Nat) (h : i < rs.length), splitE rs[i] = 0 ∧ rs[i].gen = g ∧ rs[i].num = n + i
theorem scanGo_seq {g n : Int} {l m : List (List UInt8)} (k : Nat) : ∀ (rs out : List RecD) (a : Nat), l.drop a = seqL rs ++ m → a ≤ l.length → (∀ (i : Nat) (h : i < rs.length), splitE rs[i] = 0 ∧ rs[i].gen = g ∧ rs[i].num = n + (out.length + i : Nat)) →
    scanGo g n l (rs.length + k) a out = scanGo g n l k (a + (seqL rs).length) (out ++ rs)
  | [], out, a, _, _, _ => by simp [seqL]
  | r :: rs, out, a, hd, ha, h => by
    have h0 := h 0 (by simp)
    simp only [List.getElem_cons_zero, Nat.add_zero] at h0
    have hn := need_le (splitE_ok h0.1).2
    have hsl := splitL_length h0.1
    rw [seqL_cons, List.append_assoc] at hd
    have hlen := congrArg List.length hd
    rw [List.length_drop, List.length_append, hsl] at hlen
    have hj := join_split h0.1 (seqL rs ++ m)
    rw [← hd] at hj
    rw [show (r :: rs).length + k = (rs.length + k) + 1 by simp; omega, scanGo, if_neg (by omega), hj, if_neg (by simp), if_pos ⟨h0.2.1, h0.2.2⟩]
    simp only
    rw [scanGo_seq k rs (out ++ [r]) (a + needN r.load.length) (by rw [← List.drop_drop, hd, List.drop_left' hsl]) (by omega) (fun i hi => by
      have h1 := h (i + 1) (by simp; omega)
      simp only [List.getElem_cons_succ] at h1
      refine ⟨h1.1, h1.2.1, ?_⟩
      rw [h1.2.2, List.length_append, List.length_singleton]
      omega)]
    rw [seqL_cons, List.length_append, hsl, List.append_assoc, List.singleton_append, Nat.add_assoc]
theorem seqL_long : ∀ {rs : List RecD}, (∀ r ∈ rs, splitE r = 0) → rs.length ≤ (seqL rs).length
  | [], _ => Nat.zero_le _
  | r :: rs, h => by
    have h0 := h r (List.mem_cons_self ..)
    have hn := need_le (splitE_ok h0).2
    have h1 := seqL_long (rs := rs) (fun q hq => h q (List.mem_cons_of_mem _ hq))
    rw [seqL_cons, List.length_append, splitL_length h0, List.length_cons]
    omega
theorem RecsOk.mem {g n : Int} {rs : List RecD} (h : RecsOk g n rs) : ∀ r ∈ rs, splitE r = 0 := fun r hr => by
  obtain ⟨i, hi, rfl⟩ := List.getElem_of_mem hr
  exact (h.ok i hi).1
/-- A scan finds the records at the beginning. -/
theorem scan_finds {g n : Int} {rs : List RecD} (h : RecsOk g n rs) (m : List (List UInt8)) : rs <+: (scanL g n (seqL rs ++ m)).1 := by
  obtain ⟨k, hk⟩ : ∃ k, (seqL rs ++ m).length = rs.length + k := ⟨(seqL rs ++ m).length - rs.length, by have := seqL_long h.mem; rw [List.length_append]; omega⟩
  unfold scanL
  rw [if_neg (by rw [h.fine]; simp), hk, scanGo_seq k rs [] 0 (m := m) rfl (Nat.zero_le _) (fun i hi => by simpa using h.ok i hi)]
  exact scan_grow g n _ _ _ _
theorem scanGo_stop {g n : Int} {l : List (List UInt8)} {a : Nat} (hs : ∀ x, l[a]? = some x → ¬ (decE x = 0 ∧ (decP x).gen = g)) (out : List RecD) : ∀ k, (scanGo g n l k a out).1 = out
  | 0 => rfl
  | k + 1 => by
    rw [scanGo]
    by_cases h1 : l.length ≤ a
    · rw [if_pos h1]
    · rw [if_neg h1]
      by_cases h2 : (joinL (l.drop a)).2.2 ≠ 0
      · rw [if_pos h2]
      · rw [if_neg h2]
        rw [if_neg]
        intro h3
        have h4 := join_mono (l := []) (l' := l.drop a) (g := g) 
        have hx : l[a]? = some (l[a]'(by omega)) := List.getElem?_eq_getElem (by omega)
        have h5 := hs _ hx
        have h6 := Classical.not_not.1 h2
        have h7 := h3.1
        rw [List.drop_eq_getElem_cons (by omega), joinL] at h6 h7
        by_cases h8 : decE (l[a]'(by omega)) ≠ 0
        · rw [if_pos h8] at h6; exact h8 h6
        · rw [if_neg h8] at h6 h7
          by_cases h9 : (decP (l[a]'(by omega))).idx ≠ 0
          · rw [if_pos h9] at h6; cases h6
          · rw [if_neg h9] at h6 h7
            rw [(joinGo_head _ _ _ _ _ h6).1] at h7
            exact h5 ⟨Classical.not_not.1 h8, h7⟩
/-- .. and no more, if the sector behind them is of another generation. -/
theorem scan_exact {g n : Int} {rs : List RecD} (h : RecsOk g n rs) {m : List (List UInt8)} (hs : ∀ x, m.head? = some x → ¬ (decE x = 0 ∧ (decP x).gen = g)) : (scanL g n (seqL rs ++ m)).1 = rs := by
  obtain ⟨k, hk⟩ : ∃ k, (seqL rs ++ m).length = rs.length + k := ⟨(seqL rs ++ m).length - rs.length, by have := seqL_long h.mem; rw [List.length_append]; omega⟩
  unfold scanL
  rw [if_neg (by rw [h.fine]; simp), hk, scanGo_seq k rs [] 0 (m := m) rfl (Nat.zero_le _) (fun i hi => by simpa using h.ok i hi)]
  exact scanGo_stop (fun x hx => hs x (by rw [Nat.zero_add, List.getElem?_append_right (Nat.le_refl _), Nat.sub_self] at hx; cases m with | nil => cases hx | cons b m => exact hx)) _ _
/-- The records of a journal: c entries were carried along. -/
def recsJ (g f c : Nat) (E : List (List UInt8)) : List RecD := ⟨1, g, 0, headB f c⟩ :: E.mapIdx fun i b => bodR g (i + 1) b
theorem recsR_recsJ (g f : Nat) (E : List (List UInt8)) : recsR g f E = recsJ g f E.length E := rfl
theorem recsJ_length (g f c : Nat) (E : List (List UInt8)) : (recsJ g f c E).length = E.length + 1 := by simp [recsJ]
theorem recsJ_get (g f c : Nat) (E : List (List UInt8)) (i : Nat) (h : i + 1 < (recsJ g f c E).length) : (recsJ g f c E)[i + 1] = bodR g (i + 1) (E[i]'(by rw [recsJ_length] at h; omega)) := by simp [recsJ]
theorem recsJ_take (g f c k : Nat) (E : List (List UInt8)) : (recsJ g f c E).take (k + 1) = recsJ g f c (E.take k) := by
  apply List.ext_getElem
  · simp [recsJ_length, List.length_take]
  · intro i h1 h2
    cases i with
    | zero => simp [recsJ]
    | succ i => rw [List.getElem_take, recsJ_get, recsJ_get, List.getElem_take]
/-- Limits of a journal's numbers. -/
structure JLim (g f c : Nat) (E : List (List UInt8)) : Prop where
  g : g ≤ 2147483647
  f : f ≤ mostH
  c : c ≤ mostH
  n : E.length ≤ 2147483647
  len : ∀ b ∈ E, b.length ≤ 131072
theorem headB_length (f c : Nat) : (headB f c).length = 16 := by simp [headB]
theorem numL_headB {f c : Nat} (hf : f ≤ mostH) (hc : c ≤ mostH) : numL (headB f c) = some (f, c) := by
  unfold mostH at hf hc
  have h1 : (headB f c).take 8 = beL 8 f := by unfold headB; rw [List.take_left' (beL_length 8 f)]
  have h2 : (headB f c).drop 8 = beL 8 c := by unfold headB; rw [List.drop_left' (beL_length 8 f)]
  unfold numL
  rw [h1, h2, valN_be 8 f (by omega), valN_be 8 c (by omega), if_pos ⟨headB_length f c, hf, hc⟩]
theorem JLim.recs {g f c : Nat} {E : List (List UInt8)} (h : JLim g f c E) : RecsOk g 0 (recsJ g f c E) := by
  have hg := h.g
  have hn := h.n
  have hfine : ∀ (k n : Nat), k ≤ 65535 → n ≤ 2147483647 → fineB (k : Int) (g : Int) (n : Int) = true := fun k n h1 h2 => by
    simp [fineB]
    omega
  refine ⟨hfine 0 0 (by omega) (by omega), fun i hi => ?_⟩
  cases i with
  | zero =>
    refine ⟨?_, rfl, rfl⟩
    show splitE ⟨1, g, 0, headB f c⟩ = 0
    unfold splitE
    have := hfine 1 0 (by omega) (by omega)
    simp only at this ⊢
    rw [if_neg (by rw [show fineB 1 (g : Int) 0 = true from this]; simp), if_neg (by rw [headB_length]; omega)]
  | succ i =>
    rw [recsJ_get]
    have hi' : i < E.length := by rw [recsJ_length] at hi; omega
    have hb := h.len _ (List.getElem_mem hi')
    refine ⟨?_, rfl, by show ((i + 1 : Nat) : Int) = _; omega⟩
    show splitE ⟨2, g, ((i + 1 : Nat) : Int), E[i]⟩ = 0
    unfold splitE
    have := hfine 2 (i + 1) (by omega) (by omega)
    simp only at this ⊢
    rw [if_neg (by rw [show fineB 2 (g : Int) ((i + 1 : Nat) : Int) = true from this]; simp), if_neg (by omega)]
theorem JLim.take {g f c : Nat} {E : List (List UInt8)} (h : JLim g f c E) (k : Nat) : JLim g f c (E.take k) := ⟨h.g, h.f, h.c, by have := h.n; rw [List.length_take]; omega, fun b hb => h.len b (List.mem_of_mem_take hb)⟩
theorem body_all : ∀ {t : List RecD}, (∀ r ∈ t, r.kind = 2) → bodyL t = t.map (·.load)
  | [], _ => rfl
  | r :: t, h => by
    have h1 := body_all (t := t) (fun q hq => h q (List.mem_cons_of_mem _ hq))
    unfold bodyL at h1 ⊢
    rw [List.takeWhile_cons, decide_eq_true (h r (List.mem_cons_self ..))]
    simp only [if_true, List.map_cons]
    rw [h1]
/-- What the records of a journal amount to. -/
theorem areaM_recs {g f c : Nat} {E : List (List UInt8)} (hf : f ≤ mostH) (hc : c ≤ mostH) : areaM g (recsJ g f c E) = if c ≤ E.length then some ⟨g, f, E⟩ else none := by
  have hb : bodyL (E.mapIdx fun i b => bodR g (i + 1) b) = E := by
    rw [body_all]
    · apply List.ext_getElem
      · simp
      · intro i h1 h2
        simp [bodR]
    · intro r hr
      obtain ⟨i, hi, rfl⟩ := List.getElem_of_mem hr
      simp [bodR]
  unfold recsJ
  rw [areaM, if_neg (by simp), numL_headB hf hc]
  simp only
  rw [hb]
theorem recsJ_prefix {g f c : Nat} {E : List (List UInt8)} {rs : List RecD} (h : rs <+: recsJ g f c E) (hne : rs ≠ []) : ∃ k, k ≤ E.length ∧ rs = recsJ g f c (E.take k) ∧ rs.length = k + 1 := by
  obtain ⟨k, hk⟩ : ∃ k, rs.length = k + 1 := by
    cases rs with
    | nil => exact absurd rfl hne
    | cons r t => exact ⟨t.length, rfl⟩
  have h1 := h.length_le
  rw [recsJ_length] at h1
  refine ⟨k, by omega, ?_, hk⟩
  rw [← recsJ_take, ← hk]
  exact List.prefix_iff_eq_take.1 h
end Go.Proofs.YtplclpileejemaaDoor
