/- DiskFlushed. -/
import Derived.Test.YtkklbmnbjmicnaaLaw4
import Derived.Test.YtkklbmnbjmicnaaDisk15
namespace Go.Proofs.Ytkklbmnbjmicnaa
open Go.RowKit Go.Shelf
set_option linter.unusedVariables false
set_option linter.unusedSimpArgs false

/-- The argument of DiskFlushed. -/
def crashV (sd : Nat) (lv lv' cv : Value) : Value := .agg #[.int .u8 (sd : Int), lv, lv', cv]

theorem cells4 {w : World} {b : Nat} {a0 a1 a2 a3 : Value} {T : TypeId} (h : w.heap[b]? = some (.cells #[a0, a1, a2, a3] T (0, 0))) :
    w.cell? ⟨b, 0, none⟩ = some a0 ∧ w.cell? ⟨b, 1, none⟩ = some a1 ∧ w.cell? ⟨b, 2, none⟩ = some a2 ∧ w.cell? ⟨b, 3, none⟩ = some a3 ∧ ∀ i, w.frozen? ⟨b, i, none⟩ = false := by
  simp [World.cell?, World.frozen?, h]

set_option maxRecDepth 100000 in
set_option maxHeartbeats 2000000 in
theorem DiskFlushed_yes (sd : Nat) (hsd : sd < 256) (l la' : List OpD) (lv lv' cv : Value) (cs : List UInt8) (w : World) (h : OpsAt w (fun k => k < w.heap.size) lv l) (h' : OpsAt w (fun k => k < w.heap.size) lv' la') (hcv : BytesAt w (fun k => k < w.heap.size) cv cs)
    (ha : ∀ o ∈ l, o.a ≤ 9223372036854775807 ∧ o.cs.length ≤ 9223372036854775807) (ha' : ∀ o ∈ la', o.a ≤ 9223372036854775807 ∧ o.cs.length ≤ 9223372036854775807) (hl : l.length ≤ 40) (hl' : la'.length ≤ 40) (hcl : cs.length ≤ 100) :
    Calls Try.prog 8 #[crashV sd lv lv' cv] w fun e w' => e = .returned (.bool true) ∧ Below w.heap.size w w' := by
  unfold crashV
  have HO := Lib.hid h
  have HO2 := Lib.hid h'
  have HCV := Lib.hid hcv
  have HAB := Lib.hid ha
  have ha1 : ∀ o ∈ la', o.a ≤ 9223372036854775807 := fun o ho => (ha' o ho).1
  have HA := Lib.hid ha1
  have ha2 : ∀ o ∈ la', o.cs.length ≤ 9223372036854775807 := fun o ho => (ha' o ho).2
  have HCL := Lib.hid ha2
  obtain ⟨la, lc, rfl, _⟩ := h
  obtain ⟨lb, lc2, rfl, _, hops2⟩ := h'
  obtain ⟨ca, cc, rfl, _⟩ := hcv
  have HOPS2 := Lib.hid hops2
  have hcd : decide (100 < (cs.length : Int)) = false := by simp; omega
  clear ha ha' ha1 ha2 hops2
  obtain ⟨n, hn, hn1, hn2⟩ := sectors_of sd
  have HN := Lib.hid hn
  have hmk := make_bools n hn1 hn2
  have HMK := Lib.hid hmk
  clear hn hmk
  obtain ⟨w0, hw0⟩ : ∃ w0, w.alloc (.cells #[.int .u8 (sd : Int), .slice la l.length lc, .slice lb la'.length lc2, .slice ca cs.length cc] 57) = w0 := ⟨_, rfl⟩
  have hb0 : Below w.heap.size w w0 := hw0 ▸ (Below.refl _ _).alloc (Nat.le_refl _) _
  have n0 : w0.heap[w.heap.size]? = some (.cells #[.int .u8 (sd : Int), .slice la l.length lc, .slice lb la'.length lc2, .slice ca cs.length cc] 57 (0, 0)) := by rw [← hw0]; exact heap_alloc_new w _
  obtain ⟨e0, e1, e2, e3, _⟩ := cells4 n0
  have HB0 := Lib.hid hb0
  clear hb0 n0
  go_enter Try.func8, Try.ntmps8
  go_wp2_with fail
  go_quiet (fail)
  obtain ⟨wq, hwq⟩ : ∃ wq, w0.drewN nq = wq := ⟨_, rfl⟩
  have hbq : Below w.heap.size w wq := hwq ▸ HB0.out.trans ((Below.drewN' w0 nq _).mono HB0.out.size)
  rw [hwq]
  have HBQ := Lib.hid hbq
  clear hwq hbq e0 e1 e2 e3 hw0
  go_wp2_with fail
  refine (known_any _).mono ?_
  rintro e w1 ⟨rfl, hb1⟩
  have hbW1 : Below w.heap.size w w1 := HBQ.out.trans (hb1.mono HBQ.out.size)
  go_wp2_with fail
  refine (small_yes _ _ _ hl).mono ?_
  rintro e w2 ⟨rfl, rfl⟩
  go_wp2_with fail
  refine (small_yes _ _ _ hl').mono ?_
  rintro e w2 ⟨rfl, rfl⟩
  clear hb1
  go_wp2_with fail
  rw [HN.out]
  refine (run_at n l _ hn1 hn2 HO.out hbW1 hl HAB.out).mono ?_
  rintro e w3 ⟨b, v, F, G, rfl, hD, hR, hFG, hF, hG, hb3⟩
  have hbdS := runDS_bnd n l (fun o ho => (HAB.out o ho).1) l.length (Nat.le_refl _)
  rw [List.take_length] at hbdS
  have hlenS := runDS_len n l
  obtain ⟨S, hS⟩ : ∃ S, runDS n l = S := ⟨_, rfl⟩
  rw [hS] at hD hR hbdS hlenS
  have hok := hD.ok
  have hD' := hD.bound
  have hR' := hR.bound
  have HD := Lib.hid hD'
  have HR := Lib.hid hR'
  have HFG := Lib.hid hFG
  have HOK := Lib.hid hok
  have hb13 : Below w.heap.size w w3 := hbW1.trans (hb3.mono hbW1.size)
  have HF : Hid (∀ k, F k → w.heap.size ≤ k) := Lib.hid (fun k h => Nat.le_trans hbW1.size (hF k h))
  have HG : Hid (∀ k, G k → w.heap.size ≤ k) := Lib.hid (fun k h => Nat.le_trans hbW1.size (hG k h))
  have HB := Lib.hid hb13
  have HBD := Lib.hid hbdS
  have HLS := Lib.hid hlenS
  obtain ⟨da, dc, wa, wc, rfl⟩ := hR.form
  unfold refV at HR ⊢
  obtain ⟨w4, hw4⟩ : ∃ w4, w3.alloc (.cells #[.slice da S.dur.length dc, .slice wa S.pend.length wc, .int .i64 (limI S), .bool S.down, .int .i64 (S.ops : Int)] 45) = w4 := ⟨_, rfl⟩
  have hb4 : Below w3.heap.size w3 w4 := hw4 ▸ (Below.refl _ _).alloc (Nat.le_refl _) _
  have n4 : w4.heap[w3.heap.size]? = some (.cells #[.slice da S.dur.length dc, .slice wa S.pend.length wc, .int .i64 (limI S), .bool S.down, .int .i64 (S.ops : Int)] 45 (0, 0)) := by rw [← hw4]; exact heap_alloc_new w3 _
  have hs4 : w4.heap.size = w3.heap.size + 1 := by rw [← hw4, World.size_alloc]
  have HB4 := Lib.hid hb4
  have HN4 := Lib.hid n4
  have HS4 := Lib.hid hs4
  clear hD hR hFG hF hG hb3 hbW1 hb13 hb4 n4 hs4 hD' hR' hok hS hbdS hlenS
  go_wp2_with fail
  clear hw4
  rcases flush_cases S with hfc | ⟨hfc, hfd, hfp, hfu⟩
  · refine (Flush_any (HD.out.below HB4.out) (by have := HBD.out.pend; omega) (by have := HBD.out.ops; omega) HBD.out.limit).mono ?_
    rw [hfc]
    rintro e w5 ⟨rfl, _, hC5⟩
    have hbf : Below w.heap.size w w5 := (HB.out.trans (HB4.out.mono HB.out.size)).trans (hC5.below (fun k h => HF.out k h.1) (Nat.le_trans HB.out.size HB4.out.size))
    have HBF := Lib.hid hbf
    clear hC5 hbf hfc
    go_wp2_with fail
    go_ret
    exact ⟨rfl, HBF.out⟩
  · refine (Flush_any (HD.out.below HB4.out) (by have := HBD.out.pend; omega) (by have := HBD.out.ops; omega) HBD.out.limit).mono ?_
    rw [hfc]
    rintro e w5 ⟨rfl, hD5, hC5⟩
    have hf2 := HBD.out.flush
    have hlen1 : S.flush.1.dur.length = n := by rw [hfu]; unfold fdur; rw [rdur_length]; exact HLS.out
    have HFL : Hid (S.flush.1.down = false) := Lib.hid hfd
    have HFP : Hid (S.flush.1.pend = []) := Lib.hid hfp
    have HL1 := Lib.hid hlen1
    have HS1B := Lib.hid hf2
    have HD5 := Lib.hid hD5
    have hok1 := hD5.ok
    have HOK1 := Lib.hid hok1
    have HC5 := Lib.hid hC5
    clear hf2 hlen1 hfd hfp hfu hfc hD5 hok1 hC5
    go_wp2_with fail
    refine (Clone_any HD5.out (by rw [HFP.out]; decide)).mono ?_
    rintro e w6 ⟨rfl, hW6, hb6⟩
    have hW6b := hW6.bound
    have HW6 := Lib.hid hW6b
    have HB6 := Lib.hid hb6
    clear hW6 hW6b hb6
    have hmk := HMK.out
    obtain ⟨w7, hw7⟩ : ∃ w7, w6.alloc (.cells (Array.replicate n (Value.bool false)) 4) = w7 := ⟨_, rfl⟩
    have hb7 : Below w6.heap.size w6 w7 := hw7 ▸ (Below.refl _ _).alloc (Nat.le_refl _) _
    have t7 : w7.heap[w6.heap.size]? = some (.cells ((List.replicate n false).map Value.bool).toArray 4 (0, 0)) := by rw [← hw7, heap_alloc_new]; simp
    have hs7 : w7.heap.size = w6.heap.size + 1 := by rw [← hw7, World.size_alloc]
    have hc37 : Chg (fun k => F k ∧ k < w3.heap.size) w3 w7 := (((Chg.of_below HB4.out).trans HC5.out (fun _ h => .inl h)).trans (Chg.of_below (F := fun _ => False) HB6.out) (fun _ h => h.elim)).trans (Chg.of_below (F := fun _ => False) hb7) (fun _ h => h.elim)
    have hs45 : w3.heap.size + 1 ≤ w5.heap.size := by have := HC5.out.size; have := HS4.out; omega
    have n7 : w7.heap[w3.heap.size]? = _ := (hb7.block _ (by have := HB6.out.size; omega)).trans ((HB6.out.block _ (by omega)).trans ((HC5.out.block _ (by have := HS4.out; omega) (by omega)).trans HN4.out))
    have hR7 := HR.out.kept hc37 (fun k h1 h2 => HFG.out k h2.1 h1.1)
    have hD7 := (HD5.out.below HB6.out).below hb7
    have hW7 := HW6.out.below hb7
    have hB7 : Below w.heap.size w w7 := HB.out.trans (hc37.below (fun k h => HF.out k h.1) HB.out.size)
    have hq7 : w.heap.size ≤ w3.heap.size ∧ w3.heap.size + 1 ≤ w5.heap.size ∧ w5.heap.size ≤ w6.heap.size ∧ w7.heap.size = w6.heap.size + 1 := ⟨HB.out.size, hs45, HB6.out.size, hs7⟩
    obtain ⟨c0, c1, c2, c3, c4, cf⟩ := cells5 n7
    have HT7 := Lib.hid t7
    have HN7 := Lib.hid n7
    have HR7 := Lib.hid hR7
    have HD7 := Lib.hid hD7
    have HW7 := Lib.hid hW7
    have HB7 := Lib.hid hB7
    have HQ7 := Lib.hid hq7
    clear hb7 t7 hs7 hc37 hs45 n7 hR7 hD7 hW7 hB7 hq7
    clear HN4 HB4 HS4 HR HD HC5 HD5 HW6 HB6 HB
    go_wp2_with fail
    refine (ref_flush HR7.out HOK.out (by have := HBD.out.pend; omega) (by have := HBD.out.ops; omega) HBD.out.limit).mono ?_
    rintro e w8 ⟨v8, rfl, hR8, hb8⟩
    clear hw7 hmk c0 c1 c2 c3 c4 cf
    obtain ⟨S1, hS1⟩ : ∃ S1, S.flush.1 = S1 := ⟨_, rfl⟩
    rw [hS1] at hR8 HFL HFP HL1 HS1B HD7 HW7 HOK1
    obtain ⟨da, dc, wa, wc, rfl⟩ := hR8.form
    unfold refV
    have hR8b := hR8.bound
    have hq8 := HQ7.out
    have n8 : w8.heap[w3.heap.size]? = _ := (hb8.block _ (by omega)).trans HN7.out
    have t8 : w8.heap[w6.heap.size]? = _ := (hb8.block _ (by omega)).trans HT7.out
    obtain ⟨w9, hw9⟩ : ∃ w9, put5 w8 w3.heap.size (.slice da S1.dur.length dc) (.slice wa S1.pend.length wc) (.int .i64 (limI S1)) (.bool S1.down) (.int .i64 (S1.ops : Int)) = w9 := ⟨_, rfl⟩
    have n9 := put5_heap n8 (.slice da S1.dur.length dc) (.slice wa S1.pend.length wc) (.int .i64 (limI S1)) (.bool S1.down) (.int .i64 (S1.ops : Int))
    have hc9 := put5_chg w8 w3.heap.size (.slice da S1.dur.length dc) (.slice wa S1.pend.length wc) (.int .i64 (limI S1)) (.bool S1.down) (.int .i64 (S1.ops : Int))
    rw [hw9] at n9 hc9
    have hs8 := hb8.size
    have hs9 := hc9.size
    have hD9 := (HD7.out.below hb8).chg hc9 (fun k h e => by omega)
    have hW9 := (HW7.out.below hb8).chg hc9 (fun k h e => by omega)
    have hR9 := hR8b.kept hc9 (fun k h e => by have := h.1; omega)
    have t9 : w9.heap[w6.heap.size]? = _ := (hc9.block _ (by omega) (by omega)).trans t8
    have hB9 : Below w.heap.size w w9 := HB7.out.trans ((hb8.mono (by omega)).trans (hc9.below (fun k e => by omega) (by omega)))
    have hFG9 : ∀ k, (F k ∧ k < w3.heap.size) → ¬ (((G k ∧ k < w3.heap.size) ∨ w7.heap.size ≤ k) ∧ k < w8.heap.size) := fun k h1 h2 => by
      rcases h2.1 with h3 | h3
      · exact HFG.out k h1.1 h3.1
      · omega
    have hF9 : ∀ k, (F k ∧ k < w3.heap.size) → k < w3.heap.size ∧ w.heap.size ≤ k ∨ w9.heap.size ≤ k := fun k h => .inl ⟨h.2, HF.out k h.1⟩
    have hG9 : ∀ k, (((G k ∧ k < w3.heap.size) ∨ w7.heap.size ≤ k) ∧ k < w8.heap.size) → (k < w3.heap.size ∧ w.heap.size ≤ k) ∨ w7.heap.size ≤ k := fun k h => by
      rcases h.1 with h3 | h3
      · exact .inl ⟨h3.2, HG.out k h3.1⟩
      · exact .inr h3
    have hq9 : w.heap.size ≤ w3.heap.size ∧ w3.heap.size + 1 ≤ w5.heap.size ∧ w5.heap.size ≤ w6.heap.size ∧ w7.heap.size = w6.heap.size + 1 ∧ w7.heap.size ≤ w9.heap.size := ⟨hq8.1, hq8.2.1, hq8.2.2.1, hq8.2.2.2, by omega⟩
    have hcy : ∀ wr, Below w.heap.size w wr → BytesAt wr (fun k => k < w.heap.size) (.slice ca cs.length cc) cs := fun wr hb => HCV.out.kept (G := fun k => w.heap.size ≤ k) ⟨hb.os, hb.tape, hb.output, hb.size, fun k hk hf => hb.block k (by omega)⟩ (fun k hk hf => by omega)
    obtain ⟨c0, c1, c2, c3, c4, cf⟩ := cells5 n8
    have HN9 := Lib.hid n9
    have HD9 := Lib.hid hD9
    have HR9 := Lib.hid hR9
    have HW9 := Lib.hid hW9
    have HT9 := Lib.hid t9
    have HB9 := Lib.hid hB9
    have HFG9 := Lib.hid hFG9
    have HF9 := Lib.hid hF9
    have HG9 := Lib.hid hG9
    have HQ := Lib.hid hq9
    have HCY := Lib.hid hcy
    clear hR8 hR8b hq8 n8 t8 n9 hc9 hs8 hs9 hD9 hW9 hR9 t9 hB9 hFG9 hF9 hG9 hq9 hb8 hS1 hcy
    clear HN7 HT7 HR7 HD7 HW7 HB7 HQ7
    unfold put5 at hw9
    go_wp2_with fail
    clear hw9 c0 c1 c2 c3 c4 cf
    go_loopw [13] (fun i wr => ∃ (k : Nat) (F G : Nat → Prop) (da wa : Option Addr) (dc wc : Nat) (T : List Bool), k ≤ la'.length ∧ i = .int .i64 (k : Int) ∧ wr.heap[w3.heap.size]? = some (.cells #[.slice da (afterDS S1 (la'.take k)).dur.length dc, .slice wa (afterDS S1 (la'.take k)).pend.length wc, .int .i64 (limI (afterDS S1 (la'.take k))), .bool (afterDS S1 (la'.take k)).down, .int .i64 ((afterDS S1 (la'.take k)).ops : Int)] 45 (0, 0)) ∧
        DiskAt wr F b (afterDS S1 (la'.take k)) ∧ RefAt wr G (afterDS S1 (la'.take k)) (refV (afterDS S1 (la'.take k)) (.slice da (afterDS S1 (la'.take k)).dur.length dc) (.slice wa (afterDS S1 (la'.take k)).pend.length wc)) ∧
        (∀ k, F k → ¬ G k) ∧ (∀ k, F k → k < w3.heap.size ∧ w.heap.size ≤ k ∨ w9.heap.size ≤ k) ∧ (∀ k, G k → (k < w3.heap.size ∧ w.heap.size ≤ k) ∨ w7.heap.size ≤ k) ∧ DiskAt wr (fun k => w5.heap.size ≤ k ∧ k < w6.heap.size) w5.heap.size S1 ∧
        wr.heap[w6.heap.size]? = some (.cells (T.map Value.bool).toArray 4 (0, 0)) ∧ T.length = n ∧ (∀ i : Nat, T.getD i false = false → i < n → ∀ m, ∀ hm : m < la'.length, m < k → la'[m].s ≠ (i : Int)) ∧ w9.heap.size ≤ wr.heap.size ∧ Below w.heap.size w wr)
      (fun i _ => la'.length - (intOf i).toNat)
    case atStart =>
      exact ⟨0, _, _, da, wa, dc, wc, List.replicate n false, Nat.zero_le _, rfl, HN9.out, HD9.out, HR9.out, HFG9.out, HF9.out, HG9.out, HW9.out, HT9.out, by simp, fun i _ _ m _ h => by omega, Nat.le_refl _, HB9.out⟩
    case round =>
      clear HN9 HD9 HR9 HW9 HT9 HFG9 HF9 HG9 HFG HF HG
      obtain ⟨k, F, G, da, wa, dc, wc, T, hk, rfl, hn, hD, hR, hFG, hF, hG, hW, hT, hTl, hTi, hs9, hB⟩ := hrel
      have HN := Lib.hid hn
      have HD := Lib.hid hD
      have HR := Lib.hid hR
      have HFG := Lib.hid hFG
      have HF := Lib.hid hF
      have HG := Lib.hid hG
      have HWAS := Lib.hid hW
      have HT := Lib.hid hT
      have HTL := Lib.hid hTl
      have HTI := Lib.hid hTi
      have HS9 := Lib.hid hs9
      have HB := Lib.hid hB
      clear hn hD hR hFG hF hG hW hT hTl hTi hs9 hB
      by_cases hlt : k < la'.length
      · obtain ⟨g, off, rfl, hCg, hgl, hat⟩ := HOPS2.out (by intro e; rw [e] at hlt; simp at hlt)
        obtain ⟨ov, hra, hby⟩ := hat k hlt
        obtain ⟨o, ho⟩ : ∃ o, la'[k] = o := ⟨_, rfl⟩
        rw [ho] at hra hby
        obtain ⟨oa, oc, rfl, _⟩ := id hby
        obtain ⟨r0, r1, r2, r3, r4, r5⟩ := range6 (w := wr) (g := g) (o := off + k * 6) (fun j u hu => (HB.out.cell (p := ⟨g, off + k * 6 + j, none⟩) hgl).trans (hra j u hu))
        have hby' := hby.kept (G := fun k => w.heap.size ≤ k) (w' := wr) ⟨HB.out.os, HB.out.tape, HB.out.output, HB.out.size, fun i hi hf => HB.out.block i (by omega)⟩ (fun k hc h => by omega)
        have HOE := Lib.hid ho
        have HBY := Lib.hid hby'
        clear hat hra hby hby' ho hCg hgl
        obtain ⟨wra, hwa⟩ : ∃ wra, wr.alloc (.cells #[.int .i64 o.kind, .int .i64 o.s, .int .i64 o.a, .int .u8 (o.f.toNat : Int), .int .u8 (o.t.toNat : Int), .slice oa o.cs.length oc] 61) = wra := ⟨_, rfl⟩
        have hal : Below wr.heap.size wr wra := hwa ▸ (Below.refl _ _).alloc (Nat.le_refl _) _
        have hoa : wra.heap[wr.heap.size]? = some (.cells #[.int .i64 o.kind, .int .i64 o.s, .int .i64 o.a, .int .u8 (o.f.toNat : Int), .int .u8 (o.t.toNat : Int), .slice oa o.cs.length oc] 61 (0, 0)) := by rw [← hwa]; exact heap_alloc_new wr _
        have hta : wra.heap[w6.heap.size]? = _ := (hal.block _ (Array.getElem?_eq_some_iff.1 HT.out).1).trans HT.out
        obtain ⟨p0, p1, p2, p3, p4, p5, pf⟩ := cells6 hoa
        by_cases hin : 0 ≤ o.s ∧ o.s < (n : Int)
        · obtain ⟨hin0, hin1⟩ := hin
          have hsl : o.s.toNat < T.length := by rw [HTL.out]; omega
          have tc : wra.cell? ⟨w6.heap.size, o.s.toNat, none⟩ = some (.bool T[o.s.toNat]) := by rw [cell_of_row wra _ _ _ _ _ hta]; simp [hsl]
          have tf : wra.frozen? ⟨w6.heap.size, o.s.toNat, none⟩ = false := frozen_of_row wra _ _ _ _ hta
          have hti2 := tinv_set HTL.out HTI.out hlt (by rw [HOE.out]; exact hin0)
          rw [HOE.out] at hti2
          have HTI2 := Lib.hid hti2
          have htl2 : (T.set o.s.toNat true).length = n := by rw [List.length_set]; exact HTL.out
          have HTL2 := Lib.hid htl2
          clear hti2 htl2
          obtain ⟨wb, hwb⟩ : ∃ wb, wra.setCell ⟨w6.heap.size, o.s.toNat, none⟩ (.bool true) = wb := ⟨_, rfl⟩
          have hcb : Chg (fun k => k = w6.heap.size) wr wb := hwb ▸ (Chg.of_below hal).trans (Chg.setCell (F := fun k => k = w6.heap.size) wra _ rfl) (fun _ h => .inl h)
          have hob : wb.heap[wr.heap.size]? = some (.cells #[.int .i64 o.kind, .int .i64 o.s, .int .i64 o.a, .int .u8 (o.f.toNat : Int), .int .u8 (o.t.toNat : Int), .slice oa o.cs.length oc] 61 (0, 0)) := by
            rw [← hwb]; exact (heap_setCell_other wra ⟨w6.heap.size, o.s.toNat, none⟩ _ _ (by show wr.heap.size ≠ w6.heap.size; have := (Array.getElem?_eq_some_iff.1 HT.out).1; omega)).trans hoa
          have htb : wb.heap[w6.heap.size]? = some (.cells ((T.set o.s.toNat true).map Value.bool).toArray 4 (0, 0)) := by
            rw [← hwb, heap_setCell_same _ _ _ _ _ _ hta]; simp [List.map_set]
          clear hta hoa hal
          have hDb := HD.out.chg hcb (fun k h e => by have := HF.out k h; have := HQ.out; omega)
          have hRb := HR.out.kept hcb (fun k h e => by have := HG.out k h; have := HQ.out; omega)
          have hWb := HWAS.out.chg hcb (fun k h e => by have := HQ.out; have := h.1; have := h.2; omega)
          have nb := (hcb.block _ (Array.getElem?_eq_some_iff.1 HN.out).1 (by have := HQ.out; omega)).trans HN.out
          have hBb := HB.out.trans (hcb.below (fun k e => by have := HQ.out; omega) HB.out.size)
          have hbyb := HBY.out.kept hcb (fun k hk e => by have := HQ.out; omega)
          have hszb := hcb.size
          have HDB := Lib.hid hDb
          have HRB := Lib.hid hRb
          have HWB := Lib.hid hWb
          have HNB := Lib.hid nb
          have HBB := Lib.hid hBb
          have HBYB := Lib.hid hbyb
          have HOB := Lib.hid hob
          have HTB := Lib.hid htb
          have HSZB := Lib.hid hszb
          obtain ⟨c0, c1, c2, c3, c4, cf⟩ := cells5 nb
          obtain ⟨o0, o1, o2, o3, o4, o5, of⟩ := cells6 hob
          clear hDb hRb hWb nb hBb hbyb hob htb hcb hszb
          go_wp2_with fail
          have hbd := afterDS_bnd HS1B.out la' HA.out k hk
          refine (Do_any o HDB.out HRB.out HBYB.out HFG.out (fun k h hc => by have := HF.out k h; have := HQ.out; omega) (by have := hbd.pend; omega) (by have := hbd.ops; omega) hbd.limit (HCL.out o (by rw [← HOE.out]; exact List.getElem_mem _))).mono ?_
          rintro e w5 ⟨v5, F5, G5, rfl, hD5, hR5, hFG5, hF5, hG5, hC5⟩
          have hst := afterDS_succ S1 la' k hlt
          rw [HOE.out] at hst
          rw [← hst] at hD5 hR5
          obtain ⟨da5, dc5, wa5, wc5, rfl⟩ := hR5.form
          have hq := HQ.out
          have hsb := HSZB.out
          have n5 : w5.heap[w3.heap.size]? = _ := (hC5.block _ (Array.getElem?_eq_some_iff.1 HNB.out).1 (fun h => by have := HF.out _ h; omega)).trans HNB.out
          have t5 : w5.heap[w6.heap.size]? = _ := (hC5.block _ (Array.getElem?_eq_some_iff.1 HTB.out).1 (fun h => by have := HF.out _ h; omega)).trans HTB.out
          have hW5 := HWB.out.chg hC5 (fun k h1 h2 => by have := HF.out k h2; have := h1.1; have := h1.2; omega)
          have hB9w : w9.heap.size ≤ wb.heap.size := Nat.le_trans HS9.out hsb
          have hF5' : ∀ k, F5 k → k < w3.heap.size ∧ w.heap.size ≤ k ∨ w9.heap.size ≤ k := fun k h => (hF5 k h).elim (HF.out k) (fun h => .inr (by omega))
          have hG5' : ∀ k, G5 k → (k < w3.heap.size ∧ w.heap.size ≤ k) ∨ w7.heap.size ≤ k := fun k h => (hG5 k h).elim (HG.out k) (fun h => .inr (by omega))
          have hB5 : Below w.heap.size w w5 := HBB.out.trans (hC5.below (fun k h => by have := HF.out k h; omega) HBB.out.size)
          obtain ⟨w6', hw6⟩ : ∃ w6', put5 w5 w3.heap.size (.slice da5 (afterDS S1 (la'.take (k + 1))).dur.length dc5) (.slice wa5 (afterDS S1 (la'.take (k + 1))).pend.length wc5) (.int .i64 (limI (afterDS S1 (la'.take (k + 1))))) (.bool (afterDS S1 (la'.take (k + 1))).down) (.int .i64 ((afterDS S1 (la'.take (k + 1))).ops : Int)) = w6' := ⟨_, rfl⟩
          have n6 := put5_heap n5 (.slice da5 (afterDS S1 (la'.take (k + 1))).dur.length dc5) (.slice wa5 (afterDS S1 (la'.take (k + 1))).pend.length wc5) (.int .i64 (limI (afterDS S1 (la'.take (k + 1))))) (.bool (afterDS S1 (la'.take (k + 1))).down) (.int .i64 ((afterDS S1 (la'.take (k + 1))).ops : Int))
          have hc6 := put5_chg w5 w3.heap.size (.slice da5 (afterDS S1 (la'.take (k + 1))).dur.length dc5) (.slice wa5 (afterDS S1 (la'.take (k + 1))).pend.length wc5) (.int .i64 (limI (afterDS S1 (la'.take (k + 1))))) (.bool (afterDS S1 (la'.take (k + 1))).down) (.int .i64 ((afterDS S1 (la'.take (k + 1))).ops : Int))
          rw [hw6] at n6 hc6
          have hD6 := hD5.chg hc6 (fun k h e => by have := hF5' k h; omega)
          have hR6 := hR5.kept hc6 (fun k h e => by have := hG5' k h; omega)
          have hW6 := hW5.chg hc6 (fun k h e => by have := h.1; omega)
          have t6 : w6'.heap[w6.heap.size]? = _ := (hc6.block _ (Array.getElem?_eq_some_iff.1 t5).1 (by omega)).trans t5
          have hB6 := hB5.trans (hc6.below (fun k e => by omega) hB5.size)
          have hs96 : w9.heap.size ≤ w6'.heap.size := by have := hC5.size; have := hc6.size; omega
          have HN6 := Lib.hid n6
          have HD6 := Lib.hid hD6
          have HR6 := Lib.hid hR6
          have HW6 := Lib.hid hW6
          have HT6 := Lib.hid t6
          have HB6 := Lib.hid hB6
          have HS96 := Lib.hid hs96
          have HFG6 := Lib.hid hFG5
          have HF6 := Lib.hid hF5'
          have HG6 := Lib.hid hG5'
          clear c0 c1 c2 c3 c4 cf o0 o1 o2 o3 o4 o5 of
          obtain ⟨c0, c1, c2, c3, c4, cf⟩ := cells5 n5
          unfold put5 at hw6
          unfold refV
          clear hD5 hR5 hFG5 hF5 hG5 hC5 n5 t5 hF5' hG5' hB5 n6 hc6 hD6 hR6 hW5 hW6 t6 hB6 hst hbd hq hsb hB9w hs96
          go_wp2_with fail
          go_roundw
          case rel => exact ⟨k + 1, F5, G5, da5, wa5, dc5, wc5, (T.set o.s.toNat true), by omega, by go_num, HN6.out, HD6.out, HR6.out, HFG6.out, HF6.out, HG6.out, HW6.out, HT6.out, HTL2.out, HTI2.out, HS96.out, HB6.out⟩
          case measure => simp [intOf]; omega
        · have hti2 := tinv_skip HTI.out hlt (by rw [HOE.out]; exact hin)
          have HTI2 := Lib.hid hti2
          clear hti2
          by_cases hin0 : 0 ≤ o.s
          · have hin1 : (n : Int) ≤ o.s := by omega
            clear hin
            obtain ⟨wb, hwb⟩ : ∃ wb, wra = wb := ⟨_, rfl⟩
            have hcb : Chg (fun k => k = w6.heap.size) wr wb := hwb ▸ Chg.of_below hal
            have hob : wb.heap[wr.heap.size]? = some (.cells #[.int .i64 o.kind, .int .i64 o.s, .int .i64 o.a, .int .u8 (o.f.toNat : Int), .int .u8 (o.t.toNat : Int), .slice oa o.cs.length oc] 61 (0, 0)) := hwb ▸ hoa
            have htb : wb.heap[w6.heap.size]? = some (.cells (T.map Value.bool).toArray 4 (0, 0)) := hwb ▸ hta
            clear hta hoa hal
            have hDb := HD.out.chg hcb (fun k h e => by have := HF.out k h; have := HQ.out; omega)
            have hRb := HR.out.kept hcb (fun k h e => by have := HG.out k h; have := HQ.out; omega)
            have hWb := HWAS.out.chg hcb (fun k h e => by have := HQ.out; have := h.1; have := h.2; omega)
            have nb := (hcb.block _ (Array.getElem?_eq_some_iff.1 HN.out).1 (by have := HQ.out; omega)).trans HN.out
            have hBb := HB.out.trans (hcb.below (fun k e => by have := HQ.out; omega) HB.out.size)
            have hbyb := HBY.out.kept hcb (fun k hk e => by have := HQ.out; omega)
            have hszb := hcb.size
            have HDB := Lib.hid hDb
            have HRB := Lib.hid hRb
            have HWB := Lib.hid hWb
            have HNB := Lib.hid nb
            have HBB := Lib.hid hBb
            have HBYB := Lib.hid hbyb
            have HOB := Lib.hid hob
            have HTB := Lib.hid htb
            have HSZB := Lib.hid hszb
            obtain ⟨c0, c1, c2, c3, c4, cf⟩ := cells5 nb
            obtain ⟨o0, o1, o2, o3, o4, o5, of⟩ := cells6 hob
            clear hDb hRb hWb nb hBb hbyb hob htb hcb hszb
            go_wp2_with fail
            have hbd := afterDS_bnd HS1B.out la' HA.out k hk
            refine (Do_any o HDB.out HRB.out HBYB.out HFG.out (fun k h hc => by have := HF.out k h; have := HQ.out; omega) (by have := hbd.pend; omega) (by have := hbd.ops; omega) hbd.limit (HCL.out o (by rw [← HOE.out]; exact List.getElem_mem _))).mono ?_
            rintro e w5 ⟨v5, F5, G5, rfl, hD5, hR5, hFG5, hF5, hG5, hC5⟩
            have hst := afterDS_succ S1 la' k hlt
            rw [HOE.out] at hst
            rw [← hst] at hD5 hR5
            obtain ⟨da5, dc5, wa5, wc5, rfl⟩ := hR5.form
            have hq := HQ.out
            have hsb := HSZB.out
            have n5 : w5.heap[w3.heap.size]? = _ := (hC5.block _ (Array.getElem?_eq_some_iff.1 HNB.out).1 (fun h => by have := HF.out _ h; omega)).trans HNB.out
            have t5 : w5.heap[w6.heap.size]? = _ := (hC5.block _ (Array.getElem?_eq_some_iff.1 HTB.out).1 (fun h => by have := HF.out _ h; omega)).trans HTB.out
            have hW5 := HWB.out.chg hC5 (fun k h1 h2 => by have := HF.out k h2; have := h1.1; have := h1.2; omega)
            have hB9w : w9.heap.size ≤ wb.heap.size := Nat.le_trans HS9.out hsb
            have hF5' : ∀ k, F5 k → k < w3.heap.size ∧ w.heap.size ≤ k ∨ w9.heap.size ≤ k := fun k h => (hF5 k h).elim (HF.out k) (fun h => .inr (by omega))
            have hG5' : ∀ k, G5 k → (k < w3.heap.size ∧ w.heap.size ≤ k) ∨ w7.heap.size ≤ k := fun k h => (hG5 k h).elim (HG.out k) (fun h => .inr (by omega))
            have hB5 : Below w.heap.size w w5 := HBB.out.trans (hC5.below (fun k h => by have := HF.out k h; omega) HBB.out.size)
            obtain ⟨w6', hw6⟩ : ∃ w6', put5 w5 w3.heap.size (.slice da5 (afterDS S1 (la'.take (k + 1))).dur.length dc5) (.slice wa5 (afterDS S1 (la'.take (k + 1))).pend.length wc5) (.int .i64 (limI (afterDS S1 (la'.take (k + 1))))) (.bool (afterDS S1 (la'.take (k + 1))).down) (.int .i64 ((afterDS S1 (la'.take (k + 1))).ops : Int)) = w6' := ⟨_, rfl⟩
            have n6 := put5_heap n5 (.slice da5 (afterDS S1 (la'.take (k + 1))).dur.length dc5) (.slice wa5 (afterDS S1 (la'.take (k + 1))).pend.length wc5) (.int .i64 (limI (afterDS S1 (la'.take (k + 1))))) (.bool (afterDS S1 (la'.take (k + 1))).down) (.int .i64 ((afterDS S1 (la'.take (k + 1))).ops : Int))
            have hc6 := put5_chg w5 w3.heap.size (.slice da5 (afterDS S1 (la'.take (k + 1))).dur.length dc5) (.slice wa5 (afterDS S1 (la'.take (k + 1))).pend.length wc5) (.int .i64 (limI (afterDS S1 (la'.take (k + 1))))) (.bool (afterDS S1 (la'.take (k + 1))).down) (.int .i64 ((afterDS S1 (la'.take (k + 1))).ops : Int))
            rw [hw6] at n6 hc6
            have hD6 := hD5.chg hc6 (fun k h e => by have := hF5' k h; omega)
            have hR6 := hR5.kept hc6 (fun k h e => by have := hG5' k h; omega)
            have hW6 := hW5.chg hc6 (fun k h e => by have := h.1; omega)
            have t6 : w6'.heap[w6.heap.size]? = _ := (hc6.block _ (Array.getElem?_eq_some_iff.1 t5).1 (by omega)).trans t5
            have hB6 := hB5.trans (hc6.below (fun k e => by omega) hB5.size)
            have hs96 : w9.heap.size ≤ w6'.heap.size := by have := hC5.size; have := hc6.size; omega
            have HN6 := Lib.hid n6
            have HD6 := Lib.hid hD6
            have HR6 := Lib.hid hR6
            have HW6 := Lib.hid hW6
            have HT6 := Lib.hid t6
            have HB6 := Lib.hid hB6
            have HS96 := Lib.hid hs96
            have HFG6 := Lib.hid hFG5
            have HF6 := Lib.hid hF5'
            have HG6 := Lib.hid hG5'
            clear c0 c1 c2 c3 c4 cf o0 o1 o2 o3 o4 o5 of
            obtain ⟨c0, c1, c2, c3, c4, cf⟩ := cells5 n5
            unfold put5 at hw6
            unfold refV
            clear hD5 hR5 hFG5 hF5 hG5 hC5 n5 t5 hF5' hG5' hB5 n6 hc6 hD6 hR6 hW5 hW6 t6 hB6 hst hbd hq hsb hB9w hs96
            go_wp2_with fail
            go_roundw
            case rel => exact ⟨k + 1, F5, G5, da5, wa5, dc5, wc5, T, by omega, by go_num, HN6.out, HD6.out, HR6.out, HFG6.out, HF6.out, HG6.out, HW6.out, HT6.out, HTL.out, HTI2.out, HS96.out, HB6.out⟩
            case measure => simp [intOf]; omega
          · have hin1 : o.s < 0 := by omega
            clear hin
            obtain ⟨wb, hwb⟩ : ∃ wb, wra = wb := ⟨_, rfl⟩
            have hcb : Chg (fun k => k = w6.heap.size) wr wb := hwb ▸ Chg.of_below hal
            have hob : wb.heap[wr.heap.size]? = some (.cells #[.int .i64 o.kind, .int .i64 o.s, .int .i64 o.a, .int .u8 (o.f.toNat : Int), .int .u8 (o.t.toNat : Int), .slice oa o.cs.length oc] 61 (0, 0)) := hwb ▸ hoa
            have htb : wb.heap[w6.heap.size]? = some (.cells (T.map Value.bool).toArray 4 (0, 0)) := hwb ▸ hta
            clear hta hoa hal
            have hDb := HD.out.chg hcb (fun k h e => by have := HF.out k h; have := HQ.out; omega)
            have hRb := HR.out.kept hcb (fun k h e => by have := HG.out k h; have := HQ.out; omega)
            have hWb := HWAS.out.chg hcb (fun k h e => by have := HQ.out; have := h.1; have := h.2; omega)
            have nb := (hcb.block _ (Array.getElem?_eq_some_iff.1 HN.out).1 (by have := HQ.out; omega)).trans HN.out
            have hBb := HB.out.trans (hcb.below (fun k e => by have := HQ.out; omega) HB.out.size)
            have hbyb := HBY.out.kept hcb (fun k hk e => by have := HQ.out; omega)
            have hszb := hcb.size
            have HDB := Lib.hid hDb
            have HRB := Lib.hid hRb
            have HWB := Lib.hid hWb
            have HNB := Lib.hid nb
            have HBB := Lib.hid hBb
            have HBYB := Lib.hid hbyb
            have HOB := Lib.hid hob
            have HTB := Lib.hid htb
            have HSZB := Lib.hid hszb
            obtain ⟨c0, c1, c2, c3, c4, cf⟩ := cells5 nb
            obtain ⟨o0, o1, o2, o3, o4, o5, of⟩ := cells6 hob
            clear hDb hRb hWb nb hBb hbyb hob htb hcb hszb
            go_wp2_with fail
            have hbd := afterDS_bnd HS1B.out la' HA.out k hk
            refine (Do_any o HDB.out HRB.out HBYB.out HFG.out (fun k h hc => by have := HF.out k h; have := HQ.out; omega) (by have := hbd.pend; omega) (by have := hbd.ops; omega) hbd.limit (HCL.out o (by rw [← HOE.out]; exact List.getElem_mem _))).mono ?_
            rintro e w5 ⟨v5, F5, G5, rfl, hD5, hR5, hFG5, hF5, hG5, hC5⟩
            have hst := afterDS_succ S1 la' k hlt
            rw [HOE.out] at hst
            rw [← hst] at hD5 hR5
            obtain ⟨da5, dc5, wa5, wc5, rfl⟩ := hR5.form
            have hq := HQ.out
            have hsb := HSZB.out
            have n5 : w5.heap[w3.heap.size]? = _ := (hC5.block _ (Array.getElem?_eq_some_iff.1 HNB.out).1 (fun h => by have := HF.out _ h; omega)).trans HNB.out
            have t5 : w5.heap[w6.heap.size]? = _ := (hC5.block _ (Array.getElem?_eq_some_iff.1 HTB.out).1 (fun h => by have := HF.out _ h; omega)).trans HTB.out
            have hW5 := HWB.out.chg hC5 (fun k h1 h2 => by have := HF.out k h2; have := h1.1; have := h1.2; omega)
            have hB9w : w9.heap.size ≤ wb.heap.size := Nat.le_trans HS9.out hsb
            have hF5' : ∀ k, F5 k → k < w3.heap.size ∧ w.heap.size ≤ k ∨ w9.heap.size ≤ k := fun k h => (hF5 k h).elim (HF.out k) (fun h => .inr (by omega))
            have hG5' : ∀ k, G5 k → (k < w3.heap.size ∧ w.heap.size ≤ k) ∨ w7.heap.size ≤ k := fun k h => (hG5 k h).elim (HG.out k) (fun h => .inr (by omega))
            have hB5 : Below w.heap.size w w5 := HBB.out.trans (hC5.below (fun k h => by have := HF.out k h; omega) HBB.out.size)
            obtain ⟨w6', hw6⟩ : ∃ w6', put5 w5 w3.heap.size (.slice da5 (afterDS S1 (la'.take (k + 1))).dur.length dc5) (.slice wa5 (afterDS S1 (la'.take (k + 1))).pend.length wc5) (.int .i64 (limI (afterDS S1 (la'.take (k + 1))))) (.bool (afterDS S1 (la'.take (k + 1))).down) (.int .i64 ((afterDS S1 (la'.take (k + 1))).ops : Int)) = w6' := ⟨_, rfl⟩
            have n6 := put5_heap n5 (.slice da5 (afterDS S1 (la'.take (k + 1))).dur.length dc5) (.slice wa5 (afterDS S1 (la'.take (k + 1))).pend.length wc5) (.int .i64 (limI (afterDS S1 (la'.take (k + 1))))) (.bool (afterDS S1 (la'.take (k + 1))).down) (.int .i64 ((afterDS S1 (la'.take (k + 1))).ops : Int))
            have hc6 := put5_chg w5 w3.heap.size (.slice da5 (afterDS S1 (la'.take (k + 1))).dur.length dc5) (.slice wa5 (afterDS S1 (la'.take (k + 1))).pend.length wc5) (.int .i64 (limI (afterDS S1 (la'.take (k + 1))))) (.bool (afterDS S1 (la'.take (k + 1))).down) (.int .i64 ((afterDS S1 (la'.take (k + 1))).ops : Int))
            rw [hw6] at n6 hc6
            have hD6 := hD5.chg hc6 (fun k h e => by have := hF5' k h; omega)
            have hR6 := hR5.kept hc6 (fun k h e => by have := hG5' k h; omega)
            have hW6 := hW5.chg hc6 (fun k h e => by have := h.1; omega)
            have t6 : w6'.heap[w6.heap.size]? = _ := (hc6.block _ (Array.getElem?_eq_some_iff.1 t5).1 (by omega)).trans t5
            have hB6 := hB5.trans (hc6.below (fun k e => by omega) hB5.size)
            have hs96 : w9.heap.size ≤ w6'.heap.size := by have := hC5.size; have := hc6.size; omega
            have HN6 := Lib.hid n6
            have HD6 := Lib.hid hD6
            have HR6 := Lib.hid hR6
            have HW6 := Lib.hid hW6
            have HT6 := Lib.hid t6
            have HB6 := Lib.hid hB6
            have HS96 := Lib.hid hs96
            have HFG6 := Lib.hid hFG5
            have HF6 := Lib.hid hF5'
            have HG6 := Lib.hid hG5'
            clear c0 c1 c2 c3 c4 cf o0 o1 o2 o3 o4 o5 of
            obtain ⟨c0, c1, c2, c3, c4, cf⟩ := cells5 n5
            unfold put5 at hw6
            unfold refV
            clear hD5 hR5 hFG5 hF5 hG5 hC5 n5 t5 hF5' hG5' hB5 n6 hc6 hD6 hR6 hW5 hW6 t6 hB6 hst hbd hq hsb hB9w hs96
            go_wp2_with fail
            go_roundw
            case rel => exact ⟨k + 1, F5, G5, da5, wa5, dc5, wc5, T, by omega, by go_num, HN6.out, HD6.out, HR6.out, HFG6.out, HF6.out, HG6.out, HW6.out, HT6.out, HTL.out, HTI2.out, HS96.out, HB6.out⟩
            case measure => simp [intOf]; omega
      · obtain rfl : k = la'.length := by omega
        have hDe := HD.out
        rw [List.take_length] at hDe
        have hlm := afterDS_len S1 la' la'.length (Nat.le_refl _)
        have hbm := (afterDS_bnd HS1B.out la' HA.out la'.length (Nat.le_refl _)).pend
        rw [List.take_length] at hlm hbm
        have hun : ∀ i : Nat, i < n → T.getD i false = false → Unt i (S1.visible i) (afterDS S1 la') := fun i hi hf => by
          have h0 : Unt i (S1.visible i) S1 := ⟨by simp [DS.visible, visP, HFP.out], by rw [HFP.out]; simp⟩
          have := unt_after h0 la' la'.length (Nat.le_refl _) (fun m hm hml => HTI.out i hf hi m hm hml)
          rwa [List.take_length] at this
        obtain ⟨Sm, hSm⟩ : ∃ Sm, afterDS S1 la' = Sm := ⟨_, rfl⟩
        rw [hSm] at hDe hlm hbm hun
        have hokm := hDe.ok
        rw [HL1.out] at hlm
        have HDE := Lib.hid hDe
        have HUN := Lib.hid hun
        have HLM := Lib.hid hlm
        have HBM := Lib.hid hbm
        have HOKM := Lib.hid hokm
        clear hDe hlm hbm hun hSm hokm
        go_wp2_with fail
        refine (Fail_any HDE.out).mono ?_
        rintro e wy ⟨rfl, hDy, hCy⟩
        have hq := HQ.out
        have hs9 := HS9.out
        have hWy := HWAS.out.chg hCy (fun k h1 h2 => by have := HF.out k h2; have := h1.1; have := h1.2; omega)
        have ty : wy.heap[w6.heap.size]? = _ := (hCy.block _ (by omega) (fun h => by have := HF.out _ h; omega)).trans HT.out
        have hBy : Below w.heap.size w wy := HB.out.trans (hCy.below (fun k h => by have := HF.out k h; omega) HB.out.size)
        have hcvy := HCY.out wy hBy
        have hsy := hCy.size
        have HDY := Lib.hid hDy
        have HWY := Lib.hid hWy
        have HTY := Lib.hid ty
        have HBYY := Lib.hid hBy
        have HCVY := Lib.hid hcvy
        have HSY := Lib.hid hsy
        clear hDy hCy hWy ty hBy hcvy hq hs9 hsy
        go_wp2_with fail
        refine (Restart_any _ cs HDY.out HCVY.out (fun k h1 h2 => by have := HF.out k h1; have := HQ.out; omega) (by show Sm.pend.length < _; have := HBM.out; omega) (by omega)).mono ?_
        rw [restart_down]
        rintro e wx ⟨rfl, hDx, hCx⟩
        have hq := HQ.out
        have hs9 := HS9.out
        have hsy := HSY.out
        have hWx := HWY.out.chg hCx (fun k h1 h2 => by have := HF.out k h2; have := h1.1; have := h1.2; omega)
        have tx : wx.heap[w6.heap.size]? = _ := (hCx.block _ (by omega) (fun h => by have := HF.out _ h; omega)).trans HTY.out
        have hBx : Below w.heap.size w wx := HBYY.out.trans (hCx.below (fun k h => by have := HF.out k h; omega) HBYY.out.size)
        have hxl : w6.heap.size < wx.heap.size := (Array.getElem?_eq_some_iff.1 tx).1
        have HDX := Lib.hid hDx
        have HWX := Lib.hid hWx
        have HTX := Lib.hid tx
        have HBX := Lib.hid hBx
        have HXL := Lib.hid hxl
        clear hDx hCx hWx tx hBx hq hs9 hsy hxl
        clear HN HD HR HWAS HT HB HDE HDY HWY HTY HBYY HCVY HSY HTI
        go_wp2_with fail
        go_loopw [15] (fun i wr => ∃ k : Nat, k ≤ n ∧ i = .int .i64 (k : Int) ∧ Below wx.heap.size wx wr) (fun i _ => n - (intOf i).toNat)
        case atStart => exact ⟨0, Nat.zero_le _, rfl, Below.refl _ _⟩
        case round =>
          obtain ⟨k, hk2, rfl, hB⟩ := hrel
          have HBr := Lib.hid hB
          clear hB
          by_cases hltn : k < n
          · have hra := back_read Sm cs k (by rw [HLM.out]; exact hltn)
            obtain ⟨RB, hRB⟩ : ∃ RB, (rdur Sm cs Sm.pend.length).getD k zeros = RB := ⟨_, rfl⟩
            rw [hRB] at hra
            have HRBB := Lib.hid hRB
            clear hRB
            have hrw : S1.readE k = 0 ∧ S1.readB k = S1.visible k := by
              have hh : S1.has k = true := by simp [DS.has, HL1.out]; omega
              exact ⟨by simp [DS.readE, hh, HFL.out], by simp [DS.readB, hh, HFL.out]⟩
            have HRA := Lib.hid hra
            have HRW := Lib.hid hrw
            clear hra hrw
            go_wp2_with fail
            refine (Read_at (k : Int) (HWX.out.below HBr.out) (by rw [HFP.out]; decide)).mono ?_
            rw [HRW.out.1, HRW.out.2]
            rintro e wa1 ⟨v1, rfl, hby1, hb1⟩
            obtain ⟨a1, p1, rfl, _⟩ := id hby1
            have HBY1 := Lib.hid hby1
            have hB1 := HBr.out.trans (hb1.mono HBr.out.size)
            have HB1 := Lib.hid hB1
            clear hby1 hb1 hB1
            go_wp2_with fail
            refine (Read_at (k : Int) (HDX.out.below HB1.out) (by show (0 : Nat) < _; decide)).mono ?_
            rw [HRA.out.1, HRA.out.2]
            rintro e wy ⟨v2, rfl, hby2, hb2⟩
            obtain ⟨a2, p2, rfl, _⟩ := id hby2
            have hBy := HB1.out.trans (hb2.mono HB1.out.size)
            have s1 := (HBY1.out.kept (F := fun k => wr.heap.size ≤ k) (G := fun _ => False) (Chg.of_below hb2) (fun _ _ h => h)).str
            have s2 := hby2.str
            have ty : wy.heap[w6.heap.size]? = _ := (hBy.block _ HXL.out).trans HTX.out
            have hkT : k < T.length := by rw [HTL.out]; exact hltn
            have tc : wy.cell? ⟨w6.heap.size, k, none⟩ = some (.bool T[k]) := by rw [cell_of_row wy _ _ _ _ _ ty]; simp [hkT]
            have HBY2 := Lib.hid hBy
            clear hby2 hb2 hBy ty
            cases hf : T[k] with
            | true =>
              rw [hf] at tc
              clear hf
              go_wp2_with fail
              go_roundw
              case rel => exact ⟨k + 1, by omega, by go_num, HBY2.out⟩
              case measure => simp [intOf]; omega
            | false =>
              rw [hf] at tc
              have hu := HUN.out k hltn (by rw [List.getD_eq_getElem?_getD, List.getElem?_eq_getElem hkT]; exact hf)
              have he := rdur_unt hu cs Sm.pend.length
              rw [HRBB.out] at he
              subst he
              clear hf hu
              go_wp2_with fail
              go_roundw
              case rel => exact ⟨k + 1, by omega, by go_num, HBY2.out⟩
              case measure => simp [intOf]; omega
          · obtain rfl : k = n := by omega
            go_wp2_with fail
            refine (Pending_any (HDX.out.below HBr.out) (by show (0 : Nat) < _; decide)).mono ?_
            rintro e wz ⟨pv, rfl, hP, hbz⟩
            obtain ⟨pa, pc, rfl⟩ := hP.len
            have hDz := (HDX.out.below HBr.out).below hbz
            have HDZ := Lib.hid hDz
            have HBZ := Lib.hid (HBr.out.trans (hbz.mono HBr.out.size))
            have e0 : (Sm.back cs).pend.length = 0 := rfl
            rw [e0]
            clear hP hbz hDz e0
            go_wp2_with fail
            refine (Down_any HDZ.out).mono ?_
            have e1 : (Sm.back cs).down = false := rfl
            rw [e1]
            rintro e wz2 ⟨rfl, rfl⟩
            clear e1
            go_wp2_with fail
            go_ret
            exact ⟨rfl, HBX.out.trans (HBZ.out.mono HBX.out.size)⟩

set_option maxHeartbeats 2000000 in
theorem DiskFlushed_any (sd : Nat) (hsd : sd < 256) (l la' : List OpD) (lv lv' cv : Value) (cs : List UInt8) (w : World) (h : OpsAt w (fun k => k < w.heap.size) lv l) (h' : OpsAt w (fun k => k < w.heap.size) lv' la') (hcv : BytesAt w (fun k => k < w.heap.size) cv cs)
    (ha : ∀ o ∈ l, o.a ≤ 9223372036854775807 ∧ o.cs.length ≤ 9223372036854775807) (ha' : ∀ o ∈ la', o.a ≤ 9223372036854775807 ∧ o.cs.length ≤ 9223372036854775807) (hcm : cs.length ≤ 9223372036854775807) :
    Calls Try.prog 8 #[crashV sd lv lv' cv] w fun e w' => e = .returned (.bool true) ∧ Below w.heap.size w w' := by
  by_cases hall : l.length ≤ 40 ∧ la'.length ≤ 40 ∧ cs.length ≤ 100
  · exact DiskFlushed_yes sd hsd l la' lv lv' cv cs w h h' hcv ha ha' hall.1 hall.2.1 hall.2.2
  unfold crashV
  obtain ⟨la, lc, rfl, _⟩ := h
  obtain ⟨lb, lc2, rfl, _⟩ := h'
  obtain ⟨ca, cc, rfl, _⟩ := hcv
  clear ha ha'
  obtain ⟨w0, hw0⟩ : ∃ w0, w.alloc (.cells #[.int .u8 (sd : Int), .slice la l.length lc, .slice lb la'.length lc2, .slice ca cs.length cc] 57) = w0 := ⟨_, rfl⟩
  have hb0 : Below w.heap.size w w0 := hw0 ▸ (Below.refl _ _).alloc (Nat.le_refl _) _
  have n0 : w0.heap[w.heap.size]? = some (.cells #[.int .u8 (sd : Int), .slice la l.length lc, .slice lb la'.length lc2, .slice ca cs.length cc] 57 (0, 0)) := by rw [← hw0]; exact heap_alloc_new w _
  obtain ⟨e0, e1, e2, e3, _⟩ := cells4 n0
  clear n0
  by_cases hl : l.length ≤ 40
  · by_cases hl' : la'.length ≤ 40
    · have hcd : decide (100 < (cs.length : Int)) = true := by simp; omega
      clear hall
      go_enter Try.func8, Try.ntmps8
      go_wp2_with fail
      go_quiet (fail)
      obtain ⟨wq, hwq⟩ : ∃ wq, w0.drewN nq = wq := ⟨_, rfl⟩
      have hbq : Below w.heap.size w wq := hwq ▸ hb0.trans ((Below.drewN' w0 nq _).mono hb0.size)
      rw [hwq]
      have HBQ := Lib.hid hbq
      clear hwq hbq e0 e1 e2 e3 hw0
      go_wp2_with fail
      refine (known_any _).mono ?_
      rintro e w1 ⟨rfl, hb1⟩
      have HB1 := Lib.hid hb1
      clear hb1
      go_wp2_with fail
      refine (small_yes _ _ _ hl).mono ?_
      rintro e w2 ⟨rfl, rfl⟩
      go_wp2_with fail
      refine (small_yes _ _ _ hl').mono ?_
      rintro e w2 ⟨rfl, rfl⟩
      go_wp2_with fail
      refine (known_any _).mono ?_
      rintro e w3 ⟨rfl, hb3⟩
      go_wp2_with fail
      go_ret
      exact ⟨rfl, (HBQ.out.trans (HB1.out.mono HBQ.out.size)).trans (hb3.mono (Nat.le_trans HBQ.out.size HB1.out.size))⟩
    · clear hall
      go_enter Try.func8, Try.ntmps8
      go_wp2_with fail
      go_quiet (fail)
      obtain ⟨wq, hwq⟩ : ∃ wq, w0.drewN nq = wq := ⟨_, rfl⟩
      have hbq : Below w.heap.size w wq := hwq ▸ hb0.trans ((Below.drewN' w0 nq _).mono hb0.size)
      rw [hwq]
      have HBQ := Lib.hid hbq
      clear hwq hbq e0 e1 e2 e3 hw0
      go_wp2_with fail
      refine (known_any _).mono ?_
      rintro e w1 ⟨rfl, hb1⟩
      have HB1 := Lib.hid hb1
      clear hb1
      go_wp2_with fail
      refine (small_yes _ _ _ hl).mono ?_
      rintro e w2 ⟨rfl, rfl⟩
      go_wp2_with fail
      refine (small_no _ _ _ (by omega)).mono ?_
      rintro e w2 ⟨rfl, rfl⟩
      go_wp2_with fail
      refine (known_any _).mono ?_
      rintro e w3 ⟨rfl, hb3⟩
      go_wp2_with fail
      go_ret
      exact ⟨rfl, (HBQ.out.trans (HB1.out.mono HBQ.out.size)).trans (hb3.mono (Nat.le_trans HBQ.out.size HB1.out.size))⟩
  · clear hall
    go_enter Try.func8, Try.ntmps8
    go_wp2_with fail
    go_quiet (fail)
    obtain ⟨wq, hwq⟩ : ∃ wq, w0.drewN nq = wq := ⟨_, rfl⟩
    have hbq : Below w.heap.size w wq := hwq ▸ hb0.trans ((Below.drewN' w0 nq _).mono hb0.size)
    rw [hwq]
    have HBQ := Lib.hid hbq
    clear hwq hbq e0 e1 e2 e3 hw0
    go_wp2_with fail
    refine (known_any _).mono ?_
    rintro e w1 ⟨rfl, hb1⟩
    have HB1 := Lib.hid hb1
    clear hb1
    go_wp2_with fail
    refine (small_no _ _ _ (by omega)).mono ?_
    rintro e w2 ⟨rfl, rfl⟩
    go_wp2_with fail
    refine (known_any _).mono ?_
    rintro e w3 ⟨rfl, hb3⟩
    go_wp2_with fail
    go_ret
    exact ⟨rfl, (HBQ.out.trans (HB1.out.mono HBQ.out.size)).trans (hb3.mono (Nat.le_trans HBQ.out.size HB1.out.size))⟩


end Go.Proofs.Ytkklbmnbjmicnaa
