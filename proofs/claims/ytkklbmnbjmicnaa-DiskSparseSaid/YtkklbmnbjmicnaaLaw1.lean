/- DiskOperations. -/
import Derived.Test.YtkklbmnbjmicnaaView
import Derived.Test.YtkklbmnbjmicnaaArgs2
import Derived.Test.YtkklbmnbjmicnaaDisk8
namespace Go.Proofs.Ytkklbmnbjmicnaa
open Go.RowKit Go.Shelf
set_option linter.unusedVariables false
set_option linter.unusedSimpArgs false

set_option maxHeartbeats 400000 in
theorem small_yes {w : World} (a : Option Addr) (n c : Nat) (h : n ≤ 40) : Calls Try.prog 23 #[.slice a n c] w fun e w' => e = .returned (.bool true) ∧ w = w' := by
  have h' : decide ((n : Int) ≤ 40) = true := by simp; omega
  go_enter Try.func23, Try.ntmps23
  go_wp2
  go_ret
  exact ⟨by first | rfl | simp [h'], rfl⟩
set_option maxHeartbeats 400000 in
theorem small_no {w : World} (a : Option Addr) (n c : Nat) (h : 40 < n) : Calls Try.prog 23 #[.slice a n c] w fun e w' => e = .returned (.bool false) ∧ w = w' := by
  have h' : decide ((n : Int) ≤ 40) = false := by simp; omega
  go_enter Try.func23, Try.ntmps23
  go_wp2
  go_ret
  exact ⟨by first | rfl | simp [h'], rfl⟩

theorem RefAt.durAt {w : World} {G : Nat → Prop} {S : DS} {v : Value} (h : RefAt w G S v) : DurAt w (fun k => G k ∧ k < w.heap.size) (v.cells.getD 0 .nilFunc) S.dur := by
  obtain ⟨dv, wv, rfl, ⟨D, hD, hr, hG, hb⟩, _⟩ := h
  exact ⟨D, hD, hr, fun g e => ⟨hG g e, (ownsRow_lt hr g e).2⟩, fun x hx => (hb x hx).mono' (fun k hk h => ⟨h, hk⟩)⟩

theorem sectors_of (sd : Nat) : ∃ n : Nat, (1 : Int) + (sd : Int) % 12 = (n : Int) ∧ 1 ≤ n ∧ n ≤ 12 := ⟨1 + sd % 12, by omega, by omega, by omega⟩

/-- run on operations that lie in memory as arguments do. -/
theorem run_at {w W : World} (n : Nat) (l : List OpD) (lv : Value) (h1 : 1 ≤ n) (h2 : n ≤ 12) (h : OpsAt W (fun k => k < W.heap.size) lv l) (hb : Below W.heap.size W w) (hl : l.length ≤ 40) (ha : ∀ o ∈ l, o.a ≤ 9223372036854775807 ∧ o.cs.length ≤ 9223372036854775807) :
    Calls Try.prog 24 #[.int .i64 (n : Int), lv] w fun e w' => ∃ b v F G, e = .returned (.tuple #[.pointer (some ⟨b, 0, none⟩), v, .bool true]) ∧ DiskAt w' F b (runDS n l) ∧ RefAt w' G (runDS n l) v ∧
      (∀ k, F k → ¬ G k) ∧ (∀ k, F k → w.heap.size ≤ k) ∧ (∀ k, G k → w.heap.size ≤ k) ∧ Below w.heap.size w w' :=
  run_any n l lv w h1 (by omega) (h.kept (F := fun k => W.heap.size ≤ k) ⟨hb.os, hb.tape, hb.output, hb.size, fun k hk hf => hb.block k (by omega)⟩ (fun k hk hf => by omega)) hl (fun k hk => Nat.lt_of_lt_of_le hk hb.size) (fun o ho => (ha o ho).1) (fun o ho => (ha o ho).2)

set_option maxRecDepth 100000 in
set_option maxHeartbeats 2000000 in
theorem DiskOperations_any (sd : Nat) (hsd : sd < 256) (l : List OpD) (lv : Value) (w : World) (h : OpsAt w (fun k => k < w.heap.size) lv l) (ha : ∀ o ∈ l, o.a ≤ 9223372036854775807 ∧ o.cs.length ≤ 9223372036854775807) :
    Calls Try.prog 7 #[.int .u8 (sd : Int), lv] w fun e w' => e = .returned (.bool true) ∧ Below w.heap.size w w' := by
  have HO := Lib.hid h
  have HA := Lib.hid ha
  obtain ⟨la, lc, rfl, _⟩ := h
  clear ha
  obtain ⟨n, hn, hn1, hn2⟩ := sectors_of sd
  have HN := Lib.hid hn
  clear hn
  by_cases hl : l.length ≤ 40
  · go_enter Try.func7, Try.ntmps7
    go_wp2_with fail
    refine (known_any _).mono ?_
    rintro e w1 ⟨rfl, hb1⟩
    go_wp2_with fail
    refine (small_yes _ _ _ hl).mono ?_
    rintro e w2 ⟨rfl, rfl⟩
    go_wp2_with fail
    rw [HN.out]
    refine (run_at n l _ hn1 hn2 HO.out hb1 hl HA.out).mono ?_
    rintro e w3 ⟨b, v, F, G, rfl, hD, hR, hFG, hF, hG, hb3⟩
    have HD := Lib.hid hD
    have HR := Lib.hid hR
    have hbd := (runDS_bnd n l (fun o ho => (HA.out o ho).1) l.length (Nat.le_refl _)).pend
    rw [List.take_length] at hbd
    have hb13 : Below w.heap.size w w3 := hb1.trans (hb3.mono hb1.size)
    have HB := Lib.hid hb13
    obtain ⟨da, dc, wa, wc, rfl⟩ := hR.form
    unfold refV
    clear hD hR hFG hF hG hb3 hb1 hb13
    go_wp2_with fail
    obtain ⟨w4, hw4⟩ : ∃ w4, w3.alloc (.cells #[.slice da (runDS n l).dur.length dc, .slice wa (runDS n l).pend.length wc, .int .i64 (limI (runDS n l)), .bool (runDS n l).down, .int .i64 ((runDS n l).ops : Int)] 45) = w4 := ⟨_, rfl⟩
    have hb4 : Below w3.heap.size w3 w4 := hw4 ▸ (Below.refl _ _).alloc (Nat.le_refl _) _
    rw [hw4]
    refine (view_any (HD.out.below hb4) (HR.out.below hb4) (by omega)).mono ?_
    rintro e w5 ⟨rfl, hb5⟩
    have hbf := (HB.out.trans (hb4.mono HB.out.size)).trans (hb5.mono (Nat.le_trans HB.out.size hb4.size))
    have HBF := Lib.hid hbf
    clear hb4 hb5 hw4 hbf hbd
    go_wp2_with fail
    go_ret
    exact ⟨rfl, HBF.out⟩
  · go_enter Try.func7, Try.ntmps7
    go_wp2_with fail
    refine (known_any _).mono ?_
    rintro e w1 ⟨rfl, hb1⟩
    go_wp2_with fail
    refine (small_no _ _ _ (by omega)).mono ?_
    rintro e w2 ⟨rfl, rfl⟩
    go_wp2_with fail
    refine (known_any _).mono ?_
    rintro e w3 ⟨rfl, hb3⟩
    go_wp2_with fail
    go_ret
    exact ⟨rfl, hb1.trans (hb3.mono hb1.size)⟩

end Go.Proofs.Ytkklbmnbjmicnaa
