/- The reference: Write. -/
import Derived.Test.YtkklbmnbjmicnaaRef4
namespace Go.Proofs.Ytkklbmnbjmicnaa
open Go.RowKit Go.Shelf
set_option linter.unusedVariables false
set_option linter.unusedSimpArgs false

/-- A device's five cells stored one after another. -/
abbrev put5 (w : World) (b : Nat) (v0 v1 v2 v3 v4 : Value) : World :=
  ((((w.setCell ⟨b, 0, none⟩ v0).setCell ⟨b, 1, none⟩ v1).setCell ⟨b, 2, none⟩ v2).setCell ⟨b, 3, none⟩ v3).setCell ⟨b, 4, none⟩ v4
theorem put5_heap {w : World} {b : Nat} {a0 a1 a2 a3 a4 : Value} {T : TypeId} (h : w.heap[b]? = some (.cells #[a0, a1, a2, a3, a4] T (0, 0))) (v0 v1 v2 v3 v4 : Value) :
    (put5 w b v0 v1 v2 v3 v4).heap[b]? = some (.cells #[v0, v1, v2, v3, v4] T (0, 0)) := by
  rw [heap_setCell_same _ _ _ _ _ _ (heap_setCell_same _ _ _ _ _ _ (heap_setCell_same _ _ _ _ _ _ (heap_setCell_same _ _ _ _ _ _ (heap_setCell_same _ _ _ _ _ _ h))))]
  rfl
theorem put5_chg (w : World) (b : Nat) (v0 v1 v2 v3 v4 : Value) : Chg (fun i => i = b) w (put5 w b v0 v1 v2 v3 v4) := by
  have s := fun (x : World) (k : Nat) (v : Value) => Chg.setCell (F := fun i => i = b) x (a := ⟨b, k, none⟩) v rfl
  exact ((((s w _ _).trans (s _ _ _) (fun _ h => .inl h)).trans (s _ _ _) (fun _ h => .inl h)).trans (s _ _ _) (fun _ h => .inl h)).trans (s _ _ _) (fun _ h => .inl h)

theorem cells5 {w : World} {b : Nat} {a0 a1 a2 a3 a4 : Value} {T : TypeId} (h : w.heap[b]? = some (.cells #[a0, a1, a2, a3, a4] T (0, 0))) :
    w.cell? ⟨b, 0, none⟩ = some a0 ∧ w.cell? ⟨b, 1, none⟩ = some a1 ∧ w.cell? ⟨b, 2, none⟩ = some a2 ∧ w.cell? ⟨b, 3, none⟩ = some a3 ∧ w.cell? ⟨b, 4, none⟩ = some a4 ∧ ∀ i, w.frozen? ⟨b, i, none⟩ = false := by
  simp [World.cell?, World.frozen?, h]

/-- The two blocks in front of a function of the reference: its boxed argument, its result. -/
structure Front (w w1 : World) (S : DS) (dv wv : Value) : Prop where
  b1 : Below w.heap.size w w1
  s1 : w1.heap.size = w.heap.size + 2
  n1 : w1.heap[w.heap.size]? = some (.cells #[dv, wv, .int .i64 (limI S), .bool S.down, .int .i64 (S.ops : Int)] 45 (0, 0))
  n2 : w1.heap[w.heap.size + 1]? = some (.cells #[.slice none 0 0, .slice none 0 0, .int .i64 0, .bool false, .int .i64 0] 45 (0, 0))
theorem front (w : World) (S : DS) (dv wv : Value) :
    Front w ((w.alloc (.cells #[dv, wv, .int .i64 (limI S), .bool S.down, .int .i64 (S.ops : Int)] 45)).alloc (.cells #[.slice none 0 0, .slice none 0 0, .int .i64 0, .bool false, .int .i64 0] 45)) S dv wv :=
  ⟨((Below.refl _ _).alloc (Nat.le_refl _) _).alloc (by simp) _, by rw [World.size_alloc, World.size_alloc], (Below.heap_alloc _ _ _ (by rw [World.size_alloc]; omega)).trans (heap_alloc_new _ _), heap_alloc2_new _ _ _⟩
theorem Front.below {w w1 w2 : World} {S : DS} {dv wv : Value} (h : Front w w1 S dv wv) (hb : Below w1.heap.size w1 w2) :
    w2.heap[w.heap.size]? = some (.cells #[dv, wv, .int .i64 (limI S), .bool S.down, .int .i64 (S.ops : Int)] 45 (0, 0)) ∧
    w2.heap[w.heap.size + 1]? = some (.cells #[.slice none 0 0, .slice none 0 0, .int .i64 0, .bool false, .int .i64 0] 45 (0, 0)) ∧ Below w.heap.size w w2 := by
  have := h.s1
  exact ⟨(hb.block _ (by omega)).trans h.n1, (hb.block _ (by omega)).trans h.n2, h.b1.trans (hb.mono (by omega))⟩

def DS.badE (S : DS) (s : Int) : Int := if S.down then 28 else if S.has s then 2 else 8

set_option maxRecDepth 100000 in
set_option maxHeartbeats 2000000 in
/-- Where nothing is written: the device comes back as it was. -/
theorem ref_write_bad {w : World} {G : Nat → Prop} {S : DS} {v : Value} (s : Int) (ba : Option Addr) (bl bc : Nat) (h : RefAt w G S v) (hbad : S.down = true ∨ (S.down = false ∧ S.has s = false) ∨ (S.down = false ∧ S.has s = true ∧ bl ≠ 256)) :
    Calls Try.prog 50 #[v, .int .i64 s, .slice ba bl bc] w fun e w' => e = .returned (.tuple #[v, .int .i64 (S.badE s)]) ∧ Below w.heap.size w w' := by
  have HH := Lib.hid h
  obtain ⟨dv, wv, rfl, hd, hw⟩ := h
  obtain ⟨ad, capd, rfl⟩ := hd.len
  obtain ⟨aw, capw, rfl⟩ := hw.len
  clear hd hw
  unfold refV at HH ⊢
  have hf := front w S (.slice ad S.dur.length capd) (.slice aw S.pend.length capw)
  obtain ⟨w1, hw1⟩ : ∃ w1, (w.alloc (.cells #[.slice ad S.dur.length capd, .slice aw S.pend.length capw, .int .i64 (limI S), .bool S.down, .int .i64 (S.ops : Int)] 45)).alloc (.cells #[.slice none 0 0, .slice none 0 0, .int .i64 0, .bool false, .int .i64 0] 45) = w1 := ⟨_, rfl⟩
  rw [hw1] at hf
  obtain ⟨n1, n2, hb⟩ := hf.below (Below.refl _ _)
  obtain ⟨c0, c1, c2, c3, c4, cf⟩ := cells5 n1
  obtain ⟨d0, d1, d2, d3, d4, df⟩ := cells5 n2
  have HF := Lib.hid hf
  have N2 := Lib.hid n2
  have hfin : ∀ wx, Below w1.heap.size w1 wx → (put5 wx (w.heap.size + 1) (.slice ad S.dur.length capd) (.slice aw S.pend.length capw) (.int .i64 (limI S)) (.bool S.down) (.int .i64 (S.ops : Int))).heap[w.heap.size + 1]? =
      some (.cells #[.slice ad S.dur.length capd, .slice aw S.pend.length capw, .int .i64 (limI S), .bool S.down, .int .i64 (S.ops : Int)] 45 (0, 0)) ∧
      Below w.heap.size w (put5 wx (w.heap.size + 1) (.slice ad S.dur.length capd) (.slice aw S.pend.length capw) (.int .i64 (limI S)) (.bool S.down) (.int .i64 (S.ops : Int))) := fun wx hbx =>
    ⟨put5_heap (hf.below hbx).2.1 _ _ _ _ _, (hf.below hbx).2.2.trans ((put5_chg wx (w.heap.size + 1) _ _ _ _ _).below (fun k h => by omega) (hf.below hbx).2.2.size)⟩
  have HFIN := Lib.hid hfin
  clear hf n1 n2 hfin hb
  have HBAD := Lib.hid hbad
  clear hbad
  cases hdn : S.down with
  | true =>
    have he : S.badE s = 28 := by simp [DS.badE, hdn]
    rw [he]
    clear he
    rw [hdn] at hw1 c3
    have hfin := HFIN.out w1 (Below.refl _ _)
    rw [hdn] at hfin
    clear HH HFIN
    go_enter Try.func50, Try.ntmps50
    go_wp2_with fail
    exact bodyPost_ret (results_cell_tmp_row (g := w.heap.size + 1) rfl _ _ _ _ _ _ rfl hfin.1 Try.underlying45 rfl infoD) rfl ⟨rfl, hfin.2⟩
  | false =>
    rw [hdn] at hw1 c3 HH
    have HDN := Lib.hid hdn
    clear hdn
    cases hh : S.has s with
    | false =>
      have he : S.badE s = 8 := by simp [DS.badE, HDN.out, hh]
      rw [he]
      clear he
      go_enter Try.func50, Try.ntmps50
      go_wp2_with fail
      have hcc := fun wx (hb : Below w1.heap.size w1 wx) => cells5 (HF.out.below hb).1
      have hdd := fun wx (hb : Below w1.heap.size w1 wx) => cells5 (HF.out.below hb).2.1
      have HCC := Lib.hid hcc
      have HDD := Lib.hid hdd
      clear hcc hdd c0 c1 c2 c3 c4 cf d0 d1 d2 d3 d4 df
      refine (ref_is s (HH.out.below HF.out.b1)).mono ?_
      rw [hh]
      rintro e w2 ⟨rfl, hb2⟩
      obtain ⟨c0, c1, c2, c3, c4, cf⟩ := HCC.out w2 hb2
      obtain ⟨d0, d1, d2, d3, d4, df⟩ := HDD.out w2 hb2
      rw [HDN.out] at c3
      have hfin := HFIN.out w2 hb2
      rw [HDN.out] at hfin
      clear hh HFIN hb2 HCC HDD HH
      go_wp2_with fail
      exact bodyPost_ret (results_cell_tmp_row (g := w.heap.size + 1) rfl _ _ _ _ _ _ rfl hfin.1 Try.underlying45 rfl infoD) rfl ⟨rfl, hfin.2⟩
    | true =>
      have hbl : bl ≠ 256 := by
        rcases HBAD.out with h | h | h
        · rw [HDN.out] at h; cases h
        · rw [hh] at h; cases h.2
        · exact h.2.2
      have hbl' : ¬ ((bl : Int) = 256) := by omega
      have he : S.badE s = 2 := by simp [DS.badE, HDN.out, hh]
      rw [he]
      clear he hbl
      go_enter Try.func50, Try.ntmps50
      go_wp2_with fail
      have hcc := fun wx (hb : Below w1.heap.size w1 wx) => cells5 (HF.out.below hb).1
      have hdd := fun wx (hb : Below w1.heap.size w1 wx) => cells5 (HF.out.below hb).2.1
      have HCC := Lib.hid hcc
      have HDD := Lib.hid hdd
      clear hcc hdd c0 c1 c2 c3 c4 cf d0 d1 d2 d3 d4 df
      refine (ref_is s (HH.out.below HF.out.b1)).mono ?_
      rw [hh]
      rintro e w2 ⟨rfl, hb2⟩
      obtain ⟨c0, c1, c2, c3, c4, cf⟩ := HCC.out w2 hb2
      obtain ⟨d0, d1, d2, d3, d4, df⟩ := HDD.out w2 hb2
      rw [HDN.out] at c3
      have hfin := HFIN.out w2 hb2
      rw [HDN.out] at hfin
      clear hh HFIN hb2 HCC HDD HH
      go_wp2_with fail
      exact bodyPost_ret (results_cell_tmp_row (g := w.heap.size + 1) rfl _ _ _ _ _ _ rfl hfin.1 Try.underlying45 rfl infoD) rfl ⟨rfl, hfin.2⟩

end Go.Proofs.Ytkklbmnbjmicnaa
