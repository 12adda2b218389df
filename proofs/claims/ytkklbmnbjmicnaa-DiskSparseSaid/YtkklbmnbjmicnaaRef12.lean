/- The reference: the ways on which nothing changes; the uniform contracts. -/
import Derived.Test.YtkklbmnbjmicnaaRef11
namespace Go.Proofs.Ytkklbmnbjmicnaa
open Go.RowKit Go.Shelf
set_option linter.unusedVariables false
set_option linter.unusedSimpArgs false

set_option maxRecDepth 100000 in
set_option maxHeartbeats 2000000 in
theorem ref_flush_down {w : World} {G : Nat → Prop} {S : DS} {v : Value}  (h : RefAt w G S v) (hdn : S.down = true) :
    Calls Try.prog 30 #[v] w fun e w' => e = .returned (.tuple #[v, .int .i64 28]) ∧ Below w.heap.size w w' := by
  have HH := Lib.hid h
  obtain ⟨dv, wv, rfl, hd, hw⟩ := h
  obtain ⟨ad, capd, rfl⟩ := hd.len
  obtain ⟨aw, capw, rfl⟩ := hw.len
  clear hd hw
  unfold refV at HH ⊢
  have hf := front w S (.slice ad S.dur.length capd) (.slice aw S.pend.length capw)
  obtain ⟨w1, hw1⟩ : ∃ w1, (w.alloc (.cells #[.slice ad S.dur.length capd, .slice aw S.pend.length capw, .int .i64 (limI S), .bool S.down, .int .i64 (S.ops : Int)] 45)).alloc (.cells #[.slice none 0 0, .slice none 0 0, .int .i64 0, .bool false, .int .i64 0] 45) = w1 := ⟨_, rfl⟩
  rw [hw1] at hf
  obtain ⟨n1, n2, hb⟩ := hf.below (Below.refl _ _)
  obtain ⟨c0, c1, c2, c3, c4, cf⟩ := cells5 n1
  obtain ⟨d0, d1, d2, d3, d4, df⟩ := cells5 n2
  have HF := Lib.hid hf
  have hfin : ∀ wx, Below w1.heap.size w1 wx → (put5 wx (w.heap.size + 1) (.slice ad S.dur.length capd) (.slice aw S.pend.length capw) (.int .i64 (limI S)) (.bool S.down) (.int .i64 (S.ops : Int))).heap[w.heap.size + 1]? =
      some (.cells #[.slice ad S.dur.length capd, .slice aw S.pend.length capw, .int .i64 (limI S), .bool S.down, .int .i64 (S.ops : Int)] 45 (0, 0)) ∧
      Below w.heap.size w (put5 wx (w.heap.size + 1) (.slice ad S.dur.length capd) (.slice aw S.pend.length capw) (.int .i64 (limI S)) (.bool S.down) (.int .i64 (S.ops : Int))) := fun wx hbx =>
    ⟨put5_heap (hf.below hbx).2.1 _ _ _ _ _, (hf.below hbx).2.2.trans ((put5_chg wx (w.heap.size + 1) _ _ _ _ _).below (fun k h => by omega) (hf.below hbx).2.2.size)⟩
  have HFIN := Lib.hid hfin
  clear hf n1 n2 hfin hb
  rw [hdn] at hw1 c3 HH ⊢
  have hfin := HFIN.out w1 (Below.refl _ _)
  rw [hdn] at hfin
  clear HH HFIN hdn
  go_enter Try.func30, Try.ntmps30
  go_wp2_with fail
  exact bodyPost_ret (results_cell_tmp_row (g := w.heap.size + 1) rfl _ _ _ _ _ _ rfl hfin.1 Try.underlying45 rfl infoD) rfl ⟨rfl, hfin.2⟩

set_option maxRecDepth 100000 in
set_option maxHeartbeats 2000000 in
theorem ref_restart_up {w : World} {G : Nat → Prop} {S : DS} {v : Value} (ca : Option Addr) (cl cc : Nat) (h : RefAt w G S v) (hdn : S.down = false) :
    Calls Try.prog 51 #[v, .slice ca cl cc] w fun e w' => e = .returned (.tuple #[v, .int .i64 10]) ∧ Below w.heap.size w w' := by
  have HH := Lib.hid h
  obtain ⟨dv, wv, rfl, hd, hw⟩ := h
  obtain ⟨ad, capd, rfl⟩ := hd.len
  obtain ⟨aw, capw, rfl⟩ := hw.len
  clear hd hw
  unfold refV at HH ⊢
  have hf := front w S (.slice ad S.dur.length capd) (.slice aw S.pend.length capw)
  obtain ⟨w1, hw1⟩ : ∃ w1, (w.alloc (.cells #[.slice ad S.dur.length capd, .slice aw S.pend.length capw, .int .i64 (limI S), .bool S.down, .int .i64 (S.ops : Int)] 45)).alloc (.cells #[.slice none 0 0, .slice none 0 0, .int .i64 0, .bool false, .int .i64 0] 45) = w1 := ⟨_, rfl⟩
  rw [hw1] at hf
  obtain ⟨n1, n2, hb⟩ := hf.below (Below.refl _ _)
  obtain ⟨c0, c1, c2, c3, c4, cf⟩ := cells5 n1
  obtain ⟨d0, d1, d2, d3, d4, df⟩ := cells5 n2
  have HF := Lib.hid hf
  have hfin : ∀ wx, Below w1.heap.size w1 wx → (put5 wx (w.heap.size + 1) (.slice ad S.dur.length capd) (.slice aw S.pend.length capw) (.int .i64 (limI S)) (.bool S.down) (.int .i64 (S.ops : Int))).heap[w.heap.size + 1]? =
      some (.cells #[.slice ad S.dur.length capd, .slice aw S.pend.length capw, .int .i64 (limI S), .bool S.down, .int .i64 (S.ops : Int)] 45 (0, 0)) ∧
      Below w.heap.size w (put5 wx (w.heap.size + 1) (.slice ad S.dur.length capd) (.slice aw S.pend.length capw) (.int .i64 (limI S)) (.bool S.down) (.int .i64 (S.ops : Int))) := fun wx hbx =>
    ⟨put5_heap (hf.below hbx).2.1 _ _ _ _ _, (hf.below hbx).2.2.trans ((put5_chg wx (w.heap.size + 1) _ _ _ _ _).below (fun k h => by omega) (hf.below hbx).2.2.size)⟩
  have HFIN := Lib.hid hfin
  clear hf n1 n2 hfin hb
  rw [hdn] at hw1 c3 HH ⊢
  have hfin := HFIN.out w1 (Below.refl _ _)
  rw [hdn] at hfin
  clear HH HFIN hdn
  go_enter Try.func51, Try.ntmps51
  go_wp2_with fail
  exact bodyPost_ret (results_cell_tmp_row (g := w.heap.size + 1) rfl _ _ _ _ _ _ rfl hfin.1 Try.underlying45 rfl infoD) rfl ⟨rfl, hfin.2⟩

set_option maxRecDepth 100000 in
set_option maxHeartbeats 2000000 in
theorem ref_damage_no {w : World} {G : Nat → Prop} {S : DS} {v : Value} (s p : Int) (y : UInt8) (h : RefAt w G S v) (hh : S.has s = false) :
    Calls Try.prog 52 #[v, .int .i64 s, .int .i64 p, bv y] w fun e w' => e = .returned (.tuple #[v, .int .i64 8]) ∧ Below w.heap.size w w' := by
  have HH := Lib.hid h
  obtain ⟨dv, wv, rfl, hd, hw⟩ := h
  obtain ⟨ad, capd, rfl⟩ := hd.len
  obtain ⟨aw, capw, rfl⟩ := hw.len
  clear hd hw
  unfold refV at HH ⊢
  have hf := front w S (.slice ad S.dur.length capd) (.slice aw S.pend.length capw)
  obtain ⟨w1, hw1⟩ : ∃ w1, (w.alloc (.cells #[.slice ad S.dur.length capd, .slice aw S.pend.length capw, .int .i64 (limI S), .bool S.down, .int .i64 (S.ops : Int)] 45)).alloc (.cells #[.slice none 0 0, .slice none 0 0, .int .i64 0, .bool false, .int .i64 0] 45) = w1 := ⟨_, rfl⟩
  rw [hw1] at hf
  obtain ⟨n1, n2, hb⟩ := hf.below (Below.refl _ _)
  obtain ⟨c0, c1, c2, c3, c4, cf⟩ := cells5 n1
  obtain ⟨d0, d1, d2, d3, d4, df⟩ := cells5 n2
  have HF := Lib.hid hf
  have hfin : ∀ wx, Below w1.heap.size w1 wx → (put5 wx (w.heap.size + 1) (.slice ad S.dur.length capd) (.slice aw S.pend.length capw) (.int .i64 (limI S)) (.bool S.down) (.int .i64 (S.ops : Int))).heap[w.heap.size + 1]? =
      some (.cells #[.slice ad S.dur.length capd, .slice aw S.pend.length capw, .int .i64 (limI S), .bool S.down, .int .i64 (S.ops : Int)] 45 (0, 0)) ∧
      Below w.heap.size w (put5 wx (w.heap.size + 1) (.slice ad S.dur.length capd) (.slice aw S.pend.length capw) (.int .i64 (limI S)) (.bool S.down) (.int .i64 (S.ops : Int))) := fun wx hbx =>
    ⟨put5_heap (hf.below hbx).2.1 _ _ _ _ _, (hf.below hbx).2.2.trans ((put5_chg wx (w.heap.size + 1) _ _ _ _ _).below (fun k h => by omega) (hf.below hbx).2.2.size)⟩
  have HFIN := Lib.hid hfin
  clear hf n1 n2 hfin hb
  have HHAS := Lib.hid hh
  clear hh
  unfold bv
  go_enter Try.func52, Try.ntmps52
  go_wp2_with fail
  have hcc := fun wx (hb : Below w1.heap.size w1 wx) => cells5 (HF.out.below hb).1
  have hdd := fun wx (hb : Below w1.heap.size w1 wx) => cells5 (HF.out.below hb).2.1
  have HCC := Lib.hid hcc
  have HDD := Lib.hid hdd
  clear hcc hdd c0 c1 c2 c3 c4 cf d0 d1 d2 d3 d4 df
  refine (ref_is s (HH.out.below HF.out.b1)).mono ?_
  rw [HHAS.out]
  rintro e w2 ⟨rfl, hb2⟩
  obtain ⟨c0, c1, c2, c3, c4, cf⟩ := HCC.out w2 hb2
  obtain ⟨d0, d1, d2, d3, d4, df⟩ := HDD.out w2 hb2
  have hfin := HFIN.out w2 hb2
  clear HFIN hb2 HCC HDD HH
  go_wp2_with fail
  exact bodyPost_ret (results_cell_tmp_row (g := w.heap.size + 1) rfl _ _ _ _ _ _ rfl hfin.1 Try.underlying45 rfl infoD) rfl ⟨rfl, hfin.2⟩

set_option maxRecDepth 100000 in
set_option maxHeartbeats 2000000 in
theorem ref_damage_neg {w : World} {G : Nat → Prop} {S : DS} {v : Value} (s p : Int) (y : UInt8) (h : RefAt w G S v) (hh : S.has s = true) (hp : p < 0) :
    Calls Try.prog 52 #[v, .int .i64 s, .int .i64 p, bv y] w fun e w' => e = .returned (.tuple #[v, .int .i64 2]) ∧ Below w.heap.size w w' := by
  have HH := Lib.hid h
  obtain ⟨dv, wv, rfl, hd, hw⟩ := h
  obtain ⟨ad, capd, rfl⟩ := hd.len
  obtain ⟨aw, capw, rfl⟩ := hw.len
  clear hd hw
  unfold refV at HH ⊢
  have hf := front w S (.slice ad S.dur.length capd) (.slice aw S.pend.length capw)
  obtain ⟨w1, hw1⟩ : ∃ w1, (w.alloc (.cells #[.slice ad S.dur.length capd, .slice aw S.pend.length capw, .int .i64 (limI S), .bool S.down, .int .i64 (S.ops : Int)] 45)).alloc (.cells #[.slice none 0 0, .slice none 0 0, .int .i64 0, .bool false, .int .i64 0] 45) = w1 := ⟨_, rfl⟩
  rw [hw1] at hf
  obtain ⟨n1, n2, hb⟩ := hf.below (Below.refl _ _)
  obtain ⟨c0, c1, c2, c3, c4, cf⟩ := cells5 n1
  obtain ⟨d0, d1, d2, d3, d4, df⟩ := cells5 n2
  have HF := Lib.hid hf
  have hfin : ∀ wx, Below w1.heap.size w1 wx → (put5 wx (w.heap.size + 1) (.slice ad S.dur.length capd) (.slice aw S.pend.length capw) (.int .i64 (limI S)) (.bool S.down) (.int .i64 (S.ops : Int))).heap[w.heap.size + 1]? =
      some (.cells #[.slice ad S.dur.length capd, .slice aw S.pend.length capw, .int .i64 (limI S), .bool S.down, .int .i64 (S.ops : Int)] 45 (0, 0)) ∧
      Below w.heap.size w (put5 wx (w.heap.size + 1) (.slice ad S.dur.length capd) (.slice aw S.pend.length capw) (.int .i64 (limI S)) (.bool S.down) (.int .i64 (S.ops : Int))) := fun wx hbx =>
    ⟨put5_heap (hf.below hbx).2.1 _ _ _ _ _, (hf.below hbx).2.2.trans ((put5_chg wx (w.heap.size + 1) _ _ _ _ _).below (fun k h => by omega) (hf.below hbx).2.2.size)⟩
  have HFIN := Lib.hid hfin
  clear hf n1 n2 hfin hb
  have HHAS := Lib.hid hh
  clear hh
  unfold bv
  have hpd : decide (p < 0) = true := by simpa using hp
  go_enter Try.func52, Try.ntmps52
  go_wp2_with fail
  have hcc := fun wx (hb : Below w1.heap.size w1 wx) => cells5 (HF.out.below hb).1
  have hdd := fun wx (hb : Below w1.heap.size w1 wx) => cells5 (HF.out.below hb).2.1
  have HCC := Lib.hid hcc
  have HDD := Lib.hid hdd
  clear hcc hdd c0 c1 c2 c3 c4 cf d0 d1 d2 d3 d4 df
  refine (ref_is s (HH.out.below HF.out.b1)).mono ?_
  rw [HHAS.out]
  rintro e w2 ⟨rfl, hb2⟩
  obtain ⟨c0, c1, c2, c3, c4, cf⟩ := HCC.out w2 hb2
  obtain ⟨d0, d1, d2, d3, d4, df⟩ := HDD.out w2 hb2
  have hfin := HFIN.out w2 hb2
  clear HFIN hb2 HCC HDD HH
  go_wp2_with fail
  exact bodyPost_ret (results_cell_tmp_row (g := w.heap.size + 1) rfl _ _ _ _ _ _ rfl hfin.1 Try.underlying45 rfl infoD) rfl ⟨rfl, hfin.2⟩

set_option maxRecDepth 100000 in
set_option maxHeartbeats 2000000 in
theorem ref_damage_big {w : World} {G : Nat → Prop} {S : DS} {v : Value} (s p : Int) (y : UInt8) (h : RefAt w G S v) (hh : S.has s = true) (hp : 256 ≤ p) :
    Calls Try.prog 52 #[v, .int .i64 s, .int .i64 p, bv y] w fun e w' => e = .returned (.tuple #[v, .int .i64 2]) ∧ Below w.heap.size w w' := by
  have HH := Lib.hid h
  obtain ⟨dv, wv, rfl, hd, hw⟩ := h
  obtain ⟨ad, capd, rfl⟩ := hd.len
  obtain ⟨aw, capw, rfl⟩ := hw.len
  clear hd hw
  unfold refV at HH ⊢
  have hf := front w S (.slice ad S.dur.length capd) (.slice aw S.pend.length capw)
  obtain ⟨w1, hw1⟩ : ∃ w1, (w.alloc (.cells #[.slice ad S.dur.length capd, .slice aw S.pend.length capw, .int .i64 (limI S), .bool S.down, .int .i64 (S.ops : Int)] 45)).alloc (.cells #[.slice none 0 0, .slice none 0 0, .int .i64 0, .bool false, .int .i64 0] 45) = w1 := ⟨_, rfl⟩
  rw [hw1] at hf
  obtain ⟨n1, n2, hb⟩ := hf.below (Below.refl _ _)
  obtain ⟨c0, c1, c2, c3, c4, cf⟩ := cells5 n1
  obtain ⟨d0, d1, d2, d3, d4, df⟩ := cells5 n2
  have HF := Lib.hid hf
  have hfin : ∀ wx, Below w1.heap.size w1 wx → (put5 wx (w.heap.size + 1) (.slice ad S.dur.length capd) (.slice aw S.pend.length capw) (.int .i64 (limI S)) (.bool S.down) (.int .i64 (S.ops : Int))).heap[w.heap.size + 1]? =
      some (.cells #[.slice ad S.dur.length capd, .slice aw S.pend.length capw, .int .i64 (limI S), .bool S.down, .int .i64 (S.ops : Int)] 45 (0, 0)) ∧
      Below w.heap.size w (put5 wx (w.heap.size + 1) (.slice ad S.dur.length capd) (.slice aw S.pend.length capw) (.int .i64 (limI S)) (.bool S.down) (.int .i64 (S.ops : Int))) := fun wx hbx =>
    ⟨put5_heap (hf.below hbx).2.1 _ _ _ _ _, (hf.below hbx).2.2.trans ((put5_chg wx (w.heap.size + 1) _ _ _ _ _).below (fun k h => by omega) (hf.below hbx).2.2.size)⟩
  have HFIN := Lib.hid hfin
  clear hf n1 n2 hfin hb
  have HHAS := Lib.hid hh
  clear hh
  unfold bv
  have hpn : ¬ p < 0 := by omega
  have hpd : decide (p < 0) = false := by simp; omega
  have hpd2 : decide (256 ≤ p) = true := by simpa using hp
  go_enter Try.func52, Try.ntmps52
  go_wp2_with fail
  have hcc := fun wx (hb : Below w1.heap.size w1 wx) => cells5 (HF.out.below hb).1
  have hdd := fun wx (hb : Below w1.heap.size w1 wx) => cells5 (HF.out.below hb).2.1
  have HCC := Lib.hid hcc
  have HDD := Lib.hid hdd
  clear hcc hdd c0 c1 c2 c3 c4 cf d0 d1 d2 d3 d4 df
  refine (ref_is s (HH.out.below HF.out.b1)).mono ?_
  rw [HHAS.out]
  rintro e w2 ⟨rfl, hb2⟩
  obtain ⟨c0, c1, c2, c3, c4, cf⟩ := HCC.out w2 hb2
  obtain ⟨d0, d1, d2, d3, d4, df⟩ := HDD.out w2 hb2
  have hfin := HFIN.out w2 hb2
  clear HFIN hb2 HCC HDD HH
  go_wp2_with fail
  exact bodyPost_ret (results_cell_tmp_row (g := w.heap.size + 1) rfl _ _ _ _ _ _ rfl hfin.1 Try.underlying45 rfl infoD) rfl ⟨rfl, hfin.2⟩


/-- What a function of the reference comes to: the next device and a code. -/
def RefPost (w : World) (G : Nat → Prop) (S' : DS) (code : Int) (e : Ending) (w' : World) : Prop :=
  ∃ v', e = .returned (.tuple #[v', .int .i64 code]) ∧ RefAt w' (fun k => G k ∨ w.heap.size ≤ k) S' v' ∧ Below w.heap.size w w'

section
variable {w : World} {G : Nat → Prop} {S : DS} {v : Value}
theorem refPost_same {e : Ending} {w' : World} {code : Int} (h : RefAt w G S v) (he : e = .returned (.tuple #[v, .int .i64 code]) ∧ Below w.heap.size w w') : RefPost w G S code e w' :=
  ⟨v, he.1, (h.below he.2).mono (fun _ h => .inl h), he.2⟩
theorem refPost_own {e : Ending} {w' : World} {code : Int} {S' : DS} (he : ∃ v', e = .returned (.tuple #[v', .int .i64 code]) ∧ RefOwn w' w.heap.size S' v' ∧ Below w.heap.size w w') : RefPost w G S' code e w' := by
  obtain ⟨v', h1, h2, h3⟩ := he
  exact ⟨v', h1, h2.at.mono (fun _ h => .inr h), h3⟩

theorem ref_flush (h : RefAt w G S v) (hok : S.ok) (hlen : S.pend.length < 100000000) (hops : S.ops < 1000000000000) (hlim : S.limit.getD 0 ≤ 9223372036854775807) :
    Calls Try.prog 30 #[v] w (RefPost w G S.flush.1 S.flush.2) := by
  cases hd : S.down with
  | true =>
    have e : S.flush = (S, 28) := by simp [DS.flush, hd]
    rw [e]
    exact (ref_flush_down h hd).mono fun e w' he => refPost_same h he
  | false =>
    cases hop : S.operate.2 with
    | false => exact (ref_flush_lim h hok hd hop hlen hops hlim).mono fun e w' he => refPost_own (by
        have e9 : S.flush.2 = 28 := by simp [DS.flush, hd, hop]
        exact he)
    | true => exact (ref_flush_do h hok hd hop hlen hops hlim).mono fun e w' he => refPost_own he

theorem ref_restart {Gc : Nat → Prop} {cv : Value} (cs : List UInt8) (h : RefAt w G S v) (hcv : BytesAt w Gc cv cs) (hok : S.ok) (hlen : S.pend.length < 100000000) (hcl : cs.length ≤ 9223372036854775807) :
    Calls Try.prog 51 #[v, cv] w (RefPost w G (S.restart cs).1 (S.restart cs).2) := by
  cases hd : S.down with
  | true =>
    have e : (S.restart cs).2 = 0 := by simp [DS.restart, hd]
    rw [e]
    exact (ref_restart_down cs h hcv hok hd hlen hcl).mono fun e w' he => refPost_own he
  | false =>
    have e : S.restart cs = (S, 10) := by simp [DS.restart, hd]
    rw [e]
    obtain ⟨ca, cc, rfl, _⟩ := hcv
    exact (ref_restart_up ca cs.length cc h hd).mono fun e w' he => refPost_same h he

theorem ref_damage (s p : Int) (y : UInt8) (h : RefAt w G S v) (hok : S.ok) (hlen : S.pend.length < 100000000) :
    Calls Try.prog 52 #[v, .int .i64 s, .int .i64 p, .int .u8 (y.toNat : Int)] w (RefPost w G (S.damage s p y).1 (S.damage s p y).2) := by
  cases hh : S.has s with
  | false =>
    have e : S.damage s p y = (S, 8) := by simp [DS.damage, hh]
    rw [e]
    exact (ref_damage_no s p y h hh).mono fun e w' he => refPost_same h he
  | true =>
    by_cases h1 : p < 0
    · have e : S.damage s p y = (S, 2) := by
        have : ¬ (0 ≤ p ∧ p < 256) := by omega
        simp [DS.damage, hh, this]
      rw [e]
      exact (ref_damage_neg s p y h hh h1).mono fun e w' he => refPost_same h he
    · by_cases h2 : 256 ≤ p
      · have e : S.damage s p y = (S, 2) := by
          have : ¬ (0 ≤ p ∧ p < 256) := by omega
          simp [DS.damage, hh, this]
        rw [e]
        exact (ref_damage_big s p y h hh h2).mono fun e w' he => refPost_same h he
      · have hs : 0 ≤ s ∧ s < (S.dur.length : Int) := by simpa [DS.has] using hh
        obtain ⟨s', rfl⟩ := Int.eq_ofNat_of_zero_le hs.1
        obtain ⟨p', rfl⟩ := Int.eq_ofNat_of_zero_le (show 0 ≤ p by omega)
        rw [dmgAt_end S s' p' (by omega) (by omega) y]
        exact (ref_damage_good s' p' y h hok (by omega) (by omega) hlen).mono fun e w' he => refPost_own he

theorem ref_write {Gb : Nat → Prop} {bv' : Value} (s : Int) (l : List UInt8) (h : RefAt w G S v) (hbv : BytesAt w Gb bv' l) (hok : S.ok) (hlen : S.pend.length < 100000000) (hops : S.ops < 1000000000000) (hlim : S.limit.getD 0 ≤ 9223372036854775807) :
    Calls Try.prog 50 #[v, .int .i64 s, bv'] w (RefPost w G (S.write s l).1 (S.write s l).2) := by
  have hbad : (S.down = true ∨ (S.down = false ∧ S.has s = false) ∨ (S.down = false ∧ S.has s = true ∧ l.length ≠ 256)) → Calls Try.prog 50 #[v, .int .i64 s, bv'] w (RefPost w G (S.write s l).1 (S.write s l).2) := fun hb => by
    obtain ⟨a, c, rfl, _⟩ := hbv
    have e : S.write s l = (S, S.badE s) := by
      rcases hb with h1 | ⟨h1, h2⟩ | ⟨h1, h2, h3⟩
      · simp [DS.write, DS.badE, h1]
      · simp [DS.write, DS.badE, h1, h2]
      · simp [DS.write, DS.badE, h1, h2, h3]
    rw [e]
    exact (ref_write_bad s a l.length c h hb).mono fun e w' he => refPost_same h he
  cases hd : S.down with
  | true => exact hbad (.inl hd)
  | false =>
    cases hh : S.has s with
    | false => exact hbad (.inr (.inl ⟨hd, hh⟩))
    | true =>
      by_cases hl : l.length = 256
      · have hs : 0 ≤ s ∧ s < (S.dur.length : Int) := by simpa [DS.has] using hh
        obtain ⟨s', rfl⟩ := Int.eq_ofNat_of_zero_le hs.1
        cases hop : S.operate.2 with
        | false => exact (ref_write_lim s' bv' l h hbv hl hok hd (by omega) hop hlen hops hlim).mono fun e w' he => refPost_own he
        | true => exact (ref_write_do s' bv' l h hbv hl hok hd (by omega) hop hlen hops hlim).mono fun e w' he => refPost_own he
      · exact hbad (.inr (.inr ⟨hd, hh, hl⟩))
end

end Go.Proofs.Ytkklbmnbjmicnaa
