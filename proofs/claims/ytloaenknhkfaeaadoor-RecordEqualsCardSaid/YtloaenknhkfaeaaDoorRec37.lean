/- Records: the law Equals. -/
import Derived.Test.YtloaenknhkfaeaaDoorRec26
import Derived.Laws.MakeOwn
import Derived.Deep.CutRange
namespace Go.Proofs.YtloaenknhkfaeaaDoor
open Go
set_option linter.unusedVariables false
set_option linter.unusedSimpArgs false

section
variable {P : Program} {ops : Array Oper} {Q : Exit → Act → World → Prop} {md : Region.Mode} {S : World → Prop}
theorem wpAnyH_some {rs : List Nat} {fuel : Nat} {listed : Array Bool} {a : Act} {w : World} (hr : Region.ready md ops listed = rs) (hne : rs ≠ [])
    (h : ∀ i ∈ rs, ∃ oi, ops.toList[i]? = some oi ∧ oi.guard = none ∧ ∀ K : Act → World → Prop, (∀ a' w', S w' → wpAnyH P md ops Q S fuel (listed.setIfInBounds i true) a' w' → K a' w') → oi.wp P a w K Q) : wpAnyH P md ops Q S (fuel + 1) listed a w := by
  refine wpAnyH_all hr hne fun j hj => ?_
  obtain ⟨oj, hj', hg, h⟩ := h j hj
  have hj2 : ops[j]? = some oj := by simpa using hj'
  unfold wpOp
  simp only [hj2]
  rw [if_pos (by simp [Region.wanted, hg])]
  exact .inl (h _ (fun a' w' h1 h2 => ⟨h1, h2⟩))
theorem wpAnyH_two {i j : Nat} {oi oj : Oper} {fuel : Nat} {listed : Array Bool} {a : Act} {w : World} (hr : Region.ready md ops listed = [i, j]) (hi' : ops.toList[i]? = some oi) (hj' : ops.toList[j]? = some oj) (hg : oi.guard = none) (hg2 : oj.guard = none)
    (h1 : ∀ K : Act → World → Prop, (∀ a' w', S w' → wpAnyH P md ops Q S fuel (listed.setIfInBounds i true) a' w' → K a' w') → oi.wp P a w K Q)
    (h2 : ∀ K : Act → World → Prop, (∀ a' w', S w' → wpAnyH P md ops Q S fuel (listed.setIfInBounds j true) a' w' → K a' w') → oj.wp P a w K Q) :
    wpAnyH P md ops Q S (fuel + 1) listed a w :=
  wpAnyH_some hr (by simp) fun x hx => by
    rcases List.mem_cons.1 hx with rfl | hx
    · exact ⟨oi, hi', hg, h1⟩
    · obtain rfl := List.mem_singleton.1 hx
      exact ⟨oj, hj', hg2, h2⟩
theorem wpAnyH_three {i j l : Nat} {oi oj ol : Oper} {fuel : Nat} {listed : Array Bool} {a : Act} {w : World} (hr : Region.ready md ops listed = [i, j, l]) (hi' : ops.toList[i]? = some oi) (hj' : ops.toList[j]? = some oj) (hl' : ops.toList[l]? = some ol) (hg : oi.guard = none) (hg2 : oj.guard = none) (hg3 : ol.guard = none)
    (h1 : ∀ K : Act → World → Prop, (∀ a' w', S w' → wpAnyH P md ops Q S fuel (listed.setIfInBounds i true) a' w' → K a' w') → oi.wp P a w K Q)
    (h2 : ∀ K : Act → World → Prop, (∀ a' w', S w' → wpAnyH P md ops Q S fuel (listed.setIfInBounds j true) a' w' → K a' w') → oj.wp P a w K Q)
    (h3 : ∀ K : Act → World → Prop, (∀ a' w', S w' → wpAnyH P md ops Q S fuel (listed.setIfInBounds l true) a' w' → K a' w') → ol.wp P a w K Q) :
    wpAnyH P md ops Q S (fuel + 1) listed a w :=
  wpAnyH_some hr (by simp) fun x hx => by
    rcases List.mem_cons.1 hx with rfl | hx
    · exact ⟨oi, hi', hg, h1⟩
    · rcases List.mem_cons.1 hx with rfl | hx
      · exact ⟨oj, hj', hg2, h2⟩
      · obtain rfl := List.mem_singleton.1 hx
        exact ⟨ol, hl', hg3, h3⟩
end

end Go.Proofs.YtloaenknhkfaeaaDoor

namespace Go.Proofs.YtloaenknhkfaeaaDoor
open Go.RowKit

theorem store4 {w : World} {p : Nat} {T : TypeId} {z0 z1 z2 z3 : Value} (h : w.heap[p]? = some (.cells #[z0, z1, z2, z3] T (0, 0))) (v0 v1 v2 v3 : Value) :
    ((((w.setCell ⟨p, 0, none⟩ v0).setCell ⟨p, 1, none⟩ v1).setCell ⟨p, 2, none⟩ v2).setCell ⟨p, 3, none⟩ v3).heap[p]? = some (.cells #[v0, v1, v2, v3] T (0, 0)) ∧
    Chg (fun k => k = p) w ((((w.setCell ⟨p, 0, none⟩ v0).setCell ⟨p, 1, none⟩ v1).setCell ⟨p, 2, none⟩ v2).setCell ⟨p, 3, none⟩ v3) := by
  refine ⟨?_, ?_⟩
  · have h0 := heap_setCell_same w p 0 _ _ v0 h
    have h1 := heap_setCell_same _ p 1 _ _ v1 h0
    have h2 := heap_setCell_same _ p 2 _ _ v2 h1
    have h3 := heap_setCell_same _ p 3 _ _ v3 h2
    rw [h3]
    rfl
  · exact chg4 w p v0 v1 v2 v3
theorem row4 {w : World} {p : Nat} {T : TypeId} {z0 z1 z2 z3 : Value} (h : w.heap[p]? = some (.cells #[z0, z1, z2, z3] T (0, 0))) : w.cell? ⟨p, 0, none⟩ = some z0 ∧ w.cell? ⟨p, 1, none⟩ = some z1 ∧ w.cell? ⟨p, 2, none⟩ = some z2 ∧ w.cell? ⟨p, 3, none⟩ = some z3 ∧ ∀ j : Nat, w.frozen? ⟨p, j, none⟩ = false := by
  refine ⟨?_, ?_, ?_, ?_, fun j => frozen_of_row _ _ _ _ _ h⟩ <;> (rw [cell_of_row _ _ _ _ _ _ h]; rfl)
theorem heap_lt {w : World} {p : Nat} {o : Obj} (h : w.heap[p]? = some o) : p < w.heap.size := (Array.getElem?_eq_some_iff.1 h).1
theorem mk_zeros (n : Nat) (hn : n ≤ 281474976710656) (w : World) :
    (Instr.makeSlice 22 (.int .i64 (n : Int)) (.int .i64 (n : Int))).run Tryd.prog w = .ok (.slice (some ⟨w.heap.size, 0, none⟩) n n) (w.alloc (.cells (bvs (List.replicate n 0)).toArray 5)) := by
  obtain ⟨i0, hi, hz0, hz1, hz2⟩ := info_parts infoByte
  have h := run_make (P := Tryd.prog) w 22 5 i0 _ Tryd.underlying22 hi hz0 .i64 .i64 (n : Int) (n : Int) (by omega) (Int.le_refl _) (by rw [hz2]; omega) (by omega)
  rw [h, hz1]
  have e : madeCells (Value.int .u8 0).cells ((n : Int).toNat * 1) = (bvs (List.replicate n 0)).toArray := by
    apply Array.ext'
    unfold madeCells bvs
    rw [List.map_replicate]
    apply List.ext_getElem
    · simp
    · intro j h1 h2
      simp [Value.cells, Nat.mod_one]
      rfl
  rw [e]
  rfl
theorem zerosB_set (n : Nat) (h : 0 < n) : zerosB ((List.replicate n (0 : UInt8)).set (n / 2) 1) = false := by
  have h2 : n / 2 < n := by omega
  have : zerosB ((List.replicate n (0 : UInt8)).set (n / 2) 1) ≠ true := by
    intro e
    unfold zerosB at e
    rw [List.all_eq_true] at e
    have := e 1 (List.mem_iff_getElem.2 ⟨n / 2, by simpa using h2, by simp⟩)
    simp at this
  simpa using this

set_option maxRecDepth 100000 in
set_option maxHeartbeats 2000000 in
theorem RecordEquals_any {w : World} {F G : Nat → Prop} (k g n : Int) (a : Option Addr) (na ca : Nat) (la : List UInt8) (hv : BytesN w F (.slice a na ca) la) (hl : la.length = na) (hn : na ≤ 9223372036854775807)
    (k2 g2 n2 : Int) (b : Option Addr) (nb cb : Nat) (lb : List UInt8) (hu : BytesN w G (.slice b nb cb) lb) (hl2 : lb.length = nb) (hn2 : nb ≤ 9223372036854775807) (z : UInt8) (hK : KAt w) :
    Calls Tryd.prog 13 #[.agg #[.int .i64 k, .int .i64 g, .int .i64 n, .slice a na ca], .agg #[.int .i64 k2, .int .i64 g2, .int .i64 n2, .slice b nb cb], .int .u8 (z.toNat : Int)] w fun e w' => e = .returned (.bool true) ∧ Below w.heap.size w w' := by
  obtain ⟨zn, hzn⟩ : ∃ zn, z.toNat = zn := ⟨_, rfl⟩
  have hz2 : zn < 256 := by rw [← hzn]; exact z.toNat_lt
  rw [hzn]
  clear hzn
  obtain ⟨w1, hw1⟩ : ∃ w1, (w.alloc (.cells #[.int .i64 k, .int .i64 g, .int .i64 n, .slice a na ca] 49)).alloc (.cells #[.int .i64 k2, .int .i64 g2, .int .i64 n2, .slice b nb cb] 49) = w1 := ⟨_, rfl⟩
  have hb1 : Below w.heap.size w w1 := hw1 ▸ ((Below.refl _ w).alloc (Nat.le_refl _) _).alloc (by simp) _
  have hx1 : w1.heap[w.heap.size]? = some (.cells #[.int .i64 k, .int .i64 g, .int .i64 n, .slice a na ca] 49 (0, 0)) := by rw [← hw1]; exact (Below.heap_alloc _ _ _ (by simp)).trans (heap_alloc_new _ _)
  have hy1 : w1.heap[w.heap.size + 1]? = some (.cells #[.int .i64 k2, .int .i64 g2, .int .i64 n2, .slice b nb cb] 49 (0, 0)) := by rw [← hw1]; simpa using heap_alloc_new (w.alloc (.cells #[.int .i64 k, .int .i64 g, .int .i64 n, .slice a na ca] 49)) (.cells #[.int .i64 k2, .int .i64 g2, .int .i64 n2, .slice b nb cb] 49)
  have hcell : ∀ w' : World, Below w1.heap.size w1 w' → w'.cell? ⟨w.heap.size, 0, none⟩ = some (.int .i64 k) ∧ w'.cell? ⟨w.heap.size, 1, none⟩ = some (.int .i64 g) ∧ w'.cell? ⟨w.heap.size, 2, none⟩ = some (.int .i64 n) ∧ w'.cell? ⟨w.heap.size, 3, none⟩ = some (.slice a na ca) ∧
      w'.cell? ⟨w.heap.size + 1, 0, none⟩ = some (.int .i64 k2) ∧ w'.cell? ⟨w.heap.size + 1, 1, none⟩ = some (.int .i64 g2) ∧ w'.cell? ⟨w.heap.size + 1, 2, none⟩ = some (.int .i64 n2) ∧ w'.cell? ⟨w.heap.size + 1, 3, none⟩ = some (.slice b nb cb) := by
    intro w' hb
    obtain ⟨c0, c1, c2, c3, _⟩ := row4 ((hb.block _ (heap_lt hx1)).trans hx1)
    obtain ⟨d0, d1, d2, d3, _⟩ := row4 ((hb.block _ (heap_lt hy1)).trans hy1)
    exact ⟨c0, c1, c2, c3, d0, d1, d2, d3⟩
  have hofa : ∀ w', Below w1.heap.size w1 w' → _ := fun w' hb => of_any k g n a na ca la ((hv.below hb1).below hb) hl hn
  have hofb : ∀ w', Below w1.heap.size w1 w' → _ := fun w' hb => of_any k2 g2 n2 b nb cb lb ((hu.below hb1).below hb) hl2 hn2
  have HOFA := Lib.hid hofa
  have HOFB := Lib.hid hofb
  have HCELL := Lib.hid hcell
  have HW1 := Lib.hid hw1
  have HB1 := Lib.hid hb1
  have HK := Lib.hid hK
  clear hofa hofb hcell hw1 hb1 hK hx1 hy1 hv hu hl hl2
  go_enter Tryd.func13, Tryd.ntmps13
  go_upto_region 1 with (fail)
  rw [HW1.out]
  go_cut [7, 8] from 11 to 55 (fun pv qv wx => ∃ (p q : Nat) (ax ay : Option Addr) (mx cx my cy : Nat) (lx ly : List UInt8), pv = .pointer (some ⟨p, 0, none⟩) ∧ qv = .pointer (some ⟨q, 0, none⟩) ∧ wx.heap[p]? = some (.cells #[.int .i64 k, .int .i64 g, .int .i64 n, .slice ax mx cx] 50 (0, 0)) ∧ wx.heap[q]? = some (.cells #[.int .i64 k2, .int .i64 g2, .int .i64 n2, .slice ay my cy] 50 (0, 0)) ∧ wx.ownsRow w1.heap.size 5 1 (.slice ax mx cx) mx (bvs lx) ∧ wx.ownsRow w1.heap.size 5 1 (.slice ay my cy) my (bvs ly) ∧ Below w1.heap.size w1 wx)
  case first =>
    refine wp_region_noPanic ?_
    refine wp_region_H (Below w1.heap.size w1) (by kernel_rfl) ?_
    have hS0 : (Below w1.heap.size w1) w1.drew := (Below.refl _ _).drew
    obtain ⟨wd, hwd⟩ : ∃ wd, w1.drew = wd := ⟨_, rfl⟩
    rw [hwd] at hS0 ⊢
    clear hwd
    refine wpAnyH_takeI (i := 0) (v := ?v1) rfl (by kernel_rfl) (by kernel_rfl) (by kernel_rfl) (fun _ _ _ h => h) (yieldsIf_run rfl (fun w' hw' => ?y1)) hS0 ?_
    case y1 => (obtain ⟨y0, y1, y2, y3, z0, z1, z2, z3⟩ := HCELL.out w' hw'; clear hw'; first | (go_simp; rfl) | (go_simp; done))
    simp only [Act.put, List.setIfInBounds_toArray, List.set_cons_zero, List.set_cons_succ]
    refine wpAnyH_takeI (i := 2) (v := ?v2) rfl (by kernel_rfl) (by kernel_rfl) (by kernel_rfl) (fun _ _ _ h => h) (yieldsIf_run rfl (fun w' hw' => ?y2)) hS0 ?_
    case y2 => (obtain ⟨y0, y1, y2, y3, z0, z1, z2, z3⟩ := HCELL.out w' hw'; clear hw'; first | (go_simp; rfl) | (go_simp; done))
    simp only [Act.put, List.setIfInBounds_toArray, List.set_cons_zero, List.set_cons_succ]
    have hS := hS0
    clear hS0
    refine wpAnyH_three (i := 1) (j := 4) (l := 5) (by kernel_rfl) rfl rfl rfl rfl rfl rfl (fun K hK => ?_) (fun K hK => ?_) (fun K hK => ?_) 
    · go_simp
      go_at_call 27
      refine (HOFA.out _ hS).mono ?_
      rintro e wdn ⟨ax, mx, cx, rfl, hmx, hX, hb⟩
      clear hmx
      replace hX := ownsRow_base hX hS.size
      replace hS := hS.trans (hb.mono hS.size)
      clear hb
      refine hK _ _ hS ?_
      clear hK K
      try simp only [Act.put, List.setIfInBounds_toArray, List.set_cons_zero, List.set_cons_succ]
      refine wpAnyH_three (i := 3) (j := 4) (l := 5) (by kernel_rfl) rfl rfl rfl rfl rfl rfl (fun K hK => ?_) (fun K hK => ?_) (fun K hK => ?_) 
      · go_simp
        go_at_call 27
        refine (HOFB.out _ hS).mono ?_
        rintro e wdnn ⟨ay, my, cy, rfl, hmy, hY, hb⟩
        clear hmy
        replace hY := ownsRow_base hY hS.size
        replace hX := own_kept hX hb
        replace hS := hS.trans (hb.mono hS.size)
        clear hb
        refine hK _ _ hS ?_
        clear hK K
        try simp only [Act.put, List.setIfInBounds_toArray, List.set_cons_zero, List.set_cons_succ]
        refine wpAnyH_two (i := 4) (j := 5) (by kernel_rfl) rfl rfl rfl rfl (fun K hK => ?_) (fun K hK => ?_) 
        · go_simp
          obtain ⟨wdnnn, hwn⟩ : ∃ wdnnn, wdnn.alloc (.cells #[.int .i64 0, .int .i64 0, .int .i64 0, .slice none 0 0] 50) = wdnnn := ⟨_, rfl⟩
          have hb : Below wdnn.heap.size wdnn wdnnn := hwn ▸ (Below.refl _ _).alloc (Nat.le_refl _) _
          have hp : wdnnn.heap[wdnn.heap.size]? = some (.cells #[.int .i64 0, .int .i64 0, .int .i64 0, .slice none 0 0] 50 (0, 0)) := by rw [← hwn]; exact heap_alloc_new _ _
          rw [hwn]
          obtain ⟨p, hpe⟩ : ∃ p, wdnn.heap.size = p := ⟨_, rfl⟩
          have hpb : w1.heap.size ≤ p := hpe ▸ hS.size
          rw [hpe] at hp ⊢
          clear hwn hpe
          replace hX := own_kept hX hb
          replace hY := own_kept hY hb
          replace hS := hS.trans (hb.mono hS.size)
          clear hb
          refine hK _ _ hS ?_
          clear hK K
          try simp only [Act.put, List.setIfInBounds_toArray, List.set_cons_zero, List.set_cons_succ]
          refine wpAnyH_do (i := 5) (by kernel_rfl) rfl rfl (fun K hK => ?_)
          go_simp
          obtain ⟨wdnnnn, hwn⟩ : ∃ wdnnnn, wdnnn.alloc (.cells #[.int .i64 0, .int .i64 0, .int .i64 0, .slice none 0 0] 50) = wdnnnn := ⟨_, rfl⟩
          have hb : Below wdnnn.heap.size wdnnn wdnnnn := hwn ▸ (Below.refl _ _).alloc (Nat.le_refl _) _
          have hq : wdnnnn.heap[wdnnn.heap.size]? = some (.cells #[.int .i64 0, .int .i64 0, .int .i64 0, .slice none 0 0] 50 (0, 0)) := by rw [← hwn]; exact heap_alloc_new _ _
          rw [hwn]
          obtain ⟨q, hqe⟩ : ∃ q, wdnnn.heap.size = q := ⟨_, rfl⟩
          have hqb : w1.heap.size ≤ q := hqe ▸ hS.size
          rw [hqe] at hq ⊢
          have hpq : p ≠ q := by have := heap_lt hp; omega
          clear hwn hqe
          replace hX := own_kept hX hb
          replace hY := own_kept hY hb
          replace hp := (hb.block _ (heap_lt hp)).trans hp
          replace hS := hS.trans (hb.mono hS.size)
          clear hb
          refine hK _ _ hS ?_
          clear hK K
          try simp only [Act.put, List.setIfInBounds_toArray, List.set_cons_zero, List.set_cons_succ]
          refine wpAnyH_do (i := 6) (by kernel_rfl) rfl rfl (fun K hK => ?_)
          obtain ⟨e0, e1, e2, e3, ef⟩ := row4 hp
          go_simp
          clear e0 e1 e2 e3 ef
          obtain ⟨hn, hc⟩ := store4 hp (.int .i64 k) (.int .i64 g) (.int .i64 n) (.slice ax mx cx)
          obtain ⟨wdnnnns, hwn⟩ : ∃ wdnnnns, ((((wdnnnn.setCell ⟨p, 0, none⟩ (.int .i64 k)).setCell ⟨p, 1, none⟩ (.int .i64 g)).setCell ⟨p, 2, none⟩ (.int .i64 n)).setCell ⟨p, 3, none⟩ (.slice ax mx cx)) = wdnnnns := ⟨_, rfl⟩
          rw [hwn] at hn hc ⊢
          clear hwn
          have hX1 := ownsRow_chg' hX hc (fun k hk h => own_ne hX hp (by decide) k hk h)
          have hY1 := ownsRow_chg' hY hc (fun k hk h => own_ne hY hp (by decide) k hk h)
          have ho := (hc.block q (heap_lt hq) (fun h => hpq h.symm)).trans hq
          have hS1 := below_chg hS hc hpb (Nat.le_refl _)
          clear hX hY hp hq hS hc
          have hX := hX1
          have hY := hY1
          have hp := hn
          have hq := ho
          have hS := hS1
          clear hX1 hY1 hn ho hS1
          refine hK _ _ hS ?_
          clear hK K
          try simp only [Act.put, List.setIfInBounds_toArray, List.set_cons_zero, List.set_cons_succ]
          refine wpAnyH_do (i := 7) (by kernel_rfl) rfl rfl (fun K hK => ?_)
          obtain ⟨e0, e1, e2, e3, ef⟩ := row4 hq
          go_simp
          clear e0 e1 e2 e3 ef
          obtain ⟨hn, hc⟩ := store4 hq (.int .i64 k2) (.int .i64 g2) (.int .i64 n2) (.slice ay my cy)
          obtain ⟨wdnnnnt, hwn⟩ : ∃ wdnnnnt, ((((wdnnnns.setCell ⟨q, 0, none⟩ (.int .i64 k2)).setCell ⟨q, 1, none⟩ (.int .i64 g2)).setCell ⟨q, 2, none⟩ (.int .i64 n2)).setCell ⟨q, 3, none⟩ (.slice ay my cy)) = wdnnnnt := ⟨_, rfl⟩
          rw [hwn] at hn hc ⊢
          clear hwn
          have hX1 := ownsRow_chg' hX hc (fun k hk h => own_ne hX hq (by decide) k hk h)
          have hY1 := ownsRow_chg' hY hc (fun k hk h => own_ne hY hq (by decide) k hk h)
          have ho := (hc.block p (heap_lt hp) (fun h => hpq h)).trans hp
          have hS1 := below_chg hS hc hqb (Nat.le_refl _)
          clear hX hY hq hp hS hc
          have hX := hX1
          have hY := hY1
          have hq := hn
          have hp := ho
          have hS := hS1
          clear hX1 hY1 hn ho hS1
          refine hK _ _ hS ?_
          clear hK K
          try simp only [Act.put, List.setIfInBounds_toArray, List.set_cons_zero, List.set_cons_succ]
          refine wpAnyH_done (by kernel_rfl) ?_ _
          refine NoPanic.normal ?_
          go_wp2_with fail
          go_meet
          case rel => exact ⟨p, q, ax, ay, mx, cx, my, cy, _, _, rfl, rfl, hp, hq, hX, hY, hS⟩
        · go_simp
          obtain ⟨wdnnn, hwn⟩ : ∃ wdnnn, wdnn.alloc (.cells #[.int .i64 0, .int .i64 0, .int .i64 0, .slice none 0 0] 50) = wdnnn := ⟨_, rfl⟩
          have hb : Below wdnn.heap.size wdnn wdnnn := hwn ▸ (Below.refl _ _).alloc (Nat.le_refl _) _
          have hq : wdnnn.heap[wdnn.heap.size]? = some (.cells #[.int .i64 0, .int .i64 0, .int .i64 0, .slice none 0 0] 50 (0, 0)) := by rw [← hwn]; exact heap_alloc_new _ _
          rw [hwn]
          obtain ⟨q, hqe⟩ : ∃ q, wdnn.heap.size = q := ⟨_, rfl⟩
          have hqb : w1.heap.size ≤ q := hqe ▸ hS.size
          rw [hqe] at hq ⊢
          clear hwn hqe
          replace hX := own_kept hX hb
          replace hY := own_kept hY hb
          replace hS := hS.trans (hb.mono hS.size)
          clear hb
          refine hK _ _ hS ?_
          clear hK K
          try simp only [Act.put, List.setIfInBounds_toArray, List.set_cons_zero, List.set_cons_succ]
          refine wpAnyH_do (i := 4) (by kernel_rfl) rfl rfl (fun K hK => ?_)
          go_simp
          obtain ⟨wdnnnn, hwn⟩ : ∃ wdnnnn, wdnnn.alloc (.cells #[.int .i64 0, .int .i64 0, .int .i64 0, .slice none 0 0] 50) = wdnnnn := ⟨_, rfl⟩
          have hb : Below wdnnn.heap.size wdnnn wdnnnn := hwn ▸ (Below.refl _ _).alloc (Nat.le_refl _) _
          have hp : wdnnnn.heap[wdnnn.heap.size]? = some (.cells #[.int .i64 0, .int .i64 0, .int .i64 0, .slice none 0 0] 50 (0, 0)) := by rw [← hwn]; exact heap_alloc_new _ _
          rw [hwn]
          obtain ⟨p, hpe⟩ : ∃ p, wdnnn.heap.size = p := ⟨_, rfl⟩
          have hpb : w1.heap.size ≤ p := hpe ▸ hS.size
          rw [hpe] at hp ⊢
          have hpq : p ≠ q := by have := heap_lt hq; omega
          clear hwn hpe
          replace hX := own_kept hX hb
          replace hY := own_kept hY hb
          replace hq := (hb.block _ (heap_lt hq)).trans hq
          replace hS := hS.trans (hb.mono hS.size)
          clear hb
          refine hK _ _ hS ?_
          clear hK K
          try simp only [Act.put, List.setIfInBounds_toArray, List.set_cons_zero, List.set_cons_succ]
          refine wpAnyH_do (i := 6) (by kernel_rfl) rfl rfl (fun K hK => ?_)
          obtain ⟨e0, e1, e2, e3, ef⟩ := row4 hp
          go_simp
          clear e0 e1 e2 e3 ef
          obtain ⟨hn, hc⟩ := store4 hp (.int .i64 k) (.int .i64 g) (.int .i64 n) (.slice ax mx cx)
          obtain ⟨wdnnnns, hwn⟩ : ∃ wdnnnns, ((((wdnnnn.setCell ⟨p, 0, none⟩ (.int .i64 k)).setCell ⟨p, 1, none⟩ (.int .i64 g)).setCell ⟨p, 2, none⟩ (.int .i64 n)).setCell ⟨p, 3, none⟩ (.slice ax mx cx)) = wdnnnns := ⟨_, rfl⟩
          rw [hwn] at hn hc ⊢
          clear hwn
          have hX1 := ownsRow_chg' hX hc (fun k hk h => own_ne hX hp (by decide) k hk h)
          have hY1 := ownsRow_chg' hY hc (fun k hk h => own_ne hY hp (by decide) k hk h)
          have ho := (hc.block q (heap_lt hq) (fun h => hpq h.symm)).trans hq
          have hS1 := below_chg hS hc hpb (Nat.le_refl _)
          clear hX hY hp hq hS hc
          have hX := hX1
          have hY := hY1
          have hp := hn
          have hq := ho
          have hS := hS1
          clear hX1 hY1 hn ho hS1
          refine hK _ _ hS ?_
          clear hK K
          try simp only [Act.put, List.setIfInBounds_toArray, List.set_cons_zero, List.set_cons_succ]
          refine wpAnyH_do (i := 7) (by kernel_rfl) rfl rfl (fun K hK => ?_)
          obtain ⟨e0, e1, e2, e3, ef⟩ := row4 hq
          go_simp
          clear e0 e1 e2 e3 ef
          obtain ⟨hn, hc⟩ := store4 hq (.int .i64 k2) (.int .i64 g2) (.int .i64 n2) (.slice ay my cy)
          obtain ⟨wdnnnnt, hwn⟩ : ∃ wdnnnnt, ((((wdnnnns.setCell ⟨q, 0, none⟩ (.int .i64 k2)).setCell ⟨q, 1, none⟩ (.int .i64 g2)).setCell ⟨q, 2, none⟩ (.int .i64 n2)).setCell ⟨q, 3, none⟩ (.slice ay my cy)) = wdnnnnt := ⟨_, rfl⟩
          rw [hwn] at hn hc ⊢
          clear hwn
          have hX1 := ownsRow_chg' hX hc (fun k hk h => own_ne hX hq (by decide) k hk h)
          have hY1 := ownsRow_chg' hY hc (fun k hk h => own_ne hY hq (by decide) k hk h)
          have ho := (hc.block p (heap_lt hp) (fun h => hpq h)).trans hp
          have hS1 := below_chg hS hc hqb (Nat.le_refl _)
          clear hX hY hq hp hS hc
          have hX := hX1
          have hY := hY1
          have hq := hn
          have hp := ho
          have hS := hS1
          clear hX1 hY1 hn ho hS1
          refine hK _ _ hS ?_
          clear hK K
          try simp only [Act.put, List.setIfInBounds_toArray, List.set_cons_zero, List.set_cons_succ]
          refine wpAnyH_done (by kernel_rfl) ?_ _
          refine NoPanic.normal ?_
          go_wp2_with fail
          go_meet
          case rel => exact ⟨p, q, ax, ay, mx, cx, my, cy, _, _, rfl, rfl, hp, hq, hX, hY, hS⟩
      · go_simp
        obtain ⟨wdnn, hwn⟩ : ∃ wdnn, wdn.alloc (.cells #[.int .i64 0, .int .i64 0, .int .i64 0, .slice none 0 0] 50) = wdnn := ⟨_, rfl⟩
        have hb : Below wdn.heap.size wdn wdnn := hwn ▸ (Below.refl _ _).alloc (Nat.le_refl _) _
        have hp : wdnn.heap[wdn.heap.size]? = some (.cells #[.int .i64 0, .int .i64 0, .int .i64 0, .slice none 0 0] 50 (0, 0)) := by rw [← hwn]; exact heap_alloc_new _ _
        rw [hwn]
        obtain ⟨p, hpe⟩ : ∃ p, wdn.heap.size = p := ⟨_, rfl⟩
        have hpb : w1.heap.size ≤ p := hpe ▸ hS.size
        rw [hpe] at hp ⊢
        clear hwn hpe
        replace hX := own_kept hX hb
        replace hS := hS.trans (hb.mono hS.size)
        clear hb
        refine hK _ _ hS ?_
        clear hK K
        try simp only [Act.put, List.setIfInBounds_toArray, List.set_cons_zero, List.set_cons_succ]
        refine wpAnyH_two (i := 3) (j := 5) (by kernel_rfl) rfl rfl rfl rfl (fun K hK => ?_) (fun K hK => ?_) 
        · go_simp
          go_at_call 27
          refine (HOFB.out _ hS).mono ?_
          rintro e wdnnn ⟨ay, my, cy, rfl, hmy, hY, hb⟩
          clear hmy
          replace hY := ownsRow_base hY hS.size
          replace hX := own_kept hX hb
          replace hp := (hb.block _ (heap_lt hp)).trans hp
          replace hS := hS.trans (hb.mono hS.size)
          clear hb
          refine hK _ _ hS ?_
          clear hK K
          try simp only [Act.put, List.setIfInBounds_toArray, List.set_cons_zero, List.set_cons_succ]
          refine wpAnyH_do (i := 5) (by kernel_rfl) rfl rfl (fun K hK => ?_)
          go_simp
          obtain ⟨wdnnnn, hwn⟩ : ∃ wdnnnn, wdnnn.alloc (.cells #[.int .i64 0, .int .i64 0, .int .i64 0, .slice none 0 0] 50) = wdnnnn := ⟨_, rfl⟩
          have hb : Below wdnnn.heap.size wdnnn wdnnnn := hwn ▸ (Below.refl _ _).alloc (Nat.le_refl _) _
          have hq : wdnnnn.heap[wdnnn.heap.size]? = some (.cells #[.int .i64 0, .int .i64 0, .int .i64 0, .slice none 0 0] 50 (0, 0)) := by rw [← hwn]; exact heap_alloc_new _ _
          rw [hwn]
          obtain ⟨q, hqe⟩ : ∃ q, wdnnn.heap.size = q := ⟨_, rfl⟩
          have hqb : w1.heap.size ≤ q := hqe ▸ hS.size
          rw [hqe] at hq ⊢
          have hpq : p ≠ q := by have := heap_lt hp; omega
          clear hwn hqe
          replace hX := own_kept hX hb
          replace hY := own_kept hY hb
          replace hp := (hb.block _ (heap_lt hp)).trans hp
          replace hS := hS.trans (hb.mono hS.size)
          clear hb
          refine hK _ _ hS ?_
          clear hK K
          try simp only [Act.put, List.setIfInBounds_toArray, List.set_cons_zero, List.set_cons_succ]
          refine wpAnyH_do (i := 6) (by kernel_rfl) rfl rfl (fun K hK => ?_)
          obtain ⟨e0, e1, e2, e3, ef⟩ := row4 hp
          go_simp
          clear e0 e1 e2 e3 ef
          obtain ⟨hn, hc⟩ := store4 hp (.int .i64 k) (.int .i64 g) (.int .i64 n) (.slice ax mx cx)
          obtain ⟨wdnnnns, hwn⟩ : ∃ wdnnnns, ((((wdnnnn.setCell ⟨p, 0, none⟩ (.int .i64 k)).setCell ⟨p, 1, none⟩ (.int .i64 g)).setCell ⟨p, 2, none⟩ (.int .i64 n)).setCell ⟨p, 3, none⟩ (.slice ax mx cx)) = wdnnnns := ⟨_, rfl⟩
          rw [hwn] at hn hc ⊢
          clear hwn
          have hX1 := ownsRow_chg' hX hc (fun k hk h => own_ne hX hp (by decide) k hk h)
          have hY1 := ownsRow_chg' hY hc (fun k hk h => own_ne hY hp (by decide) k hk h)
          have ho := (hc.block q (heap_lt hq) (fun h => hpq h.symm)).trans hq
          have hS1 := below_chg hS hc hpb (Nat.le_refl _)
          clear hX hY hp hq hS hc
          have hX := hX1
          have hY := hY1
          have hp := hn
          have hq := ho
          have hS := hS1
          clear hX1 hY1 hn ho hS1
          refine hK _ _ hS ?_
          clear hK K
          try simp only [Act.put, List.setIfInBounds_toArray, List.set_cons_zero, List.set_cons_succ]
          refine wpAnyH_do (i := 7) (by kernel_rfl) rfl rfl (fun K hK => ?_)
          obtain ⟨e0, e1, e2, e3, ef⟩ := row4 hq
          go_simp
          clear e0 e1 e2 e3 ef
          obtain ⟨hn, hc⟩ := store4 hq (.int .i64 k2) (.int .i64 g2) (.int .i64 n2) (.slice ay my cy)
          obtain ⟨wdnnnnt, hwn⟩ : ∃ wdnnnnt, ((((wdnnnns.setCell ⟨q, 0, none⟩ (.int .i64 k2)).setCell ⟨q, 1, none⟩ (.int .i64 g2)).setCell ⟨q, 2, none⟩ (.int .i64 n2)).setCell ⟨q, 3, none⟩ (.slice ay my cy)) = wdnnnnt := ⟨_, rfl⟩
          rw [hwn] at hn hc ⊢
          clear hwn
          have hX1 := ownsRow_chg' hX hc (fun k hk h => own_ne hX hq (by decide) k hk h)
          have hY1 := ownsRow_chg' hY hc (fun k hk h => own_ne hY hq (by decide) k hk h)
          have ho := (hc.block p (heap_lt hp) (fun h => hpq h)).trans hp
          have hS1 := below_chg hS hc hqb (Nat.le_refl _)
          clear hX hY hq hp hS hc
          have hX := hX1
          have hY := hY1
          have hq := hn
          have hp := ho
          have hS := hS1
          clear hX1 hY1 hn ho hS1
          refine hK _ _ hS ?_
          clear hK K
          try simp only [Act.put, List.setIfInBounds_toArray, List.set_cons_zero, List.set_cons_succ]
          refine wpAnyH_done (by kernel_rfl) ?_ _
          refine NoPanic.normal ?_
          go_wp2_with fail
          go_meet
          case rel => exact ⟨p, q, ax, ay, mx, cx, my, cy, _, _, rfl, rfl, hp, hq, hX, hY, hS⟩
        · go_simp
          obtain ⟨wdnnn, hwn⟩ : ∃ wdnnn, wdnn.alloc (.cells #[.int .i64 0, .int .i64 0, .int .i64 0, .slice none 0 0] 50) = wdnnn := ⟨_, rfl⟩
          have hb : Below wdnn.heap.size wdnn wdnnn := hwn ▸ (Below.refl _ _).alloc (Nat.le_refl _) _
          have hq : wdnnn.heap[wdnn.heap.size]? = some (.cells #[.int .i64 0, .int .i64 0, .int .i64 0, .slice none 0 0] 50 (0, 0)) := by rw [← hwn]; exact heap_alloc_new _ _
          rw [hwn]
          obtain ⟨q, hqe⟩ : ∃ q, wdnn.heap.size = q := ⟨_, rfl⟩
          have hqb : w1.heap.size ≤ q := hqe ▸ hS.size
          rw [hqe] at hq ⊢
          have hpq : p ≠ q := by have := heap_lt hp; omega
          clear hwn hqe
          replace hX := own_kept hX hb
          replace hp := (hb.block _ (heap_lt hp)).trans hp
          replace hS := hS.trans (hb.mono hS.size)
          clear hb
          refine hK _ _ hS ?_
          clear hK K
          try simp only [Act.put, List.setIfInBounds_toArray, List.set_cons_zero, List.set_cons_succ]
          refine wpAnyH_do (i := 3) (by kernel_rfl) rfl rfl (fun K hK => ?_)
          go_simp
          go_at_call 27
          refine (HOFB.out _ hS).mono ?_
          rintro e wdnnnn ⟨ay, my, cy, rfl, hmy, hY, hb⟩
          clear hmy
          replace hY := ownsRow_base hY hS.size
          replace hX := own_kept hX hb
          replace hp := (hb.block _ (heap_lt hp)).trans hp
          replace hq := (hb.block _ (heap_lt hq)).trans hq
          replace hS := hS.trans (hb.mono hS.size)
          clear hb
          refine hK _ _ hS ?_
          clear hK K
          try simp only [Act.put, List.setIfInBounds_toArray, List.set_cons_zero, List.set_cons_succ]
          refine wpAnyH_do (i := 6) (by kernel_rfl) rfl rfl (fun K hK => ?_)
          obtain ⟨e0, e1, e2, e3, ef⟩ := row4 hp
          go_simp
          clear e0 e1 e2 e3 ef
          obtain ⟨hn, hc⟩ := store4 hp (.int .i64 k) (.int .i64 g) (.int .i64 n) (.slice ax mx cx)
          obtain ⟨wdnnnns, hwn⟩ : ∃ wdnnnns, ((((wdnnnn.setCell ⟨p, 0, none⟩ (.int .i64 k)).setCell ⟨p, 1, none⟩ (.int .i64 g)).setCell ⟨p, 2, none⟩ (.int .i64 n)).setCell ⟨p, 3, none⟩ (.slice ax mx cx)) = wdnnnns := ⟨_, rfl⟩
          rw [hwn] at hn hc ⊢
          clear hwn
          have hX1 := ownsRow_chg' hX hc (fun k hk h => own_ne hX hp (by decide) k hk h)
          have hY1 := ownsRow_chg' hY hc (fun k hk h => own_ne hY hp (by decide) k hk h)
          have ho := (hc.block q (heap_lt hq) (fun h => hpq h.symm)).trans hq
          have hS1 := below_chg hS hc hpb (Nat.le_refl _)
          clear hX hY hp hq hS hc
          have hX := hX1
          have hY := hY1
          have hp := hn
          have hq := ho
          have hS := hS1
          clear hX1 hY1 hn ho hS1
          refine hK _ _ hS ?_
          clear hK K
          try simp only [Act.put, List.setIfInBounds_toArray, List.set_cons_zero, List.set_cons_succ]
          refine wpAnyH_do (i := 7) (by kernel_rfl) rfl rfl (fun K hK => ?_)
          obtain ⟨e0, e1, e2, e3, ef⟩ := row4 hq
          go_simp
          clear e0 e1 e2 e3 ef
          obtain ⟨hn, hc⟩ := store4 hq (.int .i64 k2) (.int .i64 g2) (.int .i64 n2) (.slice ay my cy)
          obtain ⟨wdnnnnt, hwn⟩ : ∃ wdnnnnt, ((((wdnnnns.setCell ⟨q, 0, none⟩ (.int .i64 k2)).setCell ⟨q, 1, none⟩ (.int .i64 g2)).setCell ⟨q, 2, none⟩ (.int .i64 n2)).setCell ⟨q, 3, none⟩ (.slice ay my cy)) = wdnnnnt := ⟨_, rfl⟩
          rw [hwn] at hn hc ⊢
          clear hwn
          have hX1 := ownsRow_chg' hX hc (fun k hk h => own_ne hX hq (by decide) k hk h)
          have hY1 := ownsRow_chg' hY hc (fun k hk h => own_ne hY hq (by decide) k hk h)
          have ho := (hc.block p (heap_lt hp) (fun h => hpq h)).trans hp
          have hS1 := below_chg hS hc hqb (Nat.le_refl _)
          clear hX hY hq hp hS hc
          have hX := hX1
          have hY := hY1
          have hq := hn
          have hp := ho
          have hS := hS1
          clear hX1 hY1 hn ho hS1
          refine hK _ _ hS ?_
          clear hK K
          try simp only [Act.put, List.setIfInBounds_toArray, List.set_cons_zero, List.set_cons_succ]
          refine wpAnyH_done (by kernel_rfl) ?_ _
          refine NoPanic.normal ?_
          go_wp2_with fail
          go_meet
          case rel => exact ⟨p, q, ax, ay, mx, cx, my, cy, _, _, rfl, rfl, hp, hq, hX, hY, hS⟩
      · go_simp
        obtain ⟨wdnn, hwn⟩ : ∃ wdnn, wdn.alloc (.cells #[.int .i64 0, .int .i64 0, .int .i64 0, .slice none 0 0] 50) = wdnn := ⟨_, rfl⟩
        have hb : Below wdn.heap.size wdn wdnn := hwn ▸ (Below.refl _ _).alloc (Nat.le_refl _) _
        have hq : wdnn.heap[wdn.heap.size]? = some (.cells #[.int .i64 0, .int .i64 0, .int .i64 0, .slice none 0 0] 50 (0, 0)) := by rw [← hwn]; exact heap_alloc_new _ _
        rw [hwn]
        obtain ⟨q, hqe⟩ : ∃ q, wdn.heap.size = q := ⟨_, rfl⟩
        have hqb : w1.heap.size ≤ q := hqe ▸ hS.size
        rw [hqe] at hq ⊢
        clear hwn hqe
        replace hX := own_kept hX hb
        replace hS := hS.trans (hb.mono hS.size)
        clear hb
        refine hK _ _ hS ?_
        clear hK K
        try simp only [Act.put, List.setIfInBounds_toArray, List.set_cons_zero, List.set_cons_succ]
        refine wpAnyH_two (i := 3) (j := 4) (by kernel_rfl) rfl rfl rfl rfl (fun K hK => ?_) (fun K hK => ?_) 
        · go_simp
          go_at_call 27
          refine (HOFB.out _ hS).mono ?_
          rintro e wdnnn ⟨ay, my, cy, rfl, hmy, hY, hb⟩
          clear hmy
          replace hY := ownsRow_base hY hS.size
          replace hX := own_kept hX hb
          replace hq := (hb.block _ (heap_lt hq)).trans hq
          replace hS := hS.trans (hb.mono hS.size)
          clear hb
          refine hK _ _ hS ?_
          clear hK K
          try simp only [Act.put, List.setIfInBounds_toArray, List.set_cons_zero, List.set_cons_succ]
          refine wpAnyH_do (i := 4) (by kernel_rfl) rfl rfl (fun K hK => ?_)
          go_simp
          obtain ⟨wdnnnn, hwn⟩ : ∃ wdnnnn, wdnnn.alloc (.cells #[.int .i64 0, .int .i64 0, .int .i64 0, .slice none 0 0] 50) = wdnnnn := ⟨_, rfl⟩
          have hb : Below wdnnn.heap.size wdnnn wdnnnn := hwn ▸ (Below.refl _ _).alloc (Nat.le_refl _) _
          have hp : wdnnnn.heap[wdnnn.heap.size]? = some (.cells #[.int .i64 0, .int .i64 0, .int .i64 0, .slice none 0 0] 50 (0, 0)) := by rw [← hwn]; exact heap_alloc_new _ _
          rw [hwn]
          obtain ⟨p, hpe⟩ : ∃ p, wdnnn.heap.size = p := ⟨_, rfl⟩
          have hpb : w1.heap.size ≤ p := hpe ▸ hS.size
          rw [hpe] at hp ⊢
          have hpq : p ≠ q := by have := heap_lt hq; omega
          clear hwn hpe
          replace hX := own_kept hX hb
          replace hY := own_kept hY hb
          replace hq := (hb.block _ (heap_lt hq)).trans hq
          replace hS := hS.trans (hb.mono hS.size)
          clear hb
          refine hK _ _ hS ?_
          clear hK K
          try simp only [Act.put, List.setIfInBounds_toArray, List.set_cons_zero, List.set_cons_succ]
          refine wpAnyH_do (i := 6) (by kernel_rfl) rfl rfl (fun K hK => ?_)
          obtain ⟨e0, e1, e2, e3, ef⟩ := row4 hp
          go_simp
          clear e0 e1 e2 e3 ef
          obtain ⟨hn, hc⟩ := store4 hp (.int .i64 k) (.int .i64 g) (.int .i64 n) (.slice ax mx cx)
          obtain ⟨wdnnnns, hwn⟩ : ∃ wdnnnns, ((((wdnnnn.setCell ⟨p, 0, none⟩ (.int .i64 k)).setCell ⟨p, 1, none⟩ (.int .i64 g)).setCell ⟨p, 2, none⟩ (.int .i64 n)).setCell ⟨p, 3, none⟩ (.slice ax mx cx)) = wdnnnns := ⟨_, rfl⟩
          rw [hwn] at hn hc ⊢
          clear hwn
          have hX1 := ownsRow_chg' hX hc (fun k hk h => own_ne hX hp (by decide) k hk h)
          have hY1 := ownsRow_chg' hY hc (fun k hk h => own_ne hY hp (by decide) k hk h)
          have ho := (hc.block q (heap_lt hq) (fun h => hpq h.symm)).trans hq
          have hS1 := below_chg hS hc hpb (Nat.le_refl _)
          clear hX hY hp hq hS hc
          have hX := hX1
          have hY := hY1
          have hp := hn
          have hq := ho
          have hS := hS1
          clear hX1 hY1 hn ho hS1
          refine hK _ _ hS ?_
          clear hK K
          try simp only [Act.put, List.setIfInBounds_toArray, List.set_cons_zero, List.set_cons_succ]
          refine wpAnyH_do (i := 7) (by kernel_rfl) rfl rfl (fun K hK => ?_)
          obtain ⟨e0, e1, e2, e3, ef⟩ := row4 hq
          go_simp
          clear e0 e1 e2 e3 ef
          obtain ⟨hn, hc⟩ := store4 hq (.int .i64 k2) (.int .i64 g2) (.int .i64 n2) (.slice ay my cy)
          obtain ⟨wdnnnnt, hwn⟩ : ∃ wdnnnnt, ((((wdnnnns.setCell ⟨q, 0, none⟩ (.int .i64 k2)).setCell ⟨q, 1, none⟩ (.int .i64 g2)).setCell ⟨q, 2, none⟩ (.int .i64 n2)).setCell ⟨q, 3, none⟩ (.slice ay my cy)) = wdnnnnt := ⟨_, rfl⟩
          rw [hwn] at hn hc ⊢
          clear hwn
          have hX1 := ownsRow_chg' hX hc (fun k hk h => own_ne hX hq (by decide) k hk h)
          have hY1 := ownsRow_chg' hY hc (fun k hk h => own_ne hY hq (by decide) k hk h)
          have ho := (hc.block p (heap_lt hp) (fun h => hpq h)).trans hp
          have hS1 := below_chg hS hc hqb (Nat.le_refl _)
          clear hX hY hq hp hS hc
          have hX := hX1
          have hY := hY1
          have hq := hn
          have hp := ho
          have hS := hS1
          clear hX1 hY1 hn ho hS1
          refine hK _ _ hS ?_
          clear hK K
          try simp only [Act.put, List.setIfInBounds_toArray, List.set_cons_zero, List.set_cons_succ]
          refine wpAnyH_done (by kernel_rfl) ?_ _
          refine NoPanic.normal ?_
          go_wp2_with fail
          go_meet
          case rel => exact ⟨p, q, ax, ay, mx, cx, my, cy, _, _, rfl, rfl, hp, hq, hX, hY, hS⟩
        · go_simp
          obtain ⟨wdnnn, hwn⟩ : ∃ wdnnn, wdnn.alloc (.cells #[.int .i64 0, .int .i64 0, .int .i64 0, .slice none 0 0] 50) = wdnnn := ⟨_, rfl⟩
          have hb : Below wdnn.heap.size wdnn wdnnn := hwn ▸ (Below.refl _ _).alloc (Nat.le_refl _) _
          have hp : wdnnn.heap[wdnn.heap.size]? = some (.cells #[.int .i64 0, .int .i64 0, .int .i64 0, .slice none 0 0] 50 (0, 0)) := by rw [← hwn]; exact heap_alloc_new _ _
          rw [hwn]
          obtain ⟨p, hpe⟩ : ∃ p, wdnn.heap.size = p := ⟨_, rfl⟩
          have hpb : w1.heap.size ≤ p := hpe ▸ hS.size
          rw [hpe] at hp ⊢
          have hpq : p ≠ q := by have := heap_lt hq; omega
          clear hwn hpe
          replace hX := own_kept hX hb
          replace hq := (hb.block _ (heap_lt hq)).trans hq
          replace hS := hS.trans (hb.mono hS.size)
          clear hb
          refine hK _ _ hS ?_
          clear hK K
          try simp only [Act.put, List.setIfInBounds_toArray, List.set_cons_zero, List.set_cons_succ]
          refine wpAnyH_do (i := 3) (by kernel_rfl) rfl rfl (fun K hK => ?_)
          go_simp
          go_at_call 27
          refine (HOFB.out _ hS).mono ?_
          rintro e wdnnnn ⟨ay, my, cy, rfl, hmy, hY, hb⟩
          clear hmy
          replace hY := ownsRow_base hY hS.size
          replace hX := own_kept hX hb
          replace hp := (hb.block _ (heap_lt hp)).trans hp
          replace hq := (hb.block _ (heap_lt hq)).trans hq
          replace hS := hS.trans (hb.mono hS.size)
          clear hb
          refine hK _ _ hS ?_
          clear hK K
          try simp only [Act.put, List.setIfInBounds_toArray, List.set_cons_zero, List.set_cons_succ]
          refine wpAnyH_do (i := 6) (by kernel_rfl) rfl rfl (fun K hK => ?_)
          obtain ⟨e0, e1, e2, e3, ef⟩ := row4 hp
          go_simp
          clear e0 e1 e2 e3 ef
          obtain ⟨hn, hc⟩ := store4 hp (.int .i64 k) (.int .i64 g) (.int .i64 n) (.slice ax mx cx)
          obtain ⟨wdnnnns, hwn⟩ : ∃ wdnnnns, ((((wdnnnn.setCell ⟨p, 0, none⟩ (.int .i64 k)).setCell ⟨p, 1, none⟩ (.int .i64 g)).setCell ⟨p, 2, none⟩ (.int .i64 n)).setCell ⟨p, 3, none⟩ (.slice ax mx cx)) = wdnnnns := ⟨_, rfl⟩
          rw [hwn] at hn hc ⊢
          clear hwn
          have hX1 := ownsRow_chg' hX hc (fun k hk h => own_ne hX hp (by decide) k hk h)
          have hY1 := ownsRow_chg' hY hc (fun k hk h => own_ne hY hp (by decide) k hk h)
          have ho := (hc.block q (heap_lt hq) (fun h => hpq h.symm)).trans hq
          have hS1 := below_chg hS hc hpb (Nat.le_refl _)
          clear hX hY hp hq hS hc
          have hX := hX1
          have hY := hY1
          have hp := hn
          have hq := ho
          have hS := hS1
          clear hX1 hY1 hn ho hS1
          refine hK _ _ hS ?_
          clear hK K
          try simp only [Act.put, List.setIfInBounds_toArray, List.set_cons_zero, List.set_cons_succ]
          refine wpAnyH_do (i := 7) (by kernel_rfl) rfl rfl (fun K hK => ?_)
          obtain ⟨e0, e1, e2, e3, ef⟩ := row4 hq
          go_simp
          clear e0 e1 e2 e3 ef
          obtain ⟨hn, hc⟩ := store4 hq (.int .i64 k2) (.int .i64 g2) (.int .i64 n2) (.slice ay my cy)
          obtain ⟨wdnnnnt, hwn⟩ : ∃ wdnnnnt, ((((wdnnnns.setCell ⟨q, 0, none⟩ (.int .i64 k2)).setCell ⟨q, 1, none⟩ (.int .i64 g2)).setCell ⟨q, 2, none⟩ (.int .i64 n2)).setCell ⟨q, 3, none⟩ (.slice ay my cy)) = wdnnnnt := ⟨_, rfl⟩
          rw [hwn] at hn hc ⊢
          clear hwn
          have hX1 := ownsRow_chg' hX hc (fun k hk h => own_ne hX hq (by decide) k hk h)
          have hY1 := ownsRow_chg' hY hc (fun k hk h => own_ne hY hq (by decide) k hk h)
          have ho := (hc.block p (heap_lt hp) (fun h => hpq h)).trans hp
          have hS1 := below_chg hS hc hqb (Nat.le_refl _)
          clear hX hY hq hp hS hc
          have hX := hX1
          have hY := hY1
          have hq := hn
          have hp := ho
          have hS := hS1
          clear hX1 hY1 hn ho hS1
          refine hK _ _ hS ?_
          clear hK K
          try simp only [Act.put, List.setIfInBounds_toArray, List.set_cons_zero, List.set_cons_succ]
          refine wpAnyH_done (by kernel_rfl) ?_ _
          refine NoPanic.normal ?_
          go_wp2_with fail
          go_meet
          case rel => exact ⟨p, q, ax, ay, mx, cx, my, cy, _, _, rfl, rfl, hp, hq, hX, hY, hS⟩
    · go_simp
      obtain ⟨wdn, hwn⟩ : ∃ wdn, wd.alloc (.cells #[.int .i64 0, .int .i64 0, .int .i64 0, .slice none 0 0] 50) = wdn := ⟨_, rfl⟩
      have hb : Below wd.heap.size wd wdn := hwn ▸ (Below.refl _ _).alloc (Nat.le_refl _) _
      have hp : wdn.heap[wd.heap.size]? = some (.cells #[.int .i64 0, .int .i64 0, .int .i64 0, .slice none 0 0] 50 (0, 0)) := by rw [← hwn]; exact heap_alloc_new _ _
      rw [hwn]
      obtain ⟨p, hpe⟩ : ∃ p, wd.heap.size = p := ⟨_, rfl⟩
      have hpb : w1.heap.size ≤ p := hpe ▸ hS.size
      rw [hpe] at hp ⊢
      clear hwn hpe
      replace hS := hS.trans (hb.mono hS.size)
      clear hb
      refine hK _ _ hS ?_
      clear hK K
      try simp only [Act.put, List.setIfInBounds_toArray, List.set_cons_zero, List.set_cons_succ]
      refine wpAnyH_two (i := 1) (j := 5) (by kernel_rfl) rfl rfl rfl rfl (fun K hK => ?_) (fun K hK => ?_) 
      · go_simp
        go_at_call 27
        refine (HOFA.out _ hS).mono ?_
        rintro e wdnn ⟨ax, mx, cx, rfl, hmx, hX, hb⟩
        clear hmx
        replace hX := ownsRow_base hX hS.size
        replace hp := (hb.block _ (heap_lt hp)).trans hp
        replace hS := hS.trans (hb.mono hS.size)
        clear hb
        refine hK _ _ hS ?_
        clear hK K
        try simp only [Act.put, List.setIfInBounds_toArray, List.set_cons_zero, List.set_cons_succ]
        refine wpAnyH_two (i := 3) (j := 5) (by kernel_rfl) rfl rfl rfl rfl (fun K hK => ?_) (fun K hK => ?_) 
        · go_simp
          go_at_call 27
          refine (HOFB.out _ hS).mono ?_
          rintro e wdnnn ⟨ay, my, cy, rfl, hmy, hY, hb⟩
          clear hmy
          replace hY := ownsRow_base hY hS.size
          replace hX := own_kept hX hb
          replace hp := (hb.block _ (heap_lt hp)).trans hp
          replace hS := hS.trans (hb.mono hS.size)
          clear hb
          refine hK _ _ hS ?_
          clear hK K
          try simp only [Act.put, List.setIfInBounds_toArray, List.set_cons_zero, List.set_cons_succ]
          refine wpAnyH_do (i := 5) (by kernel_rfl) rfl rfl (fun K hK => ?_)
          go_simp
          obtain ⟨wdnnnn, hwn⟩ : ∃ wdnnnn, wdnnn.alloc (.cells #[.int .i64 0, .int .i64 0, .int .i64 0, .slice none 0 0] 50) = wdnnnn := ⟨_, rfl⟩
          have hb : Below wdnnn.heap.size wdnnn wdnnnn := hwn ▸ (Below.refl _ _).alloc (Nat.le_refl _) _
          have hq : wdnnnn.heap[wdnnn.heap.size]? = some (.cells #[.int .i64 0, .int .i64 0, .int .i64 0, .slice none 0 0] 50 (0, 0)) := by rw [← hwn]; exact heap_alloc_new _ _
          rw [hwn]
          obtain ⟨q, hqe⟩ : ∃ q, wdnnn.heap.size = q := ⟨_, rfl⟩
          have hqb : w1.heap.size ≤ q := hqe ▸ hS.size
          rw [hqe] at hq ⊢
          have hpq : p ≠ q := by have := heap_lt hp; omega
          clear hwn hqe
          replace hX := own_kept hX hb
          replace hY := own_kept hY hb
          replace hp := (hb.block _ (heap_lt hp)).trans hp
          replace hS := hS.trans (hb.mono hS.size)
          clear hb
          refine hK _ _ hS ?_
          clear hK K
          try simp only [Act.put, List.setIfInBounds_toArray, List.set_cons_zero, List.set_cons_succ]
          refine wpAnyH_do (i := 6) (by kernel_rfl) rfl rfl (fun K hK => ?_)
          obtain ⟨e0, e1, e2, e3, ef⟩ := row4 hp
          go_simp
          clear e0 e1 e2 e3 ef
          obtain ⟨hn, hc⟩ := store4 hp (.int .i64 k) (.int .i64 g) (.int .i64 n) (.slice ax mx cx)
          obtain ⟨wdnnnns, hwn⟩ : ∃ wdnnnns, ((((wdnnnn.setCell ⟨p, 0, none⟩ (.int .i64 k)).setCell ⟨p, 1, none⟩ (.int .i64 g)).setCell ⟨p, 2, none⟩ (.int .i64 n)).setCell ⟨p, 3, none⟩ (.slice ax mx cx)) = wdnnnns := ⟨_, rfl⟩
          rw [hwn] at hn hc ⊢
          clear hwn
          have hX1 := ownsRow_chg' hX hc (fun k hk h => own_ne hX hp (by decide) k hk h)
          have hY1 := ownsRow_chg' hY hc (fun k hk h => own_ne hY hp (by decide) k hk h)
          have ho := (hc.block q (heap_lt hq) (fun h => hpq h.symm)).trans hq
          have hS1 := below_chg hS hc hpb (Nat.le_refl _)
          clear hX hY hp hq hS hc
          have hX := hX1
          have hY := hY1
          have hp := hn
          have hq := ho
          have hS := hS1
          clear hX1 hY1 hn ho hS1
          refine hK _ _ hS ?_
          clear hK K
          try simp only [Act.put, List.setIfInBounds_toArray, List.set_cons_zero, List.set_cons_succ]
          refine wpAnyH_do (i := 7) (by kernel_rfl) rfl rfl (fun K hK => ?_)
          obtain ⟨e0, e1, e2, e3, ef⟩ := row4 hq
          go_simp
          clear e0 e1 e2 e3 ef
          obtain ⟨hn, hc⟩ := store4 hq (.int .i64 k2) (.int .i64 g2) (.int .i64 n2) (.slice ay my cy)
          obtain ⟨wdnnnnt, hwn⟩ : ∃ wdnnnnt, ((((wdnnnns.setCell ⟨q, 0, none⟩ (.int .i64 k2)).setCell ⟨q, 1, none⟩ (.int .i64 g2)).setCell ⟨q, 2, none⟩ (.int .i64 n2)).setCell ⟨q, 3, none⟩ (.slice ay my cy)) = wdnnnnt := ⟨_, rfl⟩
          rw [hwn] at hn hc ⊢
          clear hwn
          have hX1 := ownsRow_chg' hX hc (fun k hk h => own_ne hX hq (by decide) k hk h)
          have hY1 := ownsRow_chg' hY hc (fun k hk h => own_ne hY hq (by decide) k hk h)
          have ho := (hc.block p (heap_lt hp) (fun h => hpq h)).trans hp
          have hS1 := below_chg hS hc hqb (Nat.le_refl _)
          clear hX hY hq hp hS hc
          have hX := hX1
          have hY := hY1
          have hq := hn
          have hp := ho
          have hS := hS1
          clear hX1 hY1 hn ho hS1
          refine hK _ _ hS ?_
          clear hK K
          try simp only [Act.put, List.setIfInBounds_toArray, List.set_cons_zero, List.set_cons_succ]
          refine wpAnyH_done (by kernel_rfl) ?_ _
          refine NoPanic.normal ?_
          go_wp2_with fail
          go_meet
          case rel => exact ⟨p, q, ax, ay, mx, cx, my, cy, _, _, rfl, rfl, hp, hq, hX, hY, hS⟩
        · go_simp
          obtain ⟨wdnnn, hwn⟩ : ∃ wdnnn, wdnn.alloc (.cells #[.int .i64 0, .int .i64 0, .int .i64 0, .slice none 0 0] 50) = wdnnn := ⟨_, rfl⟩
          have hb : Below wdnn.heap.size wdnn wdnnn := hwn ▸ (Below.refl _ _).alloc (Nat.le_refl _) _
          have hq : wdnnn.heap[wdnn.heap.size]? = some (.cells #[.int .i64 0, .int .i64 0, .int .i64 0, .slice none 0 0] 50 (0, 0)) := by rw [← hwn]; exact heap_alloc_new _ _
          rw [hwn]
          obtain ⟨q, hqe⟩ : ∃ q, wdnn.heap.size = q := ⟨_, rfl⟩
          have hqb : w1.heap.size ≤ q := hqe ▸ hS.size
          rw [hqe] at hq ⊢
          have hpq : p ≠ q := by have := heap_lt hp; omega
          clear hwn hqe
          replace hX := own_kept hX hb
          replace hp := (hb.block _ (heap_lt hp)).trans hp
          replace hS := hS.trans (hb.mono hS.size)
          clear hb
          refine hK _ _ hS ?_
          clear hK K
          try simp only [Act.put, List.setIfInBounds_toArray, List.set_cons_zero, List.set_cons_succ]
          refine wpAnyH_do (i := 3) (by kernel_rfl) rfl rfl (fun K hK => ?_)
          go_simp
          go_at_call 27
          refine (HOFB.out _ hS).mono ?_
          rintro e wdnnnn ⟨ay, my, cy, rfl, hmy, hY, hb⟩
          clear hmy
          replace hY := ownsRow_base hY hS.size
          replace hX := own_kept hX hb
          replace hp := (hb.block _ (heap_lt hp)).trans hp
          replace hq := (hb.block _ (heap_lt hq)).trans hq
          replace hS := hS.trans (hb.mono hS.size)
          clear hb
          refine hK _ _ hS ?_
          clear hK K
          try simp only [Act.put, List.setIfInBounds_toArray, List.set_cons_zero, List.set_cons_succ]
          refine wpAnyH_do (i := 6) (by kernel_rfl) rfl rfl (fun K hK => ?_)
          obtain ⟨e0, e1, e2, e3, ef⟩ := row4 hp
          go_simp
          clear e0 e1 e2 e3 ef
          obtain ⟨hn, hc⟩ := store4 hp (.int .i64 k) (.int .i64 g) (.int .i64 n) (.slice ax mx cx)
          obtain ⟨wdnnnns, hwn⟩ : ∃ wdnnnns, ((((wdnnnn.setCell ⟨p, 0, none⟩ (.int .i64 k)).setCell ⟨p, 1, none⟩ (.int .i64 g)).setCell ⟨p, 2, none⟩ (.int .i64 n)).setCell ⟨p, 3, none⟩ (.slice ax mx cx)) = wdnnnns := ⟨_, rfl⟩
          rw [hwn] at hn hc ⊢
          clear hwn
          have hX1 := ownsRow_chg' hX hc (fun k hk h => own_ne hX hp (by decide) k hk h)
          have hY1 := ownsRow_chg' hY hc (fun k hk h => own_ne hY hp (by decide) k hk h)
          have ho := (hc.block q (heap_lt hq) (fun h => hpq h.symm)).trans hq
          have hS1 := below_chg hS hc hpb (Nat.le_refl _)
          clear hX hY hp hq hS hc
          have hX := hX1
          have hY := hY1
          have hp := hn
          have hq := ho
          have hS := hS1
          clear hX1 hY1 hn ho hS1
          refine hK _ _ hS ?_
          clear hK K
          try simp only [Act.put, List.setIfInBounds_toArray, List.set_cons_zero, List.set_cons_succ]
          refine wpAnyH_do (i := 7) (by kernel_rfl) rfl rfl (fun K hK => ?_)
          obtain ⟨e0, e1, e2, e3, ef⟩ := row4 hq
          go_simp
          clear e0 e1 e2 e3 ef
          obtain ⟨hn, hc⟩ := store4 hq (.int .i64 k2) (.int .i64 g2) (.int .i64 n2) (.slice ay my cy)
          obtain ⟨wdnnnnt, hwn⟩ : ∃ wdnnnnt, ((((wdnnnns.setCell ⟨q, 0, none⟩ (.int .i64 k2)).setCell ⟨q, 1, none⟩ (.int .i64 g2)).setCell ⟨q, 2, none⟩ (.int .i64 n2)).setCell ⟨q, 3, none⟩ (.slice ay my cy)) = wdnnnnt := ⟨_, rfl⟩
          rw [hwn] at hn hc ⊢
          clear hwn
          have hX1 := ownsRow_chg' hX hc (fun k hk h => own_ne hX hq (by decide) k hk h)
          have hY1 := ownsRow_chg' hY hc (fun k hk h => own_ne hY hq (by decide) k hk h)
          have ho := (hc.block p (heap_lt hp) (fun h => hpq h)).trans hp
          have hS1 := below_chg hS hc hqb (Nat.le_refl _)
          clear hX hY hq hp hS hc
          have hX := hX1
          have hY := hY1
          have hq := hn
          have hp := ho
          have hS := hS1
          clear hX1 hY1 hn ho hS1
          refine hK _ _ hS ?_
          clear hK K
          try simp only [Act.put, List.setIfInBounds_toArray, List.set_cons_zero, List.set_cons_succ]
          refine wpAnyH_done (by kernel_rfl) ?_ _
          refine NoPanic.normal ?_
          go_wp2_with fail
          go_meet
          case rel => exact ⟨p, q, ax, ay, mx, cx, my, cy, _, _, rfl, rfl, hp, hq, hX, hY, hS⟩
      · go_simp
        obtain ⟨wdnn, hwn⟩ : ∃ wdnn, wdn.alloc (.cells #[.int .i64 0, .int .i64 0, .int .i64 0, .slice none 0 0] 50) = wdnn := ⟨_, rfl⟩
        have hb : Below wdn.heap.size wdn wdnn := hwn ▸ (Below.refl _ _).alloc (Nat.le_refl _) _
        have hq : wdnn.heap[wdn.heap.size]? = some (.cells #[.int .i64 0, .int .i64 0, .int .i64 0, .slice none 0 0] 50 (0, 0)) := by rw [← hwn]; exact heap_alloc_new _ _
        rw [hwn]
        obtain ⟨q, hqe⟩ : ∃ q, wdn.heap.size = q := ⟨_, rfl⟩
        have hqb : w1.heap.size ≤ q := hqe ▸ hS.size
        rw [hqe] at hq ⊢
        have hpq : p ≠ q := by have := heap_lt hp; omega
        clear hwn hqe
        replace hp := (hb.block _ (heap_lt hp)).trans hp
        replace hS := hS.trans (hb.mono hS.size)
        clear hb
        refine hK _ _ hS ?_
        clear hK K
        try simp only [Act.put, List.setIfInBounds_toArray, List.set_cons_zero, List.set_cons_succ]
        refine wpAnyH_do (i := 1) (by kernel_rfl) rfl rfl (fun K hK => ?_)
        go_simp
        go_at_call 27
        refine (HOFA.out _ hS).mono ?_
        rintro e wdnnn ⟨ax, mx, cx, rfl, hmx, hX, hb⟩
        clear hmx
        replace hX := ownsRow_base hX hS.size
        replace hp := (hb.block _ (heap_lt hp)).trans hp
        replace hq := (hb.block _ (heap_lt hq)).trans hq
        replace hS := hS.trans (hb.mono hS.size)
        clear hb
        refine hK _ _ hS ?_
        clear hK K
        try simp only [Act.put, List.setIfInBounds_toArray, List.set_cons_zero, List.set_cons_succ]
        refine wpAnyH_do (i := 3) (by kernel_rfl) rfl rfl (fun K hK => ?_)
        go_simp
        go_at_call 27
        refine (HOFB.out _ hS).mono ?_
        rintro e wdnnnn ⟨ay, my, cy, rfl, hmy, hY, hb⟩
        clear hmy
        replace hY := ownsRow_base hY hS.size
        replace hX := own_kept hX hb
        replace hp := (hb.block _ (heap_lt hp)).trans hp
        replace hq := (hb.block _ (heap_lt hq)).trans hq
        replace hS := hS.trans (hb.mono hS.size)
        clear hb
        refine hK _ _ hS ?_
        clear hK K
        try simp only [Act.put, List.setIfInBounds_toArray, List.set_cons_zero, List.set_cons_succ]
        refine wpAnyH_do (i := 6) (by kernel_rfl) rfl rfl (fun K hK => ?_)
        obtain ⟨e0, e1, e2, e3, ef⟩ := row4 hp
        go_simp
        clear e0 e1 e2 e3 ef
        obtain ⟨hn, hc⟩ := store4 hp (.int .i64 k) (.int .i64 g) (.int .i64 n) (.slice ax mx cx)
        obtain ⟨wdnnnns, hwn⟩ : ∃ wdnnnns, ((((wdnnnn.setCell ⟨p, 0, none⟩ (.int .i64 k)).setCell ⟨p, 1, none⟩ (.int .i64 g)).setCell ⟨p, 2, none⟩ (.int .i64 n)).setCell ⟨p, 3, none⟩ (.slice ax mx cx)) = wdnnnns := ⟨_, rfl⟩
        rw [hwn] at hn hc ⊢
        clear hwn
        have hX1 := ownsRow_chg' hX hc (fun k hk h => own_ne hX hp (by decide) k hk h)
        have hY1 := ownsRow_chg' hY hc (fun k hk h => own_ne hY hp (by decide) k hk h)
        have ho := (hc.block q (heap_lt hq) (fun h => hpq h.symm)).trans hq
        have hS1 := below_chg hS hc hpb (Nat.le_refl _)
        clear hX hY hp hq hS hc
        have hX := hX1
        have hY := hY1
        have hp := hn
        have hq := ho
        have hS := hS1
        clear hX1 hY1 hn ho hS1
        refine hK _ _ hS ?_
        clear hK K
        try simp only [Act.put, List.setIfInBounds_toArray, List.set_cons_zero, List.set_cons_succ]
        refine wpAnyH_do (i := 7) (by kernel_rfl) rfl rfl (fun K hK => ?_)
        obtain ⟨e0, e1, e2, e3, ef⟩ := row4 hq
        go_simp
        clear e0 e1 e2 e3 ef
        obtain ⟨hn, hc⟩ := store4 hq (.int .i64 k2) (.int .i64 g2) (.int .i64 n2) (.slice ay my cy)
        obtain ⟨wdnnnnt, hwn⟩ : ∃ wdnnnnt, ((((wdnnnns.setCell ⟨q, 0, none⟩ (.int .i64 k2)).setCell ⟨q, 1, none⟩ (.int .i64 g2)).setCell ⟨q, 2, none⟩ (.int .i64 n2)).setCell ⟨q, 3, none⟩ (.slice ay my cy)) = wdnnnnt := ⟨_, rfl⟩
        rw [hwn] at hn hc ⊢
        clear hwn
        have hX1 := ownsRow_chg' hX hc (fun k hk h => own_ne hX hq (by decide) k hk h)
        have hY1 := ownsRow_chg' hY hc (fun k hk h => own_ne hY hq (by decide) k hk h)
        have ho := (hc.block p (heap_lt hp) (fun h => hpq h)).trans hp
        have hS1 := below_chg hS hc hqb (Nat.le_refl _)
        clear hX hY hq hp hS hc
        have hX := hX1
        have hY := hY1
        have hq := hn
        have hp := ho
        have hS := hS1
        clear hX1 hY1 hn ho hS1
        refine hK _ _ hS ?_
        clear hK K
        try simp only [Act.put, List.setIfInBounds_toArray, List.set_cons_zero, List.set_cons_succ]
        refine wpAnyH_done (by kernel_rfl) ?_ _
        refine NoPanic.normal ?_
        go_wp2_with fail
        go_meet
        case rel => exact ⟨p, q, ax, ay, mx, cx, my, cy, _, _, rfl, rfl, hp, hq, hX, hY, hS⟩
    · go_simp
      obtain ⟨wdn, hwn⟩ : ∃ wdn, wd.alloc (.cells #[.int .i64 0, .int .i64 0, .int .i64 0, .slice none 0 0] 50) = wdn := ⟨_, rfl⟩
      have hb : Below wd.heap.size wd wdn := hwn ▸ (Below.refl _ _).alloc (Nat.le_refl _) _
      have hq : wdn.heap[wd.heap.size]? = some (.cells #[.int .i64 0, .int .i64 0, .int .i64 0, .slice none 0 0] 50 (0, 0)) := by rw [← hwn]; exact heap_alloc_new _ _
      rw [hwn]
      obtain ⟨q, hqe⟩ : ∃ q, wd.heap.size = q := ⟨_, rfl⟩
      have hqb : w1.heap.size ≤ q := hqe ▸ hS.size
      rw [hqe] at hq ⊢
      clear hwn hqe
      replace hS := hS.trans (hb.mono hS.size)
      clear hb
      refine hK _ _ hS ?_
      clear hK K
      try simp only [Act.put, List.setIfInBounds_toArray, List.set_cons_zero, List.set_cons_succ]
      refine wpAnyH_two (i := 1) (j := 4) (by kernel_rfl) rfl rfl rfl rfl (fun K hK => ?_) (fun K hK => ?_) 
      · go_simp
        go_at_call 27
        refine (HOFA.out _ hS).mono ?_
        rintro e wdnn ⟨ax, mx, cx, rfl, hmx, hX, hb⟩
        clear hmx
        replace hX := ownsRow_base hX hS.size
        replace hq := (hb.block _ (heap_lt hq)).trans hq
        replace hS := hS.trans (hb.mono hS.size)
        clear hb
        refine hK _ _ hS ?_
        clear hK K
        try simp only [Act.put, List.setIfInBounds_toArray, List.set_cons_zero, List.set_cons_succ]
        refine wpAnyH_two (i := 3) (j := 4) (by kernel_rfl) rfl rfl rfl rfl (fun K hK => ?_) (fun K hK => ?_) 
        · go_simp
          go_at_call 27
          refine (HOFB.out _ hS).mono ?_
          rintro e wdnnn ⟨ay, my, cy, rfl, hmy, hY, hb⟩
          clear hmy
          replace hY := ownsRow_base hY hS.size
          replace hX := own_kept hX hb
          replace hq := (hb.block _ (heap_lt hq)).trans hq
          replace hS := hS.trans (hb.mono hS.size)
          clear hb
          refine hK _ _ hS ?_
          clear hK K
          try simp only [Act.put, List.setIfInBounds_toArray, List.set_cons_zero, List.set_cons_succ]
          refine wpAnyH_do (i := 4) (by kernel_rfl) rfl rfl (fun K hK => ?_)
          go_simp
          obtain ⟨wdnnnn, hwn⟩ : ∃ wdnnnn, wdnnn.alloc (.cells #[.int .i64 0, .int .i64 0, .int .i64 0, .slice none 0 0] 50) = wdnnnn := ⟨_, rfl⟩
          have hb : Below wdnnn.heap.size wdnnn wdnnnn := hwn ▸ (Below.refl _ _).alloc (Nat.le_refl _) _
          have hp : wdnnnn.heap[wdnnn.heap.size]? = some (.cells #[.int .i64 0, .int .i64 0, .int .i64 0, .slice none 0 0] 50 (0, 0)) := by rw [← hwn]; exact heap_alloc_new _ _
          rw [hwn]
          obtain ⟨p, hpe⟩ : ∃ p, wdnnn.heap.size = p := ⟨_, rfl⟩
          have hpb : w1.heap.size ≤ p := hpe ▸ hS.size
          rw [hpe] at hp ⊢
          have hpq : p ≠ q := by have := heap_lt hq; omega
          clear hwn hpe
          replace hX := own_kept hX hb
          replace hY := own_kept hY hb
          replace hq := (hb.block _ (heap_lt hq)).trans hq
          replace hS := hS.trans (hb.mono hS.size)
          clear hb
          refine hK _ _ hS ?_
          clear hK K
          try simp only [Act.put, List.setIfInBounds_toArray, List.set_cons_zero, List.set_cons_succ]
          refine wpAnyH_do (i := 6) (by kernel_rfl) rfl rfl (fun K hK => ?_)
          obtain ⟨e0, e1, e2, e3, ef⟩ := row4 hp
          go_simp
          clear e0 e1 e2 e3 ef
          obtain ⟨hn, hc⟩ := store4 hp (.int .i64 k) (.int .i64 g) (.int .i64 n) (.slice ax mx cx)
          obtain ⟨wdnnnns, hwn⟩ : ∃ wdnnnns, ((((wdnnnn.setCell ⟨p, 0, none⟩ (.int .i64 k)).setCell ⟨p, 1, none⟩ (.int .i64 g)).setCell ⟨p, 2, none⟩ (.int .i64 n)).setCell ⟨p, 3, none⟩ (.slice ax mx cx)) = wdnnnns := ⟨_, rfl⟩
          rw [hwn] at hn hc ⊢
          clear hwn
          have hX1 := ownsRow_chg' hX hc (fun k hk h => own_ne hX hp (by decide) k hk h)
          have hY1 := ownsRow_chg' hY hc (fun k hk h => own_ne hY hp (by decide) k hk h)
          have ho := (hc.block q (heap_lt hq) (fun h => hpq h.symm)).trans hq
          have hS1 := below_chg hS hc hpb (Nat.le_refl _)
          clear hX hY hp hq hS hc
          have hX := hX1
          have hY := hY1
          have hp := hn
          have hq := ho
          have hS := hS1
          clear hX1 hY1 hn ho hS1
          refine hK _ _ hS ?_
          clear hK K
          try simp only [Act.put, List.setIfInBounds_toArray, List.set_cons_zero, List.set_cons_succ]
          refine wpAnyH_do (i := 7) (by kernel_rfl) rfl rfl (fun K hK => ?_)
          obtain ⟨e0, e1, e2, e3, ef⟩ := row4 hq
          go_simp
          clear e0 e1 e2 e3 ef
          obtain ⟨hn, hc⟩ := store4 hq (.int .i64 k2) (.int .i64 g2) (.int .i64 n2) (.slice ay my cy)
          obtain ⟨wdnnnnt, hwn⟩ : ∃ wdnnnnt, ((((wdnnnns.setCell ⟨q, 0, none⟩ (.int .i64 k2)).setCell ⟨q, 1, none⟩ (.int .i64 g2)).setCell ⟨q, 2, none⟩ (.int .i64 n2)).setCell ⟨q, 3, none⟩ (.slice ay my cy)) = wdnnnnt := ⟨_, rfl⟩
          rw [hwn] at hn hc ⊢
          clear hwn
          have hX1 := ownsRow_chg' hX hc (fun k hk h => own_ne hX hq (by decide) k hk h)
          have hY1 := ownsRow_chg' hY hc (fun k hk h => own_ne hY hq (by decide) k hk h)
          have ho := (hc.block p (heap_lt hp) (fun h => hpq h)).trans hp
          have hS1 := below_chg hS hc hqb (Nat.le_refl _)
          clear hX hY hq hp hS hc
          have hX := hX1
          have hY := hY1
          have hq := hn
          have hp := ho
          have hS := hS1
          clear hX1 hY1 hn ho hS1
          refine hK _ _ hS ?_
          clear hK K
          try simp only [Act.put, List.setIfInBounds_toArray, List.set_cons_zero, List.set_cons_succ]
          refine wpAnyH_done (by kernel_rfl) ?_ _
          refine NoPanic.normal ?_
          go_wp2_with fail
          go_meet
          case rel => exact ⟨p, q, ax, ay, mx, cx, my, cy, _, _, rfl, rfl, hp, hq, hX, hY, hS⟩
        · go_simp
          obtain ⟨wdnnn, hwn⟩ : ∃ wdnnn, wdnn.alloc (.cells #[.int .i64 0, .int .i64 0, .int .i64 0, .slice none 0 0] 50) = wdnnn := ⟨_, rfl⟩
          have hb : Below wdnn.heap.size wdnn wdnnn := hwn ▸ (Below.refl _ _).alloc (Nat.le_refl _) _
          have hp : wdnnn.heap[wdnn.heap.size]? = some (.cells #[.int .i64 0, .int .i64 0, .int .i64 0, .slice none 0 0] 50 (0, 0)) := by rw [← hwn]; exact heap_alloc_new _ _
          rw [hwn]
          obtain ⟨p, hpe⟩ : ∃ p, wdnn.heap.size = p := ⟨_, rfl⟩
          have hpb : w1.heap.size ≤ p := hpe ▸ hS.size
          rw [hpe] at hp ⊢
          have hpq : p ≠ q := by have := heap_lt hq; omega
          clear hwn hpe
          replace hX := own_kept hX hb
          replace hq := (hb.block _ (heap_lt hq)).trans hq
          replace hS := hS.trans (hb.mono hS.size)
          clear hb
          refine hK _ _ hS ?_
          clear hK K
          try simp only [Act.put, List.setIfInBounds_toArray, List.set_cons_zero, List.set_cons_succ]
          refine wpAnyH_do (i := 3) (by kernel_rfl) rfl rfl (fun K hK => ?_)
          go_simp
          go_at_call 27
          refine (HOFB.out _ hS).mono ?_
          rintro e wdnnnn ⟨ay, my, cy, rfl, hmy, hY, hb⟩
          clear hmy
          replace hY := ownsRow_base hY hS.size
          replace hX := own_kept hX hb
          replace hp := (hb.block _ (heap_lt hp)).trans hp
          replace hq := (hb.block _ (heap_lt hq)).trans hq
          replace hS := hS.trans (hb.mono hS.size)
          clear hb
          refine hK _ _ hS ?_
          clear hK K
          try simp only [Act.put, List.setIfInBounds_toArray, List.set_cons_zero, List.set_cons_succ]
          refine wpAnyH_do (i := 6) (by kernel_rfl) rfl rfl (fun K hK => ?_)
          obtain ⟨e0, e1, e2, e3, ef⟩ := row4 hp
          go_simp
          clear e0 e1 e2 e3 ef
          obtain ⟨hn, hc⟩ := store4 hp (.int .i64 k) (.int .i64 g) (.int .i64 n) (.slice ax mx cx)
          obtain ⟨wdnnnns, hwn⟩ : ∃ wdnnnns, ((((wdnnnn.setCell ⟨p, 0, none⟩ (.int .i64 k)).setCell ⟨p, 1, none⟩ (.int .i64 g)).setCell ⟨p, 2, none⟩ (.int .i64 n)).setCell ⟨p, 3, none⟩ (.slice ax mx cx)) = wdnnnns := ⟨_, rfl⟩
          rw [hwn] at hn hc ⊢
          clear hwn
          have hX1 := ownsRow_chg' hX hc (fun k hk h => own_ne hX hp (by decide) k hk h)
          have hY1 := ownsRow_chg' hY hc (fun k hk h => own_ne hY hp (by decide) k hk h)
          have ho := (hc.block q (heap_lt hq) (fun h => hpq h.symm)).trans hq
          have hS1 := below_chg hS hc hpb (Nat.le_refl _)
          clear hX hY hp hq hS hc
          have hX := hX1
          have hY := hY1
          have hp := hn
          have hq := ho
          have hS := hS1
          clear hX1 hY1 hn ho hS1
          refine hK _ _ hS ?_
          clear hK K
          try simp only [Act.put, List.setIfInBounds_toArray, List.set_cons_zero, List.set_cons_succ]
          refine wpAnyH_do (i := 7) (by kernel_rfl) rfl rfl (fun K hK => ?_)
          obtain ⟨e0, e1, e2, e3, ef⟩ := row4 hq
          go_simp
          clear e0 e1 e2 e3 ef
          obtain ⟨hn, hc⟩ := store4 hq (.int .i64 k2) (.int .i64 g2) (.int .i64 n2) (.slice ay my cy)
          obtain ⟨wdnnnnt, hwn⟩ : ∃ wdnnnnt, ((((wdnnnns.setCell ⟨q, 0, none⟩ (.int .i64 k2)).setCell ⟨q, 1, none⟩ (.int .i64 g2)).setCell ⟨q, 2, none⟩ (.int .i64 n2)).setCell ⟨q, 3, none⟩ (.slice ay my cy)) = wdnnnnt := ⟨_, rfl⟩
          rw [hwn] at hn hc ⊢
          clear hwn
          have hX1 := ownsRow_chg' hX hc (fun k hk h => own_ne hX hq (by decide) k hk h)
          have hY1 := ownsRow_chg' hY hc (fun k hk h => own_ne hY hq (by decide) k hk h)
          have ho := (hc.block p (heap_lt hp) (fun h => hpq h)).trans hp
          have hS1 := below_chg hS hc hqb (Nat.le_refl _)
          clear hX hY hq hp hS hc
          have hX := hX1
          have hY := hY1
          have hq := hn
          have hp := ho
          have hS := hS1
          clear hX1 hY1 hn ho hS1
          refine hK _ _ hS ?_
          clear hK K
          try simp only [Act.put, List.setIfInBounds_toArray, List.set_cons_zero, List.set_cons_succ]
          refine wpAnyH_done (by kernel_rfl) ?_ _
          refine NoPanic.normal ?_
          go_wp2_with fail
          go_meet
          case rel => exact ⟨p, q, ax, ay, mx, cx, my, cy, _, _, rfl, rfl, hp, hq, hX, hY, hS⟩
      · go_simp
        obtain ⟨wdnn, hwn⟩ : ∃ wdnn, wdn.alloc (.cells #[.int .i64 0, .int .i64 0, .int .i64 0, .slice none 0 0] 50) = wdnn := ⟨_, rfl⟩
        have hb : Below wdn.heap.size wdn wdnn := hwn ▸ (Below.refl _ _).alloc (Nat.le_refl _) _
        have hp : wdnn.heap[wdn.heap.size]? = some (.cells #[.int .i64 0, .int .i64 0, .int .i64 0, .slice none 0 0] 50 (0, 0)) := by rw [← hwn]; exact heap_alloc_new _ _
        rw [hwn]
        obtain ⟨p, hpe⟩ : ∃ p, wdn.heap.size = p := ⟨_, rfl⟩
        have hpb : w1.heap.size ≤ p := hpe ▸ hS.size
        rw [hpe] at hp ⊢
        have hpq : p ≠ q := by have := heap_lt hq; omega
        clear hwn hpe
        replace hq := (hb.block _ (heap_lt hq)).trans hq
        replace hS := hS.trans (hb.mono hS.size)
        clear hb
        refine hK _ _ hS ?_
        clear hK K
        try simp only [Act.put, List.setIfInBounds_toArray, List.set_cons_zero, List.set_cons_succ]
        refine wpAnyH_do (i := 1) (by kernel_rfl) rfl rfl (fun K hK => ?_)
        go_simp
        go_at_call 27
        refine (HOFA.out _ hS).mono ?_
        rintro e wdnnn ⟨ax, mx, cx, rfl, hmx, hX, hb⟩
        clear hmx
        replace hX := ownsRow_base hX hS.size
        replace hp := (hb.block _ (heap_lt hp)).trans hp
        replace hq := (hb.block _ (heap_lt hq)).trans hq
        replace hS := hS.trans (hb.mono hS.size)
        clear hb
        refine hK _ _ hS ?_
        clear hK K
        try simp only [Act.put, List.setIfInBounds_toArray, List.set_cons_zero, List.set_cons_succ]
        refine wpAnyH_do (i := 3) (by kernel_rfl) rfl rfl (fun K hK => ?_)
        go_simp
        go_at_call 27
        refine (HOFB.out _ hS).mono ?_
        rintro e wdnnnn ⟨ay, my, cy, rfl, hmy, hY, hb⟩
        clear hmy
        replace hY := ownsRow_base hY hS.size
        replace hX := own_kept hX hb
        replace hp := (hb.block _ (heap_lt hp)).trans hp
        replace hq := (hb.block _ (heap_lt hq)).trans hq
        replace hS := hS.trans (hb.mono hS.size)
        clear hb
        refine hK _ _ hS ?_
        clear hK K
        try simp only [Act.put, List.setIfInBounds_toArray, List.set_cons_zero, List.set_cons_succ]
        refine wpAnyH_do (i := 6) (by kernel_rfl) rfl rfl (fun K hK => ?_)
        obtain ⟨e0, e1, e2, e3, ef⟩ := row4 hp
        go_simp
        clear e0 e1 e2 e3 ef
        obtain ⟨hn, hc⟩ := store4 hp (.int .i64 k) (.int .i64 g) (.int .i64 n) (.slice ax mx cx)
        obtain ⟨wdnnnns, hwn⟩ : ∃ wdnnnns, ((((wdnnnn.setCell ⟨p, 0, none⟩ (.int .i64 k)).setCell ⟨p, 1, none⟩ (.int .i64 g)).setCell ⟨p, 2, none⟩ (.int .i64 n)).setCell ⟨p, 3, none⟩ (.slice ax mx cx)) = wdnnnns := ⟨_, rfl⟩
        rw [hwn] at hn hc ⊢
        clear hwn
        have hX1 := ownsRow_chg' hX hc (fun k hk h => own_ne hX hp (by decide) k hk h)
        have hY1 := ownsRow_chg' hY hc (fun k hk h => own_ne hY hp (by decide) k hk h)
        have ho := (hc.block q (heap_lt hq) (fun h => hpq h.symm)).trans hq
        have hS1 := below_chg hS hc hpb (Nat.le_refl _)
        clear hX hY hp hq hS hc
        have hX := hX1
        have hY := hY1
        have hp := hn
        have hq := ho
        have hS := hS1
        clear hX1 hY1 hn ho hS1
        refine hK _ _ hS ?_
        clear hK K
        try simp only [Act.put, List.setIfInBounds_toArray, List.set_cons_zero, List.set_cons_succ]
        refine wpAnyH_do (i := 7) (by kernel_rfl) rfl rfl (fun K hK => ?_)
        obtain ⟨e0, e1, e2, e3, ef⟩ := row4 hq
        go_simp
        clear e0 e1 e2 e3 ef
        obtain ⟨hn, hc⟩ := store4 hq (.int .i64 k2) (.int .i64 g2) (.int .i64 n2) (.slice ay my cy)
        obtain ⟨wdnnnnt, hwn⟩ : ∃ wdnnnnt, ((((wdnnnns.setCell ⟨q, 0, none⟩ (.int .i64 k2)).setCell ⟨q, 1, none⟩ (.int .i64 g2)).setCell ⟨q, 2, none⟩ (.int .i64 n2)).setCell ⟨q, 3, none⟩ (.slice ay my cy)) = wdnnnnt := ⟨_, rfl⟩
        rw [hwn] at hn hc ⊢
        clear hwn
        have hX1 := ownsRow_chg' hX hc (fun k hk h => own_ne hX hq (by decide) k hk h)
        have hY1 := ownsRow_chg' hY hc (fun k hk h => own_ne hY hq (by decide) k hk h)
        have ho := (hc.block p (heap_lt hp) (fun h => hpq h)).trans hp
        have hS1 := below_chg hS hc hqb (Nat.le_refl _)
        clear hX hY hq hp hS hc
        have hX := hX1
        have hY := hY1
        have hq := hn
        have hp := ho
        have hS := hS1
        clear hX1 hY1 hn ho hS1
        refine hK _ _ hS ?_
        clear hK K
        try simp only [Act.put, List.setIfInBounds_toArray, List.set_cons_zero, List.set_cons_succ]
        refine wpAnyH_done (by kernel_rfl) ?_ _
        refine NoPanic.normal ?_
        go_wp2_with fail
        go_meet
        case rel => exact ⟨p, q, ax, ay, mx, cx, my, cy, _, _, rfl, rfl, hp, hq, hX, hY, hS⟩
  case rest =>
    obtain ⟨p, q, ax, ay, mx, cx, my, cy, lx, ly, rfl, rfl, hp, hq, hX, hY, hS⟩ := hcut
    have hmk := mk_zeros zn (by omega)
    obtain ⟨wm, hwm⟩ : ∃ wm, wc.alloc (.cells (bvs (List.replicate zn 0)).toArray 5) = wm := ⟨_, rfl⟩
    have hbm : Below wc.heap.size wc wm := hwm ▸ (Below.refl _ _).alloc (Nat.le_refl _) _
    have hnm : wm.heap[wc.heap.size]? = some (.cells (bvs (List.replicate zn 0)).toArray 5 (0, 0)) := by rw [← hwm]; exact heap_alloc_new _ _
    obtain ⟨c, hce⟩ : ∃ c, wc.heap.size = c := ⟨_, rfl⟩
    have hC : wm.ownsRow c 5 1 (.slice (some ⟨c, 0, none⟩) zn zn) zn (bvs (List.replicate zn 0)) := by
      rw [hce] at hnm
      exact ownsRow_whole hnm (by simp) (Nat.le_refl _) (by unfold maxLen; omega)
    have hwrap : IntKind.i64.wrap (zn : Int) = (zn : Int) := IntWalk.i64_in _ (by omega)
    have hb0 := IsBlank_any (own_bytes hC) (by simp; omega)
    rw [zerosB_replicate] at hb0
    have HB0 := Lib.hid hb0
    have HWM := Lib.hid hwm
    have HP := Lib.hid ((hbm.block _ (heap_lt hp)).trans hp)
    have HQ := Lib.hid ((hbm.block _ (heap_lt hq)).trans hq)
    have HX := Lib.hid (own_kept hX hbm)
    have HY := Lib.hid (own_kept hY hbm)
    have HBM := Lib.hid (HB1.out.trans ((hS.trans (hbm.mono hS.size)).mono HB1.out.size))
    have HC := Lib.hid hC
    have HCp := Lib.hid (show p ≠ c ∧ q ≠ c from ⟨by have := heap_lt hp; omega, by have := heap_lt hq; omega⟩)
    have HDX := Lib.hid (show ∀ j, (Value.slice ax mx cx).ownBlock = some j → j ≠ c from fun j hj e => by have := (ownsRow_lt hX j hj).2; omega)
    have HDY := Lib.hid (show ∀ j, (Value.slice ay my cy).ownBlock = some j → j ≠ c from fun j hj e => by have := (ownsRow_lt hY j hj).2; omega)
    have HCB := Lib.hid (show w.heap.size ≤ c by have := HB1.out.size; have := hS.size; omega)
    clear hwm hbm hnm hb0 hp hq hX hY hS hC HOFA HOFB HCELL
    obtain ⟨E, hE⟩ : ∃ E, (decide (k = k2) && decide (g = g2) && decide (n = n2) && (lx == ly)) = E := ⟨_, rfl⟩
    have HE := Lib.hid hE
    have hEE : (E == E) = true := by simp
    clear hE
    by_cases h0 : zn = 0
    · have hz0 : ¬ (0 : Int) < (zn : Int) := by omega
      have hzz : ((zn : Int) == 0) = true := by simp [h0]
      have H0 := Lib.hid h0
      clear h0
      go_wp2_with fail
      rw [HWM.out]
      refine HB0.out.mono ?_
      rintro e ws ⟨rfl, rfl⟩
      have hcl : ∀ w' : World, Below wm.heap.size wm w' → w'.cell? ⟨p, 0, none⟩ = some (.int .i64 k) ∧ w'.cell? ⟨p, 1, none⟩ = some (.int .i64 g) ∧ w'.cell? ⟨p, 2, none⟩ = some (.int .i64 n) ∧ w'.cell? ⟨p, 3, none⟩ = some (.slice ax mx cx) ∧
          w'.cell? ⟨q, 0, none⟩ = some (.int .i64 k2) ∧ w'.cell? ⟨q, 1, none⟩ = some (.int .i64 g2) ∧ w'.cell? ⟨q, 2, none⟩ = some (.int .i64 n2) ∧ w'.cell? ⟨q, 3, none⟩ = some (.slice ay my cy) := by
        intro w' hb
        obtain ⟨c0, c1, c2, c3, _⟩ := row4 ((hb.block _ (heap_lt HP.out)).trans HP.out)
        obtain ⟨d0, d1, d2, d3, _⟩ := row4 ((hb.block _ (heap_lt HQ.out)).trans HQ.out)
        exact ⟨c0, c1, c2, c3, d0, d1, d2, d3⟩
      have HCL := Lib.hid hcl
      clear hcl hce HWM
      go_wp2_with fail
      refine wp_region_noPanic ?_
      refine wp_region_H (Below wm.heap.size wm) (by kernel_rfl) ?_
      have hS0 : (Below wm.heap.size wm) wm.drew := (Below.refl _ _).drew
      obtain ⟨wq, hwq⟩ : ∃ wq, wm.drew = wq := ⟨_, rfl⟩
      rw [hwq] at hS0 ⊢
      clear hwq
      refine wpAnyH_do (i := 0) (by kernel_rfl) rfl rfl (fun K hK => ?_)
      go_simp
      go_at_call 18
      refine (known_any (HK.out.below (HBM.out.trans (hS0.mono HBM.out.size)) HK.out.size)).mono ?_
      rintro e wr0 ⟨rfl, hbwr0⟩
      have hSwr0 := hS0.trans (hbwr0.mono hS0.size)
      refine hK _ _ (hSwr0) ?_
      clear hK K
      try simp only [Act.put, List.setIfInBounds_toArray, List.set_cons_zero, List.set_cons_succ]
      refine wpAnyH_takeI (i := 1) (v := ?v3) rfl (by kernel_rfl) (by kernel_rfl) (by kernel_rfl) (fun _ _ _ h => h) (yieldsIf_run rfl (fun w' hw' => ?y3)) hSwr0 ?_
      case y3 => first | (go_simp; rfl) | (go_simp; done) | rfl
      simp only [Act.put, List.setIfInBounds_toArray, List.set_cons_zero, List.set_cons_succ]
      refine wpAnyH_takeI (i := 2) (v := ?v4) rfl (by kernel_rfl) (by kernel_rfl) (by kernel_rfl) (fun _ _ _ h => h) (yieldsIf_want rfl (fun w' hw' => ?y4)) hSwr0 ?_
      case y4 => (obtain ⟨y0, y1, y2, y3, z0, z1, z2, z3⟩ := HCL.out w' hw'; clear hw'; first | (go_simp; rfl) | (go_simp; done))
      simp only [Act.put, List.setIfInBounds_toArray, List.set_cons_zero, List.set_cons_succ]
      refine wpAnyH_takeI (i := 3) (v := ?v5) rfl (by kernel_rfl) (by kernel_rfl) (by kernel_rfl) (fun _ _ _ h => h) (yieldsIf_want rfl (fun w' hw' => ?y5)) hSwr0 ?_
      case y5 => (obtain ⟨y0, y1, y2, y3, z0, z1, z2, z3⟩ := HCL.out w' hw'; clear hw'; first | (go_simp; rfl) | (go_simp; done))
      simp only [Act.put, List.setIfInBounds_toArray, List.set_cons_zero, List.set_cons_succ]
      refine wpAnyH_takeI (i := 5) (v := ?v6) rfl (by kernel_rfl) (by kernel_rfl) (by kernel_rfl) (fun _ _ _ h => h) (yieldsIf_want rfl (fun w' hw' => ?y6)) hSwr0 ?_
      case y6 => (obtain ⟨y0, y1, y2, y3, z0, z1, z2, z3⟩ := HCL.out w' hw'; clear hw'; first | (go_simp; rfl) | (go_simp; done))
      simp only [Act.put, List.setIfInBounds_toArray, List.set_cons_zero, List.set_cons_succ]
      refine wpAnyH_takeI (i := 7) (v := ?v7) rfl (by kernel_rfl) (by kernel_rfl) (by kernel_rfl) (fun _ _ _ h => h) (yieldsIf_want rfl (fun w' hw' => ?y7)) hSwr0 ?_
      case y7 => (obtain ⟨y0, y1, y2, y3, z0, z1, z2, z3⟩ := HCL.out w' hw'; clear hw'; first | (go_simp; rfl) | (go_simp; done))
      simp only [Act.put, List.setIfInBounds_toArray, List.set_cons_zero, List.set_cons_succ]
      refine wpAnyH_want (i := 4) (by kernel_rfl) rfl rfl (fun K hK => ?_)
      go_simp
      go_at_call 43
      refine (Equal_any k g n k2 g2 n2 ax ay mx cx my cy lx ly (own_bytes (own_kept HX.out hSwr0)) (own_bytes (own_kept HY.out hSwr0))).mono ?_
      rintro e wr1 ⟨rfl, hbwr1⟩
      try rw [HE.out]
      have hSwr1 := hSwr0.trans (hbwr1.mono hSwr0.size)
      refine hK _ _ (hSwr1) ?_
      clear hK K
      try simp only [Act.put, List.setIfInBounds_toArray, List.set_cons_zero, List.set_cons_succ]
      refine wpAnyH_want (i := 6) (by kernel_rfl) rfl rfl (fun K hK => ?_)
      go_simp
      go_at_call 30
      refine (to_any k g n ax mx cx wr1).mono ?_
      rintro e wr2 ⟨rfl, hbwr2⟩
      have hSwr2 := hSwr1.trans (hbwr2.mono hSwr1.size)
      refine hK _ _ (hSwr2) ?_
      clear hK K
      try simp only [Act.put, List.setIfInBounds_toArray, List.set_cons_zero, List.set_cons_succ]
      refine wpAnyH_want (i := 8) (by kernel_rfl) rfl rfl (fun K hK => ?_)
      go_simp
      go_at_call 30
      refine (to_any k2 g2 n2 ay my cy wr2).mono ?_
      rintro e wr3 ⟨rfl, hbwr3⟩
      have hSwr3 := hSwr2.trans (hbwr3.mono hSwr2.size)
      refine hK _ _ (hSwr3) ?_
      clear hK K
      try simp only [Act.put, List.setIfInBounds_toArray, List.set_cons_zero, List.set_cons_succ]
      refine wpAnyH_want (i := 9) (by kernel_rfl) rfl rfl (fun K hK => ?_)
      go_simp
      go_at_call 37
      refine (rEqual_any k g n k2 g2 n2 ax ay mx cx my cy lx ly (own_bytes (own_kept HX.out hSwr3)) (own_bytes (own_kept HY.out hSwr3))).mono ?_
      rintro e wr4 ⟨rfl, hbwr4⟩
      try rw [HE.out]
      have hSwr4 := hSwr3.trans (hbwr4.mono hSwr3.size)
      refine hK _ _ (hSwr4) ?_
      clear hK K
      try simp only [Act.put, List.setIfInBounds_toArray, List.set_cons_zero, List.set_cons_succ]
      refine wpAnyH_takeI (i := 10) (v := .bool true) rfl (by kernel_rfl) (by kernel_rfl) (by kernel_rfl) (fun _ _ _ h => h) (yieldsIf_want rfl (fun w' hw' => ?y8)) hSwr4 ?_
      case y8 => first | (go_simp; rfl) | (go_simp; done) | rfl
      simp only [Act.put, List.setIfInBounds_toArray, List.set_cons_zero, List.set_cons_succ]
      refine wpAnyH_takeI (i := 11) (v := ?v9) rfl (by kernel_rfl) (by kernel_rfl) (by kernel_rfl) (fun _ _ _ h => h) (yieldsIf_run rfl (fun w' hw' => ?y9)) hSwr4 ?_
      case y9 => first | (go_simp; rfl) | (go_simp; done) | rfl
      simp only [Act.put, List.setIfInBounds_toArray, List.set_cons_zero, List.set_cons_succ]
      refine wpAnyH_takeI (i := 12) (v := ?v10) rfl (by kernel_rfl) (by kernel_rfl) (by kernel_rfl) (fun _ _ _ h => h) (yieldsIf_run rfl (fun w' hw' => ?y10)) hSwr4 ?_
      case y10 => first | (go_simp; rfl) | (go_simp; done) | rfl
      simp only [Act.put, List.setIfInBounds_toArray, List.set_cons_zero, List.set_cons_succ]
      refine wpAnyH_takeI (i := 13) (v := ?v11) rfl (by kernel_rfl) (by kernel_rfl) (by kernel_rfl) (fun _ _ _ h => h) (yieldsIf_want rfl (fun w' hw' => ?y11)) hSwr4 ?_
      case y11 => (obtain ⟨y0, y1, y2, y3, z0, z1, z2, z3⟩ := HCL.out w' hw'; clear hw'; first | (go_simp; rfl) | (go_simp; done))
      simp only [Act.put, List.setIfInBounds_toArray, List.set_cons_zero, List.set_cons_succ]
      refine wpAnyH_takeI (i := 14) (v := ?v12) rfl (by kernel_rfl) (by kernel_rfl) (by kernel_rfl) (fun _ _ _ h => h) (yieldsIf_want rfl (fun w' hw' => ?y12)) hSwr4 ?_
      case y12 => (obtain ⟨y0, y1, y2, y3, z0, z1, z2, z3⟩ := HCL.out w' hw'; clear hw'; first | (go_simp; rfl) | (go_simp; done))
      simp only [Act.put, List.setIfInBounds_toArray, List.set_cons_zero, List.set_cons_succ]
      refine wpAnyH_want (i := 15) (by kernel_rfl) rfl rfl (fun K hK => ?_)
      go_simp
      go_at_call 43
      refine (Equal_any k g n k g n ax ax mx cx mx cx lx lx (own_bytes (own_kept HX.out hSwr4)) (own_bytes (own_kept HX.out hSwr4))).mono ?_
      rintro e wr5 ⟨rfl, hbwr5⟩
      rw [show (decide (k = k) && decide (g = g) && decide (n = n) && (lx == lx)) = true by simp]
      have hSwr5 := hSwr4.trans (hbwr5.mono hSwr4.size)
      refine hK _ _ (hSwr5) ?_
      clear hK K
      try simp only [Act.put, List.setIfInBounds_toArray, List.set_cons_zero, List.set_cons_succ]
      refine wpAnyH_takeI (i := 16) (v := ?v13) rfl (by kernel_rfl) (by kernel_rfl) (by kernel_rfl) (fun _ _ _ h => h) (yieldsIf_run rfl (fun w' hw' => ?y13)) hSwr5 ?_
      case y13 => first | (go_simp; rfl) | (go_simp; done) | rfl
      simp only [Act.put, List.setIfInBounds_toArray, List.set_cons_zero, List.set_cons_succ]
      refine wpAnyH_takeI (i := 17) (v := ?v14) rfl (by kernel_rfl) (by kernel_rfl) (by kernel_rfl) (fun _ _ _ h => h) (yieldsIf_run rfl (fun w' hw' => ?y14)) hSwr5 ?_
      case y14 => first | (go_simp; rfl) | (go_simp; done) | rfl
      simp only [Act.put, List.setIfInBounds_toArray, List.set_cons_zero, List.set_cons_succ]
      refine wpAnyH_takeI (i := 18) (v := ?v15) rfl (by kernel_rfl) (by kernel_rfl) (by kernel_rfl) (fun _ _ _ h => h) (yieldsIf_want rfl (fun w' hw' => ?y15)) hSwr5 ?_
      case y15 => first | (go_simp; rfl) | (go_simp; done) | rfl
      simp only [Act.put, List.setIfInBounds_toArray, List.set_cons_zero, List.set_cons_succ]
      refine wpAnyH_takeI (i := 19) (v := ?v16) rfl (by kernel_rfl) (by kernel_rfl) (by kernel_rfl) (fun _ _ _ h => h) (yieldsIf_run rfl (fun w' hw' => ?y16)) hSwr5 ?_
      case y16 => first | (go_simp; rfl) | (go_simp; done) | rfl
      simp only [Act.put, List.setIfInBounds_toArray, List.set_cons_zero, List.set_cons_succ]
      refine wpAnyH_takeI (i := 20) (v := ?v17) rfl (by kernel_rfl) (by kernel_rfl) (by kernel_rfl) (fun _ _ _ h => h) (yieldsIf_run rfl (fun w' hw' => ?y17)) hSwr5 ?_
      case y17 => first | (go_simp; rfl) | (go_simp; done) | rfl
      simp only [Act.put, List.setIfInBounds_toArray, List.set_cons_zero, List.set_cons_succ]
      refine wpAnyH_takeI (i := 21) (v := ?v18) rfl (by kernel_rfl) (by kernel_rfl) (by kernel_rfl) (fun _ _ _ h => h) (yieldsIf_want rfl (fun w' hw' => ?y18)) hSwr5 ?_
      case y18 => first | (go_simp; rfl) | (go_simp; done) | rfl
      simp only [Act.put, List.setIfInBounds_toArray, List.set_cons_zero, List.set_cons_succ]
      refine wpAnyH_takeI (i := 23) (v := ?v19) rfl (by kernel_rfl) (by kernel_rfl) (by kernel_rfl) (fun _ _ _ h => h) (yieldsIf_want rfl (fun w' hw' => ?y19)) hSwr5 ?_
      case y19 => first | (go_simp; rfl) | (go_simp; done) | rfl
      simp only [Act.put, List.setIfInBounds_toArray, List.set_cons_zero, List.set_cons_succ]
      refine wpAnyH_takeI (i := 24) (v := ?v20) rfl (by kernel_rfl) (by kernel_rfl) (by kernel_rfl) (fun _ _ _ h => h) (yieldsIf_want rfl (fun w' hw' => ?y20)) hSwr5 ?_
      case y20 => first | (go_simp; rfl) | (go_simp; done) | rfl
      simp only [Act.put, List.setIfInBounds_toArray, List.set_cons_zero, List.set_cons_succ]
      refine wpAnyH_takeI (i := 25) (v := ?v21) rfl (by kernel_rfl) (by kernel_rfl) (by kernel_rfl) (fun _ _ _ h => h) (yieldsIf_want rfl (fun w' hw' => ?y21)) hSwr5 ?_
      case y21 => first | (go_simp; rfl) | (go_simp; done) | rfl
      simp only [Act.put, List.setIfInBounds_toArray, List.set_cons_zero, List.set_cons_succ]
      refine wpAnyH_want (i := 22) (by kernel_rfl) rfl rfl (fun K hK => ?_)
      go_simp
      go_at_call 42
      refine (IsBlank_any (own_bytes (own_kept HC.out hSwr5)) (by simp; omega)).mono ?_
      rintro e wr6 ⟨rfl, rfl⟩
      rw [zerosB_replicate]
      refine hK _ _ (hSwr5) ?_
      clear hK K
      try simp only [Act.put, List.setIfInBounds_toArray, List.set_cons_zero, List.set_cons_succ]
      refine wpAnyH_takeI (i := 26) (v := .bool true) rfl (by kernel_rfl) (by kernel_rfl) (by kernel_rfl) (fun _ _ _ h => h) (yieldsIf_want rfl (fun w' hw' => ?y22)) hSwr5 ?_
      case y22 => first | (go_simp; rfl) | (go_simp; done) | rfl
      simp only [Act.put, List.setIfInBounds_toArray, List.set_cons_zero, List.set_cons_succ]
      refine wpAnyH_takeI (i := 27) (v := ?v23) rfl (by kernel_rfl) (by kernel_rfl) (by kernel_rfl) (fun _ _ _ h => h) (yieldsIf_run rfl (fun w' hw' => ?y23)) hSwr5 ?_
      case y23 => first | (go_simp; rfl) | (go_simp; done) | rfl
      simp only [Act.put, List.setIfInBounds_toArray, List.set_cons_zero, List.set_cons_succ]
      refine wpAnyH_takeI (i := 28) (v := ?v24) rfl (by kernel_rfl) (by kernel_rfl) (by kernel_rfl) (fun _ _ _ h => h) (yieldsIf_run rfl (fun w' hw' => ?y24)) hSwr5 ?_
      case y24 => first | (go_simp; rfl) | (go_simp; done) | rfl
      simp only [Act.put, List.setIfInBounds_toArray, List.set_cons_zero, List.set_cons_succ]
      refine wpAnyH_done (by kernel_rfl) ?_ _
      refine NoPanic.normal ?_
      go_wp2_with fail
      go_ret
      exact ⟨rfl, HBM.out.trans (hSwr5.mono HBM.out.size)⟩
    · have hz0 : (0 : Int) < (zn : Int) := by omega
      have hzz : ((zn : Int) == 0) = false := by simp [h0]
      have H0 := Lib.hid (show 0 < zn by omega)
      clear h0
      obtain ⟨zh, hzh⟩ : ∃ zh, zn / 2 = zh := ⟨_, rfl⟩
      have hzI : (zn : Int) / 2 = (zh : Int) := by omega
      have hzl : (zh : Int) < (zn : Int) := by omega
      have hzl0 : (0 : Int) ≤ (zh : Int) := by omega
      have hC2 := ownsRow_set HC.out (i := zh) (.int .u8 1)
      have hset : (bvs (List.replicate zn 0)).set zh (.int .u8 1) = bvs ((List.replicate zn 0).set zh 1) := by rw [bvs_set]; rfl
      rw [hset] at hC2
      obtain ⟨cur, hcu, hct, hcs, hcn, _⟩ := own_row HC.out
      have hcc : wm.cell? ⟨c, zh, none⟩ = some (.int .u8 0) := by
        rw [cell_of_row _ _ _ _ _ _ hcu]
        have h1 : (cur.toList.take zn)[zh]? = (bvs (List.replicate zn 0))[zh]? := by rw [hct]
        rw [List.getElem?_take_of_lt (by omega)] at h1
        rw [← Array.getElem?_toList, h1, bvs_getElem?, List.getElem?_replicate, if_pos (by omega)]
        rfl
      have hcf : wm.frozen? ⟨c, zh, none⟩ = false := frozen_of_row _ _ _ _ _ hcu
      obtain ⟨wn, hwn⟩ : ∃ wn, wm.setCell ⟨c, zh, none⟩ (.int .u8 1) = wn := ⟨_, rfl⟩
      have hcg : Chg (fun k => k = c) wm wn := hwn ▸ Chg.setCell _ _ rfl
      rw [hwn] at hC2
      have HC2 := Lib.hid hC2
      have HP2 := Lib.hid ((hcg.block p (heap_lt HP.out) (fun h => HCp.out.1 h)).trans HP.out)
      have HQ2 := Lib.hid ((hcg.block q (heap_lt HQ.out) (fun h => HCp.out.2 h)).trans HQ.out)
      have HX2 := Lib.hid (ownsRow_chg' HX.out hcg (fun j hj e => HDX.out j hj e))
      have HY2 := Lib.hid (ownsRow_chg' HY.out hcg (fun j hj e => HDY.out j hj e))
      have HBN := Lib.hid (HBM.out.trans (hcg.below (fun k (hk : k = c) => hk ▸ HCB.out) HBM.out.size))
      have HWN := Lib.hid hwn
      have HZB := Lib.hid (show zerosB ((List.replicate zn (0 : UInt8)).set zh 1) = false by rw [← hzh]; exact zerosB_set zn H0.out)
      clear hC2 hset hcu hct hcs hcn hwn hcg hzh
      go_wp2_with fail
      rw [HWM.out]
      refine HB0.out.mono ?_
      rintro e ws ⟨rfl, rfl⟩
      have hcl : ∀ w' : World, Below wn.heap.size wn w' → w'.cell? ⟨p, 0, none⟩ = some (.int .i64 k) ∧ w'.cell? ⟨p, 1, none⟩ = some (.int .i64 g) ∧ w'.cell? ⟨p, 2, none⟩ = some (.int .i64 n) ∧ w'.cell? ⟨p, 3, none⟩ = some (.slice ax mx cx) ∧
          w'.cell? ⟨q, 0, none⟩ = some (.int .i64 k2) ∧ w'.cell? ⟨q, 1, none⟩ = some (.int .i64 g2) ∧ w'.cell? ⟨q, 2, none⟩ = some (.int .i64 n2) ∧ w'.cell? ⟨q, 3, none⟩ = some (.slice ay my cy) := by
        intro w' hb
        obtain ⟨c0, c1, c2, c3, _⟩ := row4 ((hb.block _ (heap_lt HP2.out)).trans HP2.out)
        obtain ⟨d0, d1, d2, d3, _⟩ := row4 ((hb.block _ (heap_lt HQ2.out)).trans HQ2.out)
        exact ⟨c0, c1, c2, c3, d0, d1, d2, d3⟩
      have HCL := Lib.hid hcl
      clear hcl hce HWM
      go_wp2_with fail
      rw [HWN.out]
      clear hcc hcf
      refine wp_region_noPanic ?_
      refine wp_region_H (Below wn.heap.size wn) (by kernel_rfl) ?_
      have hS0 : (Below wn.heap.size wn) wn.drew := (Below.refl _ _).drew
      obtain ⟨wq, hwq⟩ : ∃ wq, wn.drew = wq := ⟨_, rfl⟩
      rw [hwq] at hS0 ⊢
      clear hwq
      refine wpAnyH_do (i := 0) (by kernel_rfl) rfl rfl (fun K hK => ?_)
      go_simp
      go_at_call 18
      refine (known_any (HK.out.below (HBN.out.trans (hS0.mono HBN.out.size)) HK.out.size)).mono ?_
      rintro e wr0 ⟨rfl, hbwr0⟩
      have hSwr0 := hS0.trans (hbwr0.mono hS0.size)
      refine hK _ _ (hSwr0) ?_
      clear hK K
      try simp only [Act.put, List.setIfInBounds_toArray, List.set_cons_zero, List.set_cons_succ]
      refine wpAnyH_takeI (i := 1) (v := ?v25) rfl (by kernel_rfl) (by kernel_rfl) (by kernel_rfl) (fun _ _ _ h => h) (yieldsIf_run rfl (fun w' hw' => ?y25)) hSwr0 ?_
      case y25 => first | (go_simp; rfl) | (go_simp; done) | rfl
      simp only [Act.put, List.setIfInBounds_toArray, List.set_cons_zero, List.set_cons_succ]
      refine wpAnyH_takeI (i := 2) (v := ?v26) rfl (by kernel_rfl) (by kernel_rfl) (by kernel_rfl) (fun _ _ _ h => h) (yieldsIf_want rfl (fun w' hw' => ?y26)) hSwr0 ?_
      case y26 => (obtain ⟨y0, y1, y2, y3, z0, z1, z2, z3⟩ := HCL.out w' hw'; clear hw'; first | (go_simp; rfl) | (go_simp; done))
      simp only [Act.put, List.setIfInBounds_toArray, List.set_cons_zero, List.set_cons_succ]
      refine wpAnyH_takeI (i := 3) (v := ?v27) rfl (by kernel_rfl) (by kernel_rfl) (by kernel_rfl) (fun _ _ _ h => h) (yieldsIf_want rfl (fun w' hw' => ?y27)) hSwr0 ?_
      case y27 => (obtain ⟨y0, y1, y2, y3, z0, z1, z2, z3⟩ := HCL.out w' hw'; clear hw'; first | (go_simp; rfl) | (go_simp; done))
      simp only [Act.put, List.setIfInBounds_toArray, List.set_cons_zero, List.set_cons_succ]
      refine wpAnyH_takeI (i := 5) (v := ?v28) rfl (by kernel_rfl) (by kernel_rfl) (by kernel_rfl) (fun _ _ _ h => h) (yieldsIf_want rfl (fun w' hw' => ?y28)) hSwr0 ?_
      case y28 => (obtain ⟨y0, y1, y2, y3, z0, z1, z2, z3⟩ := HCL.out w' hw'; clear hw'; first | (go_simp; rfl) | (go_simp; done))
      simp only [Act.put, List.setIfInBounds_toArray, List.set_cons_zero, List.set_cons_succ]
      refine wpAnyH_takeI (i := 7) (v := ?v29) rfl (by kernel_rfl) (by kernel_rfl) (by kernel_rfl) (fun _ _ _ h => h) (yieldsIf_want rfl (fun w' hw' => ?y29)) hSwr0 ?_
      case y29 => (obtain ⟨y0, y1, y2, y3, z0, z1, z2, z3⟩ := HCL.out w' hw'; clear hw'; first | (go_simp; rfl) | (go_simp; done))
      simp only [Act.put, List.setIfInBounds_toArray, List.set_cons_zero, List.set_cons_succ]
      refine wpAnyH_want (i := 4) (by kernel_rfl) rfl rfl (fun K hK => ?_)
      go_simp
      go_at_call 43
      refine (Equal_any k g n k2 g2 n2 ax ay mx cx my cy lx ly (own_bytes (own_kept HX2.out hSwr0)) (own_bytes (own_kept HY2.out hSwr0))).mono ?_
      rintro e wr1 ⟨rfl, hbwr1⟩
      try rw [HE.out]
      have hSwr1 := hSwr0.trans (hbwr1.mono hSwr0.size)
      refine hK _ _ (hSwr1) ?_
      clear hK K
      try simp only [Act.put, List.setIfInBounds_toArray, List.set_cons_zero, List.set_cons_succ]
      refine wpAnyH_want (i := 6) (by kernel_rfl) rfl rfl (fun K hK => ?_)
      go_simp
      go_at_call 30
      refine (to_any k g n ax mx cx wr1).mono ?_
      rintro e wr2 ⟨rfl, hbwr2⟩
      have hSwr2 := hSwr1.trans (hbwr2.mono hSwr1.size)
      refine hK _ _ (hSwr2) ?_
      clear hK K
      try simp only [Act.put, List.setIfInBounds_toArray, List.set_cons_zero, List.set_cons_succ]
      refine wpAnyH_want (i := 8) (by kernel_rfl) rfl rfl (fun K hK => ?_)
      go_simp
      go_at_call 30
      refine (to_any k2 g2 n2 ay my cy wr2).mono ?_
      rintro e wr3 ⟨rfl, hbwr3⟩
      have hSwr3 := hSwr2.trans (hbwr3.mono hSwr2.size)
      refine hK _ _ (hSwr3) ?_
      clear hK K
      try simp only [Act.put, List.setIfInBounds_toArray, List.set_cons_zero, List.set_cons_succ]
      refine wpAnyH_want (i := 9) (by kernel_rfl) rfl rfl (fun K hK => ?_)
      go_simp
      go_at_call 37
      refine (rEqual_any k g n k2 g2 n2 ax ay mx cx my cy lx ly (own_bytes (own_kept HX2.out hSwr3)) (own_bytes (own_kept HY2.out hSwr3))).mono ?_
      rintro e wr4 ⟨rfl, hbwr4⟩
      try rw [HE.out]
      have hSwr4 := hSwr3.trans (hbwr4.mono hSwr3.size)
      refine hK _ _ (hSwr4) ?_
      clear hK K
      try simp only [Act.put, List.setIfInBounds_toArray, List.set_cons_zero, List.set_cons_succ]
      refine wpAnyH_takeI (i := 10) (v := .bool true) rfl (by kernel_rfl) (by kernel_rfl) (by kernel_rfl) (fun _ _ _ h => h) (yieldsIf_want rfl (fun w' hw' => ?y30)) hSwr4 ?_
      case y30 => first | (go_simp; rfl) | (go_simp; done) | rfl
      simp only [Act.put, List.setIfInBounds_toArray, List.set_cons_zero, List.set_cons_succ]
      refine wpAnyH_takeI (i := 11) (v := ?v31) rfl (by kernel_rfl) (by kernel_rfl) (by kernel_rfl) (fun _ _ _ h => h) (yieldsIf_run rfl (fun w' hw' => ?y31)) hSwr4 ?_
      case y31 => first | (go_simp; rfl) | (go_simp; done) | rfl
      simp only [Act.put, List.setIfInBounds_toArray, List.set_cons_zero, List.set_cons_succ]
      refine wpAnyH_takeI (i := 12) (v := ?v32) rfl (by kernel_rfl) (by kernel_rfl) (by kernel_rfl) (fun _ _ _ h => h) (yieldsIf_run rfl (fun w' hw' => ?y32)) hSwr4 ?_
      case y32 => first | (go_simp; rfl) | (go_simp; done) | rfl
      simp only [Act.put, List.setIfInBounds_toArray, List.set_cons_zero, List.set_cons_succ]
      refine wpAnyH_takeI (i := 13) (v := ?v33) rfl (by kernel_rfl) (by kernel_rfl) (by kernel_rfl) (fun _ _ _ h => h) (yieldsIf_want rfl (fun w' hw' => ?y33)) hSwr4 ?_
      case y33 => (obtain ⟨y0, y1, y2, y3, z0, z1, z2, z3⟩ := HCL.out w' hw'; clear hw'; first | (go_simp; rfl) | (go_simp; done))
      simp only [Act.put, List.setIfInBounds_toArray, List.set_cons_zero, List.set_cons_succ]
      refine wpAnyH_takeI (i := 14) (v := ?v34) rfl (by kernel_rfl) (by kernel_rfl) (by kernel_rfl) (fun _ _ _ h => h) (yieldsIf_want rfl (fun w' hw' => ?y34)) hSwr4 ?_
      case y34 => (obtain ⟨y0, y1, y2, y3, z0, z1, z2, z3⟩ := HCL.out w' hw'; clear hw'; first | (go_simp; rfl) | (go_simp; done))
      simp only [Act.put, List.setIfInBounds_toArray, List.set_cons_zero, List.set_cons_succ]
      refine wpAnyH_want (i := 15) (by kernel_rfl) rfl rfl (fun K hK => ?_)
      go_simp
      go_at_call 43
      refine (Equal_any k g n k g n ax ax mx cx mx cx lx lx (own_bytes (own_kept HX2.out hSwr4)) (own_bytes (own_kept HX2.out hSwr4))).mono ?_
      rintro e wr5 ⟨rfl, hbwr5⟩
      rw [show (decide (k = k) && decide (g = g) && decide (n = n) && (lx == lx)) = true by simp]
      have hSwr5 := hSwr4.trans (hbwr5.mono hSwr4.size)
      refine hK _ _ (hSwr5) ?_
      clear hK K
      try simp only [Act.put, List.setIfInBounds_toArray, List.set_cons_zero, List.set_cons_succ]
      refine wpAnyH_takeI (i := 16) (v := ?v35) rfl (by kernel_rfl) (by kernel_rfl) (by kernel_rfl) (fun _ _ _ h => h) (yieldsIf_run rfl (fun w' hw' => ?y35)) hSwr5 ?_
      case y35 => first | (go_simp; rfl) | (go_simp; done) | rfl
      simp only [Act.put, List.setIfInBounds_toArray, List.set_cons_zero, List.set_cons_succ]
      refine wpAnyH_takeI (i := 17) (v := ?v36) rfl (by kernel_rfl) (by kernel_rfl) (by kernel_rfl) (fun _ _ _ h => h) (yieldsIf_run rfl (fun w' hw' => ?y36)) hSwr5 ?_
      case y36 => first | (go_simp; rfl) | (go_simp; done) | rfl
      simp only [Act.put, List.setIfInBounds_toArray, List.set_cons_zero, List.set_cons_succ]
      refine wpAnyH_takeI (i := 18) (v := ?v37) rfl (by kernel_rfl) (by kernel_rfl) (by kernel_rfl) (fun _ _ _ h => h) (yieldsIf_want rfl (fun w' hw' => ?y37)) hSwr5 ?_
      case y37 => first | (go_simp; rfl) | (go_simp; done) | rfl
      simp only [Act.put, List.setIfInBounds_toArray, List.set_cons_zero, List.set_cons_succ]
      refine wpAnyH_takeI (i := 19) (v := ?v38) rfl (by kernel_rfl) (by kernel_rfl) (by kernel_rfl) (fun _ _ _ h => h) (yieldsIf_run rfl (fun w' hw' => ?y38)) hSwr5 ?_
      case y38 => first | (go_simp; rfl) | (go_simp; done) | rfl
      simp only [Act.put, List.setIfInBounds_toArray, List.set_cons_zero, List.set_cons_succ]
      refine wpAnyH_takeI (i := 20) (v := ?v39) rfl (by kernel_rfl) (by kernel_rfl) (by kernel_rfl) (fun _ _ _ h => h) (yieldsIf_run rfl (fun w' hw' => ?y39)) hSwr5 ?_
      case y39 => first | (go_simp; rfl) | (go_simp; done) | rfl
      simp only [Act.put, List.setIfInBounds_toArray, List.set_cons_zero, List.set_cons_succ]
      refine wpAnyH_takeI (i := 21) (v := ?v40) rfl (by kernel_rfl) (by kernel_rfl) (by kernel_rfl) (fun _ _ _ h => h) (yieldsIf_want rfl (fun w' hw' => ?y40)) hSwr5 ?_
      case y40 => first | (go_simp; rfl) | (go_simp; done) | rfl
      simp only [Act.put, List.setIfInBounds_toArray, List.set_cons_zero, List.set_cons_succ]
      refine wpAnyH_takeI (i := 23) (v := ?v41) rfl (by kernel_rfl) (by kernel_rfl) (by kernel_rfl) (fun _ _ _ h => h) (yieldsIf_want rfl (fun w' hw' => ?y41)) hSwr5 ?_
      case y41 => first | (go_simp; rfl) | (go_simp; done) | rfl
      simp only [Act.put, List.setIfInBounds_toArray, List.set_cons_zero, List.set_cons_succ]
      refine wpAnyH_takeI (i := 24) (v := ?v42) rfl (by kernel_rfl) (by kernel_rfl) (by kernel_rfl) (fun _ _ _ h => h) (yieldsIf_want rfl (fun w' hw' => ?y42)) hSwr5 ?_
      case y42 => first | (go_simp; rfl) | (go_simp; done) | rfl
      simp only [Act.put, List.setIfInBounds_toArray, List.set_cons_zero, List.set_cons_succ]
      refine wpAnyH_takeI (i := 25) (v := ?v43) rfl (by kernel_rfl) (by kernel_rfl) (by kernel_rfl) (fun _ _ _ h => h) (yieldsIf_want rfl (fun w' hw' => ?y43)) hSwr5 ?_
      case y43 => first | (go_simp; rfl) | (go_simp; done) | rfl
      simp only [Act.put, List.setIfInBounds_toArray, List.set_cons_zero, List.set_cons_succ]
      refine wpAnyH_want (i := 22) (by kernel_rfl) rfl rfl (fun K hK => ?_)
      go_simp
      go_at_call 42
      refine (IsBlank_any (own_bytes (own_kept HC2.out hSwr5)) (by simp; omega)).mono ?_
      rintro e wr6 ⟨rfl, rfl⟩
      rw [HZB.out]
      refine hK _ _ (hSwr5) ?_
      clear hK K
      try simp only [Act.put, List.setIfInBounds_toArray, List.set_cons_zero, List.set_cons_succ]
      refine wpAnyH_takeI (i := 26) (v := .bool true) rfl (by kernel_rfl) (by kernel_rfl) (by kernel_rfl) (fun _ _ _ h => h) (yieldsIf_want rfl (fun w' hw' => ?y44)) hSwr5 ?_
      case y44 => first | (go_simp; rfl) | (go_simp; done) | rfl
      simp only [Act.put, List.setIfInBounds_toArray, List.set_cons_zero, List.set_cons_succ]
      refine wpAnyH_takeI (i := 27) (v := ?v45) rfl (by kernel_rfl) (by kernel_rfl) (by kernel_rfl) (fun _ _ _ h => h) (yieldsIf_run rfl (fun w' hw' => ?y45)) hSwr5 ?_
      case y45 => first | (go_simp; rfl) | (go_simp; done) | rfl
      simp only [Act.put, List.setIfInBounds_toArray, List.set_cons_zero, List.set_cons_succ]
      refine wpAnyH_takeI (i := 28) (v := ?v46) rfl (by kernel_rfl) (by kernel_rfl) (by kernel_rfl) (fun _ _ _ h => h) (yieldsIf_run rfl (fun w' hw' => ?y46)) hSwr5 ?_
      case y46 => first | (go_simp; rfl) | (go_simp; done) | rfl
      simp only [Act.put, List.setIfInBounds_toArray, List.set_cons_zero, List.set_cons_succ]
      refine wpAnyH_done (by kernel_rfl) ?_ _
      refine NoPanic.normal ?_
      go_wp2_with fail
      go_ret
      exact ⟨rfl, HBN.out.trans (hSwr5.mono HBN.out.size)⟩

end Go.Proofs.YtloaenknhkfaeaaDoor
