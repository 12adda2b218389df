/- Records: a described sector. -/
import Derived.Test.YtloaenknhkfaeaaDoorRec23
namespace Go.Proofs.YtloaenknhkfaeaaDoor
open Go.RowKit
set_option linter.unusedVariables false
set_option linter.unusedSimpArgs false

theorem ownsRow_set {w : World} {B g n cap : Nat} {T : TypeId} {xs : List Value} (h : w.ownsRow B T 1 (.slice (some ⟨g, 0, none⟩) n cap) n xs) {i : Nat} (u : Value) :
    (w.setCell ⟨g, i, none⟩ u).ownsRow B T 1 (.slice (some ⟨g, 0, none⟩) n cap) n (xs.set i u) := by
  refine ⟨by rw [List.length_set]; exact h.1, .inr ?_⟩
  rcases h.2 with ⟨e, _⟩ | ⟨g', cap', cur, e, hb, hg, h1, h2, h3, h4⟩
  · cases e
  · simp only [Value.slice.injEq, Option.some.injEq, Addr.mk.injEq] at e
    obtain ⟨⟨rfl, _⟩, _, rfl⟩ := e
    exact ⟨g, cap, _, rfl, hb, heap_setCell_same _ _ _ _ _ _ hg, h1, h2, by simpa using h3, by rw [Array.toList_setIfInBounds, List.take_set, h4]⟩
theorem slice_cut (a : Option Addr) (n c m : Nat) (hm : m ≤ c) (hz : a = none → c = 0) (w : World) :
    (Instr.sliceAt 22 (.slice a n c) none (some (.int .i64 (m : Int))) none).run Tryd.prog w = .ok (.slice a m c) w := by
  cases a with
  | none =>
    obtain rfl := hz rfl
    obtain rfl : m = 0 := by omega
    have h0 : ∀ w, (Instr.sliceAt 22 (.slice none n 0) none (some (.int .i64 0)) none).run Tryd.prog w = .ok (.slice none 0 0) w := fun w => by go_simp
    exact h0 w
  | some ad =>
    have h1 : (m : Int) ≤ (c : Int) := by omega
    go_simp
theorem bits_xor_u8 (z y : UInt8) : bits .xor .u8 (z.toNat : Int) (y.toNat : Int) = ((z ^^^ y).toNat : Int) := by
  rw [u8_xor_nat _ _ z.toNat_lt y.toNat_lt, UInt8.toNat_xor]
theorem bvs_set (l : List UInt8) (i : Nat) (x : UInt8) : bvs (l.set i x) = (bvs l).set i (bv x) := by simp [bvs, List.map_set]
theorem ownsRow_whole {w : World} {B g n : Nat} {T : TypeId} {l : List UInt8} (hg : w.heap[g]? = some (.cells (bvs l).toArray T (0, 0))) (hl : l.length = n) (hB : B ≤ g) (hn : n ≤ maxLen) : w.ownsRow B T 1 (.slice (some ⟨g, 0, none⟩) n n) n (bvs l) :=
  ⟨by rw [bvs_length]; omega, .inr ⟨g, n, _, rfl, hB, hg, Nat.le_refl _, hn, by rw [List.size_toArray, bvs_length]; omega, by rw [List.take_of_length_le (by simp; omega)]⟩⟩
theorem slice_from (g off n c i : Nat) (hi : i ≤ n) (hc : n ≤ c) (w : World) :
    (Instr.sliceAt 22 (.slice (some ⟨g, off, none⟩) n c) (some (.int .i64 (i : Int))) none none).run Tryd.prog w = .ok (.slice (some ⟨g, off + (if c = i then 0 else i), none⟩) (n - i) (c - i)) w := by
  have h1 : (i : Int) ≤ (n : Int) := by omega
  have h2 : (n : Int) ≤ (c : Int) := by omega
  by_cases h : c = i
  · subst h
    obtain rfl : n = c := by omega
    go_simp
  · go_simp
theorem own_row {w : World} {B g n cap : Nat} {T : TypeId} {xs : List Value} (h : w.ownsRow B T 1 (.slice (some ⟨g, 0, none⟩) n cap) n xs) :
    ∃ cur : Array Value, w.heap[g]? = some (.cells cur T (0, 0)) ∧ cur.toList.take n = xs ∧ cur.size = cap ∧ n ≤ cap ∧ cap ≤ maxLen ∧ B ≤ g := by
  rcases h.2 with ⟨e, _⟩ | ⟨g', cap', cur, e, hb, hg, h1, h2, h3, h4⟩
  · cases e
  · simp only [Value.slice.injEq, Option.some.injEq, Addr.mk.injEq] at e
    obtain ⟨⟨rfl, _⟩, _, rfl⟩ := e
    exact ⟨cur, hg, by simpa using h4, by simpa using h3, h1, h2, hb⟩
theorem take_splice (C : List Value) (xs : List UInt8) (n off : Nat) (c : List UInt8) (h : C.take n = bvs xs) (hf : off + c.length ≤ n) (hn : n ≤ C.length) :
    (C.take off ++ (bvs c ++ C.drop (off + (bvs c).length))).take n = bvs (spliceL xs off c) := by
  have e : bvs (spliceL xs off c) = (bvs xs).take off ++ bvs c ++ (bvs xs).drop (off + c.length) := by simp [bvs, spliceL, List.map_take, List.map_drop]
  have hA : (C.take off).length = off := by rw [List.length_take]; omega
  rw [List.take_append, hA, List.take_of_length_le (l := C.take off) (by omega), List.take_append, List.take_of_length_le (l := bvs c) (by rw [bvs_length]; omega), bvs_length, e, ← h, List.take_take, Nat.min_eq_left (by omega), List.append_assoc, List.drop_take]
  congr 3
  omega
/-- Bytes copied into a row of bytes, as one operation. -/
theorem wp_copyOwn {o : Oper} {a : Act} {Q : Exit → Act → World → Prop} {K : Act → World → Prop} {w : World} (d s : Operand) (ho : o.op = .call { callee := .builtin .copy, args := #[d, s], argTypes := #[22, 22] })
    {B g n cap off dLen dCap : Nat} {sv : Value} {F : Nat → Prop} {xs ys : List UInt8} (hd : a.eval d = .slice (some ⟨g, off, none⟩) dLen dCap) (hs : a.eval s = sv) (hb : BytesAt w F sv ys)
    (hown : w.ownsRow B 5 1 (.slice (some ⟨g, 0, none⟩) n cap) n (bvs xs)) (hfit : off + dLen ≤ n)
    (h : ∀ w', w'.ownsRow B 5 1 (.slice (some ⟨g, 0, none⟩) n cap) n (bvs (spliceL xs off (ys.take dLen))) → Chg (fun k => k = g) w w' → K (a.put o.dst (.int .i64 ((ys.take dLen).length : Int))) w') :
    o.wp Tryd.prog a w K Q := by
  obtain ⟨cur, hg, ht, hsz, hnc, hcm, hB⟩ := own_row hown
  have hxl : xs.length = n := by simpa using hown.1
  obtain ⟨sa, sc, rfl, hsc, hr⟩ := hb
  have hl : (bvs (ys.take dLen)).length = Nat.min ys.length dLen := by simp [Nat.min_comm]
  by_cases h0 : ys.take dLen = []
  · have hz : Nat.min ys.length dLen = 0 := by rw [← hl, h0]; rfl
    have h2 := h w (by rw [h0]; simpa [spliceL] using hown) (Chg.refl _ _)
    rw [h0] at h2
    have hrun := run_copy_none (P := Tryd.prog) w 22 22 o.type 5 (some ⟨g, off, none⟩) sa dLen dCap ys.length sc Tryd.underlying22 sizeU8b hz
    unfold Oper.wp
    simp [execOp, ho, resolve, invoke, builtin, hd, hs, hrun, Result.andThen]
    exact h2
  · have hne : ys ≠ [] := fun e => h0 (by rw [e]; simp)
    obtain ⟨g2, off2, rfl, _, _, hr⟩ := hr hne
    have hcl : (ys.take dLen).length ≤ dLen := by rw [List.length_take]; omega
    have hrun := run_copy_row (P := Tryd.prog) w 22 22 o.type 5 g off dLen dCap ⟨g2, off2, none⟩ ys.length sc cur 5 (bvs (ys.take dLen)) Tryd.underlying22 sizeU8b hg hl (by
      intro j v hv
      have hadd : (⟨g2, off2, none⟩ : Addr).add j = ⟨g2, off2 + j, none⟩ := by unfold Addr.add; split <;> simp_all
      rw [hadd]
      refine hr j v ?_
      rw [bvs_getElem?, List.getElem?_take] at hv
      split at hv
      · rw [bvs_getElem?]; exact hv
      · cases hv) (by rw [bvs_length, hsz]; omega) bvs_oneCell
    unfold Oper.wp
    simp [execOp, ho, resolve, invoke, builtin, hd, hs, hrun, Result.andThen]
    have h2 := h (w.setRow g (cur.toList.take off ++ (bvs (ys.take dLen) ++ cur.toList.drop (off + (bvs (ys.take dLen)).length))).toArray)
      ⟨by rw [bvs_length, spliceL_length _ _ _ (by omega), hxl, Nat.mul_one], .inr ⟨g, cap, _, rfl, hB, setRow_heap _ _ _ _ _ _ hg, hnc, hcm, by
        rw [List.size_toArray]
        simp only [List.length_append, List.length_take, List.length_drop, bvs_length, Array.length_toList]
        omega, by rw [Nat.mul_one]; exact take_splice _ _ _ _ _ ht (by omega) (by rw [Array.length_toList]; omega)⟩⟩ (setRow_chg g _ rfl)
    first | exact h2 | (simp at h2; exact h2)
theorem from_bytes {w : World} {B g n cap i : Nat} {l : List UInt8} (h : w.ownsRow B 5 1 (.slice (some ⟨g, 0, none⟩) n cap) n (bvs l)) (hi : i ≤ n) :
    BytesAt w (fun k => B ≤ k) (.slice (some ⟨g, 0 + (if cap = i then 0 else i), none⟩) (n - i) (cap - i)) (l.drop i) := by
  obtain ⟨hl, hc⟩ := (own_bytes h).len
  refine ⟨_, _, by rw [List.length_drop, ← hl], by rw [List.length_drop]; omega, fun hne => ?_⟩
  have hlt : i < l.length := by
    rcases Nat.lt_or_ge i l.length with h1 | h1
    · exact h1
    · exact absurd (List.drop_eq_nil_of_le h1) hne
  have hb := own_bytes h
  obtain ⟨a', c', e, _, hr⟩ := hb
  cases e
  obtain ⟨g', off, e, hF, hg, hr⟩ := hr (by intro e; rw [e] at hlt; simp at hlt)
  cases e
  refine ⟨g, _, rfl, hF, hg, fun j u hu => ?_⟩
  rw [if_neg (by omega), Nat.zero_add]
  have := hr (i + j) u (by rw [bvs_getElem?] at hu ⊢; rw [List.getElem?_drop] at hu; exact hu)
  rwa [Nat.zero_add] at this
def capOf (n : Nat) (m : Nat) : Nat := min n m
theorem min_of (n : Nat) (w : World) : (Builtin.min_ #[3, 3] 3 #[.int .i64 (n : Int), .int .i64 224]).run Tryd.prog w = .ok (.int .i64 ((capOf n 224 : Nat) : Int)) w := by
  unfold capOf
  by_cases h : 224 < n
  · have h1 : (224 : Int) < (n : Int) := by omega
    have h2 : min n 224 = 224 := by omega
    rw [h2]
    go_simp
    try omega
  · have h1 : ¬ (224 : Int) < (n : Int) := by omega
    have h2 : min n 224 = n := by omega
    rw [h2]
    go_simp
    try omega

theorem mk256s : ∀ w, (Instr.makeSlice 22 (.int .i64 256) (.int .i64 256)).run Tryd.prog w = .ok (.slice (some ⟨w.heap.size, 0, none⟩) 256 256) (w.alloc (.cells (bvs z256).toArray 5)) := fun _ => by kernel_rfl

set_option maxRecDepth 100000 in
set_option maxHeartbeats 2000000 in
theorem sector_any {w : World} {F G H : Nat → Prop} (k : Nat) (hk : k < 256) (x0 x1 x2 x3 x4 : Int) (pa : Option Addr) (pn pc : Nat) (pl : List UInt8) (hp : BytesN w F (.slice pa pn pc) pl) (hpn : pn ≤ 9223372036854775807)
    (y0 y1 y2 y3 y4 : Int) (oa : Option Addr) (on oc : Nat) (ol : List UInt8) (ho : BytesN w G (.slice oa on oc) ol) (hon : on ≤ 9223372036854775807) (at_ : Nat) (hat : at_ < 256) (by_ : UInt8)
    (aa : Option Addr) (an ac : Nat) (al : List UInt8) (ha : BytesN w H (.slice aa an ac) al) (han : an ≤ 140737488351232) :
    Calls Tryd.prog 24 #[.agg #[.int .u8 (k : Int), .int .i64 x0, .int .i64 x1, .int .i64 x2, .int .i64 x3, .int .i64 x4, .slice pa pn pc, .int .i64 y0, .int .i64 y1, .int .i64 y2, .int .i64 y3, .int .i64 y4, .slice oa on oc, .int .u8 (at_ : Int), .int .u8 (by_.toNat : Int), .slice aa an ac]] w fun e w' => ∃ u L, e = .returned u ∧ L.length = 256 ∧ w'.ownsRow w.heap.size 5 1 u 256 (bvs L) ∧ Below w.heap.size w w' := by
  obtain ⟨pm, hpm⟩ : ∃ pm, capOf pn 224 = pm := ⟨_, rfl⟩
  obtain ⟨om, hom⟩ : ∃ om, capOf on 224 = om := ⟨_, rfl⟩
  have hpl := hp.at_.len
  have hol := ho.at_.len
  have hal := ha.at_.len
  have hm1 := min_of pn
  have hm2 := min_of on
  simp only [hpm] at hm1
  simp only [hom] at hm2
  have hpm2 : pm ≤ pn ∧ pm ≤ 224 := by unfold capOf at hpm; omega
  have hom2 : om ≤ on ∧ om ≤ 224 := by unfold capOf at hom; omega
  have hs1 := slice_cut pa pn pc pm (by omega) (fun e => hp.nil pn pc (by rw [e]))
  have hs2 := slice_cut oa on oc om (by omega) (fun e => ho.nil on oc (by rw [e]))
  obtain ⟨w3, hw3⟩ : ∃ w3, ((w.alloc (.cells #[.int .u8 (k : Int), .int .i64 x0, .int .i64 x1, .int .i64 x2, .int .i64 x3, .int .i64 x4, .slice pa pn pc, .int .i64 y0, .int .i64 y1, .int .i64 y2, .int .i64 y3, .int .i64 y4, .slice oa on oc, .int .u8 (at_ : Int), .int .u8 (by_.toNat : Int), .slice aa an ac] 40)).alloc (.cells #[.int .i64 x0, .int .i64 x1, .int .i64 x2, .int .i64 x3, .int .i64 x4, .slice pa pm pc] 24)).alloc (.cells #[.int .i64 y0, .int .i64 y1, .int .i64 y2, .int .i64 y3, .int .i64 y4, .slice oa om oc] 24) = w3 := ⟨_, rfl⟩
  have hb3 : Below w.heap.size w w3 := hw3 ▸ (((Below.refl _ w).alloc (Nat.le_refl _) _).alloc (by simp) _).alloc (by rw [World.size_alloc, World.size_alloc]; omega) _
  have g0 : w3.heap[w.heap.size]? = some (.cells #[.int .u8 (k : Int), .int .i64 x0, .int .i64 x1, .int .i64 x2, .int .i64 x3, .int .i64 x4, .slice pa pn pc, .int .i64 y0, .int .i64 y1, .int .i64 y2, .int .i64 y3, .int .i64 y4, .slice oa on oc, .int .u8 (at_ : Int), .int .u8 (by_.toNat : Int), .slice aa an ac] 40 (0, 0)) := by
    rw [← hw3, Below.heap_alloc _ _ _ (by rw [World.size_alloc, World.size_alloc]; omega), Below.heap_alloc _ _ _ (by simp)]; exact heap_alloc_new _ _
  have g1 : w3.heap[w.heap.size + 1]? = some (.cells #[.int .i64 x0, .int .i64 x1, .int .i64 x2, .int .i64 x3, .int .i64 x4, .slice pa pm pc] 24 (0, 0)) := by
    rw [← hw3, Below.heap_alloc _ _ _ (by simp)]
    have := heap_alloc_new (w.alloc (.cells #[.int .u8 (k : Int), .int .i64 x0, .int .i64 x1, .int .i64 x2, .int .i64 x3, .int .i64 x4, .slice pa pn pc, .int .i64 y0, .int .i64 y1, .int .i64 y2, .int .i64 y3, .int .i64 y4, .slice oa on oc, .int .u8 (at_ : Int), .int .u8 (by_.toNat : Int), .slice aa an ac] 40)) (.cells #[.int .i64 x0, .int .i64 x1, .int .i64 x2, .int .i64 x3, .int .i64 x4, .slice pa pm pc] 24)
    rw [World.size_alloc] at this
    exact this
  have g2 : w3.heap[w.heap.size + 2]? = some (.cells #[.int .i64 y0, .int .i64 y1, .int .i64 y2, .int .i64 y3, .int .i64 y4, .slice oa om oc] 24 (0, 0)) := by
    rw [← hw3]
    have := heap_alloc_new ((w.alloc (.cells #[.int .u8 (k : Int), .int .i64 x0, .int .i64 x1, .int .i64 x2, .int .i64 x3, .int .i64 x4, .slice pa pn pc, .int .i64 y0, .int .i64 y1, .int .i64 y2, .int .i64 y3, .int .i64 y4, .slice oa on oc, .int .u8 (at_ : Int), .int .u8 (by_.toNat : Int), .slice aa an ac] 40)).alloc (.cells #[.int .i64 x0, .int .i64 x1, .int .i64 x2, .int .i64 x3, .int .i64 x4, .slice pa pm pc] 24)) (.cells #[.int .i64 y0, .int .i64 y1, .int .i64 y2, .int .i64 y3, .int .i64 y4, .slice oa om oc] 24)
    rw [World.size_alloc, World.size_alloc] at this
    exact this
  have hlt := (Array.getElem?_eq_some_iff.1 g2).1
  have hcell : ∀ w' : World, Below w3.heap.size w3 w' → w'.cell? ⟨w.heap.size, 0, none⟩ = some (.int .u8 (k : Int)) ∧ w'.cell? ⟨w.heap.size, 13, none⟩ = some (.int .u8 (at_ : Int)) ∧ w'.cell? ⟨w.heap.size, 14, none⟩ = some (.int .u8 (by_.toNat : Int)) ∧ w'.cell? ⟨w.heap.size, 15, none⟩ = some (.slice aa an ac) ∧ w'.cell? ⟨w.heap.size + 1, 0, none⟩ = some (.int .i64 x0) ∧ w'.cell? ⟨w.heap.size + 1, 1, none⟩ = some (.int .i64 x1) ∧ w'.cell? ⟨w.heap.size + 1, 2, none⟩ = some (.int .i64 x2) ∧ w'.cell? ⟨w.heap.size + 1, 3, none⟩ = some (.int .i64 x3) ∧ w'.cell? ⟨w.heap.size + 1, 4, none⟩ = some (.int .i64 x4) ∧ w'.cell? ⟨w.heap.size + 1, 5, none⟩ = some (.slice pa pm pc) ∧ w'.cell? ⟨w.heap.size + 2, 0, none⟩ = some (.int .i64 y0) ∧ w'.cell? ⟨w.heap.size + 2, 1, none⟩ = some (.int .i64 y1) ∧ w'.cell? ⟨w.heap.size + 2, 2, none⟩ = some (.int .i64 y2) ∧ w'.cell? ⟨w.heap.size + 2, 3, none⟩ = some (.int .i64 y3) ∧ w'.cell? ⟨w.heap.size + 2, 4, none⟩ = some (.int .i64 y4) ∧ w'.cell? ⟨w.heap.size + 2, 5, none⟩ = some (.slice oa om oc) := by
    intro w' hb
    have h0 := (hb.block w.heap.size (by omega)).trans g0
    have h1 := (hb.block (w.heap.size + 1) (by omega)).trans g1
    have h2 := (hb.block (w.heap.size + 2) (by omega)).trans g2
    refine ⟨?_, ?_, ?_, ?_, ?_, ?_, ?_, ?_, ?_, ?_, ?_, ?_, ?_, ?_, ?_, ?_⟩ <;> first | (rw [cell_of_row _ _ _ _ _ _ h0]; rfl) | (rw [cell_of_row _ _ _ _ _ _ h1]; rfl) | (rw [cell_of_row _ _ _ _ _ _ h2]; rfl)
  have hp3 : BytesN w3 F (.slice pa pm pc) (pl.take pm) := BytesN.take (hp.below hb3) pm (by omega)
  have ho3 : BytesN w3 G (.slice oa om oc) (ol.take om) := BytesN.take (ho.below hb3) om (by omega)
  have ha3 := ha.below hb3
  have hpt : (pl.take pm).length = pm := by rw [List.length_take]; omega
  have hot : (ol.take om).length = om := by rw [List.length_take]; omega
  have HC1 := Lib.hid (fun w => rcheck_at ⟨x0, x1, x2, x3, x4, pl.take pm⟩ pa pm pc hpt w)
  have HC2 := Lib.hid (fun w => rcheck_at ⟨y0, y1, y2, y3, y4, ol.take om⟩ oa om oc hot w)
  have HCELL := Lib.hid hcell
  have HP := Lib.hid hp3
  have HO := Lib.hid ho3
  have HA := Lib.hid ha3
  have HAL := Lib.hid (show al.length ≤ 140737488351232 by omega)
  have HW3 := Lib.hid hw3
  have HB3 := Lib.hid hb3
  have HLT := Lib.hid hlt
  clear hp ho ha hpm hom hpl hol hal hpm2 hom2 hw3 hb3 g0 g1 g2 hlt hcell hp3 ho3 ha3 hpt hot han
  go_enter Tryd.func24, Tryd.ntmps24
  go_wp2_with fail
  rw [HW3.out]
  clear hm1 hm2 hs1 hs2
  refine (HC1.out w3).mono ?_
  rintro e w4 ⟨rfl, hb4⟩
  obtain ⟨E1, hE1⟩ : ∃ E1, chkP ⟨x0, x1, x2, x3, x4, pl.take pm⟩ = E1 := ⟨_, rfl⟩
  rw [hE1]
  have ⟨z0, z1, z2, z3, z4, z5, z6, z7, z8, z9, z10, z11, z12, z13, z14, z15⟩ := HCELL.out w4 hb4
  have HB4 := Lib.hid hb4
  clear hb4
  by_cases h1 : E1 = 0
  case neg =>
    have hseal := Seal_any al _ (HA.out.below HB4.out) HAL.out
    have HSL := Lib.hid hseal
    clear hseal
    go_wp2_with fail
    refine HSL.out.mono ?_
    rintro e w5 ⟨u, rfl, hu, hb5⟩
    have HU := Lib.hid hu
    have HB5 := Lib.hid hb5
    clear hu hb5
    go_wp2_with fail
    go_ret
    have hbd := HB3.out.trans ((HB4.out.trans (HB5.out.mono HB4.out.size)).mono HB3.out.size)
    exact ⟨_, _, rfl, by simpa using HU.out.1, ownsRow_base HU.out (Nat.le_trans HB3.out.size HB4.out.size), hbd⟩
  subst h1
  go_wp2_with fail
  refine (HC2.out w4).mono ?_
  rintro e w5 ⟨rfl, hb5⟩
  obtain ⟨E2, hE2⟩ : ∃ E2, chkP ⟨y0, y1, y2, y3, y4, ol.take om⟩ = E2 := ⟨_, rfl⟩
  rw [hE2]
  have hb35 := HB4.out.trans (hb5.mono HB4.out.size)
  clear z0 z1 z2 z3 z4 z5 z6 z7 z8 z9 z10 z11 z12 z13 z14 z15 hb5 HB4
  have ⟨z0, z1, z2, z3, z4, z5, z6, z7, z8, z9, z10, z11, z12, z13, z14, z15⟩ := HCELL.out w5 hb35
  have HB4 := Lib.hid hb35
  clear hb35
  by_cases h1 : E2 = 0
  case neg =>
    have hseal := Seal_any al _ (HA.out.below HB4.out) HAL.out
    have HSL := Lib.hid hseal
    clear hseal
    go_wp2_with fail
    refine HSL.out.mono ?_
    rintro e w5 ⟨u, rfl, hu, hb5⟩
    have HU := Lib.hid hu
    have HB5 := Lib.hid hb5
    clear hu hb5
    go_wp2_with fail
    go_ret
    have hbd := HB3.out.trans ((HB4.out.trans (HB5.out.mono HB4.out.size)).mono HB3.out.size)
    exact ⟨_, _, rfl, by simpa using HU.out.1, ownsRow_base HU.out (Nat.le_trans HB3.out.size HB4.out.size), hbd⟩
  subst h1
  have HOK := Lib.hid (chkP_ok hE2)
  have henc := Encode_part ⟨x0, x1, x2, x3, x4, pl.take pm⟩ (chkP_ok hE1) pa pm pc (HP.out.below HB4.out)
  have HENC := Lib.hid henc
  clear henc hE1 hE2 HC1 HC2
  go_wp2_with fail
  refine HENC.out.mono ?_
  rintro e w6 ⟨u6, rfl, hu6, hb6⟩
  have hb36 := HB4.out.trans (hb6.mono HB4.out.size)
  obtain ⟨L6, hL6⟩ : ∃ L6, encL ⟨x0, x1, x2, x3, x4, pl.take pm⟩ = L6 := ⟨_, rfl⟩
  rw [hL6] at hu6
  have hll : L6.length = 256 := by simpa using hu6.1
  obtain ⟨ua, uc, rfl⟩ := ownsRow_form hu6
  obtain ⟨ug, rfl, _, hug1, hug2⟩ := own_addr hu6 (by decide)
  have hucap := (own_bytes hu6).len.2
  have hq5 := HB4.out.size
  clear z0 z1 z2 z3 z4 z5 z6 z7 z8 z9 z10 z11 z12 z13 z14 z15 HENC HB4 hL6 hb6
  have ⟨z0, z1, z2, z3, z4, z5, z6, z7, z8, z9, z10, z11, z12, z13, z14, z15⟩ := HCELL.out w6 hb36
  have HU := Lib.hid hu6
  have HB4 := Lib.hid hb36
  have HLL := Lib.hid hll
  have HG1 := Lib.hid (Nat.le_trans hq5 hug1)
  have HG2 := Lib.hid hug2
  have HQ5 := Lib.hid hq5
  have HUC := Lib.hid hucap
  clear hu6 hb36 hll hug1 hug2 hucap hq5
  obtain ⟨r, hr⟩ : ∃ r : Int, (k : Int).tmod 5 = r := ⟨_, rfl⟩
  have hr2 : (0 : Int) ≤ r ∧ r ≤ 4 := by rw [Int.tmod_eq_emod_of_nonneg (by omega)] at hr; omega
  have hrc : r = 0 ∨ r = 1 ∨ r = 2 ∨ r = 3 ∨ r = 4 := by omega
  clear hr2
  rcases hrc with rfl | rfl | rfl | rfl | rfl
  · go_wp2_with fail
    go_ret
    exact ⟨_, _, rfl, HLL.out, ownsRow_base HU.out (Nat.le_trans HB3.out.size HQ5.out), HB3.out.trans (HB4.out.mono HB3.out.size)⟩
  · obtain ⟨g9, o9, e9, hcu⟩ := (own_bytes HU.out).get (i := at_) (by rw [HLL.out]; exact hat)
    cases e9
    rw [Nat.zero_add] at hcu
    obtain ⟨c, hc⟩ : ∃ c, L6[at_]'(by rw [HLL.out]; exact hat) = c := ⟨_, rfl⟩
    rw [hc] at hcu
    have hxor := bits_xor_u8 c by_
    have HCU := Lib.hid (show ∀ w' : World, Below w6.heap.size w6 w' → w'.cell? ⟨ug, at_, none⟩ = some (.int .u8 (c.toNat : Int)) from fun w' hb => (hb.cell (p := ⟨ug, at_, none⟩) HG2.out).trans hcu)
    clear hcu hc
    have hatI : (at_ : Int) < 256 := by omega
    go_wp2_with fail
    clear z0 z1 z2 z3 z4 z5 z6 z7 z8 z9 z10 z11 z12 z13 z14 z15
    refine wp_region_noPanic ?_
    refine wp_region_F 9 (Below w6.heap.size w6) (by kernel_rfl) ?_
    have hS0 : (Below w6.heap.size w6) w6.drew := (Below.refl _ _).drew
    obtain ⟨wd, hwd⟩ : ∃ wd, w6.drew = wd := ⟨_, rfl⟩
    rw [hwd] at hS0 ⊢
    clear hwd
    refine wpAnyF_take (i := 0) (fin := 9) (v := ?v1) rfl (by kernel_rfl) (by kernel_rfl) (by kernel_rfl) (by kernel_rfl) (fun _ _ _ h => h) (yieldsIf_run rfl (fun w' hw' => ?y1)) hS0 ?_
    case y1 => first | (go_simp; rfl) | (go_simp; done) | rfl
    simp only [Act.put, List.setIfInBounds_toArray, List.set_cons_zero, List.set_cons_succ]
    refine wpAnyF_take (i := 1) (fin := 9) (v := ?v2) rfl (by kernel_rfl) (by kernel_rfl) (by kernel_rfl) (by kernel_rfl) (fun _ _ _ h => h) (yieldsIf_run rfl (fun w' hw' => ?y2)) hS0 ?_
    case y2 => first | (go_simp; rfl) | (go_simp; done) | rfl
    simp only [Act.put, List.setIfInBounds_toArray, List.set_cons_zero, List.set_cons_succ]
    refine wpAnyF_take (i := 2) (fin := 9) (v := ?v3) rfl (by kernel_rfl) (by kernel_rfl) (by kernel_rfl) (by kernel_rfl) (fun _ _ _ h => h) (yieldsIf_run rfl (fun w' hw' => ?y3)) hS0 ?_
    case y3 => (have ⟨z0, z1, z2, z3, z4, z5, z6, z7, z8, z9, z10, z11, z12, z13, z14, z15⟩ := HCELL.out w' (HB4.out.trans (hw'.mono HB4.out.size)); clear hw'; first | (go_simp; rfl) | (go_simp; done))
    simp only [Act.put, List.setIfInBounds_toArray, List.set_cons_zero, List.set_cons_succ]
    refine wpAnyF_take (i := 3) (fin := 9) (v := ?v4) rfl (by kernel_rfl) (by kernel_rfl) (by kernel_rfl) (by kernel_rfl) (fun _ _ _ h => h) (yieldsIf_run rfl (fun w' hw' => ?y4)) hS0 ?_
    case y4 => first | (go_simp; rfl) | (go_simp; done) | rfl
    simp only [Act.put, List.setIfInBounds_toArray, List.set_cons_zero, List.set_cons_succ]
    refine wpAnyF_take (i := 4) (fin := 9) (v := ?v5) rfl (by kernel_rfl) (by kernel_rfl) (by kernel_rfl) (by kernel_rfl) (fun _ _ _ h => h) (yieldsIf_run rfl (fun w' hw' => ?y5)) hS0 ?_
    case y5 => (have hcu := HCU.out w' hw'; clear hw'; first | (go_simp; rfl) | (go_simp; done))
    simp only [Act.put, List.setIfInBounds_toArray, List.set_cons_zero, List.set_cons_succ]
    refine wpAnyF_take (i := 5) (fin := 9) (v := ?v6) rfl (by kernel_rfl) (by kernel_rfl) (by kernel_rfl) (by kernel_rfl) (fun _ _ _ h => h) (yieldsIf_run rfl (fun w' hw' => ?y6)) hS0 ?_
    case y6 => first | (go_simp; rfl) | (go_simp; done) | rfl
    simp only [Act.put, List.setIfInBounds_toArray, List.set_cons_zero, List.set_cons_succ]
    refine wpAnyF_take (i := 6) (fin := 9) (v := ?v7) rfl (by kernel_rfl) (by kernel_rfl) (by kernel_rfl) (by kernel_rfl) (fun _ _ _ h => h) (yieldsIf_run rfl (fun w' hw' => ?y7)) hS0 ?_
    case y7 => (have ⟨z0, z1, z2, z3, z4, z5, z6, z7, z8, z9, z10, z11, z12, z13, z14, z15⟩ := HCELL.out w' (HB4.out.trans (hw'.mono HB4.out.size)); clear hw'; first | (go_simp; rfl) | (go_simp; done))
    simp only [Act.put, List.setIfInBounds_toArray, List.set_cons_zero, List.set_cons_succ]
    refine wpAnyF_take (i := 7) (fin := 9) (v := ?v8) rfl (by kernel_rfl) (by kernel_rfl) (by kernel_rfl) (by kernel_rfl) (fun _ _ _ h => h) (yieldsIf_run rfl (fun w' hw' => ?y8)) hS0 ?_
    case y8 => first | (go_simp; rfl) | (go_simp; done) | rfl
    simp only [Act.put, List.setIfInBounds_toArray, List.set_cons_zero, List.set_cons_succ]
    refine wpAnyF_take (i := 8) (fin := 9) (v := ?v9) rfl (by kernel_rfl) (by kernel_rfl) (by kernel_rfl) (by kernel_rfl) (fun _ _ _ h => h) (yieldsIf_run rfl (fun w' hw' => ?y9)) hS0 ?_
    case y9 => first | (go_simp; rfl) | (go_simp; done) | rfl
    simp only [Act.put, List.setIfInBounds_toArray, List.set_cons_zero, List.set_cons_succ]
    have hUd := own_kept HU.out hS0
    obtain ⟨cur, hcur, _⟩ := own_row hUd
    have hfz : ∀ j : Nat, wd.frozen? ⟨ug, j, none⟩ = false := fun j => frozen_of_row _ _ _ _ _ hcur
    have hcd := HCU.out wd hS0
    refine wpAnyF_do (i := 9) (by kernel_rfl) rfl rfl (fun K hK => ?_)
    go_simp
    refine hK _ _ (fun h => absurd rfl h) ?_
    clear hK K
    refine wpAnyF_done (by kernel_rfl) ?_ _
    refine NoPanic.normal ?_
    go_wp2_with fail
    go_ret
    have hset := ownsRow_set hUd (i := at_) (bv (c ^^^ by_))
    refine ⟨_, L6.set at_ (c ^^^ by_), rfl, by rw [List.length_set]; exact HLL.out, ?_, ?_⟩
    · rw [bvs_set]; exact ownsRow_base hset (Nat.le_trans HB3.out.size HQ5.out)
    · have hbd := (HB3.out.trans (HB4.out.mono HB3.out.size)).trans (hS0.mono (HB3.out.trans (HB4.out.mono HB3.out.size)).size)
      exact below_chg hbd (Chg.setCell (F := fun k => k = ug) _ _ rfl) (by have := HG1.out; have := HB3.out.size; omega) (Nat.le_refl _)
  · obtain ⟨q, hq⟩ : ∃ q, at_ % 17 = q := ⟨_, rfl⟩
    have hq17 : q ≤ 16 := by omega
    have hrm : (at_ : Int).tmod 17 = (q : Int) := by rw [Int.tmod_eq_emod_of_nonneg (by omega)]; omega
    obtain ⟨I, hI⟩ : ∃ I, 16 * q = I := ⟨_, rfl⟩
    have hI2 : I ≤ 256 := by omega
    have hwa : IntKind.i64.wrap (at_ : Int) = (at_ : Int) := IntWalk.i64_in _ (by omega)
    have hwI : IntKind.i64.wrap (16 * (q : Int)) = (I : Int) := by rw [IntWalk.i64_in _ (by omega)]; omega
    have hsl1 := slice_from ug 0 256 uc I hI2 HUC.out
    obtain ⟨o1, ho1⟩ : ∃ o1, 0 + (if uc = I then 0 else I) = o1 := ⟨_, rfl⟩
    simp only [ho1] at hsl1
    have HO1 := Lib.hid ho1
    clear ho1
    have henc := fun (w : World) (h : BytesN w G (.slice oa om oc) (ol.take om)) => Encode_part ⟨y0, y1, y2, y3, y4, ol.take om⟩ HOK.out oa om oc h
    have HENC := Lib.hid henc
    clear henc hq
    go_wp2_with fail
    clear z0 z1 z2 z3 z4 z5 z6 z7 z8 z9 z10 z11 z12 z13 z14 z15
    refine wp_region_noPanic ?_
    refine wp_region_H (Below w3.heap.size w3) (by kernel_rfl) ?_
    have hS0 : (Below w3.heap.size w3) w6.drew := HB4.out.drew
    have hSd : Below w6.heap.size w6 w6.drew := (Below.refl _ _).drew
    obtain ⟨wd, hwd⟩ : ∃ wd, w6.drew = wd := ⟨_, rfl⟩
    rw [hwd] at hS0 hSd ⊢
    clear hwd
    refine wpAnyH_takeI (i := 0) (v := ?v10) rfl (by kernel_rfl) (by kernel_rfl) (by kernel_rfl) (fun _ _ _ h => h) (yieldsIf_run rfl (fun w' hw' => ?y10)) hS0 ?_
    case y10 => first | (go_simp; rfl) | (go_simp; done) | rfl
    simp only [Act.put, List.setIfInBounds_toArray, List.set_cons_zero, List.set_cons_succ]
    refine wpAnyH_takeI (i := 1) (v := ?v11) rfl (by kernel_rfl) (by kernel_rfl) (by kernel_rfl) (fun _ _ _ h => h) (yieldsIf_run rfl (fun w' hw' => ?y11)) hS0 ?_
    case y11 => first | (go_simp; rfl) | (go_simp; done) | rfl
    simp only [Act.put, List.setIfInBounds_toArray, List.set_cons_zero, List.set_cons_succ]
    refine wpAnyH_takeI (i := 2) (v := ?v12) rfl (by kernel_rfl) (by kernel_rfl) (by kernel_rfl) (fun _ _ _ h => h) (yieldsIf_run rfl (fun w' hw' => ?y12)) hS0 ?_
    case y12 => (have ⟨z0, z1, z2, z3, z4, z5, z6, z7, z8, z9, z10, z11, z12, z13, z14, z15⟩ := HCELL.out w' hw'; clear hw'; first | (go_simp; rfl) | (go_simp; done))
    simp only [Act.put, List.setIfInBounds_toArray, List.set_cons_zero, List.set_cons_succ]
    refine wpAnyH_takeI (i := 3) (v := ?v13) rfl (by kernel_rfl) (by kernel_rfl) (by kernel_rfl) (fun _ _ _ h => h) (yieldsIf_run rfl (fun w' hw' => ?y13)) hS0 ?_
    case y13 => first | (go_simp; rfl) | (go_simp; done) | rfl
    simp only [Act.put, List.setIfInBounds_toArray, List.set_cons_zero, List.set_cons_succ]
    refine wpAnyH_takeI (i := 4) (v := .int .i64 (q : Int)) rfl (by kernel_rfl) (by kernel_rfl) (by kernel_rfl) (fun _ _ _ h => h) (yieldsIf_run rfl (fun w' hw' => ?y14)) hS0 ?_
    case y14 => first | (go_simp; rfl) | (go_simp; done) | rfl
    simp only [Act.put, List.setIfInBounds_toArray, List.set_cons_zero, List.set_cons_succ]
    refine wpAnyH_takeI (i := 5) (v := .int .i64 (I : Int)) rfl (by kernel_rfl) (by kernel_rfl) (by kernel_rfl) (fun _ _ _ h => h) (yieldsIf_run rfl (fun w' hw' => ?y15)) hS0 ?_
    case y15 => first | (go_simp; rfl) | (go_simp; done) | rfl
    simp only [Act.put, List.setIfInBounds_toArray, List.set_cons_zero, List.set_cons_succ]
    refine wpAnyH_takeI (i := 6) (v := .slice (some ⟨ug, o1, none⟩) (256 - I) (uc - I)) rfl (by kernel_rfl) (by kernel_rfl) (by kernel_rfl) (fun _ _ _ h => h) (yieldsIf_run rfl (fun w' hw' => ?y16)) hS0 ?_
    case y16 => first | (go_simp; rfl) | (go_simp; done) | rfl
    simp only [Act.put, List.setIfInBounds_toArray, List.set_cons_zero, List.set_cons_succ]
    refine wpAnyH_takeI (i := 7) (v := ?v17) rfl (by kernel_rfl) (by kernel_rfl) (by kernel_rfl) (fun _ _ _ h => h) (yieldsIf_run rfl (fun w' hw' => ?y17)) hS0 ?_
    case y17 => (have ⟨z0, z1, z2, z3, z4, z5, z6, z7, z8, z9, z10, z11, z12, z13, z14, z15⟩ := HCELL.out w' hw'; clear hw'; first | (go_simp; rfl) | (go_simp; done))
    simp only [Act.put, List.setIfInBounds_toArray, List.set_cons_zero, List.set_cons_succ]
    refine wpAnyH_takeI (i := 9) (v := ?v18) rfl (by kernel_rfl) (by kernel_rfl) (by kernel_rfl) (fun _ _ _ h => h) (yieldsIf_run rfl (fun w' hw' => ?y18)) hS0 ?_
    case y18 => first | (go_simp; rfl) | (go_simp; done) | rfl
    simp only [Act.put, List.setIfInBounds_toArray, List.set_cons_zero, List.set_cons_succ]
    refine wpAnyH_takeI (i := 10) (v := ?v19) rfl (by kernel_rfl) (by kernel_rfl) (by kernel_rfl) (fun _ _ _ h => h) (yieldsIf_run rfl (fun w' hw' => ?y19)) hS0 ?_
    case y19 => (have ⟨z0, z1, z2, z3, z4, z5, z6, z7, z8, z9, z10, z11, z12, z13, z14, z15⟩ := HCELL.out w' hw'; clear hw'; first | (go_simp; rfl) | (go_simp; done))
    simp only [Act.put, List.setIfInBounds_toArray, List.set_cons_zero, List.set_cons_succ]
    refine wpAnyH_takeI (i := 11) (v := ?v20) rfl (by kernel_rfl) (by kernel_rfl) (by kernel_rfl) (fun _ _ _ h => h) (yieldsIf_run rfl (fun w' hw' => ?y20)) hS0 ?_
    case y20 => first | (go_simp; rfl) | (go_simp; done) | rfl
    simp only [Act.put, List.setIfInBounds_toArray, List.set_cons_zero, List.set_cons_succ]
    refine wpAnyH_takeI (i := 12) (v := .int .i64 (q : Int)) rfl (by kernel_rfl) (by kernel_rfl) (by kernel_rfl) (fun _ _ _ h => h) (yieldsIf_run rfl (fun w' hw' => ?y21)) hS0 ?_
    case y21 => first | (go_simp; rfl) | (go_simp; done) | rfl
    simp only [Act.put, List.setIfInBounds_toArray, List.set_cons_zero, List.set_cons_succ]
    refine wpAnyH_takeI (i := 13) (v := .int .i64 (I : Int)) rfl (by kernel_rfl) (by kernel_rfl) (by kernel_rfl) (fun _ _ _ h => h) (yieldsIf_run rfl (fun w' hw' => ?y22)) hS0 ?_
    case y22 => first | (go_simp; rfl) | (go_simp; done) | rfl
    simp only [Act.put, List.setIfInBounds_toArray, List.set_cons_zero, List.set_cons_succ]
    refine wpAnyH_do (i := 8) (by kernel_rfl) rfl rfl (fun K hK => ?_)
    go_simp
    go_at_call 22
    refine (HENC.out wd (HO.out.below hS0)).mono ?_
    rintro e w8 ⟨u8, rfl, hu8, hb8⟩
    have hS1 := hS0.trans (hb8.mono hS0.size)
    have hU8 := own_kept (own_kept HU.out hSd) hb8
    obtain ⟨va, vc, rfl⟩ := ownsRow_form hu8
    obtain ⟨vg, rfl, _, hvg1, hvg2⟩ := own_addr hu8 (by decide)
    have hvcap := (own_bytes hu8).len.2
    have hsl2 := slice_from vg 0 256 vc I hI2 hvcap
    have hbs := from_bytes hu8 hI2
    obtain ⟨o2, ho2⟩ : ∃ o2, 0 + (if vc = I then 0 else I) = o2 := ⟨_, rfl⟩
    simp only [ho2] at hsl2 hbs
    clear ho2
    refine hK _ _ (hS1) ?_
    clear hK K
    try simp only [Act.put, List.setIfInBounds_toArray, List.set_cons_zero, List.set_cons_succ]
    refine wpAnyH_takeI (i := 14) (v := .slice (some ⟨vg, o2, none⟩) (256 - I) (vc - I)) rfl (by kernel_rfl) (by kernel_rfl) (by kernel_rfl) (fun _ _ _ h => h) (yieldsIf_run rfl (fun w' hw' => ?y23)) hS1 ?_
    case y23 => first | (go_simp; rfl) | (go_simp; done) | rfl
    simp only [Act.put, List.setIfInBounds_toArray, List.set_cons_zero, List.set_cons_succ]
    refine wpAnyH_do (i := 15) (by kernel_rfl) rfl rfl (fun K hK => ?_)
    refine wp_copyOwn _ _ rfl rfl rfl hbs hU8 (by rw [← HO1.out]; split <;> omega) ?_
    intro w9 h9 hc9
    have hS2 : Below w3.heap.size w3 w9 := hS1.trans (hc9.below (fun k h => by have : k = ug := h; have := HG1.out; omega) hS1.size)
    refine hK _ _ (hS2) ?_
    clear hK K
    try simp only [Act.put, List.setIfInBounds_toArray, List.set_cons_zero, List.set_cons_succ]
    refine wpAnyH_done (by kernel_rfl) ?_ _
    refine NoPanic.normal ?_
    go_wp2_with fail
    go_ret
    have hfin : ∃ L : List UInt8, L.length = 256 ∧ w9.ownsRow w.heap.size 5 1 (.slice (some ⟨ug, 0, none⟩) 256 uc) 256 (bvs L) ∧ Below w.heap.size w w9 := ⟨_, by rw [spliceL_length _ _ _ (by rw [HLL.out, List.length_take, ← HO1.out]; split <;> omega)]; exact HLL.out, ownsRow_base h9 (Nat.le_trans HB3.out.size HQ5.out), HB3.out.trans (hS2.mono HB3.out.size)⟩
    first | exact ⟨_, rfl, hfin⟩ | (obtain ⟨L, h⟩ := hfin; exact ⟨_, L, rfl, h⟩)
  · obtain ⟨w7, hw7⟩ : ∃ w7, w6.alloc (.cells (bvs z256).toArray 5) = w7 := ⟨_, rfl⟩
    have hb7 : Below w6.heap.size w6 w7 := hw7 ▸ (Below.refl _ _).alloc (Nat.le_refl _) _
    have hn7 := hw7 ▸ heap_alloc_new w6 (.cells (bvs z256).toArray 5)
    have hmk := mk256s
    go_wp2_with fail
    go_ret
    try rw [hw7]
    exact ⟨_, z256, rfl, by decide, ownsRow_whole hn7 (by decide) (Nat.le_trans (HB3.out.trans (HB4.out.mono HB3.out.size)).size (Nat.le_refl _)) (by decide), (HB3.out.trans (HB4.out.mono HB3.out.size)).trans (hb7.mono (HB3.out.trans (HB4.out.mono HB3.out.size)).size)⟩
  · have hseal := Seal_any al _ (HA.out.below HB4.out) HAL.out
    have HSL := Lib.hid hseal
    clear hseal
    go_wp2_with fail
    refine HSL.out.mono ?_
    rintro e w5 ⟨u, rfl, hu, hb5⟩
    have HU9 := Lib.hid hu
    have HB5 := Lib.hid hb5
    clear hu hb5
    go_wp2_with fail
    go_ret
    have hbd := HB3.out.trans ((HB4.out.trans (HB5.out.mono HB4.out.size)).mono HB3.out.size)
    exact ⟨_, _, rfl, by simpa using HU9.out.1, ownsRow_base HU9.out (Nat.le_trans HB3.out.size HB4.out.size), hbd⟩

end Go.Proofs.YtloaenknhkfaeaaDoor
