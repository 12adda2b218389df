/- Damage. -/
import Derived.Test.YtkklbmnbjmicnaaDisk8
import Derived.Laws.BitsAllLaws
namespace Go.Proofs.Ytkklbmnbjmicnaa
open Go.RowKit
set_option linter.unusedVariables false
set_option linter.unusedSimpArgs false

def xorAt (l : List UInt8) (i : Nat) (y : UInt8) : List UInt8 := l.set i (l.getD i 0 ^^^ y)
def dmg (s p : Nat) (y : UInt8) (x : Nat × List UInt8) : Nat × List UInt8 := if x.1 = s then (x.1, xorAt x.2 p y) else x
def DS.damage (S : DS) (s a : Int) (y : UInt8) : DS × Int :=
  if S.has s then (if 0 ≤ a ∧ a < 256 then ({ S with dur := S.dur.set s.toNat (xorAt (S.dur.getD s.toNat zeros) a.toNat y), pend := S.pend.map (dmg s.toNat a.toNat y) }, 0) else (S, 2)) else (S, 8)

theorem xorAt_length (l : List UInt8) (i : Nat) (y : UInt8) : (xorAt l i y).length = l.length := by simp [xorAt]
theorem dmg_length {x : Nat × List UInt8} (s p : Nat) (y : UInt8) : (dmg s p y x).2.length = x.2.length ∧ (dmg s p y x).1 = x.1 := by
  unfold dmg
  split <;> simp [xorAt_length]

theorem bits_xor_u8 (z y : UInt8) : bits .xor .u8 (z.toNat : Int) (y.toNat : Int) = ((z ^^^ y).toNat : Int) := by
  rw [u8_xor_nat _ _ z.toNat_lt y.toNat_lt, UInt8.toNat_xor]

theorem bv_xor (z y : UInt8) : bv (z ^^^ y) = .int .u8 ((z.toNat ^^^ y.toNat : Nat) : Int) := by unfold bv; rw [UInt8.toNat_xor]
theorem prow_set {l : List (Nat × List UInt8)} (hl : ∀ x ∈ l, x.2.length = 256) {k p x1 : Nat} {x2 : List UInt8} (hk : l[k]? = some (x1, x2)) (hp : p < 256) (y : UInt8) :
    (prow l).set (k * 257 + 1 + p) (bv y) = prow (l.set k (x1, x2.set p y)) := by
  induction l generalizing k with
  | nil => simp at hk
  | cons x l ih =>
    have hx := wcells_length (hl x (by simp))
    have hl' : ∀ x ∈ l, x.2.length = 256 := fun z hz => hl z (by simp [hz])
    cases k with
    | zero =>
      simp only [List.getElem?_cons_zero, Option.some.injEq] at hk
      subst hk
      simp only [prow, List.flatMap_cons, List.set_cons_zero]
      rw [List.set_append_left _ _ (by rw [hx]; omega)]
      congr 1
      simp only [wcells, bvs, List.map_set]
      rw [show 0 * 257 + 1 + p = p + 1 by omega]
      rfl
    | succ k =>
      simp only [List.getElem?_cons_succ] at hk
      simp only [prow, List.flatMap_cons, List.set_cons_succ]
      rw [List.set_append_right _ _ (by rw [hx]; omega), hx, show (k + 1) * 257 + 1 + p - 257 = k * 257 + 1 + p by omega]
      congr 1
      exact ih hl' hk

theorem DiskX.setByte {w : World} {F : Nat → Prop} {b m g n cap : Nat} {S : DS} (h : DiskX w F b m (.slice (some ⟨g, 0, none⟩) n cap) S) (hl : ∀ x ∈ S.pend, x.2.length = 256) {k p x1 : Nat} {x2 : List UInt8} (hk : S.pend[k]? = some (x1, x2)) (hp : p < 256) (y : UInt8) :
    DiskX (w.setCell ⟨g, k * 257 + 1 + p, none⟩ (bv y)) F b m (.slice (some ⟨g, 0, none⟩) n cap) { S with pend := S.pend.set k (x1, x2.set p y) } := by
  have hgb : g ≠ b := fun e => h.pb (by rw [← e]; rfl)
  have hgm : g ≠ m := fun e => h.pm (by rw [← e]; rfl)
  refine ⟨h.fb, h.fm, h.fp, (heap_setCell_other _ _ _ _ (Ne.symm hgb)).trans h.hb, h.hm.kept (heap_setCell_other _ _ _ _ (Ne.symm hgm)), ?_⟩
  have hps := prow_set hl hk hp y
  have hlen : (S.pend.set k (x1, x2.set p y)).length = S.pend.length := List.length_set
  refine ⟨by show (prow _).length = _; rw [← hps, List.length_set, h.hp.1, hlen], ?_⟩
  rcases h.hp.2 with ⟨e, _⟩ | ⟨g', cap', cur, e, hbg, hg, hc, hm, hs, ht⟩
  · cases e
  · obtain ⟨hg', hn', hcap'⟩ : g = g' ∧ n = S.pend.length ∧ cap = cap' := by simpa using e
    subst hg' hn' hcap'
    refine .inr ⟨g, cap, cur.setIfInBounds (k * 257 + 1 + p) (bv y), by rw [hlen], hbg, heap_setCell_same _ _ _ _ _ _ hg, by rw [hlen]; exact hc, hm, by rw [Array.size_setIfInBounds]; exact hs, ?_⟩
    show List.take _ _ = prow _
    rw [hlen, ← hps, ← ht, Array.toList_setIfInBounds, List.take_set]

theorem dpend {α : Type} (f : α → α) (l : List α) (k : Nat) (hk : k < l.length) : ((l.take k).map f ++ l.drop k).set k (f l[k]) = (l.take (k + 1)).map f ++ l.drop (k + 1) := by
  have h1 : ((l.take k).map f).length = k := by simp; omega
  rw [List.set_append_right _ _ (by omega), h1, Nat.sub_self, List.drop_eq_getElem_cons hk, List.set_cons_zero, List.take_add_one, List.getElem?_eq_getElem hk, List.map_append, List.append_assoc]
  rfl
theorem dpend_at {α : Type} (f : α → α) (l : List α) (k : Nat) (hk : k < l.length) : ((l.take k).map f ++ l.drop k)[k]? = some l[k] := by
  have h1 : ((l.take k).map f).length = k := by simp; omega
  rw [List.getElem?_append_right (by omega), h1, Nat.sub_self, List.drop_eq_getElem_cons hk]
  rfl
theorem dpend_length {α : Type} (f : α → α) (l : List α) (k : Nat) (hk : k ≤ l.length) : ((l.take k).map f ++ l.drop k).length = l.length := by
  simp; omega

/-- The state when the first k pending writes have been damaged. -/
def DS.dmgAt (S : DS) (s p : Nat) (y : UInt8) (k : Nat) : DS :=
  { S with dur := S.dur.set s (xorAt (S.dur.getD s zeros) p y), pend := (S.pend.take k).map (dmg s p y) ++ S.pend.drop k }

theorem dmgAt_ok {S : DS} (h : S.ok) (s p : Nat) (hs : s < S.dur.length) (y : UInt8) (k : Nat) : (S.dmgAt s p y k).ok := by
  refine ⟨?_, ?_, by simpa [DS.dmgAt] using h.most⟩
  · intro x hx
    rcases List.mem_or_eq_of_mem_set hx with hx | rfl
    · exact h.dur x hx
    · rw [xorAt_length]
      have : S.dur.getD s zeros = S.dur[s] := by simp [hs]
      rw [this]
      exact h.dur _ (List.getElem_mem _)
  · intro x hx
    have hd : (S.dmgAt s p y k).dur.length = S.dur.length := by simp [DS.dmgAt]
    rw [hd]
    rcases List.mem_append.1 hx with hx | hx
    · obtain ⟨z, hz, rfl⟩ := List.mem_map.1 hx
      have := h.pend z (List.mem_of_mem_take hz)
      rw [(dmg_length s p y).1, (dmg_length s p y).2]
      exact this
    · exact h.pend x (List.mem_of_mem_drop hx)

set_option maxRecDepth 100000 in
set_option maxHeartbeats 2000000 in
theorem Damage_good {w : World} {F : Nat → Prop} {b : Nat} {S : DS} (s p : Nat) (y : UInt8) (h : DiskAt w F b S) (hs : s < S.dur.length) (hp : p < 256) (hlen : S.pend.length < 100000000) :
    Calls Try.prog 36 #[.pointer (some ⟨b, 0, none⟩), .int .i64 (s : Int), .int .i64 (p : Int), .int .u8 (y.toNat : Int)] w fun e w' => e = .returned (.int .i64 0) ∧
      DiskAt w' F b (S.dmgAt s p y S.pend.length) ∧ Chg F w w' := by
  have HH := Lib.hid h
  obtain ⟨hok, m, pv, hx⟩ := h
  obtain ⟨c0, c1, c2, c3, c4, c5, c6, f⟩ := hx.cells
  have hhas : S.has (s : Int) = true := by simp [DS.has]; omega
  obtain ⟨B0, hB0⟩ : ∃ B0, B0 = S.dur.getD s zeros := ⟨_, rfl⟩
  have hlook := hx.hm.lookup (P := Try.prog) Try.underlying75 Try.underlying3 zeroLookup hs
  rw [← hB0] at hlook
  unfold cval at hlook
  have hB0l : B0.length = 256 := by
    have : S.dur.getD s zeros = S.dur[s] := by simp [hs]
    rw [hB0, this]
    exact hok.dur _ (List.getElem_mem _)
  obtain ⟨z0, hz0⟩ : ∃ z0, z0 = B0.getD p 0 := ⟨_, rfl⟩
  have hz0' : B0[p]? = some z0 := by rw [hz0]; simp [List.getD, List.getElem?_eq_getElem (show p < B0.length by omega)]
  have hsz := sizeContents hB0l
  have hnw := heap_alloc_new w (.cells Try.zeroCells80 80)
  have hzs : Try.zeroCells80.size = (bvs B0).toArray.size := by rw [zc80]; simp [hB0l, zeros_length]
  obtain ⟨W1, hW1⟩ : ∃ W1, w.alloc (.cells (bvs B0).toArray 80) = W1 := ⟨_, rfl⟩
  have hW1n : W1.heap[w.heap.size]? = some (.cells (bvs B0).toArray 80 (0, 0)) := by rw [← hW1]; exact heap_alloc_new _ _
  have k1 : W1.cell? ⟨w.heap.size, p, none⟩ = some (.int .u8 (z0.toNat : Int)) := by rw [cell_of_row W1 _ _ _ _ _ hW1n, List.getElem?_toArray, bvs_getElem?, hz0']; rfl
  have k2 : W1.frozen? ⟨w.heap.size, p, none⟩ = false := frozen_of_row W1 _ _ _ _ hW1n
  have kx := bits_xor_u8 z0 y
  have hp1 : ¬ ((p : Int) < 0) := by omega
  have hp2 : ¬ (256 ≤ (p : Int)) := by omega
  have HX := Lib.hid hx
  have HOK := Lib.hid hok
  have HSZ0 := Lib.hid hsz
  have HNW := Lib.hid hnw
  have HZS := Lib.hid hzs
  have HW1 := Lib.hid hW1
  have HW1N := Lib.hid hW1n
  have HB0 := Lib.hid hB0
  have HZ0 := Lib.hid hz0
  have HB0L := Lib.hid hB0l
  clear hx hok hsz hnw hzs hW1 hW1n hB0 hz0 hz0' hB0l
  go_enter Try.func36, Try.ntmps36
  go_wp2_with (first
    | (go_at_call 38; refine (has_any (s : Int) HH.out).mono ?_; rw [hhas]; rintro e w' ⟨rfl, rfl⟩)
    | (with_reducible refine wpList_store_row rfl 80 _ _ rfl w.heap.size (bvs B0).toArray rfl rfl 80 Try.zeroCells80 HNW.out HSZ0.out HZS.out (oneCell_bvs _) ?_; rw [World.setRow_alloc_new, HW1.out]))
  obtain ⟨W2, hW2⟩ : ∃ W2, W1.setCell ⟨w.heap.size, p, none⟩ (.int .u8 ((z0.toNat ^^^ y.toNat : Nat) : Int)) = W2 := ⟨_, rfl⟩
  obtain ⟨B1, hB1⟩ : ∃ B1, B1 = xorAt B0 p y := ⟨_, rfl⟩
  have hB1l : B1.length = 256 := by rw [hB1, xorAt_length, HB0L.out]
  have hW2n : W2.heap[w.heap.size]? = some (.cells (bvs B1).toArray 80 (0, 0)) := by
    rw [← hW2, heap_setCell_same _ _ _ _ _ _ HW1N.out, hB1]
    congr 2
    apply Array.ext'
    rw [Array.toList_setIfInBounds]
    simp only [xorAt, bvs, List.map_set, ← HZ0.out, bv_xor]
  have hbw : Below w.heap.size w W2 := by rw [← hW2, ← HW1.out]; exact ((Below.refl _ w).alloc (Nat.le_refl _) _).setCell (Nat.le_refl _) _
  have hx2 : DiskX W2 F b m pv S := HX.out.chg (G := fun _ => False) (Chg.of_below hbw) (fun _ _ h => h)
  obtain ⟨d0, p1, d2, d3, d4, d5, d6, df⟩ := hx2.cells
  have p4 : W2.rangeAt w.heap.size 0 (bvs B1) := fun j u hj => by rw [cell_of_row W2 _ _ _ _ _ hW2n, Nat.zero_add]; simpa using hj
  have hsz80 : (Try.prog.info? 80).map (·.size) = some (bvs B1).length := by have := sizeContents hB1l; rw [List.size_toArray] at this; exact this
  rw [hW2]
  have HSZ := Lib.hid hsz80
  have HX2 := Lib.hid hx2
  have HB1L := Lib.hid hB1l
  have HB1 := Lib.hid hB1
  have HBW := Lib.hid hbw
  clear hW2 hW2n hbw hx2 d0 d2 d3 d4 d5 d6 df hsz80 hB1l hB1 k1 k2 kx hlook c0 c1 c2 c3 c4 c5 c6 f
  refine wp_region_noPanic ?_
  refine wp_region_F 6 (fun w' => w'.cell? ⟨b, 1, none⟩ = some (.map (some m)) ∧ w'.rangeAt w.heap.size 0 (bvs B1)) (by kernel_rfl) ?_
  have hS0 : (fun w' => w'.cell? ⟨b, 1, none⟩ = some (.map (some m)) ∧ w'.rangeAt w.heap.size 0 (bvs B1)) W2.drew := ⟨p1, p4⟩
  refine wpAnyF_take (i := 0) (fin := 6) (v := .pointer (some ⟨b, 0, none⟩)) rfl (by kernel_rfl) (by kernel_rfl) (by kernel_rfl) (by kernel_rfl) (fun _ _ _ h => h) (yieldsIf_run rfl (fun w' hw' => ?_)) hS0 ?_
  · rfl
  simp only [Act.put, List.setIfInBounds_toArray, List.set_cons_zero, List.set_cons_succ]
  refine wpAnyF_take (i := 1) (fin := 6) (v := .pointer (some ⟨b, 0, none⟩)) rfl (by kernel_rfl) (by kernel_rfl) (by kernel_rfl) (by kernel_rfl) (fun _ _ _ h => h) (yieldsIf_run rfl (fun w' hw' => ?_)) hS0 ?_
  · go_simp
  simp only [Act.put, List.setIfInBounds_toArray, List.set_cons_zero, List.set_cons_succ]
  refine wpAnyF_take (i := 2) (fin := 6) (v := .pointer (some ⟨b, 1, none⟩)) rfl (by kernel_rfl) (by kernel_rfl) (by kernel_rfl) (by kernel_rfl) (fun _ _ _ h => h) (yieldsIf_run rfl (fun w' hw' => ?_)) hS0 ?_
  · go_simp
  simp only [Act.put, List.setIfInBounds_toArray, List.set_cons_zero, List.set_cons_succ]
  refine wpAnyF_take (i := 3) (fin := 6) (v := .map (some m)) rfl (by kernel_rfl) (by kernel_rfl) (by kernel_rfl) (by kernel_rfl) (fun _ _ _ h => h) (yieldsIf_run rfl (fun w' hw' => ?_)) hS0 ?_
  · (have h4 := hw'.1; clear hw'; go_simp)
  simp only [Act.put, List.setIfInBounds_toArray, List.set_cons_zero, List.set_cons_succ]
  refine wpAnyF_take (i := 4) (fin := 6) (v := .int .i64 (s : Int)) rfl (by kernel_rfl) (by kernel_rfl) (by kernel_rfl) (by kernel_rfl) (fun _ _ _ h => h) (yieldsIf_run rfl (fun w' hw' => ?_)) hS0 ?_
  · rfl
  simp only [Act.put, List.setIfInBounds_toArray, List.set_cons_zero, List.set_cons_succ]
  refine wpAnyF_take (i := 5) (fin := 6) (v := .agg (bvs B1).toArray) rfl (by kernel_rfl) (by kernel_rfl) (by kernel_rfl) (by kernel_rfl) (fun _ _ _ h => h) (yieldsIf_run rfl (fun w' hw' => ?_)) hS0 ?_
  · exact run_load_op 80 (.tmp 9) w.heap.size 0 (bvs B1) _ rfl rfl hw'.2 Try.underlying80 rfl HSZ.out
  simp only [Act.put, List.setIfInBounds_toArray, List.set_cons_zero, List.set_cons_succ]
  obtain ⟨w3, hrun3, hM3, hg3⟩ := (HX2.out.hm.kept (w' := W2.drew) rfl).update Try.underlying75 Try.underlying3 hs B1 (by rw [HB1L.out, zeros_length])
  unfold cval at hrun3
  refine wpAnyF_do (i := 6) (by kernel_rfl) rfl rfl (fun K hK => ?_)
  go_simp
  refine hK _ _ (fun h => absurd rfl h) ?_
  clear hK K
  refine wpAnyF_done (by kernel_rfl) ?_ _
  refine NoPanic.normal ?_
  have hx3 : DiskX w3 F b m pv (S.dmgAt s p y 0) := by
    have hx2 := HX2.out
    have hdl : (S.dmgAt s p y 0).dur.length = S.dur.length := by simp [DS.dmgAt]
    have hkept : ∀ j, j < W2.heap.size → j ≠ m → w3.heap[j]? = W2.heap[j]? := fun j hj hne => hg3.block j hj (fun e => hne (Option.some.inj e))
    refine ⟨hx2.fb, hx2.fm, hx2.fp, (hkept b hx2.lt (Ne.symm hx2.mb)).trans ?_, ?_, ?_⟩
    · rw [hx2.hb]; simp [dcells, DS.dmgAt]
    · rw [hdl]
      refine hM3.ext (fun i hi => ?_)
      show (if i = s then B1 else S.dur.getD i zeros) = (S.dmgAt s p y 0).dur.getD i zeros
      simp only [DS.dmgAt, List.getD_eq_getElem?_getD, List.getElem?_set]
      by_cases his : i = s
      · subst his
        rw [HB1.out, HB0.out]
        simp [hi]
      · simp [his, Ne.symm his]
    · have e1 : (S.dmgAt s p y 0).pend = S.pend := by simp [DS.dmgAt]
      rw [e1]
      refine ⟨hx2.hp.1, ?_⟩
      rcases hx2.hp.2 with hn | ⟨g, cap, cur, e, hbg, hg, rest⟩
      · exact .inl hn
      · exact .inr ⟨g, cap, cur, e, hbg, (hkept g (Array.getElem?_eq_some_iff.1 hg).1 (fun e2 => hx2.pm (by rw [e, ← e2]; rfl))).trans hg, rest⟩
  have hC3 : Chg F w w3 := (Chg.of_below HBW.out).trans (((Chg.refl F W2).drew).trans (Chg.grown (F := F) hg3 (fun k e => .inl (by rw [← Option.some.inj e]; exact HX2.out.fm))) (fun _ h => .inl h)) (fun _ h => .inl h)
  have hpe : (S.dmgAt s p y 0).pend.length = S.pend.length := by simp [DS.dmgAt]
  have hP3 := pendAt_of (fun x hx => ((dmgAt_ok HOK.out s p hs y 0).pend x hx).2) hx3.hp
  obtain ⟨pa, pcap, hpv⟩ : ∃ a cap, pv = .slice a S.pend.length cap := by
    rcases hP3 with ⟨rfl, e⟩ | ⟨g, cap, rfl, _⟩
    · refine ⟨none, 0, ?_⟩
      rw [← hpe, e]; rfl
    · exact ⟨_, _, by rw [hpe]⟩
  subst hpv
  obtain ⟨d0, d1, d2, d3, d4, d5, d6, df⟩ := hx3.cells
  have HX3 := Lib.hid hx3
  have HC3 := Lib.hid hC3
  clear hx3 hC3 hP3 hrun3 hM3 hg3 hpe
  go_wp2
  clear d0 d1 d2 d3 d4 d5 d6 df
  go_loopw [49] (fun i wr => ∃ k : Nat, k ≤ S.pend.length ∧ i = .int .i64 (k : Int) ∧ DiskX wr F b m (.slice pa S.pend.length pcap) (S.dmgAt s p y k) ∧ Chg F w wr)
    (fun i _ => S.pend.length - (intOf i).toNat)
  case atStart => exact ⟨0, Nat.zero_le _, rfl, HX3.out, HC3.out⟩
  case round =>
    obtain ⟨k, hk, rfl, hX, hC⟩ := hrel
    have hlk : ∀ x ∈ (S.dmgAt s p y k).pend, x.2.length = 256 := fun x hx => ((dmgAt_ok HOK.out s p hs y k).pend x hx).2
    obtain ⟨d0, d1, d2, d3, d4, d5, d6, df⟩ := hX.cells
    by_cases hlt : k < S.pend.length
    · have hpl : (S.dmgAt s p y k).pend.length = S.pend.length := dpend_length _ _ _ hk
      have hat : (S.dmgAt s p y k).pend[k]? = some S.pend[k] := dpend_at _ _ _ hlt
      obtain ⟨x1, x2, hx⟩ : ∃ x1 x2, S.pend[k] = (x1, x2) := ⟨_, _, rfl⟩
      rw [hx] at hat
      have hx2 : x2.length = 256 := hlk (x1, x2) (List.mem_of_getElem? hat)
      have hP1 := pendAt_of hlk hX.hp
      rcases hP1 with ⟨_, e2⟩ | ⟨g, cap', e1, hg, hr⟩
      · rw [e2] at hpl; simp at hpl; omega
      rw [hpl] at e1
      simp only [Value.slice.injEq] at e1
      obtain ⟨rfl, _, rfl⟩ := e1
      have hrq : wr.rangeAt g (k * 257) (wcells (x1, x2)) := by
        have := hr k (by omega)
        rw [(List.getElem?_eq_some_iff.1 hat).2] at this
        exact this
      have hc0 : wr.cell? ⟨g, k * 257, none⟩ = some (.int .i64 (x1 : Int)) := by have := hrq 0 (.int .i64 (x1 : Int)) rfl; rwa [Nat.add_zero] at this
      obtain ⟨z, hz⟩ : ∃ z, z = x2.getD p 0 := ⟨_, rfl⟩
      have hcz : wr.cell? ⟨g, k * 257 + 1 + p, none⟩ = some (.int .u8 (z.toNat : Int)) := by
        have := hrq (1 + p) (bv z) (by
          rw [Nat.add_comm 1 p]
          show (bvs x2)[p]? = _
          rw [bvs_getElem?, List.getElem?_eq_getElem (show p < x2.length by omega), hz]
          simp [List.getD, List.getElem?_eq_getElem (show p < x2.length by omega)])
        rwa [← Nat.add_assoc] at this
      have hfz : wr.frozen? ⟨g, k * 257 + 1 + p, none⟩ = false := by
        rcases hX.hp.2 with ⟨e, _⟩ | ⟨g', cap', cur, e, _, hh, _⟩
        · cases e
        · obtain ⟨rfl, _, _⟩ : g = g' ∧ _ ∧ _ := by simpa using e
          exact frozen_of_row wr _ _ _ _ hh
      have hnext : S.dmgAt s p y (k + 1) = if x1 = s then { S.dmgAt s p y k with pend := (S.dmgAt s p y k).pend.set k (x1, x2.set p (z ^^^ y)) } else S.dmgAt s p y k := by
        have h1 := dpend (dmg s p y) S.pend k hlt
        rw [hx] at h1
        have h2 : dmg s p y (x1, x2) = if x1 = s then (x1, x2.set p (z ^^^ y)) else (x1, x2) := by unfold dmg xorAt; rw [hz]
        rw [h2] at h1
        by_cases hxs : x1 = s
        · rw [if_pos hxs] at h1 ⊢
          unfold DS.dmgAt
          simp only [← h1]
        · rw [if_neg hxs] at h1 ⊢
          unfold DS.dmgAt
          rw [← h1]
          have h3 : ((S.pend.take k).map (dmg s p y) ++ S.pend.drop k).set k (x1, x2) = (S.pend.take k).map (dmg s p y) ++ S.pend.drop k := by
            have h4 : k < ((S.pend.take k).map (dmg s p y) ++ S.pend.drop k).length := by rw [dpend_length _ _ _ hk]; exact hlt
            have h5 : ((S.pend.take k).map (dmg s p y) ++ S.pend.drop k)[k] = (x1, x2) := (List.getElem?_eq_some_iff.1 hat).2
            conv => lhs; rw [← h5]
            exact List.set_getElem_self h4
          rw [h3]
      have hbx := bits_xor_u8 z y
      have HXK := Lib.hid hX
      have HC := Lib.hid hC
      have HLK := Lib.hid hlk
      have HAT := Lib.hid hat
      have HNX := Lib.hid hnext
      clear hX hC hlk hpl hat hx hx2 hg hr hrq hz hnext d0 d1 d3 d4 d5 d6
      by_cases hxs : x1 = s
      · subst hxs
        have h3 : ¬ (256 : Int) ≤ (p : Int) := (by omega)
        go_wp2_with fail
        go_region

        have hX5 : DiskX (wr.drew.setCell ⟨g, k * 257 + 1 + p, none⟩ (bv (z ^^^ y))) F b m (.slice (some ⟨g, 0, none⟩) S.pend.length pcap) (S.dmgAt x1 p y (k + 1)) := by
          rw [HNX.out]
          simp only [if_true]
          exact (HXK.out.chg (G := fun _ => False) (Chg.refl _ wr).drew (fun _ _ h => h)).setByte HLK.out HAT.out hp _
        have hC5 : Chg F w (wr.drew.setCell ⟨g, k * 257 + 1 + p, none⟩ (bv (z ^^^ y))) := HC.out.drew.trans (Chg.setCell (F := F) _ _ (HXK.out.fp g rfl)) (fun _ h => .inl h)
        rw [bv_xor] at hX5 hC5
        have HX5 := Lib.hid hX5
        have HC5 := Lib.hid hC5
        clear hX5 hC5
        go_wp2
        go_roundw
        case rel => exact ⟨k + 1, by omega, by go_num, HX5.out, HC5.out⟩
        case measure => simp [intOf]; omega
      · have hxs' : ¬ (x1 : Int) = (s : Int) := by omega
        go_wp2
        go_roundw
        case rel => exact ⟨k + 1, by omega, by go_num, by rw [HNX.out, if_neg hxs]; exact HXK.out, HC.out⟩
        case measure => simp [intOf]; omega
    · obtain rfl : k = S.pend.length := by omega
      have HXK := Lib.hid hX
      clear hX d0 d1 d2 d3 d4 d5 d6 df hlk
      go_wp2
      go_ret
      exact ⟨rfl, ⟨dmgAt_ok HOK.out s p hs y _, m, _, HXK.out⟩, hC⟩

set_option maxHeartbeats 1000000 in
theorem Damage_any {w : World} {F : Nat → Prop} {b : Nat} {S : DS} (s p : Int) (y : UInt8) (h : DiskAt w F b S) (hlen : S.pend.length < 100000000) :
    Calls Try.prog 36 #[.pointer (some ⟨b, 0, none⟩), .int .i64 s, .int .i64 p, .int .u8 (y.toNat : Int)] w fun e w' => e = .returned (.int .i64 (S.damage s p y).2) ∧
      DiskAt w' F b (S.damage s p y).1 ∧ Chg F w w' := by
  have HH := Lib.hid h
  cases hh : S.has s with
  | false =>
    have e1 : S.damage s p y = (S, 8) := by simp [DS.damage, hh]
    rw [e1]
    clear h e1
    go_enter Try.func36, Try.ntmps36
    go_wp2_with (go_at_call 38; refine (has_any s HH.out).mono ?_; rw [hh]; rintro e w' ⟨rfl, rfl⟩)
    go_ret
    exact ⟨rfl, HH.out, Chg.refl _ _⟩
  | true =>
    by_cases hp : 0 ≤ p ∧ p < 256
    · have hs : 0 ≤ s ∧ s < (S.dur.length : Int) := by simpa [DS.has] using hh
      obtain ⟨s', rfl⟩ := Int.eq_ofNat_of_zero_le hs.1
      obtain ⟨p', rfl⟩ := Int.eq_ofNat_of_zero_le hp.1
      refine (Damage_good s' p' y h (by omega) (by omega) hlen).mono ?_
      have e1 : S.damage s' p' y = (S.dmgAt s' p' y S.pend.length, 0) := by simp [DS.damage, hh, hp, DS.dmgAt]
      rw [e1]
      exact fun e w' h => h
    · have e1 : S.damage s p y = (S, 2) := by simp [DS.damage, hh]; omega
      rw [e1]
      clear h e1
      have hp' : p < 0 ∨ (¬ p < 0 ∧ 256 ≤ p) := by omega
      rcases hp' with h1 | ⟨h1, h2⟩
      all_goals
        go_enter Try.func36, Try.ntmps36
        go_wp2_with (go_at_call 38; refine (has_any s HH.out).mono ?_; rw [hh]; rintro e w' ⟨rfl, rfl⟩)
        go_ret
        exact ⟨rfl, HH.out, Chg.refl _ _⟩

end Go.Proofs.Ytkklbmnbjmicnaa
