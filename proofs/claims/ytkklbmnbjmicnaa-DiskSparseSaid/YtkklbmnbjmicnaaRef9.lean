/- The reference's owned device: what its rows hold, one byte changed. -/
import Derived.Test.YtkklbmnbjmicnaaRef8
import Derived.Test.YtkklbmnbjmicnaaDisk14
namespace Go.Proofs.Ytkklbmnbjmicnaa
open Go.RowKit Go.Shelf
set_option linter.unusedVariables false
set_option linter.unusedSimpArgs false

theorem nodup_ne {α : Type} {l : List α} (h : l.Nodup) {i j : Nat} (hi : i < l.length) (hj : j < l.length) (hij : i ≠ j) : l[i] ≠ l[j] := by
  have hp := List.pairwise_iff_getElem.1 h
  rcases Nat.lt_or_gt_of_ne hij with h1 | h1
  · exact hp i j hi hj h1
  · exact fun e => hp j i hj hi h1 e.symm

theorem Rows.setByte {w : World} {B : Nat} {R : List (List UInt8 × Value)} (h : Rows w B R) {i g cap p : Nat} {l : List UInt8} (hi : R[i]? = some (l, .slice (some ⟨g, 0, none⟩) 256 cap)) (z : UInt8) :
    Rows (w.setCell ⟨g, p, none⟩ (bv z)) B (R.set i (l.set p z, .slice (some ⟨g, 0, none⟩) 256 cap)) := by
  obtain ⟨hil, hie⟩ := List.getElem?_eq_some_iff.1 hi
  have hrow := h.row _ (List.mem_of_getElem? hi)
  obtain ⟨hl, _, _, _, hr⟩ := hrow
  have hmap : (R.set i (l.set p z, .slice (some ⟨g, 0, none⟩) 256 cap)).map (fun x => x.2.ownBlock) = R.map (fun x => x.2.ownBlock) := by
    rw [List.map_set]
    have e : (R.map (fun x => x.2.ownBlock))[i]'(by simpa using hil) = (Value.slice (some ⟨g, 0, none⟩) 256 cap).ownBlock := by simp [hie]
    rw [← e]
    exact List.set_getElem_self _
  refine ⟨fun x hx => ?_, by rw [hmap]; exact h.nodup⟩
  obtain ⟨j, hj⟩ := List.mem_iff_getElem?.1 hx
  rw [List.getElem?_set] at hj
  by_cases hij : i = j
  · subst hij
    rw [if_pos rfl, if_pos hil] at hj
    obtain rfl : _ = x := Option.some.inj hj
    refine ⟨by simpa using hl, g, cap, rfl, ?_⟩
    have := ownsRow_set hr (i := p) (bv z)
    rwa [show (bvs l).set p (bv z) = bvs (l.set p z) by simp [bvs, List.map_set]] at this
  · rw [if_neg hij] at hj
    obtain ⟨hjl, hje⟩ := List.getElem?_eq_some_iff.1 hj
    obtain ⟨hl2, g2, cap2, e2, hr2⟩ := h.row x (List.mem_of_getElem? hj)
    refine ⟨hl2, g2, cap2, e2, ?_⟩
    refine ownsRow_chg' hr2 (Chg.setCell (F := fun i => i = g) w (a := ⟨g, p, none⟩) (bv z) rfl) (fun k hk e => ?_)
    have := nodup_ne h.nodup (i := i) (j := j) (by simpa using hil) (by simpa using hjl) hij
    simp only [List.getElem_map, hie, hje] at this
    rw [hk, e] at this
    exact this rfl

section
variable {w : World} {B : Nat} {S : DS} {dv wv : Value} {D : List (List UInt8 × Value)} {L : List (Nat × List UInt8 × Value)}

theorem RefOwnX.drew (h : RefOwnX w B S dv wv D L) : RefOwnX w.drew B S dv wv D L := h.chg (G := fun _ => False) (Chg.refl _ w).drew (fun _ _ h => h)
theorem RefOwnX.lenD (h : RefOwnX w B S dv wv D L) : D.length = S.dur.length := by rw [← h.dur, List.length_map]
theorem RefOwnX.lenL (h : RefOwnX w B S dv wv D L) : L.length = S.pend.length := by rw [← h.pend, List.length_map]

/-- A byte of a row is stored. -/
theorem RefOwnX.byteRow (h : RefOwnX w B S dv wv D L) {i g cap p : Nat} {l : List UInt8} (hi : (D ++ L.map (·.2))[i]? = some (l, .slice (some ⟨g, 0, none⟩) 256 cap)) (z : UInt8) :
    (w.setCell ⟨g, p, none⟩ (bv z)).ownsRow B 30 1 dv S.dur.length (D.map (·.2)) ∧ (w.setCell ⟨g, p, none⟩ (bv z)).ownsRow B 90 2 wv S.pend.length (lrow L) := by
  obtain ⟨_, _, _, _, hr⟩ := h.rows.row _ (List.mem_of_getElem? hi)
  have hc := Chg.setCell (F := fun i => i = g) w (a := ⟨g, p, none⟩) (bv z) rfl
  exact ⟨ownsRow_chg' h.rd hc (fun k hk e => ownsRow_ne hr h.rd (by decide) g rfl (by rw [hk, e])), ownsRow_chg' h.rw hc (fun k hk e => ownsRow_ne hr h.rw (by decide) g rfl (by rw [hk, e]))⟩

/-- Sector k of the owned device. -/
theorem RefOwnX.atD (h : RefOwnX w B S dv wv D L) (k : Nat) (hk : k < S.dur.length) :
    ∃ gd cd g cap, dv = .slice (some ⟨gd, 0, none⟩) S.dur.length cd ∧ B ≤ gd ∧ B ≤ g ∧ g < w.heap.size ∧ w.cell? ⟨gd, k, none⟩ = some (.slice (some ⟨g, 0, none⟩) 256 cap) ∧
      (∀ p, p < 256 → w.cell? ⟨g, p, none⟩ = some (bv (S.dur[k].getD p 0))) ∧ (∀ p, w.frozen? ⟨g, p, none⟩ = false) ∧ (∃ cur, w.heap[g]? = some (.cells cur 5 (0, 0))) ∧
      ∀ p z, ∃ D', RefOwnX (w.setCell ⟨g, p, none⟩ (bv z)) B { S with dur := S.dur.set k (S.dur[k].set p z) } dv wv D' L := by
  have hkD : k < D.length := by rw [h.lenD]; exact hk
  obtain ⟨gd, cd, e, hgd, hob, hcc⟩ := ownsRow_at h.rd (by omega)
  obtain ⟨l, u, hDk⟩ : ∃ l u, D[k] = (l, u) := ⟨_, _, rfl⟩
  have hm : (l, u) ∈ D ++ L.map (·.2) := List.mem_append.2 (.inl (hDk ▸ List.getElem_mem hkD))
  obtain ⟨hl, g, cap, eu, hr⟩ := h.rows.row _ hm
  simp only at hl eu hr
  subst eu
  have hdk : S.dur[k] = l := by simp [← h.dur, hDk]
  have hat : (D ++ L.map (·.2))[k]? = some (l, .slice (some ⟨g, 0, none⟩) 256 cap) := by rw [List.getElem?_append_left hkD, List.getElem?_eq_getElem hkD, hDk]
  obtain ⟨g', cap', e2, hgl, _, hb⟩ := ownsRow_at hr (by decide)
  simp only [Value.slice.injEq, Option.some.injEq, Addr.mk.injEq] at e2
  obtain ⟨⟨rfl, _⟩, _, rfl⟩ := e2
  refine ⟨gd, cd, g, cap, e, (ownsRow_lt h.rd gd hob).1, (ownsRow_lt hr g rfl).1, hgl, hcc k _ (by rw [List.getElem?_map, List.getElem?_eq_getElem hkD, hDk]; rfl), fun p hp => ?_, fun p => ?_, ?_, fun p z => ⟨D.set k (l.set p z, .slice (some ⟨g, 0, none⟩) 256 cap), ?_⟩⟩
  · rw [hdk]
    refine hb p _ ?_
    rw [bvs_getElem?, List.getElem?_eq_getElem (by omega)]
    simp [List.getD, List.getElem?_eq_getElem (show p < l.length by omega)]
  · rcases hr.2 with ⟨e, _⟩ | ⟨g', cap', cur, e, _, hh, _⟩
    · cases e
    · simp only [Value.slice.injEq, Option.some.injEq, Addr.mk.injEq] at e
      obtain ⟨⟨rfl, _⟩, _, rfl⟩ := e
      exact frozen_of_row w _ _ _ _ hh
  · rcases hr.2 with ⟨e, _⟩ | ⟨g', cap', cur, e, _, hh, _⟩
    · cases e
    · simp only [Value.slice.injEq, Option.some.injEq, Addr.mk.injEq] at e
      obtain ⟨⟨rfl, _⟩, _, rfl⟩ := e
      exact ⟨_, hh⟩
  · have hb2 := h.byteRow hat z (p := p)
    rw [hdk]
    refine ⟨by rw [List.map_set, h.dur], h.pend, ?_, hb2.2, ?_⟩
    · show World.ownsRow _ _ _ _ _ (S.dur.set k (l.set p z)).length _
      rw [List.length_set, List.map_set]
      have e3 : (D.map (·.2))[k]'(by simpa using hkD) = Value.slice (some ⟨g, 0, none⟩) 256 cap := by simp [hDk]
      have e4 : (D.map (·.2)).set k (Value.slice (some ⟨g, 0, none⟩) 256 cap) = D.map (·.2) := by rw [← e3]; exact List.set_getElem_self _
      rw [e4]
      exact hb2.1
    · have := h.rows.setByte hat z (p := p)
      rwa [List.set_append_left _ _ hkD] at this

theorem lrow_set (L : List (Nat × List UInt8 × Value)) {j x1 : Nat} {l l' : List UInt8} {u : Value} (hj : L[j]? = some (x1, l, u)) : lrow (L.set j (x1, l', u)) = lrow L := by
  induction L generalizing j with
  | nil => rfl
  | cons x L ih =>
    cases j with
    | zero =>
      simp only [List.getElem?_cons_zero, Option.some.injEq] at hj
      subst hj
      rfl
    | succ j =>
      simp only [List.getElem?_cons_succ] at hj
      simp only [List.set_cons_succ, lrow, List.flatMap_cons]
      rw [show (L.set j (x1, l', u)).flatMap (fun x => [Value.int .i64 (x.1 : Int), x.2.2]) = L.flatMap (fun x => [Value.int .i64 (x.1 : Int), x.2.2]) from ih hj]

/-- Write j of the owned device. -/
theorem RefOwnX.atL (h : RefOwnX w B S dv wv D L) (j : Nat) (hj : j < S.pend.length) :
    ∃ gw cw g cap, wv = .slice (some ⟨gw, 0, none⟩) S.pend.length cw ∧ B ≤ gw ∧ B ≤ g ∧ g < w.heap.size ∧ gw ≠ g ∧ w.cell? ⟨gw, j * 2, none⟩ = some (.int .i64 (S.pend[j].1 : Int)) ∧ w.cell? ⟨gw, j * 2 + 1, none⟩ = some (.slice (some ⟨g, 0, none⟩) 256 cap) ∧
      (∀ p, p < 256 → w.cell? ⟨g, p, none⟩ = some (bv (S.pend[j].2.getD p 0))) ∧ (∀ p, w.frozen? ⟨g, p, none⟩ = false) ∧
      ∀ p z, ∃ L', RefOwnX (w.setCell ⟨g, p, none⟩ (bv z)) B { S with pend := S.pend.set j (S.pend[j].1, S.pend[j].2.set p z) } dv wv D L' := by
  have hjL : j < L.length := by rw [h.lenL]; exact hj
  obtain ⟨gw, cw, e, hgw, hob, hcc⟩ := ownsRow_at h.rw (by omega)
  obtain ⟨x1, l, u, hLj⟩ : ∃ x1 l u, L[j] = (x1, l, u) := ⟨_, _, _, rfl⟩
  have hm : (l, u) ∈ D ++ L.map (·.2) := List.mem_append.2 (.inr (List.mem_map.2 ⟨(x1, l, u), hLj ▸ List.getElem_mem hjL, rfl⟩))
  obtain ⟨hl, g, cap, eu, hr⟩ := h.rows.row _ hm
  simp only at hl eu hr
  subst eu
  have hpj : S.pend[j] = (x1, l) := by simp [← h.pend, hLj]
  have hat : (D ++ L.map (·.2))[D.length + j]? = some (l, .slice (some ⟨g, 0, none⟩) 256 cap) := by
    rw [List.getElem?_append_right (by omega), Nat.add_sub_cancel_left, List.getElem?_map, List.getElem?_eq_getElem hjL, hLj]; rfl
  obtain ⟨g', cap', e2, hgl, _, hb⟩ := ownsRow_at hr (by decide)
  simp only [Value.slice.injEq, Option.some.injEq, Addr.mk.injEq] at e2
  obtain ⟨⟨rfl, _⟩, _, rfl⟩ := e2
  have hlr := lrow_at L j hjL
  rw [hLj] at hlr
  refine ⟨gw, cw, g, cap, e, (ownsRow_lt h.rw gw hob).1, (ownsRow_lt hr g rfl).1, hgl, fun e5 => ownsRow_ne h.rw hr (by decide) gw hob (by rw [e5]; rfl), ?_, hcc _ _ hlr.2, fun p hp => ?_, fun p => ?_, fun p z => ⟨L.set j (x1, l.set p z, .slice (some ⟨g, 0, none⟩) 256 cap), ?_⟩⟩
  · rw [hpj]; exact hcc _ _ hlr.1
  · rw [hpj]
    refine hb p _ ?_
    rw [bvs_getElem?, List.getElem?_eq_getElem (by omega)]
    simp [List.getD, List.getElem?_eq_getElem (show p < l.length by omega)]
  · rcases hr.2 with ⟨e, _⟩ | ⟨g', cap', cur, e, _, hh, _⟩
    · cases e
    · simp only [Value.slice.injEq, Option.some.injEq, Addr.mk.injEq] at e
      obtain ⟨⟨rfl, _⟩, _, rfl⟩ := e
      exact frozen_of_row w _ _ _ _ hh
  · have hb2 := h.byteRow hat z (p := p)
    rw [hpj]
    refine ⟨h.dur, by rw [List.map_set, h.pend], hb2.1, ?_, ?_⟩
    · show World.ownsRow _ _ _ _ _ (S.pend.set j (x1, l.set p z)).length _
      rw [List.length_set, lrow_set L (j := j) (l := l) (by rw [List.getElem?_eq_getElem hjL, hLj])]
      exact hb2.2
    · have := h.rows.setByte hat z (p := p)
      rw [List.set_append_right _ _ (by omega), Nat.add_sub_cancel_left] at this
      rwa [List.map_set]
/-- What lies behind write k. -/
theorem RefOwnX.formL (h : RefOwnX w B S dv wv D L) (k : Nat) (hk : k < S.pend.length) :
    ∃ gw cw g cap, wv = .slice (some ⟨gw, 0, none⟩) S.pend.length cw ∧ L[k]? = some (S.pend[k].1, S.pend[k].2, .slice (some ⟨g, 0, none⟩) 256 cap) ∧ w.cell? ⟨gw, k * 2, none⟩ = some (.int .i64 (S.pend[k].1 : Int)) ∧ w.cell? ⟨gw, k * 2 + 1, none⟩ = some (.slice (some ⟨g, 0, none⟩) 256 cap) := by
  have hjL : k < L.length := by rw [h.lenL]; exact hk
  obtain ⟨gw, cw, e, hgw, hob, hcc⟩ := ownsRow_at h.rw (by omega)
  obtain ⟨x1, l, u, hLj⟩ : ∃ x1 l u, L[k] = (x1, l, u) := ⟨_, _, _, rfl⟩
  have hm : (l, u) ∈ D ++ L.map (·.2) := List.mem_append.2 (.inr (List.mem_map.2 ⟨(x1, l, u), hLj ▸ List.getElem_mem hjL, rfl⟩))
  obtain ⟨hl, g, cap, eu, hr⟩ := h.rows.row _ hm
  simp only at hl eu hr
  subst eu
  have hpj : S.pend[k] = (x1, l) := by simp [← h.pend, hLj]
  have hlr := lrow_at L k hjL
  rw [hLj] at hlr
  refine ⟨gw, cw, g, cap, e, by rw [hpj, List.getElem?_eq_getElem hjL, hLj], ?_, hcc _ _ hlr.2⟩
  rw [hpj]; exact hcc _ _ hlr.1
theorem RefOwnX.bytesL (h : RefOwnX w B S dv wv D L) {k x1 g cap : Nat} {l : List UInt8} (hk : L[k]? = some (x1, l, .slice (some ⟨g, 0, none⟩) 256 cap)) : ∀ p, p < 256 → w.cell? ⟨g, p, none⟩ = some (bv (l.getD p 0)) := by
  have hm : (l, Value.slice (some ⟨g, 0, none⟩) 256 cap) ∈ D ++ L.map (·.2) := List.mem_append.2 (.inr (List.mem_map.2 ⟨_, List.mem_of_getElem? hk, rfl⟩))
  obtain ⟨hl, _, _, _, hr⟩ := h.rows.row _ hm
  obtain ⟨g', cap', e2, hgl, _, hb⟩ := ownsRow_at hr (by decide)
  simp only [Value.slice.injEq, Option.some.injEq, Addr.mk.injEq] at e2
  obtain ⟨⟨rfl, _⟩, _, rfl⟩ := e2
  have hl' : l.length = 256 := hl
  clear hl
  intro p hp
  refine hb p _ (show (bvs l)[p]? = _ from ?_)
  rw [bvs_getElem?, List.getElem?_eq_getElem (by omega)]
  simp [List.getD, List.getElem?_eq_getElem (show p < l.length by omega)]
end

end Go.Proofs.Ytkklbmnbjmicnaa
