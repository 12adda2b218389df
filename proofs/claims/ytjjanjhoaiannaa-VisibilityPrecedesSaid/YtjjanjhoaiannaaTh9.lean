/- Children and roots in memory; a node gets its place. -/
import Derived.Test.YtjjanjhoaiannaaTh8
import Derived.Test.YtjjanjhoaiannaaKme
namespace Go.Proofs.Ytjjanjhoaiannaa
open Go.Shelf Go.RowKit Go.Lib Go.Sort
set_option linter.unusedVariables false
set_option linter.unusedSimpArgs false

abbrev Kid := IdB → List IdB
def putK (c : Par) (st : Kid × List IdB) (x : IdB) : Kid × List IdB := match c x with
  | some p => (upd st.1 p (st.1 p ++ [x]), st.2)
  | none => (st.1, st.2 ++ [x])
/-- The blocks of the slices of children and of roots. -/
def BOwn (vf : IdB → Option Value) (rtv : Value) (k : Nat) : Prop := rtv.ownBlock = some k ∨ ∃ x v, vf x = some v ∧ v.ownBlock = some k
/-- While nodes get their places: variables in ab, kb, tb; the map of children in cb. -/
structure BSt (W : World) (B ab kb tb cb a : Nat) (ch : Kid) (rt : List IdB) (vf : IdB → Option Value) (rtv : Value) : Prop where
  hab : W.heap[ab]? = some (.cells #[.pointer (some ⟨a, 0, none⟩)] 69 (0, 0))
  hkb : W.heap[kb]? = some (.cells #[.map (some cb)] 72 (0, 0))
  htb : W.heap[tb]? = some (.cells #[rtv] 23 (0, 0))
  km : KMapS idKey W cb vf
  kids : ∀ x v, vf x = some v → OwnL idE W B v (ch x)
  none_ : ∀ x, vf x = none → ch x = []
  disj : ∀ x y v u, x ≠ y → vf x = some v → vf y = some u → ∀ k, v.ownBlock = some k → u.ownBlock ≠ some k
  roots : OwnL idE W B rtv rt
  rdisj : ∀ x v, vf x = some v → ∀ k, v.ownBlock = some k → rtv.ownBlock ≠ some k
  lt : ab < B ∧ kb < B ∧ tb < B ∧ cb < B ∧ ab ≠ tb ∧ kb ≠ tb
section
variable {W W' W'' : World} {B ab kb tb cb a : Nat} {ch : Kid} {rt : List IdB} {vf : IdB → Option Value} {rtv : Value}
theorem BSt.own_lt (h : BSt W B ab kb tb cb a ch rt vf rtv) {k : Nat} (hk : BOwn vf rtv k) : B ≤ k ∧ k < W.heap.size := by
  rcases hk with hk | ⟨x, v, hv, hk⟩
  · exact h.roots.lt hk
  · exact (h.kids x v hv).lt hk
theorem BSt.below (h : BSt W B ab kb tb cb a ch rt vf rtv) (hb : Below W.heap.size W W') : BSt W' B ab kb tb cb a ch rt vf rtv :=
  ⟨(hb.block _ (Array.getElem?_eq_some_iff.1 h.hab).1).trans h.hab, (hb.block _ (Array.getElem?_eq_some_iff.1 h.hkb).1).trans h.hkb, (hb.block _ (Array.getElem?_eq_some_iff.1 h.htb).1).trans h.htb, h.km.below hb, fun x v hv => (h.kids x v hv).below hb, h.none_, h.disj, h.roots.below hb, h.rdisj, h.lt⟩
theorem BSt.cab (h : BSt W B ab kb tb cb a ch rt vf rtv) : W.cell? ⟨ab, 0, none⟩ = some (.pointer (some ⟨a, 0, none⟩)) ∧ W.cell? ⟨kb, 0, none⟩ = some (.map (some cb)) ∧ W.cell? ⟨tb, 0, none⟩ = some rtv := by
  refine ⟨?_, ?_, ?_⟩
  · rw [cell_of_row _ _ _ _ _ _ h.hab]; rfl
  · rw [cell_of_row _ _ _ _ _ _ h.hkb]; rfl
  · rw [cell_of_row _ _ _ _ _ _ h.htb]; rfl
/-- A root. -/
theorem BSt.root (h : BSt W B ab kb tb cb a ch rt vf rtv) {x : IdB} {rtv' : Value} (ho : OwnL idE W' B rtv' (rt ++ [x])) (hg : W.grownBy W' rtv.ownBlock) (hat : ∀ k, rtv'.ownBlock = some k → rtv.ownBlock = some k ∨ W.heap.size ≤ k)
    (ht : W''.heap[tb]? = some (.cells #[rtv'] 23 (0, 0))) (hd : Chg (fun k => k = tb) W' W'') :
    BSt W'' B ab kb tb cb a ch (rt ++ [x]) vf rtv' ∧ Chg (fun k => k = cb ∨ k = tb ∨ BOwn vf rtv k) W W'' ∧ ∀ k, BOwn vf rtv' k → BOwn vf rtv k ∨ W.heap.size ≤ k := by
  have hc := OwnL.grown_chg (v := rtv) hg
  have hB : ∀ k, k < B → ¬ (rtv.ownBlock = some k) := fun k hk e => by have := (h.roots.lt e).1; omega
  have keep : ∀ k, k < B → k ≠ tb → k < W.heap.size → W''.heap[k]? = W.heap[k]? := fun k hk hkt hlt => (hd.block k (Nat.lt_of_lt_of_le hlt hc.size) hkt).trans (hc.block k hlt (hB k hk))
  have hn := h.lt
  refine ⟨⟨(keep ab hn.1 hn.2.2.2.2.1 (Array.getElem?_eq_some_iff.1 h.hab).1).trans h.hab, (keep kb hn.2.1 hn.2.2.2.2.2 (Array.getElem?_eq_some_iff.1 h.hkb).1).trans h.hkb, ht, h.km.kept (keep cb hn.2.2.2.1 (fun e => ?_) h.km.lt), fun x v hv => ((h.kids x v hv).chg hc (fun k hk e => h.rdisj x v hv k hk e)).chg hd (fun k hk e => ?_), h.none_, h.disj, ho.chg hd (fun k hk e => ?_), fun y v hv k hk e => ?_, h.lt⟩, (hc.mono (fun k e => .inr (.inr (.inl e)))).trans hd (fun i e => .inl (.inr (.inl e))), fun k hk => ?_⟩
  · have h1 := h.htb
    obtain ⟨es, c, L, h2, _⟩ := h.km.ex
    rw [← e, h2] at h1
    cases h1
  · have h1 := ((h.kids x v hv).lt hk).1
    omega
  · have h1 := (ho.lt hk).1
    omega
  · rcases hat k e with h1 | h1
    · exact h.rdisj y v hv k hk h1
    · have := ((h.kids y v hv).lt hk).2
      omega
  · rcases hk with hk | hk
    · rcases hat k hk with h1 | h1
      · exact .inl (.inl h1)
      · exact .inr h1
    · exact .inl (.inr hk)
/-- A child. -/
theorem BSt.child {W3 : World} (h : BSt W B ab kb tb cb a ch rt vf rtv) {x y : IdB} {v' : Value} (hc1 : Chg (fun k => k = cb) W W') (ho : OwnL idE W'' B v' (ch y ++ [x])) (hg : W'.grownBy W'' ((vf y).getD (.slice none 0 0)).ownBlock) (hat : ∀ k, v'.ownBlock = some k → ((vf y).getD (.slice none 0 0)).ownBlock = some k ∨ W'.heap.size ≤ k)
    (hm : KMapS idKey W3 cb (fun z => if z = y then some v' else vf z)) (hd : Chg (fun k => k = cb) W'' W3) :
    BSt W3 B ab kb tb cb a (upd ch y (ch y ++ [x])) rt (fun z => if z = y then some v' else vf z) rtv ∧ Chg (fun k => k = cb ∨ k = tb ∨ BOwn vf rtv k) W W3 ∧ ∀ k, BOwn (fun z => if z = y then some v' else vf z) rtv k → BOwn vf rtv k ∨ W.heap.size ≤ k := by
  have hc := Chg.grown (F := fun k => ((vf y).getD (.slice none 0 0)).ownBlock = some k) hg (fun k hk => .inl hk)
  have hown : ∀ k, ((vf y).getD (.slice none 0 0)).ownBlock = some k → BOwn vf rtv k := fun k hk => by
    cases hv : vf y with
    | none => rw [hv] at hk; cases hk
    | some v => rw [hv] at hk; exact .inr ⟨y, v, hv, hk⟩
  have hB : ∀ k, k < B → ¬ (((vf y).getD (.slice none 0 0)).ownBlock = some k) := fun k hk e => by have := (h.own_lt (hown k e)).1; omega
  have hn := h.lt
  have keep : ∀ k, k < W.heap.size → k ≠ cb → ¬ (((vf y).getD (.slice none 0 0)).ownBlock = some k) → W3.heap[k]? = W.heap[k]? := fun k hlt hkc hno => ((hd.block k (Nat.lt_of_lt_of_le hlt (Nat.le_trans hc1.size hc.size)) hkc).trans (hc.block k (Nat.lt_of_lt_of_le hlt hc1.size) hno)).trans (hc1.block k hlt hkc)
  have hcne : ∀ (k : Nat) (cs : Array Value) (T : TypeId), W.heap[k]? = some (.cells cs T (0, 0)) → k ≠ cb := fun k cs T h1 e => by
    obtain ⟨es, c, L, h2, _⟩ := h.km.ex
    rw [e, h2] at h1
    cases h1
  have kept : ∀ u M, OwnL idE W B u M → (∀ k, u.ownBlock = some k → ¬ (((vf y).getD (.slice none 0 0)).ownBlock = some k)) → OwnL idE W3 B u M := fun u M hu hno => by
    have hcb : ∀ k, u.ownBlock = some k → k ≠ cb := fun k hk e => by have := (hu.lt hk).1; omega
    exact ((hu.chg hc1 hcb).chg hc hno).chg hd hcb
  refine ⟨⟨(keep ab (Array.getElem?_eq_some_iff.1 h.hab).1 (hcne _ _ _ h.hab) (hB _ hn.1)).trans h.hab, (keep kb (Array.getElem?_eq_some_iff.1 h.hkb).1 (hcne _ _ _ h.hkb) (hB _ hn.2.1)).trans h.hkb, (keep tb (Array.getElem?_eq_some_iff.1 h.htb).1 (hcne _ _ _ h.htb) (hB _ hn.2.2.1)).trans h.htb, hm, fun z v hv => ?_, fun z hz => ?_, fun z u v v2 hzu hv hv2 k hk e => ?_, kept rtv rt h.roots (fun k hk e => ?_), fun z v hv k hk e => ?_, h.lt⟩, ?_, fun k hk => ?_⟩
  · have hv : (if z = y then some v' else vf z) = some v := hv
    by_cases hz : z = y
    · rw [if_pos hz] at hv
      cases hv
      rw [hz, upd_same]
      exact ho.chg hd (fun k hk e => by have := (ho.lt hk).1; omega)
    · rw [if_neg hz] at hv
      rw [upd_other _ hz]
      refine kept v _ (h.kids z v hv) (fun k hk e => ?_)
      cases hy : vf y with
      | none => rw [hy] at e; cases e
      | some u => rw [hy] at e; exact h.disj z y v u hz hv hy k hk e
  · have hz : (if z = y then some v' else vf z) = none := hz
    by_cases e : z = y
    · rw [if_pos e] at hz; cases hz
    · rw [if_neg e] at hz
      rw [upd_other _ e]
      exact h.none_ z hz
  · have hv : (if z = y then some v' else vf z) = some v := hv
    have hv2 : (if u = y then some v' else vf u) = some v2 := hv2
    have key : ∀ z2 u2 k, z2 ≠ y → vf z2 = some u2 → u2.ownBlock = some k → v'.ownBlock ≠ some k := fun z2 u2 k hz2 hu2 hk2 e2 => by
      rcases hat k e2 with h1 | h1
      · cases hy : vf y with
        | none => rw [hy] at h1; cases h1
        | some u3 => rw [hy] at h1; exact h.disj z2 y u2 u3 hz2 hu2 hy k hk2 h1
      · have h2 := ((h.kids z2 u2 hu2).lt hk2).2
        have h3 := hc1.size
        omega
    by_cases hz : z = y
    · rw [if_pos hz] at hv
      have hu : u ≠ y := fun e2 => hzu (hz.trans e2.symm)
      rw [if_neg hu] at hv2
      cases hv
      exact key u v2 k hu hv2 e hk
    · rw [if_neg hz] at hv
      by_cases hu : u = y
      · rw [if_pos hu] at hv2
        cases hv2
        exact key z v k hz hv hk e
      · rw [if_neg hu] at hv2
        exact h.disj z u v v2 hzu hv hv2 k hk e
  · cases hy : vf y with
    | none => rw [hy] at e; cases e
    | some u => rw [hy] at e; exact h.rdisj y u hy k e hk
  · have hv : (if z = y then some v' else vf z) = some v := hv
    by_cases hz : z = y
    · rw [if_pos hz] at hv
      cases hv
      rcases hat k hk with h1 | h1
      · cases hy : vf y with
        | none => rw [hy] at h1; cases h1
        | some u3 => rw [hy] at h1; exact h.rdisj y u3 hy k h1 e
      · have h2 := (h.roots.lt e).2
        have h3 := hc1.size
        omega
    · rw [if_neg hz] at hv
      exact h.rdisj z v hv k hk e
  · exact ((hc1.mono (fun k e => Or.inl e)).trans (hc.mono (fun k e => (Or.inr (Or.inr (hown k e)) : k = cb ∨ k = tb ∨ BOwn vf rtv k))) (fun i e => .inl e)).trans hd (fun i e => .inl (.inl e))
  · rcases hk with hk | ⟨z, v, hv, hk⟩
    · exact .inl (.inl hk)
    · have hv : (if z = y then some v' else vf z) = some v := hv
      by_cases hz : z = y
      · rw [if_pos hz] at hv
        cases hv
        rcases hat k hk with h1 | h1
        · exact .inl (hown k h1)
        · exact .inr (by have := hc1.size; omega)
      · rw [if_neg hz] at hv
        exact .inl (.inr ⟨z, v, hv, hk⟩)
end
theorem zeroIds (w : World) : (zeroValue 23).run Try.prog w = .ok (.slice none 0 0) w := by kernel_rfl
def PlacePost (w : World) (B ab kb tb cb a : Nat) (st : Kid × List IdB) (vf : IdB → Option Value) (rtv : Value) (e : Ending) (w' : World) : Prop :=
  e = .returned (.tuple #[]) ∧ ∃ vf' rtv', BSt w' B ab kb tb cb a st.1 st.2 vf' rtv' ∧ Chg (fun k => k = cb ∨ k = tb ∨ BOwn vf rtv k) w w' ∧ ∀ k, BOwn vf' rtv' k → BOwn vf rtv k ∨ w.heap.size ≤ k
theorem BSt.vown {W : World} {B ab kb tb cb a : Nat} {ch : Kid} {rt : List IdB} {vf : IdB → Option Value} {rtv : Value} (h : BSt W B ab kb tb cb a ch rt vf rtv) (y : IdB) : OwnL idE W B ((vf y).getD (.slice none 0 0)) (ch y) := by
  cases hv : vf y with
  | none => rw [h.none_ y hv]; exact ownL_nil idE W B
  | some v => exact h.kids y v hv
set_option maxRecDepth 100000 in
set_option maxHeartbeats 2000000 in
theorem place_any {w : World} {B ab kb tb cb a rb pb : Nat} {ch : Kid} {rt : List IdB} {vf : IdB → Option Value} {rtv rv ov : Value} {L : List RowV} {O : List Nat} {rkf : IdB → Option Nat} {c : Par} (h : BSt w B ab kb tb cb a ch rt vf rtv) (ha : ArrAt w a rb pb rv ov L O rkf c) (hB : B ≤ w.heap.size) (hch : ∀ y, (ch y).length < 100000000) (hrt : rt.length < 100000000) (x : IdB) :
    Calls Try.prog 33 #[.agg (bvs x.1).toArray, .pointer (some ⟨ab, 0, none⟩), .pointer (some ⟨kb, 0, none⟩), .pointer (some ⟨tb, 0, none⟩)] w (PlacePost w B ab kb tb cb a (putK c (ch, rt) x) vf rtv) := by
  obtain ⟨w1, hw1⟩ : ∃ w1, w.alloc (.cells (bvs x.1).toArray 31) = w1 := ⟨_, rfl⟩
  have hb1 : Below w.heap.size w w1 := hw1 ▸ (Below.refl _ _).alloc (Nat.le_refl _) _
  have x1 : w1.heap[w.heap.size]? = some (.cells (bvs x.1).toArray 31 (0, 0)) := by rw [← hw1]; exact heap_alloc_new _ _
  obtain ⟨B4, hB4⟩ : ∃ B4, w.heap.size = B4 := ⟨_, rfl⟩
  rw [hB4] at x1
  obtain ⟨y0, hy0⟩ : ∃ y0, (c x).getD z32 = y0 := ⟨_, rfl⟩
  obtain ⟨ok, hok⟩ : ∃ ok, (c x).isSome = ok := ⟨_, rfl⟩
  have HX1 := Lib.hid x1
  have HH := Lib.hid h
  have HHA := Lib.hid ha
  have HB1 := Lib.hid hb1
  have HBB := Lib.hid hB
  have HCH := Lib.hid hch
  have HRT := Lib.hid hrt
  have HF := Lib.hid (show ∀ w', Below w1.heap.size w1 w' → w'.cell? ⟨ab, 0, none⟩ = some (.pointer (some ⟨a, 0, none⟩)) ∧ w'.cell? ⟨a, 3, none⟩ = some (.map (some pb)) ∧ (Instr.lookup 75 (.map (some pb)) (.agg (bvs x.1).toArray) true).run Try.prog w' = .ok (.tuple #[.agg (bvs y0.1).toArray, .bool ok]) w' ∧ w'.rangeAt B4 0 (bvs x.1) from fun w' hw' => by
    have hbw := hb1.trans (hw'.mono hb1.size)
    have ha2 := ha.below hbw
    have h2 := ha2.lookP x true
    rw [if_pos rfl, hy0, hok] at h2
    exact ⟨(h.below hbw).cab.1, ha2.cells.2.2.2, h2, range_block ((hw'.block _ (Array.getElem?_eq_some_iff.1 x1).1).trans x1)⟩)
  have HY0 := Lib.hid hy0
  have HOK := Lib.hid hok
  clear h ha hb1 x1 hy0 hok hB hch hrt
  go_enter Try.func33, Try.ntmps33
  go_wp2_with fail
  refine wp_region_noPanic ?_
  refine wp_region_H (fun w' => Below w1.heap.size w1 w' ∧ w1.heap.size ≤ w'.heap.size) (by kernel_rfl) ?_
  have hS0 : (fun w' => Below w1.heap.size w1 w' ∧ w1.heap.size ≤ w'.heap.size) w1.drew := ⟨(Below.refl _ _).drew, Nat.le_refl _⟩
  obtain ⟨wd, hwd⟩ : ∃ wd, w1.drew = wd := ⟨_, rfl⟩
  have hzd : wd.heap.size = w1.heap.size := hwd ▸ rfl
  rw [hwd] at hS0 ⊢
  clear hwd
  refine wpAnyH_takeI (i := 0) (v := ?v1) rfl (by kernel_rfl) (by kernel_rfl) (by kernel_rfl) (fun _ _ _ h => h) (yieldsIf_run rfl (fun w' hw' => ?y1)) hS0 ?_
  case y1 => (obtain ⟨q1, q2, q3, _⟩ := HF.out w' hw'.1; clear hw'; first | (go_simp; rfl) | (go_simp; done))
  simp only [Act.put, List.setIfInBounds_toArray, List.set_cons_zero, List.set_cons_succ]
  refine wpAnyH_takeI (i := 1) (v := ?v2) rfl (by kernel_rfl) (by kernel_rfl) (by kernel_rfl) (fun _ _ _ h => h) (yieldsIf_run rfl (fun w' hw' => ?y2)) hS0 ?_
  case y2 => first | (go_simp; rfl) | (go_simp; done) | rfl
  simp only [Act.put, List.setIfInBounds_toArray, List.set_cons_zero, List.set_cons_succ]
  refine wpAnyH_takeI (i := 2) (v := ?v3) rfl (by kernel_rfl) (by kernel_rfl) (by kernel_rfl) (fun _ _ _ h => h) (yieldsIf_run rfl (fun w' hw' => ?y3)) hS0 ?_
  case y3 => first | (go_simp; rfl) | (go_simp; done) | rfl
  simp only [Act.put, List.setIfInBounds_toArray, List.set_cons_zero, List.set_cons_succ]
  refine wpAnyH_takeI (i := 3) (v := ?v4) rfl (by kernel_rfl) (by kernel_rfl) (by kernel_rfl) (fun _ _ _ h => h) (yieldsIf_run rfl (fun w' hw' => ?y4)) hS0 ?_
  case y4 => (obtain ⟨q1, q2, q3, _⟩ := HF.out w' hw'.1; clear hw'; first | (go_simp; rfl) | (go_simp; done))
  simp only [Act.put, List.setIfInBounds_toArray, List.set_cons_zero, List.set_cons_succ]
  refine wpAnyH_takeI (i := 4) (v := .agg (bvs x.1).toArray) rfl (by kernel_rfl) (by kernel_rfl) (by kernel_rfl) (fun _ _ _ h => h) (yieldsIf_load_mid rfl 31 (.tmp 4) rfl B4 0 rfl (bvs x.1) _ (fun w' hw' => (HF.out w' hw'.1).2.2.2) Try.underlying31 rfl (sizeId x)) hS0 ?_
  simp only [Act.put, List.setIfInBounds_toArray, List.set_cons_zero, List.set_cons_succ]
  refine wpAnyH_takeI (i := 5) (v := .tuple #[.agg (bvs y0.1).toArray, .bool ok]) rfl (by kernel_rfl) (by kernel_rfl) (by kernel_rfl) (fun _ _ _ h => h) (yieldsIf_run rfl (fun w' hw' => ?y5)) hS0 ?_
  case y5 => (obtain ⟨q1, q2, q3, _⟩ := HF.out w' hw'.1; clear hw'; first | (go_simp; rfl) | (go_simp; done))
  simp only [Act.put, List.setIfInBounds_toArray, List.set_cons_zero, List.set_cons_succ]
  refine wpAnyH_takeI (i := 6) (v := .tuple #[.agg (bvs y0.1).toArray, .bool ok]) rfl (by kernel_rfl) (by kernel_rfl) (by kernel_rfl) (fun _ _ _ h => h) (yieldsIf_run rfl (fun w' hw' => ?y6)) hS0 ?_
  case y6 => first | (go_simp; rfl) | (go_simp; done) | rfl
  simp only [Act.put, List.setIfInBounds_toArray, List.set_cons_zero, List.set_cons_succ]
  refine wpAnyH_takeI (i := 7) (v := .agg (bvs y0.1).toArray) rfl (by kernel_rfl) (by kernel_rfl) (by kernel_rfl) (fun _ _ _ h => h) (yieldsIf_run rfl (fun w' hw' => ?y7)) hS0 ?_
  case y7 => first | (go_simp; rfl) | (go_simp; done) | rfl
  simp only [Act.put, List.setIfInBounds_toArray, List.set_cons_zero, List.set_cons_succ]
  refine wpAnyH_takeI (i := 8) (v := .bool ok) rfl (by kernel_rfl) (by kernel_rfl) (by kernel_rfl) (fun _ _ _ h => h) (yieldsIf_run rfl (fun w' hw' => ?y8)) hS0 ?_
  case y8 => first | (go_simp; rfl) | (go_simp; done) | rfl
  simp only [Act.put, List.setIfInBounds_toArray, List.set_cons_zero, List.set_cons_succ]
  refine wpAnyH_do (i := 9) (by kernel_rfl) rfl rfl (fun K hK => ?_)
  refine wp_newV (some 5) rfl 31 rfl #[.int .u8 0, .int .u8 0, .int .u8 0, .int .u8 0, .int .u8 0, .int .u8 0, .int .u8 0, .int .u8 0, .int .u8 0, .int .u8 0, .int .u8 0, .int .u8 0, .int .u8 0, .int .u8 0, .int .u8 0, .int .u8 0, .int .u8 0, .int .u8 0, .int .u8 0, .int .u8 0, .int .u8 0, .int .u8 0, .int .u8 0, .int .u8 0, .int .u8 0, .int .u8 0, .int .u8 0, .int .u8 0, .int .u8 0, .int .u8 0, .int .u8 0, .int .u8 0] 32 (by kernel_rfl) ?_
  intro wn xn bi sn
  have hS1 : (fun w' => Below w1.heap.size w1 w' ∧ w1.heap.size ≤ w'.heap.size) wn := ⟨hS0.1.trans (bi.mono hS0.2), by have h1 := hS0.2; omega⟩
  refine hK _ _ hS1 ?_
  clear hK K
  try simp only [Act.put, List.setIfInBounds_toArray, List.set_cons_zero, List.set_cons_succ]
  refine wpAnyH_do (i := 10) (by kernel_rfl) rfl rfl (fun K hK => ?_)
  refine wp_putV rfl 31 (.tmp 5) (.tmp 14) rfl _ (bvs y0.1).toArray rfl rfl 31 _ xn (sizeIdA y0) (zsId y0) (all_oneCell_toArray bvs_oneCell) ?_
  intro w2 xi ci si
  have hS2 : (fun w' => Below w1.heap.size w1 w' ∧ w1.heap.size ≤ w'.heap.size) w2 := ⟨hS1.1.trans (ci.below (B := w1.heap.size) (fun k e => by omega) hS1.2), by have h1 := hS1.2; omega⟩
  refine hK _ _ hS2 ?_
  clear hK K
  try simp only [Act.put, List.setIfInBounds_toArray, List.set_cons_zero, List.set_cons_succ]
  refine wpAnyH_takeI (i := 11) (v := .bool ok) rfl (by kernel_rfl) (by kernel_rfl) (by kernel_rfl) (fun _ _ _ h => h) (yieldsIf_run rfl (fun w' hw' => ?y9)) hS2 ?_
  case y9 => first | (go_simp; rfl) | (go_simp; done) | rfl
  simp only [Act.put, List.setIfInBounds_toArray, List.set_cons_zero, List.set_cons_succ]
  refine wpAnyH_done (by kernel_rfl) ?_ _
  refine NoPanic.normal ?_
  rw [hzd] at xi sn ⊢
  have HZN := Lib.hid xi
  have HSN := Lib.hid hS2.1
  have HSZN := Lib.hid (show w2.heap.size = w1.heap.size + 1 by omega)
  clear xn xi bi ci si sn hS0 hS1 hS2 hzd
  have HB2 := Lib.hid (HB1.out.trans (HSN.out.mono HB1.out.size))
  have HX2 := Lib.hid ((HSN.out.block _ (Array.getElem?_eq_some_iff.1 HX1.out).1).trans HX1.out)
  obtain ⟨B5, hB5⟩ : ∃ B5, w1.heap.size = B5 := ⟨_, rfl⟩
  rw [hB5] at HZN ⊢
  have H2 := Lib.hid (HH.out.below HB2.out)
  obtain ⟨c1, c2, c3⟩ := H2.out.cab
  clear HF hB5 c1 HX1
  cases hp : c x with
  | none =>
    obtain rfl : ok = false := by rw [← HOK.out, hp]; rfl
    have HPU := Lib.hid (show putK c (ch, rt) x = (ch, rt ++ [x]) by unfold putK; rw [hp])
    obtain ⟨ra, rc, hrtv⟩ := H2.out.roots.form
    rw [hrtv] at c3
    clear hp c2
    go_wp2_with (refine wpList_loadV rfl (some 26) rfl 31 (.tmp 4) rfl _ rfl 31 (bvs x.1).toArray (0, 0) _ HX2.out Try.underlying31 rfl (sizeIdA x) ?_; refine Stop.on ?_)
    refine Stop.go ?_
    try simp only [Act.put, List.setIfInBounds_toArray, List.set_cons_zero, List.set_cons_succ]
    go_wp2_with (refine wpList_litsV idE rfl (some 27) rfl 1 _ rfl [x] rfl rfl (by decide) (by decide) ?_; refine Stop.on ?_)
    refine Stop.go ?_
    try simp only [Act.put, List.setIfInBounds_toArray, List.set_cons_zero, List.set_cons_succ]
    intro w3 xl bl sl
    try simp only [Act.put, List.setIfInBounds_toArray, List.set_cons_zero, List.set_cons_succ]
    have H3 := Lib.hid (H2.out.below bl)
    have HL3 := Lib.hid (show ListAt idE w3 (.slice (some ⟨w2.heap.size, 0, none⟩) 1 1) [x] from list_of_block idE (M := [x]) xl (by unfold maxLen; simp))
    have HB3 := Lib.hid (HB2.out.trans (bl.mono HB2.out.size))
    have HO3 := Lib.hid (show OwnL idE w3 B (.slice ra rt.length rc) rt by rw [← hrtv]; exact H3.out.roots)
    have HBB3 := Lib.hid (Nat.le_trans HBB.out HB3.out.size)
    have HRV := Lib.hid hrtv
    clear xl bl sl hrtv
    go_wp2_with (refine wpList_appL idE rfl (.tmp 25) (.tmp 27) rfl rfl HO3.out rfl HL3.out (n := rt.length) (m := 1) rfl rfl (by have := HRT.out; omega) HBB3.out ?_; refine Stop.on ?_)
    refine Stop.go ?_
    try simp only [Act.put, List.setIfInBounds_toArray, List.set_cons_zero, List.set_cons_succ]
    intro a' cap' w4 ho4 hg4 hat4
    try simp only [Act.put, List.setIfInBounds_toArray, List.set_cons_zero, List.set_cons_succ]
    have HO4 := Lib.hid ho4
    have HG4 := Lib.hid hg4
    have HAT4 := Lib.hid hat4
    have HT4 := Lib.hid (show w4.heap[tb]? = some (.cells #[.slice ra rt.length rc] 23 (0, 0)) by
      have h1 := H3.out.htb
      rw [HRV.out] at h1
      refine (hg4.block tb (Array.getElem?_eq_some_iff.1 h1).1 (fun e => ?_)).trans h1
      have h2 := (HO3.out.lt e.symm).1
      have h3 := H3.out.lt
      omega)
    clear ho4 hg4 hat4 c3
    go_wp2_with (refine wpList_putC rfl rfl 23 (.tmp 3) (.tmp 28) rfl tb 0 (.slice a' (rt.length + 1) cap') rfl rfl HT4.out (by show 0 < 1; decide) rfl (by kernel_rfl) ?_; refine Stop.on ?_)
    refine Stop.go ?_
    try simp only [Act.put, List.setIfInBounds_toArray, List.set_cons_zero, List.set_cons_succ]
    intro w5 ht5 hd5 hs5
    try simp only [Act.put, List.setIfInBounds_toArray, List.set_cons_zero, List.set_cons_succ]
    have ht5 : w5.heap[tb]? = some (.cells #[.slice a' (rt.length + 1) cap'] 23 (0, 0)) := ht5
    obtain ⟨f1, f2, f3⟩ := H3.out.root HO4.out (by rw [HRV.out]; exact HG4.out) (by rw [HRV.out]; exact HAT4.out) ht5 hd5
    have F1 := Lib.hid f1
    have F2 := Lib.hid f2
    have F3 := Lib.hid f3
    clear ht5 hd5 hs5 f1 f2 f3
    go_wp2_with fail
    refine bodyPost_end (v := .tuple #[]) (by simp [results, Try.results33, go_sem]) rfl ⟨rfl, vf, .slice a' (rt.length + 1) cap', ?_, (Chg.of_below HB3.out).trans F2.out (fun i e => .inl e), fun k hk => ?_⟩
    · rw [HPU.out]; exact F1.out
    · rcases F3.out k hk with h1 | h1
      · exact .inl h1
      · exact .inr (Nat.le_trans HB3.out.size h1)
  | some y =>
    obtain rfl : ok = true := by rw [← HOK.out, hp]; rfl
    obtain rfl : y0 = y := by rw [← HY0.out, hp]; rfl
    have HPU := Lib.hid (show putK c (ch, rt) x = (upd ch y0 (ch y0 ++ [x]), rt) by unfold putK; rw [hp])
    clear hp c3
    go_wp2_with (refine wpList_loadV rfl (some 18) rfl 31 (.tmp 5) rfl _ rfl 31 (bvs y0.1).toArray (0, 0) _ HZN.out Try.underlying31 rfl (sizeIdA y0) ?_; refine Stop.on ?_)
    refine Stop.go ?_
    try simp only [Act.put, List.setIfInBounds_toArray, List.set_cons_zero, List.set_cons_succ]
    go_wp2_with (refine wpList_loadV rfl (some 20) rfl 31 (.tmp 4) rfl _ rfl 31 (bvs x.1).toArray (0, 0) _ HX2.out Try.underlying31 rfl (sizeIdA x) ?_; refine Stop.on ?_)
    refine Stop.go ?_
    try simp only [Act.put, List.setIfInBounds_toArray, List.set_cons_zero, List.set_cons_succ]
    go_wp2_with (refine wpList_litsV idE rfl (some 21) rfl 1 _ rfl [x] rfl rfl (by decide) (by decide) ?_; refine Stop.on ?_)
    refine Stop.go ?_
    try simp only [Act.put, List.setIfInBounds_toArray, List.set_cons_zero, List.set_cons_succ]
    intro w3 xl bl sl
    try simp only [Act.put, List.setIfInBounds_toArray, List.set_cons_zero, List.set_cons_succ]
    have H3 := Lib.hid (H2.out.below bl)
    have HL3 := Lib.hid (show ListAt idE w3 (.slice (some ⟨w2.heap.size, 0, none⟩) 1 1) [x] from list_of_block idE (M := [x]) xl (by unfold maxLen; simp))
    have HB3 := Lib.hid (HB2.out.trans (bl.mono HB2.out.size))
    obtain ⟨va, vc, hva⟩ := (H3.out.vown y0).form
    have HVA := Lib.hid hva
    clear xl bl sl hva
    go_wp2_with (refine wpList_entryV H3.out.km rfl (some 22) rfl 72 Try.underlying72 zeroIds (.tmp 17) (.tmp 18) rfl rfl y0 rfl ?_; refine Stop.on ?_)
    refine Stop.go ?_
    try simp only [Act.put, List.setIfInBounds_toArray, List.set_cons_zero, List.set_cons_succ]
    intro w4 st he4 hc4 hs4
    try simp only [Act.put, List.setIfInBounds_toArray, List.set_cons_zero, List.set_cons_succ]
    rw [HVA.out]
    have HE4 := Lib.hid he4
    have HC4 := Lib.hid hc4
    have HO4 := Lib.hid (show OwnL idE w4 B (.slice va (ch y0).length vc) (ch y0) by
      have h1 := H3.out.vown y0
      rw [HVA.out] at h1
      exact h1.chg hc4 (fun k hk e => by have h2 := (h1.lt hk).1; have h3 := H3.out.lt; omega))
    have HL4 := Lib.hid (HL3.out.kept_map H3.out.km.kmap (fun x => by show 0 < (bvs x.1).length; rw [bvs_length, x.2]; decide) hc4)
    have HBB4 := Lib.hid (Nat.le_trans HBB.out (Nat.le_trans HB3.out.size hc4.size))
    clear he4 hc4 hs4 c2
    go_wp2_with (refine wpList_appL idE rfl (.tmp 19) (.tmp 21) rfl rfl HO4.out rfl HL4.out (n := (ch y0).length) (m := 1) rfl rfl (by have := HCH.out y0; omega) HBB4.out ?_; refine Stop.on ?_)
    refine Stop.go ?_
    try simp only [Act.put, List.setIfInBounds_toArray, List.set_cons_zero, List.set_cons_succ]
    intro a' cap' w5 ho5 hg5 hat5
    try simp only [Act.put, List.setIfInBounds_toArray, List.set_cons_zero, List.set_cons_succ]
    have HO5 := Lib.hid ho5
    have HG5 := Lib.hid hg5
    have HAT5 := Lib.hid hat5
    have HE5 := Lib.hid (HE4.out.kept (w' := w5) (hg5.block cb HE4.out.lt (fun e => by have h2 := (HO4.out.lt e.symm).1; have h3 := H3.out.lt; omega)))
    clear ho5 hg5 hat5
    go_wp2_with (refine wpList_entryStV HE5.out rfl rfl 72 (.tmp 17) (.tmp 24) (.tmp 23) rfl rfl rfl (.slice a' ((ch y0).length + 1) cap') rfl ?_; refine Stop.on ?_)
    refine Stop.go ?_
    try simp only [Act.put, List.setIfInBounds_toArray, List.set_cons_zero, List.set_cons_succ]
    intro w6 hm6 hd6 hs6
    try simp only [Act.put, List.setIfInBounds_toArray, List.set_cons_zero, List.set_cons_succ]
    obtain ⟨f1, f2, f3⟩ := H3.out.child (x := x) (y := y0) HC4.out HO5.out (by rw [HVA.out]; exact HG5.out) (by rw [HVA.out]; exact HAT5.out) hm6 hd6
    have F1 := Lib.hid f1
    have F2 := Lib.hid f2
    have F3 := Lib.hid f3
    clear hm6 hd6 hs6 f1 f2 f3
    go_wp2_with fail
    refine bodyPost_end (v := .tuple #[]) (by simp [results, Try.results33, go_sem]) rfl ⟨rfl, (fun z => if z = y0 then some (.slice a' ((ch y0).length + 1) cap') else vf z), rtv, ?_, (Chg.of_below HB3.out).trans F2.out (fun i e => .inl e), fun k hk => ?_⟩
    · rw [HPU.out]; exact F1.out
    · rcases F3.out k hk with h1 | h1
      · exact .inl h1
      · exact .inr (Nat.le_trans HB3.out.size h1)
end Go.Proofs.Ytjjanjhoaiannaa
