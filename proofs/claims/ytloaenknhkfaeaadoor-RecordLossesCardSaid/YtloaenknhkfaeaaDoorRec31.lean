/- Records: lists of sectors: joined, and one of them replaced; Records: two lists of the same records. -/
import Derived.Test.YtloaenknhkfaeaaDoorRec26
namespace Go.Proofs.YtloaenknhkfaeaaDoor
open Go.RowKit
set_option linter.unusedVariables false
set_option linter.unusedSimpArgs false

theorem slice_cutS (a : Option Addr) (n c m : Nat) (hm : m ≤ c) (hz : a = none → c = 0) (w : World) :
    (Instr.sliceAt 52 (.slice a n c) none (some (.int .i64 (m : Int))) none).run Tryd.prog w = .ok (.slice a m c) w := by
  cases a with
  | none =>
    obtain rfl := hz rfl
    obtain rfl : m = 0 := by omega
    have h0 : ∀ w, (Instr.sliceAt 52 (.slice none n 0) none (some (.int .i64 0)) none).run Tryd.prog w = .ok (.slice none 0 0) w := fun w => by go_simp
    exact h0 w
  | some ad =>
    have h1 : (m : Int) ≤ (c : Int) := by omega
    go_simp

section
variable {w : World} {B : Nat} {v xv : Value} {L M : List (List UInt8)}
theorem ownSecs_join {w' : World} {v' : Value} {vs us : List Value} (hr : w.ownsRow B 22 1 v L.length vs) (he : ∀ i (h : i < L.length), ∃ u, vs[i]? = some u ∧ w.ownsRow B 5 1 u L[i].length (bvs L[i]))
    (hu : us.length = M.length) (he2 : ∀ i (h : i < M.length), ∃ u, us[i]? = some u ∧ w.ownsRow B 5 1 u M[i].length (bvs M[i]))
    (hown : w'.ownsRow B 22 1 v' (L.length + M.length) (vs ++ us)) (hg : w.grownBy w' v.ownBlock) : OwnSecs w' B v' (L ++ M) := by
  have hvl : vs.length = L.length := by have := hr.1; omega
  have keep : ∀ y m (ys : List UInt8), w.ownsRow B 5 1 y m (bvs ys) → w'.ownsRow B 5 1 y m (bvs ys) := fun y m ys hy => World.ownsRow.kept hy hg (own_ne2 hr hy (by decide))
  refine ⟨vs ++ us, by rw [List.length_append]; exact hown, fun i hi => ?_⟩
  by_cases hlt : i < L.length
  · obtain ⟨y, h1, h2⟩ := he i hlt
    refine ⟨y, by rw [List.getElem?_append_left (by omega)]; exact h1, ?_⟩
    rw [List.getElem_append_left hlt]
    exact keep _ _ _ h2
  · rw [List.length_append] at hi
    obtain ⟨y, h1, h2⟩ := he2 (i - L.length) (by omega)
    refine ⟨y, by rw [List.getElem?_append_right (by omega), hvl]; exact h1, ?_⟩
    rw [List.getElem_append_right (by omega)]
    exact keep _ _ _ h2
theorem ownsRow_from {w : World} {B B1 n s : Nat} {T : TypeId} {v : Value} {xs : List Value} (h : w.ownsRow B T s v n xs) (h1 : ∀ k, v.ownBlock = some k → B1 ≤ k) : w.ownsRow B1 T s v n xs := by
  refine ⟨h.1, ?_⟩
  rcases h.2 with h0 | ⟨g, cap, cur, rfl, hb, hg, hx⟩
  · exact .inl h0
  · exact .inr ⟨g, cap, cur, rfl, h1 g rfl, hg, hx⟩
/-- A list of sectors behind another: the row of the first lies from B1 on. -/
theorem wp_appSecs {o : Oper} {a : Act} {Q : Exit → Act → World → Prop} {K : Act → World → Prop} (s x : Operand) (ho : o.op = .call { callee := .builtin .append, args := #[s, x], argTypes := #[52, 52] })
    (hs : a.eval s = v) (hown : OwnSecs w B v L) (hx : a.eval x = xv) (hM : OwnSecs w B xv M)
    {n m : Nat} (hL : L.length = n) (hm : M.length = m) (hn : n + m < 1000000000) (hB : B ≤ w.heap.size) (B1 : Nat) (hB1 : ∀ k, v.ownBlock = some k → B1 ≤ k) (hB1s : B1 ≤ w.heap.size)
    (h : ∀ a' cap' w', OwnSecs w' B (.slice a' (n + m) cap') (L ++ M) → (∀ k, (Value.slice a' (n + m) cap').ownBlock = some k → B1 ≤ k) → Below B1 w w' → K (a.put o.dst (.slice a' (n + m) cap')) w') :
    o.wp Tryd.prog a w K Q := by
  subst hL
  subst hm
  obtain ⟨i0, hi, hz0, hz1, hz2⟩ := info_parts infoSl
  obtain ⟨vs, hr, he⟩ := hown.ex
  obtain ⟨us, hr2, he2⟩ := hM.ex
  have hul : us.length = M.length := by have := hr2.1; omega
  rcases hr2.2 with ⟨rfl, h0⟩ | ⟨g, cap, cur, rfl, _, hg, hnc, _⟩
  · have hu0 : us = [] := List.eq_nil_of_length_eq_zero (by omega)
    have hM0 : M = [] := List.eq_nil_of_length_eq_zero h0
    subst hM0
    obtain ⟨va, vc, rfl⟩ := ownsRow_form hr
    have hrun := run_append_owned_none (P := Tryd.prog) (w := w) B 52 o.type 22 i0 1 Tryd.underlying52 hi _ L.length vs hr
    have h2 := h va vc w (by simpa using hown) (by simpa using hB1) (Below.refl _ _)
    unfold Oper.wp execOp
    simp only [ho, resolve, invoke, builtin, Sem.run_bind, Sem.run_pure, Result.andThen_ok, List.map_toArray, List.map_cons, List.map_nil, hs, hx]
    rw [hrun]
    exact h2
  · have hone : ∀ y ∈ us, y.oneCell' = true := fun y hy => by
      obtain ⟨j, hj, rfl⟩ := List.mem_iff_getElem.1 hy
      obtain ⟨u, h1, h2⟩ := he2 j (by omega)
      rw [List.getElem?_eq_getElem hj] at h1
      cases h1
      obtain ⟨ya, yc, e⟩ := ownsRow_form h2
      rw [e]; rfl
    obtain ⟨v', w', hrun, hown', hgrow, _⟩ := run_append_own (P := Tryd.prog) w B 52 o.type 22 i0 _ 1 24 Tryd.underlying52 hi hz0 hz1 hz2 rfl (by decide) v L.length vs hr ⟨g, 0, none⟩ M.length cap us (by omega) (hr2.cells (g := g) rfl) hone (by unfold maxLen; omega) (by omega) hB
    obtain ⟨v2, w2, hrun2, hown2, _, _⟩ := run_append_own (P := Tryd.prog) w B1 52 o.type 22 i0 _ 1 24 Tryd.underlying52 hi hz0 hz1 hz2 rfl (by decide) v L.length vs (ownsRow_from hr hB1) ⟨g, 0, none⟩ M.length cap us (by omega) (hr2.cells (g := g) rfl) hone (by unfold maxLen; omega) (by omega) hB1s
    rw [hrun] at hrun2
    cases hrun2
    obtain ⟨a', cap', rfl⟩ := ownsRow_form hown'
    unfold Oper.wp execOp
    simp only [ho, resolve, invoke, builtin, Sem.run_bind, Sem.run_pure, Result.andThen_ok, List.map_toArray, List.map_cons, List.map_nil, hs, hx, hrun]
    exact h a' cap' w' (ownSecs_join hr he hul he2 hown' hgrow) (fun k hk => (hown2.lt k hk).1) (grown_below (ownsRow_from hr hB1) hgrow hB1s)
theorem wpList_appSecs {ops : Array Oper} {rest : List Oper} {o : Oper} {a : Act} {Q : Exit → Act → World → Prop} (hgd : o.guard = none) (s x : Operand) (ho : o.op = .call { callee := .builtin .append, args := #[s, x], argTypes := #[52, 52] })
    (hs : a.eval s = v) (hown : OwnSecs w B v L) (hx : a.eval x = xv) (hM : OwnSecs w B xv M)
    {n m : Nat} (hL : L.length = n) (hm : M.length = m) (hn : n + m < 1000000000) (hB : B ≤ w.heap.size) (B1 : Nat) (hB1 : ∀ k, v.ownBlock = some k → B1 ≤ k) (hB1s : B1 ≤ w.heap.size)
    (h : ∀ a' cap' w', OwnSecs w' B (.slice a' (n + m) cap') (L ++ M) → (∀ k, (Value.slice a' (n + m) cap').ownBlock = some k → B1 ≤ k) → Below B1 w w' → wpList Tryd.prog ops Q rest (a.put o.dst (.slice a' (n + m) cap')) w') :
    wpList Tryd.prog ops Q (o :: rest) a w :=
  wpList_plain hgd fun _ hK => wp_appSecs s x ho hs hown hx hM hL hm hn hB B1 hB1 hB1s fun a' cap' w' h1 h2 h3 => hK _ _ (h a' cap' w' h1 h2 h3)
/-- An empty row of sectors, just made. -/
theorem ownSecs_zero {B : Nat} (hB : B ≤ w.heap.size) : OwnSecs (w.alloc (.cells #[] 22)) B (.slice (some ⟨w.heap.size, 0, none⟩) 0 0) [] :=
  ⟨[], own_zero hB _, fun i hi => by simp at hi⟩
/-- One of the sectors replaced. -/
theorem OwnSecs.set {g n cap : Nat} (h : OwnSecs w B (.slice (some ⟨g, 0, none⟩) n cap) L) {i : Nat} {u : Value} {l : List UInt8} (hu : w.ownsRow B 5 1 u l.length (bvs l)) :
    OwnSecs (w.setCell ⟨g, i, none⟩ u) B (.slice (some ⟨g, 0, none⟩) n cap) (L.set i l) := by
  obtain ⟨vs, hr, he⟩ := h.ex
  obtain ⟨a', c', e⟩ := ownsRow_form hr
  cases e
  have hset := ownsRow_set hr (i := i) u
  have hc : Chg (fun k => k = g) w (w.setCell ⟨g, i, none⟩ u) := Chg.setCell _ _ rfl
  have keep : ∀ y m (ys : List UInt8), w.ownsRow B 5 1 y m (bvs ys) → (w.setCell ⟨g, i, none⟩ u).ownsRow B 5 1 y m (bvs ys) := fun y m ys hy => by
    refine ownsRow_chg' hy hc (fun k hk e => ?_)
    have h2 := own_ne2 hr hy (by decide)
    rcases h2 with h2 | h2
    · rw [hk] at h2; cases h2
    · exact h2 (by rw [hk]; exact congrArg some e)
  refine ⟨vs.set i u, by rw [List.length_set]; exact hset, fun j hj => ?_⟩
  rw [List.length_set] at hj
  by_cases hij : i = j
  · subst hij
    exact ⟨u, by rw [List.getElem?_set_self (by have := hr.1; omega)], by simp only [List.getElem_set_self]; exact keep _ _ _ hu⟩
  · obtain ⟨y, h1, h2⟩ := he j hj
    exact ⟨y, by rw [List.getElem?_set_ne hij]; exact h1, by simp only [List.getElem_set_ne hij]; exact keep _ _ _ h2⟩
theorem OwnSecs.take {a : Option Addr} {n cap k : Nat} (h : OwnSecs w B (.slice a n cap) L) (hk : k ≤ n) : OwnSecs w B (.slice a k cap) (L.take k) := by
  obtain ⟨vs, hr, he⟩ := h.ex
  obtain ⟨a', c', e⟩ := ownsRow_form hr
  cases e
  have hl : (L.take k).length = k := by rw [List.length_take]; omega
  have hvl : vs.length = L.length := by have := hr.1; omega
  refine ⟨vs.take k, ?_, fun i hi => ?_⟩
  · rw [hl]
    refine ⟨by rw [List.length_take]; omega, ?_⟩
    rcases hr.2 with ⟨e, h0⟩ | ⟨g, cap', cur, e, hb, hg, hnc, hcm, hcs, ht⟩
    · simp only [Value.slice.injEq] at e
      obtain ⟨rfl, _, rfl⟩ := e
      obtain rfl : k = 0 := by omega
      exact .inl ⟨rfl, rfl⟩
    · simp only [Value.slice.injEq] at e
      obtain ⟨rfl, _, rfl⟩ := e
      refine .inr ⟨g, cap, cur, rfl, hb, hg, by omega, hcm, hcs, ?_⟩
      rw [← ht, List.take_take]
      congr 1
      omega
  · rw [hl] at hi
    obtain ⟨u, h1, h2⟩ := he i (by omega)
    exact ⟨u, by rw [List.getElem?_take, if_pos hi]; exact h1, by simp only [List.getElem_take]; exact h2⟩
theorem OwnSecs.cap {a : Option Addr} {n cap : Nat} (h : OwnSecs w B (.slice a n cap) L) : n ≤ cap ∧ n = L.length ∧ (a = none → cap = 0) := by
  have h1 := h.len rfl
  obtain ⟨vs, hr, he⟩ := h.ex
  refine ⟨?_, h1, fun e => by subst e; exact own_nilcap hr⟩
  rcases hr.2 with ⟨e, h0⟩ | ⟨g, cap', cur, e, hb, hg, hnc, _⟩
  · simp only [Value.slice.injEq] at e; omega
  · simp only [Value.slice.injEq] at e; omega
/-- The first of the sectors. -/
theorem SecsAt.take {a : Option Addr} {n cap : Nat} (h : SecsAt w (.slice a n cap) L) {k : Nat} (hk : k ≤ n) : SecsAt w (.slice a k cap) (L.take k) := by
  obtain ⟨a', cap', vs, e, h2, h3, h4, h5, h6⟩ := h.ex
  cases e
  have hl : (L.take k).length = k := by rw [List.length_take]; omega
  refine ⟨a, cap, vs.take k, by rw [hl], by omega, by rw [hl, List.length_take]; omega, fun hne => ?_, fun k' c e => h5 _ c (by cases e; rfl), fun i hi => ?_⟩
  · obtain ⟨g, off, e, hg, hr⟩ := h4 (fun e => hne (by rw [e, List.take_nil]))
    refine ⟨g, off, e, hg, fun j u hu => hr j u ?_⟩
    rw [List.getElem?_take] at hu
    split at hu
    · exact hu
    · cases hu
  · rw [hl] at hi
    obtain ⟨u, h7, h8⟩ := h6 i (by omega)
    exact ⟨u, by rw [List.getElem?_take, if_pos hi]; exact h7, by simp only [List.getElem_take]; exact h8⟩
end

end Go.Proofs.YtloaenknhkfaeaaDoor

namespace Go.Proofs.YtloaenknhkfaeaaDoor
open Go.RowKit

set_option maxRecDepth 100000 in
set_option maxHeartbeats 2000000 in
theorem list_any {w : World} {B C : Nat} (v u : Value) (L : List RecD) (hv : OwnRecs 50 w B v L) (hu : OwnRecs 49 w C u L) (hL : L.length < 1000000000) :
    Calls Tryd.prog 41 #[v, u] w fun e w' => e = .returned (.bool true) ∧ Below w.heap.size w w' := by
  obtain ⟨va, vc, rfl⟩ := hv.form
  obtain ⟨ua, uc, rfl⟩ := hu.form
  obtain ⟨N, hN⟩ : ∃ N, L.length = N := ⟨_, rfl⟩
  rw [hN] at hv hu hL ⊢
  have HV := Lib.hid hv
  have HU := Lib.hid hu
  have HN := Lib.hid hN
  clear hv hu hN
  go_enter Tryd.func41, Tryd.ntmps41
  go_wp2_with fail
  go_loopw [5] (fun iv wr => ∃ i : Nat, i ≤ N ∧ iv = .int .i64 (i : Int) ∧ Below w.heap.size w wr) (fun iv _ => N - (intOf iv).toNat)
  case atStart => exact ⟨0, Nat.zero_le _, rfl, Below.refl _ _⟩
  case round =>
    obtain ⟨i, hi, rfl, hB⟩ := hrel
    have HB := Lib.hid hB
    clear hB
    by_cases hlt : i < N
    · have hiI : (i : Int) < (N : Int) := by omega
      have hiI0 : (0 : Int) ≤ (i : Int) := by omega
      obtain ⟨r, hr⟩ : ∃ r, L[i]'(by rw [HN.out]; exact hlt) = r := ⟨_, rfl⟩
      obtain ⟨g, x, c, rfl, v0, v1, v2, v3, hx⟩ := (HV.out.below HB.out).get (i := i) (by rw [HN.out]; exact hlt)
      obtain ⟨k, y, d, rfl, u0, u1, u2, u3, hy⟩ := (HU.out.below HB.out).get (i := i) (by rw [HN.out]; exact hlt)
      rw [hr] at v0 v1 v2 v3 hx u0 u1 u2 u3 hy
      obtain ⟨M, hM⟩ : ∃ M, r.load.length = M := ⟨_, rfl⟩
      rw [hM] at v3 hx u3 hy
      have hcell : ∀ w' : World, Below wr.heap.size wr w' → w'.cell? ⟨g, i * 4, none⟩ = some (.int .i64 r.kind) ∧ w'.cell? ⟨g, i * 4 + 1, none⟩ = some (.int .i64 r.gen) ∧ w'.cell? ⟨g, i * 4 + 2, none⟩ = some (.int .i64 r.num) ∧ w'.cell? ⟨g, i * 4 + 3, none⟩ = some (.slice x M c) ∧ w'.cell? ⟨k, i * 4, none⟩ = some (.int .i64 r.kind) ∧ w'.cell? ⟨k, i * 4 + 1, none⟩ = some (.int .i64 r.gen) ∧ w'.cell? ⟨k, i * 4 + 2, none⟩ = some (.int .i64 r.num) ∧ w'.cell? ⟨k, i * 4 + 3, none⟩ = some (.slice y M d) := by
        intro w' hb
        have hg := World.block_lt_of_cell? _ _ v0
        have hk := World.block_lt_of_cell? _ _ u0
        exact ⟨(hb.cell hg).trans v0, (hb.cell (p := ⟨g, i * 4 + 1, none⟩) hg).trans v1, (hb.cell (p := ⟨g, i * 4 + 2, none⟩) hg).trans v2, (hb.cell (p := ⟨g, i * 4 + 3, none⟩) hg).trans v3,
          (hb.cell hk).trans u0, (hb.cell (p := ⟨k, i * 4 + 1, none⟩) hk).trans u1, (hb.cell (p := ⟨k, i * 4 + 2, none⟩) hk).trans u2, (hb.cell (p := ⟨k, i * 4 + 3, none⟩) hk).trans u3⟩
      have HCELL := Lib.hid hcell
      have HX := Lib.hid hx
      have HY := Lib.hid hy
      clear hcell hx hy v0 v1 v2 v3 u0 u1 u2 u3 hr hM
      go_wp2_with fail
      refine wp_region_noPanic ?_
      refine wp_region_H (Below wr.heap.size wr) (by kernel_rfl) ?_
      have hS0 : (Below wr.heap.size wr) wr.drew := (Below.refl _ _).drew
      obtain ⟨wd, hwd⟩ : ∃ wd, wr.drew = wd := ⟨_, rfl⟩
      rw [hwd] at hS0 ⊢
      clear hwd
      refine wpAnyH_takeI (i := 0) (v := ?v1) rfl (by kernel_rfl) (by kernel_rfl) (by kernel_rfl) (fun _ _ _ h => h) (yieldsIf_run rfl (fun w' hw' => ?y1)) hS0 ?_
      case y1 => first | (go_simp; rfl) | (go_simp; done) | rfl
      simp only [Act.put, List.setIfInBounds_toArray, List.set_cons_zero, List.set_cons_succ]
      refine wpAnyH_takeI (i := 1) (v := ?v2) rfl (by kernel_rfl) (by kernel_rfl) (by kernel_rfl) (fun _ _ _ h => h) (yieldsIf_run rfl (fun w' hw' => ?y2)) hS0 ?_
      case y2 => first | (go_simp; rfl) | (go_simp; done) | rfl
      simp only [Act.put, List.setIfInBounds_toArray, List.set_cons_zero, List.set_cons_succ]
      refine wpAnyH_takeI (i := 2) (v := ?v3) rfl (by kernel_rfl) (by kernel_rfl) (by kernel_rfl) (fun _ _ _ h => h) (yieldsIf_run rfl (fun w' hw' => ?y3)) hS0 ?_
      case y3 => first | (go_simp; rfl) | (go_simp; done) | rfl
      simp only [Act.put, List.setIfInBounds_toArray, List.set_cons_zero, List.set_cons_succ]
      refine wpAnyH_takeI (i := 3) (v := ?v4) rfl (by kernel_rfl) (by kernel_rfl) (by kernel_rfl) (fun _ _ _ h => h) (yieldsIf_run rfl (fun w' hw' => ?y4)) hS0 ?_
      case y4 => (obtain ⟨z0, z1, z2, z3, z4, z5, z6, z7⟩ := HCELL.out w' hw'; clear hw'; first | (go_simp; rfl) | (go_simp; done))
      simp only [Act.put, List.setIfInBounds_toArray, List.set_cons_zero, List.set_cons_succ]
      refine wpAnyH_takeI (i := 5) (v := ?v5) rfl (by kernel_rfl) (by kernel_rfl) (by kernel_rfl) (fun _ _ _ h => h) (yieldsIf_run rfl (fun w' hw' => ?y5)) hS0 ?_
      case y5 => first | (go_simp; rfl) | (go_simp; done) | rfl
      simp only [Act.put, List.setIfInBounds_toArray, List.set_cons_zero, List.set_cons_succ]
      refine wpAnyH_takeI (i := 6) (v := ?v6) rfl (by kernel_rfl) (by kernel_rfl) (by kernel_rfl) (fun _ _ _ h => h) (yieldsIf_run rfl (fun w' hw' => ?y6)) hS0 ?_
      case y6 => first | (go_simp; rfl) | (go_simp; done) | rfl
      simp only [Act.put, List.setIfInBounds_toArray, List.set_cons_zero, List.set_cons_succ]
      refine wpAnyH_takeI (i := 7) (v := ?v7) rfl (by kernel_rfl) (by kernel_rfl) (by kernel_rfl) (fun _ _ _ h => h) (yieldsIf_run rfl (fun w' hw' => ?y7)) hS0 ?_
      case y7 => first | (go_simp; rfl) | (go_simp; done) | rfl
      simp only [Act.put, List.setIfInBounds_toArray, List.set_cons_zero, List.set_cons_succ]
      refine wpAnyH_takeI (i := 8) (v := ?v8) rfl (by kernel_rfl) (by kernel_rfl) (by kernel_rfl) (fun _ _ _ h => h) (yieldsIf_run rfl (fun w' hw' => ?y8)) hS0 ?_
      case y8 => (obtain ⟨z0, z1, z2, z3, z4, z5, z6, z7⟩ := HCELL.out w' hw'; clear hw'; first | (go_simp; rfl) | (go_simp; done))
      simp only [Act.put, List.setIfInBounds_toArray, List.set_cons_zero, List.set_cons_succ]
      refine wpAnyH_do (i := 4) (by kernel_rfl) rfl rfl (fun K hK => ?_)
      go_simp
      go_at_call 30
      refine (to_any r.kind r.gen r.num x M c wd).mono ?_
      rintro e wx ⟨rfl, hbwx⟩
      have hSwx := hS0.trans (hbwx.mono hS0.size)
      refine hK _ _ (hSwx) ?_
      clear hK K
      try simp only [Act.put, List.setIfInBounds_toArray, List.set_cons_zero, List.set_cons_succ]
      refine wpAnyH_do (i := 9) (by kernel_rfl) rfl rfl (fun K hK => ?_)
      go_simp
      go_at_call 37
      refine (rEqual_same r.kind r.gen r.num x y M c M d r.load (HX.out.below hSwx).at_ (HY.out.below hSwx).at_).mono ?_
      rintro e wy ⟨rfl, hbwy⟩
      have hSwy := hSwx.trans (hbwy.mono hSwx.size)
      refine hK _ _ (hSwy) ?_
      clear hK K
      try simp only [Act.put, List.setIfInBounds_toArray, List.set_cons_zero, List.set_cons_succ]
      refine wpAnyH_takeI (i := 10) (v := ?v9) rfl (by kernel_rfl) (by kernel_rfl) (by kernel_rfl) (fun _ _ _ h => h) (yieldsIf_run rfl (fun w' hw' => ?y9)) hSwy ?_
      case y9 => first | (go_simp; rfl) | (go_simp; done) | rfl
      simp only [Act.put, List.setIfInBounds_toArray, List.set_cons_zero, List.set_cons_succ]
      refine wpAnyH_done (by kernel_rfl) ?_ _
      refine NoPanic.normal ?_
      go_wp2_with fail
      go_roundw
      case rel => exact ⟨i + 1, by omega, by go_num, HB.out.trans (hSwy.mono HB.out.size)⟩
      case measure => simp [intOf]; omega
    · go_wp2_with fail
      go_ret
      exact ⟨rfl, HB.out⟩

end Go.Proofs.YtloaenknhkfaeaaDoor
