/- Recent's closure, and the stable sort by it. -/
import Derived.Test.YthfinofmbnfijaaTh37
import Derived.Maps.Keyed
namespace Go.Proofs.Ythfinofmbnfijaa
open Go.Shelf Go.RowKit Go.Lib Go.Sort Go.WideShapes Go.Maps
set_option linter.unusedVariables false
set_option linter.unusedSimpArgs false
/-- Numbers below a bound as the keys of maps. -/
def numKey (N : Nat) (hN : N < 1000000) : KeyEnc Try.prog 3 (Fin N) where
  kv n := .int .i64 (n.val : Int)
  K := int_keyed Try.underlying3
  inj {a b} h := by
    have h2 : ((a.val : Nat) : Int) = (b.val : Int) := by simpa using h
    exact Fin.ext (by omega)
  lit a := ⟨_, keyOf_int_mk Try.underlying3 (by
    have := a.isLt
    show (decide ((-9223372036854775808 : Int) ≤ (a.val : Int)) && decide ((a.val : Int) ≤ (9223372036854775807 : Int))) = true
    simp only [Bool.and_eq_true, decide_eq_true_eq]
    omega)⟩
/-- The latest articles, as a map's entries. -/
def lsF {N : Nat} {L : List RowV} (bst : Fin N → Option (Fin L.length)) (t : Fin N) : Option Value := (bst t).map fun k => .int .i64 (k.val : Int)
set_option maxRecDepth 100000 in
set_option maxHeartbeats 2000000 in
theorem recCmp {w : World} {bm mb bx : Nat} {v : Value} {L : List RowV} {N : Nat} {hN : N < 1000000} {bst : Fin N → Option (Fin L.length)} (hbm : w.heap[bm]? = some (.cells #[.map (some mb)] 98 (0, 0))) (hmp : KMap (numKey N hN) w mb (lsF bst)) (hbx : w.heap[bx]? = some (.cells #[v] 23 (0, 0))) (hv : RowsAt w v L) (hl : L.length < 1000000) (x y : Fin N) (B A : Fin L.length) (hB : bst x = some B) (hA : bst y = some A) :
    Calls Try.prog 54 #[.int .i64 (x.val : Int), .int .i64 (y.val : Int), .pointer (some ⟨bm, 0, none⟩), .pointer (some ⟨bx, 0, none⟩)] w fun e w' => e = .returned (.int .i64 (cmpT L[A].tw L[B].tw)) ∧ ∃ q os', w' = grow (w.drewN q) os' := by
  obtain ⟨va, vc, rfl⟩ := hv.l.form
  obtain ⟨g, off, rfl, hg, _⟩ := hv.l.get A.isLt
  have HC := Lib.hid (show ∀ w', (∃ q os, w' = grow (w.drewN q) os) → w'.cell? ⟨bx, 0, none⟩ = some (.slice (some ⟨g, off, none⟩) L.length vc) from fun w' ⟨q, os, hw⟩ => by
    have hb := grow_below w q os
    rw [← hw] at hb
    rw [cell_of_row _ _ _ _ _ _ ((hb.block _ (Array.getElem?_eq_some_iff.1 hbx).1).trans hbx)]
    rfl)
  have HR := Lib.hid (show ∀ w', (∃ q os, w' = grow (w.drewN q) os) → ∀ z : Fin L.length, w'.rangeAt g (off + z.val * 83) L[z].cells from fun w' ⟨q, os, hw⟩ z => by
    have hb := grow_below w q os
    rw [← hw] at hb
    obtain ⟨g', off', e, hg', hr⟩ := hv.l.get z.isLt
    cases e
    exact range_below hr hg hb)
  have zI : ∀ w, (zeroValue 3).run Try.prog w = .ok (.int .i64 0) w := fun w => by kernel_rfl
  have hx := hmp.look Try.underlying98 zI x true
  have hy := hmp.look Try.underlying98 zI y true
  unfold lsF at hx hy
  rw [hB, if_pos rfl] at hx
  rw [hA, if_pos rfl] at hy
  have hlx : (Instr.lookup 98 (.map (some mb)) (.int .i64 (x.val : Int)) true).run Try.prog w = .ok (.tuple #[.int .i64 (B.val : Int), .bool true]) w := hx
  have hly : (Instr.lookup 98 (.map (some mb)) (.int .i64 (y.val : Int)) true).run Try.prog w = .ok (.tuple #[.int .i64 (A.val : Int), .bool true]) w := hy
  have hcm : w.cell? ⟨bm, 0, none⟩ = some (.map (some mb)) := by
    rw [cell_of_row _ _ _ _ _ _ hbm]
    rfl
  have hxI : (A.val : Int) < (L.length : Int) := by have := A.isLt; omega
  have hyI : (B.val : Int) < (L.length : Int) := by have := B.isLt; omega
  have hx0 : (0 : Int) ≤ (A.val : Int) := by omega
  have hy0 : (0 : Int) ≤ (B.val : Int) := by omega
  clear hbx hv hg hx hy hmp hbm hA hB
  go_enter Try.func54, Try.ntmps54
  go_wp2_with fail
  refine wp_region_noPanic ?_
  refine wp_region_H (fun wx => ∃ q os, wx = grow (w.drewN q) os) (by kernel_rfl) ?_
  have hS0 : (fun wx => ∃ q os, wx = grow (w.drewN q) os) w.drew := ⟨1, #[], by rw [grow_empty]; rfl⟩
  refine wpAnyH_takeI (i := 0) (v := ?v1) rfl (by kernel_rfl) (by kernel_rfl) (by kernel_rfl) (fun _ _ _ h => h) (yieldsIf_run rfl (fun w' hw' => ?y1)) hS0 ?_
  case y1 => (have hc0 := HC.out w' hw'; clear hw'; first | (go_simp; rfl) | (go_simp; done))
  simp only [Act.put, List.setIfInBounds_toArray, List.set_cons_zero, List.set_cons_succ]
  refine wpAnyH_takeI (i := 1) (v := ?v2) rfl (by kernel_rfl) (by kernel_rfl) (by kernel_rfl) (fun _ _ _ h => h) (yieldsIf_run rfl (fun w' hw' => ?y2)) hS0 ?_
  case y2 => first | (go_simp; rfl) | (go_simp; done) | rfl
  simp only [Act.put, List.setIfInBounds_toArray, List.set_cons_zero, List.set_cons_succ]
  refine wpAnyH_takeI (i := 2) (v := ?v3) rfl (by kernel_rfl) (by kernel_rfl) (by kernel_rfl) (fun _ _ _ h => h) (yieldsIf_run rfl (fun w' hw' => ?y3)) hS0 ?_
  case y3 => first | (go_simp; rfl) | (go_simp; done) | rfl
  simp only [Act.put, List.setIfInBounds_toArray, List.set_cons_zero, List.set_cons_succ]
  refine wpAnyH_takeI (i := 3) (v := .agg L[A].cells.toArray) rfl (by kernel_rfl) (by kernel_rfl) (by kernel_rfl) (fun _ _ _ h => h) (yieldsIf_load_mid rfl 43 (.tmp 30) rfl g (off + A.val * 83) rfl L[A].cells _ (fun w' hw' => HR.out w' hw' A) Try.underlying43 rfl (sizeRow L[A])) hS0 ?_
  simp only [Act.put, List.setIfInBounds_toArray, List.set_cons_zero, List.set_cons_succ]
  refine wpAnyH_takeI (i := 4) (v := ?v4) rfl (by kernel_rfl) (by kernel_rfl) (by kernel_rfl) (fun _ _ _ h => h) (yieldsIf_run rfl (fun w' hw' => ?y4)) hS0 ?_
  case y4 => (have hc0 := HC.out w' hw'; clear hw'; first | (go_simp; rfl) | (go_simp; done))
  simp only [Act.put, List.setIfInBounds_toArray, List.set_cons_zero, List.set_cons_succ]
  refine wpAnyH_takeI (i := 5) (v := ?v5) rfl (by kernel_rfl) (by kernel_rfl) (by kernel_rfl) (fun _ _ _ h => h) (yieldsIf_run rfl (fun w' hw' => ?y5)) hS0 ?_
  case y5 => first | (go_simp; rfl) | (go_simp; done) | rfl
  simp only [Act.put, List.setIfInBounds_toArray, List.set_cons_zero, List.set_cons_succ]
  refine wpAnyH_takeI (i := 6) (v := ?v6) rfl (by kernel_rfl) (by kernel_rfl) (by kernel_rfl) (fun _ _ _ h => h) (yieldsIf_run rfl (fun w' hw' => ?y6)) hS0 ?_
  case y6 => first | (go_simp; rfl) | (go_simp; done) | rfl
  simp only [Act.put, List.setIfInBounds_toArray, List.set_cons_zero, List.set_cons_succ]
  refine wpAnyH_takeI (i := 7) (v := .agg L[B].cells.toArray) rfl (by kernel_rfl) (by kernel_rfl) (by kernel_rfl) (fun _ _ _ h => h) (yieldsIf_load_mid rfl 43 (.tmp 34) rfl g (off + B.val * 83) rfl L[B].cells _ (fun w' hw' => HR.out w' hw' B) Try.underlying43 rfl (sizeRow L[B])) hS0 ?_
  simp only [Act.put, List.setIfInBounds_toArray, List.set_cons_zero, List.set_cons_succ]
  refine wpAnyH_do (i := 8) (by kernel_rfl) rfl rfl (fun K hK => ?_)
  go_simp
  go_at_call 25
  refine (cmpRow L[A] L[B] _).mono ?_
  rintro e wc ⟨rfl, q', os', rfl⟩
  have hS8 : (fun wx => ∃ q os, wx = grow (w.drewN q) os) (grow (w.drew.drewN q') os') := by
    obtain ⟨q0, os0, hq0⟩ := hS0
    exact ⟨q0 + q', os0 ++ os', by rw [hq0, grow_drewN', World.drewN_drewN, grow_grow]⟩
  refine hK _ _ (hS8) ?_
  clear hK K
  try simp only [Act.put, List.setIfInBounds_toArray, List.set_cons_zero, List.set_cons_succ]
  refine wpAnyH_takeI (i := 9) (v := ?v7) rfl (by kernel_rfl) (by kernel_rfl) (by kernel_rfl) (fun _ _ _ h => h) (yieldsIf_run rfl (fun w' hw' => ?y7)) hS8 ?_
  case y7 => first | (go_simp; rfl) | (go_simp; done) | rfl
  simp only [Act.put, List.setIfInBounds_toArray, List.set_cons_zero, List.set_cons_succ]
  refine wpAnyH_done (by kernel_rfl) ?_ _
  refine NoPanic.normal ?_
  go_wp2_with fail
  exact bodyPost_ret (v := .int .i64 (cmpT L[A].tw L[B].tw)) (by simp [results, Try.results54, go_sem]) rfl ⟨rfl, _, _, rfl⟩
theorem rt_list {N : Nat} {L : List RowV} {bst : Fin N → Option (Fin L.length)} : ∀ l : List Nat, (∀ t ∈ l, ∃ h : t < N, (bst ⟨t, h⟩).isSome = true) → ∃ M : List {t : Fin N // (bst t).isSome = true}, M.map (·.1.val) = l
  | [], _ => ⟨[], rfl⟩
  | t :: l, h => by
    obtain ⟨ht, hs⟩ := h t (List.mem_cons_self ..)
    obtain ⟨M, hM⟩ := rt_list l fun u hu => h u (List.mem_cons_of_mem _ hu)
    exact ⟨⟨⟨t, ht⟩, hs⟩ :: M, by rw [List.map_cons, hM]⟩
/-- A number below N that has a latest article. -/
abbrev Rt {N : Nat} {L : List RowV} (bst : Fin N → Option (Fin L.length)) := {t : Fin N // (bst t).isSome = true}
def Rt.k {N : Nat} {L : List RowV} {bst : Fin N → Option (Fin L.length)} (t : Rt bst) : Fin L.length := (bst t.1).get t.2
/-- By the latest articles, the latest first. -/
def cfR {N : Nat} {L : List RowV} (bst : Fin N → Option (Fin L.length)) (x y : Rt bst) : Int := cmpT L[y.k].tw L[x.k].tw
theorem swoR {N : Nat} {L : List RowV} (bst : Fin N → Option (Fin L.length)) : SWO (ltOf (cfR bst)) where
  irrefl x := swoT'.irrefl L[x.k].tw
  trans x y z h1 h2 := swoT'.trans L[z.k].tw L[y.k].tw L[x.k].tw h2 h1
  ntrans x y z h1 h2 := swoT'.ntrans L[z.k].tw L[y.k].tw L[x.k].tw h2 h1
theorem sortRec_any {w : World} {B bm mb bx : Nat} {rv v : Value} {L : List RowV} {N : Nat} {hN : N < 1000000} {bst : Fin N → Option (Fin L.length)} (hbm : w.heap[bm]? = some (.cells #[.map (some mb)] 98 (0, 0))) (hmp : KMap (numKey N hN) w mb (lsF bst)) (hbx : w.heap[bx]? = some (.cells #[rv] 23 (0, 0))) (h1 : bx < B) (h2 : bm < B) (h3 : mb < B) (hv : ∀ w', Below B w w' → RowsAt w' rv L) (hB : B ≤ w.heap.size) (hl : L.length < 1000000) (M : List (Rt bst)) (h : OwnL natE w B v (M.map (·.1.val))) (hM : M.length < 20) :
    Calls Try.prog 53 #[v, .func (.func 54) #[] #[.pointer (some ⟨bm, 0, none⟩), .pointer (some ⟨bx, 0, none⟩)]] w fun e w' => e = .returned (.tuple #[]) ∧ ∃ M' : List (Rt bst), M'.Perm M ∧ M'.Pairwise (fun x y => ¬ cfR bst y x < 0) ∧ OwnL natE w' B v (M'.map (·.1.val)) ∧ Below B w w' := by
  have hh : w.ownsRow B 3 1 v (M.map (·.1.val)).length ((M.map (·.1.val)).flatMap natE.enc) := h
  by_cases hne : M = []
  · subst hne
    rcases hh.2 with ⟨rfl, _⟩ | ⟨g, cap, cur, rfl, _⟩
    · exact (stable_none (a := none) (cap := 0)).mono fun e w' ⟨he, hw⟩ => ⟨he, [], List.Perm.refl _, List.Pairwise.nil, by rw [hw]; exact h, hw ▸ Below.refl _ _⟩
    · exact (stable_none (a := some ⟨g, 0, none⟩) (cap := cap)).mono fun e w' ⟨he, hw⟩ => ⟨he, [], List.Perm.refl _, List.Pairwise.nil, by rw [hw]; exact h, hw ▸ Below.refl _ _⟩
  · haveI : Inhabited (Rt bst) := ⟨M.head hne⟩
    have hmap : ∀ M : List (Rt bst), (M.map (·.1.val)).flatMap natE.enc = M.map (fun i : Rt bst => Value.int .i64 (i.1.val : Int)) := fun M => by rw [natE_flat, List.map_map]; rfl
    have hlen : (M.map (·.1.val)).length = M.length := List.length_map _
    rw [hmap, hlen] at hh
    have hv0 : v ≠ .slice none 0 0 := fun e => by
      rcases hh.2 with ⟨_, h1⟩ | ⟨g, cap, cur, e1, _⟩
      · exact hne (List.eq_nil_of_length_eq_zero h1)
      · rw [e1] at e; cases e
    obtain ⟨g, cap, rfl, hgB, hgw, hnc, hcm, _, hH⟩ := Lib.holds_of_ownsRow hh hv0
    have hcmp : CmpLays1 Try.prog 54 #[.pointer (some ⟨bm, 0, none⟩), .pointer (some ⟨bx, 0, none⟩)] (fun i : Rt bst => Value.int .i64 (i.1.val : Int)) (cfR bst) g 0 M.toArray.size w := fun m os dk _ x y => by
      have hbw : Below B w (sortWorld (fun i : Rt bst => Value.int .i64 (i.1.val : Int)) w g 0 m dk os) := sw1_below (m := m) (dk := dk) (os := os) hgB hB
      exact recCmp ((hbw.block _ h2).trans hbm) (hmp.kept (hbw.block _ h3)) ((hbw.block _ h1).trans hbx) (hv _ hbw) hl x.1 y.1 x.k y.k (Option.some_get x.2).symm (Option.some_get y.2).symm
    have eg : ∀ args w, (callFunc 54 args).run Try.prog w = .ok (.enter 54 args) w := enters_of Try.func54 (by kernel_rfl) rfl
    have hcon := stable_few (cap := cap) (cfR bst) 54 #[.pointer (some ⟨bm, 0, none⟩), .pointer (some ⟨bx, 0, none⟩)] eg hcmp ⟨fun _ => rfl, hH, hgw⟩ (by rw [List.size_toArray]; exact hM)
    rw [List.size_toArray] at hcon
    refine hcon.mono ?_
    rintro e w' ⟨rfl, m, os, rfl⟩
    obtain ⟨⟨p1, p2, p3⟩, hs⟩ := insertionSort_holds (swoR bst) M.toArray 0 M.length (Nat.zero_le _) (by simp)
    obtain ⟨D, hD⟩ : ∃ D, Sort.insertionSort (ltOf (cfR bst)) M.toArray 0 M.length = D := ⟨_, rfl⟩
    rw [hD] at p1 p2 p3 hs ⊢
    have hds : D.toList.length = M.length := by rw [Array.length_toList, p1]; simp
    have hpm : D.toList.Perm M := by
      have := p3
      rw [Array.extract_eq_self_of_le (by rw [p1]; simp), Array.extract_eq_self_of_le (by simp)] at this
      exact this
    have hown := Lib.ownsRow_putRow (q := m) (k := M.length) (ys := D.toList) hh hds (Nat.le_refl _)
    rw [List.take_of_length_le (by rw [hds]; exact Nat.le_refl _)] at hown
    refine ⟨rfl, D.toList, hpm, ?_, ?_, sw1_below hgB hB⟩
    · rw [List.pairwise_iff_getElem]
      intro i j hi hj hij
      have := hs i j (Nat.zero_le _) hij (by omega)
      rw [getElem!_pos D j (by simpa using hj), getElem!_pos D i (by simpa using hi)] at this
      exact of_decide_eq_false this
    · show World.ownsRow _ B 3 1 _ (D.toList.map (·.1.val)).length _
      rw [hmap, List.length_map, hds]
      exact own_kept hown (grow_below _ 0 os)
end Go.Proofs.Ythfinofmbnfijaa
