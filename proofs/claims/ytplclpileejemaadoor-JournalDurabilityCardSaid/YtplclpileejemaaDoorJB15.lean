/- The other area is written and becomes the current one; A journal is formatted; Lists of numbered entries; a copy of bytes; A journal is opened; A journal is synced; The rest of a list of entries as a list of its own. -/
import Derived.Test.YtplclpileejemaaDoorJB14
import Derived.Defers
import Derived.Test.YtplclpileejemaaDoorJB1
namespace Go.Proofs.YtplclpileejemaaDoor
open Go.RowKit
set_option linter.unusedVariables false
set_option linter.unusedSimpArgs false

theorem wp_putM {P : Program} {o : Oper} {a : Act} {w : World} {K : Act → World → Prop} {Q : Exit → Act → World → Prop} (hdst : o.dst = none) (ty : TypeId) (x y : Operand) (ho : o.op = .store ty x y)
    (g i : Nat) (cells : Array Value) (hx : a.eval x = .pointer (some ⟨g, i, none⟩)) (hy : a.eval y = .agg cells) {T : TypeId} {cs : Array Value} (hg : w.heap[g]? = some (.cells cs T (0, 0))) (hn : i + cells.size ≤ cs.size)
    (hi : (P.info? ty).map (·.size) = some cells.size) (h1 : cells.all (·.oneCell') = true)
    (h : ∀ w', w'.heap[g]? = some (.cells (setA cs i cells.toList) T (0, 0)) → Chg (fun k => k = g) w w' → w'.heap.size = w.heap.size → K a w') : o.wp P a w K Q := by
  refine wp_store_mid ty x y ho g i cells hx hy (fun j hj => ⟨?_, frozen_of_row _ _ _ _ _ hg⟩) hi h1 ?_
  · rw [cell_of_row _ _ _ _ _ _ hg, Array.getElem?_eq_getElem (by omega)]
    rfl
  rw [hdst]
  obtain ⟨k1, k2, k3⟩ := setCells_blk g T cells.toList i cs w hg
  exact h _ k1 k2 k3
def MovePost (w : World) (F : Nat → Prop) (g b : Nat) (R : JR) (J : JD) (ev ev2 : Value) (z : DS × Int × JD) (e : Ending) (w' : World) : Prop :=
  e = .returned (.int .i64 z.2.1) ∧ DiskAt w' (fun k => F k ∨ w.heap.size ≤ k) b z.1 ∧ Chg (fun k => F k ∨ k = g) w w' ∧ (z.2.1 = 0 → JBlk w' g b R z.2.2 ev2) ∧ (z.2.1 ≠ 0 → JBlk w' g b R J ev)
set_option maxRecDepth 100000 in
set_option maxHeartbeats 2000000 in
theorem Jmove_any {w : World} {F H : Nat → Prop} {b g : Nat} {S : DS} {R : JR} {J : JD} {ev ev2 : Value} (h : DiskAt w F b S) (hK : KAt w) (hK0 : ¬ F 0) (hg : JBlk w g b R J ev) (hFg : ¬ F g) (first : Nat) (E : List (List UInt8)) (hE : EntsAt w H ev2 E) (hH : ∀ k, k < w.heap.size → H k → ¬ F k)
    (hd : S.down = false) (hr : R.at_ + R.cnt ≤ S.dur.length) (hfl : J.failed = 0) (hlim : JLim (nextG (1 - J.gen % 2) (secL S R.at_ R.cnt)) first E.length E) (hN : sizeE E ≤ 100000) (hroom : Roomy S (sizeE E + 1)) :
    Calls Tryd.prog 39 #[.pointer (some ⟨g, 0, none⟩), .int .i64 (first : Int), ev2] w (MovePost w F g b R J ev ev2 (moveJ S R (1 - J.gen % 2) first E)) := by
  have hM : S.dur.length ≤ 4096 := h.ok.most
  obtain ⟨va, vc, rfl⟩ := hE.form
  obtain ⟨n, hn⟩ : ∃ n, E.length = n := ⟨_, rfl⟩
  have hsz := seqJ_size hlim
  rw [← recsR_recsJ] at hsz
  have hpar := (nextG_par (w := 1 - J.gen % 2) (by omega) (secL S R.at_ R.cnt)).1
  have hnx := fun (V : World) (hV : Below w.heap.size w V) => Jnext_any (h.below hV) (KAt.below hK hV hK.size) R.at_ R.cnt (1 - J.gen % 2) (by omega) hd hr (by have := hroom.pend; omega)
  have hz : moveJ S R (1 - J.gen % 2) first E = (if (wrA S (R.at_ + (1 - J.gen % 2) * (R.cnt / 2)) (nextG (1 - J.gen % 2) (secL S R.at_ R.cnt)) first E).2.2 = 0 then ((wrA S (R.at_ + (1 - J.gen % 2) * (R.cnt / 2)) (nextG (1 - J.gen % 2) (secL S R.at_ R.cnt)) first E).1, 0, ⟨nextG (1 - J.gen % 2) (secL S R.at_ R.cnt), (wrA S (R.at_ + (1 - J.gen % 2) * (R.cnt / 2)) (nextG (1 - J.gen % 2) (secL S R.at_ R.cnt)) first E).2.1, first, E, first + E.length, 0⟩)
    else ((wrA S (R.at_ + (1 - J.gen % 2) * (R.cnt / 2)) (nextG (1 - J.gen % 2) (secL S R.at_ R.cnt)) first E).1, (wrA S (R.at_ + (1 - J.gen % 2) * (R.cnt / 2)) (nextG (1 - J.gen % 2) (secL S R.at_ R.cnt)) first E).2.2, ⟨0, 0, 0, [], 0, 0⟩)) := by
    unfold moveJ
    simp only
    rw [if_neg (by have := hlim.g; omega)]
    rfl
  rw [hz]
  clear hz
  obtain ⟨gn, hgn⟩ : ∃ gn, nextG (1 - J.gen % 2) (secL S R.at_ R.cnt) = gn := ⟨_, rfl⟩
  rw [hgn] at hlim hpar hnx hsz ⊢
  have hgm := hlim.g
  have hfm : first ≤ 2147483647 := hlim.f
  have hnm := hlim.n
  have hwr := fun (V : World) (hV : Below w.heap.size w V) => Jwrite_any (h.below hV) (KAt.below hK hV hK.size) hK0 R.at_ R.cnt (1 - J.gen % 2) gn first (by omega) (by omega) (by omega) _ E ((hE.weak (G := fun k => H k ∧ k < w.heap.size) (fun k h1 h2 => ⟨h2, h1⟩)).below hV) (fun k hk h1 => hH k h1.2 h1.1) hlim (by rw [hsz]; omega) (by rw [hsz]; exact hroom)
  obtain ⟨z, hz⟩ : ∃ z, wrA S (R.at_ + (1 - J.gen % 2) * (R.cnt / 2)) gn first E = z := ⟨_, rfl⟩
  rw [hz] at hwr ⊢
  rw [hn] at hwr hnm ⊢
  rw [show nextV gn = .tuple #[.int .i64 (gn : Int), .int .i64 0] by unfold nextV; rw [if_neg (by omega)]] at hnx
  obtain ⟨ar, har⟩ : ∃ ar, J.gen % 2 = ar := ⟨_, rfl⟩
  have har1 : ar ≤ 1 := by omega
  have hsub : ((1 - ar : Nat) : Int) = (1 : Int) - (ar : Int) := by omega
  rw [har] at hpar hnx hwr
  rw [hsub] at hnx hwr
  unfold stV at hnx hwr
  have HNX := Lib.hid hnx
  have HWR := Lib.hid hwr
  have HNC := Lib.hid (show ∀ w', Below w.heap.size w w' → w'.cell? ⟨g, 0, none⟩ = some (.pointer (some ⟨b, 0, none⟩)) ∧ w'.cell? ⟨g, 1, none⟩ = some (.int .i64 (R.at_ : Int)) ∧ w'.cell? ⟨g, 2, none⟩ = some (.int .i64 (R.cnt : Int)) ∧ w'.cell? ⟨g, 3, none⟩ = some (.int .i64 (ar : Int)) from fun w' hw' => ⟨(hg.below hw').cell rfl, (hg.below hw').cell rfl, (hg.below hw').cell rfl, by rw [← har]; exact (hg.below hw').cell rfl⟩)
  obtain ⟨S1, us, e1⟩ := z
  simp only at HWR ⊢
  obtain ⟨zz, hzz⟩ : ∃ zz : DS × Int × JD, (if e1 = 0 then (S1, 0, ⟨gn, us, first, E, first + n, 0⟩) else (S1, e1, ⟨0, 0, 0, [], 0, 0⟩)) = zz := ⟨_, rfl⟩
  rw [hzz]
  have HZZ := Lib.hid hzz
  obtain ⟨ca, hca⟩ : ∃ ca, R.at_ = ca := ⟨_, rfl⟩
  obtain ⟨cc, hcc⟩ : ∃ cc, R.cnt = cc := ⟨_, rfl⟩
  rw [hca, hcc] at HNX HWR HNC
  have HG := Lib.hid hg
  have HGL := Lib.hid hg.lt
  have HFG := Lib.hid hFg
  have HAR := Lib.hid har
  have HPAR := Lib.hid (show gn % 2 = 1 - ar from hpar)
  have HFL := Lib.hid hfl
  have HCA := Lib.hid hca
  have HCC := Lib.hid hcc
  have HHG := Lib.hid (show ∀ k, F k ∨ w.heap.size ≤ k → k ≠ g from fun k h1 e => by
    subst e
    rcases h1 with h1 | h1
    · exact hFg h1
    · have := hg.lt; omega)
  clear hzz hnx hwr hg hFg har hpar hfl hca hcc h hK hK0 hE hH hd hr hlim hN hroom hM hsz hgn hz hsub
  go_enter Tryd.func39, Tryd.ntmps39
  obtain ⟨k0, k1, k2, k3⟩ := HNC.out w (Below.refl _ _)
  go_wp2_with fail
  refine (HNX.out w (Below.refl _ _)).mono ?_
  rintro e V1 ⟨rfl, hb1⟩
  clear k0 k1 k2 k3
  obtain ⟨k0, k1, k2, k3⟩ := HNC.out V1 hb1
  go_wp2_with fail
  refine (HWR.out V1 hb1).mono ?_
  rintro e V2 ⟨rfl, hd2, hc2⟩
  simp only at hd2 ⊢
  have HB1 := Lib.hid hb1
  have HD2 := Lib.hid (hd2.mono (G := fun k => F k ∨ w.heap.size ≤ k) (fun k h1 => h1.elim .inl (fun h2 => .inr (Nat.le_trans hb1.size h2))))
  have HC2 := Lib.hid (show Chg F w V2 from (Chg.of_below (F := F) hb1).trans hc2 (fun k e => .inl e))
  have HG2 := Lib.hid ((HG.out.below hb1).chg hc2 HFG.out)
  clear k0 k1 k2 k3 hb1 hd2 hc2
  by_cases he : e1 = 0
  case neg =>
    have hdt : (e1 != 0) = true := by simpa using he
    rw [show wrSt gn first (.slice va n vc) us e1 = .agg #[.int .i64 0, .int .i64 0, .slice none 0 0, .int .i64 0] by unfold wrSt; rw [if_neg he]; rfl]
    have HZE := Lib.hid (show zz = (S1, e1, ⟨0, 0, 0, [], 0, 0⟩) by rw [← HZZ.out, if_neg he])
    have HNE := Lib.hid he
    clear he
    go_wp2_with (refine wpList_putV rfl rfl 77 (.tmp 10) (.tmp 38) rfl _ #[.int .i64 0, .int .i64 0, .slice none 0 0, .int .i64 0] rfl rfl 77 _ (heap_alloc_new _ _) (by kernel_rfl) rfl (by kernel_rfl) ?_; refine Stop.on ?_)
    refine Stop.go ?_
    try simp only [Act.put, List.setIfInBounds_toArray, List.set_cons_zero, List.set_cons_succ]
    intro W3 x3 c3 s3
    try simp only [Act.put, List.setIfInBounds_toArray, List.set_cons_zero, List.set_cons_succ]
    have hba : Below V2.heap.size V2 (V2.alloc (.cells #[.int .i64 0, .int .i64 0, .slice none 0 0, .int .i64 0] 77)) := (Below.refl _ _).alloc (Nat.le_refl _) _
    have HB3 := Lib.hid (hba.trans (c3.below (fun k e => by rw [e]; exact Nat.le_refl _) hba.size))
    clear hba x3 c3 s3
    go_wp2_with fail
    exact bodyPost_ret (v := .int .i64 e1) (by simp [results, Tryd.results39, go_sem]) rfl (by rw [HZE.out]; exact ⟨rfl, HD2.out.below HB3.out, (HC2.out.trans (Chg.of_below (F := F) HB3.out) (fun k e => .inl e)).mono (fun k e => .inl e), fun h => absurd h HNE.out, fun _ => HG2.out.below HB3.out⟩)
  subst he
  rw [show wrSt gn first (.slice va n vc) us 0 = .agg #[.int .i64 (gn : Int), .int .i64 (first : Int), .slice va n vc, .int .i64 (us : Int)] by rfl]
  have HZE := Lib.hid (show zz = (S1, 0, ⟨gn, us, first, E, first + n, 0⟩) by rw [← HZZ.out, if_pos rfl])
  go_wp2_with (refine wpList_putV rfl rfl 77 (.tmp 10) (.tmp 38) rfl _ #[.int .i64 (gn : Int), .int .i64 (first : Int), .slice va n vc, .int .i64 (us : Int)] rfl rfl 77 _ (heap_alloc_new _ _) (by kernel_rfl) rfl (by kernel_rfl) ?_; refine Stop.on ?_)
  refine Stop.go ?_
  try simp only [Act.put, List.setIfInBounds_toArray, List.set_cons_zero, List.set_cons_succ]
  intro W3 x3 c3 s3
  try simp only [Act.put, List.setIfInBounds_toArray, List.set_cons_zero, List.set_cons_succ]
  have hba : Below V2.heap.size V2 (V2.alloc (.cells #[.int .i64 0, .int .i64 0, .slice none 0 0, .int .i64 0] 77)) := (Below.refl _ _).alloc (Nat.le_refl _) _
  have HB3 := Lib.hid (hba.trans (c3.below (fun k e => by rw [e]; exact Nat.le_refl _) hba.size))
  have HGQ := Lib.hid (show V2.heap.size ≠ g from fun e => by have := HG2.out.lt; omega)
  obtain ⟨q, hq⟩ : ∃ q, V2.heap.size = q := ⟨_, rfl⟩
  rw [hq] at x3 c3 HGQ ⊢
  have HQ := Lib.hid hq
  have HG3 := Lib.hid (HG2.out.below HB3.out)
  have HX3 := Lib.hid x3
  have HLC := Lib.hid (show ∀ w', Chg (fun k => k = g) W3 w' → w'.cell? ⟨q, 0, none⟩ = some (.int .i64 (gn : Int)) ∧ w'.cell? ⟨q, 1, none⟩ = some (.int .i64 (first : Int)) ∧ w'.cell? ⟨q, 2, none⟩ = some (.slice va n vc) ∧ w'.cell? ⟨q, 3, none⟩ = some (.int .i64 (us : Int)) from fun w' hw' => by
    have h1 := (hw'.block q (Array.getElem?_eq_some_iff.1 HX3.out).1 HGQ.out).trans HX3.out
    refine ⟨?_, ?_, ?_, ?_⟩ <;> rw [cell_of_row _ _ _ _ _ _ h1] <;> rfl)
  clear hba x3 c3 s3 hq
  go_wp2_with fail
  refine wp_region_noPanic ?_
  refine wp_region_H (Chg (fun k => k = g) W3) (by kernel_rfl) ?_
  have hS0 : (Chg (fun k => k = g) W3) W3.drew := Chg.of_below ((Below.refl _ _).drew)
  obtain ⟨wd, hwd⟩ : ∃ wd, W3.drew = wd := ⟨_, rfl⟩
  rw [hwd] at hS0 ⊢
  have hd0 : Below W3.heap.size W3 wd := hwd ▸ (Below.refl _ _).drew
  clear hwd
  refine wpAnyH_takeI (i := 0) (v := ?v1) rfl (by kernel_rfl) (by kernel_rfl) (by kernel_rfl) (fun _ _ _ h => h) (yieldsIf_run rfl (fun w' hw' => ?y1)) hS0 ?_
  case y1 => first | (go_simp; rfl) | (go_simp; done) | rfl
  simp only [Act.put, List.setIfInBounds_toArray, List.set_cons_zero, List.set_cons_succ]
  refine wpAnyH_takeI (i := 1) (v := ?v2) rfl (by kernel_rfl) (by kernel_rfl) (by kernel_rfl) (fun _ _ _ h => h) (yieldsIf_run rfl (fun w' hw' => ?y2)) hS0 ?_
  case y2 => first | (go_simp; rfl) | (go_simp; done) | rfl
  simp only [Act.put, List.setIfInBounds_toArray, List.set_cons_zero, List.set_cons_succ]
  refine wpAnyH_takeI (i := 2) (v := ?v3) rfl (by kernel_rfl) (by kernel_rfl) (by kernel_rfl) (fun _ _ _ h => h) (yieldsIf_run rfl (fun w' hw' => ?y3)) hS0 ?_
  case y3 => first | (go_simp; rfl) | (go_simp; done) | rfl
  simp only [Act.put, List.setIfInBounds_toArray, List.set_cons_zero, List.set_cons_succ]
  refine wpAnyH_takeI (i := 3) (v := ?v4) rfl (by kernel_rfl) (by kernel_rfl) (by kernel_rfl) (fun _ _ _ h => h) (yieldsIf_run rfl (fun w' hw' => ?y4)) hS0 ?_
  case y4 => (obtain ⟨h1, h2, h3, h4⟩ := HLC.out w' hw'; clear hw'; first | (go_simp; rfl) | (go_simp; done))
  simp only [Act.put, List.setIfInBounds_toArray, List.set_cons_zero, List.set_cons_succ]
  refine wpAnyH_takeI (i := 4) (v := ?v5) rfl (by kernel_rfl) (by kernel_rfl) (by kernel_rfl) (fun _ _ _ h => h) (yieldsIf_run rfl (fun w' hw' => ?y5)) hS0 ?_
  case y5 => first | (go_simp; rfl) | (go_simp; done) | rfl
  simp only [Act.put, List.setIfInBounds_toArray, List.set_cons_zero, List.set_cons_succ]
  refine wpAnyH_takeI (i := 5) (v := ?v6) rfl (by kernel_rfl) (by kernel_rfl) (by kernel_rfl) (fun _ _ _ h => h) (yieldsIf_run rfl (fun w' hw' => ?y6)) hS0 ?_
  case y6 => first | (go_simp; rfl) | (go_simp; done) | rfl
  simp only [Act.put, List.setIfInBounds_toArray, List.set_cons_zero, List.set_cons_succ]
  refine wpAnyH_do (i := 6) (by kernel_rfl) rfl rfl (fun K hK => ?_)
  refine wp_putC rfl 3 (.tmp 48) (.tmp 45) rfl g 3 (.int .i64 ((1 : Int) - (ar : Int))) rfl rfl ((hd0.block _ HG3.out.lt).trans HG3.out) (by show 3 < 10; decide) rfl (by kernel_rfl) ?_
  intro V8 x8 c8 s8
  have hS8 : Chg (fun k => k = g) W3 V8 := hS0.trans c8 (fun j e => .inl e)
  refine hK _ _ (hS8) ?_
  clear hK K
  try simp only [Act.put, List.setIfInBounds_toArray, List.set_cons_zero, List.set_cons_succ]
  have hS0 := hS8
  refine wpAnyH_takeI (i := 7) (v := ?v7) rfl (by kernel_rfl) (by kernel_rfl) (by kernel_rfl) (fun _ _ _ h => h) (yieldsIf_run rfl (fun w' hw' => ?y7)) hS0 ?_
  case y7 => first | (go_simp; rfl) | (go_simp; done) | rfl
  simp only [Act.put, List.setIfInBounds_toArray, List.set_cons_zero, List.set_cons_succ]
  refine wpAnyH_takeI (i := 8) (v := ?v8) rfl (by kernel_rfl) (by kernel_rfl) (by kernel_rfl) (fun _ _ _ h => h) (yieldsIf_run rfl (fun w' hw' => ?y8)) hS0 ?_
  case y8 => first | (go_simp; rfl) | (go_simp; done) | rfl
  simp only [Act.put, List.setIfInBounds_toArray, List.set_cons_zero, List.set_cons_succ]
  refine wpAnyH_do (i := 9) (by kernel_rfl) rfl rfl (fun K hK => ?_)
  refine wp_putM rfl 77 (.tmp 50) (.tmp 46) rfl g 4 #[.int .i64 (gn : Int), .int .i64 (first : Int), .slice va n vc, .int .i64 (us : Int)] rfl rfl x8 (by show 4 + 4 ≤ 10; decide) (by kernel_rfl) (by kernel_rfl) ?_
  intro V9 x9 c9 s9
  have hS9 : Chg (fun k => k = g) W3 V9 := hS8.trans c9 (fun j e => .inl e)
  refine hK _ _ (hS9) ?_
  clear hK K
  try simp only [Act.put, List.setIfInBounds_toArray, List.set_cons_zero, List.set_cons_succ]
  refine wpAnyH_done (by kernel_rfl) ?_ _
  refine NoPanic.normal ?_
  have hg9 : JBlk V9 g b R ⟨gn, us, first, E, J.synced, J.failed⟩ (.slice va n vc) := by
    unfold JBlk jcells
    simp only
    rw [HPAR.out, show ((1 - ar : Nat) : Int) = (1 : Int) - (ar : Int) by omega]
    exact x9
  have HG9 := Lib.hid hg9
  have HC9 := Lib.hid hS9
  clear x9 c9 s9 x8 c8 s8 hS8 hS9 hS0 hd0 hg9
  go_wp2_with fail
  refine (JNext_any (J := ⟨gn, us, first, E, J.synced, J.failed⟩) HG9.out (by show first + n < _; omega)).mono ?_
  rintro e V10 ⟨rfl, hb10⟩
  have HG10 := Lib.hid (HG9.out.below hb10)
  have HC10 := Lib.hid (HC9.out.trans (Chg.of_below (F := fun k => k = g) hb10) (fun k e => .inl e))
  clear hb10
  go_wp2_with (refine wpList_putC rfl rfl 3 (.tmp 55) (.tmp 53) rfl g 8 (.int .i64 ((first + n : Nat) : Int)) rfl rfl HG10.out (by show 8 < 10; decide) rfl (by kernel_rfl) ?_; refine Stop.on ?_)
  refine Stop.go ?_
  try simp only [Act.put, List.setIfInBounds_toArray, List.set_cons_zero, List.set_cons_succ]
  intro W11 x11 c11 s11
  try simp only [Act.put, List.setIfInBounds_toArray, List.set_cons_zero, List.set_cons_succ]
  have HG11 := Lib.hid (show JBlk W11 g b R ⟨gn, us, first, E, first + n, 0⟩ (.slice va n vc) from by
    have h1 : W11.heap[g]? = some (.cells (jcells b R ⟨gn, us, first, E, first + n, J.failed⟩ (.slice va n vc)) 83 (0, 0)) := x11
    rw [HFL.out] at h1
    exact h1)
  have HC11 := Lib.hid (HC10.out.trans c11 (fun k e => .inl e))
  have HCA := Lib.hid (show Chg (fun k => F k ∨ k = g) w W11 from ((HC2.out.trans (Chg.of_below (F := F) HB3.out) (fun k e => .inl e)).mono (G := fun k => F k ∨ k = g) (fun k e => .inl e)).trans HC11.out (fun k e => .inl (.inr e)))
  have HD11 := Lib.hid ((HD2.out.below HB3.out).chg HC11.out (fun k h1 e => HHG.out k h1 e))
  clear x11 c11 s11
  go_wp2_with fail
  exact bodyPost_ret (v := .int .i64 0) (by simp [results, Tryd.results39, go_sem]) rfl (by rw [HZE.out]; exact ⟨rfl, HD11.out, HCA.out, fun _ => HG11.out, fun h => absurd rfl h⟩)
end Go.Proofs.YtplclpileejemaaDoor

namespace Go.Proofs.YtplclpileejemaaDoor
open Go.RowKit
set_option linter.unusedVariables false
set_option linter.unusedSimpArgs false

def FormPost (w : World) (F : Nat → Prop) (b : Nat) (z : DS × Int × JD) (e : Ending) (w' : World) : Prop := e = .returned (.int .i64 z.2.1) ∧ DiskAt w' (fun k => F k ∨ w.heap.size ≤ k) b z.1 ∧ Chg F w w'
theorem withinE_ok {S : DS} {a c : Nat} (hc : 8 ≤ c) (hr : a + c ≤ S.dur.length) (hd : S.down = false) : withinE S (a : Int) (c : Int) = 0 := by
  unfold withinE
  rw [if_neg (by omega), hd]
  rfl
set_option maxRecDepth 100000 in
set_option maxHeartbeats 2000000 in
theorem JFormat_nil {w : World} (a c : Int) : Calls Tryd.prog 12 #[.pointer none, .int .i64 a, .int .i64 c] w fun e w' => e = .returned (.int .i64 1) ∧ Below w.heap.size w w' := by
  go_enter Tryd.func12, Tryd.ntmps12
  go_wp2_with (refine wpList_putV rfl rfl 75 (.tmp 7) (.tmp 14) rfl _ #[.pointer none, .int .i64 a, .int .i64 c] rfl rfl 75 _ (heap_alloc_new _ _) (by kernel_rfl) rfl (by kernel_rfl) ?_; refine Stop.on ?_)
  refine Stop.go ?_
  try simp only [Act.put, List.setIfInBounds_toArray, List.set_cons_zero, List.set_cons_succ]
  intro W0 x0 c0 s0
  try simp only [Act.put, List.setIfInBounds_toArray, List.set_cons_zero, List.set_cons_succ]
  have hba : Below w.heap.size w (w.alloc (.cells #[.pointer none, .int .i64 0, .int .i64 0] 75)) := (Below.refl _ _).alloc (Nat.le_refl _) _
  have HB0 := Lib.hid (hba.trans (c0.below (fun k e => by rw [e]; exact Nat.le_refl _) hba.size))
  obtain ⟨q, hq⟩ : ∃ q, w.heap.size = q := ⟨_, rfl⟩
  rw [hq] at x0 c0 ⊢
  have HX0 := Lib.hid x0
  have HLC := Lib.hid (show ∀ w', Below W0.heap.size W0 w' → w'.cell? ⟨q, 0, none⟩ = some (.pointer none) ∧ w'.cell? ⟨q, 1, none⟩ = some (.int .i64 a) ∧ w'.cell? ⟨q, 2, none⟩ = some (.int .i64 c) from fun w' hw' => by
    have h1 := (hw'.block q (Array.getElem?_eq_some_iff.1 HX0.out).1).trans HX0.out
    refine ⟨?_, ?_, ?_⟩ <;> rw [cell_of_row _ _ _ _ _ _ h1] <;> rfl)
  clear hba x0 c0 s0 hq
  obtain ⟨k0, k1, k2⟩ := HLC.out W0 (Below.refl _ _)
  go_wp2_with fail
  refine (Jcheck_nil a c).mono ?_
  rintro e W1 ⟨rfl, hb1⟩
  go_wp2_with fail
  exact bodyPost_ret (v := .int .i64 1) (by simp [results, Tryd.results12, go_sem]) rfl ⟨rfl, HB0.out.trans (hb1.mono HB0.out.size)⟩
set_option maxRecDepth 100000 in
set_option maxHeartbeats 2000000 in
theorem JFormat_bad {w : World} {F : Nat → Prop} {b : Nat} {S : DS} (h : DiskAt w F b S) (a c : Int) (ha : -9223372036854775808 ≤ a ∧ a ≤ 9223372036854775807) (hc : -9223372036854775808 ≤ c ∧ c ≤ 9223372036854775807) (hw : withinE S a c ≠ 0) : Calls Tryd.prog 12 #[.pointer (some ⟨b, 0, none⟩), .int .i64 a, .int .i64 c] w fun e w' => e = .returned (.int .i64 (withinE S a c)) ∧ Below w.heap.size w w' := by
  have hck := fun (V : World) (hV : Below w.heap.size w V) => Jcheck_any (h.below hV) a c ha hc
  obtain ⟨z, hz⟩ : ∃ z, withinE S a c = z := ⟨_, rfl⟩
  rw [hz] at hck hw ⊢
  have hd : (z != 0) = true := by simpa using hw
  have HCK := Lib.hid hck
  unfold stV at HCK
  clear hck hz hw h
  go_enter Tryd.func12, Tryd.ntmps12
  go_wp2_with (refine wpList_putV rfl rfl 75 (.tmp 7) (.tmp 14) rfl _ #[.pointer (some ⟨b, 0, none⟩), .int .i64 a, .int .i64 c] rfl rfl 75 _ (heap_alloc_new _ _) (by kernel_rfl) rfl (by kernel_rfl) ?_; refine Stop.on ?_)
  refine Stop.go ?_
  try simp only [Act.put, List.setIfInBounds_toArray, List.set_cons_zero, List.set_cons_succ]
  intro W0 x0 c0 s0
  try simp only [Act.put, List.setIfInBounds_toArray, List.set_cons_zero, List.set_cons_succ]
  have hba : Below w.heap.size w (w.alloc (.cells #[.pointer none, .int .i64 0, .int .i64 0] 75)) := (Below.refl _ _).alloc (Nat.le_refl _) _
  have HB0 := Lib.hid (hba.trans (c0.below (fun k e => by rw [e]; exact Nat.le_refl _) hba.size))
  obtain ⟨q, hq⟩ : ∃ q, w.heap.size = q := ⟨_, rfl⟩
  rw [hq] at x0 c0 ⊢
  have HX0 := Lib.hid x0
  have HLC := Lib.hid (show ∀ w', Below W0.heap.size W0 w' → w'.cell? ⟨q, 0, none⟩ = some (.pointer (some ⟨b, 0, none⟩)) ∧ w'.cell? ⟨q, 1, none⟩ = some (.int .i64 a) ∧ w'.cell? ⟨q, 2, none⟩ = some (.int .i64 c) from fun w' hw' => by
    have h1 := (hw'.block q (Array.getElem?_eq_some_iff.1 HX0.out).1).trans HX0.out
    refine ⟨?_, ?_, ?_⟩ <;> rw [cell_of_row _ _ _ _ _ _ h1] <;> rfl)
  clear hba x0 c0 s0 hq
  obtain ⟨k0, k1, k2⟩ := HLC.out W0 (Below.refl _ _)
  go_wp2_with fail
  refine (HCK.out W0 HB0.out).mono ?_
  rintro e W1 ⟨rfl, hb1⟩
  go_wp2_with fail
  exact bodyPost_ret (v := .int .i64 z) (by simp [results, Tryd.results12, go_sem]) rfl ⟨rfl, HB0.out.trans (hb1.mono HB0.out.size)⟩
set_option maxRecDepth 100000 in
set_option maxHeartbeats 2000000 in
theorem JFormat_any {w : World} {F : Nat → Prop} {b : Nat} {S : DS} (h : DiskAt w F b S) (hK : KAt w) (hK0 : ¬ F 0) (a c : Nat) (hc8 : 8 ≤ c) (hr : a + c ≤ S.dur.length) (hd : S.down = false) (hlim : JLim (nextG 0 (secL S a c)) 0 0 []) (hroom : Roomy S 2) : Calls Tryd.prog 12 #[.pointer (some ⟨b, 0, none⟩), .int .i64 (a : Int), .int .i64 (c : Int)] w (FormPost w F b (moveJ S ⟨a, c⟩ 0 0 [])) := by
  have hM : S.dur.length ≤ 4096 := h.ok.most
  have hck := fun (V : World) (hV : Below w.heap.size w V) => Jcheck_any (h.below hV) (a : Int) (c : Int) (by omega) (by omega)
  rw [withinE_ok hc8 hr hd] at hck
  have hnx := fun (V : World) (hV : Below w.heap.size w V) => Jnext_any (h.below hV) (KAt.below hK hV hK.size) a c 0 (by omega) hd hr (by have := hroom.pend; omega)
  have hsz := seqJ_size hlim
  have hz : moveJ S ⟨a, c⟩ 0 0 [] = (if (wrA S (a + 0 * (c / 2)) (nextG 0 (secL S a c)) 0 []).2.2 = 0 then ((wrA S (a + 0 * (c / 2)) (nextG 0 (secL S a c)) 0 []).1, 0, ⟨nextG 0 (secL S a c), (wrA S (a + 0 * (c / 2)) (nextG 0 (secL S a c)) 0 []).2.1, 0, [], 0, 0⟩)
    else ((wrA S (a + 0 * (c / 2)) (nextG 0 (secL S a c)) 0 []).1, (wrA S (a + 0 * (c / 2)) (nextG 0 (secL S a c)) 0 []).2.2, ⟨0, 0, 0, [], 0, 0⟩)) := by
    unfold moveJ
    simp only
    rw [if_neg (by have := hlim.g; omega)]
    rfl
  rw [hz]
  clear hz
  obtain ⟨gn, hgn⟩ : ∃ gn, nextG 0 (secL S a c) = gn := ⟨_, rfl⟩
  rw [hgn] at hlim hnx hsz ⊢
  have hgm := hlim.g
  have hwr := fun (V : World) (hV : Below w.heap.size w V) => Jwrite_any (h.below hV) (KAt.below hK hV hK.size) hK0 a c 0 gn 0 (by omega) (by omega) (by omega) (.slice none 0 0) [] (entsAt_nil V (fun _ => False)) (fun k hk h1 => h1.elim) hlim (by rw [recsR_recsJ]; show (seqL (recsJ gn 0 0 [])).length ≤ _; rw [hsz]; decide) (by rw [recsR_recsJ]; show Roomy S ((seqL (recsJ gn 0 0 [])).length + 1); rw [hsz]; exact hroom)
  obtain ⟨z, hz⟩ : ∃ z, wrA S (a + 0 * (c / 2)) gn 0 [] = z := ⟨_, rfl⟩
  rw [hz] at hwr ⊢
  rw [show nextV gn = .tuple #[.int .i64 (gn : Int), .int .i64 0] by unfold nextV; rw [if_neg (by omega)]] at hnx
  obtain ⟨S1, us, e1⟩ := z
  simp only at hwr ⊢
  obtain ⟨zz, hzz⟩ : ∃ zz : DS × Int × JD, (if e1 = 0 then (S1, 0, ⟨gn, us, 0, [], 0, 0⟩) else (S1, e1, ⟨0, 0, 0, [], 0, 0⟩)) = zz := ⟨_, rfl⟩
  have HZ := Lib.hid (show zz.1 = S1 ∧ zz.2.1 = e1 by
    rw [← hzz]
    by_cases he : e1 = 0
    · rw [if_pos he]; exact ⟨rfl, he.symm⟩
    · rw [if_neg he]; exact ⟨rfl, rfl⟩)
  rw [hzz]
  have HCK := Lib.hid hck
  have HNX := Lib.hid hnx
  have HWR := Lib.hid hwr
  unfold stV at HCK HNX HWR
  obtain ⟨ca, hca⟩ : ∃ ca : Int, (a : Int) = ca := ⟨_, rfl⟩
  obtain ⟨cc, hcc⟩ : ∃ cc : Int, (c : Int) = cc := ⟨_, rfl⟩
  rw [hca, hcc] at HCK HNX HWR ⊢
  clear hck hnx hwr hca hcc hzz hz hgn hsz h hK hK0 hlim hroom hd hr hM hc8
  go_enter Tryd.func12, Tryd.ntmps12
  go_wp2_with (refine wpList_putV rfl rfl 75 (.tmp 7) (.tmp 14) rfl _ #[.pointer (some ⟨b, 0, none⟩), .int .i64 ca, .int .i64 cc] rfl rfl 75 _ (heap_alloc_new _ _) (by kernel_rfl) rfl (by kernel_rfl) ?_; refine Stop.on ?_)
  refine Stop.go ?_
  try simp only [Act.put, List.setIfInBounds_toArray, List.set_cons_zero, List.set_cons_succ]
  intro W0 x0 c0 s0
  try simp only [Act.put, List.setIfInBounds_toArray, List.set_cons_zero, List.set_cons_succ]
  have hba : Below w.heap.size w (w.alloc (.cells #[.pointer none, .int .i64 0, .int .i64 0] 75)) := (Below.refl _ _).alloc (Nat.le_refl _) _
  have HB0 := Lib.hid (hba.trans (c0.below (fun k e => by rw [e]; exact Nat.le_refl _) hba.size))
  obtain ⟨q, hq⟩ : ∃ q, w.heap.size = q := ⟨_, rfl⟩
  rw [hq] at x0 c0 ⊢
  have HX0 := Lib.hid x0
  have HLC := Lib.hid (show ∀ w', Below W0.heap.size W0 w' → w'.cell? ⟨q, 0, none⟩ = some (.pointer (some ⟨b, 0, none⟩)) ∧ w'.cell? ⟨q, 1, none⟩ = some (.int .i64 ca) ∧ w'.cell? ⟨q, 2, none⟩ = some (.int .i64 cc) from fun w' hw' => by
    have h1 := (hw'.block q (Array.getElem?_eq_some_iff.1 HX0.out).1).trans HX0.out
    refine ⟨?_, ?_, ?_⟩ <;> rw [cell_of_row _ _ _ _ _ _ h1] <;> rfl)
  clear hba x0 c0 s0 hq
  obtain ⟨k0, k1, k2⟩ := HLC.out W0 (Below.refl _ _)
  go_wp2_with fail
  refine (HCK.out W0 HB0.out).mono ?_
  rintro e W1 ⟨rfl, hb1⟩
  clear k0 k1 k2
  obtain ⟨k0, k1, k2⟩ := HLC.out W1 hb1
  have HB1 := Lib.hid hb1
  clear hb1
  go_wp2_with fail
  refine (HNX.out W1 (HB0.out.trans (HB1.out.mono HB0.out.size))).mono ?_
  rintro e W2 ⟨rfl, hb2⟩
  clear k0 k1 k2
  have HB2 := Lib.hid (HB1.out.trans (hb2.mono HB1.out.size))
  obtain ⟨k0, k1, k2⟩ := HLC.out W2 HB2.out
  clear hb2
  go_wp2_with fail
  refine (HWR.out W2 (HB0.out.trans (HB2.out.mono HB0.out.size))).mono ?_
  rintro e W3 ⟨rfl, hd3, hc3⟩
  have HB3 := Lib.hid (HB0.out.trans (HB2.out.mono HB0.out.size))
  go_wp2_with fail
  exact bodyPost_ret (v := .int .i64 e1) (by simp [results, Tryd.results12, go_sem]) rfl ⟨by rw [HZ.out.2], by rw [HZ.out.1]; exact hd3.mono (fun k h1 => h1.elim .inl (fun h2 => .inr (Nat.le_trans HB3.out.size h2))), (Chg.of_below (F := F) HB3.out).trans hc3 (fun k e => .inl e)⟩
end Go.Proofs.YtplclpileejemaaDoor

namespace Go.Proofs.YtplclpileejemaaDoor
open Go.RowKit
set_option linter.unusedVariables false
set_option linter.unusedSimpArgs false

set_option maxRecDepth 100000 in
set_option maxHeartbeats 2000000 in
theorem JClone_any {w : World} {F : Nat → Prop} {v : Value} {l : List UInt8} (hv : BytesN w F v l) (hl : l.length ≤ 1000000000) :
    Calls Tryd.prog 40 #[v] w fun e w' => ∃ u, e = .returned u ∧ w'.ownsRow w.heap.size 5 1 u l.length (bvs l) ∧ Below w.heap.size w w' := by
  obtain ⟨a, cap, rfl⟩ := hv.form
  obtain ⟨a', cap', e, h1, h2⟩ := hv.at_
  cases e
  cases a with
  | some p =>
    have hnil := fun (w : World) => Lib.run_eql_slice_nil (P := Tryd.prog) w 36 5 (some p) l.length cap 0 0 Tryd.underlying36
    have hba : Below w.heap.size w (w.alloc (.cells #[] 5)) := (Below.refl _ _).alloc (Nat.le_refl _) _
    have HBA := Lib.hid hba
    have HBV := Lib.hid (hv.at_.below hba)
    have HO := Lib.hid (own_zero (w := w) (Nat.le_refl _) 5)
    have HBS := Lib.hid (show w.heap.size ≤ (w.alloc (.cells #[] 5)).heap.size from hba.size)
    have HNC := Lib.hid (show ∀ k c, Value.slice (some p) l.length cap = .slice none k c → c = 0 from by intro k c e; cases e)
    have HL := Lib.hid hl
    obtain ⟨n, hn⟩ : ∃ n, l.length = n := ⟨_, rfl⟩
    have HN := Lib.hid hn
    rw [hn] at hnil HBV HNC ⊢
    clear hv hba hl h1 h2 hn
    go_enter Tryd.func40, Tryd.ntmps40
    go_wp2_with (at_builtin; refine wpList_appBytes (xs := []) rfl (.tmp 5) (.tmp 6) rfl rfl HO.out rfl HBV.out HNC.out ?hn HBS.out ?_)
    case hn => have := HL.out; omega
    intro a' cap' w3 hO3 hg3
    have hB3 : Below w.heap.size w w3 := HBA.out.grown hg3 HBS.out (fun j hj => by cases hj; exact Nat.le_refl _)
    have HO3 := Lib.hid hO3
    have HB3 := Lib.hid hB3
    clear hO3 hg3 hB3
    go_wp2_with fail
    go_ret
    exact ⟨_, rfl, by rw [← HN.out]; exact HO3.out, HB3.out⟩
  | none =>
    have hl0 : l = [] := Classical.byContradiction fun hne => by
      obtain ⟨g, off, e2, _⟩ := h2 hne
      cases e2
    subst hl0
    obtain rfl : cap = 0 := hv.nil _ _ rfl
    have hnil := fun (w : World) => Lib.run_eql_slice_nil (P := Tryd.prog) w 36 5 none 0 0 0 0 Tryd.underlying36
    have HO := Lib.hid (show w.ownsRow w.heap.size 5 1 (.slice none 0 0) 0 (bvs []) from own_none _ _ _)
    clear hv h1 h2 hl
    go_enter Tryd.func40, Tryd.ntmps40
    go_wp2_with fail
    exact bodyPost_ret (v := .slice none 0 0) (by simp [results, Tryd.results40, go_sem]) rfl ⟨_, rfl, HO.out, Below.refl _ _⟩
/-- Numbers and values, cell by cell. -/
def flatN : Nat → List Value → List Value
  | _, [] => []
  | f, p :: ps => .int .i64 (f : Int) :: p :: flatN (f + 1) ps
theorem flatN_length : ∀ (ps : List Value) (f : Nat), (flatN f ps).length = ps.length * 2
  | [], _ => rfl
  | p :: ps, f => by rw [flatN, List.length_cons, List.length_cons, flatN_length ps, List.length_cons]; omega
theorem flatN_append : ∀ (ps : List Value) (f : Nat) (p : Value), flatN f (ps ++ [p]) = flatN f ps ++ [.int .i64 ((f + ps.length : Nat) : Int), p]
  | [], f, p => rfl
  | q :: ps, f, p => by
    rw [List.cons_append, flatN, flatN_append ps, flatN, List.length_cons, show f + 1 + ps.length = f + (ps.length + 1) by omega]
    rfl
theorem flatN_get : ∀ (ps : List Value) (f i : Nat) (h : i < ps.length), (flatN f ps)[i * 2]? = some (.int .i64 ((f + i : Nat) : Int)) ∧ (flatN f ps)[i * 2 + 1]? = some ps[i]
  | p :: ps, f, 0, _ => ⟨rfl, rfl⟩
  | p :: ps, f, i + 1, h => by
    have h1 := flatN_get ps (f + 1) i (by simpa using h)
    rw [flatN, show (i + 1) * 2 = i * 2 + 1 + 1 by omega, List.getElem?_cons_succ, List.getElem?_cons_succ, List.getElem?_cons_succ, List.getElem?_cons_succ]
    refine ⟨by rw [h1.1, show f + 1 + i = f + (i + 1) by omega], h1.2⟩
/-- The slice value v is a row of its own, of entries numbered from f on, that read as L. -/
structure NumsAt (w : World) (F : Nat → Prop) (v : Value) (f : Nat) (L : List (List UInt8)) : Prop where
  ex : ∃ ps, ps.length = L.length ∧ w.ownsRow 0 50 2 v L.length (flatN f ps) ∧ (∀ g, v.ownBlock = some g → F g) ∧ ∀ i (h : i < L.length), ∃ u, ps[i]? = some u ∧ BytesN w (fun k => F k ∧ v.ownBlock ≠ some k) u L[i]
section
variable {w w' : World} {F G : Nat → Prop} {v : Value} {f : Nat} {L : List (List UInt8)}
theorem NumsAt.form (h : NumsAt w F v f L) : ∃ a cap, v = .slice a L.length cap := by obtain ⟨ps, _, h, _⟩ := h.ex; exact ownsRow_form h
theorem numsAt_nil (w : World) (F : Nat → Prop) (f : Nat) : NumsAt w F (.slice none 0 0) f [] := ⟨[], rfl, ⟨rfl, .inl ⟨rfl, rfl⟩⟩, (fun g e => by cases e), fun i hi => by simp at hi⟩
theorem NumsAt.weak (h : NumsAt w F v f L) (hFG : ∀ k, k < w.heap.size → F k → G k) : NumsAt w G v f L := by
  obtain ⟨ps, h0, h1, h2, h3⟩ := h.ex
  refine ⟨ps, h0, h1, fun g hg => hFG g (ownsRow_lt h1 g hg).2 (h2 g hg), fun i hi => ?_⟩
  obtain ⟨u, h4, h5⟩ := h3 i hi
  exact ⟨u, h4, h5.weak fun k hk h6 => ⟨hFG k hk h6.1, h6.2⟩⟩
theorem NumsAt.chg (h : NumsAt w F v f L) (hc : Chg G w w') (hd : ∀ k, k < w.heap.size → F k → ¬ G k) : NumsAt w' F v f L := by
  obtain ⟨ps, h0, h1, h2, h3⟩ := h.ex
  refine ⟨ps, h0, ownsRow_chg' h1 hc (fun k hk => hd k (ownsRow_lt h1 k hk).2 (h2 k hk)), h2, fun i hi => ?_⟩
  obtain ⟨u, h4, h5⟩ := h3 i hi
  exact ⟨u, h4, h5.chg hc fun k hk h6 => hd k hk h6.1⟩
theorem NumsAt.below (h : NumsAt w F v f L) (hb : Below w.heap.size w w') : NumsAt w' F v f L := h.chg (G := fun _ => False) (Chg.of_below hb) (fun _ _ _ h => h)
theorem NumsAt.own_lt (h : NumsAt w F v f L) {g : Nat} (hg : v.ownBlock = some g) : F g ∧ g < w.heap.size := by
  obtain ⟨ps, h0, h1, h2, h3⟩ := h.ex
  exact ⟨h2 g hg, (ownsRow_lt h1 g hg).2⟩
/-- One of them. -/
theorem NumsAt.get {a : Option Addr} {n cap : Nat} (h : NumsAt w F (.slice a n cap) f L) {i : Nat} (hi : i < L.length) : ∃ g u, a = some ⟨g, 0, none⟩ ∧ F g ∧ g < w.heap.size ∧ w.cell? ⟨g, i * 2, none⟩ = some (.int .i64 ((f + i : Nat) : Int)) ∧ w.cell? ⟨g, i * 2 + 1, none⟩ = some u ∧ BytesN w F u L[i] := by
  obtain ⟨ps, h0, h1, h2, h3⟩ := h.ex
  obtain ⟨u, h4, h5⟩ := h3 i hi
  obtain ⟨g, cap', e, hgl, _, hr⟩ := ownsRow_at h1 (by omega)
  cases e
  have hp := flatN_get ps f i (by omega)
  have hpu : ps[i]'(by omega) = u := by
    have := List.getElem?_eq_getElem (l := ps) (i := i) (by omega)
    rw [h4] at this
    simpa using this.symm
  rw [hpu] at hp
  exact ⟨g, u, rfl, h2 g rfl, hgl, hr _ _ hp.1, hr _ _ hp.2, h5.weak fun k _ h6 => h6.1⟩
theorem infoEnt : (Tryd.prog.info? 50).map (fun i => (i.zero, i.size, i.bytes)) = some (some (.agg #[.int .i64 0, .slice none 0 0]), 2, 32) := by kernel_rfl
/-- One more entry. -/
theorem wp_appNum {o : Oper} {a : Act} {Q : Exit → Act → World → Prop} {K : Act → World → Prop} (s x : Operand) (ho : o.op = .call { callee := .builtin .append, args := #[s, x], argTypes := #[31, 31] })
    {u : Value} {l : List UInt8} (hs : a.eval s = v) (hown : NumsAt w F v f L) (hu : BytesN w (fun k => F k ∧ v.ownBlock ≠ some k) u l) (hx : a.eval x = .slice (some ⟨w.heap.size, 0, none⟩) 1 1)
    {n : Nat} (hL : L.length = n) (hn : n < 1000000000) {j : Int} (hj : j = ((f + n : Nat) : Int))
    (h : ∀ a' cap' w', NumsAt w' (fun k => F k ∨ w.heap.size ≤ k) (.slice a' (n + 1) cap') f (L ++ [l]) → Chg (fun k => v.ownBlock = some k) w w' → (∀ g, (Value.slice a' (n + 1) cap').ownBlock = some g → v.ownBlock = some g ∨ w.heap.size ≤ g) → K (a.put o.dst (.slice a' (n + 1) cap')) w') :
    o.wp Tryd.prog a (w.alloc (.cells #[.int .i64 j, u] 50)) K Q := by
  subst hL
  subst hj
  obtain ⟨i0, hi, hz0, hz1, hz2⟩ := info_parts infoEnt
  have hba : Below w.heap.size w (w.alloc (.cells #[.int .i64 ((f + L.length : Nat) : Int), u] 50)) := (Below.refl _ _).alloc (Nat.le_refl _) _
  obtain ⟨ps, h0, hr, hF, he⟩ := hown.ex
  have hr1 := own_kept hr hba
  have hu1 := hu.below hba
  obtain ⟨ua, uc, hue⟩ := hu.form
  refine wp_append_lies _ s x 31 ho 0 50 i0 _ 2 32 Tryd.underlying31 hi hz0 hz1 hz2 rfl (by decide) v L.length (flatN f ps) hs hr1
    ⟨w.heap.size, 0, none⟩ 1 1 [.int .i64 ((f + L.length : Nat) : Int), u] hx rfl (World.news_of_block (cs := #[.int .i64 ((f + L.length : Nat) : Int), u]) (t := 50) (fr := (0, 0)) (heap_alloc_new _ _)) (fun y hy => by
      simp only [List.mem_cons, List.not_mem_nil, or_false] at hy
      rcases hy with rfl | rfl <;> first | rfl | (rw [hue]; rfl)) (by decide) (by unfold maxLen; omega) (by omega) (Nat.zero_le _) _ rfl ?_
  intro g' cap' w' hown' hgrow hat hlt
  have hc1 : Chg (fun k => v.ownBlock = some k) (w.alloc (.cells #[.int .i64 ((f + L.length : Nat) : Int), u] 50)) w' := Chg.grown hgrow (fun k hk => .inl hk)
  have hc2 : Chg (fun k => v.ownBlock = some k) w w' := (Chg.of_below hba).trans hc1 (fun k hk => .inl hk)
  have hat' : v.ownBlock = some g' ∨ w.heap.size ≤ g' := hat.elim .inl (fun e => .inr (by rw [e, World.size_alloc]; omega))
  have keep : ∀ (y : Value) (ys : List UInt8), BytesN w (fun k => F k ∧ v.ownBlock ≠ some k) y ys → BytesN w' (fun k => (F k ∨ w.heap.size ≤ k) ∧ (Value.slice (some ⟨g', 0, none⟩) (L.length + 1) cap').ownBlock ≠ some k) y ys := fun y ys hy => by
    have h1 := (hy.weak (G := fun k => (F k ∧ v.ownBlock ≠ some k) ∧ k < w.heap.size) (fun k h1 h2 => ⟨h2, h1⟩)).chg hc2 (fun k _ h3 => h3.1.2)
    refine h1.weak fun k _ h2 => ⟨.inl h2.1.1, fun e => ?_⟩
    have e' : g' = k := Option.some.inj e
    subst e'
    rcases hat' with h3 | h3
    · exact h2.1.2 h3
    · have := h2.2; omega
  refine h _ cap' w' ⟨ps ++ [u], by simp [h0], by rw [List.length_append, flatN_append ps f u, h0]; exact hown', fun g hg => ?_, fun i hi => ?_⟩ hc2 (fun g hg => by obtain rfl : g' = g := Option.some.inj hg; exact hat')
  · obtain rfl : g' = g := Option.some.inj hg
    exact hat'.elim (fun h3 => .inl (hF _ h3)) .inr
  by_cases hlt : i < L.length
  · obtain ⟨y, h1, h2⟩ := he i hlt
    refine ⟨y, by rw [List.getElem?_append_left (by omega)]; exact h1, ?_⟩
    rw [List.getElem_append_left hlt]
    exact keep _ _ h2
  · rw [List.length_append] at hi
    simp at hi
    obtain rfl : i = L.length := by omega
    refine ⟨u, by rw [List.getElem?_append_right (by omega), h0, Nat.sub_self]; rfl, ?_⟩
    simp only [List.getElem_append_right (Nat.le_refl _), Nat.sub_self, List.getElem_cons_zero]
    exact keep _ _ hu
end
end Go.Proofs.YtplclpileejemaaDoor

namespace Go.Proofs.YtplclpileejemaaDoor
open Go.RowKit
set_option linter.unusedVariables false
set_option linter.unusedSimpArgs false

/-- An open that hands back nothing. -/
def openNo (e : Int) : Value := .tuple #[.pointer none, .slice none 0 0, .int .i64 e]
set_option maxRecDepth 100000 in
set_option maxHeartbeats 2000000 in
theorem JOpen_nil {w : World} (a c : Int) : Calls Tryd.prog 14 #[.pointer none, .int .i64 a, .int .i64 c] w fun e w' => e = .returned (openNo 1) ∧ Below w.heap.size w w' := by
  go_enter Tryd.func14, Tryd.ntmps14
  go_wp2_with (refine wpList_putV rfl rfl 75 (.tmp 9) (.tmp 23) rfl _ #[.pointer none, .int .i64 a, .int .i64 c] rfl rfl 75 _ (heap_alloc_new _ _) (by kernel_rfl) rfl (by kernel_rfl) ?_; refine Stop.on ?_)
  refine Stop.go ?_
  try simp only [Act.put, List.setIfInBounds_toArray, List.set_cons_zero, List.set_cons_succ]
  intro W0 x0 c0 s0
  try simp only [Act.put, List.setIfInBounds_toArray, List.set_cons_zero, List.set_cons_succ]
  have hba : Below w.heap.size w (w.alloc (.cells #[.pointer none, .int .i64 0, .int .i64 0] 75)) := (Below.refl _ _).alloc (Nat.le_refl _) _
  have HB0 := Lib.hid (hba.trans (c0.below (fun k e => by rw [e]; exact Nat.le_refl _) hba.size))
  have HS0 := Lib.hid (show W0.heap.size = w.heap.size + 1 by rw [s0]; simp)
  obtain ⟨q, hq⟩ : ∃ q, w.heap.size = q := ⟨_, rfl⟩
  rw [hq] at x0 c0 ⊢
  have HQ0 := Lib.hid hq
  have HX0 := Lib.hid x0
  have HLC := Lib.hid (show ∀ w', Below W0.heap.size W0 w' → w'.cell? ⟨q, 0, none⟩ = some (.pointer none) ∧ w'.cell? ⟨q, 1, none⟩ = some (.int .i64 a) ∧ w'.cell? ⟨q, 2, none⟩ = some (.int .i64 c) from fun w' hw' => by
    have h1 := (hw'.block q (Array.getElem?_eq_some_iff.1 HX0.out).1).trans HX0.out
    refine ⟨?_, ?_, ?_⟩ <;> rw [cell_of_row _ _ _ _ _ _ h1] <;> rfl)
  clear hba x0 c0 s0 hq
  obtain ⟨k0, k1, k2⟩ := HLC.out W0 (Below.refl _ _)
  go_wp2_with fail
  refine (Jcheck_nil a c).mono ?_
  rintro e W1 ⟨rfl, hb1⟩
  go_wp2_with fail
  exact bodyPost_ret (v := openNo 1) (by simp [results, Tryd.results14, go_sem, openNo]) rfl ⟨rfl, HB0.out.trans (hb1.mono HB0.out.size)⟩
set_option maxRecDepth 100000 in
set_option maxHeartbeats 2000000 in
theorem JOpen_bad {w : World} {F : Nat → Prop} {b : Nat} {S : DS} (h : DiskAt w F b S) (a c : Int) (ha : -9223372036854775808 ≤ a ∧ a ≤ 9223372036854775807) (hc : -9223372036854775808 ≤ c ∧ c ≤ 9223372036854775807) (hw : withinE S a c ≠ 0) : Calls Tryd.prog 14 #[.pointer (some ⟨b, 0, none⟩), .int .i64 a, .int .i64 c] w fun e w' => e = .returned (openNo (withinE S a c)) ∧ Below w.heap.size w w' := by
  have hck := fun (V : World) (hV : Below w.heap.size w V) => Jcheck_any (h.below hV) a c ha hc
  obtain ⟨z, hz⟩ : ∃ z, withinE S a c = z := ⟨_, rfl⟩
  rw [hz] at hck hw ⊢
  have hd : (z != 0) = true := by simpa using hw
  have HCK := Lib.hid hck
  unfold stV at HCK
  clear hck hz hw h
  go_enter Tryd.func14, Tryd.ntmps14
  go_wp2_with (refine wpList_putV rfl rfl 75 (.tmp 9) (.tmp 23) rfl _ #[.pointer (some ⟨b, 0, none⟩), .int .i64 a, .int .i64 c] rfl rfl 75 _ (heap_alloc_new _ _) (by kernel_rfl) rfl (by kernel_rfl) ?_; refine Stop.on ?_)
  refine Stop.go ?_
  try simp only [Act.put, List.setIfInBounds_toArray, List.set_cons_zero, List.set_cons_succ]
  intro W0 x0 c0 s0
  try simp only [Act.put, List.setIfInBounds_toArray, List.set_cons_zero, List.set_cons_succ]
  have hba : Below w.heap.size w (w.alloc (.cells #[.pointer none, .int .i64 0, .int .i64 0] 75)) := (Below.refl _ _).alloc (Nat.le_refl _) _
  have HB0 := Lib.hid (hba.trans (c0.below (fun k e => by rw [e]; exact Nat.le_refl _) hba.size))
  have HS0 := Lib.hid (show W0.heap.size = w.heap.size + 1 by rw [s0]; simp)
  obtain ⟨q, hq⟩ : ∃ q, w.heap.size = q := ⟨_, rfl⟩
  rw [hq] at x0 c0 ⊢
  have HQ0 := Lib.hid hq
  have HX0 := Lib.hid x0
  have HLC := Lib.hid (show ∀ w', Below W0.heap.size W0 w' → w'.cell? ⟨q, 0, none⟩ = some (.pointer (some ⟨b, 0, none⟩)) ∧ w'.cell? ⟨q, 1, none⟩ = some (.int .i64 a) ∧ w'.cell? ⟨q, 2, none⟩ = some (.int .i64 c) from fun w' hw' => by
    have h1 := (hw'.block q (Array.getElem?_eq_some_iff.1 HX0.out).1).trans HX0.out
    refine ⟨?_, ?_, ?_⟩ <;> rw [cell_of_row _ _ _ _ _ _ h1] <;> rfl)
  clear hba x0 c0 s0 hq
  obtain ⟨k0, k1, k2⟩ := HLC.out W0 (Below.refl _ _)
  go_wp2_with fail
  refine (HCK.out W0 HB0.out).mono ?_
  rintro e W1 ⟨rfl, hb1⟩
  go_wp2_with fail
  exact bodyPost_ret (v := openNo z) (by simp [results, Tryd.results14, go_sem, openNo]) rfl ⟨rfl, HB0.out.trans (hb1.mono HB0.out.size)⟩
set_option maxRecDepth 100000 in
set_option maxHeartbeats 2000000 in
theorem JOpen_none {w : World} {F : Nat → Prop} {b : Nat} {S : DS} (h : DiskAt w F b S) (hK : KAt w) (a c : Nat) (hc8 : 8 ≤ c) (hr : a + c ≤ S.dur.length) (hd : S.down = false) (hlen : S.pend.length < 1000000000) (hx : currL S ⟨a, c⟩ = none) : Calls Tryd.prog 14 #[.pointer (some ⟨b, 0, none⟩), .int .i64 (a : Int), .int .i64 (c : Int)] w fun e w' => e = .returned (openNo 3) ∧ Below w.heap.size w w' := by
  have hM : S.dur.length ≤ 4096 := h.ok.most
  have hck := fun (V : World) (hV : Below w.heap.size w V) => Jcheck_any (h.below hV) (a : Int) (c : Int) (by omega) (by omega)
  rw [withinE_ok hc8 hr hd] at hck
  have hcu := fun (V : World) (hV : Below w.heap.size w V) => Jcurrent_any (h.below hV) (KAt.below hK hV hK.size) a c hc8 hd hr hlen
  rw [hx] at hcu
  have HCK := Lib.hid hck
  have HCU := Lib.hid hcu
  unfold stV at HCK HCU
  obtain ⟨ca, hca⟩ : ∃ ca : Int, (a : Int) = ca := ⟨_, rfl⟩
  obtain ⟨cc, hcc⟩ : ∃ cc : Int, (c : Int) = cc := ⟨_, rfl⟩
  rw [hca, hcc] at HCK HCU ⊢
  clear hck hcu hca hcc hx h hK hlen hr hd hM hc8
  go_enter Tryd.func14, Tryd.ntmps14
  go_wp2_with (refine wpList_putV rfl rfl 75 (.tmp 9) (.tmp 23) rfl _ #[.pointer (some ⟨b, 0, none⟩), .int .i64 ca, .int .i64 cc] rfl rfl 75 _ (heap_alloc_new _ _) (by kernel_rfl) rfl (by kernel_rfl) ?_; refine Stop.on ?_)
  refine Stop.go ?_
  try simp only [Act.put, List.setIfInBounds_toArray, List.set_cons_zero, List.set_cons_succ]
  intro W0 x0 c0 s0
  try simp only [Act.put, List.setIfInBounds_toArray, List.set_cons_zero, List.set_cons_succ]
  have hba : Below w.heap.size w (w.alloc (.cells #[.pointer none, .int .i64 0, .int .i64 0] 75)) := (Below.refl _ _).alloc (Nat.le_refl _) _
  have HB0 := Lib.hid (hba.trans (c0.below (fun k e => by rw [e]; exact Nat.le_refl _) hba.size))
  have HS0 := Lib.hid (show W0.heap.size = w.heap.size + 1 by rw [s0]; simp)
  obtain ⟨q, hq⟩ : ∃ q, w.heap.size = q := ⟨_, rfl⟩
  rw [hq] at x0 c0 ⊢
  have HQ0 := Lib.hid hq
  have HX0 := Lib.hid x0
  have HLC := Lib.hid (show ∀ w', Below W0.heap.size W0 w' → w'.cell? ⟨q, 0, none⟩ = some (.pointer (some ⟨b, 0, none⟩)) ∧ w'.cell? ⟨q, 1, none⟩ = some (.int .i64 ca) ∧ w'.cell? ⟨q, 2, none⟩ = some (.int .i64 cc) from fun w' hw' => by
    have h1 := (hw'.block q (Array.getElem?_eq_some_iff.1 HX0.out).1).trans HX0.out
    refine ⟨?_, ?_, ?_⟩ <;> rw [cell_of_row _ _ _ _ _ _ h1] <;> rfl)
  clear hba x0 c0 s0 hq
  obtain ⟨k0, k1, k2⟩ := HLC.out W0 (Below.refl _ _)
  go_wp2_with fail
  refine (HCK.out W0 HB0.out).mono ?_
  rintro e W1 ⟨rfl, hb1⟩
  clear k0 k1 k2
  obtain ⟨k0, k1, k2⟩ := HLC.out W1 hb1
  have HB1 := Lib.hid hb1
  have HB01 := Lib.hid (HB0.out.trans (hb1.mono HB0.out.size))
  clear hb1
  go_wp2_with fail
  refine (HCU.out W1 HB01.out).mono ?_
  rintro e W2 ⟨bi, ok, st, rfl, he2, hb2, hbi, hcis⟩
  clear k0 k1 k2
  have HB12 := Lib.hid (HB1.out.trans (hb2.mono HB1.out.size))
  have HB02 := Lib.hid (HB01.out.trans (hb2.mono HB01.out.size))
  have HB2 := Lib.hid hb2
  obtain ⟨sg, sf, sv, sL⟩ := st
  obtain ⟨va, vc, hsv⟩ := he2.form
  simp only at hsv
  subst hsv
  obtain ⟨n, hn⟩ : ∃ n, sL.length = n := ⟨_, rfl⟩
  obtain rfl : ok = false := hcis
  simp only [hn] at he2 ⊢
  unfold StD.cells stC
  simp only
  clear he2 hbi
  go_wp2_with (refine wpList_putV rfl rfl 77 (.tmp 12) (.tmp 33) rfl _ #[.int .i64 sg, .int .i64 sf, .slice va n vc, .int .i64 0] rfl rfl 77 _ (heap_alloc_new _ _) (by kernel_rfl) rfl (by kernel_rfl) ?_; refine Stop.on ?_)
  refine Stop.go ?_
  try simp only [Act.put, List.setIfInBounds_toArray, List.set_cons_zero, List.set_cons_succ]
  intro W3 x3 c3 s3
  try simp only [Act.put, List.setIfInBounds_toArray, List.set_cons_zero, List.set_cons_succ]
  have hba : Below W2.heap.size W2 (W2.alloc (.cells #[.int .i64 0, .int .i64 0, .slice none 0 0, .int .i64 0] 77)) := (Below.refl _ _).alloc (Nat.le_refl _) _
  have HB3 := Lib.hid (HB02.out.trans ((hba.trans (c3.below (fun k e => by rw [e]; exact Nat.le_refl _) hba.size)).mono HB02.out.size))
  clear hba x3 c3 s3
  go_wp2_with fail
  exact bodyPost_ret (v := openNo 3) (by simp [results, Tryd.results14, go_sem, openNo]) rfl ⟨rfl, HB3.out⟩
/-- What an open hands back. -/
def OpenPost (w : World) (F : Nat → Prop) (b : Nat) (R : JR) (z : DS × Int × JD) (e : Ending) (w' : World) : Prop :=
  ∃ F' : Nat → Prop, DiskAt w' F' b z.1 ∧ (∀ k, F' k → (F k ∨ w.heap.size ≤ k) ∧ k < w'.heap.size) ∧ Chg F w w' ∧
    (z.2.1 ≠ 0 → e = .returned (openNo z.2.1)) ∧
    (z.2.1 = 0 → ∃ (g : Nat) (G N : Nat → Prop) (ev lv : Value), e = .returned (.tuple #[.pointer (some ⟨g, 0, none⟩), lv, .int .i64 0]) ∧ w.heap.size ≤ g ∧ ¬ F' g ∧ JBlk w' g b R z.2.2 ev ∧ EntsAt w' G ev z.2.2.ents ∧ (∀ k, G k → w.heap.size ≤ k ∧ k < w'.heap.size ∧ ¬ F' k ∧ k ≠ g) ∧
      NumsAt w' N lv z.2.2.first z.2.2.ents ∧ (∀ k, N k → w.heap.size ≤ k ∧ k < w'.heap.size ∧ ¬ F' k ∧ ¬ G k ∧ k ≠ g))
theorem moveJ_first (S : DS) (R : JR) (wh f : Nat) (E : List (List UInt8)) (h : (moveJ S R wh f E).2.1 = 0) : (moveJ S R wh f E).2.2.first = f ∧ (moveJ S R wh f E).2.2.ents = E := by
  unfold moveJ at h ⊢
  simp only at h ⊢
  by_cases h1 : 2147483647 < nextG wh (secL S R.at_ R.cnt)
  · rw [if_pos h1] at h; cases h
  · rw [if_neg h1] at h ⊢
    by_cases h2 : (wrA S (R.area wh) (nextG wh (secL S R.at_ R.cnt)) f E).2.2 = 0
    · rw [if_pos h2]; exact ⟨rfl, rfl⟩
    · rw [if_neg h2] at h; exact absurd h h2
set_option maxRecDepth 100000 in
set_option maxHeartbeats 2000000 in
theorem JOpen_any {w : World} {F : Nat → Prop} {b : Nat} {S : DS} (h : DiskAt w F b S) (hK : KAt w) (hK0 : ¬ F 0) (a c : Nat) (hc8 : 8 ≤ c) (hr : a + c ≤ S.dur.length) (hd : S.down = false) (x : ArD) (hx : currL S ⟨a, c⟩ = some x) (hlim : JLim (nextG (1 - x.gen % 2) (secL S a c)) x.first x.ents.length x.ents) (hN : sizeE x.ents ≤ 100000) (hroom : Roomy S (sizeE x.ents + 1)) :
    Calls Tryd.prog 14 #[.pointer (some ⟨b, 0, none⟩), .int .i64 (a : Int), .int .i64 (c : Int)] w (OpenPost w F b ⟨a, c⟩ (moveJ S ⟨a, c⟩ (1 - x.gen % 2) x.first x.ents)) := by
  have hlen : S.pend.length < 1000000000 := by have := hroom.pend; omega
  have hM : S.dur.length ≤ 4096 := h.ok.most
  have hck := fun (V : World) (hV : Below w.heap.size w V) => Jcheck_any (h.below hV) (a : Int) (c : Int) (by omega) (by omega)
  rw [withinE_ok hc8 hr hd] at hck
  have hcu := fun (V : World) (hV : Below w.heap.size w V) => Jcurrent_any (h.below hV) (KAt.below hK hV hK.size) a c hc8 hd hr hlen
  rw [hx] at hcu
  have HCK := Lib.hid hck
  have HCU := Lib.hid hcu
  unfold stV at HCK HCU
  obtain ⟨ca, hca⟩ : ∃ ca : Int, (a : Int) = ca := ⟨_, rfl⟩
  obtain ⟨cc, hcc⟩ : ∃ cc : Int, (c : Int) = cc := ⟨_, rfl⟩
  rw [hca, hcc] at HCK HCU ⊢
  have HD := Lib.hid h
  have HK := Lib.hid hK
  have HK0 := Lib.hid hK0
  have HLM := Lib.hid hlim
  have HNN := Lib.hid hN
  have HRM := Lib.hid hroom
  have HDN := Lib.hid hd
  have HRR := Lib.hid hr
  have HCA := Lib.hid hca
  have HCC := Lib.hid hcc
  have hfm : x.first ≤ 2147483647 := hlim.f
  have hnm : x.ents.length ≤ 100000 := by have := sizeE_len x.ents; omega
  obtain ⟨z, hz⟩ : ∃ z, moveJ S ⟨a, c⟩ (1 - x.gen % 2) x.first x.ents = z := ⟨_, rfl⟩
  have HZ := Lib.hid hz
  have HZF := Lib.hid (show z.2.1 = 0 → z.2.2.first = x.first ∧ z.2.2.ents = x.ents by rw [← hz]; exact moveJ_first _ _ _ _ _)
  rw [hz]
  clear hck hcu hca hcc hx h hK hK0 hlen hr hd hM hc8 hlim hN hroom hz
  go_enter Tryd.func14, Tryd.ntmps14
  go_wp2_with (refine wpList_putV rfl rfl 75 (.tmp 9) (.tmp 23) rfl _ #[.pointer (some ⟨b, 0, none⟩), .int .i64 ca, .int .i64 cc] rfl rfl 75 _ (heap_alloc_new _ _) (by kernel_rfl) rfl (by kernel_rfl) ?_; refine Stop.on ?_)
  refine Stop.go ?_
  try simp only [Act.put, List.setIfInBounds_toArray, List.set_cons_zero, List.set_cons_succ]
  intro W0 x0 c0 s0
  try simp only [Act.put, List.setIfInBounds_toArray, List.set_cons_zero, List.set_cons_succ]
  have hba : Below w.heap.size w (w.alloc (.cells #[.pointer none, .int .i64 0, .int .i64 0] 75)) := (Below.refl _ _).alloc (Nat.le_refl _) _
  have HB0 := Lib.hid (hba.trans (c0.below (fun k e => by rw [e]; exact Nat.le_refl _) hba.size))
  have HS0 := Lib.hid (show W0.heap.size = w.heap.size + 1 by rw [s0]; simp)
  obtain ⟨q, hq⟩ : ∃ q, w.heap.size = q := ⟨_, rfl⟩
  rw [hq] at x0 c0 ⊢
  have HQ0 := Lib.hid hq
  have HX0 := Lib.hid x0
  have HLC := Lib.hid (show ∀ w', Below W0.heap.size W0 w' → w'.cell? ⟨q, 0, none⟩ = some (.pointer (some ⟨b, 0, none⟩)) ∧ w'.cell? ⟨q, 1, none⟩ = some (.int .i64 ca) ∧ w'.cell? ⟨q, 2, none⟩ = some (.int .i64 cc) from fun w' hw' => by
    have h1 := (hw'.block q (Array.getElem?_eq_some_iff.1 HX0.out).1).trans HX0.out
    refine ⟨?_, ?_, ?_⟩ <;> rw [cell_of_row _ _ _ _ _ _ h1] <;> rfl)
  clear hba x0 c0 s0 hq
  obtain ⟨k0, k1, k2⟩ := HLC.out W0 (Below.refl _ _)
  go_wp2_with fail
  refine (HCK.out W0 HB0.out).mono ?_
  rintro e W1 ⟨rfl, hb1⟩
  clear k0 k1 k2
  obtain ⟨k0, k1, k2⟩ := HLC.out W1 hb1
  have HB1 := Lib.hid hb1
  have HB01 := Lib.hid (HB0.out.trans (hb1.mono HB0.out.size))
  clear hb1
  go_wp2_with fail
  refine (HCU.out W1 HB01.out).mono ?_
  rintro e W2 ⟨bi, ok, st, rfl, he2, hb2, hbi, hcis⟩
  clear k0 k1 k2
  have HB12 := Lib.hid (HB1.out.trans (hb2.mono HB1.out.size))
  have HB02 := Lib.hid (HB01.out.trans (hb2.mono HB01.out.size))
  have HB2 := Lib.hid hb2
  obtain ⟨sg, sf, sv, sL⟩ := st
  obtain ⟨va, vc, hsv⟩ := he2.form
  simp only at hsv
  subst hsv
  obtain ⟨n, hn⟩ : ∃ n, sL.length = n := ⟨_, rfl⟩
  obtain ⟨rfl, ⟨hg, hf, hL⟩, hpr⟩ := hcis
  simp only at hg hf hL
  subst hg hf hL
  simp only [hn] at he2 ⊢
  unfold StD.cells stC
  simp only
  have HE2 := Lib.hid (he2.weak (G := fun k => W1.heap.size ≤ k ∧ k < W2.heap.size) (fun k h1 h2 => ⟨h2, h1⟩))
  have HPR := Lib.hid hpr
  have hnb : n ≤ 100000 := by omega
  have HN := Lib.hid hn
  clear he2 hpr hn
  go_wp2_with (refine wpList_putV rfl rfl 77 (.tmp 12) (.tmp 33) rfl _ #[.int .i64 (x.gen : Int), .int .i64 (x.first : Int), .slice va n vc, .int .i64 0] rfl rfl 77 _ (heap_alloc_new _ _) (by kernel_rfl) rfl (by kernel_rfl) ?_; refine Stop.on ?_)
  refine Stop.go ?_
  try simp only [Act.put, List.setIfInBounds_toArray, List.set_cons_zero, List.set_cons_succ]
  intro W3 x3 c3 s3
  try simp only [Act.put, List.setIfInBounds_toArray, List.set_cons_zero, List.set_cons_succ]
  have hba : Below W2.heap.size W2 (W2.alloc (.cells #[.int .i64 0, .int .i64 0, .slice none 0 0, .int .i64 0] 77)) := (Below.refl _ _).alloc (Nat.le_refl _) _
  have hb3 := hba.trans (c3.below (fun k e => by rw [e]; exact Nat.le_refl _) hba.size)
  have HB3 := Lib.hid (HB02.out.trans (hb3.mono HB02.out.size))
  have HS3 := Lib.hid (show W3.heap.size = W2.heap.size + 1 by rw [s3]; simp)
  have HB23 := Lib.hid hb3
  have HE3 := Lib.hid (HE2.out.below hb3)
  obtain ⟨k0, k1, k2⟩ := HLC.out W3 (HB12.out.trans (hb3.mono HB12.out.size))
  obtain ⟨p, hp⟩ : ∃ p, W2.heap.size = p := ⟨_, rfl⟩
  rw [hp] at x3 ⊢
  have HP := Lib.hid hp
  have HX3 := Lib.hid x3
  have y0 : W3.cell? ⟨p, 0, none⟩ = some (.int .i64 (x.gen : Int)) := by rw [cell_of_row _ _ _ _ _ _ x3]; rfl
  have y1 : W3.cell? ⟨p, 1, none⟩ = some (.int .i64 (x.first : Int)) := by rw [cell_of_row _ _ _ _ _ _ x3]; rfl
  have y2 : W3.cell? ⟨p, 2, none⟩ = some (.slice va n vc) := by rw [cell_of_row _ _ _ _ _ _ x3]; rfl
  have y3 : W3.cell? ⟨p, 3, none⟩ = some (.int .i64 0) := by rw [cell_of_row _ _ _ _ _ _ x3]; rfl
  obtain ⟨V4, hV4⟩ : ∃ V4, W3.alloc (.cells #[.pointer (some ⟨b, 0, none⟩), .int .i64 ca, .int .i64 cc, .int .i64 (bi : Int), .int .i64 (x.gen : Int), .int .i64 (x.first : Int), .slice va n vc, .int .i64 0, .int .i64 0, .int .i64 0] 83) = V4 := ⟨_, rfl⟩
  have hb4 : Below W3.heap.size W3 V4 := hV4 ▸ (Below.refl _ _).alloc (Nat.le_refl _) _
  have hx4 : V4.heap[W3.heap.size]? = some (.cells #[.pointer (some ⟨b, 0, none⟩), .int .i64 ca, .int .i64 cc, .int .i64 (bi : Int), .int .i64 (x.gen : Int), .int .i64 (x.first : Int), .slice va n vc, .int .i64 0, .int .i64 0, .int .i64 0] 83 (0, 0)) := by rw [← hV4]; exact heap_alloc_new _ _
  have HV4 := Lib.hid hV4
  have HJ4 := Lib.hid (show JBlk V4 W3.heap.size b ⟨a, c⟩ ⟨x.gen, 0, x.first, x.ents, 0, 0⟩ (.slice va n vc) by
    unfold JBlk jcells
    simp only
    rw [HPR.out, HCA.out, HCC.out]
    exact hx4)
  have hx34 := (hb4.block p (Array.getElem?_eq_some_iff.1 x3).1).trans x3
  have HX4 := Lib.hid hx34
  have z1 : (W3.alloc (.cells #[.pointer (some ⟨b, 0, none⟩), .int .i64 ca, .int .i64 cc, .int .i64 (bi : Int), .int .i64 (x.gen : Int), .int .i64 (x.first : Int), .slice va n vc, .int .i64 0, .int .i64 0, .int .i64 0] 83)).cell? ⟨p, 1, none⟩ = some (.int .i64 (x.first : Int)) := by rw [hV4, cell_of_row _ _ _ _ _ _ hx34]; rfl
  have z2 : (W3.alloc (.cells #[.pointer (some ⟨b, 0, none⟩), .int .i64 ca, .int .i64 cc, .int .i64 (bi : Int), .int .i64 (x.gen : Int), .int .i64 (x.first : Int), .slice va n vc, .int .i64 0, .int .i64 0, .int .i64 0] 83)).cell? ⟨p, 2, none⟩ = some (.slice va n vc) := by rw [hV4, cell_of_row _ _ _ _ _ _ hx34]; rfl
  have HB4 := Lib.hid (HB3.out.trans (hb4.mono HB3.out.size))
  have HE4 := Lib.hid (HE3.out.below hb4)
  have HS4 := Lib.hid (show V4.heap.size = W3.heap.size + 1 by rw [← hV4]; simp)
  clear hba x3 c3 s3 hb3 hp hV4 hb4 hx4 hx34 HE2 HE3
  go_wp2_with fail
  rw [HV4.out]
  have hF0 : ∀ k, F k ∧ k < w.heap.size → k < W3.heap.size := fun k h1 => by have := HB3.out.size; omega
  refine (Jmove_any (HD.out.bound.below HB4.out) (KAt.below HK.out HB4.out HK.out.size) (fun h => HK0.out h.1) HJ4.out (fun h => by have := HB3.out.size; omega) x.first x.ents HE4.out (fun k hk h1 h2 => by have := HB01.out.size; omega) HDN.out HRR.out rfl HLM.out HNN.out HRM.out).mono ?_
  intro e V5 hmp
  obtain ⟨rfl, hd5, hc5, hok5, hno5⟩ := hmp
  rw [HZ.out] at hd5 hok5 hno5
  rw [HZ.out]
  have HD5 := Lib.hid hd5.bound
  have HFB := Lib.hid (show ∀ k, ((F k ∧ k < w.heap.size) ∨ V4.heap.size ≤ k) ∧ k < V5.heap.size → (F k ∨ w.heap.size ≤ k) ∧ k < V5.heap.size from fun k h1 => ⟨h1.1.elim (fun h2 => .inl h2.1) (fun h2 => .inr (by have := HB4.out.size; omega)), h1.2⟩)
  have HC5 := Lib.hid (show Chg F w V5 from (Chg.of_below (F := F) HB4.out).trans hc5 (fun k h1 => h1.elim (fun h2 => .inl h2.1) (fun h2 => .inr (by have := HB3.out.size; omega))))
  have HE5 := Lib.hid (HE4.out.chg hc5 (fun k _ h1 h2 => by have h3 := HB01.out.size; have h4 := HS3.out; omega))
  have hx5 := (hc5.block p (Array.getElem?_eq_some_iff.1 HX4.out).1 (fun h1 => by have h2 := HB02.out.size; have h3 := HS3.out; have h4 := HP.out; omega)).trans HX4.out
  have HX5 := Lib.hid hx5
  have HS5 := Lib.hid hc5.size
  obtain ⟨S1, e1, J1⟩ := z
  simp only at hok5 hno5 HZF HD5 ⊢
  have HOK := Lib.hid hok5
  clear k0 k1 k2 y0 y1 y2 y3 z1 z2 hd5 hc5 hok5 hno5 hx5
  by_cases he : e1 = 0
  case neg =>
    have hdt : (e1 != 0) = true := by simpa using he
    have HNE := Lib.hid he
    clear he
    go_wp2_with fail
    exact bodyPost_ret (v := openNo e1) (by simp [results, Tryd.results14, go_sem, openNo]) rfl ⟨_, HD5.out, HFB.out, HC5.out, fun _ => rfl, fun h => absurd h HNE.out⟩
  subst he
  obtain ⟨hzf, hze⟩ := HZF.out rfl
  have HJ5 := Lib.hid (HOK.out rfl)
  have HZ1 := Lib.hid hzf
  have HZ2 := Lib.hid hze
  clear hzf hze HOK
  have z2 : V5.cell? ⟨p, 2, none⟩ = some (.slice va n vc) := by rw [cell_of_row _ _ _ _ _ _ HX5.out]; rfl
  have HN0 := Lib.hid (numsAt_nil V5 (fun k => V5.heap.size ≤ k) x.first)
  have HB0' := Lib.hid (Below.refl V5.heap.size V5)
  go_wp2_with fail
  go_loopw [17, 58] (fun lv iv wr => ∃ (i : Nat) (la : Option Addr) (lc : Nat), i ≤ n ∧ iv = .int .i64 (i : Int) ∧ lv = .slice la i lc ∧ Hid (NumsAt wr (fun k => V5.heap.size ≤ k) (.slice la i lc) x.first (x.ents.take i)) ∧ Hid (Below V5.heap.size V5 wr)) (fun _ iv _ => n - (intOf iv).toNat)
  case atStart => exact ⟨0, none, 0, Nat.zero_le _, rfl, rfl, HN0, HB0'⟩
  case round =>
    obtain ⟨i, la, lc, hi, rfl, rfl, HNR, HBR⟩ := hrel
    obtain ⟨W1', rfl⟩ : ∃ W, W = wr := ⟨_, rfl⟩
    clear HN0 HB0' z2
    by_cases hlt : i < n
    case neg =>
      obtain rfl : n = i := by omega
      have HNF := Lib.hid (show NumsAt W1' (fun k => V5.heap.size ≤ k) (.slice la n lc) J1.first J1.ents by
        rw [HZ1.out, HZ2.out]
        have h1 := HNR.out
        rw [List.take_of_length_le (by rw [HN.out]; exact Nat.le_refl _)] at h1
        exact h1)
      go_wp2_with fail
      exact bodyPost_ret (v := .tuple #[.pointer (some ⟨W3.heap.size, 0, none⟩), .slice la n lc, .int .i64 0]) (by simp [results, Tryd.results14, go_sem]) rfl
        ⟨_, HD5.out.below HBR.out, fun k h1 => ⟨(HFB.out k h1).1, Nat.lt_of_lt_of_le h1.2 HBR.out.size⟩, (HC5.out.trans (Chg.of_below (F := F) HBR.out) (fun k e => .inl e)), fun h => absurd rfl h,
          fun _ => ⟨W3.heap.size, _, fun k => V5.heap.size ≤ k ∧ k < W1'.heap.size, _, _, rfl, HB3.out.size, fun h => by have h1 := HS4.out; have h2 := HB3.out.size; omega, HJ5.out.below HBR.out, (by show EntsAt W1' _ _ J1.ents; rw [HZ2.out]; exact HE5.out.below HBR.out), fun k h1 => by
            have h2 := HB01.out.size; have h3 := HS3.out; have h4 := HS4.out; have h5 := HBR.out.size; have h6 := HS5.out
            exact ⟨by omega, by omega, fun h7 => by omega, by omega⟩, HNF.out.weak (fun k h1 h2 => ⟨h2, h1⟩), fun k h1 => by
            have h2 := HB02.out.size; have h3 := HS3.out; have h4 := HS4.out; have h5 := HBR.out.size; have h6 := HS5.out
            exact ⟨by omega, h1.2, fun h7 => by omega, fun h7 => by omega, by omega⟩⟩⟩
    have hiI : (i : Int) < (n : Int) := by omega
    have hiE : i < x.ents.length := by rw [HN.out]; exact hlt
    have HE6 := Lib.hid (HE5.out.below HBR.out)
    obtain ⟨gv, u, uc, e9, _, hcell, hbx⟩ := HE6.out.get hiE
    subst e9
    obtain ⟨X, hX⟩ : ∃ X, x.ents[i] = X := ⟨_, rfl⟩
    have HTS := Lib.hid (show x.ents.take (i + 1) = x.ents.take i ++ [X] by rw [← hX, List.take_succ_eq_append_getElem hiE])
    have HLN := Lib.hid (show (x.ents.take i).length = i by rw [List.length_take]; omega)
    have HXL := Lib.hid (show X.length ≤ 1000000000 by have := HLM.out.len _ (List.getElem_mem hiE); rw [hX] at this; omega)
    rw [hX] at hcell hbx
    obtain ⟨xn, hxn⟩ : ∃ xn, X.length = xn := ⟨_, rfl⟩
    rw [hxn] at hcell hbx
    have HBX := Lib.hid hbx
    have HXN := Lib.hid hxn
    have HXP := Lib.hid (show ∀ w', Below V5.heap.size W1' w' → w'.cell? ⟨p, 1, none⟩ = some (.int .i64 (x.first : Int)) from fun w' hw' => by
      have hlt := (Array.getElem?_eq_some_iff.1 HX5.out).1
      have h1 := (hw'.block p hlt).trans ((HBR.out.block p hlt).trans HX5.out)
      rw [cell_of_row _ _ _ _ _ _ h1]; rfl)
    obtain ⟨LT, hLT⟩ : ∃ LT, x.ents.take i = LT := ⟨_, rfl⟩
    rw [hLT] at HNR HTS HLN
    have HFI := Lib.hid (show (x.first : Int) + (i : Int) = ((x.first + i : Nat) : Int) by omega)
    clear hX hbx hxn hLT HE6
    go_wp2_with fail
    refine wp_region_noPanic ?_
    refine wp_region_H (Below V5.heap.size W1') (by kernel_rfl) ?_
    have hS0 : (Below V5.heap.size W1') W1'.drew := ((Below.refl _ _).drew)
    obtain ⟨wd, hwd⟩ : ∃ wd, W1'.drew = wd := ⟨_, rfl⟩
    rw [hwd] at hS0 ⊢
    have hd0 : Below W1'.heap.size W1' wd := hwd ▸ (Below.refl _ _).drew
    clear hwd
    refine wpAnyH_takeI (i := 0) (v := ?v1) rfl (by kernel_rfl) (by kernel_rfl) (by kernel_rfl) (fun _ _ _ h => h) (yieldsIf_run rfl (fun w' hw' => ?y1)) hS0 ?_
    case y1 => first | (go_simp; rfl) | (go_simp; done) | rfl
    simp only [Act.put, List.setIfInBounds_toArray, List.set_cons_zero, List.set_cons_succ]
    refine wpAnyH_takeI (i := 1) (v := ?v2) rfl (by kernel_rfl) (by kernel_rfl) (by kernel_rfl) (fun _ _ _ h => h) (yieldsIf_run rfl (fun w' hw' => ?y2)) hS0 ?_
    case y2 => first | (go_simp; rfl) | (go_simp; done) | rfl
    simp only [Act.put, List.setIfInBounds_toArray, List.set_cons_zero, List.set_cons_succ]
    refine wpAnyH_takeI (i := 2) (v := ?v3) rfl (by kernel_rfl) (by kernel_rfl) (by kernel_rfl) (fun _ _ _ h => h) (yieldsIf_run rfl (fun w' hw' => ?y3)) hS0 ?_
    case y3 => (have h1 := HXP.out w' hw'; clear hw'; first | (go_simp; rfl) | (go_simp; done))
    simp only [Act.put, List.setIfInBounds_toArray, List.set_cons_zero, List.set_cons_succ]
    refine wpAnyH_takeI (i := 3) (v := ?v4) rfl (by kernel_rfl) (by kernel_rfl) (by kernel_rfl) (fun _ _ _ h => h) (yieldsIf_run rfl (fun w' hw' => ?y4)) hS0 ?_
    case y4 => first | (go_simp; rfl) | (go_simp; done) | rfl
    simp only [Act.put, List.setIfInBounds_toArray, List.set_cons_zero, List.set_cons_succ]
    refine wpAnyH_takeI (i := 4) (v := .int .i64 ((x.first : Int) + (i : Int))) rfl (by kernel_rfl) (by kernel_rfl) (by kernel_rfl) (fun _ _ _ h => h) (yieldsIf_run rfl (fun w' hw' => ?y5)) hS0 ?_
    case y5 => (have hwr : IntKind.i64.wrap ((x.first : Int) + (i : Int)) = (x.first : Int) + (i : Int) := IntWalk.i64_in _ (by omega); clear hw'; first | (go_simp; rfl) | (go_simp; done))
    simp only [Act.put, List.setIfInBounds_toArray, List.set_cons_zero, List.set_cons_succ]
    refine wpAnyH_takeI (i := 5) (v := ?v6) rfl (by kernel_rfl) (by kernel_rfl) (by kernel_rfl) (fun _ _ _ h => h) (yieldsIf_run rfl (fun w' hw' => ?y6)) hS0 ?_
    case y6 => first | (go_simp; rfl) | (go_simp; done) | rfl
    simp only [Act.put, List.setIfInBounds_toArray, List.set_cons_zero, List.set_cons_succ]
    refine wpAnyH_do (i := 6) (by kernel_rfl) rfl rfl (fun K hK => ?_)
    go_simp
    go_at_call 40
    refine (JClone_any (HBX.out.below hd0) HXL.out).mono ?_
    rintro e V6 ⟨u9, rfl, ho, hb6⟩
    rw [HXN.out] at ho
    obtain ⟨ua9, uc9, rfl⟩ := ownsRow_form ho
    have hb06 := hd0.trans (hb6.mono hd0.size)
    have hsV6 := hS0.trans (hb6.mono (Nat.le_trans HBR.out.size hS0.size))
    refine hK _ _ (hsV6) ?_
    clear hK K
    try simp only [Act.put, List.setIfInBounds_toArray, List.set_cons_zero, List.set_cons_succ]
    refine wpAnyH_takeI (i := 7) (v := ?v7) rfl (by kernel_rfl) (by kernel_rfl) (by kernel_rfl) (fun _ _ _ h => h) (yieldsIf_run rfl (fun w' hw' => ?y7)) hsV6 ?_
    case y7 => first | (go_simp; rfl) | (go_simp; done) | rfl
    simp only [Act.put, List.setIfInBounds_toArray, List.set_cons_zero, List.set_cons_succ]
    refine wpAnyH_do (i := 8) (by kernel_rfl) rfl rfl (fun K hK => ?_)
    refine wp_lit1 31 50 (.tmp 70) rfl #[.int .i64 ((x.first : Int) + (i : Int)), .slice ua9 xn uc9] rfl Tryd.underlying31 (by kernel_rfl) (by kernel_rfl) (by show 0 < 2; decide) (by show 2 ≤ _; decide) ?_
    have hba8 : Below V6.heap.size V6 (V6.alloc (.cells #[.int .i64 ((x.first : Int) + (i : Int)), .slice ua9 xn uc9] 50)) := (Below.refl _ _).alloc (Nat.le_refl _) _
    have hsV8 := hsV6.trans (hba8.mono (Nat.le_trans HBR.out.size hsV6.size))
    refine hK _ _ (hsV8) ?_
    clear hK K
    try simp only [Act.put, List.setIfInBounds_toArray, List.set_cons_zero, List.set_cons_succ]
    refine wpAnyH_do (i := 9) (by kernel_rfl) rfl rfl (fun K hK => ?_)
    refine wp_appNum (.tmp 63) (.tmp 71) rfl rfl (HNR.out.below hb06) (l := X) ((own_bytesN (l := X) ho).weak (fun k h1 h2 => ⟨Nat.le_trans (Nat.le_trans HBR.out.size hS0.size) h2, fun e => by have h3 := HNR.out.own_lt e; have h4 := hd0.size; omega⟩)) rfl HLN.out (by omega) HFI.out ?_
    intro a5 c5 V9 hn9 hc9 ho9
    have hs9 : Below V5.heap.size W1' V9 := hsV6.trans (hc9.below (fun k e => (HNR.out.own_lt e).1) (Nat.le_trans HBR.out.size hsV6.size))
    refine hK _ _ (hs9) ?_
    clear hK K
    try simp only [Act.put, List.setIfInBounds_toArray, List.set_cons_zero, List.set_cons_succ]
    refine wpAnyH_takeI (i := 10) (v := ?v8) rfl (by kernel_rfl) (by kernel_rfl) (by kernel_rfl) (fun _ _ _ h => h) (yieldsIf_run rfl (fun w' hw' => ?y8)) hs9 ?_
    case y8 => first | (go_simp; rfl) | (go_simp; done) | rfl
    simp only [Act.put, List.setIfInBounds_toArray, List.set_cons_zero, List.set_cons_succ]
    refine wpAnyH_done (by kernel_rfl) ?_ _
    refine NoPanic.normal ?_
    have HN9 := Lib.hid (show NumsAt V9 (fun k => V5.heap.size ≤ k) (.slice a5 (i + 1) c5) x.first (x.ents.take (i + 1)) by
      rw [HTS.out]
      exact hn9.weak (fun k _ h1 => h1.elim id (fun h2 => Nat.le_trans (Nat.le_trans HBR.out.size hsV6.size) h2)))
    have HB9 := Lib.hid (HBR.out.trans (hs9.mono (Nat.le_refl _)))
    clear hn9 hc9 ho9 hs9 hsV6 hsV8 hba8 hb06 hb6 ho hd0 hS0 hcell
    go_wp2_with fail
    go_roundw
    case rel => exact ⟨i + 1, a5, c5, by omega, by go_num, rfl, HN9, HB9⟩
    case measure => simp [intOf] <;> omega
end Go.Proofs.YtplclpileejemaaDoor

namespace Go.Proofs.YtplclpileejemaaDoor
open Go.RowKit
set_option linter.unusedVariables false
set_option linter.unusedSimpArgs false

/-- Behind an operation of the device that failed. -/
def watchJ (J : JD) (x : Int) : JD := if x = 28 then { J with failed := 28 } else J
set_option maxRecDepth 100000 in
set_option maxHeartbeats 2000000 in
theorem Jwatch_d {w : World} {g b q : Nat} {R : JR} {J : JD} {ev : Value} {x : Int} (u : FrameMode) (hg : JBlk w g b R J ev) (hq : w.heap[q]? = some (.cells #[.int .i64 x] 25 (0, 0))) :
    CallsD Tryd.prog 43 #[.pointer (some ⟨g, 0, none⟩), .pointer (some ⟨q, 0, none⟩)] u w fun e u' w' => u' = u ∧ (e = .returned (.tuple #[]) ∧ JBlk w' g b R (watchJ J x) ev ∧ Chg (fun k => k = g) w w') := by
  have kq : w.cell? ⟨q, 0, none⟩ = some (.int .i64 x) := by rw [cell_of_row _ _ _ _ _ _ hq]; rfl
  have HG := Lib.hid hg
  clear hg hq
  by_cases hx : x = 28
  · subst hx
    go_enter_d Tryd.func43, Tryd.ntmps43
    go_wp2_with (refine wpList_putC rfl rfl 25 (.tmp 13) (.tmp 11) rfl g 9 (.int .i64 28) rfl rfl HG.out (by show 9 < 10; decide) rfl (by kernel_rfl) ?_; refine Stop.on ?_)
    refine Stop.go ?_
    try simp only [Act.put, List.setIfInBounds_toArray, List.set_cons_zero, List.set_cons_succ]
    intro W1 x1 c1 s1
    try simp only [Act.put, List.setIfInBounds_toArray, List.set_cons_zero, List.set_cons_succ]
    go_wp2_with fail
    go_end0
    exact ⟨rfl, x1, c1⟩
  · have hd : (x == 28) = false := by simpa using hx
    have HX := Lib.hid hx
    clear hx
    go_enter_d Tryd.func43, Tryd.ntmps43
    go_wp2_with fail
    go_end0
    exact ⟨rfl, by unfold watchJ; rw [if_neg HX.out]; exact HG.out, Chg.refl _ _⟩
def SyncPost (w : World) (F : Nat → Prop) (g b : Nat) (R : JR) (ev : Value) (z : DS × JD × Int) (e : Ending) (w' : World) : Prop :=
  e = .returned (.int .i64 z.2.2) ∧ DiskAt w' F b z.1 ∧ JBlk w' g b R z.2.1 ev ∧ Chg (fun k => F k ∨ k = g) w w'
set_option maxRecDepth 100000 in
set_option maxHeartbeats 2000000 in
theorem JSync_nil {w : World} : Calls Tryd.prog 28 #[.pointer none] w fun e w' => e = .returned (.int .i64 1) ∧ Below w.heap.size w w' := by
  obtain ⟨w1, hw1⟩ : ∃ w1, w.alloc (.cells #[.int .i64 0] 25) = w1 := ⟨_, rfl⟩
  have HW1 := Lib.hid hw1
  have HB1 : Hid (Below w.heap.size w w1) := Lib.hid (hw1 ▸ (Below.refl _ _).alloc (Nat.le_refl _) _)
  have HX1 := Lib.hid (show w1.heap[w.heap.size]? = some (.cells #[.int .i64 0] 25 (0, 0)) by rw [← hw1]; exact heap_alloc_new _ _)
  clear hw1
  go_enter_defers Tryd.func28, Tryd.ntmps28
  go_wp2_with fail
  rw [HW1.out]
  refine JFailed_nil.mono ?_
  rintro e V2 ⟨rfl, hb2⟩
  have HX2 := Lib.hid ((hb2.block _ (Array.getElem?_eq_some_iff.1 HX1.out).1).trans HX1.out)
  have HB2 := Lib.hid (HB1.out.trans (hb2.mono HB1.out.size))
  obtain ⟨q, hq⟩ : ∃ q, w.heap.size = q := ⟨_, rfl⟩
  rw [hq] at HX2 ⊢
  have HQ := Lib.hid hq
  clear hb2 hq HX1
  go_wp2_with (refine wpList_putC rfl rfl 25 (.tmp 2) (.tmp 9) rfl q 0 (.int .i64 1) rfl rfl HX2.out (by show 0 < 1; decide) rfl (by kernel_rfl) ?_; refine Stop.on ?_)
  refine Stop.go ?_
  try simp only [Act.put, List.setIfInBounds_toArray, List.set_cons_zero, List.set_cons_succ]
  intro W3 x3 c3 s3
  try simp only [Act.put, List.setIfInBounds_toArray, List.set_cons_zero, List.set_cons_succ]
  have k3 : W3.cell? ⟨q, 0, none⟩ = some (.int .i64 1) := by rw [cell_of_row _ _ _ _ _ _ x3]; rfl
  have HB3 := Lib.hid (HB2.out.trans (c3.below (fun k e => by rw [e, HQ.out]; exact Nat.le_refl _) HB2.out.size))
  go_wp2_with fail
  exact ⟨.int .i64 1, by simp [results, Tryd.results28, go_sem, k3], rfl, HB3.out⟩
set_option maxRecDepth 100000 in
set_option maxHeartbeats 2000000 in
theorem JSync_any {w : World} {F : Nat → Prop} {b g : Nat} {S : DS} {R : JR} {J : JD} {va : Option Addr} {n vc : Nat} (h : DiskAt w F b S) (hg : JBlk w g b R J (.slice va n vc)) (hFg : ¬ F g) (hn : J.ents.length = n) (hnb : J.first + n < 4611686018427387904) (hroom : Roomy S 1) :
    Calls Tryd.prog 28 #[.pointer (some ⟨g, 0, none⟩)] w (SyncPost w F g b R (.slice va n vc) (synJ S J)) := by
  obtain ⟨w1, hw1⟩ : ∃ w1, w.alloc (.cells #[.int .i64 0] 25) = w1 := ⟨_, rfl⟩
  have HW1 := Lib.hid hw1
  have hb1 : Below w.heap.size w w1 := hw1 ▸ (Below.refl _ _).alloc (Nat.le_refl _) _
  have HB1 := Lib.hid hb1
  have HX1 := Lib.hid (show w1.heap[w.heap.size]? = some (.cells #[.int .i64 0] 25 (0, 0)) by rw [← hw1]; exact heap_alloc_new _ _)
  have HG1 := Lib.hid (hg.below hb1)
  have HGL := Lib.hid hg.lt
  have HD1 := Lib.hid (h.bound.below hb1)
  have HFG := Lib.hid hFg
  have HRM := Lib.hid hroom
  have HN := Lib.hid hn
  obtain ⟨z, hz⟩ : ∃ z, synJ S J = z := ⟨_, rfl⟩
  have HZ := Lib.hid (show z = synJ S J from hz.symm)
  rw [hz]
  obtain ⟨fl, hfl⟩ : ∃ fl, J.failed = fl := ⟨_, rfl⟩
  have HFL := Lib.hid hfl
  clear hw1 hb1 h hg hFg hroom hz hn hfl
  go_enter_defers Tryd.func28, Tryd.ntmps28
  go_wp2_with fail
  rw [HW1.out]
  refine (JFailed_any HG1.out).mono ?_
  rintro e V2 ⟨rfl, hb2⟩
  rw [HFL.out]
  have HX2 := Lib.hid ((hb2.block _ (Array.getElem?_eq_some_iff.1 HX1.out).1).trans HX1.out)
  have HB2 := Lib.hid (HB1.out.trans (hb2.mono HB1.out.size))
  have HG2 := Lib.hid (HG1.out.below hb2)
  have HD2 := Lib.hid (HD1.out.below hb2)
  obtain ⟨q, hq⟩ : ∃ q, w.heap.size = q := ⟨_, rfl⟩
  rw [hq] at HX2 HGL HD2 ⊢
  have HQ := Lib.hid hq
  clear hb2 hq HX1 HG1 HD1
  by_cases hf0 : fl = 0
  case neg =>
    have hdt : (fl != 0) = true := by simpa using hf0
    have HZE := Lib.hid (show z = (S, J, fl) by rw [HZ.out]; unfold synJ; rw [HFL.out, if_pos hf0])
    clear hf0
    go_wp2_with (refine wpList_putC rfl rfl 25 (.tmp 2) (.tmp 9) rfl q 0 (.int .i64 fl) rfl rfl HX2.out (by show 0 < 1; decide) rfl (by kernel_rfl) ?_; refine Stop.on ?_)
    refine Stop.go ?_
    try simp only [Act.put, List.setIfInBounds_toArray, List.set_cons_zero, List.set_cons_succ]
    intro W3 x3 c3 s3
    try simp only [Act.put, List.setIfInBounds_toArray, List.set_cons_zero, List.set_cons_succ]
    have k3 : W3.cell? ⟨q, 0, none⟩ = some (.int .i64 fl) := by rw [cell_of_row _ _ _ _ _ _ x3]; rfl
    go_wp2_with fail
    exact ⟨.int .i64 fl, by simp [results, Tryd.results28, go_sem, k3], by
      rw [HZE.out]
      exact ⟨rfl, (HD2.out.chg c3 (fun k h1 h2 => by omega)).mono (fun k h1 => h1.1), HG2.out.chg c3 (fun e => by have := HGL.out; omega), (Chg.of_below (F := fun k => F k ∨ k = g) HB2.out).trans c3 (fun k e => .inr (by rw [e, HQ.out]; exact Nat.le_refl _))⟩⟩
  subst hf0
  have k0 : V2.cell? ⟨g, 0, none⟩ = some (.pointer (some ⟨b, 0, none⟩)) := HG2.out.cell rfl
  go_wp2_with fail
  refine (Flush_any HD2.out (by have := HRM.out.pend; omega) (by have := HRM.out.ops; omega) HRM.out.lim).mono ?_
  rintro e V3 ⟨rfl, hd3, hc3⟩
  have HZS := Lib.hid (show z = if S.flush.2 = 0 then (S.flush.1, { J with synced := J.next }, 0) else (S.flush.1, { J with failed := S.flush.2 }, S.flush.2) by rw [HZ.out]; unfold synJ; rw [if_neg (by rw [HFL.out]; simp)])
  have HF28 := Lib.hid (show S.flush.2 ≠ 0 → S.flush.2 = 28 from fun h => by
    unfold DS.flush at h ⊢
    by_cases h1 : S.down = true
    · rw [if_pos h1]
    · rw [if_neg h1] at h ⊢
      by_cases h2 : S.operate.2 = true
      · rw [if_pos h2] at h; exact absurd rfl h
      · rw [if_neg h2])
  obtain ⟨T, hT⟩ : ∃ T, S.flush = T := ⟨_, rfl⟩
  rw [hT] at hd3 HZS HF28 ⊢
  obtain ⟨S1, e1⟩ := T
  simp only at hd3 HZS HF28 ⊢
  have HD3 := Lib.hid hd3
  have HG3 := Lib.hid (HG2.out.chg hc3 (fun h1 => by have := HGL.out; have := h1.2; exact HFG.out h1.1))
  have HX3 := Lib.hid ((hc3.block q (Array.getElem?_eq_some_iff.1 HX2.out).1 (fun h1 => by omega)).trans HX2.out)
  have HC3 := Lib.hid (show Chg (fun k => F k ∨ k = g) w V3 from (Chg.of_below (F := fun k => F k ∨ k = g) HB2.out).trans hc3 (fun k h1 => .inl (.inl h1.1)))
  clear hT hd3 hc3 k0
  by_cases he : e1 = 0
  · subst he
    have HZE := Lib.hid (show z = (S1, { J with synced := J.next }, 0) by rw [HZS.out, if_pos rfl])
    have hnb' : J.first + n < 4611686018427387904 := hnb
    go_wp2_with fail
    refine (JNext_any HG3.out hnb').mono ?_
    rintro e V4 ⟨rfl, hb4⟩
    have HG4 := Lib.hid (HG3.out.below hb4)
    have HX4 := Lib.hid ((hb4.block q (Array.getElem?_eq_some_iff.1 HX3.out).1).trans HX3.out)
    have HD4 := Lib.hid (HD3.out.below hb4)
    have HC4 := Lib.hid (HC3.out.trans (Chg.of_below (F := fun k => F k ∨ k = g) hb4) (fun k e => .inl e))
    clear hb4
    go_wp2_with (refine wpList_putC rfl rfl 3 (.tmp 24) (.tmp 22) rfl g 8 (.int .i64 ((J.first + n : Nat) : Int)) rfl rfl HG4.out (by show 8 < 10; decide) rfl (by kernel_rfl) ?_; refine Stop.on ?_)
    refine Stop.go ?_
    try simp only [Act.put, List.setIfInBounds_toArray, List.set_cons_zero, List.set_cons_succ]
    intro W5 x5 c5 s5
    try simp only [Act.put, List.setIfInBounds_toArray, List.set_cons_zero, List.set_cons_succ]
    have HG5 := Lib.hid (show JBlk W5 g b R { J with synced := J.next } (.slice va n vc) from by
      unfold JD.next
      rw [HN.out]
      exact x5)
    have HX5 := Lib.hid ((c5.block q (Array.getElem?_eq_some_iff.1 HX4.out).1 (by have := HGL.out; omega)).trans HX4.out)
    have HD5 := Lib.hid (HD4.out.chg c5 (fun k h1 h2 => by subst h2; exact HFG.out h1.1))
    have HC5 := Lib.hid (HC4.out.trans c5 (fun k e => .inl (.inr e)))
    clear x5 c5 s5
    go_wp2_with (refine wpList_putC rfl rfl 25 (.tmp 2) (.const (.int .i64 0)) rfl q 0 (.int .i64 0) rfl rfl HX5.out (by show 0 < 1; decide) rfl (by kernel_rfl) ?_; refine Stop.on ?_)
    refine Stop.go ?_
    try simp only [Act.put, List.setIfInBounds_toArray, List.set_cons_zero, List.set_cons_succ]
    intro W6 x6 c6 s6
    try simp only [Act.put, List.setIfInBounds_toArray, List.set_cons_zero, List.set_cons_succ]
    have HG6 := Lib.hid (HG5.out.chg c6 (by have := HGL.out; omega))
    have HD6 := Lib.hid (HD5.out.chg c6 (fun k h1 h2 => by omega))
    have HC6 := Lib.hid (HC5.out.trans c6 (fun k e => .inr (by rw [e, HQ.out]; exact Nat.le_refl _)))
    have HX6 := Lib.hid (show W6.heap[q]? = some (.cells #[.int .i64 0] 25 (0, 0)) from x6)
    clear x6 c6 s6
    go_wp2_with fail
    refine leaves_cons (f := 43) (args := #[.pointer (some ⟨g, 0, none⟩), .pointer (some ⟨q, 0, none⟩)]) (by simp) (by simp [go_sem]) ?_
    refine (Jwatch_d .returning HG6.out HX6.out).mono ?_
    rintro e u' W7 ⟨rfl, rfl, hg7, hc7⟩
    have k7 : W7.cell? ⟨q, 0, none⟩ = some (.int .i64 0) := by rw [cell_of_row _ _ _ _ _ _ ((hc7.block q (Array.getElem?_eq_some_iff.1 HX6.out).1 (by have := HGL.out; omega)).trans HX6.out)]; rfl
    exact ⟨.int .i64 0, by simp [results, Tryd.results28, go_sem, k7], by
      rw [HZE.out]
      exact ⟨rfl, (HD6.out.chg hc7 (fun k h1 h2 => by subst h2; exact HFG.out h1.1)).mono (fun k h1 => h1.1), hg7, HC6.out.trans hc7 (fun k e => .inl (.inr e))⟩⟩
  · have hdt : (e1 != 0) = true := by simpa using he
    obtain rfl : e1 = 28 := HF28.out he
    have HZE := Lib.hid (show z = (S1, { J with failed := 28 }, 28) by rw [HZS.out, if_neg he])
    clear he
    go_wp2_with (refine wpList_putC rfl rfl 25 (.tmp 2) (.tmp 19) rfl q 0 (.int .i64 28) rfl rfl HX3.out (by show 0 < 1; decide) rfl (by kernel_rfl) ?_; refine Stop.on ?_)
    refine Stop.go ?_
    try simp only [Act.put, List.setIfInBounds_toArray, List.set_cons_zero, List.set_cons_succ]
    intro W6 x6 c6 s6
    try simp only [Act.put, List.setIfInBounds_toArray, List.set_cons_zero, List.set_cons_succ]
    have HG6 := Lib.hid (HG3.out.chg c6 (by have := HGL.out; omega))
    have HD6 := Lib.hid (HD3.out.chg c6 (fun k h1 h2 => by omega))
    have HC6 := Lib.hid (HC3.out.trans c6 (fun k e => .inr (by rw [e, HQ.out]; exact Nat.le_refl _)))
    have HX6 := Lib.hid (show W6.heap[q]? = some (.cells #[.int .i64 28] 25 (0, 0)) from x6)
    clear x6 c6 s6
    go_wp2_with fail
    refine leaves_cons (f := 43) (args := #[.pointer (some ⟨g, 0, none⟩), .pointer (some ⟨q, 0, none⟩)]) (by simp) (by simp [go_sem]) ?_
    refine (Jwatch_d .returning HG6.out HX6.out).mono ?_
    rintro e u' W7 ⟨rfl, rfl, hg7, hc7⟩
    have k7 : W7.cell? ⟨q, 0, none⟩ = some (.int .i64 28) := by rw [cell_of_row _ _ _ _ _ _ ((hc7.block q (Array.getElem?_eq_some_iff.1 HX6.out).1 (by have := HGL.out; omega)).trans HX6.out)]; rfl
    exact ⟨.int .i64 28, by simp [results, Tryd.results28, go_sem, k7], by
      rw [HZE.out]
      exact ⟨rfl, (HD6.out.chg hc7 (fun k h1 h2 => by subst h2; exact HFG.out h1.1)).mono (fun k h1 => h1.1), hg7, HC6.out.trans hc7 (fun k e => .inl (.inr e))⟩⟩
end Go.Proofs.YtplclpileejemaaDoor

namespace Go.Proofs.YtplclpileejemaaDoor
open Go.RowKit
set_option linter.unusedVariables false
set_option linter.unusedSimpArgs false

/-- Values of one cell as elements. -/
def SlV : Type := { v : Value // v.oneCell' = true }
def slE : ElemTy Tryd.prog 56 36 SlV where
  enc v := [v.1]
  k := 1
  hu := Tryd.underlying56
  hi := ⟨.slice none 0 0, 24, by kernel_rfl, rfl, by decide⟩
  hk := by decide
  len _ := rfl
  one v x hx := by rw [List.mem_singleton.1 hx]; exact v.2
theorem sl_flat : ∀ (L : List SlV), L.flatMap slE.enc = L.map (fun v => v.1)
  | [] => rfl
  | v :: L => by rw [List.flatMap_cons, sl_flat L]; rfl
theorem sl_list : ∀ (vs : List Value), (∀ v ∈ vs, v.oneCell' = true) → ∃ L : List SlV, L.map (fun v => v.1) = vs
  | [], _ => ⟨[], rfl⟩
  | v :: vs, h => by
    obtain ⟨L, hL⟩ := sl_list vs (fun x hx => h x (List.mem_cons_of_mem _ hx))
    exact ⟨⟨v, h v (List.mem_cons_self ..)⟩ :: L, by show v :: L.map (fun v => v.1) = v :: vs; rw [hL]⟩
set_option maxRecDepth 100000 in
set_option maxHeartbeats 2000000 in
theorem bytesFrom_any {w : World} {G : Nat → Prop} {va : Option Addr} {n vc : Nat} {E : List (List UInt8)} (h : EntsAt w G (.slice va n vc) E) (k : Nat) (hk0 : 0 < k) (hk : k ≤ n) (hE : E.length = n) (hnb : n < 100000000) :
    Calls Tryd.prog 45 #[.slice va n vc, .int .i64 (k : Int)] w fun e w' => ∃ (ua : Option Addr) (uc : Nat), e = .returned (.slice ua (n - k) uc) ∧ EntsAt w' (fun j => (G j ∧ j < w.heap.size) ∨ (w.heap.size ≤ j ∧ j < w'.heap.size)) (.slice ua (n - k) uc) (E.drop k) ∧ Below w.heap.size w w' := by
  obtain ⟨vs, h1, h2, h3⟩ := h.ex
  rw [hE] at h1
  have hvl : vs.length = n := by have := h1.1; omega
  obtain ⟨L, hL⟩ := sl_list vs (fun v hv => by
    obtain ⟨i, hi, rfl⟩ := List.getElem_of_mem hv
    obtain ⟨u, h4, h5⟩ := h3 i (by omega)
    obtain ⟨a, c, e⟩ := h5.form
    rw [List.getElem?_eq_getElem hi] at h4
    rw [Option.some.inj h4, e]; rfl)
  have hLl : L.length = n := by rw [← hvl, ← hL, List.length_map]
  have hown : OwnL slE w 0 (.slice va n vc) L := by
    show w.ownsRow 0 36 1 _ L.length (L.flatMap slE.enc)
    rw [sl_flat, hL, hLl]
    exact h1
  obtain ⟨g, rfl⟩ : ∃ g, va = some ⟨g, 0, none⟩ := by
    rcases h1.2 with ⟨e, h0⟩ | ⟨g, cap', cur, e, _⟩
    · omega
    · cases e; exact ⟨g, rfl⟩
  have hat := (hown.at_).drop (k := k) hk
  have hkc : n ≤ vc := by
    rcases h1.2 with ⟨e, h0⟩ | ⟨g, cap', cur, e, _, _, h8, _⟩
    · cases e
    · cases e; exact h8
  rw [show (0 : Nat) + k * slE.k = k by show 0 + k * 1 = k; omega] at hat
  have HAT := Lib.hid hat
  have HLD := Lib.hid (show (L.drop k).length = n - k by rw [List.length_drop, hLl])
  have HO0 := Lib.hid (ownL_nil slE w w.heap.size)
  have HFIN := Lib.hid (show ∀ (ua : Option Addr) (uc : Nat) (w' : World), OwnL slE w' w.heap.size (.slice ua (n - k) uc) (L.drop k) → Below w.heap.size w w' → EntsAt w' (fun j => (G j ∧ j < w.heap.size) ∨ (w.heap.size ≤ j ∧ j < w'.heap.size)) (.slice ua (n - k) uc) (E.drop k) from fun ua uc w' ho hb => by
    have hr : w'.ownsRow w.heap.size 36 1 (.slice ua (n - k) uc) (L.drop k).length ((L.drop k).flatMap slE.enc) := ho
    rw [sl_flat, List.map_drop, hL, List.length_drop, hLl] at hr
    refine ⟨vs.drop k, by rw [List.length_drop, hE]; exact ownsRow_base hr (Nat.zero_le _), fun j hj => .inr (ownsRow_lt hr j hj), fun i hi => ?_⟩
    rw [List.length_drop] at hi
    obtain ⟨u, h4, h5⟩ := h3 (k + i) (by omega)
    refine ⟨u, by rw [List.getElem?_drop]; exact h4, ?_⟩
    rw [List.getElem_drop]
    refine (((h5.weak (G := fun j => G j ∧ j < w.heap.size) (fun j h6 h7 => ⟨h7.1, h6⟩)).below hb)).weak (fun j _ h6 => ⟨.inl h6, fun e => ?_⟩)
    have := (ownsRow_lt hr j e).1
    have := h6.2
    omega)
  have HAT0 := Lib.hid (show n = k → ListAt slE w (.slice (some ⟨g, 0, none⟩) 0 0) (L.drop k) from fun e => by
    rw [List.drop_of_length_le (by omega)]
    exact ⟨_, 0, rfl, Nat.le_refl _, Nat.zero_le _, (fun h => by cases h), fun h => absurd rfl h⟩)
  clear h h1 h2 h3 hvl hL hLl hown hat hE
  by_cases hkv : k = vc
  · obtain rfl : k = n := by omega
    subst hkv
    have hfin := HFIN.out none 0 w
    have h1 := HLD.out
    rw [List.eq_nil_of_length_eq_zero (h1.trans (Nat.sub_self _)), Nat.sub_self] at hfin
    have HE := Lib.hid (hfin (ownL_nil slE w w.heap.size) (Below.refl _ _))
    clear hfin h1
    go_enter Tryd.func45, Tryd.ntmps45
    go_wp2_with fail
    exact bodyPost_ret (v := .slice none 0 0) (by simp [results, Tryd.results45, go_sem]) rfl ⟨none, 0, rfl, HE.out, Below.refl _ _⟩
  · have hkl : k < vc := by omega
    go_enter Tryd.func45, Tryd.ntmps45
    go_wp2_with (at_builtin; refine wpList_appL slE rfl (.const (.slice none 0 0)) (.tmp 7) rfl rfl HO0.out rfl HAT.out rfl HLD.out (show 0 + (n - k) < 1000000000 by omega) (Nat.le_refl _) ?_; refine Stop.on ?_)
    refine Stop.go ?_
    try simp only [Act.put, List.setIfInBounds_toArray, List.set_cons_zero, List.set_cons_succ]
    intro a5 c5 W1 ho hg ha
    try simp only [Act.put, List.setIfInBounds_toArray, List.set_cons_zero, List.set_cons_succ]
    have hb : Below w.heap.size w W1 := HO0.out.grown_below hg (Nat.le_refl _)
    have HE := Lib.hid (HFIN.out a5 c5 W1 ho hb)
    have HB := Lib.hid hb
    clear ho hg ha hb
    go_wp2_with fail
    exact bodyPost_ret (v := .slice a5 (n - k) c5) (by simp [results, Tryd.results45, go_sem]) rfl ⟨a5, c5, rfl, HE.out, HB.out⟩
end Go.Proofs.YtplclpileejemaaDoor
