/- The law Order: All yields the articles in the order of Put, whatever is removed meanwhile. -/
import Derived.Test.YtnmdgjodbikndaaS23
import Derived.Test.YtnmdgjodbikndaaRange
namespace Go.Proofs.Ytnmdgjodbikndaa
open Go.RowKit
set_option linter.unusedVariables false
set_option linter.unusedSimpArgs false
attribute [local go_sem] Oper.semAt_some

def SpD.dropN (S : SpD) (k : Nat) : SpD := ⟨S.budget, S.next, S.list.drop k⟩
theorem drop_find {S : SpD} {k : Nat} (hk : k < S.list.length) : (S.dropN k).find S.list[k].id = some S.list[k] := by
  unfold SpD.find SpD.dropN
  show (S.list.drop k).find? _ = _
  rw [List.drop_eq_getElem_cons hk, List.find?_cons, decide_eq_true rfl]
theorem drop_del {S : SpD} {k : Nat} (hk : k < S.list.length) : (S.dropN k).del S.list[k].id = S.dropN (k + 1) := by
  unfold SpD.del SpD.dropN
  show (⟨S.budget, S.next, (S.list.drop k).eraseP _⟩ : SpD) = _
  rw [List.drop_eq_getElem_cons hk, List.eraseP_cons, decide_eq_true rfl]
  rfl
theorem drop_ok {S : SpD} (h : S.Ok) : ∀ k, k ≤ S.list.length → (S.dropN k).Ok
  | 0, _ => h
  | k + 1, hk => by rw [← drop_del (by omega)]; exact Ok.del (drop_ok h k (by omega))
theorem ListAt.kept3 {w w' : World} {b m n0 : Nat} {S : SpD} {v : Value} {L : List RefA} {q : Value} {t : TypeId} {fr : Nat × Nat} (h : ListAt refE w v L) (hs : SpAt w b m S) (hx : w.heap[n0]? = some (.cells #[q] t fr)) (hc : Chg (fun k => k = n0 ∨ k = b ∨ k = m) w w') : ListAt refE w' v L := by
  obtain ⟨a, cap, e, h1, h2, h3, h4⟩ := h.ex
  refine ⟨a, cap, e, h1, h2, h3, fun hne => ?_⟩
  obtain ⟨g, off, e1, hg, hr⟩ := h4 hne
  have h0 : 0 < L.length := List.length_pos_iff.2 hne
  have hx2 : w.cell? ⟨g, off + 0 * 34 + 32, none⟩ = some (.string L[0].text) := hr 0 h0 32 _ (by
    show L[0].cells[32]? = _
    unfold RefA.cells
    rw [List.getElem?_append_right (by rw [bvs_length, L[0].id.2]; decide), bvs_length, L[0].id.2]
    rfl)
  have hgb : g ≠ b := by
    intro e
    subst e
    rw [cell_of_row _ _ _ _ _ _ hs.hb] at hx2
    rw [Array.getElem?_eq_none (by simp)] at hx2
    cases hx2
  have hgm : g ≠ m := by
    intro e
    subst e
    obtain ⟨es, c, hm, _⟩ := hs.hm.ex
    unfold World.cell? at hx2
    simp [hm] at hx2
  have hgn : g ≠ n0 := by
    intro e
    subst e
    rw [cell_of_row _ _ _ _ _ _ hx] at hx2
    rw [Array.getElem?_eq_none (by simp)] at hx2
    cases hx2
  refine ⟨g, off, e1, Nat.lt_of_lt_of_le hg hc.size, fun i hi j u hj => ?_⟩
  exact hc.cell (p := ⟨g, off + i * 34 + j, none⟩) (fun h => by rcases h with h | h | h; exact hgn h; exact hgb h; exact hgm h) (hr i hi j u hj)
/-- Between two rounds of the loop. -/
def OrI (W0 : World) (b m n0 : Nat) (S : SpD) (pre : List ArtD) (W : World) : Prop :=
  pre.length ≤ S.list.length ∧ SpAt W b m (S.dropN pre.length) ∧ W.heap[n0]? = some (.cells #[.int .i64 (pre.length : Int)] 3 (0, 0)) ∧ Chg (fun k => k = n0 ∨ k = b ∨ k = m) W0 W
def OrX (W0 : World) (b m n0 : Nat) (S : SpD) (stop : Int) (c : Code) (pre : List ArtD) (W : World) : Prop :=
  (c = .ret ∧ ¬ pre <+: S.list) ∨ (c = .exit 0 ∧ stop = (pre.length : Int) ∧ OrI W0 b m n0 S pre W)
theorem orI_next {W0 wz : World} {b m n0 k : Nat} {S : SpD} {pre : List ArtD} {x : ArtD} (hk : pre.length = k) (hl : k < S.list.length) (hs : SpAt wz b m (S.dropN (k + 1))) (hn : wz.heap[n0]? = some (.cells #[.int .i64 (k : Int)] 3 (0, 0))) (hC : Chg (fun k => k = n0 ∨ k = b ∨ k = m) W0 wz) (hne : n0 ≠ b ∧ n0 ≠ m) :
    OrI W0 b m n0 S (pre ++ [x]) (wz.setCell ⟨n0, 0, none⟩ (.int .i64 ((k : Int) + 1))) := by
  have hc := Chg.setCell (F := fun k => k = n0) wz (a := ⟨n0, 0, none⟩) (.int .i64 ((k : Int) + 1)) rfl
  have hlen : (pre ++ [x]).length = k + 1 := by rw [List.length_append, hk]; rfl
  refine ⟨by omega, by rw [hlen]; exact hs.chg hc (Ne.symm hne.1) (Ne.symm hne.2), ?_, hC.trans hc (fun i h => .inl (.inl h))⟩
  rw [heap_setCell_same _ _ _ _ _ _ hn, hlen]
  simp
theorem orI_from {W0 : World} {b m n0 : Nat} {S : SpD} (hm : m < W0.heap.size) : OwnFrom W0.heap.size (OrI W0 b m n0 S) := by
  rintro pre A B row ⟨h1, h2, h3, h4⟩ hg hr
  refine ⟨h1, h2.kept ((grown_cells hg hr h2.hb).trans h2.hb.symm) (hg.block _ h2.hm.lt (fun e => by have := (hr _ e.symm).1; omega)), grown_cells hg hr h3, h4.trans (Chg.grown (F := fun k => row = some k) hg (fun k e => .inl e)) (fun i h => .inr (hr i h).1)⟩
theorem orX_from {W0 : World} {b m n0 : Nat} {S : SpD} (hm : m < W0.heap.size) (stop : Int) (c : Code) : OwnFrom W0.heap.size (OrX W0 b m n0 S stop c) := by
  rintro pre A B row (h | ⟨h1, h2, h3⟩) hg hr
  · exact .inl h
  · exact .inr ⟨h1, h2, orI_from hm pre A B row h3 hg hr⟩
set_option maxRecDepth 100000 in
set_option maxHeartbeats 2000000 in
theorem Order_law {w : World} (v : Value) (L : List OpD) (hv : ListAt opE w v L) (stop : Int) :
    Calls Try.prog 6 #[v, .int .i64 stop] w fun e w' => e = .returned (.bool true) ∧ Below w.heap.size w w' := by
  obtain ⟨w1, hw1⟩ : ∃ w1, (w.alloc (.cells #[.int .i64 stop] 3)).alloc (.cells #[.bool false] 4) = w1 := ⟨_, rfl⟩
  have hb1 : Below w.heap.size w w1 := hw1 ▸ ((Below.refl _ _).alloc (Nat.le_refl _) _).alloc (by simp) _
  have n1 : w1.heap[w.heap.size]? = some (.cells #[.int .i64 stop] 3 (0, 0)) := by rw [← hw1, Below.heap_alloc _ _ _ (by simp)]; exact heap_alloc_new w _
  have n2 : w1.heap[w.heap.size + 1]? = some (.cells #[.bool false] 4 (0, 0)) := by
    have := heap_alloc_new (w.alloc (.cells #[.int .i64 stop] 3)) (.cells #[.bool false] 4)
    rw [World.size_alloc] at this
    rw [← hw1]; exact this
  have hs1 : w1.heap.size = w.heap.size + 2 := by rw [← hw1]; simp
  obtain ⟨r, hr⟩ : ∃ r, smallB L = r := ⟨_, rfl⟩
  have HSM := Lib.hid (show ∀ w', Below w.heap.size w w' → Calls Try.prog 16 #[v] w' fun e w'' => e = .returned (.bool r) ∧ Below w'.heap.size w' w'' from fun w' hb => by
    have h := small_any v L (hv.below hb)
    rw [hr] at h
    exact h)
  have HRUN := Lib.hid (show r = true → ∀ w', Below w.heap.size w w' → Calls Try.prog 23 #[.int .i64 1000, v] w' (RunPost w' 1000 L) from fun h w' hb => run_any stableOk_forty 1000 v L (hv.below hb) (small_len (hr.trans h)) (by decide))
  have HLEN := Lib.hid (show r = true → L.length ≤ 40 from fun h => small_len (hr.trans h))
  obtain ⟨va, vc, rfl⟩ := hv.form
  obtain ⟨N, hN⟩ : ∃ N, L.length = N := ⟨_, rfl⟩
  rw [hN] at HSM HRUN ⊢
  have HB1 := Lib.hid hb1
  have HN1 := Lib.hid n1
  have HN2 := Lib.hid n2
  have HS1 := Lib.hid hs1
  clear hr hv hb1 n1 n2 hs1
  refine (callsIn_wide (n := 4)).1 ?_
  refine callsIn_of_wp_marks Try.func6 rfl trivial ?_ rfl
  simp only [Try.ntmps6, List.size_toArray, List.length_cons, List.length_nil, Nat.reduceAdd, Nat.reduceSub, Array.replicate_succ, Array.replicate_zero, List.push_toArray, List.append_toArray, List.nil_append, List.cons_append]
  refine wpIn_wide.2 ?_
  go_wp2_with fail
  try rw [hw1]
  clear hw1
  refine (known_any).mono ?_
  rintro e w2 ⟨rfl, hb⟩
  have HB2 := Lib.hid (HB1.out.trans (hb.mono HB1.out.size))
  have HX1 := Lib.hid hb
  clear hb
  go_wp2_with fail
  refine (HSM.out w2 HB2.out).mono ?_
  rintro e w3 ⟨rfl, hb⟩
  have HB3 := Lib.hid (HB2.out.trans (hb.mono HB2.out.size))
  have HX3 := Lib.hid (HX1.out.trans (hb.mono HX1.out.size))
  clear hb HX1
  cases r
  case false =>
    go_wp2_with fail
    refine (known_any).mono ?_
    rintro e w4 ⟨rfl, hb⟩
    have HB4 := Lib.hid (HB3.out.trans (hb.mono HB3.out.size))
    have n4 : w4.heap[w.heap.size + 1]? = _ := ((HX3.out.trans (hb.mono HX3.out.size)).block _ (by have := HS1.out; omega)).trans HN2.out
    have cd := cell_of_row w4 _ 0 _ _ _ n4
    have fd := frozen_of_row w4 _ 0 _ _ n4
    simp only [List.getElem?_toArray, List.getElem?_cons_zero] at cd
    clear n4 hb
    go_wp2_with fail
    have hc := World.cell?_setCell_same' w4 ⟨w.heap.size + 1, 0, none⟩ (.bool true) (by rw [cd]; rfl)
    have hBf : Below w.heap.size w (w4.setCell ⟨w.heap.size + 1, 0, none⟩ (.bool true)) := HB4.out.setCell (Nat.le_succ _) _
    refine ⟨_, ?_, rfl, hBf⟩
    simp only [results, show Try.f6.results = #[.cell 4 4] from rfl]
    go_simp
  case true =>
    go_wp2_with fail
    refine (HRUN.out trivial w3 HB3.out).mono ?_
    rintro e w4 ⟨hb, ⟨h1, h2, b, m, v', rfl, hb1, hm1, hs, hl⟩ | ⟨h, _⟩⟩
    case inr => exact absurd ⟨by decide, by decide⟩ h
    have hro := run_ok L ⟨1000, 0, []⟩ (ok_new h1 h2)
    obtain ⟨S, hS⟩ : ∃ S, runS ⟨1000, 0, []⟩ L = S := ⟨_, rfl⟩
    rw [hS] at hs hl hro
    have hl40 : S.list.length ≤ 40 := by have h1 := hro.2.2.2; have h2 := HLEN.out trivial; simp only [List.length_nil, Nat.zero_add] at h1; omega
    obtain ⟨pa, pc, rfl⟩ := hl.form
    obtain ⟨M, hM⟩ : ∃ M, S.ref.length = M := ⟨_, rfl⟩
    have hMl : S.list.length = M := by rw [← hM, ref_length]
    rw [hM] at hl ⊢
    obtain ⟨w5, hw5⟩ : ∃ w5, ((w4.alloc (.cells #[.pointer (some ⟨b, 0, none⟩)] 24)).alloc (.cells #[.int .i64 1000, .slice pa M pc] 50)).alloc (.cells #[.int .i64 0] 3) = w5 := ⟨_, rfl⟩
    have hs5 : w5.heap.size = w4.heap.size + 3 := by rw [← hw5]; simp only [World.size_alloc]
    have hb5 : Below w4.heap.size w4 w5 := hw5 ▸ (((Below.refl _ _).alloc (Nat.le_refl _) _).alloc (by simp only [World.size_alloc]; omega) _).alloc (by simp only [World.size_alloc]; omega) _
    have m1 : w5.heap[w4.heap.size]? = some (.cells #[.pointer (some ⟨b, 0, none⟩)] 24 (0, 0)) := by rw [← hw5, Below.heap_alloc _ _ _ (by simp only [World.size_alloc]; omega), Below.heap_alloc _ _ _ (by simp only [World.size_alloc]; omega)]; exact heap_alloc_new w4 _
    have m2 : w5.heap[w4.heap.size + 1]? = some (.cells #[.int .i64 1000, .slice pa M pc] 50 (0, 0)) := by
      have := heap_alloc_new (w4.alloc (.cells #[.pointer (some ⟨b, 0, none⟩)] 24)) (.cells #[.int .i64 1000, .slice pa M pc] 50)
      rw [World.size_alloc] at this
      rw [← hw5, Below.heap_alloc _ _ _ (by simp only [World.size_alloc]; omega)]; exact this
    have m3 : w5.heap[w4.heap.size + 2]? = some (.cells #[.int .i64 0] 3 (0, 0)) := by
      have := heap_alloc_new ((w4.alloc (.cells #[.pointer (some ⟨b, 0, none⟩)] 24)).alloc (.cells #[.int .i64 1000, .slice pa M pc] 50)) (.cells #[.int .i64 0] 3)
      simp only [World.size_alloc] at this
      rw [← hw5]; exact this
    have HW5 := Lib.hid hw5
    have HB5 := Lib.hid (HB3.out.trans ((hb.trans (hb5.mono hb.size)).mono HB3.out.size))
    have HX5 := Lib.hid (HX3.out.trans ((hb.trans (hb5.mono hb.size)).mono HX3.out.size))
    have HS := Lib.hid (hs.below hb5)
    have HL := Lib.hid (hl.below hb5)
    have HRO := Lib.hid hro
    have HM1 := Lib.hid m1
    have HM2 := Lib.hid m2
    have HM3 := Lib.hid m3
    have HS5 := Lib.hid hs5
    have HBM := Lib.hid (show b < w4.heap.size ∧ m < w4.heap.size ∧ w3.heap.size ≤ b ∧ w3.heap.size ≤ m from ⟨hs.lt, hs.hm.lt, hb1, hm1⟩)
    have HML := Lib.hid hMl
    have HM40 := Lib.hid (show M ≤ 40 by omega)
    clear hw5 hs5 hb5 m1 m2 m3 hb hs hl hro hS hM hMl hl40 hb1 hm1 h1 h2
    go_wp2_with fail
    rw [HW5.out]
    clear HW5
    refine (All_any (some ⟨b, 0, none⟩)).mono ?_
    rintro e w6 ⟨rfl, hw6⟩
    have hb6 : Below w5.heap.size w5 w6 := hw6 ▸ (Below.refl _ _).alloc (Nat.le_refl _) _
    have c6 : w6.cell? ⟨w5.heap.size, 0, none⟩ = some (.pointer (some ⟨b, 0, none⟩)) := by rw [cell_of_row w6 _ 0 _ _ _ (hw6 ▸ heap_alloc_new w5 _)]; rfl
    have hs6 : w6.heap.size = w5.heap.size + 1 := by rw [hw6, World.size_alloc]
    have HB6 := Lib.hid (HB5.out.trans (hb6.mono HB5.out.size))
    have HX6 := Lib.hid (HX5.out.trans (hb6.mono HX5.out.size))
    have HS6 := Lib.hid (HS.out.below hb6)
    have HL6 := Lib.hid (HL.out.below hb6)
    have HC6 := Lib.hid c6
    have hz : w.heap.size + 2 ≤ w3.heap.size ∧ w3.heap.size ≤ b ∧ w3.heap.size ≤ m ∧ b < w4.heap.size ∧ m < w4.heap.size ∧ w4.heap.size + 3 = w5.heap.size ∧ w6.heap.size = w5.heap.size + 1 := ⟨by have h1 := HS1.out; have h2 := HX3.out.size; omega, HBM.out.2.2.1, HBM.out.2.2.2, HBM.out.1, HBM.out.2.1, HS5.out.symm, hs6⟩
    have HZ := Lib.hid hz
    have HN1' := Lib.hid ((HX6.out.block _ (by have := HS1.out; omega)).trans HN1.out)
    have HN2' := Lib.hid ((HX6.out.block _ (by have := HS1.out; omega)).trans HN2.out)
    have HM1' := Lib.hid ((hb6.block _ (by omega)).trans HM1.out)
    have HM2' := Lib.hid ((hb6.block _ (by omega)).trans HM2.out)
    have HM3' := Lib.hid ((hb6.block _ (by omega)).trans HM3.out)
    obtain ⟨A8, hA8⟩ : ∃ A8, w4.heap.size + 1 + 1 = A8 := ⟨_, rfl⟩
    obtain ⟨A6, hA6⟩ : ∃ A6, w4.heap.size + 1 = A6 := ⟨_, rfl⟩
    obtain ⟨A5, hA5⟩ : ∃ A5, w4.heap.size = A5 := ⟨_, rfl⟩
    obtain ⟨A4, hA4⟩ : ∃ A4, w.heap.size + 1 = A4 := ⟨_, rfl⟩
    obtain ⟨A3, hA3⟩ : ∃ A3, w.heap.size = A3 := ⟨_, rfl⟩
    have HZ := Lib.hid (show A3 = w.heap.size ∧ A3 < A4 ∧ A4 < b ∧ A4 < m ∧ b < A5 ∧ m < A5 ∧ A5 < A6 ∧ A6 < A8 ∧ A8 < w5.heap.size ∧ w6.heap.size = w5.heap.size + 1 by omega)
    have HN1' : Hid (w6.heap[A3]? = some (.cells #[.int .i64 stop] 3 (0, 0))) := Lib.hid (by rw [← hA3]; exact HN1'.out)
    have HN2' : Hid (w6.heap[A4]? = some (.cells #[.bool false] 4 (0, 0))) := Lib.hid (by rw [← hA4]; exact HN2'.out)
    have HM1' : Hid (w6.heap[A5]? = some (.cells #[.pointer (some ⟨b, 0, none⟩)] 24 (0, 0))) := Lib.hid (by rw [← hA5]; exact HM1'.out)
    have HM2' : Hid (w6.heap[A6]? = some (.cells #[.int .i64 1000, .slice pa M pc] 50 (0, 0))) := Lib.hid (by rw [← hA6]; exact HM2'.out)
    have HM3' : Hid (w6.heap[A8]? = some (.cells #[.int .i64 0] 3 (0, 0))) := Lib.hid (by rw [← hA8]; exact HM3'.out)
    rw [hA8, hA6, hA5, hA4, hA3]
    clear hA8 hA6 hA5 hA4 hA3
    clear hw6 hb6 c6 hs6 hz HB1 HN1 HN2 HS1 HB2 HX3 HB3 HX5 HB5 HS HL HM1 HM2 HM3 HS5 HBM
    go_wp2_with fail
    refine (wpIn_wide (n := 4)).1 ?_
    refine wpIn_range_boxed (fun x => (entC x).toArray) (T := 44) (q := 9) (p0 := 28) rfl rfl rfl rfl rfl rfl rfl (by decide) (by show 28 < 98; decide) (by show 9 < 98; decide) (entC zA).toArray 34 (by kernel_rfl) (by rw [List.size_toArray, entC_length]) (fun x => by rw [List.size_toArray, entC_length]) (fun x => all_oneCell_toArray (entC_one x))
      (gf := 36) (lb := #[.pointer (some ⟨w5.heap.size, 0, none⟩)]) rfl (enters_of Try.func36 (by kernel_rfl) rfl)
      (all_stops w5.heap.size w6.heap.size _ S.list (by have h1 := HML.out; have h2 := HM40.out; omega) w6 (by have := HZ.out; omega) (Nat.le_refl _) HC6.out (fun W hW => entries_any (HS6.out.below hW) HRO.out.1 (by have h1 := HML.out; have h2 := HM40.out; omega))) (Below.refl _ _)
      (OrI w6 b m A8 S) (OrX w6 b m A8 S stop) (orI_from (by have := HZ.out; omega)) (fun c => orX_from (by have := HZ.out; omega) stop c) ⟨Nat.zero_le _, HS6.out, HM3'.out, Chg.refl _ _⟩ (fun pre W h => h.2.2.2.size) ?body ?done ?stop
    case body =>
      rintro l pre x r W hl hlr ⟨hp, hsp, hn, hC⟩ hrB hx hlt
      obtain ⟨k, hk⟩ : ∃ k, pre.length = k := ⟨_, rfl⟩
      have hgy : S.ref[k]'(by rw [ref_length]; omega) = toR (S.list[k]'(by omega)) := List.getElem_map toR
      obtain ⟨g, off, rfl, hg, hry⟩ := (HL6.out.kept3 HS6.out HM3'.out hC).get (i := k) (by rw [ref_length]; omega)
      obtain ⟨y, hy⟩ : ∃ y, S.list[k]'(by omega) = y := ⟨_, rfl⟩
      rw [hgy, hy] at hry
      have hry : W.rangeAt g (off + k * 34) (toR y).cells := hry
      have hrem := fun w' (hw' : Below W.heap.size W w') => Remove_any (hsp.below hw') (drop_ok HRO.out.1 _ hp) y.id
      rw [hk] at hrem hn
      rw [show (S.dropN k).find y.id = some y by rw [← hy]; exact drop_find (by omega), show (S.dropN k).del y.id = S.dropN (k + 1) by rw [← hy]; exact drop_del (by omega)] at hrem
      have hrem : ∀ w', Below W.heap.size W w' → Calls Try.prog 17 #[.pointer (some ⟨b, 0, none⟩), .agg (bvs y.id.1).toArray] w' (PutPost w' b m (S.dropN k) 0 (S.dropN (k + 1))) := hrem
      have hno : x ≠ y → ¬ (pre ++ [x]) <+: S.list := fun hne h => by
        obtain ⟨t, ht⟩ := h
        have h2 : S.list[k]? = some x := by rw [← ht, ← hk]; simp
        rw [List.getElem?_eq_getElem (by omega), hy] at h2
        exact hne (Option.some.inj h2).symm
      have HF := Lib.hid (show ∀ w', Below W.heap.size W w' → w'.cell? ⟨A8, 0, none⟩ = some (.int .i64 (k : Int)) ∧ w'.cell? ⟨A6, 1, none⟩ = some (.slice (some ⟨g, off, none⟩) M pc) ∧ w'.rangeAt r 0 (bvs x.id.1) ∧ w'.rangeAt g (off + k * 34) (bvs y.id.1) ∧ w'.cell? ⟨r, 32, none⟩ = some (.int .i64 x.arr) ∧ w'.cell? ⟨r, 33, none⟩ = some (.int .i64 (x.text.size : Int)) ∧ w'.cell? ⟨g, off + k * 34 + 33, none⟩ = some (.int .i64 y.arr) ∧ w'.cell? ⟨g, off + k * 34 + 32, none⟩ = some (.string y.text) from fun w' hw' => by
        have h0 := (hw'.block _ (Array.getElem?_eq_some_iff.1 hn).1).trans hn
        have h1 := (hw'.block _ (by have := hC.size; have := HZ.out; omega)).trans ((hC.block A6 (by have := HZ.out; omega) (by have := HZ.out; omega)).trans HM2'.out)
        have h2 := (hw'.block _ (Array.getElem?_eq_some_iff.1 hx).1).trans hx
        have hq : w'.rangeAt g (off + k * 34) (toR y).cells := fun j u hj => (hw'.cell (p := ⟨g, off + k * 34 + j, none⟩) hg).trans (hry j u hj)
        refine ⟨by rw [cell_of_row _ _ _ _ _ _ h0]; rfl, by rw [cell_of_row _ _ _ _ _ _ h1]; rfl, range_idE h2, fun j u hj => hq j u (by
          unfold toR RefA.cells
          rw [List.getElem?_append_left (List.getElem?_eq_some_iff.1 hj).1]
          exact hj), by rw [cell_of_row _ _ _ _ _ _ h2]; exact (entC_parts x).1, by rw [cell_of_row _ _ _ _ _ _ h2]; exact (entC_parts x).2, hq 33 _ (by have h := (toR y).parts.2; rwa [List.getElem?_toArray] at h), hq 32 _ (by have h := (toR y).parts.1; rwa [List.getElem?_toArray] at h)⟩)
      have hz4 := (hC.block A4 (by have := HZ.out; omega) (by have := HZ.out; omega)).trans HN2'.out
      have hz3 := (hC.block A3 (by have := HZ.out; omega) (by have := HZ.out; omega)).trans HN1'.out
      have hz5 := (hC.block A5 (by have := HZ.out; omega) (by have := HZ.out; omega)).trans HM1'.out
      have HREM := Lib.hid hrem
      have HNO := Lib.hid hno
      have HN := Lib.hid hn
      have HC := Lib.hid hC
      have HSZ := Lib.hid hC.size
      have HX := Lib.hid hx
      have HZ4 := Lib.hid hz4
      have HZ3 := Lib.hid hz3
      have HZ5 := Lib.hid hz5
      have HP := Lib.hid (show k < M ∧ M ≤ 40 ∧ pre.length = k from ⟨by have := HML.out; omega, HM40.out, hk⟩)
      clear hrem hno hn hC hx hz4 hz3 hz5 hry hg hsp hgy hp hlt hk hy
      have hkM : ¬ (M : Int) ≤ (k : Int) := by have := HP.out; omega
      have hkM2 : (k : Int) < (M : Int) := by have := HP.out; omega
      have hk0 : (0 : Int) ≤ (k : Int) := by omega
      gi_wp2_with fail
      by_cases hid : x.id = y.id
      case neg =>
        have HXY := Lib.hid (HNO.out (fun e => hid (by rw [e])))
        have HID := Lib.hid hid
        clear hid
        refine wpIn_region_liftHN wideR (by kernel_rfl) (fun _ _ h => h) (Below W.heap.size W) (by kernel_rfl) ?_
        have hS0 : (Below W.heap.size W) W.drew := (Below.refl _ _).drew
        obtain ⟨wd, hwd⟩ : ∃ wd, W.drew = wd := ⟨_, rfl⟩
        rw [hwd] at hS0 ⊢
        clear hwd
        refine wpAnyH_takeI (i := 0) (v := ?v1) rfl (by kernel_rfl) (by kernel_rfl) (by kernel_rfl) (fun _ _ _ h => h) (yieldsIf_run rfl (fun w' hw' => ?y1)) hS0 ?_
        case y1 => (obtain ⟨h0, h1, h2, h3, h4, h5, h6, h7⟩ := HF.out w' hw'; clear hw'; first | (go_simp; rfl) | (go_simp; done))
        simp only [Act.put, List.setIfInBounds_toArray, List.set_cons_zero, List.set_cons_succ]
        refine wpAnyH_takeI (i := 1) (v := ?v2) rfl (by kernel_rfl) (by kernel_rfl) (by kernel_rfl) (fun _ _ _ h => h) (yieldsIf_run rfl (fun w' hw' => ?y2)) hS0 ?_
        case y2 => first | (go_simp; rfl) | (go_simp; done) | rfl
        simp only [Act.put, List.setIfInBounds_toArray, List.set_cons_zero, List.set_cons_succ]
        refine wpAnyH_takeI (i := 2) (v := ?v3) rfl (by kernel_rfl) (by kernel_rfl) (by kernel_rfl) (fun _ _ _ h => h) (yieldsIf_run rfl (fun w' hw' => ?y3)) hS0 ?_
        case y3 => (obtain ⟨h0, h1, h2, h3, h4, h5, h6, h7⟩ := HF.out w' hw'; clear hw'; first | (go_simp; rfl) | (go_simp; done))
        simp only [Act.put, List.setIfInBounds_toArray, List.set_cons_zero, List.set_cons_succ]
        refine wpAnyH_takeI (i := 3) (v := ?v4) rfl (by kernel_rfl) (by kernel_rfl) (by kernel_rfl) (fun _ _ _ h => h) (yieldsIf_run rfl (fun w' hw' => ?y4)) hS0 ?_
        case y4 => first | (go_simp; rfl) | (go_simp; done) | rfl
        simp only [Act.put, List.setIfInBounds_toArray, List.set_cons_zero, List.set_cons_succ]
        refine wpAnyH_takeI (i := 4) (v := .bool false) rfl (by kernel_rfl) (by kernel_rfl) (by kernel_rfl) (fun _ _ _ h => h) (yieldsIf_run rfl (fun w' hw' => ?y5)) hS0 ?_
        case y5 => (have h99 := HP.out.1; clear hw'; first | (go_simp; rfl) | (go_simp; done))
        simp only [Act.put, List.setIfInBounds_toArray, List.set_cons_zero, List.set_cons_succ]
        refine wpAnyH_takeI (i := 5) (v := .bool false) rfl (by kernel_rfl) (by kernel_rfl) (by kernel_rfl) (fun _ _ _ h => h) (yieldsIf_run rfl (fun w' hw' => ?y6)) hS0 ?_
        case y6 => first | (go_simp; rfl) | (go_simp; done) | rfl
        simp only [Act.put, List.setIfInBounds_toArray, List.set_cons_zero, List.set_cons_succ]
        refine wpAnyH_takeI (i := 6) (v := ?v7) rfl (by kernel_rfl) (by kernel_rfl) (by kernel_rfl) (fun _ _ _ h => h) (yieldsIf_want rfl (fun w' hw' => ?y7)) hS0 ?_
        case y7 => first | (go_simp; rfl) | (go_simp; done) | rfl
        simp only [Act.put, List.setIfInBounds_toArray, List.set_cons_zero, List.set_cons_succ]
        refine wpAnyH_takeI (i := 7) (v := .agg (bvs x.id.1).toArray) rfl (by kernel_rfl) (by kernel_rfl) (by kernel_rfl) (fun _ _ _ h => h) (yieldsIf_load_mid rfl 30 (.tmp 35) rfl r (0) rfl (bvs x.id.1) _ (fun w' hw' => (HF.out w' hw').2.2.1) Try.underlying30 rfl (sizeId x.id)) hS0 ?_
        simp only [Act.put, List.setIfInBounds_toArray, List.set_cons_zero, List.set_cons_succ]
        refine wpAnyH_takeI (i := 8) (v := ?v8) rfl (by kernel_rfl) (by kernel_rfl) (by kernel_rfl) (fun _ _ _ h => h) (yieldsIf_want rfl (fun w' hw' => ?y8)) hS0 ?_
        case y8 => first | (go_simp; rfl) | (go_simp; done) | rfl
        simp only [Act.put, List.setIfInBounds_toArray, List.set_cons_zero, List.set_cons_succ]
        refine wpAnyH_takeI (i := 9) (v := ?v9) rfl (by kernel_rfl) (by kernel_rfl) (by kernel_rfl) (fun _ _ _ h => h) (yieldsIf_want rfl (fun w' hw' => ?y9)) hS0 ?_
        case y9 => (obtain ⟨h0, h1, h2, h3, h4, h5, h6, h7⟩ := HF.out w' hw'; clear hw'; first | (go_simp; rfl) | (go_simp; done))
        simp only [Act.put, List.setIfInBounds_toArray, List.set_cons_zero, List.set_cons_succ]
        refine wpAnyH_takeI (i := 10) (v := ?v10) rfl (by kernel_rfl) (by kernel_rfl) (by kernel_rfl) (fun _ _ _ h => h) (yieldsIf_want rfl (fun w' hw' => ?y10)) hS0 ?_
        case y10 => (obtain ⟨h0, h1, h2, h3, h4, h5, h6, h7⟩ := HF.out w' hw'; clear hw'; first | (go_simp; rfl) | (go_simp; done))
        simp only [Act.put, List.setIfInBounds_toArray, List.set_cons_zero, List.set_cons_succ]
        refine wpAnyH_takeI (i := 11) (v := ?v11) rfl (by kernel_rfl) (by kernel_rfl) (by kernel_rfl) (fun _ _ _ h => h) (yieldsIf_want rfl (fun w' hw' => ?y11)) hS0 ?_
        case y11 => first | (go_simp; rfl) | (go_simp; done) | rfl
        simp only [Act.put, List.setIfInBounds_toArray, List.set_cons_zero, List.set_cons_succ]
        refine wpAnyH_takeI (i := 12) (v := ?v12) rfl (by kernel_rfl) (by kernel_rfl) (by kernel_rfl) (fun _ _ _ h => h) (yieldsIf_want rfl (fun w' hw' => ?y12)) hS0 ?_
        case y12 => first | (go_simp; rfl) | (go_simp; done) | rfl
        simp only [Act.put, List.setIfInBounds_toArray, List.set_cons_zero, List.set_cons_succ]
        refine wpAnyH_takeI (i := 13) (v := .agg (bvs y.id.1).toArray) rfl (by kernel_rfl) (by kernel_rfl) (by kernel_rfl) (fun _ _ _ h => h) (yieldsIf_load_mid rfl 29 (.tmp 41) rfl g (off + k * 34) rfl (bvs y.id.1) _ (fun w' hw' => (HF.out w' hw').2.2.2.1) Try.underlying29 rfl (sizeArr y.id)) hS0 ?_
        simp only [Act.put, List.setIfInBounds_toArray, List.set_cons_zero, List.set_cons_succ]
        refine wpAnyH_takeI (i := 14) (v := .bool true) rfl (by kernel_rfl) (by kernel_rfl) (by kernel_rfl) (fun _ _ _ h => h) (yieldsIf_want rfl (fun w' hw' => op_neq 30 (.tmp 36) (.tmp 42) 30 rfl rfl rfl guard_Id ((neq_Id x.id y.id _).trans (by rw [decide_eq_false HID.out]; rfl)))) hS0 ?_
        simp only [Act.put, List.setIfInBounds_toArray, List.set_cons_zero, List.set_cons_succ]
        refine wpAnyH_takeI (i := 15) (v := ?v13) rfl (by kernel_rfl) (by kernel_rfl) (by kernel_rfl) (fun _ _ _ h => h) (yieldsIf_run rfl (fun w' hw' => ?y13)) hS0 ?_
        case y13 => first | (go_simp; rfl) | (go_simp; done) | rfl
        simp only [Act.put, List.setIfInBounds_toArray, List.set_cons_zero, List.set_cons_succ]
        refine wpAnyH_takeI (i := 16) (v := ?v14) rfl (by kernel_rfl) (by kernel_rfl) (by kernel_rfl) (fun _ _ _ h => h) (yieldsIf_run rfl (fun w' hw' => ?y14)) hS0 ?_
        case y14 => first | (go_simp; rfl) | (go_simp; done) | rfl
        simp only [Act.put, List.setIfInBounds_toArray, List.set_cons_zero, List.set_cons_succ]
        refine wpAnyH_takeI (i := 17) (v := undef) rfl (by kernel_rfl) (by kernel_rfl) (by kernel_rfl) (fun _ _ _ h => h) (yieldsIf_skip rfl) hS0 ?_
        simp only [Act.put, List.setIfInBounds_toArray, List.set_cons_zero, List.set_cons_succ]
        refine wpAnyH_takeI (i := 18) (v := undef) rfl (by kernel_rfl) (by kernel_rfl) (by kernel_rfl) (fun _ _ _ h => h) (yieldsIf_skip rfl) hS0 ?_
        simp only [Act.put, List.setIfInBounds_toArray, List.set_cons_zero, List.set_cons_succ]
        refine wpAnyH_takeI (i := 19) (v := undef) rfl (by kernel_rfl) (by kernel_rfl) (by kernel_rfl) (fun _ _ _ h => h) (yieldsIf_skip rfl) hS0 ?_
        simp only [Act.put, List.setIfInBounds_toArray, List.set_cons_zero, List.set_cons_succ]
        refine wpAnyH_takeI (i := 20) (v := undef) rfl (by kernel_rfl) (by kernel_rfl) (by kernel_rfl) (fun _ _ _ h => h) (yieldsIf_skip rfl) hS0 ?_
        simp only [Act.put, List.setIfInBounds_toArray, List.set_cons_zero, List.set_cons_succ]
        refine wpAnyH_takeI (i := 21) (v := undef) rfl (by kernel_rfl) (by kernel_rfl) (by kernel_rfl) (fun _ _ _ h => h) (yieldsIf_skip rfl) hS0 ?_
        simp only [Act.put, List.setIfInBounds_toArray, List.set_cons_zero, List.set_cons_succ]
        refine wpAnyH_takeI (i := 22) (v := undef) rfl (by kernel_rfl) (by kernel_rfl) (by kernel_rfl) (fun _ _ _ h => h) (yieldsIf_skip rfl) hS0 ?_
        simp only [Act.put, List.setIfInBounds_toArray, List.set_cons_zero, List.set_cons_succ]
        refine wpAnyH_takeI (i := 23) (v := undef) rfl (by kernel_rfl) (by kernel_rfl) (by kernel_rfl) (fun _ _ _ h => h) (yieldsIf_skip rfl) hS0 ?_
        simp only [Act.put, List.setIfInBounds_toArray, List.set_cons_zero, List.set_cons_succ]
        refine wpAnyH_takeI (i := 24) (v := undef) rfl (by kernel_rfl) (by kernel_rfl) (by kernel_rfl) (fun _ _ _ h => h) (yieldsIf_skip rfl) hS0 ?_
        simp only [Act.put, List.setIfInBounds_toArray, List.set_cons_zero, List.set_cons_succ]
        refine wpAnyH_takeI (i := 25) (v := undef) rfl (by kernel_rfl) (by kernel_rfl) (by kernel_rfl) (fun _ _ _ h => h) (yieldsIf_skip rfl) hS0 ?_
        simp only [Act.put, List.setIfInBounds_toArray, List.set_cons_zero, List.set_cons_succ]
        refine wpAnyH_takeI (i := 26) (v := ?v15) rfl (by kernel_rfl) (by kernel_rfl) (by kernel_rfl) (fun _ _ _ h => h) (yieldsIf_run rfl (fun w' hw' => ?y15)) hS0 ?_
        case y15 => first | (go_simp; rfl) | (go_simp; done) | rfl
        simp only [Act.put, List.setIfInBounds_toArray, List.set_cons_zero, List.set_cons_succ]
        refine wpAnyH_takeI (i := 27) (v := ?v16) rfl (by kernel_rfl) (by kernel_rfl) (by kernel_rfl) (fun _ _ _ h => h) (yieldsIf_run rfl (fun w' hw' => ?y16)) hS0 ?_
        case y16 => first | (go_simp; rfl) | (go_simp; done) | rfl
        simp only [Act.put, List.setIfInBounds_toArray, List.set_cons_zero, List.set_cons_succ]
        refine wpAnyH_takeI (i := 28) (v := undef) rfl (by kernel_rfl) (by kernel_rfl) (by kernel_rfl) (fun _ _ _ h => h) (yieldsIf_skip rfl) hS0 ?_
        simp only [Act.put, List.setIfInBounds_toArray, List.set_cons_zero, List.set_cons_succ]
        refine wpAnyH_takeI (i := 29) (v := undef) rfl (by kernel_rfl) (by kernel_rfl) (by kernel_rfl) (fun _ _ _ h => h) (yieldsIf_skip rfl) hS0 ?_
        simp only [Act.put, List.setIfInBounds_toArray, List.set_cons_zero, List.set_cons_succ]
        refine wpAnyH_takeI (i := 30) (v := undef) rfl (by kernel_rfl) (by kernel_rfl) (by kernel_rfl) (fun _ _ _ h => h) (yieldsIf_skip rfl) hS0 ?_
        simp only [Act.put, List.setIfInBounds_toArray, List.set_cons_zero, List.set_cons_succ]
        refine wpAnyH_takeI (i := 31) (v := undef) rfl (by kernel_rfl) (by kernel_rfl) (by kernel_rfl) (fun _ _ _ h => h) (yieldsIf_skip rfl) hS0 ?_
        simp only [Act.put, List.setIfInBounds_toArray, List.set_cons_zero, List.set_cons_succ]
        refine wpAnyH_takeI (i := 32) (v := undef) rfl (by kernel_rfl) (by kernel_rfl) (by kernel_rfl) (fun _ _ _ h => h) (yieldsIf_skip rfl) hS0 ?_
        simp only [Act.put, List.setIfInBounds_toArray, List.set_cons_zero, List.set_cons_succ]
        refine wpAnyH_takeI (i := 33) (v := undef) rfl (by kernel_rfl) (by kernel_rfl) (by kernel_rfl) (fun _ _ _ h => h) (yieldsIf_skip rfl) hS0 ?_
        simp only [Act.put, List.setIfInBounds_toArray, List.set_cons_zero, List.set_cons_succ]
        refine wpAnyH_takeI (i := 34) (v := undef) rfl (by kernel_rfl) (by kernel_rfl) (by kernel_rfl) (fun _ _ _ h => h) (yieldsIf_skip rfl) hS0 ?_
        simp only [Act.put, List.setIfInBounds_toArray, List.set_cons_zero, List.set_cons_succ]
        refine wpAnyH_takeI (i := 35) (v := undef) rfl (by kernel_rfl) (by kernel_rfl) (by kernel_rfl) (fun _ _ _ h => h) (yieldsIf_skip rfl) hS0 ?_
        simp only [Act.put, List.setIfInBounds_toArray, List.set_cons_zero, List.set_cons_succ]
        refine wpAnyH_takeI (i := 36) (v := undef) rfl (by kernel_rfl) (by kernel_rfl) (by kernel_rfl) (fun _ _ _ h => h) (yieldsIf_skip rfl) hS0 ?_
        simp only [Act.put, List.setIfInBounds_toArray, List.set_cons_zero, List.set_cons_succ]
        refine wpAnyH_takeI (i := 37) (v := undef) rfl (by kernel_rfl) (by kernel_rfl) (by kernel_rfl) (fun _ _ _ h => h) (yieldsIf_skip rfl) hS0 ?_
        simp only [Act.put, List.setIfInBounds_toArray, List.set_cons_zero, List.set_cons_succ]
        refine wpAnyH_takeI (i := 38) (v := ?v17) rfl (by kernel_rfl) (by kernel_rfl) (by kernel_rfl) (fun _ _ _ h => h) (yieldsIf_run rfl (fun w' hw' => ?y17)) hS0 ?_
        case y17 => first | (go_simp; rfl) | (go_simp; done) | rfl
        simp only [Act.put, List.setIfInBounds_toArray, List.set_cons_zero, List.set_cons_succ]
        refine wpAnyH_done (by kernel_rfl) ?_ _
        refine NoPanic.normal ?_
        have hz4 := (hS0.block A4 (by have := HSZ.out; have := HZ.out; omega)).trans HZ4.out
        have cd := cell_of_row wd _ 0 _ _ _ hz4
        have fd := frozen_of_row wd _ 0 _ _ hz4
        simp only [List.getElem?_toArray, List.getElem?_cons_zero] at cd
        have HBD := Lib.hid hS0
        clear hS0 hz4
        gi_wp2
        exact ⟨(KeepsFrom.of_below HBD.out).trans (KeepsFrom.of_grownBy (grownBy_setCell wd A4 0 _) (fun j e => by cases e; have := HZ.out; omega)), .inl ⟨rfl, HXY.out⟩⟩
      have HID := Lib.hid hid
      clear hid
      by_cases har : x.arr = y.arr
      case neg =>
        have HXY := Lib.hid (HNO.out (fun e => har (by rw [e])))
        have hnb : (x.arr != y.arr) = true := by simpa using har
        have HNB := Lib.hid hnb
        clear har hnb
        refine wpIn_region_liftHN wideR (by kernel_rfl) (fun _ _ h => h) (Below W.heap.size W) (by kernel_rfl) ?_
        have hS0 : (Below W.heap.size W) W.drew := (Below.refl _ _).drew
        obtain ⟨wd, hwd⟩ : ∃ wd, W.drew = wd := ⟨_, rfl⟩
        rw [hwd] at hS0 ⊢
        clear hwd
        refine wpAnyH_takeI (i := 0) (v := ?v18) rfl (by kernel_rfl) (by kernel_rfl) (by kernel_rfl) (fun _ _ _ h => h) (yieldsIf_run rfl (fun w' hw' => ?y18)) hS0 ?_
        case y18 => (obtain ⟨h0, h1, h2, h3, h4, h5, h6, h7⟩ := HF.out w' hw'; clear hw'; first | (go_simp; rfl) | (go_simp; done))
        simp only [Act.put, List.setIfInBounds_toArray, List.set_cons_zero, List.set_cons_succ]
        refine wpAnyH_takeI (i := 1) (v := ?v19) rfl (by kernel_rfl) (by kernel_rfl) (by kernel_rfl) (fun _ _ _ h => h) (yieldsIf_run rfl (fun w' hw' => ?y19)) hS0 ?_
        case y19 => first | (go_simp; rfl) | (go_simp; done) | rfl
        simp only [Act.put, List.setIfInBounds_toArray, List.set_cons_zero, List.set_cons_succ]
        refine wpAnyH_takeI (i := 2) (v := ?v20) rfl (by kernel_rfl) (by kernel_rfl) (by kernel_rfl) (fun _ _ _ h => h) (yieldsIf_run rfl (fun w' hw' => ?y20)) hS0 ?_
        case y20 => (obtain ⟨h0, h1, h2, h3, h4, h5, h6, h7⟩ := HF.out w' hw'; clear hw'; first | (go_simp; rfl) | (go_simp; done))
        simp only [Act.put, List.setIfInBounds_toArray, List.set_cons_zero, List.set_cons_succ]
        refine wpAnyH_takeI (i := 3) (v := ?v21) rfl (by kernel_rfl) (by kernel_rfl) (by kernel_rfl) (fun _ _ _ h => h) (yieldsIf_run rfl (fun w' hw' => ?y21)) hS0 ?_
        case y21 => first | (go_simp; rfl) | (go_simp; done) | rfl
        simp only [Act.put, List.setIfInBounds_toArray, List.set_cons_zero, List.set_cons_succ]
        refine wpAnyH_takeI (i := 4) (v := .bool false) rfl (by kernel_rfl) (by kernel_rfl) (by kernel_rfl) (fun _ _ _ h => h) (yieldsIf_run rfl (fun w' hw' => ?y22)) hS0 ?_
        case y22 => (have h99 := HP.out.1; clear hw'; first | (go_simp; rfl) | (go_simp; done))
        simp only [Act.put, List.setIfInBounds_toArray, List.set_cons_zero, List.set_cons_succ]
        refine wpAnyH_takeI (i := 5) (v := .bool false) rfl (by kernel_rfl) (by kernel_rfl) (by kernel_rfl) (fun _ _ _ h => h) (yieldsIf_run rfl (fun w' hw' => ?y23)) hS0 ?_
        case y23 => first | (go_simp; rfl) | (go_simp; done) | rfl
        simp only [Act.put, List.setIfInBounds_toArray, List.set_cons_zero, List.set_cons_succ]
        refine wpAnyH_takeI (i := 6) (v := ?v24) rfl (by kernel_rfl) (by kernel_rfl) (by kernel_rfl) (fun _ _ _ h => h) (yieldsIf_want rfl (fun w' hw' => ?y24)) hS0 ?_
        case y24 => first | (go_simp; rfl) | (go_simp; done) | rfl
        simp only [Act.put, List.setIfInBounds_toArray, List.set_cons_zero, List.set_cons_succ]
        refine wpAnyH_takeI (i := 7) (v := .agg (bvs x.id.1).toArray) rfl (by kernel_rfl) (by kernel_rfl) (by kernel_rfl) (fun _ _ _ h => h) (yieldsIf_load_mid rfl 30 (.tmp 35) rfl r (0) rfl (bvs x.id.1) _ (fun w' hw' => (HF.out w' hw').2.2.1) Try.underlying30 rfl (sizeId x.id)) hS0 ?_
        simp only [Act.put, List.setIfInBounds_toArray, List.set_cons_zero, List.set_cons_succ]
        refine wpAnyH_takeI (i := 8) (v := ?v25) rfl (by kernel_rfl) (by kernel_rfl) (by kernel_rfl) (fun _ _ _ h => h) (yieldsIf_want rfl (fun w' hw' => ?y25)) hS0 ?_
        case y25 => first | (go_simp; rfl) | (go_simp; done) | rfl
        simp only [Act.put, List.setIfInBounds_toArray, List.set_cons_zero, List.set_cons_succ]
        refine wpAnyH_takeI (i := 9) (v := ?v26) rfl (by kernel_rfl) (by kernel_rfl) (by kernel_rfl) (fun _ _ _ h => h) (yieldsIf_want rfl (fun w' hw' => ?y26)) hS0 ?_
        case y26 => (obtain ⟨h0, h1, h2, h3, h4, h5, h6, h7⟩ := HF.out w' hw'; clear hw'; first | (go_simp; rfl) | (go_simp; done))
        simp only [Act.put, List.setIfInBounds_toArray, List.set_cons_zero, List.set_cons_succ]
        refine wpAnyH_takeI (i := 10) (v := ?v27) rfl (by kernel_rfl) (by kernel_rfl) (by kernel_rfl) (fun _ _ _ h => h) (yieldsIf_want rfl (fun w' hw' => ?y27)) hS0 ?_
        case y27 => (obtain ⟨h0, h1, h2, h3, h4, h5, h6, h7⟩ := HF.out w' hw'; clear hw'; first | (go_simp; rfl) | (go_simp; done))
        simp only [Act.put, List.setIfInBounds_toArray, List.set_cons_zero, List.set_cons_succ]
        refine wpAnyH_takeI (i := 11) (v := ?v28) rfl (by kernel_rfl) (by kernel_rfl) (by kernel_rfl) (fun _ _ _ h => h) (yieldsIf_want rfl (fun w' hw' => ?y28)) hS0 ?_
        case y28 => first | (go_simp; rfl) | (go_simp; done) | rfl
        simp only [Act.put, List.setIfInBounds_toArray, List.set_cons_zero, List.set_cons_succ]
        refine wpAnyH_takeI (i := 12) (v := ?v29) rfl (by kernel_rfl) (by kernel_rfl) (by kernel_rfl) (fun _ _ _ h => h) (yieldsIf_want rfl (fun w' hw' => ?y29)) hS0 ?_
        case y29 => first | (go_simp; rfl) | (go_simp; done) | rfl
        simp only [Act.put, List.setIfInBounds_toArray, List.set_cons_zero, List.set_cons_succ]
        refine wpAnyH_takeI (i := 13) (v := .agg (bvs y.id.1).toArray) rfl (by kernel_rfl) (by kernel_rfl) (by kernel_rfl) (fun _ _ _ h => h) (yieldsIf_load_mid rfl 29 (.tmp 41) rfl g (off + k * 34) rfl (bvs y.id.1) _ (fun w' hw' => (HF.out w' hw').2.2.2.1) Try.underlying29 rfl (sizeArr y.id)) hS0 ?_
        simp only [Act.put, List.setIfInBounds_toArray, List.set_cons_zero, List.set_cons_succ]
        refine wpAnyH_takeI (i := 14) (v := .bool false) rfl (by kernel_rfl) (by kernel_rfl) (by kernel_rfl) (fun _ _ _ h => h) (yieldsIf_want rfl (fun w' hw' => op_neq 30 (.tmp 36) (.tmp 42) 30 rfl rfl rfl guard_Id ((neq_Id x.id y.id _).trans (by rw [decide_eq_true HID.out]; rfl)))) hS0 ?_
        simp only [Act.put, List.setIfInBounds_toArray, List.set_cons_zero, List.set_cons_succ]
        refine wpAnyH_takeI (i := 15) (v := ?v30) rfl (by kernel_rfl) (by kernel_rfl) (by kernel_rfl) (fun _ _ _ h => h) (yieldsIf_run rfl (fun w' hw' => ?y30)) hS0 ?_
        case y30 => first | (go_simp; rfl) | (go_simp; done) | rfl
        simp only [Act.put, List.setIfInBounds_toArray, List.set_cons_zero, List.set_cons_succ]
        refine wpAnyH_takeI (i := 16) (v := ?v31) rfl (by kernel_rfl) (by kernel_rfl) (by kernel_rfl) (fun _ _ _ h => h) (yieldsIf_run rfl (fun w' hw' => ?y31)) hS0 ?_
        case y31 => first | (go_simp; rfl) | (go_simp; done) | rfl
        simp only [Act.put, List.setIfInBounds_toArray, List.set_cons_zero, List.set_cons_succ]
        refine wpAnyH_takeI (i := 17) (v := ?v32) rfl (by kernel_rfl) (by kernel_rfl) (by kernel_rfl) (fun _ _ _ h => h) (yieldsIf_want rfl (fun w' hw' => ?y32)) hS0 ?_
        case y32 => first | (go_simp; rfl) | (go_simp; done) | rfl
        simp only [Act.put, List.setIfInBounds_toArray, List.set_cons_zero, List.set_cons_succ]
        refine wpAnyH_takeI (i := 18) (v := ?v33) rfl (by kernel_rfl) (by kernel_rfl) (by kernel_rfl) (fun _ _ _ h => h) (yieldsIf_want rfl (fun w' hw' => ?y33)) hS0 ?_
        case y33 => (obtain ⟨h0, h1, h2, h3, h4, h5, h6, h7⟩ := HF.out w' hw'; clear hw'; first | (go_simp; rfl) | (go_simp; done))
        simp only [Act.put, List.setIfInBounds_toArray, List.set_cons_zero, List.set_cons_succ]
        refine wpAnyH_takeI (i := 19) (v := ?v34) rfl (by kernel_rfl) (by kernel_rfl) (by kernel_rfl) (fun _ _ _ h => h) (yieldsIf_want rfl (fun w' hw' => ?y34)) hS0 ?_
        case y34 => first | (go_simp; rfl) | (go_simp; done) | rfl
        simp only [Act.put, List.setIfInBounds_toArray, List.set_cons_zero, List.set_cons_succ]
        refine wpAnyH_takeI (i := 20) (v := ?v35) rfl (by kernel_rfl) (by kernel_rfl) (by kernel_rfl) (fun _ _ _ h => h) (yieldsIf_want rfl (fun w' hw' => ?y35)) hS0 ?_
        case y35 => (obtain ⟨h0, h1, h2, h3, h4, h5, h6, h7⟩ := HF.out w' hw'; clear hw'; first | (go_simp; rfl) | (go_simp; done))
        simp only [Act.put, List.setIfInBounds_toArray, List.set_cons_zero, List.set_cons_succ]
        refine wpAnyH_takeI (i := 21) (v := ?v36) rfl (by kernel_rfl) (by kernel_rfl) (by kernel_rfl) (fun _ _ _ h => h) (yieldsIf_want rfl (fun w' hw' => ?y36)) hS0 ?_
        case y36 => (obtain ⟨h0, h1, h2, h3, h4, h5, h6, h7⟩ := HF.out w' hw'; clear hw'; first | (go_simp; rfl) | (go_simp; done))
        simp only [Act.put, List.setIfInBounds_toArray, List.set_cons_zero, List.set_cons_succ]
        refine wpAnyH_takeI (i := 22) (v := ?v37) rfl (by kernel_rfl) (by kernel_rfl) (by kernel_rfl) (fun _ _ _ h => h) (yieldsIf_want rfl (fun w' hw' => ?y37)) hS0 ?_
        case y37 => first | (go_simp; rfl) | (go_simp; done) | rfl
        simp only [Act.put, List.setIfInBounds_toArray, List.set_cons_zero, List.set_cons_succ]
        refine wpAnyH_takeI (i := 23) (v := ?v38) rfl (by kernel_rfl) (by kernel_rfl) (by kernel_rfl) (fun _ _ _ h => h) (yieldsIf_want rfl (fun w' hw' => ?y38)) hS0 ?_
        case y38 => first | (go_simp; rfl) | (go_simp; done) | rfl
        simp only [Act.put, List.setIfInBounds_toArray, List.set_cons_zero, List.set_cons_succ]
        refine wpAnyH_takeI (i := 24) (v := ?v39) rfl (by kernel_rfl) (by kernel_rfl) (by kernel_rfl) (fun _ _ _ h => h) (yieldsIf_want rfl (fun w' hw' => ?y39)) hS0 ?_
        case y39 => (obtain ⟨h0, h1, h2, h3, h4, h5, h6, h7⟩ := HF.out w' hw'; clear hw'; first | (go_simp; rfl) | (go_simp; done))
        simp only [Act.put, List.setIfInBounds_toArray, List.set_cons_zero, List.set_cons_succ]
        refine wpAnyH_takeI (i := 25) (v := .bool true) rfl (by kernel_rfl) (by kernel_rfl) (by kernel_rfl) (fun _ _ _ h => h) (yieldsIf_want rfl (fun w' hw' => ?y40)) hS0 ?_
        case y40 => (have h99 := HNB.out; clear hw'; first | (go_simp; rfl) | (go_simp; done))
        simp only [Act.put, List.setIfInBounds_toArray, List.set_cons_zero, List.set_cons_succ]
        refine wpAnyH_takeI (i := 26) (v := ?v41) rfl (by kernel_rfl) (by kernel_rfl) (by kernel_rfl) (fun _ _ _ h => h) (yieldsIf_run rfl (fun w' hw' => ?y41)) hS0 ?_
        case y41 => first | (go_simp; rfl) | (go_simp; done) | rfl
        simp only [Act.put, List.setIfInBounds_toArray, List.set_cons_zero, List.set_cons_succ]
        refine wpAnyH_takeI (i := 27) (v := ?v42) rfl (by kernel_rfl) (by kernel_rfl) (by kernel_rfl) (fun _ _ _ h => h) (yieldsIf_run rfl (fun w' hw' => ?y42)) hS0 ?_
        case y42 => first | (go_simp; rfl) | (go_simp; done) | rfl
        simp only [Act.put, List.setIfInBounds_toArray, List.set_cons_zero, List.set_cons_succ]
        refine wpAnyH_takeI (i := 28) (v := undef) rfl (by kernel_rfl) (by kernel_rfl) (by kernel_rfl) (fun _ _ _ h => h) (yieldsIf_skip rfl) hS0 ?_
        simp only [Act.put, List.setIfInBounds_toArray, List.set_cons_zero, List.set_cons_succ]
        refine wpAnyH_takeI (i := 29) (v := undef) rfl (by kernel_rfl) (by kernel_rfl) (by kernel_rfl) (fun _ _ _ h => h) (yieldsIf_skip rfl) hS0 ?_
        simp only [Act.put, List.setIfInBounds_toArray, List.set_cons_zero, List.set_cons_succ]
        refine wpAnyH_takeI (i := 30) (v := undef) rfl (by kernel_rfl) (by kernel_rfl) (by kernel_rfl) (fun _ _ _ h => h) (yieldsIf_skip rfl) hS0 ?_
        simp only [Act.put, List.setIfInBounds_toArray, List.set_cons_zero, List.set_cons_succ]
        refine wpAnyH_takeI (i := 31) (v := undef) rfl (by kernel_rfl) (by kernel_rfl) (by kernel_rfl) (fun _ _ _ h => h) (yieldsIf_skip rfl) hS0 ?_
        simp only [Act.put, List.setIfInBounds_toArray, List.set_cons_zero, List.set_cons_succ]
        refine wpAnyH_takeI (i := 32) (v := undef) rfl (by kernel_rfl) (by kernel_rfl) (by kernel_rfl) (fun _ _ _ h => h) (yieldsIf_skip rfl) hS0 ?_
        simp only [Act.put, List.setIfInBounds_toArray, List.set_cons_zero, List.set_cons_succ]
        refine wpAnyH_takeI (i := 33) (v := undef) rfl (by kernel_rfl) (by kernel_rfl) (by kernel_rfl) (fun _ _ _ h => h) (yieldsIf_skip rfl) hS0 ?_
        simp only [Act.put, List.setIfInBounds_toArray, List.set_cons_zero, List.set_cons_succ]
        refine wpAnyH_takeI (i := 34) (v := undef) rfl (by kernel_rfl) (by kernel_rfl) (by kernel_rfl) (fun _ _ _ h => h) (yieldsIf_skip rfl) hS0 ?_
        simp only [Act.put, List.setIfInBounds_toArray, List.set_cons_zero, List.set_cons_succ]
        refine wpAnyH_takeI (i := 35) (v := undef) rfl (by kernel_rfl) (by kernel_rfl) (by kernel_rfl) (fun _ _ _ h => h) (yieldsIf_skip rfl) hS0 ?_
        simp only [Act.put, List.setIfInBounds_toArray, List.set_cons_zero, List.set_cons_succ]
        refine wpAnyH_takeI (i := 36) (v := undef) rfl (by kernel_rfl) (by kernel_rfl) (by kernel_rfl) (fun _ _ _ h => h) (yieldsIf_skip rfl) hS0 ?_
        simp only [Act.put, List.setIfInBounds_toArray, List.set_cons_zero, List.set_cons_succ]
        refine wpAnyH_takeI (i := 37) (v := undef) rfl (by kernel_rfl) (by kernel_rfl) (by kernel_rfl) (fun _ _ _ h => h) (yieldsIf_skip rfl) hS0 ?_
        simp only [Act.put, List.setIfInBounds_toArray, List.set_cons_zero, List.set_cons_succ]
        refine wpAnyH_takeI (i := 38) (v := ?v43) rfl (by kernel_rfl) (by kernel_rfl) (by kernel_rfl) (fun _ _ _ h => h) (yieldsIf_run rfl (fun w' hw' => ?y43)) hS0 ?_
        case y43 => first | (go_simp; rfl) | (go_simp; done) | rfl
        simp only [Act.put, List.setIfInBounds_toArray, List.set_cons_zero, List.set_cons_succ]
        refine wpAnyH_done (by kernel_rfl) ?_ _
        refine NoPanic.normal ?_
        have hz4 := (hS0.block A4 (by have := HSZ.out; have := HZ.out; omega)).trans HZ4.out
        have cd := cell_of_row wd _ 0 _ _ _ hz4
        have fd := frozen_of_row wd _ 0 _ _ hz4
        simp only [List.getElem?_toArray, List.getElem?_cons_zero] at cd
        have HBD := Lib.hid hS0
        clear hS0 hz4
        gi_wp2
        exact ⟨(KeepsFrom.of_below HBD.out).trans (KeepsFrom.of_grownBy (grownBy_setCell wd A4 0 _) (fun j e => by cases e; have := HZ.out; omega)), .inl ⟨rfl, HXY.out⟩⟩
      have HNA := Lib.hid (show (x.arr != y.arr) = false by simpa using har)
      clear har
      by_cases hsz : x.text.size = y.text.size
      case neg =>
        have HXY := Lib.hid (HNO.out (fun e => hsz (by rw [e])))
        have hnb : ((x.text.size : Int) != (y.text.size : Int)) = true := by simp; omega
        have HNB := Lib.hid hnb
        clear hsz hnb
        refine wpIn_region_liftHN wideR (by kernel_rfl) (fun _ _ h => h) (Below W.heap.size W) (by kernel_rfl) ?_
        have hS0 : (Below W.heap.size W) W.drew := (Below.refl _ _).drew
        obtain ⟨wd, hwd⟩ : ∃ wd, W.drew = wd := ⟨_, rfl⟩
        rw [hwd] at hS0 ⊢
        clear hwd
        refine wpAnyH_takeI (i := 0) (v := ?v44) rfl (by kernel_rfl) (by kernel_rfl) (by kernel_rfl) (fun _ _ _ h => h) (yieldsIf_run rfl (fun w' hw' => ?y44)) hS0 ?_
        case y44 => (obtain ⟨h0, h1, h2, h3, h4, h5, h6, h7⟩ := HF.out w' hw'; clear hw'; first | (go_simp; rfl) | (go_simp; done))
        simp only [Act.put, List.setIfInBounds_toArray, List.set_cons_zero, List.set_cons_succ]
        refine wpAnyH_takeI (i := 1) (v := ?v45) rfl (by kernel_rfl) (by kernel_rfl) (by kernel_rfl) (fun _ _ _ h => h) (yieldsIf_run rfl (fun w' hw' => ?y45)) hS0 ?_
        case y45 => first | (go_simp; rfl) | (go_simp; done) | rfl
        simp only [Act.put, List.setIfInBounds_toArray, List.set_cons_zero, List.set_cons_succ]
        refine wpAnyH_takeI (i := 2) (v := ?v46) rfl (by kernel_rfl) (by kernel_rfl) (by kernel_rfl) (fun _ _ _ h => h) (yieldsIf_run rfl (fun w' hw' => ?y46)) hS0 ?_
        case y46 => (obtain ⟨h0, h1, h2, h3, h4, h5, h6, h7⟩ := HF.out w' hw'; clear hw'; first | (go_simp; rfl) | (go_simp; done))
        simp only [Act.put, List.setIfInBounds_toArray, List.set_cons_zero, List.set_cons_succ]
        refine wpAnyH_takeI (i := 3) (v := ?v47) rfl (by kernel_rfl) (by kernel_rfl) (by kernel_rfl) (fun _ _ _ h => h) (yieldsIf_run rfl (fun w' hw' => ?y47)) hS0 ?_
        case y47 => first | (go_simp; rfl) | (go_simp; done) | rfl
        simp only [Act.put, List.setIfInBounds_toArray, List.set_cons_zero, List.set_cons_succ]
        refine wpAnyH_takeI (i := 4) (v := .bool false) rfl (by kernel_rfl) (by kernel_rfl) (by kernel_rfl) (fun _ _ _ h => h) (yieldsIf_run rfl (fun w' hw' => ?y48)) hS0 ?_
        case y48 => (have h99 := HP.out.1; clear hw'; first | (go_simp; rfl) | (go_simp; done))
        simp only [Act.put, List.setIfInBounds_toArray, List.set_cons_zero, List.set_cons_succ]
        refine wpAnyH_takeI (i := 5) (v := .bool false) rfl (by kernel_rfl) (by kernel_rfl) (by kernel_rfl) (fun _ _ _ h => h) (yieldsIf_run rfl (fun w' hw' => ?y49)) hS0 ?_
        case y49 => first | (go_simp; rfl) | (go_simp; done) | rfl
        simp only [Act.put, List.setIfInBounds_toArray, List.set_cons_zero, List.set_cons_succ]
        refine wpAnyH_takeI (i := 6) (v := ?v50) rfl (by kernel_rfl) (by kernel_rfl) (by kernel_rfl) (fun _ _ _ h => h) (yieldsIf_want rfl (fun w' hw' => ?y50)) hS0 ?_
        case y50 => first | (go_simp; rfl) | (go_simp; done) | rfl
        simp only [Act.put, List.setIfInBounds_toArray, List.set_cons_zero, List.set_cons_succ]
        refine wpAnyH_takeI (i := 7) (v := .agg (bvs x.id.1).toArray) rfl (by kernel_rfl) (by kernel_rfl) (by kernel_rfl) (fun _ _ _ h => h) (yieldsIf_load_mid rfl 30 (.tmp 35) rfl r (0) rfl (bvs x.id.1) _ (fun w' hw' => (HF.out w' hw').2.2.1) Try.underlying30 rfl (sizeId x.id)) hS0 ?_
        simp only [Act.put, List.setIfInBounds_toArray, List.set_cons_zero, List.set_cons_succ]
        refine wpAnyH_takeI (i := 8) (v := ?v51) rfl (by kernel_rfl) (by kernel_rfl) (by kernel_rfl) (fun _ _ _ h => h) (yieldsIf_want rfl (fun w' hw' => ?y51)) hS0 ?_
        case y51 => first | (go_simp; rfl) | (go_simp; done) | rfl
        simp only [Act.put, List.setIfInBounds_toArray, List.set_cons_zero, List.set_cons_succ]
        refine wpAnyH_takeI (i := 9) (v := ?v52) rfl (by kernel_rfl) (by kernel_rfl) (by kernel_rfl) (fun _ _ _ h => h) (yieldsIf_want rfl (fun w' hw' => ?y52)) hS0 ?_
        case y52 => (obtain ⟨h0, h1, h2, h3, h4, h5, h6, h7⟩ := HF.out w' hw'; clear hw'; first | (go_simp; rfl) | (go_simp; done))
        simp only [Act.put, List.setIfInBounds_toArray, List.set_cons_zero, List.set_cons_succ]
        refine wpAnyH_takeI (i := 10) (v := ?v53) rfl (by kernel_rfl) (by kernel_rfl) (by kernel_rfl) (fun _ _ _ h => h) (yieldsIf_want rfl (fun w' hw' => ?y53)) hS0 ?_
        case y53 => (obtain ⟨h0, h1, h2, h3, h4, h5, h6, h7⟩ := HF.out w' hw'; clear hw'; first | (go_simp; rfl) | (go_simp; done))
        simp only [Act.put, List.setIfInBounds_toArray, List.set_cons_zero, List.set_cons_succ]
        refine wpAnyH_takeI (i := 11) (v := ?v54) rfl (by kernel_rfl) (by kernel_rfl) (by kernel_rfl) (fun _ _ _ h => h) (yieldsIf_want rfl (fun w' hw' => ?y54)) hS0 ?_
        case y54 => first | (go_simp; rfl) | (go_simp; done) | rfl
        simp only [Act.put, List.setIfInBounds_toArray, List.set_cons_zero, List.set_cons_succ]
        refine wpAnyH_takeI (i := 12) (v := ?v55) rfl (by kernel_rfl) (by kernel_rfl) (by kernel_rfl) (fun _ _ _ h => h) (yieldsIf_want rfl (fun w' hw' => ?y55)) hS0 ?_
        case y55 => first | (go_simp; rfl) | (go_simp; done) | rfl
        simp only [Act.put, List.setIfInBounds_toArray, List.set_cons_zero, List.set_cons_succ]
        refine wpAnyH_takeI (i := 13) (v := .agg (bvs y.id.1).toArray) rfl (by kernel_rfl) (by kernel_rfl) (by kernel_rfl) (fun _ _ _ h => h) (yieldsIf_load_mid rfl 29 (.tmp 41) rfl g (off + k * 34) rfl (bvs y.id.1) _ (fun w' hw' => (HF.out w' hw').2.2.2.1) Try.underlying29 rfl (sizeArr y.id)) hS0 ?_
        simp only [Act.put, List.setIfInBounds_toArray, List.set_cons_zero, List.set_cons_succ]
        refine wpAnyH_takeI (i := 14) (v := .bool false) rfl (by kernel_rfl) (by kernel_rfl) (by kernel_rfl) (fun _ _ _ h => h) (yieldsIf_want rfl (fun w' hw' => op_neq 30 (.tmp 36) (.tmp 42) 30 rfl rfl rfl guard_Id ((neq_Id x.id y.id _).trans (by rw [decide_eq_true HID.out]; rfl)))) hS0 ?_
        simp only [Act.put, List.setIfInBounds_toArray, List.set_cons_zero, List.set_cons_succ]
        refine wpAnyH_takeI (i := 15) (v := ?v56) rfl (by kernel_rfl) (by kernel_rfl) (by kernel_rfl) (fun _ _ _ h => h) (yieldsIf_run rfl (fun w' hw' => ?y56)) hS0 ?_
        case y56 => first | (go_simp; rfl) | (go_simp; done) | rfl
        simp only [Act.put, List.setIfInBounds_toArray, List.set_cons_zero, List.set_cons_succ]
        refine wpAnyH_takeI (i := 16) (v := ?v57) rfl (by kernel_rfl) (by kernel_rfl) (by kernel_rfl) (fun _ _ _ h => h) (yieldsIf_run rfl (fun w' hw' => ?y57)) hS0 ?_
        case y57 => first | (go_simp; rfl) | (go_simp; done) | rfl
        simp only [Act.put, List.setIfInBounds_toArray, List.set_cons_zero, List.set_cons_succ]
        refine wpAnyH_takeI (i := 17) (v := ?v58) rfl (by kernel_rfl) (by kernel_rfl) (by kernel_rfl) (fun _ _ _ h => h) (yieldsIf_want rfl (fun w' hw' => ?y58)) hS0 ?_
        case y58 => first | (go_simp; rfl) | (go_simp; done) | rfl
        simp only [Act.put, List.setIfInBounds_toArray, List.set_cons_zero, List.set_cons_succ]
        refine wpAnyH_takeI (i := 18) (v := ?v59) rfl (by kernel_rfl) (by kernel_rfl) (by kernel_rfl) (fun _ _ _ h => h) (yieldsIf_want rfl (fun w' hw' => ?y59)) hS0 ?_
        case y59 => (obtain ⟨h0, h1, h2, h3, h4, h5, h6, h7⟩ := HF.out w' hw'; clear hw'; first | (go_simp; rfl) | (go_simp; done))
        simp only [Act.put, List.setIfInBounds_toArray, List.set_cons_zero, List.set_cons_succ]
        refine wpAnyH_takeI (i := 19) (v := ?v60) rfl (by kernel_rfl) (by kernel_rfl) (by kernel_rfl) (fun _ _ _ h => h) (yieldsIf_want rfl (fun w' hw' => ?y60)) hS0 ?_
        case y60 => first | (go_simp; rfl) | (go_simp; done) | rfl
        simp only [Act.put, List.setIfInBounds_toArray, List.set_cons_zero, List.set_cons_succ]
        refine wpAnyH_takeI (i := 20) (v := ?v61) rfl (by kernel_rfl) (by kernel_rfl) (by kernel_rfl) (fun _ _ _ h => h) (yieldsIf_want rfl (fun w' hw' => ?y61)) hS0 ?_
        case y61 => (obtain ⟨h0, h1, h2, h3, h4, h5, h6, h7⟩ := HF.out w' hw'; clear hw'; first | (go_simp; rfl) | (go_simp; done))
        simp only [Act.put, List.setIfInBounds_toArray, List.set_cons_zero, List.set_cons_succ]
        refine wpAnyH_takeI (i := 21) (v := ?v62) rfl (by kernel_rfl) (by kernel_rfl) (by kernel_rfl) (fun _ _ _ h => h) (yieldsIf_want rfl (fun w' hw' => ?y62)) hS0 ?_
        case y62 => (obtain ⟨h0, h1, h2, h3, h4, h5, h6, h7⟩ := HF.out w' hw'; clear hw'; first | (go_simp; rfl) | (go_simp; done))
        simp only [Act.put, List.setIfInBounds_toArray, List.set_cons_zero, List.set_cons_succ]
        refine wpAnyH_takeI (i := 22) (v := ?v63) rfl (by kernel_rfl) (by kernel_rfl) (by kernel_rfl) (fun _ _ _ h => h) (yieldsIf_want rfl (fun w' hw' => ?y63)) hS0 ?_
        case y63 => first | (go_simp; rfl) | (go_simp; done) | rfl
        simp only [Act.put, List.setIfInBounds_toArray, List.set_cons_zero, List.set_cons_succ]
        refine wpAnyH_takeI (i := 23) (v := ?v64) rfl (by kernel_rfl) (by kernel_rfl) (by kernel_rfl) (fun _ _ _ h => h) (yieldsIf_want rfl (fun w' hw' => ?y64)) hS0 ?_
        case y64 => first | (go_simp; rfl) | (go_simp; done) | rfl
        simp only [Act.put, List.setIfInBounds_toArray, List.set_cons_zero, List.set_cons_succ]
        refine wpAnyH_takeI (i := 24) (v := ?v65) rfl (by kernel_rfl) (by kernel_rfl) (by kernel_rfl) (fun _ _ _ h => h) (yieldsIf_want rfl (fun w' hw' => ?y65)) hS0 ?_
        case y65 => (obtain ⟨h0, h1, h2, h3, h4, h5, h6, h7⟩ := HF.out w' hw'; clear hw'; first | (go_simp; rfl) | (go_simp; done))
        simp only [Act.put, List.setIfInBounds_toArray, List.set_cons_zero, List.set_cons_succ]
        refine wpAnyH_takeI (i := 25) (v := .bool false) rfl (by kernel_rfl) (by kernel_rfl) (by kernel_rfl) (fun _ _ _ h => h) (yieldsIf_want rfl (fun w' hw' => ?y66)) hS0 ?_
        case y66 => (have h99 := HNA.out; clear hw'; first | (go_simp; rfl) | (go_simp; done))
        simp only [Act.put, List.setIfInBounds_toArray, List.set_cons_zero, List.set_cons_succ]
        refine wpAnyH_takeI (i := 26) (v := ?v67) rfl (by kernel_rfl) (by kernel_rfl) (by kernel_rfl) (fun _ _ _ h => h) (yieldsIf_run rfl (fun w' hw' => ?y67)) hS0 ?_
        case y67 => first | (go_simp; rfl) | (go_simp; done) | rfl
        simp only [Act.put, List.setIfInBounds_toArray, List.set_cons_zero, List.set_cons_succ]
        refine wpAnyH_takeI (i := 27) (v := ?v68) rfl (by kernel_rfl) (by kernel_rfl) (by kernel_rfl) (fun _ _ _ h => h) (yieldsIf_run rfl (fun w' hw' => ?y68)) hS0 ?_
        case y68 => first | (go_simp; rfl) | (go_simp; done) | rfl
        simp only [Act.put, List.setIfInBounds_toArray, List.set_cons_zero, List.set_cons_succ]
        refine wpAnyH_takeI (i := 28) (v := ?v69) rfl (by kernel_rfl) (by kernel_rfl) (by kernel_rfl) (fun _ _ _ h => h) (yieldsIf_want rfl (fun w' hw' => ?y69)) hS0 ?_
        case y69 => first | (go_simp; rfl) | (go_simp; done) | rfl
        simp only [Act.put, List.setIfInBounds_toArray, List.set_cons_zero, List.set_cons_succ]
        refine wpAnyH_takeI (i := 29) (v := ?v70) rfl (by kernel_rfl) (by kernel_rfl) (by kernel_rfl) (fun _ _ _ h => h) (yieldsIf_want rfl (fun w' hw' => ?y70)) hS0 ?_
        case y70 => (obtain ⟨h0, h1, h2, h3, h4, h5, h6, h7⟩ := HF.out w' hw'; clear hw'; first | (go_simp; rfl) | (go_simp; done))
        simp only [Act.put, List.setIfInBounds_toArray, List.set_cons_zero, List.set_cons_succ]
        refine wpAnyH_takeI (i := 30) (v := ?v71) rfl (by kernel_rfl) (by kernel_rfl) (by kernel_rfl) (fun _ _ _ h => h) (yieldsIf_want rfl (fun w' hw' => ?y71)) hS0 ?_
        case y71 => first | (go_simp; rfl) | (go_simp; done) | rfl
        simp only [Act.put, List.setIfInBounds_toArray, List.set_cons_zero, List.set_cons_succ]
        refine wpAnyH_takeI (i := 31) (v := ?v72) rfl (by kernel_rfl) (by kernel_rfl) (by kernel_rfl) (fun _ _ _ h => h) (yieldsIf_want rfl (fun w' hw' => ?y72)) hS0 ?_
        case y72 => (obtain ⟨h0, h1, h2, h3, h4, h5, h6, h7⟩ := HF.out w' hw'; clear hw'; first | (go_simp; rfl) | (go_simp; done))
        simp only [Act.put, List.setIfInBounds_toArray, List.set_cons_zero, List.set_cons_succ]
        refine wpAnyH_takeI (i := 32) (v := ?v73) rfl (by kernel_rfl) (by kernel_rfl) (by kernel_rfl) (fun _ _ _ h => h) (yieldsIf_want rfl (fun w' hw' => ?y73)) hS0 ?_
        case y73 => (obtain ⟨h0, h1, h2, h3, h4, h5, h6, h7⟩ := HF.out w' hw'; clear hw'; first | (go_simp; rfl) | (go_simp; done))
        simp only [Act.put, List.setIfInBounds_toArray, List.set_cons_zero, List.set_cons_succ]
        refine wpAnyH_takeI (i := 33) (v := ?v74) rfl (by kernel_rfl) (by kernel_rfl) (by kernel_rfl) (fun _ _ _ h => h) (yieldsIf_want rfl (fun w' hw' => ?y74)) hS0 ?_
        case y74 => first | (go_simp; rfl) | (go_simp; done) | rfl
        simp only [Act.put, List.setIfInBounds_toArray, List.set_cons_zero, List.set_cons_succ]
        refine wpAnyH_takeI (i := 34) (v := ?v75) rfl (by kernel_rfl) (by kernel_rfl) (by kernel_rfl) (fun _ _ _ h => h) (yieldsIf_want rfl (fun w' hw' => ?y75)) hS0 ?_
        case y75 => first | (go_simp; rfl) | (go_simp; done) | rfl
        simp only [Act.put, List.setIfInBounds_toArray, List.set_cons_zero, List.set_cons_succ]
        refine wpAnyH_takeI (i := 35) (v := ?v76) rfl (by kernel_rfl) (by kernel_rfl) (by kernel_rfl) (fun _ _ _ h => h) (yieldsIf_want rfl (fun w' hw' => ?y76)) hS0 ?_
        case y76 => (obtain ⟨h0, h1, h2, h3, h4, h5, h6, h7⟩ := HF.out w' hw'; clear hw'; first | (go_simp; rfl) | (go_simp; done))
        simp only [Act.put, List.setIfInBounds_toArray, List.set_cons_zero, List.set_cons_succ]
        refine wpAnyH_takeI (i := 36) (v := ?v77) rfl (by kernel_rfl) (by kernel_rfl) (by kernel_rfl) (fun _ _ _ h => h) (yieldsIf_want rfl (fun w' hw' => ?y77)) hS0 ?_
        case y77 => first | (go_simp; rfl) | (go_simp; done) | rfl
        simp only [Act.put, List.setIfInBounds_toArray, List.set_cons_zero, List.set_cons_succ]
        refine wpAnyH_takeI (i := 37) (v := .bool true) rfl (by kernel_rfl) (by kernel_rfl) (by kernel_rfl) (fun _ _ _ h => h) (yieldsIf_want rfl (fun w' hw' => ?y78)) hS0 ?_
        case y78 => (have h99 := HNB.out; clear hw'; first | (go_simp; rfl) | (go_simp; done))
        simp only [Act.put, List.setIfInBounds_toArray, List.set_cons_zero, List.set_cons_succ]
        refine wpAnyH_takeI (i := 38) (v := ?v79) rfl (by kernel_rfl) (by kernel_rfl) (by kernel_rfl) (fun _ _ _ h => h) (yieldsIf_run rfl (fun w' hw' => ?y79)) hS0 ?_
        case y79 => first | (go_simp; rfl) | (go_simp; done) | rfl
        simp only [Act.put, List.setIfInBounds_toArray, List.set_cons_zero, List.set_cons_succ]
        refine wpAnyH_done (by kernel_rfl) ?_ _
        refine NoPanic.normal ?_
        have hz4 := (hS0.block A4 (by have := HSZ.out; have := HZ.out; omega)).trans HZ4.out
        have cd := cell_of_row wd _ 0 _ _ _ hz4
        have fd := frozen_of_row wd _ 0 _ _ hz4
        simp only [List.getElem?_toArray, List.getElem?_cons_zero] at cd
        have HBD := Lib.hid hS0
        clear hS0 hz4
        gi_wp2
        exact ⟨(KeepsFrom.of_below HBD.out).trans (KeepsFrom.of_grownBy (grownBy_setCell wd A4 0 _) (fun j e => by cases e; have := HZ.out; omega)), .inl ⟨rfl, HXY.out⟩⟩
      have HNB := Lib.hid (show ((x.text.size : Int) != (y.text.size : Int)) = false by simp; omega)
      clear hsz
      refine wpIn_region_liftHN wideR (by kernel_rfl) (fun _ _ h => h) (Below W.heap.size W) (by kernel_rfl) ?_
      have hS0 : (Below W.heap.size W) W.drew := (Below.refl _ _).drew
      obtain ⟨wd, hwd⟩ : ∃ wd, W.drew = wd := ⟨_, rfl⟩
      rw [hwd] at hS0 ⊢
      clear hwd
      refine wpAnyH_takeI (i := 0) (v := ?v80) rfl (by kernel_rfl) (by kernel_rfl) (by kernel_rfl) (fun _ _ _ h => h) (yieldsIf_run rfl (fun w' hw' => ?y80)) hS0 ?_
      case y80 => (obtain ⟨h0, h1, h2, h3, h4, h5, h6, h7⟩ := HF.out w' hw'; clear hw'; first | (go_simp; rfl) | (go_simp; done))
      simp only [Act.put, List.setIfInBounds_toArray, List.set_cons_zero, List.set_cons_succ]
      refine wpAnyH_takeI (i := 1) (v := ?v81) rfl (by kernel_rfl) (by kernel_rfl) (by kernel_rfl) (fun _ _ _ h => h) (yieldsIf_run rfl (fun w' hw' => ?y81)) hS0 ?_
      case y81 => first | (go_simp; rfl) | (go_simp; done) | rfl
      simp only [Act.put, List.setIfInBounds_toArray, List.set_cons_zero, List.set_cons_succ]
      refine wpAnyH_takeI (i := 2) (v := ?v82) rfl (by kernel_rfl) (by kernel_rfl) (by kernel_rfl) (fun _ _ _ h => h) (yieldsIf_run rfl (fun w' hw' => ?y82)) hS0 ?_
      case y82 => (obtain ⟨h0, h1, h2, h3, h4, h5, h6, h7⟩ := HF.out w' hw'; clear hw'; first | (go_simp; rfl) | (go_simp; done))
      simp only [Act.put, List.setIfInBounds_toArray, List.set_cons_zero, List.set_cons_succ]
      refine wpAnyH_takeI (i := 3) (v := ?v83) rfl (by kernel_rfl) (by kernel_rfl) (by kernel_rfl) (fun _ _ _ h => h) (yieldsIf_run rfl (fun w' hw' => ?y83)) hS0 ?_
      case y83 => first | (go_simp; rfl) | (go_simp; done) | rfl
      simp only [Act.put, List.setIfInBounds_toArray, List.set_cons_zero, List.set_cons_succ]
      refine wpAnyH_takeI (i := 4) (v := .bool false) rfl (by kernel_rfl) (by kernel_rfl) (by kernel_rfl) (fun _ _ _ h => h) (yieldsIf_run rfl (fun w' hw' => ?y84)) hS0 ?_
      case y84 => (have h99 := HP.out.1; clear hw'; first | (go_simp; rfl) | (go_simp; done))
      simp only [Act.put, List.setIfInBounds_toArray, List.set_cons_zero, List.set_cons_succ]
      refine wpAnyH_takeI (i := 5) (v := .bool false) rfl (by kernel_rfl) (by kernel_rfl) (by kernel_rfl) (fun _ _ _ h => h) (yieldsIf_run rfl (fun w' hw' => ?y85)) hS0 ?_
      case y85 => first | (go_simp; rfl) | (go_simp; done) | rfl
      simp only [Act.put, List.setIfInBounds_toArray, List.set_cons_zero, List.set_cons_succ]
      refine wpAnyH_takeI (i := 6) (v := ?v86) rfl (by kernel_rfl) (by kernel_rfl) (by kernel_rfl) (fun _ _ _ h => h) (yieldsIf_want rfl (fun w' hw' => ?y86)) hS0 ?_
      case y86 => first | (go_simp; rfl) | (go_simp; done) | rfl
      simp only [Act.put, List.setIfInBounds_toArray, List.set_cons_zero, List.set_cons_succ]
      refine wpAnyH_takeI (i := 7) (v := .agg (bvs x.id.1).toArray) rfl (by kernel_rfl) (by kernel_rfl) (by kernel_rfl) (fun _ _ _ h => h) (yieldsIf_load_mid rfl 30 (.tmp 35) rfl r (0) rfl (bvs x.id.1) _ (fun w' hw' => (HF.out w' hw').2.2.1) Try.underlying30 rfl (sizeId x.id)) hS0 ?_
      simp only [Act.put, List.setIfInBounds_toArray, List.set_cons_zero, List.set_cons_succ]
      refine wpAnyH_takeI (i := 8) (v := ?v87) rfl (by kernel_rfl) (by kernel_rfl) (by kernel_rfl) (fun _ _ _ h => h) (yieldsIf_want rfl (fun w' hw' => ?y87)) hS0 ?_
      case y87 => first | (go_simp; rfl) | (go_simp; done) | rfl
      simp only [Act.put, List.setIfInBounds_toArray, List.set_cons_zero, List.set_cons_succ]
      refine wpAnyH_takeI (i := 9) (v := ?v88) rfl (by kernel_rfl) (by kernel_rfl) (by kernel_rfl) (fun _ _ _ h => h) (yieldsIf_want rfl (fun w' hw' => ?y88)) hS0 ?_
      case y88 => (obtain ⟨h0, h1, h2, h3, h4, h5, h6, h7⟩ := HF.out w' hw'; clear hw'; first | (go_simp; rfl) | (go_simp; done))
      simp only [Act.put, List.setIfInBounds_toArray, List.set_cons_zero, List.set_cons_succ]
      refine wpAnyH_takeI (i := 10) (v := ?v89) rfl (by kernel_rfl) (by kernel_rfl) (by kernel_rfl) (fun _ _ _ h => h) (yieldsIf_want rfl (fun w' hw' => ?y89)) hS0 ?_
      case y89 => (obtain ⟨h0, h1, h2, h3, h4, h5, h6, h7⟩ := HF.out w' hw'; clear hw'; first | (go_simp; rfl) | (go_simp; done))
      simp only [Act.put, List.setIfInBounds_toArray, List.set_cons_zero, List.set_cons_succ]
      refine wpAnyH_takeI (i := 11) (v := ?v90) rfl (by kernel_rfl) (by kernel_rfl) (by kernel_rfl) (fun _ _ _ h => h) (yieldsIf_want rfl (fun w' hw' => ?y90)) hS0 ?_
      case y90 => first | (go_simp; rfl) | (go_simp; done) | rfl
      simp only [Act.put, List.setIfInBounds_toArray, List.set_cons_zero, List.set_cons_succ]
      refine wpAnyH_takeI (i := 12) (v := ?v91) rfl (by kernel_rfl) (by kernel_rfl) (by kernel_rfl) (fun _ _ _ h => h) (yieldsIf_want rfl (fun w' hw' => ?y91)) hS0 ?_
      case y91 => first | (go_simp; rfl) | (go_simp; done) | rfl
      simp only [Act.put, List.setIfInBounds_toArray, List.set_cons_zero, List.set_cons_succ]
      refine wpAnyH_takeI (i := 13) (v := .agg (bvs y.id.1).toArray) rfl (by kernel_rfl) (by kernel_rfl) (by kernel_rfl) (fun _ _ _ h => h) (yieldsIf_load_mid rfl 29 (.tmp 41) rfl g (off + k * 34) rfl (bvs y.id.1) _ (fun w' hw' => (HF.out w' hw').2.2.2.1) Try.underlying29 rfl (sizeArr y.id)) hS0 ?_
      simp only [Act.put, List.setIfInBounds_toArray, List.set_cons_zero, List.set_cons_succ]
      refine wpAnyH_takeI (i := 14) (v := .bool false) rfl (by kernel_rfl) (by kernel_rfl) (by kernel_rfl) (fun _ _ _ h => h) (yieldsIf_want rfl (fun w' hw' => op_neq 30 (.tmp 36) (.tmp 42) 30 rfl rfl rfl guard_Id ((neq_Id x.id y.id _).trans (by rw [decide_eq_true HID.out]; rfl)))) hS0 ?_
      simp only [Act.put, List.setIfInBounds_toArray, List.set_cons_zero, List.set_cons_succ]
      refine wpAnyH_takeI (i := 15) (v := ?v92) rfl (by kernel_rfl) (by kernel_rfl) (by kernel_rfl) (fun _ _ _ h => h) (yieldsIf_run rfl (fun w' hw' => ?y92)) hS0 ?_
      case y92 => first | (go_simp; rfl) | (go_simp; done) | rfl
      simp only [Act.put, List.setIfInBounds_toArray, List.set_cons_zero, List.set_cons_succ]
      refine wpAnyH_takeI (i := 16) (v := ?v93) rfl (by kernel_rfl) (by kernel_rfl) (by kernel_rfl) (fun _ _ _ h => h) (yieldsIf_run rfl (fun w' hw' => ?y93)) hS0 ?_
      case y93 => first | (go_simp; rfl) | (go_simp; done) | rfl
      simp only [Act.put, List.setIfInBounds_toArray, List.set_cons_zero, List.set_cons_succ]
      refine wpAnyH_takeI (i := 17) (v := ?v94) rfl (by kernel_rfl) (by kernel_rfl) (by kernel_rfl) (fun _ _ _ h => h) (yieldsIf_want rfl (fun w' hw' => ?y94)) hS0 ?_
      case y94 => first | (go_simp; rfl) | (go_simp; done) | rfl
      simp only [Act.put, List.setIfInBounds_toArray, List.set_cons_zero, List.set_cons_succ]
      refine wpAnyH_takeI (i := 18) (v := ?v95) rfl (by kernel_rfl) (by kernel_rfl) (by kernel_rfl) (fun _ _ _ h => h) (yieldsIf_want rfl (fun w' hw' => ?y95)) hS0 ?_
      case y95 => (obtain ⟨h0, h1, h2, h3, h4, h5, h6, h7⟩ := HF.out w' hw'; clear hw'; first | (go_simp; rfl) | (go_simp; done))
      simp only [Act.put, List.setIfInBounds_toArray, List.set_cons_zero, List.set_cons_succ]
      refine wpAnyH_takeI (i := 19) (v := ?v96) rfl (by kernel_rfl) (by kernel_rfl) (by kernel_rfl) (fun _ _ _ h => h) (yieldsIf_want rfl (fun w' hw' => ?y96)) hS0 ?_
      case y96 => first | (go_simp; rfl) | (go_simp; done) | rfl
      simp only [Act.put, List.setIfInBounds_toArray, List.set_cons_zero, List.set_cons_succ]
      refine wpAnyH_takeI (i := 20) (v := ?v97) rfl (by kernel_rfl) (by kernel_rfl) (by kernel_rfl) (fun _ _ _ h => h) (yieldsIf_want rfl (fun w' hw' => ?y97)) hS0 ?_
      case y97 => (obtain ⟨h0, h1, h2, h3, h4, h5, h6, h7⟩ := HF.out w' hw'; clear hw'; first | (go_simp; rfl) | (go_simp; done))
      simp only [Act.put, List.setIfInBounds_toArray, List.set_cons_zero, List.set_cons_succ]
      refine wpAnyH_takeI (i := 21) (v := ?v98) rfl (by kernel_rfl) (by kernel_rfl) (by kernel_rfl) (fun _ _ _ h => h) (yieldsIf_want rfl (fun w' hw' => ?y98)) hS0 ?_
      case y98 => (obtain ⟨h0, h1, h2, h3, h4, h5, h6, h7⟩ := HF.out w' hw'; clear hw'; first | (go_simp; rfl) | (go_simp; done))
      simp only [Act.put, List.setIfInBounds_toArray, List.set_cons_zero, List.set_cons_succ]
      refine wpAnyH_takeI (i := 22) (v := ?v99) rfl (by kernel_rfl) (by kernel_rfl) (by kernel_rfl) (fun _ _ _ h => h) (yieldsIf_want rfl (fun w' hw' => ?y99)) hS0 ?_
      case y99 => first | (go_simp; rfl) | (go_simp; done) | rfl
      simp only [Act.put, List.setIfInBounds_toArray, List.set_cons_zero, List.set_cons_succ]
      refine wpAnyH_takeI (i := 23) (v := ?v100) rfl (by kernel_rfl) (by kernel_rfl) (by kernel_rfl) (fun _ _ _ h => h) (yieldsIf_want rfl (fun w' hw' => ?y100)) hS0 ?_
      case y100 => first | (go_simp; rfl) | (go_simp; done) | rfl
      simp only [Act.put, List.setIfInBounds_toArray, List.set_cons_zero, List.set_cons_succ]
      refine wpAnyH_takeI (i := 24) (v := ?v101) rfl (by kernel_rfl) (by kernel_rfl) (by kernel_rfl) (fun _ _ _ h => h) (yieldsIf_want rfl (fun w' hw' => ?y101)) hS0 ?_
      case y101 => (obtain ⟨h0, h1, h2, h3, h4, h5, h6, h7⟩ := HF.out w' hw'; clear hw'; first | (go_simp; rfl) | (go_simp; done))
      simp only [Act.put, List.setIfInBounds_toArray, List.set_cons_zero, List.set_cons_succ]
      refine wpAnyH_takeI (i := 25) (v := .bool false) rfl (by kernel_rfl) (by kernel_rfl) (by kernel_rfl) (fun _ _ _ h => h) (yieldsIf_want rfl (fun w' hw' => ?y102)) hS0 ?_
      case y102 => (have h99 := HNA.out; clear hw'; first | (go_simp; rfl) | (go_simp; done))
      simp only [Act.put, List.setIfInBounds_toArray, List.set_cons_zero, List.set_cons_succ]
      refine wpAnyH_takeI (i := 26) (v := ?v103) rfl (by kernel_rfl) (by kernel_rfl) (by kernel_rfl) (fun _ _ _ h => h) (yieldsIf_run rfl (fun w' hw' => ?y103)) hS0 ?_
      case y103 => first | (go_simp; rfl) | (go_simp; done) | rfl
      simp only [Act.put, List.setIfInBounds_toArray, List.set_cons_zero, List.set_cons_succ]
      refine wpAnyH_takeI (i := 27) (v := ?v104) rfl (by kernel_rfl) (by kernel_rfl) (by kernel_rfl) (fun _ _ _ h => h) (yieldsIf_run rfl (fun w' hw' => ?y104)) hS0 ?_
      case y104 => first | (go_simp; rfl) | (go_simp; done) | rfl
      simp only [Act.put, List.setIfInBounds_toArray, List.set_cons_zero, List.set_cons_succ]
      refine wpAnyH_takeI (i := 28) (v := ?v105) rfl (by kernel_rfl) (by kernel_rfl) (by kernel_rfl) (fun _ _ _ h => h) (yieldsIf_want rfl (fun w' hw' => ?y105)) hS0 ?_
      case y105 => first | (go_simp; rfl) | (go_simp; done) | rfl
      simp only [Act.put, List.setIfInBounds_toArray, List.set_cons_zero, List.set_cons_succ]
      refine wpAnyH_takeI (i := 29) (v := ?v106) rfl (by kernel_rfl) (by kernel_rfl) (by kernel_rfl) (fun _ _ _ h => h) (yieldsIf_want rfl (fun w' hw' => ?y106)) hS0 ?_
      case y106 => (obtain ⟨h0, h1, h2, h3, h4, h5, h6, h7⟩ := HF.out w' hw'; clear hw'; first | (go_simp; rfl) | (go_simp; done))
      simp only [Act.put, List.setIfInBounds_toArray, List.set_cons_zero, List.set_cons_succ]
      refine wpAnyH_takeI (i := 30) (v := ?v107) rfl (by kernel_rfl) (by kernel_rfl) (by kernel_rfl) (fun _ _ _ h => h) (yieldsIf_want rfl (fun w' hw' => ?y107)) hS0 ?_
      case y107 => first | (go_simp; rfl) | (go_simp; done) | rfl
      simp only [Act.put, List.setIfInBounds_toArray, List.set_cons_zero, List.set_cons_succ]
      refine wpAnyH_takeI (i := 31) (v := ?v108) rfl (by kernel_rfl) (by kernel_rfl) (by kernel_rfl) (fun _ _ _ h => h) (yieldsIf_want rfl (fun w' hw' => ?y108)) hS0 ?_
      case y108 => (obtain ⟨h0, h1, h2, h3, h4, h5, h6, h7⟩ := HF.out w' hw'; clear hw'; first | (go_simp; rfl) | (go_simp; done))
      simp only [Act.put, List.setIfInBounds_toArray, List.set_cons_zero, List.set_cons_succ]
      refine wpAnyH_takeI (i := 32) (v := ?v109) rfl (by kernel_rfl) (by kernel_rfl) (by kernel_rfl) (fun _ _ _ h => h) (yieldsIf_want rfl (fun w' hw' => ?y109)) hS0 ?_
      case y109 => (obtain ⟨h0, h1, h2, h3, h4, h5, h6, h7⟩ := HF.out w' hw'; clear hw'; first | (go_simp; rfl) | (go_simp; done))
      simp only [Act.put, List.setIfInBounds_toArray, List.set_cons_zero, List.set_cons_succ]
      refine wpAnyH_takeI (i := 33) (v := ?v110) rfl (by kernel_rfl) (by kernel_rfl) (by kernel_rfl) (fun _ _ _ h => h) (yieldsIf_want rfl (fun w' hw' => ?y110)) hS0 ?_
      case y110 => first | (go_simp; rfl) | (go_simp; done) | rfl
      simp only [Act.put, List.setIfInBounds_toArray, List.set_cons_zero, List.set_cons_succ]
      refine wpAnyH_takeI (i := 34) (v := ?v111) rfl (by kernel_rfl) (by kernel_rfl) (by kernel_rfl) (fun _ _ _ h => h) (yieldsIf_want rfl (fun w' hw' => ?y111)) hS0 ?_
      case y111 => first | (go_simp; rfl) | (go_simp; done) | rfl
      simp only [Act.put, List.setIfInBounds_toArray, List.set_cons_zero, List.set_cons_succ]
      refine wpAnyH_takeI (i := 35) (v := ?v112) rfl (by kernel_rfl) (by kernel_rfl) (by kernel_rfl) (fun _ _ _ h => h) (yieldsIf_want rfl (fun w' hw' => ?y112)) hS0 ?_
      case y112 => (obtain ⟨h0, h1, h2, h3, h4, h5, h6, h7⟩ := HF.out w' hw'; clear hw'; first | (go_simp; rfl) | (go_simp; done))
      simp only [Act.put, List.setIfInBounds_toArray, List.set_cons_zero, List.set_cons_succ]
      refine wpAnyH_takeI (i := 36) (v := ?v113) rfl (by kernel_rfl) (by kernel_rfl) (by kernel_rfl) (fun _ _ _ h => h) (yieldsIf_want rfl (fun w' hw' => ?y113)) hS0 ?_
      case y113 => first | (go_simp; rfl) | (go_simp; done) | rfl
      simp only [Act.put, List.setIfInBounds_toArray, List.set_cons_zero, List.set_cons_succ]
      refine wpAnyH_takeI (i := 37) (v := .bool false) rfl (by kernel_rfl) (by kernel_rfl) (by kernel_rfl) (fun _ _ _ h => h) (yieldsIf_want rfl (fun w' hw' => ?y114)) hS0 ?_
      case y114 => (have h99 := HNB.out; clear hw'; first | (go_simp; rfl) | (go_simp; done))
      simp only [Act.put, List.setIfInBounds_toArray, List.set_cons_zero, List.set_cons_succ]
      refine wpAnyH_takeI (i := 38) (v := ?v115) rfl (by kernel_rfl) (by kernel_rfl) (by kernel_rfl) (fun _ _ _ h => h) (yieldsIf_run rfl (fun w' hw' => ?y115)) hS0 ?_
      case y115 => first | (go_simp; rfl) | (go_simp; done) | rfl
      simp only [Act.put, List.setIfInBounds_toArray, List.set_cons_zero, List.set_cons_succ]
      refine wpAnyH_done (by kernel_rfl) ?_ _
      refine NoPanic.normal ?_
      have HBD := Lib.hid hS0
      have HX9 := Lib.hid (HF.out wd hS0).2.2.1
      have hc5 : wd.cell? ⟨A5, 0, none⟩ = some (.pointer (some ⟨b, 0, none⟩)) := by rw [cell_of_row _ _ _ _ _ _ ((hS0.block _ (by have := HSZ.out; have := HZ.out; omega)).trans HZ5.out)]; rfl
      have hrm := HREM.out wd hS0
      rw [← HID.out] at hrm
      have HRM := Lib.hid hrm
      clear hS0 hrm
      gi_wp2_with (with_reducible refine wpListIn_load_mid wideR (fun _ _ h => h) rfl 30 _ rfl r 0 rfl (bvs x.id.1) _ HX9.out Try.underlying30 rfl (sizeId x.id) ?_; refine Stop.on ?_)
      refine Stop.go ?_
      try simp only [Act.put, List.setIfInBounds_toArray, List.set_cons_zero, List.set_cons_succ]
      clear hc5
      gi_wp2_with (first | (refine ⟨trivial, ?_⟩; gi_at_call 17; refine (CallsIn.inRound _ (callsIn_wide.2 HRM.out)).mono ?_; rintro e wz ⟨rfl, hsz, hcz⟩; refine Stop.on ?_))
      refine Stop.go ?_
      have hcw : Chg (fun k => k = A8 ∨ k = b ∨ k = m) W wz := (Chg.of_below HBD.out).trans hcz (fun i h => by rcases h with h | h; exact .inl (.inr (.inl h)); exact .inl (.inr (.inr h)))
      have h8 : wz.heap[A8]? = some (.cells #[.int .i64 (k : Int)] 3 (0, 0)) := by
        have h1 := (HBD.out.block _ (Array.getElem?_eq_some_iff.1 HN.out).1).trans HN.out
        exact (hcz.block _ (Array.getElem?_eq_some_iff.1 h1).1 (by have := HZ.out; omega)).trans h1
      have h3 : wz.heap[A3]? = some (.cells #[.int .i64 stop] 3 (0, 0)) := (hcw.block _ (by have := HSZ.out; have := HZ.out; omega) (by have := HZ.out; omega)).trans HZ3.out
      have hwi : IntKind.i64.wrap ((k : Int) + 1) = (k : Int) + 1 := IntWalk.i64_in _ (by have := HP.out; omega)
      have n38 : ¬ A3 = A8 := by have := HZ.out; omega
      have n83 : ¬ A8 = A3 := by have := HZ.out; omega
      have c8 := cell_of_row wz _ 0 _ _ _ h8
      have f8 := frozen_of_row wz _ 0 _ _ h8
      have c3 := cell_of_row wz _ 0 _ _ _ h3
      simp only [List.getElem?_toArray, List.getElem?_cons_zero] at c8 c3
      have HI := Lib.hid (orI_next (x := x) HP.out.2.2 (by have h1 := HP.out; have h2 := HML.out; omega) hsz h8 (HC.out.trans hcw (fun i h => .inl h)) (by have := HZ.out; omega))
      have HCW := Lib.hid hcw
      clear hcw hcz hsz h8 h3
      by_cases hst : stop = (k : Int) + 1
      · have hse : ((k : Int) + 1 == stop) = true := by simp [hst]
        have HST := Lib.hid hst
        clear hst
        gi_wp2
        exact ⟨KeepsFrom.of_chg (HCW.out.trans (Chg.setCell (F := fun k => k = A8) _ _ rfl) (fun i h => .inl (.inl h))) (fun k e => by have := HZ.out; omega), .inr ⟨rfl, by rw [List.length_append, HP.out.2.2]; exact HST.out, HI.out⟩⟩
      · have hse : ((k : Int) + 1 == stop) = false := by simp; omega
        clear hst
        gi_wp2
        exact ⟨KeepsFrom.of_chg (HCW.out.trans (Chg.setCell (F := fun k => k = A8) _ _ rfl) (fun i h => .inl (.inl h))) (fun k e => by have := HZ.out; omega), CellsKept.of_chg (HCW.out.trans (Chg.setCell (F := fun k => k = A8) _ _ rfl) (fun i h => .inl (.inl h))) (fun k e => by have := HZ.out; omega), HI.out⟩
    case done =>
      rintro D xs W hD rfl ⟨hp, hsp, hn, hC⟩ hK
      rw [HML.out] at hsp hn
      have hz4 := (hC.block A4 (by have := HZ.out; omega) (by have := HZ.out; omega)).trans HN2'.out
      have hz3 := (hC.block A3 (by have := HZ.out; omega) (by have := HZ.out; omega)).trans HN1'.out
      have hz5 := (hC.block A5 (by have := HZ.out; omega) (by have := HZ.out; omega)).trans HM1'.out
      have hz6 := (hC.block A6 (by have := HZ.out; omega) (by have := HZ.out; omega)).trans HM2'.out
      have HZ4 := Lib.hid hz4
      have HF := Lib.hid (show ∀ w', Below W.heap.size W w' → w'.cell? ⟨A8, 0, none⟩ = some (.int .i64 (M : Int)) ∧ w'.cell? ⟨A6, 1, none⟩ = some (.slice pa M pc) ∧ w'.cell? ⟨A3, 0, none⟩ = some (.int .i64 stop) ∧ w'.cell? ⟨A5, 0, none⟩ = some (.pointer (some ⟨b, 0, none⟩)) from fun w' hw' => by
        have h0 := (hw'.block _ (Array.getElem?_eq_some_iff.1 hn).1).trans hn
        have h1 := (hw'.block _ (Array.getElem?_eq_some_iff.1 hz6).1).trans hz6
        have h2 := (hw'.block _ (Array.getElem?_eq_some_iff.1 hz3).1).trans hz3
        have h3 := (hw'.block _ (Array.getElem?_eq_some_iff.1 hz5).1).trans hz5
        exact ⟨by rw [cell_of_row _ _ _ _ _ _ h0]; rfl, by rw [cell_of_row _ _ _ _ _ _ h1]; rfl, by rw [cell_of_row _ _ _ _ _ _ h2]; rfl, by rw [cell_of_row _ _ _ _ _ _ h3]; rfl⟩)
      have hlen := fun w' (hw' : Below W.heap.size W w') => Len_any (hsp.below hw')
      rw [show (S.dropN M).list.length = M - M by show (S.list.drop M).length = _; rw [List.length_drop, HML.out]] at hlen
      have HLN := Lib.hid hlen
      have HBW := Lib.hid (show Below w.heap.size w W from HB6.out.trans (hC.below (B := w.heap.size) (fun k e => by have := HZ.out; omega) HB6.out.size))
      have HSZ := Lib.hid (show A4 < W.heap.size ∧ D ≠ A4 from ⟨(Array.getElem?_eq_some_iff.1 hz4).1, by have := HZ.out; omega⟩)
      have HKD := Lib.hid hK
      have HDW := Lib.hid (show D < W.heap.size from (Array.getElem?_eq_some_iff.1 hK).1)
      clear hn hsp hz4 hz3 hz5 hz6 hC hlen hK
      rw [Nat.sub_self] at HLN
      go_wp2_with fail
      refine wp_region_noPanic ?_
      refine wp_region_G [20] (Below W.heap.size W) (by kernel_rfl) ?_
      have hS0 : (Below W.heap.size W) W.drew := (Below.refl _ _).drew
      obtain ⟨wd, hwd⟩ : ∃ wd, W.drew = wd := ⟨_, rfl⟩
      rw [hwd] at hS0 ⊢
      clear hwd
      refine wpAnyG_take (i := 0) (v := ?v116) rfl (by kernel_rfl) (by kernel_rfl) (by kernel_rfl) (by kernel_rfl) (fun _ _ _ h => h) (yieldsIf_run rfl (fun w' hw' => ?y116)) hS0 ?_
      case y116 => (obtain ⟨h0, h1, h2, h3⟩ := HF.out w' hw'; clear hw'; first | (go_simp; rfl) | (go_simp; done))
      simp only [Act.put, List.setIfInBounds_toArray, List.set_cons_zero, List.set_cons_succ]
      refine wpAnyG_take (i := 1) (v := ?v117) rfl (by kernel_rfl) (by kernel_rfl) (by kernel_rfl) (by kernel_rfl) (fun _ _ _ h => h) (yieldsIf_run rfl (fun w' hw' => ?y117)) hS0 ?_
      case y117 => first | (go_simp; rfl) | (go_simp; done) | rfl
      simp only [Act.put, List.setIfInBounds_toArray, List.set_cons_zero, List.set_cons_succ]
      refine wpAnyG_take (i := 2) (v := ?v118) rfl (by kernel_rfl) (by kernel_rfl) (by kernel_rfl) (by kernel_rfl) (fun _ _ _ h => h) (yieldsIf_run rfl (fun w' hw' => ?y118)) hS0 ?_
      case y118 => (obtain ⟨h0, h1, h2, h3⟩ := HF.out w' hw'; clear hw'; first | (go_simp; rfl) | (go_simp; done))
      simp only [Act.put, List.setIfInBounds_toArray, List.set_cons_zero, List.set_cons_succ]
      refine wpAnyG_take (i := 3) (v := ?v119) rfl (by kernel_rfl) (by kernel_rfl) (by kernel_rfl) (by kernel_rfl) (fun _ _ _ h => h) (yieldsIf_run rfl (fun w' hw' => ?y119)) hS0 ?_
      case y119 => first | (go_simp; rfl) | (go_simp; done) | rfl
      simp only [Act.put, List.setIfInBounds_toArray, List.set_cons_zero, List.set_cons_succ]
      refine wpAnyG_take (i := 4) (v := .bool true) rfl (by kernel_rfl) (by kernel_rfl) (by kernel_rfl) (by kernel_rfl) (fun _ _ _ h => h) (yieldsIf_run rfl (fun w' hw' => ?y120)) hS0 ?_
      case y120 => first | (go_simp; rfl) | (go_simp; done) | rfl
      simp only [Act.put, List.setIfInBounds_toArray, List.set_cons_zero, List.set_cons_succ]
      refine wpAnyG_take (i := 5) (v := ?v121) rfl (by kernel_rfl) (by kernel_rfl) (by kernel_rfl) (by kernel_rfl) (fun _ _ _ h => h) (yieldsIf_run rfl (fun w' hw' => ?y121)) hS0 ?_
      case y121 => first | (go_simp; rfl) | (go_simp; done) | rfl
      simp only [Act.put, List.setIfInBounds_toArray, List.set_cons_zero, List.set_cons_succ]
      refine wpAnyG_take (i := 6) (v := undef) rfl (by kernel_rfl) (by kernel_rfl) (by kernel_rfl) (by kernel_rfl) (fun _ _ _ h => h) (yieldsIf_skip rfl) hS0 ?_
      simp only [Act.put, List.setIfInBounds_toArray, List.set_cons_zero, List.set_cons_succ]
      refine wpAnyG_take (i := 7) (v := undef) rfl (by kernel_rfl) (by kernel_rfl) (by kernel_rfl) (by kernel_rfl) (fun _ _ _ h => h) (yieldsIf_skip rfl) hS0 ?_
      simp only [Act.put, List.setIfInBounds_toArray, List.set_cons_zero, List.set_cons_succ]
      refine wpAnyG_take (i := 8) (v := undef) rfl (by kernel_rfl) (by kernel_rfl) (by kernel_rfl) (by kernel_rfl) (fun _ _ _ h => h) (yieldsIf_skip rfl) hS0 ?_
      simp only [Act.put, List.setIfInBounds_toArray, List.set_cons_zero, List.set_cons_succ]
      refine wpAnyG_take (i := 9) (v := ?v125) rfl (by kernel_rfl) (by kernel_rfl) (by kernel_rfl) (by kernel_rfl) (fun _ _ _ h => h) (yieldsIf_run rfl (fun w' hw' => ?y125)) hS0 ?_
      case y125 => first | (go_simp; rfl) | (go_simp; done) | rfl
      simp only [Act.put, List.setIfInBounds_toArray, List.set_cons_zero, List.set_cons_succ]
      refine wpAnyG_take (i := 10) (v := ?v126) rfl (by kernel_rfl) (by kernel_rfl) (by kernel_rfl) (by kernel_rfl) (fun _ _ _ h => h) (yieldsIf_run rfl (fun w' hw' => ?y126)) hS0 ?_
      case y126 => first | (go_simp; rfl) | (go_simp; done) | rfl
      simp only [Act.put, List.setIfInBounds_toArray, List.set_cons_zero, List.set_cons_succ]
      refine wpAnyG_take (i := 11) (v := ?v127) rfl (by kernel_rfl) (by kernel_rfl) (by kernel_rfl) (by kernel_rfl) (fun _ _ _ h => h) (yieldsIf_want rfl (fun w' hw' => ?y127)) hS0 ?_
      case y127 => (obtain ⟨h0, h1, h2, h3⟩ := HF.out w' hw'; clear hw'; first | (go_simp; rfl) | (go_simp; done))
      simp only [Act.put, List.setIfInBounds_toArray, List.set_cons_zero, List.set_cons_succ]
      refine wpAnyG_take (i := 13) (v := ?v128) rfl (by kernel_rfl) (by kernel_rfl) (by kernel_rfl) (by kernel_rfl) (fun _ _ _ h => h) (yieldsIf_want rfl (fun w' hw' => ?y128)) hS0 ?_
      case y128 => first | (go_simp; rfl) | (go_simp; done) | rfl
      simp only [Act.put, List.setIfInBounds_toArray, List.set_cons_zero, List.set_cons_succ]
      refine wpAnyG_take (i := 14) (v := ?v129) rfl (by kernel_rfl) (by kernel_rfl) (by kernel_rfl) (by kernel_rfl) (fun _ _ _ h => h) (yieldsIf_want rfl (fun w' hw' => ?y129)) hS0 ?_
      case y129 => (obtain ⟨h0, h1, h2, h3⟩ := HF.out w' hw'; clear hw'; first | (go_simp; rfl) | (go_simp; done))
      simp only [Act.put, List.setIfInBounds_toArray, List.set_cons_zero, List.set_cons_succ]
      refine wpAnyG_take (i := 15) (v := ?v130) rfl (by kernel_rfl) (by kernel_rfl) (by kernel_rfl) (by kernel_rfl) (fun _ _ _ h => h) (yieldsIf_want rfl (fun w' hw' => ?y130)) hS0 ?_
      case y130 => first | (go_simp; rfl) | (go_simp; done) | rfl
      simp only [Act.put, List.setIfInBounds_toArray, List.set_cons_zero, List.set_cons_succ]
      refine wpAnyG_take (i := 16) (v := ?v131) rfl (by kernel_rfl) (by kernel_rfl) (by kernel_rfl) (by kernel_rfl) (fun _ _ _ h => h) (yieldsIf_want rfl (fun w' hw' => ?y131)) hS0 ?_
      case y131 => (obtain ⟨h0, h1, h2, h3⟩ := HF.out w' hw'; clear hw'; first | (go_simp; rfl) | (go_simp; done))
      simp only [Act.put, List.setIfInBounds_toArray, List.set_cons_zero, List.set_cons_succ]
      refine wpAnyG_take (i := 17) (v := .int .i64 0) rfl (by kernel_rfl) (by kernel_rfl) (by kernel_rfl) (by kernel_rfl) (fun _ _ _ h => h) (yieldsIf_want rfl (fun w' hw' => ?y132)) hS0 ?_
      case y132 => (have h99 : IntKind.i64.wrap 0 = 0 := rfl; clear hw'; first | (go_simp; rfl) | (go_simp; done))
      simp only [Act.put, List.setIfInBounds_toArray, List.set_cons_zero, List.set_cons_succ]
      refine wpAnyG_want (i := 12) (by kernel_rfl) rfl rfl (fun K hK => ?_)
      go_simp
      go_at_call 22
      refine (HLN.out _ hS0).mono ?_
      rintro e wl ⟨rfl, hbwl⟩
      have hSwl := hS0.trans (hbwl.mono hS0.size)
      refine hK _ _ hSwl ?_
      clear hK K
      try simp only [Act.put, List.setIfInBounds_toArray, List.set_cons_zero, List.set_cons_succ]
      refine wpAnyG_take (i := 18) (v := .bool true) rfl (by kernel_rfl) (by kernel_rfl) (by kernel_rfl) (by kernel_rfl) (fun _ _ _ h => h) (yieldsIf_want rfl (fun w' hw' => ?y133)) hSwl ?_
      case y133 => first | (go_simp; rfl) | (go_simp; done) | rfl
      simp only [Act.put, List.setIfInBounds_toArray, List.set_cons_zero, List.set_cons_succ]
      refine wpAnyG_take (i := 19) (v := ?v134) rfl (by kernel_rfl) (by kernel_rfl) (by kernel_rfl) (by kernel_rfl) (fun _ _ _ h => h) (yieldsIf_run rfl (fun w' hw' => ?y134)) hSwl ?_
      case y134 => first | (go_simp; rfl) | (go_simp; done) | rfl
      simp only [Act.put, List.setIfInBounds_toArray, List.set_cons_zero, List.set_cons_succ]
      refine wpAnyG_fin (i := 20) (by kernel_rfl) rfl rfl (by kernel_rfl) (fun K hK => ?_)
      have hz4 := (hSwl.block A4 HSZ.out.1).trans HZ4.out
      have cd := cell_of_row wl _ 0 _ _ _ hz4
      have fd := frozen_of_row wl _ 0 _ _ hz4
      simp only [List.getElem?_toArray, List.getElem?_cons_zero] at cd
      go_simp
      refine hK _ _ ?_
      clear hK K
      try simp only [Act.put, List.setIfInBounds_toArray, List.set_cons_zero, List.set_cons_succ]
      refine wpAnyG_done (by kernel_rfl) ?_ _
      refine NoPanic.normal ?_
      have hRz : (wl.setCell ⟨A4, 0, none⟩ (.bool true)).heap[A4]? = some (.cells #[.bool true] 4 (0, 0)) := heap_setCell_same _ _ _ _ _ _ hz4
      have hKz : (wl.setCell ⟨A4, 0, none⟩ (.bool true)).heap[D]? = some (.deferred (some [])) := (heap_setCell_other wl ⟨A4, 0, none⟩ _ _ HSZ.out.2).trans ((hSwl.block _ HDW.out).trans HKD.out)
      have hBz : Below w.heap.size w (wl.setCell ⟨A4, 0, none⟩ (.bool true)) := (HBW.out.trans (hSwl.mono HBW.out.size)).setCell (show w.heap.size ≤ A4 by have := HZ.out; omega) _
      obtain ⟨wz, hwz⟩ : ∃ wz, wl.setCell ⟨A4, 0, none⟩ (.bool true) = wz := ⟨_, rfl⟩
      rw [hwz] at hRz hKz hBz ⊢
      have HRz := Lib.hid hRz
      have HKz := Lib.hid hKz
      have HBz := Lib.hid hBz
      have HDA := Lib.hid (show D ≠ A4 ∧ w.heap.size ≤ D from ⟨HSZ.out.2, by have := HZ.out; omega⟩)
      clear hwz hRz hKz hBz cd fd hz4 hSwl
      go_wp2_with fail
      refine ⟨by simp, .inl ⟨_, _, rfl, run_takeDeferred HKz.out, ?_⟩⟩
      have hcz : (wz.putObj D (.deferred none)).cell? ⟨A4, 0, none⟩ = some (.bool true) := by
        have h9 : (wz.putObj D (.deferred none)).heap[A4]? = _ := (World.putObj_heap_other (by have := HDA.out.1; omega)).trans HRz.out
        simp [World.cell?, h9]
      have hBf : Below w.heap.size w (wz.putObj D (.deferred none)) := HBz.out.trans (belowK_b (w := w) (Nat.le_refl _) wz D _ _ HDA.out.2 HKz.out rfl rfl)
      refine ⟨_, ?_, rfl, hBf⟩
      simp only [results, show Try.f6.results = #[.cell 4 4] from rfl]
      go_simp
    case stop =>
      rintro D c pre W hD hpre (⟨rfl, hnp⟩ | ⟨rfl, hst, hp, hsp, hn, hC⟩) hK
      · exact absurd hpre hnp
      obtain ⟨k, hk⟩ : ∃ k, pre.length = k := ⟨_, rfl⟩
      rw [hk] at hsp hn hst hp
      have hkM : k ≤ M := by have := HML.out; omega
      have HST := Lib.hid hst
      clear hp hk hst hpre
      have hz4 := (hC.block A4 (by have := HZ.out; omega) (by have := HZ.out; omega)).trans HN2'.out
      have hz3 := (hC.block A3 (by have := HZ.out; omega) (by have := HZ.out; omega)).trans HN1'.out
      have hz5 := (hC.block A5 (by have := HZ.out; omega) (by have := HZ.out; omega)).trans HM1'.out
      have hz6 := (hC.block A6 (by have := HZ.out; omega) (by have := HZ.out; omega)).trans HM2'.out
      have HZ4 := Lib.hid hz4
      have HF := Lib.hid (show ∀ w', Below W.heap.size W w' → w'.cell? ⟨A8, 0, none⟩ = some (.int .i64 (k : Int)) ∧ w'.cell? ⟨A6, 1, none⟩ = some (.slice pa M pc) ∧ w'.cell? ⟨A3, 0, none⟩ = some (.int .i64 stop) ∧ w'.cell? ⟨A5, 0, none⟩ = some (.pointer (some ⟨b, 0, none⟩)) from fun w' hw' => by
        have h0 := (hw'.block _ (Array.getElem?_eq_some_iff.1 hn).1).trans hn
        have h1 := (hw'.block _ (Array.getElem?_eq_some_iff.1 hz6).1).trans hz6
        have h2 := (hw'.block _ (Array.getElem?_eq_some_iff.1 hz3).1).trans hz3
        have h3 := (hw'.block _ (Array.getElem?_eq_some_iff.1 hz5).1).trans hz5
        exact ⟨by rw [cell_of_row _ _ _ _ _ _ h0]; rfl, by rw [cell_of_row _ _ _ _ _ _ h1]; rfl, by rw [cell_of_row _ _ _ _ _ _ h2]; rfl, by rw [cell_of_row _ _ _ _ _ _ h3]; rfl⟩)
      have hlen := fun w' (hw' : Below W.heap.size W w') => Len_any (hsp.below hw')
      rw [show (S.dropN k).list.length = M - k by show (S.list.drop k).length = _; rw [List.length_drop, HML.out]] at hlen
      have HLN := Lib.hid hlen
      have HBW := Lib.hid (show Below w.heap.size w W from HB6.out.trans (hC.below (B := w.heap.size) (fun k e => by have := HZ.out; omega) HB6.out.size))
      have HSZ := Lib.hid (show A4 < W.heap.size ∧ D ≠ A4 from ⟨(Array.getElem?_eq_some_iff.1 hz4).1, by have := HZ.out; omega⟩)
      have HKD := Lib.hid hK
      have HDW := Lib.hid (show D < W.heap.size from (Array.getElem?_eq_some_iff.1 hK).1)
      clear hn hsp hz4 hz3 hz5 hz6 hC hlen hK
      by_cases hke : k = M
      · obtain rfl : M = k := hke.symm
        clear hkM
        rw [Nat.sub_self] at HLN
        gi_wp2
        go_wp2_with fail
        refine wp_region_noPanic ?_
        refine wp_region_G [20] (Below W.heap.size W) (by kernel_rfl) ?_
        have hS0 : (Below W.heap.size W) W.drew := (Below.refl _ _).drew
        obtain ⟨wd, hwd⟩ : ∃ wd, W.drew = wd := ⟨_, rfl⟩
        rw [hwd] at hS0 ⊢
        clear hwd
        refine wpAnyG_take (i := 0) (v := ?v135) rfl (by kernel_rfl) (by kernel_rfl) (by kernel_rfl) (by kernel_rfl) (fun _ _ _ h => h) (yieldsIf_run rfl (fun w' hw' => ?y135)) hS0 ?_
        case y135 => (obtain ⟨h0, h1, h2, h3⟩ := HF.out w' hw'; clear hw'; first | (go_simp; rfl) | (go_simp; done))
        simp only [Act.put, List.setIfInBounds_toArray, List.set_cons_zero, List.set_cons_succ]
        refine wpAnyG_take (i := 1) (v := ?v136) rfl (by kernel_rfl) (by kernel_rfl) (by kernel_rfl) (by kernel_rfl) (fun _ _ _ h => h) (yieldsIf_run rfl (fun w' hw' => ?y136)) hS0 ?_
        case y136 => first | (go_simp; rfl) | (go_simp; done) | rfl
        simp only [Act.put, List.setIfInBounds_toArray, List.set_cons_zero, List.set_cons_succ]
        refine wpAnyG_take (i := 2) (v := ?v137) rfl (by kernel_rfl) (by kernel_rfl) (by kernel_rfl) (by kernel_rfl) (fun _ _ _ h => h) (yieldsIf_run rfl (fun w' hw' => ?y137)) hS0 ?_
        case y137 => (obtain ⟨h0, h1, h2, h3⟩ := HF.out w' hw'; clear hw'; first | (go_simp; rfl) | (go_simp; done))
        simp only [Act.put, List.setIfInBounds_toArray, List.set_cons_zero, List.set_cons_succ]
        refine wpAnyG_take (i := 3) (v := ?v138) rfl (by kernel_rfl) (by kernel_rfl) (by kernel_rfl) (by kernel_rfl) (fun _ _ _ h => h) (yieldsIf_run rfl (fun w' hw' => ?y138)) hS0 ?_
        case y138 => first | (go_simp; rfl) | (go_simp; done) | rfl
        simp only [Act.put, List.setIfInBounds_toArray, List.set_cons_zero, List.set_cons_succ]
        refine wpAnyG_take (i := 4) (v := .bool true) rfl (by kernel_rfl) (by kernel_rfl) (by kernel_rfl) (by kernel_rfl) (fun _ _ _ h => h) (yieldsIf_run rfl (fun w' hw' => ?y139)) hS0 ?_
        case y139 => first | (go_simp; rfl) | (go_simp; done) | rfl
        simp only [Act.put, List.setIfInBounds_toArray, List.set_cons_zero, List.set_cons_succ]
        refine wpAnyG_take (i := 5) (v := ?v140) rfl (by kernel_rfl) (by kernel_rfl) (by kernel_rfl) (by kernel_rfl) (fun _ _ _ h => h) (yieldsIf_run rfl (fun w' hw' => ?y140)) hS0 ?_
        case y140 => first | (go_simp; rfl) | (go_simp; done) | rfl
        simp only [Act.put, List.setIfInBounds_toArray, List.set_cons_zero, List.set_cons_succ]
        refine wpAnyG_take (i := 6) (v := undef) rfl (by kernel_rfl) (by kernel_rfl) (by kernel_rfl) (by kernel_rfl) (fun _ _ _ h => h) (yieldsIf_skip rfl) hS0 ?_
        simp only [Act.put, List.setIfInBounds_toArray, List.set_cons_zero, List.set_cons_succ]
        refine wpAnyG_take (i := 7) (v := undef) rfl (by kernel_rfl) (by kernel_rfl) (by kernel_rfl) (by kernel_rfl) (fun _ _ _ h => h) (yieldsIf_skip rfl) hS0 ?_
        simp only [Act.put, List.setIfInBounds_toArray, List.set_cons_zero, List.set_cons_succ]
        refine wpAnyG_take (i := 8) (v := undef) rfl (by kernel_rfl) (by kernel_rfl) (by kernel_rfl) (by kernel_rfl) (fun _ _ _ h => h) (yieldsIf_skip rfl) hS0 ?_
        simp only [Act.put, List.setIfInBounds_toArray, List.set_cons_zero, List.set_cons_succ]
        refine wpAnyG_take (i := 9) (v := ?v144) rfl (by kernel_rfl) (by kernel_rfl) (by kernel_rfl) (by kernel_rfl) (fun _ _ _ h => h) (yieldsIf_run rfl (fun w' hw' => ?y144)) hS0 ?_
        case y144 => first | (go_simp; rfl) | (go_simp; done) | rfl
        simp only [Act.put, List.setIfInBounds_toArray, List.set_cons_zero, List.set_cons_succ]
        refine wpAnyG_take (i := 10) (v := ?v145) rfl (by kernel_rfl) (by kernel_rfl) (by kernel_rfl) (by kernel_rfl) (fun _ _ _ h => h) (yieldsIf_run rfl (fun w' hw' => ?y145)) hS0 ?_
        case y145 => first | (go_simp; rfl) | (go_simp; done) | rfl
        simp only [Act.put, List.setIfInBounds_toArray, List.set_cons_zero, List.set_cons_succ]
        refine wpAnyG_take (i := 11) (v := ?v146) rfl (by kernel_rfl) (by kernel_rfl) (by kernel_rfl) (by kernel_rfl) (fun _ _ _ h => h) (yieldsIf_want rfl (fun w' hw' => ?y146)) hS0 ?_
        case y146 => (obtain ⟨h0, h1, h2, h3⟩ := HF.out w' hw'; clear hw'; first | (go_simp; rfl) | (go_simp; done))
        simp only [Act.put, List.setIfInBounds_toArray, List.set_cons_zero, List.set_cons_succ]
        refine wpAnyG_take (i := 13) (v := ?v147) rfl (by kernel_rfl) (by kernel_rfl) (by kernel_rfl) (by kernel_rfl) (fun _ _ _ h => h) (yieldsIf_want rfl (fun w' hw' => ?y147)) hS0 ?_
        case y147 => first | (go_simp; rfl) | (go_simp; done) | rfl
        simp only [Act.put, List.setIfInBounds_toArray, List.set_cons_zero, List.set_cons_succ]
        refine wpAnyG_take (i := 14) (v := ?v148) rfl (by kernel_rfl) (by kernel_rfl) (by kernel_rfl) (by kernel_rfl) (fun _ _ _ h => h) (yieldsIf_want rfl (fun w' hw' => ?y148)) hS0 ?_
        case y148 => (obtain ⟨h0, h1, h2, h3⟩ := HF.out w' hw'; clear hw'; first | (go_simp; rfl) | (go_simp; done))
        simp only [Act.put, List.setIfInBounds_toArray, List.set_cons_zero, List.set_cons_succ]
        refine wpAnyG_take (i := 15) (v := ?v149) rfl (by kernel_rfl) (by kernel_rfl) (by kernel_rfl) (by kernel_rfl) (fun _ _ _ h => h) (yieldsIf_want rfl (fun w' hw' => ?y149)) hS0 ?_
        case y149 => first | (go_simp; rfl) | (go_simp; done) | rfl
        simp only [Act.put, List.setIfInBounds_toArray, List.set_cons_zero, List.set_cons_succ]
        refine wpAnyG_take (i := 16) (v := ?v150) rfl (by kernel_rfl) (by kernel_rfl) (by kernel_rfl) (by kernel_rfl) (fun _ _ _ h => h) (yieldsIf_want rfl (fun w' hw' => ?y150)) hS0 ?_
        case y150 => (obtain ⟨h0, h1, h2, h3⟩ := HF.out w' hw'; clear hw'; first | (go_simp; rfl) | (go_simp; done))
        simp only [Act.put, List.setIfInBounds_toArray, List.set_cons_zero, List.set_cons_succ]
        refine wpAnyG_take (i := 17) (v := .int .i64 0) rfl (by kernel_rfl) (by kernel_rfl) (by kernel_rfl) (by kernel_rfl) (fun _ _ _ h => h) (yieldsIf_want rfl (fun w' hw' => ?y151)) hS0 ?_
        case y151 => (have h99 : IntKind.i64.wrap 0 = 0 := rfl; clear hw'; first | (go_simp; rfl) | (go_simp; done))
        simp only [Act.put, List.setIfInBounds_toArray, List.set_cons_zero, List.set_cons_succ]
        refine wpAnyG_want (i := 12) (by kernel_rfl) rfl rfl (fun K hK => ?_)
        go_simp
        go_at_call 22
        refine (HLN.out _ hS0).mono ?_
        rintro e wl ⟨rfl, hbwl⟩
        have hSwl := hS0.trans (hbwl.mono hS0.size)
        refine hK _ _ hSwl ?_
        clear hK K
        try simp only [Act.put, List.setIfInBounds_toArray, List.set_cons_zero, List.set_cons_succ]
        refine wpAnyG_take (i := 18) (v := .bool true) rfl (by kernel_rfl) (by kernel_rfl) (by kernel_rfl) (by kernel_rfl) (fun _ _ _ h => h) (yieldsIf_want rfl (fun w' hw' => ?y152)) hSwl ?_
        case y152 => first | (go_simp; rfl) | (go_simp; done) | rfl
        simp only [Act.put, List.setIfInBounds_toArray, List.set_cons_zero, List.set_cons_succ]
        refine wpAnyG_take (i := 19) (v := ?v153) rfl (by kernel_rfl) (by kernel_rfl) (by kernel_rfl) (by kernel_rfl) (fun _ _ _ h => h) (yieldsIf_run rfl (fun w' hw' => ?y153)) hSwl ?_
        case y153 => first | (go_simp; rfl) | (go_simp; done) | rfl
        simp only [Act.put, List.setIfInBounds_toArray, List.set_cons_zero, List.set_cons_succ]
        refine wpAnyG_fin (i := 20) (by kernel_rfl) rfl rfl (by kernel_rfl) (fun K hK => ?_)
        have hz4 := (hSwl.block A4 HSZ.out.1).trans HZ4.out
        have cd := cell_of_row wl _ 0 _ _ _ hz4
        have fd := frozen_of_row wl _ 0 _ _ hz4
        simp only [List.getElem?_toArray, List.getElem?_cons_zero] at cd
        go_simp
        refine hK _ _ ?_
        clear hK K
        try simp only [Act.put, List.setIfInBounds_toArray, List.set_cons_zero, List.set_cons_succ]
        refine wpAnyG_done (by kernel_rfl) ?_ _
        refine NoPanic.normal ?_
        have hRz : (wl.setCell ⟨A4, 0, none⟩ (.bool true)).heap[A4]? = some (.cells #[.bool true] 4 (0, 0)) := heap_setCell_same _ _ _ _ _ _ hz4
        have hKz : (wl.setCell ⟨A4, 0, none⟩ (.bool true)).heap[D]? = some (.deferred (some [])) := (heap_setCell_other wl ⟨A4, 0, none⟩ _ _ HSZ.out.2).trans ((hSwl.block _ HDW.out).trans HKD.out)
        have hBz : Below w.heap.size w (wl.setCell ⟨A4, 0, none⟩ (.bool true)) := (HBW.out.trans (hSwl.mono HBW.out.size)).setCell (show w.heap.size ≤ A4 by have := HZ.out; omega) _
        obtain ⟨wz, hwz⟩ : ∃ wz, wl.setCell ⟨A4, 0, none⟩ (.bool true) = wz := ⟨_, rfl⟩
        rw [hwz] at hRz hKz hBz ⊢
        have HRz := Lib.hid hRz
        have HKz := Lib.hid hKz
        have HBz := Lib.hid hBz
        have HDA := Lib.hid (show D ≠ A4 ∧ w.heap.size ≤ D from ⟨HSZ.out.2, by have := HZ.out; omega⟩)
        clear hwz hRz hKz hBz cd fd hz4 hSwl
        go_wp2_with fail
        refine ⟨by simp, .inl ⟨_, _, rfl, run_takeDeferred HKz.out, ?_⟩⟩
        have hcz : (wz.putObj D (.deferred none)).cell? ⟨A4, 0, none⟩ = some (.bool true) := by
          have h9 : (wz.putObj D (.deferred none)).heap[A4]? = _ := (World.putObj_heap_other (by have := HDA.out.1; omega)).trans HRz.out
          simp [World.cell?, h9]
        have hBf : Below w.heap.size w (wz.putObj D (.deferred none)) := HBz.out.trans (belowK_b (w := w) (Nat.le_refl _) wz D _ _ HDA.out.2 HKz.out rfl rfl)
        refine ⟨_, ?_, rfl, hBf⟩
        simp only [results, show Try.f6.results = #[.cell 4 4] from rfl]
        go_simp
      · have HKE := Lib.hid (show k < M by omega)
        clear hke hkM
        gi_wp2
        go_wp2_with fail
        refine wp_region_noPanic ?_
        refine wp_region_G [20] (Below W.heap.size W) (by kernel_rfl) ?_
        have hS0 : (Below W.heap.size W) W.drew := (Below.refl _ _).drew
        obtain ⟨wd, hwd⟩ : ∃ wd, W.drew = wd := ⟨_, rfl⟩
        rw [hwd] at hS0 ⊢
        clear hwd
        refine wpAnyG_take (i := 0) (v := ?v154) rfl (by kernel_rfl) (by kernel_rfl) (by kernel_rfl) (by kernel_rfl) (fun _ _ _ h => h) (yieldsIf_run rfl (fun w' hw' => ?y154)) hS0 ?_
        case y154 => (obtain ⟨h0, h1, h2, h3⟩ := HF.out w' hw'; clear hw'; first | (go_simp; rfl) | (go_simp; done))
        simp only [Act.put, List.setIfInBounds_toArray, List.set_cons_zero, List.set_cons_succ]
        refine wpAnyG_take (i := 1) (v := ?v155) rfl (by kernel_rfl) (by kernel_rfl) (by kernel_rfl) (by kernel_rfl) (fun _ _ _ h => h) (yieldsIf_run rfl (fun w' hw' => ?y155)) hS0 ?_
        case y155 => first | (go_simp; rfl) | (go_simp; done) | rfl
        simp only [Act.put, List.setIfInBounds_toArray, List.set_cons_zero, List.set_cons_succ]
        refine wpAnyG_take (i := 2) (v := ?v156) rfl (by kernel_rfl) (by kernel_rfl) (by kernel_rfl) (by kernel_rfl) (fun _ _ _ h => h) (yieldsIf_run rfl (fun w' hw' => ?y156)) hS0 ?_
        case y156 => (obtain ⟨h0, h1, h2, h3⟩ := HF.out w' hw'; clear hw'; first | (go_simp; rfl) | (go_simp; done))
        simp only [Act.put, List.setIfInBounds_toArray, List.set_cons_zero, List.set_cons_succ]
        refine wpAnyG_take (i := 3) (v := ?v157) rfl (by kernel_rfl) (by kernel_rfl) (by kernel_rfl) (by kernel_rfl) (fun _ _ _ h => h) (yieldsIf_run rfl (fun w' hw' => ?y157)) hS0 ?_
        case y157 => first | (go_simp; rfl) | (go_simp; done) | rfl
        simp only [Act.put, List.setIfInBounds_toArray, List.set_cons_zero, List.set_cons_succ]
        refine wpAnyG_take (i := 4) (v := .bool false) rfl (by kernel_rfl) (by kernel_rfl) (by kernel_rfl) (by kernel_rfl) (fun _ _ _ h => h) (yieldsIf_run rfl (fun w' hw' => ?y158)) hS0 ?_
        case y158 => (have h99 : ¬ (k : Int) = (M : Int) := (by have := HKE.out; omega); clear hw'; first | (go_simp; rfl) | (go_simp; done))
        simp only [Act.put, List.setIfInBounds_toArray, List.set_cons_zero, List.set_cons_succ]
        refine wpAnyG_take (i := 5) (v := ?v159) rfl (by kernel_rfl) (by kernel_rfl) (by kernel_rfl) (by kernel_rfl) (fun _ _ _ h => h) (yieldsIf_run rfl (fun w' hw' => ?y159)) hS0 ?_
        case y159 => first | (go_simp; rfl) | (go_simp; done) | rfl
        simp only [Act.put, List.setIfInBounds_toArray, List.set_cons_zero, List.set_cons_succ]
        refine wpAnyG_take (i := 6) (v := ?v160) rfl (by kernel_rfl) (by kernel_rfl) (by kernel_rfl) (by kernel_rfl) (fun _ _ _ h => h) (yieldsIf_want rfl (fun w' hw' => ?y160)) hS0 ?_
        case y160 => (obtain ⟨h0, h1, h2, h3⟩ := HF.out w' hw'; clear hw'; first | (go_simp; rfl) | (go_simp; done))
        simp only [Act.put, List.setIfInBounds_toArray, List.set_cons_zero, List.set_cons_succ]
        refine wpAnyG_take (i := 7) (v := ?v161) rfl (by kernel_rfl) (by kernel_rfl) (by kernel_rfl) (by kernel_rfl) (fun _ _ _ h => h) (yieldsIf_want rfl (fun w' hw' => ?y161)) hS0 ?_
        case y161 => (obtain ⟨h0, h1, h2, h3⟩ := HF.out w' hw'; clear hw'; first | (go_simp; rfl) | (go_simp; done))
        simp only [Act.put, List.setIfInBounds_toArray, List.set_cons_zero, List.set_cons_succ]
        refine wpAnyG_take (i := 8) (v := .bool true) rfl (by kernel_rfl) (by kernel_rfl) (by kernel_rfl) (by kernel_rfl) (fun _ _ _ h => h) (yieldsIf_want rfl (fun w' hw' => ?y162)) hS0 ?_
        case y162 => (have h99 := HST.out; clear hw'; first | (go_simp; rfl) | (go_simp; done))
        simp only [Act.put, List.setIfInBounds_toArray, List.set_cons_zero, List.set_cons_succ]
        refine wpAnyG_take (i := 9) (v := ?v163) rfl (by kernel_rfl) (by kernel_rfl) (by kernel_rfl) (by kernel_rfl) (fun _ _ _ h => h) (yieldsIf_run rfl (fun w' hw' => ?y163)) hS0 ?_
        case y163 => first | (go_simp; rfl) | (go_simp; done) | rfl
        simp only [Act.put, List.setIfInBounds_toArray, List.set_cons_zero, List.set_cons_succ]
        refine wpAnyG_take (i := 10) (v := ?v164) rfl (by kernel_rfl) (by kernel_rfl) (by kernel_rfl) (by kernel_rfl) (fun _ _ _ h => h) (yieldsIf_run rfl (fun w' hw' => ?y164)) hS0 ?_
        case y164 => first | (go_simp; rfl) | (go_simp; done) | rfl
        simp only [Act.put, List.setIfInBounds_toArray, List.set_cons_zero, List.set_cons_succ]
        refine wpAnyG_take (i := 11) (v := ?v165) rfl (by kernel_rfl) (by kernel_rfl) (by kernel_rfl) (by kernel_rfl) (fun _ _ _ h => h) (yieldsIf_want rfl (fun w' hw' => ?y165)) hS0 ?_
        case y165 => (obtain ⟨h0, h1, h2, h3⟩ := HF.out w' hw'; clear hw'; first | (go_simp; rfl) | (go_simp; done))
        simp only [Act.put, List.setIfInBounds_toArray, List.set_cons_zero, List.set_cons_succ]
        refine wpAnyG_take (i := 13) (v := ?v166) rfl (by kernel_rfl) (by kernel_rfl) (by kernel_rfl) (by kernel_rfl) (fun _ _ _ h => h) (yieldsIf_want rfl (fun w' hw' => ?y166)) hS0 ?_
        case y166 => first | (go_simp; rfl) | (go_simp; done) | rfl
        simp only [Act.put, List.setIfInBounds_toArray, List.set_cons_zero, List.set_cons_succ]
        refine wpAnyG_take (i := 14) (v := ?v167) rfl (by kernel_rfl) (by kernel_rfl) (by kernel_rfl) (by kernel_rfl) (fun _ _ _ h => h) (yieldsIf_want rfl (fun w' hw' => ?y167)) hS0 ?_
        case y167 => (obtain ⟨h0, h1, h2, h3⟩ := HF.out w' hw'; clear hw'; first | (go_simp; rfl) | (go_simp; done))
        simp only [Act.put, List.setIfInBounds_toArray, List.set_cons_zero, List.set_cons_succ]
        refine wpAnyG_take (i := 15) (v := ?v168) rfl (by kernel_rfl) (by kernel_rfl) (by kernel_rfl) (by kernel_rfl) (fun _ _ _ h => h) (yieldsIf_want rfl (fun w' hw' => ?y168)) hS0 ?_
        case y168 => first | (go_simp; rfl) | (go_simp; done) | rfl
        simp only [Act.put, List.setIfInBounds_toArray, List.set_cons_zero, List.set_cons_succ]
        refine wpAnyG_take (i := 16) (v := ?v169) rfl (by kernel_rfl) (by kernel_rfl) (by kernel_rfl) (by kernel_rfl) (fun _ _ _ h => h) (yieldsIf_want rfl (fun w' hw' => ?y169)) hS0 ?_
        case y169 => (obtain ⟨h0, h1, h2, h3⟩ := HF.out w' hw'; clear hw'; first | (go_simp; rfl) | (go_simp; done))
        simp only [Act.put, List.setIfInBounds_toArray, List.set_cons_zero, List.set_cons_succ]
        refine wpAnyG_take (i := 17) (v := .int .i64 ((M - k : Nat) : Int)) rfl (by kernel_rfl) (by kernel_rfl) (by kernel_rfl) (by kernel_rfl) (fun _ _ _ h => h) (yieldsIf_want rfl (fun w' hw' => ?y170)) hS0 ?_
        case y170 => (have h99 : IntKind.i64.wrap ((M : Int) - (k : Int)) = ((M - k : Nat) : Int) := (IntWalk.i64_in _ (by have := HM40.out; have := HKE.out; omega)).trans (by have := HKE.out; omega); clear hw'; first | (go_simp; rfl) | (go_simp; done))
        simp only [Act.put, List.setIfInBounds_toArray, List.set_cons_zero, List.set_cons_succ]
        refine wpAnyG_want (i := 12) (by kernel_rfl) rfl rfl (fun K hK => ?_)
        go_simp
        go_at_call 22
        refine (HLN.out _ hS0).mono ?_
        rintro e wl ⟨rfl, hbwl⟩
        have hSwl := hS0.trans (hbwl.mono hS0.size)
        refine hK _ _ hSwl ?_
        clear hK K
        try simp only [Act.put, List.setIfInBounds_toArray, List.set_cons_zero, List.set_cons_succ]
        refine wpAnyG_take (i := 18) (v := .bool true) rfl (by kernel_rfl) (by kernel_rfl) (by kernel_rfl) (by kernel_rfl) (fun _ _ _ h => h) (yieldsIf_want rfl (fun w' hw' => ?y171)) hSwl ?_
        case y171 => first | (go_simp; rfl) | (go_simp; done) | rfl
        simp only [Act.put, List.setIfInBounds_toArray, List.set_cons_zero, List.set_cons_succ]
        refine wpAnyG_take (i := 19) (v := ?v172) rfl (by kernel_rfl) (by kernel_rfl) (by kernel_rfl) (by kernel_rfl) (fun _ _ _ h => h) (yieldsIf_run rfl (fun w' hw' => ?y172)) hSwl ?_
        case y172 => first | (go_simp; rfl) | (go_simp; done) | rfl
        simp only [Act.put, List.setIfInBounds_toArray, List.set_cons_zero, List.set_cons_succ]
        refine wpAnyG_fin (i := 20) (by kernel_rfl) rfl rfl (by kernel_rfl) (fun K hK => ?_)
        have hz4 := (hSwl.block A4 HSZ.out.1).trans HZ4.out
        have cd := cell_of_row wl _ 0 _ _ _ hz4
        have fd := frozen_of_row wl _ 0 _ _ hz4
        simp only [List.getElem?_toArray, List.getElem?_cons_zero] at cd
        go_simp
        refine hK _ _ ?_
        clear hK K
        try simp only [Act.put, List.setIfInBounds_toArray, List.set_cons_zero, List.set_cons_succ]
        refine wpAnyG_done (by kernel_rfl) ?_ _
        refine NoPanic.normal ?_
        have hRz : (wl.setCell ⟨A4, 0, none⟩ (.bool true)).heap[A4]? = some (.cells #[.bool true] 4 (0, 0)) := heap_setCell_same _ _ _ _ _ _ hz4
        have hKz : (wl.setCell ⟨A4, 0, none⟩ (.bool true)).heap[D]? = some (.deferred (some [])) := (heap_setCell_other wl ⟨A4, 0, none⟩ _ _ HSZ.out.2).trans ((hSwl.block _ HDW.out).trans HKD.out)
        have hBz : Below w.heap.size w (wl.setCell ⟨A4, 0, none⟩ (.bool true)) := (HBW.out.trans (hSwl.mono HBW.out.size)).setCell (show w.heap.size ≤ A4 by have := HZ.out; omega) _
        obtain ⟨wz, hwz⟩ : ∃ wz, wl.setCell ⟨A4, 0, none⟩ (.bool true) = wz := ⟨_, rfl⟩
        rw [hwz] at hRz hKz hBz ⊢
        have HRz := Lib.hid hRz
        have HKz := Lib.hid hKz
        have HBz := Lib.hid hBz
        have HDA := Lib.hid (show D ≠ A4 ∧ w.heap.size ≤ D from ⟨HSZ.out.2, by have := HZ.out; omega⟩)
        clear hwz hRz hKz hBz cd fd hz4 hSwl
        go_wp2_with fail
        refine ⟨by simp, .inl ⟨_, _, rfl, run_takeDeferred HKz.out, ?_⟩⟩
        have hcz : (wz.putObj D (.deferred none)).cell? ⟨A4, 0, none⟩ = some (.bool true) := by
          have h9 : (wz.putObj D (.deferred none)).heap[A4]? = _ := (World.putObj_heap_other (by have := HDA.out.1; omega)).trans HRz.out
          simp [World.cell?, h9]
        have hBf : Below w.heap.size w (wz.putObj D (.deferred none)) := HBz.out.trans (belowK_b (w := w) (Nat.le_refl _) wz D _ _ HDA.out.2 HKz.out rfl rfl)
        refine ⟨_, ?_, rfl, hBf⟩
        simp only [results, show Try.f6.results = #[.cell 4 4] from rfl]
        go_simp
end Go.Proofs.Ytnmdgjodbikndaa
