/- DiskSparse. -/
import Derived.Test.YtkklbmnbjmicnaaSp5
namespace Go.Proofs.Ytkklbmnbjmicnaa
open Go.RowKit Go.Shelf
set_option linter.unusedVariables false
set_option linter.unusedSimpArgs false
attribute [local go_sem] Oper.semAt_some

set_option maxRecDepth 100000 in
set_option maxHeartbeats 2000000 in
theorem DiskSparse_yes (sd : Nat) (hsd : sd < 256) (l : List OpD) (lv : Value) (stop : Int) (w : World) (h : OpsAt w (fun k => k < w.heap.size) lv l) (ha : ∀ o ∈ l, o.a ≤ 9223372036854775807 ∧ o.cs.length ≤ 9223372036854775807) (hl : l.length ≤ 40) :
    Calls Try.prog 10 #[.int .u8 (sd : Int), lv, .int .i64 stop] w fun e w' => e = .returned (.bool true) ∧ Below w.heap.size w w' := by
  have HO := Lib.hid h
  have HA := Lib.hid ha
  obtain ⟨la, lc, rfl, _⟩ := h
  clear ha
  obtain ⟨n, hn, hn1, hn2⟩ := sectors_of sd
  have HN := Lib.hid hn
  clear hn
  obtain ⟨w1, hw1⟩ : ∃ w1, (w.alloc (.cells #[.int .i64 stop] 3)).alloc (.cells #[.bool false] 4) = w1 := ⟨_, rfl⟩
  have hb1 : Below w.heap.size w w1 := hw1 ▸ ((Below.refl _ _).alloc (Nat.le_refl _) _).alloc (by simp) _
  have n1 : w1.heap[w.heap.size]? = some (.cells #[.int .i64 stop] 3 (0, 0)) := by rw [← hw1, Below.heap_alloc _ _ _ (by simp)]; exact heap_alloc_new w _
  have n2 : w1.heap[w.heap.size + 1]? = some (.cells #[.bool false] 4 (0, 0)) := by
    have := heap_alloc_new (w.alloc (.cells #[.int .i64 stop] 3)) (.cells #[.bool false] 4)
    rw [World.size_alloc] at this
    rw [← hw1]; exact this
  have hs1 : w1.heap.size = w.heap.size + 2 := by rw [← hw1]; simp
  have HB1 := Lib.hid hb1
  have HN1 := Lib.hid n1
  have HN2 := Lib.hid n2
  have HS1 := Lib.hid hs1
  clear hb1 n1 n2 hs1
  refine (callsIn_wide (n := 4)).1 ?_
  refine callsIn_of_wp_marks Try.func10 rfl trivial ?_ rfl
  simp only [Try.ntmps10, List.size_toArray, List.length_cons, List.length_nil, Nat.reduceAdd, Nat.reduceSub, Array.replicate_succ, Array.replicate_zero, List.push_toArray, List.append_toArray, List.nil_append, List.cons_append]
  refine wpIn_wide.2 ?_
  go_wp2_with fail
  try rw [hw1]
  clear hw1
  refine (known_any _).mono ?_
  rintro e w2 ⟨rfl, hb2⟩
  have hb2' : Below w.heap.size w w2 := HB1.out.trans (hb2.mono HB1.out.size)
  have HB2 := Lib.hid hb2
  have HB2W := Lib.hid hb2'
  clear hb2 hb2'
  go_wp2_with fail
  refine (small_yes _ _ _ hl).mono ?_
  rintro e w2' ⟨rfl, rfl⟩
  go_wp2_with fail
  rw [HN.out]
  refine (run_at n l _ hn1 hn2 HO.out HB2W.out hl HA.out).mono ?_
  rintro e w3 ⟨b, v, F, G, rfl, hD, hR, hFG, hF, hG, hb3⟩
  have hbd := (runDS_bnd n l (fun o ho => (HA.out o ho).1) l.length (Nat.le_refl _)).pend
  rw [List.take_length] at hbd
  obtain ⟨S, hS⟩ : ∃ S, S = runDS n l := ⟨_, rfl⟩
  rw [← hS] at hD hR hbd
  obtain ⟨da, dc, wa, wc, rfl⟩ := hR.form
  have hok := hD.ok
  obtain ⟨w4, hw4⟩ : ∃ w4, w3.alloc (.cells #[.slice da S.dur.length dc, .slice wa S.pend.length wc, .int .i64 (limI S), .bool S.down, .int .i64 (S.ops : Int)] 45) = w4 := ⟨_, rfl⟩
  have hb4 : Below w3.heap.size w3 w4 := hw4 ▸ (Below.refl _ _).alloc (Nat.le_refl _) _
  have n4 : w4.heap[w3.heap.size]? = some (.cells #[.slice da S.dur.length dc, .slice wa S.pend.length wc, .int .i64 (limI S), .bool S.down, .int .i64 (S.ops : Int)] 45 (0, 0)) := by rw [← hw4]; exact heap_alloc_new w3 _
  obtain ⟨e0, e1, e2, e3, e4, ef⟩ := cells5 n4
  clear n4
  have hD4 := hD.below hb4
  have hR4 := hR.below hb4
  have hb24 : Below w2.heap.size w2 w4 := hb3.trans (hb4.mono hb3.size)
  have HD4 := Lib.hid hD4
  have HR4 := Lib.hid hR4
  have HB24 := Lib.hid hb24
  have HOK := Lib.hid hok
  have HBD := Lib.hid hbd
  unfold refV
  clear hD hR hFG hF hG hb3 hS hb4 hD4 hR4 hb24 hok hbd
  go_wp2_with fail
  try rw [hw4]
  clear hw4 e0 e1 e2 e3 e4 ef
  refine (ref_sparse_any HR4.out HOK.out (by have := HBD.out; omega)).mono ?_
  rintro e w5 ⟨v', rfl, hown5, hb5⟩
  obtain ⟨va, vc, rfl⟩ := ownsRow_form hown5
  obtain ⟨L, hLe⟩ : ∃ L, L = lstS S := ⟨_, rfl⟩
  have hLl : L.length ≤ 4096 := by rw [hLe]; exact Nat.le_trans (lstS_length S) HOK.out.most
  rw [← hLe] at hown5 ⊢
  obtain ⟨w6, hw6⟩ : ∃ w6, (w5.alloc (.cells #[.slice va L.length vc] 68)).alloc (.cells #[.int .i64 0] 3) = w6 := ⟨_, rfl⟩
  have hob : ∀ g, (Value.slice va L.length vc).ownBlock = some g → g < w5.heap.size := fun g hg => (ownsRow_lt hown5 g hg).2
  have HOB := Lib.hid hob
  clear hob
  have HO5 := Lib.hid hown5
  have HB5 := Lib.hid hb5
  have HLE := Lib.hid hLe
  have hb6 : Below w5.heap.size w5 w6 := hw6 ▸ ((Below.refl _ _).alloc (Nat.le_refl _) _).alloc (by simp) _
  have n6 : w6.heap[w5.heap.size]? = some (.cells #[.slice va L.length vc] 68 (0, 0)) := by rw [← hw6, Below.heap_alloc _ _ _ (by simp)]; exact heap_alloc_new w5 _
  have n6' : w6.heap[w5.heap.size + 1]? = some (.cells #[.int .i64 0] 3 (0, 0)) := by
    have := heap_alloc_new (w5.alloc (.cells #[.slice va L.length vc] 68)) (.cells #[.int .i64 0] 3)
    rw [World.size_alloc] at this
    rw [← hw6]; exact this
  have hs6 : w6.heap.size = w5.heap.size + 2 := by rw [← hw6]; simp
  have HB6 := Lib.hid hb6
  have HN6 := Lib.hid n6
  have HN6' := Lib.hid n6'
  have HS6 := Lib.hid hs6
  have HW6 := Lib.hid hw6
  clear hb6 n6 n6' hs6 hown5 hb5 hLe hw6
  go_wp2_with fail
  rw [HW6.out]
  clear HW6
  refine (Sparse_any _).mono ?_
  rintro e w7 ⟨rfl, hw7⟩
  have hb67 : Below w6.heap.size w6 w7 := hw7 ▸ (Below.refl _ _).alloc (Nat.le_refl _) _
  have n7 : w7.heap[w6.heap.size]? = some (.cells #[.pointer (some ⟨b, 0, none⟩)] 23 (0, 0)) := by rw [hw7]; exact heap_alloc_new w6 _
  have c7 : w7.cell? ⟨w6.heap.size, 0, none⟩ = some (.pointer (some ⟨b, 0, none⟩)) := by rw [cell_of_row w7 _ 0 _ _ _ n7]; rfl
  have hs7 : w7.heap.size = w6.heap.size + 1 := by rw [hw7, World.size_alloc]
  clear hw7 n7
  have hb47 : Below w4.heap.size w4 w7 := HB5.out.trans ((HB6.out.trans (hb67.mono HB6.out.size)).mono HB5.out.size)
  have hD7 : DiskAt w7 F b S := HD4.out.below hb47
  have hb57 : Below w5.heap.size w5 w7 := HB6.out.trans (hb67.mono HB6.out.size)
  have hO7 := ownsRow_chg (G := fun _ => False) HO5.out (Chg.of_below hb57) (fun _ _ _ h => h)
  have hs6 := HS6.out
  have n7a : w7.heap[w5.heap.size]? = _ := (hb67.block _ (by omega)).trans HN6.out
  have n7b : w7.heap[w5.heap.size + 1]? = _ := (hb67.block _ (by omega)).trans HN6'.out
  have hb1_7 : Below w1.heap.size w1 w7 := (HB2.out.trans (HB24.out.mono HB2.out.size)).trans (hb47.mono (Nat.le_trans HB2.out.size HB24.out.size))
  have hs1 := HS1.out
  have n7c : w7.heap[w.heap.size]? = _ := (hb1_7.block _ (by omega)).trans HN1.out
  have n7d : w7.heap[w.heap.size + 1]? = _ := (hb1_7.block _ (by omega)).trans HN2.out
  have hw7 : Below w.heap.size w w7 := HB1.out.trans (hb1_7.mono HB1.out.size)
  have hz : w.heap.size + 1 < w5.heap.size ∧ w5.heap.size + 1 < w6.heap.size ∧ w6.heap.size < w7.heap.size := ⟨by have := HB2.out.size; have := HB24.out.size; have := HB5.out.size; omega, by omega, by omega⟩
  have HD7 := Lib.hid hD7
  have HO7 := Lib.hid hO7
  have HN7a := Lib.hid n7a
  have HN7b := Lib.hid n7b
  have HN7c := Lib.hid n7c
  have HN7d := Lib.hid n7d
  have HW7 := Lib.hid hw7
  have HC7 := Lib.hid c7
  clear hb67 c7 hs7 hb47 hD7 hb57 hO7 hs6 n7a n7b hb1_7 hs1 n7c n7d hw7 HB1 HN1 HN2 HS1 HB2 HB2W HB24 HB5 HB6 HN6 HN6' HS6 HO5 HD4 HR4
  go_wp2_with fail
  refine (wpIn_wide (n := 4)).1 ?_
  refine wpIn_rangeFunc_ownH (α := Nat) rfl (by decide) (gf := 55) (lb := #[.pointer (some ⟨w6.heap.size, 0, none⟩)]) rfl trivial (enters_of Try.func55 (by kernel_rfl) rfl)
    (sparse_stops w6.heap.size w7.heap.size _ L (by omega) w7 hz.2.2 (Nat.le_refl _) HC7.out (fun W hW => by rw [HLE.out]; exact sparse_any (HD7.out.below hW) (by have := HBD.out; omega))) CellsKept.trans (fun W l o o' _ h ho _ => CellsKept.putObj W l o o' h ho) (Below.refl _ _) (fun x => rfl)
    (SpI w7 (w5.heap.size + 1) L) (SpX w7 (w5.heap.size + 1) (w.heap.size + 1) L stop) (spI_from (by omega) L) (fun c => spX_from (by omega) L stop c) ⟨Nat.zero_le _, HN7b.out, Chg.refl _ _⟩
    (fun x a' _ => a' = { tmps := #[.int .u8 (sd : Int), .slice la l.length lc, .int .i64 stop, undef, undef, .pointer (some ⟨w.heap.size, 0, none⟩), .pointer (some ⟨w.heap.size + 1, 0, none⟩), .pointer (some ⟨b, 0, none⟩), .pointer (some ⟨w3.heap.size, 0, none⟩), .bool true, .pointer (some ⟨w5.heap.size, 0, none⟩), .pointer (some ⟨w5.heap.size + 1, 0, none⟩), .int .i64 (x : Int), .bool true, .bool false, .bool false, .slice la l.length lc, .bool true, .bool false, .bool false, undef, Value.tuple #[.pointer (some ⟨b, 0, none⟩), Value.agg #[.slice da S.dur.length dc, .slice wa S.pend.length wc, .int .i64 (limI S), .bool S.down, .int .i64 (S.ops : Int)], .bool true], .int .u8 (sd : Int), .int .u8 ((sd : Int) % 12), .int .i64 ((sd : Int) % 12), .int .i64 (n : Int), .slice la l.length lc, Value.tuple #[.pointer (some ⟨b, 0, none⟩), Value.agg #[.slice da S.dur.length dc, .slice wa S.pend.length wc, .int .i64 (limI S), .bool S.down, .int .i64 (S.ops : Int)], .bool true], .pointer (some ⟨b, 0, none⟩), Value.agg #[.slice da S.dur.length dc, .slice wa S.pend.length wc, .int .i64 (limI S), .bool S.down, .int .i64 (S.ops : Int)], .bool true, .bool true, .bool false, Value.agg #[.slice da S.dur.length dc, .slice wa S.pend.length wc, .int .i64 (limI S), .bool S.down, .int .i64 (S.ops : Int)], .slice va L.length vc, .pointer (some ⟨b, 0, none⟩), .func (.func 55) #[] #[.pointer (some ⟨w6.heap.size, 0, none⟩)], .int .i64 (x : Int), undef, undef, undef, undef, undef, undef, undef, undef, undef, undef, undef, undef, undef, undef, undef, undef, undef, undef, undef, undef, undef, undef, undef, undef, undef, undef], defers := [] }) (fun _ _ _ _ _ _ h _ _ => h) ?assign ?body ?done ?stop
  case assign =>
    rintro k pre x W K hI hK
    unfold encN
    gi_wp2
    exact hK _ _ (KeepsFrom.refl _ _) (CellsKept.refl _ _) hI rfl
  case body =>
    rintro k pre x a' W hk ⟨r, hr⟩ ⟨hp, hn, hC⟩ rfl hlt
    have hza := (hC.block (w5.heap.size) (by omega) (by omega)).trans HN7a.out
    have hzc := (hC.block (w.heap.size) (by omega) (by omega)).trans HN7c.out
    have hzd := (hC.block (w.heap.size + 1) (by omega) (by omega)).trans HN7d.out
    have cn := cell_of_row W _ 0 _ _ _ hn
    have ca := cell_of_row W _ 0 _ _ _ hza
    have cc := cell_of_row W _ 0 _ _ _ hzc
    have cd := cell_of_row W _ 0 _ _ _ hzd
    have fn := frozen_of_row W _ 0 _ _ hn
    have fd := frozen_of_row W _ 0 _ _ hzd
    simp only [List.getElem?_toArray, List.getElem?_cons_zero] at cn ca cc cd
    have hI : SpI w7 (w5.heap.size + 1) L pre W := ⟨hp, hn, hC⟩
    have HI := Lib.hid hI
    have HN := Lib.hid hn
    have HC := Lib.hid hC
    have HR := Lib.hid hr
    obtain ⟨gv, cap, e1, hgv, _, hcl⟩ := ownsRow_at (ownsRow_chg' (G := fun k => k = w5.heap.size + 1) HO7.out hC (fun g hg he => by have := HOB.out g hg; omega)) (by omega)
    simp only [Value.slice.injEq] at e1
    obtain ⟨rfl, _, rfl⟩ := e1
    have hv : W.cell? ⟨gv, pre.length, none⟩ = some (.int .i64 ((L[pre.length] : Nat) : Int)) := hcl _ _ (by simp [spV, hlt])
    clear hza hzc hzd hn hC hI hr hcl hgv
    have hlt1 : ¬ (L.length : Int) ≤ (pre.length : Int) := by omega
    by_cases hx : x = L[pre.length]
    · have hxe : ((x : Int) == ((L[pre.length] : Nat) : Int)) = true := by simp [hx]
      have hxn : ((x : Int) != ((L[pre.length] : Nat) : Int)) = false := by simp [hx]
      by_cases hst : stop = (pre.length : Int) + 1
      · have hse : ((pre.length : Int) + 1 == stop) = true := by simp [hst]
        have hI' := spI_next HN.out HC.out hlt (x := x)
        have HI' := Lib.hid hI'
        have HST := Lib.hid hst
        have HX := Lib.hid hx
        clear hI' hst
        subst hx
        gi_wp2
        exact ⟨KeepsFrom.of_grownBy (grownBy_setCell W (w5.heap.size + 1) 0 _) (fun j e => by cases e; omega), .inr ⟨rfl, by rw [List.length_append]; exact HST.out, HI'.out⟩⟩
      · have hse : ((pre.length : Int) + 1 == stop) = false := by simp; omega
        have hI' := spI_next HN.out HC.out hlt (x := x)
        have HI' := Lib.hid hI'
        clear hI'
        subst hx
        gi_wp2
        exact ⟨KeepsFrom.of_grownBy (grownBy_setCell W (w5.heap.size + 1) 0 _) (fun j e => by cases e; omega), CellsKept.setCell W _ (by show w5.heap.size + 1 < w7.heap.size; omega), HI'.out⟩
    · have hxe : ((x : Int) == ((L[pre.length] : Nat) : Int)) = false := by simp; omega
      have hxn : ((x : Int) != ((L[pre.length] : Nat) : Int)) = true := by simp; omega
      have hnp : ¬ pre ++ [x] <+: L := not_prefix_of (by rw [List.getElem?_eq_getElem hlt]; intro e; exact hx (Option.some.inj e).symm)
      have HNP := Lib.hid hnp
      clear hnp
      gi_wp2
      exact ⟨KeepsFrom.of_grownBy (grownBy_setCell W (w.heap.size + 1) 0 _) (fun j e => by cases e; omega), .inl ⟨rfl, HNP.out⟩⟩
  case done =>
    rintro D xs W hD rfl ⟨hp, hn, hC⟩ hK
    have hza := (hC.block (w5.heap.size) (by omega) (by omega)).trans HN7a.out
    have hzc := (hC.block (w.heap.size) (by omega) (by omega)).trans HN7c.out
    have hzd := (hC.block (w.heap.size + 1) (by omega) (by omega)).trans HN7d.out
    have cn := cell_of_row W _ 0 _ _ _ hn
    have ca := cell_of_row W _ 0 _ _ _ hza
    have cc := cell_of_row W _ 0 _ _ _ hzc
    have cd := cell_of_row W _ 0 _ _ _ hzd
    have fd := frozen_of_row W _ 0 _ _ hzd
    simp only [List.getElem?_toArray, List.getElem?_cons_zero] at cn ca cc cd
    have hBW : Below w.heap.size w W := HW7.out.trans (hC.below (fun k e => by omega) HW7.out.size)
    obtain ⟨wz, hwz⟩ : ∃ wz, W.setCell ⟨w.heap.size + 1, 0, none⟩ (.bool true) = wz := ⟨_, rfl⟩
    have hKz : wz.heap[D]? = some (.deferred (some [])) := by rw [← hwz]; exact (heap_setCell_other W ⟨w.heap.size + 1, 0, none⟩ _ _ (by show D ≠ w.heap.size + 1; omega)).trans hK
    have hRz : wz.heap[w.heap.size + 1]? = some (.cells #[.bool true] 4 (0, 0)) := by rw [← hwz]; exact heap_setCell_same _ _ _ _ _ _ hzd
    have hBz : Below w.heap.size w wz := by rw [← hwz]; exact hBW.setCell (Nat.le_succ _) _
    have HKz := Lib.hid hKz
    have HRz := Lib.hid hRz
    have HBz := Lib.hid hBz
    have HWZ := Lib.hid hwz
    clear hza hzc hzd hn hC hBW hK hKz hRz hBz hwz
    · go_wp2_with fail
      rw [HWZ.out]
      refine ⟨by simp, .inl ⟨_, _, rfl, run_takeDeferred HKz.out, ?_⟩⟩
      have hcz : (wz.putObj D (.deferred none)).cell? ⟨w.heap.size + 1, 0, none⟩ = some (.bool true) := by
        have h9 : (wz.putObj D (.deferred none)).heap[w.heap.size + 1]? = _ := (World.putObj_heap_other (by omega)).trans HRz.out
        simp [World.cell?, h9]
      have hBf : Below w.heap.size w (wz.putObj D (.deferred none)) := HBz.out.trans (belowK_b (w := w) (Nat.le_refl _) wz D _ _ (by omega) HKz.out rfl rfl)
      refine ⟨_, ?_, rfl, hBf⟩
      simp only [results, show Try.f10.results = #[.cell 6 4] from rfl]
      go_simp
  case stop =>
    rintro D c pre W hD hpre (⟨rfl, hnp⟩ | ⟨rfl, hst, hp, hn, hC⟩) hK
    · exact absurd hpre hnp
    have hza := (hC.block (w5.heap.size) (by omega) (by omega)).trans HN7a.out
    have hzc := (hC.block (w.heap.size) (by omega) (by omega)).trans HN7c.out
    have hzd := (hC.block (w.heap.size + 1) (by omega) (by omega)).trans HN7d.out
    have cn := cell_of_row W _ 0 _ _ _ hn
    have ca := cell_of_row W _ 0 _ _ _ hza
    have cc := cell_of_row W _ 0 _ _ _ hzc
    have cd := cell_of_row W _ 0 _ _ _ hzd
    have fd := frozen_of_row W _ 0 _ _ hzd
    simp only [List.getElem?_toArray, List.getElem?_cons_zero] at cn ca cc cd
    have hBW : Below w.heap.size w W := HW7.out.trans (hC.below (fun k e => by omega) HW7.out.size)
    obtain ⟨wz, hwz⟩ : ∃ wz, W.setCell ⟨w.heap.size + 1, 0, none⟩ (.bool true) = wz := ⟨_, rfl⟩
    have hKz : wz.heap[D]? = some (.deferred (some [])) := by rw [← hwz]; exact (heap_setCell_other W ⟨w.heap.size + 1, 0, none⟩ _ _ (by show D ≠ w.heap.size + 1; omega)).trans hK
    have hRz : wz.heap[w.heap.size + 1]? = some (.cells #[.bool true] 4 (0, 0)) := by rw [← hwz]; exact heap_setCell_same _ _ _ _ _ _ hzd
    have hBz : Below w.heap.size w wz := by rw [← hwz]; exact hBW.setCell (Nat.le_succ _) _
    have HKz := Lib.hid hKz
    have HRz := Lib.hid hRz
    have HBz := Lib.hid hBz
    have HWZ := Lib.hid hwz
    clear hza hzc hzd hn hC hBW hK hKz hRz hBz hwz
    subst hst
    by_cases hle : pre.length = L.length
    · have h1 : ((pre.length : Int) == (L.length : Int)) = true := by simp [hle]
      clear hle
      gi_wp2
      go_wp2_with fail
      rw [HWZ.out]
      refine ⟨by simp, .inl ⟨_, _, rfl, run_takeDeferred HKz.out, ?_⟩⟩
      have hcz : (wz.putObj D (.deferred none)).cell? ⟨w.heap.size + 1, 0, none⟩ = some (.bool true) := by
        have h9 : (wz.putObj D (.deferred none)).heap[w.heap.size + 1]? = _ := (World.putObj_heap_other (by omega)).trans HRz.out
        simp [World.cell?, h9]
      have hBf : Below w.heap.size w (wz.putObj D (.deferred none)) := HBz.out.trans (belowK_b (w := w) (Nat.le_refl _) wz D _ _ (by omega) HKz.out rfl rfl)
      refine ⟨_, ?_, rfl, hBf⟩
      simp only [results, show Try.f10.results = #[.cell 6 4] from rfl]
      go_simp
    · have h1 : ((pre.length : Int) == (L.length : Int)) = false := by simp; omega
      gi_wp2
      go_wp2_with fail
      rw [HWZ.out]
      refine ⟨by simp, .inl ⟨_, _, rfl, run_takeDeferred HKz.out, ?_⟩⟩
      have hcz : (wz.putObj D (.deferred none)).cell? ⟨w.heap.size + 1, 0, none⟩ = some (.bool true) := by
        have h9 : (wz.putObj D (.deferred none)).heap[w.heap.size + 1]? = _ := (World.putObj_heap_other (by omega)).trans HRz.out
        simp [World.cell?, h9]
      have hBf : Below w.heap.size w (wz.putObj D (.deferred none)) := HBz.out.trans (belowK_b (w := w) (Nat.le_refl _) wz D _ _ (by omega) HKz.out rfl rfl)
      refine ⟨_, ?_, rfl, hBf⟩
      simp only [results, show Try.f10.results = #[.cell 6 4] from rfl]
      go_simp

set_option maxRecDepth 100000 in
set_option maxHeartbeats 2000000 in
theorem DiskSparse_no (sd : Nat) (a : Option Addr) (n c : Nat) (stop : Int) (w : World) (hl : 40 < n) :
    Calls Try.prog 10 #[.int .u8 (sd : Int), .slice a n c, .int .i64 stop] w fun e w' => e = .returned (.bool true) ∧ Below w.heap.size w w' := by
  obtain ⟨w1, hw1⟩ : ∃ w1, (w.alloc (.cells #[.int .i64 stop] 3)).alloc (.cells #[.bool false] 4) = w1 := ⟨_, rfl⟩
  have hb1 : Below w.heap.size w w1 := hw1 ▸ ((Below.refl _ _).alloc (Nat.le_refl _) _).alloc (by simp) _
  have n2 : w1.heap[w.heap.size + 1]? = some (.cells #[.bool false] 4 (0, 0)) := by
    have := heap_alloc_new (w.alloc (.cells #[.int .i64 stop] 3)) (.cells #[.bool false] 4)
    rw [World.size_alloc] at this
    rw [← hw1]; exact this
  have HB1 := Lib.hid hb1
  have HN2 := Lib.hid n2
  have hlt := (Array.getElem?_eq_some_iff.1 n2).1
  have HLT := Lib.hid hlt
  have HW1 := Lib.hid hw1
  clear hb1 n2 hlt hw1
  refine (callsIn_wide (n := 4)).1 ?_
  refine callsIn_of_wp_marks Try.func10 rfl trivial ?_ rfl
  simp only [Try.ntmps10, List.size_toArray, List.length_cons, List.length_nil, Nat.reduceAdd, Nat.reduceSub, Array.replicate_succ, Array.replicate_zero, List.push_toArray, List.append_toArray, List.nil_append, List.cons_append]
  refine wpIn_wide.2 ?_
  go_wp2_with fail
  rw [HW1.out]
  refine (known_any _).mono ?_
  rintro e w2 ⟨rfl, hb2⟩
  go_wp2_with fail
  refine (small_no _ _ _ hl).mono ?_
  rintro e w2' ⟨rfl, rfl⟩
  go_wp2_with fail
  refine (known_any _).mono ?_
  rintro e w3 ⟨rfl, hb3⟩
  have n3 : w3.heap[w.heap.size + 1]? = _ := ((hb2.trans (hb3.mono hb2.size)).block _ HLT.out).trans HN2.out
  have hb3' := HB1.out.trans ((hb2.trans (hb3.mono hb2.size)).mono HB1.out.size)
  have HB3 := Lib.hid hb3'
  have cd := cell_of_row w3 _ 0 _ _ _ n3
  have fd := frozen_of_row w3 _ 0 _ _ n3
  simp only [List.getElem?_toArray, List.getElem?_cons_zero] at cd
  clear n3 hb2 hb3 hb3'
  go_wp2_with fail
  have hc := World.cell?_setCell_same' w3 ⟨w.heap.size + 1, 0, none⟩ (.bool true) (by rw [cd]; rfl)
  have hBf : Below w.heap.size w (w3.setCell ⟨w.heap.size + 1, 0, none⟩ (.bool true)) := HB3.out.setCell (Nat.le_succ _) _
  refine ⟨_, ?_, rfl, hBf⟩
  simp only [results, show Try.f10.results = #[.cell 6 4] from rfl]
  go_simp

theorem DiskSparse_any (sd : Nat) (hsd : sd < 256) (l : List OpD) (lv : Value) (stop : Int) (w : World) (h : OpsAt w (fun k => k < w.heap.size) lv l) (ha : ∀ o ∈ l, o.a ≤ 9223372036854775807 ∧ o.cs.length ≤ 9223372036854775807) :
    Calls Try.prog 10 #[.int .u8 (sd : Int), lv, .int .i64 stop] w fun e w' => e = .returned (.bool true) ∧ Below w.heap.size w w' := by
  by_cases hl : l.length ≤ 40
  · exact DiskSparse_yes sd hsd l lv stop w h ha hl
  · obtain ⟨la, lc, rfl, _⟩ := h
    exact DiskSparse_no sd la l.length lc stop w (by omega)

end Go.Proofs.Ytkklbmnbjmicnaa
