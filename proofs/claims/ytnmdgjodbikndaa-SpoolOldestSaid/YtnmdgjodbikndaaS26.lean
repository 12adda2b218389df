/- The law Oldest: removing what Oldest returns frees enough bytes, and one article less does not. -/
import Derived.Test.YtnmdgjodbikndaaS23
import Derived.Test.YtnmdgjodbikndaaS25
import Derived.Test.YtnmdgjodbikndaaRange
namespace Go.Proofs.Ytnmdgjodbikndaa
open Go.RowKit
set_option linter.unusedVariables false
set_option linter.unusedSimpArgs false
attribute [local go_sem] Oper.semAt_some

theorem hide_post {P : Program} {c : Code} {Q : Exit → Act → World → Prop} {a : Act} {w : World} (h : ∀ Q', Hid (Q' = Q) → Code.wp P c Q' a w) : Code.wp P c Q a w := h Q (Lib.hid rfl)
/-- The arrival of the last article that was removed. -/
def lastA (T : List ArtD) : Nat → Int
  | 0 => -1
  | i + 1 => (T.getD i zA).arr
/-- What the law says of a spool's oldest articles, plainly. -/
structure OldFacts (S : SpD) (need : Int) (L : List IdB) (n : Nat) : Prop where
  len : L.length = n
  le : n ≤ (stab S.list).length
  ids : ∀ i (h : i < L.length), L[i] = ((stab S.list).getD i zA).id
  find : ∀ i, i < n → (delT S (stab S.list) i).find ((stab S.list).getD i zA).id = some ((stab S.list).getD i zA)
  ok : ∀ i, i ≤ n → (delT S (stab S.list) i).Ok ∧ (delT S (stab S.list) i).list.length ≤ S.list.length ∧ (delT S (stab S.list) i).budget = S.budget
  less : ∀ i, i < n → S.budget - ((delT S (stab S.list) i).size : Int) < need
  done : need ≤ S.budget - ((delT S (stab S.list) n).size : Int)
  last : ∀ i, i < n → lastA (stab S.list) i ≤ ((stab S.list).getD i zA).arr
  rest : 0 < n → ∀ x ∈ (delT S (stab S.list) n).list, lastA (stab S.list) n ≤ x.arr
theorem oldFacts {S : SpD} {need : Int} (hok : S.Ok) (hn : (S.list.map (·.id)).Nodup) (h1 : ¬ need < 0) (h2 : ¬ S.budget < need) : ∃ n, OldFacts S need (oldL S need) n := by
  obtain ⟨n, a1, a2, a3, a4⟩ := oldGo_spec need (stab S.list) (S.budget - (S.size : Int))
  have hc : oldC S need = 0 := by unfold oldC; rw [if_neg h1, if_neg h2]
  have hL : oldL S need = ((stab S.list).take n).map (·.id) := by unfold oldL; rw [if_pos hc]; exact a2
  have hsp := fun i (hi : i ≤ (stab S.list).length) => delT_spec hok hn (stab_perm S.list) i hi
  have hsz := fun i (hi : i ≤ (stab S.list).length) => delT_size hok hn (stab_perm S.list) hi
  have hgd : ∀ i (h : i < (stab S.list).length), (stab S.list).getD i zA = (stab S.list)[i] := fun i h => by rw [List.getD_eq_getElem?_getD, List.getElem?_eq_getElem h]; rfl
  refine ⟨n, by rw [hL, List.length_map, List.length_take]; omega, a1, fun i h => ?_, fun i hi => ?_, fun i hi => ⟨(hsp i (by omega)).2.2.2.1, ?_, (hsp i (by omega)).2.1⟩, fun i hi => ?_, ?_, fun i hi => ?_, fun h0 x hx => ?_⟩
  · simp only [hL]
    rw [List.getElem_map, List.getElem_take, hgd i (by rw [hL, List.length_map, List.length_take] at h; omega)]
  · rw [hgd i (by omega)]
    exact (hsp i (by omega)).2.2.2.2 (by omega)
  · have h := (hsp i (by omega)).1.length_eq
    rw [List.length_drop] at h
    have := (stab_perm S.list).length_eq
    omega
  · have := hsz i (by omega)
    have := a3 i hi
    omega
  · have h := hsz n a1
    rcases a4 with h4 | h4
    · rw [h, h4, List.take_length, szs_perm (stab_perm S.list)]
      have : (S.size : Int) = szs S.list := rfl
      omega
    · omega
  · cases i with
    | zero =>
      have := hok.ar ((stab S.list).getD 0 zA) (by rw [hgd 0 (by omega)]; exact (stab_perm S.list).mem_iff.1 (List.getElem_mem _))
      show (-1 : Int) ≤ _
      omega
    | succ i =>
      show ((stab S.list).getD i zA).arr ≤ _
      rw [hgd i (by omega), hgd (i + 1) (by omega)]
      exact stab_sorted S.list (by omega) (by omega)
  · obtain ⟨k, rfl⟩ : ∃ k, n = k + 1 := ⟨n - 1, by omega⟩
    have hx2 := (hsp (k + 1) a1).1.mem_iff.1 hx
    obtain ⟨j, hj, rfl⟩ := List.getElem_of_mem hx2
    show ((stab S.list).getD k zA).arr ≤ _
    rw [hgd k (by omega), List.getElem_drop]
    exact stab_sorted S.list (by omega) (by rw [List.length_drop] at hj; omega)
/-- Between two rounds of the range. -/
def OlI (W0 : World) (pre : List ArtD) (W : World) : Prop := Below W0.heap.size W0 W
def OlX (l : List ArtD) (c : Code) (pre : List ArtD) (W : World) : Prop := c = .ret ∧ ¬ pre <+: l
theorem olI_from {W0 : World} : OwnFrom W0.heap.size (OlI W0) := fun pre A B row h hg hr => h.grown hg h.size (fun k e => (hr k e).1)
theorem olX_from {B : Nat} (l : List ArtD) (c : Code) : OwnFrom B (OlX l c) := fun _ _ _ _ h _ _ => h
theorem u8_add {a : Int} (h0 : 0 ≤ a) (h1 : a ≤ 255) : IntKind.i64.wrap (1 + a) = 1 + a := IntWalk.i64_in _ (by omega)
set_option maxRecDepth 100000 in
set_option maxHeartbeats 2000000 in
theorem Oldest_no {w : World} (budget : Int) (hb0 : 0 ≤ budget ∧ budget ≤ 255) (v : Value) (L : List OpD) (hv : ListAt opE w v L) (need : Int) (hsb : smallB L = false) :
    Calls Try.prog 7 #[.int .u8 budget, v, .int .i64 need] w fun e w' => e = .returned (.bool true) ∧ Below w.heap.size w w' := by
  obtain ⟨w1, hw1⟩ : ∃ w1, w.alloc (.cells #[.bool false] 4) = w1 := ⟨_, rfl⟩
  have hb1 : Below w.heap.size w w1 := hw1 ▸ (Below.refl _ _).alloc (Nat.le_refl _) _
  have n2 : w1.heap[w.heap.size]? = some (.cells #[.bool false] 4 (0, 0)) := by rw [← hw1]; exact heap_alloc_new w _
  have hs1 : w1.heap.size = w.heap.size + 1 := by rw [← hw1]; simp
  obtain ⟨B, hB⟩ : ∃ B, 1 + budget = B := ⟨_, rfl⟩
  have hBr : 1 ≤ B ∧ B ≤ 256 := by omega
  obtain ⟨r, hr⟩ : ∃ r, smallB L = r := ⟨_, rfl⟩
  have HSM := Lib.hid (show ∀ w', Below w.heap.size w w' → Calls Try.prog 16 #[v] w' fun e w'' => e = .returned (.bool r) ∧ Below w'.heap.size w' w'' from fun w' hb => by
    have h := small_any v L (hv.below hb)
    rw [hr] at h
    exact h)
  have HRUN := Lib.hid (show r = true → ∀ w', Below w.heap.size w w' → Calls Try.prog 23 #[.int .i64 B, v] w' (RunPost w' B L) from fun h w' hb => run_any stableOk_forty B v L (hv.below hb) (small_len (hr.trans h)) (by decide))
  have HLEN := Lib.hid (show r = true → L.length ≤ 40 from fun h => small_len (hr.trans h))
  obtain ⟨va, vc, rfl⟩ := hv.form
  obtain ⟨N, hN⟩ : ∃ N, L.length = N := ⟨_, rfl⟩
  rw [hN] at HSM HRUN ⊢
  have HB1 := Lib.hid hb1
  have HN2 := Lib.hid n2
  have HS1 := Lib.hid hs1
  have HBR := Lib.hid hBr
  have hwr : IntKind.i64.wrap (1 + budget) = B := (u8_add hb0.1 hb0.2).trans hB
  have hwu : IntKind.i64.wrap budget = budget := IntWalk.i64_in _ (by omega)
  have HWR := Lib.hid hwr
  have HWU := Lib.hid hwu
  rw [hsb] at hr
  subst hr
  clear hsb hv hb1 n2 hs1 hBr hB hb0
  refine (callsIn_wide (n := 4)).1 ?_
  refine callsIn_of_wp_marks Try.func7 rfl trivial ?_ rfl
  simp only [Try.ntmps7, List.size_toArray, List.length_cons, List.length_nil, Nat.reduceAdd, Nat.reduceSub, Array.replicate_succ, Array.replicate_zero, List.push_toArray, List.append_toArray, List.nil_append, List.cons_append]
  refine wpIn_wide.2 ?_
  go_wp2_with fail
  try rw [hw1]
  clear hw1
  refine (known_any).mono ?_
  rintro e w2 ⟨rfl, hb⟩
  have HB2 := Lib.hid (HB1.out.trans (hb.mono HB1.out.size))
  have HX1 := Lib.hid hb
  clear hb
  go_wp2_with fail
  refine (HSM.out w2 HB2.out).mono ?_
  rintro e w3 ⟨rfl, hb⟩
  have HB3 := Lib.hid (HB2.out.trans (hb.mono HB2.out.size))
  have HX3 := Lib.hid (HX1.out.trans (hb.mono HX1.out.size))
  clear hb HX1
  go_wp2_with fail
  refine (known_any).mono ?_
  rintro e w4 ⟨rfl, hb⟩
  have HB4 := Lib.hid (HB3.out.trans (hb.mono HB3.out.size))
  have n4 : w4.heap[w.heap.size]? = _ := ((HX3.out.trans (hb.mono HX3.out.size)).block _ (by have := HS1.out; omega)).trans HN2.out
  have cd := cell_of_row w4 _ 0 _ _ _ n4
  have fd := frozen_of_row w4 _ 0 _ _ n4
  simp only [List.getElem?_toArray, List.getElem?_cons_zero] at cd
  clear n4 hb
  go_wp2_with fail
  have hc := World.cell?_setCell_same' w4 ⟨w.heap.size, 0, none⟩ (.bool true) (by rw [cd]; rfl)
  have hBf : Below w.heap.size w (w4.setCell ⟨w.heap.size, 0, none⟩ (.bool true)) := HB4.out.setCell (Nat.le_refl _) _
  refine ⟨_, ?_, rfl, hBf⟩
  simp only [results, show Try.f7.results = #[.cell 6 4] from rfl]
  go_simp
set_option maxRecDepth 100000 in
set_option maxHeartbeats 2000000 in
theorem Oldest_neg {w : World} (budget : Int) (hb0 : 0 ≤ budget ∧ budget ≤ 255) (v : Value) (L : List OpD) (hv : ListAt opE w v L) (need : Int) (hsb : smallB L = true) (hneg : need < 0) :
    Calls Try.prog 7 #[.int .u8 budget, v, .int .i64 need] w fun e w' => e = .returned (.bool true) ∧ Below w.heap.size w w' := by
  obtain ⟨w1, hw1⟩ : ∃ w1, w.alloc (.cells #[.bool false] 4) = w1 := ⟨_, rfl⟩
  have hb1 : Below w.heap.size w w1 := hw1 ▸ (Below.refl _ _).alloc (Nat.le_refl _) _
  have n2 : w1.heap[w.heap.size]? = some (.cells #[.bool false] 4 (0, 0)) := by rw [← hw1]; exact heap_alloc_new w _
  have hs1 : w1.heap.size = w.heap.size + 1 := by rw [← hw1]; simp
  obtain ⟨B, hB⟩ : ∃ B, 1 + budget = B := ⟨_, rfl⟩
  have hBr : 1 ≤ B ∧ B ≤ 256 := by omega
  obtain ⟨r, hr⟩ : ∃ r, smallB L = r := ⟨_, rfl⟩
  have HSM := Lib.hid (show ∀ w', Below w.heap.size w w' → Calls Try.prog 16 #[v] w' fun e w'' => e = .returned (.bool r) ∧ Below w'.heap.size w' w'' from fun w' hb => by
    have h := small_any v L (hv.below hb)
    rw [hr] at h
    exact h)
  have HRUN := Lib.hid (show r = true → ∀ w', Below w.heap.size w w' → Calls Try.prog 23 #[.int .i64 B, v] w' (RunPost w' B L) from fun h w' hb => run_any stableOk_forty B v L (hv.below hb) (small_len (hr.trans h)) (by decide))
  have HLEN := Lib.hid (show r = true → L.length ≤ 40 from fun h => small_len (hr.trans h))
  obtain ⟨va, vc, rfl⟩ := hv.form
  obtain ⟨N, hN⟩ : ∃ N, L.length = N := ⟨_, rfl⟩
  rw [hN] at HSM HRUN ⊢
  have HB1 := Lib.hid hb1
  have HN2 := Lib.hid n2
  have HS1 := Lib.hid hs1
  have HBR := Lib.hid hBr
  have hwr : IntKind.i64.wrap (1 + budget) = B := (u8_add hb0.1 hb0.2).trans hB
  have hwu : IntKind.i64.wrap budget = budget := IntWalk.i64_in _ (by omega)
  have HWR := Lib.hid hwr
  have HWU := Lib.hid hwu
  have H_hneg := Lib.hid hneg
  rw [hsb] at hr
  subst hr
  clear hsb hneg hv hb1 n2 hs1 hBr hB hb0
  refine (callsIn_wide (n := 4)).1 ?_
  refine callsIn_of_wp_marks Try.func7 rfl trivial ?_ rfl
  simp only [Try.ntmps7, List.size_toArray, List.length_cons, List.length_nil, Nat.reduceAdd, Nat.reduceSub, Array.replicate_succ, Array.replicate_zero, List.push_toArray, List.append_toArray, List.nil_append, List.cons_append]
  refine wpIn_wide.2 ?_
  go_wp2_with fail
  try rw [hw1]
  clear hw1
  refine (known_any).mono ?_
  rintro e w2 ⟨rfl, hb⟩
  have HB2 := Lib.hid (HB1.out.trans (hb.mono HB1.out.size))
  have HX1 := Lib.hid hb
  clear hb
  go_wp2_with fail
  refine (HSM.out w2 HB2.out).mono ?_
  rintro e w3 ⟨rfl, hb⟩
  have HB3 := Lib.hid (HB2.out.trans (hb.mono HB2.out.size))
  have HX3 := Lib.hid (HX1.out.trans (hb.mono HX1.out.size))
  clear hb HX1
  go_wp2_with fail
  refine (HRUN.out trivial w3 HB3.out).mono ?_
  rintro e w4 ⟨hb, ⟨h1, h2, b, m, v', rfl, hb1, hm1, hs, hl⟩ | ⟨h, _⟩⟩
  case inr => exact absurd ⟨HBR.out.1, by have := HBR.out; omega⟩ h
  have hro := run_ok L ⟨B, 0, []⟩ (ok_new h1 h2)
  obtain ⟨S, hS⟩ : ∃ S, runS ⟨B, 0, []⟩ L = S := ⟨_, rfl⟩
  rw [hS] at hs hl hro
  have hl40 : S.list.length ≤ 40 := by have h1 := hro.2.2.2; have h2 := HLEN.out trivial; simp only [List.length_nil, Nat.zero_add] at h1; omega
  obtain ⟨pa, pc, rfl⟩ := hl.form
  obtain ⟨M, hM⟩ : ∃ M, S.ref.length = M := ⟨_, rfl⟩
  rw [hM] at hl ⊢
  obtain ⟨w5, hw5⟩ : ∃ w5, w4.alloc (.cells #[.int .i64 B, .slice pa M pc] 50) = w5 := ⟨_, rfl⟩
  have hs5 : w5.heap.size = w4.heap.size + 1 := by rw [← hw5]; simp only [World.size_alloc]
  have hb5 : Below w4.heap.size w4 w5 := hw5 ▸ (Below.refl _ _).alloc (Nat.le_refl _) _
  have HW5 := Lib.hid hw5
  have HB5 := Lib.hid (HB3.out.trans ((hb.trans (hb5.mono hb.size)).mono HB3.out.size))
  have HX5 := Lib.hid (HX3.out.trans ((hb.trans (hb5.mono hb.size)).mono HX3.out.size))
  have HS := Lib.hid (hs.below hb5)
  have HRO := Lib.hid hro
  have HBM := Lib.hid (show b < w4.heap.size ∧ m < w4.heap.size ∧ w3.heap.size ≤ b ∧ w3.heap.size ≤ m from ⟨hs.lt, hs.hm.lt, hb1, hm1⟩)
  have HM40 := Lib.hid hl40
  clear hw5 hb5 hb hs hl hro hS hM hl40 hb1 hm1 h1 h2
  go_wp2_with fail
  rw [HW5.out]
  clear HW5
  refine (Oldest_any stableOk_forty HS.out HRO.out.1 HM40.out (by decide) need).mono ?_
  rintro e w6 ⟨v2, rfl, ho, hb6⟩
  obtain ⟨ia, ic, rfl⟩ := ho.form
  have HB6 := Lib.hid (HB5.out.trans (hb6.mono HB5.out.size))
  have HX6 := Lib.hid (HX5.out.trans (hb6.mono HX5.out.size))
  have HO6 := Lib.hid ho
  have HS6 := Lib.hid (HS.out.below hb6)
  have HZ6 := Lib.hid (show w5.heap.size ≤ w6.heap.size from hb6.size)
  have hbu := HRO.out.2.1
  have hbu : S.budget = B := hbu
  have HBU := Lib.hid hbu
  have HX3S := Lib.hid (show w1.heap.size ≤ w3.heap.size from HX3.out.size)
  have HS5 := Lib.hid hs5
  clear ho hb6 HS HX5 HX3 hbu
  have hwr := HWR.out
  have hneg := H_hneg.out
  have hwu := HWU.out
  have hc : oldC S need = 2 := by unfold oldC; rw [if_pos (show need < 0 by omega)]
  have hL : oldL S need = [] := by unfold oldL; rw [hc, if_neg (by decide)]
  rw [hc, hL, List.length_nil]
  obtain ⟨w7, hw7⟩ : ∃ w7, w6.alloc (.cells #[.slice ia 0 ic] 56) = w7 := ⟨_, rfl⟩
  have hb7 : Below w6.heap.size w6 w7 := hw7 ▸ ((Below.refl _ _).alloc (Nat.le_refl _) _)
  have m1 : w7.heap[w6.heap.size]? = some (.cells #[.slice ia 0 ic] 56 (0, 0)) := by rw [← hw7]; exact heap_alloc_new w6 _
  have n4 : w7.heap[w.heap.size]? = _ := ((HX6.out.trans (hb7.mono HX6.out.size)).block _ (by have := HS1.out; omega)).trans HN2.out
  have hB7 := HB6.out.trans (hb7.mono HB6.out.size)
  have HB7 := Lib.hid hB7
  have c10 := cell_of_row w7 _ 0 _ _ _ m1
  have cd := cell_of_row w7 _ 0 _ _ _ n4
  have fd := frozen_of_row w7 _ 0 _ _ n4
  simp only [List.getElem?_toArray, List.getElem?_cons_zero] at cd c10
  clear m1 n4 hb7 hB7 hc hL
  go_wp2_with fail
  have hc := World.cell?_setCell_same' w7 ⟨w.heap.size, 0, none⟩ (.bool true) (by rw [cd]; rfl)
  have hBf : Below w.heap.size w (w7.setCell ⟨w.heap.size, 0, none⟩ (.bool true)) := HB7.out.setCell (Nat.le_refl _) _
  refine ⟨_, ?_, rfl, hBf⟩
  simp only [results, show Try.f7.results = #[.cell 6 4] from rfl]
  go_simp
set_option maxRecDepth 100000 in
set_option maxHeartbeats 2000000 in
theorem Oldest_big {w : World} (budget : Int) (hb0 : 0 ≤ budget ∧ budget ≤ 255) (v : Value) (L : List OpD) (hv : ListAt opE w v L) (need : Int) (hsb : smallB L = true) (hneg : ¬ need < 0) (hbig : 1 + budget < need) :
    Calls Try.prog 7 #[.int .u8 budget, v, .int .i64 need] w fun e w' => e = .returned (.bool true) ∧ Below w.heap.size w w' := by
  obtain ⟨w1, hw1⟩ : ∃ w1, w.alloc (.cells #[.bool false] 4) = w1 := ⟨_, rfl⟩
  have hb1 : Below w.heap.size w w1 := hw1 ▸ (Below.refl _ _).alloc (Nat.le_refl _) _
  have n2 : w1.heap[w.heap.size]? = some (.cells #[.bool false] 4 (0, 0)) := by rw [← hw1]; exact heap_alloc_new w _
  have hs1 : w1.heap.size = w.heap.size + 1 := by rw [← hw1]; simp
  obtain ⟨B, hB⟩ : ∃ B, 1 + budget = B := ⟨_, rfl⟩
  rw [hB] at hbig
  have hBr : 1 ≤ B ∧ B ≤ 256 := by omega
  obtain ⟨r, hr⟩ : ∃ r, smallB L = r := ⟨_, rfl⟩
  have HSM := Lib.hid (show ∀ w', Below w.heap.size w w' → Calls Try.prog 16 #[v] w' fun e w'' => e = .returned (.bool r) ∧ Below w'.heap.size w' w'' from fun w' hb => by
    have h := small_any v L (hv.below hb)
    rw [hr] at h
    exact h)
  have HRUN := Lib.hid (show r = true → ∀ w', Below w.heap.size w w' → Calls Try.prog 23 #[.int .i64 B, v] w' (RunPost w' B L) from fun h w' hb => run_any stableOk_forty B v L (hv.below hb) (small_len (hr.trans h)) (by decide))
  have HLEN := Lib.hid (show r = true → L.length ≤ 40 from fun h => small_len (hr.trans h))
  obtain ⟨va, vc, rfl⟩ := hv.form
  obtain ⟨N, hN⟩ : ∃ N, L.length = N := ⟨_, rfl⟩
  rw [hN] at HSM HRUN ⊢
  have HB1 := Lib.hid hb1
  have HN2 := Lib.hid n2
  have HS1 := Lib.hid hs1
  have HBR := Lib.hid hBr
  have hwr : IntKind.i64.wrap (1 + budget) = B := (u8_add hb0.1 hb0.2).trans hB
  have hwu : IntKind.i64.wrap budget = budget := IntWalk.i64_in _ (by omega)
  have HWR := Lib.hid hwr
  have HWU := Lib.hid hwu
  have H_hneg := Lib.hid hneg
  have H_hbig := Lib.hid hbig
  rw [hsb] at hr
  subst hr
  clear hsb hneg hbig hv hb1 n2 hs1 hBr hB hb0
  refine (callsIn_wide (n := 4)).1 ?_
  refine callsIn_of_wp_marks Try.func7 rfl trivial ?_ rfl
  simp only [Try.ntmps7, List.size_toArray, List.length_cons, List.length_nil, Nat.reduceAdd, Nat.reduceSub, Array.replicate_succ, Array.replicate_zero, List.push_toArray, List.append_toArray, List.nil_append, List.cons_append]
  refine wpIn_wide.2 ?_
  go_wp2_with fail
  try rw [hw1]
  clear hw1
  refine (known_any).mono ?_
  rintro e w2 ⟨rfl, hb⟩
  have HB2 := Lib.hid (HB1.out.trans (hb.mono HB1.out.size))
  have HX1 := Lib.hid hb
  clear hb
  go_wp2_with fail
  refine (HSM.out w2 HB2.out).mono ?_
  rintro e w3 ⟨rfl, hb⟩
  have HB3 := Lib.hid (HB2.out.trans (hb.mono HB2.out.size))
  have HX3 := Lib.hid (HX1.out.trans (hb.mono HX1.out.size))
  clear hb HX1
  go_wp2_with fail
  refine (HRUN.out trivial w3 HB3.out).mono ?_
  rintro e w4 ⟨hb, ⟨h1, h2, b, m, v', rfl, hb1, hm1, hs, hl⟩ | ⟨h, _⟩⟩
  case inr => exact absurd ⟨HBR.out.1, by have := HBR.out; omega⟩ h
  have hro := run_ok L ⟨B, 0, []⟩ (ok_new h1 h2)
  obtain ⟨S, hS⟩ : ∃ S, runS ⟨B, 0, []⟩ L = S := ⟨_, rfl⟩
  rw [hS] at hs hl hro
  have hl40 : S.list.length ≤ 40 := by have h1 := hro.2.2.2; have h2 := HLEN.out trivial; simp only [List.length_nil, Nat.zero_add] at h1; omega
  obtain ⟨pa, pc, rfl⟩ := hl.form
  obtain ⟨M, hM⟩ : ∃ M, S.ref.length = M := ⟨_, rfl⟩
  rw [hM] at hl ⊢
  obtain ⟨w5, hw5⟩ : ∃ w5, w4.alloc (.cells #[.int .i64 B, .slice pa M pc] 50) = w5 := ⟨_, rfl⟩
  have hs5 : w5.heap.size = w4.heap.size + 1 := by rw [← hw5]; simp only [World.size_alloc]
  have hb5 : Below w4.heap.size w4 w5 := hw5 ▸ (Below.refl _ _).alloc (Nat.le_refl _) _
  have HW5 := Lib.hid hw5
  have HB5 := Lib.hid (HB3.out.trans ((hb.trans (hb5.mono hb.size)).mono HB3.out.size))
  have HX5 := Lib.hid (HX3.out.trans ((hb.trans (hb5.mono hb.size)).mono HX3.out.size))
  have HS := Lib.hid (hs.below hb5)
  have HRO := Lib.hid hro
  have HBM := Lib.hid (show b < w4.heap.size ∧ m < w4.heap.size ∧ w3.heap.size ≤ b ∧ w3.heap.size ≤ m from ⟨hs.lt, hs.hm.lt, hb1, hm1⟩)
  have HM40 := Lib.hid hl40
  clear hw5 hb5 hb hs hl hro hS hM hl40 hb1 hm1 h1 h2
  go_wp2_with fail
  rw [HW5.out]
  clear HW5
  refine (Oldest_any stableOk_forty HS.out HRO.out.1 HM40.out (by decide) need).mono ?_
  rintro e w6 ⟨v2, rfl, ho, hb6⟩
  obtain ⟨ia, ic, rfl⟩ := ho.form
  have HB6 := Lib.hid (HB5.out.trans (hb6.mono HB5.out.size))
  have HX6 := Lib.hid (HX5.out.trans (hb6.mono HX5.out.size))
  have HO6 := Lib.hid ho
  have HS6 := Lib.hid (HS.out.below hb6)
  have HZ6 := Lib.hid (show w5.heap.size ≤ w6.heap.size from hb6.size)
  have hbu := HRO.out.2.1
  have hbu : S.budget = B := hbu
  have HBU := Lib.hid hbu
  have HX3S := Lib.hid (show w1.heap.size ≤ w3.heap.size from HX3.out.size)
  have HS5 := Lib.hid hs5
  clear ho hb6 HS HX5 HX3 hbu
  have hwr := HWR.out
  have hneg := H_hneg.out
  have hbig := H_hbig.out
  have hwu := HWU.out
  have hc : oldC S need = 9 := by unfold oldC; rw [if_neg (show ¬ need < 0 by omega), if_pos (by rw [HBU.out]; omega)]
  have hL : oldL S need = [] := by unfold oldL; rw [hc, if_neg (by decide)]
  have hpos : 0 < need := by have := HBR.out; omega
  rw [hc, hL, List.length_nil]
  obtain ⟨w7, hw7⟩ : ∃ w7, w6.alloc (.cells #[.slice ia 0 ic] 56) = w7 := ⟨_, rfl⟩
  have hb7 : Below w6.heap.size w6 w7 := hw7 ▸ ((Below.refl _ _).alloc (Nat.le_refl _) _)
  have m1 : w7.heap[w6.heap.size]? = some (.cells #[.slice ia 0 ic] 56 (0, 0)) := by rw [← hw7]; exact heap_alloc_new w6 _
  have n4 : w7.heap[w.heap.size]? = _ := ((HX6.out.trans (hb7.mono HX6.out.size)).block _ (by have := HS1.out; omega)).trans HN2.out
  have hB7 := HB6.out.trans (hb7.mono HB6.out.size)
  have HB7 := Lib.hid hB7
  have c10 := cell_of_row w7 _ 0 _ _ _ m1
  have cd := cell_of_row w7 _ 0 _ _ _ n4
  have fd := frozen_of_row w7 _ 0 _ _ n4
  simp only [List.getElem?_toArray, List.getElem?_cons_zero] at cd c10
  clear m1 n4 hb7 hB7 hc hL
  go_wp2_with fail
  have hc := World.cell?_setCell_same' w7 ⟨w.heap.size, 0, none⟩ (.bool true) (by rw [cd]; rfl)
  have hBf : Below w.heap.size w (w7.setCell ⟨w.heap.size, 0, none⟩ (.bool true)) := HB7.out.setCell (Nat.le_refl _) _
  refine ⟨_, ?_, rfl, hBf⟩
  simp only [results, show Try.f7.results = #[.cell 6 4] from rfl]
  go_simp
end Go.Proofs.Ytnmdgjodbikndaa
