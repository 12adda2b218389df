/- The reference's Compare of identities; the model's order. -/
import Derived.Test.YthfinofmbnfijaaTh2
namespace Go.Proofs.Ythfinofmbnfijaa
open Go.Shelf Go.RowKit Go.Lib Go.Sort
set_option linter.unusedVariables false
set_option linter.unusedSimpArgs false

theorem cb_same : ∀ (k : Nat) (a b : List UInt8), a.take k = b.take k → a.length = b.length → compareBytes a b = compareBytes (a.drop k) (b.drop k)
  | 0, a, b, _, _ => rfl
  | k + 1, [], b, _, hl => by
    have : b = [] := List.eq_nil_of_length_eq_zero hl.symm
    subst this
    rfl
  | k + 1, x :: a, [], _, hl => by cases hl
  | k + 1, x :: a, y :: b, h, hl => by
    simp only [List.take_succ_cons, List.cons.injEq] at h
    obtain ⟨rfl, h⟩ := h
    rw [List.drop_succ_cons, List.drop_succ_cons, ← cb_same k a b h (by simpa [bv] using hl)]
    show (if x < x then (-1 : Int) else if x < x then 1 else compareBytes a b) = _
    rw [if_neg (UInt8.lt_irrefl x), if_neg (UInt8.lt_irrefl x)]
theorem cmpB_at {a b : IdB} {k : Nat} (h : a.1.take k = b.1.take k) (hk : k < 32) : cmpB a b = if a.1[k]'(by rw [a.2]; exact hk) < b.1[k]'(by rw [b.2]; exact hk) then -1 else if b.1[k]'(by rw [b.2]; exact hk) < a.1[k]'(by rw [a.2]; exact hk) then 1 else compareBytes (a.1.drop (k + 1)) (b.1.drop (k + 1)) := by
  have h1 := cb_same k a.1 b.1 h (by rw [a.2, b.2])
  have ea : a.1.drop k = _ := List.drop_eq_getElem_cons (l := a.1) (i := k) (by rw [a.2]; exact hk)
  have eb : b.1.drop k = _ := List.drop_eq_getElem_cons (l := b.1) (i := k) (by rw [b.2]; exact hk)
  rw [ea, eb] at h1
  exact h1
set_option maxRecDepth 100000 in
set_option maxHeartbeats 2000000 in
theorem cmp11 (a b : IdB) (w : World) : Calls Try.prog 31 #[.agg (bvs a.1).toArray, .agg (bvs b.1).toArray] w fun e w' => e = .returned (.int .i64 (cmpB a b)) ∧ ∃ q os', w' = grow (w.drewN q) os' := by
  obtain ⟨w1, hw1⟩ : ∃ w1, w.alloc (.cells (bvs a.1).toArray 66) = w1 := ⟨_, rfl⟩
  obtain ⟨w2, hw2⟩ : ∃ w2, w1.alloc (.cells (bvs b.1).toArray 66) = w2 := ⟨_, rfl⟩
  have hx1 : w1.heap[w.heap.size]? = some (.cells (bvs a.1).toArray 66 (0, 0)) := by rw [← hw1]; exact heap_alloc_new _ _
  have hx2 : w2.heap[w1.heap.size]? = some (.cells (bvs b.1).toArray 66 (0, 0)) := by rw [← hw2]; exact heap_alloc_new _ _
  have hb2 : Below w1.heap.size w1 w2 := hw2 ▸ (Below.refl _ _).alloc (Nat.le_refl _) _
  have hx1 := (hb2.block _ (Array.getElem?_eq_some_iff.1 hx1).1).trans hx1
  have H1 := Lib.hid (range_block hx1)
  have H2 := Lib.hid (range_block hx2)
  have hg : w2 = grow w #[.cells (bvs a.1).toArray 66, .cells (bvs b.1).toArray 66] := by
    rw [← hw2, ← hw1, alloc_eq_grow, alloc_eq_grow, grow_grow]
    rfl
  have HG := Lib.hid hg
  have HA := Lib.hid a.2
  have HB := Lib.hid b.2
  clear hx1 hx2 hb2 hg
  go_enter Try.func31, Try.ntmps31
  go_wp2_with fail
  go_loopw [5] (fun iv wr => ∃ k n : Nat, k ≤ 32 ∧ iv = .int .i64 (k : Int) ∧ Hid (a.1.take k = b.1.take k) ∧ Hid (wr = w2.drewN n)) (fun iv _ => 32 - (intOf iv).toNat)
  case atStart => exact ⟨0, 0, by omega, rfl, Lib.hid rfl, Lib.hid rfl⟩
  case round =>
    obtain ⟨k, n, hk, rfl, HT, HW⟩ := hrel
    by_cases hlt : k < 32
    · have hkI : (k : Int) < 32 := by omega
      have hk0 : (0 : Int) ≤ (k : Int) := by omega
      have ha : k < a.1.length := by rw [HA.out]; exact hlt
      have hb : k < b.1.length := by rw [HB.out]; exact hlt
      obtain ⟨x, hx⟩ : ∃ x, a.1[k] = x := ⟨_, rfl⟩
      obtain ⟨y, hy⟩ : ∃ y, b.1[k] = y := ⟨_, rfl⟩
      have hcm := cmpB_at HT.out hlt
      rw [hx, hy] at hcm
      have c1 : ∀ q, (wr.drewN q).cell? ⟨w.heap.size, k, none⟩ = some (.int .u8 (x.toNat : Int)) := fun q => by
        have h := H1.out k (bv x) (by rw [bvs_getElem?, List.getElem?_eq_getElem ha, hx]; rfl)
        rw [Nat.zero_add] at h
        rw [HW.out]
        simpa [bv] using h
      have c2 : ∀ q, (wr.drewN q).cell? ⟨w1.heap.size, k, none⟩ = some (.int .u8 (y.toNat : Int)) := fun q => by
        have h := H2.out k (bv y) (by rw [bvs_getElem?, List.getElem?_eq_getElem hb, hy]; rfl)
        rw [Nat.zero_add] at h
        rw [HW.out]
        simpa [bv] using h
      have HX := Lib.hid hx
      have HY := Lib.hid hy
      have HCM := Lib.hid hcm
      clear hx hy hcm
      have HF := Lib.hid (show ∀ m, ∃ q os', wr.drewN m = grow (w.drewN q) os' from fun m => ⟨n + m, _, by rw [HW.out, HG.out, grow_drewN', grow_drewN', World.drewN_drewN]⟩)
      by_cases hxy : x < y
      · have hxI : (x.toNat : Int) < (y.toNat : Int) := by rw [UInt8.lt_iff_toNat_lt] at hxy; omega
        have HE := Lib.hid (HCM.out.trans (if_pos hxy))
        clear hxy
        go_wp2_with fail
        go_quiet (fail)
        go_wp2_with fail
        exact bodyPost_ret (v := .int .i64 (-1)) (by simp [results, Try.results31, go_sem]) rfl ⟨by rw [HE.out], HF.out _⟩
      have hxI : ¬ (x.toNat : Int) < (y.toNat : Int) := by rw [UInt8.lt_iff_toNat_lt] at hxy; omega
      have HE := Lib.hid (HCM.out.trans (if_neg hxy))
      by_cases hyx : y < x
      · have hyI : (y.toNat : Int) < (x.toNat : Int) := by rw [UInt8.lt_iff_toNat_lt] at hyx; omega
        have HE2 := Lib.hid (HE.out.trans (if_pos hyx))
        clear hxy hyx
        go_wp2_with fail
        go_quiet (fail)
        go_wp2_with fail
        go_quiet (fail)
        go_wp2_with fail
        exact bodyPost_ret (v := .int .i64 1) (by simp [results, Try.results31, go_sem]) rfl ⟨by rw [HE2.out], by rw [World.drewN_drewN]; exact HF.out _⟩
      · have hyI : ¬ (y.toNat : Int) < (x.toNat : Int) := by rw [UInt8.lt_iff_toNat_lt] at hyx; omega
        have hxe : x = y := UInt8.le_antisymm (UInt8.not_lt.1 hyx) (UInt8.not_lt.1 hxy)
        have HTN := Lib.hid (show a.1.take (k + 1) = b.1.take (k + 1) by
          rw [List.take_succ_eq_append_getElem ha, List.take_succ_eq_append_getElem hb, HT.out, HX.out, HY.out, hxe])
        have HWN := Lib.hid (show ∀ m, wr.drewN m = w2.drewN (n + m) from fun m => by rw [HW.out, World.drewN_drewN])
        clear hxy hyx hxe
        go_wp2_with fail
        go_quiet (fail)
        go_wp2_with fail
        go_quiet (fail)
        go_wp2_with fail
        go_roundw
        case rel => exact ⟨k + 1, _, by omega, by go_num, HTN, Lib.hid (HWN.out _)⟩
        case measure => simp [intOf]; omega
    · obtain rfl : k = 32 := by omega
      have he : a = b := by
        have h := HT.out
        rw [List.take_of_length_le (by rw [HA.out]; exact Nat.le_refl _), List.take_of_length_le (by rw [HB.out]; exact Nat.le_refl _)] at h
        exact Subtype.ext h
      have HE := Lib.hid (show cmpB a b = 0 by rw [he]; exact cmpB_self b)
      have HF := Lib.hid (show ∃ q os', wr = grow (w.drewN q) os' from ⟨n, _, by rw [HW.out, HG.out, grow_drewN']⟩)
      clear he
      go_wp2_with fail
      exact bodyPost_ret (v := .int .i64 0) (by simp [results, Try.results31, go_sem]) rfl ⟨by rw [HE.out], HF.out⟩
set_option maxRecDepth 100000 in
set_option maxHeartbeats 2000000 in
theorem ordRow (a b : RowV) (w : World) : Calls Try.prog 26 #[rowv a, rowv b] w fun e w' => e = .returned (.int .i64 (cmpT a.tw b.tw)) ∧ ∃ q os', w' = grow (w.drewN q) os' := by
  obtain ⟨w1, hw1⟩ : ∃ w1, w.alloc (.cells a.cells.toArray 43) = w1 := ⟨_, rfl⟩
  obtain ⟨w2, hw2⟩ : ∃ w2, w1.alloc (.cells b.cells.toArray 43) = w2 := ⟨_, rfl⟩
  have hx1 : w1.heap[w.heap.size]? = some (.cells a.cells.toArray 43 (0, 0)) := by rw [← hw1]; exact heap_alloc_new _ _
  have hx2 : w2.heap[w1.heap.size]? = some (.cells b.cells.toArray 43 (0, 0)) := by rw [← hw2]; exact heap_alloc_new _ _
  have hb2 : Below w1.heap.size w1 w2 := hw2 ▸ (Below.refl _ _).alloc (Nat.le_refl _) _
  have hx1 := (hb2.block _ (Array.getElem?_eq_some_iff.1 hx1).1).trans hx1
  have r1 := range_block hx1
  have r2 := range_block hx2
  have c1 := (row_mid r1).1
  have c2 := (row_mid r2).1
  rw [Nat.zero_add] at c1 c2
  have H1 := Lib.hid (row_id r1)
  have H2 := Lib.hid (row_id r2)
  have hg : w2 = grow w #[.cells a.cells.toArray 43, .cells b.cells.toArray 43] := by
    rw [← hw2, ← hw1, alloc_eq_grow, alloc_eq_grow, grow_grow]
    rfl
  have HG := Lib.hid hg


  obtain ⟨da, hda⟩ : ∃ d, a.date = d := ⟨_, rfl⟩
  obtain ⟨db, hdb⟩ : ∃ d, b.date = d := ⟨_, rfl⟩
  obtain ⟨C, hC⟩ : ∃ C, cmpT a.tw b.tw = C := ⟨_, rfl⟩
  have hC' : cmpT a.tw b.tw = (if da = db then cmpB a.id b.id else if da < db then -1 else 1) := by rw [← hda, ← hdb]; rfl
  rw [hC] at hC' ⊢
  rw [hda] at c1
  rw [hdb] at c2
  have HC := Lib.hid hC'
  unfold rowv
  clear hx1 hx2 hb2 r1 r2 hg hda hdb hC hC'
  by_cases hd : da = db
  · have hne : (da != db) = false := by simpa using hd
    have HE := Lib.hid (HC.out.trans (if_pos hd))
    clear hd HC
    go_enter Try.func26, Try.ntmps26
    go_wp2_with (with_reducible refine wpList_load_mid rfl 35 (.tmp 15) rfl w.heap.size 0 rfl (bvs a.id.1) _ H1.out Try.underlying35 rfl (sizeId a.id) ?_; refine Stop.on ?_)
    refine Stop.go ?_
    try simp only [Act.put, List.setIfInBounds_toArray, List.set_cons_zero, List.set_cons_succ]
    go_wp2_with (with_reducible refine wpList_load_mid rfl 35 (.tmp 17) rfl w1.heap.size 0 rfl (bvs b.id.1) _ H2.out Try.underlying35 rfl (sizeId b.id) ?_; refine Stop.on ?_)
    refine Stop.go ?_
    try simp only [Act.put, List.setIfInBounds_toArray, List.set_cons_zero, List.set_cons_succ]
    go_wp2_with fail
    refine (cmp11 a.id b.id w2).mono ?_
    rintro e w3 ⟨rfl, q, os, rfl⟩
    go_wp2_with fail
    exact bodyPost_ret (v := .int .i64 (cmpB a.id b.id)) (by simp [results, Try.results26, go_sem]) rfl ⟨by rw [HE.out], q, #[.cells a.cells.toArray 43, .cells b.cells.toArray 43] ++ os, by rw [HG.out, grow_drewN', grow_grow]⟩
  · have hne : (da != db) = true := by simpa using hd
    have HE := Lib.hid (HC.out.trans (if_neg hd))
    clear HC
    by_cases hlt : da < db
    · have HE2 := Lib.hid (HE.out.trans (if_pos hlt))
      clear hd HE
      go_enter Try.func26, Try.ntmps26
      go_wp2_with fail
      exact bodyPost_ret (v := .int .i64 (-1)) (by simp [results, Try.results26, go_sem]) rfl ⟨by rw [HE2.out], 0, _, HG.out⟩
    · have HE2 := Lib.hid (HE.out.trans (if_neg hlt))
      clear hd HE
      go_enter Try.func26, Try.ntmps26
      go_wp2_with fail
      exact bodyPost_ret (v := .int .i64 1) (by simp [results, Try.results26, go_sem]) rfl ⟨by rw [HE2.out], 0, _, HG.out⟩
end Go.Proofs.Ythfinofmbnfijaa
