/- The reference: Read. -/
import Derived.Test.YtnmdgjodbikndaaS13
import Derived.Test.YtnmdgjodbikndaaS8
namespace Go.Proofs.Ytnmdgjodbikndaa
open Go.RowKit
set_option linter.unusedVariables false
set_option linter.unusedSimpArgs false

def rFind (L : List RefA) (k : IdB) : Option RefA := L.find? (fun a => decide (a.id = k))
theorem fIx_find (L : List RefA) (k : IdB) : (fIx L k = -1 ∧ rFind L k = none) ∨ ∃ i, ∃ h : i < L.length, fIx L k = (i : Int) ∧ rFind L k = some L[i] := by
  unfold fIx rFind
  cases h : L.findIdx? (fun a => decide (a.id = k)) with
  | none => exact .inl ⟨rfl, by rw [List.find?_eq_none]; rw [List.findIdx?_eq_none_iff] at h; exact fun x hx => by rw [h x hx]; decide⟩
  | some i =>
    rw [List.findIdx?_eq_some_iff_getElem] at h
    obtain ⟨hi, he, hb⟩ := h
    exact .inr ⟨i, hi, rfl, List.find?_eq_some_iff_getElem.2 ⟨he, i, hi, rfl, fun j hj => by simpa using hb j hj⟩⟩
def rReadC (L : List RefA) (k : IdB) (f c : Int) : Int := match rFind L k with
  | none => 8
  | some a => if f < 0 ∨ (a.text.size : Int) < f ∨ c < 0 then 2 else 0
def rReadT (L : List RefA) (k : IdB) (f c : Int) : ByteArray := if rReadC L k f c = 0 then readT ((rFind L k).getD zR).text f c else ⟨#[]⟩
set_option maxRecDepth 100000 in
set_option maxHeartbeats 2000000 in
theorem rRead_any {w : World} (B : Int) (v : Value) (L : List RefA) (k : IdB) (f c : Int) (hv : ListAt refE w v L) (hl : L.length < 1000000) (ht : ∀ a ∈ L, a.text.size ≤ 65536) :
    Calls Try.prog 47 #[.agg #[.int .i64 B, v], .agg (bvs k.1).toArray, .int .i64 f, .int .i64 c] w fun e w' => e = .returned (.tuple #[.string (rReadT L k f c), .int .i64 (rReadC L k f c)]) ∧ Below w.heap.size w w' := by
  obtain ⟨va, vc, rfl⟩ := hv.form
  obtain ⟨N, hN⟩ : ∃ N, L.length = N := ⟨_, rfl⟩
  obtain ⟨C, hC⟩ : ∃ C, rReadC L k f c = C := ⟨_, rfl⟩
  obtain ⟨T, hT⟩ : ∃ T, rReadT L k f c = T := ⟨_, rfl⟩
  rw [hN] at hv hl ⊢
  rw [hC, hT]
  unfold rReadT at hT
  rw [hC] at hT
  unfold rReadC at hC
  obtain ⟨w1, hw1⟩ : ∃ w1, w.alloc (.cells #[.int .i64 B, .slice va N vc] 50) = w1 := ⟨_, rfl⟩
  obtain ⟨w2, hw2⟩ : ∃ w2, w1.alloc (.cells (bvs k.1).toArray 29) = w2 := ⟨_, rfl⟩
  have hx1 : w1.heap[w.heap.size]? = some (.cells #[.int .i64 B, .slice va N vc] 50 (0, 0)) := by rw [← hw1]; exact heap_alloc_new _ _
  have hx2 : w2.heap[w1.heap.size]? = some (.cells (bvs k.1).toArray 29 (0, 0)) := by rw [← hw2]; exact heap_alloc_new _ _
  have hb1 : Below w.heap.size w w1 := hw1 ▸ (Below.refl _ _).alloc (Nat.le_refl _) _
  have hb2 : Below w1.heap.size w1 w2 := hw2 ▸ (Below.refl _ _).alloc (Nat.le_refl _) _
  have hb12 := hb1.trans (hb2.mono hb1.size)
  have hx1' := (hb2.block _ (Array.getElem?_eq_some_iff.1 hx1).1).trans hx1
  have HV := Lib.hid (hv.below hb12)
  have HX1 := Lib.hid hx1'
  have HXK := Lib.hid hx2
  have HB12 := Lib.hid hb12
  have HN := Lib.hid hN
  have HC := Lib.hid hC
  have HT := Lib.hid hT
  have HTS := Lib.hid ht
  clear hx1 hx1' hx2 hb1 hb2 hb12 hv hN hC hT ht
  go_enter Try.func47, Try.ntmps47
  go_wp2_with (refine wpList_loadV rfl (some 14) rfl 50 (.tmp 4) rfl _ rfl 50 #[.int .i64 B, .slice va N vc] (0, 0) _ HX1.out Try.underlying50 rfl sizeS ?_; refine Stop.on ?_)
  refine Stop.go ?_
  try simp only [Act.put, List.setIfInBounds_toArray, List.set_cons_zero, List.set_cons_succ]
  refine wpList_loadV rfl (some 15) rfl 29 (.tmp 5) rfl _ rfl 29 (bvs k.1).toArray (0, 0) _ HXK.out Try.underlying29 rfl (by rw [List.size_toArray]; exact sizeArr k) ?_
  try simp only [Act.put, List.setIfInBounds_toArray, List.set_cons_zero, List.set_cons_succ]
  go_wp2_with fail
  refine (rFind_any B _ L k HV.out (by rw [HN.out]; omega)).mono ?_
  rintro e wf ⟨rfl, hbf⟩
  have HBF := Lib.hid (HB12.out.trans (hbf.mono HB12.out.size))
  have HVF := Lib.hid (HV.out.below hbf)
  have hx1f := (hbf.block _ (Array.getElem?_eq_some_iff.1 HX1.out).1).trans HX1.out
  have hcl : wf.cell? ⟨w.heap.size, 1, none⟩ = some (.slice va N vc) := by rw [cell_of_row _ _ _ _ _ _ hx1f]; rfl
  clear hbf hx1f
  rcases fIx_find L k with ⟨h1, h2⟩ | ⟨i, hi, h1, h2⟩
  · rw [h1]
    obtain rfl : 8 = C := by rw [← HC.out, h2]
    obtain rfl : ⟨#[]⟩ = T := by rw [← HT.out, if_neg (by decide)]
    clear HC HT h1 h2
    go_wp2_with fail
    exact bodyPost_ret (v := .tuple #[.string ⟨#[]⟩, .int .i64 8]) (by simp [results, Try.results47, go_sem]) rfl ⟨rfl, HBF.out⟩
  rw [h1]
  have hC : (if f < 0 ∨ (L[i].text.size : Int) < f ∨ c < 0 then (2 : Int) else 0) = C := by rw [← HC.out, h2]
  have hT : (if C = 0 then readT L[i].text f c else ⟨#[]⟩) = T := by rw [← HT.out, h2]; rfl
  have hts := HTS.out _ (List.getElem_mem hi)
  obtain ⟨g, off, rfl, hg, _, htx, _⟩ := ref_at HVF.out hi
  obtain ⟨t, hte⟩ : ∃ t, L[i].text = t := ⟨_, rfl⟩
  rw [hte] at htx hC hT hts
  rw [HN.out] at hi
  clear HC HT h1 h2 hte
  have HC := Lib.hid hC
  have HT := Lib.hid hT
  clear hC hT
  have hiI : ¬ ((i : Int) < 0) := by omega
  have hiI0 : 0 ≤ (i : Int) := by omega
  have hiN : (i : Int) < (N : Int) := by omega
  by_cases q1 : f < 0
  · obtain rfl : 2 = C := by rw [← HC.out, if_pos (.inl q1)]
    obtain rfl : ⟨#[]⟩ = T := by rw [← HT.out, if_neg (by decide)]
    clear HC HT
    go_wp2_with fail
    exact bodyPost_ret (v := .tuple #[.string ⟨#[]⟩, .int .i64 2]) (by simp [results, Try.results47, go_sem]) rfl ⟨rfl, HBF.out⟩
  by_cases q2 : (t.size : Int) < f
  · obtain rfl : 2 = C := by rw [← HC.out, if_pos (.inr (.inl q2))]
    obtain rfl : ⟨#[]⟩ = T := by rw [← HT.out, if_neg (by decide)]
    clear HC HT
    go_wp2_with fail
    exact bodyPost_ret (v := .tuple #[.string ⟨#[]⟩, .int .i64 2]) (by simp [results, Try.results47, go_sem]) rfl ⟨rfl, HBF.out⟩
  by_cases q3 : c < 0
  · obtain rfl : 2 = C := by rw [← HC.out, if_pos (.inr (.inr q3))]
    obtain rfl : ⟨#[]⟩ = T := by rw [← HT.out, if_neg (by decide)]
    clear HC HT
    go_wp2_with fail
    exact bodyPost_ret (v := .tuple #[.string ⟨#[]⟩, .int .i64 2]) (by simp [results, Try.results47, go_sem]) rfl ⟨rfl, HBF.out⟩
  obtain rfl : 0 = C := by rw [← HC.out, if_neg (by rintro (h | h | h); exact q1 h; exact q2 h; exact q3 h)]
  obtain ⟨fn, rfl⟩ := Int.eq_ofNat_of_zero_le (show 0 ≤ f by omega)
  obtain ⟨cn, rfl⟩ := Int.eq_ofNat_of_zero_le (show 0 ≤ c by omega)
  have hT : t.extract fn (fn + min cn (t.size - fn)) = T := by rw [← HT.out, if_pos rfl, readT_eq t fn cn (by omega)]
  clear HC HT
  have HT := Lib.hid hT
  clear hT
  have hd1 : decide (t.size < fn) = false := decide_eq_false (by omega)
  have hd2 : decide ((fn : Int) < 0) = false := decide_eq_false (by omega)
  have hd3 : decide ((cn : Int) < 0) = false := decide_eq_false (by omega)
  go_wp2_with fail
  clear hd1 hd2 hd3
  go_loopw [12, 13] (fun sv kv wr => ∃ j : Nat, j ≤ cn ∧ fn + j ≤ t.size ∧ sv = .string (t.extract fn (fn + j)) ∧ kv = .int .i64 ((fn + j : Nat) : Int) ∧ wr = wf) (fun _ kv _ => t.size - (intOf kv).toNat)
  case atStart => exact ⟨0, Nat.zero_le _, by omega, by rw [Nat.add_zero]; congr 1; exact (ByteArray.ext (by simp)).symm, rfl, rfl⟩
  case round =>
    obtain ⟨j, hj, hj2, rfl, rfl, rfl⟩ := hrel
    by_cases hlt : fn + j < t.size
    · have hI1 : ((fn + j : Nat) : Int) < (t.size : Int) := by omega
      have hI2 : IntKind.i64.wrap (((fn + j : Nat) : Int) - (fn : Int)) = (j : Int) := (IntWalk.i64_in _ (by omega)).trans (by omega)
      have hI3 : IntKind.i64.wrap (((fn + j : Nat) : Int) + 1) = ((fn + (j + 1) : Nat) : Int) := (IntWalk.i64_in _ (by omega)).trans (by omega)
      by_cases hc : j < cn
      · have hcI : (j : Int) < (cn : Int) := by omega
        have hap : t.extract fn (fn + j) ++ t.extract (fn + j) (fn + (j + 1)) = t.extract fn (fn + (j + 1)) := by
          rw [ByteArray.extract_append_extract, Nat.min_eq_left (by omega), Nat.max_eq_right (by omega)]
        have hsz : (t.extract fn (fn + j)).size = j := by rw [ba_extract_size t (by omega)]; omega
        have hsz1 : (t.extract (fn + j) (fn + (j + 1))).size = 1 := by rw [ba_extract_size t (by omega)]; omega
        go_wp2_with fail
        go_roundw
        case rel => exact ⟨j + 1, by omega, by omega, by first | rfl | rw [← Nat.add_assoc], by go_num, by first | trivial | rfl⟩
        case measure => simp [intOf]; omega
      · obtain rfl : cn = j := by omega
        have hcI : ¬ (cn : Int) < (cn : Int) := by omega
        have hTT : t.extract fn (fn + cn) = T := by rw [← HT.out, Nat.min_eq_left (by omega)]
        subst hTT
        go_wp2_with fail
        exact bodyPost_ret (v := .tuple #[.string (t.extract fn (fn + cn)), .int .i64 0]) (by simp [results, Try.results47, go_sem]) rfl ⟨rfl, HBF.out⟩
    · have hI1 : ¬ ((fn + j : Nat) : Int) < (t.size : Int) := by omega
      have hTT : t.extract fn (fn + j) = T := by rw [← HT.out, Nat.min_eq_right (by omega)]; congr 1; omega
      subst hTT
      go_wp2_with fail
      exact bodyPost_ret (v := .tuple #[.string (t.extract fn (fn + j)), .int .i64 0]) (by simp [results, Try.results47, go_sem]) rfl ⟨rfl, HBF.out⟩
end Go.Proofs.Ytnmdgjodbikndaa
