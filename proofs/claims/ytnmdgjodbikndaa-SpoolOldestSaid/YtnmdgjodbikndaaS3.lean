/- The spool: Read. -/
import Derived.Test.YtnmdgjodbikndaaS2
namespace Go.Proofs.Ytnmdgjodbikndaa
open Go.RowKit
set_option linter.unusedVariables false
set_option linter.unusedSimpArgs false

def readC (S : SpD) (k : IdB) (f c : Int) : Int := match S.find k with
  | none => 8
  | some a => if f < 0 ∨ (a.text.size : Int) < f ∨ c < 0 then 2 else 0
def readT (t : ByteArray) (f c : Int) : ByteArray := (t.extract f.toNat t.size).extract 0 (min c.toNat (t.size - f.toNat))
set_option maxRecDepth 100000 in
set_option maxHeartbeats 2000000 in
theorem Read_any {w : World} {b m : Nat} {S : SpD} (h : SpAt w b m S) (hok : S.Ok) (k : IdB) (f c : Int) :
    Calls Try.prog 15 #[.pointer (some ⟨b, 0, none⟩), .agg (bvs k.1).toArray, .int .i64 f, .int .i64 c] w fun e w' => e = .returned (.tuple #[.string (if readC S k f c = 0 then readT ((S.find k).getD zA).text f c else ⟨#[]⟩), .int .i64 (readC S k f c)]) ∧ Below w.heap.size w w' := by
  obtain ⟨w1, hw1⟩ : ∃ w1, w.alloc (.cells (bvs k.1).toArray 30) = w1 := ⟨_, rfl⟩
  have hb1 : Below w.heap.size w w1 := hw1 ▸ (Below.refl _ _).alloc (Nat.le_refl _) _
  have hx1 : w1.heap[w.heap.size]? = some (.cells (bvs k.1).toArray 30 (0, 0)) := by rw [← hw1]; exact heap_alloc_new _ _
  have hg := Get_any (h.below hb1) k
  have HB1 := Lib.hid hb1
  have HX := Lib.hid (range_block hx1)
  have HSI := Lib.hid (sizeId k)
  rcases hf : S.find k with _ | A
  · have hc : readC S k f c = 8 := by unfold readC; rw [hf]
    rw [hf] at hg
    rw [hc, if_neg (by decide)]
    rw [show (none : Option ArtD).isSome = false from rfl, if_neg (by decide)] at hg
    obtain ⟨T0, hT0⟩ : ∃ T0, ((none : Option ArtD).getD zA).text = T0 := ⟨_, rfl⟩
    rw [hT0] at hg
    have HG := Lib.hid hg
    clear hg h hok hf hc hT0 hb1 hx1
    go_enter Try.func15, Try.ntmps15
    go_wp2_with (with_reducible refine wpList_load_mid rfl 30 _ rfl w.heap.size (0) rfl (bvs k.1) _ HX.out Try.underlying30 rfl HSI.out ?_)
    refine HG.out.mono ?_
    rintro e w2 ⟨rfl, hb2⟩
    have HB2 := Lib.hid (HB1.out.trans (hb2.mono HB1.out.size))
    clear hb2
    go_wp2_with fail
    exact bodyPost_ret (v := .tuple #[.string ⟨#[]⟩, .int .i64 8]) (by simp [results, Try.results15, go_sem]) rfl ⟨rfl, HB2.out⟩
  · have hc : readC S k f c = if f < 0 ∨ (A.text.size : Int) < f ∨ c < 0 then 2 else 0 := by unfold readC; rw [hf]
    have htx := hok.tx A (find_spec.1 hf).1
    rw [hf] at hg
    rw [show ((some A).getD zA).text = A.text from rfl]
    rw [show (some A).isSome = true from rfl, if_pos rfl] at hg
    have hg : Calls Try.prog 19 #[.pointer (some ⟨b, 0, none⟩), .agg (bvs k.1).toArray] w1 fun e w' => e = .returned (.tuple #[.string A.text, .int .i64 0]) ∧ Below w1.heap.size w1 w' := hg
    obtain ⟨t, ht⟩ : ∃ t, A.text = t := ⟨_, rfl⟩
    obtain ⟨C, hC⟩ : ∃ C, readC S k f c = C := ⟨_, rfl⟩
    rw [hC] at hc ⊢
    rw [ht] at hg hc htx ⊢
    obtain ⟨T, hT⟩ : ∃ T, (if C = 0 then readT t f c else ⟨#[]⟩) = T := ⟨_, rfl⟩
    rw [hT]
    have HT := Lib.hid hT
    clear hT
    have HG := Lib.hid hg
    have HC := Lib.hid hc
    clear hg h hok hf hc hC hb1 hx1 ht
    have ht2 : t.size ≤ 65536 := htx.2
    clear htx
    go_enter Try.func15, Try.ntmps15
    go_wp2_with (with_reducible refine wpList_load_mid rfl 30 _ rfl w.heap.size (0) rfl (bvs k.1) _ HX.out Try.underlying30 rfl HSI.out ?_)
    refine HG.out.mono ?_
    rintro e w2 ⟨rfl, hb2⟩
    have HB2 := Lib.hid (HB1.out.trans (hb2.mono HB1.out.size))
    clear hb2
    by_cases h1 : f < 0
    · obtain rfl : 2 = C := by rw [HC.out, if_pos (.inl h1)]
      obtain rfl : ⟨#[]⟩ = T := by rw [← HT.out, if_neg (by decide)]
      clear HC HT
      go_wp2_with fail
      exact bodyPost_ret (v := .tuple #[.string ⟨#[]⟩, .int .i64 2]) (by simp [results, Try.results15, go_sem]) rfl ⟨rfl, HB2.out⟩
    by_cases h2 : (t.size : Int) < f
    · obtain rfl : 2 = C := by rw [HC.out, if_pos (.inr (.inl h2))]
      obtain rfl : ⟨#[]⟩ = T := by rw [← HT.out, if_neg (by decide)]
      clear HC HT
      go_wp2_with fail
      exact bodyPost_ret (v := .tuple #[.string ⟨#[]⟩, .int .i64 2]) (by simp [results, Try.results15, go_sem]) rfl ⟨rfl, HB2.out⟩
    by_cases h3 : c < 0
    · obtain rfl : 2 = C := by rw [HC.out, if_pos (.inr (.inr h3))]
      obtain rfl : ⟨#[]⟩ = T := by rw [← HT.out, if_neg (by decide)]
      clear HC HT
      go_wp2_with fail
      exact bodyPost_ret (v := .tuple #[.string ⟨#[]⟩, .int .i64 2]) (by simp [results, Try.results15, go_sem]) rfl ⟨rfl, HB2.out⟩
    obtain rfl : 0 = C := by rw [HC.out, if_neg (by rintro (h | h | h); exact h1 h; exact h2 h; exact h3 h)]
    clear HC
    have HT := Lib.hid (show readT t f c = T by rw [← HT.out, if_pos rfl])
    obtain ⟨fn, rfl⟩ := Int.eq_ofNat_of_zero_le (show 0 ≤ f by omega)
    obtain ⟨cn, rfl⟩ := Int.eq_ofNat_of_zero_le (show 0 ≤ c by omega)
    by_cases h4 : cn ≤ t.size - fn
    · have h4I : ¬ (((t.size - fn : Nat) : Int) < (cn : Int)) := by omega
      have h4J : (cn : Int) ≤ ((t.size - fn : Nat) : Int) := by omega
      have hTT : (t.extract fn t.size).extract 0 cn = T := by
        rw [← HT.out]
        unfold readT
        rw [Int.toNat_natCast, Int.toNat_natCast, Nat.min_eq_left h4]
      have HTT := Lib.hid hTT
      clear hTT
      go_wp2_with fail
      all_goals first | omega | exact bodyPost_ret (v := .tuple #[.string ((t.extract fn t.size).extract 0 cn), .int .i64 0]) (by simp [results, Try.results15, go_sem]) rfl ⟨by rw [HTT.out], HB2.out⟩
    · have h4I : (((t.size - fn : Nat) : Int) < (cn : Int)) := by omega
      have h4J : ¬ (cn : Int) ≤ ((t.size - fn : Nat) : Int) := by omega
      have hTT : (t.extract fn t.size).extract 0 (t.size - fn) = T := by
        rw [← HT.out]
        unfold readT
        rw [Int.toNat_natCast, Int.toNat_natCast, Nat.min_eq_right (by omega)]
      have HTT := Lib.hid hTT
      clear hTT
      go_wp2_with fail
      all_goals first | omega | exact bodyPost_ret (v := .tuple #[.string ((t.extract fn t.size).extract 0 (t.size - fn)), .int .i64 0]) (by simp [results, Try.results15, go_sem]) rfl ⟨by rw [HTT.out], HB2.out⟩
theorem Read_nil {w : World} (k : IdB) (f c : Int) : Calls Try.prog 15 #[.pointer none, .agg (bvs k.1).toArray, .int .i64 f, .int .i64 c] w fun e w' => e = .returned (.tuple #[.string ⟨#[]⟩, .int .i64 1]) ∧ Below w.heap.size w w' := by
  obtain ⟨w1, hw1⟩ : ∃ w1, w.alloc (.cells (bvs k.1).toArray 30) = w1 := ⟨_, rfl⟩
  have hb1 : Below w.heap.size w w1 := hw1 ▸ (Below.refl _ _).alloc (Nat.le_refl _) _
  have hx1 : w1.heap[w.heap.size]? = some (.cells (bvs k.1).toArray 30 (0, 0)) := by rw [← hw1]; exact heap_alloc_new _ _
  have HG := Lib.hid (Get_nil (w := w1) k)
  have HB1 := Lib.hid hb1
  have HX := Lib.hid (range_block hx1)
  have HSI := Lib.hid (sizeId k)
  clear hb1 hx1
  go_enter Try.func15, Try.ntmps15
  go_wp2_with (with_reducible refine wpList_load_mid rfl 30 _ rfl w.heap.size (0) rfl (bvs k.1) _ HX.out Try.underlying30 rfl HSI.out ?_)
  refine HG.out.mono ?_
  rintro e w2 ⟨rfl, hb2⟩
  have HB2 := Lib.hid (HB1.out.trans (hb2.mono HB1.out.size))
  clear hb2
  go_wp2_with fail
  exact bodyPost_ret (v := .tuple #[.string ⟨#[]⟩, .int .i64 1]) (by simp [results, Try.results15, go_sem]) rfl ⟨rfl, HB2.out⟩
end Go.Proofs.Ytnmdgjodbikndaa
