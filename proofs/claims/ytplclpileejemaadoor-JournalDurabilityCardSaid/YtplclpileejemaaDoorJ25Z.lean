/- The laws' helpers: size, bytes. -/
import Derived.Test.YtplclpileejemaaDoorJB17
namespace Go.Proofs.YtplclpileejemaaDoor
open Go.RowKit
set_option linter.unusedVariables false
set_option linter.unusedSimpArgs false

set_option maxRecDepth 100000 in
set_option maxHeartbeats 2000000 in
theorem size_any {w : World} (sd : Nat) (hs : sd < 256) : Calls Tryd.prog 13 #[.int .u8 (sd : Int)] w fun e w' => e = .returned (.int .i64 ((8 + sd % 36 : Nat) : Int)) ∧ Below w.heap.size w w' := by
  go_enter Tryd.func13, Tryd.ntmps13
  go_wp2_with fail
  exact bodyPost_ret (v := .int .i64 ((8 + sd % 36 : Nat) : Int)) (by simp [results, Tryd.results13, go_sem]) rfl ⟨rfl, Below.refl _ _⟩
/-- The bytes of the laws. -/
def lawB (n : Nat) (b : UInt8) : List UInt8 := (List.range (n % 1500)).map fun i => b + UInt8.ofNat i * 7
theorem lawB_length (n : Nat) (b : UInt8) : (lawB n b).length = n % 1500 := by simp [lawB]
theorem fill_set {L : List UInt8} {i m : Nat} (hi : i < L.length) (hm : L.length = m) : (L.take i ++ List.replicate (m - i) 0).set i L[i] = L.take (i + 1) ++ List.replicate (m - (i + 1)) 0 := by
  have hl : (L.take i).length = i := by rw [List.length_take]; omega
  rw [List.set_append_right _ _ (by omega), hl, Nat.sub_self, show m - i = (m - (i + 1)) + 1 by omega, List.replicate_succ, List.set_cons_zero, List.take_succ_eq_append_getElem hi, List.append_assoc, List.singleton_append]
theorem bv_step (b : UInt8) (i : Nat) : bv (b + UInt8.ofNat i * 7) = .int .u8 (((b.toNat : Int) + (i : Int) % 256 * 7 % 256) % 256) := by
  unfold bv
  rw [UInt8.toNat_add, UInt8.toNat_mul, UInt8.toNat_ofNat']
  simp
  omega
theorem bvs_set (l : List UInt8) (i : Nat) (x : UInt8) : (bvs l).set i (bv x) = bvs (l.set i x) := by unfold bvs; rw [List.map_set]
set_option maxRecDepth 100000 in
set_option maxHeartbeats 2000000 in
theorem bytes_any {w : World} (n : Nat) (hn : n < 65536) (b : UInt8) : Calls Tryd.prog 16 #[.int .u16 (n : Int), .int .u8 (b.toNat : Int)] w fun e w' => ∃ a c, e = .returned (.slice a (n % 1500) c) ∧ BytesN w' (fun k => w.heap.size ≤ k) (.slice a (n % 1500) c) (lawB n b) ∧ Below w.heap.size w w' := by
  obtain ⟨m, hm⟩ : ∃ m, n % 1500 = m := ⟨_, rfl⟩
  have hm1 : m < 1500 := by omega
  have hmk := jmk m (by omega)
  obtain ⟨L, hL⟩ : ∃ L, lawB n b = L := ⟨_, rfl⟩
  have HLL := Lib.hid (show L.length = m by rw [← hL, lawB_length, hm])
  have hmI : (n : Int) % 1500 = (m : Int) := by omega
  have HLI := Lib.hid (show ∀ i (h : i < L.length), L[i] = b + UInt8.ofNat i * 7 from fun i h => by subst hL; simp [lawB])
  obtain ⟨W0, hW0⟩ : ∃ W0, w.alloc (.cells (bvs (List.replicate m 0)).toArray 5) = W0 := ⟨_, rfl⟩
  have HW0 := Lib.hid hW0
  have hb0 : Below w.heap.size w W0 := hW0 ▸ (Below.refl _ _).alloc (Nat.le_refl _) _
  have hx0 : W0.heap[w.heap.size]? = some (.cells (bvs (List.replicate m 0)).toArray 5 (0, 0)) := by rw [← hW0]; exact heap_alloc_new _ _
  have HB0 := Lib.hid hb0
  obtain ⟨q, hq⟩ : ∃ q, w.heap.size = q := ⟨_, rfl⟩
  rw [hq] at hx0
  have HQ := Lib.hid hq
  have HX0 := Lib.hid (show W0.heap[q]? = some (.cells (bvs (L.take 0 ++ List.replicate (m - 0) 0)).toArray 5 (0, 0)) from hx0)
  have HC0 := Lib.hid (Chg.refl (fun k => k = q) W0)
  rw [hm, hL]
  have HBT := Lib.hid (show b.toNat < 256 from b.toNat_lt)
  obtain ⟨bt, hbt⟩ : ∃ bt, b.toNat = bt := ⟨_, rfl⟩
  rw [hbt] at HBT ⊢
  have hbt2 : bt < 256 := HBT.out
  have HBB := Lib.hid hbt
  clear hbt hW0 hb0 hx0 hq hL hm
  go_enter Tryd.func16, Tryd.ntmps16
  go_wp2_with fail
  rw [HW0.out, HQ.out]
  try simp only [hmI]
  go_loopw [6] (fun iv wr => ∃ (i : Nat), i ≤ m ∧ iv = .int .i64 (i : Int) ∧ Hid (wr.heap[q]? = some (.cells (bvs (L.take i ++ List.replicate (m - i) 0)).toArray 5 (0, 0))) ∧ Hid (Chg (fun k => k = q) W0 wr)) (fun iv _ => m - (intOf iv).toNat)
  case atStart => exact ⟨0, Nat.zero_le _, rfl, HX0, HC0⟩
  case round =>
    obtain ⟨i, hi, rfl, HXR, HCR⟩ := hrel
    obtain ⟨W1, rfl⟩ : ∃ W1, W1 = wr := ⟨_, rfl⟩
    clear HX0 HC0
    by_cases hlt : i < m
    case neg =>
      obtain rfl : m = i := by omega
      have HBE := Lib.hid (show BytesN W1 (fun k => w.heap.size ≤ k) (.slice (some ⟨q, 0, none⟩) m m) L from by
        have h1 := HXR.out
        rw [List.take_of_length_le (by rw [HLL.out]; exact Nat.le_refl _), Nat.sub_self, List.replicate_zero, List.append_nil] at h1
        have h2 : OwnBytes W1 (fun k => w.heap.size ≤ k) (.slice (some ⟨q, 0, none⟩) L.length L.length) L := ⟨q, 5, rfl, by rw [HQ.out]; exact Nat.le_refl _, h1⟩
        have h3 := h2.n
        rwa [HLL.out] at h3)
      have HBW := Lib.hid (HB0.out.trans (HCR.out.below (fun k e => by rw [e, HQ.out]; exact Nat.le_refl _) HB0.out.size))
      go_wp2_with fail
      exact bodyPost_ret (v := .slice (some ⟨q, 0, none⟩) m m) (by simp [results, Tryd.results16, go_sem]) rfl ⟨_, _, rfl, HBE.out, HBW.out⟩
    have hiI : (i : Int) < (m : Int) := by omega
    have hsz : i < (bvs (L.take i ++ List.replicate (m - i) 0)).toArray.size := by simp [bvs, List.length_take, HLL.out]; omega
    go_wp2_with (refine wpList_putC rfl rfl 5 (.tmp 24) (.tmp 23) rfl q i (.int .u8 (((bt : Int) + (i : Int) % 256 * 7 % 256) % 256)) rfl rfl HXR.out hsz rfl (by kernel_rfl) ?_; refine Stop.on ?_)
    refine Stop.go ?_
    try simp only [Act.put, List.setIfInBounds_toArray, List.set_cons_zero, List.set_cons_succ]
    intro W2 x2 c2 s2
    try simp only [Act.put, List.setIfInBounds_toArray, List.set_cons_zero, List.set_cons_succ]
    have HX2 := Lib.hid (show W2.heap[q]? = some (.cells (bvs (L.take (i + 1) ++ List.replicate (m - (i + 1)) 0)).toArray 5 (0, 0)) by
      have hiL : i < L.length := by rw [HLL.out]; exact hlt
      rw [← fill_set hiL HLL.out, ← bvs_set, HLI.out i hiL, bv_step, HBB.out]
      exact x2)
    have HC2 := Lib.hid (HCR.out.trans c2 (fun k e => .inl e))
    clear x2 c2 s2 hsz
    go_wp2_with fail
    go_roundw
    case rel => exact ⟨i + 1, by omega, by go_num, HX2, HC2⟩
    case measure => simp [intOf] <;> omega
end Go.Proofs.YtplclpileejemaaDoor
