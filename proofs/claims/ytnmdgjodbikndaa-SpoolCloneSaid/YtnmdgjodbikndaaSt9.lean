/- The stable sort: any number of entries. -/
import Derived.Test.YtnmdgjodbikndaaSt8
namespace Go.Proofs.Ytnmdgjodbikndaa
open Go.RowKit Go.Sort Go.Shelf
set_option linter.unusedVariables false
set_option linter.unusedSimpArgs false

/-- Every tag ahead of m is less than every one behind it. -/
def Crs (d : Array TA) (m N : Nat) : Prop := ∀ p q, p < m → m ≤ q → q < N → d[p]!.2 < d[q]!.2
theorem Crs.keep {d d' : Array TA} {a b m N : Nat} (h : Crs d m N) (p : PermIn a b d d') (hb : b ≤ d.size) (hbN : b ≤ N) (hm : m ≤ a ∨ b ≤ m) : Crs d' m N := by
  intro i j h1 h2 h3
  rcases hm with hm | hm
  · rw [p.2.1 i (.inl (by omega))]
    by_cases hj : j < a ∨ b ≤ j
    · rw [p.2.1 j hj]; exact h i j h1 h2 h3
    · exact permIn_all d d' a b (fun x => d[i]!.2 < x.2) hb p (fun k h4 h5 => h i k h1 (by omega) (by omega)) j (by omega) (by omega)
  · rw [p.2.1 j (.inr (by omega))]
    by_cases hi : i < a ∨ b ≤ i
    · rw [p.2.1 i hi]; exact h i j h1 h2 h3
    · exact permIn_all d d' a b (fun x => x.2 < d[j]!.2) hb p (fun k h4 h5 => h k j (by omega) h2 h3) i (by omega) (by omega)
theorem Crs.new {d d' : Array TA} {a b N : Nat} (h : Crs d a N) (hi : Inc d a N) (p : PermIn a b d d') (hab : a ≤ b) (hb : b ≤ d.size) (hbN : b ≤ N) : Crs d' b N := by
  intro i j h1 h2 h3
  rw [p.2.1 j (.inr h2)]
  by_cases hia : i < a
  · rw [p.2.1 i (.inl hia)]
    exact h i j hia (by omega) h3
  · exact permIn_all d d' a b (fun x => x.2 < d[j]!.2) hb p (fun k h4 h5 => hi k j h4 (by omega) h3) i (by omega) h1
theorem Srt.keep {d d' : Array TA} {a b x y : Nat} (h : Srt d x y) (p : PermIn a b d d') (hm : y ≤ a ∨ b ≤ x) : Srt d' x y := by
  intro i j h1 h2 h3
  rw [p.2.1 i (by omega), p.2.1 j (by omega)]
  exact h i j h1 h2 h3
structure B1 (d0 d : Array TA) (N k : Nat) : Prop where
  perm : PermIn 0 N d0 d
  srt : ∀ j, j < k → Srt d (20 * j) (20 * j + 20)
  crs : ∀ j, j ≤ k → Crs d (20 * j) N
  inc : Inc d (20 * k) N
/-- Blocks of s in order. -/
structure BS (d0 d : Array TA) (N s : Nat) : Prop where
  perm : PermIn 0 N d0 d
  srt : ∀ j, s * j < N → Srt d (s * j) (min (s * j + s) N)
  crs : ∀ j, Crs d (s * j) N
/-- The first k pairs of blocks are merged. -/
structure B2 (d0 d : Array TA) (N s k : Nat) : Prop where
  perm : PermIn 0 N d0 d
  srtA : ∀ j, j < k → Srt d (2 * s * j) (2 * s * j + 2 * s)
  srtB : ∀ j, 2 * k ≤ j → s * j < N → Srt d (s * j) (min (s * j + s) N)
  crsA : ∀ j, j ≤ k → Crs d (2 * s * j) N
  crsB : ∀ j, 2 * k ≤ j → Crs d (s * j) N
theorem permIn_wide {d0 d d' : Array TA} {N a b : Nat} (h : PermIn 0 N d0 d) (p : PermIn a b d d') (hN : N ≤ d.size) (hab : a ≤ b) (hb : b ≤ N) : PermIn 0 N d0 d' := permIn_trans _ _ _ _ _ h (permIn_mono _ _ _ _ 0 N (Nat.zero_le _) hb hN p)
theorem B1.zero {d : Array TA} {N : Nat} (h : Inc d 0 N) : B1 d d N 0 := ⟨⟨rfl, fun _ _ => rfl, List.Perm.refl _⟩, fun j hj => absurd hj (Nat.not_lt_zero j), fun j hj p q h1 _ _ => by omega, h⟩
theorem B1.next {d0 d d' : Array TA} {N k : Nat} (h : B1 d0 d N k) (hN : N ≤ d.size) (hk : 20 * k + 20 ≤ N) (p : PermIn (20 * k) (20 * k + 20) d d') (hs : Srt d' (20 * k) (20 * k + 20)) : B1 d0 d' N (k + 1) := by
  refine ⟨permIn_wide h.perm p hN (by omega) hk, fun j hj => ?_, fun j hj => ?_, ?_⟩
  · by_cases hjk : j < k
    · exact (h.srt j hjk).keep p (.inl (by omega))
    · obtain rfl : j = k := by omega
      exact hs
  · by_cases hjk : j ≤ k
    · exact (h.crs j hjk).keep p (by omega) hk (.inl (by omega))
    · obtain rfl : j = k + 1 := by omega
      have := Crs.new (h.crs k (Nat.le_refl _)) h.inc p (by omega) (by omega) hk
      rw [show 20 * (k + 1) = 20 * k + 20 by omega]
      exact this
  · rw [show 20 * (k + 1) = 20 * k + 20 by omega]
    exact Inc.keep h.inc p (by omega)
theorem B1.end_ {d0 d d' : Array TA} {N k : Nat} (h : B1 d0 d N k) (hN : N ≤ d.size) (hk : 20 * k ≤ N) (hk2 : N < 20 * k + 20) (p : PermIn (20 * k) N d d') (hs : Srt d' (20 * k) N) : BS d0 d' N 20 := by
  refine ⟨permIn_wide h.perm p hN hk (Nat.le_refl _), fun j hj => ?_, fun j => ?_⟩
  · by_cases hjk : j < k
    · rw [Nat.min_eq_left (by omega)]
      exact (h.srt j hjk).keep p (.inl (by omega))
    · obtain rfl : j = k := by omega
      rw [Nat.min_eq_right (by omega)]
      exact hs
  · by_cases hjk : j ≤ k
    · exact (h.crs j hjk).keep p hN (Nat.le_refl _) (.inl (by omega))
    · intro p q h1 h2 h3
      omega
theorem B2.zero {d0 d : Array TA} {N s : Nat} (h : BS d0 d N s) : B2 d0 d N s 0 := ⟨h.perm, fun j hj => absurd hj (Nat.not_lt_zero j), fun j _ hj => h.srt j hj, fun j hj p q h1 _ _ => by
  obtain rfl : j = 0 := by omega
  rw [Nat.mul_zero] at h1
  exact absurd h1 (Nat.not_lt_zero p), fun j _ => h.crs j⟩
theorem B2.pre {d0 d : Array TA} {N s k m b : Nat} (h : B2 d0 d N s k) (hm : 2 * s * k + s = m) (hmN : m < N) (hb : b = min (m + s) N) : Pre d (2 * s * k) m b := by
  have e0 : s * (2 * k) = 2 * s * k := by rw [Nat.mul_left_comm, Nat.mul_assoc]
  have e1 : s * (2 * k + 1) = m := by rw [Nat.mul_add, e0, Nat.mul_one]; exact hm
  have h0 := h.srtB (2 * k) (Nat.le_refl _) (by rw [e0]; omega)
  have h1 := h.srtB (2 * k + 1) (by omega) (by rw [e1]; exact hmN)
  have h2 := h.crsB (2 * k + 1) (by omega)
  rw [e0, Nat.min_eq_left (by omega), hm] at h0
  rw [e1, ← hb] at h1
  rw [e1] at h2
  exact ⟨h0, h1, fun i j _ h4 h5 h6 => h2 i j h4 h5 (by omega)⟩
theorem B2.next {d0 d d' : Array TA} {N s k b : Nat} (h : B2 d0 d N s k) (hN : N ≤ d.size) (hb : 2 * s * k + 2 * s = b) (hbN : b ≤ N) (p : PermIn (2 * s * k) b d d') (hs : Srt d' (2 * s * k) b) : B2 d0 d' N s (k + 1) := by
  have eb : 2 * s * (k + 1) = b := by rw [Nat.mul_add, Nat.mul_one]; exact hb
  have eb2 : s * (2 * (k + 1)) = b := by rw [Nat.mul_left_comm, ← Nat.mul_assoc]; exact eb
  refine ⟨permIn_wide h.perm p hN (by omega) hbN, fun j hj => ?_, fun j hj hjN => ?_, fun j hj => ?_, fun j hj => ?_⟩
  · by_cases hjk : j < k
    · have h1 : 2 * s * (j + 1) ≤ 2 * s * k := Nat.mul_le_mul_left _ hjk
      rw [Nat.mul_add, Nat.mul_one] at h1
      exact (h.srtA j hjk).keep p (.inl h1)
    · obtain rfl : j = k := by omega
      rw [hb]
      exact hs
  · have h1 : s * (2 * (k + 1)) ≤ s * j := Nat.mul_le_mul_left _ hj
    exact (h.srtB j (by omega) hjN).keep p (.inr (by omega))
  · by_cases hjk : j ≤ k
    · have h1 : 2 * s * j ≤ 2 * s * k := Nat.mul_le_mul_left _ hjk
      exact (h.crsA j hjk).keep p (by omega) hbN (.inl h1)
    · obtain rfl : j = k + 1 := by omega
      have h2 := h.crsB (2 * (k + 1)) (by omega)
      rw [eb2] at h2
      rw [eb]
      exact h2.keep p (by omega) hbN (.inr (Nat.le_refl _))
  · have h1 : s * (2 * (k + 1)) ≤ s * j := Nat.mul_le_mul_left _ hj
    exact (h.crsB j (by omega)).keep p (by omega) hbN (.inr (by omega))
theorem B2.stop {d0 d : Array TA} {N s k : Nat} (h : B2 d0 d N s k) (hk : 2 * s * k ≤ N) (hk2 : N < 2 * s * k + 2 * s) (hs : 2 * s * k < N → Srt d (2 * s * k) N) : BS d0 d N (2 * s) := by
  have hgt : ∀ j, ¬ j ≤ k → 2 * s * k + 2 * s ≤ 2 * s * j := fun j hj => by
    have h1 : 2 * s * (k + 1) ≤ 2 * s * j := Nat.mul_le_mul_left _ (by omega)
    rw [Nat.mul_add, Nat.mul_one] at h1
    exact h1
  refine ⟨h.perm, fun j hj => ?_, fun j => ?_⟩
  · by_cases hjk : j < k
    · have h1 : 2 * s * (j + 1) ≤ 2 * s * k := Nat.mul_le_mul_left _ hjk
      rw [Nat.mul_add, Nat.mul_one] at h1
      rw [Nat.min_eq_left (by omega)]
      exact h.srtA j hjk
    · by_cases hjk2 : j ≤ k
      · obtain rfl : j = k := by omega
        rw [Nat.min_eq_right (by omega)]
        exact hs hj
      · have := hgt j hjk2
        omega
  · by_cases hjk : j ≤ k
    · exact h.crsA j hjk
    · intro p q h1 h2 h3
      have := hgt j hjk
      omega
theorem B2.merge {d0 d d' : Array TA} {N s k : Nat} (h : B2 d0 d N s k) (hN : N ≤ d.size) (hk : 2 * s * k ≤ N) (hk2 : N < 2 * s * k + 2 * s) (p : PermIn (2 * s * k) N d d') (hs : Srt d' (2 * s * k) N) : BS d0 d' N (2 * s) := by
  have hk' : ∀ j, j ≤ k → 2 * s * j ≤ 2 * s * k := fun j hj => Nat.mul_le_mul_left _ hj
  have hgt : ∀ j, ¬ j ≤ k → 2 * s * k + 2 * s ≤ 2 * s * j := fun j hj => by
    have h1 : 2 * s * (k + 1) ≤ 2 * s * j := Nat.mul_le_mul_left _ (by omega)
    rw [Nat.mul_add, Nat.mul_one] at h1
    exact h1
  refine ⟨permIn_wide h.perm p hN hk (Nat.le_refl _), fun j hj => ?_, fun j => ?_⟩
  · by_cases hjk : j < k
    · have h1 : 2 * s * (j + 1) ≤ 2 * s * k := Nat.mul_le_mul_left _ hjk
      rw [Nat.mul_add, Nat.mul_one] at h1
      rw [Nat.min_eq_left (by omega)]
      exact (h.srtA j hjk).keep p (.inl h1)
    · by_cases hjk2 : j ≤ k
      · obtain rfl : j = k := by omega
        rw [Nat.min_eq_right (by omega)]
        exact hs
      · have := hgt j hjk2
        omega
  · by_cases hjk : j ≤ k
    · exact (h.crsA j hjk).keep p hN (Nat.le_refl _) (.inl (hk' j hjk))
    · intro p q h1 h2 h3
      have := hgt j hjk
      omega
theorem B2.tail {d0 d : Array TA} {N s k : Nat} (h : B2 d0 d N s k) (hm : N ≤ 2 * s * k + s) : 2 * s * k < N → Srt d (2 * s * k) N := fun hlt => by
  have e0 : s * (2 * k) = 2 * s * k := by rw [Nat.mul_left_comm, Nat.mul_assoc]
  have h0 := h.srtB (2 * k) (Nat.le_refl _) (by rw [e0]; exact hlt)
  rw [e0, Nat.min_eq_right hm] at h0
  exact h0
theorem BS.all {d0 d : Array TA} {N s : Nat} (h : BS d0 d N s) (hs : N ≤ s) : Srt d 0 N := by
  by_cases h0 : 0 < N
  · have h1 := h.srt 0 (by rw [Nat.mul_zero]; exact h0)
    rw [Nat.mul_zero, Nat.zero_add, Nat.min_eq_right hs] at h1
    exact h1
  · intro i j _ _ h3
    omega
set_option maxRecDepth 1000000 in
set_option maxHeartbeats 2000000 in
theorem stable_gen {w0 w : World} {blk off cap : Nat} {d0 d : Array TA} (R : RowK encT 34 w0 blk off d0) (hs : d0.size = d.size) (S : SWK encT 34 w0 blk off d w) (hsz : d.size < 1000000) (ht : Inc d 0 d.size) :
    Calls Try.prog 61 #[.slice (some ⟨blk, off, none⟩) d.size cap, .int .i64 (d.size : Int), (.func (.func 40) #[] #[])] w fun e w' => e = .returned (.tuple #[]) ∧ ∃ d', SWK encT 34 w0 blk off d' w' ∧ Srt d' 0 d.size ∧ PermIn 0 d.size d d' := by
  obtain ⟨N, hN⟩ : ∃ N, d.size = N := ⟨_, rfl⟩
  have dz : d.size = N := hN
  rw [hN] at hs hsz ht ⊢
  have S0 := Lib.hid S
  have HT := Lib.hid ht
  have HS := Lib.hid hs
  have DZ := Lib.hid dz
  obtain ⟨di, hdi⟩ : ∃ di, d = di := ⟨_, rfl⟩
  have HB0 := Lib.hid (show B1 di di N 0 from B1.zero (hdi ▸ ht))
  rw [hdi] at S0 DZ ⊢
  clear S ht hN hs dz HT hdi
  go_enter Try.func61, Try.ntmps61
  go_wp2_with fail
  go_loopw [7, 8] (fun av bv wr => ∃ (k A : Nat) (d : Array TA), av = .int .i64 (A : Int) ∧ bv = .int .i64 ((A : Int) + 20) ∧ Hid (20 * k = A) ∧ A ≤ N ∧ Hid (SWK encT 34 w0 blk off d wr) ∧ Hid (B1 di d N k) ∧ Hid (d.size = N)) (fun av _ _ => N - (intOf av).toNat)
  case atStart => exact ⟨0, 0, di, rfl, rfl, Lib.hid rfl, Nat.zero_le _, S0, HB0, DZ⟩
  case round =>
    obtain ⟨k, A, d, rfl, rfl, HKA, hAN, HSW, HB1, HDZ⟩ := hrel
    clear S0 HB0 DZ
    by_cases hle : A + 20 ≤ N
    · have hleI : (A : Int) + 20 ≤ (N : Int) := by omega
      go_wp2_with fail
      refine (insT R (by rw [HS.out, HDZ.out]) HSW.out A (A + 20) (A : Int) ((A : Int) + 20) rfl (by omega) (by omega) (by rw [HDZ.out]; exact hle) (by rw [HDZ.out]; omega) N HDZ.out (fun p q a1 a2 a3 => HB1.out.inc p q (by rw [HKA.out]; exact a1) a2 (by omega))).mono ?_
      rintro e w1 ⟨rfl, d1, s1, r1, p1⟩
      have HSW1 := Lib.hid s1
      have HB := Lib.hid (show B1 di d1 N (k + 1) from B1.next HB1.out (by rw [HDZ.out]; exact Nat.le_refl _) (by rw [HKA.out]; exact hle) (by rw [HKA.out]; exact p1) (by rw [HKA.out]; exact r1))
      have HD1 := Lib.hid (show d1.size = N by rw [p1.1, HDZ.out])
      clear s1 r1 p1
      go_wp2_with fail
      go_roundw
      case rel => exact ⟨k + 1, A + 20, d1, congrArg (Value.int .i64) (by omega), congrArg (Value.int .i64) (by omega), Lib.hid (by have := HKA.out; omega), hle, HSW1, HB, HD1⟩
      case measure => simp [intOf]; omega
    · have hleI : ¬ (A : Int) + 20 ≤ (N : Int) := by omega
      go_wp2_with fail
      refine (insT R (by rw [HS.out, HDZ.out]) HSW.out A N (A : Int) (N : Int) rfl rfl hAN (by rw [HDZ.out]; exact Nat.le_refl _) (by rw [HDZ.out]; omega) N HDZ.out (fun p q a1 a2 a3 => HB1.out.inc p q (by rw [HKA.out]; exact a1) a2 a3)).mono ?_
      rintro e w1 ⟨rfl, d1, s1, r1, p1⟩
      have HSW1 := Lib.hid s1
      have HB := Lib.hid (show BS di d1 N 20 from B1.end_ HB1.out (by rw [HDZ.out]; exact Nat.le_refl _) (by rw [HKA.out]; exact hAN) (by rw [HKA.out]; omega) (by rw [HKA.out]; exact p1) (by rw [HKA.out]; exact r1))
      have HD1 := Lib.hid (show d1.size = N by rw [p1.1, HDZ.out])
      clear s1 r1 p1 HB1 HSW HDZ HKA hle hleI hAN
      go_wp2_with fail
      go_loopw [6] (fun sv wr => ∃ (s : Nat) (d : Array TA), sv = .int .i64 (s : Int) ∧ 20 ≤ s ∧ s < 2000040 ∧ Hid (SWK encT 34 w0 blk off d wr) ∧ Hid (BS di d N s) ∧ Hid (d.size = N)) (fun sv _ => N - (intOf sv).toNat)
      case atStart => exact ⟨20, d1, rfl, Nat.le_refl _, by omega, HSW1, HB, HD1⟩
      case round =>
        obtain ⟨s, d, rfl, hs20, hsb, HSW, HBS, HDZ⟩ := hrel
        clear HSW1 HB HD1
        by_cases hlt : s < N
        · have hltI : (s : Int) < (N : Int) := by omega
          go_wp2_with fail
          go_loopw [7, 8] (fun av bv wr => ∃ (k A : Nat) (d : Array TA), av = .int .i64 (A : Int) ∧ bv = .int .i64 ((A : Int) + 2 * (s : Int)) ∧ Hid (2 * s * k = A) ∧ A ≤ N ∧ Hid (SWK encT 34 w0 blk off d wr) ∧ Hid (B2 di d N s k) ∧ Hid (d.size = N)) (fun av _ _ => N - (intOf av).toNat)
          case atStart => exact ⟨0, 0, d, rfl, congrArg (Value.int .i64) (by omega), Lib.hid (Nat.mul_zero _), Nat.zero_le _, HSW, Lib.hid (B2.zero HBS.out), HDZ⟩
          case round =>
            clear HSW HBS HDZ
            obtain ⟨k, A, d, rfl, rfl, HKA, hAN, HSW, HB2, HDZ⟩ := hrel
            by_cases hle : A + 2 * s ≤ N
            · have hleI : (A : Int) + 2 * (s : Int) ≤ (N : Int) := by omega
              go_wp2_with fail
              refine (symT R (by rw [HS.out, HDZ.out]) HSW.out A (A + s) (A + 2 * s) (A : Int) ((A : Int) + (s : Int)) ((A : Int) + 2 * (s : Int)) rfl (by omega) (by omega) (by omega) (by omega) (by rw [HDZ.out]; exact hle) (by rw [HDZ.out]; omega) (by
                have h := B2.pre (m := A + s) (b := A + 2 * s) HB2.out (by rw [HKA.out]) (by omega) (by omega)
                rw [HKA.out] at h
                exact h) N HDZ.out).mono ?_
              rintro e w1 ⟨rfl, d1, s1, r1, p1⟩
              have HSW1 := Lib.hid s1
              have HB := Lib.hid (show B2 di d1 N s (k + 1) from B2.next HB2.out (by rw [HDZ.out]; exact Nat.le_refl _) (by rw [HKA.out]) hle (by rw [HKA.out]; exact p1) (by rw [HKA.out]; exact r1))
              have HD1 := Lib.hid (show d1.size = N by rw [p1.1, HDZ.out])
              have HK1 := Lib.hid (show 2 * s * (k + 1) = A + 2 * s by rw [Nat.mul_add, Nat.mul_one, HKA.out])
              clear s1 r1 p1
              go_wp2_with fail
              go_roundw
              case rel => exact ⟨k + 1, A + 2 * s, d1, congrArg (Value.int .i64) (by omega), congrArg (Value.int .i64) (by omega), HK1, hle, HSW1, HB, HD1⟩
              case measure => simp [intOf]; omega
            · have hleI : ¬ (A : Int) + 2 * (s : Int) ≤ (N : Int) := by omega
              by_cases hm : A + s < N
              · have hmI : (A : Int) + (s : Int) < (N : Int) := by omega
                go_wp2_with fail
                refine (symT R (by rw [HS.out, HDZ.out]) HSW.out A (A + s) N (A : Int) ((A : Int) + (s : Int)) (N : Int) rfl (by omega) rfl (by omega) hm (by rw [HDZ.out]; exact Nat.le_refl _) (by rw [HDZ.out]; omega) (by
                  have h := B2.pre (m := A + s) (b := N) HB2.out (by rw [HKA.out]) hm (by omega)
                  rw [HKA.out] at h
                  exact h) N HDZ.out).mono ?_
                rintro e w1 ⟨rfl, d1, s1, r1, p1⟩
                have HSW1 := Lib.hid s1
                have HB := Lib.hid (show BS di d1 N (2 * s) from B2.merge HB2.out (by rw [HDZ.out]; exact Nat.le_refl _) (by rw [HKA.out]; exact hAN) (by rw [HKA.out]; omega) (by rw [HKA.out]; exact p1) (by rw [HKA.out]; exact r1))
                have HD1 := Lib.hid (show d1.size = N by rw [p1.1, HDZ.out])
                clear s1 r1 p1
                go_wp2_with fail
                go_roundw
                case rel => exact ⟨2 * s, d1, congrArg (Value.int .i64) (by omega), by omega, by omega, HSW1, HB, HD1⟩
                case measure => simp [intOf]; omega
              · have hmI : ¬ (A : Int) + (s : Int) < (N : Int) := by omega
                have HB := Lib.hid (show BS di d N (2 * s) from B2.stop HB2.out (by rw [HKA.out]; exact hAN) (by rw [HKA.out]; omega) (B2.tail HB2.out (by rw [HKA.out]; omega)))
                go_wp2_with fail
                go_roundw
                case rel => exact ⟨2 * s, d, congrArg (Value.int .i64) (by omega), by omega, by omega, HSW, HB, HDZ⟩
                case measure => simp [intOf]; omega
        · have hltI : ¬ (s : Int) < (N : Int) := by omega
          go_wp2_with fail
          go_end0
          exact ⟨rfl, d, HSW.out, HBS.out.all (by omega), HBS.out.perm⟩
theorem stableOk_any (NN : Nat) (hNN : NN < 1000000) : StableOk NN := by
  intro w B v M h hB hl
  match M, hl with
  | [], hl => exact stableOk_one w B v [] h hB (Nat.zero_le _)
  | x :: M', hl =>
    obtain ⟨M, hM⟩ : ∃ M, x :: M' = M := ⟨_, rfl⟩
    rw [hM] at h hl ⊢
    have hne : M ≠ [] := by rw [← hM]; exact List.cons_ne_nil _ _
    clear hM
    have hh : w.ownsRow B 44 34 v M.length (M.flatMap entE.enc) := h
    rcases hh.2 with ⟨_, h0⟩ | ⟨g, cap, cur, rfl, hgB, hg, hc, hm, hsz, ht⟩
    · exact absurd (List.eq_nil_of_length_eq_zero h0) hne
    obtain ⟨Z, hZ⟩ : ∃ Z, M.zipIdx = Z := ⟨_, rfl⟩
    have hZl : Z.length = M.length := by rw [← hZ]; simp
    have hZm : Z.map (·.1) = M := by rw [← hZ]; simp
    have htZ : cur.toList.take (Z.length * entT.k) = Z.flatMap entT.enc := by
      rw [hZl]
      exact ht.trans (by show _ = Z.flatMap encT; rw [flat_tags, hZm]; rfl)
    have hH := holdsK_of entT Z hg htZ
    have R : RowK encT 34 w g 0 Z.toArray := ⟨encT_len, fun x => entC_one x.1, hH, (Array.getElem?_eq_some_iff.1 hg).1⟩
    have hinc : Inc Z.toArray 0 Z.toArray.size := by
      intro p q _ h2 h3
      have h3' : q < Z.length := by simpa using h3
      rw [getElem!_pos Z.toArray p (by simp; omega), getElem!_pos Z.toArray q h3]
      simp only [List.getElem_toArray]
      subst hZ
      simp only [List.getElem_zipIdx]
      omega
    have hcon := stable_gen (cap := cap) R rfl (SWK.start hH) (by rw [List.size_toArray]; omega) hinc
    rw [show Z.toArray.size = M.length by rw [List.size_toArray]; exact hZl] at hcon
    have HC := Lib.hid hcon
    clear hcon
    obtain ⟨n, hn⟩ : ∃ n, M.length = n := ⟨_, rfl⟩
    have HP := Lib.hid (show ∀ (w' : World) (d' : Array TA), SWK encT 34 w g 0 d' w' → Srt d' 0 M.length → PermIn 0 M.length Z.toArray d' → OwnL entE w' B (.slice (some ⟨g, 0, none⟩) M.length cap) (stab M) ∧ Below B w w' by
      intro w' d' ⟨n, os, hw⟩ hs hp
      have hz : d'.size = M.length := hp.1.trans (by rw [List.size_toArray]; exact hZl)
      have hst := stab_of_srt M Z.toArray d' (by rw [← hZ]) (by rw [hz]; exact hp) (by rw [hz]; exact hs)
      have hlen : (stab M).length = M.length := by rw [← hst]; simp [hz]
      have hfl : flatK encT 34 d' = flatK entE.enc 34 (stab M).toArray := by
        apply Array.ext'
        have e1 := flatK_list entT d'.toList
        have e2 := flatK_list entE (stab M)
        rw [Array.toArray_toList] at e1
        exact e1.trans ((flat_tags _).trans (by rw [hst]; exact e2.symm))
      have hww : w' = sortWorldK entE.enc entE.k w g 0 n (stab M).toArray os := by
        rw [hw]
        unfold sortWorldK putRowK
        rw [hfl]
        rfl
      rw [hww]
      exact own_sorted entE M (stab M) hlen hgB hg hc hm hsz)
    rw [hn] at HC HP ⊢
    clear hh h hm hsz ht htZ hH R hinc hZ hZl hZm hc hg
    go_enter Try.func42, Try.ntmps42
    go_wp2_with fail
    refine HC.out.mono ?_
    rintro e w1 ⟨rfl, d', s1, s2, s3⟩
    have HE := Lib.hid (HP.out w1 d' s1 s2 s3)
    clear s1 s2 s3
    go_wp2_with fail
    go_end0
    exact ⟨rfl, HE.out⟩
end Go.Proofs.Ytnmdgjodbikndaa
