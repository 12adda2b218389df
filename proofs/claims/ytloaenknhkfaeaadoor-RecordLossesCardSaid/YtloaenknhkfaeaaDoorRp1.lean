/- Records: what a part, a sector and a record are, as plain lists. No walk. -/
import Derived.Test.YtloaenknhkfaeaaDoorSha7
namespace Go.Proofs.YtloaenknhkfaeaaDoor
open Go.RowKit
set_option linter.unusedVariables false
set_option linter.unusedSimpArgs false

/-! ### numbers as bytes -/
def beL : Nat → Nat → List UInt8
  | 0, _ => []
  | s + 1, n => beL s (n / 256) ++ [n.toUInt8]
@[simp] theorem beL_length : ∀ s n, (beL s n).length = s
  | 0, _ => rfl
  | s + 1, n => by simp [beL, beL_length s]
def valN (l : List UInt8) : Nat := l.foldl (fun n b => n * 256 + b.toNat) 0
theorem valN_snoc (l : List UInt8) (b : UInt8) : valN (l ++ [b]) = valN l * 256 + b.toNat := by simp [valN]
theorem valN_be : ∀ s n, n < 256 ^ s → valN (beL s n) = n
  | 0, n, h => by simp at h; subst h; rfl
  | s + 1, n, h => by
    rw [beL, valN_snoc, valN_be s (n / 256) (by rw [Nat.pow_succ] at h; omega)]
    simp
    omega
theorem foldl_lt : ∀ (l : List UInt8) (a : Nat), l.foldl (fun n b => n * 256 + b.toNat) a < (a + 1) * 256 ^ l.length
  | [], a => by simp
  | b :: l, a => by
    have h := foldl_lt l (a * 256 + b.toNat)
    rw [List.foldl_cons, List.length_cons, Nat.pow_succ]
    have hb := b.toNat_lt
    have h2 : (a * 256 + b.toNat + 1) * 256 ^ l.length ≤ ((a + 1) * 256) * 256 ^ l.length := Nat.mul_le_mul_right _ (by omega)
    calc _ < _ := h
      _ ≤ _ := h2
      _ = _ := by rw [Nat.mul_assoc, Nat.mul_comm 256]
theorem valN_lt (l : List UInt8) : valN l < 256 ^ l.length := by have := foldl_lt l 0; simpa [valN] using this

/-! ### parts -/
structure PartD where
  kind : Int
  gen : Int
  num : Int
  idx : Int
  cnt : Int
  bytes : List UInt8
def PartD.zero : PartD := ⟨0, 0, 0, 0, 0, []⟩
def fineB (k g n : Int) : Bool := decide (0 ≤ k) && decide (k ≤ 65535) && decide (0 ≤ g) && decide (g ≤ 2147483647) && decide (0 ≤ n) && decide (n ≤ 2147483647)
def rangeB (k g n i c : Int) : Bool := fineB k g n && decide (1 ≤ c) && decide (c ≤ 586) && decide (0 ≤ i) && decide (i < c)
def chkE (k g n i c : Int) (len : Nat) : Int :=
  if rangeB k g n i c = false then 2 else if 224 < len then 5 else if i = c - 1 then (if 1 < c ∧ len = 0 then 4 else if 131072 < i * 224 + len then 5 else 0)
  else if len < 224 then 4 else 0
def chkP (p : PartD) : Int := chkE p.kind p.gen p.num p.idx p.cnt p.bytes.length
structure PartOk (p : PartD) : Prop where
  k0 : 0 ≤ p.kind
  k1 : p.kind ≤ 65535
  g0 : 0 ≤ p.gen
  g1 : p.gen ≤ 2147483647
  n0 : 0 ≤ p.num
  n1 : p.num ≤ 2147483647
  c0 : 1 ≤ p.cnt
  c1 : p.cnt ≤ 586
  i0 : 0 ≤ p.idx
  i1 : p.idx < p.cnt
  len : p.bytes.length ≤ 224
  last : p.idx = p.cnt - 1 → (1 < p.cnt → p.bytes.length ≠ 0) ∧ p.idx * 224 + p.bytes.length ≤ 131072
  full : p.idx ≠ p.cnt - 1 → p.bytes.length = 224
theorem chkP_ok {p : PartD} (h : chkP p = 0) : PartOk p := by
  unfold chkP chkE at h
  by_cases hr : rangeB p.kind p.gen p.num p.idx p.cnt = false
  · rw [if_pos hr] at h; cases h
  · rw [if_neg hr] at h
    have hr' : rangeB p.kind p.gen p.num p.idx p.cnt = true := by simpa using hr
    simp only [rangeB, fineB, Bool.and_eq_true, decide_eq_true_eq] at hr'
    obtain ⟨⟨⟨⟨⟨⟨⟨⟨⟨a1, a2⟩, a3⟩, a4⟩, a5⟩, a6⟩, a7⟩, a8⟩, a9⟩, a10⟩ := hr'
    by_cases hl : 224 < p.bytes.length
    · rw [if_pos hl] at h; cases h
    · rw [if_neg hl] at h
      refine ⟨a1, a2, a3, a4, a5, a6, a7, a8, a9, a10, by omega, fun e => ?_, fun e => ?_⟩
      · rw [if_pos e] at h
        by_cases h4 : 1 < p.cnt ∧ p.bytes.length = 0
        · rw [if_pos h4] at h; cases h
        · rw [if_neg h4] at h
          by_cases h5 : 131072 < p.idx * 224 + p.bytes.length
          · rw [if_pos h5] at h; cases h
          · exact ⟨fun h6 h7 => h4 ⟨h6, h7⟩, by omega⟩
      · rw [if_neg e] at h
        by_cases h4 : p.bytes.length < 224
        · rw [if_pos h4] at h; cases h
        · omega
theorem PartOk.chk {p : PartD} (h : PartOk p) : chkP p = 0 := by
  obtain ⟨a1, a2, a3, a4, a5, a6, a7, a8, a9, a10, hl, h1, h2⟩ := h
  unfold chkP chkE
  have hr : rangeB p.kind p.gen p.num p.idx p.cnt = true := by simp [rangeB, fineB, a1, a2, a3, a4, a5, a6, a7, a8, a9, a10]
  rw [hr, if_neg (by simp), if_neg (by omega)]
  by_cases e : p.idx = p.cnt - 1
  · rw [if_pos e, if_neg (fun h => (h1 e).1 h.1 h.2), if_neg (by have := (h1 e).2; omega)]
  · rw [if_neg e, if_neg (by have := h2 e; omega)]

/-! ### sectors -/
def hdrL (p : PartD) : List UInt8 := beL 4 p.gen.toNat ++ beL 4 p.num.toNat ++ beL 2 p.kind.toNat ++ beL 2 p.idx.toNat ++ beL 2 p.cnt.toNat ++ beL 2 p.bytes.length
@[simp] theorem hdrL_length (p : PartD) : (hdrL p).length = 16 := by simp [hdrL]
def padZ (b : List UInt8) : List UInt8 := (b ++ List.replicate (240 - b.length) 0).take 240
theorem padZ_length (b : List UInt8) : (padZ b).length = 240 := by simp [padZ]; omega
def sealL (b : List UInt8) : List UInt8 := halfL (padZ b) ++ padZ b
theorem sealL_length (b : List UInt8) : (sealL b).length = 256 := by simp [sealL, padZ_length]
def restL (p : PartD) : List UInt8 := hdrL p ++ p.bytes ++ List.replicate (224 - p.bytes.length) 0
def encL (p : PartD) : List UInt8 := sealL (hdrL p ++ p.bytes)
theorem encL_length (p : PartD) : (encL p).length = 256 := sealL_length _
theorem padZ_rest {p : PartD} (h : p.bytes.length ≤ 224) : padZ (hdrL p ++ p.bytes) = restL p := by
  unfold padZ restL
  have e : 240 - (hdrL p ++ p.bytes).length = 224 - p.bytes.length := by simp; omega
  rw [e, List.take_of_length_le (by simp; omega)]
theorem encL_rest {p : PartD} (h : p.bytes.length ≤ 224) : encL p = halfL (restL p) ++ restL p := by unfold encL sealL; rw [padZ_rest h]
theorem restL_length {p : PartD} (h : p.bytes.length ≤ 224) : (restL p).length = 240 := by simp [restL]; omega
theorem sealL_take (b : List UInt8) : (sealL b).take 16 = halfL (padZ b) := by simp [sealL]
theorem sealL_drop (b : List UInt8) : (sealL b).drop 16 = padZ b := by simp [sealL]

def seg (b : List UInt8) (i n : Nat) : List UInt8 := (b.drop i).take n
theorem seg_length (b : List UInt8) (i n : Nat) (h : i + n ≤ b.length) : (seg b i n).length = n := by simp [seg]; omega
def szL (b : List UInt8) : Nat := valN (seg b 30 2)
def rawP (b : List UInt8) : PartD := ⟨valN (seg b 24 2), valN (seg b 16 4), valN (seg b 20 4), valN (seg b 26 2), valN (seg b 28 2), seg b 32 (szL b)⟩
def zerosB (l : List UInt8) : Bool := l.all (· == 0)
def decE (b : List UInt8) : Int :=
  if b.length < 256 then 4 else if 256 < b.length then 5 else if halfL (b.drop 16) ≠ b.take 16 then 22
  else if szL b ≤ 224 ∧ zerosB (b.drop (32 + szL b)) = true ∧ chkP (rawP b) = 0 then 0 else 3
def decP (b : List UInt8) : PartD := if decE b = 0 then rawP b else .zero

theorem seg_mid (a c d : List UInt8) (i n : Nat) (hi : a.length = i) (hn : c.length = n) : seg (a ++ (c ++ d)) i n = c := by
  unfold seg
  subst hi
  subst hn
  simp
theorem enc_parts {p : PartD} (h : PartOk p) : seg (encL p) 16 4 = beL 4 p.gen.toNat ∧ seg (encL p) 20 4 = beL 4 p.num.toNat ∧ seg (encL p) 24 2 = beL 2 p.kind.toNat ∧ seg (encL p) 26 2 = beL 2 p.idx.toNat ∧
    seg (encL p) 28 2 = beL 2 p.cnt.toNat ∧ seg (encL p) 30 2 = beL 2 p.bytes.length ∧ seg (encL p) 32 p.bytes.length = p.bytes ∧ (encL p).drop (32 + p.bytes.length) = List.replicate (224 - p.bytes.length) 0 := by
  rw [encL_rest h.len]
  unfold restL hdrL
  generalize hH : halfL _ = H
  have hHl : H.length = 16 := by rw [← hH]; simp
  clear hH
  refine ⟨?_, ?_, ?_, ?_, ?_, ?_, ?_, ?_⟩
  · have := seg_mid H (beL 4 p.gen.toNat) (beL 4 p.num.toNat ++ beL 2 p.kind.toNat ++ beL 2 p.idx.toNat ++ beL 2 p.cnt.toNat ++ beL 2 p.bytes.length ++ p.bytes ++ List.replicate (224 - p.bytes.length) 0) 16 4 hHl (by simp)
    simpa using this
  · have := seg_mid (H ++ beL 4 p.gen.toNat) (beL 4 p.num.toNat) (beL 2 p.kind.toNat ++ beL 2 p.idx.toNat ++ beL 2 p.cnt.toNat ++ beL 2 p.bytes.length ++ p.bytes ++ List.replicate (224 - p.bytes.length) 0) 20 4 (by simp [hHl]) (by simp)
    simpa using this
  · have := seg_mid (H ++ beL 4 p.gen.toNat ++ beL 4 p.num.toNat) (beL 2 p.kind.toNat) (beL 2 p.idx.toNat ++ beL 2 p.cnt.toNat ++ beL 2 p.bytes.length ++ p.bytes ++ List.replicate (224 - p.bytes.length) 0) 24 2 (by simp [hHl]) (by simp)
    simpa using this
  · have := seg_mid (H ++ beL 4 p.gen.toNat ++ beL 4 p.num.toNat ++ beL 2 p.kind.toNat) (beL 2 p.idx.toNat) (beL 2 p.cnt.toNat ++ beL 2 p.bytes.length ++ p.bytes ++ List.replicate (224 - p.bytes.length) 0) 26 2 (by simp [hHl]) (by simp)
    simpa using this
  · have := seg_mid (H ++ beL 4 p.gen.toNat ++ beL 4 p.num.toNat ++ beL 2 p.kind.toNat ++ beL 2 p.idx.toNat) (beL 2 p.cnt.toNat) (beL 2 p.bytes.length ++ p.bytes ++ List.replicate (224 - p.bytes.length) 0) 28 2 (by simp [hHl]) (by simp)
    simpa using this
  · have := seg_mid (H ++ beL 4 p.gen.toNat ++ beL 4 p.num.toNat ++ beL 2 p.kind.toNat ++ beL 2 p.idx.toNat ++ beL 2 p.cnt.toNat) (beL 2 p.bytes.length) (p.bytes ++ List.replicate (224 - p.bytes.length) 0) 30 2 (by simp [hHl]) (by simp)
    simpa using this
  · have := seg_mid (H ++ beL 4 p.gen.toNat ++ beL 4 p.num.toNat ++ beL 2 p.kind.toNat ++ beL 2 p.idx.toNat ++ beL 2 p.cnt.toNat ++ beL 2 p.bytes.length) p.bytes (List.replicate (224 - p.bytes.length) 0) 32 p.bytes.length (by simp [hHl]) rfl
    simpa using this
  · have hl : (H ++ beL 4 p.gen.toNat ++ beL 4 p.num.toNat ++ beL 2 p.kind.toNat ++ beL 2 p.idx.toNat ++ beL 2 p.cnt.toNat ++ beL 2 p.bytes.length ++ p.bytes).length = 32 + p.bytes.length := by simp [hHl]; omega
    have := List.drop_left' (l₂ := List.replicate (224 - p.bytes.length) (0 : UInt8)) hl
    simpa using this
theorem zerosB_replicate (n : Nat) : zerosB (List.replicate n 0) = true := by simp [zerosB]
theorem dec_enc {p : PartD} (h : PartOk p) : decE (encL p) = 0 ∧ decP (encL p) = p := by
  obtain ⟨e1, e2, e3, e4, e5, e6, e7, e8⟩ := enc_parts h
  have hsz : szL (encL p) = p.bytes.length := by unfold szL; rw [e6]; exact valN_be 2 _ (by have := h.len; omega)
  have hraw : rawP (encL p) = p := by
    unfold rawP
    rw [hsz, e1, e2, e3, e4, e5, e7, valN_be 2 p.kind.toNat (by have := h.k1; omega), valN_be 4 p.gen.toNat (by have := h.g1; omega), valN_be 4 p.num.toNat (by have := h.n1; omega), valN_be 2 p.idx.toNat (by have := h.i1; have := h.c1; omega), valN_be 2 p.cnt.toNat (by have := h.c1; omega)]
    obtain ⟨k, g, n, i, c, l⟩ := p
    have := h.k0; have := h.g0; have := h.n0; have := h.i0; have := h.c0
    simp only [PartD.mk.injEq]
    simp only at *
    refine ⟨by omega, by omega, by omega, by omega, by omega, trivial⟩
  have hE : decE (encL p) = 0 := by
    unfold decE
    rw [if_neg (by rw [encL_length]; omega), if_neg (by rw [encL_length]; omega), if_neg (by unfold encL; rw [sealL_take, sealL_drop]; simp), if_pos]
    refine ⟨by rw [hsz]; exact h.len, by rw [hsz, e8]; exact zerosB_replicate _, by rw [hraw]; exact h.chk⟩
  exact ⟨hE, by unfold decP; rw [if_pos hE, hraw]⟩
theorem decE_ok {b : List UInt8} (h : decE b = 0) : b.length = 256 ∧ halfL (b.drop 16) = b.take 16 ∧ szL b ≤ 224 ∧ PartOk (rawP b) ∧ decP b = rawP b := by
  have hp : decP b = rawP b := by unfold decP; rw [if_pos h]
  unfold decE at h
  by_cases h1 : b.length < 256
  · rw [if_pos h1] at h; cases h
  · rw [if_neg h1] at h
    by_cases h2 : 256 < b.length
    · rw [if_pos h2] at h; cases h
    · rw [if_neg h2] at h
      by_cases h3 : halfL (b.drop 16) ≠ b.take 16
      · rw [if_pos h3] at h; cases h
      · rw [if_neg h3] at h
        by_cases h4 : szL b ≤ 224 ∧ zerosB (b.drop (32 + szL b)) = true ∧ chkP (rawP b) = 0
        · exact ⟨by omega, by simpa using h3, h4.1, chkP_ok h4.2.2, hp⟩
        · rw [if_neg h4] at h; cases h
/-- A sector whose digest does not fit. -/
theorem decE_sum {b : List UInt8} (hl : b.length = 256) (h : halfL (b.drop 16) ≠ b.take 16) : decE b = 22 := by
  unfold decE
  rw [if_neg (by omega), if_neg (by omega), if_pos h]
theorem decE_nz {b : List UInt8} (h : decE b ≠ 0) : decP b = .zero := by unfold decP; rw [if_neg h]

end Go.Proofs.YtloaenknhkfaeaaDoor
