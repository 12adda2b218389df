/- Records: changed sectors; records, and how they are joined. No walk. -/
import Derived.Test.YtloaenknhkfaeaaDoorRp1
namespace Go.Proofs.YtloaenknhkfaeaaDoor
open Go.RowKit
set_option linter.unusedVariables false
set_option linter.unusedSimpArgs false

/-! ### changed sectors -/
theorem set_take_lt (l : List UInt8) (i n : Nat) (x : UInt8) (h : n ≤ i) : (l.set i x).take n = l.take n := by
  apply List.ext_getElem?
  intro j
  rw [List.getElem?_take, List.getElem?_take]
  split
  · rw [List.getElem?_set_ne (by omega)]
  · rfl
theorem set_drop_lt (l : List UInt8) (i n : Nat) (x : UInt8) (h : i < n) : (l.set i x).drop n = l.drop n := by
  apply List.ext_getElem?
  intro j
  rw [List.getElem?_drop, List.getElem?_drop, List.getElem?_set_ne (by omega)]
theorem set_ne_self {l : List UInt8} {i : Nat} {x : UInt8} (hi : i < l.length) (hx : x ≠ l[i]) : l.set i x ≠ l := by
  intro e
  have := congrArg (·[i]?) e
  simp [hi] at this
  exact hx this
theorem halves {a c : List UInt8} (ha : halfL (a.drop 16) = a.take 16) (hc : halfL (c.drop 16) = c.take 16) (hne : c ≠ a) (h : c.take 16 = a.take 16) : a.drop 16 ≠ c.drop 16 ∧ halfL (a.drop 16) = halfL (c.drop 16) := by
  refine ⟨fun e => hne ?_, by rw [ha, hc, h]⟩
  rw [← List.take_append_drop 16 c, ← List.take_append_drop 16 a, h, e]
/-- One byte of a sector was changed. -/
theorem tamper {a : List UInt8} {i : Nat} {x : UInt8} (hl : a.length = 256) (ha : halfL (a.drop 16) = a.take 16) (hi : i < 256) (hx : x ≠ a[i]'(by omega)) :
    decE (a.set i x) = 22 ∨ (a.drop 16 ≠ (a.set i x).drop 16 ∧ halfL (a.drop 16) = halfL ((a.set i x).drop 16)) := by
  have hne := set_ne_self (by omega) hx
  by_cases hc : halfL ((a.set i x).drop 16) = (a.set i x).take 16
  · refine .inr ?_
    by_cases h16 : 16 ≤ i
    · exact halves ha hc hne (set_take_lt _ _ _ _ h16)
    · exfalso
      have hd := set_drop_lt a i 16 x (by omega)
      apply hne
      rw [← List.take_append_drop 16 (a.set i x), ← hc, hd, ha, List.take_append_drop]
  · exact .inl (decE_sum (by simp [hl]) hc)
/-- A sector that begins like a and continues like b. -/
theorem torn {a b : List UInt8} {i : Nat} (hla : a.length = 256) (hlb : b.length = 256) (ha : halfL (a.drop 16) = a.take 16) (hb : halfL (b.drop 16) = b.take 16) (hi : i ≤ 256)
    (hna : a.take i ++ b.drop i ≠ a) (hnb : a.take i ++ b.drop i ≠ b) :
    decE (a.take i ++ b.drop i) = 22 ∨ (a.drop 16 ≠ (a.take i ++ b.drop i).drop 16 ∧ halfL (a.drop 16) = halfL ((a.take i ++ b.drop i).drop 16)) := by
  have hlc : (a.take i ++ b.drop i).length = 256 := by simp; omega
  by_cases hc : halfL ((a.take i ++ b.drop i).drop 16) = (a.take i ++ b.drop i).take 16
  · refine .inr ?_
    by_cases h16 : 16 ≤ i
    · refine halves ha hc hna ?_
      rw [List.take_append_of_le_length (by simp; omega), List.take_take, Nat.min_eq_left h16]
    · exfalso
      apply hnb
      have hd : (a.take i ++ b.drop i).drop 16 = b.drop 16 := by
        rw [List.drop_append, List.drop_drop, List.drop_of_length_le (by simp; omega), List.nil_append]
        congr 1
        simp
        omega
      rw [← List.take_append_drop 16 (a.take i ++ b.drop i), ← hc, hd, hb, List.take_append_drop]
  · exact .inl (decE_sum hlc hc)

/-! ### records -/
structure RecD where
  kind : Int
  gen : Int
  num : Int
  load : List UInt8
def RecD.zero : RecD := ⟨0, 0, 0, []⟩
def needN (n : Nat) : Nat := max 1 ((n + 223) / 224)
def partOf (r : RecD) (i : Nat) : PartD := ⟨r.kind, r.gen, r.num, i, needN r.load.length, seg r.load (224 * i) 224⟩
def splitE (r : RecD) : Int := if fineB r.kind r.gen r.num = false then 2 else if 131072 < r.load.length then 5 else 0
def splitL (r : RecD) : List (List UInt8) := if splitE r = 0 then (List.range (needN r.load.length)).map fun i => encL (partOf r i) else []
theorem splitE_ok {r : RecD} (h : splitE r = 0) : fineB r.kind r.gen r.num = true ∧ r.load.length ≤ 131072 := by
  unfold splitE at h
  by_cases h1 : fineB r.kind r.gen r.num = false
  · rw [if_pos h1] at h; cases h
  · rw [if_neg h1] at h
    by_cases h2 : 131072 < r.load.length
    · rw [if_pos h2] at h; cases h
    · exact ⟨by simpa using h1, by omega⟩
theorem need_le {n : Nat} (h : n ≤ 131072) : 1 ≤ needN n ∧ needN n ≤ 586 := by unfold needN; omega
theorem partOf_ok {r : RecD} (h : splitE r = 0) {i : Nat} (hi : i < needN r.load.length) : PartOk (partOf r i) := by
  obtain ⟨h1, h2⟩ := splitE_ok h
  simp only [fineB, Bool.and_eq_true, decide_eq_true_eq] at h1
  obtain ⟨⟨⟨⟨⟨a1, a2⟩, a3⟩, a4⟩, a5⟩, a6⟩ := h1
  have hn := need_le h2
  have hlen : (seg r.load (224 * i) 224).length = min 224 (r.load.length - 224 * i) := by simp [seg]
  have hN : needN r.load.length = max 1 ((r.load.length + 223) / 224) := rfl
  refine ⟨a1, a2, a3, a4, a5, a6, ?_, ?_, ?_, ?_, ?_, ?_, ?_⟩
  all_goals simp only [partOf, hlen]
  · omega
  · omega
  · omega
  · omega
  · omega
  · intro e
    refine ⟨fun h => ?_, ?_⟩ <;> omega
  · intro e; omega

def samePl (f p : PartD) (i : Nat) : Bool := p.kind == f.kind && p.gen == f.gen && p.num == f.num && p.idx == (i : Int) && p.cnt == f.cnt
def joinGo (l : List (List UInt8)) (f : PartD) : Nat → Nat → List UInt8 → RecD × Nat × Int
  | _, 0, acc => (⟨f.kind, f.gen, f.num, acc⟩, f.cnt.toNat, 0)
  | i, k + 1, acc =>
    match l[i]? with
    | none => (.zero, 0, 23)
    | some b => if decE b ≠ 0 then (.zero, 0, decE b) else if samePl f (decP b) i then joinGo l f (i + 1) k (acc ++ (decP b).bytes) else (.zero, 0, 30)
def joinL : List (List UInt8) → RecD × Nat × Int
  | [] => (.zero, 0, 4)
  | b :: l => if decE b ≠ 0 then (.zero, 0, decE b) else if (decP b).idx ≠ 0 then (.zero, 0, 30) else joinGo (b :: l) (decP b) 1 ((decP b).cnt.toNat - 1) (decP b).bytes

theorem splitL_length {r : RecD} (h : splitE r = 0) : (splitL r).length = needN r.load.length := by simp [splitL, h]
theorem splitL_get {r : RecD} (h : splitE r = 0) {i : Nat} (hi : i < needN r.load.length) (m : List (List UInt8)) : (splitL r ++ m)[i]? = some (encL (partOf r i)) := by
  rw [List.getElem?_append_left (by rw [splitL_length h]; exact hi), splitL, if_pos h, List.getElem?_map, List.getElem?_range hi]
  rfl
theorem seg_next (l : List UInt8) (i : Nat) : l.take (224 * i) ++ seg l (224 * i) 224 = l.take (224 * (i + 1)) := by
  unfold seg
  rw [show 224 * (i + 1) = 224 * i + 224 by omega, List.take_add]
theorem joinGo_split {r : RecD} (h : splitE r = 0) (m : List (List UInt8)) : ∀ k i, i + k = needN r.load.length → 1 ≤ i →
    joinGo (splitL r ++ m) (partOf r 0) i k (r.load.take (224 * i)) = (r, needN r.load.length, 0)
  | 0, i, hk, h1 => by
    have hn := need_le (splitE_ok h).2
    have : r.load.take (224 * i) = r.load := List.take_of_length_le (by unfold needN at hk; omega)
    rw [joinGo, this]
    rfl
  | k + 1, i, hk, h1 => by
    have hd := dec_enc (partOf_ok h (i := i) (by omega))
    rw [joinGo, splitL_get h (by omega)]
    simp only
    rw [if_neg (by rw [hd.1]; simp), hd.2, if_pos (by simp [samePl, partOf])]
    show joinGo _ _ (i + 1) k (r.load.take (224 * i) ++ seg r.load (224 * i) 224) = _
    rw [seg_next]
    exact joinGo_split h m k (i + 1) (by omega) (by omega)
theorem join_split {r : RecD} (h : splitE r = 0) (m : List (List UInt8)) : joinL (splitL r ++ m) = (r, needN r.load.length, 0) := by
  have hn := need_le (splitE_ok h).2
  have hd := dec_enc (partOf_ok h (i := 0) (by omega))
  have h0 := splitL_get h (i := 0) (by omega) m
  obtain ⟨b, l, hl⟩ : ∃ b l, splitL r ++ m = b :: l := by
    cases hs : splitL r ++ m with
    | nil => rw [hs] at h0; cases h0
    | cons b l => exact ⟨b, l, rfl⟩
  have hb : b = encL (partOf r 0) := by rw [hl] at h0; simpa using h0
  have hj := joinGo_split h m (needN r.load.length - 1) 1 (by omega) (Nat.le_refl _)
  rw [hl] at hj ⊢
  rw [joinL, hb, if_neg (by rw [hd.1]; simp), hd.2, if_neg (by simp [partOf])]
  rw [hb] at hj
  have e : (partOf r 0).cnt.toNat = needN r.load.length := rfl
  rw [e]
  rw [← hj]
  congr 1
/-- Sectors are missing at the end. -/
theorem joinGo_cut {r : RecD} (h : splitE r = 0) (n : Nat) (hn : n < needN r.load.length) : ∀ k i acc, i + k = needN r.load.length → i ≤ n → joinGo ((splitL r).take n) (partOf r 0) i k acc = (.zero, 0, 23)
  | 0, i, _, hk, hi => by omega
  | k + 1, i, acc, hk, hi => by
    rw [joinGo]
    by_cases e : i = n
    · subst e
      rw [List.getElem?_eq_none (by simp; omega)]
    · have hd := dec_enc (partOf_ok h (i := i) (by omega))
      have h0 := splitL_get h (i := i) (by omega) []
      rw [List.append_nil] at h0
      rw [List.getElem?_take_of_lt (by omega), h0]
      simp only
      rw [if_neg (by rw [hd.1]; simp), hd.2, if_pos (by simp [samePl, partOf])]
      exact joinGo_cut h n hn k (i + 1) _ (by omega) (by omega)
theorem join_cut {r : RecD} (h : splitE r = 0) (n : Nat) (h1 : 1 ≤ n) (hn : n < needN r.load.length) : joinL ((splitL r).take n) = (.zero, 0, 23) := by
  have hd := dec_enc (partOf_ok h (i := 0) (by omega))
  have h0 := splitL_get h (i := 0) (by omega) []
  rw [List.append_nil] at h0
  obtain ⟨b, l, hl⟩ : ∃ b l, (splitL r).take n = b :: l := by
    cases hs : (splitL r).take n with
    | nil =>
      have := congrArg List.length hs
      rw [List.length_take, splitL_length h] at this
      simp at this
      omega
    | cons b l => exact ⟨b, l, rfl⟩
  have hb : b = encL (partOf r 0) := by
    have h2 : ((splitL r).take n)[0]? = some (encL (partOf r 0)) := by rw [List.getElem?_take_of_lt (by omega), h0]
    rw [hl] at h2
    simpa using h2
  have hj := joinGo_cut h n hn (needN r.load.length - 1) 1 (partOf r 0).bytes (by omega) h1
  rw [hl] at hj ⊢
  rw [joinL, hb, if_neg (by rw [hd.1]; simp), hd.2, if_neg (by simp [partOf])]
  rw [hb] at hj
  exact hj

/-! ### scans -/
def scanGo (g n : Int) (l : List (List UInt8)) : Nat → Nat → List RecD → List RecD × Nat × Int
  | 0, at_, out => (out, at_, 0)
  | k + 1, at_, out =>
    if l.length ≤ at_ then (out, at_, 0)
    else if (joinL (l.drop at_)).2.2 ≠ 0 then (out, at_, (joinL (l.drop at_)).2.2)
    else if (joinL (l.drop at_)).1.gen = g ∧ (joinL (l.drop at_)).1.num = n + out.length then scanGo g n l k (at_ + (joinL (l.drop at_)).2.1) (out ++ [(joinL (l.drop at_)).1])
    else (out, at_, 30)
def scanL (g n : Int) (l : List (List UInt8)) : List RecD × Nat × Int := if fineB 0 g n = false then ([], 0, 2) else scanGo g n l l.length 0 []
def salGo (l : List (List UInt8)) : Nat → Nat → List RecD → List RecD
  | 0, _, out => out
  | k + 1, at_, out =>
    if l.length ≤ at_ then out
    else if (joinL (l.drop at_)).2.2 ≠ 0 then salGo l k (at_ + 1) out
    else salGo l k (at_ + (joinL (l.drop at_)).2.1) (out ++ [(joinL (l.drop at_)).1])
def salL (l : List (List UInt8)) : List RecD := salGo l l.length 0 []
theorem joinGo_count (l : List (List UInt8)) (f : PartD) : ∀ k i acc, (joinGo l f i k acc).2.2 = 0 → (joinGo l f i k acc).2.1 = f.cnt.toNat
  | 0, _, _, _ => rfl
  | k + 1, i, acc, h => by
    rw [joinGo] at h ⊢
    cases hb : l[i]? with
    | none => rw [hb] at h; cases h
    | some b =>
      rw [hb] at h
      simp only at h ⊢
      by_cases h1 : decE b ≠ 0
      · rw [if_pos h1] at h; exact absurd h h1
      · rw [if_neg h1] at h ⊢
        by_cases h2 : samePl f (decP b) i = true
        · rw [if_pos h2] at h ⊢
          exact joinGo_count l f k (i + 1) _ h
        · rw [if_neg h2] at h; cases h
theorem join_pos {l : List (List UInt8)} (h : (joinL l).2.2 = 0) : 1 ≤ (joinL l).2.1 := by
  cases l with
  | nil => cases h
  | cons b l =>
    rw [joinL] at h ⊢
    by_cases h1 : decE b ≠ 0
    · rw [if_pos h1] at h; exact absurd h h1
    · rw [if_neg h1] at h ⊢
      by_cases h2 : (decP b).idx ≠ 0
      · rw [if_pos h2] at h; cases h
      · rw [if_neg h2] at h ⊢
        rw [joinGo_count _ _ _ _ _ h]
        have hk := decE_ok (by simpa using h1 : decE b = 0)
        rw [hk.2.2.2.2]
        have := hk.2.2.2.1.c0
        omega
/-- A scan with more fuel than it needs. -/
theorem scanGo_fuel (g n : Int) (l : List (List UInt8)) : ∀ k j a out, l.length ≤ a + k → scanGo g n l (k + j) a out = scanGo g n l k a out
  | 0, j, a, out, h => by
    cases j with
    | zero => rfl
    | succ j => rw [Nat.zero_add, scanGo.eq_2, scanGo.eq_1, if_pos (by omega)]
  | k + 1, j, a, out, h => by
    rw [show k + 1 + j = (k + j) + 1 by omega, scanGo, scanGo]
    by_cases h1 : l.length ≤ a
    · rw [if_pos h1, if_pos h1]
    · rw [if_neg h1, if_neg h1]
      by_cases h2 : (joinL (l.drop a)).2.2 ≠ 0
      · rw [if_pos h2, if_pos h2]
      · rw [if_neg h2, if_neg h2]
        by_cases h3 : (joinL (l.drop a)).1.gen = g ∧ (joinL (l.drop a)).1.num = n + out.length
        · rw [if_pos h3, if_pos h3]
          have hp := join_pos (by simpa using h2 : (joinL (l.drop a)).2.2 = 0)
          exact scanGo_fuel g n l k j _ _ (by omega)
        · rw [if_neg h3, if_neg h3]
theorem salGo_fuel (l : List (List UInt8)) : ∀ k j a out, l.length ≤ a + k → salGo l (k + j) a out = salGo l k a out
  | 0, j, a, out, h => by
    cases j with
    | zero => rfl
    | succ j => rw [Nat.zero_add, salGo.eq_2, salGo.eq_1, if_pos (by omega)]
  | k + 1, j, a, out, h => by
    rw [show k + 1 + j = (k + j) + 1 by omega, salGo, salGo]
    by_cases h1 : l.length ≤ a
    · rw [if_pos h1, if_pos h1]
    · rw [if_neg h1, if_neg h1]
      by_cases h2 : (joinL (l.drop a)).2.2 ≠ 0
      · rw [if_pos h2, if_pos h2]; exact salGo_fuel l k j _ _ (by omega)
      · rw [if_neg h2, if_neg h2]
        have hp := join_pos (by simpa using h2 : (joinL (l.drop a)).2.2 = 0)
        exact salGo_fuel l k j _ _ (by omega)

end Go.Proofs.YtloaenknhkfaeaaDoor
