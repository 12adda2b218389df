/- The stable sort, plainly: what symMerge's steps do. -/
import Derived.Test.YtnmdgjodbikndaaSt3
namespace Go.Proofs.Ytnmdgjodbikndaa
open Go.RowKit Go.Sort
set_option linter.unusedVariables false
set_option linter.unusedSimpArgs false

/-- The strict order of tagged entries: by arrival, then by the tag. -/
def TT (x y : TA) : Prop := x.1.arr < y.1.arr ∨ x.1.arr = y.1.arr ∧ x.2 < y.2
def Srt (d : Array TA) (a b : Nat) : Prop := ∀ i j, a ≤ i → i < j → j < b → TT d[i]! d[j]!
def Tgs (d : Array TA) (a m b : Nat) : Prop := ∀ i j, a ≤ i → i < m → m ≤ j → j < b → d[i]!.2 < d[j]!.2
def Pre (d : Array TA) (a m b : Nat) : Prop := Srt d a m ∧ Srt d m b ∧ Tgs d a m b
theorem TT.trans {x y z : TA} (h1 : TT x y) (h2 : TT y z) : TT x z := by unfold TT at *; omega
theorem TT.le {x y : TA} (h : TT x y) : x.1.arr ≤ y.1.arr := by unfold TT at h; omega
theorem TT.of_lt {x y : TA} (h : x.1.arr < y.1.arr) : TT x y := .inl h
theorem TT.of_le {x y : TA} (h : x.1.arr ≤ y.1.arr) (ht : x.2 < y.2) : TT x y := by unfold TT; omega
theorem Srt.le {d : Array TA} {a b : Nat} (h : Srt d a b) {i j : Nat} (h1 : a ≤ i) (h2 : i ≤ j) (h3 : j < b) : d[i]!.1.arr ≤ d[j]!.1.arr := by
  rcases Nat.lt_or_ge i j with h4 | h4
  · exact (h i j h1 h4 h3).le
  · obtain rfl : i = j := by omega
    exact Int.le_refl _
theorem rotI_id {s m e : Nat} (h : s = m ∨ m = e) (hs : s ≤ m) (he : m ≤ e) : rotI s m e = fun k => k := by
  funext k
  unfold rotI
  repeat' split
  all_goals omega
theorem rotI_a {s m e k : Nat} (h : k < s ∨ e ≤ k) (hs : s ≤ m) (he : m ≤ e) : rotI s m e k = k := by unfold rotI; rw [if_neg (by omega), if_neg (by omega)]
theorem rotI_b {s m e k : Nat} (h1 : s ≤ k) (h2 : k < s + (e - m)) : rotI s m e k = k + (m - s) := by unfold rotI; rw [if_pos ⟨h1, h2⟩]
theorem rotI_c {s m e k : Nat} (h1 : s + (e - m) ≤ k) (h2 : k < e) : rotI s m e k = k - (e - m) := by unfold rotI; rw [if_neg (by omega), if_pos ⟨h1, h2⟩]
variable {d d2 d3 d4 : Array TA} {a m b s e i : Nat}
/-- Behind the rotation: both halves may be merged, and all of the left one comes before the right one. -/
theorem merge_rot (hp : Pre d a m b) (has : a ≤ s) (hsm : s ≤ m) (hme : m ≤ e) (heb : e ≤ b) (hv : ∀ k, d2[k]! = d[rotI s m e k]!)
    (B1 : s = a ∨ e = b ∨ ¬ d[e]!.1.arr < d[s - 1]!.1.arr) (B2 : s = m ∨ e = m ∨ d[e - 1]!.1.arr < d[s]!.1.arr) :
    Pre d2 a s (s + (e - m)) ∧ Pre d2 (s + (e - m)) e b ∧ ∀ i j, a ≤ i → i < s + (e - m) → s + (e - m) ≤ j → j < b → TT d2[i]! d2[j]! := by
  obtain ⟨h1, h2, h3⟩ := hp
  refine ⟨⟨?_, ?_, ?_⟩, ⟨?_, ?_, ?_⟩, ?_⟩
  · intro i j hi hij hj
    rw [hv, hv, rotI_a (by omega) hsm hme, rotI_a (by omega) hsm hme]
    exact h1 i j hi hij (by omega)
  · intro i j hi hij hj
    rw [hv, hv, rotI_b (by omega) (by omega), rotI_b (by omega) (by omega)]
    exact h2 _ _ (by omega) (by omega) (by omega)
  · intro i j hi hi2 hj hj2
    rw [hv, hv, rotI_a (by omega) hsm hme, rotI_b (by omega) (by omega)]
    exact h3 _ _ (by omega) (by omega) (by omega) (by omega)
  · intro i j hi hij hj
    rw [hv, hv, rotI_c (by omega) (by omega), rotI_c (by omega) (by omega)]
    exact h1 _ _ (by omega) (by omega) (by omega)
  · intro i j hi hij hj
    rw [hv, hv, rotI_a (by omega) hsm hme, rotI_a (by omega) hsm hme]
    exact h2 i j (by omega) hij (by omega)
  · intro i j hi hi2 hj hj2
    rw [hv, hv, rotI_c (by omega) (by omega), rotI_a (by omega) hsm hme]
    exact h3 _ _ (by omega) (by omega) (by omega) (by omega)
  · intro i j hi hi2 hj hj2
    rw [hv, hv]
    by_cases c1 : i < s
    · rw [rotI_a (by omega) hsm hme]
      by_cases c2 : j < e
      · rw [rotI_c (by omega) c2]
        exact h1 _ _ (by omega) (by omega) (by omega)
      · rw [rotI_a (by omega) hsm hme]
        have l1 := h1.le (i := i) (j := s - 1) hi (by omega) (by omega)
        have l2 := h2.le (i := e) (j := j) (by omega) (by omega) hj2
        exact TT.of_le (by omega) (h3 i j hi (by omega) (by omega) hj2)
    · rw [rotI_b (by omega) (by omega)]
      by_cases c2 : j < e
      · rw [rotI_c (by omega) c2]
        have l1 := h2.le (i := i + (m - s)) (j := e - 1) (by omega) (by omega) (by omega)
        have l2 := h1.le (i := s) (j := j - (e - m)) (by omega) (by omega) (by omega)
        exact TT.of_lt (by omega)
      · rw [rotI_a (by omega) hsm hme]
        exact h2 _ _ (by omega) (by omega) (by omega)
theorem ins_left (hp : Pre d a m b) (hm : m = a + 1) (h1 : m ≤ i) (h2 : i ≤ b) (hv : ∀ k, d2[k]! = d[rotI a m i k]!)
    (B1 : i = m ∨ d[i - 1]!.1.arr < d[a]!.1.arr) (B2 : i = b ∨ ¬ d[i]!.1.arr < d[a]!.1.arr) : Srt d2 a b := by
  obtain ⟨q1, q2, q3⟩ := hp
  intro x y hx hxy hy
  rw [hv, hv]
  by_cases c1 : x < a + (i - m)
  · rw [rotI_b hx c1]
    by_cases c2 : y < a + (i - m)
    · rw [rotI_b (by omega) c2]
      exact q2 _ _ (by omega) (by omega) (by omega)
    · by_cases c3 : y < i
      · rw [rotI_c (by omega) c3]
        have l1 := q2.le (i := x + (m - a)) (j := i - 1) (by omega) (by omega) (by omega)
        rw [show y - (i - m) = a by omega]
        exact TT.of_lt (by omega)
      · rw [rotI_a (by omega) (by omega) h1]
        exact q2 _ _ (by omega) (by omega) (by omega)
  · by_cases c3 : x < i
    · rw [rotI_c (by omega) c3, rotI_a (by omega) (by omega) h1, show x - (i - m) = a by omega]
      have l1 := q2.le (i := i) (j := y) (by omega) (by omega) hy
      exact TT.of_le (by omega) (q3 a y (by omega) (by omega) (by omega) hy)
    · rw [rotI_a (by omega) (by omega) h1, rotI_a (by omega) (by omega) h1]
      exact q2 _ _ (by omega) hxy hy
theorem ins_right (hp : Pre d a m b) (hm : b = m + 1) (h1 : a ≤ i) (h2 : i ≤ m) (hv : ∀ k, d2[k]! = d[rotI i m b k]!)
    (B1 : i = a ∨ ¬ d[m]!.1.arr < d[i - 1]!.1.arr) (B2 : i = m ∨ d[m]!.1.arr < d[i]!.1.arr) : Srt d2 a b := by
  obtain ⟨q1, q2, q3⟩ := hp
  intro x y hx hxy hy
  rw [hv, hv]
  by_cases c1 : x < i
  · rw [rotI_a (by omega) h2 (by omega)]
    by_cases c2 : y < i
    · rw [rotI_a (by omega) h2 (by omega)]
      exact q1 _ _ hx hxy (by omega)
    · by_cases c3 : y < i + (b - m)
      · rw [rotI_b (by omega) c3, show y + (m - i) = m by omega]
        have l1 := q1.le (i := x) (j := i - 1) hx (by omega) (by omega)
        exact TT.of_le (by omega) (q3 x m hx (by omega) (by omega) (by omega))
      · rw [rotI_c (by omega) (by omega)]
        exact q1 _ _ hx (by omega) (by omega)
  · by_cases c3 : x < i + (b - m)
    · rw [rotI_b (by omega) c3, rotI_c (by omega) (by omega), show x + (m - i) = m by omega]
      have l1 := q1.le (i := i) (j := y - (b - m)) (by omega) (by omega) (by omega)
      exact TT.of_lt (by omega)
    · rw [rotI_c (by omega) (by omega), rotI_c (by omega) (by omega)]
      exact q1 _ _ (by omega) (by omega) (by omega)
theorem insl_next {k lo hi : Nat} (h : Via (rotI a (a + 1) (k + 1)) lo hi d d2) (hlo : lo ≤ a) (hak : a ≤ k) (hk : k + 1 < hi) (hs : hi ≤ d.size) : Via (rotI a (a + 1) (k + 1 + 1)) lo hi d (swp d2 k (k + 1)) := by
  have hsz := h.size
  refine ⟨fun x => ?_, permIn_trans _ _ _ _ _ h.2 (swp_permIn d2 lo hi k (k + 1) (by omega) (by omega) (by omega) (by omega) (by omega))⟩
  rw [swp_at d2 (by omega) (by omega) (by omega), h.1]
  congr 1
  unfold rotI
  repeat' split
  all_goals omega
theorem insr_next {k lo hi : Nat} (h : Via (rotI (k + 1) m (m + 1)) lo hi d d2) (hlo : lo ≤ k) (hkm : k + 1 ≤ m) (hm : m < hi) (hs : hi ≤ d.size) : Via (rotI k m (m + 1)) lo hi d (swp d2 (k + 1) k) := by
  have hsz := h.size
  refine ⟨fun x => ?_, permIn_trans _ _ _ _ _ h.2 (swp_permIn d2 lo hi (k + 1) k (by omega) (by omega) (by omega) (by omega) (by omega))⟩
  rw [swp_at d2 (by omega) (by omega) (by omega), h.1]
  congr 1
  unfold rotI
  repeat' split
  all_goals omega
theorem srt_empty {a b : Nat} (h : b ≤ a) : Srt d a b := fun i j _ _ _ => by omega
/-- Both halves are done. -/
theorem merge_done {c : Nat} (hac : a ≤ c) (hcb : c ≤ b) (hb : b ≤ d2.size) (hx : ∀ i j, a ≤ i → i < c → c ≤ j → j < b → TT d2[i]! d2[j]!)
    (p3 : PermIn a c d2 d3) (s3 : Srt d3 a c) (p4 : PermIn c b d3 d4) (s4 : Srt d4 c b) : Srt d4 a b := by
  have hz3 := p3.1
  have hc3 : ∀ i, a ≤ i → i < c → ∀ j, c ≤ j → j < b → TT d3[i]! d3[j]! := by
    have h := permIn_all d2 d3 a c (fun x => ∀ j, c ≤ j → j < b → TT x d2[j]!) (by omega) p3 (fun i h1 h2 j h3 h4 => hx i j h1 h2 h3 h4)
    intro i h1 h2 j h3 h4
    rw [p3.2.1 j (.inr h3)]
    exact h i h1 h2 j h3 h4
  intro i j hi hij hj
  by_cases c1 : j < c
  · rw [p4.2.1 i (.inl (by omega)), p4.2.1 j (.inl c1)]
    exact s3 i j hi hij c1
  · by_cases c2 : c ≤ i
    · exact s4 i j c2 hij hj
    · rw [p4.2.1 i (.inl (by omega))]
      exact permIn_all d3 d4 c b (fun x => TT d3[i]! x) (by omega) p4 (fun j h3 h4 => hc3 i hi (by omega) j h3 h4) j (by omega) hj
theorem cfT_neg (x y : TA) : cfT x y < 0 ↔ x.1.arr < y.1.arr := by
  unfold cfT cmpA cmpI
  repeat' split
  all_goals omega
end Go.Proofs.Ytnmdgjodbikndaa
