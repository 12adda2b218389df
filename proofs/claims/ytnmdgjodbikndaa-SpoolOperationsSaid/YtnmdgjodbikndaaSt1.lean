/- The stable sort, plainly: index maps of exchanges and rotations. -/
import Derived.Test.YtnmdgjodbikndaaS21
import Derived.Shelf.SlSortCmp.KitK
import Derived.Sort.WalkB2
import Derived.Sort.WalkB12
namespace Go.Proofs.Ytnmdgjodbikndaa
open Go.RowKit Go.Sort
set_option linter.unusedVariables false
set_option linter.unusedSimpArgs false

abbrev TA := ArtD × Nat
instance : Inhabited ArtD := ⟨zA⟩
def encT (x : TA) : List Value := entC x.1
def cfT (x y : TA) : Int := cmpA x.1 y.1
theorem encT_len (x : TA) : (encT x).length = 34 := entC_length x.1
/-- The places that an exchange of [a, a+n) with [b, b+n) reads. -/
def swI (a b n k : Nat) : Nat := if a ≤ k ∧ k < a + n then k - a + b else if b ≤ k ∧ k < b + n then k - b + a else k
/-- .. a rotation of [a, b) at m. -/
def rotI (a m b k : Nat) : Nat := if a ≤ k ∧ k < a + (b - m) then k + (m - a) else if a + (b - m) ≤ k ∧ k < b then k - (b - m) else k
/-- d' is d behind an index map. -/
def Via (f : Nat → Nat) (lo hi : Nat) (d d' : Array TA) : Prop := (∀ k, d'[k]! = d[f k]!) ∧ PermIn lo hi d d'
theorem Via.size {f : Nat → Nat} {lo hi : Nat} {d d' : Array TA} (h : Via f lo hi d d') : d'.size = d.size := h.2.1
theorem swp_at (d : Array TA) {i j : Nat} (hi : i < d.size) (hj : j < d.size) (hij : i ≠ j) (k : Nat) : (swp d i j)[k]! = d[if k = i then j else if k = j then i else k]! := by
  by_cases h1 : k = i
  · subst h1; rw [if_pos rfl, swp_left d _ _ hi hij]
  · by_cases h2 : k = j
    · subst h2; rw [if_neg h1, if_pos rfl, swp_right d _ _ hj]
    · rw [if_neg h1, if_neg h2, swp_other d _ _ _ h1 h2]
theorem via_swap_next {a b n i lo hi : Nat} {d d' : Array TA} (h : Via (swI a b i) lo hi d d') (hin : i < n) (hab : a + n ≤ b) (hlo : lo ≤ a) (hhi : b + n ≤ hi) (hs : hi ≤ d.size) : Via (swI a b (i + 1)) lo hi d (swp d' (a + i) (b + i)) := by
  have hsz := h.size
  refine ⟨fun k => ?_, permIn_trans _ _ _ _ _ h.2 (swp_permIn d' lo hi (a + i) (b + i) (by omega) (by omega) (by omega) (by omega) (by omega))⟩
  rw [swp_at d' (by omega) (by omega) (by omega), h.1]
  congr 1
  unfold swI
  repeat' split
  all_goals omega
theorem via_refl (lo hi : Nat) (d : Array TA) : Via (fun k => k) lo hi d d := ⟨fun _ => rfl, permIn_refl _ _ _⟩
theorem swI_zero (a b : Nat) : swI a b 0 = fun k => k := by
  funext k
  unfold swI
  repeat' split
  all_goals omega
theorem Via.trans {f g : Nat → Nat} {lo hi lo' hi' : Nat} {d d1 d2 : Array TA} (h1 : Via f lo hi d d1) (h2 : Via g lo' hi' d1 d2) (hlo : lo ≤ lo') (hhi : hi' ≤ hi) (hs : hi ≤ d.size) : Via (fun k => f (g k)) lo hi d d2 :=
  ⟨fun k => by rw [h2.1, h1.1], permIn_trans _ _ _ _ _ h1.2 (permIn_mono _ _ _ _ _ _ hlo hhi (by rw [h1.size]; exact hs) h2.2)⟩
theorem Via.congr {f g : Nat → Nat} {lo hi : Nat} {d d' : Array TA} (h : Via f lo hi d d') (e : ∀ k, f k = g k) : Via g lo hi d d' := ⟨fun k => by rw [h.1, e], h.2⟩
theorem Via.wide {f : Nat → Nat} {lo hi lo' hi' : Nat} {d d' : Array TA} (h : Via f lo hi d d') (h1 : lo' ≤ lo) (h2 : hi ≤ hi') (hs : hi' ≤ d.size) : Via f lo' hi' d d' := ⟨h.1, permIn_mono _ _ _ _ _ _ h1 h2 hs h.2⟩
/-- The step of a rotation: the left part is longer. -/
theorem rot_left {m i j k : Nat} (hi : i ≤ m) (h : j < i) : swI (m - i) m j (rotI (m - (i - j)) m (m + j) k) = rotI (m - i) m (m + j) k := by
  unfold rotI swI
  repeat' split
  all_goals omega
theorem rot_right {m i j k : Nat} (hi : i ≤ m) (h : i < j) : swI (m - i) (m + j - i) i (rotI (m - i) m (m + (j - i)) k) = rotI (m - i) m (m + j) k := by
  unfold rotI swI
  repeat' split
  all_goals omega
theorem rot_end {m i k : Nat} (hi : i ≤ m) : swI (m - i) m i k = rotI (m - i) m (m + i) k := by
  unfold rotI swI
  repeat' split
  all_goals omega
end Go.Proofs.Ytnmdgjodbikndaa
