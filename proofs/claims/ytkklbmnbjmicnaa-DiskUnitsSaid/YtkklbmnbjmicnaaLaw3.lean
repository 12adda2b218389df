/- DiskUnits. -/
import Derived.Test.YtkklbmnbjmicnaaLaw2
namespace Go.Proofs.Ytkklbmnbjmicnaa
open Go.RowKit Go.Shelf
set_option linter.unusedVariables false
set_option linter.unusedSimpArgs false

def unitOf (l : List UInt8) (u : Nat) : List UInt8 := (l.drop u).take 16
theorem unitOf_length {l : List UInt8} (h : l.length = 256) {u : Nat} (hu : u ≤ 240) : (unitOf l u).length = 16 := by simp [unitOf]; omega
theorem unit_fate {a b : List UInt8} (ha : a.length = 256) (hb : b.length = 256) (c j : Nat) (hj : j < 16) : unitOf (fate a b c) (16 * j) = unitOf a (16 * j) ∨ unitOf (fate a b c) (16 * j) = unitOf b (16 * j) := by
  unfold fate
  by_cases h0 : c % 3 = 0
  · simp [h0]
  by_cases h1 : c % 3 = 1
  · simp [h1]
  rw [if_neg h0, if_neg h1]
  obtain ⟨m, hm⟩ : ∃ m, c / 3 % 17 = m := ⟨_, rfl⟩
  have hm17 : m < 17 := by rw [← hm]; exact Nat.mod_lt _ (by decide)
  rw [hm]
  unfold unitOf
  by_cases hlt : j < m
  · right
    rw [List.drop_append_of_le_length (by simp; omega)]
    rw [List.take_append_of_le_length (by simp; omega)]
    apply List.ext_getElem?
    intro i
    simp only [List.getElem?_take, List.getElem?_drop]
    by_cases hi : i < 16
    · rw [if_pos hi, if_pos hi, if_pos (by omega)]
    · rw [if_neg hi, if_neg hi]
  · left
    have hl : (b.take (m * 16)).length = m * 16 := by simp; omega
    rw [List.drop_append, hl, List.drop_eq_nil_of_le (by omega), List.nil_append, List.drop_drop]
    congr 2
    omega
theorem units_ok {S : DS} (h : S.ok) (cs : List UInt8) (i : Nat) (hi : i < S.dur.length) (j : Nat) (hj : j < 16) : ∀ k, k ≤ S.pend.length →
    unitOf ((rdur S cs k).getD i zeros) (16 * j) = unitOf S.dur[i] (16 * j) ∨ ∃ m, ∃ hm : m < S.pend.length, m < k ∧ S.pend[m].1 = i ∧ unitOf ((rdur S cs k).getD i zeros) (16 * j) = unitOf S.pend[m].2 (16 * j)
  | 0, _ => by left; simp [rdur, hi]
  | k + 1, hk => by
    have ih := units_ok h cs i hi j hj k (by omega)
    have hkl : k < S.pend.length := by omega
    have hx := h.pend _ (List.getElem_mem hkl)
    have hl := rdur_length S cs k
    have hu : rdur S cs (k + 1) = (rdur S cs k).set S.pend[k].1 (fate ((rdur S cs k).getD S.pend[k].1 zeros) S.pend[k].2 (cs.getD k 0).toNat) := by
      conv => lhs; unfold rdur
      rw [List.getElem?_eq_getElem hkl]
    rw [hu]
    by_cases hki : S.pend[k].1 = i
    · have hg : ((rdur S cs k).set S.pend[k].1 (fate ((rdur S cs k).getD S.pend[k].1 zeros) S.pend[k].2 (cs.getD k 0).toNat)).getD i zeros = fate ((rdur S cs k).getD i zeros) S.pend[k].2 (cs.getD k 0).toNat := by
        rw [hki, List.getD_eq_getElem?_getD, List.getElem?_set, if_pos rfl, if_pos (by omega)]; rfl
      rw [hg]
      have hbl : ((rdur S cs k).getD i zeros).length = 256 := by
        have : (rdur S cs k).getD i zeros = (rdur S cs k)[i]'(by omega) := by simp [show i < (rdur S cs k).length by omega]
        rw [this]; exact rdur_256 h cs k _ (List.getElem_mem _)
      rcases unit_fate hbl hx.2 (cs.getD k 0).toNat j hj with h1 | h1
      · rw [h1]
        rcases ih with h2 | ⟨m, hm, h2, h3, h4⟩
        · exact .inl h2
        · exact .inr ⟨m, hm, by omega, h3, h4⟩
      · exact .inr ⟨k, hkl, by omega, hki, h1⟩
    · have hg : ((rdur S cs k).set S.pend[k].1 (fate ((rdur S cs k).getD S.pend[k].1 zeros) S.pend[k].2 (cs.getD k 0).toNat)).getD i zeros = (rdur S cs k).getD i zeros := by
        rw [List.getD_eq_getElem?_getD, List.getElem?_set, if_neg hki]; rfl
      rw [hg]
      rcases ih with h2 | ⟨m, hm, h2, h3, h4⟩
      · exact .inl h2
      · exact .inr ⟨m, hm, by omega, h3, h4⟩

/-- What the law has found behind k pending writes. -/
def fnd (P : List (Nat × List UInt8)) (R D : List UInt8) (i k : Nat) : Bool := (R == D) || ((P.take k).any fun x => x.1 == i && R == x.2)
theorem fnd_zero (P : List (Nat × List UInt8)) (R D : List UInt8) (i : Nat) : fnd P R D i 0 = (R == D) := by simp [fnd]
theorem fnd_succ (P : List (Nat × List UInt8)) (R D : List UInt8) (i k : Nat) (hk : k < P.length) : fnd P R D i (k + 1) = (fnd P R D i k || (P[k].1 == i && R == P[k].2)) := by
  unfold fnd
  rw [List.take_add_one, List.getElem?_eq_getElem hk, List.any_append, Bool.or_assoc]
  simp

theorem BytesAt.cut {w : World} {F : Nat → Prop} {g off cap : Nat} {l : List UInt8} (hl : l.length = 256) (hF : F g) (hg : g < w.heap.size) (hr : w.rangeAt g off (bvs l)) (hcap : 256 ≤ cap) {u : Nat} (hu : u ≤ 240) :
    BytesAt w F (.slice (some ⟨g, off + u, none⟩) 16 (cap - u)) (unitOf l u) := by
  have e := unitOf_length hl hu
  refine ⟨_, cap - u, by rw [e], by omega, fun _ => ⟨g, off + u, rfl, hF, hg, fun j v hv => ?_⟩⟩
  rw [bvs_getElem?] at hv
  unfold unitOf at hv
  rw [List.getElem?_take, List.getElem?_drop] at hv
  split at hv
  · rw [Nat.add_assoc]
    exact hr (u + j) v (by rw [bvs_getElem?]; exact hv)
  · cases hv
theorem BytesAt.whole {w : World} {F : Nat → Prop} {v : Value} {l : List UInt8} (h : BytesAt w F v l) (hl : l.length = 256) :
    ∃ g off cap, v = .slice (some ⟨g, off, none⟩) 256 cap ∧ 256 ≤ cap ∧ F g ∧ g < w.heap.size ∧ w.rangeAt g off (bvs l) := by
  obtain ⟨a, cap, rfl, hcap, hr⟩ := h
  obtain ⟨g, off, rfl, hF, hg, hr⟩ := hr (by intro e; rw [e] at hl; simp at hl)
  exact ⟨g, off, cap, by rw [hl], by omega, hF, hg, hr⟩

end Go.Proofs.Ytkklbmnbjmicnaa
