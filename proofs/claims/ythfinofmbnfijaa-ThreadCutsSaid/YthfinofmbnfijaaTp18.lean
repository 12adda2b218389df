/- A part of a forest, plainly: it passes the check. -/
import Derived.Test.YthfinofmbnfijaaTp17
namespace Go.Proofs.Ythfinofmbnfijaa
open Go.RowKit
set_option linter.unusedVariables false
set_option linter.unusedSimpArgs false

theorem chk_back {L : List NodeV} (h : ∀ j (hj : j < L.length), ChkN L j L[j]) : ∀ (f i : Nat), i + f = L.length → chkGo L f i (pathTo L i) = 0
  | 0, _, _ => rfl
  | f + 1, i, hi => by
    have hiL : i < L.length := by omega
    have hc := h i hiL
    have h1 := hc.row
    have h2 := hc.par
    have h3 := hc.lt
    unfold chkGo
    rw [List.getElem?_eq_getElem hiL]
    dsimp only
    rw [if_neg (by omega), if_neg (fun hp => hc.path hp.1 hp.2), if_neg (fun hp => hp hc.dep), if_neg (fun hp => by
      obtain ⟨m, hm, e⟩ := List.any_eq_true.1 hp
      exact hc.new m hm (of_decide_eq_true e))]
    have hp : pathTo L (i + 1) = i :: popL L[i].parent (pathTo L i) := by
      show i :: popL (parA L i) (pathTo L i) = _
      rw [parA_at hiL]
    rw [← hp]
    exact chk_back h f (i + 1) (by omega)
theorem chk_of {L : List NodeV} (h : ∀ j (hj : j < L.length), ChkN L j L[j]) : checkP L = 0 := chk_back h L.length 0 (by omega)
/-- A node of the part that begins at k. -/
def cutN1 (k : Nat) (dk : Int) (i : Nat) (n : NodeV) : NodeV := ⟨n.id, n.row, if i = 0 then -1 else n.parent - k, n.depth - dk⟩
def cutGL (F : List NodeV) (k e : Nat) (dk : Int) : List NodeV := ((F.drop k).take (e - k)).mapIdx (cutN1 k dk)
theorem cutG_len {F : List NodeV} {k e : Nat} {dk : Int} (hke : k ≤ e) (he : e ≤ F.length) : (cutGL F k e dk).length = e - k := by
  unfold cutGL
  rw [List.length_mapIdx, List.length_take, List.length_drop]
  omega
theorem cutG_at {F : List NodeV} {k e : Nat} {dk : Int} {i : Nat} (he : e ≤ F.length) (hi : k + i < e) (h1 : i < (cutGL F k e dk).length) (h2 : k + i < F.length) : (cutGL F k e dk)[i] = cutN1 k dk i F[k + i] := by
  unfold cutGL at h1 ⊢
  rw [List.getElem_mapIdx, List.getElem_take, List.getElem_drop]
theorem popL_mem {q : Nat} : ∀ {P R : List Nat}, q ∈ P → popL (q : Int) (P ++ R) = popL (q : Int) P ++ R ∧ popL (q : Int) P ≠ []
  | [], _, h => by cases h
  | x :: P, R, h => by
    rw [List.cons_append, popL_cons, popL_cons]
    by_cases e : (x : Int) = (q : Int)
    · rw [if_pos e, if_pos e]
      exact ⟨rfl, fun h => by cases h⟩
    · rw [if_neg e, if_neg e]
      refine popL_mem ?_
      rcases List.mem_cons.1 h with e2 | h
      · exact absurd (by rw [e2]) e
      · exact h
theorem popL_shift {k q : Nat} (hq : k ≤ q) : ∀ {P : List Nat}, (∀ x ∈ P, k ≤ x) → popL ((q - k : Nat) : Int) (P.map (· - k)) = (popL (q : Int) P).map (· - k)
  | [], _ => rfl
  | x :: P, h => by
    rw [List.map_cons, popL_cons, popL_cons]
    have hx := h x (List.mem_cons_self ..)
    by_cases e : (x : Int) = (q : Int)
    · rw [if_pos e, if_pos (by omega)]
      rfl
    · rw [if_neg e, if_neg (by omega)]
      exact popL_shift hq (fun y hy => h y (List.mem_cons_of_mem _ hy))
/-- The path in the part is the path in the whole, down to k. -/
theorem cut_path {F : List NodeV} (h : checkP F = 0) {k e : Nat} (hE : EndAt F k e) {dk : Int} : ∀ j, k + j < e → ∃ P, chn F (k + j) = P ++ (chn F k).tail ∧ (∀ x ∈ P, k ≤ x) ∧ pathTo (cutGL F k e dk) (j + 1) = P.map (· - k)
  | 0, hj => ⟨[k], rfl, fun x hx => by rw [List.mem_singleton.1 hx]; exact Nat.le_refl _, by
    show 0 :: popL _ [] = [k - k]
    rw [Nat.sub_self]
    rfl⟩
  | j + 1, hj => by
    have heF := hE.le
    obtain ⟨P, h1, h2, h3⟩ := cut_path h hE (dk := dk) j (by omega)
    have hjF : k + (j + 1) < F.length := by omega
    have hw := (hE.within h (k + (j + 1)) hjF).2 ⟨by omega, hj⟩
    have hne : F[k + (j + 1)].parent ≠ -1 := fun hp => by
      rw [chn_root h hjF hp] at hw
      have := List.mem_singleton.1 hw
      omega
    have hc := chk_all h (k + (j + 1)) hjF
    obtain ⟨q, hq⟩ : ∃ q : Nat, F[k + (j + 1)].parent = (q : Int) := ⟨F[k + (j + 1)].parent.toNat, by have := hc.par; omega⟩
    obtain ⟨hu, hlt⟩ := chn_up h hjF hq
    have hkq : k ∈ chn F q := by
      rw [hu] at hw
      rcases List.mem_cons.1 hw with e1 | e1
      · omega
      · exact e1
    have hkle := chn_le h q (by omega) k hkq
    have hqp : q ∈ chn F (k + j) := by
      have : k + (j + 1) = (k + j) + 1 := by omega
      exact par_path h (j := k + j) (by omega) (by simpa [this] using hq)
    have hqP : q ∈ P := by
      rw [h1] at hqp
      rcases List.mem_append.1 hqp with e1 | e1
      · exact e1
      · exfalso
        have hd := chn_desc h k (by omega)
        have hk2 : chn F k = k :: (chn F k).tail := rfl
        rw [hk2] at hd
        have := (List.pairwise_cons.1 hd).1 q e1
        omega
    obtain ⟨hp1, hp2⟩ := popL_mem (R := (chn F k).tail) hqP
    have hpop : chn F q = popL (q : Int) (chn F (k + j)) := by
      have hc2 := (popL_path h (k + j + 1) (by omega) q (by
        show popL (q : Int) (chn F (k + j)) ≠ []
        rw [h1, hp1]
        exact fun e1 => hp2 (List.append_eq_nil_iff.1 e1).1)).1
      exact hc2.symm
    refine ⟨(k + (j + 1)) :: popL (q : Int) P, by rw [hu, hpop, h1, hp1]; rfl, fun x hx => ?_, ?_⟩
    · rcases List.mem_cons.1 hx with rfl | hx
      · omega
      · exact h2 x (popL_sub _ _ x hx)
    · have hpar : parA (cutGL F k e dk) (j + 1) = ((q - k : Nat) : Int) := by
        have hl : j + 1 < (cutGL F k e dk).length := by rw [cutG_len (by omega) heF]; omega
        rw [parA_at hl, cutG_at heF (by omega) hl hjF]
        show (if j + 1 = 0 then (-1 : Int) else F[k + (j + 1)].parent - k) = _
        rw [if_neg (by omega), hq]
        omega
      show (j + 1) :: popL (parA (cutGL F k e dk) (j + 1)) (pathTo (cutGL F k e dk) (j + 1)) = _
      rw [hpar, h3, popL_shift hkle h2, List.map_cons]
      congr 1
      omega
theorem cut_check {F : List NodeV} (h : checkP F = 0) {k e : Nat} (hE : EndAt F k e) (hk : k < F.length) : checkP (cutGL F k e F[k].depth) = 0 := by
  have heF := hE.le
  have hkF := hE.lt
  have hlen := cutG_len (F := F) (k := k) (e := e) (dk := F[k].depth) (by omega) heF
  refine chk_of fun j hj => ?_
  have hjk : k + j < e := by omega
  have hjF : k + j < F.length := by omega
  have hc := chk_all h (k + j) hjF
  rw [cutG_at heF hjk hj hjF]
  have hid : ∀ m ∈ (cutGL F k e F[k].depth).take j, m.id ≠ F[k + j].id := fun m hm => by
    obtain ⟨i, hi, rfl⟩ := List.mem_iff_getElem.1 hm
    rw [List.length_take] at hi
    rw [List.getElem_take, cutG_at heF (by omega) (by omega) (by omega)]
    exact hc.new F[k + i] (List.mem_take_iff_getElem.2 ⟨k + i, by omega, rfl⟩)
  cases j with
  | zero => exact ⟨hc.row, Int.le_refl _, by show (-1 : Int) < 0; decide, fun hp => absurd rfl hp, by show F[k + 0].depth - F[k].depth = 0; simp, fun m hm => by cases hm⟩
  | succ j =>
    have hw := (hE.within h (k + (j + 1)) hjF).2 ⟨by omega, hjk⟩
    have hne : F[k + (j + 1)].parent ≠ -1 := fun hp => by
      rw [chn_root h hjF hp] at hw
      have := List.mem_singleton.1 hw
      omega
    obtain ⟨q, hq⟩ : ∃ q : Nat, F[k + (j + 1)].parent = (q : Int) := ⟨F[k + (j + 1)].parent.toNat, by have := hc.par; omega⟩
    obtain ⟨hu, hlt⟩ := chn_up h hjF hq
    have hkq : k ∈ chn F q := by
      rw [hu] at hw
      rcases List.mem_cons.1 hw with e1 | e1
      · omega
      · exact e1
    have hqF : q < F.length := by omega
    have hkle := chn_le h q hqF k hkq
    have hpv : (cutN1 k F[k].depth (j + 1) F[k + (j + 1)]).parent = ((q - k : Nat) : Int) := by
      show (if j + 1 = 0 then (-1 : Int) else F[k + (j + 1)].parent - k) = _
      rw [if_neg (by omega), hq]
      omega
    obtain ⟨P, h1, h2, h3⟩ := cut_path h hE (dk := F[k].depth) j (by omega)
    have hqp : q ∈ chn F (k + j) := par_path h (j := k + j) (by omega) (by simpa [show k + (j + 1) = k + j + 1 by omega] using hq)
    have hqP : q ∈ P := by
      rw [h1] at hqp
      rcases List.mem_append.1 hqp with e1 | e1
      · exact e1
      · exfalso
        have hd := chn_desc h k hk
        have hk2 : chn F k = k :: (chn F k).tail := rfl
        rw [hk2] at hd
        have := (List.pairwise_cons.1 hd).1 q e1
        omega
    refine ⟨hc.row, by rw [hpv]; omega, by rw [hpv]; omega, fun _ => ?_, ?_, hid⟩
    · rw [hpv, h3, popL_shift hkle h2]
      intro e1
      exact (popL_mem (R := []) hqP).2 (List.map_eq_nil_iff.1 e1)
    · rw [hpv]
      unfold depOf
      have hql : q - k < (cutGL F k e F[k].depth).length := by rw [hlen]; omega
      rw [if_neg (by omega), Int.toNat_natCast, List.getElem?_eq_getElem hql, cutG_at heF (by omega) hql (by omega)]
      have hd := hc.dep
      unfold depOf at hd
      rw [if_neg hne, hq, Int.toNat_natCast, List.getElem?_eq_getElem hqF] at hd
      have hd2 : F[k + (j + 1)].depth = F[q].depth + 1 := hd
      show F[k + (j + 1)].depth - F[k].depth = F[k + (q - k)].depth - F[k].depth + 1
      have e3 : k + (q - k) = q := by omega
      simp only [e3]
      omega
end Go.Proofs.Ythfinofmbnfijaa
