/- What the check says of each node; small numbers; an element of a list of one's own is changed. -/
import Derived.Test.YthfinofmbnfijaaTh29
namespace Go.Proofs.Ythfinofmbnfijaa
open Go.RowKit
set_option linter.unusedVariables false
set_option linter.unusedSimpArgs false

def parA (L : List NodeV) (j : Nat) : Int := ((L[j]?).map (·.parent)).getD (-1)
/-- The path that the check holds ahead of the j-th node. -/
def pathTo (L : List NodeV) : Nat → List Nat
  | 0 => []
  | j + 1 => j :: popL (parA L j) (pathTo L j)
theorem parA_at {L : List NodeV} {j : Nat} (hj : j < L.length) : parA L j = L[j].parent := by
  unfold parA
  rw [List.getElem?_eq_getElem hj]
  rfl
structure ChkN (L : List NodeV) (j : Nat) (n : NodeV) : Prop where
  row : -1 ≤ n.row
  par : -1 ≤ n.parent
  lt : n.parent < (j : Int)
  path : n.parent ≠ -1 → popL n.parent (pathTo L j) ≠ []
  dep : n.depth = depOf L n.parent
  new : ∀ m ∈ L.take j, m.id ≠ n.id
theorem chk_from {L : List NodeV} : ∀ (f i : Nat), i + f = L.length → chkGo L f i (pathTo L i) = 0 → ∀ j (hj : j < L.length), i ≤ j → ChkN L j L[j]
  | 0, i, hi, _, j, hj, hij => absurd hj (by omega)
  | f + 1, i, hi, h, j, hj, hij => by
    have hiL : i < L.length := by omega
    unfold chkGo at h
    rw [List.getElem?_eq_getElem hiL] at h
    dsimp only at h
    by_cases h1 : L[i].row < -1 ∨ L[i].parent < -1 ∨ (i : Int) ≤ L[i].parent
    · rw [if_pos h1] at h; exact absurd h (by decide)
    rw [if_neg h1] at h
    by_cases h2 : L[i].parent ≠ -1 ∧ popL L[i].parent (pathTo L i) = []
    · rw [if_pos h2] at h; exact absurd h (by decide)
    rw [if_neg h2] at h
    by_cases h3 : L[i].depth ≠ depOf L L[i].parent
    · rw [if_pos h3] at h; exact absurd h (by decide)
    rw [if_neg h3] at h
    by_cases h4 : (L.take i).any (fun m => decide (m.id = L[i].id)) = true
    · rw [if_pos h4] at h; exact absurd h (by decide)
    rw [if_neg h4] at h
    by_cases e : i = j
    · subst e
      refine ⟨by omega, by omega, by omega, fun hp hpp => h2 ⟨hp, hpp⟩, Classical.byContradiction h3, fun m hm em => h4 (List.any_eq_true.2 ⟨m, hm, decide_eq_true em⟩)⟩
    · refine chk_from f (i + 1) (by omega) ?_ j hj (by omega)
      have hp : pathTo L (i + 1) = i :: popL L[i].parent (pathTo L i) := by
        show i :: popL (parA L i) (pathTo L i) = _
        rw [parA_at hiL]
      rw [hp]
      exact h
theorem chk_all {L : List NodeV} (h : checkP L = 0) (j : Nat) (hj : j < L.length) : ChkN L j L[j] := chk_from L.length 0 (by omega) h j hj (Nat.zero_le _)
theorem chk_dep {L : List NodeV} (h : checkP L = 0) : ∀ j (hj : j < L.length), 0 ≤ L[j].depth ∧ L[j].depth ≤ (j : Int) := fun j => by
  induction j using Nat.strongRecOn with
  | _ j ih =>
    intro hj
    have hc := chk_all h j hj
    have hd := hc.dep
    unfold depOf at hd
    by_cases hp : L[j].parent = -1
    · rw [if_pos hp] at hd
      omega
    · rw [if_neg hp] at hd
      have h1 := hc.par
      have h2 := hc.lt
      have hq : L[j].parent.toNat < L.length := by omega
      rw [List.getElem?_eq_getElem hq] at hd
      have h3 := ih L[j].parent.toNat (by omega) hq
      have h4 : L[j].depth = L[L[j].parent.toNat].depth + 1 := hd
      omega
theorem Good.nsm {L : List RowV} {c : Par} {F : List NodeV} (h : Good L c F) (hL : L.length < 100000) (hF : F.length < 1000000) : ∀ n ∈ F, NSm n := fun n hn => by
  obtain ⟨j, hj, rfl⟩ := List.mem_iff_getElem.1 hn
  have h1 := chk_all h.check j hj
  have h2 := chk_dep h.check j hj
  have h3 := h.row _ hn
  have h4 : F[j].row < 100000 := by
    by_cases hp : 0 ≤ idxL L F[j].id
    · obtain ⟨k, hk, e, _⟩ := idxL_pos hp
      omega
    · omega
  have h5 := h1.row
  have h6 := h1.par
  have h7 := h1.lt
  exact ⟨by omega, by omega, by omega⟩
section
variable {P : Program} {sT T : TypeId} {α : Type} {E : ElemTy P sT T α} {w w' : World} {B g n c : Nat} {L : List α}
/-- An element of a list of one's own is written. -/
theorem OwnL.put (h : OwnL E w B (.slice (some ⟨g, 0, none⟩) n c) L) {cs' : Array Value} (hx : w'.heap[g]? = some (.cells cs' T (0, 0))) (i : Nat) (hi : i < L.length) (y : α)
    (hcs : ∀ cs : Array Value, w.heap[g]? = some (.cells cs T (0, 0)) → cs'.size = cs.size ∧ ∀ q, q < cs.size → cs'[q]? = if i * E.k ≤ q ∧ q < i * E.k + E.k then (E.enc y)[q - i * E.k]? else cs[q]?) :
    OwnL E w' B (.slice (some ⟨g, 0, none⟩) n c) (L.set i y) := by
  have hh : w.ownsRow B T E.k (.slice (some ⟨g, 0, none⟩) n c) L.length (L.flatMap E.enc) := h
  rcases hh.2 with ⟨e, _⟩ | ⟨g', cap', cur, e, hb, hg, h1, h2, h3, h4⟩
  · cases e
  simp only [Value.slice.injEq, Option.some.injEq, Addr.mk.injEq] at e
  obtain ⟨⟨rfl, _⟩, rfl, rfl⟩ := e
  obtain ⟨hs, hq⟩ := hcs cur hg
  have hle : L.length * E.k ≤ cur.size := by rw [h3]; exact Nat.mul_le_mul_right _ h1
  have hbd : i * E.k + E.k ≤ L.length * E.k := by
    rw [← Nat.succ_mul]
    exact Nat.mul_le_mul_right _ hi
  show w'.ownsRow B T E.k _ _ _
  refine ⟨by rw [flat_length], .inr ⟨g, c, cs', by rw [List.length_set], hb, hx, by rw [List.length_set]; exact h1, h2, by rw [hs]; exact h3, ?_⟩⟩
  rw [List.length_set, flat_set L i hi y, E.len]
  have e1 : ((L.flatMap E.enc).take (i * E.k)).length = i * E.k := by rw [List.length_take, flat_length]; omega
  apply List.ext_getElem?
  intro q
  rw [List.getElem?_take]
  by_cases hqL : q < L.length * E.k
  · rw [if_pos hqL, Array.getElem?_toList, hq q (by omega)]
    rw [← h4]
    by_cases ha : i * E.k ≤ q
    · rw [List.getElem?_append_right (by rw [h4, e1]; exact ha), h4, e1, ← h4]
      by_cases hb2 : q < i * E.k + E.k
      · rw [if_pos ⟨ha, hb2⟩, List.getElem?_append_left (by rw [E.len]; omega)]
      · rw [if_neg (fun h => hb2 h.2), List.getElem?_append_right (by rw [E.len]; omega), E.len, List.getElem?_drop, List.getElem?_take, if_pos (by omega), Array.getElem?_toList]
        congr 1
        omega
    · rw [if_neg (fun h => ha h.1), List.getElem?_append_left (by rw [h4, e1]; omega), List.getElem?_take, if_pos (by omega), List.getElem?_take, if_pos (by omega), Array.getElem?_toList]
  · rw [if_neg hqL, List.getElem?_eq_none]
    rw [List.length_append, e1, List.length_append, E.len, List.length_drop, flat_length]
    omega
end
theorem wrC_get : ∀ (vs : List Value) (o : Nat) (cs : Array Value) (q : Nat), o + vs.length ≤ cs.size → (wrC cs o vs)[q]? = if o ≤ q ∧ q < o + vs.length then vs[q - o]? else cs[q]?
  | [], o, cs, q, h => by
    rw [if_neg (by simp <;> omega)]
    rfl
  | v :: r, o, cs, q, h => by
    have hl : o + 1 + r.length ≤ (cs.setIfInBounds o v).size := by simp at h ⊢; omega
    rw [wrC, wrC_get r (o + 1) _ q hl]
    rw [List.length_cons] at h ⊢
    by_cases h1 : o = q
    · subst h1
      rw [if_neg (by omega), if_pos (by omega), Nat.sub_self, Array.getElem?_setIfInBounds_self_of_lt (by omega)]
      rfl
    · rw [Array.getElem?_setIfInBounds_ne h1]
      by_cases h2 : o + 1 ≤ q ∧ q < o + 1 + r.length
      · rw [if_pos h2, if_pos (by omega), show q - o = (q - (o + 1)) + 1 by omega, List.getElem?_cons_succ]
      · rw [if_neg h2, if_neg (by omega)]
section
variable {ops : Array Oper} {rest : List Oper} {o : Oper} {a : Act} {w : World} {Q : Exit → Act → World → Prop} {P : Program} {sT T : TypeId} {α : Type} {E : ElemTy P sT T α}
/-- One cell of an element. -/
theorem wpList_setC (hgd : o.guard = none) (hdst : o.dst = none) (ty : TypeId) (x y : Operand) (ho : o.op = .store ty x y) {B g n c : Nat} {L : List α} (hL : OwnL E w B (.slice (some ⟨g, 0, none⟩) n c) L) (i : Nat) (hi : i < L.length) (j : Nat) (hj : j < E.k) (v : Value) (z : α)
    (hx : a.eval x = .pointer (some ⟨g, i * E.k + j, none⟩)) (hy : a.eval y = v) (hv : v.oneCell' = true) (hsz : (P.info? ty).map (·.size) = some 1) (henc : E.enc z = (E.enc L[i]).set j v)
    (h : ∀ w', OwnL E w' B (.slice (some ⟨g, 0, none⟩) n c) (L.set i z) → Chg (fun k => k = g) w w' → w'.heap.size = w.heap.size → wpList P ops Q rest a w') : wpList P ops Q (o :: rest) a w := by
  have hh : w.ownsRow B T E.k (.slice (some ⟨g, 0, none⟩) n c) L.length (L.flatMap E.enc) := hL
  rcases hh.2 with ⟨e, _⟩ | ⟨g', cap', cur, e, hb, hg, h1, h2, h3, h4⟩
  · cases e
  simp only [Value.slice.injEq, Option.some.injEq, Addr.mk.injEq] at e
  obtain ⟨⟨rfl, _⟩, rfl, rfl⟩ := e
  have hle : L.length * E.k ≤ cur.size := by rw [h3]; exact Nat.mul_le_mul_right _ h1
  have hbd : i * E.k + E.k ≤ L.length * E.k := by
    rw [← Nat.succ_mul]
    exact Nat.mul_le_mul_right _ hi
  refine wpList_putC hgd hdst ty x y ho g (i * E.k + j) v hx hy hg (by omega) hv hsz fun w' a1 a2 a3 => h w' (hL.put a1 i hi z fun cs hcs => ?_) a2 a3
  rw [hg] at hcs
  cases hcs
  refine ⟨by simp, fun q hq => ?_⟩
  rw [henc]
  by_cases hin : i * E.k ≤ q ∧ q < i * E.k + E.k
  · rw [if_pos hin]
    by_cases e : i * E.k + j = q
    · subst e
      rw [Array.getElem?_setIfInBounds_self_of_lt hq, Nat.add_sub_cancel_left, List.getElem?_set_self (by rw [E.len]; exact hj)]
    · rw [Array.getElem?_setIfInBounds_ne e, List.getElem?_set_ne (by omega)]
      have h5 := flat_get E hi (j := q - i * E.k) (by omega)
      rw [show i * E.k + (q - i * E.k) = q by omega, ← h4, List.getElem?_take, if_pos (by omega), Array.getElem?_toList] at h5
      exact h5
  · rw [if_neg hin, Array.getElem?_setIfInBounds_ne (by omega)]
/-- Some cells of an element. -/
theorem wpList_setK (hgd : o.guard = none) (hdst : o.dst = none) (ty : TypeId) (x y : Operand) (ho : o.op = .store ty x y) {B g n c : Nat} {L : List α} (hL : OwnL E w B (.slice (some ⟨g, 0, none⟩) n c) L) (i : Nat) (hi : i < L.length) (j : Nat) (vs : List Value) (hj : j + vs.length ≤ E.k) (z : α)
    (hx : a.eval x = .pointer (some ⟨g, i * E.k + j, none⟩)) (hy : a.eval y = .agg vs.toArray) (h1' : ∀ v ∈ vs, v.oneCell' = true) (hsz : (P.info? ty).map (·.size) = some vs.length) (henc : ∀ q, q < E.k → (E.enc z)[q]? = if j ≤ q ∧ q < j + vs.length then vs[q - j]? else (E.enc L[i])[q]?)
    (h : ∀ w', OwnL E w' B (.slice (some ⟨g, 0, none⟩) n c) (L.set i z) → Chg (fun k => k = g) w w' → w'.heap.size = w.heap.size → wpList P ops Q rest a w') : wpList P ops Q (o :: rest) a w := by
  have hh : w.ownsRow B T E.k (.slice (some ⟨g, 0, none⟩) n c) L.length (L.flatMap E.enc) := hL
  rcases hh.2 with ⟨e, _⟩ | ⟨g', cap', cur, e, hb, hg, h1, h2, h3, h4⟩
  · cases e
  simp only [Value.slice.injEq, Option.some.injEq, Addr.mk.injEq] at e
  obtain ⟨⟨rfl, _⟩, rfl, rfl⟩ := e
  have hle : L.length * E.k ≤ cur.size := by rw [h3]; exact Nat.mul_le_mul_right _ h1
  have hbd : i * E.k + E.k ≤ L.length * E.k := by
    rw [← Nat.succ_mul]
    exact Nat.mul_le_mul_right _ hi
  refine wpList_putM hgd hdst ty x y ho g (i * E.k + j) vs hx hy hg (by omega) h1' hsz fun w' a1 a2 a3 => h w' (hL.put a1 i hi z fun cs hcs => ?_) a2 a3
  rw [hg] at hcs
  cases hcs
  refine ⟨wrC_size _ _ _, fun q hq => ?_⟩
  rw [wrC_get _ _ _ _ (by omega)]
  by_cases hin : i * E.k ≤ q ∧ q < i * E.k + E.k
  · rw [if_pos hin, henc _ (by omega)]
    have h5 := flat_get E hi (j := q - i * E.k) (by omega)
    rw [show i * E.k + (q - i * E.k) = q by omega, ← h4, List.getElem?_take, if_pos (by omega), Array.getElem?_toList] at h5
    by_cases h6 : i * E.k + j ≤ q ∧ q < i * E.k + j + vs.length
    · rw [if_pos h6, if_pos (by omega)]
      congr 1
      omega
    · rw [if_neg h6, if_neg (by omega)]
      exact h5
  · rw [if_neg hin, if_neg (by omega)]
end
end Go.Proofs.Ythfinofmbnfijaa
