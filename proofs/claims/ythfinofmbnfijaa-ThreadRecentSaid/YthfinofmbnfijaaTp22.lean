/- ThreadRecent, plainly: a spoiled depth; the latest articles of the roots are strictly ordered. -/
import Derived.Test.YthfinofmbnfijaaTh39
import Derived.Test.YthfinofmbnfijaaTh30
namespace Go.Proofs.Ythfinofmbnfijaa
open Go.Shelf Go.RowKit Go.Lib Go.Sort
set_option linter.unusedVariables false
set_option linter.unusedSimpArgs false

theorem dep_set {F : List NodeV} {j : Nat} {n : NodeV} {p : Int} (h1 : -1 ≤ p) (h2 : p < (j : Int)) : depOf (F.set j n) p = depOf F p := by
  unfold depOf
  by_cases e : p = -1
  · rw [if_pos e, if_pos e]
  · rw [if_neg e, if_neg e, List.getElem?_set_ne (by omega)]
/-- A depth that is changed is found. -/
theorem spoil_bad {F : List NodeV} (h : checkP F = 0) {j : Nat} (hj : j < F.length) : checkP (F.set j (F[j].wDep (F[j].depth + 7))) ≠ 0 := by
  intro h'
  have c := chk_all h j hj
  have c' := chk_all h' j (by rw [List.length_set]; exact hj)
  rw [List.getElem_set_self] at c'
  have e1 := c.dep
  have e2 : F[j].depth + 7 = depOf (F.set j (F[j].wDep (F[j].depth + 7))) F[j].parent := c'.dep
  rw [dep_set c.par c.lt] at e2
  omega
def bestV {n : Nat} (o : Option (Fin n)) : Int := match o with
  | none => -1
  | some k => (k.val : Int)
/-- There are no more roots than articles. -/
theorem roots_few {R : List RowV} {c : Par} {F : List NodeV} (h : Good R c F) {L : List RowV} (hr : ∀ i, i < F.length → rowA F i < (L.length : Int)) : (∀ t, t < F.length → parA F t = -1 → (bsL F L t F.length).isSome = true) ∧ (belowL F (-1) F.length).length ≤ L.length := by
  have hr' : ∀ i, rowA F i < (L.length : Int) := fun i => by
    by_cases hi : i < F.length
    · exact hr i hi
    · unfold rowA
      rw [List.getElem?_eq_none (by omega)]
      show (-1 : Int) < _
      omega
  have hs : ∀ t, t < F.length → parA F t = -1 → (bsL F L t F.length).isSome = true := fun t ht hp => good_bs h hr' ht hp
  refine ⟨hs, ?_⟩
  have hmem : ∀ t ∈ belowL F (-1) F.length, t < F.length ∧ parA F t = -1 := fun t ht => by
    obtain ⟨h1, h2⟩ := List.mem_filter.1 ht
    exact ⟨List.mem_range.1 h1, of_decide_eq_true h2⟩
  let f : Nat → Nat := fun t => ((bsL F L t F.length).map Fin.val).getD 0
  have hnd : ((belowL F (-1) F.length).map f).Nodup := by
    rw [List.nodup_iff_pairwise_ne, List.pairwise_map]
    have h0 : (belowL F (-1) F.length).Nodup := (List.filter_sublist).nodup List.nodup_range
    rw [List.nodup_iff_pairwise_ne] at h0
    refine List.Pairwise.imp_of_mem (R := fun a b => a ≠ b) ?_ h0
    intro a b ha hb hab e
    obtain ⟨a1, a2⟩ := hmem a ha
    obtain ⟨b1, b2⟩ := hmem b hb
    obtain ⟨ka, hka⟩ := Option.isSome_iff_exists.1 (hs a a1 a2)
    obtain ⟨kb, hkb⟩ := Option.isSome_iff_exists.1 (hs b b1 b2)
    have e : ka.val = kb.val := by
      have : f a = f b := e
      simp only [f] at this
      rw [hka, hkb] at this
      exact this
    obtain ⟨ja, hja, hta, hra⟩ := bs_row hka
    obtain ⟨jb, hjb, htb, hrb⟩ := bs_row hkb
    obtain rfl := good_row h hja hjb (by rw [hra, hrb, e]) (by omega)
    exact hab (hta.symm.trans htb)
  have := nodup_len _ (List.range L.length) hnd (fun x hx => by
    obtain ⟨t, ht, rfl⟩ := List.mem_map.1 hx
    obtain ⟨t1, t2⟩ := hmem t ht
    obtain ⟨k, hk⟩ := Option.isSome_iff_exists.1 (hs t t1 t2)
    simp only [f]
    rw [hk]
    exact List.mem_range.2 k.isLt)
  rwa [List.length_map, List.length_range] at this
/-- Roots in order: the latest articles are strictly ordered. -/
theorem rec_strict {R : List RowV} {c : Par} {F : List NodeV} (h : Good R c F) {L : List RowV} (hn : (L.map (·.id)).Nodup) {N : Nat} (hN : F.length = N) {x y : Rt (bsF F L N)} (hxy : ¬ cfR (bsF F L N) y x < 0) (hne : x.1 ≠ y.1) : 0 < cmpT L[x.k].tw L[y.k].tw := by
  have h1 : ¬ cmpT L[x.k].tw L[y.k].tw < 0 := hxy
  by_cases h0 : cmpT L[x.k].tw L[y.k].tw = 0
  · exfalso
    have hid : L[x.k].id = L[y.k].id := (cmpT_eq h0).2
    have hk : x.k.val = y.k.val := by
      rw [List.nodup_iff_pairwise_ne, List.pairwise_map, List.pairwise_iff_getElem] at hn
      rcases Nat.lt_trichotomy x.k.val y.k.val with hlt | heq | hgt
      · exact absurd hid (hn _ _ x.k.isLt y.k.isLt hlt)
      · exact heq
      · exact absurd hid.symm (hn _ _ y.k.isLt x.k.isLt hgt)
    have hx : bsL F L x.1.val F.length = some x.k := (Option.some_get x.2).symm
    have hy : bsL F L y.1.val F.length = some y.k := (Option.some_get y.2).symm
    obtain ⟨ja, hja, hta, hra⟩ := bs_row hx
    obtain ⟨jb, hjb, htb, hrb⟩ := bs_row hy
    obtain rfl := good_row h hja hjb (by rw [hra, hrb, hk]) (by omega)
    exact hne (Fin.ext (hta.symm.trans htb))
  · omega
/-- A step of the law's inner loop. -/
theorem best_no {F : List NodeV} {L : List RowV} {t i : Nat} (hc : checkP F = 0) (hi : i < F.length) (ht : t < F.length) (hp : parA F t = -1) (hm : t ∉ chn F i) : bsL F L t (i + 1) = bsL F L t i := by
  show (if rtL F i = t ∧ 0 ≤ rowA F i then _ else _) = _
  rw [if_neg (fun e => hm ((chn_rt hc hi ht hp).2 e.1))]
theorem best_in {F : List NodeV} {L : List RowV} {t i : Nat} (hc : checkP F = 0) (hi : i < F.length) (ht : t < F.length) (hp : parA F t = -1) (hm : t ∈ chn F i) (k : Fin L.length) (hk : rowA F i = (k.val : Int)) : bsL F L t (i + 1) = betL L (bsL F L t i) k := by
  rw [bs_next k hk, if_pos ((chn_rt hc hi ht hp).1 hm).symm]
theorem getLast_cut {α : Type} {l : List α} : l.dropLast.length = l.length - 1 := List.length_dropLast
theorem nodup_cut {L : List RowV} (h : (L.map (·.id)).Nodup) : (L.dropLast.map (·.id)).Nodup := by
  rw [List.map_dropLast]
  exact (List.dropLast_sublist _).nodup h
end Go.Proofs.Ythfinofmbnfijaa
