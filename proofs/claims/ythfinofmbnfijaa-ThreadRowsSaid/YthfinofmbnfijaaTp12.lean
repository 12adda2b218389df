/- What is known of the forest of articles. -/
import Derived.Test.YthfinofmbnfijaaTp11
import Derived.Test.YthfinofmbnfijaaTh16
namespace Go.Proofs.Ythfinofmbnfijaa
set_option linter.unusedVariables false
set_option linter.unusedSimpArgs false

theorem idxL_ge (L : List RowV) (x : IdB) : -1 ≤ idxL L x := by
  unfold idxL
  cases L.findIdx? (fun r => decide (r.id = x)) with
  | none => exact Int.le_refl _
  | some i => show (-1 : Int) ≤ (i : Int); omega
theorem visL_row (ch : Kid) (row : IdB → Int) : ∀ (n : Nat) (out : List NodeV) (x : IdB) (p d : Int), (∀ m ∈ out, m.row = row m.id) → ∀ m ∈ visL ch row n out x p d, m.row = row m.id
  | 0, _, _, _, _, h => h
  | n + 1, out, x, p, d, h => by
    have hf : ∀ (M : List IdB) (o : List NodeV), (∀ m ∈ o, m.row = row m.id) → ∀ m ∈ M.foldl (fun o y => visL ch row n o y out.length (d + 1)) o, m.row = row m.id := by
      intro M
      induction M with
      | nil => intro o h; exact h
      | cons y M ih => intro o h; rw [List.foldl_cons]; exact ih _ (visL_row ch row n o y _ _ h)
    refine hf _ _ fun m hm => ?_
    rcases List.mem_append.1 hm with h1 | h1
    · exact h m h1
    · rw [List.mem_singleton.1 h1]
theorem forL_row (c : Par) (pl : List IdB) (row : IdB → Int) (n : Nat) : ∀ m ∈ forL c pl row n, m.row = row m.id := by
  have hf : ∀ (M : List IdB) (o : List NodeV), (∀ m ∈ o, m.row = row m.id) → ∀ m ∈ M.foldl (fun o y => visL (kidsOf c pl) row n o y (-1) 0) o, m.row = row m.id := by
    intro M
    induction M with
    | nil => intro o h; exact h
    | cons y M ih => intro o h; rw [List.foldl_cons]; exact ih _ (visL_row _ row n o y _ _ h)
  exact hf _ _ (fun m hm => by cases hm)
/-- The forest F of the articles L, the parents c. -/
structure Good (L : List RowV) (c : Par) (F : List NodeV) : Prop where
  check : checkP F = 0
  nodup : (F.map (·.id)).Nodup
  row : ∀ n ∈ F, n.row = idxL L n.id
  all : ∀ r ∈ L, r.id ∈ F.map (·.id)
  ok : OkF c F
  first : ∀ (j : Nat) (n : NodeV), F[j]? = some n → n.row < 0 → ∃ m, F[j + 1]? = some m ∧ m.parent = (j : Int) ∧ 0 ≤ m.row
  last : ∀ r ∈ L, ∀ x, c r.id = some x → r.refs.getLast? = some x
theorem mem_isArt {L : List RowV} {x : IdB} : isArt (arrS L) x = true ↔ ∃ r ∈ L, r.id = x := by
  rw [isArt_arrS, isArt_iff]
  constructor
  · rintro ⟨t, ht, e⟩
    obtain ⟨r, hr, rfl⟩ := List.mem_map.1 ht
    exact ⟨r, hr, e⟩
  · rintro ⟨r, hr, e⟩
    exact ⟨r.tw, List.mem_map.2 ⟨r, hr, rfl⟩, e⟩
theorem good {L : List RowV} (hn : (L.map (·.id)).Nodup) {c : Par} (hc : IsCut (pM (isArt (arrS L)) (arrS L)) (arrS L) c) : Good L c (forestV L c) := by
  have hac := cut_acyclic hc
  have hpl := pls_nodup hn c
  have hinv := place_inv (A := isArt (arrS L)) (c := c) (S := arrS L) (fun r hr => isArt_iff.2 ⟨r, hr, rfl⟩) (arrS_nodup hn) (arrS L).length (Nat.le_refl _)
  rw [List.take_of_length_le (Nat.le_refl _)] at hinv
  have hmem : ∀ x, x ∈ pls L c ↔ (∃ r ∈ arrS L, r.id = x) ∨ (isArt (arrS L) x = false ∧ ∃ r ∈ arrS L, c r.id = some x) := hinv.mem
  have hart : ∀ x, isArt (arrS L) x = true → x ∈ pls L c := fun x h => (hmem x).2 (.inl (isArt_iff.1 h))
  have hcl : ∀ y ∈ pls L c, ∀ z, c y = some z → z ∈ pls L c := fun y hy z hz => by
    cases hA : isArt (arrS L) z with
    | true => exact hart z hA
    | false =>
      rcases (hmem y).1 hy with ⟨r, hr, rfl⟩ | ⟨hy2, _⟩
      · exact (hmem z).2 (.inr ⟨hA, r, hr, hz⟩)
      · rcases alt_pM (arrS L) y z (hc.le hz) with h | h
        · rw [hy2] at h; cases h
        · rw [hA] at h; cases h
  have hF : forestV L c = forL c (pls L c) (idxL L) ((pls L c).length + 1) := by
    rw [forestV_eq hn]
    rfl
  have hids : (forestV L c).map (·.id) = allL c (pls L c) ((pls L c).length + 1) := by rw [hF]; exact forL_ids _ _ _ _
  have hrow : ∀ n ∈ forestV L c, n.row = idxL L n.id := by rw [hF]; exact forL_row _ _ _ _
  have hok : OkF c (forestV L c) := by rw [hF]; exact for_ok _ _ _ _
  refine ⟨by rw [hF]; exact for_ck hac hpl _ (idxL_ge L), by rw [hids]; exact all_nodup hac hpl _, hrow, fun r hr => ?_, hok, fun j n hj hneg => ?_, fun r hr x hx => ?_⟩
  · rw [hids]
    exact all_mem hac hcl (hart _ (mem_isArt.2 ⟨r, hr, rfl⟩))
  · have hnF : n ∈ forestV L c := List.mem_iff_getElem?.2 ⟨j, hj⟩
    have hnp : n.id ∈ pls L c := by
      have h1 : n.id ∈ (forestV L c).map (·.id) := List.mem_map.2 ⟨n, hnF, rfl⟩
      rw [hids] at h1
      exact all_pl h1
    rw [hrow n hnF] at hneg
    have hA : isArt (arrS L) n.id = false := by
      cases h : isArt (arrS L) n.id with
      | false => rfl
      | true =>
        obtain ⟨r, hr, e⟩ := mem_isArt.1 h
        exact absurd e (idxL_nonneg.1 hneg r hr)
    have hkid : kidsOf c (pls L c) n.id ≠ [] := by
      rcases (hmem n.id).1 hnp with ⟨r, hr, e⟩ | ⟨_, r, hr, e⟩
      · rw [← e, isArt_iff.2 ⟨r, hr, rfl⟩] at hA
        cases hA
      · exact List.ne_nil_of_mem (mem_kidsOf.2 ⟨hart _ (isArt_iff.2 ⟨r, hr, rfl⟩), e⟩)
    have hfirst : FirstAt (kidsOf c (pls L c)) (forestV L c) j := by rw [hF]; exact for_first hac _ j
    obtain ⟨m, hm, hmp⟩ := hfirst n hj hkid
    refine ⟨m, hm, hmp, ?_⟩
    have hmF : m ∈ forestV L c := List.mem_iff_getElem?.2 ⟨j + 1, hm⟩
    rw [hrow m hmF]
    rcases hok (j + 1) m hm with ⟨h1, _⟩ | ⟨q, u, _, h2, h3, h4⟩
    · omega
    · obtain rfl : q = j := by omega
      rw [hj] at h2
      cases h2
      refine Classical.byContradiction fun hneg2 => ?_
      have hA2 : isArt (arrS L) m.id = false := by
        cases h : isArt (arrS L) m.id with
        | false => rfl
        | true =>
          obtain ⟨r, hr, e⟩ := mem_isArt.1 h
          exact absurd e (idxL_nonneg.1 (by omega) r hr)
      rcases alt_pM (arrS L) m.id n.id (hc.le h4) with h | h
      · rw [hA2] at h; cases h
      · rw [hA] at h; cases h
  · have hrt : r.tw ∈ arrS L := (arrS_perm L).mem_iff.2 (List.mem_map.2 ⟨r, hr, rfl⟩)
    have h1 := pM_art (A := isArt (arrS L)) (arrS_nodup hn) hrt (isArt_iff.2 ⟨r.tw, hrt, rfl⟩)
    have h2 := hc.le hx
    exact h1.symm.trans h2
end Go.Proofs.Ythfinofmbnfijaa
