/- The forest does not hang on the order of the articles. -/
import Derived.Test.YthfinofmbnfijaaTh16
namespace Go.Proofs.Ythfinofmbnfijaa
open Go.RowKit
set_option linter.unusedVariables false
set_option linter.unusedSimpArgs false

/-- A node with another row. -/
def NodeV.re (f : IdB → Int) (x : NodeV) : NodeV := ⟨x.id, f x.id, x.parent, x.depth⟩
theorem visL_re (ch : Kid) (row : IdB → Int) : ∀ (n : Nat) (out : List NodeV) (x : IdB) (p d : Int), visL ch row n (out.map (NodeV.re row)) x p d = (visL ch (fun _ => 0) n out x p d).map (NodeV.re row)
  | 0, _, _, _, _ => rfl
  | n + 1, out, x, p, d => by
    have hf : ∀ (M : List IdB) (k : Int) (o : List NodeV), M.foldl (fun o y => visL ch row n o y k (d + 1)) (o.map (NodeV.re row)) = (M.foldl (fun o y => visL ch (fun _ => 0) n o y k (d + 1)) o).map (NodeV.re row) := by
      intro M k
      induction M with
      | nil => intro o; rfl
      | cons y M ih =>
        intro o
        rw [List.foldl_cons, List.foldl_cons, visL_re ch row n o y k (d + 1)]
        exact ih _
    unfold visL
    rw [List.length_map, ← hf, List.map_append]
    rfl
theorem forL_re (c : Par) (pl : List IdB) (row : IdB → Int) (n : Nat) : forL c pl row n = (forL c pl (fun _ => 0) n).map (NodeV.re row) := by
  unfold forL
  have hf : ∀ (M : List IdB) (o : List NodeV), M.foldl (fun o y => visL (kidsOf c pl) row n o y (-1) 0) (o.map (NodeV.re row)) = (M.foldl (fun o y => visL (kidsOf c pl) (fun _ => 0) n o y (-1) 0) o).map (NodeV.re row) := by
    intro M
    induction M with
    | nil => intro o; rfl
    | cons y M ih =>
      intro o
      rw [List.foldl_cons, List.foldl_cons, visL_re]
      exact ih _
  exact hf _ []
theorem arrS_of_perm {M Y : List RowV} (hp : Y.Perm M) (hn : (M.map (·.id)).Nodup) : arrS Y = arrS M := by
  have hny : (Y.map (·.id)).Nodup := (hp.map _).nodup_iff.2 hn
  exact asc_unique ((arrS_perm Y).trans ((hp.map _).trans (arrS_perm M).symm)) (arrS_asc hny) (arrS_asc hn)
theorem idxL_perm {M Y : List RowV} (hp : Y.Perm M) (x : IdB) : idxL M x < 0 ↔ idxL Y x < 0 := by
  rw [idxL_nonneg, idxL_nonneg]
  exact ⟨fun h r hr => h r (hp.mem_iff.1 hr), fun h r hr => h r (hp.mem_iff.2 hr)⟩
/-- Two forests of the same articles. -/
theorem order_plain {M Y : List RowV} (hp : Y.Perm M) (hn : (M.map (·.id)).Nodup) {c1 c2 : Par} (h1 : IsCut (pM (isArt (arrS M)) (arrS M)) (arrS M) c1) (h2 : IsCut (pM (isArt (arrS Y)) (arrS Y)) (arrS Y) c2) :
    ∃ F : List NodeV, forestV M c1 = F.map (NodeV.re (idxL M)) ∧ forestV Y c2 = F.map (NodeV.re (idxL Y)) := by
  have hny : (Y.map (·.id)).Nodup := (hp.map _).nodup_iff.2 hn
  rw [arrS_of_perm hp hn] at h2
  obtain rfl := h1.uniq h2
  rw [forestV_eq hn, forestV_eq hny, arrS_of_perm hp hn]
  unfold forestS
  exact ⟨_, forL_re _ _ _ _, forL_re _ _ _ _⟩
theorem swap_perm {α : Type} (L : List α) (a b : Nat) (ha : a < L.length) (hb : b < L.length) : ((L.set a L[b]).set b L[a]).Perm L := by
  have h := Array.swap_perm (xs := L.toArray) (i := a) (j := b) (by simpa using ha) (by simpa using hb)
  have h2 := h.toList
  rw [Array.toList_swap] at h2
  exact h2
end Go.Proofs.Ythfinofmbnfijaa
