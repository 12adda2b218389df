/- Check. -/
import Derived.Test.YtjjanjhoaiannaaTh11
import Derived.Deep.CutBlock
namespace Go.Proofs.Ytjjanjhoaiannaa
open Go.Shelf Go.RowKit Go.Lib Go.Sort
set_option linter.unusedVariables false
set_option linter.unusedSimpArgs false

section
variable {w : World} {g off : Nat} {n : NodeV}
theorem node_id (h : w.rangeAt g off n.cells) : w.rangeAt g off (bvs n.id.1) := fun j u hu => h j u (by
  unfold NodeV.cells
  rw [List.getElem?_append_left (List.getElem?_eq_some_iff.1 hu).1]
  exact hu)
theorem node_mid (h : w.rangeAt g off n.cells) : w.cell? ⟨g, off + 32, none⟩ = some (.int .i64 n.row) ∧ w.cell? ⟨g, off + 33, none⟩ = some (.int .i64 n.parent) ∧ w.cell? ⟨g, off + 34, none⟩ = some (.int .i64 n.depth) := by
  have key : ∀ j u, [Value.int .i64 n.row, .int .i64 n.parent, .int .i64 n.depth][j]? = some u → w.cell? ⟨g, off + (32 + j), none⟩ = some u := fun j u hu => by
    refine h (32 + j) u ?_
    unfold NodeV.cells
    rw [List.getElem?_append_right (by rw [bvs_length, n.id.2]; omega), bvs_length, n.id.2, Nat.add_sub_cancel_left]
    exact hu
  exact ⟨key 0 _ rfl, key 1 _ rfl, key 2 _ rfl⟩
end
theorem sizeNodeA (n : NodeV) : (Try.prog.info? 57).map (·.size) = some n.cells.toArray.size := by rw [List.size_toArray]; exact sizeNode n
theorem zsNode (n : NodeV) : (NodeV.cells ⟨z32, 0, 0, 0⟩).toArray.size = n.cells.toArray.size := by rw [List.size_toArray, List.size_toArray, NodeV.cells_length, NodeV.cells_length]
theorem oneNode (n : NodeV) : n.cells.toArray.all (·.oneCell') = true := all_oneCell_toArray n.cells_one
theorem OwnL.cut {P : Program} {sT T : TypeId} {α : Type} {E : ElemTy P sT T α} {w : World} {B n c k : Nat} {a : Option Addr} {L : List α} (h : OwnL E w B (.slice a n c) L) (hk : k ≤ n) : OwnL E w B (.slice a k c) (L.take k) := by
  have hh : w.ownsRow B T E.k (.slice a n c) L.length (L.flatMap E.enc) := h
  have hn : n = L.length := by obtain ⟨a', c', e⟩ := h.form; cases e; rfl
  have hl : (L.take k).length = k := by rw [List.length_take]; omega
  show w.ownsRow B T E.k (.slice a k c) (L.take k).length ((L.take k).flatMap E.enc)
  rw [hl, flat_take]
  rcases hh.2 with ⟨e, h0⟩ | ⟨g, cap, cur, e, hB, hg, hc, hm, hs, ht⟩
  · cases e
    obtain rfl : k = 0 := by omega
    exact ⟨by simp, .inl ⟨rfl, rfl⟩⟩
  · cases e
    refine ⟨by rw [List.length_take, flat_length, ← hn, Nat.min_eq_left (Nat.mul_le_mul_right _ hk)], .inr ⟨g, c, cur, rfl, hB, hg, by omega, hm, hs, ?_⟩⟩
    rw [← ht, List.take_take, Nat.min_eq_left (Nat.mul_le_mul_right _ (by omega))]
theorem cutN (a : Option Addr) (n c m : Nat) (hm : m ≤ c) (hz : a = none → c = 0) (w : World) :
    (Instr.sliceAt 73 (.slice a n c) none (some (.int .i64 (m : Int))) none).run Try.prog w = .ok (.slice a m c) w := by
  cases a with
  | none =>
    obtain rfl := hz rfl
    obtain rfl : m = 0 := by omega
    have h0 : ∀ w, (Instr.sliceAt 73 (.slice none n 0) none (some (.int .i64 0)) none).run Try.prog w = .ok (.slice none 0 0) w := fun w => by go_simp
    exact h0 w
  | some ad =>
    have h1 : (m : Int) ≤ (c : Int) := by omega
    go_simp

def lenV : Value → Nat
  | .slice _ n _ => n
  | _ => 0
/-! ### what Check computes -/
def popL (p : Int) (P : List Nat) : List Nat := P.dropWhile fun j => !decide ((j : Int) = p)
def depOf (L : List NodeV) (p : Int) : Int := if p = -1 then 0 else ((L[p.toNat]?).map (·.depth + 1)).getD 0
def chkGo (L : List NodeV) : Nat → Nat → List Nat → Int
  | 0, _, _ => 0
  | f + 1, i, P => match L[i]? with
    | none => 0
    | some n =>
      if n.row < -1 ∨ n.parent < -1 ∨ (i : Int) ≤ n.parent then 2
      else if n.parent ≠ -1 ∧ popL n.parent P = [] then 30
      else if n.depth ≠ depOf L n.parent then 10
      else if (L.take i).any (fun m => decide (m.id = n.id)) then 7
      else chkGo L f (i + 1) (i :: popL n.parent P)
def checkP (L : List NodeV) : Int := chkGo L L.length 0 []
def seenF (L : List NodeV) (i : Nat) : IdB → Bool := fun x => (L.take i).any fun m => decide (m.id = x)
/-- While nodes are checked: the depths so far are small; the path's places lie ahead. -/
def ChkInv (L : List NodeV) (i : Nat) (P : List Nat) : Prop := (∀ j (h : j < L.length), j < i → 0 ≤ L[j].depth ∧ L[j].depth ≤ j) ∧ ∀ j ∈ P, j < i
theorem popL_sub (p : Int) (P : List Nat) : ∀ j ∈ popL p P, j ∈ P := fun j hj => (List.dropWhile_sublist _).mem hj
theorem popL_len (p : Int) (P : List Nat) : (popL p P).length ≤ P.length := (List.dropWhile_sublist _).length_le
theorem popL_cons (p : Int) (q : Nat) (P : List Nat) : popL p (q :: P) = if (q : Int) = p then q :: P else popL p P := by
  unfold popL
  rw [List.dropWhile_cons]
  by_cases h : (q : Int) = p
  · simp [h]
  · simp [h]
theorem seenF_next (L : List NodeV) {i : Nat} (h : i < L.length) (x : IdB) : (if x = L[i].id then some (Value.bool true) else misF (seenF L i) x) = misF (seenF L (i + 1)) x := by
  have e : seenF L (i + 1) x = (seenF L i x || decide (L[i].id = x)) := by
    unfold seenF
    rw [List.take_succ_eq_append_getElem h, List.any_append]
    simp
  unfold misF
  rw [e]
  by_cases hx : x = L[i].id
  · rw [if_pos hx, hx]; simp
  · rw [if_neg hx, decide_eq_false (fun e => hx e.symm), Bool.or_false]
end Go.Proofs.Ytjjanjhoaiannaa
