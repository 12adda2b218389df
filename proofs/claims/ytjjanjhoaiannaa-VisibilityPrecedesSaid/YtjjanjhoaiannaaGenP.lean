/- Generic notions that name the program's types: byte slices as strings, appending bytes. -/
import Derived.Test.YtjjanjhoaiannaaProg
import Derived.Test.YtjjanjhoaiannaaGen
import Derived.Laws.IdiomStrings
import Derived.Laws.BytesArg
import Derived.Deep.AppendLies
import Derived.Laws.AppendOwnNone
namespace Go.Proofs.Ytjjanjhoaiannaa
open Go.RowKit
set_option linter.unusedVariables false
set_option linter.unusedSimpArgs false

theorem infoByte : (Try.prog.info? 5).map (fun i => (i.zero, i.size, i.bytes)) = some (some (.int .u8 0), 1, 1) := by kernel_rfl
theorem BytesAt.str {w : World} {F : Nat → Prop} {v : Value} {l : List UInt8} (h : BytesAt w F v l) : (convert 87 9 v).run Try.prog w = .ok (.string ⟨l.toArray⟩) w := by
  obtain ⟨a, cap, rfl, hcap, hr⟩ := h
  cases a with
  | none =>
    have hl : l = [] := by
      by_cases hl : l = []
      · exact hl
      · obtain ⟨g, off, e, _⟩ := hr hl
        cases e
    subst hl
    exact run_convert_bytes_nil w 87 5 Try.underlying87 Try.underlying5 _ _ 9 Try.underlying9
  | some ad =>
    refine run_convert_bytes_back w 87 9 5 ad cap l Try.underlying87 Try.underlying5 Try.underlying9 ?_
    intro j hj
    obtain ⟨g, off, e, _, _, hc⟩ := hr (by intro e; rw [e] at hj; simp at hj)
    cases e
    have hadd : (⟨g, off, none⟩ : Addr).add j = ⟨g, off + j, none⟩ := by unfold Addr.add; split <;> simp_all
    rw [hadd]
    exact hc j _ (by rw [bvs_getElem?, List.getElem?_eq_getElem hj]; rfl)
theorem ownsRow_bytes {w : World} {B n : Nat} {T : TypeId} {v : Value} {l : List UInt8} (h : w.ownsRow B T 1 v n (bvs l)) (hn : l.length = n) : BytesAt w (fun k => B ≤ k) v l := by
  rcases h.2 with ⟨rfl, h0⟩ | ⟨g, cap, cur, rfl, hbg, hg, hc, _, hs, ht⟩
  · have : l = [] := List.eq_nil_of_length_eq_zero (by omega)
    subst this
    exact bytesAt_nil _ _
  · subst hn
    refine ⟨_, _, rfl, hc, fun _ => ⟨g, 0, rfl, hbg, (Array.getElem?_eq_some_iff.1 hg).1, fun j u hu => ?_⟩⟩
    rw [cell_of_row w g _ cur _ _ hg, Nat.zero_add]
    rw [Nat.mul_one] at ht
    rw [← ht, List.getElem?_take] at hu
    split at hu
    · simpa using hu
    · cases hu

section
variable {ops : Array Oper} {rest : List Oper} {o : Oper} {a : Act} {Q : Exit → Act → World → Prop}
/-- One more byte for a row of bytes. -/
theorem wpList_appByte {w : World} (hgd : o.guard = none) (s x : Operand) (ho : o.op = .call { callee := .builtin .append, args := #[s, x], argTypes := #[87, 87] })
    {B n : Nat} {v : Value} {b : UInt8} {xs : List UInt8} (hs : a.eval s = v) (hown : w.ownsRow B 5 1 v n (bvs xs)) (g : Nat) (hx : a.eval x = .slice (some ⟨g, 0, none⟩) 1 1) (hg : w.heap[g]? = some (.cells #[bv b] 5 (0, 0)))
    (hn : n < 1000000000) (hB : B ≤ w.heap.size)
    (h : ∀ g' cap' w', g' < w'.heap.size → w'.ownsRow B 5 1 (.slice (some ⟨g', 0, none⟩) (n + 1) cap') (n + 1) (bvs (xs ++ [b])) → w.grownBy w' v.ownBlock → (v.ownBlock = some g' ∨ g' = w.heap.size) → wpList Try.prog ops Q rest (a.put o.dst (.slice (some ⟨g', 0, none⟩) (n + 1) cap')) w') :
    wpList Try.prog ops Q (o :: rest) a w := by
  refine wpList_plain hgd fun _ hK => ?_
  obtain ⟨i0, hi, hz0, hz1, hz2⟩ := info_parts infoByte
  refine wp_append_lies _ s x 87 ho B 5 i0 _ 1 1 Try.underlying87 hi hz0 hz1 hz2 rfl (by decide) v n (bvs xs) hs hown
    ⟨g, 0, none⟩ 1 1 [bv b] hx rfl (World.news_of_block (cs := #[bv b]) (t := 5) (fr := (0, 0)) hg) (fun y hy => by obtain rfl := List.mem_singleton.1 hy; rfl) (by decide) (by unfold maxLen; omega) (by omega) hB _ rfl ?_
  intro g' cap' w' hown hgrow hat hlt
  refine hK _ _ (h g' cap' w' hlt ?_ hgrow hat)
  rw [bvs_append]
  exact hown

/-- Bytes behind a row of bytes. -/
theorem wpList_appBytes {w : World} (hgd : o.guard = none) (s x : Operand) (ho : o.op = .call { callee := .builtin .append, args := #[s, x], argTypes := #[87, 87] })
    {B n : Nat} {v xv : Value} {F : Nat → Prop} {xs ys : List UInt8} (hs : a.eval s = v) (hown : w.ownsRow B 5 1 v n (bvs xs)) (hx : a.eval x = xv) (hb : BytesAt w F xv ys) (hnil : ∀ k c, xv = .slice none k c → c = 0)
    (hn : n + ys.length < 1000000000000) (hB : B ≤ w.heap.size)
    (h : ∀ a' cap' w', w'.ownsRow B 5 1 (.slice a' (n + ys.length) cap') (n + ys.length) (bvs (xs ++ ys)) → w.grownBy w' v.ownBlock → wpList Try.prog ops Q rest (a.put o.dst (.slice a' (n + ys.length) cap')) w') :
    wpList Try.prog ops Q (o :: rest) a w := by
  obtain ⟨i0, hi, hz0, hz1, hz2⟩ := info_parts infoByte
  obtain ⟨xa, xc, rfl, hxc, hxr⟩ := hb
  cases xa with
  | none =>
    have hc0 := hnil _ _ rfl
    subst hc0
    have hy : ys = [] := List.eq_nil_of_length_eq_zero (by omega)
    subst hy
    obtain ⟨va, vc, rfl⟩ := ownsRow_form hown
    refine wpList_append_own_none hgd s x 87 ho B 5 i0 1 Try.underlying87 hi _ n (bvs xs) hs hown hx ?_
    have := h va vc w (by simpa using hown) ⟨rfl, rfl, rfl, Nat.le_refl _, fun _ _ _ => rfl⟩
    simpa using this
  | some ad =>
    refine wpList_append_own w hgd s x 87 ho B 5 i0 _ 1 1 Try.underlying87 hi hz0 hz1 hz2 rfl (by decide) v n (bvs xs) hs hown ad ys.length xc (bvs ys) hx (by simp) ?_ bvs_oneCell (by unfold maxLen; omega) (by omega) hB ?_
    · intro j u hu
      obtain ⟨g, off, e, _, _, hr⟩ := hxr (by intro e; rw [e] at hu; simp [bvs] at hu)
      cases e
      have hadd : (⟨g, off, none⟩ : Addr).add j = ⟨g, off + j, none⟩ := by unfold Addr.add; split <;> simp_all
      rw [hadd]
      exact hr j u hu
    · intro v' w' hown' hg _
      rw [← bvs_append] at hown'
      obtain ⟨a', cap', rfl⟩ := ownsRow_form hown'
      exact h a' cap' w' hown' hg
end

end Go.Proofs.Ytjjanjhoaiannaa
