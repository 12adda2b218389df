/- Steps of the reference's code: append([]byte{}, x...) of 256 bytes; one more element for a row. -/
import Derived.Test.YtkklbmnbjmicnaaRef2
namespace Go.Proofs.Ytkklbmnbjmicnaa
open Go.RowKit
set_option linter.unusedVariables false
set_option linter.unusedSimpArgs false

section
variable {ops : Array Oper} {rest : List Oper} {o : Oper} {a : Act} {Q : Exit → Act → World → Prop}

theorem wp_app256 {K : Act → World → Prop} {wr : World} (s x : Operand) (ho : o.op = .call { callee := .builtin .append, args := #[s, x], argTypes := #[30, 30] })
    (hs : a.eval s = .slice (some ⟨wr.heap.size, 0, none⟩) 0 0) (g off cap : Nat) (l : List UInt8) (hx : a.eval x = .slice (some ⟨g, off, none⟩) 256 cap) (hr : wr.rangeAt g off (bvs l)) (hg : g < wr.heap.size) (hl : l.length = 256)
    (h : ∀ g' cap' w', wr.heap.size ≤ g' → g' < w'.heap.size → w'.ownsRow wr.heap.size 5 1 (.slice (some ⟨g', 0, none⟩) 256 cap') 256 (bvs l) → Below wr.heap.size wr w' → K (a.put o.dst (.slice (some ⟨g', 0, none⟩) 256 cap')) w') :
    o.wp Try.prog a (wr.alloc (.cells #[] 5)) K Q := by
  obtain ⟨i0, hi, hz0, hz1, hz2⟩ := info_parts infoByte
  refine wp_append_lies _ s x 30 ho wr.heap.size 5 i0 (.int .u8 0) 1 1 Try.underlying30 hi hz0 hz1 hz2 rfl (by decide) _ 0 [] hs (World.ownsRow_made wr #[] 0 (Nat.le_refl _) (Nat.zero_le _) rfl)
    ⟨g, off, none⟩ 256 cap (bvs l) hx (by rw [bvs_length, hl]) (fun j u hj => by rw [addr_add_none]; exact (World.cell?_of_block (Below.heap_alloc wr _ g hg)).trans (hr j u hj)) bvs_oneCell (by decide) (by decide) (by decide) (by simp) _ rfl ?_
  intro g' cap' w' hown hgrow hat hlt
  have hown' : w'.ownsRow wr.heap.size 5 1 (.slice (some ⟨g', 0, none⟩) 256 cap') 256 (bvs l) := by simpa using hown
  have hge : wr.heap.size ≤ g' := (ownsRow_lt hown' g' rfl).1
  have hb : Below wr.heap.size wr w' := ((Below.refl _ wr).alloc (Nat.le_refl _) _).grown hgrow (by simp) (by intro k hk; simp [Value.ownBlock] at hk; omega)
  have := h g' cap' w' hge hlt hown' hb
  simpa using this

theorem wpList_app256 {wr : World} (hgd : o.guard = none) (s x : Operand) (ho : o.op = .call { callee := .builtin .append, args := #[s, x], argTypes := #[30, 30] })
    (hs : a.eval s = .slice (some ⟨wr.heap.size, 0, none⟩) 0 0) (g off cap : Nat) (l : List UInt8) (hx : a.eval x = .slice (some ⟨g, off, none⟩) 256 cap) (hr : wr.rangeAt g off (bvs l)) (hg : g < wr.heap.size) (hl : l.length = 256)
    (h : ∀ g' cap' w', wr.heap.size ≤ g' → g' < w'.heap.size → w'.ownsRow wr.heap.size 5 1 (.slice (some ⟨g', 0, none⟩) 256 cap') 256 (bvs l) → Below wr.heap.size wr w' →
      wpList Try.prog ops Q rest (a.put o.dst (.slice (some ⟨g', 0, none⟩) 256 cap')) w') :
    wpList Try.prog ops Q (o :: rest) a (wr.alloc (.cells #[] 5)) :=
  wpList_plain hgd fun _ hK => wp_app256 s x ho hs g off cap l hx hr hg hl fun g' cap' w' h1 h2 h3 h4 => hK _ _ (h g' cap' w' h1 h2 h3 h4)

theorem infoSlice : (Try.prog.info? 30).map (fun i => (i.zero, i.size, i.bytes)) = some (some (.slice none 0 0), 1, 24) := by kernel_rfl
theorem infoW : (Try.prog.info? 90).map (fun i => (i.zero, i.size, i.bytes)) = some (some (.agg #[.int .i64 0, .slice none 0 0]), 2, 32) := by kernel_rfl

/-- One more slice of bytes for a row of such. -/
theorem wp_appRow {K : Act → World → Prop} {w : World} (s x : Operand) (ho : o.op = .call { callee := .builtin .append, args := #[s, x], argTypes := #[42, 42] })
    {B n : Nat} {v u : Value} {xs : List Value} (hs : a.eval s = v) (hown : w.ownsRow B 30 1 v n xs) (g : Nat) (hx : a.eval x = .slice (some ⟨g, 0, none⟩) 1 1) (hg : w.heap[g]? = some (.cells #[u] 30 (0, 0))) (hu : u.oneCell' = true)
    (hn : n < 1000000000) (hB : B ≤ w.heap.size)
    (h : ∀ g' cap' w', g' < w'.heap.size → w'.ownsRow B 30 1 (.slice (some ⟨g', 0, none⟩) (n + 1) cap') (n + 1) (xs ++ [u]) → w.grownBy w' v.ownBlock → (v.ownBlock = some g' ∨ g' = w.heap.size) → K (a.put o.dst (.slice (some ⟨g', 0, none⟩) (n + 1) cap')) w') :
    o.wp Try.prog a w K Q := by
  obtain ⟨i0, hi, hz0, hz1, hz2⟩ := info_parts infoSlice
  refine wp_append_lies _ s x 42 ho B 30 i0 _ 1 24 Try.underlying42 hi hz0 hz1 hz2 rfl (by decide) v n xs hs hown
    ⟨g, 0, none⟩ 1 1 [u] hx rfl (World.news_of_block (cs := #[u]) (t := 30) (fr := (0, 0)) hg) (fun y hy => by obtain rfl := List.mem_singleton.1 hy; exact hu) (by decide) (by unfold maxLen; omega) (by omega) hB _ rfl ?_
  intro g' cap' w' hown hgrow hat hlt
  exact h g' cap' w' hlt hown hgrow hat
theorem wpList_appRow {w : World} (hgd : o.guard = none) (s x : Operand) (ho : o.op = .call { callee := .builtin .append, args := #[s, x], argTypes := #[42, 42] })
    {B n : Nat} {v u : Value} {xs : List Value} (hs : a.eval s = v) (hown : w.ownsRow B 30 1 v n xs) (g : Nat) (hx : a.eval x = .slice (some ⟨g, 0, none⟩) 1 1) (hg : w.heap[g]? = some (.cells #[u] 30 (0, 0))) (hu : u.oneCell' = true)
    (hn : n < 1000000000) (hB : B ≤ w.heap.size)
    (h : ∀ g' cap' w', g' < w'.heap.size → w'.ownsRow B 30 1 (.slice (some ⟨g', 0, none⟩) (n + 1) cap') (n + 1) (xs ++ [u]) → w.grownBy w' v.ownBlock → (v.ownBlock = some g' ∨ g' = w.heap.size) → wpList Try.prog ops Q rest (a.put o.dst (.slice (some ⟨g', 0, none⟩) (n + 1) cap')) w') :
    wpList Try.prog ops Q (o :: rest) a w :=
  wpList_plain hgd fun _ hK => wp_appRow s x ho hs hown g hx hg hu hn hB fun g' cap' w' h1 h2 h3 h4 => hK _ _ (h g' cap' w' h1 h2 h3 h4)

/-- One more write for a row of the reference's writes. -/
theorem wp_appW {K : Act → World → Prop} {w : World} (s x : Operand) (ho : o.op = .call { callee := .builtin .append, args := #[s, x], argTypes := #[43, 43] })
    {B n : Nat} {v u0 u : Value} {xs : List Value} (hs : a.eval s = v) (hown : w.ownsRow B 90 2 v n xs) (g : Nat) (hx : a.eval x = .slice (some ⟨g, 0, none⟩) 1 1) (hg : w.heap[g]? = some (.cells #[u0, u] 90 (0, 0))) (hu0 : u0.oneCell' = true) (hu : u.oneCell' = true)
    (hn : n < 1000000000) (hB : B ≤ w.heap.size)
    (h : ∀ g' cap' w', g' < w'.heap.size → w'.ownsRow B 90 2 (.slice (some ⟨g', 0, none⟩) (n + 1) cap') (n + 1) (xs ++ [u0, u]) → w.grownBy w' v.ownBlock → (v.ownBlock = some g' ∨ g' = w.heap.size) → K (a.put o.dst (.slice (some ⟨g', 0, none⟩) (n + 1) cap')) w') :
    o.wp Try.prog a w K Q := by
  obtain ⟨i0, hi, hz0, hz1, hz2⟩ := info_parts infoW
  refine wp_append_lies _ s x 43 ho B 90 i0 _ 2 32 Try.underlying43 hi hz0 hz1 hz2 rfl (by decide) v n xs hs hown
    ⟨g, 0, none⟩ 1 1 [u0, u] hx rfl (World.news_of_block (cs := #[u0, u]) (t := 90) (fr := (0, 0)) hg) (fun y hy => by rcases List.mem_cons.1 hy with rfl | hy; exact hu0; obtain rfl := List.mem_singleton.1 hy; exact hu) (by decide) (by unfold maxLen; omega) (by omega) hB _ rfl ?_
  intro g' cap' w' hown hgrow hat hlt
  exact h g' cap' w' hlt hown hgrow hat
end

/-! ### what is owned -/
/-- Slices of bytes, each in a block of its own, from block B on. -/
structure Rows (w : World) (B : Nat) (D : List (List UInt8 × Value)) : Prop where
  row : ∀ x ∈ D, x.1.length = 256 ∧ ∃ g cap, x.2 = .slice (some ⟨g, 0, none⟩) 256 cap ∧ w.ownsRow B 5 1 x.2 256 (bvs x.1)
  nodup : (D.map (fun x => x.2.ownBlock)).Nodup

theorem Rows.kept {w w' : World} {B : Nat} {D : List (List UInt8 × Value)} (h : Rows w B D) {F : Nat → Prop} (hc : Chg F w w') (hd : ∀ x ∈ D, ∀ g, x.2.ownBlock = some g → ¬ F g) : Rows w' B D := by
  refine ⟨fun x hx => ?_, h.nodup⟩
  obtain ⟨hl, g, cap, e, hr⟩ := h.row x hx
  refine ⟨hl, g, cap, e, hr.1, ?_⟩
  rcases hr.2 with hn | ⟨g', cap', cur, e', hbg, hg, rest⟩
  · exact .inl hn
  · exact .inr ⟨g', cap', cur, e', hbg, (hc.block g' (Array.getElem?_eq_some_iff.1 hg).1 (hd x hx g' (by rw [e']; rfl))).trans hg, rest⟩

/-- Rows of two element types lie in two blocks. -/
theorem ownsRow_ne {w : World} {B B' n n' s s' : Nat} {T T' : TypeId} {v v' : Value} {xs xs' : List Value} (h : w.ownsRow B T s v n xs) (h' : w.ownsRow B' T' s' v' n' xs') (hT : T ≠ T') (g : Nat) (hg : v.ownBlock = some g) : v'.ownBlock ≠ some g := by
  intro hg'
  rcases h.2 with ⟨rfl, _⟩ | ⟨g1, cap, cur, rfl, _, hh, _⟩
  · cases hg
  · rcases h'.2 with ⟨rfl, _⟩ | ⟨g2, cap', cur', rfl, _, hh', _⟩
    · cases hg'
    · obtain rfl : g1 = g := by simpa [Value.ownBlock] using hg
      obtain rfl : g2 = g1 := by simpa [Value.ownBlock] using hg'
      rw [hh] at hh'
      simp at hh'
      exact hT hh'.2

theorem Rows.push {w : World} {B : Nat} {D : List (List UInt8 × Value)} (h : Rows w B D) {l : List UInt8} {g cap : Nat} (hl : l.length = 256) (hr : w.ownsRow B 5 1 (.slice (some ⟨g, 0, none⟩) 256 cap) 256 (bvs l))
    (hn : ∀ x ∈ D, x.2.ownBlock ≠ some g) : Rows w B (D ++ [(l, .slice (some ⟨g, 0, none⟩) 256 cap)]) := by
  refine ⟨fun x hx => ?_, ?_⟩
  · rcases List.mem_append.1 hx with hx | hx
    · exact h.row x hx
    · obtain rfl := List.mem_singleton.1 hx
      exact ⟨hl, g, cap, rfl, hr⟩
  · rw [List.map_append, List.nodup_append]
    refine ⟨h.nodup, by simp, ?_⟩
    intro a ha b hb e
    obtain ⟨x, hx, rfl⟩ := List.mem_map.1 ha
    simp only [List.map_cons, List.map_nil, List.mem_singleton] at hb
    exact hn x hx (e.trans hb)

end Go.Proofs.Ytkklbmnbjmicnaa
