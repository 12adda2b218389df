/- Records: lists of sectors in memory. -/
import Derived.Test.YtloaenknhkfaeaaDoorRec11
namespace Go.Proofs.YtloaenknhkfaeaaDoor
open Go.RowKit
set_option linter.unusedVariables false
set_option linter.unusedSimpArgs false

theorem infoSl : (Tryd.prog.info? 22).map (fun i => (i.zero, i.size, i.bytes)) = some (some (.slice none 0 0), 1, 24) := by kernel_rfl

/-- The slice value v is a row of its own, of slices of bytes of their own: the lists L. -/
structure OwnSecs (w : World) (B : Nat) (v : Value) (L : List (List UInt8)) : Prop where
  ex : ∃ vs, w.ownsRow B 22 1 v L.length vs ∧ ∀ i (h : i < L.length), ∃ u, vs[i]? = some u ∧ w.ownsRow B 5 1 u L[i].length (bvs L[i])
/-- The slice value v reads as the lists L. -/
structure SecsAt (w : World) (v : Value) (L : List (List UInt8)) : Prop where
  ex : ∃ a cap vs, v = .slice a L.length cap ∧ L.length ≤ cap ∧ vs.length = L.length ∧ (L ≠ [] → ∃ g off, a = some ⟨g, off, none⟩ ∧ g < w.heap.size ∧ w.rangeAt g off vs) ∧
    (∀ k c, v = .slice none k c → c = 0) ∧ ∀ i (h : i < L.length), ∃ u, vs[i]? = some u ∧ BytesN w (fun _ => True) u L[i]

theorem BytesN.any {w : World} {F : Nat → Prop} {v : Value} {l : List UInt8} (h : BytesN w F v l) : BytesN w (fun _ => True) v l := ⟨h.at_.any, h.nil⟩
theorem own_ne2 {w : World} {B B2 n n2 s s2 : Nat} {T1 T2 : TypeId} {v u : Value} {xs ys : List Value} (h : w.ownsRow B T1 s v n xs) (h2 : w.ownsRow B2 T2 s2 u n2 ys) (hne : T1 ≠ T2) : u.ownBlock = none ∨ u.ownBlock ≠ v.ownBlock := by
  rcases h2.2 with ⟨rfl, _⟩ | ⟨g, cap, cur, rfl, _, hg, _⟩
  · exact .inl rfl
  · exact .inr (fun e => own_ne h hg hne g e.symm rfl)
section
variable {w w' : World} {B : Nat} {v : Value} {L : List (List UInt8)}
theorem OwnSecs.form (h : OwnSecs w B v L) : ∃ a cap, v = .slice a L.length cap := by obtain ⟨vs, h, _⟩ := h.ex; exact ownsRow_form h
theorem OwnSecs.below (h : OwnSecs w B v L) (hb : Below w.heap.size w w') : OwnSecs w' B v L := by
  obtain ⟨vs, h1, h2⟩ := h.ex
  refine ⟨vs, own_kept h1 hb, fun i hi => ?_⟩
  obtain ⟨u, h3, h4⟩ := h2 i hi
  exact ⟨u, h3, own_kept h4 hb⟩
theorem OwnSecs.base (h : OwnSecs w B v L) {B' : Nat} (hB : B' ≤ B) : OwnSecs w B' v L := by
  obtain ⟨vs, h1, h2⟩ := h.ex
  refine ⟨vs, ownsRow_base h1 hB, fun i hi => ?_⟩
  obtain ⟨u, h3, h4⟩ := h2 i hi
  exact ⟨u, h3, ownsRow_base h4 hB⟩
theorem ownSecs_nil (w : World) (B : Nat) : OwnSecs w B (.slice none 0 0) [] := ⟨[], own_none _ _ _, fun i hi => by simp at hi⟩
theorem OwnSecs.secs (h : OwnSecs w B v L) : SecsAt w v L := by
  obtain ⟨vs, h1, h2⟩ := h.ex
  obtain ⟨a, cap, rfl⟩ := ownsRow_form h1
  refine ⟨a, cap, vs, rfl, ?_, by have := h1.1; omega, fun hne => ?_, (fun k c e => by cases e; exact own_nilcap h1), fun i hi => ?_⟩
  · rcases h1.2 with ⟨e, h0⟩ | ⟨g, cap', cur, e, _, _, hc, _⟩
    · simp only [Value.slice.injEq] at e; omega
    · simp only [Value.slice.injEq] at e; obtain ⟨-, -, rfl⟩ := e; exact hc
  · have hpos : 0 < L.length := by cases L with | nil => exact absurd rfl hne | cons => simp
    obtain ⟨g, cap', e, hg, _, hr⟩ := ownsRow_at h1 hpos
    cases e
    exact ⟨g, 0, rfl, hg, fun j u hu => by rw [Nat.zero_add]; exact hr j u hu⟩
  · obtain ⟨u, h3, h4⟩ := h2 i hi
    exact ⟨u, h3, (own_bytesN h4).any⟩
theorem SecsAt.below (h : SecsAt w v L) (hb : Below w.heap.size w w') : SecsAt w' v L := by
  obtain ⟨a, cap, vs, h1, h2, h3, h4, h5, h6⟩ := h.ex
  refine ⟨a, cap, vs, h1, h2, h3, fun hne => ?_, h5, fun i hi => ?_⟩
  · obtain ⟨g, off, e, hg, hr⟩ := h4 hne
    exact ⟨g, off, e, Nat.lt_of_lt_of_le hg hb.size, fun j u hu => (Chg.of_below (F := fun _ => False) hb).cell (fun h => h) (hr j u hu)⟩
  · obtain ⟨u, h7, h8⟩ := h6 i hi
    exact ⟨u, h7, h8.below hb⟩
theorem SecsAt.form (h : SecsAt w v L) : ∃ a cap, v = .slice a L.length cap := by obtain ⟨a, cap, vs, h, _⟩ := h.ex; exact ⟨a, cap, h⟩
/-- One sector of it. -/
theorem SecsAt.get {a : Option Addr} {n cap : Nat} (h : SecsAt w (.slice a n cap) L) {i : Nat} (hi : i < L.length) : ∃ g off x n' c, a = some ⟨g, off, none⟩ ∧ w.cell? ⟨g, off + i, none⟩ = some (.slice x n' c) ∧ BytesN w (fun _ => True) (.slice x n' c) L[i] := by
  obtain ⟨a', cap', vs, e, h2, h3, h4, h5, h6⟩ := h.ex
  cases e
  obtain ⟨g, off, rfl, hg, hr⟩ := h4 (by intro e; rw [e] at hi; simp at hi)
  obtain ⟨u, h7, h8⟩ := h6 i hi
  obtain ⟨x, c, rfl⟩ := h8.at_.form
  exact ⟨g, off, x, _, c, rfl, hr i _ h7, h8⟩
/-- What is behind the first i of them. -/
theorem SecsAt.drop {g off n cap : Nat} (h : SecsAt w (.slice (some ⟨g, off, none⟩) n cap) L) {i : Nat} (hi : i ≤ L.length) : SecsAt w (.slice (some ⟨g, off + i, none⟩) (n - i) (cap - i)) (L.drop i) := by
  obtain ⟨a', cap', vs, e, h2, h3, h4, h5, h6⟩ := h.ex
  cases e
  refine ⟨_, _, vs.drop i, by rw [List.length_drop], by rw [List.length_drop]; omega, by rw [List.length_drop, List.length_drop, h3], fun hne => ?_, (fun k c e => by cases e), fun j hj => ?_⟩
  · obtain ⟨g', off', e, hg, hr⟩ := h4 (by intro e; rw [e] at hne; simp at hne)
    cases e
    refine ⟨g, off + i, rfl, hg, fun j u hu => ?_⟩
    rw [List.getElem?_drop] at hu
    have := hr (i + j) u hu
    rwa [← Nat.add_assoc] at this
  · rw [List.length_drop] at hj
    obtain ⟨u, h7, h8⟩ := h6 (i + j) (by omega)
    refine ⟨u, by rw [List.getElem?_drop]; exact h7, ?_⟩
    rw [List.getElem_drop]
    exact h8
/-- Another slice value for nothing. -/
theorem secsAt_nil (w : World) (a : Option Addr) (c : Nat) (h : a = none → c = 0) : SecsAt w (.slice a 0 c) [] :=
  ⟨a, c, [], rfl, Nat.zero_le _, rfl, fun h => absurd rfl h, (fun k c' e => by cases e; exact h rfl), fun i hi => by simp at hi⟩
theorem grown_below {w w' : World} {B n s : Nat} {T : TypeId} {v : Value} {xs : List Value} (h : w.ownsRow B T s v n xs) (hg : w.grownBy w' v.ownBlock) (hB : B ≤ w.heap.size) : Below B w w' :=
  (Below.refl _ _).grown hg hB (fun j hj => (ownsRow_lt h j hj).1)
theorem OwnSecs.len (h : OwnSecs w B v L) {a : Option Addr} {n c : Nat} (e : v = .slice a n c) : n = L.length := by
  obtain ⟨vs, h1, _⟩ := h.ex
  obtain ⟨a', c', e'⟩ := ownsRow_form h1
  rw [e] at e'
  cases e'
  rfl

/-- One more slice of bytes for a row of such. -/
theorem wp_appSec {o : Oper} {a : Act} {Q : Exit → Act → World → Prop} {K : Act → World → Prop} (s x : Operand) (ho : o.op = .call { callee := .builtin .append, args := #[s, x], argTypes := #[52, 52] })
    {u : Value} {l : List UInt8} (hs : a.eval s = v) (hown : OwnSecs w B v L) (hu : w.ownsRow B 5 1 u l.length (bvs l)) (hx : a.eval x = .slice (some ⟨w.heap.size, 0, none⟩) 1 1)
    {n : Nat} (hL : L.length = n) (hn : n < 1000000000) (hB : B ≤ w.heap.size)
    (h : ∀ a' cap' w', OwnSecs w' B (.slice a' (n + 1) cap') (L ++ [l]) → Below B w w' → K (a.put o.dst (.slice a' (n + 1) cap')) w') :
    o.wp Tryd.prog a (w.alloc (.cells #[u] 22)) K Q := by
  subst hL
  obtain ⟨i0, hi, hz0, hz1, hz2⟩ := info_parts infoSl
  have hba : Below w.heap.size w (w.alloc (.cells #[u] 22)) := (Below.refl _ _).alloc (Nat.le_refl _) _
  obtain ⟨vs, hr, he⟩ := hown.ex
  have hr1 := own_kept hr hba
  have hu1 := own_kept hu hba
  obtain ⟨ua, uc, hue⟩ := ownsRow_form hu
  refine wp_append_lies _ s x 52 ho B 22 i0 _ 1 24 Tryd.underlying52 hi hz0 hz1 hz2 rfl (by decide) v L.length vs hs hr1
    ⟨w.heap.size, 0, none⟩ 1 1 [u] hx rfl (World.news_of_block (cs := #[u]) (t := 22) (fr := (0, 0)) (heap_alloc_new _ _)) (fun y hy => by obtain rfl := List.mem_singleton.1 hy; rw [hue]; rfl) (by decide) (by unfold maxLen; omega) (by omega) (by rw [World.size_alloc]; omega) _ rfl ?_
  intro g' cap' w' hown' hgrow hat hlt
  have hb' : Below B w w' := (hba.mono hB).trans (grown_below hr1 hgrow (by rw [World.size_alloc]; omega))
  refine h _ cap' w' ⟨vs ++ [u], by rw [List.length_append]; exact hown', fun i hi => ?_⟩ hb'
  have hvl : vs.length = L.length := by have := hr.1; omega
  have keep : ∀ y m (ys : List UInt8), (w.alloc (.cells #[u] 22)).ownsRow B 5 1 y m (bvs ys) → w'.ownsRow B 5 1 y m (bvs ys) := fun y m ys hy => World.ownsRow.kept hy hgrow (own_ne2 hr1 hy (by decide))
  by_cases hlt : i < L.length
  · obtain ⟨y, h1, h2⟩ := he i hlt
    refine ⟨y, by rw [List.getElem?_append_left (by omega)]; exact h1, ?_⟩
    rw [List.getElem_append_left hlt]
    exact keep _ _ _ (own_kept h2 hba)
  · rw [List.length_append] at hi
    simp at hi
    obtain rfl : i = L.length := by omega
    refine ⟨u, by rw [List.getElem?_append_right (by omega), hvl, Nat.sub_self]; rfl, ?_⟩
    simp only [List.getElem_append_right (Nat.le_refl _), Nat.sub_self, List.getElem_cons_zero]
    exact keep _ _ _ hu1
theorem wpList_appSec {ops : Array Oper} {rest : List Oper} {o : Oper} {a : Act} {Q : Exit → Act → World → Prop} (hgd : o.guard = none) (s x : Operand) (ho : o.op = .call { callee := .builtin .append, args := #[s, x], argTypes := #[52, 52] })
    {u : Value} {l : List UInt8} (hs : a.eval s = v) (hown : OwnSecs w B v L) (hu : w.ownsRow B 5 1 u l.length (bvs l)) (hx : a.eval x = .slice (some ⟨w.heap.size, 0, none⟩) 1 1)
    {n : Nat} (hL : L.length = n) (hn : n < 1000000000) (hB : B ≤ w.heap.size)
    (h : ∀ a' cap' w', OwnSecs w' B (.slice a' (n + 1) cap') (L ++ [l]) → Below B w w' → wpList Tryd.prog ops Q rest (a.put o.dst (.slice a' (n + 1) cap')) w') :
    wpList Tryd.prog ops Q (o :: rest) a (w.alloc (.cells #[u] 22)) :=
  wpList_plain hgd fun _ hK => wp_appSec s x ho hs hown hu hx hL hn hB fun a' cap' w' h1 h2 => hK _ _ (h a' cap' w' h1 h2)
end

end Go.Proofs.YtloaenknhkfaeaaDoor
