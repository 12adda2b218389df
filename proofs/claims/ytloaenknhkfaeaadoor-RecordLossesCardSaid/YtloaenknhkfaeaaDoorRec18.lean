/- Records: lists of records in memory. -/
import Derived.Test.YtloaenknhkfaeaaDoorRec17
namespace Go.Proofs.YtloaenknhkfaeaaDoor
open Go.RowKit
set_option linter.unusedVariables false
set_option linter.unusedSimpArgs false

def recC (r : RecD) (p : Value) : List Value := [.int .i64 r.kind, .int .i64 r.gen, .int .i64 r.num, p]
def flatR : List RecD → List Value → List Value
  | r :: L, p :: ps => recC r p ++ flatR L ps
  | _, _ => []
theorem flatR_length : ∀ (L : List RecD) (ps : List Value), ps.length = L.length → (flatR L ps).length = L.length * 4
  | [], [], _ => rfl
  | r :: L, p :: ps, h => by
    rw [flatR, List.length_append, flatR_length L ps (by simpa using h)]
    simp [recC]
    omega
theorem flatR_append : ∀ (L : List RecD) (ps : List Value) (r : RecD) (p : Value), ps.length = L.length → flatR (L ++ [r]) (ps ++ [p]) = flatR L ps ++ recC r p
  | [], [], r, p, _ => by simp [flatR]
  | r' :: L, p' :: ps, r, p, h => by
    simp only [List.cons_append, flatR]
    rw [flatR_append L ps r p (by simpa using h), List.append_assoc]
theorem flatR_get : ∀ (L : List RecD) (ps : List Value) (i j : Nat) (hi : i < L.length) (h : ps.length = L.length), j < 4 → (flatR L ps)[i * 4 + j]? = (recC L[i] (ps[i]'(by omega)))[j]?
  | r :: L, p :: ps, 0, j, _, _, hj => by
    rw [flatR, Nat.zero_mul, Nat.zero_add, List.getElem?_append_left (by simp [recC]; omega)]
    rfl
  | r :: L, p :: ps, i + 1, j, hi, h, hj => by
    have e : (i + 1) * 4 + j = (recC r p).length + (i * 4 + j) := by simp [recC]; omega
    rw [flatR, e, List.getElem?_append_right (by omega), Nat.add_sub_cancel_left, flatR_get L ps i j (by simpa using hi) (by simpa using h) hj]
    rfl

/-- The slice value v is a row of its own, of records with payloads of their own: the list L. -/
structure OwnRecs (T : TypeId) (w : World) (B : Nat) (v : Value) (L : List RecD) : Prop where
  ex : ∃ ps, ps.length = L.length ∧ w.ownsRow B T 4 v L.length (flatR L ps) ∧ ∀ i (h : i < L.length), ∃ u, ps[i]? = some u ∧ w.ownsRow B 5 1 u L[i].load.length (bvs L[i].load)
section
variable {T : TypeId} {w w' : World} {B : Nat} {v : Value} {L : List RecD}
theorem ownRecs_nil (T : TypeId) (w : World) (B : Nat) : OwnRecs T w B (.slice none 0 0) [] := ⟨[], rfl, ⟨rfl, .inl ⟨rfl, rfl⟩⟩, fun i hi => by simp at hi⟩
theorem OwnRecs.form (h : OwnRecs T w B v L) : ∃ a cap, v = .slice a L.length cap := by obtain ⟨ps, _, h, _⟩ := h.ex; exact ownsRow_form h
theorem OwnRecs.below (h : OwnRecs T w B v L) (hb : Below w.heap.size w w') : OwnRecs T w' B v L := by
  obtain ⟨ps, h0, h1, h2⟩ := h.ex
  refine ⟨ps, h0, own_kept h1 hb, fun i hi => ?_⟩
  obtain ⟨u, h3, h4⟩ := h2 i hi
  exact ⟨u, h3, own_kept h4 hb⟩
theorem OwnRecs.base (h : OwnRecs T w B v L) {B' : Nat} (hB : B' ≤ B) : OwnRecs T w B' v L := by
  obtain ⟨ps, h0, h1, h2⟩ := h.ex
  refine ⟨ps, h0, ownsRow_base h1 hB, fun i hi => ?_⟩
  obtain ⟨u, h3, h4⟩ := h2 i hi
  exact ⟨u, h3, ownsRow_base h4 hB⟩
/-- One record of it. -/
theorem OwnRecs.get {a : Option Addr} {n cap : Nat} (h : OwnRecs T w B (.slice a n cap) L) {i : Nat} (hi : i < L.length) : ∃ g x c, a = some ⟨g, 0, none⟩ ∧ w.cell? ⟨g, i * 4, none⟩ = some (.int .i64 L[i].kind) ∧ w.cell? ⟨g, i * 4 + 1, none⟩ = some (.int .i64 L[i].gen) ∧
    w.cell? ⟨g, i * 4 + 2, none⟩ = some (.int .i64 L[i].num) ∧ w.cell? ⟨g, i * 4 + 3, none⟩ = some (.slice x L[i].load.length c) ∧ BytesN w (fun _ => True) (.slice x L[i].load.length c) L[i].load := by
  obtain ⟨ps, h0, h1, h2⟩ := h.ex
  obtain ⟨u, h3, h4⟩ := h2 i hi
  obtain ⟨x, c, rfl⟩ := ownsRow_form h4
  obtain ⟨g, cap', e, _, _, hr⟩ := ownsRow_at h1 (by omega)
  cases e
  have hp : ps[i]'(by omega) = .slice x L[i].load.length c := by
    have := List.getElem?_eq_getElem (l := ps) (i := i) (by omega)
    rw [h3] at this
    simpa using this.symm
  have key : ∀ j u, j < 4 → (recC L[i] (.slice x L[i].load.length c))[j]? = some u → w.cell? ⟨g, i * 4 + j, none⟩ = some u := fun j u hj hu => hr _ _ (by rw [flatR_get L ps i j hi h0 hj, hp]; exact hu)
  exact ⟨g, x, c, rfl, key 0 _ (by omega) rfl, key 1 _ (by omega) rfl, key 2 _ (by omega) rfl, key 3 _ (by omega) rfl, (own_bytesN h4).any⟩
/-- One more record for a row of such. -/
theorem wp_appRec {sT : TypeId} {zz : Array Value} (hu : Tryd.prog.underlying sT = some (.slice T)) (hi : (Tryd.prog.info? T).map (fun i => (i.zero, i.size, i.bytes)) = some (some (.agg zz), 4, 48)) (hzz : zz.size = 4) (hT : T ≠ 5)
    {o : Oper} {a : Act} {Q : Exit → Act → World → Prop} {K : Act → World → Prop} (s x : Operand) (ho : o.op = .call { callee := .builtin .append, args := #[s, x], argTypes := #[sT, sT] })
    {r : RecD} {p : Value} (hs : a.eval s = v) (hown : OwnRecs T w B v L) (hp : w.ownsRow B 5 1 p r.load.length (bvs r.load)) {g : Nat} (hx : a.eval x = .slice (some ⟨g, 0, none⟩) 1 1) (hg : g = w.heap.size)
    {n : Nat} (hL : L.length = n) (hn : n < 1000000000) (hB : B ≤ w.heap.size)
    (h : ∀ a' cap' w', OwnRecs T w' B (.slice a' (n + 1) cap') (L ++ [r]) → Below B w w' → K (a.put o.dst (.slice a' (n + 1) cap')) w') :
    o.wp Tryd.prog a (w.alloc (.cells #[.int .i64 r.kind, .int .i64 r.gen, .int .i64 r.num, p] T)) K Q := by
  subst hL
  subst hg
  obtain ⟨i0, hi, hz0, hz1, hz2⟩ := info_parts hi
  have hba : Below w.heap.size w (w.alloc (.cells #[.int .i64 r.kind, .int .i64 r.gen, .int .i64 r.num, p] T)) := (Below.refl _ _).alloc (Nat.le_refl _) _
  obtain ⟨ps, h0, hr, he⟩ := hown.ex
  have hr1 := own_kept hr hba
  have hp1 := own_kept hp hba
  obtain ⟨ua, uc, hue⟩ := ownsRow_form hp
  refine wp_append_lies _ s x sT ho B T i0 _ 4 48 hu hi hz0 hz1 hz2 (by simp [Value.cells, hzz]) (by decide) v L.length (flatR L ps) hs hr1
    ⟨w.heap.size, 0, none⟩ 1 1 (recC r p) hx rfl (World.news_of_block (cs := #[.int .i64 r.kind, .int .i64 r.gen, .int .i64 r.num, p]) (t := T) (fr := (0, 0)) (heap_alloc_new _ _)) (fun y hy => by
      simp only [recC, List.mem_cons, List.not_mem_nil, or_false] at hy
      rcases hy with rfl | rfl | rfl | rfl <;> first | rfl | (rw [hue]; rfl)) (by decide) (by unfold maxLen; omega) (by omega) (by rw [World.size_alloc]; omega) _ rfl ?_
  intro g' cap' w' hown' hgrow hat hlt
  have hb' : Below B w w' := (hba.mono hB).trans (grown_below hr1 hgrow (by rw [World.size_alloc]; omega))
  have keep : ∀ y m (ys : List UInt8), (w.alloc (.cells #[.int .i64 r.kind, .int .i64 r.gen, .int .i64 r.num, p] T)).ownsRow B 5 1 y m (bvs ys) → w'.ownsRow B 5 1 y m (bvs ys) := fun y m ys hy => World.ownsRow.kept hy hgrow (own_ne2 hr1 hy hT)
  refine h _ cap' w' ⟨ps ++ [p], by simp [h0], by rw [List.length_append, flatR_append L ps r p h0]; exact hown', fun i hi => ?_⟩ hb'
  by_cases hlt : i < L.length
  · obtain ⟨y, h1, h2⟩ := he i hlt
    refine ⟨y, by rw [List.getElem?_append_left (by omega)]; exact h1, ?_⟩
    rw [List.getElem_append_left hlt]
    exact keep _ _ _ (own_kept h2 hba)
  · rw [List.length_append] at hi
    simp at hi
    obtain rfl : i = L.length := by omega
    refine ⟨p, by rw [List.getElem?_append_right (by omega), h0, Nat.sub_self]; rfl, ?_⟩
    simp only [List.getElem_append_right (Nat.le_refl _), Nat.sub_self, List.getElem_cons_zero]
    exact keep _ _ _ hp1
end
theorem infoRec : (Tryd.prog.info? 50).map (fun i => (i.zero, i.size, i.bytes)) = some (some (.agg #[.int .i64 0, .int .i64 0, .int .i64 0, .slice none 0 0]), 4, 48) := by kernel_rfl
theorem infoRRec : (Tryd.prog.info? 49).map (fun i => (i.zero, i.size, i.bytes)) = some (some (.agg #[.int .i64 0, .int .i64 0, .int .i64 0, .slice none 0 0]), 4, 48) := by kernel_rfl
theorem wpList_appRec {w : World} {B : Nat} {v : Value} {L : List RecD} {ops : Array Oper} {rest : List Oper} {o : Oper} {a : Act} {Q : Exit → Act → World → Prop} (hgd : o.guard = none) (s x : Operand) (ho : o.op = .call { callee := .builtin .append, args := #[s, x], argTypes := #[77, 77] })
    {r : RecD} {p : Value} (hs : a.eval s = v) (hown : OwnRecs 50 w B v L) (hp : w.ownsRow B 5 1 p r.load.length (bvs r.load)) {g : Nat} (hx : a.eval x = .slice (some ⟨g, 0, none⟩) 1 1) (hg : g = w.heap.size)
    {n : Nat} (hL : L.length = n) (hn : n < 1000000000) (hB : B ≤ w.heap.size)
    (h : ∀ a' cap' w', OwnRecs 50 w' B (.slice a' (n + 1) cap') (L ++ [r]) → Below B w w' → wpList Tryd.prog ops Q rest (a.put o.dst (.slice a' (n + 1) cap')) w') :
    wpList Tryd.prog ops Q (o :: rest) a (w.alloc (.cells #[.int .i64 r.kind, .int .i64 r.gen, .int .i64 r.num, p] 50)) :=
  wpList_plain hgd fun _ hK => wp_appRec Tryd.underlying77 infoRec rfl (by decide) s x ho hs hown hp hx hg hL hn hB fun a' cap' w' h1 h2 => hK _ _ (h a' cap' w' h1 h2)
theorem wpList_appRRec {w : World} {B : Nat} {v : Value} {L : List RecD} {ops : Array Oper} {rest : List Oper} {o : Oper} {a : Act} {Q : Exit → Act → World → Prop} (hgd : o.guard = none) (s x : Operand) (ho : o.op = .call { callee := .builtin .append, args := #[s, x], argTypes := #[80, 80] })
    {r : RecD} {p : Value} (hs : a.eval s = v) (hown : OwnRecs 49 w B v L) (hp : w.ownsRow B 5 1 p r.load.length (bvs r.load)) {g : Nat} (hx : a.eval x = .slice (some ⟨g, 0, none⟩) 1 1) (hg : g = w.heap.size)
    {n : Nat} (hL : L.length = n) (hn : n < 1000000000) (hB : B ≤ w.heap.size)
    (h : ∀ a' cap' w', OwnRecs 49 w' B (.slice a' (n + 1) cap') (L ++ [r]) → Below B w w' → wpList Tryd.prog ops Q rest (a.put o.dst (.slice a' (n + 1) cap')) w') :
    wpList Tryd.prog ops Q (o :: rest) a (w.alloc (.cells #[.int .i64 r.kind, .int .i64 r.gen, .int .i64 r.num, p] 49)) :=
  wpList_plain hgd fun _ hK => wp_appRec Tryd.underlying80 infoRRec rfl (by decide) s x ho hs hown hp hx hg hL hn hB fun a' cap' w' h1 h2 => hK _ _ (h a' cap' w' h1 h2)

end Go.Proofs.YtloaenknhkfaeaaDoor
