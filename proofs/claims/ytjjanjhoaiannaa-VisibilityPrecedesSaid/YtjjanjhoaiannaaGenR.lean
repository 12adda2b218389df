/- Small notions for walks that only make memory. -/
import Derived.Test.YtjjanjhoaiannaaGenP
import Derived.Test.YtjjanjhoaiannaaRegion
import Derived.Deep.Draws
namespace Go.Proofs.Ytjjanjhoaiannaa
open Go.RowKit
set_option linter.unusedVariables false
set_option linter.unusedSimpArgs false

theorem own_none (w : World) (B : Nat) (T : TypeId) : w.ownsRow B T 1 (.slice none 0 0) 0 [] := ⟨by decide, .inl ⟨rfl, rfl⟩⟩
theorem own_one {w : World} {B : Nat} (hB : B ≤ w.heap.size) (T : TypeId) (v : Value) : (w.alloc (.cells #[v] T)).ownsRow B T 1 (.slice (some ⟨w.heap.size, 0, none⟩) 1 1) 1 [v] :=
  ⟨rfl, .inr ⟨w.heap.size, 1, #[v], rfl, hB, heap_alloc_new _ _, Nat.le_refl _, by decide, rfl, rfl⟩⟩
theorem own_zero {w : World} {B : Nat} (hB : B ≤ w.heap.size) (T : TypeId) : (w.alloc (.cells #[] T)).ownsRow B T 1 (.slice (some ⟨w.heap.size, 0, none⟩) 0 0) 0 [] :=
  ⟨by decide, .inr ⟨w.heap.size, 0, #[], rfl, hB, heap_alloc_new _ _, by decide, by decide, by decide, rfl⟩⟩
theorem own_nilcap {w : World} {B k n s c : Nat} {T : TypeId} {xs : List Value} (h : w.ownsRow B T s (.slice none k c) n xs) : c = 0 := by
  rcases h.2 with ⟨e, _⟩ | ⟨g, cap, cur, e, _⟩
  · cases e; rfl
  · cases e
theorem own_kept {w w' : World} {B n s : Nat} {T : TypeId} {v : Value} {xs : List Value} (h : w.ownsRow B T s v n xs) (hb : Below w.heap.size w w') : w'.ownsRow B T s v n xs :=
  ownsRow_chg (G := fun _ => False) h (Chg.of_below hb) (fun _ _ _ h => h)
theorem BytesAt.below {w w' : World} {F : Nat → Prop} {v : Value} {l : List UInt8} (h : BytesAt w F v l) (hb : Below w.heap.size w w') : BytesAt w' F v l := h.kept (G := fun _ => False) (Chg.of_below hb) (fun _ _ h => h)
theorem BytesAt.form {w : World} {F : Nat → Prop} {v : Value} {l : List UInt8} (h : BytesAt w F v l) : ∃ a cap, v = .slice a l.length cap := by obtain ⟨a, c, e, _⟩ := h; exact ⟨a, c, e⟩
/-- Every byte slice that exists: no matter where. -/
abbrev BytesIn (w : World) (v : Value) (l : List UInt8) : Prop := BytesAt w (fun _ => True) v l
theorem BytesAt.any {w : World} {F : Nat → Prop} {v : Value} {l : List UInt8} (h : BytesAt w F v l) : BytesIn w v l := h.mono (fun _ _ => trivial)
theorem own_bytes {w : World} {B n : Nat} {T : TypeId} {v : Value} {l : List UInt8} (h : w.ownsRow B T 1 v n (bvs l)) : BytesAt w (fun k => B ≤ k) v l := ownsRow_bytes h (by simpa using h.1)
/-- One byte of it. -/
theorem BytesAt.get {w : World} {F : Nat → Prop} {l : List UInt8} {a : Option Addr} {n cap i : Nat} (h : BytesAt w F (.slice a n cap) l) (hi : i < l.length) : ∃ g off, a = some ⟨g, off, none⟩ ∧ w.cell? ⟨g, off + i, none⟩ = some (.int .u8 (l[i].toNat : Int)) := by
  obtain ⟨a', cap', e, hc, hr⟩ := h
  cases e
  obtain ⟨g, off, rfl, _, _, hr⟩ := hr (by intro e; rw [e] at hi; simp at hi)
  exact ⟨g, off, rfl, hr i _ (by rw [bvs_getElem?, List.getElem?_eq_getElem hi]; rfl)⟩
/-- A part of it. -/
theorem BytesAt.part {w : World} {F : Nat → Prop} {l : List UInt8} {g off cap : Nat} (h : BytesAt w F (.slice (some ⟨g, off, none⟩) l.length cap) l) (i n c : Nat) (hn : i + n ≤ l.length) (hc : n ≤ c) :
    BytesAt w F (.slice (some ⟨g, off + i, none⟩) n c) ((l.drop i).take n) := by
  obtain ⟨a', cap', e, hc', hr⟩ := h
  cases e
  have hl : ((l.drop i).take n).length = n := by simp; omega
  refine ⟨some ⟨g, off + i, none⟩, c, by rw [hl], by rw [hl]; exact hc, fun hne => ?_⟩
  obtain ⟨g', off', e', hF, hg, hr⟩ := hr (by intro e; rw [e] at hne; simp at hne)
  cases e'
  refine ⟨g, off + i, rfl, hF, hg, fun j u hu => ?_⟩
  rw [Nat.add_assoc]
  refine hr (i + j) u ?_
  rw [bvs_getElem?, List.getElem?_take] at hu
  split at hu
  · rw [bvs_getElem?, ← List.getElem?_drop]; exact hu
  · cases hu
theorem below_drewN2 (w : World) (n B : Nat) : Below B w (w.drewN n) := ⟨rfl, rfl, rfl, Nat.le_refl _, fun _ _ => rfl⟩
theorem BytesAt.drewN {w : World} {F : Nat → Prop} {v : Value} {l : List UInt8} (h : BytesAt w F v l) (n : Nat) : BytesAt (w.drewN n) F v l := h.below (below_drewN2 w n _)
theorem BytesAt.here {w : World} {F : Nat → Prop} {v : Value} {l : List UInt8} (h : BytesAt w F v l) : BytesAt w (fun k => k < w.heap.size) v l := h.mono' (fun _ hk _ => hk)
theorem bytesAt_empty (w : World) (F : Nat → Prop) (a : Option Addr) (c : Nat) : BytesAt w F (.slice a 0 c) [] := ⟨a, c, rfl, Nat.zero_le _, fun h => absurd rfl h⟩
theorem BytesAt.addr {w : World} {F : Nat → Prop} {l : List UInt8} {a : Option Addr} {n cap : Nat} (h : BytesAt w F (.slice a n cap) l) (hl : l ≠ []) : ∃ g off, a = some ⟨g, off, none⟩ := by
  obtain ⟨a', c', e, _, hr⟩ := h
  cases e
  obtain ⟨g, off, e, _⟩ := hr hl
  exact ⟨g, off, e⟩
theorem BytesAt.len {w : World} {F : Nat → Prop} {l : List UInt8} {a : Option Addr} {n cap : Nat} (h : BytesAt w F (.slice a n cap) l) : n = l.length ∧ n ≤ cap := by
  obtain ⟨a', c', e, hc, _⟩ := h
  cases e
  exact ⟨rfl, hc⟩
/-- Into l at i. -/
def spliceL (l : List UInt8) (i : Nat) (c : List UInt8) : List UInt8 := l.take i ++ c ++ l.drop (i + c.length)
theorem spliceL_length (l : List UInt8) (i : Nat) (c : List UInt8) (h : i + c.length ≤ l.length) : (spliceL l i c).length = l.length := by simp [spliceL]; omega
theorem setRow_chg {F : Nat → Prop} {w : World} (g : Nat) (cs : Array Value) (h : F g) : Chg F w (w.setRow g cs) := ⟨rfl, rfl, rfl, by simp [World.setRow], fun k _ hf => setRow_other w g k cs (fun e => hf (e ▸ h))⟩
theorem sizeU8b : (Try.prog.info? 5).map (·.size) = some 1 := by kernel_rfl
/-- Bytes copied into a block of bytes. -/
theorem wpList_copyBytes {ops : Array Oper} {rest : List Oper} {o : Oper} {a : Act} {w : World} {Q : Exit → Act → World → Prop} (hgd : o.guard = none) (d s : Operand)
    (ho : o.op = .call { callee := .builtin .copy, args := #[d, s], argTypes := #[87, 87] }) {g off dLen dCap : Nat} {cur : List UInt8} {T : TypeId} {sv : Value} {F : Nat → Prop} {l : List UInt8}
    (hd : a.eval d = .slice (some ⟨g, off, none⟩) dLen dCap) (hs : a.eval s = sv) (hb : BytesAt w F sv l) (hg : w.heap[g]? = some (.cells (bvs cur).toArray T (0, 0))) (hfit : off + min l.length dLen ≤ cur.length)
    (h : ∀ w', w'.heap[g]? = some (.cells (bvs (spliceL cur off (l.take dLen))).toArray T (0, 0)) → Chg (fun k => k = g) w w' → wpList Try.prog ops Q rest (a.put o.dst (.int .i64 ((l.take dLen).length : Int))) w') :
    wpList Try.prog ops Q (o :: rest) a w := by
  obtain ⟨sa, sc, rfl, hsc, hr⟩ := hb
  have hl : (bvs (l.take dLen)).length = Nat.min l.length dLen := by simp [Nat.min_comm]
  by_cases h0 : l.take dLen = []
  · have hz : Nat.min l.length dLen = 0 := by rw [← hl, h0]; rfl
    refine wpList_copy_nothing hgd d s 87 87 ho 5 Try.underlying87 sizeU8b _ _ dLen dCap l.length sc hd hs hz ?_
    have h2 := h w (by rw [h0]; simpa [spliceL] using hg) (Chg.refl _ _)
    rw [h0] at h2
    exact h2
  · have hne : l ≠ [] := fun e => h0 (by rw [e]; simp)
    obtain ⟨g2, off2, rfl, _, _, hr⟩ := hr hne
    refine wpList_copy_own hgd d s 87 87 ho 5 Try.underlying87 sizeU8b g off dLen dCap ⟨g2, off2, none⟩ l.length sc hd hs (bvs cur).toArray T hg (bvs (l.take dLen)) hl ?_ ?_ bvs_oneCell ?_
    · intro j v hv
      have hadd : (⟨g2, off2, none⟩ : Addr).add j = ⟨g2, off2 + j, none⟩ := by unfold Addr.add; split <;> simp_all
      rw [hadd]
      refine hr j v ?_
      rw [bvs_getElem?, List.getElem?_take] at hv
      split at hv
      · rw [bvs_getElem?]; exact hv
      · cases hv
    · rw [hl, List.size_toArray, bvs_length]; exact hfit
    · have ea : ((bvs cur).toArray.toList.take off ++ (bvs (l.take dLen) ++ (bvs cur).toArray.toList.drop (off + (bvs (l.take dLen)).length))).toArray = (bvs (spliceL cur off (l.take dLen))).toArray := by
        rw [bvs_length]
        simp [bvs, spliceL, List.map_take, List.map_drop]
      have h2 := h (w.setRow g (bvs (spliceL cur off (l.take dLen))).toArray) (setRow_heap _ _ _ _ _ _ hg) (setRow_chg g _ rfl)
      rw [ea, bvs_length]
      exact h2
end Go.Proofs.Ytjjanjhoaiannaa
