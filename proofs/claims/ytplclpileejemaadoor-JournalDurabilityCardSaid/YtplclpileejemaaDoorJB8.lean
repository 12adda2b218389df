/- The plain law: the reference's SHA-256 is the program's; Records: the reference's Seal; Records: the reference's Encode; Records: the reference's Decode; Records: lists of sectors in memory; Records: Split, both sides; Records: the reference's Split; Records: how places compare; what both Joins return; Records: Join; Records: the reference's Join. -/
import Derived.Test.YtplclpileejemaaDoorJB7
import Derived.Test.YtplclpileejemaaDoorJB4
import Derived.Outline
import Derived.DeepKeys
import Derived.ChangeSlices
import Derived.Laws.StructEq
namespace Go.Proofs.YtplclpileejemaaDoor
open Go.RowKit
set_option linter.unusedVariables false
set_option linter.unusedSimpArgs false

theorem shl_or (a b : UInt32) : (a ||| b) <<< 8 = a <<< 8 ||| b <<< 8 := by
  apply UInt32.eq_of_toBitVec_eq
  show (a.toBitVec ||| b.toBitVec) <<< 8 = a.toBitVec <<< 8 ||| b.toBitVec <<< 8
  exact BitVec.shiftLeft_or_distrib ..
theorem shl_8_8 (a : UInt32) : a <<< 8 <<< 8 = a <<< 16 := by
  apply UInt32.eq_of_toBitVec_eq
  show a.toBitVec <<< 8 <<< 8 = a.toBitVec <<< 16
  exact (BitVec.shiftLeft_add a.toBitVec 8 8).symm
theorem shl_16_8 (a : UInt32) : a <<< 16 <<< 8 = a <<< 24 := by
  apply UInt32.eq_of_toBitVec_eq
  show a.toBitVec <<< 16 <<< 8 = a.toBitVec <<< 24
  exact (BitVec.shiftLeft_add a.toBitVec 16 8).symm
theorem shl4 (a b c d : UInt32) : ((((0 : UInt32) <<< 8 ||| a) <<< 8 ||| b) <<< 8 ||| c) <<< 8 ||| d = a <<< 24 ||| b <<< 16 ||| c <<< 8 ||| d := by
  have h0 : (0 : UInt32) <<< 8 = 0 := by decide
  rw [h0, UInt32.zero_or]
  simp only [shl_or, shl_8_8, shl_16_8]

theorem getD_set_same (l : List UInt32) (i : Nat) (x : UInt32) (h : i < l.length) : (l.set i x).getD i 0 = x := by simp [h]
theorem getD_set_other (l : List UInt32) (i j : Nat) (x : UInt32) (h : i ≠ j) : (l.set i x).getD j 0 = l.getD j 0 := by
  simp only [List.getD_eq_getElem?_getD, List.getElem?_set_ne h]
theorem ldAt_zero (l : List UInt8) : ∀ k q, k ≤ 4 * q → (ldAt l k).getD q 0 = 0
  | 0, q, _ => by
    simp only [ldAt, List.getD_eq_getElem?_getD, List.getElem?_replicate]
    split <;> rfl
  | k + 1, q, h => by
    rw [ldAt, getD_set_other _ _ _ _ (by omega)]
    exact ldAt_zero l k q (by omega)
theorem ldAt_word (l : List UInt8) (q : Nat) (hq : q < 16) : ∀ k, 4 * q + 4 ≤ k → (ldAt l k).getD q 0 = word4 l q := by
  intro k hk
  obtain ⟨n, rfl⟩ := Nat.exists_eq_add_of_le hk
  induction n with
  | zero =>
    have e0 := ldAt_zero l (4 * q) q (Nat.le_refl _)
    have L := ldAt_length l
    show (ldAt l (4 * q + 3 + 1)).getD q 0 = _
    have s : ∀ r, r < 4 → (ldAt l (4 * q + r + 1)).getD q 0 = (ldAt l (4 * q + r)).getD q 0 <<< 8 ||| (l.getD (4 * q + r) 0).toUInt32 := fun r hr => by
      rw [ldAt, show (4 * q + r) / 4 = q by omega, getD_set_same _ _ _ (by rw [L]; exact hq)]
    rw [s 3 (by omega), show 4 * q + 3 = 4 * q + 2 + 1 from rfl, s 2 (by omega), show 4 * q + 2 = 4 * q + 1 + 1 from rfl, s 1 (by omega), show 4 * q + 1 = 4 * q + 0 + 1 from rfl, s 0 (by omega), Nat.add_zero, e0]
    exact shl4 _ _ _ _
  | succ n ih =>
    rw [← Nat.add_assoc, ldAt, getD_set_other _ _ _ _ (by omega)]
    exact ih (by omega)

theorem loadW_length (l : List UInt8) : (loadW l).length = 16 := ldAt_length l 64
theorem loadW_word (l : List UInt8) (i : Nat) (hi : i < 16) : (loadW l).getD i 0 = word4 l i := ldAt_word l i hi 64 (by omega)
theorem rsAt_stable (l : List UInt8) (j k : Nat) (h : j < k) : ∀ n, (rsAt l (k + n)).getD j 0 = (rsAt l k).getD j 0
  | 0 => rfl
  | n + 1 => by
    rw [← Nat.add_assoc, rsAt, getD_set_other _ _ _ _ (by omega)]
    exact rsAt_stable l j k h n
theorem rs_to (l : List UInt8) (j k : Nat) (h : j < k) (hk : k ≤ 64) : (rsAt l k).getD j 0 = (rsch l).getD j 0 := by
  obtain ⟨n, hn⟩ := Nat.exists_eq_add_of_le hk
  rw [rsch, hn, rsAt_stable l j k h]
theorem rs_low (l : List UInt8) (t : Nat) (h : t < 16) : (rsch l).getD t 0 = word4 l t := by
  rw [← rs_to l t (t + 1) (by omega) (by omega), rsAt, getD_set_same _ _ _ (by rw [rsAt_length]; omega), if_pos h]
theorem rs_high (l : List UInt8) (t : Nat) (h : 16 ≤ t) (h2 : t < 64) :
    (rsch l).getD t 0 = (rsch l).getD (t - 16) 0 + (ss0 ((rsch l).getD (t - 15) 0) + ss1 ((rsch l).getD (t - 2) 0) + (rsch l).getD (t - 7) 0) := by
  rw [← rs_to l t (t + 1) (by omega) (by omega), rsAt, getD_set_same _ _ _ (by rw [rsAt_length]; omega), if_neg (by omega),
    rs_to l (t - 2) t (by omega) (by omega), rs_to l (t - 7) t (by omega) (by omega), rs_to l (t - 15) t (by omega) (by omega), rs_to l (t - 16) t (by omega) (by omega)]
  generalize (rsch l).getD (t - 2) 0 = x2
  generalize (rsch l).getD (t - 7) 0 = x7
  generalize (rsch l).getD (t - 15) 0 = x15
  generalize (rsch l).getD (t - 16) 0 = x16
  generalize ss1 x2 = y2
  generalize ss0 x15 = y15
  ac_rfl

attribute [local irreducible] rsAt rsch loadW ldAt

theorem ring_inv (h : W8) (l : List UInt8) : ∀ t, t ≤ 64 → ((ringAt h (loadW l) t).1 = rvAt h (rsch l) t ∧
    ∀ i, i < max t 16 → max t 16 ≤ i + 16 → (ringAt h (loadW l) t).2.getD (i % 16) 0 = (rsch l).getD i 0)
  | 0, _ => by
    refine ⟨rfl, fun i h1 _ => ?_⟩
    have hi : i < 16 := by omega
    rw [ringAt, Nat.mod_eq_of_lt hi, rs_low l i hi]
    exact loadW_word l i hi
  | t + 1, ht => by
    obtain ⟨e, inv⟩ := ring_inv h l t (by omega)
    have hl : (ringAt h (loadW l) t).2.length = 16 := by rw [ringAt_length]; exact loadW_length l
    have key : ∀ i, i < max (t + 1) 16 → max (t + 1) 16 ≤ i + 16 → (ringStep (ringAt h (loadW l) t).2 t).getD (i % 16) 0 = (rsch l).getD i 0 := by
      intro i h1 h2
      unfold ringStep
      by_cases h16 : t < 16
      · rw [if_pos h16]; exact inv i (by omega) (by omega)
      · rw [if_neg h16]
        by_cases hit : i = t
        · subst hit
          have a0 := inv (i - 16) (by omega) (by omega)
          rw [show (i - 16) % 16 = i % 16 by omega] at a0
          rw [getD_set_same _ _ _ (by rw [hl]; omega), a0, inv (i - 15) (by omega) (by omega), inv (i - 2) (by omega) (by omega), inv (i - 7) (by omega) (by omega), ← rs_high l i (by omega) (by omega)]
        · rw [getD_set_other _ _ _ _ (by omega)]
          exact inv i (by omega) (by omega)
    refine ⟨?_, fun i h1 h2 => by rw [ringAt]; exact key i h1 h2⟩
    rw [ringAt, rvAt, ← e, ← key t (by omega) (by omega)]

theorem procW_ref (h : W8) (l : List UInt8) : procW h (loadW l) = h.plus (rvAt h (rsch l) 64) := by
  have e := (ring_inv h l 64 (Nat.le_refl _)).1
  rw [procW, e]
theorem rH_blkW (P : List UInt8) : ∀ j, rH P j = blkW w8init P j
  | 0 => rfl
  | j + 1 => by rw [rH, blkW, rH_blkW P j, procW_ref]; rfl
/-- The reference's sum is the program's. -/
theorem ref_sum (l : List UInt8) : digestL (rH (l ++ padL l.length) ((l ++ padL l.length).length / 64)) = shaL l := by rw [rH_blkW]; rfl

end Go.Proofs.YtplclpileejemaaDoor

namespace Go.Proofs.YtplclpileejemaaDoor
open Go.RowKit
set_option linter.unusedVariables false
set_option linter.unusedSimpArgs false

abbrev Z32 : Array Value := #[.int .u8 0, .int .u8 0, .int .u8 0, .int .u8 0, .int .u8 0, .int .u8 0, .int .u8 0, .int .u8 0, .int .u8 0, .int .u8 0, .int .u8 0, .int .u8 0, .int .u8 0, .int .u8 0, .int .u8 0, .int .u8 0, .int .u8 0, .int .u8 0, .int .u8 0, .int .u8 0, .int .u8 0, .int .u8 0, .int .u8 0, .int .u8 0, .int .u8 0, .int .u8 0, .int .u8 0, .int .u8 0, .int .u8 0, .int .u8 0, .int .u8 0, .int .u8 0]
theorem d32Size (l : List UInt8) : (Tryd.prog.info? 129).map (·.size) = some (bvs (shaL l)).toArray.size := by
  have : (Tryd.prog.info? 129).map (·.size) = some 32 := by kernel_rfl
  rw [this, List.size_toArray, bvs_length, shaL_length]
theorem z32Size (l : List UInt8) : Z32.size = (bvs (shaL l)).toArray.size := by
  show 32 = _
  rw [List.size_toArray, bvs_length, shaL_length]
theorem slice_to32 (g : Nat) (w : World) : (Instr.sliceAt 129 (.pointer (some ⟨g, 0, none⟩)) none (some (.int .i64 16)) none).run Tryd.prog w = .ok (.slice (some ⟨g, 0, none⟩) 16 32) w := by
  simp [Instr.sliceAt, run_underlying Tryd.underlying129, Instr.sureAddr, Instr.sliceBounds, Instr.sliceBound, asIntOf, size_u8]
  rfl
theorem BytesAt.n {w : World} {F : Nat → Prop} {g off n c : Nat} {l : List UInt8} (h : BytesAt w F (.slice (some ⟨g, off, none⟩) n c) l) : BytesN w F (.slice (some ⟨g, off, none⟩) n c) l := ⟨h, fun k c e => by cases e⟩
theorem own_bytesN {w : World} {B n : Nat} {v : Value} {l : List UInt8} (h : w.ownsRow B 5 1 v n (bvs l)) : BytesN w (fun k => B ≤ k) v l := BytesN.of_own h (by simpa using h.1)
theorem own_addr {w : World} {B n s : Nat} {T : TypeId} {a : Option Addr} {k c : Nat} {xs : List Value} (h : w.ownsRow B T s (.slice a k c) n xs) (hn : 0 < n) : ∃ g, a = some ⟨g, 0, none⟩ ∧ k = n ∧ B ≤ g ∧ g < w.heap.size := by
  rcases h.2 with ⟨e, h0⟩ | ⟨g, cap, cur, e, hb, hg, _⟩
  · omega
  · cases e
    exact ⟨g, rfl, rfl, hb, (Array.getElem?_eq_some_iff.1 hg).1⟩

section
variable {ops : Array Oper} {rest : List Oper} {o : Oper} {a : Act} {Q : Exit → Act → World → Prop}
/-- Bytes behind a row of bytes, however many an argument may bring. -/
theorem wpList_appBytesBig {w : World} (hgd : o.guard = none) (s x : Operand) (ho : o.op = .call { callee := .builtin .append, args := #[s, x], argTypes := #[36, 36] })
    {B n : Nat} {v xv : Value} {F : Nat → Prop} {xs ys : List UInt8} (hs : a.eval s = v) (hown : w.ownsRow B 5 1 v n (bvs xs)) (hx : a.eval x = xv) (hb : BytesAt w F xv ys) (hnil : ∀ k c, xv = .slice none k c → c = 0)
    (hn : n + ys.length ≤ 140737488355328) (hB : B ≤ w.heap.size)
    (h : ∀ a' cap' w', w'.ownsRow B 5 1 (.slice a' (n + ys.length) cap') (n + ys.length) (bvs (xs ++ ys)) → w.grownBy w' v.ownBlock → wpList Tryd.prog ops Q rest (a.put o.dst (.slice a' (n + ys.length) cap')) w') :
    wpList Tryd.prog ops Q (o :: rest) a w := by
  obtain ⟨i0, hi, hz0, hz1, hz2⟩ := info_parts infoByte
  obtain ⟨xa, xc, rfl, hxc, hxr⟩ := hb
  cases xa with
  | none =>
    have hc0 := hnil _ _ rfl
    subst hc0
    have hy : ys = [] := List.eq_nil_of_length_eq_zero (by omega)
    subst hy
    obtain ⟨va, vc, rfl⟩ := ownsRow_form hown
    refine wpList_append_own_none hgd s x 36 ho B 5 i0 1 Tryd.underlying36 hi _ n (bvs xs) hs hown hx ?_
    have := h va vc w (by simpa using hown) ⟨rfl, rfl, rfl, Nat.le_refl _, fun _ _ _ => rfl⟩
    simpa using this
  | some ad =>
    refine wpList_append_own w hgd s x 36 ho B 5 i0 _ 1 1 Tryd.underlying36 hi hz0 hz1 hz2 rfl (by decide) v n (bvs xs) hs hown ad ys.length xc (bvs ys) hx (by simp) ?_ bvs_oneCell (by unfold maxLen; omega) (by omega) hB ?_
    · intro j u hu
      obtain ⟨g, off, e, _, _, hr⟩ := hxr (by intro e; rw [e] at hu; simp [bvs] at hu)
      cases e
      have hadd : (⟨g, off, none⟩ : Addr).add j = ⟨g, off + j, none⟩ := by unfold Addr.add; split <;> simp_all
      rw [hadd]
      exact hr j u hu
    · intro v' w' hown' hg _
      rw [← bvs_append] at hown'
      obtain ⟨a', cap', rfl⟩ := ownsRow_form hown'
      exact h a' cap' w' hown' hg
end

end Go.Proofs.YtplclpileejemaaDoor

namespace Go.Proofs.YtplclpileejemaaDoor
open Go.RowKit
set_option linter.unusedVariables false
set_option linter.unusedSimpArgs false

theorem wp_appOwn {o : Oper} {a : Act} {Q : Exit → Act → World → Prop} {K : Act → World → Prop} {w : World} (s x : Operand) (ho : o.op = .call { callee := .builtin .append, args := #[s, x], argTypes := #[36, 36] })
    {B n m N : Nat} {v : Value} {F : Nat → Prop} {xs ys : List UInt8} {g off c : Nat} (hs : a.eval s = v) (hown : w.ownsRow B 5 1 v n (bvs xs)) (hx : a.eval x = .slice (some ⟨g, off, none⟩) m c)
    (hb : BytesAt w F (.slice (some ⟨g, off, none⟩) m c) ys) (hN : n + m = N) (h0 : 0 < m) (hn : N < 1000000000000) (hB : B ≤ w.heap.size)
    (h : ∀ a' cap' w', w'.ownsRow B 5 1 (.slice a' N cap') N (bvs (xs ++ ys)) → w.grownBy w' v.ownBlock → K (a.put o.dst (.slice a' N cap')) w') :
    o.wp Tryd.prog a w K Q := by
  subst hN
  obtain ⟨i0, hi, hz0, hz1, hz2⟩ := info_parts infoByte
  obtain ⟨rfl, _⟩ := hb.len
  refine wp_append_lies _ s x 36 ho B 5 i0 _ 1 1 Tryd.underlying36 hi hz0 hz1 hz2 rfl (by decide) v n (bvs xs) hs hown
    ⟨g, off, none⟩ ys.length c (bvs ys) hx (by simp) ?_ bvs_oneCell h0 (by unfold maxLen; omega) (by omega) hB _ rfl ?_
  · obtain ⟨xa, xc, e, _, hr⟩ := hb
    intro j u hu
    obtain ⟨g', off', e', _, _, hr⟩ := hr (by intro e; rw [e] at hu; simp [bvs] at hu)
    cases e
    cases e'
    have hadd : (⟨g, off, none⟩ : Addr).add j = ⟨g, off + j, none⟩ := by unfold Addr.add; split <;> simp_all
    rw [hadd]
    exact hr j u hu
  · intro g' cap' w' hown' hgrow hat hlt
    rw [← bvs_append] at hown'
    exact h _ cap' w' hown' hgrow

end Go.Proofs.YtplclpileejemaaDoor

namespace Go.Proofs.YtplclpileejemaaDoor
open Go.RowKit
set_option linter.unusedVariables false
set_option linter.unusedSimpArgs false

theorem half_ne {m l : List UInt8} {i : Nat} (hi : i < 16) (h : (shaL m)[i]? ≠ l[i]?) : halfL m ≠ l.take 16 := by
  intro e
  apply h
  have := congrArg (·[i]?) e
  simp only [halfL, List.getElem?_take] at this
  rwa [if_pos hi, if_pos hi] at this
theorem half_eq {m l : List UInt8} (h : ∀ j, j < 16 → (shaL m)[j]? = l[j]?) : halfL m = l.take 16 := by
  apply List.ext_getElem?
  intro j
  simp only [halfL, List.getElem?_take]
  by_cases hj : j < 16
  · rw [if_pos hj, if_pos hj]; exact h j hj
  · rw [if_neg hj, if_neg hj]
theorem wp_appSeg {o : Oper} {a : Act} {Q : Exit → Act → World → Prop} {K : Act → World → Prop} {w : World} (s x : Operand) (ho : o.op = .call { callee := .builtin .append, args := #[s, x], argTypes := #[36, 36] })
    {B n m : Nat} {v : Value} {F : Nat → Prop} {xs ys : List UInt8} {g off c : Nat} (hs : a.eval s = v) (hown : w.ownsRow B 5 1 v n (bvs xs)) (hx : a.eval x = .slice (some ⟨g, off, none⟩) m c)
    (hb : BytesAt w F (.slice (some ⟨g, off, none⟩) m c) ys) (hN : n + ys.length = n + m) (hn : n + m < 1000000000000) (hB : B ≤ w.heap.size)
    (h : ∀ a' cap' w', w'.ownsRow B 5 1 (.slice a' (n + m) cap') (n + m) (bvs (xs ++ ys)) → w.grownBy w' v.ownBlock → K (a.put o.dst (.slice a' (n + m) cap')) w') :
    o.wp Tryd.prog a w K Q := by
  obtain ⟨i0, hi, hz0, hz1, hz2⟩ := info_parts infoByte
  obtain ⟨rfl, _⟩ := hb.len
  refine wp_append_own _ s x 36 ho B 5 i0 _ 1 1 Tryd.underlying36 hi hz0 hz1 hz2 rfl (by decide) v n (bvs xs) hs hown
    ⟨g, off, none⟩ ys.length c (bvs ys) hx (by simp) ?_ bvs_oneCell (by unfold maxLen; omega) (by omega) hB ?_
  · obtain ⟨xa, xc, e, _, hr⟩ := hb
    intro j u hu
    obtain ⟨g', off', e', _, _, hr⟩ := hr (by intro e; rw [e] at hu; simp [bvs] at hu)
    cases e
    cases e'
    have hadd : (⟨g, off, none⟩ : Addr).add j = ⟨g, off + j, none⟩ := by unfold Addr.add; split <;> simp_all
    rw [hadd]
    exact hr j u hu
  · intro v' w' hown' hgrow _
    rw [← bvs_append] at hown'
    obtain ⟨a', cap', rfl⟩ := ownsRow_form hown'
    exact h a' cap' w' hown' hgrow
theorem own_ne {w : World} {B n s b : Nat} {T1 T2 : TypeId} {v : Value} {xs : List Value} {c : Array Value} {fr : Nat × Nat} (h : w.ownsRow B T1 s v n xs) (hb : w.heap[b]? = some (.cells c T2 fr)) (hne : T1 ≠ T2) : ∀ k, v.ownBlock = some k → k ≠ b := by
  intro k hk e
  subst e
  rcases h.2 with ⟨rfl, _⟩ | ⟨g, cap, cur, rfl, _, hg, _⟩
  · cases hk
  · cases hk
    rw [hg] at hb
    cases hb
    exact hne rfl
theorem yieldsC_run {P : Program} {ops : Array Oper} {S : World → Prop} {o : Oper} {v : Value} {a : Act} (hg : o.guard = none) (h : ∀ w, S w → o.quietAt P a (fun x => x = w) w v) : YieldsC P ops S o v a :=
  ⟨by simp [Region.wanted, hg], h⟩

theorem DecodePart_any {w : World} {F : Nat → Prop} (l : List UInt8) (v : Value) (hv : BytesAt w F v l) (hK : KAt w) : Calls Tryd.prog 56 #[v] w (DecPost w l) := by
  obtain ⟨a, cap, rfl⟩ := hv.form
  by_cases h : l.length = 256
  · obtain ⟨g, off, rfl⟩ := hv.addr (fun e => by rw [e] at h; simp at h)
    rw [h] at hv ⊢
    by_cases hs : halfL (l.drop 16) = l.take 16
    · exact DecodePart_go l g off cap hv h hK hs
    · exact DecodePart_sum l g off cap hv h hK hs
  · exact DecodePart_len l a l.length cap rfl h

end Go.Proofs.YtplclpileejemaaDoor

namespace Go.Proofs.YtplclpileejemaaDoor
open Go.RowKit
set_option linter.unusedVariables false
set_option linter.unusedSimpArgs false

theorem infoSl : (Tryd.prog.info? 36).map (fun i => (i.zero, i.size, i.bytes)) = some (some (.slice none 0 0), 1, 24) := by kernel_rfl

/-- The slice value v is a row of its own, of slices of bytes of their own: the lists L. -/
structure OwnSecs (w : World) (B : Nat) (v : Value) (L : List (List UInt8)) : Prop where
  ex : ∃ vs, w.ownsRow B 36 1 v L.length vs ∧ ∀ i (h : i < L.length), ∃ u, vs[i]? = some u ∧ w.ownsRow B 5 1 u L[i].length (bvs L[i])
/-- The slice value v reads as the lists L. -/
structure SecsAt (w : World) (v : Value) (L : List (List UInt8)) : Prop where
  ex : ∃ a cap vs, v = .slice a L.length cap ∧ L.length ≤ cap ∧ vs.length = L.length ∧ (L ≠ [] → ∃ g off, a = some ⟨g, off, none⟩ ∧ g < w.heap.size ∧ w.rangeAt g off vs) ∧
    (∀ k c, v = .slice none k c → c = 0) ∧ ∀ i (h : i < L.length), ∃ u, vs[i]? = some u ∧ BytesN w (fun _ => True) u L[i]

theorem BytesN.any {w : World} {F : Nat → Prop} {v : Value} {l : List UInt8} (h : BytesN w F v l) : BytesN w (fun _ => True) v l := ⟨h.at_.any, h.nil⟩
theorem own_ne2 {w : World} {B B2 n n2 s s2 : Nat} {T1 T2 : TypeId} {v u : Value} {xs ys : List Value} (h : w.ownsRow B T1 s v n xs) (h2 : w.ownsRow B2 T2 s2 u n2 ys) (hne : T1 ≠ T2) : u.ownBlock = none ∨ u.ownBlock ≠ v.ownBlock := by
  rcases h2.2 with ⟨rfl, _⟩ | ⟨g, cap, cur, rfl, _, hg, _⟩
  · exact .inl rfl
  · exact .inr (fun e => own_ne h hg hne g e.symm rfl)
section
variable {w w' : World} {B : Nat} {v : Value} {L : List (List UInt8)}
theorem OwnSecs.form (h : OwnSecs w B v L) : ∃ a cap, v = .slice a L.length cap := by obtain ⟨vs, h, _⟩ := h.ex; exact ownsRow_form h
theorem OwnSecs.below (h : OwnSecs w B v L) (hb : Below w.heap.size w w') : OwnSecs w' B v L := by
  obtain ⟨vs, h1, h2⟩ := h.ex
  refine ⟨vs, own_kept h1 hb, fun i hi => ?_⟩
  obtain ⟨u, h3, h4⟩ := h2 i hi
  exact ⟨u, h3, own_kept h4 hb⟩
theorem OwnSecs.base (h : OwnSecs w B v L) {B' : Nat} (hB : B' ≤ B) : OwnSecs w B' v L := by
  obtain ⟨vs, h1, h2⟩ := h.ex
  refine ⟨vs, ownsRow_base h1 hB, fun i hi => ?_⟩
  obtain ⟨u, h3, h4⟩ := h2 i hi
  exact ⟨u, h3, ownsRow_base h4 hB⟩
theorem ownSecs_nil (w : World) (B : Nat) : OwnSecs w B (.slice none 0 0) [] := ⟨[], own_none _ _ _, fun i hi => by simp at hi⟩
theorem OwnSecs.secs (h : OwnSecs w B v L) : SecsAt w v L := by
  obtain ⟨vs, h1, h2⟩ := h.ex
  obtain ⟨a, cap, rfl⟩ := ownsRow_form h1
  refine ⟨a, cap, vs, rfl, ?_, by have := h1.1; omega, fun hne => ?_, (fun k c e => by cases e; exact own_nilcap h1), fun i hi => ?_⟩
  · rcases h1.2 with ⟨e, h0⟩ | ⟨g, cap', cur, e, _, _, hc, _⟩
    · simp only [Value.slice.injEq] at e; omega
    · simp only [Value.slice.injEq] at e; obtain ⟨-, -, rfl⟩ := e; exact hc
  · have hpos : 0 < L.length := by cases L with | nil => exact absurd rfl hne | cons => simp
    obtain ⟨g, cap', e, hg, _, hr⟩ := ownsRow_at h1 hpos
    cases e
    exact ⟨g, 0, rfl, hg, fun j u hu => by rw [Nat.zero_add]; exact hr j u hu⟩
  · obtain ⟨u, h3, h4⟩ := h2 i hi
    exact ⟨u, h3, (own_bytesN h4).any⟩
theorem SecsAt.below (h : SecsAt w v L) (hb : Below w.heap.size w w') : SecsAt w' v L := by
  obtain ⟨a, cap, vs, h1, h2, h3, h4, h5, h6⟩ := h.ex
  refine ⟨a, cap, vs, h1, h2, h3, fun hne => ?_, h5, fun i hi => ?_⟩
  · obtain ⟨g, off, e, hg, hr⟩ := h4 hne
    exact ⟨g, off, e, Nat.lt_of_lt_of_le hg hb.size, fun j u hu => (Chg.of_below (F := fun _ => False) hb).cell (fun h => h) (hr j u hu)⟩
  · obtain ⟨u, h7, h8⟩ := h6 i hi
    exact ⟨u, h7, h8.below hb⟩
theorem SecsAt.form (h : SecsAt w v L) : ∃ a cap, v = .slice a L.length cap := by obtain ⟨a, cap, vs, h, _⟩ := h.ex; exact ⟨a, cap, h⟩
/-- One sector of it. -/
theorem SecsAt.get {a : Option Addr} {n cap : Nat} (h : SecsAt w (.slice a n cap) L) {i : Nat} (hi : i < L.length) : ∃ g off x n' c, a = some ⟨g, off, none⟩ ∧ w.cell? ⟨g, off + i, none⟩ = some (.slice x n' c) ∧ BytesN w (fun _ => True) (.slice x n' c) L[i] := by
  obtain ⟨a', cap', vs, e, h2, h3, h4, h5, h6⟩ := h.ex
  cases e
  obtain ⟨g, off, rfl, hg, hr⟩ := h4 (by intro e; rw [e] at hi; simp at hi)
  obtain ⟨u, h7, h8⟩ := h6 i hi
  obtain ⟨x, c, rfl⟩ := h8.at_.form
  exact ⟨g, off, x, _, c, rfl, hr i _ h7, h8⟩
/-- What is behind the first i of them. -/
theorem SecsAt.drop {g off n cap : Nat} (h : SecsAt w (.slice (some ⟨g, off, none⟩) n cap) L) {i : Nat} (hi : i ≤ L.length) : SecsAt w (.slice (some ⟨g, off + i, none⟩) (n - i) (cap - i)) (L.drop i) := by
  obtain ⟨a', cap', vs, e, h2, h3, h4, h5, h6⟩ := h.ex
  cases e
  refine ⟨_, _, vs.drop i, by rw [List.length_drop], by rw [List.length_drop]; omega, by rw [List.length_drop, List.length_drop, h3], fun hne => ?_, (fun k c e => by cases e), fun j hj => ?_⟩
  · obtain ⟨g', off', e, hg, hr⟩ := h4 (by intro e; rw [e] at hne; simp at hne)
    cases e
    refine ⟨g, off + i, rfl, hg, fun j u hu => ?_⟩
    rw [List.getElem?_drop] at hu
    have := hr (i + j) u hu
    rwa [← Nat.add_assoc] at this
  · rw [List.length_drop] at hj
    obtain ⟨u, h7, h8⟩ := h6 (i + j) (by omega)
    refine ⟨u, by rw [List.getElem?_drop]; exact h7, ?_⟩
    rw [List.getElem_drop]
    exact h8
/-- Another slice value for nothing. -/
theorem secsAt_nil (w : World) (a : Option Addr) (c : Nat) (h : a = none → c = 0) : SecsAt w (.slice a 0 c) [] :=
  ⟨a, c, [], rfl, Nat.zero_le _, rfl, fun h => absurd rfl h, (fun k c' e => by cases e; exact h rfl), fun i hi => by simp at hi⟩
theorem grown_below {w w' : World} {B n s : Nat} {T : TypeId} {v : Value} {xs : List Value} (h : w.ownsRow B T s v n xs) (hg : w.grownBy w' v.ownBlock) (hB : B ≤ w.heap.size) : Below B w w' :=
  (Below.refl _ _).grown hg hB (fun j hj => (ownsRow_lt h j hj).1)
theorem OwnSecs.len (h : OwnSecs w B v L) {a : Option Addr} {n c : Nat} (e : v = .slice a n c) : n = L.length := by
  obtain ⟨vs, h1, _⟩ := h.ex
  obtain ⟨a', c', e'⟩ := ownsRow_form h1
  rw [e] at e'
  cases e'
  rfl

/-- One more slice of bytes for a row of such. -/
theorem wp_appSec {o : Oper} {a : Act} {Q : Exit → Act → World → Prop} {K : Act → World → Prop} (s x : Operand) (ho : o.op = .call { callee := .builtin .append, args := #[s, x], argTypes := #[56, 56] })
    {u : Value} {l : List UInt8} (hs : a.eval s = v) (hown : OwnSecs w B v L) (hu : w.ownsRow B 5 1 u l.length (bvs l)) (hx : a.eval x = .slice (some ⟨w.heap.size, 0, none⟩) 1 1)
    {n : Nat} (hL : L.length = n) (hn : n < 1000000000) (hB : B ≤ w.heap.size)
    (h : ∀ a' cap' w', OwnSecs w' B (.slice a' (n + 1) cap') (L ++ [l]) → Below B w w' → K (a.put o.dst (.slice a' (n + 1) cap')) w') :
    o.wp Tryd.prog a (w.alloc (.cells #[u] 36)) K Q := by
  subst hL
  obtain ⟨i0, hi, hz0, hz1, hz2⟩ := info_parts infoSl
  have hba : Below w.heap.size w (w.alloc (.cells #[u] 36)) := (Below.refl _ _).alloc (Nat.le_refl _) _
  obtain ⟨vs, hr, he⟩ := hown.ex
  have hr1 := own_kept hr hba
  have hu1 := own_kept hu hba
  obtain ⟨ua, uc, hue⟩ := ownsRow_form hu
  refine wp_append_lies _ s x 56 ho B 36 i0 _ 1 24 Tryd.underlying56 hi hz0 hz1 hz2 rfl (by decide) v L.length vs hs hr1
    ⟨w.heap.size, 0, none⟩ 1 1 [u] hx rfl (World.news_of_block (cs := #[u]) (t := 36) (fr := (0, 0)) (heap_alloc_new _ _)) (fun y hy => by obtain rfl := List.mem_singleton.1 hy; rw [hue]; rfl) (by decide) (by unfold maxLen; omega) (by omega) (by rw [World.size_alloc]; omega) _ rfl ?_
  intro g' cap' w' hown' hgrow hat hlt
  have hb' : Below B w w' := (hba.mono hB).trans (grown_below hr1 hgrow (by rw [World.size_alloc]; omega))
  refine h _ cap' w' ⟨vs ++ [u], by rw [List.length_append]; exact hown', fun i hi => ?_⟩ hb'
  have hvl : vs.length = L.length := by have := hr.1; omega
  have keep : ∀ y m (ys : List UInt8), (w.alloc (.cells #[u] 36)).ownsRow B 5 1 y m (bvs ys) → w'.ownsRow B 5 1 y m (bvs ys) := fun y m ys hy => World.ownsRow.kept hy hgrow (own_ne2 hr1 hy (by decide))
  by_cases hlt : i < L.length
  · obtain ⟨y, h1, h2⟩ := he i hlt
    refine ⟨y, by rw [List.getElem?_append_left (by omega)]; exact h1, ?_⟩
    rw [List.getElem_append_left hlt]
    exact keep _ _ _ (own_kept h2 hba)
  · rw [List.length_append] at hi
    simp at hi
    obtain rfl : i = L.length := by omega
    refine ⟨u, by rw [List.getElem?_append_right (by omega), hvl, Nat.sub_self]; rfl, ?_⟩
    simp only [List.getElem_append_right (Nat.le_refl _), Nat.sub_self, List.getElem_cons_zero]
    exact keep _ _ _ hu1
theorem wpList_appSec {ops : Array Oper} {rest : List Oper} {o : Oper} {a : Act} {Q : Exit → Act → World → Prop} (hgd : o.guard = none) (s x : Operand) (ho : o.op = .call { callee := .builtin .append, args := #[s, x], argTypes := #[56, 56] })
    {u : Value} {l : List UInt8} (hs : a.eval s = v) (hown : OwnSecs w B v L) (hu : w.ownsRow B 5 1 u l.length (bvs l)) (hx : a.eval x = .slice (some ⟨w.heap.size, 0, none⟩) 1 1)
    {n : Nat} (hL : L.length = n) (hn : n < 1000000000) (hB : B ≤ w.heap.size)
    (h : ∀ a' cap' w', OwnSecs w' B (.slice a' (n + 1) cap') (L ++ [l]) → Below B w w' → wpList Tryd.prog ops Q rest (a.put o.dst (.slice a' (n + 1) cap')) w') :
    wpList Tryd.prog ops Q (o :: rest) a (w.alloc (.cells #[u] 36)) :=
  wpList_plain hgd fun _ hK => wp_appSec s x ho hs hown hu hx hL hn hB fun a' cap' w' h1 h2 => hK _ _ (h a' cap' w' h1 h2)
end

end Go.Proofs.YtplclpileejemaaDoor

namespace Go.Proofs.YtplclpileejemaaDoor
open Go.RowKit
set_option linter.unusedVariables false
set_option linter.unusedSimpArgs false

/-- What both Splits return. -/
def SplitPost (w : World) (r : RecD) (e : Ending) (w' : World) : Prop :=
  ∃ v, e = .returned (.tuple #[v, .int .i64 (splitE r)]) ∧ OwnSecs w' w.heap.size v (splitL r) ∧ Below w.heap.size w w'
theorem SplitPost.no {w w' : World} {r : RecD} {k : Int} (hk : splitE r = k) (h0 : k ≠ 0) (hb : Below w.heap.size w w') : SplitPost w r (.returned (.tuple #[.slice none 0 0, .int .i64 k])) w' := by
  subst hk
  refine ⟨_, rfl, ?_, hb⟩
  have : splitL r = [] := by unfold splitL; rw [if_neg h0]
  rw [this]
  exact ownSecs_nil _ _
def encs (r : RecD) (i : Nat) : List (List UInt8) := (List.range i).map fun i => encL (partOf r i)
@[simp] theorem encs_length (r : RecD) (i : Nat) : (encs r i).length = i := by simp [encs]
theorem encs_succ (r : RecD) (i : Nat) : encs r (i + 1) = encs r i ++ [encL (partOf r i)] := by simp [encs, List.range_succ]
theorem SplitPost.yes {w w1 w' : World} {r : RecD} {N : Nat} {v : Value} (hk : splitE r = 0) (hN : needN r.load.length = N) (ho : OwnSecs w' w1.heap.size v (encs r N)) (hs : w.heap.size ≤ w1.heap.size) (hb : Below w.heap.size w w') :
    SplitPost w r (.returned (.tuple #[v, .int .i64 0])) w' := by
  subst hN
  refine ⟨v, by rw [hk], ?_, hb⟩
  have : splitL r = encs r (needN r.load.length) := by unfold splitL; rw [if_pos hk]; rfl
  rw [this]
  exact ho.base hs
theorem BytesAt.seg {w : World} {F : Nat → Prop} {g off n cap : Nat} {l : List UInt8} (h : BytesAt w F (.slice (some ⟨g, off, none⟩) n cap) l) (lo k : Nat) {o m c : Nat} (ho : o = off + lo) (hm : m = min k (l.length - lo)) (hlo : lo ≤ l.length) (hc : c = cap - lo) :
    BytesAt w F (.slice (some ⟨g, o, none⟩) m c) (seg l lo k) := by
  subst ho
  subst hc
  obtain ⟨rfl, hcap⟩ := h.len
  have e : Go.Proofs.YtplclpileejemaaDoor.seg l lo k = (l.drop lo).take m := by
    unfold Go.Proofs.YtplclpileejemaaDoor.seg
    by_cases hk : k ≤ l.length - lo
    · rw [hm, Nat.min_eq_left hk]
    · rw [hm, Nat.min_eq_right (by omega), List.take_of_length_le (by simp; omega), List.take_of_length_le (by simp)]
  rw [e]
  exact h.part lo m (cap - lo) (by omega) (by omega)
theorem seg_len (l : List UInt8) (lo k : Nat) : (seg l lo k).length = min k (l.length - lo) := by simp [seg]

set_option maxRecDepth 100000 in
set_option maxHeartbeats 2000000 in
theorem Split_ok {w : World} {F : Nat → Prop} (k g n : Int) (l : List UInt8) (a : Option Addr) (len cap : Nat) (hv : BytesN w F (.slice a len cap) l) (hl : l.length = len) (hK : KAt w) (h : splitE ⟨k, g, n, l⟩ = 0) :
    Calls Tryd.prog 59 #[.agg #[.int .i64 k, .int .i64 g, .int .i64 n, .slice a len cap]] w (SplitPost w ⟨k, g, n, l⟩) := by
  obtain ⟨hf, hle⟩ := splitE_ok h
  simp only at hf hle
  have hnv : needV (len : Int) = needN len := by unfold needV; rw [if_neg (by omega)]; rfl
  have hne : needE (len : Int) = 0 := by unfold needE; rw [if_neg (by omega)]
  have hneed := fun w => Need_any (len : Int) w
  rw [hnv, hne] at hneed
  have hnb := need_le (n := len) (by omega)
  obtain ⟨N, hN⟩ : ∃ N, needN len = N := ⟨_, rfl⟩
  rw [hN] at hneed hnb
  obtain ⟨w0, hw0⟩ : ∃ w0, (w.alloc (.cells #[.int .i64 k, .int .i64 g, .int .i64 n, .slice a len cap] 88)).alloc (.cells #[.int .i64 k, .int .i64 g, .int .i64 n] 126) = w0 := ⟨_, rfl⟩
  have hb0 : Below w.heap.size w w0 := hw0 ▸ ((Below.refl _ w).alloc (Nat.le_refl _) _).alloc (by simp) _
  have hx0 : w0.heap[w.heap.size]? = some (.cells #[.int .i64 k, .int .i64 g, .int .i64 n, .slice a len cap] 88 (0, 0)) := by rw [← hw0]; exact (Below.heap_alloc _ _ _ (by simp)).trans (heap_alloc_new _ _)
  have hval := valid_any k g n w0
  rw [hf] at hval
  have HVAL := Lib.hid hval
  have HNEED := Lib.hid hneed
  have HW0 := Lib.hid hw0
  have HB0 := Lib.hid hb0
  have HX0 := Lib.hid hx0
  have HV := Lib.hid hv
  have HK := Lib.hid hK
  have HL := Lib.hid hl
  have HE := Lib.hid h
  have HN := Lib.hid hN
  have hN1 := hnb.1
  have hN2 := hnb.2
  rw [hl] at hle
  clear hf hneed hnv hne hnb hN hw0 hb0 hx0 hval hv hK hl h
  go_enter Tryd.func59, Tryd.ntmps59
  go_wp2_with fail
  rw [HW0.out]
  refine HVAL.out.mono ?_
  rintro e w1 ⟨rfl, hb1⟩
  have hx1 := (hb1.block _ (Array.getElem?_eq_some_iff.1 HX0.out).1).trans HX0.out
  have hbd := HB0.out.trans (hb1.mono HB0.out.size)
  have hc3 : w1.cell? ⟨w.heap.size, 3, none⟩ = some (.slice a len cap) := by rw [cell_of_row _ _ _ _ _ _ hx1]; rfl
  have HX1 := Lib.hid hx1
  have HBD := Lib.hid hbd
  have hlt1 := (Array.getElem?_eq_some_iff.1 hx1).1
  clear hb1 hx1 hbd
  go_wp2_with fail
  refine (HNEED.out _).mono ?_
  rintro e w' ⟨rfl, rfl⟩
  go_wp2_with fail
  go_loopw [7, 32] (fun pv iv wr => ∃ i : Nat, i ≤ N ∧ iv = .int .i64 (i : Int) ∧ OwnSecs wr w1.heap.size pv (encs ⟨k, g, n, l⟩ i) ∧ Below w1.heap.size w1 wr) (fun _ iv _ => N - (intOf iv).toNat)
  case atStart => exact ⟨0, Nat.zero_le _, rfl, ownSecs_nil _ _, Below.refl _ _⟩
  case round =>
    obtain ⟨i, hi, rfl, hO, hB⟩ := hrel
    obtain ⟨pa, pc, rfl⟩ := hO.form
    rw [encs_length] at hO ⊢
    have hxr := (hB.block _ hlt1).trans HX1.out
    have hr0 : wr.cell? ⟨w.heap.size, 0, none⟩ = some (.int .i64 k) := by rw [cell_of_row _ _ _ _ _ _ hxr]; rfl
    have hr1 : wr.cell? ⟨w.heap.size, 1, none⟩ = some (.int .i64 g) := by rw [cell_of_row _ _ _ _ _ _ hxr]; rfl
    have hr2 : wr.cell? ⟨w.heap.size, 2, none⟩ = some (.int .i64 n) := by rw [cell_of_row _ _ _ _ _ _ hxr]; rfl
    have hr3 : wr.cell? ⟨w.heap.size, 3, none⟩ = some (.slice a len cap) := by rw [cell_of_row _ _ _ _ _ _ hxr]; rfl
    have hbr := HBD.out.trans (hB.mono HBD.out.size)
    have hvr := HV.out.below hbr
    have hkr := HK.out.below hbr HK.out.size
    have HVR := Lib.hid hvr
    have HKR := Lib.hid hkr
    have HO := Lib.hid hO
    have HB := Lib.hid hB
    clear hxr hbr hkr hO hB hc3
    by_cases hlt : i < N
    · have hpo := partOf_ok HE.out (i := i) (by show i < needN l.length; rw [HL.out, HN.out]; exact hlt)
      have hpe : partOf ⟨k, g, n, l⟩ i = ⟨k, g, n, (i : Int), (N : Int), seg l (224 * i) 224⟩ := by unfold partOf; simp only; rw [HL.out, HN.out]
      have hchk := hpo.chk
      rw [hpe] at hchk
      have HCHK := Lib.hid hchk
      have HPE := Lib.hid hpe
      clear hpo hchk hpe
      by_cases h0 : len = 0
      · subst h0
        have hl0 : l = [] := List.eq_nil_of_length_eq_zero HL.out
        have hN0 : N = 1 := by rw [← HN.out]; rfl
        obtain rfl : i = 0 := by omega
        have hsg : seg l (224 * 0) 224 = [] := by rw [hl0]; rfl
        have hnil : a = none → cap = 0 := fun e => hvr.nil _ _ (by rw [e])
        have HSG := Lib.hid hsg
        clear hl0 hN0 hsg hvr
        by_cases hcap : cap = 0
        · subst hcap
          clear hnil
          go_wp2_with fail
          refine (EncodePart_ok ⟨k, g, n, ((0 : Nat) : Int), (N : Int), seg l (224 * 0) 224⟩ _ _ _ (by rw [HSG.out]; exact bytesAt_empty _ (fun _ => True) _ _) (by rw [HSG.out]; rfl) HKR.out HCHK.out).mono ?_
          rintro e w3 ⟨u, rfl, hu, hb3⟩
          obtain ⟨ua, uc, rfl⟩ := ownsRow_form hu
          have ho3 := HO.out.below hb3
          have hu3 : w3.ownsRow w1.heap.size 5 1 (.slice ua 256 uc) (encL (partOf ⟨k, g, n, l⟩ 0)).length (bvs (encL (partOf ⟨k, g, n, l⟩ 0))) := by
            rw [encL_length, HPE.out]
            exact ownsRow_base hu HB.out.size
          have hB3 := HB.out.trans (hb3.mono HB.out.size)
          have HO3 := Lib.hid ho3
          have HU3 := Lib.hid hu3
          have HB3 := Lib.hid hB3
          clear hu hb3 ho3 hu3 hB3
          go_wp2_with (at_builtin; refine wpList_appSec rfl (.tmp 64) (.tmp 66) rfl rfl HO3.out HU3.out rfl (encs_length _ _) (by omega) HB3.out.size ?_)
          intro a' cap' w4 ho4 hb4
          have HO4 := Lib.hid ho4
          have HB4 := Lib.hid (HB3.out.trans hb4)
          clear ho4 hb4
          go_wp2_with fail
          go_roundw
          case rel => first | exact ⟨0 + 1, by omega, by go_num, by rw [encs_succ]; exact HO4.out, HB4.out⟩ | ((repeat apply Exists.intro); exact ⟨⟨0 + 1, by omega, by go_num, by rw [encs_succ]; exact HO4.out, HB4.out⟩, rfl⟩)
          case measure => simp [intOf]; omega
        · clear hnil
          go_wp2_with fail
          refine (EncodePart_ok ⟨k, g, n, ((0 : Nat) : Int), (N : Int), seg l (224 * 0) 224⟩ _ _ _ (by rw [HSG.out]; exact bytesAt_empty _ (fun _ => True) _ _) (by rw [HSG.out]; rfl) HKR.out HCHK.out).mono ?_
          rintro e w3 ⟨u, rfl, hu, hb3⟩
          obtain ⟨ua, uc, rfl⟩ := ownsRow_form hu
          have ho3 := HO.out.below hb3
          have hu3 : w3.ownsRow w1.heap.size 5 1 (.slice ua 256 uc) (encL (partOf ⟨k, g, n, l⟩ 0)).length (bvs (encL (partOf ⟨k, g, n, l⟩ 0))) := by
            rw [encL_length, HPE.out]
            exact ownsRow_base hu HB.out.size
          have hB3 := HB.out.trans (hb3.mono HB.out.size)
          have HO3 := Lib.hid ho3
          have HU3 := Lib.hid hu3
          have HB3 := Lib.hid hB3
          clear hu hb3 ho3 hu3 hB3
          go_wp2_with (at_builtin; refine wpList_appSec rfl (.tmp 64) (.tmp 66) rfl rfl HO3.out HU3.out rfl (encs_length _ _) (by omega) HB3.out.size ?_)
          intro a' cap' w4 ho4 hb4
          have HO4 := Lib.hid ho4
          have HB4 := Lib.hid (HB3.out.trans hb4)
          clear ho4 hb4
          go_wp2_with fail
          go_roundw
          case rel => first | exact ⟨0 + 1, by omega, by go_num, by rw [encs_succ]; exact HO4.out, HB4.out⟩ | ((repeat apply Exists.intro); exact ⟨⟨0 + 1, by omega, by go_num, by rw [encs_succ]; exact HO4.out, HB4.out⟩, rfl⟩)
          case measure => simp [intOf]; omega
      · have hlo : 224 * i < len := by have := HN.out; unfold needN at this; omega
        obtain ⟨ag, ao, rfl⟩ := hvr.at_.addr (fun e => h0 (by rw [← HL.out, e]; rfl))
        have hcl := hvr.at_.len.2
        have hck : ¬ cap = i * 224 := by omega
        have hck2 : ¬ cap = 224 * i := by omega
        by_cases hlast : (i + 1) * 224 ≤ len
        · have hI1 : ((i : Int) + 1) * 224 ≤ (len : Int) := by omega
          clear hvr
          go_wp2_with fail
          refine (EncodePart_ok ⟨k, g, n, ((i : Nat) : Int), (N : Int), seg l (224 * i) 224⟩ _ _ _ (HVR.out.at_.seg (224 * i) 224 (by omega) (by rw [HL.out]; omega) (by rw [HL.out]; omega) (by omega)) (by rw [seg_len, HL.out]; omega) HKR.out HCHK.out).mono ?_
          rintro e w3 ⟨u, rfl, hu, hb3⟩
          obtain ⟨ua, uc, rfl⟩ := ownsRow_form hu
          have ho3 := HO.out.below hb3
          have hu3 : w3.ownsRow w1.heap.size 5 1 (.slice ua 256 uc) (encL (partOf ⟨k, g, n, l⟩ i)).length (bvs (encL (partOf ⟨k, g, n, l⟩ i))) := by
            rw [encL_length, HPE.out]
            exact ownsRow_base hu HB.out.size
          have hB3 := HB.out.trans (hb3.mono HB.out.size)
          have HO3 := Lib.hid ho3
          have HU3 := Lib.hid hu3
          have HB3 := Lib.hid hB3
          clear hu hb3 ho3 hu3 hB3
          go_wp2_with (at_builtin; refine wpList_appSec rfl (.tmp 64) (.tmp 66) rfl rfl HO3.out HU3.out rfl (encs_length _ _) (by omega) HB3.out.size ?_)
          intro a' cap' w4 ho4 hb4
          have HO4 := Lib.hid ho4
          have HB4 := Lib.hid (HB3.out.trans hb4)
          clear ho4 hb4
          go_wp2_with fail
          go_roundw
          case rel => first | exact ⟨i + 1, by omega, by go_num, by rw [encs_succ]; exact HO4.out, HB4.out⟩ | ((repeat apply Exists.intro); exact ⟨⟨i + 1, by omega, by go_num, by rw [encs_succ]; exact HO4.out, HB4.out⟩, rfl⟩)
          case measure => simp [intOf]; omega
        · have hI1 : (len : Int) < ((i : Int) + 1) * 224 := by omega
          clear hvr
          go_wp2_with fail
          refine (EncodePart_ok ⟨k, g, n, ((i : Nat) : Int), (N : Int), seg l (224 * i) 224⟩ _ _ _ (HVR.out.at_.seg (224 * i) 224 (by omega) (by rw [HL.out]; omega) (by rw [HL.out]; omega) (by omega)) (by rw [seg_len, HL.out]; omega) HKR.out HCHK.out).mono ?_
          rintro e w3 ⟨u, rfl, hu, hb3⟩
          obtain ⟨ua, uc, rfl⟩ := ownsRow_form hu
          have ho3 := HO.out.below hb3
          have hu3 : w3.ownsRow w1.heap.size 5 1 (.slice ua 256 uc) (encL (partOf ⟨k, g, n, l⟩ i)).length (bvs (encL (partOf ⟨k, g, n, l⟩ i))) := by
            rw [encL_length, HPE.out]
            exact ownsRow_base hu HB.out.size
          have hB3 := HB.out.trans (hb3.mono HB.out.size)
          have HO3 := Lib.hid ho3
          have HU3 := Lib.hid hu3
          have HB3 := Lib.hid hB3
          clear hu hb3 ho3 hu3 hB3
          go_wp2_with (at_builtin; refine wpList_appSec rfl (.tmp 64) (.tmp 66) rfl rfl HO3.out HU3.out rfl (encs_length _ _) (by omega) HB3.out.size ?_)
          intro a' cap' w4 ho4 hb4
          have HO4 := Lib.hid ho4
          have HB4 := Lib.hid (HB3.out.trans hb4)
          clear ho4 hb4
          go_wp2_with fail
          go_roundw
          case rel => first | exact ⟨i + 1, by omega, by go_num, by rw [encs_succ]; exact HO4.out, HB4.out⟩ | ((repeat apply Exists.intro); exact ⟨⟨i + 1, by omega, by go_num, by rw [encs_succ]; exact HO4.out, HB4.out⟩, rfl⟩)
          case measure => simp [intOf]; omega
    · obtain rfl : i = N := by omega
      go_wp2_with fail
      go_ret2
      exact SplitPost.yes HE.out (by show needN l.length = _; rw [HL.out, HN.out]) HO.out HBD.out.size (HBD.out.trans (HB.out.mono HBD.out.size))

set_option maxRecDepth 100000 in
set_option maxHeartbeats 2000000 in
theorem Split_no {w : World} (k g n : Int) (l : List UInt8) (a : Option Addr) (len cap : Nat) (hl : l.length = len) (h : splitE ⟨k, g, n, l⟩ ≠ 0) :
    Calls Tryd.prog 59 #[.agg #[.int .i64 k, .int .i64 g, .int .i64 n, .slice a len cap]] w (SplitPost w ⟨k, g, n, l⟩) := by
  obtain ⟨w0, hw0⟩ : ∃ w0, (w.alloc (.cells #[.int .i64 k, .int .i64 g, .int .i64 n, .slice a len cap] 88)).alloc (.cells #[.int .i64 k, .int .i64 g, .int .i64 n] 126) = w0 := ⟨_, rfl⟩
  have hb0 : Below w.heap.size w w0 := hw0 ▸ ((Below.refl _ w).alloc (Nat.le_refl _) _).alloc (by simp) _
  have hx0 : w0.heap[w.heap.size]? = some (.cells #[.int .i64 k, .int .i64 g, .int .i64 n, .slice a len cap] 88 (0, 0)) := by rw [← hw0]; exact (Below.heap_alloc _ _ _ (by simp)).trans (heap_alloc_new _ _)
  have hval := valid_any k g n w0
  have HW0 := Lib.hid hw0
  have HB0 := Lib.hid hb0
  have HX0 := Lib.hid hx0
  by_cases hf : fineB k g n = false
  · have h2 : splitE ⟨k, g, n, l⟩ = 2 := by unfold splitE; rw [if_pos hf]
    rw [hf] at hval
    have HVAL := Lib.hid hval
    have H2 := Lib.hid h2
    clear hval hw0 hb0 hx0 h2 hf hl h
    go_enter Tryd.func59, Tryd.ntmps59
    go_wp2_with fail
    rw [HW0.out]
    refine HVAL.out.mono ?_
    rintro e w1 ⟨rfl, hb1⟩
    go_wp2_with fail
    go_ret2
    exact SplitPost.no H2.out (by decide) (HB0.out.trans (hb1.mono HB0.out.size))
  · have hf' : fineB k g n = true := by simpa using hf
    have hbig : 131072 < len := by
      rcases Nat.lt_or_ge 131072 len with h1 | h1
      · exact h1
      · exact absurd (by unfold splitE; rw [if_neg hf, if_neg (by simp only; omega)]) h
    have h5 : splitE ⟨k, g, n, l⟩ = 5 := by unfold splitE; rw [if_neg hf, if_pos (by simp only; omega)]
    have hneed := fun w => Need_any (len : Int) w
    have hnv : needV (len : Int) = 0 := by unfold needV; rw [if_pos (by omega)]
    have hne : needE (len : Int) = 2 := by unfold needE; rw [if_pos (by omega)]
    rw [hnv, hne] at hneed
    rw [hf'] at hval
    have HVAL := Lib.hid hval
    have HNEED := Lib.hid hneed
    have H5 := Lib.hid h5
    clear hval hw0 hb0 hx0 h5 hf hf' hl h hnv hne hneed hbig
    go_enter Tryd.func59, Tryd.ntmps59
    go_wp2_with fail
    rw [HW0.out]
    refine HVAL.out.mono ?_
    rintro e w1 ⟨rfl, hb1⟩
    have hx1 := (hb1.block _ (Array.getElem?_eq_some_iff.1 HX0.out).1).trans HX0.out
    have hc3 : w1.cell? ⟨w.heap.size, 3, none⟩ = some (.slice a len cap) := by rw [cell_of_row _ _ _ _ _ _ hx1]; rfl
    clear hx1
    go_wp2_with fail
    refine (HNEED.out _).mono ?_
    rintro e w' ⟨rfl, rfl⟩
    go_wp2_with fail
    go_ret2
    exact SplitPost.no H5.out (by decide) (HB0.out.trans (hb1.mono HB0.out.size))
theorem Split_any {w : World} {F : Nat → Prop} (r : RecD) (a : Option Addr) (len cap : Nat) (hv : BytesN w F (.slice a len cap) r.load) (hK : KAt w) :
    Calls Tryd.prog 59 #[.agg #[.int .i64 r.kind, .int .i64 r.gen, .int .i64 r.num, .slice a len cap]] w (SplitPost w r) := by
  obtain ⟨rfl, _⟩ := hv.at_.len
  by_cases h : splitE r = 0
  · exact Split_ok r.kind r.gen r.num r.load a _ cap hv rfl hK h
  · exact Split_no r.kind r.gen r.num r.load a _ cap rfl h

end Go.Proofs.YtplclpileejemaaDoor

namespace Go.Proofs.YtplclpileejemaaDoor
open Go.RowKit
set_option linter.unusedVariables false
set_option linter.unusedSimpArgs false

end Go.Proofs.YtplclpileejemaaDoor

namespace Go.Proofs.YtplclpileejemaaDoor
open Go.RowKit Go.ChangeShapes
set_option linter.unusedVariables false
set_option linter.unusedSimpArgs false

theorem cellsOf_i : Tryd.prog.cellsOf 3 = 1 := by kernel_rfl
theorem cellsOf_label : Tryd.prog.cellsOf 126 = 3 := by kernel_rfl
theorem cellsOf_place : Tryd.prog.cellsOf 133 = 5 := by kernel_rfl
theorem keyLits_i {n : Int} (h0 : 0 ≤ n) (h1 : n ≤ 2147483647) (d : Nat) : Tryd.prog.keyLits (d + 1) 3 [.int .i64 n] = some [.int .i64 n] := by
  have hw : (Lit.int .i64 n).wf = true := by
    simp [Lit.wf, IntKind.min, IntKind.max, IntKind.signed, IntKind.bits]
    omega
  simp [Program.keyLits, Tryd.underlying3, hw]
def Small (n : Int) : Prop := 0 ≤ n ∧ n ≤ 2147483647
theorem keyLits_label {k g n : Int} (hk : Small k) (hg : Small g) (hn : Small n) : Tryd.prog.keyLits 2 126 [.int .i64 k, .int .i64 g, .int .i64 n] = some [.int .i64 k, .int .i64 g, .int .i64 n] := by
  unfold Program.keyLits
  rw [Tryd.underlying126]
  have e0 : ([.int .i64 k, .int .i64 g, .int .i64 n] : List Value).length = 3 := rfl
  simp only [e0, cellsOf_label, true_and]
  simp only [List.mapM_cons, List.mapM_nil, cellsOf_i, List.drop_zero, List.take_succ_cons, List.take_zero, List.drop_succ_cons, keyLits_i hk.1 hk.2 0, keyLits_i hg.1 hg.2 0, keyLits_i hn.1 hn.2 0]
  simp
theorem keyLits_place {k g n i c : Int} (hk : Small k) (hg : Small g) (hn : Small n) (hi : Small i) (hc : Small c) :
    Tryd.prog.keyLits 3 133 [.int .i64 k, .int .i64 g, .int .i64 n, .int .i64 i, .int .i64 c] = some [.int .i64 k, .int .i64 g, .int .i64 n, .int .i64 i, .int .i64 c] := by
  unfold Program.keyLits
  rw [Tryd.underlying133]
  have e0 : ([.int .i64 k, .int .i64 g, .int .i64 n, .int .i64 i, .int .i64 c] : List Value).length = 5 := rfl
  simp only [e0, cellsOf_place, true_and]
  simp only [List.mapM_cons, List.mapM_nil, cellsOf_i, cellsOf_label, List.drop_zero, List.take_succ_cons, List.take_zero, List.drop_succ_cons, keyLits_label hk hg hn, keyLits_i hi.1 hi.2 1, keyLits_i hc.1 hc.2 1]
  simp
theorem formed_place (a b c d e : Value) : (Value.agg #[a, b, c, d, e]).formed Tryd.prog 133 = true := by
  unfold Value.formed
  rw [Tryd.underlying133]
  simp [cellsOf_place]
theorem keyType_place : Tryd.prog.keyTypeAt 5 133 = true := by kernel_rfl
theorem deep_place : EqAt Tryd.prog 10000 133 := by
  have := run_equalIn_deep 9995 5 133 keyType_place
  simpa only [Nat.reduceAdd] using this
theorem guard_place : Tryd.prog.eqGuardType Tryd.prog.depth 133 = false := by kernel_rfl
theorem neq_place {k g n i c k2 g2 n2 i2 c2 : Int} (hk : Small k) (hg : Small g) (hn : Small n) (hi : Small i) (hc : Small c) (hk2 : Small k2) (hg2 : Small g2) (hn2 : Small n2) (hi2 : Small i2) (hc2 : Small c2) (w : World) :
    (binOp .neq 133 (.agg #[.int .i64 k2, .int .i64 g2, .int .i64 n2, .int .i64 i2, .int .i64 c2]) (.agg #[.int .i64 k, .int .i64 g, .int .i64 n, .int .i64 i, .int .i64 c])).run Tryd.prog w =
      .ok (.bool (!(k2 == k && g2 == g && n2 == n && i2 == i && c2 == c))) w := by
  rw [run_neq_struct (P := Tryd.prog) w 133 _ _]
  obtain ⟨r, h1, h2⟩ := deep_place w 3 3 _ _ _ _ (formed_place _ _ _ _ _) (formed_place _ _ _ _ _) (keyLits_place hk2 hg2 hn2 hi2 hc2) (keyLits_place hk hg hn hi hc)
  rw [h1]
  have e : r = (k2 == k && g2 == g && n2 == n && i2 == i && c2 == c) := by
    rw [Bool.eq_iff_iff, h2]
    simp
    constructor
    · rintro ⟨h1, h2, h3, h4, h5⟩; exact ⟨⟨⟨⟨h1, h2⟩, h3⟩, h4⟩, h5⟩
    · rintro ⟨⟨⟨⟨h1, h2⟩, h3⟩, h4⟩, h5⟩; exact ⟨h1, h2, h3, h4, h5⟩
  rw [e]
  rfl

def recVs (r : RecD) (v : Value) : Array Value := #[.int .i64 r.kind, .int .i64 r.gen, .int .i64 r.num, v]
/-- What both Joins return. -/
def JoinPost (w : World) (L : List (List UInt8)) (e : Ending) (w' : World) : Prop :=
  ∃ a c, e = .returned (.tuple #[.agg (recVs (joinL L).1 (.slice a (joinL L).1.load.length c)), .int .i64 ((joinL L).2.1 : Int), .int .i64 (joinL L).2.2]) ∧
    w'.ownsRow w.heap.size 5 1 (.slice a (joinL L).1.load.length c) (joinL L).1.load.length (bvs (joinL L).1.load) ∧ Below w.heap.size w w'
theorem JoinPost.no {w w' : World} {L : List (List UInt8)} {k : Int} (hk : joinL L = (.zero, 0, k)) (hb : Below w.heap.size w w') :
    JoinPost w L (.returned (.tuple #[.agg #[.int .i64 0, .int .i64 0, .int .i64 0, .slice none 0 0], .int .i64 0, .int .i64 k])) w' := by
  refine ⟨none, 0, ?_, ?_, hb⟩
  · rw [hk]; rfl
  · rw [hk]; exact own_none _ _ _
theorem JoinPost.yes {w w' : World} {L : List (List UInt8)} {k g n : Int} {acc : List UInt8} {m : Nat} {a : Option Addr} {N c : Nat} (hk : joinL L = (⟨k, g, n, acc⟩, m, 0)) (hN : acc.length = N)
    (ho : w'.ownsRow w.heap.size 5 1 (.slice a N c) N (bvs acc)) (hb : Below w.heap.size w w') :
    JoinPost w L (.returned (.tuple #[.agg #[.int .i64 k, .int .i64 g, .int .i64 n, .slice a N c], .int .i64 (m : Int), .int .i64 0])) w' := by
  subst hN
  refine ⟨a, c, ?_, ?_, hb⟩
  · rw [hk]; rfl
  · rw [hk]; exact ho
/-- The fields of what a decoder returned. -/
theorem DecPost.parts {w w' : World} {l : List UInt8} {e : Ending} (h : DecPost w l e w') : ∃ a c, e = .returned (.tuple #[.agg #[.int .i64 (decP l).kind, .int .i64 (decP l).gen, .int .i64 (decP l).num, .int .i64 (decP l).idx, .int .i64 (decP l).cnt, .slice a (decP l).bytes.length c], .int .i64 (decE l)]) ∧
    w'.ownsRow w.heap.size 5 1 (.slice a (decP l).bytes.length c) (decP l).bytes.length (bvs (decP l).bytes) ∧ Below w.heap.size w w' := h
theorem decP_small {b : List UInt8} (h : decE b = 0) : Small (decP b).kind ∧ Small (decP b).gen ∧ Small (decP b).num ∧ Small (decP b).idx ∧ Small (decP b).cnt ∧ (decP b).bytes.length ≤ 224 ∧ 1 ≤ (decP b).cnt ∧ (decP b).cnt ≤ 586 := by
  have hk := decE_ok h
  have hp := hk.2.2.2.1
  rw [hk.2.2.2.2]
  have := hp.k0; have := hp.k1; have := hp.g0; have := hp.g1; have := hp.n0; have := hp.n1; have := hp.i0; have := hp.i1; have := hp.c0; have := hp.c1
  exact ⟨⟨by omega, by omega⟩, ⟨by omega, by omega⟩, ⟨by omega, by omega⟩, ⟨by omega, by omega⟩, ⟨by omega, by omega⟩, hp.len, hp.c0, hp.c1⟩

end Go.Proofs.YtplclpileejemaaDoor

namespace Go.Proofs.YtplclpileejemaaDoor
open Go.RowKit
set_option linter.unusedVariables false
set_option linter.unusedSimpArgs false

theorem wp_known {P : Program} {o : Oper} {a : Act} {w : World} {K : Act → World → Prop} {Q : Exit → Act → World → Prop} (v : Value) (hr : (execOp a.eval o).run P w = .ok (.value v) w) (h : K (a.put o.dst v) w) : o.wp P a w K Q := by
  unfold Oper.wp
  rw [hr]
  exact h
theorem rop_neq {P : Program} {w : World} {ρ : Operand → Value} {o : Oper} {xs ys : Array Value} {b : Bool} (t : TypeId) (x y : Operand) (u : TypeId) (ho : o.op = .binOp .neq t x y u) (hx : ρ x = .agg xs) (hy : ρ y = .agg ys) (hg : P.eqGuardType P.depth t = false)
    (h : (binOp .neq t (.agg xs) (.agg ys)).run P w = .ok (.bool b) w) : (execOp ρ o).run P w = .ok (.value (.bool b)) w := by
  unfold execOp
  simp only [ho, hx, hy, Sem.run_bind, run_eqGuard_agg w .neq t x y xs ys hg, h, Result.andThen_ok]
  rfl
theorem chg4 (w : World) (b : Nat) (v0 v1 v2 v3 : Value) : Chg (fun k => k = b) w ((((w.setCell ⟨b, 0, none⟩ v0).setCell ⟨b, 1, none⟩ v1).setCell ⟨b, 2, none⟩ v2).setCell ⟨b, 3, none⟩ v3) := by
  have t : ∀ {a c : World} (j : Nat) (v : Value), Chg (fun k => k = b) a c → Chg (fun k => k = b) a (c.setCell ⟨b, j, none⟩ v) := fun j v h => h.trans (Chg.setCell (F := fun k => k = b) _ _ rfl) (fun _ h => .inl h)
  exact t 3 _ (t 2 _ (t 1 _ (t 0 _ (Chg.refl _ _))))
theorem below_chg {w w1 w2 : World} {B b : Nat} (h : Below B w w1) (hc : Chg (fun k => k = b) w1 w2) (hb : B ≤ b) (hB : B ≤ w.heap.size) : Below B w w2 := h.trans (hc.below (fun k hk => by have : k = b := hk; omega) (Nat.le_trans hB h.size))
theorem below_z {w w1 : World} {B b : Nat} (h : Below B w w1) (hb : B ≤ b) (hB : B ≤ w.heap.size) (v0 v1 v2 v3 : Value) (o : Obj) : Below B w (((((w1.setCell ⟨b, 0, none⟩ v0).setCell ⟨b, 1, none⟩ v1).setCell ⟨b, 2, none⟩ v2).setCell ⟨b, 3, none⟩ v3).alloc o) :=
  (below_chg h (chg4 _ _ _ _ _ _) hb hB).alloc (Nat.le_trans hB (below_chg h (chg4 _ _ _ _ _ _) hb hB).size) _

theorem Join_nil {w : World} (a : Option Addr) (cap : Nat) : Calls Tryd.prog 74 #[.slice a 0 cap] w (JoinPost w []) := by
  go_enter Tryd.func74, Tryd.ntmps74
  go_wp2_with fail
  exact bodyPost_ret (v := .tuple #[.agg #[.int .i64 0, .int .i64 0, .int .i64 0, .slice none 0 0], .int .i64 0, .int .i64 4]) (by simp [results, Tryd.results74, go_sem]) rfl (JoinPost.no rfl ((Below.refl _ _).alloc (Nat.le_refl _) _))

set_option maxRecDepth 100000 in
set_option maxHeartbeats 2000000 in
theorem Join_cons {w : World} (b : List UInt8) (L' : List (List UInt8)) (v : Value) (hv : SecsAt w v (b :: L')) (hM0 : (b :: L').length < 1000000000) (hK : KAt w) : Calls Tryd.prog 74 #[v] w (JoinPost w (b :: L')) := by
  obtain ⟨va, cap, rfl⟩ := hv.form
  obtain ⟨L, hL⟩ : ∃ L, b :: L' = L := ⟨_, rfl⟩
  obtain ⟨M, hM⟩ : ∃ M, L.length = M := ⟨_, rfl⟩
  have hpos : 0 < M := by rw [← hM, ← hL]; simp
  have hMz : ((M : Int) == 0) = false := by simp; omega
  rw [hL] at hv hM0 ⊢
  rw [hM] at hv hM0 ⊢
  obtain ⟨w1, hw1⟩ : ∃ w1, w.alloc (.cells #[.int .i64 0, .int .i64 0, .int .i64 0, .slice none 0 0] 88) = w1 := ⟨_, rfl⟩
  have hb1 : Below w.heap.size w w1 := hw1 ▸ (Below.refl _ w).alloc (Nat.le_refl _) _
  have hR1 : w1.heap[w.heap.size]? = some (.cells #[.int .i64 0, .int .i64 0, .int .i64 0, .slice none 0 0] 88 (0, 0)) := by rw [← hw1]; exact heap_alloc_new _ _
  have hv1 := hv.below hb1
  obtain ⟨sg, so, x0, n0, c0, rfl, hc0, hs0⟩ := hv1.get (i := 0) (by rw [hM]; exact hpos)
  have hb00 : L[0]'(by rw [hM]; exact hpos) = b := by simp [← hL]
  rw [hb00] at hs0
  rw [Nat.add_zero] at hc0
  obtain ⟨P, hP⟩ : ∃ P, decP b = P := ⟨_, rfl⟩
  obtain ⟨E0, hE0⟩ : ∃ E, decE b = E := ⟨_, rfl⟩
  obtain ⟨m, hm⟩ : ∃ m, P.bytes.length = m := ⟨_, rfl⟩
  have hdec : Calls Tryd.prog 56 #[.slice x0 n0 c0] w1 (fun e w' => ∃ a c, e = .returned (.tuple #[.agg #[.int .i64 P.kind, .int .i64 P.gen, .int .i64 P.num, .int .i64 P.idx, .int .i64 P.cnt, .slice a m c], .int .i64 E0]) ∧
      w'.ownsRow w1.heap.size 5 1 (.slice a m c) m (bvs P.bytes) ∧ Below w1.heap.size w1 w') :=
    (DecodePart_any b _ hs0.at_ (hK.below hb1 hK.size)).mono (fun e w' h => by have := h.parts; rwa [hP, hE0, hm] at this)
  have hsm : E0 = 0 → Small P.kind ∧ Small P.gen ∧ Small P.num ∧ Small P.idx ∧ Small P.cnt ∧ P.bytes.length ≤ 224 ∧ 1 ≤ P.cnt ∧ P.cnt ≤ 586 := fun h => by rw [← hP]; exact decP_small (by rw [hE0]; exact h)
  have hj1 : E0 ≠ 0 → joinL L = (.zero, 0, E0) := fun h => by rw [← hL, joinL, if_pos (by rw [hE0]; exact h), hE0]
  have hj2 : E0 = 0 → P.idx ≠ 0 → joinL L = (.zero, 0, 30) := fun h h2 => by rw [← hL, joinL, if_neg (by rw [hE0]; exact fun h3 => h3 h), hP, if_pos h2]
  have hj3 : E0 = 0 → P.idx = 0 → joinL L = joinGo L P 1 (P.cnt.toNat - 1) P.bytes := fun h h2 => by rw [← hL, joinL, if_neg (by rw [hE0]; exact fun h3 => h3 h), hP, if_neg (fun h3 => h3 h2)]
  obtain ⟨k, g, n, x, c, bs⟩ := P
  simp only at hdec hsm hj1 hj2 hj3 hm
  have HDEC := Lib.hid hdec
  have HSM := Lib.hid hsm
  have HJ1 := Lib.hid hj1
  have HJ2 := Lib.hid hj2
  have HJ3 := Lib.hid hj3
  have HM := Lib.hid hM
  have HML := Lib.hid hm
  have HV := Lib.hid hv
  have HK := Lib.hid hK
  have HW1 := Lib.hid hw1
  have HB1 := Lib.hid hb1
  have HR1 := Lib.hid hR1
  have hw1s : w1.heap.size = w.heap.size + 1 := by rw [← hw1]; simp
  have HC0 := Lib.hid hc0
  have HPOS := Lib.hid hpos
  have hc0' : (w.alloc (.cells #[.int .i64 0, .int .i64 0, .int .i64 0, .slice none 0 0] 88)).cell? ⟨sg, so, none⟩ = some (.slice x0 n0 c0) := by rw [hw1]; exact hc0
  clear hdec hsm hj1 hj2 hj3 hM hm hv hK hw1 hb1 hR1 hv1 hc0 hs0 hb00 hP hE0
  go_enter Tryd.func74, Tryd.ntmps74
  go_wp2_with fail
  rw [HW1.out]
  refine HDEC.out.mono ?_
  rintro e w2 ⟨ca, cc, rfl, hO2, hb2⟩
  have hR2 := (hb2.block w.heap.size (by omega)).trans HR1.out
  have hbd2 := HB1.out.trans (hb2.mono HB1.out.size)
  have hq2 := hb2.size
  have hlt2 : w.heap.size < w2.heap.size := by omega
  have hrf : ∀ j : Nat, w2.frozen? ⟨w.heap.size, j, none⟩ = false := fun j => frozen_of_row _ _ _ _ _ hR2
  have hy0 : w2.cell? ⟨w.heap.size, 0, none⟩ = some (.int .i64 0) := by rw [cell_of_row _ _ _ _ _ _ hR2]; rfl
  have hy1 : w2.cell? ⟨w.heap.size, 1, none⟩ = some (.int .i64 0) := by rw [cell_of_row _ _ _ _ _ _ hR2]; rfl
  have hy2 : w2.cell? ⟨w.heap.size, 2, none⟩ = some (.int .i64 0) := by rw [cell_of_row _ _ _ _ _ _ hR2]; rfl
  have hy3 : w2.cell? ⟨w.heap.size, 3, none⟩ = some (.slice none 0 0) := by rw [cell_of_row _ _ _ _ _ _ hR2]; rfl
  have HR2 := Lib.hid hR2
  have HBD2 := Lib.hid hbd2
  have HO2 := Lib.hid hO2
  have HQ2 := Lib.hid hq2
  clear hO2 hb2 hR2 hbd2 hq2 hc0'
  by_cases hE : E0 = 0
  · subst hE
    obtain ⟨sk, sg', sn, sx, sc, hm224, hc1, hc586⟩ := HSM.out (by simp)
    obtain ⟨w3, hw3⟩ : ∃ w3, w2.alloc (.cells #[.int .i64 k, .int .i64 g, .int .i64 n, .int .i64 x, .int .i64 c, .slice ca m cc] 101) = w3 := ⟨_, rfl⟩
    have hb3 : Below w2.heap.size w2 w3 := hw3 ▸ (Below.refl _ _).alloc (Nat.le_refl _) _
    have hs3 : w3.heap.size = w2.heap.size + 1 := by rw [← hw3]; simp
    have hT3 : w3.heap[w2.heap.size]? = some (.cells #[.int .i64 k, .int .i64 g, .int .i64 n, .int .i64 x, .int .i64 c, .slice ca m cc] 101 (0, 0)) := by rw [← hw3]; exact heap_alloc_new _ _
    have hR3 := (hb3.block _ hlt2).trans HR2.out
    have hO3 := own_kept HO2.out hb3
    have hbd3 := HBD2.out.trans (hb3.mono HBD2.out.size)
    have hpl := place_any k g n x c ca m cc w3
    have HPL := Lib.hid hpl
    have HW3 := Lib.hid hw3
    have HT3 := Lib.hid hT3
    have HR3 := Lib.hid hR3
    have HO3 := Lib.hid hO3
    have HBD3 := Lib.hid hbd3
    clear hpl hw3 hb3 hT3 hR3 hO3 hbd3 hrf hy0 hy1 hy2 hy3
    go_wp2_with fail
    rw [HW3.out]
    refine HPL.out.mono ?_
    rintro e w4 ⟨rfl, hb4⟩
    have hq4 := hb4.size
    have hT4 := (hb4.block w2.heap.size (by omega)).trans HT3.out
    have hR4 := (hb4.block w.heap.size (by omega)).trans HR3.out
    have hO4 := own_kept HO3.out hb4
    have hbd4 := HBD3.out.trans (hb4.mono HBD3.out.size)
    have hlt4 : w.heap.size < w4.heap.size := by omega
    have hlt4b : w2.heap.size < w4.heap.size := by omega
    have hrf : ∀ j : Nat, w4.frozen? ⟨w.heap.size, j, none⟩ = false := fun j => frozen_of_row _ _ _ _ _ hR4
    have hy0 : w4.cell? ⟨w.heap.size, 0, none⟩ = some (.int .i64 0) := by rw [cell_of_row _ _ _ _ _ _ hR4]; rfl
    have hy1 : w4.cell? ⟨w.heap.size, 1, none⟩ = some (.int .i64 0) := by rw [cell_of_row _ _ _ _ _ _ hR4]; rfl
    have hy2 : w4.cell? ⟨w.heap.size, 2, none⟩ = some (.int .i64 0) := by rw [cell_of_row _ _ _ _ _ _ hR4]; rfl
    have hy3 : w4.cell? ⟨w.heap.size, 3, none⟩ = some (.slice none 0 0) := by rw [cell_of_row _ _ _ _ _ _ hR4]; rfl
    have HR4 := Lib.hid hR4
    have HT4 := Lib.hid hT4
    have HO4 := Lib.hid hO4
    have HBD4 := Lib.hid hbd4
    clear hb4 hT4 hR4 hO4 hbd4
    by_cases hx : x = 0
    · have hxb : (x != 0) = false := by simp [hx]
      obtain ⟨w5, hw5⟩ : ∃ w5, w4.alloc (.cells #[.int .i64 k, .int .i64 g, .int .i64 n, .int .i64 x, .int .i64 c] 133) = w5 := ⟨_, rfl⟩
      have hb5 : Below w4.heap.size w4 w5 := hw5 ▸ (Below.refl _ _).alloc (Nat.le_refl _) _
      have hU5 : w5.heap[w4.heap.size]? = some (.cells #[.int .i64 k, .int .i64 g, .int .i64 n, .int .i64 x, .int .i64 c] 133 (0, 0)) := by rw [← hw5]; exact heap_alloc_new _ _
      have hT5 := (hb5.block _ hlt4b).trans HT4.out
      have hR5 := (hb5.block _ hlt4).trans HR4.out
      have hO5 := ownsRow_base (own_kept HO4.out hb5) HB1.out.size
      have hbd5 := HBD4.out.trans (hb5.mono HBD4.out.size)
      have hj := HJ3.out (by simp) hx
      have HW5 := Lib.hid hw5
      have HU5 := Lib.hid hU5
      have HT5 := Lib.hid hT5
      have HR5 := Lib.hid hR5
      have HO5 := Lib.hid hO5
      have HBD5 := Lib.hid hbd5
      have HJ := Lib.hid hj
      have ht5 : w4.cell? ⟨w2.heap.size, 5, none⟩ = some (.slice ca m cc) := by rw [cell_of_row _ _ _ _ _ _ HT4.out]; rfl
      clear hw5 hb5 hU5 hT5 hR5 hO5 hbd5 hj hx hrf hy0 hy1 hy2 hy3
      go_wp2_with fail
      rw [HW5.out]
      go_loopw [7, 8] (fun pv jv wr => ∃ (j : Nat) (acc : List UInt8) (N : Nat) (y : Int) (pa : Option Addr) (pc : Nat), 1 ≤ j ∧ (j : Int) ≤ c ∧ jv = .int .i64 (j : Int) ∧ pv = .slice pa N pc ∧ acc.length = N ∧ N ≤ 224 * j ∧
          wr.ownsRow w.heap.size 5 1 pv N (bvs acc) ∧ joinL L = joinGo L ⟨k, g, n, x, c, bs⟩ j (c.toNat - j) acc ∧ wr.heap[w.heap.size]? = some (.cells #[.int .i64 0, .int .i64 0, .int .i64 0, .slice none 0 0] 88 (0, 0)) ∧ wr.heap[w2.heap.size]? = some (.cells #[.int .i64 k, .int .i64 g, .int .i64 n, .int .i64 x, .int .i64 c, .slice ca m cc] 101 (0, 0)) ∧
          wr.heap[w4.heap.size]? = some (.cells #[.int .i64 k, .int .i64 g, .int .i64 n, .int .i64 y, .int .i64 c] 133 (0, 0)) ∧ Below w.heap.size w wr) (fun _ jv _ => (c - intOf jv).toNat)
      case atStart => exact ⟨1, bs, m, x, ca, cc, Nat.le_refl _, by omega, rfl, rfl, HML.out, by have := HML.out; omega, HO5.out, HJ.out, HR5.out, HT5.out, HU5.out, HBD5.out⟩
      case round =>
        obtain ⟨j, acc, N, y, pa, pc, hj1, hjc, rfl, rfl, hacc, hN, hO, hJ, hR, hT, hU, hB⟩ := hrel
        have hqR := (Array.getElem?_eq_some_iff.1 hR).1
        have hqT := (Array.getElem?_eq_some_iff.1 hT).1
        have hqU := (Array.getElem?_eq_some_iff.1 hU).1
        have hrf : ∀ j : Nat, wr.frozen? ⟨w.heap.size, j, none⟩ = false := fun j => frozen_of_row _ _ _ _ _ hR
        have hy0 : wr.cell? ⟨w.heap.size, 0, none⟩ = some (.int .i64 0) := by rw [cell_of_row _ _ _ _ _ _ hR]; rfl
        have hy1 : wr.cell? ⟨w.heap.size, 1, none⟩ = some (.int .i64 0) := by rw [cell_of_row _ _ _ _ _ _ hR]; rfl
        have hy2 : wr.cell? ⟨w.heap.size, 2, none⟩ = some (.int .i64 0) := by rw [cell_of_row _ _ _ _ _ _ hR]; rfl
        have hy3 : wr.cell? ⟨w.heap.size, 3, none⟩ = some (.slice none 0 0) := by rw [cell_of_row _ _ _ _ _ _ hR]; rfl
        have ht4 : wr.cell? ⟨w2.heap.size, 4, none⟩ = some (.int .i64 c) := by rw [cell_of_row _ _ _ _ _ _ hT]; rfl
        have HACC := Lib.hid hacc
        have HO := Lib.hid hO
        have HJ := Lib.hid hJ
        have HR := Lib.hid hR
        have HT := Lib.hid hT
        have HU := Lib.hid hU
        have HB := Lib.hid hB
        clear hacc hO hJ hR hT hU hB
        by_cases hlt : (j : Int) < c
        · have hstep : c.toNat - j = (c.toNat - (j + 1)) + 1 := by omega
          by_cases hjM : j < M
          · have hjMI : ¬ ((M : Int) ≤ (j : Int)) := by omega
            have hjMI2 : (j : Int) < (M : Int) := by omega
            have hvr := HV.out.below HB.out
            obtain ⟨sg', so', x1, n1, c1, e, hcj, hsj⟩ := hvr.get (i := j) (by rw [HM.out]; exact hjM)
            cases e
            obtain ⟨b2, hb2⟩ : ∃ b2, L[j]'(by rw [HM.out]; exact hjM) = b2 := ⟨_, rfl⟩
            rw [hb2] at hsj
            have hget : L[j]? = some b2 := by rw [List.getElem?_eq_getElem (by rw [HM.out]; exact hjM), hb2]
            obtain ⟨P2, hP2⟩ : ∃ P, decP b2 = P := ⟨_, rfl⟩
            obtain ⟨E2, hE2⟩ : ∃ E, decE b2 = E := ⟨_, rfl⟩
            obtain ⟨m2, hm2⟩ : ∃ m, P2.bytes.length = m := ⟨_, rfl⟩
            have hdec : Calls Tryd.prog 56 #[.slice x1 n1 c1] wr (fun e w' => ∃ a c, e = .returned (.tuple #[.agg #[.int .i64 P2.kind, .int .i64 P2.gen, .int .i64 P2.num, .int .i64 P2.idx, .int .i64 P2.cnt, .slice a m2 c], .int .i64 E2]) ∧
                w'.ownsRow wr.heap.size 5 1 (.slice a m2 c) m2 (bvs P2.bytes) ∧ Below wr.heap.size wr w') :=
              (DecodePart_any b2 _ hsj.at_ (HK.out.below HB.out HK.out.size)).mono (fun e w' h => by have := h.parts; rwa [hP2, hE2, hm2] at this)
            have hsm2 : E2 = 0 → Small P2.kind ∧ Small P2.gen ∧ Small P2.num ∧ Small P2.idx ∧ Small P2.cnt ∧ P2.bytes.length ≤ 224 ∧ 1 ≤ P2.cnt ∧ P2.cnt ≤ 586 := fun h => by rw [← hP2]; exact decP_small (by rw [hE2]; exact h)
            have hk1 : E2 ≠ 0 → joinL L = (.zero, 0, E2) := fun h => by rw [HJ.out, hstep, joinGo, hget]; simp only; rw [if_pos (by rw [hE2]; exact h), hE2]
            have hk2 : E2 = 0 → samePl ⟨k, g, n, x, c, bs⟩ P2 j = false → joinL L = (.zero, 0, 30) := fun h h2 => by rw [HJ.out, hstep, joinGo, hget]; simp only; rw [if_neg (by rw [hE2]; exact fun h3 => h3 h), hP2, if_neg (by rw [h2]; simp)]
            have hk3 : E2 = 0 → samePl ⟨k, g, n, x, c, bs⟩ P2 j = true → joinL L = joinGo L ⟨k, g, n, x, c, bs⟩ (j + 1) (c.toNat - (j + 1)) (acc ++ P2.bytes) := fun h h2 => by rw [HJ.out, hstep, joinGo, hget]; simp only; rw [if_neg (by rw [hE2]; exact fun h3 => h3 h), hP2, if_pos h2]
            obtain ⟨k2, g2, n2, x2, c2, bs2⟩ := P2
            simp only at hdec hsm2 hk1 hk2 hk3 hm2
            unfold samePl at hk2 hk3
            simp only at hk2 hk3
            have HDEC2 := Lib.hid hdec
            have HSM2 := Lib.hid hsm2
            have HK1 := Lib.hid hk1
            have HK2 := Lib.hid hk2
            have HK3 := Lib.hid hk3
            have HM2 := Lib.hid hm2
            clear hdec hsm2 hk1 hk2 hk3 hm2 hvr hsj hb2 hget hP2 hE2 hstep
            go_wp2_with fail
            refine HDEC2.out.mono ?_
            rintro e w6 ⟨ca2, cc2, rfl, hO6, hb6⟩
            have hR6 := (hb6.block _ hqR).trans HR.out
            have hbd6 := HB.out.trans (hb6.mono HB.out.size)
            have hq6 := hb6.size
            have hqR6 : w.heap.size < w6.heap.size := by omega
            have hrf : ∀ j : Nat, w6.frozen? ⟨w.heap.size, j, none⟩ = false := fun j => frozen_of_row _ _ _ _ _ hR6
            have hy0 : w6.cell? ⟨w.heap.size, 0, none⟩ = some (.int .i64 0) := by rw [cell_of_row _ _ _ _ _ _ hR6]; rfl
            have hy1 : w6.cell? ⟨w.heap.size, 1, none⟩ = some (.int .i64 0) := by rw [cell_of_row _ _ _ _ _ _ hR6]; rfl
            have hy2 : w6.cell? ⟨w.heap.size, 2, none⟩ = some (.int .i64 0) := by rw [cell_of_row _ _ _ _ _ _ hR6]; rfl
            have hy3 : w6.cell? ⟨w.heap.size, 3, none⟩ = some (.slice none 0 0) := by rw [cell_of_row _ _ _ _ _ _ hR6]; rfl
            by_cases hE2 : E2 = 0
            · subst hE2
              obtain ⟨sk2, sg2, sn2, sx2, sc2, hm2224, _, _⟩ := HSM2.out (by simp)
              have hT6 := (hb6.block _ hqT).trans HT.out
              have hU6 := (hb6.block _ hqU).trans HU.out
              have hO6b := own_kept HO.out hb6
              obtain ⟨wa, hwa⟩ : ∃ wa, w6.setCell ⟨w4.heap.size, 3, none⟩ (.int .i64 (j : Int)) = wa := ⟨_, rfl⟩
              have hcs : Chg (fun k => k = w4.heap.size) w6 wa := hwa ▸ Chg.setCell _ _ rfl
              have hsa : wa.heap.size = w6.heap.size := by rw [← hwa]; simp [World.setCell]
              obtain ⟨w7, hw7⟩ : ∃ w7, wa.alloc (.cells #[.int .i64 k2, .int .i64 g2, .int .i64 n2, .int .i64 x2, .int .i64 c2, .slice ca2 m2 cc2] 101) = w7 := ⟨_, rfl⟩
              have hba : Below wa.heap.size wa w7 := hw7 ▸ (Below.refl _ _).alloc (Nat.le_refl _) _
              have hUa : wa.heap[w4.heap.size]? = some (.cells #[.int .i64 k, .int .i64 g, .int .i64 n, .int .i64 (j : Int), .int .i64 c] 133 (0, 0)) := by rw [← hwa]; exact heap_setCell_same _ _ 3 _ _ (.int .i64 (j : Int)) hU6
              have hU7 := (hba.block _ (by omega)).trans hUa
              have hT7 := (hba.block _ (by omega)).trans ((hcs.block w2.heap.size (by omega) (by omega)).trans hT6)
              have hR7 := (hba.block _ (by omega)).trans ((hcs.block w.heap.size (by omega) (by omega)).trans hR6)
              have hQ7 : w7.heap[w6.heap.size]? = some (.cells #[.int .i64 k2, .int .i64 g2, .int .i64 n2, .int .i64 x2, .int .i64 c2, .slice ca2 m2 cc2] 101 (0, 0)) := by rw [← hw7, ← hsa]; exact heap_alloc_new _ _
              have hO7 := own_kept (ownsRow_chg' hO6b hcs (fun k hk h => own_ne hO6b hU6 (by decide) k hk h)) hba
              have hP7 := own_kept (ownsRow_chg' hO6 hcs (fun k hk h => own_ne hO6 hU6 (by decide) k hk h)) hba
              have hbd7 := (below_chg hbd6 hcs (by omega) (Nat.le_refl _)).trans (hba.mono (by omega))
              have hs7 : w7.heap.size = w6.heap.size + 1 := by rw [← hw7, World.size_alloc, hsa]
              have hu3 : w6.cell? ⟨w4.heap.size, 3, none⟩ = some (.int .i64 y) := by rw [cell_of_row _ _ _ _ _ _ hU6]; rfl
              have huf : w6.frozen? ⟨w4.heap.size, 3, none⟩ = false := frozen_of_row _ _ _ _ _ hU6
              have hqU6 : w4.heap.size < w6.heap.size := by omega
              have hne4 : w4.heap.size ≠ w6.heap.size := by omega
              have hw7' : (w6.setCell ⟨w4.heap.size, 3, none⟩ (.int .i64 (j : Int))).alloc (.cells #[.int .i64 k2, .int .i64 g2, .int .i64 n2, .int .i64 x2, .int .i64 c2, .slice ca2 m2 cc2] 101) = w7 := by rw [hwa]; exact hw7
              have HW7 := Lib.hid hw7'
              have HU7 := Lib.hid hU7
              have HT7 := Lib.hid hT7
              have HR7 := Lib.hid hR7
              have HQ7 := Lib.hid hQ7
              have HO7 := Lib.hid hO7
              have HP7 := Lib.hid hP7
              have HBD7 := Lib.hid hbd7
              have hq7s := hs7
              have HS7 := Lib.hid hs7
              clear hO6 hb6 hR6 hbd6 hT6 hU6 hO6b hw7 hw7' hwa hsa hba hcs hUa hU7 hT7 hR7 hQ7 hO7 hP7 hbd7 hs7 hrf hy0 hy1 hy2 hy3
              go_wp2_with fail
              rw [HW7.out]
              have hneq := neq_place sk sg' sn (i := (j : Int)) ⟨by omega, by omega⟩ sc sk2 sg2 sn2 sx2 sc2
              have HNEQ := Lib.hid hneq
              have HPL2 := Lib.hid (place_any k2 g2 n2 x2 c2 ca2 m2 cc2)
              have hcell : ∀ w' : World, Below w7.heap.size w7 w' → (w'.heap[w6.heap.size]? = some (.cells #[.int .i64 k2, .int .i64 g2, .int .i64 n2, .int .i64 x2, .int .i64 c2, .slice ca2 m2 cc2] 101 (0, 0)) ∧ w'.heap[w4.heap.size]? = some (.cells #[.int .i64 k, .int .i64 g, .int .i64 n, .int .i64 (j : Int), .int .i64 c] 133 (0, 0))) := fun w' h =>
                ⟨(h.block _ (by omega)).trans HQ7.out, (h.block _ (by omega)).trans HU7.out⟩
              have HCELL := Lib.hid hcell
              clear hneq hcell hu3 huf
              refine wp_region_noPanic ?_
              refine wp_region_H (Below w7.heap.size w7) (by kernel_rfl) ?_
              have hS0 : (Below w7.heap.size w7) w7.drew := (Below.refl _ _).drew
              obtain ⟨wd, hwd⟩ : ∃ wd, w7.drew = wd := ⟨_, rfl⟩
              rw [hwd] at hS0 ⊢
              clear hwd
              refine wpAnyH_takeI (i := 0) (v := ?v1) rfl (by kernel_rfl) (by kernel_rfl) (by kernel_rfl) (fun _ _ _ h => h) (yieldsIf_run rfl (fun w' hw' => ?y1)) hS0 ?_
              case y1 => (have h9 := (HCELL.out w' hw').1; have q0 : w'.cell? ⟨w6.heap.size, 0, none⟩ = some (.int .i64 k2) := (by rw [cell_of_row _ _ _ _ _ _ h9]; rfl); have q1 : w'.cell? ⟨w6.heap.size, 1, none⟩ = some (.int .i64 g2) := (by rw [cell_of_row _ _ _ _ _ _ h9]; rfl); have q2 : w'.cell? ⟨w6.heap.size, 2, none⟩ = some (.int .i64 n2) := (by rw [cell_of_row _ _ _ _ _ _ h9]; rfl); have q3 : w'.cell? ⟨w6.heap.size, 3, none⟩ = some (.int .i64 x2) := (by rw [cell_of_row _ _ _ _ _ _ h9]; rfl); have q4 : w'.cell? ⟨w6.heap.size, 4, none⟩ = some (.int .i64 c2) := (by rw [cell_of_row _ _ _ _ _ _ h9]; rfl); have q5 : w'.cell? ⟨w6.heap.size, 5, none⟩ = some (.slice ca2 m2 cc2) := (by rw [cell_of_row _ _ _ _ _ _ h9]; rfl); clear h9; clear hw'; first | (go_simp; rfl) | (go_simp; done))
              simp only [Act.put, List.setIfInBounds_toArray, List.set_cons_zero, List.set_cons_succ]
              refine wpAnyH_takeI (i := 2) (v := ?v2) rfl (by kernel_rfl) (by kernel_rfl) (by kernel_rfl) (fun _ _ _ h => h) (yieldsIf_run rfl (fun w' hw' => ?y2)) hS0 ?_
              case y2 => (have h9 := (HCELL.out w' hw').2; have q0 : w'.cell? ⟨w4.heap.size, 0, none⟩ = some (.int .i64 k) := (by rw [cell_of_row _ _ _ _ _ _ h9]; rfl); have q1 : w'.cell? ⟨w4.heap.size, 1, none⟩ = some (.int .i64 g) := (by rw [cell_of_row _ _ _ _ _ _ h9]; rfl); have q2 : w'.cell? ⟨w4.heap.size, 2, none⟩ = some (.int .i64 n) := (by rw [cell_of_row _ _ _ _ _ _ h9]; rfl); have q3 : w'.cell? ⟨w4.heap.size, 3, none⟩ = some (.int .i64 (j : Int)) := (by rw [cell_of_row _ _ _ _ _ _ h9]; rfl); have q4 : w'.cell? ⟨w4.heap.size, 4, none⟩ = some (.int .i64 c) := (by rw [cell_of_row _ _ _ _ _ _ h9]; rfl); clear h9; clear hw'; first | (go_simp; rfl) | (go_simp; done))
              simp only [Act.put, List.setIfInBounds_toArray, List.set_cons_zero, List.set_cons_succ]
              refine wpAnyH_do (i := 1) (by kernel_rfl) rfl rfl (fun K hK => ?_)
              go_simp
              go_at_call 73
              refine (HPL2.out wd).mono ?_
              rintro e w8 ⟨rfl, hb8⟩
              have hS1 := hS0.trans (hb8.mono hS0.size)
              refine hK _ _ (hS1) ?_
              clear hK K
              try simp only [Act.put, List.setIfInBounds_toArray, List.set_cons_zero, List.set_cons_succ]
              refine wpAnyH_do (i := 3) (by kernel_rfl) rfl rfl (fun K hK => ?_)
              refine wp_known _ (rop_neq 133 (.tmp 60) (.tmp 61) 133 rfl rfl rfl guard_place (HNEQ.out w8)) ?_
              refine hK _ _ (hS1) ?_
              clear hK K
              try simp only [Act.put, List.setIfInBounds_toArray, List.set_cons_zero, List.set_cons_succ]
              refine wpAnyH_done (by kernel_rfl) ?_ _
              refine NoPanic.normal ?_
              have hR8 := (hS1.block w.heap.size (by omega)).trans HR7.out
              have hbd8 := HBD7.out.trans (hS1.mono HBD7.out.size)
              have hrf : ∀ j : Nat, w8.frozen? ⟨w.heap.size, j, none⟩ = false := fun j => frozen_of_row _ _ _ _ _ hR8
              have hy0 : w8.cell? ⟨w.heap.size, 0, none⟩ = some (.int .i64 0) := by rw [cell_of_row _ _ _ _ _ _ hR8]; rfl
              have hy1 : w8.cell? ⟨w.heap.size, 1, none⟩ = some (.int .i64 0) := by rw [cell_of_row _ _ _ _ _ _ hR8]; rfl
              have hy2 : w8.cell? ⟨w.heap.size, 2, none⟩ = some (.int .i64 0) := by rw [cell_of_row _ _ _ _ _ _ hR8]; rfl
              have hy3 : w8.cell? ⟨w.heap.size, 3, none⟩ = some (.slice none 0 0) := by rw [cell_of_row _ _ _ _ _ _ hR8]; rfl
              by_cases hsame : (k2 == k && g2 == g && n2 == n && x2 == (j : Int) && c2 == c) = true
              · have hk3 := HK3.out (by simp) hsame
                have hO8 := own_kept HO7.out hS1
                have hP8 := own_kept HP7.out hS1
                have hT8 := (hS1.block w2.heap.size (by omega)).trans HT7.out
                have hU8 := (hS1.block w4.heap.size (by omega)).trans HU7.out
                have hQ8 := (hS1.block w6.heap.size (by omega)).trans HQ7.out
                have hq5 : w8.cell? ⟨w6.heap.size, 5, none⟩ = some (.slice ca2 m2 cc2) := by rw [cell_of_row _ _ _ _ _ _ hQ8]; rfl
                have hpb := own_bytesN hP8
                rw [hsame]
                have HKK := Lib.hid hk3
                have HO8 := Lib.hid hO8
                have HPB := Lib.hid hpb
                have HT8 := Lib.hid hT8
                have HU8 := Lib.hid hU8
                have HR8 := Lib.hid hR8
                have HBD8 := Lib.hid hbd8
                clear hk3 hO8 hP8 hT8 hU8 hQ8 hpb hR8 hbd8 hb8 hS0 hS1 hsame hrf hy0 hy1 hy2 hy3
                go_wp2_with (at_builtin; refine wpList_appBytes rfl (.tmp 64) (.tmp 66) rfl rfl HO8.out rfl HPB.out.at_ HPB.out.nil (by have := HM2.out; omega) HBD8.out.size ?_)
                intro a9 cap9 w9 hO9 hg9
                rw [HM2.out] at hO9 ⊢
                have hB9 := HBD8.out.trans (grown_below HO8.out hg9 HBD8.out.size)
                have keep : ∀ {b : Nat} {c : Array Value} {T : TypeId}, w8.heap[b]? = some (.cells c T (0, 0)) → 5 ≠ T → w9.heap[b]? = some (.cells c T (0, 0)) := fun h hne => (hg9.block _ (Array.getElem?_eq_some_iff.1 h).1 (fun e => own_ne HO8.out h hne _ e.symm rfl)).trans h
                have hR9 := keep HR8.out (by decide)
                have hT9 := keep HT8.out (by decide)
                have hU9 := keep HU8.out (by decide)
                have HO9 := Lib.hid hO9
                have HB9 := Lib.hid hB9
                have HR9 := Lib.hid hR9
                have HT9 := Lib.hid hT9
                have HU9 := Lib.hid hU9
                clear hO9 hg9 hB9 hR9 hT9 hU9 keep
                go_wp2_with fail
                go_roundw
                case rel => exact ⟨j + 1, acc ++ bs2, N + m2, (j : Int), a9, cap9, by omega, by omega, by go_num, rfl, by rw [List.length_append, HACC.out, HM2.out], by have := HM2.out; omega, HO9.out, HKK.out, HR9.out, HT9.out, HU9.out, HB9.out⟩
                case measure => simp [intOf]; omega
              · have hs' : (k2 == k && g2 == g && n2 == n && x2 == (j : Int) && c2 == c) = false := by simpa using hsame
                have hk2 := HK2.out (by simp) hs'
                have HKK := Lib.hid hk2
                have HBD8 := Lib.hid hbd8
                rw [hs']
                clear hk2 hs' hsame hR8 hbd8 hb8 hS0 hS1
                go_wp2_with fail
                exact bodyPost_ret (v := .tuple #[.agg #[.int .i64 0, .int .i64 0, .int .i64 0, .slice none 0 0], .int .i64 0, .int .i64 30]) (by simp [results, Tryd.results74, go_sem, hy0, hy1, hy2, hy3]) rfl (JoinPost.no HKK.out (by first | exact (((((HBD8.out).setCell (Nat.le_refl _) _).setCell (Nat.le_refl _) _).setCell (Nat.le_refl _) _).setCell (Nat.le_refl _) _) | exact below_z HBD8.out (Nat.le_refl _) (Nat.le_refl _) _ _ _ _ _))
            · have hk1 := HK1.out hE2
              have hE2b : (E2 != 0) = true := by simpa using hE2
              have HKK := Lib.hid hk1
              have HBD6 := Lib.hid hbd6
              clear hk1 hE2 hO6 hb6 hR6 hbd6
              go_wp2_with fail
              exact bodyPost_ret (v := .tuple #[.agg #[.int .i64 0, .int .i64 0, .int .i64 0, .slice none 0 0], .int .i64 0, .int .i64 E2]) (by simp [results, Tryd.results74, go_sem, hy0, hy1, hy2, hy3, hqR6]) rfl (JoinPost.no HKK.out (by first | exact (((((HBD6.out.alloc HBD6.out.size _).setCell (Nat.le_refl _) _).setCell (Nat.le_refl _) _).setCell (Nat.le_refl _) _).setCell (Nat.le_refl _) _) | exact below_z HBD6.out (Nat.le_refl _) (Nat.le_refl _) _ _ _ _ _))
          · have hjMI : (M : Int) ≤ (j : Int) := by omega
            have hk : joinL L = (.zero, 0, 23) := by
              rw [HJ.out, hstep, joinGo, List.getElem?_eq_none (by rw [HM.out]; omega)]
            have HKK := Lib.hid hk
            clear hk hstep
            go_wp2_with fail
            exact bodyPost_ret (v := .tuple #[.agg #[.int .i64 0, .int .i64 0, .int .i64 0, .slice none 0 0], .int .i64 0, .int .i64 23]) (by simp [results, Tryd.results74, go_sem, hy0, hy1, hy2, hy3]) rfl (JoinPost.no HKK.out (by first | exact (((((HB.out).setCell (Nat.le_refl _) _).setCell (Nat.le_refl _) _).setCell (Nat.le_refl _) _).setCell (Nat.le_refl _) _) | exact below_z HB.out (Nat.le_refl _) (Nat.le_refl _) _ _ _ _ _))
        · obtain rfl : (j : Int) = c := by omega
          have hres : joinL L = (⟨k, g, n, acc⟩, j, 0) := by
            rw [HJ.out]
            have e : (j : Int).toNat - j = 0 := by omega
            rw [e, joinGo]
            simp
          have HRES := Lib.hid hres
          clear hres
          have hcell : ∀ w' : World, Chg (fun k => k = w.heap.size) wr w' → w'.heap[w2.heap.size]? = some (.cells #[.int .i64 k, .int .i64 g, .int .i64 n, .int .i64 x, .int .i64 (j : Int), .slice ca m cc] 101 (0, 0)) := fun w' h => (h.block _ hqT (by omega)).trans HT.out
          have HCELL := Lib.hid hcell
          clear hcell
          go_wp2_with fail
          refine wp_region_noPanic ?_
          refine wp_region_F 12 (Chg (fun k => k = w.heap.size) wr) (by kernel_rfl) ?_
          have hS0 : (Chg (fun k => k = w.heap.size) wr) wr.drew := (Chg.refl _ _).drew
          have hRd : wr.drew.heap[w.heap.size]? = some (.cells #[.int .i64 0, .int .i64 0, .int .i64 0, .slice none 0 0] 88 (0, 0)) := HR.out
          obtain ⟨wd, hwd⟩ : ∃ wd, wr.drew = wd := ⟨_, rfl⟩
          rw [hwd] at hS0 hRd ⊢
          have hBd : Below w.heap.size w wd := hwd ▸ HB.out.drew
          have hOd : wd.ownsRow w.heap.size 5 1 (.slice pa N pc) N (bvs acc) := hwd ▸ own_kept HO.out (show Below wr.heap.size wr wr.drew from (Below.refl _ _).drew)
          clear hwd
          refine wpAnyF_take (i := 0) (fin := 12) (v := ?v3) rfl (by kernel_rfl) (by kernel_rfl) (by kernel_rfl) (by kernel_rfl) (fun _ _ _ h => h) (yieldsIf_run rfl (fun w' hw' => ?y3)) hS0 ?_
          case y3 => first | (go_simp; rfl) | (go_simp; done) | rfl
          simp only [Act.put, List.setIfInBounds_toArray, List.set_cons_zero, List.set_cons_succ]
          refine wpAnyF_take (i := 1) (fin := 12) (v := ?v4) rfl (by kernel_rfl) (by kernel_rfl) (by kernel_rfl) (by kernel_rfl) (fun _ _ _ h => h) (yieldsIf_run rfl (fun w' hw' => ?y4)) hS0 ?_
          case y4 => (have h9 := HCELL.out w' hw'; have q0 : w'.cell? ⟨w2.heap.size, 0, none⟩ = some (.int .i64 k) := (by rw [cell_of_row _ _ _ _ _ _ h9]; rfl); clear h9; clear hw'; first | (go_simp; rfl) | (go_simp; done))
          simp only [Act.put, List.setIfInBounds_toArray, List.set_cons_zero, List.set_cons_succ]
          refine wpAnyF_take (i := 2) (fin := 12) (v := ?v5) rfl (by kernel_rfl) (by kernel_rfl) (by kernel_rfl) (by kernel_rfl) (fun _ _ _ h => h) (yieldsIf_run rfl (fun w' hw' => ?y5)) hS0 ?_
          case y5 => first | (go_simp; rfl) | (go_simp; done) | rfl
          simp only [Act.put, List.setIfInBounds_toArray, List.set_cons_zero, List.set_cons_succ]
          refine wpAnyF_take (i := 3) (fin := 12) (v := ?v6) rfl (by kernel_rfl) (by kernel_rfl) (by kernel_rfl) (by kernel_rfl) (fun _ _ _ h => h) (yieldsIf_run rfl (fun w' hw' => ?y6)) hS0 ?_
          case y6 => (have h9 := HCELL.out w' hw'; have q1 : w'.cell? ⟨w2.heap.size, 1, none⟩ = some (.int .i64 g) := (by rw [cell_of_row _ _ _ _ _ _ h9]; rfl); clear h9; clear hw'; first | (go_simp; rfl) | (go_simp; done))
          simp only [Act.put, List.setIfInBounds_toArray, List.set_cons_zero, List.set_cons_succ]
          refine wpAnyF_take (i := 4) (fin := 12) (v := ?v7) rfl (by kernel_rfl) (by kernel_rfl) (by kernel_rfl) (by kernel_rfl) (fun _ _ _ h => h) (yieldsIf_run rfl (fun w' hw' => ?y7)) hS0 ?_
          case y7 => first | (go_simp; rfl) | (go_simp; done) | rfl
          simp only [Act.put, List.setIfInBounds_toArray, List.set_cons_zero, List.set_cons_succ]
          refine wpAnyF_take (i := 5) (fin := 12) (v := ?v8) rfl (by kernel_rfl) (by kernel_rfl) (by kernel_rfl) (by kernel_rfl) (fun _ _ _ h => h) (yieldsIf_run rfl (fun w' hw' => ?y8)) hS0 ?_
          case y8 => (have h9 := HCELL.out w' hw'; have q2 : w'.cell? ⟨w2.heap.size, 2, none⟩ = some (.int .i64 n) := (by rw [cell_of_row _ _ _ _ _ _ h9]; rfl); clear h9; clear hw'; first | (go_simp; rfl) | (go_simp; done))
          simp only [Act.put, List.setIfInBounds_toArray, List.set_cons_zero, List.set_cons_succ]
          refine wpAnyF_take (i := 6) (fin := 12) (v := ?v9) rfl (by kernel_rfl) (by kernel_rfl) (by kernel_rfl) (by kernel_rfl) (fun _ _ _ h => h) (yieldsIf_run rfl (fun w' hw' => ?y9)) hS0 ?_
          case y9 => first | (go_simp; rfl) | (go_simp; done) | rfl
          simp only [Act.put, List.setIfInBounds_toArray, List.set_cons_zero, List.set_cons_succ]
          refine wpAnyF_take (i := 7) (fin := 12) (v := ?v10) rfl (by kernel_rfl) (by kernel_rfl) (by kernel_rfl) (by kernel_rfl) (fun _ _ _ h => h) (yieldsIf_run rfl (fun w' hw' => ?y10)) hS0 ?_
          case y10 => first | (go_simp; rfl) | (go_simp; done) | rfl
          simp only [Act.put, List.setIfInBounds_toArray, List.set_cons_zero, List.set_cons_succ]
          refine wpAnyF_take (i := 8) (fin := 12) (v := ?v11) rfl (by kernel_rfl) (by kernel_rfl) (by kernel_rfl) (by kernel_rfl) (fun _ _ _ h => h) (yieldsIf_run rfl (fun w' hw' => ?y11)) hS0 ?_
          case y11 => first | (go_simp; rfl) | (go_simp; done) | rfl
          simp only [Act.put, List.setIfInBounds_toArray, List.set_cons_zero, List.set_cons_succ]
          refine wpAnyF_take (i := 9) (fin := 12) (v := ?v12) rfl (by kernel_rfl) (by kernel_rfl) (by kernel_rfl) (by kernel_rfl) (fun _ _ _ h => h) (yieldsIf_run rfl (fun w' hw' => ?y12)) hS0 ?_
          case y12 => (have h9 := HCELL.out w' hw'; have q4 : w'.cell? ⟨w2.heap.size, 4, none⟩ = some (.int .i64 (j : Int)) := (by rw [cell_of_row _ _ _ _ _ _ h9]; rfl); clear h9; clear hw'; first | (go_simp; rfl) | (go_simp; done))
          simp only [Act.put, List.setIfInBounds_toArray, List.set_cons_zero, List.set_cons_succ]
          have hrfd : ∀ j : Nat, wd.frozen? ⟨w.heap.size, j, none⟩ = false := fun j => frozen_of_row _ _ _ _ _ hRd
          have hz0 : wd.cell? ⟨w.heap.size, 0, none⟩ = some (.int .i64 0) := by rw [cell_of_row _ _ _ _ _ _ hRd]; rfl
          have hz1 : wd.cell? ⟨w.heap.size, 1, none⟩ = some (.int .i64 0) := by rw [cell_of_row _ _ _ _ _ _ hRd]; rfl
          have hz2 : wd.cell? ⟨w.heap.size, 2, none⟩ = some (.int .i64 0) := by rw [cell_of_row _ _ _ _ _ _ hRd]; rfl
          have hz3 : wd.cell? ⟨w.heap.size, 3, none⟩ = some (.slice none 0 0) := by rw [cell_of_row _ _ _ _ _ _ hRd]; rfl
          refine wpAnyF_do (i := 10) (by kernel_rfl) rfl rfl (fun K hK => ?_)
          go_simp
          obtain ⟨we, hwe⟩ : ∃ we, ((((wd.setCell ⟨w.heap.size, 0, none⟩ (.int .i64 k)).setCell ⟨w.heap.size, 1, none⟩ (.int .i64 g)).setCell ⟨w.heap.size, 2, none⟩ (.int .i64 n)).setCell ⟨w.heap.size, 3, none⟩ (.slice pa N pc)) = we := ⟨_, rfl⟩
          have hce : Chg (fun k => k = w.heap.size) wd we := hwe ▸ chg4 _ _ _ _ _ _
          have hRe : we.heap[w.heap.size]? = some (.cells #[.int .i64 k, .int .i64 g, .int .i64 n, .slice pa N pc] 88 (0, 0)) := by
            rw [← hwe]
            exact heap_setCell_same _ _ 3 _ _ _ (heap_setCell_same _ _ 2 _ _ _ (heap_setCell_same _ _ 1 _ _ _ (heap_setCell_same _ _ 0 _ _ _ hRd)))
          have hSe : Chg (fun k => k = w.heap.size) wr we := hS0.trans hce (fun _ h => .inl h)
          try rw [hwe]
          refine hK _ _ (fun _ => hSe) ?_
          clear hK K
          try simp only [Act.put, List.setIfInBounds_toArray, List.set_cons_zero, List.set_cons_succ]
          refine wpAnyF_do (i := 11) (by kernel_rfl) rfl rfl (fun K hK => ?_)
          go_simp
          refine hK _ _ (fun _ => hSe) ?_
          clear hK K
          try simp only [Act.put, List.setIfInBounds_toArray, List.set_cons_zero, List.set_cons_succ]
          refine wpAnyF_do (i := 12) (by kernel_rfl) rfl rfl (fun K hK => ?_)
          go_simp
          refine hK _ _ (fun h => absurd rfl h) ?_
          clear hK K
          refine wpAnyF_done (by kernel_rfl) ?_ _
          refine NoPanic.normal ?_
          have hOe := ownsRow_chg' hOd hce (fun k hk h => own_ne hOd hRd (by decide) k hk h)
          have hBe := below_chg hBd hce (Nat.le_refl _) (Nat.le_refl _)
          have hw0 : we.cell? ⟨w.heap.size, 0, none⟩ = some (.int .i64 k) := by rw [cell_of_row _ _ _ _ _ _ hRe]; rfl
          have hw1 : we.cell? ⟨w.heap.size, 1, none⟩ = some (.int .i64 g) := by rw [cell_of_row _ _ _ _ _ _ hRe]; rfl
          have hw2 : we.cell? ⟨w.heap.size, 2, none⟩ = some (.int .i64 n) := by rw [cell_of_row _ _ _ _ _ _ hRe]; rfl
          have hw3 : we.cell? ⟨w.heap.size, 3, none⟩ = some (.slice pa N pc) := by rw [cell_of_row _ _ _ _ _ _ hRe]; rfl
          clear hz0 hz1 hz2 hz3 hy0 hy1 hy2 hy3
          have HOE := Lib.hid hOe
          have HBE := Lib.hid hBe
          clear hOd hRd hBd hOe hBe hce hRe hSe hS0
          go_wp2_with fail
          exact bodyPost_ret (v := .tuple #[.agg #[.int .i64 k, .int .i64 g, .int .i64 n, .slice pa N pc], .int .i64 (j : Int), .int .i64 0]) (by simp [results, Tryd.results74, go_sem, hw0, hw1, hw2, hw3]) rfl (JoinPost.yes HRES.out HACC.out HOE.out HBE.out)
    · have hxb : (x != 0) = true := by simpa using hx
      have hj := HJ2.out (by simp) hx
      have HJ := Lib.hid hj
      clear hj hx
      go_wp2_with fail
      exact bodyPost_ret (v := .tuple #[.agg #[.int .i64 0, .int .i64 0, .int .i64 0, .slice none 0 0], .int .i64 0, .int .i64 30]) (by simp [results, Tryd.results74, go_sem, hy0, hy1, hy2, hy3, hlt4]) rfl (JoinPost.no HJ.out (by first | exact (((((HBD4.out.alloc HBD4.out.size _).setCell (Nat.le_refl _) _).setCell (Nat.le_refl _) _).setCell (Nat.le_refl _) _).setCell (Nat.le_refl _) _) | exact below_z HBD4.out (Nat.le_refl _) (Nat.le_refl _) _ _ _ _ _))
  · have hEb : (E0 != 0) = true := by simpa using hE
    have hj := HJ1.out hE
    have HJ := Lib.hid hj
    clear hj hE
    go_wp2_with fail
    exact bodyPost_ret (v := .tuple #[.agg #[.int .i64 0, .int .i64 0, .int .i64 0, .slice none 0 0], .int .i64 0, .int .i64 E0]) (by simp [results, Tryd.results74, go_sem, hy0, hy1, hy2, hy3, hlt2]) rfl (JoinPost.no HJ.out (by first | exact (((((HBD2.out.alloc HBD2.out.size _).setCell (Nat.le_refl _) _).setCell (Nat.le_refl _) _).setCell (Nat.le_refl _) _).setCell (Nat.le_refl _) _) | exact below_z HBD2.out (Nat.le_refl _) (Nat.le_refl _) _ _ _ _ _))

end Go.Proofs.YtplclpileejemaaDoor

namespace Go.Proofs.YtplclpileejemaaDoor
open Go.RowKit
set_option linter.unusedVariables false
set_option linter.unusedSimpArgs false

theorem Join_any {w : World} (L : List (List UInt8)) (v : Value) (hv : SecsAt w v L) (hM0 : L.length < 1000000000) (hK : KAt w) : Calls Tryd.prog 74 #[v] w (JoinPost w L) := by
  cases L with
  | nil => obtain ⟨a, c, rfl⟩ := hv.form; exact Join_nil a c
  | cons b L' => exact Join_cons b L' v hv hM0 hK

end Go.Proofs.YtplclpileejemaaDoor
