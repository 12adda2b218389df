/- Records: how places compare; what both Joins return. -/
import Derived.Test.YtloaenknhkfaeaaDoorRec14
import Derived.DeepKeys
import Derived.ChangeSlices
import Derived.Laws.StructEq
namespace Go.Proofs.YtloaenknhkfaeaaDoor
open Go.RowKit Go.ChangeShapes
set_option linter.unusedVariables false
set_option linter.unusedSimpArgs false

theorem cellsOf_i : Tryd.prog.cellsOf 3 = 1 := by kernel_rfl
theorem cellsOf_label : Tryd.prog.cellsOf 98 = 3 := by kernel_rfl
theorem cellsOf_place : Tryd.prog.cellsOf 100 = 5 := by kernel_rfl
theorem keyLits_i {n : Int} (h0 : 0 ≤ n) (h1 : n ≤ 2147483647) (d : Nat) : Tryd.prog.keyLits (d + 1) 3 [.int .i64 n] = some [.int .i64 n] := by
  have hw : (Lit.int .i64 n).wf = true := by
    simp [Lit.wf, IntKind.min, IntKind.max, IntKind.signed, IntKind.bits]
    omega
  simp [Program.keyLits, Tryd.underlying3, hw]
def Small (n : Int) : Prop := 0 ≤ n ∧ n ≤ 2147483647
theorem keyLits_label {k g n : Int} (hk : Small k) (hg : Small g) (hn : Small n) : Tryd.prog.keyLits 2 98 [.int .i64 k, .int .i64 g, .int .i64 n] = some [.int .i64 k, .int .i64 g, .int .i64 n] := by
  unfold Program.keyLits
  rw [Tryd.underlying98]
  have e0 : ([.int .i64 k, .int .i64 g, .int .i64 n] : List Value).length = 3 := rfl
  simp only [e0, cellsOf_label, true_and]
  simp only [List.mapM_cons, List.mapM_nil, cellsOf_i, List.drop_zero, List.take_succ_cons, List.take_zero, List.drop_succ_cons, keyLits_i hk.1 hk.2 0, keyLits_i hg.1 hg.2 0, keyLits_i hn.1 hn.2 0]
  simp
theorem keyLits_place {k g n i c : Int} (hk : Small k) (hg : Small g) (hn : Small n) (hi : Small i) (hc : Small c) :
    Tryd.prog.keyLits 3 100 [.int .i64 k, .int .i64 g, .int .i64 n, .int .i64 i, .int .i64 c] = some [.int .i64 k, .int .i64 g, .int .i64 n, .int .i64 i, .int .i64 c] := by
  unfold Program.keyLits
  rw [Tryd.underlying100]
  have e0 : ([.int .i64 k, .int .i64 g, .int .i64 n, .int .i64 i, .int .i64 c] : List Value).length = 5 := rfl
  simp only [e0, cellsOf_place, true_and]
  simp only [List.mapM_cons, List.mapM_nil, cellsOf_i, cellsOf_label, List.drop_zero, List.take_succ_cons, List.take_zero, List.drop_succ_cons, keyLits_label hk hg hn, keyLits_i hi.1 hi.2 1, keyLits_i hc.1 hc.2 1]
  simp
theorem formed_place (a b c d e : Value) : (Value.agg #[a, b, c, d, e]).formed Tryd.prog 100 = true := by
  unfold Value.formed
  rw [Tryd.underlying100]
  simp [cellsOf_place]
theorem keyType_place : Tryd.prog.keyTypeAt 5 100 = true := by kernel_rfl
theorem deep_place : EqAt Tryd.prog 10000 100 := by
  have := run_equalIn_deep 9995 5 100 keyType_place
  simpa only [Nat.reduceAdd] using this
theorem guard_place : Tryd.prog.eqGuardType Tryd.prog.depth 100 = false := by kernel_rfl
theorem neq_place {k g n i c k2 g2 n2 i2 c2 : Int} (hk : Small k) (hg : Small g) (hn : Small n) (hi : Small i) (hc : Small c) (hk2 : Small k2) (hg2 : Small g2) (hn2 : Small n2) (hi2 : Small i2) (hc2 : Small c2) (w : World) :
    (binOp .neq 100 (.agg #[.int .i64 k2, .int .i64 g2, .int .i64 n2, .int .i64 i2, .int .i64 c2]) (.agg #[.int .i64 k, .int .i64 g, .int .i64 n, .int .i64 i, .int .i64 c])).run Tryd.prog w =
      .ok (.bool (!(k2 == k && g2 == g && n2 == n && i2 == i && c2 == c))) w := by
  rw [run_neq_struct (P := Tryd.prog) w 100 _ _]
  obtain ⟨r, h1, h2⟩ := deep_place w 3 3 _ _ _ _ (formed_place _ _ _ _ _) (formed_place _ _ _ _ _) (keyLits_place hk2 hg2 hn2 hi2 hc2) (keyLits_place hk hg hn hi hc)
  rw [h1]
  have e : r = (k2 == k && g2 == g && n2 == n && i2 == i && c2 == c) := by
    rw [Bool.eq_iff_iff, h2]
    simp
    constructor
    · rintro ⟨h1, h2, h3, h4, h5⟩; exact ⟨⟨⟨⟨h1, h2⟩, h3⟩, h4⟩, h5⟩
    · rintro ⟨⟨⟨⟨h1, h2⟩, h3⟩, h4⟩, h5⟩; exact ⟨h1, h2, h3, h4, h5⟩
  rw [e]
  rfl

def recVs (r : RecD) (v : Value) : Array Value := #[.int .i64 r.kind, .int .i64 r.gen, .int .i64 r.num, v]
/-- What both Joins return. -/
def JoinPost (w : World) (L : List (List UInt8)) (e : Ending) (w' : World) : Prop :=
  ∃ a c, e = .returned (.tuple #[.agg (recVs (joinL L).1 (.slice a (joinL L).1.load.length c)), .int .i64 ((joinL L).2.1 : Int), .int .i64 (joinL L).2.2]) ∧
    w'.ownsRow w.heap.size 5 1 (.slice a (joinL L).1.load.length c) (joinL L).1.load.length (bvs (joinL L).1.load) ∧ Below w.heap.size w w'
theorem JoinPost.no {w w' : World} {L : List (List UInt8)} {k : Int} (hk : joinL L = (.zero, 0, k)) (hb : Below w.heap.size w w') :
    JoinPost w L (.returned (.tuple #[.agg #[.int .i64 0, .int .i64 0, .int .i64 0, .slice none 0 0], .int .i64 0, .int .i64 k])) w' := by
  refine ⟨none, 0, ?_, ?_, hb⟩
  · rw [hk]; rfl
  · rw [hk]; exact own_none _ _ _
theorem JoinPost.yes {w w' : World} {L : List (List UInt8)} {k g n : Int} {acc : List UInt8} {m : Nat} {a : Option Addr} {N c : Nat} (hk : joinL L = (⟨k, g, n, acc⟩, m, 0)) (hN : acc.length = N)
    (ho : w'.ownsRow w.heap.size 5 1 (.slice a N c) N (bvs acc)) (hb : Below w.heap.size w w') :
    JoinPost w L (.returned (.tuple #[.agg #[.int .i64 k, .int .i64 g, .int .i64 n, .slice a N c], .int .i64 (m : Int), .int .i64 0])) w' := by
  subst hN
  refine ⟨a, c, ?_, ?_, hb⟩
  · rw [hk]; rfl
  · rw [hk]; exact ho
/-- The fields of what a decoder returned. -/
theorem DecPost.parts {w w' : World} {l : List UInt8} {e : Ending} (h : DecPost w l e w') : ∃ a c, e = .returned (.tuple #[.agg #[.int .i64 (decP l).kind, .int .i64 (decP l).gen, .int .i64 (decP l).num, .int .i64 (decP l).idx, .int .i64 (decP l).cnt, .slice a (decP l).bytes.length c], .int .i64 (decE l)]) ∧
    w'.ownsRow w.heap.size 5 1 (.slice a (decP l).bytes.length c) (decP l).bytes.length (bvs (decP l).bytes) ∧ Below w.heap.size w w' := h
theorem decP_small {b : List UInt8} (h : decE b = 0) : Small (decP b).kind ∧ Small (decP b).gen ∧ Small (decP b).num ∧ Small (decP b).idx ∧ Small (decP b).cnt ∧ (decP b).bytes.length ≤ 224 ∧ 1 ≤ (decP b).cnt ∧ (decP b).cnt ≤ 586 := by
  have hk := decE_ok h
  have hp := hk.2.2.2.1
  rw [hk.2.2.2.2]
  have := hp.k0; have := hp.k1; have := hp.g0; have := hp.g1; have := hp.n0; have := hp.n1; have := hp.i0; have := hp.i1; have := hp.c0; have := hp.c1
  exact ⟨⟨by omega, by omega⟩, ⟨by omega, by omega⟩, ⟨by omega, by omega⟩, ⟨by omega, by omega⟩, ⟨by omega, by omega⟩, hp.len, hp.c0, hp.c1⟩

end Go.Proofs.YtloaenknhkfaeaaDoor
