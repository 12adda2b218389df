/- sparse and the reference's Sparse under one list; what the law's loop carries. -/
import Derived.Test.YtkklbmnbjmicnaaSp4
namespace Go.Proofs.Ytkklbmnbjmicnaa
open Go.RowKit Go.Shelf
set_option linter.unusedVariables false
set_option linter.unusedSimpArgs false

def lstS (S : DS) : List Nat := if S.down then [] else spK S S.dur.length
theorem lstS_length (S : DS) : (lstS S).length ≤ S.dur.length := by
  unfold lstS
  cases S.down
  · exact spK_length S _
  · simp

theorem sparse_any {w : World} {F : Nat → Prop} {b : Nat} {S : DS} (h : DiskAt w F b S) (hlen : S.pend.length < 100000000) :
    Calls Try.prog 56 #[.pointer (some ⟨b, 0, none⟩)] w fun e w' => ∃ v, e = .returned v ∧ w'.ownsRow w.heap.size 3 1 v (lstS S).length (spV (lstS S)) ∧ Below w.heap.size w w' := by
  unfold lstS
  cases hd : S.down with
  | false => exact sparse_up h hd hlen
  | true =>
    refine (sparse_down h hd).mono ?_
    rintro e w' ⟨rfl, rfl⟩
    exact ⟨_, rfl, World.ownsRow_nil _ _ _ _, Below.refl _ _⟩
theorem ref_sparse_any {w : World} {G : Nat → Prop} {S : DS} {v : Value} (h : RefAt w G S v) (hok : S.ok) (hlen : S.pend.length < 100000000) :
    Calls Try.prog 34 #[v] w fun e w' => ∃ v', e = .returned v' ∧ w'.ownsRow w.heap.size 3 1 v' (lstS S).length (spV (lstS S)) ∧ Below w.heap.size w w' := by
  unfold lstS
  cases hd : S.down with
  | false => exact ref_sparse h hok hlen hd
  | true =>
    refine (ref_sparse_down h hd).mono ?_
    rintro e w' ⟨rfl, hb⟩
    exact ⟨_, rfl, World.ownsRow_nil _ _ _ _, hb⟩

theorem CellsKept.setCell {n : Nat} (W : World) {a : Addr} (v : Value) (h : a.block < n) : CellsKept n W (W.setCell a v) := by
  refine ⟨by simp [World.setCell], fun k cs t fr hk hc => ?_⟩
  rw [heap_setCell_other W a k v (by omega)]
  exact hc

/-- Between two rounds of the law's loop. -/
def SpI (W0 : World) (Bn : Nat) (l : List Nat) (pre : List Nat) (W : World) : Prop :=
  pre.length ≤ l.length ∧ W.heap[Bn]? = some (.cells #[.int .i64 (pre.length : Int)] 3 (0, 0)) ∧ Chg (fun k => k = Bn) W0 W
/-- A round has left the loop. -/
def SpX (W0 : World) (Bn Br : Nat) (l : List Nat) (stop : Int) (c : Code) (pre : List Nat) (W : World) : Prop :=
  (c = .ret ∧ ¬ pre <+: l) ∨ (c = .exit 0 ∧ stop = (pre.length : Int) ∧ SpI W0 Bn l pre W)

theorem spI_from {W0 : World} {Bn : Nat} (hBn : Bn < W0.heap.size) (l : List Nat) : OwnFrom W0.heap.size (SpI W0 Bn l) := by
  rintro pre A B row ⟨h1, h2, h3⟩ hg hr
  refine ⟨h1, ?_, h3.trans (Chg.grown (F := fun k => row = some k) hg (fun k e => .inl e)) (fun i h => .inr (hr i h).1)⟩
  exact (hg.block _ (Array.getElem?_eq_some_iff.1 h2).1 (fun e => by have := (hr _ e.symm).1; omega)).trans h2
theorem spX_from {W0 : World} {Bn Br : Nat} (hBn : Bn < W0.heap.size) (l : List Nat) (stop : Int) (c : Code) : OwnFrom W0.heap.size (SpX W0 Bn Br l stop c) := by
  rintro pre A B row (h | ⟨h1, h2, h3⟩) hg hr
  · exact .inl h
  · exact .inr ⟨h1, h2, spI_from hBn l pre A B row h3 hg hr⟩

theorem spI_next {W0 W : World} {Bn : Nat} {l pre : List Nat} {x : Nat} (hn : W.heap[Bn]? = some (.cells #[.int .i64 (pre.length : Int)] 3 (0, 0))) (hC : Chg (fun k => k = Bn) W0 W) (hlt : pre.length < l.length) :
    SpI W0 Bn l (pre ++ [x]) (W.setCell ⟨Bn, 0, none⟩ (.int .i64 ((pre.length : Int) + 1))) := by
  refine ⟨by simp; omega, ?_, hC.trans (Chg.setCell (F := fun k => k = Bn) W _ rfl) (fun _ h => .inl h)⟩
  rw [heap_setCell_same _ _ _ _ _ _ hn]
  simp

theorem not_prefix_of {l pre : List Nat} {x : Nat} (h : l[pre.length]? ≠ some x) : ¬ pre ++ [x] <+: l := by
  rintro ⟨t, rfl⟩
  simp at h

end Go.Proofs.Ytkklbmnbjmicnaa
