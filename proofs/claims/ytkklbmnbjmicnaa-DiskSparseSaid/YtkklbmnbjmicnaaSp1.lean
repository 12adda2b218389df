/- The iterator over the numbers of the sectors that are not zero. -/
import Derived.Test.YtkklbmnbjmicnaaSort3
import Derived.Test.YtkklbmnbjmicnaaEq1
namespace Go.Proofs.Ytkklbmnbjmicnaa
open Go.RowKit Go.Shelf
set_option linter.unusedVariables false
set_option linter.unusedSimpArgs false

/-- Every block of cells at or beyond n lies as it lay. -/
def CellsKept (n : Nat) (A B : World) : Prop := A.heap.size ≤ B.heap.size ∧ ∀ k cs t fr, n ≤ k → A.heap[k]? = some (.cells cs t fr) → B.heap[k]? = some (.cells cs t fr)
theorem CellsKept.refl (n : Nat) (A : World) : CellsKept n A A := ⟨Nat.le_refl _, fun _ _ _ _ _ h => h⟩
theorem CellsKept.trans {n : Nat} {A B C : World} (h : CellsKept n A B) (h' : CellsKept n B C) : CellsKept n A C :=
  ⟨Nat.le_trans h.1 h'.1, fun k cs t fr hk hc => h'.2 k cs t fr hk (h.2 k cs t fr hk hc)⟩
theorem CellsKept.putObj {n : Nat} (W : World) (l : Nat) (o o' : Obj) (h : W.heap[l]? = some o) (ho : o.isCells = false) : CellsKept n W (W.putObj l o') := by
  refine ⟨by simp [World.putObj], fun k cs t fr _ hk => ?_⟩
  refine (World.putObj_heap_other (fun e => ?_)).trans hk
  subst e
  rw [h] at hk
  cases hk
  cases ho
theorem CellsKept.row {n B k s : Nat} {T : TypeId} {v : Value} {xs : List Value} {w w' : World} (h : w.ownsRow B T s v k xs) (hc : CellsKept n w w') (hB : n ≤ B) : w'.ownsRow B T s v k xs := by
  refine ⟨h.1, ?_⟩
  rcases h.2 with hn | ⟨g, cap, cur, e, hbg, hg, rest⟩
  · exact .inl hn
  · exact .inr ⟨g, cap, cur, e, hbg, hc.2 g _ _ _ (Nat.le_trans hB hbg) hg, rest⟩

theorem ownsRow_form {B k s : Nat} {T : TypeId} {v : Value} {xs : List Value} {w : World} (h : w.ownsRow B T s v k xs) : ∃ a cap, v = .slice a k cap := by
  rcases h.2 with ⟨rfl, rfl⟩ | ⟨g, cap, cur, rfl, _⟩
  · exact ⟨none, 0, rfl⟩
  · exact ⟨_, _, rfl⟩
def encN (x : Nat) : Array Value := #[.int .i64 (x : Int)]
theorem grownBy_below {W W' : World} (h : Below W.heap.size W W') : W.grownBy W' none := ⟨h.os, h.tape, h.output, h.size, fun k hk _ => h.block k hk⟩

set_option maxRecDepth 100000 in
set_option maxHeartbeats 2000000 in
theorem sparse1_in (lp g n₀ : Nat) (bv : Value) (l : List Nat) (hl : l.length < 1000000) (J Jx : List Nat → World → Prop)
    (hY : ∀ pre x W, J pre W → pre.length < l.length → YieldAt Fence.wide 2 Try.prog lp (encN x) W fun e W' =>
      (e = .returned (.bool true) ∧ J (pre ++ [x]) W' ∧ CellsKept n₀ W W') ∨ (e = .returned (.bool false) ∧ Jx (pre ++ [x]) W'))
    (W : World) (hn : n₀ ≤ W.heap.size) (hc : W.cell? ⟨g, 0, none⟩ = some bv) (hJ : AbidesFrom W.heap.size J)
    (hs : Calls Try.prog 56 #[bv] W fun e W' => ∃ v, e = .returned v ∧ W'.ownsRow W.heap.size 3 1 v l.length (spV l) ∧ Below W.heap.size W W') (h0 : J [] W) :
    CallsIn Fence.wide 3 Try.prog 55 #[.func (.yield lp) #[] #[], .pointer (some ⟨g, 0, none⟩)] W fun e W' => (∃ v, e = .returned v) ∧
      ((∃ ys, ys = l ∧ J ys W') ∨ (∃ pre, pre <+: l ∧ Jx pre W')) := by
  refine callsIn_of_wp Try.func55 rfl trivial ?_ rfl
  simp only [Try.ntmps55, List.size_toArray, List.length_cons, List.length_nil, Nat.reduceAdd, Nat.reduceSub, Array.replicate_succ, Array.replicate_zero, List.push_toArray, List.append_toArray, List.nil_append, List.cons_append]
  gi_wp2_with (first | (refine ⟨trivial, ?_⟩; gi_at_call 56; refine ((callsIn_wide (n := 2)).2 hs).mono ?_; rintro e W1 ⟨v, rfl, hown, hb⟩; obtain ⟨va, vc, rfl⟩ := ownsRow_form hown))
  have hJ1 : J [] W1 := hJ [] W W1 none h0 (grownBy_below hb) (fun r e => by cases e)
  gi_loopw [8] (fun i wr => ∃ k : Nat, k ≤ l.length ∧ i = .int .i64 (k : Int) ∧ J (l.take k) wr ∧ wr.ownsRow W.heap.size 3 1 (.slice va l.length vc) l.length (spV l)) (fun i _ => l.length - (intOf i).toNat)
  case atStart => exact ⟨0, Nat.zero_le _, rfl, by simpa using hJ1, hown⟩
  case round =>
    obtain ⟨k, hk, rfl, hJs, hrow⟩ := hrel
    by_cases hlt : k < l.length
    · obtain ⟨gv, cap, e1, hgv, _, hcl⟩ := ownsRow_at hrow (by omega)
      simp only [Value.slice.injEq] at e1
      obtain ⟨rfl, _, rfl⟩ := e1
      have hck : wr.cell? ⟨gv, k, none⟩ = some (.int .i64 ((l[k] : Nat) : Int)) := hcl k _ (by simp [spV, hlt])
      obtain ⟨fn, tmps, assign, body, hy, hR⟩ := hY _ l[k] wr hJs (by simp; omega)
      have hstep : l.take (k + 1) = l.take k ++ [l[k]] := by rw [List.take_add_one, List.getElem?_eq_getElem hlt]; rfl
      have HS := Lib.hid hstep
      have HROW := Lib.hid hrow
      clear hstep hcl hrow
      dsimp only [encN] at hy
      gi_wp2_with fail
      refine hR.mono ?_
      rintro e W3 (⟨rfl, hJ3, hk3⟩ | ⟨rfl, hJx3⟩)
      · gi_wp2
        go_roundw
        case rel => exact ⟨k + 1, by omega, by go_num, by rw [HS.out]; exact hJ3, CellsKept.row HROW.out hk3 hn⟩
        case measure => simp [intOf]; omega
      · gi_wp2
        refine bodyPost_ret (results_none rfl _ _ _) rfl ?_
        exact ⟨⟨_, rfl⟩, .inr ⟨_, by rw [← HS.out]; exact List.take_prefix _ _, hJx3⟩⟩
    · obtain rfl : k = l.length := by omega
      gi_wp2
      go_end0
      exact ⟨⟨_, rfl⟩, .inl ⟨_, rfl, by rwa [List.take_length] at hJs⟩⟩

end Go.Proofs.Ytkklbmnbjmicnaa
