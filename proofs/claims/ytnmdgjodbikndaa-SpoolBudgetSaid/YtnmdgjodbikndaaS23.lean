/- The spool: the iterator over its articles. -/
import Derived.Test.YtnmdgjodbikndaaS22
import Derived.Test.YtnmdgjodbikndaaS10
import Derived.Test.YtnmdgjodbikndaaRange
import Derived.LoopIn
namespace Go.Proofs.Ytnmdgjodbikndaa
open Go.RowKit
set_option linter.unusedVariables false
set_option linter.unusedSimpArgs false

def encEn (x : ArtD) : Array Value := #[.agg (entC x).toArray]
theorem OwnL.keptC {w w' : World} {n₀ B : Nat} {v : Value} {L : List ArtD} (h : OwnL entE w B v L) (hk : CellsKept n₀ w w') (hn : n₀ ≤ B) : OwnL entE w' B v L := CellsKept.row h hk hn
theorem sizeEntL (x : ArtD) : (Try.prog.info? 44).map (·.size) = some (entC x).length := by rw [entC_length]; kernel_rfl
set_option maxRecDepth 100000 in
set_option maxHeartbeats 2000000 in
theorem all1_in (lp g n₀ : Nat) (bv : Value) (l : List ArtD) (hl : l.length < 1000000) (J Jx : List ArtD → World → Prop)
    (hY : ∀ pre x W, J pre W → pre.length < l.length → YieldAt Fence.wide 2 Try.prog lp (encEn x) W fun e W' =>
      (e = .returned (.bool true) ∧ J (pre ++ [x]) W' ∧ CellsKept n₀ W W') ∨ (e = .returned (.bool false) ∧ Jx (pre ++ [x]) W'))
    (W : World) (hn : n₀ ≤ W.heap.size) (hc : W.cell? ⟨g, 0, none⟩ = some bv) (hJ : AbidesFrom W.heap.size J)
    (hs : Calls Try.prog 37 #[bv] W (EntPost W l)) (h0 : J [] W) :
    CallsIn Fence.wide 3 Try.prog 36 #[.func (.yield lp) #[] #[], .pointer (some ⟨g, 0, none⟩)] W fun e W' => (∃ v, e = .returned v) ∧
      ((∃ ys, ys = l ∧ J ys W') ∨ (∃ pre, pre <+: l ∧ Jx pre W')) := by
  refine callsIn_of_wp Try.func36 rfl trivial ?_ rfl
  simp only [Try.ntmps36, List.size_toArray, List.length_cons, List.length_nil, Nat.reduceAdd, Nat.reduceSub, Array.replicate_succ, Array.replicate_zero, List.push_toArray, List.append_toArray, List.nil_append, List.cons_append]
  gi_wp2_with (first | (refine ⟨trivial, ?_⟩; gi_at_call 37; refine ((callsIn_wide (n := 2)).2 hs).mono ?_; rintro e W1 ⟨v, rfl, hown, hb⟩; obtain ⟨va, vc, rfl⟩ := hown.form))
  have hJ1 : J [] W1 := hJ [] W W1 none h0 (grownBy_below hb) (fun r e => by cases e)
  gi_loopw [8] (fun i wr => ∃ k : Nat, k ≤ l.length ∧ i = .int .i64 (k : Int) ∧ J (l.take k) wr ∧ OwnL entE wr W.heap.size (.slice va l.length vc) l) (fun i _ => l.length - (intOf i).toNat)
  case atStart => exact ⟨0, Nat.zero_le _, rfl, by simpa using hJ1, hown⟩
  case round =>
    obtain ⟨k, hk, rfl, hJs, hrow⟩ := hrel
    by_cases hlt : k < l.length
    · have hkI : (k : Int) < (l.length : Int) := by omega
      have hk0 : (0 : Int) ≤ (k : Int) := by omega
      obtain ⟨gv, off, rfl, hgl, hr⟩ := hrow.at_.get hlt
      obtain ⟨x, hx⟩ : ∃ x, l[k] = x := ⟨_, rfl⟩
      rw [hx] at hr
      have hstep : l.take (k + 1) = l.take k ++ [x] := by rw [List.take_add_one, List.getElem?_eq_getElem hlt, hx]; rfl
      have HS := Lib.hid hstep
      have HROW := Lib.hid hrow
      have HR := Lib.hid hr
      have HJS := Lib.hid hJs
      have HX := Lib.hid hx
      clear hstep hrow hr hJs hx
      gi_wp2_with (refine wpListIn_load_mid wideF (fun _ _ h => by obtain ⟨⟨v, e⟩, _⟩ := h; cases e) rfl 44 _ rfl gv (off + k * 34) rfl (entC x) _ HR.out Try.underlying44 rfl (sizeEntL x) ?_; refine Stop.on ?_)
      refine Stop.go ?_
      try simp only [Act.put, List.setIfInBounds_toArray, List.set_cons_zero, List.set_cons_succ]
      refine wpListIn_newV wideF (fun _ _ h => by obtain ⟨⟨v, e⟩, _⟩ := h; cases e) rfl (some 4) rfl 44 rfl (entC zA).toArray 34 (by kernel_rfl) ?_
      intro w2 x2 b2 s2
      try simp only [Act.put, List.setIfInBounds_toArray, List.set_cons_zero, List.set_cons_succ]
      refine wpListIn_putV wideF (fun _ _ h => by obtain ⟨⟨v, e⟩, _⟩ := h; cases e) rfl rfl 44 (.tmp 4) (.tmp 11) rfl _ (entC x).toArray rfl rfl 44 _ x2 (sizeEnt x) (by rw [List.size_toArray, List.size_toArray, entC_length, entC_length]) (all_oneCell_toArray (entC_one x)) ?_
      intro w3 x3 c3 s3
      try simp only [Act.put, List.setIfInBounds_toArray, List.set_cons_zero, List.set_cons_succ]
      have hb3 : Below wr.heap.size wr w3 := b2.trans (c3.below (B := wr.heap.size) (fun k e => by omega) b2.size)
      have HJ3 := Lib.hid (hJ (l.take k) wr w3 none HJS.out (grownBy_below hb3) (fun r e => by cases e))
      have HX3 := Lib.hid x3
      have HROW3 := Lib.hid (HROW.out.below hb3)
      clear x2 b2 s2 x3 c3 s3 hb3
      gi_wp2_with (refine wpListIn_loadV wideF (fun _ _ h => by obtain ⟨⟨v, e⟩, _⟩ := h; cases e) rfl (some 13) rfl 44 (.tmp 4) rfl _ rfl 44 (entC x).toArray (0, 0) _ HX3.out Try.underlying44 rfl (sizeEnt x) ?_; refine Stop.on ?_)
      refine Stop.go ?_
      try simp only [Act.put, List.setIfInBounds_toArray, List.set_cons_zero, List.set_cons_succ]
      obtain ⟨fn, tmps, assign, body, hy, hR⟩ := hY _ x w3 HJ3.out (by rw [List.length_take]; omega)
      dsimp only [encEn] at hy
      gi_wp2_with fail
      refine hR.mono ?_
      rintro e W3 (⟨rfl, hJ4, hk4⟩ | ⟨rfl, hJx4⟩)
      · have HJ4 := Lib.hid hJ4
        have HR4 := Lib.hid (HROW3.out.keptC hk4 hn)
        clear hJ4 hk4
        gi_wp2
        go_roundw
        case rel => exact ⟨k + 1, by omega, by go_num, by rw [HS.out]; exact HJ4.out, HR4.out⟩
        case measure => simp [intOf]; omega
      · gi_wp2
        refine bodyPost_ret (results_none rfl _ _ _) rfl ?_
        exact ⟨⟨_, rfl⟩, .inr ⟨_, by rw [← HS.out]; exact List.take_prefix _ _, hJx4⟩⟩
    · obtain rfl : k = l.length := by omega
      gi_wp2
      go_end0
      exact ⟨⟨_, rfl⟩, .inl ⟨_, rfl, by rwa [List.take_length] at hJs⟩⟩
theorem all_stops (g n₀ : Nat) (bv : Value) (l : List ArtD) (hl : l.length < 1000000) (w : World) (hg : g < w.heap.size) (hn : n₀ ≤ w.heap.size) (hc : w.cell? ⟨g, 0, none⟩ = some bv)
    (hs : ∀ W, Below w.heap.size w W → Calls Try.prog 37 #[bv] W (EntPost W l)) :
    SeqStopsK Fence.wide 3 Try.prog 36 #[.pointer (some ⟨g, 0, none⟩)] encEn (CellsKept n₀) (fun ys => ys = l) (fun pre => pre <+: l) l.length w := fun lp J Jx W hW hJ _ hY h0 =>
  all1_in lp g n₀ bv l hl J Jx hY W (Nat.le_trans hn hW.size) ((hW.cell (p := ⟨g, 0, none⟩) hg).trans hc) hJ (hs W hW) h0
end Go.Proofs.Ytnmdgjodbikndaa
