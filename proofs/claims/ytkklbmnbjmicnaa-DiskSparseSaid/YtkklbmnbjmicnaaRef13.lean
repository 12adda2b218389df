/- The reference's Sparse. -/
import Derived.Test.YtkklbmnbjmicnaaRef12
import Derived.Test.YtkklbmnbjmicnaaLaw2
namespace Go.Proofs.Ytkklbmnbjmicnaa
open Go.RowKit Go.Shelf
set_option linter.unusedVariables false
set_option linter.unusedSimpArgs false

/-- The numbers below k of the sectors that hold another byte than zero. -/
def spK (S : DS) (k : Nat) : List Nat := (List.range k).filter (fun i => !(S.visible i).all (· == 0))
def spV (l : List Nat) : List Value := l.map (fun i : Nat => .int .i64 (i : Int))
theorem spK_succ (S : DS) (k : Nat) : spK S (k + 1) = if (S.visible k).all (· == 0) then spK S k else spK S k ++ [k] := by
  unfold spK
  rw [List.range_succ, List.filter_append]
  cases h : (S.visible k).all (· == 0) <;> simp [h]
theorem infoInt : (Try.prog.info? 3).map (fun i => (i.zero, i.size, i.bytes)) = some (some (.int .i64 0), 1, 8) := by kernel_rfl

section
variable {ops : Array Oper} {rest : List Oper} {o : Oper} {a : Act} {Q : Exit → Act → World → Prop}
/-- One more number for a row of numbers. -/
theorem wpList_appInt {w : World} (hgd : o.guard = none) (s x : Operand) (ho : o.op = .call { callee := .builtin .append, args := #[s, x], argTypes := #[68, 68] })
    {B n : Nat} {v : Value} {b : Nat} {xs : List Nat} (hs : a.eval s = v) (hown : w.ownsRow B 3 1 v n (spV xs)) (g : Nat) (hx : a.eval x = .slice (some ⟨g, 0, none⟩) 1 1) (hg : w.heap[g]? = some (.cells #[.int .i64 (b : Int)] 3 (0, 0)))
    (hn : n < 1000000000) (hB : B ≤ w.heap.size)
    (h : ∀ g' cap' w', g' < w'.heap.size → w'.ownsRow B 3 1 (.slice (some ⟨g', 0, none⟩) (n + 1) cap') (n + 1) (spV (xs ++ [b])) → w.grownBy w' v.ownBlock → (v.ownBlock = some g' ∨ g' = w.heap.size) → wpList Try.prog ops Q rest (a.put o.dst (.slice (some ⟨g', 0, none⟩) (n + 1) cap')) w') :
    wpList Try.prog ops Q (o :: rest) a w := by
  refine wpList_plain hgd fun _ hK => ?_
  obtain ⟨i0, hi, hz0, hz1, hz2⟩ := info_parts infoInt
  refine wp_append_lies _ s x 68 ho B 3 i0 _ 1 8 Try.underlying68 hi hz0 hz1 hz2 rfl (by decide) v n (spV xs) hs hown
    ⟨g, 0, none⟩ 1 1 [.int .i64 (b : Int)] hx rfl (World.news_of_block (cs := #[.int .i64 (b : Int)]) (t := 3) (fr := (0, 0)) hg) (fun y hy => by obtain rfl := List.mem_singleton.1 hy; rfl) (by decide) (by unfold maxLen; omega) (by omega) hB _ rfl ?_
  intro g' cap' w' hown hgrow hat hlt
  refine hK _ _ (h g' cap' w' hlt ?_ hgrow hat)
  have e : spV (xs ++ [b]) = spV xs ++ [.int .i64 (b : Int)] := by simp [spV]
  rw [e]
  exact hown
end

set_option maxRecDepth 100000 in
set_option maxHeartbeats 2000000 in
theorem ref_sparse {w : World} {G : Nat → Prop} {S : DS} {v : Value} (h : RefAt w G S v) (hok : S.ok) (hlen : S.pend.length < 100000000) (hdn : S.down = false) :
    Calls Try.prog 34 #[v] w fun e w' => ∃ v', e = .returned v' ∧ w'.ownsRow w.heap.size 3 1 v' (spK S S.dur.length).length (spV (spK S S.dur.length)) ∧ Below w.heap.size w w' := by
  have HR0 := Lib.hid h
  have HOK := Lib.hid hok
  obtain ⟨da, dc, wa, wc, rfl⟩ := h.form
  unfold refV at HR0 ⊢
  rw [hdn] at HR0 ⊢
  have hmost := hok.most
  obtain ⟨w1, hw1⟩ : ∃ w1, w.alloc (.cells #[.slice da S.dur.length dc, .slice wa S.pend.length wc, .int .i64 (limI S), (.bool false : Value), .int .i64 (S.ops : Int)] 45) = w1 := ⟨_, rfl⟩
  have n1 : w1.heap[w.heap.size]? = some (.cells #[.slice da S.dur.length dc, .slice wa S.pend.length wc, .int .i64 (limI S), (.bool false : Value), .int .i64 (S.ops : Int)] 45 (0, 0)) := by rw [← hw1]; exact heap_alloc_new w _
  have hb1 : Below w.heap.size w w1 := hw1 ▸ (Below.refl _ _).alloc (Nat.le_refl _) _
  have hs1 : w1.heap.size = w.heap.size + 1 := by rw [← hw1, World.size_alloc]
  have hR1 := HR0.out.below hb1
  have HN1 := Lib.hid n1
  have HB1 := Lib.hid hb1
  have HS1 := Lib.hid hs1
  have HR1 := Lib.hid hR1
  clear h hok n1 hb1 hs1 hR1
  go_enter Try.func34, Try.ntmps34
  go_wp2_with fail
  try rw [hw1]
  clear hw1
  go_loopw [3, 4] (fun ov i wr => ∃ k : Nat, k ≤ S.dur.length ∧ i = .int .i64 (k : Int) ∧ wr.ownsRow w1.heap.size 3 1 ov (spK S k).length (spV (spK S k)) ∧ Below w1.heap.size w1 wr) (fun _ i _ => S.dur.length - (intOf i).toNat)
  case atStart => exact ⟨0, Nat.zero_le _, rfl, World.ownsRow_nil _ _ _ _, Below.refl _ _⟩
  case round =>
    obtain ⟨k, hk, rfl, hO, hB⟩ := hrel
    have n2 := (hB.block w.heap.size (by have := HS1.out; omega)).trans HN1.out
    obtain ⟨c0, c1, c2, c3, c4, cf⟩ := cells5 n2
    have HO := Lib.hid hO
    have HB := Lib.hid hB
    clear hO hB n2
    by_cases hlt : k < S.dur.length
    · go_wp2_with fail
      refine (ref_visible k hlt (HR1.out.below HB.out) HOK.out hlen).mono ?_
      rintro e w2 ⟨v2, rfl, hown, hb2⟩
      obtain ⟨b, hb⟩ : ∃ b, S.visible k = b := ⟨_, rfl⟩
      have hbl : b.length = 256 := by rw [← hb]; exact visible_length HOK.out hlt
      rw [hb] at hown
      obtain ⟨g, cap, e, hg, hcl⟩ : ∃ g cap, v2 = .slice (some ⟨g, 0, none⟩) 256 cap ∧ g < w2.heap.size ∧ ∀ j (hj : j < b.length), w2.cell? ⟨g, j, none⟩ = some (.int .u8 ((b[j]).toNat : Int)) := by
        obtain ⟨g, cap, e, hg, _, hc⟩ := ownsRow_at hown (by omega)
        exact ⟨g, cap, e, hg, fun j hj => hc j _ (by simp [bvs, bv, hj])⟩
      subst e
      have hO2 := ownsRow_chg (G := fun _ => False) HO.out (Chg.of_below hb2) (fun _ _ _ h => h)
      have hB2 : Below w1.heap.size w1 w2 := HB.out.trans (hb2.mono HB.out.size)
      have HB2 := Lib.hid hB2
      have HO2 := Lib.hid hO2
      have HCL := Lib.hid hcl
      have HBV := Lib.hid hb
      have HBL := Lib.hid hbl
      have HG2 := Lib.hid hg
      clear hown hb hbl hb2 hB2 hcl c0 c1 c2 c3 c4 cf hO2 hg HO HB
      go_wp2_with fail
      go_loopw [6, 7] (fun z j wx => ∃ q : Nat, q ≤ 256 ∧ j = .int .i64 (q : Int) ∧ z = .bool ((b.take q).all (· == 0)) ∧ wx = w2) (fun _ j _ => 256 - (intOf j).toNat)
      case atStart => exact ⟨0, Nat.zero_le _, rfl, by simp, rfl⟩
      case round =>
        obtain ⟨q, hq, rfl, rfl, rfl⟩ := hrel
        by_cases hq2 : q < 256
        · have hqb : q < b.length := by rw [HBL.out]; exact hq2
          have hc := HCL.out q hqb
          have hsucc : (b.take (q + 1)).all (· == 0) = ((b.take q).all (· == 0) && (b[q] == 0)) := by
            rw [List.take_add_one, List.getElem?_eq_getElem hqb]; simp only [Option.toList_some, List.all_append, List.all_cons, List.all_nil, Bool.and_true]
          have HSU := Lib.hid hsucc
          clear hsucc
          cases hz : (b.take q).all (· == 0) with
          | false =>
            have HZ := Lib.hid hz
            clear hz
            go_wp2_with fail
            go_roundw
            case rel => exact ⟨q + 1, by omega, by go_num, by rw [HSU.out, HZ.out]; rfl, by first | rfl | trivial⟩
            case measure => simp [intOf]; omega
          | true =>
            have HZ := Lib.hid hz
            clear hz
            have hby : (((b[q]).toNat : Int) == 0) = (b[q] == 0) := by
              by_cases h0 : b[q] = 0
              · simp [h0]
              · have : (b[q]).toNat ≠ 0 := fun e => h0 (UInt8.toNat_inj.1 (by simpa using e))
                have h1 : (b[q] == 0) = false := by simpa using h0
                rw [h1]
                simp; omega
            have HBY := Lib.hid hby
            clear hby
            go_wp2_with fail
            go_roundw
            case rel => exact ⟨q + 1, by omega, by go_num, by rw [HSU.out, HZ.out, ← HBY.out]; simp, by first | rfl | trivial⟩
            case measure => simp [intOf]; omega
        · obtain rfl : q = 256 := by omega
          have hall : (b.take 256).all (· == 0) = (S.visible k).all (· == 0) := by rw [HBV.out, ← HBL.out, List.take_length]
          rw [hall]
          have hsp := spK_succ S k
          cases hz : (S.visible k).all (· == 0) with
          | true =>
            rw [hz] at hsp
            simp only [if_true] at hsp
            have HSP := Lib.hid hsp
            clear hz hsp hall
            go_wp2_with fail
            go_roundw
            case rel => exact ⟨k + 1, by omega, by go_num, by rw [HSP.out]; exact HO2.out, HB2.out⟩
            case measure => simp [intOf]; omega
          | false =>
            rw [hz] at hsp
            simp only [Bool.false_eq_true, if_false] at hsp
            have HSP := Lib.hid hsp
            have hgn := heap_alloc_new wr (.cells #[.int .i64 (k : Int)] 3)
            have hba : Below wr.heap.size wr (wr.alloc (.cells #[.int .i64 (k : Int)] 3)) := (Below.refl _ _).alloc (Nat.le_refl _) _
            have hO3 := ownsRow_chg (G := fun _ => False) HO2.out (Chg.of_below hba) (fun _ _ _ h => h)
            have hB3 := HB2.out.trans (hba.mono HB2.out.size)
            have hkl : (spK S k).length ≤ k := by unfold spK; have := List.length_filter_le (fun i => !(S.visible i).all (· == 0)) (List.range k); simpa using this
            have HGN := Lib.hid hgn
            have HO3 := Lib.hid hO3
            have HB3 := Lib.hid hB3
            clear hz hsp hall hgn hba hO3 hB3
            go_wp2_with (at_builtin; refine wpList_appInt rfl (.tmp 39) (.tmp 41) rfl rfl HO3.out wr.heap.size rfl HGN.out (by omega) HB3.out.size ?_)
            intro g' cap' w5 hlt5 hown5 hgr5 hat5
            have hB5 : Below w1.heap.size w1 w5 := HB3.out.grown hgr5 HB3.out.size (fun j hj => (ownsRow_lt HO3.out j hj).1)
            have HO5 := Lib.hid hown5
            have HB5 := Lib.hid hB5
            clear hown5 hgr5 hat5 hB5
            go_wp2_with fail
            go_roundw
            case rel => exact ⟨k + 1, by omega, by go_num, by rw [HSP.out, List.length_append]; exact HO5.out, HB5.out⟩
            case measure => simp [intOf]; omega
    · obtain rfl : k = S.dur.length := by omega
      go_wp2_with fail
      go_ret
      exact ⟨_, rfl, ownsRow_base HO.out (by have := HS1.out; omega), HB1.out.trans (HB.out.mono HB1.out.size)⟩

end Go.Proofs.Ytkklbmnbjmicnaa
