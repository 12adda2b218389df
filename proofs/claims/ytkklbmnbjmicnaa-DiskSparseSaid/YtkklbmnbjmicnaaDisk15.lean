/- Clone of the device. -/
import Derived.Test.YtkklbmnbjmicnaaDisk8
import Derived.Test.YtkklbmnbjmicnaaDisk11
import Derived.Test.YtkklbmnbjmicnaaDisk12
import Derived.Shelf.SlMaps.Clone
namespace Go.Proofs.Ytkklbmnbjmicnaa
open Go.RowKit
set_option linter.unusedVariables false
set_option linter.unusedSimpArgs false

set_option maxRecDepth 100000 in
set_option maxHeartbeats 2000000 in
theorem MapsClone_any (b : Nat) (es : Array MapEntry) (clock : Nat) (w : World) (hb : w.heap[b]? = some (.map es clock)) :
    Calls Try.prog 45 #[.map (some b)] w fun e w' => e = .returned (.map (some w.heap.size)) ∧ w' = w.alloc (.map es clock) := by
  have hq := fun w => run_eql_map_nil_sl (P := Try.prog) w 75 _ _ (some b) Try.underlying75
  go_enter Try.func45, Try.ntmps45
  go_wp2
  rw [run_callFunc_extern Try.func58 (by kernel_rfl) (by kernel_rfl) (by kernel_rfl) (e := Extern.MapsClone.clone) (by kernel_rfl), run_maps_clone_sl w 75 hb]
  simp only [Result.andThen]
  rw [Oper.upon_value]
  go_wp2
  rw [run_typeAssert_map_sl _ 75 20 _ _ _ Try.underlying75]
  simp only [Result.andThen]
  rw [Oper.upon_value]
  go_wp2
  go_ret
  exact ⟨rfl, rfl⟩

set_option maxRecDepth 100000 in
set_option maxHeartbeats 2000000 in
theorem Clone_any {w : World} {F : Nat → Prop} {b : Nat} {S : DS} (h : DiskAt w F b S) (hlen : S.pend.length ≤ 100000000) :
    Calls Try.prog 27 #[.pointer (some ⟨b, 0, none⟩)] w fun e w' => e = .returned (.pointer (some ⟨w.heap.size, 0, none⟩)) ∧
      DiskAt w' (fun k => w.heap.size ≤ k) w.heap.size S ∧ Below w.heap.size w w' := by
  obtain ⟨hok, m, pv, hx⟩ := h
  obtain ⟨c0, c1, c2, c3, c4, c5, c6, f⟩ := hx.cells
  obtain ⟨es, clock, L, hm, hE, hL, hA⟩ := hx.hm.ex
  have hbl := hx.lt
  have hml := hx.hm.lt
  have hP := pendAt_of (fun x h => (hok.pend x h).2) hx.hp
  obtain ⟨pa, pcap, hpv⟩ : ∃ a cap, pv = .slice a S.pend.length cap := by
    rcases hP with ⟨rfl, e⟩ | ⟨g, cap, rfl, _⟩
    · exact ⟨none, 0, by rw [e]; rfl⟩
    · exact ⟨_, _, rfl⟩
  subst hpv
  have HX := Lib.hid hx
  have HOK := Lib.hid hok
  have HM := Lib.hid hm
  have HE := Lib.hid hE
  have HLL := Lib.hid hL
  have HA := Lib.hid hA
  clear hx hok hm hE hL hA hP
  go_enter Try.func27, Try.ntmps27
  go_wp2_with fail
  obtain ⟨w1, hw1⟩ : ∃ w1, w.alloc (.cells (dcells S m (.slice pa S.pend.length pcap)) 78) = w1 := ⟨_, rfl⟩
  have hb1 : Below w.heap.size w w1 := hw1 ▸ (Below.refl _ w).alloc (Nat.le_refl _) _
  have hn1 : w1.heap[w.heap.size]? = some (.cells (dcells S m (.slice pa S.pend.length pcap)) 78 (0, 0)) := by rw [← hw1]; exact heap_alloc_new _ _
  have hs1 : w1.heap.size = w.heap.size + 1 := by rw [← hw1, World.size_alloc]
  simp only [dcells] at hw1
  rw [hw1]
  clear hw1
  refine (MapsClone_any m es clock w1 ((hb1.block m hml).trans HM.out)).mono ?_
  rintro e w2 ⟨rfl, hw2⟩
  have hb2 : Below w1.heap.size w1 w2 := by rw [hw2]; exact (Below.refl _ _).alloc (Nat.le_refl _) _
  have hn2 : w2.heap[w.heap.size]? = _ := (hb2.block _ (by omega)).trans hn1
  have hm2 : w2.heap[w1.heap.size]? = some (.map es clock) := by rw [hw2]; exact heap_alloc_new _ _
  have hs2 : w2.heap.size = w1.heap.size + 1 := by rw [hw2, World.size_alloc]
  obtain ⟨d0, d1, d2, d3, d4, d5, d6, df⟩ := cells_of hn2
  have x2 : (w2.setCell ⟨w.heap.size, 1, none⟩ (.map (some w1.heap.size))).cell? ⟨b, 2, none⟩ = some (.slice pa S.pend.length pcap) := by
    rw [World.cell?_of_block (w := w2) (heap_setCell_other _ _ _ _ (by show b ≠ w.heap.size; omega)), World.cell?_of_block (w := w1) (hb2.block b (by omega)), World.cell?_of_block (w := w) (hb1.block b hbl)]
    exact c2
  have HN2 := Lib.hid hn2
  have HM2 := Lib.hid hm2
  have HB1 := Lib.hid hb1
  have HB2 := Lib.hid hb2
  have HS1 := Lib.hid hs1
  have HS2 := Lib.hid hs2
  clear hn1 hn2 hm2 hb1 hb2 hw2 hs1 hs2 c0 c1 c2 c3 c4 c5 c6 f
  go_wp2_with fail
  obtain ⟨w3, hw3⟩ : ∃ w3, w2.setCell ⟨w.heap.size, 1, none⟩ (.map (some w1.heap.size)) = w3 := ⟨_, rfl⟩
  have hn3 : w3.heap[w.heap.size]? = some (.cells #[.int .i64 (S.dur.length : Int), .map (some w1.heap.size), .slice pa S.pend.length pcap, .int .i64 (S.ops : Int), .bool S.limit.isSome, .int .i64 ((S.limit.getD 0 : Nat) : Int), .bool S.down] 78 (0, 0)) := by
    rw [← hw3, heap_setCell_same _ _ _ _ _ _ HN2.out]; simp [dcells]
  have hbk3 : ∀ k, k ≠ w.heap.size → w3.heap[k]? = w2.heap[k]? := fun k hk => by rw [← hw3]; exact heap_setCell_other _ _ _ _ hk
  have hb3 : Below w.heap.size w w3 := by rw [← hw3]; exact (HB1.out.trans (HB2.out.mono (by have := HS1.out; omega))).setCell (Nat.le_refl _) _
  have hs3 : w3.heap.size = w2.heap.size := by rw [← hw3]; simp [World.setCell]
  rw [hw3]
  have hp3 : w3.ownsRow 0 82 257 (.slice pa S.pend.length pcap) S.pend.length (prow S.pend) := ownsRow_chg (G := fun _ => False) HX.out.hp (Chg.of_below hb3) (fun _ _ _ h => h)
  refine (ClonePend_any (F := fun _ => True) _ S.pend (fun x h => (HOK.out.pend x h).2) hp3 (fun _ _ => trivial) hlen).mono ?_
  rintro e w4 ⟨v', rfl, hown', hb4⟩
  obtain ⟨va, vcap, hv'⟩ : ∃ a cap, v' = .slice a S.pend.length cap := by
    rcases hown'.2 with ⟨rfl, h0⟩ | ⟨g, cap, _, rfl, _⟩
    · exact ⟨none, 0, by rw [h0]⟩
    · exact ⟨_, _, rfl⟩
  subst hv'
  have hn4 : w4.heap[w.heap.size]? = _ := (hb4.block _ (by have := HS1.out; have := HS2.out; omega)).trans hn3
  have hm4 : w4.heap[w1.heap.size]? = some (.map es clock) := ((hb4.block _ (by have := HS1.out; have := HS2.out; omega)).trans (hbk3 _ (by have := HS1.out; omega))).trans HM2.out
  obtain ⟨e0, e1, e2, e3, e4, e5, e6, ef⟩ := cells_of hn4
  have HN4 := Lib.hid hn4
  have HM4 := Lib.hid hm4
  have HB3 := Lib.hid hb3
  have HB4 := Lib.hid hb4
  have HS3 := Lib.hid hs3
  have HO4 := Lib.hid hown'
  clear hn3 hbk3 hb3 hs3 hw3 hp3 hn4 hm4 hb4 hown' x2 d0 d1 d2 d3 d4 d5 d6 df
  go_wp2_with fail
  go_ret
  have s1 := HS1.out
  have s2 := HS2.out
  have s3 := HS3.out
  have hlt4 := (Array.getElem?_eq_some_iff.1 HM4.out).1
  have hob : ∀ g, (Value.slice va S.pend.length vcap).ownBlock = some g → w3.heap.size ≤ g ∧ g < w4.heap.size := ownsRow_lt HO4.out
  refine ⟨rfl, ⟨HOK.out, w1.heap.size, .slice va S.pend.length vcap, ?_, ?_, ?_, ?_, ?_, ?_⟩, ?_⟩
  · show w.heap.size ≤ w.heap.size; omega
  · show w.heap.size ≤ w1.heap.size; omega
  · intro g hg; have := hob g hg; show w.heap.size ≤ g; omega
  · rw [heap_setCell_same _ _ _ _ _ _ HN4.out]; simp [dcells]
  · refine ⟨es, clock, L, ?_, HE.out, HLL.out, HA.out⟩
    rw [heap_setCell_other _ _ _ _ (by show w1.heap.size ≠ w.heap.size; omega)]
    exact HM4.out
  · have h0 : w4.ownsRow 0 82 257 (.slice va S.pend.length vcap) S.pend.length (prow S.pend) := by
      refine ⟨HO4.out.1, ?_⟩
      rcases HO4.out.2 with h | ⟨g, cap, cur, e, hb, rest⟩
      · exact .inl h
      · exact .inr ⟨g, cap, cur, e, Nat.zero_le _, rest⟩
    exact h0.kept (grownBy_setCell w4 w.heap.size 2 _) (.inr (fun e => by have := hob _ e; omega))
  · exact (HB3.out.trans (HB4.out.mono (by omega))).setCell (Nat.le_refl _) _

end Go.Proofs.Ytkklbmnbjmicnaa
