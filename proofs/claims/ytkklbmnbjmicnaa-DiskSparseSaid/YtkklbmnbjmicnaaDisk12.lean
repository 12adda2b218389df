/- Pending. -/
import Derived.Test.YtkklbmnbjmicnaaDisk10
import Derived.Test.YtkklbmnbjmicnaaDisk11
namespace Go.Proofs.Ytkklbmnbjmicnaa
open Go.RowKit
set_option linter.unusedVariables false
set_option linter.unusedSimpArgs false

def lrow (L : List (Nat × List UInt8 × Value)) : List Value := L.flatMap fun x => [.int .i64 (x.1 : Int), x.2.2]
/-- The slice value v holds writes (a number, a slice of bytes), its elements at type T; the row lies from block B on, the bytes in G. -/
def WritesAt (T : TypeId) (w : World) (B : Nat) (G : Nat → Prop) (v : Value) (l : List (Nat × List UInt8)) : Prop :=
  ∃ L : List (Nat × List UInt8 × Value), L.map (fun x => (x.1, x.2.1)) = l ∧ w.ownsRow B T 2 v l.length (lrow L) ∧ ∀ x ∈ L, BytesAt w (fun k => G k ∧ v.ownBlock ≠ some k) x.2.2 x.2.1

theorem ownsRow_bytes {w : World} {B n : Nat} {T : TypeId} {v : Value} {l : List UInt8} (h : w.ownsRow B T 1 v n (bvs l)) (hn : l.length = n) : BytesAt w (fun k => B ≤ k) v l := by
  rcases h.2 with ⟨rfl, h0⟩ | ⟨g, cap, cur, rfl, hbg, hg, hc, _, hs, ht⟩
  · have : l = [] := List.eq_nil_of_length_eq_zero (by omega)
    subst this
    exact bytesAt_nil _ _
  · subst hn
    refine ⟨_, _, rfl, hc, fun _ => ⟨g, 0, rfl, hbg, (Array.getElem?_eq_some_iff.1 hg).1, fun j u hu => ?_⟩⟩
    rw [cell_of_row w g _ cur _ _ hg, Nat.zero_add]
    rw [Nat.mul_one] at ht
    rw [← ht, List.getElem?_take] at hu
    split at hu
    · simpa using hu
    · cases hu

theorem BytesAt.mono' {w : World} {F G : Nat → Prop} {v : Value} {l : List UInt8} (h : BytesAt w F v l) (hFG : ∀ k, k < w.heap.size → F k → G k) : BytesAt w G v l := by
  obtain ⟨a, cap, rfl, hcap, hr⟩ := h
  refine ⟨a, cap, rfl, hcap, fun hl => ?_⟩
  obtain ⟨g, off, rfl, hF, hg, hr⟩ := hr hl
  exact ⟨g, off, rfl, hFG g hg hF, hg, hr⟩
theorem ownsRow_lt {w : World} {B n s : Nat} {T : TypeId} {v : Value} {xs : List Value} (h : w.ownsRow B T s v n xs) : ∀ g, v.ownBlock = some g → B ≤ g ∧ g < w.heap.size := by
  intro g hg
  rcases h.2 with ⟨rfl, _⟩ | ⟨g', cap, cur, rfl, hb, hh, _⟩
  · cases hg
  · obtain rfl : g' = g := by simpa [Value.ownBlock] using hg
    exact ⟨hb, (Array.getElem?_eq_some_iff.1 hh).1⟩
theorem ownsRow_chg {w w' : World} {G : Nat → Prop} {B n s : Nat} {T : TypeId} {v : Value} {xs : List Value} (h : w.ownsRow B T s v n xs) (hc : Chg G w w') (hd : ∀ k, B ≤ k → k < w.heap.size → ¬ G k) : w'.ownsRow B T s v n xs := by
  refine ⟨h.1, ?_⟩
  rcases h.2 with hn | ⟨g, cap, cur, e, hbg, hg, rest⟩
  · exact .inl hn
  · have hlt := (Array.getElem?_eq_some_iff.1 hg).1
    exact .inr ⟨g, cap, cur, e, hbg, (hc.block g hlt (hd g hbg hlt)).trans hg, rest⟩

theorem WritesAt.len {T : TypeId} {w : World} {B : Nat} {G : Nat → Prop} {v : Value} {l : List (Nat × List UInt8)} (h : WritesAt T w B G v l) : ∃ a cap, v = .slice a l.length cap := by
  obtain ⟨L, hL, hr, _⟩ := h
  rcases hr.2 with ⟨rfl, h0⟩ | ⟨g, cap, cur, rfl, _⟩
  · exact ⟨none, 0, by rw [h0]⟩
  · exact ⟨_, _, rfl⟩

theorem infoWriteP : (Try.prog.info? 50).map (fun i => (i.zero, i.size, i.bytes)) = some (some (.agg #[.int .i64 0, .slice none 0 0]), 2, 32) := by kernel_rfl

set_option maxRecDepth 100000 in
set_option maxHeartbeats 2000000 in
theorem Pending_any {w : World} {F : Nat → Prop} {b : Nat} {S : DS} (h : DiskAt w F b S) (hlen : S.pend.length < 100000000) :
    Calls Try.prog 17 #[.pointer (some ⟨b, 0, none⟩)] w fun e w' => ∃ v, e = .returned v ∧ WritesAt 50 w' w.heap.size (fun k => w.heap.size ≤ k) v S.pend ∧ Below w.heap.size w w' := by
  obtain ⟨hok, m, pv, hx⟩ := h
  obtain ⟨c0, c1, c2, c3, c4, c5, c6, f⟩ := hx.cells
  have hl : ∀ x ∈ S.pend, x.2.length = 256 := fun x h => (hok.pend x h).2
  have hP := pendAt_of hl hx.hp
  obtain ⟨pa, pcap, hpv⟩ : ∃ a cap, pv = .slice a S.pend.length cap := by
    rcases hP with ⟨rfl, e⟩ | ⟨g, cap, rfl, _⟩
    · exact ⟨none, 0, by rw [e]; rfl⟩
    · exact ⟨_, _, rfl⟩
  subst hpv
  obtain ⟨i0, hi0, hz0, hz1, hz2⟩ := info_parts infoWriteP
  have HX := Lib.hid hx
  have HL := Lib.hid hl
  have HP := Lib.hid hP
  clear hx hok hl hP
  go_enter Try.func17, Try.ntmps17
  go_wp2
  clear c0 c1 c2 c3 c4 c5 c6 f
  go_loopw [3, 13] (fun lv i wr => ∃ k : Nat, k ≤ S.pend.length ∧ i = .int .i64 (k : Int) ∧ WritesAt 50 wr w.heap.size (fun k => w.heap.size ≤ k) lv (S.pend.take k) ∧ Below w.heap.size w wr)
    (fun _ i _ => S.pend.length - (intOf i).toNat)
  case atStart => exact ⟨0, Nat.zero_le _, rfl, ⟨[], rfl, World.ownsRow_nil _ _ _ _, by simp⟩, Below.refl _ _⟩
  case round =>
    obtain ⟨k, hk, rfl, hW, hC⟩ := hrel
    by_cases hlt : k < S.pend.length
    · have hP1 := HP.out
      rcases hP1 with ⟨_, e2⟩ | ⟨g, cap', e1, hg, hr⟩
      · rw [e2] at hlt; simp at hlt
      simp only [Value.slice.injEq] at e1
      obtain ⟨rfl, _, rfl⟩ := e1
      obtain ⟨x1, x2, hx⟩ : ∃ x1 x2, S.pend[k] = (x1, x2) := ⟨_, _, rfl⟩
      have hx2 : x2.length = 256 := HL.out (x1, x2) (hx ▸ List.getElem_mem hlt)
      have hrq : wr.rangeAt g (k * 257) (wcells (x1, x2)) := fun j u hu => (World.cell?_of_block (hC.block g hg)).trans (hr k hlt j u (by rw [hx]; exact hu))
      have hwl : (wcells (x1, x2)).length = 257 := wcells_length hx2
      have hsw : (Try.prog.info? 82).map (·.size) = some (wcells (x1, x2)).length := by rw [hwl]; exact sizeWrite
      have hsw2 : (Try.prog.info? 82).map (·.size) = some (wcells (x1, x2)).toArray.size := by rw [List.size_toArray]; exact hsw
      have hsw3 : (Try.zeroCells82).size = (wcells (x1, x2)).toArray.size := by rw [zc82, List.size_toArray, List.size_toArray, hwl]; exact wcells_length zeros_length
      have hnw := heap_alloc_new wr (.cells Try.zeroCells82 82)
      obtain ⟨W1, hW1⟩ : ∃ W1, wr.alloc (.cells (wcells (x1, x2)).toArray 82) = W1 := ⟨_, rfl⟩
      have hbk : Below wr.heap.size wr W1 := hW1 ▸ (Below.refl _ _).alloc (Nat.le_refl _) _
      have hW1s : W1.heap.size = wr.heap.size + 1 := by rw [← hW1, World.size_alloc]
      have hW1n : W1.heap[wr.heap.size]? = some (.cells (wcells (x1, x2)).toArray 82 (0, 0)) := by rw [← hW1]; exact heap_alloc_new _ _
      obtain ⟨p2, p4⟩ := mid_of_row (c := .int .i64 (x1 : Int)) (l := bvs x2) hW1n
      have hlts : wr.heap.size < W1.heap.size ∧ w.heap.size ≤ wr.heap.size := ⟨by omega, hC.size⟩
      obtain ⟨L, hLm, hown, hbs⟩ := hW
      have HRQ := Lib.hid hrq
      have HSW := Lib.hid hsw
      have HSW2 := Lib.hid hsw2
      have HSW3 := Lib.hid hsw3
      have HNW := Lib.hid hnw
      have HW2 := Lib.hid hW1
      have HP4 := Lib.hid p4
      have HX2 := Lib.hid hx2
      have HBK := Lib.hid hbk
      have HLT := Lib.hid hlts
      have HLM := Lib.hid hLm
      have HOWN := Lib.hid hown
      have HBS := Lib.hid hbs
      have HC := Lib.hid hC
      have HXE := Lib.hid hx
      clear hrq hsw hsw2 hsw3 hnw hW1 p4 hx2 hbk hlts hLm hown hbs hC hx hr hg hwl hW1s hW1n
      go_wp2_with (first | (with_reducible refine wpList_load_mid rfl 82 _ rfl g (k * 257) rfl (wcells (x1, x2)) _ HRQ.out Try.underlying82 rfl HSW.out ?_) | (with_reducible refine wpList_store_row rfl 82 _ _ rfl wr.heap.size (wcells (x1, x2)).toArray rfl rfl 82 Try.zeroCells82 HNW.out HSW2.out HSW3.out (oneCell_wcells _) ?_; rw [World.setRow_alloc_new, HW2.out]))
      refine wp_region_noPanic ?_
      refine wp_region_F 9 (fun w' => w'.cell? ⟨wr.heap.size, 0, none⟩ = some (.int .i64 (x1 : Int))) (by kernel_rfl) ?_
      have hS0 : (fun w' => w'.cell? ⟨wr.heap.size, 0, none⟩ = some (.int .i64 (x1 : Int))) W1.drew := p2
      refine wpAnyF_take (i := 0) (fin := 9) (v := u3) rfl (by kernel_rfl) (by kernel_rfl) (by kernel_rfl) (by kernel_rfl) (fun _ _ _ h => h) (yieldsIf_run rfl (fun w' hw' => ?_)) hS0 ?_
      · rfl
      simp only [Act.put, List.setIfInBounds_toArray, List.set_cons_zero, List.set_cons_succ]
      refine wpAnyF_take (i := 1) (fin := 9) (v := .pointer (some ⟨wr.heap.size, 0, none⟩)) rfl (by kernel_rfl) (by kernel_rfl) (by kernel_rfl) (by kernel_rfl) (fun _ _ _ h => h) (yieldsIf_run rfl (fun w' hw' => ?_)) hS0 ?_
      · go_simp
      simp only [Act.put, List.setIfInBounds_toArray, List.set_cons_zero, List.set_cons_succ]
      refine wpAnyF_take (i := 2) (fin := 9) (v := .int .i64 (x1 : Int)) rfl (by kernel_rfl) (by kernel_rfl) (by kernel_rfl) (by kernel_rfl) (fun _ _ _ h => h) (yieldsIf_run rfl (fun w' hw' => ?_)) hS0 ?_
      · (have h4 := hw'; clear hw'; go_simp)
      simp only [Act.put, List.setIfInBounds_toArray, List.set_cons_zero, List.set_cons_succ]
      refine wpAnyF_take (i := 3) (fin := 9) (v := .pointer (some ⟨wr.heap.size, 1, none⟩)) rfl (by kernel_rfl) (by kernel_rfl) (by kernel_rfl) (by kernel_rfl) (fun _ _ _ h => h) (yieldsIf_run rfl (fun w' hw' => ?_)) hS0 ?_
      · go_simp
      simp only [Act.put, List.setIfInBounds_toArray, List.set_cons_zero, List.set_cons_succ]
      refine wpAnyF_take (i := 4) (fin := 9) (v := .slice (some ⟨wr.heap.size, 1, none⟩) 256 256) rfl (by kernel_rfl) (by kernel_rfl) (by kernel_rfl) (by kernel_rfl) (fun _ _ _ h => h) (yieldsIf_run rfl (fun w' hw' => ?_)) hS0 ?_
      · go_simp
      simp only [Act.put, List.setIfInBounds_toArray, List.set_cons_zero, List.set_cons_succ]
      refine wpAnyF_do (i := 5) (by kernel_rfl) rfl rfl (fun K hK => ?_)
      go_simp
      refine (CloneB_any (w := W1.drew) wr.heap.size 1 256 256 x2 HP4.out HLT.out.1 HX2.out (by decide)).mono ?_
      rintro e w2 ⟨v', rfl, hown', _, hb2⟩
      have hby' := ownsRow_bytes hown' HX2.out
      obtain ⟨g', cap2, hv'⟩ : ∃ g' cap2, v' = .slice (some ⟨g', 0, none⟩) 256 cap2 := by
        rcases hown'.2 with ⟨_, h0⟩ | ⟨g', cap2, _, e, _⟩
        · cases h0
        · exact ⟨g', cap2, e⟩
      subst hv'
      have HBY := Lib.hid hby'
      clear hown' hby'
      have q2 : w2.cell? ⟨wr.heap.size, 0, none⟩ = some (.int .i64 (x1 : Int)) := (hb2.cell (p := ⟨wr.heap.size, 0, none⟩) HLT.out.1).trans p2
      refine hK _ _ (fun _ => q2) ?_
      clear hK K
      refine wpAnyF_do (i := 6) (by kernel_rfl) rfl rfl (fun K hK => ?_)
      go_simp
      refine hK _ _ (fun _ => q2) ?_
      clear hK K
      refine wpAnyF_do (i := 7) (by kernel_rfl) rfl rfl (fun K hK => ?_)
      go_simp
      obtain ⟨w3, hw3⟩ : ∃ w3, w2.alloc (.cells #[.int .i64 (x1 : Int), .slice (some ⟨g', 0, none⟩) 256 cap2] 50) = w3 := ⟨_, rfl⟩
      have q3 : w3.cell? ⟨wr.heap.size, 0, none⟩ = some (.int .i64 (x1 : Int)) := by rw [← hw3]; exact (World.cell?_of_block (Below.heap_alloc w2 _ _ (World.block_lt_of_cell? w2 ⟨wr.heap.size, 0, none⟩ q2))).trans q2
      have hn3 : w3.heap[w2.heap.size]? = some (.cells #[.int .i64 (x1 : Int), .slice (some ⟨g', 0, none⟩) 256 cap2] 50 (0, 0)) := by rw [← hw3]; exact heap_alloc_new _ _
      have hb3 : Below W1.drew.heap.size W1.drew w3 := hw3 ▸ hb2.alloc hb2.size _
      have hs3 : w3.heap.size = w2.heap.size + 1 := by rw [← hw3, World.size_alloc]
      rw [hw3]
      have hbw : Below wr.heap.size wr w3 := HBK.out.drew.trans (hb3.mono (Nat.le_of_lt HLT.out.1))
      have hown3 : w3.ownsRow w.heap.size 50 2 u3 (S.pend.take k).length (lrow L) := ownsRow_chg (G := fun _ => False) HOWN.out (Chg.of_below hbw) (fun _ _ _ h => h)
      have HBW := Lib.hid hbw
      have HB3 := Lib.hid hb3
      have HS3 := Lib.hid hs3
      have HN3 := Lib.hid hn3
      have HW3 := Lib.hid hw3
      have HB2 := Lib.hid hb2
      clear hw3 hbw hb3 hs3 hn3 hb2
      refine hK _ _ (fun _ => q3) ?_
      clear hK K
      refine wpAnyF_do (i := 8) (by kernel_rfl) rfl rfl (fun K hK => ?_)
      refine wp_append_lies _ (.tmp 17) (.tmp 24) 28 rfl w.heap.size 50 i0 _ 2 32 Try.underlying28 hi0 hz0 hz1 hz2 rfl (by decide) u3 (S.pend.take k).length (lrow L) rfl hown3
        ⟨w2.heap.size, 0, none⟩ 1 1 [.int .i64 (x1 : Int), .slice (some ⟨g', 0, none⟩) 256 cap2] rfl rfl (World.news_of_block (cs := #[.int .i64 (x1 : Int), .slice (some ⟨g', 0, none⟩) 256 cap2]) (t := 50) (fr := (0, 0)) HN3.out) (fun u hu => by rcases List.mem_cons.1 hu with rfl | h; rfl; obtain rfl := List.mem_singleton.1 h; rfl)
        (by decide) (by rw [List.length_take]; unfold maxLen; omega) (by rw [List.length_take]; omega) (Nat.le_trans HLT.out.2 HBW.out.size) w3.heap.size rfl (fun gg cap3 w4 hown4 hgrow hat hglt => ?_)
      have hlt3 : u3.ownBlock ≠ some wr.heap.size := fun e => by have := (ownsRow_lt HOWN.out _ e).2; omega
      have q4 : w4.cell? ⟨wr.heap.size, 0, none⟩ = some (.int .i64 (x1 : Int)) := (World.cell?_of_block (hgrow.block wr.heap.size (World.block_lt_of_cell? w3 ⟨wr.heap.size, 0, none⟩ q3) (Ne.symm hlt3))).trans q3
      refine hK _ _ (fun _ => q4) ?_
      clear hK K
      simp only [Act.put, List.setIfInBounds_toArray, List.set_cons_zero, List.set_cons_succ]
      refine wpAnyF_do (i := 9) (by kernel_rfl) rfl rfl (fun K hK => ?_)
      go_simp
      refine hK _ _ (fun h => absurd rfl h) ?_
      clear hK K
      refine wpAnyF_done (by kernel_rfl) ?_ _
      refine NoPanic.normal ?_
      have HOWN4 := Lib.hid hown4
      have HGR := Lib.hid hgrow
      have HAT := Lib.hid hat
      clear hown4 hgrow hat hglt hown3
      go_wp2
      go_roundw
      case rel =>
        have hkl : (S.pend.take k).length = k := by rw [List.length_take]; omega
        have htk : S.pend.take (k + 1) = S.pend.take k ++ [(x1, x2)] := by rw [List.take_add_one, List.getElem?_eq_getElem hlt, HXE.out]; rfl
        have hc4 : Chg (fun j => u3.ownBlock = some j) wr w4 := (Chg.of_below HBW.out).trans (Chg.grown (F := fun j => u3.ownBlock = some j) HGR.out (fun j e => .inl e)) (fun j h => .inl h)
        refine ⟨k + 1, by omega, by go_num, ⟨L ++ [(x1, x2, .slice (some ⟨g', 0, none⟩) 256 cap2)], ?_, ?_, ?_⟩, ?_⟩
        · rw [List.map_append, HLM.out, htk]; rfl
        · have h4 := HOWN4.out; rw [hkl] at h4; rw [htk, List.length_append, hkl]; simpa [lrow] using h4
        · intro y hy
          have hnew : ∀ j, j < w3.heap.size → u3.ownBlock ≠ some j → (Value.slice (some ⟨gg, 0, none⟩) ((S.pend.take k).length + 1) cap3).ownBlock ≠ some j := fun j hj hne e => by
            have e' : gg = j := by simpa [Value.ownBlock] using e
            rcases HAT.out with h | h
            · exact hne (by rw [h, e'])
            · omega
          rcases List.mem_append.1 hy with hy | hy
          · have h1 := HBS.out y hy
            refine ((h1.mono' (G := fun j => (w.heap.size ≤ j ∧ u3.ownBlock ≠ some j) ∧ j < wr.heap.size) (fun j hj h => ⟨h, hj⟩)).kept hc4 (fun j h e => h.1.2 e)).mono (fun j h => ⟨h.1.1, hnew j (Nat.lt_of_lt_of_le h.2 HBW.out.size) h.1.2⟩)
          · obtain rfl := List.mem_singleton.1 hy
            have hs2 : w2.heap.size ≤ w3.heap.size := by have := HS3.out; omega
            have h3 : BytesAt w3 (fun j => W1.drew.heap.size ≤ j ∧ j < w2.heap.size) (.slice (some ⟨g', 0, none⟩) 256 cap2) x2 :=
              ((HBY.out.mono' (G := fun j => W1.drew.heap.size ≤ j ∧ j < w2.heap.size) (fun j hj h => ⟨h, hj⟩)).kept (G := fun _ => False) (HW3.out ▸ Chg.alloc w2 _) (fun _ _ h => h))
            have hW1d : W1.drew.heap.size = W1.heap.size := rfl
            have hltW := HLT.out
            have hno : ∀ j, W1.drew.heap.size ≤ j → u3.ownBlock ≠ some j := fun j hj e => by have := (ownsRow_lt HOWN.out _ e).2; omega
            exact (h3.kept (Chg.grown (F := fun j => u3.ownBlock = some j) HGR.out (fun j e => .inl e)) (fun j h e => hno j h.1 e)).mono (fun j h => ⟨by omega, hnew j (by omega) (hno j h.1)⟩)
        · exact HC.out.trans (hc4.below (fun j e => (ownsRow_lt HOWN.out _ e).1) HLT.out.2)
      case measure => simp [intOf]; omega
    · obtain rfl : k = S.pend.length := by omega
      rw [List.take_length] at hW
      have HW := Lib.hid hW
      clear hW
      go_wp2
      go_ret
      exact ⟨_, rfl, HW.out, hC⟩

end Go.Proofs.Ytkklbmnbjmicnaa
