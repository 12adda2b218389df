/- The reference's SHA-256: the padding. -/
import Derived.Test.YtloaenknhkfaeaaDoorSr1
namespace Go.Proofs.YtloaenknhkfaeaaDoor
open Go.RowKit
set_option linter.unusedVariables false
set_option linter.unusedSimpArgs false

/-- A byte slice, nil only as nil is. -/
structure BytesN (w : World) (F : Nat → Prop) (v : Value) (l : List UInt8) : Prop where
  at_ : BytesAt w F v l
  nil : ∀ k c, v = .slice none k c → c = 0
theorem BytesN.kept {w w' : World} {F G : Nat → Prop} {v : Value} {l : List UInt8} (h : BytesN w F v l) (hc : Chg G w w') (hd : ∀ k, F k → ¬ G k) : BytesN w' F v l := ⟨h.at_.kept hc hd, h.nil⟩
theorem BytesN.below {w w' : World} {F : Nat → Prop} {v : Value} {l : List UInt8} (h : BytesN w F v l) (hb : Below w.heap.size w w') : BytesN w' F v l := h.kept (G := fun _ => False) (Chg.of_below hb) (fun _ _ h => h)
theorem BytesN.of_own {w : World} {B n : Nat} {v : Value} {l : List UInt8} (h : w.ownsRow B 5 1 v n (bvs l)) (hn : l.length = n) : BytesN w (fun k => B ≤ k) v l :=
  ⟨ownsRow_bytes h hn, fun k c e => by
    rcases h.2 with ⟨e2, _⟩ | ⟨g, cap, cur, e2, _⟩
    · rw [e] at e2; cases e2; rfl
    · rw [e] at e2; cases e2⟩

set_option maxRecDepth 100000 in
set_option maxHeartbeats 2000000 in
theorem rpad_any {w : World} {F : Nat → Prop} (l : List UInt8) (bv0 : Value) (hv : BytesN w F bv0 l) (hlen : l.length < 100000000) :
    Calls Tryd.prog 60 #[bv0] w fun e w' => ∃ v, e = .returned v ∧ w'.ownsRow w.heap.size 5 1 v (l ++ padL l.length).length (bvs (l ++ padL l.length)) ∧ Below w.heap.size w w' := by
  obtain ⟨ba, bc, rfl, _⟩ := id hv.at_
  obtain ⟨N, hN⟩ : ∃ N, l.length = N := ⟨_, rfl⟩
  obtain ⟨z, hz⟩ : ∃ z, zN N = z := ⟨_, rfl⟩
  have hz64 : z < 64 := by rw [← hz]; unfold zN; omega
  have hmz : (N + 1 + z) % 64 = 56 := by rw [← hz]; unfold zN; omega
  have hmz2 : ∀ j, j < z → (N + 1 + j) % 64 ≠ 56 := by intro j hj; rw [← hz] at hj; unfold zN at hj; omega
  obtain ⟨w1, hw1⟩ : ∃ w1, w.alloc (.cells #[] 5) = w1 := ⟨_, rfl⟩
  have hb1 : Below w.heap.size w w1 := hw1 ▸ (Below.refl _ w).alloc (Nat.le_refl _) _
  have hs1 : w1.heap.size = w.heap.size + 1 := by rw [← hw1, World.size_alloc]
  have n1 : w1.heap[w.heap.size]? = some (.cells #[] 5 (0, 0)) := by rw [← hw1]; exact heap_alloc_new w _
  have ho1 : w1.ownsRow w.heap.size 5 1 (.slice (some ⟨w.heap.size, 0, none⟩) 0 0) 0 (bvs []) :=
    ⟨by decide, .inr ⟨w.heap.size, 0, _, rfl, Nat.le_refl _, n1, by decide, by decide, by decide, rfl⟩⟩
  have hv1 := hv.below hb1
  rw [hN] at hlen hv1 ⊢
  have HV1 := Lib.hid hv1
  have HN := Lib.hid hN
  have HZ := Lib.hid hz
  have HMZ := Lib.hid hmz
  have HMZ2 := Lib.hid hmz2
  have HW1 := Lib.hid hw1
  have HB1 := Lib.hid hb1
  have HS1 := Lib.hid hs1
  have HO1 := Lib.hid ho1
  clear hv1 hv hN hz hmz hmz2 hw1 hb1 hs1 n1 ho1
  go_enter Tryd.func60, Tryd.ntmps60
  go_wp2_with (at_builtin; rw [HW1.out]; refine wpList_appBytes rfl (.tmp 6) (.tmp 7) rfl rfl HO1.out rfl HV1.out.at_ HV1.out.nil (by have := HN.out; omega) HB1.out.size ?_)
  intro a2 cap2 w2 hown2 hgr2
  try simp only [Nat.zero_add, List.nil_append] at hown2
  rw [HN.out] at hown2
  try rw [Nat.zero_add]
  rw [HN.out]
  have hb2 : Below w.heap.size w w2 := HB1.out.grown hgr2 HB1.out.size (fun j hj => (ownsRow_lt HO1.out j hj).1)
  have HO2 := Lib.hid hown2
  have HB2 := Lib.hid hb2
  clear hown2 hgr2 hb2
  have hgn := heap_alloc_new w2 (.cells #[.int .u8 128] 5)
  have hba : Below w2.heap.size w2 (w2.alloc (.cells #[.int .u8 128] 5)) := (Below.refl _ _).alloc (Nat.le_refl _) _
  have hgn2 : (w2.alloc (.cells #[.int .u8 128] 5)).heap[w2.heap.size]? = some (.cells #[bv 128] 5 (0, 0)) := by rw [hgn]; rfl
  have hO3 := ownsRow_chg (G := fun _ => False) HO2.out (Chg.of_below hba) (fun _ _ _ h => h)
  have hB3 := HB2.out.trans (hba.mono HB2.out.size)
  have hbs : w.heap.size ≤ (w2.alloc (.cells #[.int .u8 128] 5)).heap.size := by have := HB2.out.size; simp; omega
  have HGN := Lib.hid hgn2
  have HO3 := Lib.hid hO3
  have HB3 := Lib.hid hB3
  have HBS := Lib.hid hbs
  clear hgn hba hO3 hB3 hbs hgn2
  go_wp2_with (at_builtin; refine wpList_appByte rfl (.tmp 8) (.tmp 9) rfl rfl HO3.out w2.heap.size rfl HGN.out (by omega) HBS.out ?_)
  intro g' cap' w3 hlt5 hown5 hgr5 hat5
  have hB5 : Below w.heap.size w w3 := HB3.out.grown hgr5 HBS.out (fun j hj => (ownsRow_lt HO3.out j hj).1)
  have HO5 := Lib.hid hown5
  have HB5 := Lib.hid hB5
  clear hown5 hgr5 hat5 hB5 HGN HO3 HB3 HBS
  have HO4 := HO5
  have HB4 := HB5
  clear HO5 HB5
  go_wp2_with fail
  go_loopw [3] (fun pv wr => ∃ j : Nat, j ≤ z ∧ wr.ownsRow w.heap.size 5 1 pv (N + 1 + j) (bvs (l ++ [128] ++ List.replicate j 0)) ∧ Below w.heap.size w wr)
    (fun pv _ => match pv with | .slice _ n _ => N + 1 + z - n | _ => 0)
  case atStart => exact ⟨0, Nat.zero_le _, by rw [List.replicate_zero, List.append_nil]; exact HO4.out, HB4.out⟩
  case round =>
    obtain ⟨j, hj, hO, hB⟩ := hrel
    obtain ⟨pa, pc, rfl⟩ := ownsRow_form hO
    have HO := Lib.hid hO
    have HB := Lib.hid hB
    clear hO hB
    by_cases hlt : j < z
    · have hmod : (((N : Int) + 1 + (j : Int)) % 64 == 56) = false := by have := HMZ2.out j hlt; simp; omega
      have hmod2 : (((N : Int) + 1 + (j : Int)) % 64 != 56) = true := by have := HMZ2.out j hlt; simp; omega
      have hgn := heap_alloc_new wr (.cells #[.int .u8 0] 5)
      have hba : Below wr.heap.size wr (wr.alloc (.cells #[.int .u8 0] 5)) := (Below.refl _ _).alloc (Nat.le_refl _) _
      have hgn2 : (wr.alloc (.cells #[.int .u8 0] 5)).heap[wr.heap.size]? = some (.cells #[bv 0] 5 (0, 0)) := by rw [hgn]; rfl
      have hO3 := ownsRow_chg (G := fun _ => False) HO.out (Chg.of_below hba) (fun _ _ _ h => h)
      have hB3 := HB.out.trans (hba.mono HB.out.size)
      have hbs : w.heap.size ≤ (wr.alloc (.cells #[.int .u8 0] 5)).heap.size := by have := HB.out.size; simp; omega
      have HGN := Lib.hid hgn2
      have HO3 := Lib.hid hO3
      have HB3 := Lib.hid hB3
      have HBS := Lib.hid hbs
      clear hgn hba hO3 hB3 hbs hgn2
      go_wp2_with (at_builtin; refine wpList_appByte rfl (.tmp 15) (.tmp 16) rfl rfl HO3.out wr.heap.size rfl HGN.out (by omega) HBS.out ?_)
      intro g' cap' w5 hlt5 hown5 hgr5 hat5
      have hB5 : Below w.heap.size w w5 := HB3.out.grown hgr5 HBS.out (fun j hj => (ownsRow_lt HO3.out j hj).1)
      have HO5 := Lib.hid hown5
      have HB5 := Lib.hid hB5
      clear hown5 hgr5 hat5 hB5 HGN HO3 HB3 HBS
      go_wp2_with fail
      go_roundw
      case rel => exact ⟨j + 1, by omega, by have h := HO5.out; rw [List.replicate_succ']; simp only [List.append_assoc, List.cons_append, List.nil_append] at h ⊢; exact h, HB5.out⟩
      case measure => simp; omega
    · obtain rfl : j = z := by omega
      have hmod : (((N : Int) + 1 + (j : Int)) % 64 == 56) = true := by have := HMZ.out; simp; omega
      have hmod2 : (((N : Int) + 1 + (j : Int)) % 64 != 56) = false := by have := HMZ.out; simp; omega
      have hNb : (N : Int) ≤ 1000000000 := by omega
      go_wp2_with fail
      clear hmod hmod2
      obtain ⟨wa, rfl⟩ : ∃ wa : World, wa = wr := ⟨_, rfl⟩
      go_loopw [3, 5] (fun pv i wr => ∃ q : Nat, q ≤ 8 ∧ i = .int .i64 (7 - (q : Int)) ∧ wr.ownsRow w.heap.size 5 1 pv (N + 1 + j + q) (bvs (l ++ [128] ++ List.replicate j 0 ++ (List.range q).map (cntB N))) ∧ Below w.heap.size w wr)
        (fun pv _ _ => match pv with | .slice _ n _ => N + 1 + j + 8 - n | _ => 0)
      case atStart => exact ⟨0, Nat.zero_le _, rfl, by rw [List.range_zero, List.map_nil, List.append_nil]; exact HO.out, HB.out⟩
      case round =>
        obtain ⟨q, hq, rfl, hO, hB⟩ := hrel
        obtain ⟨qa, qc, rfl⟩ := ownsRow_form hO
        have HO2 := Lib.hid hO
        have HB2 := Lib.hid hB
        clear hO hB
        by_cases hq8 : q < 8
        · have hge : (0 : Int) ≤ 7 - (q : Int) := by omega
          have hval : (N : Int) * 8 / 2 ^ (8 * (7 - q)) % 256 = ((cntB N q).toNat : Int) := by
            unfold cntB
            rw [show 8 * (7 - q) = 56 - 8 * q by omega]
            have e : (2 : Int) ^ (56 - 8 * q) = ((2 ^ (56 - 8 * q) : Nat) : Int) := (Int.natCast_pow 2 _).symm
            rw [e]
            simp
          have hgn := heap_alloc_new wr (.cells #[.int .u8 ((cntB N q).toNat : Int)] 5)
          have hba : Below wr.heap.size wr (wr.alloc (.cells #[.int .u8 ((cntB N q).toNat : Int)] 5)) := (Below.refl _ _).alloc (Nat.le_refl _) _
          have hgn2 : (wr.alloc (.cells #[.int .u8 ((cntB N q).toNat : Int)] 5)).heap[wr.heap.size]? = some (.cells #[bv (cntB N q)] 5 (0, 0)) := by rw [hgn]; rfl
          have hO3 := ownsRow_chg (G := fun _ => False) HO2.out (Chg.of_below hba) (fun _ _ _ h => h)
          have hB3 := HB2.out.trans (hba.mono HB2.out.size)
          have hbs : w.heap.size ≤ (wr.alloc (.cells #[.int .u8 ((cntB N q).toNat : Int)] 5)).heap.size := by have := HB2.out.size; simp; omega
          have HGN := Lib.hid hgn2
          have HO3 := Lib.hid hO3
          have HB3 := Lib.hid hB3
          have HBS := Lib.hid hbs
          clear hgn hba hO3 hB3 hbs hgn2
          go_wp2_with (at_builtin; refine wpList_appByte rfl (.tmp 26) (.tmp 32) rfl rfl HO3.out wr.heap.size rfl HGN.out (by omega) HBS.out ?_)
          intro g9 cap9 w6 hlt5 hown5 hgr5 hat5
          have hB5 : Below w.heap.size w w6 := HB3.out.grown hgr5 HBS.out (fun j hj => (ownsRow_lt HO3.out j hj).1)
          have HO5 := Lib.hid hown5
          have HB5 := Lib.hid hB5
          clear hown5 hgr5 hat5 hB5 HGN HO3 HB3 HBS hval
          go_wp2_with fail
          go_roundw
          case rel => exact ⟨q + 1, by omega, by go_num, by have h := HO5.out; rw [range_step]; simp only [List.append_assoc, List.cons_append, List.nil_append] at h ⊢; exact h, HB5.out⟩
          case measure => simp; omega
        · obtain rfl : q = 8 := by omega
          have hge : ¬ (0 : Int) ≤ 7 - ((8 : Nat) : Int) := by omega
          have hP : l ++ [128] ++ List.replicate j 0 ++ (List.range 8).map (cntB N) = l ++ padL N := by unfold padL; rw [HZ.out]; simp
          have hl : (l ++ padL N).length = N + 1 + j + 8 := by rw [List.length_append, padL_length, HZ.out, HN.out]; omega
          have HP := Lib.hid hP
          have HL := Lib.hid hl
          clear hP hl
          go_wp2_with fail
          go_ret
          exact ⟨_, rfl, by have h := HO2.out; rw [HP.out] at h; have h2 := HL.out; rw [List.length_append] at h2; rw [h2]; exact h, HB2.out⟩

end Go.Proofs.YtloaenknhkfaeaaDoor
