/- The reference's SHA-256: Sum. -/
import Derived.Test.YtloaenknhkfaeaaDoorSr3
namespace Go.Proofs.YtloaenknhkfaeaaDoor
open Go.RowKit
set_option linter.unusedVariables false
set_option linter.unusedSimpArgs false

def rvAt (h : W8) (S : List UInt32) : Nat → W8
  | 0 => h
  | t + 1 => (rvAt h S t).round (kTab.getD t 0) (S.getD t 0)
def blkOf (P : List UInt8) (j : Nat) : List UInt8 := (P.drop (64 * j)).take 64
def rH (P : List UInt8) : Nat → W8
  | 0 => w8init
  | j + 1 => (rH P j).plus (rvAt (rH P j) (rsch (blkOf P j)) 64)
theorem quiet_add2 {P : Program} {f : FuncId} {args : Array Value} {w : World} {a n : Nat} {v : Value}
    (h : Calls P f args (w.drewN (a + n)) fun e w' => e = .returned v ∧ ∃ m, w' = (w.drewN (a + n)).drewN m) :
    Calls P f args (w.drewN (a + n)) fun e w'' => e = .returned v ∧ ∃ m, w'' = w.drewN (a + m) :=
  h.mono fun _ _ ⟨he, m, hm⟩ => ⟨he, n + m, by rw [hm, World.drewN_drewN, Nat.add_assoc]⟩
theorem hide_post {P : Program} {c : Code} {Q : Exit → Act → World → Prop} {a : Act} {w : World} (h : ∀ Q', Hid (Q' = Q) → Code.wp P c Q' a w) : Code.wp P c Q a w := h Q (Lib.hid rfl)
/-- The first n of eight words added. -/
def mixAt (hl vl : List UInt32) : Nat → List UInt32
  | 0 => hl
  | n + 1 => (mixAt hl vl n).set n ((mixAt hl vl n).getD n 0 + vl.getD n 0)
theorem mixAt_length (hl vl : List UInt32) : ∀ n, (mixAt hl vl n).length = hl.length
  | 0 => rfl
  | n + 1 => by rw [mixAt, List.length_set, mixAt_length hl vl n]
theorem mixAt_end (h v : W8) : mixAt h.list v.list 8 = (h.plus v).list := rfl
theorem cells_list (v : W8) : v.cells = wvs v.list := rfl
theorem kTab_length : kTab.length = 64 := rfl
theorem tab_cell {w : World} {b i : Nat} {ws : List UInt32} {T : TypeId} {x : UInt32} (h : w.heap[b]? = some (.cells (wvs ws).toArray T (0, 0))) (hi : i < ws.length) (hx : ws.getD i 0 = x) : w.cell? ⟨b, i, none⟩ = some (.int .u32 (wN x)) := by
  rw [cell_of_row w _ _ _ _ _ h, wvs_at _ _ hi, hx]
theorem v8_cells {w : World} {b : Nat} {v : W8} {T : TypeId} (h : w.heap[b]? = some (.cells v.cells.toArray T (0, 0))) :
    w.cell? ⟨b, 0, none⟩ = some (.int .u32 (wN v.a)) ∧ w.cell? ⟨b, 1, none⟩ = some (.int .u32 (wN v.b)) ∧ w.cell? ⟨b, 2, none⟩ = some (.int .u32 (wN v.c)) ∧ w.cell? ⟨b, 3, none⟩ = some (.int .u32 (wN v.d)) ∧
    w.cell? ⟨b, 4, none⟩ = some (.int .u32 (wN v.e)) ∧ w.cell? ⟨b, 5, none⟩ = some (.int .u32 (wN v.f)) ∧ w.cell? ⟨b, 6, none⟩ = some (.int .u32 (wN v.g)) ∧ w.cell? ⟨b, 7, none⟩ = some (.int .u32 (wN v.i)) := by
  have c := fun i => cell_of_row w b i _ _ _ h
  exact ⟨(c 0).trans rfl, (c 1).trans rfl, (c 2).trans rfl, (c 3).trans rfl, (c 4).trans rfl, (c 5).trans rfl, (c 6).trans rfl, (c 7).trans rfl⟩
theorem sizeT8 : (Tryd.prog.info? 111).map (·.size) = some 8 := by kernel_rfl
theorem set8 {w : World} {b : Nat} {v : W8} {T : TypeId} (h : w.heap[b]? = some (.cells v.cells.toArray T (0, 0))) (v' : W8) :
    ((((((((w.setCell ⟨b, 0, none⟩ (.int .u32 (wN v'.a))).setCell ⟨b, 1, none⟩ (.int .u32 (wN v'.b))).setCell ⟨b, 2, none⟩ (.int .u32 (wN v'.c))).setCell ⟨b, 3, none⟩ (.int .u32 (wN v'.d))).setCell ⟨b, 4, none⟩ (.int .u32 (wN v'.e))).setCell
      ⟨b, 5, none⟩ (.int .u32 (wN v'.f))).setCell ⟨b, 6, none⟩ (.int .u32 (wN v'.g))).setCell ⟨b, 7, none⟩ (.int .u32 (wN v'.i))).heap[b]? = some (.cells v'.cells.toArray T (0, 0)) := by
  have h0 := heap_setCell_same _ b 0 _ _ (.int .u32 (wN v'.a)) h
  have h1 := heap_setCell_same _ b 1 _ _ (.int .u32 (wN v'.b)) h0
  have h2 := heap_setCell_same _ b 2 _ _ (.int .u32 (wN v'.c)) h1
  have h3 := heap_setCell_same _ b 3 _ _ (.int .u32 (wN v'.d)) h2
  have h4 := heap_setCell_same _ b 4 _ _ (.int .u32 (wN v'.e)) h3
  have h5 := heap_setCell_same _ b 5 _ _ (.int .u32 (wN v'.f)) h4
  have h6 := heap_setCell_same _ b 6 _ _ (.int .u32 (wN v'.g)) h5
  have h7 := heap_setCell_same _ b 7 _ _ (.int .u32 (wN v'.i)) h6
  refine h7.trans ?_
  simp [W8.cells, wv]

/-- One round of the reference's loop: a walk of its own. -/
def RInv (W0 : World) (Bv : Nat) (v : W8) (wr : World) : Prop := wr.heap[Bv]? = some (.cells v.cells.toArray 111 (0, 0)) ∧ Chg (fun k => k = Bv) W0 wr

set_option maxRecDepth 100000 in
set_option maxHeartbeats 2000000 in
theorem rsum_any {w : World} {F : Nat → Prop} (l : List UInt8) (bv0 : Value) (hv : BytesN w F bv0 l) (hlen : l.length < 100000000) :
    Calls Tryd.prog 56 #[bv0] w fun e w' => e = .returned (cval (digestL (rH (l ++ padL l.length) ((l ++ padL l.length).length / 64)))) ∧ Below w.heap.size w w' := by
  obtain ⟨ba, bc, hbe, _⟩ := id hv.at_
  subst hbe
  obtain ⟨w1, hw1⟩ : ∃ w1, (w.alloc (.cells #[.int .u8 0, .int .u8 0, .int .u8 0, .int .u8 0, .int .u8 0, .int .u8 0, .int .u8 0, .int .u8 0, .int .u8 0, .int .u8 0, .int .u8 0, .int .u8 0, .int .u8 0, .int .u8 0, .int .u8 0, .int .u8 0, .int .u8 0, .int .u8 0, .int .u8 0, .int .u8 0, .int .u8 0, .int .u8 0, .int .u8 0, .int .u8 0, .int .u8 0, .int .u8 0, .int .u8 0, .int .u8 0, .int .u8 0, .int .u8 0, .int .u8 0, .int .u8 0] 92)).alloc (.cells #[.int .u32 1779033703, .int .u32 3144134277, .int .u32 1013904242, .int .u32 2773480762, .int .u32 1359893119, .int .u32 2600822924, .int .u32 528734635, .int .u32 1541459225] 111) = w1 := ⟨_, rfl⟩
  have hb1 : Below w.heap.size w w1 := hw1 ▸ ((Below.refl _ w).alloc (Nat.le_refl _) _).alloc (by simp) _
  have hs1 : w1.heap.size = w.heap.size + 2 := by rw [← hw1]; simp
  have n1 : w1.heap[w.heap.size]? = some (.cells #[.int .u8 0, .int .u8 0, .int .u8 0, .int .u8 0, .int .u8 0, .int .u8 0, .int .u8 0, .int .u8 0, .int .u8 0, .int .u8 0, .int .u8 0, .int .u8 0, .int .u8 0, .int .u8 0, .int .u8 0, .int .u8 0, .int .u8 0, .int .u8 0, .int .u8 0, .int .u8 0, .int .u8 0, .int .u8 0, .int .u8 0, .int .u8 0, .int .u8 0, .int .u8 0, .int .u8 0, .int .u8 0, .int .u8 0, .int .u8 0, .int .u8 0, .int .u8 0] 92 (0, 0)) := by rw [← hw1, Below.heap_alloc _ _ _ (by simp)]; exact heap_alloc_new w _
  have n2 : w1.heap[w.heap.size + 1]? = some (.cells w8init.cells.toArray 111 (0, 0)) := by
    have := heap_alloc_new (w.alloc (.cells #[.int .u8 0, .int .u8 0, .int .u8 0, .int .u8 0, .int .u8 0, .int .u8 0, .int .u8 0, .int .u8 0, .int .u8 0, .int .u8 0, .int .u8 0, .int .u8 0, .int .u8 0, .int .u8 0, .int .u8 0, .int .u8 0, .int .u8 0, .int .u8 0, .int .u8 0, .int .u8 0, .int .u8 0, .int .u8 0, .int .u8 0, .int .u8 0, .int .u8 0, .int .u8 0, .int .u8 0, .int .u8 0, .int .u8 0, .int .u8 0, .int .u8 0, .int .u8 0] 92)) (.cells #[.int .u32 1779033703, .int .u32 3144134277, .int .u32 1013904242, .int .u32 2773480762, .int .u32 1359893119, .int .u32 2600822924, .int .u32 528734635, .int .u32 1541459225] 111)
    rw [World.size_alloc] at this
    rw [← hw1]; exact this
  have hv1 := hv.below hb1
  have HV1 := Lib.hid hv1
  have HW1 := Lib.hid hw1
  have HB1 := Lib.hid hb1
  have HS1 := Lib.hid hs1
  have HN1 := Lib.hid n1
  have HN2 := Lib.hid n2
  have HLEN := Lib.hid hlen
  clear hv hv1 hw1 hb1 hs1 n1 n2
  go_enter Tryd.func56, Tryd.ntmps56
  go_wp2_with fail
  rw [HW1.out]
  refine (rconst_any w1).mono ?_
  rintro e w2 ⟨rfl, hb2⟩
  have hbd2 := HB1.out.trans (hb2.mono HB1.out.size)
  have hszk := sizeT64 kTab rfl
  have hzsk : (#[.int .u32 0, .int .u32 0, .int .u32 0, .int .u32 0, .int .u32 0, .int .u32 0, .int .u32 0, .int .u32 0, .int .u32 0, .int .u32 0, .int .u32 0, .int .u32 0, .int .u32 0, .int .u32 0, .int .u32 0, .int .u32 0, .int .u32 0, .int .u32 0, .int .u32 0, .int .u32 0, .int .u32 0, .int .u32 0, .int .u32 0, .int .u32 0, .int .u32 0, .int .u32 0, .int .u32 0, .int .u32 0, .int .u32 0, .int .u32 0, .int .u32 0, .int .u32 0, .int .u32 0, .int .u32 0, .int .u32 0, .int .u32 0, .int .u32 0, .int .u32 0, .int .u32 0, .int .u32 0, .int .u32 0, .int .u32 0, .int .u32 0, .int .u32 0, .int .u32 0, .int .u32 0, .int .u32 0, .int .u32 0, .int .u32 0, .int .u32 0, .int .u32 0, .int .u32 0, .int .u32 0, .int .u32 0, .int .u32 0, .int .u32 0, .int .u32 0, .int .u32 0, .int .u32 0, .int .u32 0, .int .u32 0, .int .u32 0, .int .u32 0, .int .u32 0] : Array Value).size = (wvs kTab).toArray.size := rfl
  have hnw := heap_alloc_new w2 (.cells #[.int .u32 0, .int .u32 0, .int .u32 0, .int .u32 0, .int .u32 0, .int .u32 0, .int .u32 0, .int .u32 0, .int .u32 0, .int .u32 0, .int .u32 0, .int .u32 0, .int .u32 0, .int .u32 0, .int .u32 0, .int .u32 0, .int .u32 0, .int .u32 0, .int .u32 0, .int .u32 0, .int .u32 0, .int .u32 0, .int .u32 0, .int .u32 0, .int .u32 0, .int .u32 0, .int .u32 0, .int .u32 0, .int .u32 0, .int .u32 0, .int .u32 0, .int .u32 0, .int .u32 0, .int .u32 0, .int .u32 0, .int .u32 0, .int .u32 0, .int .u32 0, .int .u32 0, .int .u32 0, .int .u32 0, .int .u32 0, .int .u32 0, .int .u32 0, .int .u32 0, .int .u32 0, .int .u32 0, .int .u32 0, .int .u32 0, .int .u32 0, .int .u32 0, .int .u32 0, .int .u32 0, .int .u32 0, .int .u32 0, .int .u32 0, .int .u32 0, .int .u32 0, .int .u32 0, .int .u32 0, .int .u32 0, .int .u32 0, .int .u32 0, .int .u32 0] 112)
  obtain ⟨w3, hw3⟩ : ∃ w3, w2.alloc (.cells (wvs kTab).toArray 112) = w3 := ⟨_, rfl⟩
  have hb3 : Below w2.heap.size w2 w3 := hw3 ▸ (Below.refl _ _).alloc (Nat.le_refl _) _
  have n3k : w3.heap[w2.heap.size]? = some (.cells (wvs kTab).toArray 112 (0, 0)) := by rw [← hw3]; exact heap_alloc_new _ _
  have hb13 : Below w1.heap.size w1 w3 := hb2.trans (hb3.mono hb2.size)
  have hbd3 := HB1.out.trans (hb13.mono HB1.out.size)
  have hs3 : w3.heap.size = w2.heap.size + 1 := by rw [← hw3, World.size_alloc]
  have HSZK := Lib.hid hszk
  have HZSK := Lib.hid hzsk
  have HNW := Lib.hid hnw
  have HW3 := Lib.hid hw3
  have HN3K := Lib.hid n3k
  have HB13 := Lib.hid hb13
  have HBD3 := Lib.hid hbd3
  have HS3 := Lib.hid hs3
  have hz12 : w.heap.size + 1 < w2.heap.size := by have := hb2.size; have := HS1.out; omega
  clear hb2 hbd2 hszk hzsk hnw hw3 hb3 n3k hb13 hbd3 hs3
  go_wp2_with (with_reducible refine wpList_store_row rfl 112 _ _ rfl w2.heap.size (wvs kTab).toArray rfl rfl 112 _ HNW.out HSZK.out HZSK.out (oneCell_wvs _) ?_; rw [World.setRow_alloc_new, HW3.out])
  refine (rpad_any l _ (HV1.out.below HB13.out) HLEN.out).mono ?_
  rintro e w4 ⟨pv, rfl, hO4, hb4⟩
  obtain ⟨P, hP⟩ : ∃ P, l ++ padL l.length = P := ⟨_, rfl⟩
  rw [hP] at hO4
  have hmod : P.length % 64 = 0 := by rw [← hP, List.length_append]; exact padL_full l.length
  have hpb : P.length < 200000000 := by rw [← hP, List.length_append, padL_length]; unfold zN; omega
  obtain ⟨nb, hnb⟩ : ∃ nb, P.length / 64 = nb := ⟨_, rfl⟩
  have hPn : P.length = 64 * nb := by omega
  have hpos : 0 < P.length := by rw [← hP, List.length_append, padL_length]; omega
  obtain ⟨g, pcap, e1, hgl, hob, hcl⟩ := ownsRow_at hO4 (by omega)
  subst e1
  have hcap : P.length ≤ pcap := by
    rcases hO4.2 with ⟨e2, _⟩ | ⟨g', cap', cur, e2, _, _, h2, _⟩
    · cases e2
    · cases e2; exact h2
  have hgb : w3.heap.size ≤ g := (ownsRow_lt hO4 g hob).1
  rw [hPn] at hcap ⊢
  have n41 : w4.heap[w.heap.size]? = _ := (hb4.block _ (by have := HS3.out; omega)).trans ((HB13.out.block _ (by have := HS1.out; omega)).trans HN1.out)
  have n42 : w4.heap[w.heap.size + 1]? = _ := (hb4.block _ (by have := HS3.out; omega)).trans ((HB13.out.block _ (by have := HS1.out; omega)).trans HN2.out)
  have n4k : w4.heap[w2.heap.size]? = _ := (hb4.block _ (by have := HS3.out; omega)).trans HN3K.out
  have hbd4 := HBD3.out.trans (hb4.mono HBD3.out.size)
  have HCL := Lib.hid hcl
  have HP := Lib.hid hP
  have HNB := Lib.hid hnb
  have HPN := Lib.hid hPn
  have HN41 := Lib.hid n41
  have HN42 := Lib.hid n42
  have HN4K := Lib.hid n4k
  have HBD4 := Lib.hid hbd4
  have HGB := Lib.hid hgb
  have HS3b := HS3
  have hnbb : nb < 4000000 := by omega
  clear hO4 hb4 hP hmod hnb hPn hpos hob hcl hgb n41 n42 n4k hbd4 hpb HV1 HW1 HB1 HN1 HN2 HSZK HZSK HNW HW3 HN3K HB13 HBD3
  go_wp2_with fail
  go_loopw [6] (fun i wr => ∃ j : Nat, j ≤ nb ∧ i = .int .i64 (64 * (j : Int)) ∧ wr.heap[w.heap.size + 1]? = some (.cells (rH P j).cells.toArray 111 (0, 0)) ∧ Chg (fun k => k = w.heap.size + 1) w4 wr)
    (fun i _ => 64 * nb - (intOf i).toNat)
  case atStart => exact ⟨0, Nat.zero_le _, rfl, HN42.out, Chg.refl _ _⟩
  case round =>
    obtain ⟨j, hj, rfl, hH, hC⟩ := hrel
    obtain ⟨wo, rfl⟩ : ∃ wo : World, wo = wr := ⟨_, rfl⟩
    by_cases hlt : j < nb
    · have hlt64 : (64 * (j : Int)) < 64 * (nb : Int) := by omega
      have HH := Lib.hid hH
      have HC := Lib.hid hC
      have hgw : ¬ (g = w.heap.size + 1) := by have := HGB.out; have := HS3.out; omega
      have hvb : BytesAt wo (fun _ => True) (.slice (some ⟨g, 64 * j, none⟩) 64 (pcap - 64 * j)) (blkOf P j) := by
        have hl64 : (blkOf P j).length = 64 := by unfold blkOf; rw [List.length_take, List.length_drop, HPN.out]; omega
        refine ⟨_, _, by rw [hl64], by rw [hl64]; omega, fun _ => ⟨g, 64 * j, rfl, trivial, Nat.lt_of_lt_of_le hgl hC.size, fun k u hu => ?_⟩⟩
        refine hC.cell (p := ⟨g, 64 * j + k, none⟩) hgw (HCL.out (64 * j + k) u ?_)
        rw [bvs_getElem?] at hu ⊢
        unfold blkOf at hu
        rw [List.getElem?_take] at hu
        split at hu
        · rw [List.getElem?_drop] at hu; exact hu
        · cases hu
      have hl64 : (blkOf P j).length = 64 := by unfold blkOf; rw [List.length_take, List.length_drop, HPN.out]; omega
      obtain ⟨blk, hblk⟩ : ∃ blk, blkOf P j = blk := ⟨_, rfl⟩
      rw [hblk] at hvb hl64
      have e64 : 64 * j + 64 - 64 * j = 64 := by omega
      have HVB := Lib.hid hvb
      have HL64 := Lib.hid hl64
      have HBLK := Lib.hid hblk
      have HGW := Lib.hid hgw
      clear hH hC hvb hl64 hblk hgw
      go_wp2_with fail
      rw [e64]
      refine (rsch_any blk _ HVB.out HL64.out).mono ?_
      rintro e w5 ⟨rfl, hb5⟩
      obtain ⟨S, hS⟩ : ∃ S, rsch blk = S := ⟨_, rfl⟩
      have hsl : S.length = 64 := by rw [← hS]; exact rsAt_length _ _
      rw [hS]
      obtain ⟨h8, hh8⟩ : ∃ h8, rH P j = h8 := ⟨_, rfl⟩
      have hH5 : w5.heap[w.heap.size + 1]? = some (.cells h8.cells.toArray 111 (0, 0)) := by rw [← hh8]; exact (hb5.block _ (Array.getElem?_eq_some_iff.1 HH.out).1).trans HH.out
      have hC5 : Chg (fun k => k = w.heap.size + 1) w4 w5 := HC.out.trans (Chg.of_below hb5) (fun _ h => .inl h)
      obtain ⟨w6, hw6⟩ : ∃ w6, (w5.alloc (.cells (wvs S).toArray 112)).alloc (.cells h8.cells.toArray 111) = w6 := ⟨_, rfl⟩
      have hC6 : Chg (fun k => k = w.heap.size + 1) w4 w6 := by
        rw [← hw6]; exact (hC5.trans (Chg.alloc _ _) (fun _ h => .inl h)).trans (Chg.alloc _ _) (fun _ h => .inl h)
      have hb56 : Below w5.heap.size w5 w6 := hw6 ▸ ((Below.refl _ w5).alloc (Nat.le_refl _) _).alloc (by simp) _
      have n7 : w6.heap[w5.heap.size]? = some (.cells (wvs S).toArray 112 (0, 0)) := by rw [← hw6, Below.heap_alloc _ _ _ (by simp)]; exact heap_alloc_new w5 _
      have n8 : w6.heap[w5.heap.size + 1]? = some (.cells h8.cells.toArray 111 (0, 0)) := by
        have := heap_alloc_new (w5.alloc (.cells (wvs S).toArray 112)) (.cells h8.cells.toArray 111)
        rw [World.size_alloc] at this
        rw [← hw6]; exact this
      have hH6 : w6.heap[w.heap.size + 1]? = some (.cells h8.cells.toArray 111 (0, 0)) := (hb56.block _ (Array.getElem?_eq_some_iff.1 hH5).1).trans hH5
      have hs45 : w4.heap.size ≤ w5.heap.size := hC5.size
      have hlk : w2.heap.size < w4.heap.size := (Array.getElem?_eq_some_iff.1 HN4K.out).1
      have hszs := sizeT64 S hsl
      have hzss : (#[.int .u32 0, .int .u32 0, .int .u32 0, .int .u32 0, .int .u32 0, .int .u32 0, .int .u32 0, .int .u32 0, .int .u32 0, .int .u32 0, .int .u32 0, .int .u32 0, .int .u32 0, .int .u32 0, .int .u32 0, .int .u32 0, .int .u32 0, .int .u32 0, .int .u32 0, .int .u32 0, .int .u32 0, .int .u32 0, .int .u32 0, .int .u32 0, .int .u32 0, .int .u32 0, .int .u32 0, .int .u32 0, .int .u32 0, .int .u32 0, .int .u32 0, .int .u32 0, .int .u32 0, .int .u32 0, .int .u32 0, .int .u32 0, .int .u32 0, .int .u32 0, .int .u32 0, .int .u32 0, .int .u32 0, .int .u32 0, .int .u32 0, .int .u32 0, .int .u32 0, .int .u32 0, .int .u32 0, .int .u32 0, .int .u32 0, .int .u32 0, .int .u32 0, .int .u32 0, .int .u32 0, .int .u32 0, .int .u32 0, .int .u32 0, .int .u32 0, .int .u32 0, .int .u32 0, .int .u32 0, .int .u32 0, .int .u32 0, .int .u32 0, .int .u32 0] : Array Value).size = (wvs S).toArray.size := by
        show 64 = _
        rw [List.size_toArray, wvs_length]; exact hsl.symm
      have HNW7 := Lib.hid (heap_alloc_new w5 (.cells #[.int .u32 0, .int .u32 0, .int .u32 0, .int .u32 0, .int .u32 0, .int .u32 0, .int .u32 0, .int .u32 0, .int .u32 0, .int .u32 0, .int .u32 0, .int .u32 0, .int .u32 0, .int .u32 0, .int .u32 0, .int .u32 0, .int .u32 0, .int .u32 0, .int .u32 0, .int .u32 0, .int .u32 0, .int .u32 0, .int .u32 0, .int .u32 0, .int .u32 0, .int .u32 0, .int .u32 0, .int .u32 0, .int .u32 0, .int .u32 0, .int .u32 0, .int .u32 0, .int .u32 0, .int .u32 0, .int .u32 0, .int .u32 0, .int .u32 0, .int .u32 0, .int .u32 0, .int .u32 0, .int .u32 0, .int .u32 0, .int .u32 0, .int .u32 0, .int .u32 0, .int .u32 0, .int .u32 0, .int .u32 0, .int .u32 0, .int .u32 0, .int .u32 0, .int .u32 0, .int .u32 0, .int .u32 0, .int .u32 0, .int .u32 0, .int .u32 0, .int .u32 0, .int .u32 0, .int .u32 0, .int .u32 0, .int .u32 0, .int .u32 0, .int .u32 0] 112))
      have hHA : (w5.alloc (.cells (wvs S).toArray 112)).heap[w.heap.size + 1]? = some (.cells h8.cells.toArray 111 (0, 0)) := ((Below.heap_alloc _ _ _ (Array.getElem?_eq_some_iff.1 hH5).1)).trans hH5
      have HHA := Lib.hid hHA
      have HSE8 : Hid (w5.heap.size + 1 = (w5.alloc (.cells (wvs S).toArray 112)).heap.size) := Lib.hid (by rw [World.size_alloc])
      have HNW8 : Hid (((w5.alloc (.cells (wvs S).toArray 112)).alloc (.cells #[.int .u32 0, .int .u32 0, .int .u32 0, .int .u32 0, .int .u32 0, .int .u32 0, .int .u32 0, .int .u32 0] 111)).heap[w5.heap.size + 1]? = some (.cells #[.int .u32 0, .int .u32 0, .int .u32 0, .int .u32 0, .int .u32 0, .int .u32 0, .int .u32 0, .int .u32 0] 111 (0, 0))) := Lib.hid (by rw [HSE8.out]; exact heap_alloc_new _ _)
      have HZ8 : Hid ((#[.int .u32 0, .int .u32 0, .int .u32 0, .int .u32 0, .int .u32 0, .int .u32 0, .int .u32 0, .int .u32 0] : Array Value).size = h8.cells.toArray.size) := Lib.hid rfl
      have HSZS := Lib.hid hszs
      have HZSS := Lib.hid hzss
      have HSE := Lib.hid hS
      have HSL := Lib.hid hsl
      have HH8 := Lib.hid hh8
      have HC6 := Lib.hid hC6
      have HW6 := Lib.hid hw6
      have HN7 := Lib.hid n7
      have HN8 := Lib.hid n8
      have HH6 := Lib.hid hH6
      have HLK := Lib.hid hlk
      have hsz8 : (Tryd.prog.info? 111).map (·.size) = some h8.cells.toArray.size := sizeT8
      have HSZ8 := Lib.hid hsz8
      have HS6 : Hid (w6.heap.size = w5.heap.size + 2) := Lib.hid (by rw [← hw6]; simp)
      clear hb5 hS hsl hh8 hH5 hC5 hw6 hC6 hb56 n7 n8 hH6 hHA hlk hszs hzss hsz8 HVB HL64 HH HC
      go_wp2_with (first | (with_reducible refine wpList_store_row rfl 112 _ _ rfl w5.heap.size (wvs S).toArray rfl rfl 112 _ HNW7.out HSZS.out HZSS.out (oneCell_wvs _) ?_; rw [World.setRow_alloc_new]) | (with_reducible refine wpList_load_row rfl 111 _ rfl (w.heap.size + 1) rfl 111 h8.cells.toArray (0, 0) _ HHA.out Tryd.underlying111 rfl HSZ8.out ?_) | (with_reducible refine wpList_store_row rfl 111 _ _ rfl (w5.heap.size + 1) h8.cells.toArray rfl rfl 111 _ HNW8.out HSZ8.out HZ8.out (oneCell_w8 _) ?_; rw [HSE8.out, World.setRow_alloc_new]))
      rw [HW6.out]
      clear HNW7 HSZS HZSS HHA HSE8 HNW8 HZ8 HSZ8 HW6
      go_loopw [9] (fun i wr => ∃ t : Nat, t ≤ 64 ∧ i = .int .i64 (t : Int) ∧ wr.heap[w5.heap.size + 1]? = some (.cells (rvAt h8 S t).cells.toArray 111 (0, 0)) ∧ Chg (fun k => k = w5.heap.size + 1) w6 wr)
        (fun i _ => 64 - (intOf i).toNat)
      case atStart => exact ⟨0, Nat.zero_le _, rfl, HN8.out, Chg.refl _ _⟩
      case round =>
        obtain ⟨t, ht, rfl, hV, hC⟩ := hrel
        by_cases hlt6 : t < 64
        · obtain ⟨v, hv⟩ : ∃ v, rvAt h8 S t = v := ⟨_, rfl⟩
          rw [hv] at hV
          obtain ⟨kk, hkk⟩ : ∃ kk, kTab.getD t 0 = kk := ⟨_, rfl⟩
          obtain ⟨xx, hxx⟩ : ∃ xx, S.getD t 0 = xx := ⟨_, rfl⟩
          have hk4 : w6.heap[w2.heap.size]? = some (.cells (wvs kTab).toArray 112 (0, 0)) := (HC6.out.block _ (Array.getElem?_eq_some_iff.1 HN4K.out).1 (fun e => by omega)).trans HN4K.out
          have hkr : wr.heap[w2.heap.size]? = some (.cells (wvs kTab).toArray 112 (0, 0)) := (hC.block _ (Array.getElem?_eq_some_iff.1 hk4).1 (fun e => by have := HLK.out; omega)).trans hk4
          have hsr : wr.heap[w5.heap.size]? = some (.cells (wvs S).toArray 112 (0, 0)) := (hC.block _ (by have := HS6.out; omega) (fun e => by omega)).trans HN7.out
          have hadd := n_add
          have hx := n_xor
          have ha := n_and
          have hn := n_not1
          have HVE := Lib.hid hv
          have HKE := Lib.hid hkk
          have HXE := Lib.hid hxx
          have HVwr := Lib.hid hV
          have HCwr := Lib.hid hC
          have HKRwr := Lib.hid hkr
          have HSRwr := Lib.hid hsr
          clear hv hkk hxx hV hC hk4 hkr hsr
          have ck := tab_cell HKRwr.out (kTab_length ▸ hlt6) HKE.out
          have cs := tab_cell HSRwr.out (HSL.out ▸ hlt6) HXE.out
          obtain ⟨cv0, cv1, cv2, cv3, cv4, cv5, cv6, cv7⟩ := v8_cells HVwr.out
          have hlt7 : ((t : Nat) : Int) < (64 : Int) := by omega
          refine hide_post fun Q HQ => ?_
          go_wp2_with fail
          go_quiet (with_reducible exact Calls.quiet_of (rrot_q _ _ (by decide) (by decide) _))
          obtain ⟨x1, hx1⟩ : ∃ x1, v.i + (rotr v.e 6 ^^^ rotr v.e 11 ^^^ rotr v.e 25) + (v.e &&& v.f ^^^ ~~~v.e &&& v.g) + kk + xx = x1 := ⟨_, rfl⟩
          rw [hx1]
          have HX1 : Hid (v.t kk xx = x1) := Lib.hid hx1
          clear hx1 ck cs HKRwr HSRwr
          obtain ⟨wq, hWe⟩ : ∃ wq, wr.drewN nq = wq := ⟨_, rfl⟩
          have hq : ∀ j : Nat, wq.heap[j]? = wr.heap[j]? := fun j => by rw [← hWe]; rfl
          have HVwq : Hid (wq.heap[w5.heap.size + 1]? = some (.cells v.cells.toArray 111 (0, 0))) := Lib.hid ((hq _).trans HVwr.out)
          have HCwq : Hid (Chg (fun k => k = w5.heap.size + 1) w6 wq) := Lib.hid (by rw [← hWe]; exact HCwr.out.trans (Chg.of_below (below_drewN (Below.refl _ _) _)) (fun _ h => .inl h))
          rw [hWe]
          clear hWe hq cv0 cv1 cv2 cv3 cv4 cv5 cv6 cv7 HVwr HCwr
          obtain ⟨cv0, cv1, cv2, cv3, cv4, cv5, cv6, cv7⟩ := v8_cells HVwq.out
          go_wp2_with fail
          go_quiet (with_reducible exact Calls.quiet_of (rrot_q _ _ (by decide) (by decide) _))
          obtain ⟨x2, hx2⟩ : ∃ x2, (rotr v.a 2 ^^^ rotr v.a 13 ^^^ rotr v.a 22) + (v.a &&& v.b ^^^ v.a &&& v.c ^^^ v.b &&& v.c) = x2 := ⟨_, rfl⟩
          rw [hx2]
          have HX2 : Hid (v.u = x2) := Lib.hid hx2
          clear hx2
          obtain ⟨wz, hWe⟩ : ∃ wz, wq.drewN nq = wz := ⟨_, rfl⟩
          have hq : ∀ j : Nat, wz.heap[j]? = wq.heap[j]? := fun j => by rw [← hWe]; rfl
          have HVwz : Hid (wz.heap[w5.heap.size + 1]? = some (.cells v.cells.toArray 111 (0, 0))) := Lib.hid ((hq _).trans HVwq.out)
          have HCwz : Hid (Chg (fun k => k = w5.heap.size + 1) w6 wz) := Lib.hid (by rw [← hWe]; exact HCwq.out.trans (Chg.of_below (below_drewN (Below.refl _ _) _)) (fun _ h => .inl h))
          rw [hWe]
          clear hWe hq cv0 cv1 cv2 cv3 cv4 cv5 cv6 cv7 HVwq HCwq
          obtain ⟨cv0, cv1, cv2, cv3, cv4, cv5, cv6, cv7⟩ := v8_cells HVwz.out
          have fv : ∀ i, wz.frozen? ⟨w5.heap.size + 1, i, none⟩ = false := fun i => frozen_of_row wz _ i _ _ HVwz.out
          go_wp2_with fail
          obtain ⟨v', hv'⟩ : ∃ v' : W8, (⟨x1 + x2, v.a, v.b, v.c, v.d + x1, v.e, v.f, v.g⟩ : W8) = v' := ⟨_, rfl⟩
          have hst : rvAt h8 S (t + 1) = v' := by
            rw [rvAt, HVE.out, HKE.out, HXE.out, W8.round, HX1.out, HX2.out, hv']
          have h8' := set8 HVwz.out v'
          have hg8 := grown_states wz (w5.heap.size + 1) (.int .u32 (wN v'.a)) (.int .u32 (wN v'.b)) (.int .u32 (wN v'.c)) (.int .u32 (wN v'.d)) (.int .u32 (wN v'.e)) (.int .u32 (wN v'.f)) (.int .u32 (wN v'.g)) (.int .u32 (wN v'.i))
          rw [← hv'] at h8' hg8
          dsimp only at h8' hg8
          obtain ⟨W9, hW9⟩ : ∃ W9, ((((((((wz.setCell ⟨w5.heap.size + 1, 0, none⟩ (.int .u32 (wN (x1 + x2)))).setCell ⟨w5.heap.size + 1, 1, none⟩ (.int .u32 (wN v.a))).setCell ⟨w5.heap.size + 1, 2, none⟩ (.int .u32 (wN v.b))).setCell ⟨w5.heap.size + 1, 3, none⟩ (.int .u32 (wN v.c))).setCell ⟨w5.heap.size + 1, 4, none⟩ (.int .u32 (wN (v.d + x1)))).setCell ⟨w5.heap.size + 1, 5, none⟩ (.int .u32 (wN v.e))).setCell ⟨w5.heap.size + 1, 6, none⟩ (.int .u32 (wN v.f))).setCell ⟨w5.heap.size + 1, 7, none⟩ (.int .u32 (wN v.g))) = W9 := ⟨_, rfl⟩
          rw [hW9] at h8' hg8 ⊢
          rw [hv', ← hst] at h8'
          have hc9 : Chg (fun k => k = w5.heap.size + 1) w6 W9 := HCwz.out.trans (Chg.grown (F := fun k => k = w5.heap.size + 1) hg8 (fun k e => .inl (Option.some.inj e).symm)) (fun _ h => .inl h)
          have H8 := Lib.hid h8'
          have HC9 := Lib.hid hc9
          clear h8' hg8 hW9 hc9 hst hv' cv0 cv1 cv2 cv3 cv4 cv5 cv6 cv7 fv HX1 HX2 HVwz HCwz hadd hx ha hn
          rw [HQ.out]
          change _ ∧ _
          go_roundw
          case rel => exact ⟨t + 1, by omega, by go_num, H8.out, HC9.out⟩
          case measure => simp [intOf]; omega
        · obtain rfl : t = 64 := by omega
          obtain ⟨v, hv⟩ : ∃ v, rvAt h8 S 64 = v := ⟨_, rfl⟩
          rw [hv] at hV
          obtain ⟨W7, rfl⟩ : ∃ W7, W7 = wr := ⟨_, rfl⟩
          have hHr : W7.heap[w.heap.size + 1]? = some (.cells h8.cells.toArray 111 (0, 0)) := (hC.block _ (Array.getElem?_eq_some_iff.1 HH6.out).1 (fun e => by have := HLK.out; omega)).trans HH6.out
          have hC7 : Chg (fun k => k = w.heap.size + 1) w4 W7 := HC6.out.trans hC (fun k e => .inr (by subst e; omega))
          have HVE := Lib.hid hv
          have HV := Lib.hid hV
          have HHR := Lib.hid hHr
          have HC7 := Lib.hid hC7
          clear hv hV hC hHr hC7 HN7 HN8 HH6 HC6
          refine hide_post fun Q HQ => ?_
          go_wp2_with fail
          rw [HQ.out]
          go_step
          go_wp2_with fail
          go_loopw [12] (fun i wr => ∃ t : Nat, t ≤ 8 ∧ i = .int .i64 (t : Int) ∧ wr.heap[w.heap.size + 1]? = some (.cells (wvs (mixAt h8.list v.list t)).toArray 111 (0, 0)) ∧ Chg (fun k => k = w.heap.size + 1) W7 wr)
            (fun i _ => 8 - (intOf i).toNat)
          case atStart => exact ⟨0, Nat.zero_le _, rfl, HHR.out, Chg.refl _ _⟩
          case round =>
            obtain ⟨t, ht, rfl, hM, hC⟩ := hrel
            by_cases hlt8 : t < 8
            · have hlt9 : ((t : Nat) : Int) < (8 : Int) := by omega
              obtain ⟨x, hx⟩ : ∃ x, (mixAt h8.list v.list t).getD t 0 = x := ⟨_, rfl⟩
              obtain ⟨y, hy⟩ : ∃ y, v.list.getD t 0 = y := ⟨_, rfl⟩
              have hVr : wr.heap[w5.heap.size + 1]? = some (.cells (wvs v.list).toArray 111 (0, 0)) := (hC.block _ (Array.getElem?_eq_some_iff.1 HV.out).1 (fun e => by have := HLK.out; omega)).trans HV.out
              have c1 : wr.drew.cell? ⟨w.heap.size + 1, t, none⟩ = some (.int .u32 (wN x)) := tab_cell (w := wr) hM (by rw [mixAt_length]; exact hlt8) hx
              have c2 : wr.drew.cell? ⟨w5.heap.size + 1, t, none⟩ = some (.int .u32 (wN y)) := tab_cell (w := wr) hVr hlt8 hy
              have f1 : wr.drew.frozen? ⟨w.heap.size + 1, t, none⟩ = false := frozen_of_row wr.drew _ t _ _ hM
              have hadd := n_add
              have hst : mixAt h8.list v.list (t + 1) = (mixAt h8.list v.list t).set t (x + y) := by rw [mixAt, hx, hy]
              have hM2 : (wr.setCell ⟨w.heap.size + 1, t, none⟩ (.int .u32 (wN (x + y)))).heap[w.heap.size + 1]? = some (.cells (wvs (mixAt h8.list v.list (t + 1))).toArray 111 (0, 0)) := by
                rw [hst]
                refine (heap_setCell_same wr (w.heap.size + 1) t _ _ (.int .u32 (wN (x + y))) hM).trans ?_
                simp [wvs, wv]
              have hC2 : Chg (fun k => k = w.heap.size + 1) W7 (wr.setCell ⟨w.heap.size + 1, t, none⟩ (.int .u32 (wN (x + y)))) := hC.trans (Chg.setCell (F := fun k => k = w.heap.size + 1) _ _ rfl) (fun _ h => .inl h)
              have HM2 := Lib.hid hM2
              have HC2 := Lib.hid hC2
              clear hx hy hVr hst hM hC hM2 hC2
              refine hide_post fun Q2 HQ2 => ?_
              go_wp2_with fail
              go_region
              go_wp2_with fail
              rw [HQ2.out]
              change _ ∧ _
              go_roundw
              case rel => exact ⟨t + 1, by omega, by go_num, HM2.out, HC2.out.drew⟩
              case measure => simp [intOf]; omega
            · obtain rfl : t = 8 := by omega
              have hH9 : wr.heap[w.heap.size + 1]? = some (.cells (rH P (j + 1)).cells.toArray 111 (0, 0)) := by
                rw [rH, HH8.out, HBLK.out, HSE.out, HVE.out, cells_list, ← mixAt_end]; exact hM
              have hC9 : Chg (fun k => k = w.heap.size + 1) w4 wr := HC7.out.trans hC (fun _ h => .inl h)
              have HH9 := Lib.hid hH9
              have HC9 := Lib.hid hC9
              clear hM hC hH9 hC9 HC7 HHR HV
              refine hide_post fun Q2 HQ2 => ?_
              go_wp2_with fail
              rw [HQ2.out]
              go_step
              go_wp2_with fail
              refine ⟨?rel, ?measure⟩
              case rel => exact ⟨j + 1, by omega, by go_num, HH9.out, HC9.out⟩
              case measure => simp [intOf]; omega
    · obtain rfl : j = nb := by omega
      obtain ⟨v, hv⟩ : ∃ v, rH P j = v := ⟨_, rfl⟩
      rw [hv] at hH
      have hbw : Below w.heap.size w wo := HBD4.out.trans (hC.below (fun k e => by subst e; exact Nat.le_succ _) HBD4.out.size)
      have hRw : wo.heap[w.heap.size]? = some (.cells #[.int .u8 0, .int .u8 0, .int .u8 0, .int .u8 0, .int .u8 0, .int .u8 0, .int .u8 0, .int .u8 0, .int .u8 0, .int .u8 0, .int .u8 0, .int .u8 0, .int .u8 0, .int .u8 0, .int .u8 0, .int .u8 0, .int .u8 0, .int .u8 0, .int .u8 0, .int .u8 0, .int .u8 0, .int .u8 0, .int .u8 0, .int .u8 0, .int .u8 0, .int .u8 0, .int .u8 0, .int .u8 0, .int .u8 0, .int .u8 0, .int .u8 0, .int .u8 0] 92 (0, 0)) := (hC.block _ (Array.getElem?_eq_some_iff.1 HN41.out).1 (fun e => by omega)).trans HN41.out
      have hgoal : rH (l ++ padL l.length) ((l ++ padL l.length).length / 64) = v := by rw [HP.out, HNB.out]; exact hv
      have hnr : (wo.alloc (.cells #[.int .u8 0, .int .u8 0, .int .u8 0, .int .u8 0, .int .u8 0, .int .u8 0, .int .u8 0, .int .u8 0, .int .u8 0, .int .u8 0, .int .u8 0, .int .u8 0, .int .u8 0, .int .u8 0, .int .u8 0, .int .u8 0, .int .u8 0, .int .u8 0, .int .u8 0, .int .u8 0, .int .u8 0, .int .u8 0, .int .u8 0, .int .u8 0, .int .u8 0, .int .u8 0, .int .u8 0, .int .u8 0, .int .u8 0, .int .u8 0, .int .u8 0, .int .u8 0] 92)).heap[wo.heap.size]? = some (.cells (bvs (dgAt v 0)).toArray 92 (0, 0)) := heap_alloc_new wo _
      have hHr : (wo.alloc (.cells #[.int .u8 0, .int .u8 0, .int .u8 0, .int .u8 0, .int .u8 0, .int .u8 0, .int .u8 0, .int .u8 0, .int .u8 0, .int .u8 0, .int .u8 0, .int .u8 0, .int .u8 0, .int .u8 0, .int .u8 0, .int .u8 0, .int .u8 0, .int .u8 0, .int .u8 0, .int .u8 0, .int .u8 0, .int .u8 0, .int .u8 0, .int .u8 0, .int .u8 0, .int .u8 0, .int .u8 0, .int .u8 0, .int .u8 0, .int .u8 0, .int .u8 0, .int .u8 0] 92)).heap[w.heap.size + 1]? = some (.cells v.cells.toArray 111 (0, 0)) := (Below.heap_alloc _ _ _ (Array.getElem?_eq_some_iff.1 hH).1).trans hH
      have hRr : (wo.alloc (.cells #[.int .u8 0, .int .u8 0, .int .u8 0, .int .u8 0, .int .u8 0, .int .u8 0, .int .u8 0, .int .u8 0, .int .u8 0, .int .u8 0, .int .u8 0, .int .u8 0, .int .u8 0, .int .u8 0, .int .u8 0, .int .u8 0, .int .u8 0, .int .u8 0, .int .u8 0, .int .u8 0, .int .u8 0, .int .u8 0, .int .u8 0, .int .u8 0, .int .u8 0, .int .u8 0, .int .u8 0, .int .u8 0, .int .u8 0, .int .u8 0, .int .u8 0, .int .u8 0] 92)).heap[w.heap.size]? = some (.cells #[.int .u8 0, .int .u8 0, .int .u8 0, .int .u8 0, .int .u8 0, .int .u8 0, .int .u8 0, .int .u8 0, .int .u8 0, .int .u8 0, .int .u8 0, .int .u8 0, .int .u8 0, .int .u8 0, .int .u8 0, .int .u8 0, .int .u8 0, .int .u8 0, .int .u8 0, .int .u8 0, .int .u8 0, .int .u8 0, .int .u8 0, .int .u8 0, .int .u8 0, .int .u8 0, .int .u8 0, .int .u8 0, .int .u8 0, .int .u8 0, .int .u8 0, .int .u8 0] 92 (0, 0)) := (Below.heap_alloc _ _ _ (Array.getElem?_eq_some_iff.1 hRw).1).trans hRw
      have hws : w.heap.size + 1 < wo.heap.size := (Array.getElem?_eq_some_iff.1 hH).1
      have HG := Lib.hid hgoal
      have HNR := Lib.hid hnr
      have HHR := Lib.hid hHr
      have HRR := Lib.hid hRr
      have HBW := Lib.hid hbw
      clear hv hH hC hbw hRw hgoal hnr hHr hRr HN41 HN42 HN4K HBD4 HP HNB HPN
      refine hide_post fun Q HQ => ?_
      go_wp2_with fail
      rw [HQ.out]
      go_step
      go_wp2_with fail
      go_loopw [14] (fun i wr => ∃ t : Nat, t ≤ 32 ∧ i = .int .i64 (t : Int) ∧ wr.heap[wo.heap.size]? = some (.cells (bvs (dgAt v t)).toArray 92 (0, 0)) ∧ Chg (fun k => k = wo.heap.size) (wo.alloc (.cells #[.int .u8 0, .int .u8 0, .int .u8 0, .int .u8 0, .int .u8 0, .int .u8 0, .int .u8 0, .int .u8 0, .int .u8 0, .int .u8 0, .int .u8 0, .int .u8 0, .int .u8 0, .int .u8 0, .int .u8 0, .int .u8 0, .int .u8 0, .int .u8 0, .int .u8 0, .int .u8 0, .int .u8 0, .int .u8 0, .int .u8 0, .int .u8 0, .int .u8 0, .int .u8 0, .int .u8 0, .int .u8 0, .int .u8 0, .int .u8 0, .int .u8 0, .int .u8 0] 92)) wr)
        (fun i _ => 32 - (intOf i).toNat)
      case atStart => exact ⟨0, Nat.zero_le _, rfl, HNR.out, Chg.refl _ _⟩
      case round =>
        obtain ⟨t, ht, rfl, hD, hC⟩ := hrel
        have hVr : wr.heap[w.heap.size + 1]? = some (.cells (wvs v.list).toArray 111 (0, 0)) := (hC.block _ (Array.getElem?_eq_some_iff.1 HHR.out).1 (fun e => by omega)).trans HHR.out
        have hRr : wr.heap[w.heap.size]? = some (.cells #[.int .u8 0, .int .u8 0, .int .u8 0, .int .u8 0, .int .u8 0, .int .u8 0, .int .u8 0, .int .u8 0, .int .u8 0, .int .u8 0, .int .u8 0, .int .u8 0, .int .u8 0, .int .u8 0, .int .u8 0, .int .u8 0, .int .u8 0, .int .u8 0, .int .u8 0, .int .u8 0, .int .u8 0, .int .u8 0, .int .u8 0, .int .u8 0, .int .u8 0, .int .u8 0, .int .u8 0, .int .u8 0, .int .u8 0, .int .u8 0, .int .u8 0, .int .u8 0] 92 (0, 0)) := (hC.block _ (Array.getElem?_eq_some_iff.1 HRR.out).1 (fun e => by omega)).trans HRR.out
        by_cases hltd : t < 32
        · have hltd' : ((t : Nat) : Int) < (32 : Int) := by omega
          obtain ⟨q, hq⟩ : ∃ q, t / 4 = q := ⟨_, rfl⟩
          obtain ⟨r, hr⟩ : ∃ r, t % 4 = r := ⟨_, rfl⟩
          have hq8 : q < 8 := by omega
          have hq8' : ((q : Nat) : Int) < (8 : Int) := by omega
          have hr4 : r < 4 := by omega
          obtain ⟨x, hx⟩ : ∃ x, v.list.getD q 0 = x := ⟨_, rfl⟩
          have c1 : wr.cell? ⟨w.heap.size + 1, q, none⟩ = some (.int .u32 (wN x)) := tab_cell hVr hq8 hx
          have c2 : wr.cell? ⟨wo.heap.size, t, none⟩ = some (.int .u8 0) := by
            rw [cell_of_row wr _ _ _ _ _ hD]
            simp [bvs, bv, dgAt, hltd]
          have f1 := frozen_of_row wr wo.heap.size t _ _ hD
          have eq1 : ((t : Nat) : Int).tdiv 4 = (q : Int) := by rw [Int.tdiv_eq_ediv_of_nonneg (by omega)]; omega
          have er1 : ((t : Nat) : Int).tmod 4 = (r : Int) := by rw [Int.tmod_eq_emod_of_nonneg (by omega)]; omega
          have HD := Lib.hid hD
          have HC := Lib.hid hC
          have HX := Lib.hid hx
          have HQE := Lib.hid hq
          have HRE := Lib.hid hr
          clear hD hC hx hq hr hVr hRr
          refine hide_post fun Q2 HQ2 => ?_
          go_wp2_with fail
          obtain ⟨c, hc⟩ : ∃ c : Int, ((dgB v t).toNat : Int) = c := ⟨_, rfl⟩
          have hby : wN x / 2 ^ (24 - 8 * r) % 256 = c := by
            rw [n_shr x (24 - 8 * r) (by omega), ← hc]
            unfold dgB wN
            rw [HQE.out, HRE.out, HX.out]
            simp
          have hD2 : (wr.setCell ⟨wo.heap.size, t, none⟩ (.int .u8 c)).heap[wo.heap.size]? = some (.cells (bvs (dgAt v (t + 1))).toArray 92 (0, 0)) := by
            refine (heap_setCell_same wr _ _ _ _ _ HD.out).trans ?_
            rw [← dgAt_set v _ hltd, ← hc]
            simp [bvs, bv]
          have hC2 := HC.out.trans (Chg.setCell (F := fun k => k = wo.heap.size) (a := ⟨wo.heap.size, t, none⟩) wr (.int .u8 c) rfl) (fun _ h => .inl h)
          rw [hby, HQ2.out]
          change _ ∧ _
          go_roundw
          case rel => exact ⟨t + 1, by omega, by go_num, hD2, hC2⟩
          case measure => simp [intOf]; omega
        · obtain rfl : t = 32 := by omega
          have hWl : wr.heap[wo.heap.size]? = some (.cells (bvs (digestL v)).toArray 92 (0, 0)) := by rw [← dgAt_end v]; exact hD
          have hsz : (Tryd.prog.info? 92).map (·.size) = some (bvs (digestL v)).toArray.size := by
            have : (Tryd.prog.info? 92).map (·.size) = some 32 := by kernel_rfl
            rw [this, List.size_toArray, bvs_length, digestL_length]
          have hzs : (#[.int .u8 0, .int .u8 0, .int .u8 0, .int .u8 0, .int .u8 0, .int .u8 0, .int .u8 0, .int .u8 0, .int .u8 0, .int .u8 0, .int .u8 0, .int .u8 0, .int .u8 0, .int .u8 0, .int .u8 0, .int .u8 0, .int .u8 0, .int .u8 0, .int .u8 0, .int .u8 0, .int .u8 0, .int .u8 0, .int .u8 0, .int .u8 0, .int .u8 0, .int .u8 0, .int .u8 0, .int .u8 0, .int .u8 0, .int .u8 0, .int .u8 0, .int .u8 0] : Array Value).size = (bvs (digestL v)).toArray.size := by
            show 32 = _
            rw [List.size_toArray, bvs_length, digestL_length]
          have hbz : Below w.heap.size w wr := (HBW.out.alloc HBW.out.size _).trans (hC.below (B := (wo.alloc (.cells #[.int .u8 0, .int .u8 0, .int .u8 0, .int .u8 0, .int .u8 0, .int .u8 0, .int .u8 0, .int .u8 0, .int .u8 0, .int .u8 0, .int .u8 0, .int .u8 0, .int .u8 0, .int .u8 0, .int .u8 0, .int .u8 0, .int .u8 0, .int .u8 0, .int .u8 0, .int .u8 0, .int .u8 0, .int .u8 0, .int .u8 0, .int .u8 0, .int .u8 0, .int .u8 0, .int .u8 0, .int .u8 0, .int .u8 0, .int .u8 0, .int .u8 0, .int .u8 0] 92)).heap.size - 1) (fun k e => by subst e; simp) (by omega) |>.mono (by simp; exact HBW.out.size))
          have HSZ := Lib.hid hsz
          have HZS := Lib.hid hzs
          have HWl := Lib.hid hWl
          have HR := Lib.hid hRr
          have HB := Lib.hid hbz
          clear hsz hzs hWl hRr hbz hC hD hVr
          refine hide_post fun Q2 HQ2 => ?_
          go_wp2_with fail
          rw [HQ2.out]
          go_step
          go_wp2_with (first | (with_reducible refine wpList_load_row rfl 92 _ rfl wo.heap.size rfl 92 (bvs (digestL v)).toArray (0, 0) _ HWl.out Tryd.underlying92 rfl HSZ.out ?_) | (with_reducible refine wpList_store_row rfl 92 _ _ rfl w.heap.size (bvs (digestL v)).toArray rfl rfl 92 _ HR.out HSZ.out HZS.out (oneCell_bvs _) ?_))
          refine bodyPost_ret (v := .agg (bvs (digestL v)).toArray) ?r1 rfl ?r2
          case r1 => exact results_cell_row (g := w.heap.size) rfl _ _ _ _ _ _ rfl (setRow_heap _ _ _ _ _ _ HR.out) Tryd.underlying92 rfl HSZ.out
          case r2 => exact ⟨by rw [HG.out]; rfl, below_setRow HB.out (Nat.le_refl _) _⟩

end Go.Proofs.YtloaenknhkfaeaaDoor
