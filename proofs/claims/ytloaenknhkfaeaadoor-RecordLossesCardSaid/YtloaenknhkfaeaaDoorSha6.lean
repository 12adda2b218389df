/- sha256: (*Hash).Sum. -/
import Derived.Test.YtloaenknhkfaeaaDoorSha5
import Derived.Test.YtloaenknhkfaeaaDoorGenP
namespace Go.Proofs.YtloaenknhkfaeaaDoor
open Go.RowKit
set_option linter.unusedVariables false
set_option linter.unusedSimpArgs false

/-! ### the padding -/
def zN (n : Nat) : Nat := (119 - n % 64) % 64
def cntB (n j : Nat) : UInt8 := (n * 8 / 2 ^ (56 - 8 * j)).toUInt8
def padL (n : Nat) : List UInt8 := (128 :: List.replicate (zN n) 0) ++ (List.range 8).map (cntB n)
theorem padL_length (n : Nat) : (padL n).length = zN n + 9 := by simp [padL]
theorem padL_full (n : Nat) : (n + (padL n).length) % 64 = 0 := by rw [padL_length]; unfold zN; omega
def shaL (M : List UInt8) : List UInt8 := digestL (blkW w8init (M ++ padL M.length) ((M ++ padL M.length).length / 64))
@[simp] theorem shaL_length (M : List UInt8) : (shaL M).length = 32 := digestL_length _
theorem zstep (z : Nat) : (128 : UInt8) :: List.replicate (z + 1) 0 = (128 :: List.replicate z 0) ++ [0] := by rw [List.replicate_succ']; rfl
theorem range_step (n j : Nat) : (List.range (j + 1)).map (cntB n) = (List.range j).map (cntB n) ++ [cntB n j] := by rw [List.range_succ, List.map_append]; rfl

theorem sizeHash : (Tryd.prog.info? 125).map (·.size) = some 73 := by kernel_rfl
def w8zero : W8 := ⟨0, 0, 0, 0, 0, 0, 0, 0⟩
theorem zcHash : Tryd.zeroCells125 = (hcells w8zero (List.replicate 64 0) 0).toArray := by kernel_rfl
theorem oneCell_hcells (v : W8) (buf : List UInt8) (n : Nat) : (hcells v buf n).toArray.all (·.oneCell') = true := by
  rw [List.all_toArray]
  unfold hcells
  rw [List.all_append, List.all_append]
  have h1 : v.cells.all (·.oneCell') = true := by simp [W8.cells, wv, Value.oneCell']
  have h2 : (bvs buf).all (·.oneCell') = true := List.all_eq_true.2 bvs_oneCell
  rw [h1, h2]
  rfl

theorem HBD_block {w wr W2 : World} {o : Obj} {B j : Nat} (_ : Below B w wr) (h : wr.alloc o = W2) (hj : j < wr.heap.size) : W2.heap[j]? = wr.heap[j]? := by rw [← h]; exact Below.heap_alloc wr o j hj
set_option maxRecDepth 100000 in
set_option maxHeartbeats 2000000 in
theorem HashSum_any {w : World} {b : Nat} {v : W8} {buf : List UInt8} (M : List UInt8) (hH : HashAt w b v buf M.length) (hS : HS v buf M) (hK : KAt w) (hlen : M.length < 1000000000) :
    Calls Tryd.prog 65 #[.pointer (some ⟨b, 0, none⟩)] w fun e w' => e = .returned (cval (shaL M)) ∧ Below w.heap.size w w' := by
  have hlc := hH.length
  obtain ⟨N, hN⟩ : ∃ N, M.length = N := ⟨_, rfl⟩
  rw [hN] at hH hlc hlen
  obtain ⟨z, hz⟩ : ∃ z, zN N = z := ⟨_, rfl⟩
  have hz64 : z < 64 := by rw [← hz]; unfold zN; omega
  have hmz : (N + 1 + z) % 64 = 56 := by rw [← hz]; unfold zN; omega
  have hmz2 : ∀ j, j < z → (N + 1 + j) % 64 ≠ 56 := by intro j hj; rw [← hz] at hj; unfold zN at hj; omega
  obtain ⟨w1, hw1⟩ : ∃ w1, (w.alloc (.cells #[.int .u8 0, .int .u8 0, .int .u8 0, .int .u8 0, .int .u8 0, .int .u8 0, .int .u8 0, .int .u8 0, .int .u8 0, .int .u8 0, .int .u8 0, .int .u8 0, .int .u8 0, .int .u8 0, .int .u8 0, .int .u8 0, .int .u8 0, .int .u8 0, .int .u8 0, .int .u8 0, .int .u8 0, .int .u8 0, .int .u8 0, .int .u8 0, .int .u8 0, .int .u8 0, .int .u8 0, .int .u8 0, .int .u8 0, .int .u8 0, .int .u8 0, .int .u8 0] 108)).alloc (.cells #[.int .u8 128] 5) = w1 := ⟨_, rfl⟩
  have hb1 : Below w.heap.size w w1 := hw1 ▸ ((Below.refl _ w).alloc (Nat.le_refl _) _).alloc (by simp) _
  have hs1 : w1.heap.size = w.heap.size + 2 := by rw [← hw1]; simp
  have n1 : w1.heap[w.heap.size]? = some (.cells #[.int .u8 0, .int .u8 0, .int .u8 0, .int .u8 0, .int .u8 0, .int .u8 0, .int .u8 0, .int .u8 0, .int .u8 0, .int .u8 0, .int .u8 0, .int .u8 0, .int .u8 0, .int .u8 0, .int .u8 0, .int .u8 0, .int .u8 0, .int .u8 0, .int .u8 0, .int .u8 0, .int .u8 0, .int .u8 0, .int .u8 0, .int .u8 0, .int .u8 0, .int .u8 0, .int .u8 0, .int .u8 0, .int .u8 0, .int .u8 0, .int .u8 0, .int .u8 0] 108 (0, 0)) := by rw [← hw1, Below.heap_alloc _ _ _ (by simp)]; exact heap_alloc_new w _
  have n2 : w1.heap[w.heap.size + 1]? = some (.cells #[.int .u8 128] 5 (0, 0)) := by
    have := heap_alloc_new (w.alloc (.cells #[.int .u8 0, .int .u8 0, .int .u8 0, .int .u8 0, .int .u8 0, .int .u8 0, .int .u8 0, .int .u8 0, .int .u8 0, .int .u8 0, .int .u8 0, .int .u8 0, .int .u8 0, .int .u8 0, .int .u8 0, .int .u8 0, .int .u8 0, .int .u8 0, .int .u8 0, .int .u8 0, .int .u8 0, .int .u8 0, .int .u8 0, .int .u8 0, .int .u8 0, .int .u8 0, .int .u8 0, .int .u8 0, .int .u8 0, .int .u8 0, .int .u8 0, .int .u8 0] 108)) (.cells #[.int .u8 128] 5)
    rw [World.size_alloc] at this
    rw [← hw1]; exact this
  have ho1 : w1.ownsRow (w.heap.size + 1) 5 1 (.slice (some ⟨w.heap.size + 1, 0, none⟩) 1 1) 1 (bvs (128 :: List.replicate 0 0)) :=
    ⟨by decide, .inr ⟨w.heap.size + 1, 1, _, rfl, Nat.le_refl _, n2, by decide, by decide, by decide, rfl⟩⟩
  have hbl := hH.lt
  have HH := Lib.hid hH
  have HSS := Lib.hid hS
  have HK := Lib.hid hK
  have HN := Lib.hid hN
  have HZ := Lib.hid hz
  have HMZ := Lib.hid hmz
  have HMZ2 := Lib.hid hmz2
  have HW1 := Lib.hid hw1
  have HB1 := Lib.hid hb1
  have HS1 := Lib.hid hs1
  have HN1 := Lib.hid n1
  have HO1 := Lib.hid ho1
  clear hH hS hK hN hz hmz hmz2 hw1 hb1 hs1 n1 n2 ho1
  go_enter Tryd.func65, Tryd.ntmps65
  go_wp2_with fail
  rw [HW1.out]
  clear HW1 hlc
  go_loopw [3] (fun pv wr => ∃ j : Nat, j ≤ z ∧ wr.ownsRow (w.heap.size + 1) 5 1 pv (1 + j) (bvs (128 :: List.replicate j 0)) ∧ Below (w.heap.size + 1) w1 wr)
    (fun pv _ => match pv with | .slice _ n _ => 1 + z - n | _ => 0)
  case atStart => exact ⟨0, Nat.zero_le _, HO1.out, Below.refl _ _⟩
  case round =>
    obtain ⟨j, hj, hO, hB⟩ := hrel
    obtain ⟨pa, pc, rfl⟩ := ownsRow_form hO
    have hlr : wr.cell? ⟨b, 72, none⟩ = some (.int .i64 (N : Int)) := (hB.cell (p := ⟨b, 72, none⟩) (by show b < w.heap.size + 1; omega)).trans ((HB1.out.cell (p := ⟨b, 72, none⟩) hbl).trans HH.out.length)
    have HO := Lib.hid hO
    have HB := Lib.hid hB
    clear hO hB
    by_cases hlt : j < z
    · have hmod : (((N : Int) + (1 + (j : Int))) % 64 == 56) = false := by have := HMZ2.out j hlt; simp; omega
      have hmod2 : (((N : Int) + (1 + (j : Int))) % 64 != 56) = true := by have := HMZ2.out j hlt; simp; omega
      have hgn := heap_alloc_new wr (.cells #[bv 0] 5)
      have hba : Below wr.heap.size wr (wr.alloc (.cells #[bv 0] 5)) := (Below.refl _ _).alloc (Nat.le_refl _) _
      have hO3 := ownsRow_chg (G := fun _ => False) HO.out (Chg.of_below hba) (fun _ _ _ h => h)
      have hB3 := HB.out.trans (hba.mono (Nat.le_trans (by have := HS1.out; omega) HB.out.size))
      have hbs : w.heap.size + 1 ≤ (wr.alloc (.cells #[bv 0] 5)).heap.size := by have := HB.out.size; have := HS1.out; simp; omega
      have HGN := Lib.hid hgn
      have HO3 := Lib.hid hO3
      have HB3 := Lib.hid hB3
      have HBS := Lib.hid hbs
      clear hgn hba hO3 hB3 hbs
      go_wp2_with (at_builtin; refine wpList_appByte rfl (.tmp 20) (.tmp 21) rfl rfl HO3.out wr.heap.size rfl HGN.out (by omega) HBS.out ?_)
      intro g' cap' w5 hlt5 hown5 hgr5 hat5
      have hB5 : Below (w.heap.size + 1) w1 w5 := HB3.out.grown hgr5 HBS.out (fun j hj => (ownsRow_lt HO3.out j hj).1)
      have HO5 := Lib.hid hown5
      have HB5 := Lib.hid hB5
      clear hown5 hgr5 hat5 hB5
      go_wp2_with fail
      go_roundw
      case rel => exact ⟨j + 1, by omega, by rw [zstep]; exact HO5.out, HB5.out⟩
      case measure => simp; omega
    · obtain rfl : j = z := by omega
      have hmod : (((N : Int) + (1 + (j : Int))) % 64 == 56) = true := by have := HMZ.out; simp; omega
      have hmod2 : (((N : Int) + (1 + (j : Int))) % 64 != 56) = false := by have := HMZ.out; simp; omega
      go_wp2_with fail
      have HOz := HO
      have hq : wr.ownsRow (w.heap.size + 1) 5 1 (.slice pa (1 + j) pc) (1 + j + 0) (bvs ((128 :: List.replicate j 0) ++ (List.range 0).map (cntB N))) := by
        rw [List.range_zero, List.map_nil, List.append_nil]; exact HO.out
      have HQ := Lib.hid hq
      clear hq hmod hmod2 hlr HOz
      obtain ⟨wa, rfl⟩ : ∃ wa : World, wa = wr := ⟨_, rfl⟩
      go_loopw [3, 29] (fun pv i wr => ∃ q : Nat, q ≤ 8 ∧ i = .int .i64 (q : Int) ∧ wr.ownsRow (w.heap.size + 1) 5 1 pv (1 + j + q) (bvs ((128 :: List.replicate j 0) ++ (List.range q).map (cntB N))) ∧ Below (w.heap.size + 1) w1 wr)
        (fun _ i _ => 8 - (intOf i).toNat)
      case atStart => exact ⟨0, Nat.zero_le _, rfl, HQ.out, HB.out⟩
      case round =>
        obtain ⟨q, hq, rfl, hO, hB⟩ := hrel
        obtain ⟨qa, qc, rfl⟩ := ownsRow_form hO
        have HO2 := Lib.hid hO
        have HB2 := Lib.hid hB
        clear hO hB
        by_cases hq8 : q < 8
        · have hval : 8 * (N : Int) / 2 ^ (56 - 8 * q) % 256 = ((cntB N q).toNat : Int) := by
            unfold cntB
            rw [Nat.mul_comm N 8]
            have e : (2 : Int) ^ (56 - 8 * q) = ((2 ^ (56 - 8 * q) : Nat) : Int) := (Int.natCast_pow 2 _).symm
            rw [e]
            simp
          have hgn := heap_alloc_new wr (.cells #[.int .u8 (8 * (N : Int) / 2 ^ (56 - 8 * q) % 256)] 5)
          have hba : Below wr.heap.size wr (wr.alloc (.cells #[.int .u8 (8 * (N : Int) / 2 ^ (56 - 8 * q) % 256)] 5)) := (Below.refl _ _).alloc (Nat.le_refl _) _
          have hgn2 : (wr.alloc (.cells #[.int .u8 (8 * (N : Int) / 2 ^ (56 - 8 * q) % 256)] 5)).heap[wr.heap.size]? = some (.cells #[bv (cntB N q)] 5 (0, 0)) := by rw [hgn, hval]; rfl
          have hO3 := ownsRow_chg (G := fun _ => False) HO2.out (Chg.of_below hba) (fun _ _ _ h => h)
          have hB3 := HB2.out.trans (hba.mono (Nat.le_trans (by have := HS1.out; omega) HB2.out.size))
          have hbs : w.heap.size + 1 ≤ (wr.alloc (.cells #[.int .u8 (8 * (N : Int) / 2 ^ (56 - 8 * q) % 256)] 5)).heap.size := by have := HB2.out.size; have := HS1.out; simp; omega
          have HGN := Lib.hid hgn2
          have HO3 := Lib.hid hO3
          have HB3 := Lib.hid hB3
          have HBS := Lib.hid hbs
          clear hgn hba hO3 hB3 hbs hgn2 hval
          go_wp2_with (at_builtin; refine wpList_appByte rfl (.tmp 32) (.tmp 39) rfl rfl HO3.out wr.heap.size rfl HGN.out (by omega) HBS.out ?_)
          intro g' cap' w5 hlt5 hown5 hgr5 hat5
          have hB5 : Below (w.heap.size + 1) w1 w5 := HB3.out.grown hgr5 HBS.out (fun j hj => (ownsRow_lt HO3.out j hj).1)
          have HO5 := Lib.hid hown5
          have HB5 := Lib.hid hB5
          clear hown5 hgr5 hat5 hB5
          go_wp2_with fail
          go_roundw
          case rel => exact ⟨q + 1, by omega, by go_num, by rw [range_step]; have h := HO5.out; simp only [List.cons_append, List.append_assoc] at h ⊢; exact h, HB5.out⟩
          case measure => simp [intOf]; omega
        · obtain rfl : q = 8 := by omega
          have hpl : (128 :: List.replicate j 0) ++ (List.range 8).map (cntB N) = padL N := by unfold padL; rw [HZ.out]
          obtain ⟨P, hP⟩ : ∃ P, padL N = P := ⟨_, rfl⟩
          have hPl : P.length = 1 + j + 8 := by rw [← hP, padL_length, HZ.out]; omega
          have hOP := HO2.out
          rw [hpl, hP] at hOP
          obtain ⟨nP, hnP⟩ : ∃ nP, 1 + j + 8 = nP := ⟨_, rfl⟩
          rw [hnP] at hOP hPl ⊢
          have hnPb : nP ≤ 100 := by omega
          have hB0 : Below w.heap.size w wr := HB1.out.trans (HB2.out.mono (Nat.le_succ _))
          have hhr := HH.out.kept (hB0.block _ hbl)
          have hsz : (Tryd.prog.info? 125).map (·.size) = some (hcells v buf N).toArray.size := by rw [List.size_toArray, hcells_length HH.out.len]; exact sizeHash
          have hzs : (Tryd.zeroCells125 : Array Value).size = (hcells v buf N).toArray.size := by
            rw [zcHash, List.size_toArray, List.size_toArray, hcells_length HH.out.len]; exact hcells_length (by simp)
          have hnw := heap_alloc_new wr (.cells Tryd.zeroCells125 125)
          obtain ⟨W2, hW2⟩ : ∃ W2, wr.alloc (.cells (hcells v buf N).toArray 125) = W2 := ⟨_, rfl⟩
          have hb2 : Below wr.heap.size wr W2 := hW2 ▸ (Below.refl _ _).alloc (Nat.le_refl _) _
          have hs2 : W2.heap.size = wr.heap.size + 1 := by rw [← hW2, World.size_alloc]
          have hh2 : HashAt W2 wr.heap.size v buf M.length := ⟨HH.out.len, by rw [← hW2, HN.out]; exact heap_alloc_new _ _⟩
          have hOP2 := ownsRow_chg (G := fun _ => False) hOP (Chg.of_below hb2) (fun _ _ _ h => h)
          have hlP : ∀ g, (Value.slice qa nP qc).ownBlock = some g → g < wr.heap.size := fun g hg => (ownsRow_lt hOP g hg).2
          have hBP : BytesAt W2 (fun g => g ≠ wr.heap.size) (.slice qa nP qc) P := by
            have h9 := ownsRow_bytes hOP hPl
            have h8 := h9.kept (G := fun _ => False) (Chg.of_below hb2) (fun _ _ h => h)
            obtain ⟨xa, xc, e, hxc, hxr⟩ := h9
            obtain ⟨ya, yc, e2, hyc, hyr⟩ := h8
            refine ⟨ya, yc, e2, hyc, fun hne => ?_⟩
            obtain ⟨g, off, e3, h3, h4, h5⟩ := hyr hne
            obtain ⟨g', off', e3', h3', h4', h5'⟩ := hxr hne
            rw [e3'] at e
            rw [e3] at e2
            rw [e2] at e
            cases e
            exact ⟨g, off, e3, by omega, h4, h5⟩
          have hbd := hB0.trans (hb2.mono hB0.size)
          have hka := (HK.out.below hbd HK.out.size)
          have HHR := Lib.hid hhr
          have HSZ := Lib.hid hsz
          have HZS := Lib.hid hzs
          have HNW := Lib.hid hnw
          have HW2 := Lib.hid hW2
          have HH2 := Lib.hid hh2
          have HBP := Lib.hid hBP
          have HBD := Lib.hid hbd
          have HKA := Lib.hid hka
          have HS2 := Lib.hid hs2
          have HPE := Lib.hid hP
          have HPL := Lib.hid hPl
          have HB20 := Lib.hid hB0
          have hbr : w.heap.size < wr.heap.size := by have := HB2.out.size; have := HS1.out; omega
          clear hpl hP hPl hOP hnP hB0 hhr hsz hzs hnw hW2 hb2 hs2 hh2 hOP2 hlP hBP hbd hka
          go_wp2_with (first | (with_reducible refine wpList_load_row rfl 125 _ rfl b rfl 125 (hcells v buf N).toArray (0, 0) _ HHR.out.hb Tryd.underlying125 rfl HSZ.out ?_) | (with_reducible refine wpList_store_row rfl 125 _ _ rfl wr.heap.size (hcells v buf N).toArray rfl rfl 125 _ HNW.out HSZ.out HZS.out (oneCell_hcells _ _ _) ?_; rw [World.setRow_alloc_new, HW2.out]))
          refine (Write_any M P _ HH2.out (fun _ => HSS.out) HBP.out HKA.out (by have := HK.out.size; omega) (by have := HN.out; have := HPL.out; omega)).mono ?_
          rintro e w6 ⟨rfl, v6, buf6, hh6, hs6, hc6⟩
          have hst6 := hh6.state
          obtain ⟨e0, e1, e2, e3, e4, e5, e6, e7⟩ := hst6
          have hb6 : Below w.heap.size w w6 := HBD.out.trans (hc6.below (fun k e => by rw [e]; omega) HBD.out.size)
          have n16 : w6.heap[w.heap.size]? = _ := (hc6.block _ (by have := HS2.out; omega) (by omega)).trans ((HBD_block HB20.out HW2.out (by omega)).trans ((HB2.out.block _ (by omega)).trans HN1.out))
          have hv6 : digestL v6 = shaL M := by
            unfold shaL
            rw [HN.out, HPE.out, ← hs6.st]
          have hdg : Calls Tryd.prog 69 #[.agg #[.int .u32 (wN v6.a), .int .u32 (wN v6.b), .int .u32 (wN v6.c), .int .u32 (wN v6.d), .int .u32 (wN v6.e), .int .u32 (wN v6.f), .int .u32 (wN v6.g), .int .u32 (wN v6.i)]] w6 (fun e w' => e = .returned (.agg (bvs (digestL v6)).toArray) ∧ Below w6.heap.size w6 w') := digest_any v6 w6
          rw [hv6] at hdg
          have HDG := Lib.hid hdg
          have HB6 := Lib.hid hb6
          have HN6 := Lib.hid n16
          have hl6 : w.heap.size < w6.heap.size := (Array.getElem?_eq_some_iff.1 n16).1
          clear hh6 hs6 hc6 hb6 n16 hv6 hdg
          go_wp2_with fail
          refine HDG.out.mono ?_
          rintro e w7 ⟨rfl, hb7⟩
          have n17 : w7.heap[w.heap.size]? = _ := (hb7.block _ hl6).trans HN6.out
          have hb7' := HB6.out.trans (hb7.mono HB6.out.size)
          have hszd : (Tryd.prog.info? 108).map (·.size) = some (bvs (shaL M)).toArray.size := by
            have : (Tryd.prog.info? 108).map (·.size) = some 32 := by kernel_rfl
            rw [this, List.size_toArray, bvs_length, shaL_length]
          have hzsd : (#[.int .u8 0, .int .u8 0, .int .u8 0, .int .u8 0, .int .u8 0, .int .u8 0, .int .u8 0, .int .u8 0, .int .u8 0, .int .u8 0, .int .u8 0, .int .u8 0, .int .u8 0, .int .u8 0, .int .u8 0, .int .u8 0, .int .u8 0, .int .u8 0, .int .u8 0, .int .u8 0, .int .u8 0, .int .u8 0, .int .u8 0, .int .u8 0, .int .u8 0, .int .u8 0, .int .u8 0, .int .u8 0, .int .u8 0, .int .u8 0, .int .u8 0, .int .u8 0] : Array Value).size = (bvs (shaL M)).toArray.size := by
            show 32 = _
            rw [List.size_toArray, bvs_length, shaL_length]
          have HN7 := Lib.hid n17
          have HB7 := Lib.hid hb7'
          have HSD := Lib.hid hszd
          have HZD := Lib.hid hzsd
          clear n17 hb7 hb7' hszd hzsd e0 e1 e2 e3 e4 e5 e6 e7
          go_wp2_with (with_reducible refine wpList_store_row rfl 108 _ _ rfl w.heap.size (bvs (shaL M)).toArray rfl rfl 108 _ HN7.out HSD.out HZD.out (oneCell_bvs _) ?_)
          refine bodyPost_ret (v := .agg (bvs (shaL M)).toArray) ?r1 rfl ?r2
          case r1 => exact results_cell_row (g := w.heap.size) rfl _ _ _ _ _ _ rfl (setRow_heap _ _ _ _ _ _ HN7.out) Tryd.underlying108 rfl HSD.out
          case r2 => exact ⟨rfl, below_setRow HB7.out (Nat.le_refl _) _⟩

end Go.Proofs.YtloaenknhkfaeaaDoor
