/- Fates: choices that tear no write. -/
import Derived.Test.YtplclpileejemaaDoorJp9Z
namespace Go.Proofs.YtplclpileejemaaDoor
open Go.RowKit
set_option linter.unusedVariables false
set_option linter.unusedSimpArgs false

/-- A choice that tears nothing. -/
def fateB (b : UInt8) : UInt8 := if b.toNat % 3 = 2 then UInt8.ofNat (b.toNat / 3 % 2) else b
def fateL (l : List UInt8) : List UInt8 := l.map fateB
theorem fateL_length (l : List UInt8) : (fateL l).length = l.length := by simp [fateL]
theorem fateL_tear (l : List UInt8) (i : Nat) : ((fateL l).getD i 0).toNat % 3 ≠ 2 := by
  rw [List.getD_eq_getElem?_getD]
  unfold fateL
  rw [List.getElem?_map]
  cases h : l[i]? with
  | none => decide
  | some b =>
    show (fateB b).toNat % 3 ≠ 2
    unfold fateB
    by_cases h2 : b.toNat % 3 = 2
    · rw [if_pos h2]
      have h3 : b.toNat / 3 % 2 < 2 := Nat.mod_lt _ (by decide)
      rw [UInt8.toNat_ofNat', Nat.mod_eq_of_lt (Nat.lt_of_lt_of_le h3 (by decide))]
      exact fun h4 => by rw [Nat.mod_eq_of_lt (Nat.lt_of_lt_of_le h3 (by decide))] at h4; rw [h4] at h3; exact absurd h3 (by decide)
    · rw [if_neg h2]; exact h2
theorem fate_take (l : List UInt8) (i : Nat) (h : i < l.length) : (fateL l).take i ++ [fateB l[i]] = (fateL l).take (i + 1) := by
  rw [List.take_succ_eq_append_getElem (by rw [fateL_length]; exact h)]
  simp [fateL]
set_option maxRecDepth 100000 in
set_option maxHeartbeats 2000000 in
theorem Fates_any {w : World} {D : Nat → Prop} {va : Option Addr} {vc : Nat} {l : List UInt8} (hv : BytesN w D (.slice va l.length vc) l) (hl : l.length ≤ 200) : Calls Tryd.prog 33 #[.slice va l.length vc] w fun e w' => ∃ a c, e = .returned (.slice a l.length c) ∧ BytesN w' (fun k => w.heap.size ≤ k) (.slice a l.length c) (fateL l) ∧ Below w.heap.size w w' := by
  obtain ⟨n, hn⟩ : ∃ n, l.length = n := ⟨_, rfl⟩
  have HN := Lib.hid hn
  have HV := Lib.hid hv
  have HO0 := Lib.hid (show w.ownsRow w.heap.size 5 1 (.slice none 0 0) 0 (bvs ((fateL l).take 0)) from ⟨rfl, .inl ⟨rfl, rfl⟩⟩)
  have HB0 := Lib.hid (Below.refl w.heap.size w)
  rw [hn] at HV hl ⊢
  clear hv hn
  go_enter Tryd.func33, Tryd.ntmps33
  go_wp2_with fail
  go_loopw [3, 4] (fun sv iv wr => ∃ (i : Nat), i ≤ n ∧ iv = .int .i64 (i : Int) ∧ Hid (wr.ownsRow w.heap.size 5 1 sv i (bvs ((fateL l).take i))) ∧ Hid (Below w.heap.size w wr)) (fun _ iv _ => n - (intOf iv).toNat)
  case atStart => exact ⟨0, Nat.zero_le _, rfl, HO0, HB0⟩
  case round =>
    obtain ⟨i, hi, rfl, HO, HB⟩ := hrel
    obtain ⟨W1, rfl⟩ : ∃ W1, W1 = wr := ⟨_, rfl⟩
    obtain ⟨pa, pc, rfl⟩ := ownsRow_form HO.out
    clear HO0 HB0
    by_cases hlt : i < n
    case neg =>
      obtain rfl : n = i := by omega
      have HR := Lib.hid (show BytesN W1 (fun k => w.heap.size ≤ k) (.slice pa n pc) (fateL l) from by
        have h1 := HO.out
        rw [List.take_of_length_le (by rw [fateL_length, HN.out]; exact Nat.le_refl _)] at h1
        exact own_bytesN h1)
      go_wp2_with fail
      exact bodyPost_ret (v := .slice pa n pc) (by simp [results, Tryd.results33, go_sem]) rfl ⟨_, _, rfl, HR.out, HB.out⟩
    have hiI : (i : Int) < (n : Int) := by omega
    have hiL : i < l.length := by rw [HN.out]; exact hlt
    have hbv := (HV.out.below HB.out).at_
    obtain ⟨va', vc', e9, hcap, hbr⟩ := hbv
    cases e9
    obtain ⟨g, off, rfl, hDg, hg, hcell⟩ := hbr (fun e => by rw [e] at hiL; simp at hiL)
    have hc := hcell i (bv l[i]) (by rw [bvs_getElem?, List.getElem?_eq_getElem hiL]; rfl)
    obtain ⟨x, hx⟩ : ∃ x, l[i] = x := ⟨_, rfl⟩
    have hft := fate_take l i hiL
    rw [hx] at hc hft
    have HFT := Lib.hid hft
    have HXB := Lib.hid (show x.toNat < 256 from x.toNat_lt)
    have HFX := Lib.hid (show fateB x = if x.toNat % 3 = 2 then UInt8.ofNat (x.toNat / 3 % 2) else x from rfl)
    have hc2 : W1.cell? ⟨g, off + i, none⟩ = some (.int .u8 (x.toNat : Int)) := hc
    obtain ⟨y, hy⟩ : ∃ y, x.toNat = y := ⟨_, rfl⟩
    have HY := Lib.hid hy
    rw [hy] at hc2 HXB
    have hyb : y < 256 := HXB.out
    clear hbr hcell hc hft hx hy
    by_cases h2 : y % 3 = 2
    · have h2I : (y : Int) % 3 = 2 := by omega
      have HNW := Lib.hid (show ∀ Wn, W1.alloc (.cells #[.int .u8 ((y : Int) / 3 % 2)] 5) = Wn → Wn.heap[W1.heap.size]? = some (.cells #[bv (fateB x)] 5 (0, 0)) ∧ Below W1.heap.size W1 Wn from fun Wn e => by
        refine ⟨?_, e ▸ (Below.refl _ _).alloc (Nat.le_refl _) _⟩
        rw [← e, heap_alloc_new]
        have : (fateB x).toNat = y / 3 % 2 := by rw [HFX.out, HY.out, if_pos h2]; simp; omega
        have e2 : bv (fateB x) = .int .u8 ((y : Int) / 3 % 2) := by unfold bv; rw [this]; congr 1
        rw [e2])
      obtain ⟨Wn, hWn⟩ : ∃ Wn, W1.alloc (.cells #[.int .u8 ((y : Int) / 3 % 2)] 5) = Wn := ⟨_, rfl⟩
      obtain ⟨hgn, hbn⟩ := HNW.out Wn hWn
      have HGN := Lib.hid hgn
      have HBN := Lib.hid (HB.out.trans (hbn.mono HB.out.size))
      have HON := Lib.hid (own_kept HO.out hbn)
      have HWN := Lib.hid hWn
      clear hgn hbn HNW hWn
      go_wp2_with (at_builtin; rw [HWN.out]; refine wpList_appByte rfl (.tmp 22) (.tmp 24) rfl rfl HON.out W1.heap.size rfl HGN.out (by omega) HBN.out.size ?_)
      intro g' cap' w5 hlt5 hown5 hgr5 hat5
      have hB5 : Below w.heap.size w w5 := HBN.out.grown hgr5 HBN.out.size (fun j hj => (ownsRow_lt HON.out j hj).1)
      have HO5 := Lib.hid hown5
      have HB5 := Lib.hid hB5
      clear hown5 hgr5 hat5 hB5
      go_wp2_with fail
      go_roundw
      case rel => exact ⟨i + 1, by omega, by go_num, Lib.hid (by rw [← HFT.out]; exact HO5.out), HB5⟩
      case measure => simp [intOf] <;> omega
    · have h2I : ¬ (y : Int) % 3 = 2 := by omega
      have HNW := Lib.hid (show ∀ Wn, W1.alloc (.cells #[.int .u8 (y : Int)] 5) = Wn → Wn.heap[W1.heap.size]? = some (.cells #[bv (fateB x)] 5 (0, 0)) ∧ Below W1.heap.size W1 Wn from fun Wn e => by
        refine ⟨?_, e ▸ (Below.refl _ _).alloc (Nat.le_refl _) _⟩
        rw [← e, heap_alloc_new]
        have e2 : bv (fateB x) = .int .u8 (y : Int) := by rw [HFX.out, HY.out, if_neg h2]; unfold bv; rw [HY.out]
        rw [e2])
      obtain ⟨Wn, hWn⟩ : ∃ Wn, W1.alloc (.cells #[.int .u8 (y : Int)] 5) = Wn := ⟨_, rfl⟩
      obtain ⟨hgn, hbn⟩ := HNW.out Wn hWn
      have HGN := Lib.hid hgn
      have HBN := Lib.hid (HB.out.trans (hbn.mono HB.out.size))
      have HON := Lib.hid (own_kept HO.out hbn)
      have HWN := Lib.hid hWn
      clear hgn hbn HNW hWn
      go_wp2_with (at_builtin; rw [HWN.out]; refine wpList_appByte rfl (.tmp 22) (.tmp 24) rfl rfl HON.out W1.heap.size rfl HGN.out (by omega) HBN.out.size ?_)
      intro g' cap' w5 hlt5 hown5 hgr5 hat5
      have hB5 : Below w.heap.size w w5 := HBN.out.grown hgr5 HBN.out.size (fun j hj => (ownsRow_lt HON.out j hj).1)
      have HO5 := Lib.hid hown5
      have HB5 := Lib.hid hB5
      clear hown5 hgr5 hat5 hB5
      go_wp2_with fail
      go_roundw
      case rel => exact ⟨i + 1, by omega, by go_num, Lib.hid (by rw [← HFT.out]; exact HO5.out), HB5⟩
      case measure => simp [intOf] <;> omega
end Go.Proofs.YtplclpileejemaaDoor
