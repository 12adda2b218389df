/- The spool: appendNumber; The spool's reference: number. -/
import Derived.Test.YtnmdgjodbikndaaS7
import Derived.Test.YtnmdgjodbikndaaRange
namespace Go.Proofs.Ytnmdgjodbikndaa
open Go.RowKit
set_option linter.unusedVariables false
set_option linter.unusedSimpArgs false

/-- Bytes as elements of slices. -/
def byE : ElemTy Try.prog 22 5 UInt8 where
  enc x := [.int .u8 (x.toNat : Int)]
  k := 1
  hu := Try.underlying22
  hi := ⟨.int .u8 0, 1, by kernel_rfl, by kernel_rfl, by decide⟩
  hk := by decide
  len _ := rfl
  one _ := fun v hv => by obtain rfl := List.mem_singleton.1 hv; rfl
def be8 (n : Nat) : List UInt8 := (List.range 8).map fun j => UInt8.ofNat (n / 2 ^ (8 * (7 - j)))
theorem be8_length (n : Nat) : (be8 n).length = 8 := by unfold be8; rw [List.length_map, List.length_range]
theorem be8_take {n i : Nat} (hi : i < 8) : (be8 n).take (i + 1) = (be8 n).take i ++ [UInt8.ofNat (n / 2 ^ (8 * (7 - i)))] := by
  rw [List.take_add_one, List.getElem?_eq_getElem (by rw [be8_length]; exact hi)]
  unfold be8
  simp
/-- What an appending function leaves. -/
def AppPost (w : World) (B : Nat) (v : Value) (L : List UInt8) (e : Ending) (w' : World) : Prop := ∃ a c, e = .returned (.slice a L.length c) ∧ OwnL byE w' B (.slice a L.length c) L ∧ Chg (fun k => v.ownBlock = some k) w w' ∧ ∀ k, (Value.slice a L.length c).ownBlock = some k → v.ownBlock = some k ∨ w.heap.size ≤ k
set_option maxRecDepth 100000 in
set_option maxHeartbeats 2000000 in
theorem appendNumber_any {w : World} {B : Nat} {v : Value} (L : List UInt8) (h : OwnL byE w B v L) (hB : B ≤ w.heap.size) (hl : L.length < 900000000) (n : Nat) (hn : n < 9223372036854775808) :
    Calls Try.prog 56 #[v, .int .i64 (n : Int)] w (AppPost w B v (L ++ be8 n)) := by
  obtain ⟨a, c, rfl⟩ := h.form
  obtain ⟨N, hN⟩ : ∃ N, L.length = N := ⟨_, rfl⟩
  rw [hN] at h hl ⊢
  have HH := Lib.hid h
  have HN := Lib.hid hN
  obtain ⟨ob, hob⟩ : ∃ ob, (Value.slice a N c).ownBlock = ob := ⟨_, rfl⟩
  unfold AppPost
  rw [hob]
  have HOB := Lib.hid hob
  clear h hN hob
  go_enter Try.func56, Try.ntmps56
  go_wp2_with fail
  go_loopw [0, 5] (fun sv iv wr => ∃ (i : Nat) (a' : Option Addr) (c' : Nat), i ≤ 8 ∧ iv = .int .i64 ((7 : Int) - (i : Int)) ∧ sv = .slice a' (N + i) c' ∧ OwnL byE wr B (.slice a' (N + i) c') (L ++ (be8 n).take i) ∧ Chg (fun k => ob = some k) w wr ∧ ∀ k, (Value.slice a' (N + i) c').ownBlock = some k → ob = some k ∨ w.heap.size ≤ k) (fun _ iv _ => ((intOf iv) + 1).toNat)
  case atStart => exact ⟨0, a, c, by omega, rfl, rfl, by rw [List.take_zero, List.append_nil]; exact HH.out, Chg.refl _ _, fun k hk => .inl (by rw [← HOB.out]; exact hk)⟩
  case round =>
    obtain ⟨i, a', c', hi, rfl, rfl, ho, hC, hk⟩ := hrel
    by_cases hlt : i < 8
    · have hiI : (0 : Int) ≤ 7 - (i : Int) := by omega
      obtain ⟨x, hx⟩ : ∃ x, UInt8.ofNat (n / 2 ^ (8 * (7 - i))) = x := ⟨_, rfl⟩
      have hxv : (n : Int) / 2 ^ (8 * (7 - i)) % 256 = (x.toNat : Int) := by
        rw [← hx, UInt8.toNat_ofNat']
        simp
      have htk := be8_take (n := n) hlt
      rw [hx] at htk
      have HTK := Lib.hid htk
      have HOA := Lib.hid (fun o => ho.below ((Below.refl wr.heap.size wr).alloc (Nat.le_refl _) o))
      have HMA := Lib.hid (show ListAt byE (wr.alloc (.cells #[.int .u8 (x.toNat : Int)] 5)) (.slice (some ⟨wr.heap.size, 0, none⟩) 1 1) [x] from list_block1 byE (heap_alloc_new wr _))
      have HC := Lib.hid hC
      have HK := Lib.hid hk
      have HWS := Lib.hid hC.size
      have hlen : (L ++ (be8 n).take i).length = N + i := by rw [List.length_append, HN.out, List.length_take, be8_length]; omega
      have HLN := Lib.hid hlen
      clear ho hC hk htk hx hlen
      go_wp2_with (at_builtin; refine wpList_appL byE rfl (n := N + i) (m := 1) (.tmp 10) (.tmp 16) rfl rfl (HOA.out _) rfl (by first | exact HMA.out | (rw [hxv]; exact HMA.out)) HLN.out rfl (by omega) (by have := HWS.out; rw [World.size_alloc]; omega) ?_; refine Stop.on ?_)
      refine Stop.go ?_
      try simp only [Act.put, List.setIfInBounds_toArray, List.set_cons_zero, List.set_cons_succ]
      intro a2 c2 w2 ho2 hg2 hk2
      try simp only [Act.put, List.setIfInBounds_toArray, List.set_cons_zero, List.set_cons_succ]
      have hC2 : Chg (fun k => ob = some k) w w2 := HC.out.trans ((Chg.of_below ((Below.refl wr.heap.size wr).alloc (Nat.le_refl _) _)).trans (OwnL.grown_chg hg2) (fun k h => .inl h)) (fun k h => HK.out k h)
      have HE := Lib.hid (show OwnL byE w2 B (.slice a2 (N + (i + 1)) c2) (L ++ (be8 n).take (i + 1)) ∧ Chg (fun k => ob = some k) w w2 ∧ ∀ k, (Value.slice a2 (N + (i + 1)) c2).ownBlock = some k → ob = some k ∨ w.heap.size ≤ k from
        ⟨by
          rw [HTK.out]
          exact ho2, hC2, fun k h => by
          rcases hk2 k h with h | h
          · exact HK.out k h
          · have h2 := HWS.out
            have h3 : wr.heap.size ≤ k := Nat.le_trans (by simp) h
            exact .inr (by omega)⟩)
      clear ho2 hg2 hk2 hC2
      go_wp2_with fail
      go_roundw
      case rel => exact ⟨i + 1, a2, c2, by omega, by go_num, rfl, HE.out.1, HE.out.2.1, HE.out.2.2⟩
      case measure => simp [intOf]; omega
    · obtain rfl : i = 8 := by omega
      have htk : (be8 n).take 8 = be8 n := List.take_of_length_le (by rw [be8_length]; exact Nat.le_refl _)
      rw [htk] at ho
      have HE := Lib.hid (show (L ++ be8 n).length = N + 8 ∧ OwnL byE wr B (.slice a' (N + 8) c') (L ++ be8 n) ∧ Chg (fun k => ob = some k) w wr ∧ ∀ k, (Value.slice a' (N + 8) c').ownBlock = some k → ob = some k ∨ w.heap.size ≤ k from ⟨by rw [List.length_append, HN.out, be8_length], ho, hC, hk⟩)
      clear ho hC hk htk
      go_wp2_with fail
      exact bodyPost_ret (v := .slice a' (N + 8) c') (by simp [results, Try.results56, go_sem]) rfl ⟨a', c', by rw [HE.out.1], by rw [HE.out.1]; exact HE.out.2.1, HE.out.2.2.1, by rw [HE.out.1]; exact HE.out.2.2.2⟩
end Go.Proofs.Ytnmdgjodbikndaa

namespace Go.Proofs.Ytnmdgjodbikndaa
open Go.RowKit
set_option linter.unusedVariables false
set_option linter.unusedSimpArgs false

set_option maxRecDepth 100000 in
set_option maxHeartbeats 2000000 in
theorem rnumber_any {w : World} (n : Nat) (hn : n < 9223372036854775808) :
    Calls Try.prog 57 #[.int .i64 (n : Int)] w (fun e w' => ∃ a c, e = .returned (.slice a 8 c) ∧ OwnL byE w' w.heap.size (.slice a 8 c) (be8 n) ∧ Below w.heap.size w w') := by
  go_enter Try.func57, Try.ntmps57
  go_wp2_with fail
  go_loopw [3, 4] (fun sv iv wr => ∃ (i : Nat) (a' : Option Addr) (c' : Nat), i ≤ 8 ∧ iv = .int .i64 ((7 : Int) - (i : Int)) ∧ sv = .slice a' i c' ∧ OwnL byE wr w.heap.size (.slice a' i c') ((be8 n).take i) ∧ Below w.heap.size w wr) (fun _ iv _ => ((intOf iv) + 1).toNat)
  case atStart => exact ⟨0, none, 0, by omega, rfl, rfl, by rw [List.take_zero]; exact ownL_nil byE _ _, Below.refl _ _⟩
  case round =>
    obtain ⟨i, a', c', hi, rfl, rfl, ho, hB⟩ := hrel
    by_cases hlt : i < 8
    · have hiI : (0 : Int) ≤ 7 - (i : Int) := by omega
      obtain ⟨x, hx⟩ : ∃ x, UInt8.ofNat (n / 2 ^ (8 * (7 - i))) = x := ⟨_, rfl⟩
      have hxv : (n : Int) / 2 ^ (8 * (7 - i)) % 256 = (x.toNat : Int) := by
        rw [← hx, UInt8.toNat_ofNat']
        simp
      have htk := be8_take (n := n) hlt
      rw [hx] at htk
      have HTK := Lib.hid htk
      have HOA := Lib.hid (fun o => ho.below ((Below.refl wr.heap.size wr).alloc (Nat.le_refl _) o))
      have HMA := Lib.hid (show ListAt byE (wr.alloc (.cells #[.int .u8 (x.toNat : Int)] 5)) (.slice (some ⟨wr.heap.size, 0, none⟩) 1 1) [x] from list_block1 byE (heap_alloc_new wr _))
      have HB := Lib.hid hB
      have HWS := Lib.hid hB.size
      have hlen : ((be8 n).take i).length = i := by rw [List.length_take, be8_length]; omega
      have HLN := Lib.hid hlen
      clear ho hB htk hx hlen
      go_wp2_with (at_builtin; refine wpList_appL byE rfl (n := i) (m := 1) (.tmp 9) (.tmp 15) rfl rfl (HOA.out _) rfl (by first | exact HMA.out | (rw [hxv]; exact HMA.out)) HLN.out rfl (by omega) (by have := HWS.out; rw [World.size_alloc]; omega) ?_; refine Stop.on ?_)
      refine Stop.go ?_
      try simp only [Act.put, List.setIfInBounds_toArray, List.set_cons_zero, List.set_cons_succ]
      intro a2 c2 w2 ho2 hg2 hk2
      try simp only [Act.put, List.setIfInBounds_toArray, List.set_cons_zero, List.set_cons_succ]
      have hB2 : Below w.heap.size w w2 := (HB.out.alloc HWS.out _).trans ((HOA.out _).grown_below hg2 (by have := HWS.out; rw [World.size_alloc]; omega))
      have HE := Lib.hid (show OwnL byE w2 w.heap.size (.slice a2 (i + 1) c2) ((be8 n).take (i + 1)) ∧ Below w.heap.size w w2 from
        ⟨by
          rw [HTK.out]
          exact ho2, hB2⟩)
      clear ho2 hg2 hk2 hB2
      go_wp2_with fail
      go_roundw
      case rel => exact ⟨i + 1, a2, c2, by omega, by go_num, rfl, HE.out.1, HE.out.2⟩
      case measure => simp [intOf]; omega
    · obtain rfl : i = 8 := by omega
      have htk : (be8 n).take 8 = be8 n := List.take_of_length_le (by rw [be8_length]; exact Nat.le_refl _)
      rw [htk] at ho
      have HE := Lib.hid (And.intro ho hB)
      clear ho hB htk
      go_wp2_with fail
      exact bodyPost_ret (v := .slice a' 8 c') (by simp [results, Try.results57, go_sem]) rfl ⟨a', c', rfl, HE.out.1, HE.out.2⟩
end Go.Proofs.Ytnmdgjodbikndaa
