/- Records: numbers as bytes (the reference's number, value), Need, IsBlank. -/
import Derived.Test.YtloaenknhkfaeaaDoorRec2
import Derived.Test.YtloaenknhkfaeaaDoorGenR
import Derived.Test.YtloaenknhkfaeaaDoorRp2
namespace Go.Proofs.YtloaenknhkfaeaaDoor
open Go.RowKit
set_option linter.unusedVariables false
set_option linter.unusedSimpArgs false

theorem beL_cons : ∀ s n, beL (s + 1) n = (n / 256 ^ s).toUInt8 :: beL s n
  | 0, n => by simp [beL]
  | s + 1, n => by
    rw [beL, beL_cons s (n / 256), Nat.div_div_eq_div_mul, List.cons_append, ← Nat.pow_succ']
    rfl
theorem u8_mod (m : Nat) : Value.int .u8 ((m : Int) % 256) = bv m.toUInt8 := by unfold bv; simp

set_option maxHeartbeats 1000000 in
theorem number_any (n size : Nat) (hn : n < 4611686018427387904) (hs : size ≤ 8) (w : World) :
    Calls Tryd.prog 54 #[.int .i64 (n : Int), .int .i64 (size : Int)] w fun e w' => ∃ v, e = .returned v ∧ w'.ownsRow w.heap.size 5 1 v size (bvs (beL size n)) ∧ Below w.heap.size w w' := by
  go_enter Tryd.func54, Tryd.ntmps54
  go_wp2_with fail
  go_loopw [0, 5, 6] (fun nv pv iv wr => ∃ j : Nat, j ≤ size ∧ iv = .int .i64 (j : Int) ∧ nv = .int .i64 ((n / 256 ^ j : Nat) : Int) ∧ wr.ownsRow w.heap.size 5 1 pv j (bvs (beL j n)) ∧ Below w.heap.size w wr)
    (fun _ _ iv _ => size - (intOf iv).toNat)
  case atStart => exact ⟨0, Nat.zero_le _, rfl, by simp, own_none _ _ _, Below.refl _ _⟩
  case round =>
    obtain ⟨j, hj, rfl, rfl, hO, hB⟩ := hrel
    obtain ⟨pa, pc, rfl⟩ := ownsRow_form hO
    obtain ⟨m, hm⟩ : ∃ m, n / 256 ^ j = m := ⟨_, rfl⟩
    have hmb : m ≤ n := by rw [← hm]; exact Nat.div_le_self _ _
    have hdiv : ((n / 256 ^ (j + 1) : Nat) : Int) = (m : Int) / 256 := by rw [Nat.pow_succ, ← Nat.div_div_eq_div_mul, hm]; rfl
    have hbe : beL (j + 1) n = m.toUInt8 :: beL j n := by rw [beL_cons, hm]
    rw [hm]
    have hbs : w.heap.size ≤ (wr.alloc (.cells #[.int .u8 ((m : Int) % 256)] 5)).heap.size := by have := hB.size; simp; omega
    have hba : Below wr.heap.size wr (wr.alloc (.cells #[.int .u8 ((m : Int) % 256)] 5)) := (Below.refl _ _).alloc (Nat.le_refl _) _
    have ho1 := own_one hB.size 5 (.int .u8 ((m : Int) % 256))
    have hbx := (own_bytes hO).below hba
    have hnc : ∀ k c, Value.slice pa j pc = .slice none k c → c = 0 := by intro k c e; cases e; exact own_nilcap hO
    have hbm := Value.slice pa j pc = .slice pa j pc
    rw [u8_mod] at hbs hba ho1 hbx
    have HO := Lib.hid hO
    have HB := Lib.hid hB
    have HDV := Lib.hid hdiv
    have HBE := Lib.hid hbe
    have HO1 := Lib.hid ho1
    have HBX := Lib.hid hbx
    have HBS := Lib.hid hbs
    have HBA := Lib.hid hba
    have HNC := Lib.hid hnc
    have HU := Lib.hid (u8_mod m)
    clear hO hB hm hdiv hbe ho1 hbx hbs hba hnc hbm
    by_cases hlt : j < size
    · go_wp2_with (at_builtin; rw [HU.out]; refine wpList_appBytes (xs := [m.toUInt8]) rfl (.tmp 15) (.tmp 16) rfl rfl HO1.out rfl HBX.out HNC.out (by simp; omega) HBS.out ?_)
      intro a' cap' w3 hO3 hg3
      have hB3 : Below w.heap.size w w3 := (HB.out.trans (HBA.out.mono HB.out.size)).grown hg3 HBS.out (fun j hj => by cases hj; exact HB.out.size)
      have HO3 := Lib.hid hO3
      have HB3 := Lib.hid hB3
      clear hO3 hg3 hB3
      go_wp2_with fail
      go_roundw
      case rel => exact ⟨j + 1, by omega, by go_num, by rw [HDV.out], by rw [HBE.out]; rw [Nat.add_comm j 1]; exact HO3.out, HB3.out⟩
      case measure => simp [intOf]; omega
    · obtain rfl : j = size := by omega
      go_wp2_with fail
      go_ret
      exact ⟨_, rfl, HO.out, HB.out⟩

theorem foldl_take (l : List UInt8) (i : Nat) (h : i < l.length) : valN (l.take (i + 1)) = valN (l.take i) * 256 + l[i].toNat := by
  rw [List.take_succ_eq_append_getElem h, valN_snoc]

set_option maxHeartbeats 1000000 in
theorem value_any {w : World} {F : Nat → Prop} {v : Value} {l : List UInt8} (hb : BytesAt w F v l) (hl : l.length ≤ 4) :
    Calls Tryd.prog 57 #[v] w fun e w' => e = .returned (.int .i64 (valN l : Int)) ∧ w = w' := by
  obtain ⟨a, cap, rfl⟩ := hb.form
  obtain ⟨N, hN⟩ : ∃ N, l.length = N := ⟨_, rfl⟩
  rw [hN] at hb hl ⊢
  have HN := Lib.hid hN
  have HB := Lib.hid hb
  clear hN hb
  go_enter Tryd.func57, Tryd.ntmps57
  go_wp2_with fail
  go_loop [3, 4] (fun nv iv => ∃ i : Nat, i ≤ N ∧ iv = .int .i64 (i : Int) ∧ nv = .int .i64 (valN (l.take i) : Int)) (fun _ iv => N - (intOf iv).toNat)
  case atStart => exact ⟨0, Nat.zero_le _, rfl, by simp [valN]⟩
  case round =>
    obtain ⟨i, hi, rfl, rfl⟩ := hrel
    by_cases hlt : i < N
    · obtain ⟨g, off, rfl, hc⟩ := HB.out.get (i := i) (by rw [HN.out]; exact hlt)
      have hs := foldl_take l i (by rw [HN.out]; exact hlt)
      have hv := valN_lt (l.take i)
      have hle : (l.take i).length ≤ 3 := by simp; omega
      have hv2 : valN (l.take i) < 256 ^ 3 := Nat.lt_of_lt_of_le hv (Nat.pow_le_pow_right (by decide) hle)
      obtain ⟨V, hV⟩ : ∃ V, valN (l.take i) = V := ⟨_, rfl⟩
      rw [hV] at hs hv2 ⊢
      have hx : (l[i]'(by rw [HN.out]; exact hlt)).toNat < 256 := UInt8.toNat_lt _
      obtain ⟨X, hX⟩ : ∃ X, (l[i]'(by rw [HN.out]; exact hlt)).toNat = X := ⟨_, rfl⟩
      rw [hX] at hs hx hc
      have HS := Lib.hid hs
      clear hs hv hle hV hX
      go_wp2_with fail
      go_round
      case rel => exact ⟨i + 1, by omega, by go_num, by rw [HS.out]; go_num⟩
      case measure => simp [intOf]; omega
    · obtain rfl : i = N := by omega
      have ht : l.take i = l := List.take_of_length_le (by rw [HN.out]; exact Nat.le_refl _)
      rw [ht]
      clear ht
      go_wp2_with fail
      go_ret
      exact ⟨rfl, rfl⟩

theorem zeros_snoc (l : List UInt8) (i : Nat) (h : i < l.length) : zerosB (l.take (i + 1)) = (zerosB (l.take i) && l[i] == 0) := by
  unfold zerosB
  rw [List.take_succ_eq_append_getElem h, List.all_append, List.all_cons, List.all_nil, Bool.and_true]
theorem zeros_stop (l : List UInt8) (i : Nat) (h : i < l.length) (hx : l[i] ≠ 0) : zerosB l = false := by
  rw [Bool.eq_false_iff]
  intro e
  unfold zerosB at e
  have := List.all_eq_true.1 e l[i] (List.getElem_mem h)
  exact hx (by simpa using this)

set_option maxHeartbeats 1000000 in
theorem IsBlank_any {w : World} {F : Nat → Prop} {v : Value} {l : List UInt8} (hb : BytesAt w F v l) (hl : l.length ≤ 1000000000) :
    Calls Tryd.prog 42 #[v] w fun e w' => e = .returned (.bool (zerosB l)) ∧ w = w' := by
  obtain ⟨a, cap, rfl⟩ := hb.form
  obtain ⟨N, hN⟩ : ∃ N, l.length = N := ⟨_, rfl⟩
  rw [hN] at hb hl ⊢
  have HN := Lib.hid hN
  have HB := Lib.hid hb
  clear hN hb
  go_enter Tryd.func42, Tryd.ntmps42
  go_wp2_with fail
  go_loop [7] (fun iv => ∃ i : Nat, i ≤ N ∧ iv = .int .i64 (i : Int) ∧ zerosB (l.take i) = true) (fun iv => N - (intOf iv).toNat)
  case atStart => exact ⟨0, Nat.zero_le _, rfl, rfl⟩
  case round =>
    obtain ⟨i, hi, rfl, hz⟩ := hrel
    have HZ := Lib.hid hz
    clear hz
    by_cases hlt : i < N
    · have hil : i < l.length := by rw [HN.out]; exact hlt
      obtain ⟨g, off, rfl, hc⟩ := HB.out.get hil
      by_cases hx : l[i] = 0
      · have h0 : l[i].toNat = 0 := by rw [hx]; rfl
        rw [h0] at hc
        have hz2 : zerosB (l.take (i + 1)) = true := by rw [zeros_snoc l i hil, HZ.out, hx]; rfl
        have HZ2 := Lib.hid hz2
        clear h0 hx hz2
        go_wp2_with fail
        go_round
        case rel => exact ⟨i + 1, by omega, by go_num, HZ2.out⟩
        case measure => simp [intOf]; omega
      · have hn0 : ((l[i].toNat : Int) != 0) = true := by
          simp only [bne_iff_ne, ne_eq]
          intro e
          exact hx (UInt8.toNat_inj.1 (by simpa using e))
        have hz2 := zeros_stop l i hil hx
        obtain ⟨X, hX⟩ : ∃ X, l[i].toNat = X := ⟨_, rfl⟩
        rw [hX] at hc hn0
        have HZ2 := Lib.hid hz2
        clear hx hz2 hX
        go_wp2_with fail
        go_ret
        exact ⟨by rw [HZ2.out]; rfl, rfl⟩
    · obtain rfl : i = N := by omega
      have ht : l.take i = l := List.take_of_length_le (by rw [HN.out]; exact Nat.le_refl _)
      have hz := HZ.out
      rw [ht] at hz
      have HZ2 := Lib.hid hz
      clear ht hz
      go_wp2_with fail
      go_ret
      exact ⟨by rw [HZ2.out]; rfl, rfl⟩

theorem ret_int1 {k : IntKind} {a b : Int} (h : a = b) : Ending.returned (.int k a) = .returned (.int k b) := by rw [h]
theorem ret_int2 {k l : IntKind} {a b c d : Int} (h : a = b) (h2 : c = d) : Ending.returned (.tuple #[.int k a, .int l c]) = .returned (.tuple #[.int k b, .int l d]) := by rw [h, h2]
def needE (n : Int) : Int := if n < 0 ∨ 131072 < n then 2 else 0
def needV (n : Int) : Nat := if n < 0 ∨ 131072 < n then 0 else needN n.toNat
set_option maxHeartbeats 1000000 in
theorem Need_any (n : Int) (w : World) : Calls Tryd.prog 31 #[.int .i64 n] w fun e w' => e = .returned (.tuple #[.int .i64 (needV n : Int), .int .i64 (needE n)]) ∧ w = w' := by
  unfold needE needV
  by_cases h1 : n < 0
  · rw [if_pos (.inl h1), if_pos (.inl h1)]
    go_enter Tryd.func31, Tryd.ntmps31
    go_wp2
    go_ret2
    exact ⟨rfl, rfl⟩
  · have h1' : 0 ≤ n := by omega
    by_cases h2 : 131072 < n
    · rw [if_pos (.inr h2), if_pos (.inr h2)]
      go_enter Tryd.func31, Tryd.ntmps31
      go_wp2
      go_ret2
      exact ⟨rfl, rfl⟩
    · have h2' : n ≤ 131072 := by omega
      rw [if_neg (by omega), if_neg (by omega)]
      have hv : ((needN n.toNat : Nat) : Int) = max 1 ((n + 223) / 224) := by unfold needN; omega
      have HV := Lib.hid hv
      clear hv
      go_enter Tryd.func31, Tryd.ntmps31
      go_wp2
      all_goals
        go_ret2
        refine ⟨?_, rfl⟩
        rw [HV.out]
        refine ret_int2 ?_ rfl
        omega
theorem rNeed_any (n : Nat) (hn : n ≤ 1000000000) (w : World) : Calls Tryd.prog 33 #[.int .i64 (n : Int)] w fun e w' => e = .returned (.int .i64 (needN n : Int)) ∧ w = w' := by
  have hv : ((needN n : Nat) : Int) = max 1 (((n : Int) + 223) / 224) := by unfold needN; omega
  have HV := Lib.hid hv
  clear hv
  go_enter Tryd.func33, Tryd.ntmps33
  go_wp2
  all_goals
    go_ret
    refine ⟨?_, rfl⟩
    rw [HV.out]
    refine ret_int1 ?_
    omega

end Go.Proofs.YtloaenknhkfaeaaDoor
