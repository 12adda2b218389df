/- 32-bit words as values: how Go's operators act on them. No program in sight. -/
import Derived.Test.YtloaenknhkfaeaaDoorBase
import Derived.Laws.BitsAllLaws
import Derived.Laws.Shifts
namespace Go.Proofs.YtloaenknhkfaeaaDoor
open Go.RowKit
set_option linter.unusedVariables false
set_option linter.unusedSimpArgs false

theorem u32_lt (a : UInt32) : a.toNat < 4294967296 := a.toNat_lt
theorem w_add (a b : UInt32) : IntKind.u32.wrap ((a.toNat : Int) + (b.toNat : Int)) = ((a + b).toNat : Int) := by
  rw [IntKind.wrap_u32', UInt32.toNat_add]; omega
theorem m_add (a b : UInt32) : ((a.toNat : Int) + (b.toNat : Int)) % 4294967296 = ((a + b).toNat : Int) := by rw [← IntKind.wrap_u32', w_add]
theorem m_shl (a : UInt32) (n : Nat) (h : n < 32) : ((a.toNat : Int) * 2 ^ n) % 4294967296 = ((a <<< (UInt32.ofNat n)).toNat : Int) := by
  rw [UInt32.toNat_shiftLeft, UInt32.toNat_ofNat', Nat.mod_eq_of_lt (show n < 2 ^ 32 by omega), Nat.mod_eq_of_lt h, Nat.shiftLeft_eq]
  have e : (2 : Int) ^ n = ((2 ^ n : Nat) : Int) := (Int.natCast_pow 2 n).symm
  rw [e, ← Int.natCast_mul]
  generalize a.toNat * 2 ^ n = k
  omega
theorem w_xor (a b : UInt32) : bits .xor .u32 (a.toNat : Int) (b.toNat : Int) = ((a ^^^ b).toNat : Int) := by
  rw [u32_xor_nat _ _ (u32_lt a) (u32_lt b), UInt32.toNat_xor]
theorem w_and (a b : UInt32) : bits .and .u32 (a.toNat : Int) (b.toNat : Int) = ((a &&& b).toNat : Int) := by
  rw [u32_and_nat _ _ (u32_lt a) (u32_lt b), UInt32.toNat_and]
theorem w_or (a b : UInt32) : bits .or .u32 (a.toNat : Int) (b.toNat : Int) = ((a ||| b).toNat : Int) := by
  rw [u32_or_nat _ _ (u32_lt a) (u32_lt b), UInt32.toNat_or]
theorem w_not (a : UInt32) : bits .xor .u32 4294967295 (a.toNat : Int) = ((~~~a).toNat : Int) := by
  have h := w_xor 4294967295 a
  have e : ((4294967295 : UInt32).toNat : Int) = 4294967295 := by decide
  rw [e] at h
  rw [h]
  have e2 : (4294967295 : UInt32) ^^^ a = ~~~a := by
    have : (4294967295 : UInt32) = -1 := by decide
    rw [this, UInt32.neg_one_xor]
  rw [e2]
theorem w_shl (a : UInt32) (n : Nat) (h : n < 32) : IntKind.u32.wrap ((a.toNat : Int) * 2 ^ n) = ((a <<< (UInt32.ofNat n)).toNat : Int) := by
  rw [IntKind.wrap_u32', UInt32.toNat_shiftLeft, UInt32.toNat_ofNat', Nat.mod_eq_of_lt (show n < 2 ^ 32 by omega), Nat.mod_eq_of_lt h, Nat.shiftLeft_eq]
  have e : (2 : Int) ^ n = ((2 ^ n : Nat) : Int) := (Int.natCast_pow 2 n).symm
  rw [e, ← Int.natCast_mul]
  generalize a.toNat * 2 ^ n = k
  omega
theorem w_shr (a : UInt32) (n : Nat) (h : n < 32) : (a.toNat : Int) / 2 ^ n = ((a >>> (UInt32.ofNat n)).toNat : Int) := by
  rw [UInt32.toNat_shiftRight, UInt32.toNat_ofNat', Nat.mod_eq_of_lt (show n < 2 ^ 32 by omega), Nat.mod_eq_of_lt h, Nat.shiftRight_eq_div_pow]
  push_cast
  rfl

theorem quiet_add_same {P : Program} {f : FuncId} {args : Array Value} {w : World} {a n : Nat} {v : Value}
    (h : Calls P f args (w.drewN (a + n)) fun e w' => e = .returned v ∧ w' = w.drewN (a + n)) :
    Calls P f args (w.drewN (a + n)) fun e w'' => e = .returned v ∧ ∃ m, w'' = w.drewN (a + m) :=
  h.mono fun _ _ ⟨he, hm⟩ => ⟨he, n, hm⟩

/-- A word as a number (a def of its own, so that no rule on toNat takes it apart). -/
def wN (x : UInt32) : Int := (x.toNat : Int)
theorem wN_nonneg (x : UInt32) : 0 ≤ wN x := by unfold wN; omega
theorem wN_lt (x : UInt32) : wN x < 4294967296 := by have := u32_lt x; unfold wN; omega
theorem n_add (a b : UInt32) : IntKind.u32.wrap (wN a + wN b) = wN (a + b) := w_add a b
theorem n_xor (a b : UInt32) : bits .xor .u32 (wN a) (wN b) = wN (a ^^^ b) := w_xor a b
theorem n_and (a b : UInt32) : bits .and .u32 (wN a) (wN b) = wN (a &&& b) := w_and a b
theorem n_or (a b : UInt32) : bits .or .u32 (wN a) (wN b) = wN (a ||| b) := w_or a b
theorem n_not (a : UInt32) : bits .xor .u32 IntKind.u32.max (wN a) = wN (~~~a) := w_not a
theorem n_not1 (a : UInt32) : Op.unary .xor (.int .u32 (wN a)) = (pure (.int .u32 (wN (~~~a))) : Sem Value) := by
  rw [← n_not]; rfl
theorem below_drewN {B : Nat} {w w' : World} (h : Below B w w') (n : Nat) : Below B w (w'.drewN n) := ⟨h.os, h.tape, h.output, h.size, h.block⟩
theorem n_shr (a : UInt32) (n : Nat) (h : n < 32) : wN a / 2 ^ n = wN (a >>> (UInt32.ofNat n)) := w_shr a n h
theorem n_shl (a : UInt32) (n : Nat) (h : n < 32) : (wN a * 2 ^ n) % 4294967296 = wN (a <<< (UInt32.ofNat n)) := m_shl a n h
theorem n_shift (a : UInt32) (yk : IntKind) (n : Nat) (h : n < 32) : Op.shift .shr .u32 (wN a) yk (n : Int) = (pure (.int .u32 (wN (a >>> (UInt32.ofNat n)))) : Sem Value) := by
  rw [shift_shr_any _ _ _ _ (by omega), ← n_shr a n h]
  have e : min (n : Int).toNat IntKind.u32.bits = n := by simp [IntKind.bits]; omega
  rw [e]
def wv (x : UInt32) : Value := .int .u32 (wN x)
def wvs (l : List UInt32) : List Value := l.map wv
@[simp] theorem wvs_length (l : List UInt32) : (wvs l).length = l.length := by simp [wvs]

/-- A word, rotated to the right. -/
def rotr (x : UInt32) (n : Nat) : UInt32 := (x <<< (UInt32.ofNat (32 - n))) ||| (x >>> (UInt32.ofNat n))
theorem rotr_int (x : UInt32) (n : Nat) (h1 : 0 < n) (h2 : n < 32) : bits .or .u32 (wN x * 2 ^ (32 - n) % 4294967296) (wN x / 2 ^ n) = wN (rotr x n) := by
  unfold wN
  rw [← IntKind.wrap_u32', w_shl x (32 - n) (by omega), w_shr x n h2, w_or]
  rfl
theorem rotr_int' (x : UInt32) (n : Nat) (h1 : 0 < n) (h2 : n < 32) : bits .or .u32 (wN x / 2 ^ n) (wN x * 2 ^ (32 - n) % 4294967296) = wN (rotr x n) := by
  unfold wN
  rw [← IntKind.wrap_u32', w_shl x (32 - n) (by omega), w_shr x n h2, w_or, UInt32.or_comm]
  rfl

/-! ### the functions of SHA-256 on words -/
structure W8 where
  a : UInt32
  b : UInt32
  c : UInt32
  d : UInt32
  e : UInt32
  f : UInt32
  g : UInt32
  i : UInt32
def W8.cells (v : W8) : List Value := [wv v.a, wv v.b, wv v.c, wv v.d, wv v.e, wv v.f, wv v.g, wv v.i]
def W8.val (v : W8) : Value := .agg v.cells.toArray
def W8.plus (x y : W8) : W8 := ⟨x.a + y.a, x.b + y.b, x.c + y.c, x.d + y.d, x.e + y.e, x.f + y.f, x.g + y.g, x.i + y.i⟩
def bs0 (x : UInt32) : UInt32 := rotr x 2 ^^^ rotr x 13 ^^^ rotr x 22
def bs1 (x : UInt32) : UInt32 := rotr x 6 ^^^ rotr x 11 ^^^ rotr x 25
def ss0 (x : UInt32) : UInt32 := rotr x 7 ^^^ rotr x 18 ^^^ (x >>> 3)
def ss1 (x : UInt32) : UInt32 := rotr x 17 ^^^ rotr x 19 ^^^ (x >>> 10)
def W8.t (v : W8) (k w : UInt32) : UInt32 := v.i + bs1 v.e + ((v.e &&& v.f) ^^^ (~~~v.e &&& v.g)) + k + w
def W8.u (v : W8) : UInt32 := bs0 v.a + ((v.a &&& v.b) ^^^ (v.a &&& v.c) ^^^ (v.b &&& v.c))
def W8.round (v : W8) (k w : UInt32) : W8 := ⟨v.t k w + v.u, v.a, v.b, v.c, v.d + v.t k w, v.e, v.f, v.g⟩

end Go.Proofs.YtloaenknhkfaeaaDoor
