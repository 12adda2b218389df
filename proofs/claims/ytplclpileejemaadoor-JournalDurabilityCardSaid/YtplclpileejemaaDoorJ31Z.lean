/- Maps from numbers to strings. -/
import Derived.Test.YtplclpileejemaaDoorJ30Z
import Derived.Test.YtplclpileejemaaDoorKmapZ
namespace Go.Proofs.YtplclpileejemaaDoor
open Go.RowKit Go.Maps
set_option linter.unusedVariables false
set_option linter.unusedSimpArgs false

/-- Numbers as the keys of maps. -/
def IntK : Type := { n : Int // -9223372036854775808 ≤ n ∧ n ≤ 9223372036854775807 }
instance : DecidableEq IntK := inferInstanceAs (DecidableEq { n : Int // -9223372036854775808 ≤ n ∧ n ≤ 9223372036854775807 })
def intKey : KeyEnc Tryd.prog 3 IntK where
  kv a := .int .i64 a.1
  K := int_keyed Tryd.underlying3
  inj := fun {a b} h => by
    injection h with _ h2
    exact Subtype.ext h2
  lit a := ⟨_, keyOf_int_mk Tryd.underlying3 (by have h := a.2; simp [Lit.wf, IntKind.min, IntKind.max, IntKind.signed, IntKind.bits]; omega)⟩
/-- A string's value. -/
def strV (l : List UInt8) : Value := .string ⟨l.toArray⟩
def keyN (n : Nat) (h : n < 4611686018427387904) : IntK := ⟨(n : Int), by omega, by omega⟩
/-- The map at block m reads as f. -/
structure SMap (w : World) (m : Nat) (f : Nat → Option (List UInt8)) : Prop where
  km : KMap intKey w m (fun k => if 0 ≤ k.1 then (f k.1.toNat).map strV else none)
section
variable {w w' : World} {m : Nat} {f : Nat → Option (List UInt8)}
theorem SMap.lt (h : SMap w m f) : m < w.heap.size := h.km.lt
theorem SMap.below (h : SMap w m f) (hb : Below w.heap.size w w') : SMap w' m f := ⟨h.km.below hb⟩
theorem SMap.chg {F : Nat → Prop} (h : SMap w m f) (hc : Chg F w w') (hf : ¬ F m) : SMap w' m f := ⟨h.km.chg hc hf⟩
theorem SMap.new (w : World) : SMap (w.alloc (.map #[] 0)) w.heap.size (fun _ => none) := ⟨(KMap.new w).ext (fun k => by by_cases h : 0 ≤ k.1 <;> simp [h])⟩
theorem SMap.upd (h : SMap w m f) (n : Nat) (hn : n < 4611686018427387904) (l : List UInt8) :
    ∃ w', (Instr.mapUpdate 45 (.map (some m)) (.int .i64 (n : Int)) (.string ⟨l.toArray⟩)).run Tryd.prog w = .ok () w' ∧ SMap w' m (fun x => if x = n then some l else f x) ∧ Chg (fun j => j = m) w w' := by
  obtain ⟨w', h1, h2, h3⟩ := h.km.upd Tryd.underlying45 (keyN n hn) (strV l)
  refine ⟨w', h1, ⟨h2.ext fun k => ?_⟩, h3⟩
  by_cases hk : k = keyN n hn
  · subst hk
    have e : (keyN n hn).1 = (n : Int) := rfl
    simp [e]
  · rw [if_neg hk]
    by_cases h0 : 0 ≤ k.1
    · have hne : k.1.toNat ≠ n := fun e => hk (Subtype.ext (by show k.1 = (n : Int); omega))
      simp [h0, hne]
    · simp [h0]
theorem SMap.look (h : SMap w m f) (n : Nat) (hn : n < 4611686018427387904) (c : Bool) :
    (Instr.lookup 45 (.map (some m)) (.int .i64 (n : Int)) c).run Tryd.prog w = .ok (if c then .tuple #[strV ((f n).getD []), .bool (f n).isSome] else strV ((f n).getD [])) w := by
  have h1 := h.km.look Tryd.underlying45 (z := strV []) (fun w => by kernel_rfl) (keyN n hn) c
  have e : (if 0 ≤ (keyN n hn).1 then (f (keyN n hn).1.toNat).map strV else none) = (f n).map strV := by
    have e2 : (keyN n hn).1 = (n : Int) := rfl
    rw [e2, if_pos (by omega), Int.toNat_natCast]
  rw [e] at h1
  cases hf : f n with
  | none => rw [hf] at h1; exact h1
  | some l => rw [hf] at h1; exact h1
end
end Go.Proofs.YtplclpileejemaaDoor
