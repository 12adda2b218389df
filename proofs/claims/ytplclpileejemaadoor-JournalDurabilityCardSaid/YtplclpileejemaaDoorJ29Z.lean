/- The laws' operations in memory. -/
import Derived.Test.YtplclpileejemaaDoorJ25Z
namespace Go.Proofs.YtplclpileejemaaDoor
open Go.RowKit
set_option linter.unusedVariables false
set_option linter.unusedSimpArgs false

/-- An operation of a law. -/
structure JOp where
  kind : Nat
  n : Nat
  b : UInt8
  cs : List UInt8
  a : Option Addr
  cap : Nat
def JOp.cells (o : JOp) : List Value := [.int .u8 (o.kind : Int), .int .u16 (o.n : Int), .int .u8 (o.b.toNat : Int), .slice o.a o.cs.length o.cap]
structure JOp.At (w : World) (o : JOp) : Prop where
  kd : o.kind < 256
  n : o.n < 65536
  len : o.cs.length ≤ 140737488351232
  bytes : BytesN w (fun _ => True) (.slice o.a o.cs.length o.cap) o.cs
/-- A list of operations. -/
def JOpsAt (w : World) (v : Value) (L : List JOp) : Prop :=
  ∃ a cap, v = .slice a L.length cap ∧ L.length ≤ cap ∧ cap ≤ maxLen ∧ (L ≠ [] → ∃ g off, a = some ⟨g, off, none⟩ ∧ g < w.heap.size ∧ ∀ i (h : i < L.length), w.rangeAt g (off + i * 4) L[i].cells ∧ L[i].At w)
theorem JOp.At.below {w w' : World} {o : JOp} (h : o.At w) (hb : Below w.heap.size w w') : o.At w' := ⟨h.kd, h.n, h.len, h.bytes.below hb⟩
theorem JOpsAt.below {w w' : World} {v : Value} {L : List JOp} (h : JOpsAt w v L) (hb : Below w.heap.size w w') : JOpsAt w' v L := by
  obtain ⟨a, c, e, h1, h2, h3⟩ := h
  refine ⟨a, c, e, h1, h2, fun hne => ?_⟩
  obtain ⟨g, off, e2, hg, hr⟩ := h3 hne
  exact ⟨g, off, e2, Nat.lt_of_lt_of_le hg hb.size, fun i hi => ⟨fun j u hu => (hb.cell (p := ⟨g, off + i * 4 + j, none⟩) hg).trans ((hr i hi).1 j u hu), (hr i hi).2.below hb⟩⟩
theorem JOpsAt.form {w : World} {v : Value} {L : List JOp} (h : JOpsAt w v L) : ∃ a cap, v = .slice a L.length cap := by obtain ⟨a, c, e, _⟩ := h; exact ⟨a, c, e⟩
/-- Where one of them lies. -/
theorem JOpsAt.get {w : World} {a : Option Addr} {n cap : Nat} {L : List JOp} (h : JOpsAt w (.slice a n cap) L) {i : Nat} (hi : i < L.length) : ∃ g off, a = some ⟨g, off, none⟩ ∧ g < w.heap.size ∧ w.cell? ⟨g, off + i * 4, none⟩ = some (.int .u8 (L[i].kind : Int)) ∧ w.cell? ⟨g, off + i * 4 + 1, none⟩ = some (.int .u16 (L[i].n : Int)) ∧
    w.cell? ⟨g, off + i * 4 + 2, none⟩ = some (.int .u8 (L[i].b.toNat : Int)) ∧ w.cell? ⟨g, off + i * 4 + 3, none⟩ = some (.slice L[i].a L[i].cs.length L[i].cap) ∧ L[i].At w := by
  obtain ⟨a', c', e, h1, h2, h3⟩ := h
  cases e
  obtain ⟨g, off, e, hg, hr⟩ := h3 (fun e => by rw [e] at hi; simp at hi)
  obtain ⟨k1, k2⟩ := hr i hi
  exact ⟨g, off, e, hg, k1 0 _ rfl, k1 1 _ rfl, k1 2 _ rfl, k1 3 _ rfl, k2⟩
end Go.Proofs.YtplclpileejemaaDoor
