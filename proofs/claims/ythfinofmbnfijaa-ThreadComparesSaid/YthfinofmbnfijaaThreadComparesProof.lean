/- ThreadCompares: for every argument the law returns true, and the arguments read as they did. No conditions. -/
import Derived.Test.YthfinofmbnfijaaRows
import Derived.WalkKit
import Derived.ProofKit
import Derived.OpenShut
import Derived.Test.YthfinofmbnfijaaTh35
import Derived.Test.YthfinofmbnfijaaTArgs
import Derived.Test.YthfinofmbnfijaaRow
namespace Go.Proofs.Ythfinofmbnfijaa.threadCompares
open Go.ChangeShapes Go.WideShapes Go.ChangeAt Go.RowKit
set_option linter.unusedVariables false

set_option maxRecDepth 100000 in
theorem lifted (os : Os) (started : os.Started) (H : Type) (enc : TypeId × Value → H) :
    ReturnsInHanded {} Try.checked os 8 .any (Rows.threadComparesSpec.pre6 enc Try.prog Try.f8 Rows.threadComparesRow.domain false) (Rows.threadComparesSpec.post enc Try.prog Try.f8 false true false false) := by
  refine returnsInHanded_of_change (C := Try.checked) own started (by kernel_rfl) Try.func8
    (ChangeSpec.witness6 (enc := enc) (C := Try.checked) false ⟨#[], #[.agg #[.int .u8 0, .int .u8 0, .slice none 0 0], .agg #[.int .u8 0, .int .u8 0, .slice none 0 0]], []⟩ 8 (by kernel_rfl) (by kernel_rfl) (by kernel_rfl) (by kernel_rfl)) ?_
  intro W base args ds gs before hval0 hW hcnd _
  have hval : ∀ (j : Nat) t v, Try.f8.params[j]? = some t → args[j]? = some v → Value.okWide Try.prog W .any base t v := hval0
  have hW' := hW
  obtain ⟨p, q, hA0, hV, rfl, hfz, hnd⟩ := hW
  have hA : DataW.TrodAll enc Try.prog W 0 (fun _ => true) true Try.f8.params.toList args.toList ds p := hA0
  rw [Try.params8] at hA hval
  obtain ⟨v0, vs0, d0, ds0, p0, q0, hargs, rfl, rfl, h0, r0⟩ := trodAll_cons hA
  obtain ⟨v1, vs1, d1, ds1, p1, q1, rfl, rfl, rfl, h1, r1⟩ := trodAll_cons r0
  obtain ⟨rfl, rfl, rfl⟩ := trodAll_nil r1
  obtain rfl : args = #[v0, v1] := by cases args; simp_all
  obtain ⟨rfl, rfl⟩ := trodVars_none hV
  obtain ⟨cs0, rfl, hsz0⟩ := okWide_struct Try.underlying51 (hval 0 51 v0 rfl rfl)
  rw [cellsOf_Raw] at hsz0
  obtain ⟨R0, hcs0, hb0⟩ := (show ∃ R : RawV, cs0.toList = R.cells ∧ ListAt u8E W R.rv R.refs by obtain ⟨fu, hf⟩ := h0; exact trod_raw (by simpa [Value.cells] using hsz0) hf)
  obtain rfl : cs0 = R0.cells.toArray := Array.ext' (by rw [hcs0])
  obtain ⟨cs1, rfl, hsz1⟩ := okWide_struct Try.underlying51 (hval 1 51 v1 rfl rfl)
  rw [cellsOf_Raw] at hsz1
  obtain ⟨R1, hcs1, hb1⟩ := (show ∃ R : RawV, cs1.toList = R.cells ∧ ListAt u8E W R.rv R.refs by obtain ⟨fu, hf⟩ := h1; exact trod_raw (by simpa [Value.cells] using hsz1) hf)
  obtain rfl : cs1 = R1.cells.toArray := Array.ext' (by rw [hcs1])
  clear hA0 hval0
  simp only [List.append_nil] at hW'
  refine (Compares_law R0 R1 hb0 hb1).mono fun e W' ⟨he, hg⟩ => ?_
  subst he
  exact ⟨_, rfl, law_post (by kernel_rfl) rfl rfl hW' rfl hg⟩

theorem over : Rows.threadComparesRow.holds Try.pinned (OpenSpec.ofChange Rows.threadComparesSpec) :=
  OpenClaim.holds_of_wide 8 Try.f8 rfl rfl rfl rfl rfl rfl rfl ⟨rfl, rfl, rfl, rfl, rfl⟩ rfl rfl rfl rfl rfl (by kernel_rfl) Try.func8 (by kernel_rfl)
    (of_decide_eq_true (by kernel_rfl)) (by unfold Func.isWrapper; first | (rw [if_pos (by decide +kernel)]; kernel_rfl) | (rw [if_neg (by decide +kernel)]; exact ⟨rfl, rfl⟩))
    (fun os started H enc _ => lifted os started H enc)

theorem proved : Rows.ThreadComparesSaid :=
  over
#print axioms proved
end Go.Proofs.Ythfinofmbnfijaa.threadCompares
