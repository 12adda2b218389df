/- ThreadChecks: for every argument the law returns true, and the arguments read as they did. No conditions. -/
import Derived.Test.YthfinofmbnfijaaRows
import Derived.WalkKit
import Derived.ProofKit
import Derived.OpenShut
import Derived.Test.YthfinofmbnfijaaTh30
import Derived.Test.YthfinofmbnfijaaTArgs2
import Derived.Test.YthfinofmbnfijaaRow
namespace Go.Proofs.Ythfinofmbnfijaa.threadChecks
open Go.ChangeShapes Go.WideShapes Go.ChangeAt Go.RowKit
set_option linter.unusedVariables false

set_option maxRecDepth 100000 in
theorem lifted (os : Os) (started : os.Started) (H : Type) (enc : TypeId × Value → H) :
    ReturnsInHanded {} Try.checked os 7 .any (Rows.threadChecksSpec.pre6 enc Try.prog Try.f7 Rows.threadChecksRow.domain false) (Rows.threadChecksSpec.post enc Try.prog Try.f7 false true false false) := by
  refine returnsInHanded_of_change (C := Try.checked) own started (by kernel_rfl) Try.func7
    (ChangeSpec.witness6 (enc := enc) (C := Try.checked) false ⟨#[], #[.slice none 0 0, .agg #[.int .u8 0, .int .u8 0, .int .u8 0]], []⟩ 8 (by kernel_rfl) (by kernel_rfl) (by kernel_rfl) (by kernel_rfl)) ?_
  intro W base args ds gs before hval0 hW hcnd _
  have hval : ∀ (j : Nat) t v, Try.f7.params[j]? = some t → args[j]? = some v → Value.okWide Try.prog W .any base t v := hval0
  have hW' := hW
  obtain ⟨p, q, hA0, hV, rfl, hfz, hnd⟩ := hW
  have hA : DataW.TrodAll enc Try.prog W 0 (fun _ => true) true Try.f7.params.toList args.toList ds p := hA0
  rw [Try.params7] at hA hval
  obtain ⟨v0, vs0, d0, ds0, p0, q0, hargs, rfl, rfl, h0, r0⟩ := trodAll_cons hA
  obtain ⟨v1, vs1, d1, ds1, p1, q1, rfl, rfl, rfl, h1, r1⟩ := trodAll_cons r0
  obtain ⟨rfl, rfl, rfl⟩ := trodAll_nil r1
  obtain rfl : args = #[v0, v1] := by cases args; simp_all
  obtain ⟨rfl, rfl⟩ := trodVars_none hV
  obtain ⟨sa0, sl0, sc0, rfl⟩ := okWide_slice Try.underlying22 (hval 0 22 v0 rfl rfl)
  obtain ⟨L0, hb0⟩ := (show ∃ L : List RawV, RawsAt W (.slice sa0 sl0 sc0) L by obtain ⟨fu, hf⟩ := h0; exact trod_raws hf)
  obtain ⟨ca1, cb1, cc1, rfl⟩ := okWide_a3 (hval 1 48 v1 rfl rfl)
  obtain ⟨sa1, sb1, sc1, hb1, rfl, rfl, rfl⟩ := (show ∃ s0 s1 s2 : Nat, (s0 < 256 ∧ s1 < 256 ∧ s2 < 256) ∧ ca1 = .int .u8 (s0 : Int) ∧ cb1 = .int .u8 (s1 : Int) ∧ cc1 = .int .u8 (s2 : Int) by obtain ⟨fu, hf⟩ := h1; exact trod_a3 hf)
  clear hA0 hval0
  simp only [List.append_nil] at hW'
  refine (Checks_law _ L0 hb0 sa1 sb1 sc1 hb1.1 hb1.2.1 hb1.2.2).mono fun e W' ⟨he, hg⟩ => ?_
  subst he
  exact ⟨_, rfl, law_post (by kernel_rfl) rfl rfl hW' rfl hg⟩

theorem over : Rows.threadChecksRow.holds Try.pinned (OpenSpec.ofChange Rows.threadChecksSpec) :=
  OpenClaim.holds_of_wide 7 Try.f7 rfl rfl rfl rfl rfl rfl rfl ⟨rfl, rfl, rfl, rfl, rfl⟩ rfl rfl rfl rfl rfl (by kernel_rfl) Try.func7 (by kernel_rfl)
    (of_decide_eq_true (by kernel_rfl)) (by unfold Func.isWrapper; first | (rw [if_pos (by decide +kernel)]; kernel_rfl) | (rw [if_neg (by decide +kernel)]; exact ⟨rfl, rfl⟩))
    (fun os started H enc _ => lifted os started H enc)

theorem proved : Rows.ThreadChecksSaid :=
  over
#print axioms proved
end Go.Proofs.Ythfinofmbnfijaa.threadChecks
