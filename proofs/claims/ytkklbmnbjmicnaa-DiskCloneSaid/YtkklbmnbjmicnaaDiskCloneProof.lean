/- DiskClone: for every argument the law returns true, and the arguments read as they did. No conditions. -/
import Derived.Test.YtkklbmnbjmicnaaRows
import Derived.WalkKit
import Derived.ProofKit
import Derived.OpenShut
import Derived.Test.YtkklbmnbjmicnaaLaw5b
import Derived.Test.YtkklbmnbjmicnaaRow
namespace Go.Proofs.Ytkklbmnbjmicnaa.diskClone
open Go.ChangeShapes Go.WideShapes Go.ChangeAt Go.RowKit
set_option linter.unusedVariables false

set_option maxRecDepth 100000 in
theorem lifted (os : Os) (started : os.Started) (H : Type) (enc : TypeId × Value → H) :
    ReturnsInHanded {} Try.checked os 9 .any (Rows.diskCloneSpec.pre6 enc Try.prog Try.f9 Rows.diskCloneRow.domain false) (Rows.diskCloneSpec.post enc Try.prog Try.f9 false true false false) := by
  refine returnsInHanded_of_change (C := Try.checked) own started (by kernel_rfl) Try.func9
    (ChangeSpec.witness6 (enc := enc) (C := Try.checked) false ⟨#[], #[.int .u8 0, .slice none 0 0, .slice none 0 0], []⟩ 8 (by kernel_rfl) (by kernel_rfl) (by kernel_rfl) (by kernel_rfl)) ?_
  intro W base args ds gs before hval0 hW hcnd _
  have hval : ∀ (j : Nat) t v, Try.f9.params[j]? = some t → args[j]? = some v → Value.okWide Try.prog W .any base t v := hval0
  have hW' := hW
  obtain ⟨p, q, hA0, hV, rfl, hfz, hnd⟩ := hW
  have hA : DataW.TrodAll enc Try.prog W 0 (fun _ => true) true Try.f9.params.toList args.toList ds p := hA0
  rw [Try.params9] at hA hval
  obtain ⟨v0, vs0, d0, ds0, p0, q0, hargs, rfl, rfl, h0, r0⟩ := trodAll_cons hA
  obtain ⟨v1, vs1, d1, ds1, p1, q1, rfl, rfl, rfl, h1, r1⟩ := trodAll_cons r0
  obtain ⟨v2, vs2, d2, ds2, p2, q2, rfl, rfl, rfl, h2, r2⟩ := trodAll_cons r1
  obtain ⟨rfl, rfl, rfl⟩ := trodAll_nil r2
  obtain rfl : args = #[v0, v1, v2] := by cases args; simp_all
  obtain ⟨rfl, rfl⟩ := trodVars_none hV
  obtain ⟨a0, rfl, rfl, rfl, w0⟩ := open_int Try.underlying5 (hval 0 5 v0 rfl rfl) h0
  have hb0 : 0 ≤ a0 ∧ a0 ≤ 255 := bounds_u8 w0
  obtain ⟨n0, rfl⟩ := Int.eq_ofNat_of_zero_le hb0.1
  obtain ⟨sa1, sl1, sc1, rfl⟩ := okWide_slice Try.underlying40 (hval 1 40 v1 rfl rfl)
  obtain ⟨l1, ho1, _, ha1⟩ := (show ∃ l : List OpD, OpsAt W (fun _ => True) (.slice sa1 sl1 sc1) l ∧ l.length ≤ maxLen ∧ ∀ o ∈ l, o.a ≤ 9223372036854775807 ∧ o.cs.length ≤ 9223372036854775807 by obtain ⟨fu, hf⟩ := h1; exact trod_ops hf)
  obtain ⟨sa2, sl2, sc2, rfl⟩ := okWide_slice Try.underlying40 (hval 2 40 v2 rfl rfl)
  obtain ⟨l2, ho2, _, ha2⟩ := (show ∃ l : List OpD, OpsAt W (fun _ => True) (.slice sa2 sl2 sc2) l ∧ l.length ≤ maxLen ∧ ∀ o ∈ l, o.a ≤ 9223372036854775807 ∧ o.cs.length ≤ 9223372036854775807 by obtain ⟨fu, hf⟩ := h2; exact trod_ops hf)
  clear hA0 hval0
  simp only [List.append_nil] at hW'
  refine (DiskClone_any n0 (by omega) l1 l2 _ _ W ho1.le ho2.le ha1 ha2).mono fun e W' ⟨he, hg⟩ => ?_
  subst he
  exact ⟨_, rfl, law_post (by kernel_rfl) rfl rfl hW' rfl hg⟩

theorem over : Rows.diskCloneRow.holds Try.pinned (OpenSpec.ofChange Rows.diskCloneSpec) :=
  OpenClaim.holds_of_wide 9 Try.f9 rfl rfl rfl rfl rfl rfl rfl ⟨rfl, rfl, rfl, rfl, rfl⟩ rfl rfl rfl rfl rfl (by kernel_rfl) Try.func9 (by kernel_rfl)
    (of_decide_eq_true (by kernel_rfl)) (by unfold Func.isWrapper; first | (rw [if_pos (by decide +kernel)]; kernel_rfl) | (rw [if_neg (by decide +kernel)]; exact ⟨rfl, rfl⟩))
    (fun os started H enc _ => lifted os started H enc)

theorem proved : Rows.DiskCloneSaid :=
  over
#print axioms proved
end Go.Proofs.Ytkklbmnbjmicnaa.diskClone
