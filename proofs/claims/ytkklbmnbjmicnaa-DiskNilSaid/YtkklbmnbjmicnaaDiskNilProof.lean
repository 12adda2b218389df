/- DiskNil: for every argument the law returns true, and the arguments read as they did. No conditions. -/
import Derived.Test.YtkklbmnbjmicnaaRows
import Derived.WalkKit
import Derived.ProofKit
import Derived.OpenShut
import Derived.Test.YtkklbmnbjmicnaaNil2
import Derived.Test.YtkklbmnbjmicnaaRow
namespace Go.Proofs.Ytkklbmnbjmicnaa.diskNil
open Go.ChangeShapes Go.WideShapes Go.ChangeAt Go.RowKit
set_option linter.unusedVariables false

set_option maxRecDepth 100000 in
theorem lifted (os : Os) (started : os.Started) (H : Type) (enc : TypeId × Value → H) :
    ReturnsInHanded {} Try.checked os 11 .any (Rows.diskNilSpec.pre6 enc Try.prog Try.f11 Rows.diskNilRow.domain false) (Rows.diskNilSpec.post enc Try.prog Try.f11 false true false false) := by
  refine returnsInHanded_of_change (C := Try.checked) own started (by kernel_rfl) Try.func11
    (ChangeSpec.witness6 (enc := enc) (C := Try.checked) false ⟨#[], #[.agg #[.int .i64 0, .int .i64 0, .int .i64 0, .int .u8 0, .int .u8 0, .slice none 0 0]], []⟩ 8 (by kernel_rfl) (by kernel_rfl) (by kernel_rfl) (by kernel_rfl)) ?_
  intro W base args ds gs before hval0 hW hcnd _
  have hval : ∀ (j : Nat) t v, Try.f11.params[j]? = some t → args[j]? = some v → Value.okWide Try.prog W .any base t v := hval0
  have hW' := hW
  obtain ⟨p, q, hA0, hV, rfl, hfz, hnd⟩ := hW
  have hA : DataW.TrodAll enc Try.prog W 0 (fun _ => true) true Try.f11.params.toList args.toList ds p := hA0
  rw [Try.params11] at hA hval
  obtain ⟨v0, vs0, d0, ds0, p0, q0, hargs, rfl, rfl, h0, r0⟩ := trodAll_cons hA
  obtain ⟨rfl, rfl, rfl⟩ := trodAll_nil r0
  obtain rfl : args = #[v0] := by cases args; simp_all
  obtain ⟨rfl, rfl⟩ := trodVars_none hV
  obtain ⟨cs0, rfl, hsz0⟩ := okWide_struct Try.underlying61 (hval 0 61 v0 rfl rfl)
  rw [cellsOf_Op] at hsz0
  obtain ⟨fu0, hf0⟩ := h0
  obtain ⟨o0, cv0, hcs0, hb0, ha0, hl0⟩ := trod_op hf0 (by simpa [Value.cells] using hsz0)
  obtain rfl : cs0 = #[.int .i64 o0.kind, .int .i64 o0.s, .int .i64 o0.a, .int .u8 (o0.f.toNat : Int), .int .u8 (o0.t.toNat : Int), cv0] := by
    have e : cs0.toList = _ := hcs0
    exact Array.ext' (by rw [e])
  clear hA0 hval0
  simp only [List.append_nil] at hW'
  refine (DiskNil_any o0 cv0 (hb0.mono' (fun k hk _ => hk))).mono fun e W' ⟨he, hg⟩ => ?_
  subst he
  exact ⟨_, rfl, law_post (by kernel_rfl) rfl rfl hW' rfl hg⟩

theorem over : Rows.diskNilRow.holds Try.pinned (OpenSpec.ofChange Rows.diskNilSpec) :=
  OpenClaim.holds_of_wide 11 Try.f11 rfl rfl rfl rfl rfl rfl rfl ⟨rfl, rfl, rfl, rfl, rfl⟩ rfl rfl rfl rfl rfl (by kernel_rfl) Try.func11 (by kernel_rfl)
    (of_decide_eq_true (by kernel_rfl)) (by unfold Func.isWrapper; first | (rw [if_pos (by decide +kernel)]; kernel_rfl) | (rw [if_neg (by decide +kernel)]; exact ⟨rfl, rfl⟩))
    (fun os started H enc _ => lifted os started H enc)

theorem proved : Rows.DiskNilSaid :=
  over
#print axioms proved
end Go.Proofs.Ytkklbmnbjmicnaa.diskNil
