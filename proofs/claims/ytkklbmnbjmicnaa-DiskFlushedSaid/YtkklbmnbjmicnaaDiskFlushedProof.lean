/- DiskFlushed: for every argument the law returns true, and the arguments read as they did. No conditions. -/
import Derived.Test.YtkklbmnbjmicnaaRows
import Derived.WalkKit
import Derived.ProofKit
import Derived.OpenShut
import Derived.Test.YtkklbmnbjmicnaaArgs3
import Derived.Test.YtkklbmnbjmicnaaRow
namespace Go.Proofs.Ytkklbmnbjmicnaa.diskFlushed
open Go.ChangeShapes Go.WideShapes Go.ChangeAt Go.RowKit
set_option linter.unusedVariables false

set_option maxRecDepth 100000 in
theorem lifted (os : Os) (started : os.Started) (H : Type) (enc : TypeId × Value → H) :
    ReturnsInHanded {} Try.checked os 8 .any (Rows.diskFlushedSpec.pre6 enc Try.prog Try.f8 Rows.diskFlushedRow.domain false) (Rows.diskFlushedSpec.post enc Try.prog Try.f8 false true false false) := by
  refine returnsInHanded_of_change (C := Try.checked) own started (by kernel_rfl) Try.func8
    (ChangeSpec.witness6 (enc := enc) (C := Try.checked) false ⟨#[], #[.agg #[.int .u8 0, .slice none 0 0, .slice none 0 0, .slice none 0 0]], []⟩ 8 (by kernel_rfl) (by kernel_rfl) (by kernel_rfl) (by kernel_rfl)) ?_
  intro W base args ds gs before hval0 hW hcnd _
  have hval : ∀ (j : Nat) t v, Try.f8.params[j]? = some t → args[j]? = some v → Value.okWide Try.prog W .any base t v := hval0
  have hW' := hW
  obtain ⟨p, q, hA0, hV, rfl, hfz, hnd⟩ := hW
  have hA : DataW.TrodAll enc Try.prog W 0 (fun _ => true) true Try.f8.params.toList args.toList ds p := hA0
  rw [Try.params8] at hA hval
  obtain ⟨v0, vs0, d0, ds0, p0, q0, hargs, rfl, rfl, h0, r0⟩ := trodAll_cons hA
  obtain ⟨rfl, rfl, rfl⟩ := trodAll_nil r0
  obtain rfl : args = #[v0] := by cases args; simp_all
  obtain ⟨rfl, rfl⟩ := trodVars_none hV
  obtain ⟨cs0, rfl, hsz0⟩ := okWide_struct Try.underlying57 (hval 0 57 v0 rfl rfl)
  rw [cellsOf_Crash] at hsz0
  obtain ⟨fu0, hf0⟩ := h0
  obtain ⟨sd, lv, lv', cv, l, l', c, hcs0, hsd, ho, ho', hc, ha, ha', hcm⟩ := trod_crash hf0 (by simpa [Value.cells] using hsz0)
  obtain rfl : cs0 = #[.int .u8 (sd : Int), lv, lv', cv] := by
    have e : cs0.toList = _ := hcs0
    exact Array.ext' (by rw [e])
  clear hA0 hval0
  simp only [List.append_nil] at hW'
  refine (DiskFlushed_any sd hsd l l' lv lv' cv c W ho.le ho'.le (hc.mono' (fun k hk _ => hk)) ha ha' hcm).mono fun e W' ⟨he, hg⟩ => ?_
  subst he
  exact ⟨_, rfl, law_post (by kernel_rfl) rfl rfl hW' rfl hg⟩

theorem over : Rows.diskFlushedRow.holds Try.pinned (OpenSpec.ofChange Rows.diskFlushedSpec) :=
  OpenClaim.holds_of_wide 8 Try.f8 rfl rfl rfl rfl rfl rfl rfl ⟨rfl, rfl, rfl, rfl, rfl⟩ rfl rfl rfl rfl rfl (by kernel_rfl) Try.func8 (by kernel_rfl)
    (of_decide_eq_true (by kernel_rfl)) (by unfold Func.isWrapper; first | (rw [if_pos (by decide +kernel)]; kernel_rfl) | (rw [if_neg (by decide +kernel)]; exact ⟨rfl, rfl⟩))
    (fun os started H enc _ => lifted os started H enc)

theorem proved : Rows.DiskFlushedSaid :=
  over
#print axioms proved
end Go.Proofs.Ytkklbmnbjmicnaa.diskFlushed
