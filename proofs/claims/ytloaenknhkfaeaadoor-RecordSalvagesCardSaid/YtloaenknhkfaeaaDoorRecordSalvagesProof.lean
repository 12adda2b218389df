/- RecordSalvages: for every argument the law returns true, and the arguments read as they did; the card. -/
import Derived.Test.YtloaenknhkfaeaaDoorRows
import Derived.Test.YtloaenknhkfaeaaDoorTie
import Derived.Test.YtloaenknhkfaeaaDoorCards
import Derived.WalkKit
import Derived.ProofKit
import Derived.OpenShut
import Derived.LaidMore
import Derived.Stop.Joined
import Derived.SevenTiedAt
import Derived.Test.YtloaenknhkfaeaaDoorRecArgs2
import Derived.Test.YtloaenknhkfaeaaDoorRow
import Derived.Test.YtloaenknhkfaeaaDoorRec36
import Derived.Test.YtloaenknhkfaeaaDoorRecArgs3
namespace Go.Proofs.YtloaenknhkfaeaaDoor.recordSalvages
open Go.ChangeShapes Go.WideShapes Go.ChangeAt Go.RowKit
set_option linter.unusedVariables false

set_option maxRecDepth 100000 in
theorem lifted (os : Os) (started : os.Started) (H : Type) (enc : TypeId × Value → H) :
    ReturnsInHanded {} Tryd.checked os 14 .any (fun w args => (Rows.recordSalvagesSpec.pre enc Tryd.prog Tryd.f14 [] false w args ∧ laidMetH Tryd.prog laidList w) ∧ sizedMet enc Tryd.prog Tryd.f14 (OpenSpec.ofChange Rows.recordSalvagesSpec) false w args)
      (Rows.recordSalvagesSpec.post enc Tryd.prog Tryd.f14 false true false false) := by
  refine returnsInHanded_of_change_and (C := Tryd.checked) (X := fun w _ => laidMetH Tryd.prog laidList w) (fun _ _ _ hh h => h.of_heap hh) own started (by kernel_rfl) Tryd.func14
    (ChangeSpec.witness_shaped (enc := enc) (C := Tryd.checked) (os := os) (X := fun w _ => laidMetH Tryd.prog laidList w) false (World.doorLaid Tryd.prog 400 os) #[.agg #[.int .i64 0, .int .i64 0, .slice none 0 0, .slice none 0 0, .slice none 0 0, .int .u8 0], .slice none 0 0] 8 rfl (World.shaped_of_RefB (by kernel_rfl) (by kernel_rfl)) (by kernel_rfl) (by kernel_rfl) (by kernel_rfl) (door_met os _)) ?_
  intro W base args ds gs before hval0 hW _ hsz hL _
  have hK : KAt W := kat_of_laid hL
  have hval : ∀ (j : Nat) t v, Tryd.f14.params[j]? = some t → args[j]? = some v → Value.okWide Tryd.prog W .any base t v := hval0
  have hW' := hW
  obtain ⟨p, q, hA0, hV, rfl, hfz, hnd⟩ := hW
  have hA : DataW.TrodAll enc Tryd.prog W 0 (fun _ => true) true Tryd.f14.params.toList args.toList ds p := hA0
  rw [Tryd.params14] at hA hval
  obtain ⟨v0, vs0, d0, ds0, p0, q0, hargs, rfl, rfl, h0, r0⟩ := trodAll_cons hA
  obtain ⟨v1, vs1, d1, ds1, p1, q1, rfl, rfl, rfl, h1, r1⟩ := trodAll_cons r0
  obtain ⟨rfl, rfl, rfl⟩ := trodAll_nil r1
  obtain rfl : args = #[v0, v1] := by cases args; simp_all
  obtain ⟨rfl, rfl⟩ := trodVars_none hV
  obtain ⟨cs0, rfl, hsz0⟩ := okWide_struct Tryd.underlying75 (hval 0 75 v0 rfl rfl)
  rw [cellsOf_Run] at hsz0
  obtain ⟨R0, hcs0, hm0⟩ := (show ∃ R : RunV, cs0.toList = R.cells ∧ R.At W by obtain ⟨fu, hf⟩ := h0; exact trod_run hf (by simpa [Value.cells] using hsz0) (fits_each hsz (j := 0) (by rw [Tryd.params14]; rfl) rfl))
  obtain rfl : cs0 = R0.cells.toArray := Array.ext' (by rw [hcs0])
  obtain ⟨sa1, sl1, sc1, rfl⟩ := okWide_slice Tryd.underlying67 (hval 1 67 v1 rfl rfl)
  obtain ⟨L1, hb1⟩ := (show ∃ L : List SecV, DescsAt W (.slice sa1 sl1 sc1) L by obtain ⟨fu, hf⟩ := h1; exact trod_descs hf (fits_each hsz (j := 1) (by rw [Tryd.params14]; rfl) rfl))
  clear hA0 hval0
  simp only [List.append_nil] at hW'
  refine (RecordSalvages_any R0 hm0 _ L1 hb1 hK).mono fun e W' ⟨he, hg⟩ => ?_
  subst he
  exact ⟨_, rfl, law_post (by kernel_rfl) rfl rfl hW' rfl hg⟩

theorem over : Rows.recordSalvagesRow.holds Tryd.pinned (OpenSpec.ofChange Rows.recordSalvagesSpec) :=
  OpenClaim.holds_of_wide 14 Tryd.f14 rfl rfl rfl rfl rfl rfl rfl ⟨rfl, rfl, rfl, rfl, rfl⟩ rfl rfl rfl rfl rfl (by kernel_rfl) Tryd.func14 (by kernel_rfl)
    (of_decide_eq_true (by kernel_rfl)) (by unfold Func.isWrapper; first | (rw [if_pos (by decide +kernel)]; kernel_rfl) | (rw [if_neg (by decide +kernel)]; exact ⟨rfl, rfl⟩))
    (fun os started H enc _ => lifted os started H enc)

theorem proved : Rows.RecordSalvagesCardSaid :=
  Claim7.holds_tied_plain_at .later [] [.data] true (true, "b24cf42930bbad85d32969fbbcca22761499afe622429b085c3fad1937a1f37d") false
    over (fun _ h => by cases h) (by kernel_rfl) (fun _ h => by cases h) recordSalvages_row_tie rfl ⟨rfl, rfl⟩ (by kernel_rfl) rfl
    (fun f fn hf hfn => by
      obtain rfl : f = 14 := Option.some.inj ((show Tryd.prog.funcNamed "bulletin/bulletinlaw23.RecordSalvages" = some 14 by kernel_rfl).symm.trans hf) |>.symm
      obtain rfl : fn = Tryd.f14 := (Option.some.inj (Tryd.func14.symm.trans hfn)).symm
      exact ⟨by kernel_rfl, fun j t ht => by
        rw [Tryd.params14] at ht
        have hm : t ∈ [75, 67] := by simpa using Array.mem_of_getElem? ht
        have hall : ([75, 67].all fun u => !Tryd.prog.wantsStandIn u) = true := by kernel_rfl
        exact (show Tryd.prog.wantsStandIn t = false by simpa using List.all_eq_true.1 hall t hm)⟩)
    (by kernel_rfl)
#print axioms proved
end Go.Proofs.YtloaenknhkfaeaaDoor.recordSalvages
