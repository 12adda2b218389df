/- JournalOthers: for every argument the law returns true, and the arguments read as they did; the card. -/
import Derived.Test.YtplclpileejemaaDoorRows
import Derived.Test.YtplclpileejemaaDoorTie
import Derived.Test.YtplclpileejemaaDoorCards
import Derived.WalkKit
import Derived.ProofKit
import Derived.OpenShut
import Derived.LaidMore
import Derived.Stop.Joined
import Derived.SevenTiedAt
import Derived.Test.YtplclpileejemaaDoorJB17
import Derived.Test.YtplclpileejemaaDoorJ38Z
import Derived.Test.YtplclpileejemaaDoorJArgs2Z
namespace Go.Proofs.YtplclpileejemaaDoor.journalOthers
open Go.ChangeShapes Go.WideShapes Go.ChangeAt Go.RowKit
set_option linter.unusedVariables false

set_option maxRecDepth 100000 in
theorem lifted (os : Os) (started : os.Started) (H : Type) (enc : TypeId × Value → H) :
    ReturnsInHanded {} Tryd.checked os 6 .any (fun w args => (Rows.journalOthersSpec.pre enc Tryd.prog Tryd.f6 [] false w args ∧ laidMetH Tryd.prog laidList w) ∧ sizedMet enc Tryd.prog Tryd.f6 (OpenSpec.ofChange Rows.journalOthersSpec) false w args)
      (Rows.journalOthersSpec.post enc Tryd.prog Tryd.f6 false true false false) := by
  refine returnsInHanded_of_change_and (C := Tryd.checked) (X := fun w _ => laidMetH Tryd.prog laidList w) (fun _ _ _ hh h => h.of_heap hh) own started (by kernel_rfl) Tryd.func6
    (ChangeSpec.witness_shaped (enc := enc) (C := Tryd.checked) (os := os) (X := fun w _ => laidMetH Tryd.prog laidList w) false (World.doorLaid Tryd.prog 400 os) #[.slice none 0 0, .slice none 0 0, .int .u8 0] 8 rfl (World.shaped_of_RefB (by kernel_rfl) (by kernel_rfl)) (by kernel_rfl) (by kernel_rfl) (by kernel_rfl) (door_met os _)) ?_
  intro W base args ds gs before hval0 hW _ hsz hL _
  have hK : KAt W := kat_of_laid hL
  have hval : ∀ (j : Nat) t v, Tryd.f6.params[j]? = some t → args[j]? = some v → Value.okWide Tryd.prog W .any base t v := hval0
  have hW' := hW
  obtain ⟨p, q, hA0, hV, rfl, hfz, hnd⟩ := hW
  have hA : DataW.TrodAll enc Tryd.prog W 0 (fun _ => true) true Tryd.f6.params.toList args.toList ds p := hA0
  rw [Tryd.params6] at hA hval
  obtain ⟨v0, vs0, d0, ds0, p0, q0, hargs, rfl, rfl, h0, r0⟩ := trodAll_cons hA
  obtain ⟨v1, vs1, d1, ds1, p1, q1, rfl, rfl, rfl, h1, r1⟩ := trodAll_cons r0
  obtain ⟨v2, vs2, d2, ds2, p2, q2, rfl, rfl, rfl, h2, r2⟩ := trodAll_cons r1
  obtain ⟨rfl, rfl, rfl⟩ := trodAll_nil r2
  obtain rfl : args = #[v0, v1, v2] := by cases args; simp_all
  obtain ⟨rfl, rfl⟩ := trodVars_none hV
  obtain ⟨sa0, sl0, sc0, rfl⟩ := okWide_slice Tryd.underlying43 (hval 0 43 v0 rfl rfl)
  obtain ⟨L0, hb0⟩ := (show ∃ L : List JOp, JOpsAt W (.slice sa0 sl0 sc0) L by obtain ⟨fu, hf⟩ := h0; exact trod_ops hf (fits_each hsz (j := 0) (by rw [Tryd.params6]; rfl) rfl))
  obtain ⟨sa1, sl1, sc1, rfl⟩ := okWide_slice Tryd.underlying43 (hval 1 43 v1 rfl rfl)
  obtain ⟨L1, hb1⟩ := (show ∃ L : List JOp, JOpsAt W (.slice sa1 sl1 sc1) L by obtain ⟨fu, hf⟩ := h1; exact trod_ops hf (fits_each hsz (j := 1) (by rw [Tryd.params6]; rfl) rfl))
  obtain ⟨a2, rfl, rfl, rfl, w2⟩ := open_int Tryd.underlying5 (hval 2 5 v2 rfl rfl) h2
  have hb2 : 0 ≤ a2 ∧ a2 ≤ 255 := bounds_u8 w2
  obtain ⟨b2, rfl⟩ : ∃ b : UInt8, a2 = (b.toNat : Int) := ⟨UInt8.ofNat a2.toNat, by rw [UInt8.toNat_ofNat']; omega⟩
  clear hA0 hval0
  simp only [List.append_nil] at hW'
  refine ((show Calls Tryd.prog 6 #[.slice sa0 sl0 sc0, .slice sa1 sl1 sc1, .int .u8 (b2.toNat : Int)] W (fun e w2 => e = .returned (.bool true) ∧ Below W.heap.size W w2) from by obtain ⟨a', c', e'⟩ := hb0.form; cases e'; obtain ⟨a', c', e'⟩ := hb1.form; cases e'; exact JournalOthers_any hK hb0 hb1 b2.toNat b2.toNat_lt)).mono fun e W' ⟨he, hg⟩ => ?_
  subst he
  exact ⟨_, rfl, law_post (by kernel_rfl) rfl rfl hW' rfl hg⟩

theorem over : Rows.journalOthersRow.holds Tryd.pinned (OpenSpec.ofChange Rows.journalOthersSpec) :=
  OpenClaim.holds_of_wide 6 Tryd.f6 rfl rfl rfl rfl rfl rfl rfl ⟨rfl, rfl, rfl, rfl, rfl⟩ rfl rfl rfl rfl rfl (by kernel_rfl) Tryd.func6 (by kernel_rfl)
    (of_decide_eq_true (by kernel_rfl)) (by unfold Func.isWrapper; first | (rw [if_pos (by decide +kernel)]; kernel_rfl) | (rw [if_neg (by decide +kernel)]; exact ⟨rfl, rfl⟩))
    (fun os started H enc _ => lifted os started H enc)

theorem proved : Rows.JournalOthersCardSaid :=
  Claim7.holds_tied_plain_at .later [] [.data] true (true, "ea7d0078d968d40aaaa44fb71485fd39388da40a1bd31b4ac429f2b104c4a405") false
    over (fun _ h => by cases h) (by kernel_rfl) (fun _ h => by cases h) journalOthers_row_tie rfl ⟨rfl, rfl⟩ (by kernel_rfl) rfl
    (fun f fn hf hfn => by
      obtain rfl : f = 6 := Option.some.inj ((show Tryd.prog.funcNamed "bulletin/bulletinlaw24.JournalOthers" = some 6 by kernel_rfl).symm.trans hf) |>.symm
      obtain rfl : fn = Tryd.f6 := (Option.some.inj (Tryd.func6.symm.trans hfn)).symm
      exact ⟨by kernel_rfl, fun j t ht => by
        rw [Tryd.params6] at ht
        have hm : t ∈ [43, 43, 5] := by simpa using Array.mem_of_getElem? ht
        have hall : ([43, 43, 5].all fun u => !Tryd.prog.wantsStandIn u) = true := by kernel_rfl
        exact (show Tryd.prog.wantsStandIn t = false by simpa using List.all_eq_true.1 hall t hm)⟩)
    (by kernel_rfl)
#print axioms proved
end Go.Proofs.YtplclpileejemaaDoor.journalOthers
