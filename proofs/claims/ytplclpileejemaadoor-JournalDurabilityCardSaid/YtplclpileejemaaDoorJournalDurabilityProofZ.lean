/- JournalDurability: for every argument the law returns true, and the arguments read as they did; the card. -/
import Derived.Test.YtplclpileejemaaDoorRows
import Derived.Test.YtplclpileejemaaDoorTie
import Derived.Test.YtplclpileejemaaDoorCards
import Derived.WalkKit
import Derived.ProofKit
import Derived.OpenShut
import Derived.LaidMore
import Derived.Stop.Joined
import Derived.SevenTiedAt
import Derived.Test.YtplclpileejemaaDoorJB17
import Derived.Test.YtplclpileejemaaDoorJ36Z
import Derived.Test.YtplclpileejemaaDoorJArgs2Z
namespace Go.Proofs.YtplclpileejemaaDoor.journalDurability
open Go.ChangeShapes Go.WideShapes Go.ChangeAt Go.RowKit
set_option linter.unusedVariables false

set_option maxRecDepth 100000 in
theorem lifted (os : Os) (started : os.Started) (H : Type) (enc : TypeId × Value → H) :
    ReturnsInHanded {} Tryd.checked os 9 .any (fun w args => (Rows.journalDurabilitySpec.pre enc Tryd.prog Tryd.f9 [] false w args ∧ laidMetH Tryd.prog laidList w) ∧ sizedMet enc Tryd.prog Tryd.f9 (OpenSpec.ofChange Rows.journalDurabilitySpec) false w args)
      (Rows.journalDurabilitySpec.post enc Tryd.prog Tryd.f9 false true false false) := by
  refine returnsInHanded_of_change_and (C := Tryd.checked) (X := fun w _ => laidMetH Tryd.prog laidList w) (fun _ _ _ hh h => h.of_heap hh) own started (by kernel_rfl) Tryd.func9
    (ChangeSpec.witness_shaped (enc := enc) (C := Tryd.checked) (os := os) (X := fun w _ => laidMetH Tryd.prog laidList w) false (World.doorLaid Tryd.prog 400 os) #[.int .u8 0, .slice none 0 0, .int .u8 0, .slice none 0 0, .int .u8 0, .slice none 0 0] 8 rfl (World.shaped_of_RefB (by kernel_rfl) (by kernel_rfl)) (by kernel_rfl) (by kernel_rfl) (by kernel_rfl) (door_met os _)) ?_
  intro W base args ds gs before hval0 hW _ hsz hL _
  have hK : KAt W := kat_of_laid hL
  have hval : ∀ (j : Nat) t v, Tryd.f9.params[j]? = some t → args[j]? = some v → Value.okWide Tryd.prog W .any base t v := hval0
  have hW' := hW
  obtain ⟨p, q, hA0, hV, rfl, hfz, hnd⟩ := hW
  have hA : DataW.TrodAll enc Tryd.prog W 0 (fun _ => true) true Tryd.f9.params.toList args.toList ds p := hA0
  rw [Tryd.params9] at hA hval
  obtain ⟨v0, vs0, d0, ds0, p0, q0, hargs, rfl, rfl, h0, r0⟩ := trodAll_cons hA
  obtain ⟨v1, vs1, d1, ds1, p1, q1, rfl, rfl, rfl, h1, r1⟩ := trodAll_cons r0
  obtain ⟨v2, vs2, d2, ds2, p2, q2, rfl, rfl, rfl, h2, r2⟩ := trodAll_cons r1
  obtain ⟨v3, vs3, d3, ds3, p3, q3, rfl, rfl, rfl, h3, r3⟩ := trodAll_cons r2
  obtain ⟨v4, vs4, d4, ds4, p4, q4, rfl, rfl, rfl, h4, r4⟩ := trodAll_cons r3
  obtain ⟨v5, vs5, d5, ds5, p5, q5, rfl, rfl, rfl, h5, r5⟩ := trodAll_cons r4
  obtain ⟨rfl, rfl, rfl⟩ := trodAll_nil r5
  obtain rfl : args = #[v0, v1, v2, v3, v4, v5] := by cases args; simp_all
  obtain ⟨rfl, rfl⟩ := trodVars_none hV
  obtain ⟨a0, rfl, rfl, rfl, w0⟩ := open_int Tryd.underlying5 (hval 0 5 v0 rfl rfl) h0
  have hb0 : 0 ≤ a0 ∧ a0 ≤ 255 := bounds_u8 w0
  obtain ⟨b0, rfl⟩ : ∃ b : UInt8, a0 = (b.toNat : Int) := ⟨UInt8.ofNat a0.toNat, by rw [UInt8.toNat_ofNat']; omega⟩
  obtain ⟨sa1, sl1, sc1, rfl⟩ := okWide_slice Tryd.underlying43 (hval 1 43 v1 rfl rfl)
  obtain ⟨L1, hb1⟩ := (show ∃ L : List JOp, JOpsAt W (.slice sa1 sl1 sc1) L by obtain ⟨fu, hf⟩ := h1; exact trod_ops hf (fits_each hsz (j := 1) (by rw [Tryd.params9]; rfl) rfl))
  obtain ⟨a2, rfl, rfl, rfl, w2⟩ := open_int Tryd.underlying5 (hval 2 5 v2 rfl rfl) h2
  have hb2 : 0 ≤ a2 ∧ a2 ≤ 255 := bounds_u8 w2
  obtain ⟨b2, rfl⟩ : ∃ b : UInt8, a2 = (b.toNat : Int) := ⟨UInt8.ofNat a2.toNat, by rw [UInt8.toNat_ofNat']; omega⟩
  obtain ⟨sa3, sl3, sc3, rfl⟩ := okWide_slice Tryd.underlying36 (hval 3 36 v3 rfl rfl)
  obtain ⟨l3, hl3, hb3⟩ := (show ∃ l : List UInt8, l.length = sl3 ∧ BytesN W (fun _ => True) (.slice sa3 sl3 sc3) l by obtain ⟨fu, hf⟩ := h3; obtain ⟨a, len, cap, l, e, hl, _, hb⟩ := trod_bytesN hf; cases e; exact ⟨l, hl, hb⟩)
  subst hl3
  obtain ⟨a4, rfl, rfl, rfl, w4⟩ := open_int Tryd.underlying5 (hval 4 5 v4 rfl rfl) h4
  have hb4 : 0 ≤ a4 ∧ a4 ≤ 255 := bounds_u8 w4
  obtain ⟨b4, rfl⟩ : ∃ b : UInt8, a4 = (b.toNat : Int) := ⟨UInt8.ofNat a4.toNat, by rw [UInt8.toNat_ofNat']; omega⟩
  obtain ⟨sa5, sl5, sc5, rfl⟩ := okWide_slice Tryd.underlying36 (hval 5 36 v5 rfl rfl)
  obtain ⟨l5, hl5, hb5⟩ := (show ∃ l : List UInt8, l.length = sl5 ∧ BytesN W (fun _ => True) (.slice sa5 sl5 sc5) l by obtain ⟨fu, hf⟩ := h5; obtain ⟨a, len, cap, l, e, hl, _, hb⟩ := trod_bytesN hf; cases e; exact ⟨l, hl, hb⟩)
  subst hl5
  clear hA0 hval0
  simp only [List.append_nil] at hW'
  refine ((show Calls Tryd.prog 9 #[.int .u8 (b0.toNat : Int), .slice sa1 sl1 sc1, .int .u8 (b2.toNat : Int), .slice sa3 l3.length sc3, .int .u8 (b4.toNat : Int), .slice sa5 l5.length sc5] W (fun e w2 => e = .returned (.bool true) ∧ Below W.heap.size W w2) from by obtain ⟨a', c', e'⟩ := hb1.form; cases e'; exact JournalDurability_any hK b0.toNat b0.toNat_lt hb1 b2.toNat b2.toNat_lt hb3 b4.toNat b4.toNat_lt hb5)).mono fun e W' ⟨he, hg⟩ => ?_
  subst he
  exact ⟨_, rfl, law_post (by kernel_rfl) rfl rfl hW' rfl hg⟩

theorem over : Rows.journalDurabilityRow.holds Tryd.pinned (OpenSpec.ofChange Rows.journalDurabilitySpec) :=
  OpenClaim.holds_of_wide 9 Tryd.f9 rfl rfl rfl rfl rfl rfl rfl ⟨rfl, rfl, rfl, rfl, rfl⟩ rfl rfl rfl rfl rfl (by kernel_rfl) Tryd.func9 (by kernel_rfl)
    (of_decide_eq_true (by kernel_rfl)) (by unfold Func.isWrapper; first | (rw [if_pos (by decide +kernel)]; kernel_rfl) | (rw [if_neg (by decide +kernel)]; exact ⟨rfl, rfl⟩))
    (fun os started H enc _ => lifted os started H enc)

theorem proved : Rows.JournalDurabilityCardSaid :=
  Claim7.holds_tied_plain_at .later [] [.data] true (true, "ea7d0078d968d40aaaa44fb71485fd39388da40a1bd31b4ac429f2b104c4a405") false
    over (fun _ h => by cases h) (by kernel_rfl) (fun _ h => by cases h) journalDurability_row_tie rfl ⟨rfl, rfl⟩ (by kernel_rfl) rfl
    (fun f fn hf hfn => by
      obtain rfl : f = 9 := Option.some.inj ((show Tryd.prog.funcNamed "bulletin/bulletinlaw24.JournalDurability" = some 9 by kernel_rfl).symm.trans hf) |>.symm
      obtain rfl : fn = Tryd.f9 := (Option.some.inj (Tryd.func9.symm.trans hfn)).symm
      exact ⟨by kernel_rfl, fun j t ht => by
        rw [Tryd.params9] at ht
        have hm : t ∈ [5, 43, 5, 36, 5, 36] := by simpa using Array.mem_of_getElem? ht
        have hall : ([5, 43, 5, 36, 5, 36].all fun u => !Tryd.prog.wantsStandIn u) = true := by kernel_rfl
        exact (show Tryd.prog.wantsStandIn t = false by simpa using List.all_eq_true.1 hall t hm)⟩)
    (by kernel_rfl)
#print axioms proved
end Go.Proofs.YtplclpileejemaaDoor.journalDurability
