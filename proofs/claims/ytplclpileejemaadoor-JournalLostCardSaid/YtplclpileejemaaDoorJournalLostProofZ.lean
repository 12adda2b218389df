/- JournalLost: for every argument the law returns true, and the arguments read as they did; the card. -/
import Derived.Test.YtplclpileejemaaDoorRows
import Derived.Test.YtplclpileejemaaDoorTie
import Derived.Test.YtplclpileejemaaDoorCards
import Derived.WalkKit
import Derived.ProofKit
import Derived.OpenShut
import Derived.LaidMore
import Derived.Stop.Joined
import Derived.SevenTiedAt
import Derived.Test.YtplclpileejemaaDoorJB17
import Derived.Test.YtplclpileejemaaDoorJ35Z
import Derived.Test.YtplclpileejemaaDoorJArgs2Z
namespace Go.Proofs.YtplclpileejemaaDoor.journalLost
open Go.ChangeShapes Go.WideShapes Go.ChangeAt Go.RowKit
set_option linter.unusedVariables false

set_option maxRecDepth 100000 in
theorem lifted (os : Os) (started : os.Started) (H : Type) (enc : TypeId × Value → H) :
    ReturnsInHanded {} Tryd.checked os 8 .any (fun w args => (Rows.journalLostSpec.pre enc Tryd.prog Tryd.f8 [] false w args ∧ laidMetH Tryd.prog laidList w) ∧ sizedMet enc Tryd.prog Tryd.f8 (OpenSpec.ofChange Rows.journalLostSpec) false w args)
      (Rows.journalLostSpec.post enc Tryd.prog Tryd.f8 false true false false) := by
  refine returnsInHanded_of_change_and (C := Tryd.checked) (X := fun w _ => laidMetH Tryd.prog laidList w) (fun _ _ _ hh h => h.of_heap hh) own started (by kernel_rfl) Tryd.func8
    (ChangeSpec.witness_shaped (enc := enc) (C := Tryd.checked) (os := os) (X := fun w _ => laidMetH Tryd.prog laidList w) false (World.doorLaid Tryd.prog 400 os) #[.int .u8 0, .slice none 0 0, .slice none 0 0, .slice none 0 0, .slice none 0 0] 8 rfl (World.shaped_of_RefB (by kernel_rfl) (by kernel_rfl)) (by kernel_rfl) (by kernel_rfl) (by kernel_rfl) (door_met os _)) ?_
  intro W base args ds gs before hval0 hW _ hsz hL _
  have hK : KAt W := kat_of_laid hL
  have hval : ∀ (j : Nat) t v, Tryd.f8.params[j]? = some t → args[j]? = some v → Value.okWide Tryd.prog W .any base t v := hval0
  have hW' := hW
  obtain ⟨p, q, hA0, hV, rfl, hfz, hnd⟩ := hW
  have hA : DataW.TrodAll enc Tryd.prog W 0 (fun _ => true) true Tryd.f8.params.toList args.toList ds p := hA0
  rw [Tryd.params8] at hA hval
  obtain ⟨v0, vs0, d0, ds0, p0, q0, hargs, rfl, rfl, h0, r0⟩ := trodAll_cons hA
  obtain ⟨v1, vs1, d1, ds1, p1, q1, rfl, rfl, rfl, h1, r1⟩ := trodAll_cons r0
  obtain ⟨v2, vs2, d2, ds2, p2, q2, rfl, rfl, rfl, h2, r2⟩ := trodAll_cons r1
  obtain ⟨v3, vs3, d3, ds3, p3, q3, rfl, rfl, rfl, h3, r3⟩ := trodAll_cons r2
  obtain ⟨v4, vs4, d4, ds4, p4, q4, rfl, rfl, rfl, h4, r4⟩ := trodAll_cons r3
  obtain ⟨rfl, rfl, rfl⟩ := trodAll_nil r4
  obtain rfl : args = #[v0, v1, v2, v3, v4] := by cases args; simp_all
  obtain ⟨rfl, rfl⟩ := trodVars_none hV
  obtain ⟨a0, rfl, rfl, rfl, w0⟩ := open_int Tryd.underlying5 (hval 0 5 v0 rfl rfl) h0
  have hb0 : 0 ≤ a0 ∧ a0 ≤ 255 := bounds_u8 w0
  obtain ⟨b0, rfl⟩ : ∃ b : UInt8, a0 = (b.toNat : Int) := ⟨UInt8.ofNat a0.toNat, by rw [UInt8.toNat_ofNat']; omega⟩
  obtain ⟨sa1, sl1, sc1, rfl⟩ := okWide_slice Tryd.underlying43 (hval 1 43 v1 rfl rfl)
  obtain ⟨L1, hb1⟩ := (show ∃ L : List JOp, JOpsAt W (.slice sa1 sl1 sc1) L by obtain ⟨fu, hf⟩ := h1; exact trod_ops hf (fits_each hsz (j := 1) (by rw [Tryd.params8]; rfl) rfl))
  obtain ⟨sa2, sl2, sc2, rfl⟩ := okWide_slice Tryd.underlying36 (hval 2 36 v2 rfl rfl)
  obtain ⟨l2, hl2, hb2⟩ := (show ∃ l : List UInt8, l.length = sl2 ∧ BytesN W (fun _ => True) (.slice sa2 sl2 sc2) l by obtain ⟨fu, hf⟩ := h2; obtain ⟨a, len, cap, l, e, hl, _, hb⟩ := trod_bytesN hf; cases e; exact ⟨l, hl, hb⟩)
  subst hl2
  obtain ⟨sa3, sl3, sc3, rfl⟩ := okWide_slice Tryd.underlying43 (hval 3 43 v3 rfl rfl)
  obtain ⟨L3, hb3⟩ := (show ∃ L : List JOp, JOpsAt W (.slice sa3 sl3 sc3) L by obtain ⟨fu, hf⟩ := h3; exact trod_ops hf (fits_each hsz (j := 3) (by rw [Tryd.params8]; rfl) rfl))
  obtain ⟨sa4, sl4, sc4, rfl⟩ := okWide_slice Tryd.underlying36 (hval 4 36 v4 rfl rfl)
  obtain ⟨l4, hl4, hb4⟩ := (show ∃ l : List UInt8, l.length = sl4 ∧ BytesN W (fun _ => True) (.slice sa4 sl4 sc4) l by obtain ⟨fu, hf⟩ := h4; obtain ⟨a, len, cap, l, e, hl, _, hb⟩ := trod_bytesN hf; cases e; exact ⟨l, hl, hb⟩)
  subst hl4
  clear hA0 hval0
  simp only [List.append_nil] at hW'
  refine ((show Calls Tryd.prog 8 #[.int .u8 (b0.toNat : Int), .slice sa1 sl1 sc1, .slice sa2 l2.length sc2, .slice sa3 sl3 sc3, .slice sa4 l4.length sc4] W (fun e w2 => e = .returned (.bool true) ∧ Below W.heap.size W w2) from by obtain ⟨a', c', e'⟩ := hb1.form; cases e'; obtain ⟨a', c', e'⟩ := hb3.form; cases e'; exact JournalLost_any hK b0.toNat b0.toNat_lt hb1 hb2 hb3 hb4)).mono fun e W' ⟨he, hg⟩ => ?_
  subst he
  exact ⟨_, rfl, law_post (by kernel_rfl) rfl rfl hW' rfl hg⟩

theorem over : Rows.journalLostRow.holds Tryd.pinned (OpenSpec.ofChange Rows.journalLostSpec) :=
  OpenClaim.holds_of_wide 8 Tryd.f8 rfl rfl rfl rfl rfl rfl rfl ⟨rfl, rfl, rfl, rfl, rfl⟩ rfl rfl rfl rfl rfl (by kernel_rfl) Tryd.func8 (by kernel_rfl)
    (of_decide_eq_true (by kernel_rfl)) (by unfold Func.isWrapper; first | (rw [if_pos (by decide +kernel)]; kernel_rfl) | (rw [if_neg (by decide +kernel)]; exact ⟨rfl, rfl⟩))
    (fun os started H enc _ => lifted os started H enc)

theorem proved : Rows.JournalLostCardSaid :=
  Claim7.holds_tied_plain_at .later [] [.data] true (true, "ea7d0078d968d40aaaa44fb71485fd39388da40a1bd31b4ac429f2b104c4a405") false
    over (fun _ h => by cases h) (by kernel_rfl) (fun _ h => by cases h) journalLost_row_tie rfl ⟨rfl, rfl⟩ (by kernel_rfl) rfl
    (fun f fn hf hfn => by
      obtain rfl : f = 8 := Option.some.inj ((show Tryd.prog.funcNamed "bulletin/bulletinlaw24.JournalLost" = some 8 by kernel_rfl).symm.trans hf) |>.symm
      obtain rfl : fn = Tryd.f8 := (Option.some.inj (Tryd.func8.symm.trans hfn)).symm
      exact ⟨by kernel_rfl, fun j t ht => by
        rw [Tryd.params8] at ht
        have hm : t ∈ [5, 43, 36, 43, 36] := by simpa using Array.mem_of_getElem? ht
        have hall : ([5, 43, 36, 43, 36].all fun u => !Tryd.prog.wantsStandIn u) = true := by kernel_rfl
        exact (show Tryd.prog.wantsStandIn t = false by simpa using List.all_eq_true.1 hall t hm)⟩)
    (by kernel_rfl)
#print axioms proved
end Go.Proofs.YtplclpileejemaaDoor.journalLost
