/- RecordParts: for every argument the law returns true, and the arguments read as they did; the card. -/
import Derived.Test.YtloaenknhkfaeaaDoorRows
import Derived.Test.YtloaenknhkfaeaaDoorTie
import Derived.Test.YtloaenknhkfaeaaDoorCards
import Derived.WalkKit
import Derived.ProofKit
import Derived.OpenShut
import Derived.LaidMore
import Derived.Stop.Joined
import Derived.SevenTiedAt
import Derived.Test.YtloaenknhkfaeaaDoorRecDoor
import Derived.Test.YtloaenknhkfaeaaDoorRecArgs2
import Derived.Test.YtloaenknhkfaeaaDoorRow
import Derived.Test.YtloaenknhkfaeaaDoorRec28
namespace Go.Proofs.YtloaenknhkfaeaaDoor.recordParts
open Go.ChangeShapes Go.WideShapes Go.ChangeAt Go.RowKit
set_option linter.unusedVariables false

set_option maxRecDepth 100000 in
theorem lifted (os : Os) (started : os.Started) (H : Type) (enc : TypeId × Value → H) :
    ReturnsInHanded {} Tryd.checked os 3 .any (fun w args => (Rows.recordPartsSpec.pre enc Tryd.prog Tryd.f3 [] false w args ∧ laidMetH Tryd.prog laidList w) ∧ sizedMet enc Tryd.prog Tryd.f3 (OpenSpec.ofChange Rows.recordPartsSpec) false w args)
      (Rows.recordPartsSpec.post enc Tryd.prog Tryd.f3 false true false false) := by
  refine returnsInHanded_of_change_and (C := Tryd.checked) (X := fun w _ => laidMetH Tryd.prog laidList w) (fun _ _ _ hh h => h.of_heap hh) own started (by kernel_rfl) Tryd.func3
    (ChangeSpec.witness_shaped (enc := enc) (C := Tryd.checked) (os := os) (X := fun w _ => laidMetH Tryd.prog laidList w) false (World.doorLaid Tryd.prog 400 os) #[.agg #[.int .i64 0, .int .i64 0, .int .i64 0, .int .i64 0, .int .i64 0, .slice none 0 0]] 8 rfl (World.shaped_of_RefB (by kernel_rfl) (by kernel_rfl)) (by kernel_rfl) (by kernel_rfl) (by kernel_rfl) (door_met os _)) ?_
  intro W base args ds gs before hval0 hW _ hsz hL _
  have hK : KAt W := kat_of_laid hL
  have hval : ∀ (j : Nat) t v, Tryd.f3.params[j]? = some t → args[j]? = some v → Value.okWide Tryd.prog W .any base t v := hval0
  have hW' := hW
  obtain ⟨p, q, hA0, hV, rfl, hfz, hnd⟩ := hW
  have hA : DataW.TrodAll enc Tryd.prog W 0 (fun _ => true) true Tryd.f3.params.toList args.toList ds p := hA0
  rw [Tryd.params3] at hA hval
  obtain ⟨v0, vs0, d0, ds0, p0, q0, hargs, rfl, rfl, h0, r0⟩ := trodAll_cons hA
  obtain ⟨rfl, rfl, rfl⟩ := trodAll_nil r0
  obtain rfl : args = #[v0] := by cases args; simp_all
  obtain ⟨rfl, rfl⟩ := trodVars_none hV
  obtain ⟨cs0, rfl, hsz0⟩ := okWide_struct Tryd.underlying24 (hval 0 24 v0 rfl rfl)
  rw [cellsOf_Part] at hsz0
  obtain ⟨P0, sa0, sc0, hcs0, hm0, hb0⟩ := (show ∃ (p : PartD) (a : Option Addr) (cap : Nat), cs0.toList = [.int .i64 p.kind, .int .i64 p.gen, .int .i64 p.num, .int .i64 p.idx, .int .i64 p.cnt, .slice a p.bytes.length cap] ∧ p.bytes.length ≤ maxLen ∧ BytesN W (fun _ => True) (.slice a p.bytes.length cap) p.bytes by obtain ⟨fu, hf⟩ := h0; exact trod_part hf (by simpa [Value.cells] using hsz0))
  obtain rfl : cs0 = #[.int .i64 P0.kind, .int .i64 P0.gen, .int .i64 P0.num, .int .i64 P0.idx, .int .i64 P0.cnt, .slice sa0 P0.bytes.length sc0] := Array.ext' (by rw [hcs0])
  unfold maxLen at hm0
  clear hA0 hval0
  simp only [List.append_nil] at hW'
  refine (RecordParts_any _ _ _ _ _ sa0 P0.bytes.length sc0 P0.bytes hb0 rfl (Nat.le_trans hm0 (by decide)) hK).mono fun e W' ⟨he, hg⟩ => ?_
  subst he
  exact ⟨_, rfl, law_post (by kernel_rfl) rfl rfl hW' rfl hg⟩

theorem over : Rows.recordPartsRow.holds Tryd.pinned (OpenSpec.ofChange Rows.recordPartsSpec) :=
  OpenClaim.holds_of_wide 3 Tryd.f3 rfl rfl rfl rfl rfl rfl rfl ⟨rfl, rfl, rfl, rfl, rfl⟩ rfl rfl rfl rfl rfl (by kernel_rfl) Tryd.func3 (by kernel_rfl)
    (of_decide_eq_true (by kernel_rfl)) (by unfold Func.isWrapper; first | (rw [if_pos (by decide +kernel)]; kernel_rfl) | (rw [if_neg (by decide +kernel)]; exact ⟨rfl, rfl⟩))
    (fun os started H enc _ => lifted os started H enc)

theorem proved : Rows.RecordPartsCardSaid :=
  Claim7.holds_tied_plain_at .later [] [.data] true (true, "b24cf42930bbad85d32969fbbcca22761499afe622429b085c3fad1937a1f37d") false
    over (fun _ h => by cases h) (by kernel_rfl) (fun _ h => by cases h) recordParts_row_tie rfl ⟨rfl, rfl⟩ (by kernel_rfl) rfl
    (fun f fn hf hfn => by
      obtain rfl : f = 3 := Option.some.inj ((show Tryd.prog.funcNamed "bulletin/bulletinlaw23.RecordParts" = some 3 by kernel_rfl).symm.trans hf) |>.symm
      obtain rfl : fn = Tryd.f3 := (Option.some.inj (Tryd.func3.symm.trans hfn)).symm
      exact ⟨by kernel_rfl, fun j t ht => by
        rw [Tryd.params3] at ht
        have hm : t ∈ [24] := by simpa using Array.mem_of_getElem? ht
        have hall : ([24].all fun u => !Tryd.prog.wantsStandIn u) = true := by kernel_rfl
        exact (show Tryd.prog.wantsStandIn t = false by simpa using List.all_eq_true.1 hall t hm)⟩)
    (by kernel_rfl)
#print axioms proved
end Go.Proofs.YtloaenknhkfaeaaDoor.recordParts
