/- RecordTorn: for every argument the law returns true, and the arguments read as they did; the card. -/
import Derived.Test.YtloaenknhkfaeaaDoorRows
import Derived.Test.YtloaenknhkfaeaaDoorTie
import Derived.Test.YtloaenknhkfaeaaDoorCards
import Derived.WalkKit
import Derived.ProofKit
import Derived.OpenShut
import Derived.LaidMore
import Derived.Stop.Joined
import Derived.SevenTiedAt
import Derived.Test.YtloaenknhkfaeaaDoorRecDoor
import Derived.Test.YtloaenknhkfaeaaDoorRecArgs2
import Derived.Test.YtloaenknhkfaeaaDoorRow
import Derived.Test.YtloaenknhkfaeaaDoorRec29
namespace Go.Proofs.YtloaenknhkfaeaaDoor.recordTorn
open Go.ChangeShapes Go.WideShapes Go.ChangeAt Go.RowKit
set_option linter.unusedVariables false

set_option maxRecDepth 100000 in
theorem lifted (os : Os) (started : os.Started) (H : Type) (enc : TypeId × Value → H) :
    ReturnsInHanded {} Tryd.checked os 6 .any (fun w args => (Rows.recordTornSpec.pre enc Tryd.prog Tryd.f6 [] false w args ∧ laidMetH Tryd.prog laidList w) ∧ sizedMet enc Tryd.prog Tryd.f6 (OpenSpec.ofChange Rows.recordTornSpec) false w args)
      (Rows.recordTornSpec.post enc Tryd.prog Tryd.f6 false true false false) := by
  refine returnsInHanded_of_change_and (C := Tryd.checked) (X := fun w _ => laidMetH Tryd.prog laidList w) (fun _ _ _ hh h => h.of_heap hh) own started (by kernel_rfl) Tryd.func6
    (ChangeSpec.witness_shaped (enc := enc) (C := Tryd.checked) (os := os) (X := fun w _ => laidMetH Tryd.prog laidList w) false (World.doorLaid Tryd.prog 400 os) #[.agg #[.int .i64 0, .int .i64 0, .int .i64 0, .int .i64 0, .int .i64 0, .slice none 0 0], .agg #[.int .i64 0, .int .i64 0, .int .i64 0, .int .i64 0, .int .i64 0, .slice none 0 0], .int .u8 0] 8 rfl (World.shaped_of_RefB (by kernel_rfl) (by kernel_rfl)) (by kernel_rfl) (by kernel_rfl) (by kernel_rfl) (door_met os _)) ?_
  intro W base args ds gs before hval0 hW _ hsz hL _
  have hK : KAt W := kat_of_laid hL
  have hval : ∀ (j : Nat) t v, Tryd.f6.params[j]? = some t → args[j]? = some v → Value.okWide Tryd.prog W .any base t v := hval0
  have hW' := hW
  obtain ⟨p, q, hA0, hV, rfl, hfz, hnd⟩ := hW
  have hA : DataW.TrodAll enc Tryd.prog W 0 (fun _ => true) true Tryd.f6.params.toList args.toList ds p := hA0
  rw [Tryd.params6] at hA hval
  obtain ⟨v0, vs0, d0, ds0, p0, q0, hargs, rfl, rfl, h0, r0⟩ := trodAll_cons hA
  obtain ⟨v1, vs1, d1, ds1, p1, q1, rfl, rfl, rfl, h1, r1⟩ := trodAll_cons r0
  obtain ⟨v2, vs2, d2, ds2, p2, q2, rfl, rfl, rfl, h2, r2⟩ := trodAll_cons r1
  obtain ⟨rfl, rfl, rfl⟩ := trodAll_nil r2
  obtain rfl : args = #[v0, v1, v2] := by cases args; simp_all
  obtain ⟨rfl, rfl⟩ := trodVars_none hV
  obtain ⟨cs0, rfl, hsz0⟩ := okWide_struct Tryd.underlying24 (hval 0 24 v0 rfl rfl)
  rw [cellsOf_Part] at hsz0
  obtain ⟨P0, sa0, sc0, hcs0, hm0, hb0⟩ := (show ∃ (p : PartD) (a : Option Addr) (cap : Nat), cs0.toList = [.int .i64 p.kind, .int .i64 p.gen, .int .i64 p.num, .int .i64 p.idx, .int .i64 p.cnt, .slice a p.bytes.length cap] ∧ p.bytes.length ≤ maxLen ∧ BytesN W (fun _ => True) (.slice a p.bytes.length cap) p.bytes by obtain ⟨fu, hf⟩ := h0; exact trod_part hf (by simpa [Value.cells] using hsz0))
  obtain rfl : cs0 = #[.int .i64 P0.kind, .int .i64 P0.gen, .int .i64 P0.num, .int .i64 P0.idx, .int .i64 P0.cnt, .slice sa0 P0.bytes.length sc0] := Array.ext' (by rw [hcs0])
  unfold maxLen at hm0
  obtain ⟨cs1, rfl, hsz1⟩ := okWide_struct Tryd.underlying24 (hval 1 24 v1 rfl rfl)
  rw [cellsOf_Part] at hsz1
  obtain ⟨P1, sa1, sc1, hcs1, hm1, hb1⟩ := (show ∃ (p : PartD) (a : Option Addr) (cap : Nat), cs1.toList = [.int .i64 p.kind, .int .i64 p.gen, .int .i64 p.num, .int .i64 p.idx, .int .i64 p.cnt, .slice a p.bytes.length cap] ∧ p.bytes.length ≤ maxLen ∧ BytesN W (fun _ => True) (.slice a p.bytes.length cap) p.bytes by obtain ⟨fu, hf⟩ := h1; exact trod_part hf (by simpa [Value.cells] using hsz1))
  obtain rfl : cs1 = #[.int .i64 P1.kind, .int .i64 P1.gen, .int .i64 P1.num, .int .i64 P1.idx, .int .i64 P1.cnt, .slice sa1 P1.bytes.length sc1] := Array.ext' (by rw [hcs1])
  unfold maxLen at hm1
  obtain ⟨a2, rfl, rfl, rfl, w2⟩ := open_int Tryd.underlying5 (hval 2 5 v2 rfl rfl) h2
  have hb2 : 0 ≤ a2 ∧ a2 ≤ 255 := bounds_u8 w2
  obtain ⟨b2, rfl⟩ : ∃ b : UInt8, a2 = (b.toNat : Int) := ⟨UInt8.ofNat a2.toNat, by rw [UInt8.toNat_ofNat']; omega⟩
  clear hA0 hval0
  simp only [List.append_nil] at hW'
  refine (RecordTorn_any _ _ _ _ _ sa0 P0.bytes.length sc0 P0.bytes hb0 (Nat.le_trans hm0 (by decide)) _ _ _ _ _ sa1 P1.bytes.length sc1 P1.bytes hb1 (Nat.le_trans hm1 (by decide)) b2 hK).mono fun e W' ⟨he, hg⟩ => ?_
  subst he
  exact ⟨_, rfl, law_post (by kernel_rfl) rfl rfl hW' rfl hg⟩

theorem over : Rows.recordTornRow.holds Tryd.pinned (OpenSpec.ofChange Rows.recordTornSpec) :=
  OpenClaim.holds_of_wide 6 Tryd.f6 rfl rfl rfl rfl rfl rfl rfl ⟨rfl, rfl, rfl, rfl, rfl⟩ rfl rfl rfl rfl rfl (by kernel_rfl) Tryd.func6 (by kernel_rfl)
    (of_decide_eq_true (by kernel_rfl)) (by unfold Func.isWrapper; first | (rw [if_pos (by decide +kernel)]; kernel_rfl) | (rw [if_neg (by decide +kernel)]; exact ⟨rfl, rfl⟩))
    (fun os started H enc _ => lifted os started H enc)

theorem proved : Rows.RecordTornCardSaid :=
  Claim7.holds_tied_plain_at .later [] [.data] true (true, "b24cf42930bbad85d32969fbbcca22761499afe622429b085c3fad1937a1f37d") false
    over (fun _ h => by cases h) (by kernel_rfl) (fun _ h => by cases h) recordTorn_row_tie rfl ⟨rfl, rfl⟩ (by kernel_rfl) rfl
    (fun f fn hf hfn => by
      obtain rfl : f = 6 := Option.some.inj ((show Tryd.prog.funcNamed "bulletin/bulletinlaw23.RecordTorn" = some 6 by kernel_rfl).symm.trans hf) |>.symm
      obtain rfl : fn = Tryd.f6 := (Option.some.inj (Tryd.func6.symm.trans hfn)).symm
      exact ⟨by kernel_rfl, fun j t ht => by
        rw [Tryd.params6] at ht
        have hm : t ∈ [24, 24, 5] := by simpa using Array.mem_of_getElem? ht
        have hall : ([24, 24, 5].all fun u => !Tryd.prog.wantsStandIn u) = true := by kernel_rfl
        exact (show Tryd.prog.wantsStandIn t = false by simpa using List.all_eq_true.1 hall t hm)⟩)
    (by kernel_rfl)
#print axioms proved
end Go.Proofs.YtloaenknhkfaeaaDoor.recordTorn
