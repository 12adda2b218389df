/- RecordEquals: for every argument the law returns true, and the arguments read as they did; the card. -/
import Derived.Test.YtloaenknhkfaeaaDoorRows
import Derived.Test.YtloaenknhkfaeaaDoorTie
import Derived.Test.YtloaenknhkfaeaaDoorCards
import Derived.WalkKit
import Derived.ProofKit
import Derived.OpenShut
import Derived.LaidMore
import Derived.Stop.Joined
import Derived.SevenTiedAt
import Derived.Test.YtloaenknhkfaeaaDoorRecArgs2
import Derived.Test.YtloaenknhkfaeaaDoorRow
import Derived.Test.YtloaenknhkfaeaaDoorRec37
namespace Go.Proofs.YtloaenknhkfaeaaDoor.recordEquals
open Go.ChangeShapes Go.WideShapes Go.ChangeAt Go.RowKit
set_option linter.unusedVariables false

set_option maxRecDepth 100000 in
theorem lifted (os : Os) (started : os.Started) (H : Type) (enc : TypeId × Value → H) :
    ReturnsInHanded {} Tryd.checked os 13 .any (fun w args => (Rows.recordEqualsSpec.pre enc Tryd.prog Tryd.f13 [] false w args ∧ laidMetH Tryd.prog laidList w) ∧ sizedMet enc Tryd.prog Tryd.f13 (OpenSpec.ofChange Rows.recordEqualsSpec) false w args)
      (Rows.recordEqualsSpec.post enc Tryd.prog Tryd.f13 false true false false) := by
  refine returnsInHanded_of_change_and (C := Tryd.checked) (X := fun w _ => laidMetH Tryd.prog laidList w) (fun _ _ _ hh h => h.of_heap hh) own started (by kernel_rfl) Tryd.func13
    (ChangeSpec.witness_shaped (enc := enc) (C := Tryd.checked) (os := os) (X := fun w _ => laidMetH Tryd.prog laidList w) false (World.doorLaid Tryd.prog 400 os) #[.agg #[.int .i64 0, .int .i64 0, .int .i64 0, .slice none 0 0], .agg #[.int .i64 0, .int .i64 0, .int .i64 0, .slice none 0 0], .int .u8 0] 8 rfl (World.shaped_of_RefB (by kernel_rfl) (by kernel_rfl)) (by kernel_rfl) (by kernel_rfl) (by kernel_rfl) (door_met os _)) ?_
  intro W base args ds gs before hval0 hW _ hsz hL _
  have hK : KAt W := kat_of_laid hL
  have hval : ∀ (j : Nat) t v, Tryd.f13.params[j]? = some t → args[j]? = some v → Value.okWide Tryd.prog W .any base t v := hval0
  have hW' := hW
  obtain ⟨p, q, hA0, hV, rfl, hfz, hnd⟩ := hW
  have hA : DataW.TrodAll enc Tryd.prog W 0 (fun _ => true) true Tryd.f13.params.toList args.toList ds p := hA0
  rw [Tryd.params13] at hA hval
  obtain ⟨v0, vs0, d0, ds0, p0, q0, hargs, rfl, rfl, h0, r0⟩ := trodAll_cons hA
  obtain ⟨v1, vs1, d1, ds1, p1, q1, rfl, rfl, rfl, h1, r1⟩ := trodAll_cons r0
  obtain ⟨v2, vs2, d2, ds2, p2, q2, rfl, rfl, rfl, h2, r2⟩ := trodAll_cons r1
  obtain ⟨rfl, rfl, rfl⟩ := trodAll_nil r2
  obtain rfl : args = #[v0, v1, v2] := by cases args; simp_all
  obtain ⟨rfl, rfl⟩ := trodVars_none hV
  obtain ⟨cs0, rfl, hsz0⟩ := okWide_struct Tryd.underlying49 (hval 0 49 v0 rfl rfl)
  rw [cellsOf_Record] at hsz0
  obtain ⟨k0, g0, n0, l0, sa0, sc0, hcs0, hm0, hb0⟩ := (show ∃ (k g n : Int) (l : List UInt8) (a : Option Addr) (cap : Nat), cs0.toList = [.int .i64 k, .int .i64 g, .int .i64 n, .slice a l.length cap] ∧ l.length ≤ maxLen ∧ BytesN W (fun _ => True) (.slice a l.length cap) l by obtain ⟨fu, hf⟩ := h0; exact trod_record hf (by simpa [Value.cells] using hsz0))
  obtain rfl : cs0 = #[.int .i64 k0, .int .i64 g0, .int .i64 n0, .slice sa0 l0.length sc0] := Array.ext' (by rw [hcs0])
  unfold maxLen at hm0
  obtain ⟨cs1, rfl, hsz1⟩ := okWide_struct Tryd.underlying49 (hval 1 49 v1 rfl rfl)
  rw [cellsOf_Record] at hsz1
  obtain ⟨k1, g1, n1, l1, sa1, sc1, hcs1, hm1, hb1⟩ := (show ∃ (k g n : Int) (l : List UInt8) (a : Option Addr) (cap : Nat), cs1.toList = [.int .i64 k, .int .i64 g, .int .i64 n, .slice a l.length cap] ∧ l.length ≤ maxLen ∧ BytesN W (fun _ => True) (.slice a l.length cap) l by obtain ⟨fu, hf⟩ := h1; exact trod_record hf (by simpa [Value.cells] using hsz1))
  obtain rfl : cs1 = #[.int .i64 k1, .int .i64 g1, .int .i64 n1, .slice sa1 l1.length sc1] := Array.ext' (by rw [hcs1])
  unfold maxLen at hm1
  obtain ⟨a2, rfl, rfl, rfl, w2⟩ := open_int Tryd.underlying5 (hval 2 5 v2 rfl rfl) h2
  have hb2 : 0 ≤ a2 ∧ a2 ≤ 255 := bounds_u8 w2
  obtain ⟨b2, rfl⟩ : ∃ b : UInt8, a2 = (b.toNat : Int) := ⟨UInt8.ofNat a2.toNat, by rw [UInt8.toNat_ofNat']; omega⟩
  clear hA0 hval0
  simp only [List.append_nil] at hW'
  refine (RecordEquals_any k0 g0 n0 sa0 l0.length sc0 l0 hb0 rfl (Nat.le_trans hm0 (by decide)) k1 g1 n1 sa1 l1.length sc1 l1 hb1 rfl (Nat.le_trans hm1 (by decide)) b2 hK).mono fun e W' ⟨he, hg⟩ => ?_
  subst he
  exact ⟨_, rfl, law_post (by kernel_rfl) rfl rfl hW' rfl hg⟩

theorem over : Rows.recordEqualsRow.holds Tryd.pinned (OpenSpec.ofChange Rows.recordEqualsSpec) :=
  OpenClaim.holds_of_wide 13 Tryd.f13 rfl rfl rfl rfl rfl rfl rfl ⟨rfl, rfl, rfl, rfl, rfl⟩ rfl rfl rfl rfl rfl (by kernel_rfl) Tryd.func13 (by kernel_rfl)
    (of_decide_eq_true (by kernel_rfl)) (by unfold Func.isWrapper; first | (rw [if_pos (by decide +kernel)]; kernel_rfl) | (rw [if_neg (by decide +kernel)]; exact ⟨rfl, rfl⟩))
    (fun os started H enc _ => lifted os started H enc)

theorem proved : Rows.RecordEqualsCardSaid :=
  Claim7.holds_tied_plain_at .later [] [.data] true (true, "b24cf42930bbad85d32969fbbcca22761499afe622429b085c3fad1937a1f37d") false
    over (fun _ h => by cases h) (by kernel_rfl) (fun _ h => by cases h) recordEquals_row_tie rfl ⟨rfl, rfl⟩ (by kernel_rfl) rfl
    (fun f fn hf hfn => by
      obtain rfl : f = 13 := Option.some.inj ((show Tryd.prog.funcNamed "bulletin/bulletinlaw23.RecordEquals" = some 13 by kernel_rfl).symm.trans hf) |>.symm
      obtain rfl : fn = Tryd.f13 := (Option.some.inj (Tryd.func13.symm.trans hfn)).symm
      exact ⟨by kernel_rfl, fun j t ht => by
        rw [Tryd.params13] at ht
        have hm : t ∈ [49, 49, 5] := by simpa using Array.mem_of_getElem? ht
        have hall : ([49, 49, 5].all fun u => !Tryd.prog.wantsStandIn u) = true := by kernel_rfl
        exact (show Tryd.prog.wantsStandIn t = false by simpa using List.all_eq_true.1 hall t hm)⟩)
    (by kernel_rfl)
#print axioms proved
end Go.Proofs.YtloaenknhkfaeaaDoor.recordEquals
