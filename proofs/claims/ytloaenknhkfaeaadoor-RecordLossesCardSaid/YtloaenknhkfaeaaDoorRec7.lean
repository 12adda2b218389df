/- Records: bytes.Equal, bytes.Clone. -/
import Derived.Test.YtloaenknhkfaeaaDoorRec6
import Derived.Outline
namespace Go.Proofs.YtloaenknhkfaeaaDoor
open Go.RowKit
set_option linter.unusedVariables false
set_option linter.unusedSimpArgs false

set_option maxHeartbeats 1000000 in
theorem bytesEqual_any {w : World} {F G : Nat → Prop} {v u : Value} {l m : List UInt8} (hv : BytesAt w F v l) (hu : BytesAt w G u m) :
    Calls Tryd.prog 51 #[v, u] w fun e w' => e = .returned (.bool (l == m)) ∧ w = w' := by
  have h1 := hv.str
  have h2 := hu.str
  clear hv hu
  go_enter Tryd.func51, Tryd.ntmps51
  go_wp2_with fail
  go_ret
  exact ⟨rfl, rfl⟩

set_option maxHeartbeats 1000000 in
theorem bytesClone_any {w : World} {F : Nat → Prop} {l : List UInt8} {g off n cap : Nat} (hv : BytesAt w F (.slice (some ⟨g, off, none⟩) n cap) l) (hl : l.length ≤ 1000000000) :
    Calls Tryd.prog 53 #[.slice (some ⟨g, off, none⟩) n cap] w fun e w' => ∃ v, e = .returned v ∧ w'.ownsRow w.heap.size 5 1 v l.length (bvs l) ∧ Below w.heap.size w w' := by
  have hnil := fun (w : World) => Lib.run_eql_slice_nil (P := Tryd.prog) w 22 5 (some ⟨g, off, none⟩) n cap 0 0 Tryd.underlying22
  have hba : Below w.heap.size w (w.alloc (.cells #[] 5)) := (Below.refl _ _).alloc (Nat.le_refl _) _
  have hbv := hv.below hba
  have ho := own_zero (w := w) (Nat.le_refl _) 5
  have hbs : w.heap.size ≤ (w.alloc (.cells #[] 5)).heap.size := hba.size
  have hnc : ∀ k c, Value.slice (some ⟨g, off, none⟩) n cap = .slice none k c → c = 0 := by intro k c e; cases e
  have HBA := Lib.hid hba
  have HBV := Lib.hid hbv
  have HO := Lib.hid ho
  have HBS := Lib.hid hbs
  have HNC := Lib.hid hnc
  have HL := Lib.hid hl
  clear hv hba hbv ho hbs hnc hl
  go_enter Tryd.func53, Tryd.ntmps53
  go_wp2_with (at_builtin; refine wpList_appBytes (xs := []) rfl (.tmp 5) (.tmp 6) rfl rfl HO.out rfl HBV.out HNC.out ?hn HBS.out ?_)
  case hn => have := HL.out; omega
  intro a' cap' w3 hO3 hg3
  have hB3 : Below w.heap.size w w3 := HBA.out.grown hg3 HBS.out (fun j hj => by cases hj; exact Nat.le_refl _)
  have HO3 := Lib.hid hO3
  have HB3 := Lib.hid hB3
  clear hO3 hg3 hB3
  go_wp2_with fail
  go_ret
  exact ⟨_, rfl, HO3.out, HB3.out⟩

end Go.Proofs.YtloaenknhkfaeaaDoor
