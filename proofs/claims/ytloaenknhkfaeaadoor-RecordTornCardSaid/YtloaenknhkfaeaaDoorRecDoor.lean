/- What the laid table gives the walks; the door's own heap meets the condition. -/
import Derived.Test.YtloaenknhkfaeaaDoorRows
import Derived.Test.YtloaenknhkfaeaaDoorSha2
import Derived.Test.YtloaenknhkfaeaaDoorRow
import Derived.WalkKit
import Derived.ProofKit
import Derived.LaidMore
import Derived.OpenShut
import Derived.Stop.Joined
import Derived.Lib.LaidTab
namespace Go.Proofs.YtloaenknhkfaeaaDoor
open Go.ChangeShapes Go.WideShapes Go.ChangeAt Go.RowKit
set_option linter.unusedVariables false
set_option linter.unusedSimpArgs false

def laidList : List (String × DataW Unit) := [("bulletin/sha256.constants", Rows.laid_bulletin_sha256_constants)]
set_option maxRecDepth 100000 in
theorem door_met (os : Os) (args : Array Value) : laidMetH Tryd.prog laidList ((World.doorLaid Tryd.prog 400 os).forCall (fun _ _ => 0) ⟨#[], args, []⟩).memory :=
  laidMetH_of_parts3 (fuel := 8) (laidMet_of_run' 8 (by kernel_rfl) (by kernel_rfl)) (by kernel_rfl) (by kernel_rfl)

theorem gK : Tryd.prog.globalNamed "bulletin/sha256.constants" = some 0 := by kernel_rfl
theorem tK : (Tryd.prog.globals[0]?).map (·.type) = some 112 := by kernel_rfl
theorem cU32 : Tryd.prog.cellsOf 110 = 1 := by kernel_rfl
theorem cK : Tryd.prog.cellsOf 112 = 64 := by kernel_rfl

set_option maxRecDepth 100000 in
theorem kat_of_laid {W : World} (h : laidMetH Tryd.prog laidList W) : KAt W := by
  rw [MakeChecks.laidMetH_plain _ _ _ (by kernel_rfl)] at h
  have e : laidList = [("bulletin/sha256.constants", Lib.tabData .u32 (kTab.map wN))] := by kernel_rfl
  rw [e] at h
  have ht := Lib.tabIs_of_head gK tK Tryd.underlying112 Tryd.underlying110 cU32 cK h
  have hl : kTab.length = 64 := by decide
  have hc : ∀ j, j < 64 → W.cell? ⟨0, j, none⟩ = some (.int .u32 (wN (kTab.getD j 0))) := fun j hj => by
    rw [ht.cell gK j (by simpa [hl] using hj)]
    rw [List.getD_eq_getElem?_getD, List.getElem?_map, List.getElem?_eq_getElem (by omega), List.getD_eq_getElem?_getD, List.getElem?_eq_getElem (by omega)]
    rfl
  exact ⟨World.block_lt_of_cell? W _ (hc 0 (by decide)), hc⟩
end Go.Proofs.YtloaenknhkfaeaaDoor
