/- slices.Sort on no numbers. -/
import Derived.Test.YtkklbmnbjmicnaaSort2
import Derived.Shelf.Slices.In.SortNone
namespace Go.Proofs.Ytkklbmnbjmicnaa
open Go.RowKit Go.Shelf Go.Sort
set_option linter.unusedVariables false
set_option linter.unusedSimpArgs false

theorem sort_none (p : Option Addr) (cap : Nat) (w : World) : Calls Try.prog 60 #[.slice p 0 cap] w fun e w' => e = .returned (.tuple #[]) ∧ w' = w :=
  Any.slices_Sort_int_none lays189 p cap w

end Go.Proofs.Ytkklbmnbjmicnaa
