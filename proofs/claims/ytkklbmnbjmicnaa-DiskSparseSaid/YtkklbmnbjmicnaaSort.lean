/- slices.Sort over this program, by the shelf's contract. -/
import Derived.Test.YtkklbmnbjmicnaaRef14
import Derived.Shelf.Sort.Plain
import Derived.Shelf.Lay
namespace Go.Proofs
set_option linter.unusedVariables false
set_option linter.unusedSimpArgs false
shelf_lay Lays.n189 Nm 189 at Try as Ytkklbmnbjmicnaa.lays189
end Go.Proofs
namespace Go.Proofs.Ytkklbmnbjmicnaa
open Go.RowKit Go.Shelf Go.Sort

theorem sort_any (blk off cap : Nat) (zs : List Int) (w : World) (hH : Holds (Value.int .i64) w blk off zs.toArray) (hblk : blk < w.heap.size) (hsz : zs.length < 4611686018427387904) :
    Calls Try.prog 60 #[.slice (some ⟨blk, off, none⟩) zs.length cap] w fun e w' =>
      e = .returned (.tuple #[]) ∧ ∃ n os, w' = grow (putRow (Value.int .i64) (Sort.ahead w n) blk off (zs.mergeSort fun x y => decide (x ≤ y)).toArray) os :=
  Any.slices_Sort_int lays189 blk off cap zs w hH hblk hsz

end Go.Proofs.Ytkklbmnbjmicnaa
