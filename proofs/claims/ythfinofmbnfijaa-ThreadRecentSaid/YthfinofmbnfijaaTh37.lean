/- The stable sort of up to nineteen numbers, by any closure. -/
import Derived.Test.YthfinofmbnfijaaTh31
import Derived.Shelf.SlSortCmp.Insertion1
import Derived.Shelf.SlSortCmp.Kit1
import Derived.Shelf.SlGeneric
import Derived.Ground.SlsfProg
namespace Go.Proofs
open Go.Shelf
set_option linter.unusedVariables false
set_option linter.unusedSimpArgs false
def Try.insInt_ren : Go.Shelf.Ren := ⟨fun | 20 => 79 | n => n, fun | 24 => 3 | 22 => 71 | 3 => 3 | 25 => 100 | 4 => 4 | 0 => 0 | n => n, fun | n => n⟩
theorem Try.insInt : Go.Proofs.SlLaysF.n20 Try.prog Try.insInt_ren := {
  mixed := by kernel_rfl
  f20 := ⟨Try.f79.name, by decide, Try.func79.trans (congrArg some (by kernel_rfl))⟩
  t0 := Try.underlying0
  a0 := Try.isAgg0
  z0 := Try.sizeOf0
  v0 := Try.zeroValue0
  t3 := Try.underlying3
  a3 := Try.isAgg3
  z3 := Try.sizeOf3
  v3 := Try.zeroValue3
  t4 := Try.underlying4
  a4 := Try.isAgg4
  z4 := Try.sizeOf4
  v4 := Try.zeroValue4
  t22 := Try.underlying71
  a22 := Try.isAgg71
  z22 := Try.sizeOf71
  v22 := Try.zeroValue71
  a24 := Try.isAgg3
  z24 := Try.sizeOf3
  t25 := Try.underlying100
  a25 := Try.isAgg100
  z25 := Try.sizeOf100
  v25 := Try.zeroValue100 }
def Try.insInt0_ren : Go.Shelf.Ren := ⟨fun | 20 => 79 | n => n, fun | 24 => 3 | 22 => 71 | 3 => 3 | 25 => 100 | 4 => 4 | 0 => 0 | n => n, fun | n => n⟩
theorem Try.insInt0 : Go.Proofs.SlLaysF0.n20 Try.prog Try.insInt0_ren := {
  mixed := by kernel_rfl
  f20 := ⟨Try.f79.name, by decide, Try.func79.trans (congrArg some (by kernel_rfl))⟩
  t0 := Try.underlying0
  a0 := Try.isAgg0
  z0 := Try.sizeOf0
  v0 := Try.zeroValue0
  t3 := Try.underlying3
  a3 := Try.isAgg3
  z3 := Try.sizeOf3
  v3 := Try.zeroValue3
  t4 := Try.underlying4
  a4 := Try.isAgg4
  z4 := Try.sizeOf4
  v4 := Try.zeroValue4
  t22 := Try.underlying71
  a22 := Try.isAgg71
  z22 := Try.sizeOf71
  v22 := Try.zeroValue71
  t25 := Try.underlying100
  a25 := Try.isAgg100
  z25 := Try.sizeOf100
  v25 := Try.zeroValue100 }
end Go.Proofs
namespace Go.Proofs.Ythfinofmbnfijaa
open Go.Shelf Go.RowKit Go.Lib Go.Sort
set_option linter.unusedVariables false
set_option linter.unusedSimpArgs false
set_option maxRecDepth 100000 in
set_option maxHeartbeats 2000000 in
theorem stable_of {w : World} {a : Option Addr} {cap N : Nat} {fv : Value} {Q : World → Prop} (hn : N < 20) (hcon : Calls Try.prog 79 #[.slice a N cap, .int .i64 0, .int .i64 (N : Int), fv] w fun e w' => e = .returned (.tuple #[]) ∧ Q w') :
    Calls Try.prog 65 #[.slice a N cap, .int .i64 (N : Int), fv] w fun e w' => e = .returned (.tuple #[]) ∧ Q w' := by
  have HC := Lib.hid hcon
  clear hcon
  have h20 : ¬ (20 : Int) ≤ (N : Int) := by omega
  have h21 : ¬ (20 : Int) < (N : Int) := by omega
  go_enter Try.func65, Try.ntmps65
  go_wp2_with fail
  refine wp_loop_rounds 1 ?_
  rw [rounds_succ]
  go_wp2_with fail
  refine HC.out.mono ?_
  rintro e1 w1 ⟨rfl, s1⟩
  have S1 := Lib.hid s1
  clear s1
  go_wp2_with fail
  refine wp_loop_rounds 1 ?_
  rw [rounds_succ]
  go_wp2_with fail
  go_end0
  exact ⟨rfl, S1.out⟩
set_option maxRecDepth 100000 in
set_option maxHeartbeats 2000000 in
theorem stableF_of {w : World} {a : Option Addr} {cap N : Nat} {fv : Value} {Q : World → Prop} (hn : N < 20) (hcon : Calls Try.prog 79 #[.slice a N cap, .int .i64 0, .int .i64 (N : Int), fv] w fun e w' => e = .returned (.tuple #[]) ∧ Q w') :
    Calls Try.prog 53 #[.slice a N cap, fv] w fun e w' => e = .returned (.tuple #[]) ∧ Q w' := by
  have HC := Lib.hid (stable_of hn hcon)
  clear hcon
  go_enter Try.func53, Try.ntmps53
  go_wp2_with fail
  refine HC.out.mono ?_
  rintro e1 w1 ⟨rfl, s1⟩
  have S1 := Lib.hid s1
  clear s1
  go_wp2_with fail
  go_end0
  exact ⟨rfl, S1.out⟩
theorem stable_few {α : Type} [Inhabited α] {enc : α → Value} {w : World} {blk cap : Nat} {d : Array α} (cf : α → α → Int) (g : Nat) (cb : Array Value) (eg : ∀ args w, (callFunc g args).run Try.prog w = .ok (.enter g args) w) (hcmp : CmpLays1 Try.prog g cb enc cf blk 0 d.size w) (R : Row1 enc w blk 0 d) (hn : d.size < 20) :
    Calls Try.prog 53 #[.slice (some ⟨blk, 0, none⟩) d.size cap, .func (.func g) #[] cb] w fun e w' => e = .returned (.tuple #[]) ∧ SW enc w blk 0 (Sort.insertionSort (ltOf cf) d 0 d.size) w' :=
  stableF_of hn (Any.insertionSortCmpFunc_s (P := Try.prog) Try.insInt enc cf g cb blk 0 cap 0 d.size d d w w eg hcmp R rfl (SW.start R.hH) (Nat.zero_le _) (Nat.le_refl _) (by omega))
theorem stable_none {w : World} {a : Option Addr} {cap : Nat} {fv : Value} :
    Calls Try.prog 53 #[.slice a 0 cap, fv] w fun e w' => e = .returned (.tuple #[]) ∧ w' = w :=
  stableF_of (by decide) (AnyF.insertionSortCmpFunc_none (P := Try.prog) Try.insInt0 a cap fv w)
end Go.Proofs.Ythfinofmbnfijaa
