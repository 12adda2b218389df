/- bytes.Compare at identities; what a sort leaves of an owned slice. -/
import Derived.Test.YtjjanjhoaiannaaRowb
import Derived.Test.YtjjanjhoaiannaaTp0
import Derived.Test.YtjjanjhoaiannaaRegion6
import Derived.Deep.RegionHeld3
import Derived.Shelf.SlSortCmp.NoneTotal
import Derived.Shelf.SlGeneric
import Derived.Ground.SlsfProg
import Derived.Lib.BytesEntry
import Derived.Laws.Externs
import Derived.Lib.Hide
namespace Go.Proofs.Ytjjanjhoaiannaa
open Go.Shelf Go.RowKit Go.Lib Go.Sort
set_option linter.unusedVariables false
set_option linter.unusedSimpArgs false
def Try.sortId_ren : Go.Shelf.Ren := ⟨fun | 6 => 36 | 15 => 45 | 14 => 44 | 28 => 58 | 29 => 59 | 20 => 50 | 21 => 51 | 22 => 52 | 23 => 53 | 24 => 54 | 25 => 55 | 26 => 56 | 27 => 57 | 46 => 68 | 47 => 69 | 48 => 70 | 49 => 71 | 50 => 72 | 57 => 76 | n => n, fun | 22 => 23 | 24 => 31 | 25 => 88 | 3 => 3 | 39 => 94 | 0 => 0 | 53 => 104 | 55 => 106 | 4 => 4 | 46 => 98 | 45 => 97 | 50 => 79 | 5 => 5 | 9 => 9 | 66 => 112 | 70 => 116 | 76 => 120 | 77 => 121 | n => n, fun | n => n⟩
theorem Try.sortId : Go.Proofs.SlLaysF0.n6 Try.prog Try.sortId_ren := {
  mixed := by kernel_rfl
  f6 := ⟨Try.f36.name, by decide, Try.func36.trans (congrArg some (by kernel_rfl))⟩
  f14 := ⟨Try.f44.name, by decide, Try.func44.trans (congrArg some (by kernel_rfl))⟩
  f15 := Try.func45.trans (congrArg some (by kernel_rfl))
  f20 := ⟨Try.f50.name, by decide, Try.func50.trans (congrArg some (by kernel_rfl))⟩
  f21 := ⟨Try.f51.name, by decide, Try.func51.trans (congrArg some (by kernel_rfl))⟩
  f22 := ⟨Try.f52.name, by decide, Try.func52.trans (congrArg some (by kernel_rfl))⟩
  f23 := ⟨Try.f53.name, by decide, Try.func53.trans (congrArg some (by kernel_rfl))⟩
  f24 := ⟨Try.f54.name, by decide, Try.func54.trans (congrArg some (by kernel_rfl))⟩
  f25 := ⟨Try.f55.name, by decide, Try.func55.trans (congrArg some (by kernel_rfl))⟩
  f26 := ⟨Try.f56.name, by decide, Try.func56.trans (congrArg some (by kernel_rfl))⟩
  f27 := ⟨Try.f57.name, by decide, Try.func57.trans (congrArg some (by kernel_rfl))⟩
  f28 := Try.func58.trans (congrArg some (by kernel_rfl))
  f29 := Try.func59.trans (congrArg some (by kernel_rfl))
  f46 := ⟨Try.f68.name, by decide, Try.func68.trans (congrArg some (by kernel_rfl))⟩
  f47 := Try.func69.trans (congrArg some (by kernel_rfl))
  f48 := Try.func70.trans (congrArg some (by kernel_rfl))
  f49 := ⟨Try.f71.name, by decide, Try.func71.trans (congrArg some (by kernel_rfl))⟩
  f50 := ⟨Try.f72.name, by decide, Try.func72.trans (congrArg some (by kernel_rfl))⟩
  f57 := ⟨Try.f76.name, by decide, Try.func76.trans (congrArg some (by kernel_rfl))⟩
  t0 := Try.underlying0
  a0 := Try.isAgg0
  z0 := Try.sizeOf0
  v0 := Try.zeroValue0
  t3 := Try.underlying3
  a3 := Try.isAgg3
  z3 := Try.sizeOf3
  v3 := Try.zeroValue3
  t4 := Try.underlying4
  a4 := Try.isAgg4
  z4 := Try.sizeOf4
  v4 := Try.zeroValue4
  t5 := Try.underlying5
  a5 := Try.isAgg5
  z5 := Try.sizeOf5
  v5 := Try.zeroValue5
  t9 := Try.underlying9
  a9 := Try.isAgg9
  z9 := Try.sizeOf9
  v9 := Try.zeroValue9
  t22 := Try.underlying23
  a22 := Try.isAgg23
  z22 := Try.sizeOf23
  v22 := Try.zeroValue23
  t25 := Try.underlying88
  a25 := Try.isAgg88
  z25 := Try.sizeOf88
  v25 := Try.zeroValue88
  t39 := Try.underlying94
  a39 := Try.isAgg94
  z39 := Try.sizeOf94
  v39 := Try.zeroValue94
  t45 := Try.underlying97
  a45 := Try.isAgg97
  z45 := Try.sizeOf97
  v45 := Try.zeroValue97
  t46 := Try.underlying98
  a46 := Try.isAgg98
  z46 := Try.sizeOf98
  v46 := Try.zeroValue98
  t50 := Try.underlying79
  a50 := Try.isAgg79
  z50 := Try.sizeOf79
  v50 := Try.zeroValue79
  t53 := Try.underlying104
  a53 := Try.isAgg104
  z53 := Try.sizeOf104
  v53 := Try.zeroValue104
  t55 := Try.underlying106
  a55 := Try.isAgg106
  z55 := Try.sizeOf106
  v55 := Try.zeroValue106
  t66 := Try.underlying112
  a66 := Try.isAgg112
  z66 := Try.sizeOf112
  v66 := Try.zeroValue112
  t70 := Try.underlying116
  a70 := Try.isAgg116
  z70 := Try.sizeOf116
  v70 := Try.zeroValue116
  t76 := Try.underlying120
  a76 := Try.isAgg120
  z76 := Try.sizeOf120
  v76 := Try.zeroValue120
  t77 := Try.underlying121
  a77 := Try.isAgg121
  z77 := Try.sizeOf121
  v77 := Try.zeroValue121 }

theorem cells_of_range {w : World} {g : Nat} {l : List UInt8} (h : w.rangeAt g 0 (bvs l)) : ∀ j x, (l.map fun b : UInt8 => (b.toNat : Int))[j]? = some x → w.cell? ((⟨g, 0, none⟩ : Addr).add j) = some (.int .u8 x) := by
  intro j x hj
  rw [List.getElem?_map] at hj
  have hx : ∃ b, l[j]? = some b ∧ (b.toNat : Int) = x := by
    cases hb : l[j]? with
    | none => simp [hb] at hj
    | some b => exact ⟨b, rfl, by simpa [hb] using hj⟩
  obtain ⟨b, hb, rfl⟩ := hx
  have hv := h j (bv b) (by simp [bvs, hb])
  have e : (⟨g, 0, none⟩ : Addr).add j = ⟨g, 0 + j, none⟩ := by unfold Addr.add; split <;> simp_all
  rw [e]
  exact hv
theorem bytesOf_map (l : List UInt8) : Lib.bytesOf (l.map fun b : UInt8 => (b.toNat : Int)) = l := by
  unfold Lib.bytesOf
  rw [List.map_map]
  refine (List.map_congr_left fun b _ => ?_).trans (List.map_id l)
  show UInt8.ofNat ((b.toNat : Int).toNat) = b
  rw [Int.toNat_natCast]
  exact UInt8.ofNat_toNat
theorem run_bytesOf_u8 {w : World} {g : Nat} {l : List UInt8} (hl : l.length = 32) (h : w.rangeAt g 0 (bvs l)) : (Extern.Bytes.bytesOf (.slice (some ⟨g, 0, none⟩) 32 32)).run Try.prog w = .ok ⟨l.toArray⟩ w := by
  have h1 := run_loadBytesX (P := Try.prog) w (l.map fun b : UInt8 => (b.toNat : Int)) ⟨g, 0, none⟩ .empty (cells_of_range h)
  rw [List.length_map, hl, bytesOf_map] at h1
  unfold Extern.Bytes.bytesOf
  rw [h1]
  congr 1
  apply ByteArray.ext
  simp
theorem callExt46 (args : Array Value) (w : World) : (callFunc 46 args).run Try.prog w = ((Extern.BytealgCompare.compare args).run Try.prog w).andThen fun v w' => .ok (.value v) w' :=
  run_callFunc_extern Try.func46 (by kernel_rfl) (by kernel_rfl) (by kernel_rfl) (by kernel_rfl) args w
theorem run_cmp46 (a b : IdB) {w : World} {g1 g2 : Nat} (h1 : w.rangeAt g1 0 (bvs a.1)) (h2 : w.rangeAt g2 0 (bvs b.1)) :
    (callFunc 46 #[.slice (some ⟨g1, 0, none⟩) 32 32, .slice (some ⟨g2, 0, none⟩) 32 32]).run Try.prog w = .ok (.value (.int .i64 (cmpB a b))) w := by
  rw [callExt46]
  change Result.andThen (Sem.run Try.prog (do pure (goInt (Extern.BytealgCompare.cmp (← Extern.Bytes.bytesOf (.slice (some ⟨g1, 0, none⟩) 32 32)) (← Extern.Bytes.bytesOf (.slice (some ⟨g2, 0, none⟩) 32 32))))) w) _ = _
  simp only [Sem.run_bind, Sem.run_pure, run_bytesOf_u8 a.2 h1, run_bytesOf_u8 b.2 h2, Result.andThen]
  rw [cmp_eq]
  rfl

set_option maxHeartbeats 1000000 in
theorem bytesCompare (a b : IdB) {w : World} {g1 g2 : Nat} (h1 : w.rangeAt g1 0 (bvs a.1)) (h2 : w.rangeAt g2 0 (bvs b.1)) :
    Calls Try.prog 38 #[.slice (some ⟨g1, 0, none⟩) 32 32, .slice (some ⟨g2, 0, none⟩) 32 32] w fun e w' => e = .returned (.int .i64 (cmpB a b)) ∧ w' = w := by
  have hc := run_cmp46 a b h1 h2
  clear h1 h2
  go_enter Try.func38, Try.ntmps38
  go_wp2_with fail
  exact bodyPost_ret (v := .int .i64 (cmpB a b)) (by simp [results, Try.results38, go_sem]) rfl ⟨rfl, rfl⟩

section
variable {P : Program} {sT T : TypeId} {α : Type} [Inhabited α] (E : ElemTy P sT T α)
theorem flatK_list (L : List α) : (flatK E.enc E.k L.toArray).toList = L.flatMap E.enc := by
  apply List.ext_getElem?
  intro t
  by_cases ht : t < L.length * E.k
  · have hi : t / E.k < L.length := Nat.div_lt_of_lt_mul (by rw [Nat.mul_comm]; exact ht)
    have hj : t % E.k < E.k := Nat.mod_lt _ E.hk
    have h := flat_get E hi hj
    rw [Nat.div_add_mod'] at h
    have hjl : t % E.k < (E.enc L[t / E.k]).length := by rw [E.len]; exact hj
    rw [h, List.getElem?_eq_getElem hjl]
    simp only [flatK, Array.toList_map, List.getElem?_map, Array.toList_range, List.size_toArray]
    rw [List.getElem?_range ht, Option.map_some]
    congr 1
    rw [getElem!_pos L.toArray (t / E.k) (by simpa using hi)]
    exact getElem!_pos (E.enc L[t / E.k]) (t % E.k) hjl
  · rw [List.getElem?_eq_none (by simp; omega), List.getElem?_eq_none (by rw [flat_length]; omega)]
theorem holdsK_of {w : World} {g : Nat} {cur : Array Value} (L : List α) (hg : w.heap[g]? = some (.cells cur T (0, 0))) (ht : cur.toList.take (L.length * E.k) = L.flatMap E.enc) : HoldsK E.enc E.k w g 0 L.toArray := by
  intro j hj
  rw [size_flatK, List.size_toArray] at hj
  refine ⟨?_, frozen_of_row _ _ _ _ _ hg⟩
  have h1 : (L.flatMap E.enc)[j]? = cur[j]? := by rw [← ht, List.getElem?_take, if_pos hj, Array.getElem?_toList]
  have h2 : (flatK E.enc E.k L.toArray)[j]? = (L.flatMap E.enc)[j]? := by rw [← flatK_list E L, Array.getElem?_toList]
  have hs : j < (flatK E.enc E.k L.toArray).size := by rw [size_flatK, List.size_toArray]; exact hj
  have h3 : (flatK E.enc E.k L.toArray)[j]? = some (flatK E.enc E.k L.toArray)[j]! := by rw [getElem!_pos (flatK E.enc E.k L.toArray) j hs, Array.getElem?_eq_getElem hs]
  show w.cell? ⟨g, 0 + j, none⟩ = some ((flatK E.enc E.k L.toArray)[j]!)
  rw [← h3, h2, h1, Nat.zero_add]
  simp [World.cell?, hg]
theorem own_sorted {w : World} {B g cap n : Nat} {cur : Array Value} {os : Array Obj} (L M : List α) (hlen : M.length = L.length) (hB : B ≤ g) (hg : w.heap[g]? = some (.cells cur T (0, 0))) (hc : L.length ≤ cap) (hm : cap ≤ maxLen) (hs : cur.size = cap * E.k) :
    OwnL E (sortWorldK E.enc E.k w g 0 n M.toArray os) B (.slice (some ⟨g, 0, none⟩) L.length cap) M ∧ Below B w (sortWorldK E.enc E.k w g 0 n M.toArray os) := by
  have hgl := (Array.getElem?_eq_some_iff.1 hg).1
  have hsz : (putRowK E.enc E.k (Sort.ahead w n) g 0 M.toArray).heap.size = w.heap.size := by simp [putRowK, putRow, mapBlock, Sort.ahead]
  have hgg : (sortWorldK E.enc E.k w g 0 n M.toArray os).heap[g]? = some (.cells (putCells id 0 (flatK E.enc E.k M.toArray) cur) T (0, 0)) := by
    unfold sortWorldK grow
    show ((putRowK E.enc E.k (Sort.ahead w n) g 0 M.toArray).heap ++ os)[g]? = _
    rw [Array.getElem?_append_left (by rw [hsz]; exact hgl)]
    show ((Sort.ahead w n).heap.modify g _)[g]? = _
    rw [Array.getElem?_modify, if_pos rfl]
    show w.heap[g]?.map _ = _
    rw [hg]
    rfl
  constructor
  · refine ⟨flat_length E M, .inr ⟨g, cap, _, by rw [hlen], hB, hgg, by omega, hm, by simp [putCells, hs], ?_⟩⟩
    have hmul : M.length * E.k ≤ cap * E.k := Nat.mul_le_mul_right _ (by omega)
    rw [← flatK_list E M]
    apply List.ext_getElem?
    intro t
    rw [List.getElem?_take]
    by_cases ht : t < M.length * E.k
    · have hts : t < (flatK E.enc E.k M.toArray).size := by rw [size_flatK, List.size_toArray]; exact ht
      rw [if_pos ht, Array.getElem?_toList, Array.getElem?_toList]
      unfold putCells
      rw [Array.getElem?_mapIdx, Array.getElem?_eq_getElem (by omega), Array.getElem?_eq_getElem hts, Option.map_some, if_pos ⟨Nat.zero_le _, by omega⟩, Nat.sub_zero, getElem!_pos (flatK E.enc E.k M.toArray) t hts]
      rfl
    · rw [if_neg ht, List.getElem?_eq_none (by rw [Array.length_toList, size_flatK, List.size_toArray]; omega)]
  · refine ⟨rfl, rfl, rfl, ?_, fun k hk => ?_⟩
    · show w.heap.size ≤ ((putRowK E.enc E.k (Sort.ahead w n) g 0 M.toArray).heap ++ os).size
      rw [Array.size_append, hsz]
      omega
    · show ((putRowK E.enc E.k (Sort.ahead w n) g 0 M.toArray).heap ++ os)[k]? = _
      rw [Array.getElem?_append_left (by rw [hsz]; omega)]
      show ((Sort.ahead w n).heap.modify g _)[k]? = _
      rw [Array.getElem?_modify, if_neg (by omega)]
      rfl
end

instance : Inhabited IdB := ⟨z32⟩
def sortB (M : List IdB) : List IdB := M.mergeSort fun x y => !(ltOf cmpB y x)
theorem isAggId (w : World) : (isAgg 31).run Try.prog w = .ok true w := by kernel_rfl
theorem sizeOfId (w : World) : (Go.sizeOf 31).run Try.prog w = .ok 32 w := by kernel_rfl

end Go.Proofs.Ytjjanjhoaiannaa
