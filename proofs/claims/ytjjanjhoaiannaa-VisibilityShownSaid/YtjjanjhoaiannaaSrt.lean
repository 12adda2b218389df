/- slices.SortFunc at identities. -/
import Derived.Test.YtjjanjhoaiannaaRowm
import Derived.Test.YtjjanjhoaiannaaRegion3
import Derived.Deep.RegionHeld3
import Derived.Shelf.SlSortCmp.NoneTotal
import Derived.Shelf.SlGeneric
import Derived.Ground.SlsfProg
import Derived.Lib.BytesEntry
import Derived.Laws.Externs
import Derived.Lib.Hide
namespace Go.Proofs.Ytjjanjhoaiannaa
open Go.Shelf Go.RowKit Go.Lib Go.Sort
set_option linter.unusedVariables false
set_option linter.unusedSimpArgs false
def Try.sortId_ren : Go.Shelf.Ren := ⟨fun | 6 => 36 | 15 => 45 | 14 => 44 | 28 => 58 | 29 => 59 | 20 => 50 | 21 => 51 | 22 => 52 | 23 => 53 | 24 => 54 | 25 => 55 | 26 => 56 | 27 => 57 | 46 => 68 | 47 => 69 | 48 => 70 | 49 => 71 | 50 => 72 | 57 => 76 | n => n, fun | 22 => 23 | 24 => 31 | 25 => 88 | 3 => 3 | 39 => 94 | 0 => 0 | 53 => 104 | 55 => 106 | 4 => 4 | 46 => 98 | 45 => 97 | 50 => 79 | 5 => 5 | 9 => 9 | 66 => 112 | 70 => 116 | 76 => 120 | 77 => 121 | n => n, fun | n => n⟩
theorem Try.sortId : Go.Proofs.SlLaysF0.n6 Try.prog Try.sortId_ren := {
  mixed := by kernel_rfl
  f6 := ⟨Try.f36.name, by decide, Try.func36.trans (congrArg some (by kernel_rfl))⟩
  f14 := ⟨Try.f44.name, by decide, Try.func44.trans (congrArg some (by kernel_rfl))⟩
  f15 := Try.func45.trans (congrArg some (by kernel_rfl))
  f20 := ⟨Try.f50.name, by decide, Try.func50.trans (congrArg some (by kernel_rfl))⟩
  f21 := ⟨Try.f51.name, by decide, Try.func51.trans (congrArg some (by kernel_rfl))⟩
  f22 := ⟨Try.f52.name, by decide, Try.func52.trans (congrArg some (by kernel_rfl))⟩
  f23 := ⟨Try.f53.name, by decide, Try.func53.trans (congrArg some (by kernel_rfl))⟩
  f24 := ⟨Try.f54.name, by decide, Try.func54.trans (congrArg some (by kernel_rfl))⟩
  f25 := ⟨Try.f55.name, by decide, Try.func55.trans (congrArg some (by kernel_rfl))⟩
  f26 := ⟨Try.f56.name, by decide, Try.func56.trans (congrArg some (by kernel_rfl))⟩
  f27 := ⟨Try.f57.name, by decide, Try.func57.trans (congrArg some (by kernel_rfl))⟩
  f28 := Try.func58.trans (congrArg some (by kernel_rfl))
  f29 := Try.func59.trans (congrArg some (by kernel_rfl))
  f46 := ⟨Try.f68.name, by decide, Try.func68.trans (congrArg some (by kernel_rfl))⟩
  f47 := Try.func69.trans (congrArg some (by kernel_rfl))
  f48 := Try.func70.trans (congrArg some (by kernel_rfl))
  f49 := ⟨Try.f71.name, by decide, Try.func71.trans (congrArg some (by kernel_rfl))⟩
  f50 := ⟨Try.f72.name, by decide, Try.func72.trans (congrArg some (by kernel_rfl))⟩
  f57 := ⟨Try.f76.name, by decide, Try.func76.trans (congrArg some (by kernel_rfl))⟩
  t0 := Try.underlying0
  a0 := Try.isAgg0
  z0 := Try.sizeOf0
  v0 := Try.zeroValue0
  t3 := Try.underlying3
  a3 := Try.isAgg3
  z3 := Try.sizeOf3
  v3 := Try.zeroValue3
  t4 := Try.underlying4
  a4 := Try.isAgg4
  z4 := Try.sizeOf4
  v4 := Try.zeroValue4
  t5 := Try.underlying5
  a5 := Try.isAgg5
  z5 := Try.sizeOf5
  v5 := Try.zeroValue5
  t9 := Try.underlying9
  a9 := Try.isAgg9
  z9 := Try.sizeOf9
  v9 := Try.zeroValue9
  t22 := Try.underlying23
  a22 := Try.isAgg23
  z22 := Try.sizeOf23
  v22 := Try.zeroValue23
  t25 := Try.underlying88
  a25 := Try.isAgg88
  z25 := Try.sizeOf88
  v25 := Try.zeroValue88
  t39 := Try.underlying94
  a39 := Try.isAgg94
  z39 := Try.sizeOf94
  v39 := Try.zeroValue94
  t45 := Try.underlying97
  a45 := Try.isAgg97
  z45 := Try.sizeOf97
  v45 := Try.zeroValue97
  t46 := Try.underlying98
  a46 := Try.isAgg98
  z46 := Try.sizeOf98
  v46 := Try.zeroValue98
  t50 := Try.underlying79
  a50 := Try.isAgg79
  z50 := Try.sizeOf79
  v50 := Try.zeroValue79
  t53 := Try.underlying104
  a53 := Try.isAgg104
  z53 := Try.sizeOf104
  v53 := Try.zeroValue104
  t55 := Try.underlying106
  a55 := Try.isAgg106
  z55 := Try.sizeOf106
  v55 := Try.zeroValue106
  t66 := Try.underlying112
  a66 := Try.isAgg112
  z66 := Try.sizeOf112
  v66 := Try.zeroValue112
  t70 := Try.underlying116
  a70 := Try.isAgg116
  z70 := Try.sizeOf116
  v70 := Try.zeroValue116
  t76 := Try.underlying120
  a76 := Try.isAgg120
  z76 := Try.sizeOf120
  v76 := Try.zeroValue120
  t77 := Try.underlying121
  a77 := Try.isAgg121
  z77 := Try.sizeOf121
  v77 := Try.zeroValue121 }

theorem cb_self : ∀ a : List UInt8, compareBytes a a = 0
  | [] => rfl
  | a :: xs => by simp [compareBytes, UInt8.lt_irrefl, cb_self xs]
theorem cb_eq : ∀ {a b : List UInt8}, compareBytes a b = 0 → a = b
  | [], [], _ => rfl
  | [], _ :: _, h => by simp [compareBytes] at h
  | _ :: _, [], h => by simp [compareBytes] at h
  | a :: xs, b :: bs, h => by
    unfold compareBytes at h
    split at h
    · simp at h
    · split at h
      · simp at h
      · rename_i h1 h2
        rw [UInt8.le_antisymm (UInt8.not_lt.1 h2) (UInt8.not_lt.1 h1), cb_eq h]
theorem cb_swap : ∀ a b : List UInt8, compareBytes b a = - compareBytes a b
  | [], [] => rfl
  | [], _ :: _ => rfl
  | _ :: _, [] => rfl
  | a :: xs, b :: bs => by
    unfold compareBytes
    by_cases h1 : a < b
    · have h2 : ¬ b < a := fun h => UInt8.lt_irrefl a (UInt8.lt_trans h1 h)
      simp [h1, h2]
    · by_cases h2 : b < a
      · simp [h1, h2]
      · simp [h1, h2, cb_swap xs bs]
theorem cb_trans : ∀ {a b c : List UInt8}, compareBytes a b < 0 → compareBytes b c < 0 → compareBytes a c < 0
  | [], [], _, h, _ => by simp [compareBytes] at h
  | [], _ :: _, [], _, h => by simp [compareBytes] at h
  | [], _ :: _, _ :: _, _, _ => by simp [compareBytes]
  | _ :: _, [], _, h, _ => by simp [compareBytes] at h
  | _ :: _, _ :: _, [], _, h => by simp [compareBytes] at h
  | a :: xs, b :: bs, c :: cs, h1, h2 => by
    have ih := @cb_trans xs bs cs
    unfold compareBytes at h1 h2 ⊢
    by_cases hab : a < b
    · by_cases hbc : b < c
      · rw [if_pos (UInt8.lt_trans hab hbc)]; decide
      · rw [if_neg hbc] at h2
        by_cases hcb : c < b
        · rw [if_pos hcb] at h2; simp at h2
        · have : b = c := UInt8.le_antisymm (UInt8.not_lt.1 hcb) (UInt8.not_lt.1 hbc)
          subst this
          rw [if_pos hab]; decide
    · rw [if_neg hab] at h1
      by_cases hba : b < a
      · rw [if_pos hba] at h1; simp at h1
      · have : a = b := UInt8.le_antisymm (UInt8.not_lt.1 hba) (UInt8.not_lt.1 hab)
        subst this
        rw [if_neg (UInt8.lt_irrefl a)] at h1
        by_cases hbc : a < c
        · rw [if_pos hbc]; decide
        · rw [if_neg hbc] at h2 ⊢
          by_cases hcb : c < a
          · rw [if_pos hcb] at h2; simp at h2
          · rw [if_neg hcb] at h2 ⊢
            exact ih h1 h2

def cmpB (a b : IdB) : Int := compareBytes a.1 b.1
theorem swoB : SWO (ltOf cmpB) where
  irrefl x := by unfold ltOf cmpB; rw [cb_self]; rfl
  trans x y z h1 h2 := by
    unfold ltOf cmpB at *
    simp only [decide_eq_true_eq] at *
    exact cb_trans h1 h2
  ntrans x y z h1 h2 := by
    unfold ltOf cmpB at *
    simp only [decide_eq_false_iff_not] at *
    intro h3
    have hyx := cb_swap x.1 y.1
    have hzy := cb_swap y.1 z.1
    by_cases e1 : compareBytes x.1 y.1 = 0
    · rw [cb_eq e1] at h3; exact h2 h3
    · by_cases e2 : compareBytes y.1 z.1 = 0
      · rw [← cb_eq e2] at h3; exact h1 h3
      · exact h2 (by
          have := cb_trans (a := y.1) (b := x.1) (c := z.1) (by omega) h3
          omega)
theorem cmpB_total (x y : IdB) (h1 : ltOf cmpB x y = false) (h2 : ltOf cmpB y x = false) : x = y := by
  unfold ltOf cmpB at *
  simp only [decide_eq_false_iff_not] at *
  have := cb_swap x.1 y.1
  exact Subtype.ext (cb_eq (by omega))

theorem cells_of_range {w : World} {g : Nat} {l : List UInt8} (h : w.rangeAt g 0 (bvs l)) : ∀ j x, (l.map fun b : UInt8 => (b.toNat : Int))[j]? = some x → w.cell? ((⟨g, 0, none⟩ : Addr).add j) = some (.int .u8 x) := by
  intro j x hj
  rw [List.getElem?_map] at hj
  have hx : ∃ b, l[j]? = some b ∧ (b.toNat : Int) = x := by
    cases hb : l[j]? with
    | none => simp [hb] at hj
    | some b => exact ⟨b, rfl, by simpa [hb] using hj⟩
  obtain ⟨b, hb, rfl⟩ := hx
  have hv := h j (bv b) (by simp [bvs, hb])
  have e : (⟨g, 0, none⟩ : Addr).add j = ⟨g, 0 + j, none⟩ := by unfold Addr.add; split <;> simp_all
  rw [e]
  exact hv
theorem bytesOf_map (l : List UInt8) : Lib.bytesOf (l.map fun b : UInt8 => (b.toNat : Int)) = l := by
  unfold Lib.bytesOf
  rw [List.map_map]
  refine (List.map_congr_left fun b _ => ?_).trans (List.map_id l)
  show UInt8.ofNat ((b.toNat : Int).toNat) = b
  rw [Int.toNat_natCast]
  exact UInt8.ofNat_toNat
theorem run_bytesOf_u8 {w : World} {g : Nat} {l : List UInt8} (hl : l.length = 32) (h : w.rangeAt g 0 (bvs l)) : (Extern.Bytes.bytesOf (.slice (some ⟨g, 0, none⟩) 32 32)).run Try.prog w = .ok ⟨l.toArray⟩ w := by
  have h1 := run_loadBytesX (P := Try.prog) w (l.map fun b : UInt8 => (b.toNat : Int)) ⟨g, 0, none⟩ .empty (cells_of_range h)
  rw [List.length_map, hl, bytesOf_map] at h1
  unfold Extern.Bytes.bytesOf
  rw [h1]
  congr 1
  apply ByteArray.ext
  simp
theorem callExt46 (args : Array Value) (w : World) : (callFunc 46 args).run Try.prog w = ((Extern.BytealgCompare.compare args).run Try.prog w).andThen fun v w' => .ok (.value v) w' :=
  run_callFunc_extern Try.func46 (by kernel_rfl) (by kernel_rfl) (by kernel_rfl) (by kernel_rfl) args w
theorem run_cmp46 (a b : IdB) {w : World} {g1 g2 : Nat} (h1 : w.rangeAt g1 0 (bvs a.1)) (h2 : w.rangeAt g2 0 (bvs b.1)) :
    (callFunc 46 #[.slice (some ⟨g1, 0, none⟩) 32 32, .slice (some ⟨g2, 0, none⟩) 32 32]).run Try.prog w = .ok (.value (.int .i64 (cmpB a b))) w := by
  rw [callExt46]
  change Result.andThen (Sem.run Try.prog (do pure (goInt (Extern.BytealgCompare.cmp (← Extern.Bytes.bytesOf (.slice (some ⟨g1, 0, none⟩) 32 32)) (← Extern.Bytes.bytesOf (.slice (some ⟨g2, 0, none⟩) 32 32))))) w) _ = _
  simp only [Sem.run_bind, Sem.run_pure, run_bytesOf_u8 a.2 h1, run_bytesOf_u8 b.2 h2, Result.andThen]
  rw [cmp_eq]
  rfl

set_option maxHeartbeats 1000000 in
theorem bytesCompare (a b : IdB) {w : World} {g1 g2 : Nat} (h1 : w.rangeAt g1 0 (bvs a.1)) (h2 : w.rangeAt g2 0 (bvs b.1)) :
    Calls Try.prog 38 #[.slice (some ⟨g1, 0, none⟩) 32 32, .slice (some ⟨g2, 0, none⟩) 32 32] w fun e w' => e = .returned (.int .i64 (cmpB a b)) ∧ w' = w := by
  have hc := run_cmp46 a b h1 h2
  clear h1 h2
  go_enter Try.func38, Try.ntmps38
  go_wp2_with fail
  exact bodyPost_ret (v := .int .i64 (cmpB a b)) (by simp [results, Try.results38, go_sem]) rfl ⟨rfl, rfl⟩

set_option maxHeartbeats 2000000 in
theorem cmpId (a b : IdB) (w : World) : Calls Try.prog 37 #[.agg (bvs a.1).toArray, .agg (bvs b.1).toArray] w fun e w' => e = .returned (.int .i64 (cmpB a b)) ∧ ∃ q os', w' = grow (w.drewN q) os' := by
  obtain ⟨w1, hw1⟩ : ∃ w1, w.alloc (.cells (bvs a.1).toArray 31) = w1 := ⟨_, rfl⟩
  obtain ⟨w2, hw2⟩ : ∃ w2, w1.alloc (.cells (bvs b.1).toArray 31) = w2 := ⟨_, rfl⟩
  have hx1 : w1.heap[w.heap.size]? = some (.cells (bvs a.1).toArray 31 (0, 0)) := by rw [← hw1]; exact heap_alloc_new _ _
  have hx2 : w2.heap[w1.heap.size]? = some (.cells (bvs b.1).toArray 31 (0, 0)) := by rw [← hw2]; exact heap_alloc_new _ _
  have hb2 : Below w1.heap.size w1 w2 := hw2 ▸ (Below.refl _ _).alloc (Nat.le_refl _) _
  have hx1 := (hb2.block _ (Array.getElem?_eq_some_iff.1 hx1).1).trans hx1
  have h1 : w2.drew.rangeAt w.heap.size 0 (bvs a.1) := range_block (w := w2.drew) hx1
  have h2 : w2.drew.rangeAt w1.heap.size 0 (bvs b.1) := range_block (w := w2.drew) hx2
  have hfin : ∃ q os', w2.drew = grow (w.drewN q) os' := ⟨1, #[.cells (bvs a.1).toArray 31, .cells (bvs b.1).toArray 31], by
    rw [← hw2, ← hw1, alloc_eq_grow, alloc_eq_grow, grow_grow]
    rfl⟩
  clear hx1 hx2 hb2
  have HF := Lib.hid hfin
  clear hfin
  go_enter Try.func37, Try.ntmps37
  go_wp2_with fail
  refine wp_region_noPanic ?_
  refine wp_region_H ((fun wx => wx = w2.drew)) (by kernel_rfl) ?_
  have hS0 : ((fun wx => wx = w2.drew)) w2.drew := rfl
  refine wpAnyH_takeI (i := 0) (v := ?v1) rfl (by kernel_rfl) (by kernel_rfl) (by kernel_rfl) (fun _ _ _ h => h) (yieldsIf_run rfl (fun w' hw' => ?y1)) hS0 ?_
  case y1 => first | (go_simp; rfl) | (go_simp; done) | rfl
  simp only [Act.put, List.setIfInBounds_toArray, List.set_cons_zero, List.set_cons_succ]
  refine wpAnyH_takeI (i := 1) (v := ?v2) rfl (by kernel_rfl) (by kernel_rfl) (by kernel_rfl) (fun _ _ _ h => h) (yieldsIf_run rfl (fun w' hw' => ?y2)) hS0 ?_
  case y2 => first | (go_simp; rfl) | (go_simp; done) | rfl
  simp only [Act.put, List.setIfInBounds_toArray, List.set_cons_zero, List.set_cons_succ]
  refine wpAnyH_do (i := 2) (by kernel_rfl) rfl rfl (fun K hK => ?_)
  go_simp
  go_at_call 38
  refine (bytesCompare a b h1 h2).mono ?_
  rintro e wc ⟨rfl, rfl⟩
  refine hK _ _ (hS0) ?_
  clear hK K
  try simp only [Act.put, List.setIfInBounds_toArray, List.set_cons_zero, List.set_cons_succ]
  refine wpAnyH_takeI (i := 3) (v := ?v3) rfl (by kernel_rfl) (by kernel_rfl) (by kernel_rfl) (fun _ _ _ h => h) (yieldsIf_run rfl (fun w' hw' => ?y3)) hS0 ?_
  case y3 => first | (go_simp; rfl) | (go_simp; done) | rfl
  simp only [Act.put, List.setIfInBounds_toArray, List.set_cons_zero, List.set_cons_succ]
  refine wpAnyH_done (by kernel_rfl) ?_ _
  refine NoPanic.normal ?_
  go_wp2_with fail
  exact bodyPost_ret (v := .int .i64 (cmpB a b)) (by simp [results, Try.results37, go_sem]) rfl ⟨rfl, HF.out⟩

section
variable {P : Program} {sT T : TypeId} {α : Type} [Inhabited α] (E : ElemTy P sT T α)
theorem flatK_list (L : List α) : (flatK E.enc E.k L.toArray).toList = L.flatMap E.enc := by
  apply List.ext_getElem?
  intro t
  by_cases ht : t < L.length * E.k
  · have hi : t / E.k < L.length := Nat.div_lt_of_lt_mul (by rw [Nat.mul_comm]; exact ht)
    have hj : t % E.k < E.k := Nat.mod_lt _ E.hk
    have h := flat_get E hi hj
    rw [Nat.div_add_mod'] at h
    have hjl : t % E.k < (E.enc L[t / E.k]).length := by rw [E.len]; exact hj
    rw [h, List.getElem?_eq_getElem hjl]
    simp only [flatK, Array.toList_map, List.getElem?_map, Array.toList_range, List.size_toArray]
    rw [List.getElem?_range ht, Option.map_some]
    congr 1
    rw [getElem!_pos L.toArray (t / E.k) (by simpa using hi)]
    exact getElem!_pos (E.enc L[t / E.k]) (t % E.k) hjl
  · rw [List.getElem?_eq_none (by simp; omega), List.getElem?_eq_none (by rw [flat_length]; omega)]
theorem holdsK_of {w : World} {g : Nat} {cur : Array Value} (L : List α) (hg : w.heap[g]? = some (.cells cur T (0, 0))) (ht : cur.toList.take (L.length * E.k) = L.flatMap E.enc) : HoldsK E.enc E.k w g 0 L.toArray := by
  intro j hj
  rw [size_flatK, List.size_toArray] at hj
  refine ⟨?_, frozen_of_row _ _ _ _ _ hg⟩
  have h1 : (L.flatMap E.enc)[j]? = cur[j]? := by rw [← ht, List.getElem?_take, if_pos hj, Array.getElem?_toList]
  have h2 : (flatK E.enc E.k L.toArray)[j]? = (L.flatMap E.enc)[j]? := by rw [← flatK_list E L, Array.getElem?_toList]
  have hs : j < (flatK E.enc E.k L.toArray).size := by rw [size_flatK, List.size_toArray]; exact hj
  have h3 : (flatK E.enc E.k L.toArray)[j]? = some (flatK E.enc E.k L.toArray)[j]! := by rw [getElem!_pos (flatK E.enc E.k L.toArray) j hs, Array.getElem?_eq_getElem hs]
  show w.cell? ⟨g, 0 + j, none⟩ = some ((flatK E.enc E.k L.toArray)[j]!)
  rw [← h3, h2, h1, Nat.zero_add]
  simp [World.cell?, hg]
theorem own_sorted {w : World} {B g cap n : Nat} {cur : Array Value} {os : Array Obj} (L M : List α) (hlen : M.length = L.length) (hB : B ≤ g) (hg : w.heap[g]? = some (.cells cur T (0, 0))) (hc : L.length ≤ cap) (hm : cap ≤ maxLen) (hs : cur.size = cap * E.k) :
    OwnL E (sortWorldK E.enc E.k w g 0 n M.toArray os) B (.slice (some ⟨g, 0, none⟩) L.length cap) M ∧ Below B w (sortWorldK E.enc E.k w g 0 n M.toArray os) := by
  have hgl := (Array.getElem?_eq_some_iff.1 hg).1
  have hsz : (putRowK E.enc E.k (Sort.ahead w n) g 0 M.toArray).heap.size = w.heap.size := by simp [putRowK, putRow, mapBlock, Sort.ahead]
  have hgg : (sortWorldK E.enc E.k w g 0 n M.toArray os).heap[g]? = some (.cells (putCells id 0 (flatK E.enc E.k M.toArray) cur) T (0, 0)) := by
    unfold sortWorldK grow
    show ((putRowK E.enc E.k (Sort.ahead w n) g 0 M.toArray).heap ++ os)[g]? = _
    rw [Array.getElem?_append_left (by rw [hsz]; exact hgl)]
    show ((Sort.ahead w n).heap.modify g _)[g]? = _
    rw [Array.getElem?_modify, if_pos rfl]
    show w.heap[g]?.map _ = _
    rw [hg]
    rfl
  constructor
  · refine ⟨flat_length E M, .inr ⟨g, cap, _, by rw [hlen], hB, hgg, by omega, hm, by simp [putCells, hs], ?_⟩⟩
    have hmul : M.length * E.k ≤ cap * E.k := Nat.mul_le_mul_right _ (by omega)
    rw [← flatK_list E M]
    apply List.ext_getElem?
    intro t
    rw [List.getElem?_take]
    by_cases ht : t < M.length * E.k
    · have hts : t < (flatK E.enc E.k M.toArray).size := by rw [size_flatK, List.size_toArray]; exact ht
      rw [if_pos ht, Array.getElem?_toList, Array.getElem?_toList]
      unfold putCells
      rw [Array.getElem?_mapIdx, Array.getElem?_eq_getElem (by omega), Array.getElem?_eq_getElem hts, Option.map_some, if_pos ⟨Nat.zero_le _, by omega⟩, Nat.sub_zero, getElem!_pos (flatK E.enc E.k M.toArray) t hts]
      rfl
    · rw [if_neg ht, List.getElem?_eq_none (by rw [Array.length_toList, size_flatK, List.size_toArray]; omega)]
  · refine ⟨rfl, rfl, rfl, ?_, fun k hk => ?_⟩
    · show w.heap.size ≤ ((putRowK E.enc E.k (Sort.ahead w n) g 0 M.toArray).heap ++ os).size
      rw [Array.size_append, hsz]
      omega
    · show ((putRowK E.enc E.k (Sort.ahead w n) g 0 M.toArray).heap ++ os)[k]? = _
      rw [Array.getElem?_append_left (by rw [hsz]; omega)]
      show ((Sort.ahead w n).heap.modify g _)[k]? = _
      rw [Array.getElem?_modify, if_neg (by omega)]
      rfl
end

instance : Inhabited IdB := ⟨z32⟩
def sortB (M : List IdB) : List IdB := M.mergeSort fun x y => !(ltOf cmpB y x)
theorem isAggId (w : World) : (isAgg 31).run Try.prog w = .ok true w := by kernel_rfl
theorem sizeOfId (w : World) : (Go.sizeOf 31).run Try.prog w = .ok 32 w := by kernel_rfl
/-- slices.SortFunc of a row of its own of identities. -/
theorem sortId_any {w : World} {B : Nat} {v : Value} (M : List IdB) (h : OwnL idE w B v M) (hB : B ≤ w.heap.size) (hl : M.length < 1000000000) :
    Calls Try.prog 36 #[v, .func (.func 37) #[] #[]] w fun e w' => e = .returned (.tuple #[]) ∧ OwnL idE w' B v (sortB M) ∧ Below B w w' := by
  have hh : w.ownsRow B 31 32 v M.length (M.flatMap idE.enc) := h
  rcases hh.2 with ⟨rfl, h0⟩ | ⟨g, cap, cur, rfl, hgB, hg, hc, hm, hs, ht⟩
  · obtain rfl : M = [] := List.eq_nil_of_length_eq_zero h0
    exact (AnyF.slices_SortFunc_none Try.sortId none 0 _ w).mono fun e w' ⟨he, hw⟩ => ⟨he, by rw [hw, show sortB [] = [] from by simp [sortB]]; exact h, hw ▸ Below.refl _ _⟩
  · have eg : ∀ args w, (callFunc 37 args).run Try.prog w = .ok (.enter 37 args) w := enters_of Try.func37 (by kernel_rfl) rfl
    have hcon := AnyQ.slices_SortFunc_total Try.sortId 32 isAggId sizeOfId idE.enc idE.len idE.one cmpB swoB 37 #[] g 0 cap M.toArray w eg (fun _ _ _ _ x y => cmpId x y _) (holdsK_of idE M hg ht) (Array.getElem?_eq_some_iff.1 hg).1 (by rw [List.size_toArray]; omega) cmpB_total
    rw [List.size_toArray] at hcon
    refine hcon.mono ?_
    rintro e w' ⟨rfl, n, os, rfl⟩
    have hp : (sortB M).length = M.length := (List.mergeSort_perm M _).length_eq
    obtain ⟨h1, h2⟩ := own_sorted idE (n := n) (os := os) M (sortB M) hp hgB hg hc hm hs
    exact ⟨rfl, h1, h2⟩

end Go.Proofs.Ytjjanjhoaiannaa
