/- The spool: its state; New, Bytes, Free, Len, Get, Has. -/
import Derived.Test.YtnmdgjodbikndaaKms
import Derived.Test.YtnmdgjodbikndaaIdv
import Derived.Test.YtnmdgjodbikndaaElems
import Derived.Test.YtnmdgjodbikndaaRegion6
import Derived.Deep.MidRow
import Derived.Deep.RegionHeld3
import Derived.Laws.Tables
import Derived.Laws.CopyOwn
import Derived.Lib.Hide
namespace Go.Proofs.Ytnmdgjodbikndaa
open Go.RowKit
set_option linter.unusedVariables false
set_option linter.unusedSimpArgs false

structure ArtD where
  id : IdB
  text : ByteArray
  arr : Int
  place : Int
def z32 : IdB := ⟨List.replicate 32 0, by simp⟩
def zA : ArtD := ⟨z32, ⟨#[]⟩, 0, 0⟩
def artv (a : ArtD) : Value := .agg #[.string a.text, .int .i64 a.arr, .int .i64 a.place]
structure SpD where
  budget : Int
  next : Int
  list : List ArtD
def SpD.size (S : SpD) : Nat := (S.list.map (·.text.size)).sum
def SpD.find (S : SpD) (k : IdB) : Option ArtD := S.list.find? (fun a => decide (a.id = k))
def SpD.kl (S : SpD) : List (IdB × Value) := S.list.map fun a => (a.id, artv a)
/-- The spool S lies in the block b, its articles in the map m. -/
structure SpAt (w : World) (b m : Nat) (S : SpD) : Prop where
  hb : w.heap[b]? = some (.cells #[.int .i64 S.budget, .int .i64 (S.size : Int), .int .i64 S.next, .map (some m)] 78 (0, 0))
  hm : KMS idKey w m S.kl
structure SpD.Ok (S : SpD) : Prop where
  b0 : 1 ≤ S.budget
  b1 : S.budget ≤ 1073741824
  sz : (S.size : Int) ≤ S.budget
  n0 : 0 ≤ S.next
  pl : S.list.Pairwise (fun a b => a.place < b.place)
  pn : ∀ a ∈ S.list, a.place < S.next
  tx : ∀ a ∈ S.list, 1 ≤ a.text.size ∧ a.text.size ≤ 65536
  ar : ∀ a ∈ S.list, 0 ≤ a.arr ∧ a.arr ≤ 105190559

theorem sizeId (a : IdB) : (Try.prog.info? 30).map (·.size) = some (bvs a.1).length := by rw [bvs_length, a.2]; kernel_rfl
theorem sizeIdA (a : IdB) : (Try.prog.info? 30).map (·.size) = some (bvs a.1).toArray.size := by rw [List.size_toArray]; exact sizeId a
theorem sizeArt {x : ByteArray} {y z : Int} : (Try.prog.info? 80).map (·.size) = some (#[.string x, .int .i64 y, .int .i64 z] : Array Value).size := by kernel_rfl
theorem oneArt {x : ByteArray} {y z : Int} : (#[.string x, .int .i64 y, .int .i64 z] : Array Value).all (·.oneCell') = true := by kernel_rfl
theorem zeroArt (w : World) : (zeroValue 80).run Try.prog w = .ok (artv zA) w := by kernel_rfl
theorem range_block {w : World} {g : Nat} {cs : List Value} {T : TypeId} (h : w.heap[g]? = some (.cells cs.toArray T (0, 0))) : w.rangeAt g 0 cs := fun j u hu => by
  rw [cell_of_row _ _ _ _ _ _ h, Nat.zero_add]
  simpa using hu
theorem SpAt.lt {w : World} {b m : Nat} {S : SpD} (h : SpAt w b m S) : b < w.heap.size := (Array.getElem?_eq_some_iff.1 h.hb).1
theorem SpAt.ne {w : World} {b m : Nat} {S : SpD} (h : SpAt w b m S) : m ≠ b := by
  intro e
  obtain ⟨es, c, h1, _⟩ := h.hm.ex
  rw [e, h.hb] at h1
  cases h1
theorem SpAt.kept {w w' : World} {b m : Nat} {S : SpD} (h : SpAt w b m S) (h1 : w'.heap[b]? = w.heap[b]?) (h2 : w'.heap[m]? = w.heap[m]?) : SpAt w' b m S := ⟨h1.trans h.hb, h.hm.kept h2⟩
theorem SpAt.below {w w' : World} {b m : Nat} {S : SpD} (h : SpAt w b m S) (hb : Below w.heap.size w w') : SpAt w' b m S := h.kept (hb.block b h.lt) (hb.block m h.hm.lt)
theorem SpAt.chg {F : Nat → Prop} {w w' : World} {b m : Nat} {S : SpD} (h : SpAt w b m S) (hc : Chg F w w') (h1 : ¬ F b) (h2 : ¬ F m) : SpAt w' b m S := h.kept (hc.block b h.lt h1) (hc.block m h.hm.lt h2)
theorem SpAt.cells {w : World} {b m : Nat} {S : SpD} (h : SpAt w b m S) : w.cell? ⟨b, 0, none⟩ = some (.int .i64 S.budget) ∧ w.cell? ⟨b, 1, none⟩ = some (.int .i64 (S.size : Int)) ∧ w.cell? ⟨b, 2, none⟩ = some (.int .i64 S.next) ∧ w.cell? ⟨b, 3, none⟩ = some (.map (some m)) := by
  refine ⟨?_, ?_, ?_, ?_⟩ <;> rw [cell_of_row _ _ _ _ _ _ h.hb] <;> rfl
theorem lk_kl (S : SpD) (k : IdB) : lk S.kl k = (S.find k).map artv := by
  unfold lk SpD.kl SpD.find
  rw [List.find?_map, Option.map_map]
  rfl
theorem SpAt.look {w : World} {b m : Nat} {S : SpD} (h : SpAt w b m S) (k : IdB) (c : Bool) : (Instr.lookup 76 (.map (some m)) (idv k) c).run Try.prog w = .ok (if c then .tuple #[artv ((S.find k).getD zA), .bool (S.find k).isSome] else artv ((S.find k).getD zA)) w := by
  have h1 := h.hm.kmap.look Try.underlying76 zeroArt k c
  rw [lk_kl] at h1
  rw [show ((S.find k).map artv).getD (artv zA) = artv ((S.find k).getD zA) by cases S.find k <;> rfl, show ((S.find k).map artv).isSome = (S.find k).isSome by cases S.find k <;> rfl] at h1
  exact h1
theorem find_spec {S : SpD} {k : IdB} : (∀ {a}, S.find k = some a → a ∈ S.list ∧ a.id = k) ∧ (S.find k = none → ∀ a ∈ S.list, a.id ≠ k) := by
  unfold SpD.find
  constructor
  · intro a h
    exact ⟨List.mem_of_find?_eq_some h, of_decide_eq_true (by simpa only using List.find?_some h)⟩
  · intro h a ha e
    rw [List.find?_eq_none] at h
    exact h a ha (decide_eq_true e)

def NewPost (w : World) (n : Int) (e : Ending) (w' : World) : Prop := Below w.heap.size w w' ∧ ((1 ≤ n ∧ n ≤ 1073741824 ∧ ∃ b m, e = .returned (.tuple #[.pointer (some ⟨b, 0, none⟩), .int .i64 0]) ∧ w.heap.size ≤ b ∧ w.heap.size ≤ m ∧ SpAt w' b m ⟨n, 0, []⟩) ∨ (¬ (1 ≤ n ∧ n ≤ 1073741824) ∧ e = .returned (.tuple #[.pointer none, .int .i64 2])))
theorem mkMap0 (w : World) : (Instr.makeMap 76 none).run Try.prog w = .ok (.map (some w.heap.size)) (w.alloc (.map #[] 0)) := by
  simp [Instr.makeMap, run_underlying Try.underlying76, newObj]
  rfl
set_option maxRecDepth 100000 in
set_option maxHeartbeats 2000000 in
theorem New_any {w : World} (n : Int) :
    Calls Try.prog 13 #[.int .i64 n] w (NewPost w n) := by
  by_cases h1 : n < 1
  · go_enter Try.func13, Try.ntmps13
    go_wp2_with fail
    exact bodyPost_ret (v := .tuple #[.pointer none, .int .i64 2]) (by simp [results, Try.results13, go_sem]) rfl ⟨Below.refl _ _, .inr ⟨by omega, rfl⟩⟩
  by_cases h2 : 1073741824 < n
  · go_enter Try.func13, Try.ntmps13
    go_wp2_with fail
    exact bodyPost_ret (v := .tuple #[.pointer none, .int .i64 2]) (by simp [results, Try.results13, go_sem]) rfl ⟨Below.refl _ _, .inr ⟨by omega, rfl⟩⟩
  have hmk := mkMap0 w
  have hkm := KMS.new (E := idKey) w
  have hbm : Below w.heap.size w (w.alloc (.map #[] 0)) := (Below.refl _ _).alloc (Nat.le_refl _) _
  obtain ⟨wm, hwm⟩ : ∃ wm, w.alloc (.map #[] 0) = wm := ⟨_, rfl⟩
  rw [hwm] at hmk hkm hbm
  have HKM := Lib.hid hkm
  have HBM := Lib.hid hbm
  clear hkm hbm hwm
  go_enter Try.func13, Try.ntmps13
  go_wp2_with fail
  exact bodyPost_ret (v := .tuple #[.pointer (some ⟨wm.heap.size, 0, none⟩), .int .i64 0]) (by simp [results, Try.results13, go_sem]) rfl
    ⟨HBM.out.trans ((Below.refl _ _).alloc HBM.out.size _), .inl ⟨by omega, by omega, wm.heap.size, w.heap.size, rfl, HBM.out.size, Nat.le_refl _, ⟨heap_alloc_new _ _, HKM.out.below ((Below.refl _ _).alloc (Nat.le_refl _) _)⟩⟩⟩

set_option maxRecDepth 100000 in
set_option maxHeartbeats 2000000 in
theorem Get_any {w : World} {b m : Nat} {S : SpD} (h : SpAt w b m S) (k : IdB) :
    Calls Try.prog 19 #[.pointer (some ⟨b, 0, none⟩), .agg (bvs k.1).toArray] w fun e w' => e = .returned (.tuple #[.string ((S.find k).getD zA).text, .int .i64 (if (S.find k).isSome then 0 else 8)]) ∧ Below w.heap.size w w' := by
  obtain ⟨w1, hw1⟩ : ∃ w1, w.alloc (.cells (bvs k.1).toArray 30) = w1 := ⟨_, rfl⟩
  have hb1 : Below w.heap.size w w1 := hw1 ▸ (Below.refl _ _).alloc (Nat.le_refl _) _
  have hx1 : w1.heap[w.heap.size]? = some (.cells (bvs k.1).toArray 30 (0, 0)) := by rw [← hw1]; exact heap_alloc_new _ _
  have HC := Lib.hid (show ∀ w', Below w1.heap.size w1 w' → w'.rangeAt w.heap.size 0 (bvs k.1) ∧ w'.cell? ⟨b, 3, none⟩ = some (.map (some m)) from fun w' hw' =>
    ⟨range_block ((hw'.block _ (Array.getElem?_eq_some_iff.1 hx1).1).trans hx1), ((h.below hb1).below hw').cells.2.2.2⟩)
  have hl : ∀ w', Below w1.heap.size w1 w' → (Instr.lookup 76 (.map (some m)) (.agg (bvs k.1).toArray) true).run Try.prog w' = .ok (.tuple #[artv ((S.find k).getD zA), .bool (S.find k).isSome]) w' := fun w' hw' => ((h.below hb1).below hw').look k true
  obtain ⟨A, hA⟩ : ∃ A, (S.find k).getD zA = A := ⟨_, rfl⟩
  obtain ⟨is, his⟩ : ∃ is, (S.find k).isSome = is := ⟨_, rfl⟩
  rw [hA, his] at hl
  have hz : is = false → A = zA := fun e => by
    rw [← hA]
    rw [← his] at e
    cases hf : S.find k with
    | none => rfl
    | some a => rw [hf] at e; cases e
  rw [hA, his]
  unfold artv at hl
  have HL := Lib.hid hl
  have HB1 := Lib.hid hb1
  have HZ := Lib.hid hz
  clear hl hx1 hb1 h hA his hz
  go_enter Try.func19, Try.ntmps19
  go_wp2_with fail
  refine wp_region_noPanic ?_
  refine wp_region_H (Below w1.heap.size w1) (by kernel_rfl) ?_
  have hS0 : (Below w1.heap.size w1) w1.drew := (Below.refl _ _).drew
  obtain ⟨wd, hwd⟩ : ∃ wd, w1.drew = wd := ⟨_, rfl⟩
  rw [hwd] at hS0 ⊢
  clear hwd
  refine wpAnyH_takeI (i := 0) (v := ?v1) rfl (by kernel_rfl) (by kernel_rfl) (by kernel_rfl) (fun _ _ _ h => h) (yieldsIf_run rfl (fun w' hw' => ?y1)) hS0 ?_
  case y1 => first | (go_simp; rfl) | (go_simp; done) | rfl
  simp only [Act.put, List.setIfInBounds_toArray, List.set_cons_zero, List.set_cons_succ]
  refine wpAnyH_takeI (i := 1) (v := ?v2) rfl (by kernel_rfl) (by kernel_rfl) (by kernel_rfl) (fun _ _ _ h => h) (yieldsIf_run rfl (fun w' hw' => ?y2)) hS0 ?_
  case y2 => first | (go_simp; rfl) | (go_simp; done) | rfl
  simp only [Act.put, List.setIfInBounds_toArray, List.set_cons_zero, List.set_cons_succ]
  refine wpAnyH_takeI (i := 2) (v := ?v3) rfl (by kernel_rfl) (by kernel_rfl) (by kernel_rfl) (fun _ _ _ h => h) (yieldsIf_run rfl (fun w' hw' => ?y3)) hS0 ?_
  case y3 => first | (go_simp; rfl) | (go_simp; done) | rfl
  simp only [Act.put, List.setIfInBounds_toArray, List.set_cons_zero, List.set_cons_succ]
  refine wpAnyH_takeI (i := 3) (v := .map (some m)) rfl (by kernel_rfl) (by kernel_rfl) (by kernel_rfl) (fun _ _ _ h => h) (yieldsIf_run rfl (fun w' hw' => ?y4)) hS0 ?_
  case y4 => (have hc := (HC.out w' hw').2; clear hw'; first | (go_simp; rfl) | (go_simp; done))
  simp only [Act.put, List.setIfInBounds_toArray, List.set_cons_zero, List.set_cons_succ]
  refine wpAnyH_takeI (i := 4) (v := .agg (bvs k.1).toArray) rfl (by kernel_rfl) (by kernel_rfl) (by kernel_rfl) (fun _ _ _ h => h) (yieldsIf_load_mid rfl 30 (.tmp 3) rfl w.heap.size 0 rfl (bvs k.1) _ (fun w' hw' => (HC.out w' hw').1) Try.underlying30 rfl (sizeId k)) hS0 ?_
  simp only [Act.put, List.setIfInBounds_toArray, List.set_cons_zero, List.set_cons_succ]
  refine wpAnyH_takeI (i := 5) (v := .tuple #[.agg #[.string A.text, .int .i64 A.arr, .int .i64 A.place], .bool is]) rfl (by kernel_rfl) (by kernel_rfl) (by kernel_rfl) (fun _ _ _ h => h) (yieldsIf_run rfl (fun w' hw' => ?y5)) hS0 ?_
  case y5 => (have hl := HL.out w' hw'; clear hw'; first | (go_simp; rfl) | (go_simp; done))
  simp only [Act.put, List.setIfInBounds_toArray, List.set_cons_zero, List.set_cons_succ]
  refine wpAnyH_takeI (i := 6) (v := ?v6) rfl (by kernel_rfl) (by kernel_rfl) (by kernel_rfl) (fun _ _ _ h => h) (yieldsIf_run rfl (fun w' hw' => ?y6)) hS0 ?_
  case y6 => first | (go_simp; rfl) | (go_simp; done) | rfl
  simp only [Act.put, List.setIfInBounds_toArray, List.set_cons_zero, List.set_cons_succ]
  refine wpAnyH_takeI (i := 7) (v := ?v7) rfl (by kernel_rfl) (by kernel_rfl) (by kernel_rfl) (fun _ _ _ h => h) (yieldsIf_run rfl (fun w' hw' => ?y7)) hS0 ?_
  case y7 => first | (go_simp; rfl) | (go_simp; done) | rfl
  simp only [Act.put, List.setIfInBounds_toArray, List.set_cons_zero, List.set_cons_succ]
  refine wpAnyH_takeI (i := 8) (v := ?v8) rfl (by kernel_rfl) (by kernel_rfl) (by kernel_rfl) (fun _ _ _ h => h) (yieldsIf_run rfl (fun w' hw' => ?y8)) hS0 ?_
  case y8 => first | (go_simp; rfl) | (go_simp; done) | rfl
  simp only [Act.put, List.setIfInBounds_toArray, List.set_cons_zero, List.set_cons_succ]
  refine wpAnyH_do (i := 9) (by kernel_rfl) rfl rfl (fun K hK => ?_)
  go_simp
  obtain ⟨wa, hwa⟩ : ∃ wa, wd.alloc (.cells #[.string ⟨#[]⟩, .int .i64 0, .int .i64 0] 80) = wa := ⟨_, rfl⟩
  have hba : Below wd.heap.size wd wa := hwa ▸ (Below.refl _ _).alloc (Nat.le_refl _) _
  have hxa : wa.heap[wd.heap.size]? = some (.cells #[.string ⟨#[]⟩, .int .i64 0, .int .i64 0] 80 (0, 0)) := by rw [← hwa]; exact heap_alloc_new _ _
  rw [hwa]
  have hSa := hS0.trans (hba.mono hS0.size)
  refine hK _ _ hSa ?_
  clear hK K
  try simp only [Act.put, List.setIfInBounds_toArray, List.set_cons_zero, List.set_cons_succ]
  refine wpAnyH_do (i := 10) (by kernel_rfl) rfl rfl (fun K hK => ?_)
  refine wp_store_row 80 (.tmp 6) (.tmp 17) rfl wd.heap.size #[.string A.text, .int .i64 A.arr, .int .i64 A.place] rfl rfl 80 _ hxa sizeArt rfl oneArt ?_
  have hxb := setRow_heap _ _ _ #[.string A.text, .int .i64 A.arr, .int .i64 A.place] _ _ hxa
  have hbb : Below w1.heap.size w1 (wa.setRow wd.heap.size #[.string A.text, .int .i64 A.arr, .int .i64 A.place]) := below_setRow hSa hS0.size _
  obtain ⟨wb, hwb⟩ : ∃ wb, wa.setRow wd.heap.size #[.string A.text, .int .i64 A.arr, .int .i64 A.place] = wb := ⟨_, rfl⟩
  rw [hwb] at hxb hbb ⊢
  clear hwb hwa hxa hSa hba
  refine hK _ _ hbb ?_
  clear hK K
  try simp only [Act.put, List.setIfInBounds_toArray, List.set_cons_zero, List.set_cons_succ]
  refine wpAnyH_takeI (i := 11) (v := ?v9) rfl (by kernel_rfl) (by kernel_rfl) (by kernel_rfl) (fun _ _ _ h => h) (yieldsIf_run rfl (fun w' hw' => ?y9)) hbb ?_
  case y9 => first | (go_simp; rfl) | (go_simp; done) | rfl
  simp only [Act.put, List.setIfInBounds_toArray, List.set_cons_zero, List.set_cons_succ]
  refine wpAnyH_done (by kernel_rfl) ?_ _
  refine NoPanic.normal ?_
  have hca : wb.cell? ⟨wd.heap.size, 0, none⟩ = some (.string A.text) := by rw [cell_of_row _ _ _ _ _ _ hxb]; rfl
  have HBB := Lib.hid (HB1.out.trans (hbb.mono HB1.out.size))
  clear hxb hbb hS0
  cases is with
  | false =>
    obtain rfl := HZ.out rfl
    clear HZ
    go_wp2_with fail
    exact bodyPost_ret (v := .tuple #[.string ⟨#[]⟩, .int .i64 8]) (by simp [results, Try.results19, go_sem]) rfl ⟨rfl, HBB.out⟩
  | true =>
    go_wp2_with fail
    exact bodyPost_ret (v := .tuple #[.string A.text, .int .i64 0]) (by simp [results, Try.results19, go_sem]) rfl ⟨rfl, HBB.out⟩

set_option maxRecDepth 100000 in
set_option maxHeartbeats 2000000 in
theorem Bytes_any {w : World} {b m : Nat} {S : SpD} (h : SpAt w b m S) :
    Calls Try.prog 20 #[.pointer (some ⟨b, 0, none⟩)] w fun e w' => e = .returned (.int .i64 (S.size : Int)) ∧ Below w.heap.size w w' := by
  have hc := h.cells.2.1
  clear h
  go_enter Try.func20, Try.ntmps20
  go_wp2_with fail
  exact bodyPost_ret (v := .int .i64 (S.size : Int)) (by simp [results, Try.results20, go_sem]) rfl ⟨rfl, Below.refl _ _⟩
theorem Bytes_nil {w : World} : Calls Try.prog 20 #[.pointer none] w fun e w' => e = .returned (.int .i64 0) ∧ Below w.heap.size w w' := by
  go_enter Try.func20, Try.ntmps20
  go_wp2_with fail
  exact bodyPost_ret (v := .int .i64 0) (by simp [results, Try.results20, go_sem]) rfl ⟨rfl, Below.refl _ _⟩
theorem Free_nil {w : World} : Calls Try.prog 21 #[.pointer none] w fun e w' => e = .returned (.int .i64 0) ∧ Below w.heap.size w w' := by
  go_enter Try.func21, Try.ntmps21
  go_wp2_with fail
  exact bodyPost_ret (v := .int .i64 0) (by simp [results, Try.results21, go_sem]) rfl ⟨rfl, Below.refl _ _⟩
theorem Len_nil {w : World} : Calls Try.prog 22 #[.pointer none] w fun e w' => e = .returned (.int .i64 0) ∧ Below w.heap.size w w' := by
  go_enter Try.func22, Try.ntmps22
  go_wp2_with fail
  exact bodyPost_ret (v := .int .i64 0) (by simp [results, Try.results22, go_sem]) rfl ⟨rfl, Below.refl _ _⟩
set_option maxRecDepth 100000 in
set_option maxHeartbeats 2000000 in
theorem Free_any {w : World} {b m : Nat} {S : SpD} (h : SpAt w b m S) (hok : S.Ok) :
    Calls Try.prog 21 #[.pointer (some ⟨b, 0, none⟩)] w fun e w' => e = .returned (.int .i64 (S.budget - (S.size : Int))) ∧ Below w.heap.size w w' := by
  have HC := Lib.hid (show ∀ w', Below w.heap.size w w' → w'.cell? ⟨b, 0, none⟩ = some (.int .i64 S.budget) ∧ w'.cell? ⟨b, 1, none⟩ = some (.int .i64 (S.size : Int)) from fun w' hw' => ⟨(h.below hw').cells.1, (h.below hw').cells.2.1⟩)
  have hwr : IntKind.i64.wrap (S.budget - (S.size : Int)) = S.budget - (S.size : Int) := IntWalk.i64_in _ (by have := hok.b0; have := hok.b1; have := hok.sz; omega)
  obtain ⟨B, hB⟩ : ∃ B, S.budget = B := ⟨_, rfl⟩
  obtain ⟨N, hN⟩ : ∃ N : Int, (S.size : Int) = N := ⟨_, rfl⟩
  rw [hB, hN] at HC hwr ⊢
  clear h hok hB hN
  go_enter Try.func21, Try.ntmps21
  go_wp2_with fail
  refine wp_region_noPanic ?_
  refine wp_region_H (Below w.heap.size w) (by kernel_rfl) ?_
  have hS0 : (Below w.heap.size w) w.drew := (Below.refl _ _).drew
  obtain ⟨wd, hwd⟩ : ∃ wd, w.drew = wd := ⟨_, rfl⟩
  rw [hwd] at hS0 ⊢
  clear hwd
  refine wpAnyH_takeI (i := 0) (v := ?v10) rfl (by kernel_rfl) (by kernel_rfl) (by kernel_rfl) (fun _ _ _ h => h) (yieldsIf_run rfl (fun w' hw' => ?y10)) hS0 ?_
  case y10 => first | (go_simp; rfl) | (go_simp; done) | rfl
  simp only [Act.put, List.setIfInBounds_toArray, List.set_cons_zero, List.set_cons_succ]
  refine wpAnyH_takeI (i := 1) (v := ?v11) rfl (by kernel_rfl) (by kernel_rfl) (by kernel_rfl) (fun _ _ _ h => h) (yieldsIf_run rfl (fun w' hw' => ?y11)) hS0 ?_
  case y11 => first | (go_simp; rfl) | (go_simp; done) | rfl
  simp only [Act.put, List.setIfInBounds_toArray, List.set_cons_zero, List.set_cons_succ]
  refine wpAnyH_takeI (i := 2) (v := ?v12) rfl (by kernel_rfl) (by kernel_rfl) (by kernel_rfl) (fun _ _ _ h => h) (yieldsIf_run rfl (fun w' hw' => ?y12)) hS0 ?_
  case y12 => first | (go_simp; rfl) | (go_simp; done) | rfl
  simp only [Act.put, List.setIfInBounds_toArray, List.set_cons_zero, List.set_cons_succ]
  refine wpAnyH_takeI (i := 3) (v := .int .i64 B) rfl (by kernel_rfl) (by kernel_rfl) (by kernel_rfl) (fun _ _ _ h => h) (yieldsIf_run rfl (fun w' hw' => ?y13)) hS0 ?_
  case y13 => (have hc := (HC.out w' hw').1; clear hw'; first | (go_simp; rfl) | (go_simp; done))
  simp only [Act.put, List.setIfInBounds_toArray, List.set_cons_zero, List.set_cons_succ]
  refine wpAnyH_takeI (i := 4) (v := ?v14) rfl (by kernel_rfl) (by kernel_rfl) (by kernel_rfl) (fun _ _ _ h => h) (yieldsIf_run rfl (fun w' hw' => ?y14)) hS0 ?_
  case y14 => first | (go_simp; rfl) | (go_simp; done) | rfl
  simp only [Act.put, List.setIfInBounds_toArray, List.set_cons_zero, List.set_cons_succ]
  refine wpAnyH_takeI (i := 5) (v := ?v15) rfl (by kernel_rfl) (by kernel_rfl) (by kernel_rfl) (fun _ _ _ h => h) (yieldsIf_run rfl (fun w' hw' => ?y15)) hS0 ?_
  case y15 => first | (go_simp; rfl) | (go_simp; done) | rfl
  simp only [Act.put, List.setIfInBounds_toArray, List.set_cons_zero, List.set_cons_succ]
  refine wpAnyH_takeI (i := 6) (v := ?v16) rfl (by kernel_rfl) (by kernel_rfl) (by kernel_rfl) (fun _ _ _ h => h) (yieldsIf_run rfl (fun w' hw' => ?y16)) hS0 ?_
  case y16 => first | (go_simp; rfl) | (go_simp; done) | rfl
  simp only [Act.put, List.setIfInBounds_toArray, List.set_cons_zero, List.set_cons_succ]
  refine wpAnyH_takeI (i := 7) (v := .int .i64 N) rfl (by kernel_rfl) (by kernel_rfl) (by kernel_rfl) (fun _ _ _ h => h) (yieldsIf_run rfl (fun w' hw' => ?y17)) hS0 ?_
  case y17 => (have hc := (HC.out w' hw').2; clear hw'; first | (go_simp; rfl) | (go_simp; done))
  simp only [Act.put, List.setIfInBounds_toArray, List.set_cons_zero, List.set_cons_succ]
  refine wpAnyH_takeI (i := 8) (v := .int .i64 (B - N)) rfl (by kernel_rfl) (by kernel_rfl) (by kernel_rfl) (fun _ _ _ h => h) (yieldsIf_run rfl (fun w' hw' => ?y18)) hS0 ?_
  case y18 => first | (go_simp; rfl) | (go_simp; done) | rfl
  simp only [Act.put, List.setIfInBounds_toArray, List.set_cons_zero, List.set_cons_succ]
  refine wpAnyH_takeI (i := 9) (v := ?v19) rfl (by kernel_rfl) (by kernel_rfl) (by kernel_rfl) (fun _ _ _ h => h) (yieldsIf_run rfl (fun w' hw' => ?y19)) hS0 ?_
  case y19 => first | (go_simp; rfl) | (go_simp; done) | rfl
  simp only [Act.put, List.setIfInBounds_toArray, List.set_cons_zero, List.set_cons_succ]
  refine wpAnyH_done (by kernel_rfl) ?_ _
  refine NoPanic.normal ?_
  go_wp2_with fail
  exact bodyPost_ret (v := .int .i64 (B - N)) (by simp [results, Try.results21, go_sem]) rfl ⟨rfl, hS0⟩
set_option maxRecDepth 100000 in
set_option maxHeartbeats 2000000 in
theorem Len_any {w : World} {b m : Nat} {S : SpD} (h : SpAt w b m S) :
    Calls Try.prog 22 #[.pointer (some ⟨b, 0, none⟩)] w fun e w' => e = .returned (.int .i64 (S.list.length : Int)) ∧ Below w.heap.size w w' := by
  have hc := h.cells.2.2.2
  obtain ⟨es, clock, hm, hes⟩ := h.hm.size
  have hes : es.size = S.list.length := hes.trans (List.length_map _)
  obtain ⟨N, hN⟩ : ∃ N, S.list.length = N := ⟨_, rfl⟩
  rw [hN] at hes ⊢
  have hln : ∀ ty, (Builtin.len_ #[76] ty #[.map (some m)]).run Try.prog w = .ok (.int .i64 (N : Int)) w := fun ty => by
    simp [Builtin.len_, run_underlying Try.underlying76, MapKept.run_getObj_map hm, hes, Result.andThen, goInt]
  clear h hN hes hm
  go_enter Try.func22, Try.ntmps22
  go_wp2_with fail
  exact bodyPost_ret (v := .int .i64 (N : Int)) (by simp [results, Try.results22, go_sem]) rfl ⟨rfl, Below.refl _ _⟩
set_option maxRecDepth 100000 in
set_option maxHeartbeats 2000000 in
theorem Get_nil {w : World} (k : IdB) : Calls Try.prog 19 #[.pointer none, .agg (bvs k.1).toArray] w fun e w' => e = .returned (.tuple #[.string ⟨#[]⟩, .int .i64 1]) ∧ Below w.heap.size w w' := by
  obtain ⟨w1, hw1⟩ : ∃ w1, w.alloc (.cells (bvs k.1).toArray 30) = w1 := ⟨_, rfl⟩
  have hb1 : Below w.heap.size w w1 := hw1 ▸ (Below.refl _ _).alloc (Nat.le_refl _) _
  have hx1 : w1.heap[w.heap.size]? = some (.cells (bvs k.1).toArray 30 (0, 0)) := by rw [← hw1]; exact heap_alloc_new _ _
  have HB1 := Lib.hid hb1
  clear hb1 hx1
  go_enter Try.func19, Try.ntmps19
  go_wp2_with fail
  exact bodyPost_ret (v := .tuple #[.string ⟨#[]⟩, .int .i64 1]) (by simp [results, Try.results19, go_sem]) rfl ⟨rfl, HB1.out⟩
set_option maxRecDepth 100000 in
set_option maxHeartbeats 2000000 in
theorem Has_any {w : World} {b m : Nat} {S : SpD} (h : SpAt w b m S) (k : IdB) :
    Calls Try.prog 34 #[.pointer (some ⟨b, 0, none⟩), .agg (bvs k.1).toArray] w fun e w' => e = .returned (.bool (S.find k).isSome) ∧ Below w.heap.size w w' := by
  obtain ⟨w1, hw1⟩ : ∃ w1, w.alloc (.cells (bvs k.1).toArray 30) = w1 := ⟨_, rfl⟩
  have hb1 : Below w.heap.size w w1 := hw1 ▸ (Below.refl _ _).alloc (Nat.le_refl _) _
  have hx1 : w1.heap[w.heap.size]? = some (.cells (bvs k.1).toArray 30 (0, 0)) := by rw [← hw1]; exact heap_alloc_new _ _
  have hg := Get_any (h.below hb1) k
  obtain ⟨A, hA⟩ : ∃ A, (S.find k).getD zA = A := ⟨_, rfl⟩
  obtain ⟨is, his⟩ : ∃ is, (S.find k).isSome = is := ⟨_, rfl⟩
  rw [hA, his] at hg
  rw [his]
  have HG := Lib.hid hg
  have HB1 := Lib.hid hb1
  have HX := Lib.hid (range_block hx1)
  have HS := Lib.hid (sizeId k)
  clear hg h hb1 hA his hx1
  go_enter Try.func34, Try.ntmps34
  go_wp2_with (with_reducible refine wpList_load_mid rfl 30 _ rfl w.heap.size (0) rfl (bvs k.1) _ HX.out Try.underlying30 rfl HS.out ?_)
  refine HG.out.mono ?_
  rintro e w2 ⟨rfl, hb2⟩
  have HB2 := Lib.hid (HB1.out.trans (hb2.mono HB1.out.size))
  clear hb2
  cases is with
  | false =>
    rw [if_neg (by decide)]
    go_wp2_with fail
    exact bodyPost_ret (v := .bool false) (by simp [results, Try.results34, go_sem]) rfl ⟨rfl, HB2.out⟩
  | true =>
    rw [if_pos rfl]
    go_wp2_with fail
    exact bodyPost_ret (v := .bool true) (by simp [results, Try.results34, go_sem]) rfl ⟨rfl, HB2.out⟩
set_option maxRecDepth 100000 in
set_option maxHeartbeats 2000000 in
theorem Has_nil {w : World} (k : IdB) : Calls Try.prog 34 #[.pointer none, .agg (bvs k.1).toArray] w fun e w' => e = .returned (.bool false) ∧ Below w.heap.size w w' := by
  obtain ⟨w1, hw1⟩ : ∃ w1, w.alloc (.cells (bvs k.1).toArray 30) = w1 := ⟨_, rfl⟩
  have hb1 : Below w.heap.size w w1 := hw1 ▸ (Below.refl _ _).alloc (Nat.le_refl _) _
  have hx1 : w1.heap[w.heap.size]? = some (.cells (bvs k.1).toArray 30 (0, 0)) := by rw [← hw1]; exact heap_alloc_new _ _
  have HG := Lib.hid (Get_nil (w := w1) k)
  have HB1 := Lib.hid hb1
  have HX := Lib.hid (range_block hx1)
  have HS := Lib.hid (sizeId k)
  clear hb1 hx1
  go_enter Try.func34, Try.ntmps34
  go_wp2_with (with_reducible refine wpList_load_mid rfl 30 _ rfl w.heap.size (0) rfl (bvs k.1) _ HX.out Try.underlying30 rfl HS.out ?_)
  refine HG.out.mono ?_
  rintro e w2 ⟨rfl, hb2⟩
  have HB2 := Lib.hid (HB1.out.trans (hb2.mono HB1.out.size))
  clear hb2
  go_wp2_with fail
  exact bodyPost_ret (v := .bool false) (by simp [results, Try.results34, go_sem]) rfl ⟨rfl, HB2.out⟩
end Go.Proofs.Ytnmdgjodbikndaa
