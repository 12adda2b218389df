/- The spool: Encode. -/
import Derived.Test.YtnmdgjodbikndaaS37
namespace Go.Proofs.Ytnmdgjodbikndaa
open Go.RowKit
set_option linter.unusedVariables false
set_option linter.unusedSimpArgs false
attribute [local go_sem] Oper.semAt_some

def eQ (B N : Nat) (pre : List ArtD) : List UInt8 := be8 B ++ be8 N ++ pre.flatMap (fun x => encA (toR x))
theorem eQ_snoc (B N : Nat) (pre : List ArtD) (x : ArtD) : eQ B N (pre ++ [x]) = eQ B N pre ++ encA (toR x) := by
  unfold eQ
  rw [List.flatMap_append, List.flatMap_singleton]
  simp only [List.append_assoc]
theorem eQ_all {S : SpD} : eQ S.budget.toNat S.list.length S.list = encS S.budget.toNat S.ref := by
  unfold eQ encS SpD.ref
  rw [List.length_map, List.flatMap_map]
theorem eQ_le (B N : Nat) {pre l : List ArtD} (h : pre <+: l) : (eQ B N pre).length ≤ (eQ B N l).length := by
  obtain ⟨t, rfl⟩ := h
  unfold eQ
  simp only [List.length_append, List.flatMap_append]
  omega
def AppPostN (w : World) (B : Nat) (v : Value) (L : List UInt8) (m : Nat) (e : Ending) (w' : World) : Prop := ∃ a c, e = .returned (.slice a m c) ∧ OwnL byE w' B (.slice a m c) L ∧ Chg (fun k => v.ownBlock = some k) w w'
theorem appendNumber_n {w : World} {B : Nat} {v : Value} (L : List UInt8) (h : OwnL byE w B v L) (hB : B ≤ w.heap.size) (hl : L.length < 900000000) (n : Nat) (hn : n < 9223372036854775808) {m : Nat} (hm : (L ++ be8 n).length = m) :
    Calls Try.prog 56 #[v, .int .i64 (n : Int)] w (AppPostN w B v (L ++ be8 n) m) := by
  subst hm
  refine (appendNumber_any L h hB hl n hn).mono ?_
  rintro e w' ⟨a, c, h1, h2, h3, _⟩
  exact ⟨a, c, h1, h2, h3⟩
abbrev Mem (S : SpD) := {x : ArtD // x ∈ S.list}
def EnI (w1 w6 : World) (A3 B N : Nat) (S : SpD) (pre : List (Mem S)) (W : World) : Prop :=
  ∃ (a : Option Addr) (n c : Nat), EI w1 A3 (eQ B N (pre.map Subtype.val)) a n c W ∧ w6.heap.size ≤ W.heap.size
theorem enI_from {w1 w6 : World} {A3 B N : Nat} {S : SpD} (h16 : w1.heap.size ≤ w6.heap.size) : OwnFrom w6.heap.size (EnI w1 w6 A3 B N S) := by
  rintro pre W W' row ⟨a, n, c, h, hz⟩ hg hr
  exact ⟨a, n, c, h.from hg hr h16, Nat.le_trans hz hg.size⟩
theorem fm_le : ∀ {L : List ArtD}, (∀ x ∈ L, x.text.size ≤ 65536) → (L.flatMap (fun x => encA (toR x))).length ≤ L.length * 65584
  | [], _ => by simp
  | x :: L, h => by
    have h1 := fm_le (L := L) (fun y hy => h y (List.mem_cons_of_mem _ hy))
    have h2 := h x List.mem_cons_self
    have h3 : (toR x).text.size = x.text.size := rfl
    rw [List.flatMap_cons, List.length_append, encA_length, h3, List.length_cons]
    omega
theorem eQ_bound {S : SpD} (hok : S.Ok) (B N : Nat) (pre : List (Mem S)) : (eQ B N (pre.map Subtype.val)).length ≤ 16 + pre.length * 65584 := by
  have h := fm_le (L := pre.map Subtype.val) (fun x hx => by
    obtain ⟨y, _, rfl⟩ := List.mem_map.1 hx
    exact (hok.tx y.1 y.2).2)
  unfold eQ
  rw [List.length_append, List.length_append, be8_length, be8_length]
  rw [List.length_map] at h
  omega
set_option maxRecDepth 100000 in
set_option maxHeartbeats 2000000 in
theorem Encode_any {w : World} {b m : Nat} {S : SpD} (h : SpAt w b m S) (hok : S.Ok) (hl : S.list.length < 1000) :
    Calls Try.prog 33 #[.pointer (some ⟨b, 0, none⟩)] w (fun e w' => ∃ a c, e = .returned (.slice a (encS S.budget.toNat S.ref).length c) ∧ OwnL byE w' w.heap.size (.slice a (encS S.budget.toNat S.ref).length c) (encS S.budget.toNat S.ref) ∧ Below w.heap.size w w') := by
  have hAll := eQ_all (S := S)
  obtain ⟨N, hN⟩ : ∃ N, S.list.length = N := ⟨_, rfl⟩
  obtain ⟨B, hB⟩ : ∃ B : Nat, S.budget = (B : Int) := ⟨S.budget.toNat, by have := hok.b0; omega⟩
  obtain ⟨LL, hLL⟩ : ∃ LL, encS S.budget.toNat S.ref = LL := ⟨_, rfl⟩
  rw [hLL] at hAll ⊢
  rw [hN, hB, Int.toNat_natCast] at hAll
  obtain ⟨T, hTT⟩ : ∃ T, LL.length = T := ⟨_, rfl⟩
  rw [hTT]
  rw [hN] at hl
  obtain ⟨w1, hw1⟩ : ∃ w1, w.alloc (.cells #[.pointer (some ⟨b, 0, none⟩)] 24) = w1 := ⟨_, rfl⟩
  have hb1 : Below w.heap.size w w1 := hw1 ▸ (Below.refl _ _).alloc (Nat.le_refl _) _
  have hx1 : w1.heap[w.heap.size]? = some (.cells #[.pointer (some ⟨b, 0, none⟩)] 24 (0, 0)) := by rw [← hw1]; exact heap_alloc_new _ _
  have hcs := cell_of_row w1 _ 0 _ _ _ hx1
  simp only [List.getElem?_toArray, List.getElem?_cons_zero] at hcs
  have hsp1 := h.below hb1
  have hc0 := hsp1.cells.1
  rw [hB] at hc0
  have HB1 := Lib.hid hb1
  have HX1 := Lib.hid hx1
  have HSP1 := Lib.hid hsp1
  have HOK := Lib.hid hok
  have HN := Lib.hid hN
  have HNL := Lib.hid hl
  have HBB := Lib.hid hB
  have HTT := Lib.hid hTT
  have HAL := Lib.hid hAll
  have HBL := Lib.hid (show B < 9223372036854775808 by have := hok.b1; omega)
  clear hLL hb1 hx1 hsp1 hok hN hl hB hTT hAll h
  refine (callsIn_wide (n := 4)).1 ?_
  refine callsIn_of_wp_marks Try.func33 rfl trivial ?_ rfl
  simp only [Try.ntmps33, List.size_toArray, List.length_cons, List.length_nil, Nat.reduceAdd, Nat.reduceSub, Array.replicate_succ, Array.replicate_zero, List.push_toArray, List.append_toArray, List.nil_append, List.cons_append]
  refine wpIn_wide.2 ?_
  go_wp2_with fail
  try rw [hw1]
  refine (appendNumber_any (B := w1.heap.size) [] (ownL_nil byE _ _) (Nat.le_refl _) (by decide) B HBL.out).mono ?_
  rintro e w2 ⟨a, c, rfl, ho, hc, hk⟩
  rw [List.nil_append, be8_length] at ho hk ⊢
  have hb2 : Below w1.heap.size w1 w2 := hc.below (fun k e => by cases e) (Nat.le_refl _)
  obtain ⟨w3, hw3⟩ : ∃ w3, w2.alloc (.cells #[.slice a 8 c] 22) = w3 := ⟨_, rfl⟩
  have hb3 : Below w2.heap.size w2 w3 := hw3 ▸ (Below.refl _ _).alloc (Nat.le_refl _) _
  have hx3 : w3.heap[w2.heap.size]? = some (.cells #[.slice a 8 c] 22 (0, 0)) := by rw [← hw3]; exact heap_alloc_new _ _
  have HW3 := Lib.hid hw3
  have HB3 := Lib.hid (hb2.trans (hb3.mono hb2.size))
  have HX3 := Lib.hid hx3
  have HO3 := Lib.hid (ho.below hb3)
  have HZ2 := Lib.hid (show w1.heap.size ≤ w2.heap.size ∧ w3.heap.size = w2.heap.size + 1 from ⟨hb2.size, by rw [← hw3, World.size_alloc]⟩)
  clear hw3 hb3 hx3 hb2 ho hc hk hc0 hcs
  go_wp2_with fail
  rw [HW3.out]
  clear HW3
  obtain ⟨A1, hA1⟩ : ∃ A1, w.heap.size = A1 := ⟨_, rfl⟩
  obtain ⟨A3, hA3⟩ : ∃ A3, w2.heap.size = A3 := ⟨_, rfl⟩
  have HZ := Lib.hid (show A1 = w.heap.size ∧ w1.heap.size = A1 + 1 ∧ w1.heap.size ≤ A3 ∧ w3.heap.size = A3 + 1 from ⟨hA1.symm, by rw [← hA1, ← hw1, World.size_alloc], by have := HZ2.out; omega, by have := HZ2.out; omega⟩)
  have HEI := Lib.hid (show EI w1 A3 (be8 B) a 8 c w3 from ⟨by rw [← hA3]; exact HX3.out, HO3.out, be8_length B, HB3.out⟩)
  have HX13 : Hid (w3.heap[A1]? = some (.cells #[.pointer (some ⟨b, 0, none⟩)] 24 (0, 0))) := Lib.hid (by rw [← hA1]; exact (HB3.out.block _ (Array.getElem?_eq_some_iff.1 HX1.out).1).trans HX1.out)
  have HSP3 := Lib.hid (HSP1.out.below HB3.out)
  rw [hA1, hA3]
  clear hw1 hA1 hA3 HZ2 HO3 HX3
  have HCF := Lib.hid (show ∀ w' : World, (∀ (A : Nat) (cs : Array Value) (T : TypeId) (fr : Nat × Nat), T ≠ 5 → w3.heap[A]? = some (.cells cs T fr) → w'.heap[A]? = some (.cells cs T fr)) → w'.cell? ⟨A1, 0, none⟩ = some (.pointer (some ⟨b, 0, none⟩)) ∧ w'.cell? ⟨A3, 0, none⟩ = some (.slice a 8 c) from fun w' hw' =>
    ⟨by rw [cell_of_row _ _ _ _ _ _ (hw' A1 _ _ _ (by decide) HX13.out)]; rfl, by rw [cell_of_row _ _ _ _ _ _ (hw' A3 _ _ _ (by decide) HEI.out.cell)]; rfl⟩)
  have HCC := Lib.hid (show ∀ w', Below w3.heap.size w3 w' → w'.cell? ⟨A1, 0, none⟩ = some (.pointer (some ⟨b, 0, none⟩)) ∧ w'.cell? ⟨A3, 0, none⟩ = some (.slice a 8 c) from fun w' hw' => HCF.out w' (fun A cs T fr _ hA => (hw'.block _ (Array.getElem?_eq_some_iff.1 hA).1).trans hA))
  have HLEN := Lib.hid (show ∀ w', Below w3.heap.size w3 w' → Calls Try.prog 22 #[.pointer (some ⟨b, 0, none⟩)] w' fun e w'' => e = .returned (.int .i64 (N : Int)) ∧ Below w'.heap.size w' w'' from fun w' hw' => by have h := Len_any (HSP3.out.below hw'); rw [HN.out] at h; exact h)
  refine wp_region_noPanic ?_
  refine wp_region_G [4] (fun w' => w'.cell? ⟨A1, 0, none⟩ = some (.pointer (some ⟨b, 0, none⟩)) ∧ w'.cell? ⟨A3, 0, none⟩ = some (.slice a 8 c)) (by kernel_rfl) ?_
  have hS0 : (fun w' => w'.cell? ⟨A1, 0, none⟩ = some (.pointer (some ⟨b, 0, none⟩)) ∧ w'.cell? ⟨A3, 0, none⟩ = some (.slice a 8 c)) w3.drew := HCC.out _ (Below.refl _ _).drew
  obtain ⟨wd, hwd⟩ : ∃ wd, w3.drew = wd := ⟨_, rfl⟩
  have hX0 : Below w3.heap.size w3 w3.drew := (Below.refl _ _).drew
  rw [hwd] at hS0 hX0 ⊢
  clear hwd
  refine wpAnyG_take (i := 0) (v := ?v1) rfl (by kernel_rfl) (by kernel_rfl) (by kernel_rfl) (by kernel_rfl) (fun _ _ _ h => h) (yieldsIf_run rfl (fun w' hw' => ?y1)) hS0 ?_
  case y1 => (have hc0 := hw'.1; have hc1 := hw'.2; clear hw'; first | (go_simp; rfl) | (go_simp; done))
  simp only [Act.put, List.setIfInBounds_toArray, List.set_cons_zero, List.set_cons_succ]
  refine wpAnyG_take (i := 1) (v := ?v2) rfl (by kernel_rfl) (by kernel_rfl) (by kernel_rfl) (by kernel_rfl) (fun _ _ _ h => h) (yieldsIf_run rfl (fun w' hw' => ?y2)) hS0 ?_
  case y2 => (have hc0 := hw'.1; have hc1 := hw'.2; clear hw'; first | (go_simp; rfl) | (go_simp; done))
  simp only [Act.put, List.setIfInBounds_toArray, List.set_cons_zero, List.set_cons_succ]
  refine wpAnyG_do (i := 2) (by kernel_rfl) rfl rfl (fun K hK => ?_)
  go_simp
  go_at_call 22
  refine (HLEN.out _ hX0).mono ?_
  rintro e wl ⟨rfl, hbl⟩
  have hX2 : Below w3.heap.size w3 wl := hX0.trans (hbl.mono hX0.size)
  have hS2 := HCC.out wl hX2
  refine hK _ _ hS2 ?_
  clear hK K
  try simp only [Act.put, List.setIfInBounds_toArray, List.set_cons_zero, List.set_cons_succ]
  refine wpAnyG_do (i := 3) (by kernel_rfl) rfl rfl (fun K hK => ?_)
  go_simp
  go_at_call 56
  refine (appendNumber_any (B := w1.heap.size) (be8 B) (HEI.out.to hX2).own (HEI.out.to hX2).below.size (by rw [be8_length]; decide) N (by have := HNL.out; omega)).mono ?_
  rintro e w4 ⟨a4, c4, rfl, ho4, hc4, hk4⟩
  rw [List.length_append, be8_length, be8_length] at ho4 ⊢
  have hS4 := HCF.out w4 (fun A cs T fr hT hA => (HEI.out.to hX2).other hc4 hT ((hX2.block _ (Array.getElem?_eq_some_iff.1 hA).1).trans hA))
  refine hK _ _ hS4 ?_
  clear hK K
  try simp only [Act.put, List.setIfInBounds_toArray, List.set_cons_zero, List.set_cons_succ]
  refine wpAnyG_fin (i := 4) (by kernel_rfl) rfl rfl (by kernel_rfl) (fun K hK => ?_)
  have cd := hS4.2
  have h34 : w4.heap[A3]? = _ := (HEI.out.to hX2).other hc4 (by decide) (HEI.out.to hX2).cell
  have fd := frozen_of_row w4 _ 0 _ _ h34
  go_simp
  refine hK _ _ ?_
  clear hK K
  try simp only [Act.put, List.setIfInBounds_toArray, List.set_cons_zero, List.set_cons_succ]
  refine wpAnyG_done (by kernel_rfl) ?_ _
  refine NoPanic.normal ?_
  have hEI5 := EI.put h34 ho4 (by rw [List.length_append, be8_length, be8_length]) ((HEI.out.to hX2).grew hc4) HZ.out.2.2.1
  have hk13 : (w4.setCell ⟨A3, 0, none⟩ (.slice a4 16 c4)).heap[A1]? = some (.cells #[.pointer (some ⟨b, 0, none⟩)] 24 (0, 0)) := (heap_setCell_other w4 ⟨A3, 0, none⟩ _ _ (show A1 ≠ A3 by have := HZ.out; omega)).trans ((HEI.out.to hX2).other hc4 (by decide) ((hX2.block _ (Array.getElem?_eq_some_iff.1 HX13.out).1).trans HX13.out))
  have hsz5 : A3 < (w4.setCell ⟨A3, 0, none⟩ (.slice a4 16 c4)).heap.size := (Array.getElem?_eq_some_iff.1 hEI5.cell).1
  obtain ⟨w5, hw5⟩ : ∃ w5, w4.setCell ⟨A3, 0, none⟩ (.slice a4 16 c4) = w5 := ⟨_, rfl⟩
  rw [hw5] at hEI5 hk13 hsz5 ⊢
  have HE5 := Lib.hid (show EI w1 A3 (eQ B N []) a4 16 c4 w5 from (by unfold eQ; rw [List.flatMap_nil, List.append_nil]; exact hEI5))
  have HK13 := Lib.hid hk13
  have HSP5 := Lib.hid (HSP1.out.below hEI5.below)
  have HSZ5 := Lib.hid hsz5
  have hc1 := cell_of_row w5 _ 0 _ _ _ hk13
  simp only [List.getElem?_toArray, List.getElem?_cons_zero] at hc1
  clear hw5 hEI5 hk13 hsz5 cd fd h34 hX2 hS2 hX0 hS0 hS4 ho4 hc4 hk4 hbl HCF HCC HLEN HEI HX13 HSP3 HB3
  go_wp2_with fail
  refine (All_any (some ⟨b, 0, none⟩)).mono ?_
  rintro e w6 ⟨rfl, hw6⟩
  have hb6 : Below w5.heap.size w5 w6 := hw6 ▸ (Below.refl _ _).alloc (Nat.le_refl _) _
  have c6 : w6.cell? ⟨w5.heap.size, 0, none⟩ = some (.pointer (some ⟨b, 0, none⟩)) := by rw [cell_of_row w6 _ 0 _ _ _ (hw6 ▸ heap_alloc_new w5 _)]; rfl
  have hs6 : w6.heap.size = w5.heap.size + 1 := by rw [hw6, World.size_alloc]
  have HE6 := Lib.hid (HE5.out.to hb6)
  have HK16 := Lib.hid ((hb6.block _ (Array.getElem?_eq_some_iff.1 HK13.out).1).trans HK13.out)
  have HSP6 := Lib.hid (HSP5.out.below hb6)
  have HC6 := Lib.hid c6
  have HZ6 := Lib.hid (show A1 < w1.heap.size ∧ w1.heap.size ≤ A3 ∧ A3 < w6.heap.size ∧ w5.heap.size < w6.heap.size ∧ w1.heap.size ≤ w6.heap.size ∧ A1 < A3 by have := HZ.out; have := HSZ5.out; omega)
  clear hw6 hb6 c6 hs6 hc1 HE5 HK13 HSP5 HSZ5
  go_wp2_with fail
  refine (wpIn_wide (n := 4)).1 ?_
  refine wpIn_range_boxedK (Kp := RowsKept w6.heap.size) (fun (x : Mem S) => (entC x.1).toArray) (T := 44) (q := 4) (p0 := 18) rfl rfl rfl rfl rfl rfl rfl (by decide) (by show 18 < 42; decide) (by show 4 < 42; decide) (entC zA).toArray 34 (by kernel_rfl) (by rw [List.size_toArray, entC_length]) (fun x => by rw [List.size_toArray, entC_length]) (fun x => all_oneCell_toArray (entC_one x.1))
    (gf := 36) (lb := #[.pointer (some ⟨w5.heap.size, 0, none⟩)]) rfl (enters_of Try.func36 (by kernel_rfl) rfl) RowsKept.trans (fun W l o o' h ho => (CellsKept.putObj W l o o' h ho).rows) (fun W W' hb => (CellsKept.of_below hb).rows) 
    (all_stopsR w5.heap.size w6.heap.size _ Subtype.val S.list.attach S.list (List.attach_map_subtype_val _).symm (by have := HN.out; have := HNL.out; omega) w6 HZ6.out.2.2.2.1 (Nat.le_refl _) HC6.out (fun W hW => entries_any (HSP6.out.below hW) HOK.out (by have := HN.out; have := HNL.out; omega))) (Below.refl _ _)
    (EnI w1 w6 A3 B N S) (fun _ _ _ => False) (enI_from HZ6.out.2.2.2.2.1) (fun c _ _ _ _ h => h.elim) ⟨a4, 16, c4, HE6.out, Nat.le_refl _⟩ (fun pre W h => by obtain ⟨_, _, _, _, h⟩ := h; exact h) ?body ?done ?stop
  case stop => exact fun _ _ _ _ _ _ h => h.elim
  case body =>
    rintro l pre ⟨X, hXm⟩ r W hl hlr ⟨a, n, c, hei, hw6z⟩ hrB hx hlt
    have hx : W.heap[r]? = some (.cells (entC X).toArray 44 (0, 0)) := hx
    have hbi : BI w1 W A3 w6.heap.size r (entC X).toArray (eQ B N (pre.map Subtype.val)) a n c W := ⟨hei, hx, KeepsFrom.refl _ _, ⟨Nat.le_refl _, fun _ _ _ _ h => h⟩⟩
    have hbound := eQ_bound HOK.out B N pre
    have hlen := hei.len
    rw [List.length_attach, HN.out] at hlt
    have har := HOK.out.ar X hXm
    have htx := HOK.out.tx X hXm
    obtain ⟨arr, harr⟩ : ∃ arr : Nat, X.arr = (arr : Int) := ⟨X.arr.toNat, by omega⟩
    have hfin : eQ B N ((pre ++ [(⟨X, hXm⟩ : Mem S)]).map Subtype.val) = eQ B N (pre.map Subtype.val) ++ X.id.1 ++ be8 arr ++ be8 X.text.size ++ X.text.data.toList := by
      rw [List.map_append, List.map_singleton, eQ_snoc]
      show _ ++ (X.id.1 ++ be8 X.arr.toNat ++ be8 X.text.size ++ X.text.data.toList) = _
      rw [harr, Int.toNat_natCast]
      simp only [List.append_assoc]
    obtain ⟨L, hL⟩ : ∃ L, eQ B N (pre.map Subtype.val) = L := ⟨_, rfl⟩
    rw [hL] at hbi hbound hlen hfin hei
    have hk16 : W.heap[A1]? = some (.cells #[.pointer (some ⟨b, 0, none⟩)] 24 (0, 0)) := by
      exact (hei.below.block _ HZ6.out.1).trans (by rw [HZ.out.1]; exact HX1.out)
    have HNB := Lib.hid (show n < 400000000 by have := HNL.out; omega)
    have HLN := Lib.hid hlen
    have HFI := Lib.hid hfin
    have HBI := Lib.hid hbi
    have HAR := Lib.hid harr
    have HAB := Lib.hid (show arr < 9223372036854775808 by omega)
    have HTX := Lib.hid htx
    have HRB := Lib.hid hrB
    have HPL := Lib.hid hlt
    have HXM := Lib.hid hXm
    have HW6 := Lib.hid hw6z
    clear hbound hlen hfin hbi harr har htx hlt hx hei hw6z hL
    gi_wp2_with fail
    refine wpIn_region_liftGN wideR (by kernel_rfl) (fun _ _ h => h) [4] (fun V => V.cell? ⟨A3, 0, none⟩ = some (.slice a n c)) (by kernel_rfl) ?_
    have hS0 : (fun V => V.cell? ⟨A3, 0, none⟩ = some (.slice a n c)) W.drew := (HBI.out.to (Below.refl _ _).drew).cells.1
    obtain ⟨wd, hwd⟩ : ∃ wd, W.drew = wd := ⟨_, rfl⟩
    have hX0 : Below W.heap.size W W.drew := (Below.refl _ _).drew
    rw [hwd] at hS0 hX0 ⊢
    clear hwd
    refine wpAnyG_take (i := 0) (v := ?v3) rfl (by kernel_rfl) (by kernel_rfl) (by kernel_rfl) (by kernel_rfl) (fun _ _ _ h => h) (yieldsIf_run rfl (fun w' hw' => ?y3)) hS0 ?_
    case y3 => (have hc0 := hw'; clear hw'; first | (go_simp; rfl) | (go_simp; done))
    simp only [Act.put, List.setIfInBounds_toArray, List.set_cons_zero, List.set_cons_succ]
    refine wpAnyG_take (i := 1) (v := ?v4) rfl (by kernel_rfl) (by kernel_rfl) (by kernel_rfl) (by kernel_rfl) (fun _ _ _ h => h) (yieldsIf_run rfl (fun w' hw' => ?y4)) hS0 ?_
    case y4 => first | (go_simp; rfl) | (go_simp; done) | rfl
    simp only [Act.put, List.setIfInBounds_toArray, List.set_cons_zero, List.set_cons_succ]
    refine wpAnyG_take (i := 2) (v := ?v5) rfl (by kernel_rfl) (by kernel_rfl) (by kernel_rfl) (by kernel_rfl) (fun _ _ _ h => h) (yieldsIf_run rfl (fun w' hw' => ?y5)) hS0 ?_
    case y5 => first | (go_simp; rfl) | (go_simp; done) | rfl
    simp only [Act.put, List.setIfInBounds_toArray, List.set_cons_zero, List.set_cons_succ]
    refine wpAnyG_do (i := 3) (by kernel_rfl) rfl rfl (fun K hK => ?_)
    have hbd := HBI.out.to hX0
    refine wp_appL byE (.tmp 19) (.tmp 21) rfl rfl hbd.ei.own rfl (id_list hbd.hr) HLN.out X.id.2 (by have := HNB.out; omega) hbd.ei.below.size (fun a2 c2 w2 ho2 hg2 hk2 => ?_)
    have hc7 := OwnL.grown_chg hg2
    have hS7 := (hbd.at2 hc7).2.2.1
    refine hK _ _ hS7 ?_
    clear hK K
    try simp only [Act.put, List.setIfInBounds_toArray, List.set_cons_zero, List.set_cons_succ]
    refine wpAnyG_fin (i := 4) (by kernel_rfl) rfl rfl (by kernel_rfl) (fun K hK => ?_)
    have cd := (hbd.at2 hc7).2.2.1
    have fd := (hbd.at2 hc7).2.2.2
    go_simp
    refine hK _ _ ?_
    clear hK K
    try simp only [Act.put, List.setIfInBounds_toArray, List.set_cons_zero, List.set_cons_succ]
    refine wpAnyG_done (by kernel_rfl) ?_ _
    refine NoPanic.normal ?_
    have HB8 := Lib.hid (hbd.step hc7 ho2 (by rw [List.length_append, HLN.out, X.id.2]) HZ6.out.2.1 HZ6.out.2.2.1 HRB.out)
    obtain ⟨V1, hV1⟩ : ∃ V1, w2.setCell ⟨A3, 0, none⟩ (.slice a2 (n + 32) c2) = V1 := ⟨_, rfl⟩
    rw [hV1] at HB8 ⊢
    have hl9 : (L ++ X.id.1 ++ be8 arr).length = n + 32 + 8 := by rw [List.length_append, HB8.out.ei.len, be8_length]
    have hap := appendNumber_n (L ++ X.id.1) HB8.out.ei.own HB8.out.ei.below.size (by rw [HB8.out.ei.len]; have := HNB.out; omega) arr HAB.out hl9
    have HL9 := Lib.hid hl9
    have HAP := Lib.hid hap
    obtain ⟨hc1, hc2, _⟩ := HB8.out.cells
    rw [HAR.out] at hc2
    clear hl9 hap hV1 cd fd hbd hc7 hS7 hX0 hS0 ho2 hg2 hk2
    gi_wp2_with (first | (refine ⟨trivial, ?_⟩; gi_at_call 56; refine (CallsIn.inRound _ (callsIn_wide.2 HAP.out)).mono ?_; rintro e w4 ⟨a4, c4, rfl, ho4, hc4⟩; refine Stop.on ?_))
    refine Stop.go ?_
    have hl9 := HL9.out
    obtain ⟨_, hr4, cd, fd⟩ := HB8.out.at2 hc4
    have HB9 := Lib.hid (HB8.out.step hc4 ho4 hl9 HZ6.out.2.1 HZ6.out.2.2.1 HRB.out)
    have HL10 := Lib.hid (show (L ++ X.id.1 ++ be8 arr ++ be8 X.text.size).length = n + 32 + 8 + 8 by rw [List.length_append, HB9.out.ei.len, be8_length])
    have HAP9 := Lib.hid (appendNumber_n (L ++ X.id.1 ++ be8 arr) HB9.out.ei.own HB9.out.ei.below.size (by rw [HB9.out.ei.len]; have := HNB.out; omega) X.text.size (by have := HTX.out.2; omega) HL10.out)
    have c33 : w4.cell? ⟨r, 33, none⟩ = some (.int .i64 (X.text.size : Int)) := by rw [cell_of_row _ _ _ _ _ _ hr4]; exact (entC_parts X).2
    have n1 : ¬ r = A3 := by have := HZ6.out; have := HRB.out; omega
    have n2 : ¬ A3 = r := by have := HZ6.out; have := HRB.out; omega
    clear hr4 ho4 hl9 hc1 hc2 HAP
    gi_wp2_with (first | (refine ⟨trivial, ?_⟩; gi_at_call 56; refine (CallsIn.inRound _ (callsIn_wide.2 HAP9.out)).mono ?_; rintro e w6' ⟨a5, c5, rfl, ho5, hc5⟩; refine Stop.on ?_))
    refine Stop.go ?_
    clear cd fd c33 n1 n2
    have hl10 := HL10.out
    obtain ⟨_, hr5, cd, fd⟩ := HB9.out.at2 hc5
    have HB10 := Lib.hid (HB9.out.step hc5 ho5 hl10 HZ6.out.2.1 HZ6.out.2.2.1 HRB.out)
    clear hr5 ho5 hl10 HAP9
    gi_wp2_with fail
    obtain ⟨V3, hV3⟩ : ∃ V3, w6'.setCell ⟨A3, 0, none⟩ (.slice a5 (n + 32 + 8 + 8) c5) = V3 := ⟨_, rfl⟩
    rw [hV3] at HB10 ⊢
    clear hV3 cd fd hc5 hc4 HB9 HB8 HBI
    have HRD := Lib.hid (show ∀ V : World, V.heap[A3]? = some (.cells #[.slice a5 (n + 32 + 8 + 8) c5] 22 (0, 0)) → Below w1.heap.size w1 V → V.cell? ⟨A3, 0, none⟩ = some (.slice a5 (n + 32 + 8 + 8) c5) ∧ V.cell? ⟨A1, 0, none⟩ = some (.pointer (some ⟨b, 0, none⟩)) ∧ V.cell? ⟨b, 3, none⟩ = some (.map (some m)) from fun V h1 h2 =>
      ⟨by rw [cell_of_row _ _ _ _ _ _ h1]; rfl, by rw [cell_of_row _ _ _ _ _ _ ((h2.block _ HZ6.out.1).trans (show w1.heap[A1]? = _ by rw [HZ.out.1]; exact HX1.out))]; rfl, (HSP1.out.below h2).cells.2.2.2⟩)
    have HLK := Lib.hid (show ∀ V : World, Below w1.heap.size w1 V → (Instr.lookup 76 (.map (some m)) (.agg (bvs X.id.1).toArray) false).run Try.prog V = .ok (artv X) V from fun V h2 => by
      have h := (HSP1.out.below h2).look X.id false
      rw [find_mem (HSP1.out.below h2).hm.nodup HXM.out] at h
      exact h)
    refine wpIn_region_liftGN wideR (by kernel_rfl) (fun _ _ h => h) [10] (fun V => V.heap[A3]? = some (.cells #[.slice a5 (n + 32 + 8 + 8) c5] 22 (0, 0)) ∧ V.heap[r]? = some (.cells (entC X).toArray 44 (0, 0)) ∧ Below w1.heap.size w1 V) (by kernel_rfl) ?_
    have hS0 : (fun V => V.heap[A3]? = some (.cells #[.slice a5 (n + 32 + 8 + 8) c5] 22 (0, 0)) ∧ V.heap[r]? = some (.cells (entC X).toArray 44 (0, 0)) ∧ Below w1.heap.size w1 V) V3.drew := ⟨HB10.out.ei.cell, HB10.out.hr, HB10.out.ei.below.drew⟩
    obtain ⟨wd, hwd⟩ : ∃ wd, V3.drew = wd := ⟨_, rfl⟩
    have hX0 : Below V3.heap.size V3 V3.drew := (Below.refl _ _).drew
    rw [hwd] at hS0 hX0 ⊢
    clear hwd
    refine wpAnyG_take (i := 0) (v := ?v6) rfl (by kernel_rfl) (by kernel_rfl) (by kernel_rfl) (by kernel_rfl) (fun _ _ _ h => h) (yieldsIf_run rfl (fun w' hw' => ?y6)) hS0 ?_
    case y6 => (obtain ⟨e1, e2, e3⟩ := HRD.out _ hw'.1 hw'.2.2; clear hw'; first | (go_simp; rfl) | (go_simp; done))
    simp only [Act.put, List.setIfInBounds_toArray, List.set_cons_zero, List.set_cons_succ]
    refine wpAnyG_take (i := 1) (v := ?v7) rfl (by kernel_rfl) (by kernel_rfl) (by kernel_rfl) (by kernel_rfl) (fun _ _ _ h => h) (yieldsIf_run rfl (fun w' hw' => ?y7)) hS0 ?_
    case y7 => (obtain ⟨e1, e2, e3⟩ := HRD.out _ hw'.1 hw'.2.2; clear hw'; first | (go_simp; rfl) | (go_simp; done))
    simp only [Act.put, List.setIfInBounds_toArray, List.set_cons_zero, List.set_cons_succ]
    refine wpAnyG_take (i := 2) (v := ?v8) rfl (by kernel_rfl) (by kernel_rfl) (by kernel_rfl) (by kernel_rfl) (fun _ _ _ h => h) (yieldsIf_run rfl (fun w' hw' => ?y8)) hS0 ?_
    case y8 => first | (go_simp; rfl) | (go_simp; done) | rfl
    simp only [Act.put, List.setIfInBounds_toArray, List.set_cons_zero, List.set_cons_succ]
    refine wpAnyG_take (i := 3) (v := ?v9) rfl (by kernel_rfl) (by kernel_rfl) (by kernel_rfl) (by kernel_rfl) (fun _ _ _ h => h) (yieldsIf_run rfl (fun w' hw' => ?y9)) hS0 ?_
    case y9 => first | (go_simp; rfl) | (go_simp; done) | rfl
    simp only [Act.put, List.setIfInBounds_toArray, List.set_cons_zero, List.set_cons_succ]
    refine wpAnyG_take (i := 4) (v := ?v10) rfl (by kernel_rfl) (by kernel_rfl) (by kernel_rfl) (by kernel_rfl) (fun _ _ _ h => h) (yieldsIf_run rfl (fun w' hw' => ?y10)) hS0 ?_
    case y10 => (obtain ⟨e1, e2, e3⟩ := HRD.out _ hw'.1 hw'.2.2; clear hw'; first | (go_simp; rfl) | (go_simp; done))
    simp only [Act.put, List.setIfInBounds_toArray, List.set_cons_zero, List.set_cons_succ]
    refine wpAnyG_take (i := 5) (v := ?v11) rfl (by kernel_rfl) (by kernel_rfl) (by kernel_rfl) (by kernel_rfl) (fun _ _ _ h => h) (yieldsIf_run rfl (fun w' hw' => ?y11)) hS0 ?_
    case y11 => first | (go_simp; rfl) | (go_simp; done) | rfl
    simp only [Act.put, List.setIfInBounds_toArray, List.set_cons_zero, List.set_cons_succ]
    refine wpAnyG_take (i := 6) (v := .agg (bvs X.id.1).toArray) rfl (by kernel_rfl) (by kernel_rfl) (by kernel_rfl) (by kernel_rfl) (fun _ _ _ h => h) (yieldsIf_load_mid rfl 30 (.tmp 36) rfl r (0) rfl (bvs X.id.1) _ (fun w' hw' => range_idE hw'.2.1) Try.underlying30 rfl (sizeId X.id)) hS0 ?_
    simp only [Act.put, List.setIfInBounds_toArray, List.set_cons_zero, List.set_cons_succ]
    refine wpAnyG_take (i := 7) (v := artv X) rfl (by kernel_rfl) (by kernel_rfl) (by kernel_rfl) (by kernel_rfl) (fun _ _ _ h => h) (yieldsIf_run rfl (fun w' hw' => ?y12)) hS0 ?_
    case y12 => (have hlk := HLK.out _ hw'.2.2; clear hw'; first | (go_simp; rfl) | (go_simp; done))
    simp only [Act.put, List.setIfInBounds_toArray, List.set_cons_zero, List.set_cons_succ]
    refine wpAnyG_take (i := 8) (v := .string X.text) rfl (by kernel_rfl) (by kernel_rfl) (by kernel_rfl) (by kernel_rfl) (fun _ _ _ h => h) (yieldsIf_run rfl (fun w' hw' => ?y13)) hS0 ?_
    case y13 => first | (go_simp; rfl) | (go_simp; done) | rfl
    simp only [Act.put, List.setIfInBounds_toArray, List.set_cons_zero, List.set_cons_succ]
    refine wpAnyG_do (i := 9) (by kernel_rfl) rfl rfl (fun K hK => ?_)
    have hbd := HB10.out.to hX0
    refine wp_appS (.tmp 31) (.tmp 39) rfl rfl hbd.ei.own rfl hbd.ei.len (by have := HNB.out; have := HTX.out; omega) hbd.ei.below.size (fun a6 c6 w7 ho7 hg7 => ?_)
    have hc10 := OwnL.grown_chg hg7
    have h10 := hbd.at2 hc10
    have hS10 : (fun V => V.heap[A3]? = some (.cells #[.slice a5 (n + 32 + 8 + 8) c5] 22 (0, 0)) ∧ V.heap[r]? = some (.cells (entC X).toArray 44 (0, 0)) ∧ Below w1.heap.size w1 V) w7 := ⟨h10.1, h10.2.1, hbd.ei.grew hc10⟩
    refine hK _ _ hS10 ?_
    clear hK K
    try simp only [Act.put, List.setIfInBounds_toArray, List.set_cons_zero, List.set_cons_succ]
    refine wpAnyG_fin (i := 10) (by kernel_rfl) rfl rfl (by kernel_rfl) (fun K hK => ?_)
    have cd := h10.2.2.1
    have fd := h10.2.2.2
    go_simp
    refine hK _ _ ?_
    clear hK K
    try simp only [Act.put, List.setIfInBounds_toArray, List.set_cons_zero, List.set_cons_succ]
    refine wpAnyG_done (by kernel_rfl) ?_ _
    refine NoPanic.normal ?_
    have hB11 := hbd.step hc10 ho7 (by rw [List.length_append, hbd.ei.len, Array.length_toList]; rfl) HZ6.out.2.1 HZ6.out.2.2.1 HRB.out
    rw [← HFI.out] at hB11
    exact ⟨hB11.kf, hB11.kr, _, _, _, hB11.ei, Nat.le_trans HW6.out hB11.kf.size⟩
  case done =>
    rintro D xs W hD rfl ⟨a, n, c, hei, hw6z⟩ hK
    rw [List.attach_map_subtype_val, HAL.out] at hei
    have hlen := hei.len
    rw [HTT.out] at hlen
    subst hlen
    have hc0 := cell_of_row W _ 0 _ _ _ hei.cell
    simp only [List.getElem?_toArray, List.getElem?_cons_zero] at hc0
    have HEE := Lib.hid hei
    have HKD := Lib.hid hK
    have HDB := Lib.hid (show w.heap.size ≤ D from by have := HZ.out; have := HZ6.out; omega)
    clear hei hK hw6z
    go_wp2_with fail
    refine ⟨by simp, .inl ⟨_, _, rfl, run_takeDeferred HKD.out, ?_⟩⟩
    have hbz := belowK_b (w := w) (Nat.le_refl _) W D _ (.deferred none) HDB.out HKD.out rfl rfl
    refine ⟨_, ?_, a, c, rfl, ?_, ?_⟩
    · simp [results, Try.results33, go_sem]
    · refine (HEE.out.own.base (by have := HZ.out; omega)).chg (Chg.grown (F := fun k => k = D) (grownBy_putObj' W D (.deferred none)) (fun k e => .inl (by cases e; rfl))) (fun k hk e => ?_)
      subst e
      obtain ⟨cs, fr, h2⟩ := own_cells HEE.out.own hk
      have h3 := HKD.out
      rw [h2] at h3
      cases h3
    · exact (HB1.out.trans (HEE.out.below.mono HB1.out.size)).trans hbz
end Go.Proofs.Ytnmdgjodbikndaa
