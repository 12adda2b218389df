/- The spool: the stable sort by arrival (at most one entry); Oldest; The spool: the check on which the laws insist. -/
import Derived.Test.YtnmdgjodbikndaaS5
namespace Go.Proofs.Ytnmdgjodbikndaa
open Go.Shelf Go.RowKit Go.Lib Go.Sort
set_option linter.unusedVariables false
set_option linter.unusedSimpArgs false

/-- Identities as elements of slices. -/
def idE : ElemTy Try.prog 56 30 IdB where
  enc a := bvs a.1
  k := 32
  hu := Try.underlying56
  hi := ⟨idv z32, 32, by kernel_rfl, by kernel_rfl, by decide⟩
  hk := by decide
  len a := by rw [bvs_length]; exact a.2
  one _ := bvs_oneCell
def cmpA (x y : ArtD) : Int := cmpI x.arr y.arr
def stab (M : List ArtD) : List ArtD := M.mergeSort (fun a b => decide (a.arr ≤ b.arr))
set_option maxRecDepth 100000 in
set_option maxHeartbeats 2000000 in
theorem oldCmp (X Y : ArtD) (w : World) : Calls Try.prog 40 #[.agg (entC X).toArray, .agg (entC Y).toArray] w fun e w' => e = .returned (.int .i64 (cmpA X Y)) ∧ ∃ q os', w' = grow (w.drewN q) os' := by
  obtain ⟨w1, hw1⟩ : ∃ w1, w.alloc (.cells (entC X).toArray 44) = w1 := ⟨_, rfl⟩
  obtain ⟨w2, hw2⟩ : ∃ w2, w1.alloc (.cells (entC Y).toArray 44) = w2 := ⟨_, rfl⟩
  have hx1 : w1.heap[w.heap.size]? = some (.cells (entC X).toArray 44 (0, 0)) := by rw [← hw1]; exact heap_alloc_new _ _
  have hx2 : w2.heap[w1.heap.size]? = some (.cells (entC Y).toArray 44 (0, 0)) := by rw [← hw2]; exact heap_alloc_new _ _
  have hb2 : Below w1.heap.size w1 w2 := hw2 ▸ (Below.refl _ _).alloc (Nat.le_refl _) _
  have hx1 := (hb2.block _ (Array.getElem?_eq_some_iff.1 hx1).1).trans hx1
  have hi : ∀ Z : ArtD, (entC Z).toArray[32]? = some (.int .i64 Z.arr) := fun Z => by
    rw [List.getElem?_toArray]
    unfold entC
    rw [List.getElem?_append_right (by rw [bvs_length, Z.id.2]; decide), bvs_length, Z.id.2]
    rfl
  have hc1 : w2.cell? ⟨w.heap.size, 32, none⟩ = some (.int .i64 X.arr) := by rw [cell_of_row _ _ _ _ _ _ hx1]; exact hi X
  have hc2 : w2.cell? ⟨w1.heap.size, 32, none⟩ = some (.int .i64 Y.arr) := by rw [cell_of_row _ _ _ _ _ _ hx2]; exact hi Y
  have hfin : ∃ q os', w2 = grow (w.drewN q) os' := ⟨0, #[.cells (entC X).toArray 44, .cells (entC Y).toArray 44], by
    rw [← hw2, ← hw1, alloc_eq_grow, alloc_eq_grow, grow_grow]
    rfl⟩
  have HF := Lib.hid hfin
  unfold cmpA
  obtain ⟨xa, hxa⟩ : ∃ xa, X.arr = xa := ⟨_, rfl⟩
  obtain ⟨ya, hya⟩ : ∃ ya, Y.arr = ya := ⟨_, rfl⟩
  rw [hxa] at hc1 ⊢
  rw [hya] at hc2 ⊢
  clear hx1 hx2 hb2 hi hfin hxa hya
  go_enter Try.func40, Try.ntmps40
  go_wp2_with fail
  refine (compare_int xa ya _).mono ?_
  rintro e w3 ⟨rfl, rfl⟩
  go_wp2_with fail
  exact bodyPost_ret (v := .int .i64 (cmpI xa ya)) (by simp [results, Try.results40, go_sem]) rfl ⟨rfl, HF.out⟩

/-- The stable sort does what it should at rows of at most n entries. -/
def StableOk (n : Nat) : Prop := ∀ (w : World) (B : Nat) (v : Value) (M : List ArtD), OwnL entE w B v M → B ≤ w.heap.size → M.length ≤ n →
  Calls Try.prog 42 #[v, .func (.func 40) #[] #[]] w fun e w' => e = .returned (.tuple #[]) ∧ OwnL entE w' B v (stab M) ∧ Below B w w'
theorem insert_none (p : Option Addr) (cap : Nat) (fv : Value) (w : World) : Calls Try.prog 66 #[.slice p 0 cap, .int .i64 0, .int .i64 0, fv] w fun e w' => e = .returned (.tuple #[]) ∧ w' = w :=
  AnyF.insertionSortCmpFunc_none (P := Try.prog) { Try.sortEnt with } p cap fv w
theorem insert_one {w : World} {B : Nat} {v : Value} (x : ArtD) (h : OwnL entE w B v [x]) :
    Calls Try.prog 66 #[v, .int .i64 0, .int .i64 1, .func (.func 40) #[] #[]] w fun e w' => e = .returned (.tuple #[]) ∧ OwnL entE w' B v [x] ∧ Below B w w' := by
  have hh : w.ownsRow B 44 34 v 1 ([x].flatMap entE.enc) := h
  rcases hh.2 with ⟨_, h0⟩ | ⟨g, cap, cur, rfl, hgB, hg, hc, hm, hs, ht⟩
  · cases h0
  · have eg : ∀ args w, (callFunc 40 args).run Try.prog w = .ok (.enter 40 args) w := enters_of Try.func40 (by kernel_rfl) rfl
    have hcmp : CmpLays Try.prog 40 #[] entE.enc 34 cmpA g 0 [x].toArray.size w := fun n os dk _ a b => oldCmp a b _
    have hcon := AnyQ.insertionSortCmpFunc (P := Try.prog) { Try.sortEnt with } 34 isAggEnt sizeOfEnt entE.enc entE.len entE.one cmpA 40 #[] g 0 cap 0 1 [x].toArray w eg hcmp (holdsK_of entE [x] hg ht) (Array.getElem?_eq_some_iff.1 hg).1 (by decide) (by simp) (by simp)
    refine hcon.mono ?_
    rintro e w' ⟨rfl, n, os, rfl⟩
    have he : Sort.insertionSort (ltOf cmpA) [x].toArray 0 1 = [x].toArray := by
      unfold Sort.insertionSort
      unfold Sort.insOuter
      simp
    rw [he]
    obtain ⟨g1, g2⟩ := own_sorted entE (n := n) (os := os) [x] [x] rfl hgB hg hc hm hs
    exact ⟨rfl, g1, g2⟩
set_option maxRecDepth 100000 in
set_option maxHeartbeats 2000000 in
theorem stable_none (p : Option Addr) (cap : Nat) (fv : Value) (w : World) : Calls Try.prog 61 #[.slice p 0 cap, .int .i64 0, fv] w fun e w' => e = .returned (.tuple #[]) ∧ w' = w := by
  go_enter Try.func61, Try.ntmps61
  go_wp2_with fail
  refine wp_loop_rounds 1 ?_
  rw [rounds_succ]
  go_wp2_with fail
  refine (insert_none p cap fv _).mono ?_
  rintro e w1 ⟨rfl, rfl⟩
  go_wp2_with fail
  refine wp_loop_rounds 1 ?_
  rw [rounds_succ]
  go_wp2_with fail
  go_end0
  exact ⟨rfl, rfl⟩
set_option maxRecDepth 100000 in
set_option maxHeartbeats 2000000 in
theorem stable_one {w : World} {B : Nat} {p : Option Addr} {cap : Nat} (x : ArtD) (h : OwnL entE w B (.slice p 1 cap) [x]) :
    Calls Try.prog 61 #[.slice p 1 cap, .int .i64 1, .func (.func 40) #[] #[]] w fun e w' => e = .returned (.tuple #[]) ∧ OwnL entE w' B (.slice p 1 cap) [x] ∧ Below B w w' := by
  have HH := Lib.hid h
  clear h
  go_enter Try.func61, Try.ntmps61
  go_wp2_with fail
  refine wp_loop_rounds 1 ?_
  rw [rounds_succ]
  go_wp2_with fail
  refine (insert_one x HH.out).mono ?_
  rintro e w1 ⟨rfl, ho, hb⟩
  have HO := Lib.hid ho
  have HB := Lib.hid hb
  clear ho hb
  go_wp2_with fail
  refine wp_loop_rounds 1 ?_
  rw [rounds_succ]
  go_wp2_with fail
  go_end0
  exact ⟨rfl, HO.out, HB.out⟩
set_option maxRecDepth 100000 in
set_option maxHeartbeats 2000000 in
theorem stableOk_one : StableOk 1 := by
  intro w B v M h hB hl
  match M, hl with
  | [], _ =>
    obtain ⟨p, cap, rfl⟩ := h.form
    have e : stab [] = [] := by unfold stab; simp
    rw [e]
    have HH := Lib.hid h
    clear h e
    rw [List.length_nil]
    go_enter Try.func42, Try.ntmps42
    go_wp2_with fail
    refine (stable_none p cap _ _).mono ?_
    rintro e w1 ⟨rfl, rfl⟩
    go_wp2_with fail
    go_end0
    exact ⟨rfl, HH.out, Below.refl _ _⟩
  | [x], _ =>
    obtain ⟨p, cap, rfl⟩ := h.form
    have e : stab [x] = [x] := by unfold stab; simp
    rw [e]
    have HH := Lib.hid h
    clear h e
    rw [List.length_singleton] at HH ⊢
    go_enter Try.func42, Try.ntmps42
    go_wp2_with fail
    refine (stable_one x HH.out).mono ?_
    rintro e w1 ⟨rfl, ho, hb⟩
    have HO := Lib.hid ho
    have HB := Lib.hid hb
    clear ho hb
    go_wp2_with fail
    go_end0
    exact ⟨rfl, HO.out, HB.out⟩

def oldGo (need : Int) : Int → List ArtD → List IdB
  | _, [] => []
  | free, a :: l => if need ≤ free then [] else a.id :: oldGo need (free + (a.text.size : Int)) l
def oldC (S : SpD) (need : Int) : Int := if need < 0 then 2 else if S.budget < need then 9 else 0
def oldL (S : SpD) (need : Int) : List IdB := if oldC S need = 0 then oldGo need (S.budget - (S.size : Int)) (stab S.list) else []
def OldPost (w : World) (c : Int) (L : List IdB) (e : Ending) (w' : World) : Prop := ∃ v, e = .returned (.tuple #[v, .int .i64 c]) ∧ OwnL idE w' w.heap.size v L ∧ Below w.heap.size w w'
theorem stab_perm (M : List ArtD) : (stab M).Perm M := List.mergeSort_perm M _
theorem oldGo_len (need : Int) : ∀ (M : List ArtD) (f : Int), (oldGo need f M).length ≤ M.length
  | [], _ => Nat.le_refl _
  | a :: l, f => by
    unfold oldGo
    split
    · exact Nat.zero_le _
    · rw [List.length_cons, List.length_cons]
      have := oldGo_len need l (f + (a.text.size : Int))
      omega
set_option maxRecDepth 100000 in
set_option maxHeartbeats 2000000 in
theorem Oldest_nil {w : World} (need : Int) : Calls Try.prog 25 #[.pointer none, .int .i64 need] w (OldPost w 1 []) := by
  go_enter Try.func25, Try.ntmps25
  go_wp2_with fail
  exact bodyPost_ret (v := .tuple #[.slice none 0 0, .int .i64 1]) (by simp [results, Try.results25, go_sem]) rfl ⟨_, rfl, ownL_nil _ _ _, Below.refl _ _⟩

set_option maxRecDepth 100000 in
set_option maxHeartbeats 2000000 in
theorem Oldest_any {w : World} {b m n : Nat} {S : SpD} (hst : StableOk n) (h : SpAt w b m S) (hok : S.Ok) (hn : S.list.length ≤ n) (hn2 : n < 1000000) (need : Int) :
    Calls Try.prog 25 #[.pointer (some ⟨b, 0, none⟩), .int .i64 need] w (OldPost w (oldC S need) (oldL S need)) := by
  obtain ⟨c, hc⟩ : ∃ c, oldC S need = c := ⟨_, rfl⟩
  obtain ⟨L, hL⟩ : ∃ L, oldL S need = L := ⟨_, rfl⟩
  have hL' : (if c = 0 then oldGo need (S.budget - (S.size : Int)) (stab S.list) else []) = L := by rw [← hL, ← hc]; rfl
  rw [hc, hL]
  unfold oldC at hc
  have hcell := h.cells.1
  obtain ⟨Bd, hBd⟩ : ∃ Bd, S.budget = Bd := ⟨_, rfl⟩
  rw [hBd] at hc hcell
  have HH := Lib.hid h
  have HOK := Lib.hid hok
  have HN := Lib.hid hn
  have HST := Lib.hid hst
  have HC := Lib.hid hc
  have HL := Lib.hid hL'
  have HBD := Lib.hid hBd
  clear h hok hn hst hc hL hL' hBd
  by_cases h1 : need < 0
  · obtain rfl : 2 = c := by rw [← HC.out, if_pos h1]
    obtain rfl : [] = L := by rw [← HL.out, if_neg (by decide)]
    clear HC HL
    go_enter Try.func25, Try.ntmps25
    go_wp2_with fail
    exact bodyPost_ret (v := .tuple #[.slice none 0 0, .int .i64 2]) (by simp [results, Try.results25, go_sem]) rfl ⟨_, rfl, ownL_nil _ _ _, Below.refl _ _⟩
  by_cases h2 : Bd < need
  · obtain rfl : 9 = c := by rw [← HC.out, if_neg h1, if_pos h2]
    obtain rfl : [] = L := by rw [← HL.out, if_neg (by decide)]
    clear HC HL
    go_enter Try.func25, Try.ntmps25
    go_wp2_with fail
    exact bodyPost_ret (v := .tuple #[.slice none 0 0, .int .i64 9]) (by simp [results, Try.results25, go_sem]) rfl ⟨_, rfl, ownL_nil _ _ _, Below.refl _ _⟩
  obtain rfl : 0 = c := by rw [← HC.out, if_neg h1, if_neg h2]
  have HL := Lib.hid (show oldGo need (S.budget - (S.size : Int)) (stab S.list) = L by rw [← HL.out, if_pos rfl])
  clear HC
  go_enter Try.func25, Try.ntmps25
  go_wp2_with fail
  refine (entries_any HH.out HOK.out (by have := HN.out; omega)).mono ?_
  rintro e w1 ⟨v1, rfl, ho1, hb1⟩
  obtain ⟨p1, c1, rfl⟩ := ho1.form
  have HO1 := Lib.hid ho1
  have HB1 := Lib.hid hb1
  clear ho1 hb1
  go_wp2_with fail
  refine (HST.out _ _ _ S.list HO1.out HB1.out.size HN.out).mono ?_
  rintro e w2 ⟨rfl, ho2, hb2⟩
  have hsl : (stab S.list).length = S.list.length := (stab_perm S.list).length_eq
  have hf : Calls Try.prog 21 #[.pointer (some ⟨b, 0, none⟩)] w2 fun e w' => e = .returned (.int .i64 (S.budget - (S.size : Int))) ∧ Below w2.heap.size w2 w' := Free_any (HH.out.below (HB1.out.trans hb2)) HOK.out
  have hf0 : 0 ≤ S.budget - (S.size : Int) ∧ S.budget - (S.size : Int) ≤ 1073741824 := by have := HOK.out.sz; have := HOK.out.b1; omega
  have htx : ∀ a ∈ stab S.list, 1 ≤ a.text.size ∧ a.text.size ≤ 65536 := fun a ha => HOK.out.tx a ((stab_perm S.list).mem_iff.1 ha)
  obtain ⟨M, hM⟩ : ∃ M, stab S.list = M := ⟨_, rfl⟩
  obtain ⟨F0, hF0⟩ : ∃ F0, S.budget - (S.size : Int) = F0 := ⟨_, rfl⟩
  obtain ⟨N, hN⟩ : ∃ N, S.list.length = N := ⟨_, rfl⟩
  rw [hM] at ho2 hsl htx
  rw [hF0] at hf hf0
  rw [hN] at hsl ⊢
  have hHL := HL.out
  rw [hM, hF0] at hHL
  have ho2 := ho2.at_
  rw [show (Value.slice p1 S.list.length c1) = .slice p1 N c1 by rw [hN]] at ho2
  have hNn : N ≤ n := by have := HN.out; omega
  have HO2 := Lib.hid ho2
  have HB2 := Lib.hid (HB1.out.trans hb2)
  have HSL := Lib.hid hsl
  have HF := Lib.hid hf
  have HF0 := Lib.hid hf0
  have HTX := Lib.hid htx
  have HGO := Lib.hid hHL
  clear ho2 hb2 hsl hf hf0 htx hM hF0 hN hHL HL
  go_wp2_with fail
  refine HF.out.mono ?_
  rintro e w3 ⟨rfl, hb3⟩
  have HB3 := Lib.hid (HB2.out.trans (hb3.mono HB2.out.size))
  have HO3 := Lib.hid (HO2.out.below hb3)
  clear hb3
  go_wp2_with fail
  go_loopw [8, 9, 34] (fun ov fv iv wr => ∃ (i : Nat) (f : Int) (J : List IdB), i ≤ N ∧ iv = .int .i64 (i : Int) ∧ fv = .int .i64 f ∧ OwnL idE wr w3.heap.size ov J ∧ J ++ oldGo need f (M.drop i) = L ∧ J.length = i ∧ 0 ≤ f ∧ f ≤ 1073741824 + 65536 * (i : Int) ∧ Below w3.heap.size w3 wr) (fun _ _ iv _ => N - (intOf iv).toNat)
  case atStart => exact ⟨0, F0, [], Nat.zero_le _, rfl, rfl, ownL_nil _ _ _, HGO.out, rfl, HF0.out.1, by have := HF0.out.2; omega, Below.refl _ _⟩
  case round =>
    obtain ⟨i, f, J, hi, rfl, rfl, hJ, hG, hJl, hf1, hf2, hB⟩ := hrel
    obtain ⟨jp, jc, rfl⟩ := hJ.form
    rw [hJl] at hJ ⊢
    have HJ := Lib.hid hJ
    have HG := Lib.hid hG
    have HJL := Lib.hid hJl
    have HB := Lib.hid hB
    have HBW := Lib.hid (HB3.out.trans (hB.mono HB3.out.size))
    clear hJ hG hJl hB
    by_cases hlt : i < N
    · have hiI : (i : Int) < (N : Int) := by omega
      have hiI0 : (0 : Int) ≤ (i : Int) := by omega
      have hlt' : i < M.length := by rw [HSL.out]; exact hlt
      have hcut : M.drop i = M[i] :: M.drop (i + 1) := List.drop_eq_getElem_cons hlt'
      have hta := HTX.out _ (List.getElem_mem hlt')
      obtain ⟨g, off, rfl, hgl, hr⟩ := (HO3.out.below HB.out).get (i := i) hlt'
      obtain ⟨a, ha⟩ : ∃ a, M[i] = a := ⟨_, rfl⟩
      rw [ha] at hcut hta hr
      have hr : wr.rangeAt g (off + i * 34) (entC a) := hr
      have hGc := HG.out
      rw [hcut] at hGc
      unfold oldGo at hGc
      have HGC := Lib.hid hGc
      have HR := Lib.hid hr
      have HTA := Lib.hid hta
      have hse : (Try.prog.info? 44).map (·.size) = some (entC a).length := by rw [entC_length]; kernel_rfl
      have hsa : (Try.prog.info? 44).map (·.size) = some (entC a).toArray.size := by rw [List.size_toArray]; exact hse
      have HSE := Lib.hid hse
      have HSA := Lib.hid hsa
      clear hcut hta hr hGc ha hse hsa
      go_wp2_with (with_reducible refine wpList_load_mid rfl 44 _ rfl g (off + i * 34) rfl (entC a) _ HR.out Try.underlying44 rfl HSE.out ?_; refine Stop.on ?_)
      refine Stop.go ?_
      try simp only [Act.put, List.setIfInBounds_toArray, List.set_cons_zero, List.set_cons_succ]
      refine wpList_newV rfl (some 11) rfl 44 rfl (entC zA).toArray 34 (by kernel_rfl) ?_
      intro wa xa ba sa
      try simp only [Act.put, List.setIfInBounds_toArray, List.set_cons_zero, List.set_cons_succ]
      refine wpList_putV rfl rfl 44 (.tmp 11) (.tmp 37) rfl _ (entC a).toArray rfl rfl 44 _ xa HSA.out (by rw [List.size_toArray, List.size_toArray, entC_length, entC_length]) (all_oneCell_toArray (entC_one a)) ?_
      intro wb xb cb sb
      try simp only [Act.put, List.setIfInBounds_toArray, List.set_cons_zero, List.set_cons_succ]
      have hbb : Below wr.heap.size wr wb := ba.trans (cb.below (B := wr.heap.size) (fun k e => by omega) (by omega))
      have hid : wb.rangeAt wr.heap.size 0 (bvs a.id.1) := fun j u hu => range_block xb j u (by
        unfold entC
        rw [List.getElem?_append_left (List.getElem?_eq_some_iff.1 hu).1]
        exact hu)
      have hct : wb.cell? ⟨wr.heap.size, 33, none⟩ = some (.int .i64 (a.text.size : Int)) := by
        rw [cell_of_row _ _ _ _ _ _ xb, List.getElem?_toArray]
        unfold entC
        rw [List.getElem?_append_right (by rw [bvs_length, a.id.2]; decide), bvs_length, a.id.2]
        rfl
      have HBB := Lib.hid hbb
      have HID := Lib.hid hid
      have HCT := Lib.hid hct
      clear xa ba sa xb cb sb hbb hid hct
      by_cases hge : need ≤ f
      · have hJL : J = L := by
          have h := HGC.out
          rw [if_pos hge, List.append_nil] at h
          exact h
        have HJL2 := Lib.hid hJL
        clear hJL
        go_wp2_with fail
        obtain rfl := HJL2.out
        exact bodyPost_ret (v := .tuple #[.slice jp i jc, .int .i64 0]) (by simp [results, Try.results25, go_sem]) rfl ⟨_, rfl, (HJ.out.below HBB.out).base HB3.out.size, HBW.out.trans (HBB.out.mono HBW.out.size)⟩
      · go_wp2_with (with_reducible refine wpList_load_mid rfl 30 _ rfl wr.heap.size 0 rfl (bvs a.id.1) _ HID.out Try.underlying30 rfl (sizeId a.id) ?_; refine Stop.on ?_)
        refine Stop.go ?_
        try simp only [Act.put, List.setIfInBounds_toArray, List.set_cons_zero, List.set_cons_succ]
        refine wpList_litsV idE rfl (some 44) rfl 1 #[(0, .tmp 43)] rfl [a.id] rfl rfl (by decide) (by decide) ?_
        intro we xe be se
        try simp only [Act.put, List.setIfInBounds_toArray, List.set_cons_zero, List.set_cons_succ]
        have hown := (HJ.out.below HBB.out).below be
        have hle : w3.heap.size ≤ we.heap.size := by have := HB.out.size; have := HBB.out.size; omega
        refine wpList_appL idE rfl (n := i) (m := 1) (.tmp 41) (.tmp 44) rfl rfl hown rfl (list_of_block idE xe (le_max4 (by simp))) HJL.out rfl (by omega) hle ?_
        intro a2 c2 wf ho2 hg2 hat
        try simp only [Act.put, List.setIfInBounds_toArray, List.set_cons_zero, List.set_cons_succ]
        have hbf := hown.grown_below hg2 hle
        have hBe := HBB.out.trans (be.mono HBB.out.size)
        have hBf : Below w3.heap.size w3 wf := (HB.out.trans (hBe.mono HB.out.size)).trans hbf
        have hne : ∀ k, (Value.slice jp i jc).ownBlock = some k → wr.heap.size ≠ k := fun k hk e => by have := (HJ.out.lt hk).2; omega
        have hct2 : wf.cell? ⟨wr.heap.size, 33, none⟩ = some (.int .i64 (a.text.size : Int)) := by
          have h1 := (be.cell (p := ⟨wr.heap.size, 33, none⟩) (World.block_lt_of_cell? _ _ HCT.out)).trans HCT.out
          exact (OwnL.grown_chg hg2).cell (fun e => hne _ e rfl) h1
        have HBF := Lib.hid hBf
        have HOF := Lib.hid ho2
        have hszI : 0 ≤ (a.text.size : Int) ∧ (a.text.size : Int) ≤ 65536 := by have := HTA.out; omega
        have hGn : J ++ [a.id] ++ oldGo need (f + (a.text.size : Int)) (M.drop (i + 1)) = L := by
          have h := HGC.out
          rw [if_neg (by omega)] at h
          rw [List.append_assoc]
          exact h
        have HGN := Lib.hid hGn
        clear hbf hBf hown hle ho2 hg2 hat xe be se hBe hne hGn
        go_wp2_with fail
        go_roundw
        case rel => exact ⟨i + 1, f + (a.text.size : Int), J ++ [a.id], by omega, by go_num, rfl, HOF.out, HGN.out, by rw [List.length_append, HJL.out]; rfl, by omega, by omega, HBF.out⟩
        case measure => simp [intOf]; omega
    · obtain rfl : N = i := by omega
      have hJL : J = L := by
        have h := HG.out
        rw [List.drop_of_length_le (by rw [HSL.out]; exact Nat.le_refl _)] at h
        unfold oldGo at h
        rw [List.append_nil] at h
        exact h
      have HJL2 := Lib.hid hJL
      clear hJL
      go_wp2_with fail
      obtain rfl := HJL2.out
      exact bodyPost_ret (v := .tuple #[.slice jp N jc, .int .i64 0]) (by simp [results, Try.results25, go_sem]) rfl ⟨_, rfl, (HJ.out).base HB3.out.size, HBW.out⟩
end Go.Proofs.Ytnmdgjodbikndaa

namespace Go.Proofs.Ytnmdgjodbikndaa
open Go.RowKit
set_option linter.unusedVariables false
set_option linter.unusedSimpArgs false

def idN (n : UInt8) : IdB := ⟨n :: List.replicate 31 0, by simp⟩
set_option maxRecDepth 100000 in
theorem build_id (n : UInt8) (w : World) : (Instr.build 30 #[(0, .int .u8 (n.toNat : Int))]).run Try.prog w = .ok (idv (idN n)) w := by
  kernel_rfl
theorem ok_new {n : Int} (h1 : 1 ≤ n) (h2 : n ≤ 1073741824) : (⟨n, 0, []⟩ : SpD).Ok :=
  ⟨h1, h2, by show (0 : Int) ≤ n; omega, Int.le_refl _, List.Pairwise.nil, (fun a ha => by cases ha), (fun a ha => by cases ha), (fun a ha => by cases ha)⟩
def kS : SpD := ⟨10, 1, [⟨idN 1, ⟨#[97, 98, 99, 100, 101, 102]⟩, 5, 0⟩]⟩
theorem kn1 : putC ⟨10, 0, []⟩ (idN 1) ⟨#[97, 98, 99, 100, 101, 102]⟩ 5 = 0 := by kernel_rfl
theorem kn2 : putS ⟨10, 0, []⟩ (idN 1) ⟨#[97, 98, 99, 100, 101, 102]⟩ 5 = kS := by unfold putS; rw [if_pos kn1]; rfl
theorem kn3 : putC kS (idN 2) ⟨#[103, 104, 105, 106, 107]⟩ 6 = 9 := by kernel_rfl
theorem kn4 : putS kS (idN 2) ⟨#[103, 104, 105, 106, 107]⟩ 6 = kS := by unfold putS; rw [kn3, if_neg (by decide)]
theorem kn5 : oldC kS 5 = 0 := by kernel_rfl
theorem kn6 : oldL kS 5 = [idN 1] := by
  unfold oldL
  rw [kn5, if_pos rfl]
  unfold stab kS
  simp only [List.mergeSort_singleton]
  kernel_rfl
theorem kn7 : kS.Ok := by
  have h := Ok.add (k := idN 1) (t := ⟨#[97, 98, 99, 100, 101, 102]⟩) (d := 5) (ok_new (n := 10) (by decide) (by decide)) kn1
  exact h
def KnownPost (w : World) (e : Ending) (w' : World) : Prop := e = .returned (.bool true) ∧ Below w.heap.size w w'
theorem Chg.to_below {F : Nat → Prop} {B : Nat} {w0 w w' : World} (hb : Below B w0 w) (hc : Chg F w w') (hB : B ≤ w.heap.size) (hF : ∀ k, F k → B ≤ k) : Below B w0 w' := hb.trans (hc.below hF hB)
set_option maxRecDepth 100000 in
set_option maxHeartbeats 2000000 in
theorem known_any {w : World} : Calls Try.prog 12 #[] w (KnownPost w) := by
  obtain ⟨i1, hi1⟩ : ∃ i1, idN 1 = i1 := ⟨_, rfl⟩
  obtain ⟨i2, hi2⟩ : ∃ i2, idN 2 = i2 := ⟨_, rfl⟩
  obtain ⟨S1, hS1⟩ : ∃ S1, kS = S1 := ⟨_, rfl⟩
  have HI1 := Lib.hid (fun w => hi1 ▸ build_id 1 w)
  have HI2 := Lib.hid (fun w => hi2 ▸ build_id 2 w)
  have HK1 := Lib.hid (hi1 ▸ kn1)
  have HK2 := Lib.hid (hi1 ▸ hS1 ▸ kn2)
  have HK3 := Lib.hid (hi2 ▸ hS1 ▸ kn3)
  have HK4 := Lib.hid (hi2 ▸ hS1 ▸ kn4)
  have HK5 := Lib.hid (hS1 ▸ kn5)
  have HK6 := Lib.hid (hi1 ▸ hS1 ▸ kn6)
  have HK7 := Lib.hid (hS1 ▸ kn7)
  have HK8 := Lib.hid (show S1.list.length = 1 ∧ S1.size = 6 ∧ S1.next = 1 from hS1 ▸ ⟨rfl, rfl, rfl⟩)
  clear hi1 hi2 hS1
  go_enter Try.func12, Try.ntmps12
  go_wp2_with fail
  refine (New_any 10).mono ?_
  rintro e w1 ⟨hb1, ⟨_, _, b, m, rfl, hb, hm, hs⟩ | ⟨h, _⟩⟩
  case inr => exact absurd ⟨by decide, by decide⟩ h
  have HS0 := Lib.hid hs
  have HB := Lib.hid hb
  have HM := Lib.hid hm
  have HB1 := Lib.hid hb1
  clear hs hb hm hb1
  go_wp2_with (refine wpList_met rfl ?_; refine wpList_buildV rfl (some 17) rfl 30 #[(0, .const (.int .u8 1))] rfl [(0, .int .u8 1)] rfl (.agg (bvs i1.1).toArray) (HI1.out _) ?_; refine Stop.on ?_)
  refine Stop.go ?_
  try simp only [Act.put, List.setIfInBounds_toArray, List.set_cons_zero, List.set_cons_succ]
  go_wp2_with fail
  refine (Put_any HS0.out (ok_new (by decide) (by decide)) (by decide) i1 ⟨#[97, 98, 99, 100, 101, 102]⟩ 5).mono ?_
  rintro e w2 ⟨rfl, hs2, hc2⟩
  rw [HK2.out] at hs2
  rw [HK1.out]
  have HS2 := Lib.hid hs2
  have HB2 := Lib.hid (Chg.to_below HB1.out hc2 HB1.out.size (fun k e => by have := HB.out; have := HM.out; rcases e with e | e <;> omega))
  clear hs2 hc2
  go_wp2_with (refine wpList_met rfl ?_; refine wpList_buildV rfl (some 23) rfl 30 #[(0, .const (.int .u8 2))] rfl [(0, .int .u8 2)] rfl (.agg (bvs i2.1).toArray) (HI2.out _) ?_; refine Stop.on ?_)
  refine Stop.go ?_
  try simp only [Act.put, List.setIfInBounds_toArray, List.set_cons_zero, List.set_cons_succ]
  go_wp2_with fail
  refine (Put_any HS2.out HK7.out (by rw [HK8.out.2.2]; decide) i2 ⟨#[103, 104, 105, 106, 107]⟩ 6).mono ?_
  rintro e w3 ⟨rfl, hs3, hc3⟩
  rw [HK4.out] at hs3
  rw [HK3.out]
  have HS3 := Lib.hid hs3
  have HB3 := Lib.hid (Chg.to_below HB2.out hc3 HB2.out.size (fun k e => by have := HB.out; have := HM.out; rcases e with e | e <;> omega))
  clear hs3 hc3
  go_wp2_with fail
  refine (Oldest_any stableOk_one HS3.out HK7.out (by rw [HK8.out.1]; exact Nat.le_refl _) (by decide) 5).mono ?_
  rintro e w4 ⟨v, rfl, ho, hb4⟩
  rw [HK6.out] at ho
  rw [HK5.out]
  obtain ⟨va, vc, rfl⟩ := ho.form
  obtain ⟨g, off, rfl, hgl, hr⟩ := ho.at_.get (i := 0) (by simp)
  have hr : w4.rangeAt g off (bvs i1.1) := by rw [Nat.zero_mul, Nat.add_zero] at hr; exact hr
  have HR := Lib.hid hr
  have HS4 := Lib.hid (HS3.out.below hb4)
  have HB4 := Lib.hid (HB3.out.trans (hb4.mono HB3.out.size))
  clear ho hgl hr hb4
  rw [List.length_singleton]
  go_wp2_with (refine wpList_met rfl ?_; with_reducible refine wpList_load_mid rfl 30 _ rfl g off rfl (bvs i1.1) _ HR.out Try.underlying30 rfl (sizeId i1) ?_; refine Stop.on ?_)
  refine Stop.go ?_
  try simp only [Act.put, List.setIfInBounds_toArray, List.set_cons_zero, List.set_cons_succ]
  refine wpList_met rfl ?_; refine wpList_buildV rfl (some 43) rfl 30 #[(0, .const (.int .u8 1))] rfl [(0, .int .u8 1)] rfl (.agg (bvs i1.1).toArray) (HI1.out _) ?_
  try simp only [Act.put, List.setIfInBounds_toArray, List.set_cons_zero, List.set_cons_succ]
  refine wpList_met rfl ?_
  refine wpList_runI rfl (some 44) rfl (.bool (decide (i1 = i1))) _ (op_eql 30 (.tmp 42) (.tmp 43) 30 rfl rfl rfl guard_Id (eql_Id i1 i1 _)) ?_
  rw [decide_eq_true rfl]
  try simp only [Act.put, List.setIfInBounds_toArray, List.set_cons_zero, List.set_cons_succ]
  go_wp2_with fail
  refine (Bytes_any HS4.out).mono ?_
  rintro e w5 ⟨rfl, hb5⟩
  rw [HK8.out.2.1]
  have HB5 := Lib.hid (HB4.out.trans (hb5.mono HB4.out.size))
  clear hb5
  go_wp2_with fail
  exact bodyPost_ret (v := .bool true) (by simp [results, Try.results12, go_sem]) rfl ⟨rfl, HB5.out⟩
end Go.Proofs.Ytnmdgjodbikndaa
