/- The spool: entries, in the order in which they were put. -/
import Derived.Test.YtnmdgjodbikndaaS4
import Derived.Test.YtnmdgjodbikndaaSortG
namespace Go.Proofs.Ytnmdgjodbikndaa
open Go.Shelf Go.RowKit Go.Lib Go.Sort
set_option linter.unusedVariables false
set_option linter.unusedSimpArgs false

instance : Inhabited ArtD := ⟨zA⟩
theorem isAggEnt (w : World) : (isAgg 44).run Try.prog w = .ok true w := by kernel_rfl
theorem sizeOfEnt (w : World) : (Go.sizeOf 44).run Try.prog w = .ok 34 w := by kernel_rfl
theorem cmpI_lt (x y : Int) : cmpI x y < 0 ↔ x < y := by
  unfold cmpI
  split
  · exact ⟨fun _ => by omega, fun _ => by decide⟩
  · split
    · exact ⟨fun h => by omega, fun h => by omega⟩
    · exact ⟨fun h => by omega, fun h => by omega⟩
theorem swoE (S : SpD) : SWO (ltOf (cmpE S)) where
  irrefl x := by unfold ltOf cmpE; rw [decide_eq_false]; rw [cmpI_lt]; omega
  trans x y z h1 h2 := by
    unfold ltOf cmpE at *
    simp only [decide_eq_true_eq, cmpI_lt] at *
    omega
  ntrans x y z h1 h2 := by
    unfold ltOf cmpE at *
    simp only [decide_eq_false_iff_not, cmpI_lt] at *
    omega
/-- slices.SortFunc of a row of its own of entries, by the places that the map tells. -/
theorem sortEnt_any {w : World} {B b m bx : Nat} {S : SpD} {v : Value} (M : List ArtD) (h : OwnL entE w B v M) (hB : B ≤ w.heap.size) (hl : M.length < 1000000000) (hS : SpAt w b m S) (hbx : w.heap[bx]? = some (.cells #[.pointer (some ⟨b, 0, none⟩)] 24 (0, 0))) (h1 : b < B) (h2 : m < B) (h3 : bx < B) :
    Calls Try.prog 58 #[v, .func (.func 59) #[] #[.pointer (some ⟨bx, 0, none⟩)]] w fun e w' => e = .returned (.tuple #[]) ∧ Below B w w' ∧ ∃ M' : List ArtD, M'.Perm M ∧ OwnL entE w' B v M' ∧ ∀ i j (hi : i < M'.length) (hj : j < M'.length), i < j → plk S M'[i].id ≤ plk S M'[j].id := by
  have hh : w.ownsRow B 44 34 v M.length (M.flatMap entE.enc) := h
  rcases hh.2 with ⟨rfl, h0⟩ | ⟨g, cap, cur, rfl, hgB, hg, hc, hm, hs, ht⟩
  · obtain rfl : M = [] := List.eq_nil_of_length_eq_zero h0
    exact (AnyF.slices_SortFunc_none Try.sortEnt none 0 _ w).mono fun e w' ⟨he, hw⟩ => ⟨he, hw ▸ Below.refl _ _, [], List.Perm.refl _, by rw [hw]; exact h, fun i j hi => by cases hi⟩
  · have eg : ∀ args w, (callFunc 59 args).run Try.prog w = .ok (.enter 59 args) w := enters_of Try.func59 (by kernel_rfl) rfl
    have hcmp : CmpLays Try.prog 59 #[.pointer (some ⟨bx, 0, none⟩)] entE.enc 34 (cmpE S) g 0 M.toArray.size w := fun n os dk _ x y => by
      have hk : ∀ {i}, i < B → (sortWorldK entE.enc 34 w g 0 n dk os).heap[i]? = w.heap[i]? := fun hi => sw_block (by omega) (by omega)
      exact entCmp (hS.kept (hk h1) (hk h2)) ((hk h3).trans hbx) x y
    have hcon := AnyQ.slices_SortFunc Try.sortEnt 34 isAggEnt sizeOfEnt entE.enc entE.len entE.one (cmpE S) (swoE S) 59 #[.pointer (some ⟨bx, 0, none⟩)] g 0 cap M.toArray w eg hcmp (holdsK_of entE M hg ht) (Array.getElem?_eq_some_iff.1 hg).1 (by rw [List.size_toArray]; omega)
    rw [List.size_toArray] at hcon
    refine hcon.mono ?_
    rintro e w' ⟨rfl, d', n, os, ⟨hsz, _, hpm⟩, hso, rfl⟩
    have hsz : d'.size = M.length := by simpa using hsz
    have e1 : d'.extract 0 M.length = d' := by rw [← hsz]; exact Array.extract_size
    have e2 : M.toArray.extract 0 M.length = M.toArray := by
      have : M.toArray.size = M.length := List.size_toArray
      rw [← this]; exact Array.extract_size
    rw [e1, e2] at hpm
    obtain ⟨M', hM'⟩ : ∃ M', d'.toList = M' := ⟨_, rfl⟩
    have hd : d' = M'.toArray := by rw [← hM']
    rw [hM'] at hpm
    have hp : M'.Perm M := hpm
    rw [hd] at hso ⊢
    obtain ⟨g1, g2⟩ := own_sorted entE (n := n) (os := os) M M' hp.length_eq hgB hg hc hm hs
    refine ⟨rfl, g2, M', hp, g1, fun i j hi hj hij => ?_⟩
    have := hso i j (Nat.zero_le _) hij (by have := hp.length_eq; omega)
    unfold ltOf cmpE at this
    rw [decide_eq_false_iff_not, cmpI_lt, getElem!_pos M'.toArray i (by simpa using hi), getElem!_pos M'.toArray j (by simpa using hj)] at this
    simp only [List.getElem_toArray] at this
    omega

theorem list32 {l : List UInt8} (h : l.length = 32) : ∃ x0 x1 x2 x3 x4 x5 x6 x7 x8 x9 x10 x11 x12 x13 x14 x15 x16 x17 x18 x19 x20 x21 x22 x23 x24 x25 x26 x27 x28 x29 x30 x31, l = [x0, x1, x2, x3, x4, x5, x6, x7, x8, x9, x10, x11, x12, x13, x14, x15, x16, x17, x18, x19, x20, x21, x22, x23, x24, x25, x26, x27, x28, x29, x30, x31] := by
  match l, h with
  | [x0, x1, x2, x3, x4, x5, x6, x7, x8, x9, x10, x11, x12, x13, x14, x15, x16, x17, x18, x19, x20, x21, x22, x23, x24, x25, x26, x27, x28, x29, x30, x31], _ => exact ⟨x0, x1, x2, x3, x4, x5, x6, x7, x8, x9, x10, x11, x12, x13, x14, x15, x16, x17, x18, x19, x20, x21, x22, x23, x24, x25, x26, x27, x28, x29, x30, x31, rfl⟩
theorem build_ent (a : IdB) (x y : Int) (w : World) : (Instr.build 44 #[(0, .agg (bvs a.1).toArray), (1, .int .i64 x), (2, .int .i64 y)]).run Try.prog w = .ok (.agg (bvs a.1 ++ [Value.int .i64 x, Value.int .i64 y]).toArray) w := by
  obtain ⟨l, hl⟩ := a
  obtain ⟨x0, x1, x2, x3, x4, x5, x6, x7, x8, x9, x10, x11, x12, x13, x14, x15, x16, x17, x18, x19, x20, x21, x22, x23, x24, x25, x26, x27, x28, x29, x30, x31, rfl⟩ := list32 hl
  kernel_rfl
theorem find_mem {S : SpD} (hn : (S.kl.map (·.1)).Nodup) {a : ArtD} (ha : a ∈ S.list) : S.find a.id = some a := by
  cases hf : S.find a.id with
  | none => exact absurd rfl (find_spec.2 hf a ha)
  | some c =>
    obtain ⟨h1, h2⟩ := find_spec.1 hf
    have hk : S.kl.map (·.1) = S.list.map (·.id) := by unfold SpD.kl; rw [List.map_map]; rfl
    rw [hk] at hn
    obtain ⟨i, hi, rfl⟩ := List.getElem_of_mem h1
    obtain ⟨j, hj, rfl⟩ := List.getElem_of_mem ha
    have e : (S.list.map (·.id))[i]'(by simpa using hi) = (S.list.map (·.id))[j]'(by simpa using hj) := by simp [h2]
    have := (List.getElem_inj hn).1 e
    subst this
    rfl
/-- Sorted by place, the entries are the list. -/
theorem sorted_list {S : SpD} (hok : S.Ok) (hn : (S.kl.map (·.1)).Nodup) {M : List ArtD} (hp : M.Perm S.list) (hs : ∀ i j (hi : i < M.length) (hj : j < M.length), i < j → plk S M[i].id ≤ plk S M[j].id) : M = S.list := by
  have hpl : ∀ a ∈ S.list, plk S a.id = a.place := fun a ha => by unfold plk; rw [find_mem hn ha]; rfl
  refine List.Perm.eq_of_pairwise (le := fun x y : ArtD => x.place ≤ y.place) ?_ ?_ ?_ hp
  · intro a b ha hb h1 h2
    have ha' := hp.mem_iff.1 ha
    obtain ⟨i, hi, rfl⟩ := List.getElem_of_mem ha'
    obtain ⟨j, hj, rfl⟩ := List.getElem_of_mem hb
    have hpw := List.pairwise_iff_getElem.1 hok.pl
    rcases Nat.lt_trichotomy i j with hlt | he | hlt
    · have := hpw i j hi hj hlt; omega
    · subst he; rfl
    · have := hpw j i hj hi hlt; omega
  · rw [List.pairwise_iff_getElem]
    intro i j hi hj hij
    have := hs i j hi hj hij
    rw [hpl _ (hp.mem_iff.1 (List.getElem_mem hi)), hpl _ (hp.mem_iff.1 (List.getElem_mem hj))] at this
    exact this
  · exact hok.pl.imp (fun h => by omega)
def EntPost (w : World) (L : List ArtD) (e : Ending) (w' : World) : Prop := ∃ v, e = .returned v ∧ OwnL entE w' w.heap.size v L ∧ Below w.heap.size w w'
theorem perm_idx {N : Nat} {xs : List Nat} (hn : xs.Nodup) (hm : ∀ k, k ∈ xs ↔ k < N) : xs.Perm (List.range N) := (List.perm_ext_iff_of_nodup hn List.nodup_range).2 fun k => by rw [hm, List.mem_range]
theorem map_range (L : List ArtD) : (List.range L.length).map (fun j => L.getD j zA) = L := by
  apply List.ext_getElem
  · simp
  · intro i h1 h2
    simp only [List.getElem_map, List.getElem_range]
    rw [List.getD_eq_getElem?_getD, List.getElem?_eq_getElem h2]
    rfl

set_option maxRecDepth 100000 in
set_option maxHeartbeats 2000000 in
theorem entries_nil {w : World} : Calls Try.prog 37 #[.pointer none] w fun e w' => e = .returned (.slice none 0 0) ∧ Below w.heap.size w w' := by
  go_enter Try.func37, Try.ntmps37
  go_wp2_with fail
  exact bodyPost_ret (v := .slice none 0 0) (by simp [results, Try.results37, go_sem]) rfl ⟨rfl, (Below.refl _ _).alloc (Nat.le_refl _) _⟩
set_option maxRecDepth 100000 in
set_option maxHeartbeats 2000000 in
theorem entries_any {w : World} {b m : Nat} {S : SpD} (h : SpAt w b m S) (hok : S.Ok) (hl : S.list.length < 1000000) :
    Calls Try.prog 37 #[.pointer (some ⟨b, 0, none⟩)] w (EntPost w S.list) := by
  obtain ⟨w1, hw1⟩ : ∃ w1, w.alloc (.cells #[.pointer (some ⟨b, 0, none⟩)] 24) = w1 := ⟨_, rfl⟩
  have hb1 : Below w.heap.size w w1 := hw1 ▸ (Below.refl _ _).alloc (Nat.le_refl _) _
  have hx1 : w1.heap[w.heap.size]? = some (.cells #[.pointer (some ⟨b, 0, none⟩)] 24 (0, 0)) := by rw [← hw1]; exact heap_alloc_new _ _
  have hs1 : w1.heap.size = w.heap.size + 1 := by rw [← hw1]; simp
  have h1 := h.below hb1
  obtain ⟨es, clock, hm, hE, hN, hst⟩ := h1.hm.ex
  have hes : es.size = S.list.length := by have := congrArg List.length hE; simpa [SpD.kl] using this
  have hc0 : w1.cell? ⟨w.heap.size, 0, none⟩ = some (.pointer (some ⟨b, 0, none⟩)) := by rw [cell_of_row _ _ _ _ _ _ hx1]; rfl
  have hc3 := h1.cells.2.2.2
  have hblt := h.lt
  have hmlt := h.hm.lt
  have HM := Lib.hid hm
  have HE := Lib.hid hE
  have HN := Lib.hid hN
  have HST := Lib.hid hst
  have HES := Lib.hid hes
  have HH := Lib.hid h
  have H1 := Lib.hid h1
  have HOK := Lib.hid hok
  have HB1 := Lib.hid hb1
  have HX1 := Lib.hid hx1
  have HS1 := Lib.hid hs1
  have HBL := Lib.hid hblt
  have HML := Lib.hid hmlt
  have HLL := Lib.hid hl
  clear hm hE hN hst hes h h1 hok hb1 hx1 hs1 hblt hmlt hl
  go_enter Try.func37, Try.ntmps37
  go_wp2_with (at_range; refine wpList_rangeM rfl (.tmp 11) _ rfl Try.underlying76 rfl HM.out HST.out ?_; intro w4 hR4 hB4 hs4)
  go_frame
  have HR4 := Lib.hid hR4
  have HB4 := Lib.hid hB4
  have HS4 := Lib.hid hs4
  clear hR4 hB4 hs4
  go_loopw [3] (fun ov wr => ∃ (got : Nat → Bool) (xs : List Nat), RgAt wr m w1.heap.size es clock got ∧ xs.Nodup ∧ (∀ k, k ∈ xs ↔ k < S.list.length ∧ got k = true) ∧ OwnL entE wr w4.heap.size ov (xs.map fun j => S.list.getD j zA) ∧ Below w1.heap.size w1 wr)
    (fun _ wr => wr.rangeLeft m w1.heap.size)
  case atStart => exact ⟨_, [], HR4.out, List.nodup_nil, fun k => by simp, ownL_nil _ _ _, HB4.out⟩
  case round =>
    obtain ⟨got, xs, hR, hnd, hmx, hO, hB⟩ := hrel
    have hxl : xs.length ≤ S.list.length := nodup_lt_length hnd (fun k hk => ((hmx k).1 hk).1)
    obtain ⟨va, vc, rfl⟩ := hO.form
    rw [List.length_map] at hO ⊢
    obtain ⟨NX, hNX⟩ : ∃ NX, xs.length = NX := ⟨_, rfl⟩
    rw [hNX] at hO hxl ⊢
    have HNX := Lib.hid hNX
    have HXL := Lib.hid hxl
    have HR := Lib.hid hR
    have HND := Lib.hid hnd
    have HMX := Lib.hid hmx
    have HO := Lib.hid hO
    have HB := Lib.hid hB
    clear hR hnd hmx hO hB hNX hxl
    go_wp2_with (at_next; refine wpList_nextM rfl (.tmp 12) rfl rfl HR.out ?_ ?_)
    · intro hdone
      have hperm : (xs.map fun j => S.list.getD j zA).Perm S.list := by
        have h1 := (perm_idx HND.out (N := S.list.length) (fun k => by rw [HMX.out]; exact ⟨fun h => h.1, fun h => ⟨h, hdone k (by rw [HES.out]; exact h)⟩⟩)).map (fun j => S.list.getD j zA)
        rw [map_range] at h1
        exact h1
      have HP := Lib.hid hperm
      clear hdone hperm
      go_wp2_with fail
      refine (sortEnt_any (S := S) (b := b) (m := m) (bx := w.heap.size) (xs.map fun j => S.list.getD j zA) HO.out (by have := HS4.out; have := HB.out.size; have := HR.out.lt; omega) (by rw [List.length_map, HNX.out]; have := HXL.out; have := HLL.out; omega) (H1.out.below HB.out) ((HB.out.block _ (Array.getElem?_eq_some_iff.1 HX1.out).1).trans HX1.out) (by have := HS4.out; have := HBL.out; have := HS1.out; omega) (by have := HS4.out; have := HML.out; have := HS1.out; omega) (by have := HS4.out; have := HS1.out; omega)).mono ?_
      rintro e w7 ⟨rfl, hb7, M', hp', hO7, hso⟩
      obtain rfl := sorted_list HOK.out (H1.out.hm.nodup) (hp'.trans HP.out) hso
      have HO7 := Lib.hid hO7
      have HB7 := Lib.hid hb7
      clear hO7 hb7 hso hp'
      go_wp2_with fail
      exact bodyPost_ret (v := .slice va NX vc) (by simp [results, Try.results37, go_sem]) rfl ⟨_, rfl, HO7.out.base (by have := HS4.out; have := HS1.out; omega), HB1.out.trans ((HB.out.trans (HB7.out.mono (by have := HS4.out; omega))).mono HB1.out.size)⟩
    · intro j hj w5 hgj hR5 hlt5 hgr5 hs5 hen5
      have hjl : j < S.list.length := by rw [← HES.out]; exact hj
      obtain ⟨a, ha⟩ : ∃ a, S.list[j] = a := ⟨_, rfl⟩
      have hkv : es[j].key = .agg (bvs a.id.1).toArray ∧ es[j].val = .agg #[.string a.text, .int .i64 a.arr, .int .i64 a.place] := by
        have h7 : (es.toList.map entOf)[j]? = (S.kl.map (fun p => (idKey.kv p.1, p.2)))[j]? := by rw [HE.out]
        unfold SpD.kl at h7
        simp only [List.getElem?_map, Array.getElem?_toList, Array.getElem?_eq_getElem hj, List.getElem?_eq_getElem hjl, Option.map_some, Option.some.injEq, ha] at h7
        exact ⟨congrArg Prod.fst h7, congrArg Prod.snd h7⟩
      rw [hkv.1, hkv.2] at hen5
      rw [hkv.1, hkv.2]
      have hgd : S.list.getD j zA = a := by rw [List.getD_eq_getElem?_getD, List.getElem?_eq_getElem hjl, ha]; rfl
      have hB5 : Below w1.heap.size w1 w5 := HB.out.grown hgr5 HB.out.size (fun j e => by rw [← Option.some.inj e]; exact Nat.le_refl _)
      have hO5 : OwnL entE w5 w4.heap.size (.slice va NX vc) (xs.map fun j => S.list.getD j zA) :=
        HO.out.chg (F := fun k => k = w1.heap.size) (Chg.grown hgr5 (fun k hk => .inl (Option.some.inj hk).symm)) (fun k hk e => by have := (HO.out.lt hk).1; have := HS4.out; omega)
      have hxs' : ∀ k, k ∈ xs ++ [j] ↔ k < S.list.length ∧ (got k || k == j) = true := fun k => by
        rw [List.mem_append, HMX.out, List.mem_singleton]
        constructor
        · rintro (⟨h1, h2⟩ | rfl)
          · exact ⟨h1, by rw [h2]; rfl⟩
          · exact ⟨hjl, by simp⟩
        · rintro ⟨h1, h2⟩
          rw [Bool.or_eq_true, beq_iff_eq] at h2
          exact h2.elim (fun h => .inl ⟨h1, h⟩) .inr
      have hnd' : (xs ++ [j]).Nodup := by
        rw [List.nodup_append]
        refine ⟨HND.out, by simp, fun x hx y hy e => ?_⟩
        rw [List.mem_singleton.1 hy] at e
        have := ((HMX.out x).1 hx).2
        rw [e, hgj] at this
        cases this
      have hNX1 : NX < S.list.length := by
        have := nodup_lt_length hnd' (fun k hk => ((hxs' k).1 hk).1)
        rw [List.length_append, List.length_singleton, HNX.out] at this
        omega
      have HR5 := Lib.hid hR5
      have HLT5 := Lib.hid hlt5
      have HB5 := Lib.hid hB5
      have HO5 := Lib.hid hO5
      have HXS := Lib.hid hxs'
      have HND' := Lib.hid hnd'
      have HGD := Lib.hid hgd
      have HNX1 := Lib.hid hNX1
      have HS5 := Lib.hid hs5
      clear hR5 hlt5 hB5 hO5 hxs' hnd' hgd hNX1 hkv ha hgj hgr5 hs5
      go_wp2_with (refine wpList_newV rfl (some 4) rfl 30 rfl (bvs z32.1).toArray 32 (by kernel_rfl) ?_; refine Stop.on ?_)
      refine Stop.go ?_
      intro wa xa ba sa
      try simp only [Act.put, List.setIfInBounds_toArray, List.set_cons_zero, List.set_cons_succ]
      refine wpList_newV rfl (some 5) rfl 80 rfl #[.string ⟨#[]⟩, .int .i64 0, .int .i64 0] 3 (by kernel_rfl) ?_
      intro wb xb bb sb
      try simp only [Act.put, List.setIfInBounds_toArray, List.set_cons_zero, List.set_cons_succ]
      refine wpList_putV rfl rfl 30 (.tmp 4) (.tmp 16) rfl _ (bvs a.id.1).toArray rfl rfl 30 (bvs z32.1).toArray ((bb.block _ (by omega)).trans xa) (sizeIdA a.id) (by rw [List.size_toArray, List.size_toArray, bvs_length, bvs_length, z32.2, a.id.2]) (all_oneCell_toArray bvs_oneCell) ?_
      intro wc xc cc sc
      try simp only [Act.put, List.setIfInBounds_toArray, List.set_cons_zero, List.set_cons_succ]
      refine wpList_putV rfl rfl 80 (.tmp 5) (.tmp 17) rfl _ #[.string a.text, .int .i64 a.arr, .int .i64 a.place] rfl rfl 80 _ ((cc.block _ (by omega) (by omega)).trans xb) sizeArt rfl oneArt ?_
      intro wd xd cd sd
      try simp only [Act.put, List.setIfInBounds_toArray, List.set_cons_zero, List.set_cons_succ]
      have hB5d : Below w5.heap.size w5 wd := (ba.trans (bb.mono (by omega))).trans ((cc.below (B := w5.heap.size) (fun k e => by omega) (by omega)).trans (cd.below (B := w5.heap.size) (fun k e => by omega) (by omega)))
      have hxi := (cd.block _ (by omega) (by omega)).trans xc
      have hca : wd.cell? ⟨wa.heap.size, 1, none⟩ = some (.int .i64 a.arr) := by rw [cell_of_row _ _ _ _ _ _ xd]; rfl
      have hct : wd.cell? ⟨wa.heap.size, 0, none⟩ = some (.string a.text) := by rw [cell_of_row _ _ _ _ _ _ xd]; rfl
      have HB5D := Lib.hid hB5d
      have HXI := Lib.hid hxi
      clear xa ba sa xb bb sb xc cc sc xd cd sd hB5d hxi
      go_wp2_with (refine wpList_loadV rfl (some 19) rfl 30 (.tmp 4) rfl _ rfl 30 (bvs a.id.1).toArray (0, 0) _ HXI.out Try.underlying30 rfl (sizeIdA a.id) ?_; refine Stop.on ?_)
      refine Stop.go ?_
      try simp only [Act.put, List.setIfInBounds_toArray, List.set_cons_zero, List.set_cons_succ]
      go_wp2_with (refine wpList_buildV rfl (some 25) rfl 44 _ rfl [(0, .agg (bvs a.id.1).toArray), (1, .int .i64 a.arr), (2, .int .i64 (a.text.size : Int))] rfl (.agg (entC a).toArray) (build_ent a.id a.arr _ _) ?_; refine Stop.on ?_)
      refine Stop.go ?_
      try simp only [Act.put, List.setIfInBounds_toArray, List.set_cons_zero, List.set_cons_succ]
      refine wpList_litsV entE rfl (some 26) rfl 1 #[(0, .tmp 25)] rfl [a] rfl rfl (by decide) (by decide) ?_
      intro we xe be se
      try simp only [Act.put, List.setIfInBounds_toArray, List.set_cons_zero, List.set_cons_succ]
      have hown := (HO5.out.below (HB5D.out)).below be
      have hle : w4.heap.size ≤ we.heap.size := by have := HS4.out; have := HR5.out.lt; have := HB5D.out.size; omega
      refine wpList_appL entE rfl (n := NX) (m := 1) (.tmp 18) (.tmp 26) rfl rfl hown rfl (list_of_block entE xe (le_max4 (by simp))) (by rw [List.length_map]; exact HNX.out) rfl (by have := HNX1.out; have := HLL.out; omega) hle ?_
      intro a2 c2 wf ho2 hg2 hat
      try simp only [Act.put, List.setIfInBounds_toArray, List.set_cons_zero, List.set_cons_succ]
      have hbf := hown.grown_below hg2 hle
      have hBf : Below w1.heap.size w1 wf := (HB5.out.trans ((HB5D.out.trans (be.mono HB5D.out.size)).mono HB5.out.size)).trans (hbf.mono (by have := HS4.out; omega))
      have hRf : RgAt wf m w1.heap.size es clock (fun i => got i || i == j) := (HR5.out.below (HB5D.out.trans (be.mono HB5D.out.size))).kept (hbf.block _ (by have := HS4.out; have := HML.out; have := HS1.out; omega)) (hbf.block _ (by have := HS4.out; omega))
      have hLf : wf.rangeLeft m w1.heap.size < wr.rangeLeft m w1.heap.size := by
        have e1 := (HB5D.out.trans (be.mono HB5D.out.size))
        rw [rangeLeft_kept ((hbf.block _ (by have := HS4.out; have := HML.out; have := HS1.out; omega)).trans (e1.block _ HR5.out.lt.1)) ((hbf.block _ (by have := HS4.out; omega)).trans (e1.block _ HR5.out.lt.2))]
        exact HLT5.out
      have hOf : OwnL entE wf w4.heap.size (.slice a2 (NX + 1) c2) ((xs ++ [j]).map fun j => S.list.getD j zA) := by
        rw [List.map_append, List.map_cons, List.map_nil, HGD.out]
        exact ho2
      have HBF := Lib.hid hBf
      have HRF := Lib.hid hRf
      have HLF := Lib.hid hLf
      have HOF := Lib.hid hOf
      clear hBf hRf hLf hOf hbf hown hle ho2 hg2 hat xe be se
      go_wp2_with fail
      go_roundw
      case rel => exact ⟨_, xs ++ [j], HRF.out, HND'.out, HXS.out, HOF.out, HBF.out⟩
      case measure => exact HLF.out
end Go.Proofs.Ytnmdgjodbikndaa
