/- Visibility: whether an article is shown is decided by a closure that calls itself. -/
import Derived.Test.YtjjanjhoaiannaaVp1
import Derived.Test.YtjjanjhoaiannaaRegion6
import Derived.Deep.RegionHeld3
namespace Go.Proofs.Ytjjanjhoaiannaa
open Go.RowKit
set_option linter.unusedVariables false
set_option linter.unusedSimpArgs false

def zeroRow : RowV := ⟨z32, List.replicate 16 0, by simp, 0, .slice none 0 0, rfl, .slice none 0 0, rfl, z32, []⟩
theorem rowv_zero : rowv zeroRow = .agg Try.zeroCells36 := by kernel_rfl
theorem zero_row (w : World) : (zeroValue 36).run Try.prog w = .ok (rowv zeroRow) w := by kernel_rfl

/-- The blocks of the closure's variables, and of their maps. -/
structure Cs where
  cR : Nat
  cW : Nat
  cD : Nat
  cA : Nat
  cN : Nat
  mR : Nat
  mW : Nat
  mA : Nat
def Cs.caps (C : Cs) : List Value := [.pointer (some ⟨C.cR, 0, none⟩), .pointer (some ⟨C.cW, 0, none⟩), .pointer (some ⟨C.cD, 0, none⟩), .pointer (some ⟨C.cA, 0, none⟩), .pointer (some ⟨C.cN, 0, none⟩)]
def rowsF (L : List RowV) (q : IdB) : Option Value := (findRow L q).map rowv
structure Env (w : World) (C : Cs) (L : List RowV) (G : List IdB) (now : Int) : Prop where
  r : w.heap[C.cR]? = some (.cells #[.map (some C.mR)] 64 (0, 0))
  w_ : w.heap[C.cW]? = some (.cells #[.map (some C.mW)] 81 (0, 0))
  d : w.heap[C.cD]? = some (.cells #[.func (.func 35) #[] C.caps.toArray] 82 (0, 0))
  a : w.heap[C.cA]? = some (.cells #[.map (some C.mA)] 64 (0, 0))
  n : w.heap[C.cN]? = some (.cells #[.int .i64 now] 3 (0, 0))
  mw : KMap idKey w C.mW (rowsF L)
  ma : KMap idKey w C.mA (setF G)
  hw : C.mW ≠ C.mR
  ha : C.mA ≠ C.mR
theorem map_ne_cells {w : World} {m c : Nat} {f : IdB → Option Value} {cs : Array Value} {T : TypeId} {fr : Nat × Nat} (hm : KMap idKey w m f) (hc : w.heap[c]? = some (.cells cs T fr)) : c ≠ m := by
  intro e
  subst e
  obtain ⟨es, cl, _, h, _⟩ := hm.ex
  rw [hc] at h
  cases h
theorem Env.chg {w w' : World} {C : Cs} {L : List RowV} {G : List IdB} {now : Int} {f : IdB → Option Value} (h : Env w C L G now) (hm : KMap idKey w C.mR f) (hc : Chg (fun k => k = C.mR) w w') : Env w' C L G now :=
  ⟨(hc.block _ (Array.getElem?_eq_some_iff.1 h.r).1 (map_ne_cells hm h.r)).trans h.r, (hc.block _ (Array.getElem?_eq_some_iff.1 h.w_).1 (map_ne_cells hm h.w_)).trans h.w_, (hc.block _ (Array.getElem?_eq_some_iff.1 h.d).1 (map_ne_cells hm h.d)).trans h.d,
   (hc.block _ (Array.getElem?_eq_some_iff.1 h.a).1 (map_ne_cells hm h.a)).trans h.a, (hc.block _ (Array.getElem?_eq_some_iff.1 h.n).1 (map_ne_cells hm h.n)).trans h.n, h.mw.chg hc h.hw, h.ma.chg hc h.ha, h.hw, h.ha⟩
theorem Env.below {w w' : World} {C : Cs} {L : List RowV} {G : List IdB} {now : Int} (h : Env w C L G now) (hb : Below w.heap.size w w') : Env w' C L G now :=
  ⟨(hb.block _ (Array.getElem?_eq_some_iff.1 h.r).1).trans h.r, (hb.block _ (Array.getElem?_eq_some_iff.1 h.w_).1).trans h.w_, (hb.block _ (Array.getElem?_eq_some_iff.1 h.d).1).trans h.d, (hb.block _ (Array.getElem?_eq_some_iff.1 h.a).1).trans h.a, (hb.block _ (Array.getElem?_eq_some_iff.1 h.n).1).trans h.n,
   h.mw.below hb, h.ma.below hb, h.hw, h.ha⟩
theorem cell_one {w : World} {c : Nat} {v : Value} {T : TypeId} {fr : Nat × Nat} (h : w.heap[c]? = some (.cells #[v] T fr)) : w.cell? ⟨c, 0, none⟩ = some v := by rw [cell_of_row _ _ _ _ _ _ h]; rfl
/-- What the results hold: of those that are not being decided, nothing or the answer; of the others, false. -/
def vGood (L : List RowV) (G : List IdB) (now : Int) (f : IdB → Option Value) (S : List IdB) : Prop :=
  ∀ x ∈ L, (x.id ∉ S → f x.id = none ∨ f x.id = some (.bool (shB L G now x))) ∧ (x.id ∈ S → f x.id = some (.bool false))
/-- What a call of the closure leaves. -/
def DecPost (w : World) (C : Cs) (L : List RowV) (G : List IdB) (now : Int) (S : List IdB) (r : RowV) (e : Ending) (w' : World) : Prop :=
  ∃ f', e = .returned (.bool (shB L G now r)) ∧ KMap idKey w' C.mR f' ∧ vGood L G now f' S ∧ Chg (fun k => k = C.mR) w w'

set_option maxRecDepth 100000 in
set_option maxHeartbeats 2000000 in
theorem decide_memo {w : World} (C : Cs) (L : List RowV) (G : List IdB) (now : Int) (f : IdB → Option Value) (r : RowV) (b : Bool) (henv : Env w C L G now) (hm : KMap idKey w C.mR f) (hf : f r.id = some (.bool b)) :
    Calls Try.prog 35 #[rowv r, .pointer (some ⟨C.cR, 0, none⟩), .pointer (some ⟨C.cW, 0, none⟩), .pointer (some ⟨C.cD, 0, none⟩), .pointer (some ⟨C.cA, 0, none⟩), .pointer (some ⟨C.cN, 0, none⟩)] w fun e w' => e = .returned (.bool b) ∧ Below w.heap.size w w' := by
  obtain ⟨w1, hw1⟩ : ∃ w1, w.alloc (.cells r.cells.toArray 36) = w1 := ⟨_, rfl⟩
  have hb1 : Below w.heap.size w w1 := hw1 ▸ (Below.refl _ w).alloc (Nat.le_refl _) _
  have hx1 : w1.heap[w.heap.size]? = some (.cells r.cells.toArray 36 (0, 0)) := by rw [← hw1]; exact heap_alloc_new _ _
  have henv1 := henv.below hb1
  have hcr := cell_one henv1.r
  have hlk := (hm.below hb1).look Try.underlying64 (z := .bool false) (fun _ => rfl) r.id true
  rw [hf] at hlk
  have hlk' : (Instr.lookup 64 (.map (some C.mR)) (.agg (bvs r.id.1).toArray) true).run Try.prog w1 = .ok (.tuple #[.bool b, .bool true]) w1 := hlk
  have HR1 := Lib.hid (row_id (range_block hx1))
  have HSI := Lib.hid (sizeId r.id)
  have HB1 := Lib.hid hb1
  unfold rowv
  clear hb1 hx1 henv1 hlk henv hm hf
  go_enter Try.func35, Try.ntmps35
  go_wp2_with (with_reducible refine wpList_load_mid rfl 31 _ rfl w.heap.size (0) rfl (bvs r.id.1) _ HR1.out Try.underlying31 rfl HSI.out ?_)
  go_ret
  exact ⟨rfl, HB1.out⟩

set_option maxRecDepth 100000 in
theorem lookEq {w : World} {m : Nat} {f : IdB → Option Value} (hm : KMap idKey w m f) (q : IdB) : (Instr.lookup 64 (.map (some m)) (.agg (bvs q.1).toArray) false).run Try.prog w = .ok ((f q).getD (.bool false)) w :=
  hm.look Try.underlying64 (z := .bool false) (fun _ => rfl) q false

theorem good_in {L : List RowV} {G : List IdB} {now : Int} {f : IdB → Option Value} {S : List IdB} (h : vGood L G now f S) (r : RowV) : vGood L G now (fun x => if x = r.id then some (.bool false) else f x) (r.id :: S) := by
  intro x hx
  refine ⟨fun hns => ?_, fun hs => ?_⟩
  · rw [List.mem_cons, not_or] at hns
    simp only [if_neg hns.1]
    exact (h x hx).1 hns.2
  · by_cases he : x.id = r.id
    · simp only [if_pos he]
    · simp only [if_neg he]
      rcases List.mem_cons.1 hs with h1 | h1
      · exact absurd h1 he
      · exact (h x hx).2 h1
theorem good_fin {L : List RowV} {G : List IdB} {now : Int} (hn : (L.map (·.id)).Nodup) {f : IdB → Option Value} {S : List IdB} {r : RowV} (hr : r ∈ L) (hrS : r.id ∉ S) (h : vGood L G now f (r.id :: S)) {b : Bool} (hb : shB L G now r = b) : vGood L G now (fun x => if x = r.id then some (.bool b) else f x) S := by
  intro x hx
  by_cases he : x.id = r.id
  · obtain rfl := row_eq hn hx hr he
    refine ⟨fun _ => .inr (by simp only [if_pos]; rw [hb]), fun hs => absurd hs hrS⟩
  · refine ⟨fun hns => ?_, fun hs => ?_⟩
    · simp only [if_neg he]
      exact (h x hx).1 (fun h1 => by
        rcases List.mem_cons.1 h1 with h2 | h2
        · exact he h2
        · exact hns h2)
    · simp only [if_neg he]
      exact (h x hx).2 (List.mem_cons_of_mem _ hs)

set_option maxRecDepth 100000 in
set_option maxHeartbeats 2000000 in
theorem decide_any {w0 : World} (C : Cs) (L : List RowV) (G : List IdB) (now : Int) (hn : (L.map (·.id)).Nodup) (hd : ∀ x ∈ L, 0 ≤ x.date ∧ x.date ≤ 105190559) (hrefs : ∀ x ∈ L, x.refs.length ≤ 20 ∧ ListAt idE w0 x.rv x.refs) (hmR : w0.heap.size ≤ C.mR) :
    ∀ (n : Nat) (w : World) (f : IdB → Option Value) (S U : List IdB) (r : RowV), U.length ≤ n → Below w0.heap.size w0 w → Env w C L G now → KMap idKey w C.mR f → vGood L G now f S → (∀ x ∈ L, f x.id = none → x.id ∈ U) → r ∈ L → (∀ s ∈ S, ∃ y ∈ L, y.id = s ∧ ∃ k, 1 ≤ k ∧ iterR L k y = some r) →
      Calls Try.prog 35 #[rowv r, .pointer (some ⟨C.cR, 0, none⟩), .pointer (some ⟨C.cW, 0, none⟩), .pointer (some ⟨C.cD, 0, none⟩), .pointer (some ⟨C.cA, 0, none⟩), .pointer (some ⟨C.cN, 0, none⟩)] w (DecPost w C L G now S r) := by
  intro n
  induction n with
  | zero =>
    intro w f S U r hU hb0 henv hm hg hU2 hr hS
    obtain rfl : U = [] := List.eq_nil_of_length_eq_zero (by omega)
    have hne : f r.id ≠ none := fun h => by have := hU2 r hr h; simp at this
    have hf : f r.id = some (.bool (shB L G now r)) := by
      by_cases hs : r.id ∈ S
      · obtain ⟨y, hy, hyi, k, hk, hik⟩ := hS _ hs
        obtain rfl := row_eq hn hy hr hyi
        rw [(hg y hy).2 hs, shB_cycle hn hy hk hik]
      · rcases (hg r hr).1 hs with h | h
        · exact absurd h hne
        · exact h
    exact (decide_memo C L G now f r _ henv hm hf).mono fun e w' ⟨he, hb⟩ => ⟨f, he, hm.below hb, hg, Chg.of_below hb⟩
  | succ n ih =>
    intro w f S U r hU hb0 henv hm hg hU2 hr hS
    by_cases hne : f r.id ≠ none
    · have hf : f r.id = some (.bool (shB L G now r)) := by
        by_cases hs : r.id ∈ S
        · obtain ⟨y, hy, hyi, k, hk, hik⟩ := hS _ hs
          obtain rfl := row_eq hn hy hr hyi
          rw [(hg y hy).2 hs, shB_cycle hn hy hk hik]
        · rcases (hg r hr).1 hs with h | h
          · exact absurd h hne
          · exact h
      exact (decide_memo C L G now f r _ henv hm hf).mono fun e w' ⟨he, hb⟩ => ⟨f, he, hm.below hb, hg, Chg.of_below hb⟩
    have hf0 : f r.id = none := by simpa using hne
    have hrS : r.id ∉ S := fun hs => by have := (hg r hr).2 hs; rw [hf0] at this; cases this
    clear hne
    -- the row's own variable, the result false
    obtain ⟨w1, hw1⟩ : ∃ w1, w.alloc (.cells r.cells.toArray 36) = w1 := ⟨_, rfl⟩
    have hb1 : Below w.heap.size w w1 := hw1 ▸ (Below.refl _ w).alloc (Nat.le_refl _) _
    have hx1 : w1.heap[w.heap.size]? = some (.cells r.cells.toArray 36 (0, 0)) := by rw [← hw1]; exact heap_alloc_new _ _
    have henv1 := henv.below hb1
    have hm1 := hm.below hb1
    have hcr := cell_one henv1.r
    have hlk := hm1.look Try.underlying64 (z := .bool false) (fun _ => rfl) r.id true
    rw [hf0] at hlk
    have hlk' : (Instr.lookup 64 (.map (some C.mR)) (.agg (bvs r.id.1).toArray) true).run Try.prog w1 = .ok (.tuple #[.bool false, .bool false]) w1 := hlk
    obtain ⟨w2, hup, hm2, hc2⟩ := hm1.upd Try.underlying64 r.id (.bool false)
    have hup' : (Instr.mapUpdate 64 (.map (some C.mR)) (.agg (bvs r.id.1).toArray) (.bool false)).run Try.prog w1 = .ok () w2 := hup
    have henv2 := henv1.chg hm1 hc2
    have hneB : w.heap.size ≠ C.mR := by have := hm.lt; omega
    have hx2 := (hc2.block _ (Array.getElem?_eq_some_iff.1 hx1).1 hneB).trans hx1
    have hc02 : Chg (fun k => k = C.mR) w w2 := (Chg.of_below hb1).trans hc2 (fun k h => .inl h)
    have hb02 : Below w0.heap.size w0 w2 := hb0.trans (hc02.below (fun k (h : k = C.mR) => h ▸ hmR) hb0.size)
    obtain ⟨hrl, hrf⟩ := hrefs r hr
    have hqu := question_any r (hrf.below hb02) (by omega)
    obtain ⟨Q, hQ⟩ : ∃ Q, r.refs.getLast? = Q := ⟨_, rfl⟩
    rw [hQ] at hqu
    obtain ⟨q, hq⟩ : ∃ q, Q.getD z32 = q := ⟨_, rfl⟩
    obtain ⟨bq, hbq⟩ : ∃ bq, Q.isSome = bq := ⟨_, rfl⟩
    rw [hq, hbq] at hqu
    have HQU := Lib.hid hqu
    have HR1 := Lib.hid (row_id (range_block hx1))
    have HR2 := Lib.hid (range_block hx2)
    have HX2 := Lib.hid hx2
    have HSI := Lib.hid (sizeId r.id)
    have HSR := Lib.hid (sizeRow r)
    have HC02 := Lib.hid hc02
    have HB02 := Lib.hid hb02
    have HENV2 := Lib.hid henv2
    have HM2 := Lib.hid hm2
    have HQ := Lib.hid hQ
    have HQQ := Lib.hid hq
    have HBQ := Lib.hid hbq
    have HF0 := Lib.hid hf0
    have HG := Lib.hid hg
    have HU := Lib.hid hU2
    have HS := Lib.hid hS
    have HMLT := Lib.hid hm.lt
    clear hb1 hx1 henv1 hm1 hlk hup hm2 hc2 henv2 hx2 hc02 hb02 hqu hQ hq hbq hf0 hg hU2 hS henv hm hb0 hrf
    unfold rowv
    go_enter Try.func35, Try.ntmps35
    go_wp2_with (first | (with_reducible refine wpList_load_mid rfl 31 _ rfl w.heap.size (0) rfl (bvs r.id.1) _ HR1.out Try.underlying31 rfl HSI.out ?_) | (with_reducible refine wpList_load_mid rfl 36 _ rfl w.heap.size (0) rfl (r.cells) _ HR2.out Try.underlying36 rfl HSR.out ?_))
    refine HQU.out.mono ?_
    rintro e w3 ⟨rfl, hb3⟩
    obtain ⟨wz, w4, hwz, hnz, hst, hx4, hb34, hs4, _⟩ := newId w3 q
    have hb24 := hb3.trans (hb34.mono hb3.size)
    have henv4 := HENV2.out.below hb24
    have hm4 := HM2.out.below hb24
    have hxr4 := (hb24.block _ (Array.getElem?_eq_some_iff.1 HX2.out).1).trans HX2.out
    have hc04 : Chg (fun k => k = C.mR) w w4 := HC02.out.trans (Chg.of_below (F := fun _ => False) hb24) (fun k h => h.elim)
    have hcr4 := cell_one henv4.r
    have HNZ := Lib.hid hnz
    have HST := Lib.hid hst
    have HX4 := Lib.hid hx4
    have HRQ := Lib.hid (range_block hx4)
    have HSQ := Lib.hid (sizeId q)
    have HSA := Lib.hid (sizeIdA q)
    have HZS := Lib.hid (zsId q)
    have HENV4 := Lib.hid henv4
    have HM4 := Lib.hid hm4
    have HXR4 := Lib.hid hxr4
    have HRR4 := Lib.hid (row_id (range_block hxr4))
    have HC04 := Lib.hid hc04
    have HB04 := Lib.hid (HB02.out.trans (hb24.mono HB02.out.size))
    have HWZ := Lib.hid hwz
    clear hb3 hnz hst hx4 hb34 hs4 hb24 henv4 hm4 hxr4 hc04 hcr hlk' hup' HQU HR1 HR2 HX2 HC02 HB02 HENV2 HM2 hcr4
    have hwz := HWZ.out
    cases Q with
    | none =>
      obtain rfl : false = bq := HBQ.out
      have hsh : shB L G now r = true := by
        rw [shB_term hn hr (by unfold stepR; rw [HQ.out]; rfl)]
        unfold termR
        rw [HQ.out]
      obtain ⟨w5, hup, hm5, hc5⟩ := HM4.out.upd Try.underlying64 r.id (.bool true)
      have hup' : (Instr.mapUpdate 64 (.map (some C.mR)) (.agg (bvs r.id.1).toArray) (.bool true)).run Try.prog w4 = .ok () w5 := hup
      have hcr := cell_one HENV4.out.r
      have HFIN := Lib.hid (show DecPost w C L G now S r (.returned (.bool true)) w5 from ⟨_, by rw [hsh], hm5, good_fin hn hr hrS (good_in HG.out r) hsh, HC04.out.trans hc5 (fun k h => .inl h)⟩)
      clear hup hm5 hc5 hsh
      go_wp2_with (first | (with_reducible refine wpList_store_row rfl 31 _ _ rfl w3.heap.size (bvs q.1).toArray rfl rfl 31 _ HNZ.out HSA.out HZS.out (oneCell_bvs _) ?_; rw [HST.out]) | (with_reducible refine wpList_load_mid rfl 31 _ rfl w.heap.size (0) rfl (bvs r.id.1) _ HRR4.out Try.underlying31 rfl HSI.out ?_))
      go_ret
      exact HFIN.out
    | some q0 =>
      obtain rfl : q0 = q := HQQ.out
      obtain rfl : true = bq := HBQ.out
      have hcw := cell_one HENV4.out.w_
      obtain ⟨p, hp⟩ : ∃ p, findRow L q0 = p := ⟨_, rfl⟩
      have hlk := HENV4.out.mw.look Try.underlying81 zero_row q0 true
      unfold rowsF at hlk
      rw [hp] at hlk
      cases p with
      | some p =>
        have hlk' : (Instr.lookup 81 (.map (some C.mW)) (.agg (bvs q0.1).toArray) true).run Try.prog w4 = .ok (.tuple #[.agg p.cells.toArray, .bool true]) w4 := hlk
        obtain ⟨wy, w5, hwy, hny, hsty, hx5, hb45, hs5, _⟩ := newRow w4 p
        have hstep : stepR L r = some p := by unfold stepR; rw [HQ.out]; exact hp
        have henv5 := HENV4.out.below hb45
        have hm5 := HM4.out.below hb45
        have hcd := cell_one henv5.d
        have hxr5 := (hb45.block _ (Array.getElem?_eq_some_iff.1 HXR4.out).1).trans HXR4.out
        have hc05 : Chg (fun k => k = C.mR) w w5 := HC04.out.trans (Chg.of_below (F := fun _ => False) hb45) (fun k h => h.elim)
        have hrU : r.id ∈ U := HU.out r hr HF0.out
        have hcall := ih w5 _ (r.id :: S) (U.erase r.id) p (by rw [List.length_erase_of_mem hrU]; omega) (HB04.out.trans (hb45.mono HB04.out.size)) henv5 hm5 (good_in HG.out r) (fun x hx h => by
          by_cases he : x.id = r.id
          · simp only [if_pos he] at h; cases h
          · simp only [if_neg he] at h; exact (List.mem_erase_of_ne he).2 (HU.out x hx h)) (stepR_mem hstep) (fun s hs => by
          rcases List.mem_cons.1 hs with rfl | hs
          · exact ⟨r, hr, rfl, 1, Nat.le_refl _, by rw [iterR, hstep]; rfl⟩
          · obtain ⟨y, hy, hyi, k, hk, hik⟩ := HS.out s hs
            exact ⟨y, hy, hyi, k + 1, by omega, by rw [iterR_add, hik]; show iterR L 1 r = some p; rw [iterR, hstep]; rfl⟩)
        have HCALL := Lib.hid hcall
        have HNY := Lib.hid hny
        have HSTY := Lib.hid hsty
        have HRP := Lib.hid (range_block hx5)
        have HSP := Lib.hid (sizeRow p)
        have HSPA := Lib.hid (sizeRowA p)
        have HZSP := Lib.hid (zsRow p)
        have HXR5 := Lib.hid hxr5
        have HC05 := Lib.hid hc05
        have HENV5 := Lib.hid henv5
        have HSTEP := Lib.hid hstep
        have HM5 := Lib.hid hm5
        clear hlk hny hsty hx5 hb45 hs5 henv5 hm5 hxr5 hc05 hrU hcall hp hstep
        go_wp2_with (first | (with_reducible refine wpList_store_row rfl 31 _ _ rfl w3.heap.size (bvs q0.1).toArray rfl rfl 31 _ HNZ.out HSA.out HZS.out (oneCell_bvs _) ?_; rw [HST.out]) | (with_reducible refine wpList_load_mid rfl 31 _ rfl w3.heap.size (0) rfl (bvs q0.1) _ HRQ.out Try.underlying31 rfl HSQ.out ?_) | (with_reducible refine wpList_store_row rfl 36 _ _ rfl w4.heap.size (p.cells).toArray rfl rfl 36 _ HNY.out HSPA.out HZSP.out (oneRow p) ?_; rw [HSTY.out]) | (with_reducible refine wpList_load_mid rfl 36 _ rfl w4.heap.size (0) rfl (p.cells) _ HRP.out Try.underlying36 rfl HSP.out ?_))
        have hrow : Calls Try.prog 35 (Value.agg p.cells.toArray :: C.caps).toArray w5 (DecPost w5 C L G now (r.id :: S) p) := HCALL.out
        refine hrow.mono ?_
        rintro e w6 ⟨f2, rfl, hm6, hg6, hc6⟩
        have henv6 := HENV5.out.chg HM5.out hc6
        have hxr6 := (hc6.block _ (Array.getElem?_eq_some_iff.1 HXR5.out).1 hneB).trans HXR5.out
        have hsh : shB L G now r = shB L G now p := shB_step hn hr HSTEP.out
        obtain ⟨b, hb⟩ : ∃ b, shB L G now p = b := ⟨_, rfl⟩
        rw [hb] at hsh ⊢
        obtain ⟨w7, hup, hm7, hc7⟩ := hm6.upd Try.underlying64 r.id (.bool b)
        have hup' : (Instr.mapUpdate 64 (.map (some C.mR)) (.agg (bvs r.id.1).toArray) (.bool b)).run Try.prog w6 = .ok () w7 := hup
        have hcr := cell_one henv6.r
        have HRR6 := Lib.hid (row_id (range_block hxr6))
        have HFIN := Lib.hid (show DecPost w C L G now S r (.returned (.bool b)) w7 from ⟨_, by rw [hsh], hm7, good_fin hn hr hrS hg6 hsh, (HC05.out.trans hc6 (fun k h => .inl h)).trans hc7 (fun k h => .inl h)⟩)
        clear hrow hm6 hg6 hc6 henv6 hxr6 hsh hb hup hm7 hc7 hcw hlk' hcd
        go_wp2_with (first | (with_reducible refine wpList_load_mid rfl 31 _ rfl w.heap.size (0) rfl (bvs r.id.1) _ HRR6.out Try.underlying31 rfl HSI.out ?_))
        go_ret
        exact HFIN.out
      | none =>
        have hlk' : (Instr.lookup 81 (.map (some C.mW)) (.agg (bvs q0.1).toArray) true).run Try.prog w4 = .ok (.tuple #[.agg zeroRow.cells.toArray, .bool false]) w4 := hlk
        obtain ⟨wy, w5, hwy, hny, hsty, hx5, hb45, hs5, _⟩ := newRow w4 zeroRow
        have hstep : stepR L r = none := by unfold stepR; rw [HQ.out]; exact hp
        have henv5 := HENV4.out.below hb45
        have hm5 := HM4.out.below hb45
        have hxr5 := (hb45.block _ (Array.getElem?_eq_some_iff.1 HXR4.out).1).trans HXR4.out
        have hxq5 := (hb45.block _ (Array.getElem?_eq_some_iff.1 HX4.out).1).trans HX4.out
        have hc05 : Chg (fun k => k = C.mR) w w5 := HC04.out.trans (Chg.of_below (F := fun _ => False) hb45) (fun k h => h.elim)
        have hcell : ∀ w' : World, Below w5.heap.size w5 w' → w'.cell? ⟨C.cA, 0, none⟩ = some (.map (some C.mA)) ∧ w'.cell? ⟨C.cN, 0, none⟩ = some (.int .i64 now) ∧ w'.rangeAt w3.heap.size 0 (bvs q0.1) ∧ w'.rangeAt w.heap.size 0 r.cells ∧
            (Instr.lookup 64 (.map (some C.mA)) (.agg (bvs q0.1).toArray) false).run Try.prog w' = .ok (.bool (decide (q0 ∈ G))) w' := by
          intro w' hb
          have he := henv5.below hb
          refine ⟨cell_one he.a, cell_one he.n, range_block ((hb.block _ (Array.getElem?_eq_some_iff.1 hxq5).1).trans hxq5), range_block ((hb.block _ (Array.getElem?_eq_some_iff.1 hxr5).1).trans hxr5), ?_⟩
          rw [lookEq he.ma]
          unfold setF
          by_cases h : q0 ∈ G <;> simp [h]
        have hterm : shB L G now r = (decide (q0 ∈ G) || decide (r.date + 2880 ≤ now)) := by
          rw [shB_term hn hr hstep]
          unfold termR
          rw [HQ.out]
        obtain ⟨hd1, hd2⟩ := hd r hr
        have hunt := fun w => Until_any (w := w) r hd1 hd2
        have HUNT := Lib.hid hunt
        have HTERM := Lib.hid hterm
        have HCELL := Lib.hid hcell
        have HNY := Lib.hid hny
        have HSTY := Lib.hid hsty
        have HSPA := Lib.hid (sizeRowA zeroRow)
        have HZSP := Lib.hid (zsRow zeroRow)
        have HXR5 := Lib.hid hxr5
        have HC05 := Lib.hid hc05
        have HM5 := Lib.hid hm5
        have HENV5 := Lib.hid henv5
        clear hlk hny hsty hx5 hb45 hs5 hm5 hxr5 hxq5 hc05 hp hstep hcell hunt hterm henv5
        obtain ⟨bg, hbg⟩ : ∃ bg, decide (q0 ∈ G) = bg := ⟨_, rfl⟩
        have HBG := Lib.hid hbg
        clear hbg
        go_wp2_with (first | (with_reducible refine wpList_store_row rfl 31 _ _ rfl w3.heap.size (bvs q0.1).toArray rfl rfl 31 _ HNZ.out HSA.out HZS.out (oneCell_bvs _) ?_; rw [HST.out]) | (with_reducible refine wpList_load_mid rfl 31 _ rfl w3.heap.size (0) rfl (bvs q0.1) _ HRQ.out Try.underlying31 rfl HSQ.out ?_) | (with_reducible refine wpList_store_row rfl 36 _ _ rfl w4.heap.size (zeroRow.cells).toArray rfl rfl 36 _ HNY.out HSPA.out HZSP.out (oneRow zeroRow) ?_; rw [HSTY.out]))
        clear hcw hlk'
        have hEQ : q0 = q0 := rfl
        clear hEQ
        cases bg with
        | true =>
          have hsh : shB L G now r = true := by rw [HTERM.out, HBG.out]; rfl
          refine wp_region_noPanic ?_
          refine wp_region_H (Below w5.heap.size w5) (by kernel_rfl) ?_
          have hS0 : (Below w5.heap.size w5) w5.drew := (Below.refl _ _).drew
          obtain ⟨wd, hwd⟩ : ∃ wd, w5.drew = wd := ⟨_, rfl⟩
          rw [hwd] at hS0 ⊢
          clear hwd
          refine wpAnyH_takeI (i := 0) (v := ?v1) rfl (by kernel_rfl) (by kernel_rfl) (by kernel_rfl) (fun _ _ _ h => h) (yieldsIf_run rfl (fun w' hw' => ?y1)) hS0 ?_
          case y1 => (obtain ⟨y0, y1, _, _, y4⟩ := HCELL.out w' hw'; clear hw'; first | (go_simp; rfl) | (go_simp; done))
          simp only [Act.put, List.setIfInBounds_toArray, List.set_cons_zero, List.set_cons_succ]
          refine wpAnyH_takeI (i := 1) (v := .agg (bvs q0.1).toArray) rfl (by kernel_rfl) (by kernel_rfl) (by kernel_rfl) (fun _ _ _ h => h) (yieldsIf_load_mid rfl 31 (.tmp 11) rfl w3.heap.size (0) rfl (bvs q0.1) _ (fun w' hw' => (HCELL.out w' hw').2.2.1) Try.underlying31 rfl HSQ.out) hS0 ?_
          simp only [Act.put, List.setIfInBounds_toArray, List.set_cons_zero, List.set_cons_succ]
          refine wpAnyH_takeI (i := 2) (v := ?v2) rfl (by kernel_rfl) (by kernel_rfl) (by kernel_rfl) (fun _ _ _ h => h) (yieldsIf_run rfl (fun w' hw' => ?y2)) hS0 ?_
          case y2 => (obtain ⟨y0, y1, _, _, y4⟩ := HCELL.out w' hw'; rw [HBG.out] at y4; clear hw'; first | (go_simp; rfl) | (go_simp; done))
          simp only [Act.put, List.setIfInBounds_toArray, List.set_cons_zero, List.set_cons_succ]
          refine wpAnyH_takeI (i := 3) (v := ?v3) rfl (by kernel_rfl) (by kernel_rfl) (by kernel_rfl) (fun _ _ _ h => h) (yieldsIf_run rfl (fun w' hw' => ?y3)) hS0 ?_
          case y3 => first | (go_simp; rfl) | (go_simp; done) | rfl
          simp only [Act.put, List.setIfInBounds_toArray, List.set_cons_zero, List.set_cons_succ]
          refine wpAnyH_takeI (i := 4) (v := undef) rfl (by kernel_rfl) (by kernel_rfl) (by kernel_rfl) (fun _ _ _ h => h) (yieldsIf_skip rfl) hS0 ?_
          simp only [Act.put, List.setIfInBounds_toArray, List.set_cons_zero, List.set_cons_succ]
          refine wpAnyH_takeI (i := 5) (v := undef) rfl (by kernel_rfl) (by kernel_rfl) (by kernel_rfl) (fun _ _ _ h => h) (yieldsIf_skip rfl) hS0 ?_
          simp only [Act.put, List.setIfInBounds_toArray, List.set_cons_zero, List.set_cons_succ]
          refine wpAnyH_takeI (i := 6) (v := undef) rfl (by kernel_rfl) (by kernel_rfl) (by kernel_rfl) (fun _ _ _ h => h) (yieldsIf_skip rfl) hS0 ?_
          simp only [Act.put, List.setIfInBounds_toArray, List.set_cons_zero, List.set_cons_succ]
          refine wpAnyH_takeI (i := 7) (v := undef) rfl (by kernel_rfl) (by kernel_rfl) (by kernel_rfl) (fun _ _ _ h => h) (yieldsIf_skip rfl) hS0 ?_
          simp only [Act.put, List.setIfInBounds_toArray, List.set_cons_zero, List.set_cons_succ]
          refine wpAnyH_takeI (i := 8) (v := ?v4) rfl (by kernel_rfl) (by kernel_rfl) (by kernel_rfl) (fun _ _ _ h => h) (yieldsIf_run rfl (fun w' hw' => ?y4)) hS0 ?_
          case y4 => first | (go_simp; rfl) | (go_simp; done) | rfl
          simp only [Act.put, List.setIfInBounds_toArray, List.set_cons_zero, List.set_cons_succ]
          refine wpAnyH_takeI (i := 9) (v := ?v5) rfl (by kernel_rfl) (by kernel_rfl) (by kernel_rfl) (fun _ _ _ h => h) (yieldsIf_run rfl (fun w' hw' => ?y5)) hS0 ?_
          case y5 => first | (go_simp; rfl) | (go_simp; done) | rfl
          simp only [Act.put, List.setIfInBounds_toArray, List.set_cons_zero, List.set_cons_succ]
          refine wpAnyH_done (by kernel_rfl) ?_ _
          refine NoPanic.normal ?_
          obtain ⟨wv, hwv⟩ : ∃ wv, wd = wv := ⟨_, rfl⟩
          have hbv : Below w5.heap.size w5 wv := hwv ▸ hS0
          rw [hwv]
          have hxr6 := (hbv.block _ (Array.getElem?_eq_some_iff.1 HXR5.out).1).trans HXR5.out
          have hm6 := HM5.out.below hbv
          obtain ⟨w7, hup, hm7, hc7⟩ := hm6.upd Try.underlying64 r.id (.bool true)
          have hup' : (Instr.mapUpdate 64 (.map (some C.mR)) (.agg (bvs r.id.1).toArray) (.bool true)).run Try.prog wv = .ok () w7 := hup
          have hcr := cell_one (HENV5.out.below hbv).r
          have HRR6 := Lib.hid (row_id (range_block hxr6))
          have HFIN := Lib.hid (show DecPost w C L G now S r (.returned (.bool true)) w7 from ⟨_, by rw [hsh], hm7, good_fin hn hr hrS (good_in HG.out r) hsh, (HC05.out.trans (Chg.of_below (F := fun _ => False) hbv) (fun k h => h.elim)).trans hc7 (fun k h => .inl h)⟩)
          clear hwv hbv hxr6 hm6 hup hm7 hc7 hsh
          go_wp2_with (first | (with_reducible refine wpList_load_mid rfl 31 _ rfl w.heap.size (0) rfl (bvs r.id.1) _ HRR6.out Try.underlying31 rfl HSI.out ?_))
          go_ret
          exact HFIN.out
        | false =>
          by_cases hlim : r.date + 2880 ≤ now
          · have hsh : shB L G now r = true := by rw [HTERM.out, HBG.out]; simpa using hlim
            refine wp_region_noPanic ?_
            refine wp_region_H (Below w5.heap.size w5) (by kernel_rfl) ?_
            have hS0 : (Below w5.heap.size w5) w5.drew := (Below.refl _ _).drew
            obtain ⟨wd, hwd⟩ : ∃ wd, w5.drew = wd := ⟨_, rfl⟩
            rw [hwd] at hS0 ⊢
            clear hwd
            refine wpAnyH_takeI (i := 0) (v := ?v6) rfl (by kernel_rfl) (by kernel_rfl) (by kernel_rfl) (fun _ _ _ h => h) (yieldsIf_run rfl (fun w' hw' => ?y6)) hS0 ?_
            case y6 => (obtain ⟨y0, y1, _, _, y4⟩ := HCELL.out w' hw'; clear hw'; first | (go_simp; rfl) | (go_simp; done))
            simp only [Act.put, List.setIfInBounds_toArray, List.set_cons_zero, List.set_cons_succ]
            refine wpAnyH_takeI (i := 1) (v := .agg (bvs q0.1).toArray) rfl (by kernel_rfl) (by kernel_rfl) (by kernel_rfl) (fun _ _ _ h => h) (yieldsIf_load_mid rfl 31 (.tmp 11) rfl w3.heap.size (0) rfl (bvs q0.1) _ (fun w' hw' => (HCELL.out w' hw').2.2.1) Try.underlying31 rfl HSQ.out) hS0 ?_
            simp only [Act.put, List.setIfInBounds_toArray, List.set_cons_zero, List.set_cons_succ]
            refine wpAnyH_takeI (i := 2) (v := ?v7) rfl (by kernel_rfl) (by kernel_rfl) (by kernel_rfl) (fun _ _ _ h => h) (yieldsIf_run rfl (fun w' hw' => ?y7)) hS0 ?_
            case y7 => (obtain ⟨y0, y1, _, _, y4⟩ := HCELL.out w' hw'; rw [HBG.out] at y4; clear hw'; first | (go_simp; rfl) | (go_simp; done))
            simp only [Act.put, List.setIfInBounds_toArray, List.set_cons_zero, List.set_cons_succ]
            refine wpAnyH_takeI (i := 3) (v := ?v8) rfl (by kernel_rfl) (by kernel_rfl) (by kernel_rfl) (fun _ _ _ h => h) (yieldsIf_run rfl (fun w' hw' => ?y8)) hS0 ?_
            case y8 => first | (go_simp; rfl) | (go_simp; done) | rfl
            simp only [Act.put, List.setIfInBounds_toArray, List.set_cons_zero, List.set_cons_succ]
            refine wpAnyH_takeI (i := 4) (v := ?v9) rfl (by kernel_rfl) (by kernel_rfl) (by kernel_rfl) (fun _ _ _ h => h) (yieldsIf_want rfl (fun w' hw' => ?y9)) hS0 ?_
            case y9 => (obtain ⟨y0, y1, _, _, y4⟩ := HCELL.out w' hw'; clear hw'; first | (go_simp; rfl) | (go_simp; done))
            simp only [Act.put, List.setIfInBounds_toArray, List.set_cons_zero, List.set_cons_succ]
            refine wpAnyH_takeI (i := 5) (v := .agg (r.cells).toArray) rfl (by kernel_rfl) (by kernel_rfl) (by kernel_rfl) (fun _ _ _ h => h) (yieldsIf_load_mid rfl 36 (.tmp 6) rfl w.heap.size (0) rfl (r.cells) _ (fun w' hw' => (HCELL.out w' hw').2.2.2.1) Try.underlying36 rfl HSR.out) hS0 ?_
            simp only [Act.put, List.setIfInBounds_toArray, List.set_cons_zero, List.set_cons_succ]
            refine wpAnyH_want (i := 6) (by kernel_rfl) rfl rfl (fun K hK => ?_)
            go_simp
            go_at_call 26
            refine (HUNT.out wd).mono ?_
            rintro e wu ⟨rfl, hbwu⟩
            have hSwu := hS0.trans (hbwu.mono hS0.size)
            refine hK _ _ (hSwu) ?_
            clear hK K
            try simp only [Act.put, List.setIfInBounds_toArray, List.set_cons_zero, List.set_cons_succ]
            refine wpAnyH_takeI (i := 7) (v := .bool true) rfl (by kernel_rfl) (by kernel_rfl) (by kernel_rfl) (fun _ _ _ h => h) (yieldsIf_want rfl (fun w' hw' => ?y10)) hSwu ?_
            case y10 => first | (go_simp; rfl) | (go_simp; done) | rfl
            simp only [Act.put, List.setIfInBounds_toArray, List.set_cons_zero, List.set_cons_succ]
            refine wpAnyH_takeI (i := 8) (v := ?v11) rfl (by kernel_rfl) (by kernel_rfl) (by kernel_rfl) (fun _ _ _ h => h) (yieldsIf_run rfl (fun w' hw' => ?y11)) hSwu ?_
            case y11 => first | (go_simp; rfl) | (go_simp; done) | rfl
            simp only [Act.put, List.setIfInBounds_toArray, List.set_cons_zero, List.set_cons_succ]
            refine wpAnyH_takeI (i := 9) (v := ?v12) rfl (by kernel_rfl) (by kernel_rfl) (by kernel_rfl) (fun _ _ _ h => h) (yieldsIf_run rfl (fun w' hw' => ?y12)) hSwu ?_
            case y12 => first | (go_simp; rfl) | (go_simp; done) | rfl
            simp only [Act.put, List.setIfInBounds_toArray, List.set_cons_zero, List.set_cons_succ]
            refine wpAnyH_done (by kernel_rfl) ?_ _
            refine NoPanic.normal ?_
            obtain ⟨wv, hwv⟩ : ∃ wv, wu = wv := ⟨_, rfl⟩
            have hbv : Below w5.heap.size w5 wv := hwv ▸ hSwu
            rw [hwv]
            have hxr6 := (hbv.block _ (Array.getElem?_eq_some_iff.1 HXR5.out).1).trans HXR5.out
            have hm6 := HM5.out.below hbv
            obtain ⟨w7, hup, hm7, hc7⟩ := hm6.upd Try.underlying64 r.id (.bool true)
            have hup' : (Instr.mapUpdate 64 (.map (some C.mR)) (.agg (bvs r.id.1).toArray) (.bool true)).run Try.prog wv = .ok () w7 := hup
            have hcr := cell_one (HENV5.out.below hbv).r
            have HRR6 := Lib.hid (row_id (range_block hxr6))
            have HFIN := Lib.hid (show DecPost w C L G now S r (.returned (.bool true)) w7 from ⟨_, by rw [hsh], hm7, good_fin hn hr hrS (good_in HG.out r) hsh, (HC05.out.trans (Chg.of_below (F := fun _ => False) hbv) (fun k h => h.elim)).trans hc7 (fun k h => .inl h)⟩)
            clear hwv hbv hxr6 hm6 hup hm7 hc7 hsh
            go_wp2_with (first | (with_reducible refine wpList_load_mid rfl 31 _ rfl w.heap.size (0) rfl (bvs r.id.1) _ HRR6.out Try.underlying31 rfl HSI.out ?_))
            go_ret
            exact HFIN.out
          · have hsh : shB L G now r = false := by rw [HTERM.out, HBG.out]; simpa using hlim
            refine wp_region_noPanic ?_
            refine wp_region_H (Below w5.heap.size w5) (by kernel_rfl) ?_
            have hS0 : (Below w5.heap.size w5) w5.drew := (Below.refl _ _).drew
            obtain ⟨wd, hwd⟩ : ∃ wd, w5.drew = wd := ⟨_, rfl⟩
            rw [hwd] at hS0 ⊢
            clear hwd
            refine wpAnyH_takeI (i := 0) (v := ?v13) rfl (by kernel_rfl) (by kernel_rfl) (by kernel_rfl) (fun _ _ _ h => h) (yieldsIf_run rfl (fun w' hw' => ?y13)) hS0 ?_
            case y13 => (obtain ⟨y0, y1, _, _, y4⟩ := HCELL.out w' hw'; clear hw'; first | (go_simp; rfl) | (go_simp; done))
            simp only [Act.put, List.setIfInBounds_toArray, List.set_cons_zero, List.set_cons_succ]
            refine wpAnyH_takeI (i := 1) (v := .agg (bvs q0.1).toArray) rfl (by kernel_rfl) (by kernel_rfl) (by kernel_rfl) (fun _ _ _ h => h) (yieldsIf_load_mid rfl 31 (.tmp 11) rfl w3.heap.size (0) rfl (bvs q0.1) _ (fun w' hw' => (HCELL.out w' hw').2.2.1) Try.underlying31 rfl HSQ.out) hS0 ?_
            simp only [Act.put, List.setIfInBounds_toArray, List.set_cons_zero, List.set_cons_succ]
            refine wpAnyH_takeI (i := 2) (v := ?v14) rfl (by kernel_rfl) (by kernel_rfl) (by kernel_rfl) (fun _ _ _ h => h) (yieldsIf_run rfl (fun w' hw' => ?y14)) hS0 ?_
            case y14 => (obtain ⟨y0, y1, _, _, y4⟩ := HCELL.out w' hw'; rw [HBG.out] at y4; clear hw'; first | (go_simp; rfl) | (go_simp; done))
            simp only [Act.put, List.setIfInBounds_toArray, List.set_cons_zero, List.set_cons_succ]
            refine wpAnyH_takeI (i := 3) (v := ?v15) rfl (by kernel_rfl) (by kernel_rfl) (by kernel_rfl) (fun _ _ _ h => h) (yieldsIf_run rfl (fun w' hw' => ?y15)) hS0 ?_
            case y15 => first | (go_simp; rfl) | (go_simp; done) | rfl
            simp only [Act.put, List.setIfInBounds_toArray, List.set_cons_zero, List.set_cons_succ]
            refine wpAnyH_takeI (i := 4) (v := ?v16) rfl (by kernel_rfl) (by kernel_rfl) (by kernel_rfl) (fun _ _ _ h => h) (yieldsIf_want rfl (fun w' hw' => ?y16)) hS0 ?_
            case y16 => (obtain ⟨y0, y1, _, _, y4⟩ := HCELL.out w' hw'; clear hw'; first | (go_simp; rfl) | (go_simp; done))
            simp only [Act.put, List.setIfInBounds_toArray, List.set_cons_zero, List.set_cons_succ]
            refine wpAnyH_takeI (i := 5) (v := .agg (r.cells).toArray) rfl (by kernel_rfl) (by kernel_rfl) (by kernel_rfl) (fun _ _ _ h => h) (yieldsIf_load_mid rfl 36 (.tmp 6) rfl w.heap.size (0) rfl (r.cells) _ (fun w' hw' => (HCELL.out w' hw').2.2.2.1) Try.underlying36 rfl HSR.out) hS0 ?_
            simp only [Act.put, List.setIfInBounds_toArray, List.set_cons_zero, List.set_cons_succ]
            refine wpAnyH_want (i := 6) (by kernel_rfl) rfl rfl (fun K hK => ?_)
            go_simp
            go_at_call 26
            refine (HUNT.out wd).mono ?_
            rintro e wu ⟨rfl, hbwu⟩
            have hSwu := hS0.trans (hbwu.mono hS0.size)
            refine hK _ _ (hSwu) ?_
            clear hK K
            try simp only [Act.put, List.setIfInBounds_toArray, List.set_cons_zero, List.set_cons_succ]
            refine wpAnyH_takeI (i := 7) (v := .bool false) rfl (by kernel_rfl) (by kernel_rfl) (by kernel_rfl) (fun _ _ _ h => h) (yieldsIf_want rfl (fun w' hw' => ?y17)) hSwu ?_
            case y17 => first | (go_simp; rfl) | (go_simp; done) | rfl
            simp only [Act.put, List.setIfInBounds_toArray, List.set_cons_zero, List.set_cons_succ]
            refine wpAnyH_takeI (i := 8) (v := ?v18) rfl (by kernel_rfl) (by kernel_rfl) (by kernel_rfl) (fun _ _ _ h => h) (yieldsIf_run rfl (fun w' hw' => ?y18)) hSwu ?_
            case y18 => first | (go_simp; rfl) | (go_simp; done) | rfl
            simp only [Act.put, List.setIfInBounds_toArray, List.set_cons_zero, List.set_cons_succ]
            refine wpAnyH_takeI (i := 9) (v := ?v19) rfl (by kernel_rfl) (by kernel_rfl) (by kernel_rfl) (fun _ _ _ h => h) (yieldsIf_run rfl (fun w' hw' => ?y19)) hSwu ?_
            case y19 => first | (go_simp; rfl) | (go_simp; done) | rfl
            simp only [Act.put, List.setIfInBounds_toArray, List.set_cons_zero, List.set_cons_succ]
            refine wpAnyH_done (by kernel_rfl) ?_ _
            refine NoPanic.normal ?_
            obtain ⟨wv, hwv⟩ : ∃ wv, wu = wv := ⟨_, rfl⟩
            have hbv : Below w5.heap.size w5 wv := hwv ▸ hSwu
            rw [hwv]
            have hxr6 := (hbv.block _ (Array.getElem?_eq_some_iff.1 HXR5.out).1).trans HXR5.out
            have hm6 := HM5.out.below hbv
            obtain ⟨w7, hup, hm7, hc7⟩ := hm6.upd Try.underlying64 r.id (.bool false)
            have hup' : (Instr.mapUpdate 64 (.map (some C.mR)) (.agg (bvs r.id.1).toArray) (.bool false)).run Try.prog wv = .ok () w7 := hup
            have hcr := cell_one (HENV5.out.below hbv).r
            have HRR6 := Lib.hid (row_id (range_block hxr6))
            have HFIN := Lib.hid (show DecPost w C L G now S r (.returned (.bool false)) w7 from ⟨_, by rw [hsh], hm7, good_fin hn hr hrS (good_in HG.out r) hsh, (HC05.out.trans (Chg.of_below (F := fun _ => False) hbv) (fun k h => h.elim)).trans hc7 (fun k h => .inl h)⟩)
            clear hwv hbv hxr6 hm6 hup hm7 hc7 hsh
            go_wp2_with (first | (with_reducible refine wpList_load_mid rfl 31 _ rfl w.heap.size (0) rfl (bvs r.id.1) _ HRR6.out Try.underlying31 rfl HSI.out ?_))
            go_ret
            exact HFIN.out

end Go.Proofs.Ytjjanjhoaiannaa
