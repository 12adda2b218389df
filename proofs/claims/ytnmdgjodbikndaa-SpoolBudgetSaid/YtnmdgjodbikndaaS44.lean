/- The law Budget: sizes add up and stay within the budget. -/
import Derived.Test.YtnmdgjodbikndaaS38
import Derived.Test.YtnmdgjodbikndaaS22
import Derived.Deep.Cut
import Derived.Deep.CutRange
namespace Go.Proofs.Ytnmdgjodbikndaa
open Go.RowKit
set_option linter.unusedVariables false
set_option linter.unusedSimpArgs false
attribute [local go_sem] Oper.semAt_some

def coll (D : Nat) : Deferred := { target := .collected D, args := #[] }
/-- Loops that are over have left nothing to do. -/
theorem leaves_marks {F : Fence} {n : Nat} {P : Program} {fn : Func} {tmps : Array Value} {R : Ending → World → Prop} {w0 : World} : ∀ (Ds : List Nat) (W : World), Ds.Nodup → (∀ D ∈ Ds, w0.heap.size ≤ D ∧ W.heap[D]? = some (.deferred (some []))) →
    (∀ W', (∀ k, k ∉ Ds → W'.heap[k]? = W.heap[k]?) → (Below w0.heap.size w0 W → Below w0.heap.size w0 W') → LeavesInM F n P fn tmps R [] .returning W') → LeavesInM F n P fn tmps R (Ds.map coll) .returning W
  | [], W, _, _, h => h W (fun _ _ => rfl) (fun h => h)
  | D :: Ds, W, hn, hd, h => by
    obtain ⟨hD, hDs⟩ := List.nodup_cons.1 hn
    have h1 := hd D List.mem_cons_self
    refine ⟨by simp, .inl ⟨D, W.putObj D (.deferred none), rfl, run_takeDeferred h1.2, ?_⟩⟩
    refine leaves_marks Ds _ hDs (fun E hE => ⟨(hd E (List.mem_cons_of_mem _ hE)).1, (World.putObj_heap_other (by intro e; subst e; exact hD hE)).trans (hd E (List.mem_cons_of_mem _ hE)).2⟩) (fun W' hk hb => h W' (fun k hk2 => ?_) (fun hB => hb (hB.trans (belowK_b (w := w0) (Nat.le_refl _) W D _ _ h1.1 h1.2 rfl rfl))))
    rw [hk k (fun e => hk2 (List.mem_cons_of_mem _ e))]
    exact World.putObj_heap_other (by intro e; subst e; exact hk2 List.mem_cons_self)
/-- An operation of this law. -/
def stepB (S : SpD) (o : OpD) : SpD := if o.kind = 1 then rmS S o.a.id else putS S o.a.id o.a.text o.a.min
def runB (S : SpD) (l : List OpD) : SpD := l.foldl stepB S
theorem stepB_ok {S : SpD} (o : OpD) (h : S.Ok) : (stepB S o).Ok ∧ (stepB S o).budget = S.budget ∧ (stepB S o).next ≤ S.next + 1 ∧ (stepB S o).list.length ≤ S.list.length + 1 := by
  unfold stepB
  split
  · have h1 := step_ok (S := S) ⟨1, o.a, o.from', o.count⟩ h
    exact h1
  · have h1 := step_ok (S := S) ⟨0, o.a, o.from', o.count⟩ h
    exact h1
theorem runB_ok : ∀ (l : List OpD) (S : SpD), S.Ok → (runB S l).Ok ∧ (runB S l).budget = S.budget ∧ (runB S l).next ≤ S.next + (l.length : Int) ∧ (runB S l).list.length ≤ S.list.length + l.length
  | [], S, h => ⟨h, rfl, by show S.next ≤ _; simp, by show S.list.length ≤ _; simp⟩
  | o :: l, S, h => by
    have h1 := stepB_ok o h
    have h2 := runB_ok l (stepB S o) h1.1
    have e : runB S (o :: l) = runB (stepB S o) l := rfl
    rw [e]
    refine ⟨h2.1, h2.2.1.trans h1.2.1, ?_, ?_⟩
    · rw [List.length_cons]; have := h2.2.2.1; have := h1.2.2.1; omega
    · rw [List.length_cons]; have := h2.2.2.2; have := h1.2.2.2; omega
theorem runB_next (S : SpD) (l : List OpD) {i : Nat} (hi : i < l.length) : runB S (l.take (i + 1)) = stepB (runB S (l.take i)) l[i] := by
  unfold runB
  rw [List.take_succ_eq_append_getElem hi, List.foldl_append]
  rfl
/-- Between two rounds of the outer loop. -/
def BuR (w : World) (L : List OpD) (budget : Int) (b m A4 A5 base : Nat) (iv : Value) (ds : List Deferred) (W : World) : Prop :=
  ∃ (i : Nat) (Ds : List Nat), i ≤ L.length ∧ iv = .int .i64 (i : Int) ∧ SpAt W b m (runB ⟨1 + budget, 0, []⟩ (L.take i)) ∧ W.heap[A4]? = some (.cells #[.bool false] 4 (0, 0)) ∧ W.heap[A5]? = some (.cells #[.pointer (some ⟨b, 0, none⟩)] 24 (0, 0)) ∧ Below w.heap.size w W ∧
    ds = Ds.map coll ∧ Ds.Nodup ∧ ∀ D ∈ Ds, base ≤ D ∧ W.heap[D]? = some (.deferred (some []))
def sumT {S : SpD} (pre : List (Mem S)) : Nat := (pre.map (fun x => x.1.text.size)).sum
theorem sumT_snoc {S : SpD} (pre : List (Mem S)) (x : Mem S) : sumT (pre ++ [x]) = sumT pre + x.1.text.size := by
  unfold sumT
  rw [List.map_append, List.sum_append]
  simp
theorem sumT_all (S : SpD) : sumT S.list.attach = S.size := by
  unfold sumT SpD.size
  conv => rhs; rw [← List.attach_map_subtype_val S.list]
  rw [List.map_map]
  rfl
theorem sumT_le {S : SpD} (hok : S.Ok) (pre : List (Mem S)) : sumT pre ≤ 65536 * pre.length := by
  unfold sumT
  induction pre with
  | nil => exact Nat.zero_le _
  | cons x l ih =>
    have := (hok.tx x.1 x.2).2
    rw [List.map_cons, List.sum_cons, List.length_cons]
    omega
/-- Within the inner loop. -/
def BuI (w6 : World) (A8 A9 : Nat) (S : SpD) (pre : List (Mem S)) (W : World) : Prop :=
  W.heap[A8]? = some (.cells #[.int .i64 (sumT pre : Int)] 3 (0, 0)) ∧ W.heap[A9]? = some (.cells #[.int .i64 (pre.length : Int)] 3 (0, 0)) ∧ Chg (fun k => k = A8 ∨ k = A9) w6 W
theorem buI_from {w6 : World} {A8 A9 : Nat} {S : SpD} : OwnFrom w6.heap.size (BuI w6 A8 A9 S) := by
  rintro pre W W' row ⟨h1, h2, h3⟩ hg hr
  exact ⟨grown_cells hg hr h1, grown_cells hg hr h2, h3.trans (Chg.grown (F := fun k => row = some k) hg (fun k e => .inl e)) (fun i h => .inr (hr i h).1)⟩
set_option maxRecDepth 100000 in
set_option maxHeartbeats 2000000 in
theorem Budget_law {w : World} (budget : Int) (hb0 : 0 ≤ budget ∧ budget ≤ 255) (v : Value) (L : List OpD) (hv : ListAt opE w v L) :
    Calls Try.prog 4 #[.int .u8 budget, v] w fun e w' => e = .returned (.bool true) ∧ Below w.heap.size w w' := by
  obtain ⟨w1, hw1⟩ : ∃ w1, w.alloc (.cells #[.bool false] 4) = w1 := ⟨_, rfl⟩
  have hb1 : Below w.heap.size w w1 := hw1 ▸ (Below.refl _ _).alloc (Nat.le_refl _) _
  have x1 : w1.heap[w.heap.size]? = some (.cells #[.bool false] 4 (0, 0)) := by rw [← hw1]; exact heap_alloc_new w _
  obtain ⟨r, hr⟩ : ∃ r, smallB L = r := ⟨_, rfl⟩
  have HSM := Lib.hid (show ∀ w', Below w.heap.size w w' → Calls Try.prog 16 #[v] w' fun e w'' => e = .returned (.bool r) ∧ Below w'.heap.size w' w'' from fun w' hb => by
    have h := small_any v L (hv.below hb)
    rw [hr] at h
    exact h)
  have HLEN := Lib.hid (show r = true → L.length ≤ 40 from fun h => small_len (hr.trans h))
  obtain ⟨va, vc, rfl⟩ := hv.form
  obtain ⟨N, hN⟩ : ∃ N, L.length = N := ⟨_, rfl⟩
  rw [hN] at HSM HLEN hv ⊢
  obtain ⟨hlo, hhi⟩ := hb0
  obtain ⟨A4, hA4⟩ : ∃ A4, w.heap.size = A4 := ⟨_, rfl⟩
  rw [hA4] at x1
  have HV := Lib.hid hv
  have HN := Lib.hid hN
  have HB1 := Lib.hid hb1
  have HX4 := Lib.hid x1
  have HA4 := Lib.hid hA4
  clear hr hv hN hb1 x1
  refine (callsIn_wide (n := 4)).1 ?_
  refine callsIn_of_wp_marks Try.func4 rfl trivial ?_ rfl
  simp only [Try.ntmps4, List.size_toArray, List.length_cons, List.length_nil, Nat.reduceAdd, Nat.reduceSub, Array.replicate_succ, Array.replicate_zero, List.push_toArray, List.append_toArray, List.nil_append, List.cons_append]
  refine wpIn_wide.2 ?_
  go_wp2_with fail
  try rw [hw1]
  try rw [hA4]
  clear hw1 hA4
  refine known_any.mono ?_
  rintro e w2 ⟨rfl, hb⟩
  have HX4b := Lib.hid ((hb.block _ (Array.getElem?_eq_some_iff.1 HX4.out).1).trans HX4.out)
  have HB2 := Lib.hid (HB1.out.trans (hb.mono HB1.out.size))
  clear hb
  go_wp2_with fail
  refine (HSM.out w2 HB2.out).mono ?_
  rintro e w3 ⟨rfl, hb⟩
  have HB3 := Lib.hid (HB2.out.trans (hb.mono HB2.out.size))
  have HX4c := Lib.hid ((hb.block _ (Array.getElem?_eq_some_iff.1 HX4b.out).1).trans HX4b.out)
  clear hb
  cases r
  case false =>
    go_wp2_with fail
    refine known_any.mono ?_
    rintro e w4 ⟨rfl, hb⟩
    have HB4 := Lib.hid (HB3.out.trans (hb.mono HB3.out.size))
    have n4 : w4.heap[A4]? = _ := (hb.block _ (Array.getElem?_eq_some_iff.1 HX4c.out).1).trans HX4c.out
    have cd := cell_of_row w4 _ 0 _ _ _ n4
    have fd := frozen_of_row w4 _ 0 _ _ n4
    simp only [List.getElem?_toArray, List.getElem?_cons_zero] at cd
    clear n4 hb
    go_wp2_with fail
    have hc := World.cell?_setCell_same' w4 ⟨A4, 0, none⟩ (.bool true) (by rw [cd]; rfl)
    have hBf : Below w.heap.size w (w4.setCell ⟨A4, 0, none⟩ (.bool true)) := HB4.out.setCell (show w.heap.size ≤ A4 by have := HA4.out; omega) _
    refine ⟨_, ?_, rfl, hBf⟩
    simp only [results, show Try.f4.results = #[.cell 4 4] from rfl]
    go_simp
  case true =>
  have hN40 : N ≤ 40 := by first | exact HLEN.out trivial | exact HLEN.out rfl
  clear HLEN
  go_wp2_with fail
  refine (New_any (1 + budget)).mono ?_
  rintro e w4 ⟨hbn, ⟨h1, h2, b, m, rfl, hb, hm, hs⟩ | ⟨hno, rfl⟩⟩
  case inr => exact absurd ⟨by omega, by omega⟩ hno
  have HB4 := Lib.hid (HB3.out.trans (hbn.mono HB3.out.size))
  have HX4d := Lib.hid ((hbn.block _ (Array.getElem?_eq_some_iff.1 HX4c.out).1).trans HX4c.out)
  obtain ⟨w5, hw5⟩ : ∃ w5, w4.alloc (.cells #[.pointer (some ⟨b, 0, none⟩)] 24) = w5 := ⟨_, rfl⟩
  have hb5 : Below w4.heap.size w4 w5 := hw5 ▸ (Below.refl _ _).alloc (Nat.le_refl _) _
  have x5 : w5.heap[w4.heap.size]? = some (.cells #[.pointer (some ⟨b, 0, none⟩)] 24 (0, 0)) := by rw [← hw5]; exact heap_alloc_new w4 _
  obtain ⟨A5, hA5⟩ : ∃ A5, w4.heap.size = A5 := ⟨_, rfl⟩
  have HBM := Lib.hid (show A4 < b ∧ A4 < m ∧ b < A5 ∧ m < A5 ∧ w.heap.size ≤ A4 ∧ A5 < w5.heap.size ∧ w5.heap.size = A5 + 1 from by
    have h0 : w5.heap.size = w4.heap.size + 1 := by rw [← hw5, World.size_alloc]
    have h1 := (Array.getElem?_eq_some_iff.1 HX4c.out).1
    have h2 := hs.lt
    have h3 := hs.hm.lt
    have h4 := HA4.out
    have h5 := (Array.getElem?_eq_some_iff.1 x5).1
    omega)
  rw [hA5] at x5
  have HX5 := Lib.hid x5
  have HX4e := Lib.hid ((hb5.block _ (Array.getElem?_eq_some_iff.1 HX4d.out).1).trans HX4d.out)
  have HB5 := Lib.hid (HB4.out.trans (hb5.mono HB4.out.size))
  have HSP5 := Lib.hid (hs.below hb5)
  have HW5 := Lib.hid hw5
  have HA5 := Lib.hid hA5
  have HBD := Lib.hid (show (1 : Int) ≤ 1 + budget ∧ 1 + budget ≤ 1073741824 from ⟨h1, h2⟩)
  obtain ⟨base, hbase⟩ : ∃ base, w5.heap.size = base := ⟨_, rfl⟩
  have HBASE := Lib.hid hbase
  clear hbn hs hb hm h1 h2 hw5 hb5 x5 HB3 HX4c HX4d HB4 HX4 HX4b HB2 HB1 hbase
  go_wp2_with fail
  rw [HW5.out]
  try rw [hA5]
  clear hA5 HW5
  refine wp_loop (fun a' w' => ∃ (iv : Value) (u2 u3 u6 u8 u9 u10 u11 u12 u13 u14 u15 u16 u17 u18 u19 u20 u21 u22 u23 u24 u25 u26 u27 u28 u29 u30 u31 u32 u33 u34 u35 u36 u37 u38 u39 u40 u41 u42 u43 u44 u45 u46 u47 u48 u49 u50 u51 u52 u53 u54 u55 u56 u57 u58 u59 u60 u61 u62 u63 u64 u65 u66 u67 u68 u69 u70 u71 u72 u73 u74 u75 u76 u77 u78 u79 u80 u81 u82 u83 u84 u85 u86 u87 u88 u89 u90 u91 u92 u93 u94 u95 u96 u97 u98 u99 u100 u101 u102 u103 u104 u105 u106 u107 u108 u109 u110 u111 u112 u113 u114 u115 u116 u117 u118 u119 u120 u121 : Value) (ds : List Deferred), BuR w L budget b m A4 A5 base iv ds w' ∧ a' = { tmps := #[.int .u8 budget, .slice va N vc, u2, u3, .pointer (some ⟨A4, 0, none⟩), .pointer (some ⟨A5, 0, none⟩), u6, iv, u8, u9, u10, u11, u12, u13, u14, u15, u16, u17, u18, u19, u20, u21, u22, u23, u24, u25, u26, u27, u28, u29, u30, u31, u32, u33, u34, u35, u36, u37, u38, u39, u40, u41, u42, u43, u44, u45, u46, u47, u48, u49, u50, u51, u52, u53, u54, u55, u56, u57, u58, u59, u60, u61, u62, u63, u64, u65, u66, u67, u68, u69, u70, u71, u72, u73, u74, u75, u76, u77, u78, u79, u80, u81, u82, u83, u84, u85, u86, u87, u88, u89, u90, u91, u92, u93, u94, u95, u96, u97, u98, u99, u100, u101, u102, u103, u104, u105, u106, u107, u108, u109, u110, u111, u112, u113, u114, u115, u116, u117, u118, u119, u120, u121], defers := ds }) (fun a' _ => N - (intOf (a'.tmps.getD 7 undef)).toNat) ?_ ?_
  · (repeat apply Exists.intro)
    refine ⟨?_, rfl⟩
    exact ⟨0, [], Nat.zero_le _, rfl, HSP5.out, HX4e.out, HX5.out, HB5.out, rfl, List.nodup_nil, fun D hD => by cases hD⟩
  clear HSP5 HX4e HX5 HB5
  intro _ W0 hinv
  obtain ⟨iv, hinv⟩ := hinv
  obtain ⟨u2, hinv⟩ := hinv
  obtain ⟨u3, hinv⟩ := hinv
  obtain ⟨u6, hinv⟩ := hinv
  obtain ⟨u8, hinv⟩ := hinv
  obtain ⟨u9, hinv⟩ := hinv
  obtain ⟨u10, hinv⟩ := hinv
  obtain ⟨u11, hinv⟩ := hinv
  obtain ⟨u12, hinv⟩ := hinv
  obtain ⟨u13, hinv⟩ := hinv
  obtain ⟨u14, hinv⟩ := hinv
  obtain ⟨u15, hinv⟩ := hinv
  obtain ⟨u16, hinv⟩ := hinv
  obtain ⟨u17, hinv⟩ := hinv
  obtain ⟨u18, hinv⟩ := hinv
  obtain ⟨u19, hinv⟩ := hinv
  obtain ⟨u20, hinv⟩ := hinv
  obtain ⟨u21, hinv⟩ := hinv
  obtain ⟨u22, hinv⟩ := hinv
  obtain ⟨u23, hinv⟩ := hinv
  obtain ⟨u24, hinv⟩ := hinv
  obtain ⟨u25, hinv⟩ := hinv
  obtain ⟨u26, hinv⟩ := hinv
  obtain ⟨u27, hinv⟩ := hinv
  obtain ⟨u28, hinv⟩ := hinv
  obtain ⟨u29, hinv⟩ := hinv
  obtain ⟨u30, hinv⟩ := hinv
  obtain ⟨u31, hinv⟩ := hinv
  obtain ⟨u32, hinv⟩ := hinv
  obtain ⟨u33, hinv⟩ := hinv
  obtain ⟨u34, hinv⟩ := hinv
  obtain ⟨u35, hinv⟩ := hinv
  obtain ⟨u36, hinv⟩ := hinv
  obtain ⟨u37, hinv⟩ := hinv
  obtain ⟨u38, hinv⟩ := hinv
  obtain ⟨u39, hinv⟩ := hinv
  obtain ⟨u40, hinv⟩ := hinv
  obtain ⟨u41, hinv⟩ := hinv
  obtain ⟨u42, hinv⟩ := hinv
  obtain ⟨u43, hinv⟩ := hinv
  obtain ⟨u44, hinv⟩ := hinv
  obtain ⟨u45, hinv⟩ := hinv
  obtain ⟨u46, hinv⟩ := hinv
  obtain ⟨u47, hinv⟩ := hinv
  obtain ⟨u48, hinv⟩ := hinv
  obtain ⟨u49, hinv⟩ := hinv
  obtain ⟨u50, hinv⟩ := hinv
  obtain ⟨u51, hinv⟩ := hinv
  obtain ⟨u52, hinv⟩ := hinv
  obtain ⟨u53, hinv⟩ := hinv
  obtain ⟨u54, hinv⟩ := hinv
  obtain ⟨u55, hinv⟩ := hinv
  obtain ⟨u56, hinv⟩ := hinv
  obtain ⟨u57, hinv⟩ := hinv
  obtain ⟨u58, hinv⟩ := hinv
  obtain ⟨u59, hinv⟩ := hinv
  obtain ⟨u60, hinv⟩ := hinv
  obtain ⟨u61, hinv⟩ := hinv
  obtain ⟨u62, hinv⟩ := hinv
  obtain ⟨u63, hinv⟩ := hinv
  obtain ⟨u64, hinv⟩ := hinv
  obtain ⟨u65, hinv⟩ := hinv
  obtain ⟨u66, hinv⟩ := hinv
  obtain ⟨u67, hinv⟩ := hinv
  obtain ⟨u68, hinv⟩ := hinv
  obtain ⟨u69, hinv⟩ := hinv
  obtain ⟨u70, hinv⟩ := hinv
  obtain ⟨u71, hinv⟩ := hinv
  obtain ⟨u72, hinv⟩ := hinv
  obtain ⟨u73, hinv⟩ := hinv
  obtain ⟨u74, hinv⟩ := hinv
  obtain ⟨u75, hinv⟩ := hinv
  obtain ⟨u76, hinv⟩ := hinv
  obtain ⟨u77, hinv⟩ := hinv
  obtain ⟨u78, hinv⟩ := hinv
  obtain ⟨u79, hinv⟩ := hinv
  obtain ⟨u80, hinv⟩ := hinv
  obtain ⟨u81, hinv⟩ := hinv
  obtain ⟨u82, hinv⟩ := hinv
  obtain ⟨u83, hinv⟩ := hinv
  obtain ⟨u84, hinv⟩ := hinv
  obtain ⟨u85, hinv⟩ := hinv
  obtain ⟨u86, hinv⟩ := hinv
  obtain ⟨u87, hinv⟩ := hinv
  obtain ⟨u88, hinv⟩ := hinv
  obtain ⟨u89, hinv⟩ := hinv
  obtain ⟨u90, hinv⟩ := hinv
  obtain ⟨u91, hinv⟩ := hinv
  obtain ⟨u92, hinv⟩ := hinv
  obtain ⟨u93, hinv⟩ := hinv
  obtain ⟨u94, hinv⟩ := hinv
  obtain ⟨u95, hinv⟩ := hinv
  obtain ⟨u96, hinv⟩ := hinv
  obtain ⟨u97, hinv⟩ := hinv
  obtain ⟨u98, hinv⟩ := hinv
  obtain ⟨u99, hinv⟩ := hinv
  obtain ⟨u100, hinv⟩ := hinv
  obtain ⟨u101, hinv⟩ := hinv
  obtain ⟨u102, hinv⟩ := hinv
  obtain ⟨u103, hinv⟩ := hinv
  obtain ⟨u104, hinv⟩ := hinv
  obtain ⟨u105, hinv⟩ := hinv
  obtain ⟨u106, hinv⟩ := hinv
  obtain ⟨u107, hinv⟩ := hinv
  obtain ⟨u108, hinv⟩ := hinv
  obtain ⟨u109, hinv⟩ := hinv
  obtain ⟨u110, hinv⟩ := hinv
  obtain ⟨u111, hinv⟩ := hinv
  obtain ⟨u112, hinv⟩ := hinv
  obtain ⟨u113, hinv⟩ := hinv
  obtain ⟨u114, hinv⟩ := hinv
  obtain ⟨u115, hinv⟩ := hinv
  obtain ⟨u116, hinv⟩ := hinv
  obtain ⟨u117, hinv⟩ := hinv
  obtain ⟨u118, hinv⟩ := hinv
  obtain ⟨u119, hinv⟩ := hinv
  obtain ⟨u120, hinv⟩ := hinv
  obtain ⟨u121, hinv⟩ := hinv
  obtain ⟨ds, hinv⟩ := hinv
  obtain ⟨hrel, ha⟩ := hinv
  subst ha
  try dsimp only
  obtain ⟨i, Ds, hi, rfl, hsp, h4, h5, hbw, rfl, hnd, hds⟩ := hrel
  rw [HN.out] at hi
  have HSP := Lib.hid hsp
  have H4 := Lib.hid h4
  have H5 := Lib.hid h5
  have HBW := Lib.hid hbw
  have HND := Lib.hid hnd
  have HDS := Lib.hid hds
  have hro := runB_ok (L.take i) ⟨1 + budget, 0, []⟩ (ok_new HBD.out.1 HBD.out.2)
  have hrl : (L.take i).length = i := by rw [List.length_take, HN.out]; omega
  rw [hrl] at hro
  simp only [List.length_nil, Nat.zero_add, Int.zero_add] at hro
  obtain ⟨DV, hDV⟩ : ∃ DV, Ds.map coll = DV := ⟨_, rfl⟩
  rw [hDV]
  have HDV := Lib.hid hDV
  clear hsp h4 h5 hbw hnd hds hDV hrl
  refine hide_postD ?_
  intro Q3 HQ3
  by_cases hlt : i < N
  case neg =>
    have hge : ¬ (i : Int) < (N : Int) := by omega
    have cd := cell_of_row W0 _ 0 _ _ _ H4.out
    have fd := frozen_of_row W0 _ 0 _ _ H4.out
    simp only [List.getElem?_toArray, List.getElem?_cons_zero] at cd
    clear hro
    go_wp2_with fail
    rw [HQ3.out]
    simp only [Exit.then, Exit.inBlock, if_true]
    go_wp2_with fail
    show LeavesInM _ _ _ _ _ _ DV _ _
    rw [← HDV.out]
    have h4z : (W0.setCell ⟨A4, 0, none⟩ (.bool true)).heap[A4]? = some (.cells #[.bool true] 4 (0, 0)) := heap_setCell_same _ _ _ _ _ _ H4.out
    refine leaves_marks (w0 := w) Ds _ HND.out (fun D hD => ?_) (fun W' hk hb => ?_)
    · have h1 := HDS.out D hD
      have h2 := HBM.out
      have h3 := HBASE.out
      exact ⟨by omega, (heap_setCell_other W0 ⟨A4, 0, none⟩ _ _ (show D ≠ A4 by omega)).trans h1.2⟩
    · have h2 := HBM.out
      have h3 := HBASE.out
      have h4' := (hk A4 (fun hD => by have := (HDS.out A4 hD).1; omega)).trans h4z
      have hbf : Below w.heap.size w W' := hb (HBW.out.setCell (show w.heap.size ≤ A4 by omega) _)
      have cw := cell_of_row W' _ 0 _ _ _ h4'
      simp only [List.getElem?_toArray, List.getElem?_cons_zero] at cw
      refine ⟨_, ?_, rfl, hbf⟩
      simp only [results, show Try.f4.results = #[.cell 4 4] from rfl]
      go_simp
  obtain ⟨X, hX⟩ : ∃ X, runB ⟨1 + budget, 0, []⟩ (L.take i) = X := ⟨_, rfl⟩
  have hlt' : i < L.length := by rw [HN.out]; exact hlt
  have hnx := runB_next ⟨1 + budget, 0, []⟩ L hlt'
  rw [hX] at HSP hro hnx
  have hiI : (i : Int) < (N : Int) := by omega
  have hiI0 : (0 : Int) ≤ (i : Int) := by omega
  obtain ⟨g, off, rfl, hg, hr, _⟩ := op_at (HV.out.below HBW.out) hlt'
  obtain ⟨o, ho⟩ : ∃ o, L[i] = o := ⟨_, rfl⟩
  rw [ho] at hr hnx
  have HNX := Lib.hid hnx
  have HR := Lib.hid (show ∀ w', Below W0.heap.size W0 w' → w'.cell? ⟨A5, 0, none⟩ = some (.pointer (some ⟨b, 0, none⟩)) ∧ w'.cell? ⟨g, off + i * 37, none⟩ = some (.int .i64 o.kind) ∧ w'.rangeAt g (off + i * 37 + 1) (bvs o.a.id.1) ∧ w'.cell? ⟨g, off + i * 37 + 1 + 32, none⟩ = some (.string o.a.text) ∧ w'.cell? ⟨g, off + i * 37 + 1 + 33, none⟩ = some (.int .i64 o.a.min) from fun w' hw' => by
    have hrr : ∀ (j : Nat) (u : Value), o.cells[j]? = some u → w'.cell? ⟨g, off + i * 37 + j, none⟩ = some u := fun j u hu => (hw'.cell (p := ⟨g, off + i * 37 + j, none⟩) hg).trans (hr j u hu)
    have hl : (bvs o.a.id.1).length = 32 := by rw [bvs_length, o.a.id.2]
    refine ⟨?_, hrr 0 _ rfl, fun j u hu => ?_, ?_, ?_⟩
    · have h5 := (hw'.block _ (Array.getElem?_eq_some_iff.1 H5.out).1).trans H5.out
      rw [cell_of_row _ _ _ _ _ _ h5]; rfl
    · rw [Nat.add_assoc (off + i * 37) 1 j, Nat.add_comm 1 j]
      refine hrr (j + 1) u ?_
      unfold OpD.cells RefA.cells
      rw [List.singleton_append, List.getElem?_cons_succ, List.append_assoc, List.getElem?_append_left (List.getElem?_eq_some_iff.1 hu).1]
      exact hu
    · refine hrr 33 _ ?_
      unfold OpD.cells RefA.cells
      rw [List.singleton_append, List.getElem?_cons_succ, List.append_assoc, List.getElem?_append_right (by rw [hl]; decide), hl]
      rfl
    · refine hrr 34 _ ?_
      unfold OpD.cells RefA.cells
      rw [List.singleton_append, List.getElem?_cons_succ, List.append_assoc, List.getElem?_append_right (by rw [hl]; decide), hl]
      rfl)
  have HRO := Lib.hid hro
  have HST := Lib.hid (stepB_ok o hro.1)
  have HCR := Lib.hid (show o.kind = 1 → ∀ w', Below W0.heap.size W0 w' → Calls Try.prog 17 #[.pointer (some ⟨b, 0, none⟩), .agg (bvs o.a.id.1).toArray] w' (fun e w'' => ∃ c, e = .returned (.int .i64 c) ∧ SpAt w'' b m (stepB X o) ∧ Chg (fun k => k = b ∨ k = m) w' w'') from fun hk w' hw' => by
    refine (Remove_any (HSP.out.below hw') hro.1 o.a.id).mono ?_
    rintro e w'' ⟨h1, h2, h3⟩
    refine ⟨_, h1, ?_, h3⟩
    unfold stepB rmS
    rw [if_pos hk]
    exact h2)
  have HCP := Lib.hid (show o.kind ≠ 1 → ∀ w', Below W0.heap.size W0 w' → Calls Try.prog 14 #[.pointer (some ⟨b, 0, none⟩), .agg (bvs o.a.id.1).toArray, .string o.a.text, .int .i64 o.a.min] w' (fun e w'' => ∃ c, e = .returned (.int .i64 c) ∧ SpAt w'' b m (stepB X o) ∧ Chg (fun k => k = b ∨ k = m) w' w'') from fun hk w' hw' => by
    refine (Put_any (HSP.out.below hw') hro.1 (by have := hro.2.2.1; omega) o.a.id o.a.text o.a.min).mono ?_
    rintro e w'' ⟨h1, h2, h3⟩
    refine ⟨_, h1, ?_, h3⟩
    unfold stepB
    rw [if_neg hk]
    exact h2)
  obtain ⟨tx, htx⟩ : ∃ t, o.a.text = t := ⟨_, rfl⟩
  obtain ⟨mn, hmn⟩ : ∃ t, o.a.min = t := ⟨_, rfl⟩
  obtain ⟨kd, hkd⟩ : ∃ t, o.kind = t := ⟨_, rfl⟩
  rw [htx, hmn] at HR HCP
  rw [hkd] at HR HCP HCR
  have hk0 := (HR.out W0 (Below.refl _ _)).2.1
  clear hX hnx hr ho hro htx hmn hkd
  go_upto_if 41 with (fail)
  go_cut [7] from 30 to 69 (fun iv wx => iv = .int .i64 (i : Int) ∧ SpAt wx b m (stepB X o) ∧ Chg (fun k => k = b ∨ k = m) W0 wx)
  case first =>
    by_cases hk : kd = 1
    · have hkb : (kd == 1) = true := by simp [hk]
      have HCL := Lib.hid (HCR.out hk)
      clear hk
      go_wp2_with fail
      refine wp_region_noPanic ?_
      refine wp_region_G [7] (Below W0.heap.size W0) (by kernel_rfl) ?_
      have hS0 : (Below W0.heap.size W0) W0.drew := (Below.refl _ _).drew
      obtain ⟨wd, hwd⟩ : ∃ wd, W0.drew = wd := ⟨_, rfl⟩
      rw [hwd] at hS0 ⊢
      clear hwd
      refine wpAnyG_take (i := 0) (v := ?v1) rfl (by kernel_rfl) (by kernel_rfl) (by kernel_rfl) (by kernel_rfl) (fun _ _ _ h => h) (yieldsIf_run rfl (fun w' hw' => ?y1)) hS0 ?_
      case y1 => (obtain ⟨h0, h1, h2, h3, h4⟩ := HR.out w' hw'; clear hw'; first | (go_simp; rfl) | (go_simp; done))
      simp only [Act.put, List.setIfInBounds_toArray, List.set_cons_zero, List.set_cons_succ]
      refine wpAnyG_pure (i := 1) (v := ?v2) rfl (by kernel_rfl) (by kernel_rfl) (by kernel_rfl) (by kernel_rfl) (fun _ _ _ h => h) (yieldsIf_run rfl (fun w' hw' => ?y2)) (fun _ => hS0) ?_
      case y2 => first | (go_simp; rfl) | (go_simp; done) | rfl
      simp only [Act.put, List.setIfInBounds_toArray, List.set_cons_zero, List.set_cons_succ]
      refine wpAnyG_pure (i := 2) (v := ?v3) rfl (by kernel_rfl) (by kernel_rfl) (by kernel_rfl) (by kernel_rfl) (fun _ _ _ h => h) (yieldsIf_run rfl (fun w' hw' => ?y3)) (fun _ => hS0) ?_
      case y3 => first | (go_simp; rfl) | (go_simp; done) | rfl
      simp only [Act.put, List.setIfInBounds_toArray, List.set_cons_zero, List.set_cons_succ]
      refine wpAnyG_pure (i := 3) (v := ?v4) rfl (by kernel_rfl) (by kernel_rfl) (by kernel_rfl) (by kernel_rfl) (fun _ _ _ h => h) (yieldsIf_run rfl (fun w' hw' => ?y4)) (fun _ => hS0) ?_
      case y4 => first | (go_simp; rfl) | (go_simp; done) | rfl
      simp only [Act.put, List.setIfInBounds_toArray, List.set_cons_zero, List.set_cons_succ]
      refine wpAnyG_pure (i := 4) (v := ?v5) rfl (by kernel_rfl) (by kernel_rfl) (by kernel_rfl) (by kernel_rfl) (fun _ _ _ h => h) (yieldsIf_run rfl (fun w' hw' => ?y5)) (fun _ => hS0) ?_
      case y5 => first | (go_simp; rfl) | (go_simp; done) | rfl
      simp only [Act.put, List.setIfInBounds_toArray, List.set_cons_zero, List.set_cons_succ]
      refine wpAnyG_pure (i := 5) (v := ?v6) rfl (by kernel_rfl) (by kernel_rfl) (by kernel_rfl) (by kernel_rfl) (fun _ _ _ h => h) (yieldsIf_run rfl (fun w' hw' => ?y6)) (fun _ => hS0) ?_
      case y6 => first | (go_simp; rfl) | (go_simp; done) | rfl
      simp only [Act.put, List.setIfInBounds_toArray, List.set_cons_zero, List.set_cons_succ]
      refine wpAnyG_take (i := 6) (v := .agg (bvs o.a.id.1).toArray) rfl (by kernel_rfl) (by kernel_rfl) (by kernel_rfl) (by kernel_rfl) (fun _ _ _ h => h) (yieldsIf_load_mid rfl 29 (.tmp 47) rfl g (off + i * 37 + 1) rfl (bvs o.a.id.1) _ (fun w' hw' => (HR.out w' hw').2.2.1) Try.underlying29 rfl (sizeArr o.a.id)) hS0 ?_
      simp only [Act.put, List.setIfInBounds_toArray, List.set_cons_zero, List.set_cons_succ]
      refine wpAnyG_fin (i := 7) (by kernel_rfl) rfl rfl (by kernel_rfl) (fun K hK => ?_)
      go_simp
      go_at_call 17
      refine (HCL.out _ hS0).mono ?_
      rintro e wx ⟨cx, rfl, hsx, hcx⟩
      have hcx2 : Chg (fun k => k = b ∨ k = m) W0 wx := (Chg.of_below hS0).trans hcx (fun _ h => .inl h)
      refine hK _ _ ?_
      clear hK K
      try simp only [Act.put, List.setIfInBounds_toArray, List.set_cons_zero, List.set_cons_succ]
      refine wpAnyG_done (by kernel_rfl) ?_ _
      refine NoPanic.normal ?_
      go_wp2_with fail
      go_meet
      case rel => exact ⟨rfl, hsx, hcx2⟩
    · have hkb : (kd == 1) = false := by simp [hk]
      have HCL := Lib.hid (HCP.out hk)
      clear hk
      go_wp2_with fail
      refine wp_region_noPanic ?_
      refine wp_region_G [19] (Below W0.heap.size W0) (by kernel_rfl) ?_
      have hS0 : (Below W0.heap.size W0) W0.drew := (Below.refl _ _).drew
      obtain ⟨wd, hwd⟩ : ∃ wd, W0.drew = wd := ⟨_, rfl⟩
      rw [hwd] at hS0 ⊢
      clear hwd
      refine wpAnyG_take (i := 0) (v := ?v7) rfl (by kernel_rfl) (by kernel_rfl) (by kernel_rfl) (by kernel_rfl) (fun _ _ _ h => h) (yieldsIf_run rfl (fun w' hw' => ?y7)) hS0 ?_
      case y7 => (obtain ⟨h0, h1, h2, h3, h4⟩ := HR.out w' hw'; clear hw'; first | (go_simp; rfl) | (go_simp; done))
      simp only [Act.put, List.setIfInBounds_toArray, List.set_cons_zero, List.set_cons_succ]
      refine wpAnyG_pure (i := 1) (v := ?v8) rfl (by kernel_rfl) (by kernel_rfl) (by kernel_rfl) (by kernel_rfl) (fun _ _ _ h => h) (yieldsIf_run rfl (fun w' hw' => ?y8)) (fun _ => hS0) ?_
      case y8 => first | (go_simp; rfl) | (go_simp; done) | rfl
      simp only [Act.put, List.setIfInBounds_toArray, List.set_cons_zero, List.set_cons_succ]
      refine wpAnyG_pure (i := 2) (v := ?v9) rfl (by kernel_rfl) (by kernel_rfl) (by kernel_rfl) (by kernel_rfl) (fun _ _ _ h => h) (yieldsIf_run rfl (fun w' hw' => ?y9)) (fun _ => hS0) ?_
      case y9 => first | (go_simp; rfl) | (go_simp; done) | rfl
      simp only [Act.put, List.setIfInBounds_toArray, List.set_cons_zero, List.set_cons_succ]
      refine wpAnyG_pure (i := 3) (v := ?v10) rfl (by kernel_rfl) (by kernel_rfl) (by kernel_rfl) (by kernel_rfl) (fun _ _ _ h => h) (yieldsIf_run rfl (fun w' hw' => ?y10)) (fun _ => hS0) ?_
      case y10 => first | (go_simp; rfl) | (go_simp; done) | rfl
      simp only [Act.put, List.setIfInBounds_toArray, List.set_cons_zero, List.set_cons_succ]
      refine wpAnyG_pure (i := 4) (v := ?v11) rfl (by kernel_rfl) (by kernel_rfl) (by kernel_rfl) (by kernel_rfl) (fun _ _ _ h => h) (yieldsIf_run rfl (fun w' hw' => ?y11)) (fun _ => hS0) ?_
      case y11 => first | (go_simp; rfl) | (go_simp; done) | rfl
      simp only [Act.put, List.setIfInBounds_toArray, List.set_cons_zero, List.set_cons_succ]
      refine wpAnyG_pure (i := 5) (v := ?v12) rfl (by kernel_rfl) (by kernel_rfl) (by kernel_rfl) (by kernel_rfl) (fun _ _ _ h => h) (yieldsIf_run rfl (fun w' hw' => ?y12)) (fun _ => hS0) ?_
      case y12 => first | (go_simp; rfl) | (go_simp; done) | rfl
      simp only [Act.put, List.setIfInBounds_toArray, List.set_cons_zero, List.set_cons_succ]
      refine wpAnyG_take (i := 6) (v := .agg (bvs o.a.id.1).toArray) rfl (by kernel_rfl) (by kernel_rfl) (by kernel_rfl) (by kernel_rfl) (fun _ _ _ h => h) (yieldsIf_load_mid rfl 29 (.tmp 55) rfl g (off + i * 37 + 1) rfl (bvs o.a.id.1) _ (fun w' hw' => (HR.out w' hw').2.2.1) Try.underlying29 rfl (sizeArr o.a.id)) hS0 ?_
      simp only [Act.put, List.setIfInBounds_toArray, List.set_cons_zero, List.set_cons_succ]
      refine wpAnyG_pure (i := 7) (v := ?v13) rfl (by kernel_rfl) (by kernel_rfl) (by kernel_rfl) (by kernel_rfl) (fun _ _ _ h => h) (yieldsIf_run rfl (fun w' hw' => ?y13)) (fun _ => hS0) ?_
      case y13 => first | (go_simp; rfl) | (go_simp; done) | rfl
      simp only [Act.put, List.setIfInBounds_toArray, List.set_cons_zero, List.set_cons_succ]
      refine wpAnyG_pure (i := 8) (v := ?v14) rfl (by kernel_rfl) (by kernel_rfl) (by kernel_rfl) (by kernel_rfl) (fun _ _ _ h => h) (yieldsIf_run rfl (fun w' hw' => ?y14)) (fun _ => hS0) ?_
      case y14 => first | (go_simp; rfl) | (go_simp; done) | rfl
      simp only [Act.put, List.setIfInBounds_toArray, List.set_cons_zero, List.set_cons_succ]
      refine wpAnyG_pure (i := 9) (v := ?v15) rfl (by kernel_rfl) (by kernel_rfl) (by kernel_rfl) (by kernel_rfl) (fun _ _ _ h => h) (yieldsIf_run rfl (fun w' hw' => ?y15)) (fun _ => hS0) ?_
      case y15 => first | (go_simp; rfl) | (go_simp; done) | rfl
      simp only [Act.put, List.setIfInBounds_toArray, List.set_cons_zero, List.set_cons_succ]
      refine wpAnyG_pure (i := 10) (v := ?v16) rfl (by kernel_rfl) (by kernel_rfl) (by kernel_rfl) (by kernel_rfl) (fun _ _ _ h => h) (yieldsIf_run rfl (fun w' hw' => ?y16)) (fun _ => hS0) ?_
      case y16 => first | (go_simp; rfl) | (go_simp; done) | rfl
      simp only [Act.put, List.setIfInBounds_toArray, List.set_cons_zero, List.set_cons_succ]
      refine wpAnyG_pure (i := 11) (v := ?v17) rfl (by kernel_rfl) (by kernel_rfl) (by kernel_rfl) (by kernel_rfl) (fun _ _ _ h => h) (yieldsIf_run rfl (fun w' hw' => ?y17)) (fun _ => hS0) ?_
      case y17 => first | (go_simp; rfl) | (go_simp; done) | rfl
      simp only [Act.put, List.setIfInBounds_toArray, List.set_cons_zero, List.set_cons_succ]
      refine wpAnyG_take (i := 12) (v := ?v18) rfl (by kernel_rfl) (by kernel_rfl) (by kernel_rfl) (by kernel_rfl) (fun _ _ _ h => h) (yieldsIf_run rfl (fun w' hw' => ?y18)) hS0 ?_
      case y18 => (obtain ⟨h0, h1, h2, h3, h4⟩ := HR.out w' hw'; clear hw'; first | (go_simp; rfl) | (go_simp; done))
      simp only [Act.put, List.setIfInBounds_toArray, List.set_cons_zero, List.set_cons_succ]
      refine wpAnyG_pure (i := 13) (v := ?v19) rfl (by kernel_rfl) (by kernel_rfl) (by kernel_rfl) (by kernel_rfl) (fun _ _ _ h => h) (yieldsIf_run rfl (fun w' hw' => ?y19)) (fun _ => hS0) ?_
      case y19 => first | (go_simp; rfl) | (go_simp; done) | rfl
      simp only [Act.put, List.setIfInBounds_toArray, List.set_cons_zero, List.set_cons_succ]
      refine wpAnyG_pure (i := 14) (v := ?v20) rfl (by kernel_rfl) (by kernel_rfl) (by kernel_rfl) (by kernel_rfl) (fun _ _ _ h => h) (yieldsIf_run rfl (fun w' hw' => ?y20)) (fun _ => hS0) ?_
      case y20 => first | (go_simp; rfl) | (go_simp; done) | rfl
      simp only [Act.put, List.setIfInBounds_toArray, List.set_cons_zero, List.set_cons_succ]
      refine wpAnyG_pure (i := 15) (v := ?v21) rfl (by kernel_rfl) (by kernel_rfl) (by kernel_rfl) (by kernel_rfl) (fun _ _ _ h => h) (yieldsIf_run rfl (fun w' hw' => ?y21)) (fun _ => hS0) ?_
      case y21 => first | (go_simp; rfl) | (go_simp; done) | rfl
      simp only [Act.put, List.setIfInBounds_toArray, List.set_cons_zero, List.set_cons_succ]
      refine wpAnyG_pure (i := 16) (v := ?v22) rfl (by kernel_rfl) (by kernel_rfl) (by kernel_rfl) (by kernel_rfl) (fun _ _ _ h => h) (yieldsIf_run rfl (fun w' hw' => ?y22)) (fun _ => hS0) ?_
      case y22 => first | (go_simp; rfl) | (go_simp; done) | rfl
      simp only [Act.put, List.setIfInBounds_toArray, List.set_cons_zero, List.set_cons_succ]
      refine wpAnyG_pure (i := 17) (v := ?v23) rfl (by kernel_rfl) (by kernel_rfl) (by kernel_rfl) (by kernel_rfl) (fun _ _ _ h => h) (yieldsIf_run rfl (fun w' hw' => ?y23)) (fun _ => hS0) ?_
      case y23 => first | (go_simp; rfl) | (go_simp; done) | rfl
      simp only [Act.put, List.setIfInBounds_toArray, List.set_cons_zero, List.set_cons_succ]
      refine wpAnyG_take (i := 18) (v := ?v24) rfl (by kernel_rfl) (by kernel_rfl) (by kernel_rfl) (by kernel_rfl) (fun _ _ _ h => h) (yieldsIf_run rfl (fun w' hw' => ?y24)) hS0 ?_
      case y24 => (obtain ⟨h0, h1, h2, h3, h4⟩ := HR.out w' hw'; clear hw'; first | (go_simp; rfl) | (go_simp; done))
      simp only [Act.put, List.setIfInBounds_toArray, List.set_cons_zero, List.set_cons_succ]
      refine wpAnyG_fin (i := 19) (by kernel_rfl) rfl rfl (by kernel_rfl) (fun K hK => ?_)
      go_simp
      go_at_call 14
      refine (HCL.out _ hS0).mono ?_
      rintro e wx ⟨cx, rfl, hsx, hcx⟩
      have hcx2 : Chg (fun k => k = b ∨ k = m) W0 wx := (Chg.of_below hS0).trans hcx (fun _ h => .inl h)
      refine hK _ _ ?_
      clear hK K
      try simp only [Act.put, List.setIfInBounds_toArray, List.set_cons_zero, List.set_cons_succ]
      refine wpAnyG_done (by kernel_rfl) ?_ _
      refine NoPanic.normal ?_
      go_wp2_with fail
      go_meet
      case rel => exact ⟨rfl, hsx, hcx2⟩
  obtain ⟨rfl, hsx, hcx⟩ := hcut
  obtain ⟨S, hS⟩ : ∃ S, stepB X o = S := ⟨_, rfl⟩
  rw [hS] at hsx HST HNX
  have HSX := Lib.hid hsx
  have HCX := Lib.hid hcx
  have HB0 := Lib.hid (show S.Ok ∧ S.budget = 1 + budget ∧ S.list.length ≤ 41 from ⟨HST.out.1, HST.out.2.1.trans HRO.out.2.1, by have h1 := HST.out.2.2.2; have h2 := HRO.out.2.2.2; omega⟩)
  have HX4 := Lib.hid ((hcx.block _ (Array.getElem?_eq_some_iff.1 H4.out).1 (by have := HBM.out; omega)).trans H4.out)
  have HX5 := Lib.hid ((hcx.block _ (Array.getElem?_eq_some_iff.1 H5.out).1 (by have := HBM.out; omega)).trans H5.out)
  have HBX := Lib.hid (HBW.out.trans (hcx.below (B := w.heap.size) (fun k e => by have := HBM.out; omega) HBW.out.size))
  have HDX := Lib.hid (show ∀ D ∈ Ds, base ≤ D ∧ D < W0.heap.size ∧ wc.heap[D]? = some (.deferred (some [])) from fun D hD => by
    have h1 := HDS.out D hD
    have h2 := (Array.getElem?_eq_some_iff.1 h1.2).1
    exact ⟨h1.1, h2, (hcx.block D h2 (by have := HBM.out; have := HBASE.out; omega)).trans h1.2⟩)
  have HWS := Lib.hid hcx.size
  clear hsx hcx hS HR HRO HST HCR HCP HDS H4 H5 HBW HSP hk0 hg
  obtain ⟨A8, hA8⟩ : ∃ A8, wc.heap.size = A8 := ⟨_, rfl⟩
  obtain ⟨w8, hw8⟩ : ∃ w8, (wc.alloc (.cells #[.int .i64 0] 3)).alloc (.cells #[.int .i64 0] 3) = w8 := ⟨_, rfl⟩
  have hs7 : (wc.alloc (.cells #[.int .i64 0] 3)).heap.size = A8 + 1 := by rw [World.size_alloc, hA8]
  have x8 : w8.heap[A8 + 1]? = some (.cells #[.int .i64 0] 3 (0, 0)) := by rw [← hw8, ← hs7]; exact heap_alloc_new _ _
  have x78 : w8.heap[A8]? = some (.cells #[.int .i64 0] 3 (0, 0)) := by
    rw [← hw8, Below.heap_alloc _ _ _ (by omega), ← hA8]
    exact heap_alloc_new _ _
  have hb8 : Below wc.heap.size wc w8 := hw8 ▸ ((Below.refl _ _).alloc (Nat.le_refl _) _).alloc (by simp only [World.size_alloc]; omega) _
  obtain ⟨A9, hA9⟩ : ∃ A9, A8 + 1 = A9 := ⟨_, rfl⟩
  rw [hA9] at x8
  have HZ := Lib.hid (show A4 < A8 ∧ A5 < A8 ∧ A8 < A9 ∧ A9 < w8.heap.size ∧ b < A8 ∧ m < A8 ∧ A8 = wc.heap.size from by
    have h1 := (Array.getElem?_eq_some_iff.1 HX5.out).1
    have h2 := (Array.getElem?_eq_some_iff.1 x8).1
    have h3 := HBM.out
    omega)
  have c8 := cell_of_row w8 _ 0 _ _ _ x78
  have f8 := frozen_of_row w8 _ 0 _ _ x78
  have c9 := cell_of_row w8 _ 0 _ _ _ x8
  have f9 := frozen_of_row w8 _ 0 _ _ x8
  have c5 := cell_of_row w8 _ 0 _ _ _ ((hb8.block _ (Array.getElem?_eq_some_iff.1 HX5.out).1).trans HX5.out)
  simp only [List.getElem?_toArray, List.getElem?_cons_zero] at c8 c9 c5
  have n1 : ¬ A8 = A9 := by have := HZ.out; omega
  have n2 : ¬ A9 = A8 := by have := HZ.out; omega
  have n3 : ¬ A5 = A8 := by have := HZ.out; omega
  have n4 : ¬ A5 = A9 := by have := HZ.out; omega
  obtain ⟨w9, hw9⟩ : ∃ w9, (w8.setCell ⟨A8, 0, none⟩ (.int .i64 0)).setCell ⟨A9, 0, none⟩ (.int .i64 0) = w9 := ⟨_, rfl⟩
  have y8 : (w8.setCell ⟨A8, 0, none⟩ (.int .i64 0)).heap[A8]? = some (.cells #[.int .i64 0] 3 (0, 0)) := heap_setCell_same _ _ _ _ _ _ x78
  have y9 : (w8.setCell ⟨A8, 0, none⟩ (.int .i64 0)).heap[A9]? = some (.cells #[.int .i64 0] 3 (0, 0)) := (heap_setCell_other w8 ⟨A8, 0, none⟩ _ _ n2).trans x8
  have z8 : w9.heap[A8]? = some (.cells #[.int .i64 0] 3 (0, 0)) := hw9 ▸ (heap_setCell_other _ ⟨A9, 0, none⟩ _ _ n1).trans y8
  have z9 : w9.heap[A9]? = some (.cells #[.int .i64 0] 3 (0, 0)) := hw9 ▸ heap_setCell_same _ _ _ _ _ _ y9
  have hb9 : Below wc.heap.size wc w9 := hw9 ▸ (hb8.setCell (show wc.heap.size ≤ A8 by have := HZ.out; omega) _).setCell (show wc.heap.size ≤ A9 by have := HZ.out; omega) _
  have HW9 := Lib.hid hw9
  have HZ8 := Lib.hid z8
  have HZ9 := Lib.hid z9
  have HB9 := Lib.hid hb9
  have HS9 := Lib.hid (HSX.out.below hb9)
  clear x8 hb8 x78 hw9 y8 y9 z8 z9 hb9 hs7
  go_wp2_with fail
  try rw [HW9.out]
  clear HW9 c8 f8 c9 f9 c5 hw8 hA8 hA9
  refine (All_any (some ⟨b, 0, none⟩)).mono ?_
  rintro e w6 ⟨rfl, hw6⟩
  have hb6 : Below w9.heap.size w9 w6 := hw6 ▸ (Below.refl _ _).alloc (Nat.le_refl _) _
  have c6 : w6.cell? ⟨w9.heap.size, 0, none⟩ = some (.pointer (some ⟨b, 0, none⟩)) := by rw [cell_of_row w6 _ 0 _ _ _ (hw6 ▸ heap_alloc_new w9 _)]; rfl
  have hs6 : w6.heap.size = w9.heap.size + 1 := by rw [hw6, World.size_alloc]
  have HB6 := Lib.hid (HB9.out.trans (hb6.mono HB9.out.size))
  have H86 := Lib.hid ((hb6.block _ (Array.getElem?_eq_some_iff.1 HZ8.out).1).trans HZ8.out)
  have H96 := Lib.hid ((hb6.block _ (Array.getElem?_eq_some_iff.1 HZ9.out).1).trans HZ9.out)
  have HS6 := Lib.hid (HS9.out.below hb6)
  have HC6 := Lib.hid c6
  have HZ6 := Lib.hid (show A9 < w6.heap.size ∧ w9.heap.size < w6.heap.size from by have h1 := (Array.getElem?_eq_some_iff.1 HZ9.out).1; omega)
  clear hw6 hb6 c6 hs6 HZ8 HZ9 HB9 HS9
  go_wp2_with fail
  refine (wpIn_wide (n := 4)).1 ?_
  refine wpIn_range_boxedK (Kp := RowsKept w6.heap.size) (fun (x : Mem S) => (entC x.1).toArray) (T := 44) (q := 10) (p0 := 72) rfl rfl rfl rfl rfl rfl rfl (by decide) (by show 72 < 122; decide) (by show 10 < 122; decide) (entC zA).toArray 34 (by kernel_rfl) (by rw [List.size_toArray, entC_length]) (fun x => by rw [List.size_toArray, entC_length]) (fun x => all_oneCell_toArray (entC_one x.1))
    (gf := 36) (lb := #[.pointer (some ⟨w9.heap.size, 0, none⟩)]) rfl (enters_of Try.func36 (by kernel_rfl) rfl) RowsKept.trans (fun W l o o' h ho => (CellsKept.putObj W l o o' h ho).rows) (fun W W' hb => (CellsKept.of_below hb).rows)
    (all_stopsR w9.heap.size w6.heap.size _ Subtype.val S.list.attach S.list (List.attach_map_subtype_val _).symm (by have := HB0.out.2.2; omega) w6 HZ6.out.2 (Nat.le_refl _) HC6.out (fun W hW => entries_any (HS6.out.below hW) HB0.out.1 (by have := HB0.out.2.2; omega))) (Below.refl _ _)
    (BuI w6 A8 A9 S) (fun _ _ _ => False) buI_from (fun c _ _ _ _ h => h.elim) ⟨H86.out, H96.out, Chg.refl _ _⟩ (fun pre W h => h.2.2.size) ?body ?done ?stop
  case stop => exact fun _ _ _ _ _ _ h => h.elim
  case body =>
    rintro l pre ⟨Y, hYm⟩ r W hl hlr ⟨h8, h9, hC⟩ hrB hx hlt2
    have hx : W.heap[r]? = some (.cells (entC Y).toArray 44 (0, 0)) := hx
    rw [List.length_attach] at hlt2
    have hsm := sumT_le HB0.out.1 pre
    have hsn := sumT_snoc pre ⟨Y, hYm⟩
    have htx := HB0.out.1.tx Y hYm
    obtain ⟨sm, hsme⟩ : ∃ sm, sumT pre = sm := ⟨_, rfl⟩
    obtain ⟨k, hk⟩ : ∃ k, pre.length = k := ⟨_, rfl⟩
    rw [hsme] at h8 hsm hsn
    rw [hk] at h9 hsm hlt2
    have hspW := HS6.out.chg hC (by have := HZ.out; omega) (by have := HZ.out; omega)
    have hget := Get_any hspW Y.id
    rw [find_mem hspW.hm.nodup hYm] at hget
    have hget : Calls Try.prog 19 #[.pointer (some ⟨b, 0, none⟩), .agg (bvs Y.id.1).toArray] W fun e w' => e = .returned (.tuple #[.string Y.text, .int .i64 0]) ∧ Below W.heap.size W w' := hget
    have HGET := Lib.hid hget
    have HXR := Lib.hid (range_idE hx)
    have HX := Lib.hid hx
    have H8 := Lib.hid h8
    have H9 := Lib.hid h9
    have HC := Lib.hid hC
    have HSN := Lib.hid hsn
    have HKE := Lib.hid hk
    have HRB := Lib.hid hrB
    have h5W := (hC.block _ (by have := HZ.out; have := HZ6.out; omega) (by have := HZ.out; omega)).trans ((HB6.out.block _ (by have := HZ.out; omega)).trans HX5.out)
    have c5 := cell_of_row W _ 0 _ _ _ h5W
    simp only [List.getElem?_toArray, List.getElem?_cons_zero] at c5
    have hkb : k ≤ 41 := by have := HB0.out.2.2; omega
    obtain ⟨ts, hts⟩ : ∃ ts, Y.text.size = ts := ⟨_, rfl⟩
    rw [hts] at htx
    have HTS := Lib.hid hts
    clear hget hx h8 h9 hC hsn hk hspW h5W hsme hts
    gi_wp2_with (with_reducible refine wpListIn_load_mid wideR (fun _ _ h => h) rfl 30 _ rfl r 0 rfl (bvs Y.id.1) _ HXR.out Try.underlying30 rfl (sizeId Y.id) ?_; refine Stop.on ?_)
    refine Stop.go ?_
    try simp only [Act.put, List.setIfInBounds_toArray, List.set_cons_zero, List.set_cons_succ]
    gi_wp2_with (first | (refine ⟨trivial, ?_⟩; gi_at_call 19; refine (CallsIn.inRound _ (callsIn_wide.2 HGET.out)).mono ?_; rintro e wz ⟨rfl, hbz⟩; refine Stop.on ?_))
    refine Stop.go ?_
    have x8 := (hbz.block _ (Array.getElem?_eq_some_iff.1 H8.out).1).trans H8.out
    have x9 := (hbz.block _ (Array.getElem?_eq_some_iff.1 H9.out).1).trans H9.out
    have xr := (hbz.block _ (Array.getElem?_eq_some_iff.1 HX.out).1).trans HX.out
    have c8 := cell_of_row wz _ 0 _ _ _ x8
    have f8 := frozen_of_row wz _ 0 _ _ x8
    have c9 := cell_of_row wz _ 0 _ _ _ x9
    have f9 := frozen_of_row wz _ 0 _ _ x9
    have c33 : wz.cell? ⟨r, 33, none⟩ = some (.int .i64 (ts : Int)) := by rw [cell_of_row _ _ _ _ _ _ xr, (entC_parts Y).2, HTS.out]
    have htxs : Y.text.size = ts := HTS.out
    simp only [List.getElem?_toArray, List.getElem?_cons_zero] at c8 c9
    have n5 : ¬ r = A8 := by have := HZ6.out; have := HZ.out; have := HRB.out; omega
    have n6 : ¬ r = A9 := by have := HZ6.out; have := HRB.out; omega
    have hne : ((ts : Int) != (ts : Int)) = false := by simp
    have hy8 : (wz.setCell ⟨A8, 0, none⟩ (.int .i64 ((sm : Int) + (ts : Int)))).heap[A8]? = some (.cells #[.int .i64 ((sm : Int) + (ts : Int))] 3 (0, 0)) := by rw [heap_setCell_same _ _ _ _ _ _ x8]; rfl
    have hy9 := (heap_setCell_other wz ⟨A8, 0, none⟩ A9 (.int .i64 ((sm : Int) + (ts : Int))) n2).trans x9
    have hz8 := (heap_setCell_other (wz.setCell ⟨A8, 0, none⟩ (.int .i64 ((sm : Int) + (ts : Int)))) ⟨A9, 0, none⟩ A8 (.int .i64 ((k : Int) + 1)) n1).trans hy8
    have hz9 : ((wz.setCell ⟨A8, 0, none⟩ (.int .i64 ((sm : Int) + (ts : Int)))).setCell ⟨A9, 0, none⟩ (.int .i64 ((k : Int) + 1))).heap[A9]? = some (.cells #[.int .i64 ((k : Int) + 1)] 3 (0, 0)) := by rw [heap_setCell_same _ _ _ _ _ _ hy9]; rfl
    have hCz : Chg (fun k => k = A8 ∨ k = A9) W ((wz.setCell ⟨A8, 0, none⟩ (.int .i64 ((sm : Int) + (ts : Int)))).setCell ⟨A9, 0, none⟩ (.int .i64 ((k : Int) + 1))) :=
      ((Chg.of_below hbz).trans (Chg.setCell (F := fun k => k = A8 ∨ k = A9) wz (a := ⟨A8, 0, none⟩) _ (.inl rfl)) (fun i h => .inl h)).trans (Chg.setCell (F := fun k => k = A8 ∨ k = A9) _ (a := ⟨A9, 0, none⟩) _ (.inr rfl)) (fun i h => .inl h)
    have HE := Lib.hid (show KeepsFrom w6.heap.size W ((wz.setCell ⟨A8, 0, none⟩ (.int .i64 ((sm : Int) + (ts : Int)))).setCell ⟨A9, 0, none⟩ (.int .i64 ((k : Int) + 1))) ∧ RowsKept w6.heap.size W ((wz.setCell ⟨A8, 0, none⟩ (.int .i64 ((sm : Int) + (ts : Int)))).setCell ⟨A9, 0, none⟩ (.int .i64 ((k : Int) + 1))) ∧ BuI w6 A8 A9 S (pre ++ [⟨Y, hYm⟩]) ((wz.setCell ⟨A8, 0, none⟩ (.int .i64 ((sm : Int) + (ts : Int)))).setCell ⟨A9, 0, none⟩ (.int .i64 ((k : Int) + 1))) from
      ⟨KeepsFrom.of_chg hCz (fun k e => by have := HZ6.out; have := HZ.out; omega), (CellsKept.of_chg hCz (fun k e => by have := HZ6.out; have := HZ.out; omega)).rows, by
        rw [HSN.out]
        show _ = some (Obj.cells #[.int .i64 ((sm + Y.text.size : Nat) : Int)] 3 (0, 0))
        rw [HTS.out, show ((sm + ts : Nat) : Int) = (sm : Int) + (ts : Int) by omega]
        exact hz8, by
        rw [List.length_append, HKE.out]
        show _ = some (Obj.cells #[.int .i64 ((k + 1 : Nat) : Int)] 3 (0, 0))
        rw [show ((k + 1 : Nat) : Int) = (k : Int) + 1 by omega]
        exact hz9, HC.out.trans hCz (fun i h => .inl h)⟩)
    clear hy8 hy9 hz8 hz9 hCz x8 x9 xr hbz
    gi_wp2
    exact HE.out
  case done =>
    rintro D xs W hD rfl ⟨h8, h9, hC⟩ hK
    rw [sumT_all] at h8
    rw [List.length_attach] at h9
    have hspW := HS6.out.chg hC (by have := HZ.out; omega) (by have := HZ.out; omega)
    have hx4W := (hC.block A4 (by have := HZ.out; have := HZ6.out; omega) (by have := HZ.out; omega)).trans ((HB6.out.block _ (by have := HZ.out; omega)).trans HX4.out)
    have hx5W := (hC.block A5 (by have := HZ.out; have := HZ6.out; omega) (by have := HZ.out; omega)).trans ((HB6.out.block _ (by have := HZ.out; omega)).trans HX5.out)
    have hbW : Below wc.heap.size wc W := HB6.out.trans (hC.below (B := wc.heap.size) (fun k e => by have := HZ.out; omega) HB6.out.size)
    have hfree := fun w' (hw' : Below W.heap.size W w') => Free_any (hspW.below hw') HB0.out.1
    have hby := fun w' (hw' : Below W.heap.size W w') => Bytes_any (hspW.below hw')
    have hln := fun w' (hw' : Below W.heap.size W w') => Len_any (hspW.below hw')
    have hsz := HB0.out.1.sz
    rw [HB0.out.2.1] at hfree hsz
    obtain ⟨Z, hZ⟩ : ∃ Z, S.size = Z := ⟨_, rfl⟩
    obtain ⟨M, hM⟩ : ∃ M, S.list.length = M := ⟨_, rfl⟩
    rw [hZ] at h8 hfree hby hsz
    rw [hM] at h9 hln
    have HBY := Lib.hid hby
    have HFR := Lib.hid hfree
    have HLN := Lib.hid hln
    have HF := Lib.hid (show ∀ w', Below W.heap.size W w' → w'.cell? ⟨A8, 0, none⟩ = some (.int .i64 (Z : Int)) ∧ w'.cell? ⟨A5, 0, none⟩ = some (.pointer (some ⟨b, 0, none⟩)) ∧ w'.cell? ⟨A9, 0, none⟩ = some (.int .i64 (M : Int)) from fun w' hw' =>
      ⟨by rw [cell_of_row _ _ _ _ _ _ ((hw'.block _ (Array.getElem?_eq_some_iff.1 h8).1).trans h8)]; rfl, by rw [cell_of_row _ _ _ _ _ _ ((hw'.block _ (Array.getElem?_eq_some_iff.1 hx5W).1).trans hx5W)]; rfl, by rw [cell_of_row _ _ _ _ _ _ ((hw'.block _ (Array.getElem?_eq_some_iff.1 h9).1).trans h9)]; rfl⟩)
    have HSW := Lib.hid hspW
    have H4W := Lib.hid hx4W
    have H5W := Lib.hid hx5W
    have HBW := Lib.hid hbW
    have HKD := Lib.hid hK
    have hzz : ((Z : Int) != (Z : Int)) = false := by simp
    have hmm : ((M : Int) != (M : Int)) = false := by simp
    have hff : ((1 + budget - (Z : Int)) != (1 + budget - (Z : Int))) = false := by simp
    have hgt : ¬ 1 + budget < (Z : Int) := by omega
    have hw0 : IntKind.i64.wrap budget = budget := IntWalk.i64_in _ (by omega)
    have hw1 : IntKind.i64.wrap (1 + budget) = 1 + budget := IntWalk.i64_in _ (by omega)
    have hgt2 : (Z : Int) ≤ 1 + budget := by omega
    have hwr : IntKind.i64.wrap (1 + budget - (Z : Int)) = 1 + budget - (Z : Int) := IntWalk.i64_in _ (by omega)
    have hwi : IntKind.i64.wrap ((i : Int) + 1) = (i : Int) + 1 := IntWalk.i64_in _ (by omega)
    clear h8 h9 hC hspW hx4W hx5W hbW hfree hby hln hZ hM hK
    go_wp2_with fail
    refine wp_region_noPanic ?_
    refine wp_region_H (Below W.heap.size W) (by kernel_rfl) ?_
    have hS0 : (Below W.heap.size W) W.drew := (Below.refl _ _).drew
    obtain ⟨wd, hwd⟩ : ∃ wd, W.drew = wd := ⟨_, rfl⟩
    rw [hwd] at hS0 ⊢
    clear hwd
    refine wpAnyH_takeI (i := 0) (v := ?v25) rfl (by kernel_rfl) (by kernel_rfl) (by kernel_rfl) (fun _ _ _ h => h) (yieldsIf_run rfl (fun w' hw' => ?y25)) hS0 ?_
    case y25 => (obtain ⟨h0, h1, h2⟩ := HF.out w' hw'; clear hw'; first | (go_simp; rfl) | (go_simp; done))
    simp only [Act.put, List.setIfInBounds_toArray, List.set_cons_zero, List.set_cons_succ]
    refine wpAnyH_takeI (i := 1) (v := ?v26) rfl (by kernel_rfl) (by kernel_rfl) (by kernel_rfl) (fun _ _ _ h => h) (yieldsIf_run rfl (fun w' hw' => ?y26)) hS0 ?_
    case y26 => (obtain ⟨h0, h1, h2⟩ := HF.out w' hw'; clear hw'; first | (go_simp; rfl) | (go_simp; done))
    simp only [Act.put, List.setIfInBounds_toArray, List.set_cons_zero, List.set_cons_succ]
    refine wpAnyH_do (i := 2) (by kernel_rfl) rfl rfl (fun K hK => ?_)
    go_simp
    go_at_call 20
    refine (HBY.out _ hS0).mono ?_
    rintro e wy ⟨rfl, hbwy⟩
    have hSwy := hS0.trans (hbwy.mono hS0.size)
    refine hK _ _ (hSwy) ?_
    clear hK K
    try simp only [Act.put, List.setIfInBounds_toArray, List.set_cons_zero, List.set_cons_succ]
    refine wpAnyH_takeI (i := 3) (v := .bool false) rfl (by kernel_rfl) (by kernel_rfl) (by kernel_rfl) (fun _ _ _ h => h) (yieldsIf_run rfl (fun w' hw' => ?y27)) hSwy ?_
    case y27 => first | (go_simp; rfl) | (go_simp; done) | rfl
    simp only [Act.put, List.setIfInBounds_toArray, List.set_cons_zero, List.set_cons_succ]
    refine wpAnyH_takeI (i := 4) (v := ?v28) rfl (by kernel_rfl) (by kernel_rfl) (by kernel_rfl) (fun _ _ _ h => h) (yieldsIf_run rfl (fun w' hw' => ?y28)) hSwy ?_
    case y28 => first | (go_simp; rfl) | (go_simp; done) | rfl
    simp only [Act.put, List.setIfInBounds_toArray, List.set_cons_zero, List.set_cons_succ]
    refine wpAnyH_takeI (i := 5) (v := ?v29) rfl (by kernel_rfl) (by kernel_rfl) (by kernel_rfl) (fun _ _ _ h => h) (yieldsIf_want rfl (fun w' hw' => ?y29)) hSwy ?_
    case y29 => (obtain ⟨h0, h1, h2⟩ := HF.out w' hw'; clear hw'; first | (go_simp; rfl) | (go_simp; done))
    simp only [Act.put, List.setIfInBounds_toArray, List.set_cons_zero, List.set_cons_succ]
    refine wpAnyH_takeI (i := 6) (v := ?v30) rfl (by kernel_rfl) (by kernel_rfl) (by kernel_rfl) (fun _ _ _ h => h) (yieldsIf_want rfl (fun w' hw' => ?y30)) hSwy ?_
    case y30 => first | (go_simp; rfl) | (go_simp; done) | rfl
    simp only [Act.put, List.setIfInBounds_toArray, List.set_cons_zero, List.set_cons_succ]
    refine wpAnyH_takeI (i := 7) (v := .int .i64 budget) rfl (by kernel_rfl) (by kernel_rfl) (by kernel_rfl) (fun _ _ _ h => h) (yieldsIf_want rfl (fun w' hw' => ?y31)) hSwy ?_
    case y31 => first | (go_simp; rfl) | (go_simp; done) | rfl
    simp only [Act.put, List.setIfInBounds_toArray, List.set_cons_zero, List.set_cons_succ]
    refine wpAnyH_takeI (i := 8) (v := .int .i64 (1 + budget)) rfl (by kernel_rfl) (by kernel_rfl) (by kernel_rfl) (fun _ _ _ h => h) (yieldsIf_want rfl (fun w' hw' => ?y32)) hSwy ?_
    case y32 => first | (go_simp; rfl) | (go_simp; done) | rfl
    simp only [Act.put, List.setIfInBounds_toArray, List.set_cons_zero, List.set_cons_succ]
    refine wpAnyH_takeI (i := 9) (v := .bool false) rfl (by kernel_rfl) (by kernel_rfl) (by kernel_rfl) (fun _ _ _ h => h) (yieldsIf_want rfl (fun w' hw' => ?y33)) hSwy ?_
    case y33 => first | (go_simp; rfl) | (go_simp; done) | rfl
    simp only [Act.put, List.setIfInBounds_toArray, List.set_cons_zero, List.set_cons_succ]
    refine wpAnyH_takeI (i := 10) (v := .bool false) rfl (by kernel_rfl) (by kernel_rfl) (by kernel_rfl) (fun _ _ _ h => h) (yieldsIf_run rfl (fun w' hw' => ?y34)) hSwy ?_
    case y34 => first | (go_simp; rfl) | (go_simp; done) | rfl
    simp only [Act.put, List.setIfInBounds_toArray, List.set_cons_zero, List.set_cons_succ]
    refine wpAnyH_takeI (i := 11) (v := ?v35) rfl (by kernel_rfl) (by kernel_rfl) (by kernel_rfl) (fun _ _ _ h => h) (yieldsIf_run rfl (fun w' hw' => ?y35)) hSwy ?_
    case y35 => first | (go_simp; rfl) | (go_simp; done) | rfl
    simp only [Act.put, List.setIfInBounds_toArray, List.set_cons_zero, List.set_cons_succ]
    refine wpAnyH_takeI (i := 12) (v := ?v36) rfl (by kernel_rfl) (by kernel_rfl) (by kernel_rfl) (fun _ _ _ h => h) (yieldsIf_want rfl (fun w' hw' => ?y36)) hSwy ?_
    case y36 => (obtain ⟨h0, h1, h2⟩ := HF.out w' hw'; clear hw'; first | (go_simp; rfl) | (go_simp; done))
    simp only [Act.put, List.setIfInBounds_toArray, List.set_cons_zero, List.set_cons_succ]
    refine wpAnyH_takeI (i := 14) (v := ?v37) rfl (by kernel_rfl) (by kernel_rfl) (by kernel_rfl) (fun _ _ _ h => h) (yieldsIf_want rfl (fun w' hw' => ?y37)) hSwy ?_
    case y37 => first | (go_simp; rfl) | (go_simp; done) | rfl
    simp only [Act.put, List.setIfInBounds_toArray, List.set_cons_zero, List.set_cons_succ]
    refine wpAnyH_takeI (i := 15) (v := .int .i64 budget) rfl (by kernel_rfl) (by kernel_rfl) (by kernel_rfl) (fun _ _ _ h => h) (yieldsIf_want rfl (fun w' hw' => ?y38)) hSwy ?_
    case y38 => first | (go_simp; rfl) | (go_simp; done) | rfl
    simp only [Act.put, List.setIfInBounds_toArray, List.set_cons_zero, List.set_cons_succ]
    refine wpAnyH_takeI (i := 16) (v := .int .i64 (1 + budget)) rfl (by kernel_rfl) (by kernel_rfl) (by kernel_rfl) (fun _ _ _ h => h) (yieldsIf_want rfl (fun w' hw' => ?y39)) hSwy ?_
    case y39 => first | (go_simp; rfl) | (go_simp; done) | rfl
    simp only [Act.put, List.setIfInBounds_toArray, List.set_cons_zero, List.set_cons_succ]
    refine wpAnyH_takeI (i := 17) (v := ?v40) rfl (by kernel_rfl) (by kernel_rfl) (by kernel_rfl) (fun _ _ _ h => h) (yieldsIf_want rfl (fun w' hw' => ?y40)) hSwy ?_
    case y40 => (obtain ⟨h0, h1, h2⟩ := HF.out w' hw'; clear hw'; first | (go_simp; rfl) | (go_simp; done))
    simp only [Act.put, List.setIfInBounds_toArray, List.set_cons_zero, List.set_cons_succ]
    refine wpAnyH_takeI (i := 18) (v := .int .i64 (1 + budget - (Z : Int))) rfl (by kernel_rfl) (by kernel_rfl) (by kernel_rfl) (fun _ _ _ h => h) (yieldsIf_want rfl (fun w' hw' => ?y41)) hSwy ?_
    case y41 => first | (go_simp; rfl) | (go_simp; done) | rfl
    simp only [Act.put, List.setIfInBounds_toArray, List.set_cons_zero, List.set_cons_succ]
    refine wpAnyH_want (i := 13) (by kernel_rfl) rfl rfl (fun K hK => ?_)
    go_simp
    go_at_call 21
    refine (HFR.out _ hSwy).mono ?_
    rintro e wf ⟨rfl, hbwf⟩
    have hSwf := hSwy.trans (hbwf.mono hSwy.size)
    refine hK _ _ (hSwf) ?_
    clear hK K
    try simp only [Act.put, List.setIfInBounds_toArray, List.set_cons_zero, List.set_cons_succ]
    refine wpAnyH_takeI (i := 19) (v := .bool false) rfl (by kernel_rfl) (by kernel_rfl) (by kernel_rfl) (fun _ _ _ h => h) (yieldsIf_want rfl (fun w' hw' => ?y42)) hSwf ?_
    case y42 => first | (go_simp; rfl) | (go_simp; done) | rfl
    simp only [Act.put, List.setIfInBounds_toArray, List.set_cons_zero, List.set_cons_succ]
    refine wpAnyH_takeI (i := 20) (v := .bool false) rfl (by kernel_rfl) (by kernel_rfl) (by kernel_rfl) (fun _ _ _ h => h) (yieldsIf_run rfl (fun w' hw' => ?y43)) hSwf ?_
    case y43 => first | (go_simp; rfl) | (go_simp; done) | rfl
    simp only [Act.put, List.setIfInBounds_toArray, List.set_cons_zero, List.set_cons_succ]
    refine wpAnyH_takeI (i := 21) (v := ?v44) rfl (by kernel_rfl) (by kernel_rfl) (by kernel_rfl) (fun _ _ _ h => h) (yieldsIf_run rfl (fun w' hw' => ?y44)) hSwf ?_
    case y44 => first | (go_simp; rfl) | (go_simp; done) | rfl
    simp only [Act.put, List.setIfInBounds_toArray, List.set_cons_zero, List.set_cons_succ]
    refine wpAnyH_takeI (i := 22) (v := ?v45) rfl (by kernel_rfl) (by kernel_rfl) (by kernel_rfl) (fun _ _ _ h => h) (yieldsIf_want rfl (fun w' hw' => ?y45)) hSwf ?_
    case y45 => (obtain ⟨h0, h1, h2⟩ := HF.out w' hw'; clear hw'; first | (go_simp; rfl) | (go_simp; done))
    simp only [Act.put, List.setIfInBounds_toArray, List.set_cons_zero, List.set_cons_succ]
    refine wpAnyH_takeI (i := 24) (v := ?v46) rfl (by kernel_rfl) (by kernel_rfl) (by kernel_rfl) (fun _ _ _ h => h) (yieldsIf_want rfl (fun w' hw' => ?y46)) hSwf ?_
    case y46 => (obtain ⟨h0, h1, h2⟩ := HF.out w' hw'; clear hw'; first | (go_simp; rfl) | (go_simp; done))
    simp only [Act.put, List.setIfInBounds_toArray, List.set_cons_zero, List.set_cons_succ]
    refine wpAnyH_want (i := 23) (by kernel_rfl) rfl rfl (fun K hK => ?_)
    go_simp
    go_at_call 22
    refine (HLN.out _ hSwf).mono ?_
    rintro e wl ⟨rfl, hbwl⟩
    have hSwl := hSwf.trans (hbwl.mono hSwf.size)
    refine hK _ _ (hSwl) ?_
    clear hK K
    try simp only [Act.put, List.setIfInBounds_toArray, List.set_cons_zero, List.set_cons_succ]
    refine wpAnyH_takeI (i := 25) (v := .bool false) rfl (by kernel_rfl) (by kernel_rfl) (by kernel_rfl) (fun _ _ _ h => h) (yieldsIf_want rfl (fun w' hw' => ?y47)) hSwl ?_
    case y47 => first | (go_simp; rfl) | (go_simp; done) | rfl
    simp only [Act.put, List.setIfInBounds_toArray, List.set_cons_zero, List.set_cons_succ]
    refine wpAnyH_takeI (i := 26) (v := .bool false) rfl (by kernel_rfl) (by kernel_rfl) (by kernel_rfl) (fun _ _ _ h => h) (yieldsIf_run rfl (fun w' hw' => ?y48)) hSwl ?_
    case y48 => first | (go_simp; rfl) | (go_simp; done) | rfl
    simp only [Act.put, List.setIfInBounds_toArray, List.set_cons_zero, List.set_cons_succ]
    refine wpAnyH_done (by kernel_rfl) ?_ _
    refine NoPanic.normal ?_
    clear hzz hmm hff hgt hgt2 hwr hw0 hw1
    go_wp2_with fail
    rw [HQ3.out]
    change _ ∧ _
    refine ⟨?_, ?_⟩
    · (repeat apply Exists.intro)
      refine ⟨?_, rfl⟩
      have hbl := HBW.out.trans (hSwl.mono HBW.out.size)
      refine ⟨i + 1, D :: Ds, by rw [HN.out]; omega, by go_num, by rw [HNX.out]; exact HSW.out.below hSwl, (hSwl.block _ (Array.getElem?_eq_some_iff.1 H4W.out).1).trans H4W.out, (hSwl.block _ (Array.getElem?_eq_some_iff.1 H5W.out).1).trans H5W.out, HBX.out.trans (hbl.mono HBX.out.size), by rw [List.map_cons, HDV.out]; rfl, List.nodup_cons.2 ⟨fun hm => ?_, HND.out⟩, fun E hE => ?_⟩
      · have h1 := HDX.out D hm
        have := HWS.out
        have := HZ.out
        have := HZ6.out
        omega
      · rcases List.mem_cons.1 hE with rfl | hE
        · exact ⟨by have := HZ.out; have := HZ6.out; have := HBM.out; have := HBASE.out; have := (Array.getElem?_eq_some_iff.1 HX5.out).1; omega, (hSwl.block _ (Array.getElem?_eq_some_iff.1 HKD.out).1).trans HKD.out⟩
        · have h1 := HDX.out E hE
          exact ⟨h1.1, (hbl.block _ (Nat.lt_of_lt_of_le h1.2.1 HWS.out)).trans h1.2.2⟩
    · simp [intOf]
      omega
end Go.Proofs.Ytnmdgjodbikndaa
