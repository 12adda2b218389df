/- Records: descriptions of sectors; at most twelve of them; A region that draws its order: an operation whose guard is met (the kit's wpAnyH). No program in sight; Records: the law Joins. -/
import Derived.Test.YtloaenknhkfaeaaDoorRec24
import Derived.Test.YtloaenknhkfaeaaDoorRegion3
import Derived.Test.YtloaenknhkfaeaaDoorRegion2
namespace Go.Proofs.YtloaenknhkfaeaaDoor
open Go.RowKit
set_option linter.unusedVariables false
set_option linter.unusedSimpArgs false

/-- A description of a sector. -/
structure SecV where
  k : Nat
  p : PartD
  pa : Option Addr
  pc : Nat
  o : PartD
  oa : Option Addr
  oc : Nat
  at_ : Nat
  by_ : UInt8
  any : List UInt8
  aa : Option Addr
  ac : Nat
def SecV.cells (S : SecV) : List Value := [.int .u8 (S.k : Int), .int .i64 S.p.kind, .int .i64 S.p.gen, .int .i64 S.p.num, .int .i64 S.p.idx, .int .i64 S.p.cnt, .slice S.pa S.p.bytes.length S.pc, .int .i64 S.o.kind, .int .i64 S.o.gen, .int .i64 S.o.num, .int .i64 S.o.idx, .int .i64 S.o.cnt, .slice S.oa S.o.bytes.length S.oc, .int .u8 (S.at_ : Int), .int .u8 (S.by_.toNat : Int), .slice S.aa S.any.length S.ac]
structure SecV.At (S : SecV) (w : World) : Prop where
  k : S.k < 256
  p : BytesN w (fun _ => True) (.slice S.pa S.p.bytes.length S.pc) S.p.bytes
  pn : S.p.bytes.length ≤ 9223372036854775807
  o : BytesN w (fun _ => True) (.slice S.oa S.o.bytes.length S.oc) S.o.bytes
  on : S.o.bytes.length ≤ 9223372036854775807
  at_ : S.at_ < 256
  a : BytesN w (fun _ => True) (.slice S.aa S.any.length S.ac) S.any
  an : S.any.length ≤ 140737488351232
theorem SecV.At.below {S : SecV} {w w' : World} (h : S.At w) (hb : Below w.heap.size w w') : S.At w' := ⟨h.k, h.p.below hb, h.pn, h.o.below hb, h.on, h.at_, h.a.below hb, h.an⟩
def SecPost (w : World) : Ending → World → Prop := fun e w' => ∃ u L, e = .returned u ∧ L.length = 256 ∧ w'.ownsRow w.heap.size 5 1 u 256 (bvs L) ∧ Below w.heap.size w w'
theorem sector_at {w : World} (S : SecV) (h : S.At w) : Calls Tryd.prog 24 #[.agg S.cells.toArray] w (SecPost w) :=
  sector_any S.k h.k _ _ _ _ _ _ _ _ _ h.p h.pn _ _ _ _ _ _ _ _ _ h.o h.on S.at_ h.at_ S.by_ _ _ _ _ h.a h.an
/-- The slice value v reads as these descriptions. -/
structure DescsAt (w : World) (v : Value) (L : List SecV) : Prop where
  ex : ∃ a cap, v = .slice a L.length cap ∧ L.length ≤ cap ∧ cap ≤ maxLen ∧ (L ≠ [] → ∃ g off, a = some ⟨g, off, none⟩ ∧ g < w.heap.size ∧ ∀ i (h : i < L.length), w.rangeAt g (off + i * 16) L[i].cells ∧ L[i].At w)
theorem DescsAt.below {w w' : World} {v : Value} {L : List SecV} (h : DescsAt w v L) (hb : Below w.heap.size w w') : DescsAt w' v L := by
  obtain ⟨a, cap, e, h1, h1b, h2⟩ := h.ex
  refine ⟨a, cap, e, h1, h1b, fun hne => ?_⟩
  obtain ⟨g, off, e, hg, hx⟩ := h2 hne
  refine ⟨g, off, e, Nat.lt_of_lt_of_le hg hb.size, fun i hi => ?_⟩
  obtain ⟨h3, h4⟩ := hx i hi
  exact ⟨fun j u hu => (hb.cell (p := ⟨g, off + i * 16 + j, none⟩) hg).trans (h3 j u hu), h4.below hb⟩
theorem range16 {w : World} {g o : Nat} {v0 v1 v2 v3 v4 v5 v6 v7 v8 v9 v10 v11 v12 v13 v14 v15 : Value} (h : w.rangeAt g o [v0, v1, v2, v3, v4, v5, v6, v7, v8, v9, v10, v11, v12, v13, v14, v15]) :
    w.cell? ⟨g, o, none⟩ = some v0 ∧ w.cell? ⟨g, o + 1, none⟩ = some v1 ∧ w.cell? ⟨g, o + 2, none⟩ = some v2 ∧ w.cell? ⟨g, o + 3, none⟩ = some v3 ∧ w.cell? ⟨g, o + 4, none⟩ = some v4 ∧ w.cell? ⟨g, o + 5, none⟩ = some v5 ∧ w.cell? ⟨g, o + 6, none⟩ = some v6 ∧ w.cell? ⟨g, o + 7, none⟩ = some v7 ∧ w.cell? ⟨g, o + 8, none⟩ = some v8 ∧ w.cell? ⟨g, o + 9, none⟩ = some v9 ∧ w.cell? ⟨g, o + 10, none⟩ = some v10 ∧ w.cell? ⟨g, o + 11, none⟩ = some v11 ∧ w.cell? ⟨g, o + 12, none⟩ = some v12 ∧ w.cell? ⟨g, o + 13, none⟩ = some v13 ∧ w.cell? ⟨g, o + 14, none⟩ = some v14 ∧ w.cell? ⟨g, o + 15, none⟩ = some v15 :=
  ⟨h 0 _ rfl, h 1 _ rfl, h 2 _ rfl, h 3 _ rfl, h 4 _ rfl, h 5 _ rfl, h 6 _ rfl, h 7 _ rfl, h 8 _ rfl, h 9 _ rfl, h 10 _ rfl, h 11 _ rfl, h 12 _ rfl, h 13 _ rfl, h 14 _ rfl, h 15 _ rfl⟩

set_option maxRecDepth 100000 in
set_option maxHeartbeats 2000000 in
theorem sectors_any {w : World} (v : Value) (L : List SecV) (hv : DescsAt w v L) :
    Calls Tryd.prog 35 #[v] w fun e w' => ∃ u M, e = .returned u ∧ OwnSecs w' w.heap.size u M ∧ (∀ l ∈ M, l.length = 256) ∧ M.length ≤ 12 ∧ Below w.heap.size w w' := by
  obtain ⟨va, vc, rfl, hcap, hcm, hx⟩ := hv.ex
  obtain ⟨N, hN⟩ : ∃ N, L.length = N := ⟨_, rfl⟩
  rw [hN] at hcap ⊢
  have HV := Lib.hid hx
  have HN := Lib.hid hN
  have hNm : N ≤ maxLen := by omega
  unfold maxLen at hNm
  have hNI : (N : Int) ≤ 9223372036854775807 := by omega
  clear hv hx hN hcap hcm hNm
  go_enter Tryd.func35, Tryd.ntmps35
  go_wp2_with fail
  go_loopw [3, 4] (fun pv iv wr => ∃ (i : Nat) (M : List (List UInt8)), i ≤ N ∧ i ≤ 12 ∧ M.length = i ∧ iv = .int .i64 (i : Int) ∧ OwnSecs wr w.heap.size pv M ∧ (∀ l ∈ M, l.length = 256) ∧ Below w.heap.size w wr) (fun _ iv _ => 12 - (intOf iv).toNat)
  case atStart => exact ⟨0, [], Nat.zero_le _, Nat.zero_le _, rfl, rfl, ownSecs_nil _ _, by simp, Below.refl _ _⟩
  case round =>
    obtain ⟨i, M, hi, hi12, hM, rfl, hO, hAll, hB⟩ := hrel
    obtain ⟨pa, pc, rfl⟩ := hO.form
    rw [hM] at hO ⊢
    have HO := Lib.hid hO
    have HALL := Lib.hid hAll
    have HB := Lib.hid hB
    have HM := Lib.hid hM
    clear hO hAll hB hM
    by_cases hlt : i < N
    · have hiN : (i : Int) < (N : Int) := by omega
      by_cases hlt2 : i < 12
      · have hi2 : (i : Int) < 12 := by omega
        obtain ⟨S, hS⟩ : ∃ S, L[i]'(by rw [HN.out]; exact hlt) = S := ⟨_, rfl⟩
        obtain ⟨vg, vo, rfl, hvg, hx⟩ := HV.out (by intro e; have := HN.out; rw [e] at this; simp at this; omega)
        obtain ⟨hr, hat⟩ := hx i (by rw [HN.out]; exact hlt)
        rw [hS] at hr hat
        have hr2 : wr.rangeAt vg (vo + i * 16) S.cells := fun j u hu => (HB.out.cell (p := ⟨vg, vo + i * 16 + j, none⟩) hvg).trans (hr j u hu)
        obtain ⟨c0, c1, c2, c3, c4, c5, c6, c7, c8, c9, c10, c11, c12, c13, c14, c15⟩ := range16 hr2
        have hsc := sector_at S (hat.below HB.out)
        have HSC := Lib.hid hsc
        clear hsc hx hr hat hr2
        go_wp2_with fail
        refine HSC.out.mono ?_
        rintro e w3 ⟨u, l, rfl, hl, hu, hb3⟩
        obtain ⟨ua, uc, rfl⟩ := ownsRow_form hu
        have ho3 := HO.out.below hb3
        have hB3 := HB.out.trans (hb3.mono HB.out.size)
        have hu3 : w3.ownsRow w.heap.size 5 1 (.slice ua 256 uc) l.length (bvs l) := by rw [hl]; exact ownsRow_base hu HB.out.size
        have HO3 := Lib.hid ho3
        have HU3 := Lib.hid hu3
        have HB3 := Lib.hid hB3
        have HL := Lib.hid hl
        clear hu hb3 ho3 hu3 hB3 hl c0 c1 c2 c3 c4 c5 c6 c7 c8 c9 c10 c11 c12 c13 c14 c15
        go_wp2_with (at_builtin; refine wpList_appSec rfl (.tmp 15) (.tmp 21) rfl rfl HO3.out HU3.out rfl HM.out (by omega) HB3.out.size ?_)
        intro a' cap' w4 ho4 hb4
        have HO4 := Lib.hid ho4
        have HB4 := Lib.hid (HB3.out.trans hb4)
        clear ho4 hb4
        go_wp2_with fail
        go_roundw
        case rel => exact ⟨i + 1, M ++ [l], by omega, by omega, by rw [List.length_append, HM.out]; rfl, by go_num, HO4.out, (by
          intro x hx
          rcases List.mem_append.1 hx with h | h
          · exact HALL.out x h
          · obtain rfl := List.mem_singleton.1 h
            exact HL.out), HB4.out⟩
        case measure => simp [intOf]; omega
      · go_wp2_with fail
        go_ret
        exact ⟨_, M, rfl, HO.out, HALL.out, by have := HM.out; omega, HB.out⟩
    · go_wp2_with fail
      go_ret
      exact ⟨_, M, rfl, HO.out, HALL.out, by have := HM.out; omega, HB.out⟩

end Go.Proofs.YtloaenknhkfaeaaDoor

namespace Go.Proofs.YtloaenknhkfaeaaDoor
open Go

section
variable {P : Program} {ops : Array Oper} {Q : Exit → Act → World → Prop} {md : Region.Mode} {S : World → Prop}
theorem wpAnyH_want {i : Nat} {oi : Oper} {fuel : Nat} {listed : Array Bool} {a : Act} {w : World} (hr : Region.ready md ops listed = [i]) (hi' : ops.toList[i]? = some oi) (hw : Region.wanted oi (yielded ops a.tmps) = true)
    (h : ∀ K : Act → World → Prop, (∀ a' w', S w' → wpAnyH P md ops Q S fuel (listed.setIfInBounds i true) a' w' → K a' w') → oi.wp P a w K Q) : wpAnyH P md ops Q S (fuel + 1) listed a w := by
  have hi : ops[i]? = some oi := by simpa using hi'
  refine wpAnyH_all hr (by simp) fun j hj => ?_
  obtain rfl := List.mem_singleton.1 hj
  unfold wpOp
  simp only [hi]
  rw [if_pos hw]
  exact .inl (h _ (fun a' w' h1 h2 => ⟨h1, h2⟩))
end

end Go.Proofs.YtloaenknhkfaeaaDoor

namespace Go.Proofs.YtloaenknhkfaeaaDoor
open Go.RowKit

theorem rEqual_same {w : World} {F G : Nat → Prop} (x0 x1 x2 : Int) (a b : Option Addr) (n c m d : Nat) (l : List UInt8) (hv : BytesAt w F (.slice a n c) l) (hu : BytesAt w G (.slice b m d) l) :
    Calls Tryd.prog 37 #[.agg #[.int .i64 x0, .int .i64 x1, .int .i64 x2, .slice a n c], .agg #[.int .i64 x0, .int .i64 x1, .int .i64 x2, .slice b m d]] w fun e w' => e = .returned (.bool true) ∧ Below w.heap.size w w' := by
  have h := rEqual_any x0 x1 x2 x0 x1 x2 a b n c m d l l hv hu
  simpa using h

theorem JoinPost.parts {w w' : World} {L : List (List UInt8)} {e : Ending} (h : JoinPost w L e w') : ∃ a c, e = .returned (.tuple #[.agg #[.int .i64 (joinL L).1.kind, .int .i64 (joinL L).1.gen, .int .i64 (joinL L).1.num, .slice a (joinL L).1.load.length c], .int .i64 ((joinL L).2.1 : Int), .int .i64 (joinL L).2.2]) ∧
    w'.ownsRow w.heap.size 5 1 (.slice a (joinL L).1.load.length c) (joinL L).1.load.length (bvs (joinL L).1.load) ∧ Below w.heap.size w w' := h

set_option maxRecDepth 100000 in
set_option maxHeartbeats 2000000 in
theorem RecordJoins_any {w : World} (v : Value) (L : List SecV) (hv : DescsAt w v L) (hK : KAt w) :
    Calls Tryd.prog 9 #[v] w fun e w' => e = .returned (.bool true) ∧ Below w.heap.size w w' := by
  have hsc := sectors_any v L hv
  obtain ⟨va, vc, rfl, _⟩ := hv.ex
  have HSC := Lib.hid hsc
  have HK := Lib.hid hK
  clear hsc hv hK
  go_enter Tryd.func9, Tryd.ntmps9
  go_wp2_with fail
  refine HSC.out.mono ?_
  rintro e w1 ⟨u, M, rfl, ho1, _, hM, hb1⟩
  obtain ⟨ua, uc, rfl⟩ := ho1.form
  have hj := Join_any M _ ho1.secs (by omega) (HK.out.below hb1 HK.out.size)
  have HO1 := Lib.hid ho1
  have HB1 := Lib.hid hb1
  have HJ := Lib.hid hj
  clear hj ho1 hb1
  go_wp2_with fail
  refine HJ.out.mono ?_
  intro e w2 hj2
  obtain ⟨a2, c2, rfl, hr2, hb2⟩ := hj2.parts
  obtain ⟨r, hr⟩ : ∃ r, (joinL M).1 = r := ⟨_, rfl⟩
  obtain ⟨m, hm⟩ : ∃ m, (joinL M).2.1 = m := ⟨_, rfl⟩
  obtain ⟨E, hE⟩ : ∃ E, (joinL M).2.2 = E := ⟨_, rfl⟩
  rw [hr, hm, hE]
  rw [hr] at hr2
  obtain ⟨N, hN⟩ : ∃ N, r.load.length = N := ⟨_, rfl⟩
  rw [hN] at hr2 ⊢
  obtain ⟨w3, hw3⟩ : ∃ w3, w2.alloc (.cells #[.int .i64 r.kind, .int .i64 r.gen, .int .i64 r.num, .slice a2 N c2] 50) = w3 := ⟨_, rfl⟩
  have hb3 : Below w2.heap.size w2 w3 := hw3 ▸ (Below.refl _ _).alloc (Nat.le_refl _) _
  have hx3 : w3.heap[w2.heap.size]? = some (.cells #[.int .i64 r.kind, .int .i64 r.gen, .int .i64 r.num, .slice a2 N c2] 50 (0, 0)) := by rw [← hw3]; exact heap_alloc_new _ _
  have hbd3 := HB1.out.trans ((hb2.trans (hb3.mono hb2.size)).mono HB1.out.size)
  have ho3 := (HO1.out.below hb2).below hb3
  have hj := rJoin_any M _ ho3.secs (by omega)
  have HJ2 := Lib.hid hj
  have HR3 := Lib.hid (own_kept hr2 hb3)
  have HX3 := Lib.hid hx3
  have HW3 := Lib.hid hw3
  have HB3 := Lib.hid hbd3
  have HRR := Lib.hid hr
  have HMM := Lib.hid hm
  have HEE := Lib.hid hE
  have HN := Lib.hid hN
  clear hj2 hr hm hE hN hr2 hw3 hb3 hx3 hbd3 ho3 hj hb2
  go_wp2_with fail
  rw [HW3.out]
  refine HJ2.out.mono ?_
  intro e w4 hj4
  obtain ⟨a4, c4, rfl, hr4, hb4⟩ := hj4.parts
  rw [HRR.out, HMM.out, HEE.out, HN.out]
  rw [HRR.out, HN.out] at hr4
  obtain ⟨w5, hw5⟩ : ∃ w5, w4.alloc (.cells #[.int .i64 r.kind, .int .i64 r.gen, .int .i64 r.num, .slice a4 N c4] 49) = w5 := ⟨_, rfl⟩
  have hb5 : Below w4.heap.size w4 w5 := hw5 ▸ (Below.refl _ _).alloc (Nat.le_refl _) _
  have hx5 : w5.heap[w4.heap.size]? = some (.cells #[.int .i64 r.kind, .int .i64 r.gen, .int .i64 r.num, .slice a4 N c4] 49 (0, 0)) := by rw [← hw5]; exact heap_alloc_new _ _
  have hx35 := (hb5.block _ (Nat.lt_of_lt_of_le (Array.getElem?_eq_some_iff.1 HX3.out).1 hb4.size)).trans ((hb4.block _ (Array.getElem?_eq_some_iff.1 HX3.out).1).trans HX3.out)
  have hlt5 := (Array.getElem?_eq_some_iff.1 hx5).1
  have hlt35 := (Array.getElem?_eq_some_iff.1 hx35).1
  have hcell : ∀ w' : World, Below w5.heap.size w5 w' → w'.cell? ⟨w2.heap.size, 0, none⟩ = some (.int .i64 r.kind) ∧ w'.cell? ⟨w2.heap.size, 1, none⟩ = some (.int .i64 r.gen) ∧ w'.cell? ⟨w2.heap.size, 2, none⟩ = some (.int .i64 r.num) ∧ w'.cell? ⟨w2.heap.size, 3, none⟩ = some (.slice a2 N c2) ∧
      w'.cell? ⟨w4.heap.size, 0, none⟩ = some (.int .i64 r.kind) ∧ w'.cell? ⟨w4.heap.size, 1, none⟩ = some (.int .i64 r.gen) ∧ w'.cell? ⟨w4.heap.size, 2, none⟩ = some (.int .i64 r.num) ∧ w'.cell? ⟨w4.heap.size, 3, none⟩ = some (.slice a4 N c4) := by
    intro w' hb
    have h0 := (hb.block w2.heap.size hlt35).trans hx35
    have h1 := (hb.block w4.heap.size hlt5).trans hx5
    refine ⟨?_, ?_, ?_, ?_, ?_, ?_, ?_, ?_⟩ <;> first | (rw [cell_of_row _ _ _ _ _ _ h0]; rfl) | (rw [cell_of_row _ _ _ _ _ _ h1]; rfl)
  have hbd5 := HB3.out.trans ((hb4.trans (hb5.mono hb4.size)).mono HB3.out.size)
  have HP := Lib.hid (own_bytes (own_kept (own_kept HR3.out hb4) hb5))
  have HQ := Lib.hid (own_bytes (own_kept hr4 hb5))
  have HCELL := Lib.hid hcell
  have HW5 := Lib.hid hw5
  have HB5 := Lib.hid hbd5
  have hmI : (m : Int) == (m : Int) := by simp
  clear hj4 hr4 hw5 hb5 hx5 hx35 hlt5 hlt35 hcell hbd5 hb4 HJ HJ2 HSC
  go_wp2_with fail
  rw [HW5.out]
  refine wp_region_noPanic ?_
  refine wp_region_H (Below w5.heap.size w5) (by kernel_rfl) ?_
  have hS0 : (Below w5.heap.size w5) w5.drew := (Below.refl _ _).drew
  obtain ⟨wd, hwd⟩ : ∃ wd, w5.drew = wd := ⟨_, rfl⟩
  rw [hwd] at hS0 ⊢
  clear hwd
  refine wpAnyH_do (i := 0) (by kernel_rfl) rfl rfl (fun K hK => ?_)
  go_simp
  go_at_call 18
  refine (known_any (HK.out.below (HB5.out.trans (hS0.mono HB5.out.size)) HK.out.size)).mono ?_
  rintro e w6 ⟨rfl, hb6⟩
  have hS1 := hS0.trans (hb6.mono hS0.size)
  refine hK _ _ (hS1) ?_
  clear hK K
  try simp only [Act.put, List.setIfInBounds_toArray, List.set_cons_zero, List.set_cons_succ]
  refine wpAnyH_takeI (i := 1) (v := ?v1) rfl (by kernel_rfl) (by kernel_rfl) (by kernel_rfl) (fun _ _ _ h => h) (yieldsIf_run rfl (fun w' hw' => ?y1)) hS1 ?_
  case y1 => first | (go_simp; rfl) | (go_simp; done) | rfl
  simp only [Act.put, List.setIfInBounds_toArray, List.set_cons_zero, List.set_cons_succ]
  refine wpAnyH_takeI (i := 2) (v := ?v2) rfl (by kernel_rfl) (by kernel_rfl) (by kernel_rfl) (fun _ _ _ h => h) (yieldsIf_want rfl (fun w' hw' => ?y2)) hS1 ?_
  case y2 => (obtain ⟨z0, z1, z2, z3, z4, z5, z6, z7⟩ := HCELL.out w' hw'; clear hw'; first | (go_simp; rfl) | (go_simp; done))
  simp only [Act.put, List.setIfInBounds_toArray, List.set_cons_zero, List.set_cons_succ]
  refine wpAnyH_takeI (i := 4) (v := ?v3) rfl (by kernel_rfl) (by kernel_rfl) (by kernel_rfl) (fun _ _ _ h => h) (yieldsIf_want rfl (fun w' hw' => ?y3)) hS1 ?_
  case y3 => (obtain ⟨z0, z1, z2, z3, z4, z5, z6, z7⟩ := HCELL.out w' hw'; clear hw'; first | (go_simp; rfl) | (go_simp; done))
  simp only [Act.put, List.setIfInBounds_toArray, List.set_cons_zero, List.set_cons_succ]
  refine wpAnyH_want (i := 3) (by kernel_rfl) rfl rfl (fun K hK => ?_)
  go_simp
  go_at_call 30
  refine (to_any r.kind r.gen r.num a2 N c2 w6).mono ?_
  rintro e w7 ⟨rfl, hb7⟩
  have hS2 := hS1.trans (hb7.mono hS1.size)
  refine hK _ _ (hS2) ?_
  clear hK K
  try simp only [Act.put, List.setIfInBounds_toArray, List.set_cons_zero, List.set_cons_succ]
  refine wpAnyH_want (i := 5) (by kernel_rfl) rfl rfl (fun K hK => ?_)
  go_simp
  go_at_call 37
  refine (rEqual_same r.kind r.gen r.num a2 a4 N c2 N c4 r.load (HP.out.below hS2) (HQ.out.below hS2)).mono ?_
  rintro e w8 ⟨rfl, hb8⟩
  have hS3 := hS2.trans (hb8.mono hS2.size)
  refine hK _ _ (hS3) ?_
  clear hK K
  try simp only [Act.put, List.setIfInBounds_toArray, List.set_cons_zero, List.set_cons_succ]
  refine wpAnyH_takeI (i := 6) (v := ?v4) rfl (by kernel_rfl) (by kernel_rfl) (by kernel_rfl) (fun _ _ _ h => h) (yieldsIf_run rfl (fun w' hw' => ?y4)) hS3 ?_
  case y4 => first | (go_simp; rfl) | (go_simp; done) | rfl
  simp only [Act.put, List.setIfInBounds_toArray, List.set_cons_zero, List.set_cons_succ]
  refine wpAnyH_takeI (i := 7) (v := ?v5) rfl (by kernel_rfl) (by kernel_rfl) (by kernel_rfl) (fun _ _ _ h => h) (yieldsIf_run rfl (fun w' hw' => ?y5)) hS3 ?_
  case y5 => first | (go_simp; rfl) | (go_simp; done) | rfl
  simp only [Act.put, List.setIfInBounds_toArray, List.set_cons_zero, List.set_cons_succ]
  refine wpAnyH_takeI (i := 8) (v := ?v6) rfl (by kernel_rfl) (by kernel_rfl) (by kernel_rfl) (fun _ _ _ h => h) (yieldsIf_want rfl (fun w' hw' => ?y6)) hS3 ?_
  case y6 => first | (go_simp; rfl) | (go_simp; done) | rfl
  simp only [Act.put, List.setIfInBounds_toArray, List.set_cons_zero, List.set_cons_succ]
  refine wpAnyH_takeI (i := 9) (v := ?v7) rfl (by kernel_rfl) (by kernel_rfl) (by kernel_rfl) (fun _ _ _ h => h) (yieldsIf_want rfl (fun w' hw' => ?y7)) hS3 ?_
  case y7 => first | (go_simp; rfl) | (go_simp; done) | rfl
  simp only [Act.put, List.setIfInBounds_toArray, List.set_cons_zero, List.set_cons_succ]
  refine wpAnyH_takeI (i := 10) (v := ?v8) rfl (by kernel_rfl) (by kernel_rfl) (by kernel_rfl) (fun _ _ _ h => h) (yieldsIf_want rfl (fun w' hw' => ?y8)) hS3 ?_
  case y8 => first | (go_simp; rfl) | (go_simp; done) | rfl
  simp only [Act.put, List.setIfInBounds_toArray, List.set_cons_zero, List.set_cons_succ]
  refine wpAnyH_takeI (i := 11) (v := ?v9) rfl (by kernel_rfl) (by kernel_rfl) (by kernel_rfl) (fun _ _ _ h => h) (yieldsIf_run rfl (fun w' hw' => ?y9)) hS3 ?_
  case y9 => first | (go_simp; rfl) | (go_simp; done) | rfl
  simp only [Act.put, List.setIfInBounds_toArray, List.set_cons_zero, List.set_cons_succ]
  refine wpAnyH_takeI (i := 12) (v := ?v10) rfl (by kernel_rfl) (by kernel_rfl) (by kernel_rfl) (fun _ _ _ h => h) (yieldsIf_run rfl (fun w' hw' => ?y10)) hS3 ?_
  case y10 => first | (go_simp; rfl) | (go_simp; done) | rfl
  simp only [Act.put, List.setIfInBounds_toArray, List.set_cons_zero, List.set_cons_succ]
  refine wpAnyH_takeI (i := 13) (v := ?v11) rfl (by kernel_rfl) (by kernel_rfl) (by kernel_rfl) (fun _ _ _ h => h) (yieldsIf_want rfl (fun w' hw' => ?y11)) hS3 ?_
  case y11 => first | (go_simp; rfl) | (go_simp; done) | rfl
  simp only [Act.put, List.setIfInBounds_toArray, List.set_cons_zero, List.set_cons_succ]
  refine wpAnyH_takeI (i := 14) (v := ?v12) rfl (by kernel_rfl) (by kernel_rfl) (by kernel_rfl) (fun _ _ _ h => h) (yieldsIf_want rfl (fun w' hw' => ?y12)) hS3 ?_
  case y12 => first | (go_simp; rfl) | (go_simp; done) | rfl
  simp only [Act.put, List.setIfInBounds_toArray, List.set_cons_zero, List.set_cons_succ]
  refine wpAnyH_takeI (i := 15) (v := ?v13) rfl (by kernel_rfl) (by kernel_rfl) (by kernel_rfl) (fun _ _ _ h => h) (yieldsIf_want rfl (fun w' hw' => ?y13)) hS3 ?_
  case y13 => first | (go_simp; rfl) | (go_simp; done) | rfl
  simp only [Act.put, List.setIfInBounds_toArray, List.set_cons_zero, List.set_cons_succ]
  refine wpAnyH_takeI (i := 16) (v := ?v14) rfl (by kernel_rfl) (by kernel_rfl) (by kernel_rfl) (fun _ _ _ h => h) (yieldsIf_run rfl (fun w' hw' => ?y14)) hS3 ?_
  case y14 => first | (go_simp; rfl) | (go_simp; done) | rfl
  simp only [Act.put, List.setIfInBounds_toArray, List.set_cons_zero, List.set_cons_succ]
  refine wpAnyH_takeI (i := 17) (v := ?v15) rfl (by kernel_rfl) (by kernel_rfl) (by kernel_rfl) (fun _ _ _ h => h) (yieldsIf_run rfl (fun w' hw' => ?y15)) hS3 ?_
  case y15 => first | (go_simp; rfl) | (go_simp; done) | rfl
  simp only [Act.put, List.setIfInBounds_toArray, List.set_cons_zero, List.set_cons_succ]
  refine wpAnyH_done (by kernel_rfl) ?_ _
  refine NoPanic.normal ?_
  go_wp2_with fail
  go_ret
  exact ⟨rfl, HB5.out.trans (hS3.mono HB5.out.size)⟩

end Go.Proofs.YtloaenknhkfaeaaDoor
