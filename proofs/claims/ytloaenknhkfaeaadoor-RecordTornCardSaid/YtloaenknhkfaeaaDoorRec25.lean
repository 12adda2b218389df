/- Records: descriptions of sectors; at most twelve of them. -/
import Derived.Test.YtloaenknhkfaeaaDoorRec24
namespace Go.Proofs.YtloaenknhkfaeaaDoor
open Go.RowKit
set_option linter.unusedVariables false
set_option linter.unusedSimpArgs false

/-- A description of a sector. -/
structure SecV where
  k : Nat
  p : PartD
  pa : Option Addr
  pc : Nat
  o : PartD
  oa : Option Addr
  oc : Nat
  at_ : Nat
  by_ : UInt8
  any : List UInt8
  aa : Option Addr
  ac : Nat
def SecV.cells (S : SecV) : List Value := [.int .u8 (S.k : Int), .int .i64 S.p.kind, .int .i64 S.p.gen, .int .i64 S.p.num, .int .i64 S.p.idx, .int .i64 S.p.cnt, .slice S.pa S.p.bytes.length S.pc, .int .i64 S.o.kind, .int .i64 S.o.gen, .int .i64 S.o.num, .int .i64 S.o.idx, .int .i64 S.o.cnt, .slice S.oa S.o.bytes.length S.oc, .int .u8 (S.at_ : Int), .int .u8 (S.by_.toNat : Int), .slice S.aa S.any.length S.ac]
structure SecV.At (S : SecV) (w : World) : Prop where
  k : S.k < 256
  p : BytesN w (fun _ => True) (.slice S.pa S.p.bytes.length S.pc) S.p.bytes
  pn : S.p.bytes.length ≤ 9223372036854775807
  o : BytesN w (fun _ => True) (.slice S.oa S.o.bytes.length S.oc) S.o.bytes
  on : S.o.bytes.length ≤ 9223372036854775807
  at_ : S.at_ < 256
  a : BytesN w (fun _ => True) (.slice S.aa S.any.length S.ac) S.any
  an : S.any.length ≤ 140737488351232
theorem SecV.At.below {S : SecV} {w w' : World} (h : S.At w) (hb : Below w.heap.size w w') : S.At w' := ⟨h.k, h.p.below hb, h.pn, h.o.below hb, h.on, h.at_, h.a.below hb, h.an⟩
def SecPost (w : World) : Ending → World → Prop := fun e w' => ∃ u L, e = .returned u ∧ L.length = 256 ∧ w'.ownsRow w.heap.size 5 1 u 256 (bvs L) ∧ Below w.heap.size w w'
theorem sector_at {w : World} (S : SecV) (h : S.At w) : Calls Tryd.prog 24 #[.agg S.cells.toArray] w (SecPost w) :=
  sector_any S.k h.k _ _ _ _ _ _ _ _ _ h.p h.pn _ _ _ _ _ _ _ _ _ h.o h.on S.at_ h.at_ S.by_ _ _ _ _ h.a h.an
/-- The slice value v reads as these descriptions. -/
structure DescsAt (w : World) (v : Value) (L : List SecV) : Prop where
  ex : ∃ a cap, v = .slice a L.length cap ∧ L.length ≤ cap ∧ cap ≤ maxLen ∧ (L ≠ [] → ∃ g off, a = some ⟨g, off, none⟩ ∧ g < w.heap.size ∧ ∀ i (h : i < L.length), w.rangeAt g (off + i * 16) L[i].cells ∧ L[i].At w)
theorem DescsAt.below {w w' : World} {v : Value} {L : List SecV} (h : DescsAt w v L) (hb : Below w.heap.size w w') : DescsAt w' v L := by
  obtain ⟨a, cap, e, h1, h1b, h2⟩ := h.ex
  refine ⟨a, cap, e, h1, h1b, fun hne => ?_⟩
  obtain ⟨g, off, e, hg, hx⟩ := h2 hne
  refine ⟨g, off, e, Nat.lt_of_lt_of_le hg hb.size, fun i hi => ?_⟩
  obtain ⟨h3, h4⟩ := hx i hi
  exact ⟨fun j u hu => (hb.cell (p := ⟨g, off + i * 16 + j, none⟩) hg).trans (h3 j u hu), h4.below hb⟩
theorem range16 {w : World} {g o : Nat} {v0 v1 v2 v3 v4 v5 v6 v7 v8 v9 v10 v11 v12 v13 v14 v15 : Value} (h : w.rangeAt g o [v0, v1, v2, v3, v4, v5, v6, v7, v8, v9, v10, v11, v12, v13, v14, v15]) :
    w.cell? ⟨g, o, none⟩ = some v0 ∧ w.cell? ⟨g, o + 1, none⟩ = some v1 ∧ w.cell? ⟨g, o + 2, none⟩ = some v2 ∧ w.cell? ⟨g, o + 3, none⟩ = some v3 ∧ w.cell? ⟨g, o + 4, none⟩ = some v4 ∧ w.cell? ⟨g, o + 5, none⟩ = some v5 ∧ w.cell? ⟨g, o + 6, none⟩ = some v6 ∧ w.cell? ⟨g, o + 7, none⟩ = some v7 ∧ w.cell? ⟨g, o + 8, none⟩ = some v8 ∧ w.cell? ⟨g, o + 9, none⟩ = some v9 ∧ w.cell? ⟨g, o + 10, none⟩ = some v10 ∧ w.cell? ⟨g, o + 11, none⟩ = some v11 ∧ w.cell? ⟨g, o + 12, none⟩ = some v12 ∧ w.cell? ⟨g, o + 13, none⟩ = some v13 ∧ w.cell? ⟨g, o + 14, none⟩ = some v14 ∧ w.cell? ⟨g, o + 15, none⟩ = some v15 :=
  ⟨h 0 _ rfl, h 1 _ rfl, h 2 _ rfl, h 3 _ rfl, h 4 _ rfl, h 5 _ rfl, h 6 _ rfl, h 7 _ rfl, h 8 _ rfl, h 9 _ rfl, h 10 _ rfl, h 11 _ rfl, h 12 _ rfl, h 13 _ rfl, h 14 _ rfl, h 15 _ rfl⟩

set_option maxRecDepth 100000 in
set_option maxHeartbeats 2000000 in
theorem sectors_any {w : World} (v : Value) (L : List SecV) (hv : DescsAt w v L) :
    Calls Tryd.prog 35 #[v] w fun e w' => ∃ u M, e = .returned u ∧ OwnSecs w' w.heap.size u M ∧ (∀ l ∈ M, l.length = 256) ∧ M.length ≤ 12 ∧ Below w.heap.size w w' := by
  obtain ⟨va, vc, rfl, hcap, hcm, hx⟩ := hv.ex
  obtain ⟨N, hN⟩ : ∃ N, L.length = N := ⟨_, rfl⟩
  rw [hN] at hcap ⊢
  have HV := Lib.hid hx
  have HN := Lib.hid hN
  have hNm : N ≤ maxLen := by omega
  unfold maxLen at hNm
  have hNI : (N : Int) ≤ 9223372036854775807 := by omega
  clear hv hx hN hcap hcm hNm
  go_enter Tryd.func35, Tryd.ntmps35
  go_wp2_with fail
  go_loopw [3, 4] (fun pv iv wr => ∃ (i : Nat) (M : List (List UInt8)), i ≤ N ∧ i ≤ 12 ∧ M.length = i ∧ iv = .int .i64 (i : Int) ∧ OwnSecs wr w.heap.size pv M ∧ (∀ l ∈ M, l.length = 256) ∧ Below w.heap.size w wr) (fun _ iv _ => 12 - (intOf iv).toNat)
  case atStart => exact ⟨0, [], Nat.zero_le _, Nat.zero_le _, rfl, rfl, ownSecs_nil _ _, by simp, Below.refl _ _⟩
  case round =>
    obtain ⟨i, M, hi, hi12, hM, rfl, hO, hAll, hB⟩ := hrel
    obtain ⟨pa, pc, rfl⟩ := hO.form
    rw [hM] at hO ⊢
    have HO := Lib.hid hO
    have HALL := Lib.hid hAll
    have HB := Lib.hid hB
    have HM := Lib.hid hM
    clear hO hAll hB hM
    by_cases hlt : i < N
    · have hiN : (i : Int) < (N : Int) := by omega
      by_cases hlt2 : i < 12
      · have hi2 : (i : Int) < 12 := by omega
        obtain ⟨S, hS⟩ : ∃ S, L[i]'(by rw [HN.out]; exact hlt) = S := ⟨_, rfl⟩
        obtain ⟨vg, vo, rfl, hvg, hx⟩ := HV.out (by intro e; have := HN.out; rw [e] at this; simp at this; omega)
        obtain ⟨hr, hat⟩ := hx i (by rw [HN.out]; exact hlt)
        rw [hS] at hr hat
        have hr2 : wr.rangeAt vg (vo + i * 16) S.cells := fun j u hu => (HB.out.cell (p := ⟨vg, vo + i * 16 + j, none⟩) hvg).trans (hr j u hu)
        obtain ⟨c0, c1, c2, c3, c4, c5, c6, c7, c8, c9, c10, c11, c12, c13, c14, c15⟩ := range16 hr2
        have hsc := sector_at S (hat.below HB.out)
        have HSC := Lib.hid hsc
        clear hsc hx hr hat hr2
        go_wp2_with fail
        refine HSC.out.mono ?_
        rintro e w3 ⟨u, l, rfl, hl, hu, hb3⟩
        obtain ⟨ua, uc, rfl⟩ := ownsRow_form hu
        have ho3 := HO.out.below hb3
        have hB3 := HB.out.trans (hb3.mono HB.out.size)
        have hu3 : w3.ownsRow w.heap.size 5 1 (.slice ua 256 uc) l.length (bvs l) := by rw [hl]; exact ownsRow_base hu HB.out.size
        have HO3 := Lib.hid ho3
        have HU3 := Lib.hid hu3
        have HB3 := Lib.hid hB3
        have HL := Lib.hid hl
        clear hu hb3 ho3 hu3 hB3 hl c0 c1 c2 c3 c4 c5 c6 c7 c8 c9 c10 c11 c12 c13 c14 c15
        go_wp2_with (at_builtin; refine wpList_appSec rfl (.tmp 15) (.tmp 21) rfl rfl HO3.out HU3.out rfl HM.out (by omega) HB3.out.size ?_)
        intro a' cap' w4 ho4 hb4
        have HO4 := Lib.hid ho4
        have HB4 := Lib.hid (HB3.out.trans hb4)
        clear ho4 hb4
        go_wp2_with fail
        go_roundw
        case rel => exact ⟨i + 1, M ++ [l], by omega, by omega, by rw [List.length_append, HM.out]; rfl, by go_num, HO4.out, (by
          intro x hx
          rcases List.mem_append.1 hx with h | h
          · exact HALL.out x h
          · obtain rfl := List.mem_singleton.1 h
            exact HL.out), HB4.out⟩
        case measure => simp [intOf]; omega
      · go_wp2_with fail
        go_ret
        exact ⟨_, M, rfl, HO.out, HALL.out, by have := HM.out; omega, HB.out⟩
    · go_wp2_with fail
      go_ret
      exact ⟨_, M, rfl, HO.out, HALL.out, by have := HM.out; omega, HB.out⟩

end Go.Proofs.YtloaenknhkfaeaaDoor
