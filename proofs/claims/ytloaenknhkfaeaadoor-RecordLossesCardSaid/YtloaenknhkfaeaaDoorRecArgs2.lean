/- How an argument's reading opens: bytes, parts, records; What the laid table gives the walks; the door's own heap meets the condition; How an argument's reading opens: descriptions of sectors; how long their bytes may be. -/
import Derived.Test.YtloaenknhkfaeaaDoorRec12
import Derived.Test.YtloaenknhkfaeaaDoorRow
import Derived.ProofKit
import Derived.OpenShut
import Derived.Deep.Slices
import Derived.Test.YtloaenknhkfaeaaDoorRows
import Derived.Test.YtloaenknhkfaeaaDoorSha2
import Derived.WalkKit
import Derived.LaidMore
import Derived.Stop.Joined
import Derived.Lib.LaidTab
import Derived.Test.YtloaenknhkfaeaaDoorRec26
import Derived.SizedLaws
namespace Go.Proofs.YtloaenknhkfaeaaDoor
open Go.RowKit Go.ChangeShapes Go.WideShapes Go.ChangeAt Go.Deep
set_option linter.unusedVariables false
set_option linter.unusedSimpArgs false

theorem cellsOf_u8 : Tryd.prog.cellsOf 5 = 1 := by kernel_rfl
theorem cellsOf_int : Tryd.prog.cellsOf 3 = 1 := by kernel_rfl
theorem cellsOf_bytes : Tryd.prog.cellsOf 22 = 1 := by kernel_rfl
theorem cellsOf_Part : Tryd.prog.cellsOf 24 = 6 := by kernel_rfl
theorem cellsOf_Record : Tryd.prog.cellsOf 49 = 4 := by kernel_rfl

section
variable {H : Type} {enc : TypeId × Value → H} {w : World} {base : Nat} {sp : Nat → Bool} {held : Bool} {fuel : Nat}

theorem trod_u8 {v : Value} {x : DataW H × List MemPlace}
    (h : DataW.trod enc Tryd.prog w base sp held fuel 5 [v] = some x) : ∃ b : UInt8, v = bv b := by
  obtain ⟨n, e, _, hw⟩ := DataW.trod_int Tryd.underlying5 h
  have hb : 0 ≤ n ∧ n ≤ 255 := bounds_u8 hw
  obtain ⟨k, rfl⟩ := Int.eq_ofNat_of_zero_le hb.1
  refine ⟨UInt8.ofNat k, ?_⟩
  have : v = .int .u8 (k : Int) := by simpa using e
  rw [this]
  unfold bv
  simp only [UInt8.toNat_ofNat']
  rw [Nat.mod_eq_of_lt (by omega)]

theorem trod_i64 {v : Value} {x : DataW H × List MemPlace}
    (h : DataW.trod enc Tryd.prog w base sp held fuel 3 [v] = some x) : ∃ n : Int, v = .int .i64 n ∧ -9223372036854775808 ≤ n ∧ n ≤ 9223372036854775807 := by
  obtain ⟨n, e, _, hw⟩ := DataW.trod_int Tryd.underlying3 h
  exact ⟨n, by simpa using e, bounds_i64 hw⟩

theorem trod_bytesN {v : Value} {x : DataW H × List MemPlace}
    (h : DataW.trod enc Tryd.prog w base sp held fuel 22 [v] = some x) : ∃ a len cap l, v = .slice a len cap ∧ l.length = len ∧ len ≤ maxLen ∧ BytesN w (fun _ => True) v l := by
  rcases open_slice1 Tryd.underlying22 cellsOf_u8 h with ⟨hcs, _⟩ | ⟨a, len, cap, m, n, V, D, Pl, hcs, _, hl, hcm, hm, _, hx⟩
  · simp only [List.cons.injEq, and_true] at hcs
    subst hcs
    exact ⟨none, 0, 0, [], rfl, rfl, Nat.zero_le _, bytesAt_nil _ _, fun k c e => by cases e; rfl⟩
  · simp only [List.cons.injEq, and_true] at hcs
    subst hcs
    have hml : len ≤ m := by rw [hm]; split <;> omega
    obtain ⟨B, hB⟩ := choose_lt (α := UInt8) (p := fun i b => V i = bv b) (n := len) (fun i hi => trod_u8 (hx i (Nat.lt_of_lt_of_le hi hml)).2)
    have hlen : ((List.range len).map B).length = len := by simp
    refine ⟨some a, len, cap, (List.range len).map B, rfl, hlen, by omega, ⟨some a, cap, by rw [hlen], by rw [hlen]; exact hl, fun hne => ?_⟩, fun k c e => by cases e⟩
    have hpos : 0 < len := by
      rcases Nat.eq_zero_or_pos len with h0 | h0
      · subst h0; exact absurd rfl hne
      · exact h0
    obtain ⟨g, off, spot⟩ := a
    have h0 := (hx 0 (by omega)).1
    have hspot : spot = none := by simpa [Addr.add] using World.cell?_spot h0
    subst hspot
    refine ⟨g, off, rfl, trivial, ?_, ?_⟩
    · have := World.block_lt_of_cell? w _ h0
      simpa [Addr.add] using this
    · intro j u hj
      have hjl : j < len := by have := (List.getElem?_eq_some_iff.1 hj).1; simpa using this
      have h1 := (hx j (Nat.lt_of_lt_of_le hjl hml)).1
      have hadd : (⟨g, off, none⟩ : Addr).add j = ⟨g, off + j, none⟩ := by unfold Addr.add; split <;> simp_all
      rw [hadd] at h1
      rw [h1, hB j hjl]
      rw [bvs_getElem?, List.getElem?_map, List.getElem?_range hjl] at hj
      simpa using hj

/-- The cells of a part's five numbers and its slice. -/
theorem trod_part {cs : List Value} {x : DataW H × List MemPlace}
    (h : DataW.trod enc Tryd.prog w base sp held fuel 24 cs = some x) (hlen : cs.length = 6) :
    ∃ (p : PartD) (a : Option Addr) (cap : Nat), cs = [.int .i64 p.kind, .int .i64 p.gen, .int .i64 p.num, .int .i64 p.idx, .int .i64 p.cnt, .slice a p.bytes.length cap] ∧ p.bytes.length ≤ maxLen ∧ BytesN w (fun _ => True) (.slice a p.bytes.length cap) p.bytes := by
  match cs, hlen with
  | [v0, v1, v2, v3, v4, v5], _ =>
    obtain ⟨xs, k, hk, hxy, _, hxl, hf⟩ := DataW.trod_struct Tryd.underlying24 h
    have hxl6 : xs.length = 6 := hxl
    match xs, hxl6 with
    | [y0, y1, y2, y3, y4, y5], _ =>
      have g0 := hf 0 _ rfl
      have g1 := hf 1 _ rfl
      have g2 := hf 2 _ rfl
      have g3 := hf 3 _ rfl
      have g4 := hf 4 _ rfl
      have g5 := hf 5 _ rfl
      simp [cellsOf_int, cellsOf_bytes] at g0 g1 g2 g3 g4 g5
      obtain ⟨n0, rfl, _⟩ := trod_i64 g0
      obtain ⟨n1, rfl, _⟩ := trod_i64 g1
      obtain ⟨n2, rfl, _⟩ := trod_i64 g2
      obtain ⟨n3, rfl, _⟩ := trod_i64 g3
      obtain ⟨n4, rfl, _⟩ := trod_i64 g4
      obtain ⟨a, len, cap, l, rfl, hl, hm, hb⟩ := trod_bytesN g5
      subst hl
      exact ⟨⟨n0, n1, n2, n3, n4, l⟩, a, cap, rfl, hm, hb⟩

theorem trod_record {cs : List Value} {x : DataW H × List MemPlace}
    (h : DataW.trod enc Tryd.prog w base sp held fuel 49 cs = some x) (hlen : cs.length = 4) :
    ∃ (k g n : Int) (l : List UInt8) (a : Option Addr) (cap : Nat), cs = [.int .i64 k, .int .i64 g, .int .i64 n, .slice a l.length cap] ∧ l.length ≤ maxLen ∧ BytesN w (fun _ => True) (.slice a l.length cap) l := by
  match cs, hlen with
  | [v0, v1, v2, v3], _ =>
    obtain ⟨xs, k, hk, hxy, _, hxl, hf⟩ := DataW.trod_struct Tryd.underlying49 h
    have hxl6 : xs.length = 4 := hxl
    match xs, hxl6 with
    | [y0, y1, y2, y3], _ =>
      have g0 := hf 0 _ rfl
      have g1 := hf 1 _ rfl
      have g2 := hf 2 _ rfl
      have g3 := hf 3 _ rfl
      simp [cellsOf_int, cellsOf_bytes] at g0 g1 g2 g3
      obtain ⟨n0, rfl, _⟩ := trod_i64 g0
      obtain ⟨n1, rfl, _⟩ := trod_i64 g1
      obtain ⟨n2, rfl, _⟩ := trod_i64 g2
      obtain ⟨a, len, cap, l, rfl, hl, hm, hb⟩ := trod_bytesN g3
      subst hl
      exact ⟨n0, n1, n2, l, a, cap, rfl, hm, hb⟩
end
end Go.Proofs.YtloaenknhkfaeaaDoor

namespace Go.Proofs.YtloaenknhkfaeaaDoor
open Go.ChangeShapes Go.WideShapes Go.ChangeAt Go.RowKit

def laidList : List (String × DataW Unit) := [("bulletin/sha256.constants", Rows.laid_bulletin_sha256_constants)]
set_option maxRecDepth 100000 in
theorem door_met (os : Os) (args : Array Value) : laidMetH Tryd.prog laidList ((World.doorLaid Tryd.prog 400 os).forCall (fun _ _ => 0) ⟨#[], args, []⟩).memory :=
  laidMetH_of_parts3 (fuel := 8) (laidMet_of_run' 8 (by kernel_rfl) (by kernel_rfl)) (by kernel_rfl) (by kernel_rfl)

theorem gK : Tryd.prog.globalNamed "bulletin/sha256.constants" = some 0 := by kernel_rfl
theorem tK : (Tryd.prog.globals[0]?).map (·.type) = some 112 := by kernel_rfl
theorem cU32 : Tryd.prog.cellsOf 110 = 1 := by kernel_rfl
theorem cK : Tryd.prog.cellsOf 112 = 64 := by kernel_rfl

set_option maxRecDepth 100000 in
theorem kat_of_laid {W : World} (h : laidMetH Tryd.prog laidList W) : KAt W := by
  rw [MakeChecks.laidMetH_plain _ _ _ (by kernel_rfl)] at h
  have e : laidList = [("bulletin/sha256.constants", Lib.tabData .u32 (kTab.map wN))] := by kernel_rfl
  rw [e] at h
  have ht := Lib.tabIs_of_head gK tK Tryd.underlying112 Tryd.underlying110 cU32 cK h
  have hl : kTab.length = 64 := by decide
  have hc : ∀ j, j < 64 → W.cell? ⟨0, j, none⟩ = some (.int .u32 (wN (kTab.getD j 0))) := fun j hj => by
    rw [ht.cell gK j (by simpa [hl] using hj)]
    rw [List.getD_eq_getElem?_getD, List.getElem?_map, List.getElem?_eq_getElem (by omega), List.getD_eq_getElem?_getD, List.getElem?_eq_getElem (by omega)]
    rfl
  exact ⟨World.block_lt_of_cell? W _ (hc 0 (by decide)), hc⟩
end Go.Proofs.YtloaenknhkfaeaaDoor

namespace Go.Proofs.YtloaenknhkfaeaaDoor
open Go.RowKit Go.ChangeShapes Go.WideShapes Go.ChangeAt Go.Deep

theorem cellsOf_Sector : Tryd.prog.cellsOf 40 = 16 := by kernel_rfl
theorem bytesOf_u8 : Tryd.prog.bytesOf 5 = 1 := by kernel_rfl

/-- No slice, string or map in it is beyond the reach. -/
def Fits {H : Type} (t : TypeId) (d : DataW H) : Prop := (d.weights Tryd.prog t).all (· ≤ reachBytes) = true
theorem fits_each {H : Type} {ts : List TypeId} {ds : List (DataW H)} (h : (DataW.weightsEach Tryd.prog ts ds).all (· ≤ reachBytes) = true) {j : Nat} {t : TypeId} {d : DataW H} (ht : ts[j]? = some t) (hd : ds[j]? = some d) : Fits t d :=
  List.all_eq_true.2 fun n hn => List.all_eq_true.1 h n (DataW.weights_mem_each ht hd n hn)
theorem fits_field {H : Type} {t : TypeId} {fs : Array Field} {parts : List (DataW H)} (hu : Tryd.prog.underlying t = some (.struct fs)) (h : Fits t (.agg parts)) {j : Nat} {f : Field} {d : DataW H} (hf : fs[j]? = some f) (hd : parts[j]? = some d) : Fits f.type d := by
  unfold Fits at h
  simp only [DataW.weights, hu] at h
  exact fits_each h (j := j) (by simp [hf]) hd
theorem weights_mem_all {H : Type} {e : TypeId} : ∀ {ds : List (DataW H)} {d : DataW H}, d ∈ ds → ∀ n ∈ d.weights Tryd.prog e, n ∈ DataW.weightsAll Tryd.prog e ds
  | d0 :: ds, d, hd, n, hn => by
    simp only [DataW.weightsAll, List.mem_append]
    rcases List.mem_cons.1 hd with rfl | h
    · exact .inl hn
    · exact .inr (weights_mem_all h n hn)
theorem fits_slice {H : Type} {t e : TypeId} {elems spare : List (DataW H)} (hu : Tryd.prog.underlying t = some (.slice e)) (h : Fits t (.slice elems spare)) :
    (elems.length + spare.length) * Tryd.prog.bytesOf e ≤ reachBytes ∧ ∀ d ∈ elems, Fits e d := by
  unfold Fits at h
  simp only [DataW.weights, hu] at h
  simp only [List.all_cons, Bool.and_eq_true, decide_eq_true_eq, List.all_append] at h
  exact ⟨h.1, fun d hd => List.all_eq_true.2 fun n hn => List.all_eq_true.1 h.2.1 n (weights_mem_all hd n hn)⟩

section
variable {H : Type} {enc : TypeId × Value → H} {w : World} {base : Nat} {sp : Nat → Bool} {held : Bool} {fuel : Nat}

theorem trod_bytesS {v : Value} {x : DataW H × List MemPlace}
    (h : DataW.trod enc Tryd.prog w base sp held fuel 22 [v] = some x) (hs : Fits 22 x.1) : ∃ a len cap l, v = .slice a len cap ∧ l.length = len ∧ len ≤ 140737488351232 ∧ BytesN w (fun _ => True) v l := by
  obtain ⟨a, len, cap, l, rfl, hl, _, hb⟩ := trod_bytesN h
  refine ⟨a, len, cap, l, rfl, hl, ?_, hb⟩
  rcases open_slice1 Tryd.underlying22 cellsOf_u8 h with ⟨hcs, _⟩ | ⟨a', len', cap', m, n, V, D, Pl, hcs, _, _, _, _, rfl, _⟩
  · simp only [List.cons.injEq, and_true, Value.slice.injEq] at hcs
    obtain ⟨_, rfl, _⟩ := hcs
    exact Nat.zero_le _
  · simp only [List.cons.injEq, and_true, Value.slice.injEq] at hcs
    obtain ⟨_, rfl, _⟩ := hcs
    have := (fits_slice Tryd.underlying22 hs).1
    rw [bytesOf_u8, Nat.mul_one, List.length_map, List.length_range] at this
    unfold reachBytes at this
    omega

theorem trod_sector {cs : List Value} {x : DataW H × List MemPlace}
    (h : DataW.trod enc Tryd.prog w base sp held fuel 40 cs = some x) (hlen : cs.length = 16) (hs : Fits 40 x.1) : ∃ S : SecV, cs = S.cells ∧ S.At w := by
  match cs, hlen with
  | [v0, v1, v2, v3, v4, v5, v6, v7, v8, v9, v10, v11, v12, v13, v14, v15], _ =>
    obtain ⟨xs, k, hk, hxy, _, hxl, hf⟩ := DataW.trod_struct Tryd.underlying40 h
    have hxl6 : xs.length = 6 := hxl
    match xs, hxl6 with
    | [y0, y1, y2, y3, y4, y5], _ =>
      subst hxy
      have s5 := fits_field Tryd.underlying40 hs (j := 5) rfl rfl
      have g0 := hf 0 _ rfl
      have g1 := hf 1 _ rfl
      have g2 := hf 2 _ rfl
      have g3 := hf 3 _ rfl
      have g4 := hf 4 _ rfl
      have g5 := hf 5 _ rfl
      simp [cellsOf_u8, cellsOf_bytes, cellsOf_Part] at g0 g1 g2 g3 g4 g5
      obtain ⟨b0, rfl⟩ := trod_u8 g0
      obtain ⟨p, pa, pc, hp, hpn, hpb⟩ := trod_part g1 rfl
      obtain ⟨o, oa, oc, ho, hon, hob⟩ := trod_part g2 rfl
      obtain ⟨b3, rfl⟩ := trod_u8 g3
      obtain ⟨b4, rfl⟩ := trod_u8 g4
      obtain ⟨a, len, cap, l, rfl, hl, hn, hb⟩ := trod_bytesS g5 s5
      subst hl
      simp only [List.cons.injEq, and_true] at hp ho
      obtain ⟨rfl, rfl, rfl, rfl, rfl, rfl⟩ := hp
      obtain ⟨rfl, rfl, rfl, rfl, rfl, rfl⟩ := ho
      unfold maxLen at hpn hon
      exact ⟨⟨b0.toNat, p, pa, pc, o, oa, oc, b3.toNat, b4, l, a, cap⟩, rfl, ⟨b0.toNat_lt, hpb, by omega, hob, by omega, b3.toNat_lt, hb, hn⟩⟩

instance : Inhabited SecV := ⟨⟨0, PartD.zero, none, 0, PartD.zero, none, 0, 0, 0, [], none, 0⟩⟩

theorem trod_descs {v : Value} {x : DataW H × List MemPlace}
    (h : DataW.trod enc Tryd.prog w base sp held fuel 67 [v] = some x) (hs : Fits 67 x.1) : ∃ L : List SecV, DescsAt w v L := by
  rcases open_slice Tryd.underlying67 h with ⟨hcs, _⟩ | ⟨a, len, cap, m, n, D, Pl, hcs, _, hl, hcm, hm, rfl, hx⟩
  · simp only [List.cons.injEq, and_true] at hcs
    subst hcs
    exact ⟨[], none, 0, rfl, Nat.le_refl _, Nat.zero_le _, fun h => absurd rfl h⟩
  · simp only [List.cons.injEq, and_true] at hcs
    subst hcs
    have hml : len ≤ m := by rw [hm]; split <;> omega
    have hsm := (fits_slice Tryd.underlying67 hs).2
    have each : ∀ i, i < len → ∃ S : SecV, w.cells? base (a.add (i * 16)) 16 = some S.cells ∧ S.At w := fun i hi => by
      obtain ⟨cs', h1, h2⟩ := hx i (Nat.lt_of_lt_of_le hi hml)
      rw [cellsOf_Sector] at h1
      obtain ⟨_, hlen, _⟩ := World.cells?_some h1
      obtain ⟨S, rfl, hS⟩ := trod_sector h2 hlen (hsm _ (List.mem_map.2 ⟨i, List.mem_range.2 hi, rfl⟩))
      exact ⟨S, h1, hS⟩
    obtain ⟨Q, hQ⟩ := choose_lt (α := SecV) each
    have hlen : ((List.range len).map Q).length = len := by simp
    refine ⟨(List.range len).map Q, some a, cap, by rw [hlen], by rw [hlen]; exact hl, hcm, fun hne => ?_⟩
    have hpos : 0 < len := by
      rcases Nat.eq_zero_or_pos len with h0 | h0
      · subst h0; exact absurd rfl hne
      · exact h0
    obtain ⟨g, off, spot⟩ := a
    have h0 := (World.cells?_some (hQ 0 hpos).1).2.2 0 (by decide)
    have hspot : spot = none := by simpa [Addr.add] using World.cell?_spot h0
    subst hspot
    have hap : ∀ (g off j : Nat), (⟨g, off, none⟩ : Addr).add j = ⟨g, off + j, none⟩ := fun g off j => by unfold Addr.add; split <;> simp_all
    refine ⟨g, off, rfl, ?_, fun i hi => ?_⟩
    · have := World.block_lt_of_cell? w _ h0
      simpa [Addr.add] using this
    · have hi' : i < len := by simpa using hi
      obtain ⟨h1, hS⟩ := hQ i hi'
      simp only [List.getElem_map, List.getElem_range]
      refine ⟨?_, hS⟩
      obtain ⟨_, _, hc⟩ := World.cells?_some h1
      intro j u hj
      have hj6 : j < 16 := (List.getElem?_eq_some_iff.1 hj).1
      have := hc j hj6
      rw [hap, hap] at this
      rw [this]
      exact hj
end
end Go.Proofs.YtloaenknhkfaeaaDoor
