/- How an argument's reading opens: descriptions of sectors; how long their bytes may be. -/
import Derived.Test.YtloaenknhkfaeaaDoorRec25
import Derived.Test.YtloaenknhkfaeaaDoorRecArgs
import Derived.SizedLaws
namespace Go.Proofs.YtloaenknhkfaeaaDoor
open Go.RowKit Go.ChangeShapes Go.WideShapes Go.ChangeAt Go.Deep
set_option linter.unusedVariables false
set_option linter.unusedSimpArgs false

theorem cellsOf_Sector : Tryd.prog.cellsOf 40 = 16 := by kernel_rfl
theorem bytesOf_u8 : Tryd.prog.bytesOf 5 = 1 := by kernel_rfl

/-- No slice, string or map in it is beyond the reach. -/
def Fits {H : Type} (t : TypeId) (d : DataW H) : Prop := (d.weights Tryd.prog t).all (· ≤ reachBytes) = true
theorem fits_each {H : Type} {ts : List TypeId} {ds : List (DataW H)} (h : (DataW.weightsEach Tryd.prog ts ds).all (· ≤ reachBytes) = true) {j : Nat} {t : TypeId} {d : DataW H} (ht : ts[j]? = some t) (hd : ds[j]? = some d) : Fits t d :=
  List.all_eq_true.2 fun n hn => List.all_eq_true.1 h n (DataW.weights_mem_each ht hd n hn)
theorem fits_field {H : Type} {t : TypeId} {fs : Array Field} {parts : List (DataW H)} (hu : Tryd.prog.underlying t = some (.struct fs)) (h : Fits t (.agg parts)) {j : Nat} {f : Field} {d : DataW H} (hf : fs[j]? = some f) (hd : parts[j]? = some d) : Fits f.type d := by
  unfold Fits at h
  simp only [DataW.weights, hu] at h
  exact fits_each h (j := j) (by simp [hf]) hd
theorem weights_mem_all {H : Type} {e : TypeId} : ∀ {ds : List (DataW H)} {d : DataW H}, d ∈ ds → ∀ n ∈ d.weights Tryd.prog e, n ∈ DataW.weightsAll Tryd.prog e ds
  | d0 :: ds, d, hd, n, hn => by
    simp only [DataW.weightsAll, List.mem_append]
    rcases List.mem_cons.1 hd with rfl | h
    · exact .inl hn
    · exact .inr (weights_mem_all h n hn)
theorem fits_slice {H : Type} {t e : TypeId} {elems spare : List (DataW H)} (hu : Tryd.prog.underlying t = some (.slice e)) (h : Fits t (.slice elems spare)) :
    (elems.length + spare.length) * Tryd.prog.bytesOf e ≤ reachBytes ∧ ∀ d ∈ elems, Fits e d := by
  unfold Fits at h
  simp only [DataW.weights, hu] at h
  simp only [List.all_cons, Bool.and_eq_true, decide_eq_true_eq, List.all_append] at h
  exact ⟨h.1, fun d hd => List.all_eq_true.2 fun n hn => List.all_eq_true.1 h.2.1 n (weights_mem_all hd n hn)⟩

section
variable {H : Type} {enc : TypeId × Value → H} {w : World} {base : Nat} {sp : Nat → Bool} {held : Bool} {fuel : Nat}

theorem trod_bytesS {v : Value} {x : DataW H × List MemPlace}
    (h : DataW.trod enc Tryd.prog w base sp held fuel 22 [v] = some x) (hs : Fits 22 x.1) : ∃ a len cap l, v = .slice a len cap ∧ l.length = len ∧ len ≤ 140737488351232 ∧ BytesN w (fun _ => True) v l := by
  obtain ⟨a, len, cap, l, rfl, hl, _, hb⟩ := trod_bytesN h
  refine ⟨a, len, cap, l, rfl, hl, ?_, hb⟩
  rcases open_slice1 Tryd.underlying22 cellsOf_u8 h with ⟨hcs, _⟩ | ⟨a', len', cap', m, n, V, D, Pl, hcs, _, _, _, _, rfl, _⟩
  · simp only [List.cons.injEq, and_true, Value.slice.injEq] at hcs
    obtain ⟨_, rfl, _⟩ := hcs
    exact Nat.zero_le _
  · simp only [List.cons.injEq, and_true, Value.slice.injEq] at hcs
    obtain ⟨_, rfl, _⟩ := hcs
    have := (fits_slice Tryd.underlying22 hs).1
    rw [bytesOf_u8, Nat.mul_one, List.length_map, List.length_range] at this
    unfold reachBytes at this
    omega

theorem trod_sector {cs : List Value} {x : DataW H × List MemPlace}
    (h : DataW.trod enc Tryd.prog w base sp held fuel 40 cs = some x) (hlen : cs.length = 16) (hs : Fits 40 x.1) : ∃ S : SecV, cs = S.cells ∧ S.At w := by
  match cs, hlen with
  | [v0, v1, v2, v3, v4, v5, v6, v7, v8, v9, v10, v11, v12, v13, v14, v15], _ =>
    obtain ⟨xs, k, hk, hxy, _, hxl, hf⟩ := DataW.trod_struct Tryd.underlying40 h
    have hxl6 : xs.length = 6 := hxl
    match xs, hxl6 with
    | [y0, y1, y2, y3, y4, y5], _ =>
      subst hxy
      have s5 := fits_field Tryd.underlying40 hs (j := 5) rfl rfl
      have g0 := hf 0 _ rfl
      have g1 := hf 1 _ rfl
      have g2 := hf 2 _ rfl
      have g3 := hf 3 _ rfl
      have g4 := hf 4 _ rfl
      have g5 := hf 5 _ rfl
      simp [cellsOf_u8, cellsOf_bytes, cellsOf_Part] at g0 g1 g2 g3 g4 g5
      obtain ⟨b0, rfl⟩ := trod_u8 g0
      obtain ⟨p, pa, pc, hp, hpn, hpb⟩ := trod_part g1 rfl
      obtain ⟨o, oa, oc, ho, hon, hob⟩ := trod_part g2 rfl
      obtain ⟨b3, rfl⟩ := trod_u8 g3
      obtain ⟨b4, rfl⟩ := trod_u8 g4
      obtain ⟨a, len, cap, l, rfl, hl, hn, hb⟩ := trod_bytesS g5 s5
      subst hl
      simp only [List.cons.injEq, and_true] at hp ho
      obtain ⟨rfl, rfl, rfl, rfl, rfl, rfl⟩ := hp
      obtain ⟨rfl, rfl, rfl, rfl, rfl, rfl⟩ := ho
      unfold maxLen at hpn hon
      exact ⟨⟨b0.toNat, p, pa, pc, o, oa, oc, b3.toNat, b4, l, a, cap⟩, rfl, ⟨b0.toNat_lt, hpb, by omega, hob, by omega, b3.toNat_lt, hb, hn⟩⟩

instance : Inhabited SecV := ⟨⟨0, PartD.zero, none, 0, PartD.zero, none, 0, 0, 0, [], none, 0⟩⟩

theorem trod_descs {v : Value} {x : DataW H × List MemPlace}
    (h : DataW.trod enc Tryd.prog w base sp held fuel 67 [v] = some x) (hs : Fits 67 x.1) : ∃ L : List SecV, DescsAt w v L := by
  rcases open_slice Tryd.underlying67 h with ⟨hcs, _⟩ | ⟨a, len, cap, m, n, D, Pl, hcs, _, hl, hcm, hm, rfl, hx⟩
  · simp only [List.cons.injEq, and_true] at hcs
    subst hcs
    exact ⟨[], none, 0, rfl, Nat.le_refl _, Nat.zero_le _, fun h => absurd rfl h⟩
  · simp only [List.cons.injEq, and_true] at hcs
    subst hcs
    have hml : len ≤ m := by rw [hm]; split <;> omega
    have hsm := (fits_slice Tryd.underlying67 hs).2
    have each : ∀ i, i < len → ∃ S : SecV, w.cells? base (a.add (i * 16)) 16 = some S.cells ∧ S.At w := fun i hi => by
      obtain ⟨cs', h1, h2⟩ := hx i (Nat.lt_of_lt_of_le hi hml)
      rw [cellsOf_Sector] at h1
      obtain ⟨_, hlen, _⟩ := World.cells?_some h1
      obtain ⟨S, rfl, hS⟩ := trod_sector h2 hlen (hsm _ (List.mem_map.2 ⟨i, List.mem_range.2 hi, rfl⟩))
      exact ⟨S, h1, hS⟩
    obtain ⟨Q, hQ⟩ := choose_lt (α := SecV) each
    have hlen : ((List.range len).map Q).length = len := by simp
    refine ⟨(List.range len).map Q, some a, cap, by rw [hlen], by rw [hlen]; exact hl, hcm, fun hne => ?_⟩
    have hpos : 0 < len := by
      rcases Nat.eq_zero_or_pos len with h0 | h0
      · subst h0; exact absurd rfl hne
      · exact h0
    obtain ⟨g, off, spot⟩ := a
    have h0 := (World.cells?_some (hQ 0 hpos).1).2.2 0 (by decide)
    have hspot : spot = none := by simpa [Addr.add] using World.cell?_spot h0
    subst hspot
    have hap : ∀ (g off j : Nat), (⟨g, off, none⟩ : Addr).add j = ⟨g, off + j, none⟩ := fun g off j => by unfold Addr.add; split <;> simp_all
    refine ⟨g, off, rfl, ?_, fun i hi => ?_⟩
    · have := World.block_lt_of_cell? w _ h0
      simpa [Addr.add] using this
    · have hi' : i < len := by simpa using hi
      obtain ⟨h1, hS⟩ := hQ i hi'
      simp only [List.getElem_map, List.getElem_range]
      refine ⟨?_, hS⟩
      obtain ⟨_, _, hc⟩ := World.cells?_some h1
      intro j u hj
      have hj6 : j < 16 := (List.getElem?_eq_some_iff.1 hj).1
      have := hc j hj6
      rw [hap, hap] at this
      rw [this]
      exact hj
end
end Go.Proofs.YtloaenknhkfaeaaDoor
