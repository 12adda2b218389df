/- The model's knots, plainly: the children of a node, picked one by one. -/
import Derived.Test.YthfinofmbnfijaaTp14
namespace Go.Proofs.Ythfinofmbnfijaa
open Go.RowKit
set_option linter.unusedVariables false
set_option linter.unusedSimpArgs false

/-- The article that determines the place of an identity. -/
def plcT (S : List Tw) (c : Par) (x : IdB) : Option Tw := if isArt S x then S.find? (fun t => decide (t.id = x)) else S.find? fun t => decide (c t.id = some x)
def PlO (S : List Tw) (c : Par) (x y : IdB) : Prop := ∃ a b, plcT S c x = some a ∧ plcT S c y = some b ∧ (cmpT a b < 0 ∨ c y = some x)
theorem tw_inj {S : List Tw} (hn : (S.map (·.id)).Nodup) {a b : Tw} (ha : a ∈ S) (hb : b ∈ S) (h : a.id = b.id) : a = b := by
  obtain ⟨i, hi, rfl⟩ := List.mem_iff_getElem.1 ha
  obtain ⟨j, hj, rfl⟩ := List.mem_iff_getElem.1 hb
  have h1 := rk_at hn hi
  rw [h, rk_at hn hj] at h1
  obtain rfl := Option.some.inj h1
  rfl
theorem plcT_art {S : List Tw} (hS : Asc S) (hn : (S.map (·.id)).Nodup) (c : Par) {r : Tw} (hr : r ∈ S) : plcT S c r.id = some r := by
  unfold plcT
  rw [if_pos (isArt_iff.2 ⟨r, hr, rfl⟩)]
  refine asc_find hS hr (decide_eq_true rfl) fun b hb e => ?_
  rw [tw_inj hn hb hr (of_decide_eq_true e), cmpT_self]
  decide
theorem place_pw {S : List Tw} (hS : Asc S) (hn : (S.map (·.id)).Nodup) (c : Par) : ∀ k, k ≤ S.length → (place (isArt S) c (S.take k)).pl.Pairwise (PlO S c) ∧ ∀ x ∈ (place (isArt S) c (S.take k)).pl, ∃ a, plcT S c x = some a ∧ a ∈ S.take k
  | 0, _ => ⟨by rw [List.take_zero]; exact List.Pairwise.nil, fun x hx => by rw [List.take_zero] at hx; cases hx⟩
  | k + 1, hk => by
    have hk' : k < S.length := by omega
    obtain ⟨ih1, ih2⟩ := place_pw hS hn c k (by omega)
    have hinv := place_inv (A := isArt S) (c := c) (S := S) (fun r hr => isArt_iff.2 ⟨r, hr, rfl⟩) hn k (by omega)
    rw [List.take_succ_eq_append_getElem hk', place_snoc]
    obtain ⟨st, hst⟩ : ∃ st, place (isArt S) c (S.take k) = st := ⟨_, rfl⟩
    rw [hst] at ih1 ih2 hinv ⊢
    obtain ⟨r, hr⟩ : ∃ r, S[k] = r := ⟨_, rfl⟩
    rw [hr]
    have hrS : r ∈ S := hr ▸ List.getElem_mem hk'
    have hpr := plcT_art hS hn c hrS
    have hlt : ∀ a ∈ S.take k, cmpT a r < 0 := fun a ha => by
      obtain ⟨j, hj, rfl⟩ := List.mem_iff_getElem.1 ha
      rw [List.length_take] at hj
      rw [List.getElem_take, ← hr]
      exact List.pairwise_iff_getElem.1 hS j k (by omega) hk' (by omega)
    have hone : (st.pl ++ [r.id]).Pairwise (PlO S c) ∧ ∀ x ∈ st.pl ++ [r.id], ∃ a, plcT S c x = some a ∧ a ∈ S.take k ++ [r] := by
      refine ⟨List.pairwise_append.2 ⟨ih1, List.pairwise_singleton _ _, fun x hx y hy => ?_⟩, fun x hx => ?_⟩
      · obtain rfl := List.mem_singleton.1 hy
        obtain ⟨a, ha, haT⟩ := ih2 x hx
        exact ⟨a, r, ha, hpr, .inl (hlt a haT)⟩
      · rcases List.mem_append.1 hx with h | h
        · obtain ⟨a, ha, haT⟩ := ih2 x h
          exact ⟨a, ha, List.mem_append_left _ haT⟩
        · obtain rfl := List.mem_singleton.1 h
          exact ⟨r, hpr, List.mem_append_right _ (List.mem_singleton.2 rfl)⟩
    unfold plStep
    cases hc : c r.id with
    | none => exact hone
    | some p =>
      dsimp only
      by_cases hAd : (isArt S p || st.done p) = true
      · rw [if_pos hAd]; exact hone
      · rw [if_neg hAd]
        rw [Bool.or_eq_true, not_or] at hAd
        obtain ⟨hA, hd⟩ := hAd
        have hA' : isArt S p = false := by simpa using hA
        have hpp : plcT S c p = some r := by
          unfold plcT
          rw [if_neg hA]
          have hno : ∀ a ∈ S.take k, ¬ c a.id = some p := fun a ha e => hd ((hinv.done p).2 ⟨hA', a, ha, e⟩)
          refine asc_find hS hrS (decide_eq_true hc) fun b hb e => ?_
          obtain ⟨j, hj, rfl⟩ := List.mem_iff_getElem.1 hb
          have hjk : ¬ j < k := fun h => hno S[j] (List.mem_take_iff_getElem.2 ⟨j, by omega, rfl⟩) (of_decide_eq_true e)
          intro hlt2
          by_cases e2 : j = k
          · subst e2
            rw [hr, cmpT_self] at hlt2
            exact absurd hlt2 (by decide)
          · have := List.pairwise_iff_getElem.1 hS k j hk' hj (by omega)
            rw [hr] at this
            have h2 := cmpT_swap S[j] r
            omega
        refine ⟨List.pairwise_append.2 ⟨List.pairwise_append.2 ⟨ih1, List.pairwise_singleton _ _, fun x hx y hy => ?_⟩, List.pairwise_singleton _ _, fun x hx y hy => ?_⟩, fun x hx => ?_⟩
        · obtain rfl := List.mem_singleton.1 hy
          obtain ⟨a, ha, haT⟩ := ih2 x hx
          exact ⟨a, r, ha, hpp, .inl (hlt a haT)⟩
        · obtain rfl := List.mem_singleton.1 hy
          rcases List.mem_append.1 hx with h | h
          · obtain ⟨a, ha, haT⟩ := ih2 x h
            exact ⟨a, r, ha, hpr, .inl (hlt a haT)⟩
          · obtain rfl := List.mem_singleton.1 h
            exact ⟨r, r, hpp, hpr, .inr hc⟩
        · rcases List.mem_append.1 hx with h | h
          · rcases List.mem_append.1 h with h | h
            · obtain ⟨a, ha, haT⟩ := ih2 x h
              exact ⟨a, ha, List.mem_append_left _ haT⟩
            · obtain rfl := List.mem_singleton.1 h
              exact ⟨r, hpp, List.mem_append_right _ (List.mem_singleton.2 rfl)⟩
          · obtain rfl := List.mem_singleton.1 h
            exact ⟨r, hpr, List.mem_append_right _ (List.mem_singleton.2 rfl)⟩
/-- The children of an identity; the roots. -/
def chl (c : Par) (pl : List IdB) : Option IdB → List IdB
  | none => rootsOf c pl
  | some x => kidsOf c pl x
theorem chl_filter (c : Par) (pl : List IdB) (p : Option IdB) : chl c pl p = pl.filter fun y => decide (c y = p) := by cases p <;> rfl
theorem mem_chl {c : Par} {pl : List IdB} {p : Option IdB} {y : IdB} : y ∈ chl c pl p ↔ y ∈ pl ∧ c y = p := by
  rw [chl_filter, List.mem_filter, decide_eq_true_eq]
theorem chl_pw {L : List RowV} (hn : (L.map (·.id)).Nodup) {c : Par} (hac : ∀ x, ¬ onC c x) (p : Option IdB) : (chl c (pls L c) p).Pairwise fun x y => ∃ a b, plcT (arrS L) c x = some a ∧ plcT (arrS L) c y = some b ∧ cmpT a b < 0 := by
  have h := (place_pw (arrS_asc hn) (arrS_nodup hn) c (arrS L).length (Nat.le_refl _)).1
  rw [List.take_of_length_le (Nat.le_refl _)] at h
  have h2 : (chl c (pls L c) p).Pairwise (PlO (arrS L) c) := by
    rw [chl_filter]
    exact List.Pairwise.filter _ h
  refine List.Pairwise.imp_of_mem (fun {x y} hx hy hxy => ?_) h2
  obtain ⟨a, b, ha, hb, hor⟩ := hxy
  rcases hor with h | h
  · exact ⟨a, b, ha, hb, h⟩
  · exfalso
    have e1 := (mem_chl.1 hx).2
    have e2 := (mem_chl.1 hy).2
    rw [h] at e2
    exact hac x ⟨0, by rw [it_one, e1, ← e2]⟩

/-! ### knots -/
structure KnV where
  id : IdB
  row : Int
  place : RowV
  up : Option IdB
structure KnOk (L : List RowV) (c : Par) (K : List KnV) : Prop where
  nodup : (K.map (·.id)).Nodup
  mem : ∀ x, x ∈ pls L c ↔ ∃ k ∈ K, k.id = x
  up : ∀ k ∈ K, k.up = c k.id
  row : ∀ k ∈ K, k.row = idxL L k.id
  plc : ∀ k ∈ K, plcT (arrS L) c k.id = some k.place.tw
/-- The knot of the j-th article. -/
def artK (L : List RowV) (c : Par) (j : Nat) (hj : j < L.length) : KnV := ⟨L[j].id, (j : Int), L[j], c L[j].id⟩
structure KnI (L : List RowV) (c : Par) (i : Nat) (K : List KnV) : Prop where
  nodup : (K.map (·.id)).Nodup
  each : ∀ k ∈ K, (∃ (j : Nat) (hj : j < L.length), j < i ∧ k = artK L c j hj) ∨ (idxL L k.id < 0 ∧ k.row = -1 ∧ k.up = misP L k.id ∧ (∃ (j : Nat) (hj : j < L.length), j < i ∧ c L[j].id = some k.id) ∧ (arrS L).find? (fun t => decide (c t.id = some k.id)) = some k.place.tw)
  arts : ∀ (j : Nat) (hj : j < L.length), j < i → ∃ k ∈ K, k.id = L[j].id
  miss : ∀ (j : Nat) (hj : j < L.length) (y : IdB), j < i → c L[j].id = some y → idxL L y < 0 → ∃ k ∈ K, k.id = y
  len : K.length ≤ 2 * i
theorem KnI.zero (L : List RowV) (c : Par) : KnI L c 0 [] :=
  ⟨List.nodup_nil, fun k hk => (by cases hk), fun j _ h => absurd h (Nat.not_lt_zero j), fun j _ _ h => absurd h (Nat.not_lt_zero j), Nat.le_refl _⟩
section
variable {L : List RowV} {c : Par} {i : Nat} {K : List KnV}
theorem KnI.fresh (h : KnI L c i K) (hn : (L.map (·.id)).Nodup) (hi : i < L.length) : ∀ k ∈ K, k.id ≠ L[i].id := fun k hk e => by
  rcases h.each k hk with ⟨j, hj, hji, rfl⟩ | ⟨h1, _⟩
  · have := id_inj hn hj hi e
    omega
  · rw [e, idx_at hn hi] at h1
    omega
theorem KnI.art (h : KnI L c i K) (hn : (L.map (·.id)).Nodup) (hi : i < L.length) :
    ((K ++ [artK L c i hi]).map (·.id)).Nodup ∧ (∀ k ∈ K ++ [artK L c i hi], (∃ (j : Nat) (hj : j < L.length), j < i + 1 ∧ k = artK L c j hj) ∨ (idxL L k.id < 0 ∧ k.row = -1 ∧ k.up = misP L k.id ∧ (∃ (j : Nat) (hj : j < L.length), j < i + 1 ∧ c L[j].id = some k.id) ∧ (arrS L).find? (fun t => decide (c t.id = some k.id)) = some k.place.tw)) ∧
    (∀ (j : Nat) (hj : j < L.length), j < i + 1 → ∃ k ∈ K ++ [artK L c i hi], k.id = L[j].id) := by
  refine ⟨?_, fun k hk => ?_, fun j hj hji => ?_⟩
  · rw [List.map_append, List.nodup_append]
    refine ⟨h.nodup, by simp, fun a ha b hb e => ?_⟩
    obtain ⟨k, hk, rfl⟩ := List.mem_map.1 ha
    rw [List.map_singleton, List.mem_singleton] at hb
    exact h.fresh hn hi k hk (e.trans hb)
  · rcases List.mem_append.1 hk with hk | hk
    · rcases h.each k hk with ⟨j, hj, hji, e⟩ | ⟨h1, h2, h3, ⟨j, hj, hji, e⟩, h5⟩
      · exact .inl ⟨j, hj, by omega, e⟩
      · exact .inr ⟨h1, h2, h3, ⟨j, hj, by omega, e⟩, h5⟩
    · exact .inl ⟨i, hi, by omega, List.mem_singleton.1 hk⟩
  · by_cases e : j = i
    · subst e
      exact ⟨_, List.mem_append_right _ (List.mem_singleton.2 rfl), rfl⟩
    · obtain ⟨k, hk, e2⟩ := h.arts j hj (by omega)
      exact ⟨k, List.mem_append_left _ hk, e2⟩
theorem KnI.plain (h : KnI L c i K) (hn : (L.map (·.id)).Nodup) (hi : i < L.length) (hno : ∀ y, c L[i].id = some y → idxL L y < 0 → ∃ k ∈ K ++ [artK L c i hi], k.id = y) : KnI L c (i + 1) (K ++ [artK L c i hi]) := by
  obtain ⟨h1, h2, h3⟩ := h.art hn hi
  refine ⟨h1, h2, h3, fun j hj y hji hy hm => ?_, by rw [List.length_append]; have := h.len; simp; omega⟩
  by_cases e : j = i
  · subst e; exact hno y hy hm
  · obtain ⟨k, hk, e2⟩ := h.miss j hj y (by omega) hy hm
    exact ⟨k, List.mem_append_left _ hk, e2⟩
theorem KnI.two (h : KnI L c i K) (hn : (L.map (·.id)).Nodup) (hi : i < L.length) {y : IdB} (hy : c L[i].id = some y) (hm : idxL L y < 0) (hf : ∀ k ∈ K ++ [artK L c i hi], k.id ≠ y) {P : RowV} (hP : (arrS L).find? (fun t => decide (c t.id = some y)) = some P.tw) :
    KnI L c (i + 1) (K ++ [artK L c i hi] ++ [⟨y, -1, P, misP L y⟩]) := by
  obtain ⟨h1, h2, h3⟩ := h.art hn hi
  refine ⟨?_, fun k hk => ?_, fun j hj hji => ?_, fun j hj z hji hz hmz => ?_, by rw [List.length_append, List.length_append]; have := h.len; simp; omega⟩
  · rw [List.map_append, List.nodup_append]
    refine ⟨h1, by simp, fun a ha b hb e => ?_⟩
    obtain ⟨k, hk, rfl⟩ := List.mem_map.1 ha
    rw [List.map_singleton, List.mem_singleton] at hb
    exact hf k hk (e.trans hb)
  · rcases List.mem_append.1 hk with hk | hk
    · exact h2 k hk
    · obtain rfl := List.mem_singleton.1 hk
      exact .inr ⟨hm, rfl, rfl, ⟨i, hi, by omega, hy⟩, hP⟩
  · obtain ⟨k, hk, e2⟩ := h3 j hj hji
    exact ⟨k, List.mem_append_left _ hk, e2⟩
  · by_cases e : j = i
    · subst e
      rw [hy] at hz
      cases hz
      exact ⟨_, List.mem_append_right _ (List.mem_singleton.2 rfl), rfl⟩
    · obtain ⟨k, hk, e2⟩ := h.miss j hj z (by omega) hz hmz
      exact ⟨k, List.mem_append_left _ (List.mem_append_left _ hk), e2⟩
theorem KnI.ok (h : KnI L c L.length K) (hn : (L.map (·.id)).Nodup) (hc : IsCut (parP L) (arrS L) c) : KnOk L c K := by
  have hinv := place_inv (A := isArt (arrS L)) (c := c) (S := arrS L) (fun r hr => isArt_iff.2 ⟨r, hr, rfl⟩) (arrS_nodup hn) (arrS L).length (Nat.le_refl _)
  rw [List.take_of_length_le (Nat.le_refl _)] at hinv
  have hmem : ∀ x, x ∈ pls L c ↔ (∃ r ∈ arrS L, r.id = x) ∨ (isArt (arrS L) x = false ∧ ∃ r ∈ arrS L, c r.id = some x) := hinv.mem
  refine ⟨h.nodup, fun x => ?_, fun k hk => ?_, fun k hk => ?_, fun k hk => ?_⟩
  · rw [hmem]
    constructor
    · rintro (⟨r, hr, rfl⟩ | ⟨hA, r, hr, hrx⟩)
      · obtain ⟨j, hj, rfl⟩ := mem_arrS.1 hr
        exact h.arts j hj hj
      · obtain ⟨j, hj, rfl⟩ := mem_arrS.1 hr
        rw [isArt_idx] at hA
        exact h.miss j hj x hj hrx (by have := of_decide_eq_false hA; omega)
    · rintro ⟨k, hk, rfl⟩
      rcases h.each k hk with ⟨j, hj, _, rfl⟩ | ⟨h1, _, _, ⟨j, hj, _, e⟩, _⟩
      · exact .inl ⟨L[j].tw, mem_arrS.2 ⟨j, hj, rfl⟩, rfl⟩
      · exact .inr ⟨by rw [isArt_idx]; exact decide_eq_false (by omega), L[j].tw, mem_arrS.2 ⟨j, hj, rfl⟩, e⟩
  · rcases h.each k hk with ⟨j, hj, _, rfl⟩ | ⟨h1, _, h3, _, _⟩
    · rfl
    · rw [h3, misP_eq h1]
      refine ((hc k.id).2 fun hl => ?_).symm
      obtain ⟨m, hm, _⟩ := hl.2
      obtain ⟨hm2, e⟩ := rk_some hm
      have : isArt (arrS L) k.id = true := isArt_iff.2 ⟨_, List.getElem_mem hm2, e⟩
      rw [isArt_idx, decide_eq_true_eq] at this
      omega
  · rcases h.each k hk with ⟨j, hj, _, rfl⟩ | ⟨h1, h2, _⟩
    · exact (idx_at hn hj).symm
    · rw [h2]
      unfold idxL at h1 ⊢
      cases hf : L.findIdx? (fun r => decide (r.id = k.id)) with
      | none => rfl
      | some m => rw [hf] at h1; exact absurd h1 (by show ¬ (m : Int) < 0; omega)
  · rcases h.each k hk with ⟨j, hj, _, rfl⟩ | ⟨h1, _, _, _, h5⟩
    · exact plcT_art (arrS_asc hn) (arrS_nodup hn) c (mem_arrS.2 ⟨j, hj, rfl⟩)
    · unfold plcT
      rw [if_neg (by rw [isArt_idx, decide_eq_true_eq]; omega)]
      exact h5
end

/-! ### the next child -/
def Cand (K : List KnV) (p : Option IdB) (D : List IdB) (i : Nat) : Prop := ∃ h : i < K.length, K[i].up = p ∧ K[i].id ∉ D
structure BestI (K : List KnV) (p : Option IdB) (D : List IdB) (n : Nat) (b : Int) : Prop where
  no : b < 0 → b = -1 ∧ ∀ i, i < n → ¬ Cand K p D i
  yes : 0 ≤ b → ∃ (j : Nat) (hj : j < K.length), b = (j : Int) ∧ j < n ∧ Cand K p D j ∧ ∀ (i : Nat) (hi : i < K.length), i < n → Cand K p D i → ¬ cmpT K[i].place.tw K[j].place.tw < 0
section
variable {K : List KnV} {p : Option IdB} {D : List IdB} {n : Nat} {b : Int}
theorem BestI.zero (K : List KnV) (p : Option IdB) (D : List IdB) : BestI K p D 0 (-1) := ⟨fun _ => ⟨rfl, fun i hi => absurd hi (Nat.not_lt_zero i)⟩, fun h => absurd h (by decide)⟩
theorem BestI.skip (h : BestI K p D n b) (hu : ¬ Cand K p D n) : BestI K p D (n + 1) b := by
  refine ⟨fun hb => ⟨(h.no hb).1, fun i hi => ?_⟩, fun hb => ?_⟩
  · by_cases e : i = n
    · rw [e]; exact hu
    · exact (h.no hb).2 i (by omega)
  · obtain ⟨j, hj, e, h1, h2, h3⟩ := h.yes hb
    refine ⟨j, hj, e, by omega, h2, fun i hi hin hiu => ?_⟩
    by_cases e : i = n
    · exact absurd (e ▸ hiu) hu
    · exact h3 i hi (by omega) hiu
theorem BestI.take (h : BestI K p D n b) (hn : n < K.length) (hu : Cand K p D n) (hb : b < 0 ∨ ∃ (j : Nat) (hj : j < K.length), b = (j : Int) ∧ cmpT K[n].place.tw K[j].place.tw < 0) : BestI K p D (n + 1) (n : Int) := by
  refine ⟨fun hb => absurd hb (by omega), fun _ => ⟨n, hn, rfl, by omega, hu, fun i hi hin hiu => ?_⟩⟩
  by_cases e : i = n
  · subst e; rw [cmpT_self]; decide
  · rcases hb with hb | ⟨j, hj, ej, hlt⟩
    · exact absurd hiu ((h.no hb).2 i (by omega))
    · obtain ⟨j', hj', e', h1, h2, h3⟩ := h.yes (by omega)
      obtain rfl : j = j' := by omega
      intro hc
      exact h3 i hi (by omega) hiu (cmpT_trans hc hlt)
theorem BestI.keep (h : BestI K p D n b) {j : Nat} (hn : n < K.length) (hj : j < K.length) (hb : b = (j : Int)) (hlt : ¬ cmpT K[n].place.tw K[j].place.tw < 0) : BestI K p D (n + 1) b := by
  refine ⟨fun hb => absurd hb (by omega), fun hb0 => ?_⟩
  obtain ⟨j', hj', e', h1, h2, h3⟩ := h.yes hb0
  obtain rfl : j = j' := by omega
  refine ⟨j, hj, hb, by omega, h2, fun i hi hin hiu => ?_⟩
  by_cases e : i = n
  · subst e; exact hlt
  · exact h3 i hi (by omega) hiu
end
theorem take_notmem {l : List IdB} (hn : l.Nodup) {k m : Nat} (hm : m < l.length) (hk : k ≤ m) : l[m] ∉ l.take k := fun h => by
  obtain ⟨j, hj, e⟩ := List.mem_iff_getElem.1 h
  rw [List.length_take] at hj
  rw [List.getElem_take] at e
  rw [List.nodup_iff_pairwise_ne, List.pairwise_iff_getElem] at hn
  exact hn j m (by omega) hm (by omega) e
/-- What is picked behind the first k children is the k-th. -/
theorem best_next {L : List RowV} {c : Par} {K : List KnV} (hn : (L.map (·.id)).Nodup) (hac : ∀ x, ¬ onC c x) (hK : KnOk L c K) {p : Option IdB} {k : Nat} {b : Int} (h : BestI K p ((chl c (pls L c) p).take k) K.length b) :
    (b = -1 ∧ (chl c (pls L c) p).length ≤ k) ∨ ∃ (j : Nat) (hj : j < K.length) (hk : k < (chl c (pls L c) p).length), b = (j : Int) ∧ K[j].id = (chl c (pls L c) p)[k] := by
  have hpw := chl_pw hn hac p
  have hnd : (chl c (pls L c) p).Nodup := by rw [chl_filter]; exact (pls_nodup hn c).sublist List.filter_sublist
  have hin : ∀ (j : Nat) (hj : j < K.length), K[j].up = p → K[j].id ∈ chl c (pls L c) p := fun j hj hu => mem_chl.2 ⟨(hK.mem _).2 ⟨K[j], List.getElem_mem hj, rfl⟩, by rw [← hK.up _ (List.getElem_mem hj)]; exact hu⟩
  have hcand : ∀ m (hm : m < (chl c (pls L c) p).length), k ≤ m → ∃ (j : Nat) (hj : j < K.length), K[j].id = (chl c (pls L c) p)[m] ∧ Cand K p ((chl c (pls L c) p).take k) j := fun m hm hkm => by
    obtain ⟨h1, h2⟩ := mem_chl.1 (List.getElem_mem hm)
    obtain ⟨kn, hkn, e⟩ := (hK.mem _).1 h1
    obtain ⟨j, hj, rfl⟩ := List.mem_iff_getElem.1 hkn
    exact ⟨j, hj, e, hj, by rw [hK.up _ (List.getElem_mem hj), e]; exact h2, by rw [e]; exact take_notmem hnd hm hkm⟩
  by_cases hb : b < 0
  · left
    refine ⟨(h.no hb).1, Classical.byContradiction fun hlt => ?_⟩
    obtain ⟨j, hj, _, hc⟩ := hcand k (by omega) (Nat.le_refl _)
    exact (h.no hb).2 j hj hc
  · right
    obtain ⟨j, hj, e, _, ⟨_, hu, hD⟩, hmin⟩ := h.yes (by omega)
    obtain ⟨m, hm, em⟩ := List.mem_iff_getElem.1 (hin j hj hu)
    have hkm : k ≤ m := Classical.byContradiction fun hlt => hD (by rw [← em]; exact List.mem_take_iff_getElem.2 ⟨m, by omega, rfl⟩)
    refine ⟨j, hj, by omega, e, ?_⟩
    by_cases ekm : k = m
    · subst ekm; exact em.symm
    · exfalso
      obtain ⟨i, hi, ei, hc⟩ := hcand k (by omega) (Nat.le_refl _)
      obtain ⟨a, b', ha, hb', hlt⟩ := List.pairwise_iff_getElem.1 hpw k m (by omega) hm (by omega)
      have h1 := hK.plc _ (List.getElem_mem hi)
      have h2 := hK.plc _ (List.getElem_mem hj)
      rw [ei, ha] at h1
      rw [← em, hb'] at h2
      refine hmin i hi hi hc ?_
      rw [← Option.some.inj h1, ← Option.some.inj h2]
      exact hlt
/-- The children of p, each with what is below it, behind a list. -/
def growL (c : Par) (pl : List IdB) (row : IdB → Int) (n : Nat) (p : Option IdB) (O : List NodeV) (at_ d : Int) : List NodeV := (chl c pl p).foldl (fun o y => visL (kidsOf c pl) row n o y at_ d) O
theorem visL_grow (c : Par) (pl : List IdB) (row : IdB → Int) (n : Nat) (o : List NodeV) (y : IdB) (at_ d : Int) : visL (kidsOf c pl) row (n + 1) o y at_ d = growL c pl row n (some y) (o ++ [⟨y, row y, at_, d⟩]) o.length (d + 1) := rfl
theorem growL_none (L : List RowV) (hn : (L.map (·.id)).Nodup) (c : Par) : growL c (pls L c) (idxL L) ((pls L c).length + 1) none [] (-1) 0 = forestV L c := by
  rw [forestV_eq hn]
  rfl
end Go.Proofs.Ythfinofmbnfijaa
