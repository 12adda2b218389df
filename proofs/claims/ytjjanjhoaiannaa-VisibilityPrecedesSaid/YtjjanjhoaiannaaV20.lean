/- The law Precedes. -/
import Derived.Test.YtjjanjhoaiannaaV19
namespace Go.Proofs.Ytjjanjhoaiannaa
open Go.Shelf Go.RowKit Go.Lib Go.Sort Go.ChangeShapes Go.Maps
set_option linter.unusedVariables false
set_option linter.unusedSimpArgs false

/-! ### plainly -/
def RowOk (L : List RowV) (r : RowV) (M : List IdB) : Prop := ∀ q ∈ M, ∀ p ∈ L, p.id = q → p.date < r.date
def Dated (L : List RowV) : Prop := ∀ r ∈ L, RowOk L r r.refs
theorem rowIx_cases (L : List RowV) (q : IdB) : (rowIx L q = -1 ∧ ∀ p ∈ L, p.id ≠ q) ∨ ∃ (m : Nat) (h : m < L.length), rowIx L q = (m : Int) ∧ L[m].id = q := by
  unfold rowIx
  cases h : L.findIdx? (fun r => r.id == q) with
  | none =>
    left
    refine ⟨rfl, fun p hp e => ?_⟩
    have h1 := List.findIdx?_eq_none_iff.1 h p hp
    rw [e] at h1
    simp at h1
  | some m =>
    right
    obtain ⟨h1, h2, _⟩ := List.findIdx?_eq_some_iff_getElem.1 h
    exact ⟨m, h1, rfl, eq_of_beq h2⟩
theorem same_row {L : List RowV} (hn : (L.map (·.id)).Nodup) {a b : RowV} (ha : a ∈ L) (hb : b ∈ L) (e : a.id = b.id) : a = b := by
  have h1 := findRow_of hn ha
  have h2 := findRow_of hn hb
  rw [e, h2] at h1
  exact (Option.some.inj h1).symm
theorem first_le {S : List Tw} (hs : Asc S) {f : Tw → Bool} {s r : Tw} (h : S.find? f = some s) (hr : r ∈ S) (hf : f r = true) : s.date ≤ r.date := by
  obtain ⟨h1, pre, suf, rfl, h2⟩ := List.find?_eq_some_iff_append.1 h
  rcases List.mem_append.1 hr with hr | hr
  · have := h2 r hr
    rw [hf] at this
    cases this
  · rcases List.mem_cons.1 hr with rfl | hr
    · exact Int.le_refl _
    · have h3 := (List.pairwise_append.1 hs).2.1
      have h4 := (List.pairwise_cons.1 h3).1 r hr
      unfold cmpT at h4
      by_cases e : s.date = r.date
      · omega
      · rw [if_neg e] at h4
        by_cases e2 : s.date < r.date
        · omega
        · rw [if_neg e2] at h4; omega
/-- A number that falls along the parents, if dates grow along references. -/
def fallW (S : List Tw) (x : IdB) : Int := match S.find? fun r => decide (r.id = x) with
  | some r => 2 * r.date + 1
  | none => match S.find? fun r => decide (r.refs.getLast? = some x) with
    | some s => 2 * s.date
    | none => 0
theorem find_art {S : List Tw} (hn : (S.map (·.id)).Nodup) {r : Tw} (hr : r ∈ S) : S.find? (fun a => decide (a.id = r.id)) = some r := by
  induction S with
  | nil => cases hr
  | cons a S ih =>
    rw [List.find?_cons]
    by_cases e : a.id = r.id
    · rw [decide_eq_true e]
      rcases List.mem_cons.1 hr with rfl | hr
      · rfl
      · rw [List.map_cons, List.nodup_cons] at hn
        exact absurd (List.mem_map.2 ⟨r, hr, e.symm⟩) hn.1
    · rw [decide_eq_false e]
      rcases List.mem_cons.1 hr with rfl | hr
      · exact absurd rfl e
      · rw [List.map_cons, List.nodup_cons] at hn
        exact ih hn.2 hr
theorem falls {S : List Tw} (hn : (S.map (·.id)).Nodup) (hs : Asc S) (hd : ∀ r ∈ S, ∀ q ∈ r.refs, ∀ p ∈ S, p.id = q → p.date < r.date) {x y : IdB} (h : pM (isArt S) S x = some y) : fallW S y < fallW S x := by
  cases hx : isArt S x with
  | true =>
    obtain ⟨r, hr, rfl⟩ := isArt_iff.1 hx
    rw [pM_art hn hr hx] at h
    have hy : y ∈ r.refs := List.mem_of_getLast? h
    have e1 : fallW S r.id = 2 * r.date + 1 := by unfold fallW; rw [find_art hn hr]
    rw [e1]
    cases hya : isArt S y with
    | true =>
      obtain ⟨p, hp, rfl⟩ := isArt_iff.1 hya
      have e2 : fallW S p.id = 2 * p.date + 1 := by unfold fallW; rw [find_art hn hp]
      have := hd r hr _ hy p hp rfl
      omega
    | false =>
      have hno : S.find? (fun a => decide (a.id = y)) = none := List.find?_eq_none.2 fun a ha he => by
        have := isArt_iff.2 ⟨a, ha, of_decide_eq_true he⟩
        rw [hya] at this
        cases this
      cases hf : S.find? (fun a => decide (a.refs.getLast? = some y)) with
      | none =>
        have := List.find?_eq_none.1 hf r hr
        simp [h] at this
      | some s =>
        have e2 : fallW S y = 2 * s.date := by unfold fallW; rw [hno, hf]
        have := first_le hs hf hr (decide_eq_true h)
        omega
  | false =>
    obtain ⟨hya, _⟩ := pM_mis hx h
    obtain ⟨p, hp, rfl⟩ := isArt_iff.1 hya
    have hno : S.find? (fun a => decide (a.id = x)) = none := List.find?_eq_none.2 fun a ha he => by
      have := isArt_iff.2 ⟨a, ha, of_decide_eq_true he⟩
      rw [hx] at this
      cases this
    unfold pM at h
    rw [if_neg (by rw [hx]; decide)] at h
    have h : (S.find? fun a => decide (a.refs.getLast? = some x)).bind (farther (isArt S)) = some p.id := by
      refine Eq.trans ?_ h
      congr 2 <;> (funext r; exact decide_eq_decide.2 Iff.rfl)
    cases hf : S.find? (fun a => decide (a.refs.getLast? = some x)) with
    | none => rw [hf] at h; cases h
    | some s =>
      rw [hf] at h
      have h : farther (isArt S) s = some p.id := h
      have hmem : p.id ∈ s.refs := by
        unfold farther at h
        have h1 := List.mem_of_find?_eq_some h
        exact (List.dropLast_sublist _).mem (List.mem_reverse.1 h1)
      have e1 : fallW S x = 2 * s.date := by unfold fallW; rw [hno, hf]
      have e2 : fallW S p.id = 2 * p.date + 1 := by unfold fallW; rw [find_art hn hp]
      have := hd s (List.mem_of_find?_eq_some hf) _ hmem p hp rfl
      omega
theorem falls_it {p : Par} {W : IdB → Int} (h : ∀ x y, p x = some y → W y < W x) : ∀ (n : Nat) (x y : IdB), it p n x = some y → W y ≤ W x - n
  | 0, x, y, e => by
    obtain rfl : x = y := Option.some.inj e
    omega
  | n + 1, x, y, e => by
    rw [it_succ] at e
    cases hz : it p n x with
    | none => rw [hz] at e; cases e
    | some z =>
      rw [hz] at e
      have h1 := falls_it h n x z hz
      have h2 := h z y e
      omega
theorem falls_cycle {p : Par} {W : IdB → Int} (h : ∀ x y, p x = some y → W y < W x) (x : IdB) : ¬ onC p x := by
  rintro ⟨n, hn⟩
  have := falls_it h (n + 1) x x hn
  omega
theorem mem_arrS' {L : List RowV} {r : Tw} : r ∈ arrS L ↔ ∃ R ∈ L, R.tw = r := by
  rw [(arrS_perm L).mem_iff, List.mem_map]
/-- The question of a row that is shown lies ahead of it. -/
theorem precedes {L S : List RowV} (hn : (L.map (·.id)).Nodup) (hS : ∀ r ∈ S, r ∈ L) (hnS : (S.map (·.id)).Nodup) (hd : Dated L) {c : Par} (hc : IsCut (pM (isArt (arrS S)) (arrS S)) (arrS S) c) {F : List NodeV} (hg : Good S c F) {R : RowV} (hR : R ∈ S) {q : IdB} (hq : R.refs.getLast? = some q) {p : Nat} (hp : p < F.length) (he : F[p].id = R.id) :
    ∀ k (hk : k < F.length), p < k → F[k].id ≠ q := by
  have hfall : ∀ x y, pM (isArt (arrS S)) (arrS S) x = some y → fallW (arrS S) y < fallW (arrS S) x := fun x y h => falls (arrS_nodup hnS) (arrS_asc hnS) (fun r hr q hq p hp e => by
    obtain ⟨R1, h1, rfl⟩ := mem_arrS'.1 hr
    obtain ⟨R2, h2, rfl⟩ := mem_arrS'.1 hp
    exact hd R1 (hS R1 h1) q hq R2 (hS R2 h2) e) h
  have hcp := cut_none hc (falls_cycle hfall)
  have hcR : c R.id = some q := by
    rw [hcp]
    have h1 : R.tw ∈ arrS S := mem_arrS'.2 ⟨R, hR, rfl⟩
    have h2 := pM_art (A := isArt (arrS S)) (arrS_nodup hnS) h1 (isArt_iff.2 ⟨R.tw, h1, rfl⟩)
    exact h2.trans hq
  intro k hk hpk hkq
  rcases hg.ok p F[p] (List.getElem?_eq_getElem hp) with ⟨_, h1⟩ | ⟨j, m, hj, hm, _, h1⟩
  · rw [he, hcR] at h1
    cases h1
  · rw [he, hcR] at h1
    have h2 : q = m.id := Option.some.inj h1
    obtain ⟨hjl, rfl⟩ := List.getElem?_eq_some_iff.1 hm
    have hnd := hg.nodup
    rw [List.nodup_iff_pairwise_ne, List.pairwise_map, List.pairwise_iff_getElem] at hnd
    exact hnd j k hjl hk (by omega) (by rw [hkq, h2])
/-- A row stands in the listing, not missing, exactly if it is shown. -/
theorem listed {L S : List RowV} {p : RowV → Bool} (hn : (L.map (·.id)).Nodup) (hS : L.filter p = S) {c : Par} {F : List NodeV} (hg : Good S c F) {R : RowV} (hR : R ∈ L) : p R = true ↔ ∃ (k : Nat) (h : k < F.length), F[k].id = R.id ∧ (F[k].row == -1) = false := by
  constructor
  · intro h
    have h1 : R ∈ S := by rw [← hS]; exact List.mem_filter.2 ⟨hR, h⟩
    obtain ⟨n, hnF, e⟩ := List.mem_map.1 (hg.all R h1)
    obtain ⟨k, hk, rfl⟩ := List.mem_iff_getElem.1 hnF
    refine ⟨k, hk, e, ?_⟩
    rw [hg.row _ hnF, e]
    have h2 : ¬ idxL S R.id < 0 := fun h3 => idxL_nonneg.1 h3 R h1 rfl
    have h3 : idxL S R.id ≠ -1 := by omega
    simpa using h3
  · rintro ⟨k, hk, e, hm⟩
    rw [hg.row _ (List.getElem_mem hk), e] at hm
    have h1 := idxL_ge S R.id
    have h2 : idxL S R.id ≠ -1 := by simpa using hm
    obtain ⟨i, hi, _, hid⟩ := idxL_pos (L := S) (x := R.id) (by omega)
    have h3 : S[i] ∈ L.filter p := by rw [hS]; exact List.getElem_mem hi
    obtain ⟨h4, h5⟩ := List.mem_filter.1 h3
    rw [same_row hn hR h4 hid.symm]
    exact h5
set_option maxRecDepth 100000 in
set_option maxHeartbeats 2000000 in
theorem dated_any {w : World} (v : Value) (L : List RowV) (hv : RowsAt w v L) (hl : L.length ≤ 4096) (hrf : ∀ x ∈ L, x.refs.length ≤ 20) (hn : (L.map (·.id)).Nodup) (d : Bool) (hd : d = true ↔ Dated L) :
    Calls Try.prog 23 #[v] w fun e w' => e = .returned (.bool d) ∧ Below w.heap.size w w' := by
  obtain ⟨va, vc, rfl⟩ := hv.l.form
  obtain ⟨N, hN⟩ : ∃ N, L.length = N := ⟨_, rfl⟩
  rw [hN] at hv hl ⊢
  have HV := Lib.hid hv
  have HN := Lib.hid hN
  have HRF := Lib.hid hrf
  have HUN := Lib.hid (show ∀ a ∈ L, ∀ b ∈ L, a.id = b.id → a = b from fun a ha b hb e => same_row hn ha hb e)
  have HD := Lib.hid (show d = true ↔ Dated L from hd)
  have HL := Lib.hid (show L.length < 1000000000 by omega)
  clear hv hN hrf hd hn
  go_enter Try.func23, Try.ntmps23
  go_wp2_with fail
  have HB0 := Lib.hid (Below.refl w.heap.size w)
  have HI0 := Lib.hid (show ∀ j (h : j < L.length), j < 0 → RowOk L L[j] L[j].refs from fun j _ h => absurd h (Nat.not_lt_zero j))
  go_loopw [3] (fun iv wr => ∃ i : Nat, i ≤ N ∧ iv = .int .i64 (i : Int) ∧ Hid (∀ j (h : j < L.length), j < i → RowOk L L[j] L[j].refs) ∧ Hid (Below w.heap.size w wr)) (fun iv _ => N - (intOf iv).toNat)
  case atStart => exact ⟨0, Nat.zero_le _, rfl, HI0, HB0⟩
  case round =>
    obtain ⟨i, hi, rfl, HI, HB⟩ := hrel
    obtain ⟨W0, rfl⟩ : ∃ W0, W0 = wr := ⟨_, rfl⟩
    clear HI0 HB0
    by_cases hlt : i < N
    case neg =>
      obtain rfl : N = i := by omega
      have hdt : d = true := HD.out.2 fun r hr => by
        obtain ⟨j, hj, rfl⟩ := List.mem_iff_getElem.1 hr
        exact HI.out j hj (by rw [← HN.out]; exact hj)
      subst hdt
      go_wp2_with fail
      exact bodyPost_ret (v := .bool true) (by simp [results, Try.results23, go_sem]) rfl ⟨rfl, HB.out⟩
    have hiI : (i : Int) < (N : Int) := by omega
    have hiL : i < L.length := by rw [HN.out]; exact hlt
    obtain ⟨R, hR⟩ : ∃ R, L[i] = R := ⟨_, rfl⟩
    have hmem : R ∈ L := by rw [← hR]; exact List.getElem_mem hiL
    obtain ⟨g, off, n9, c9, e9, hr, hrl⟩ := row_at HV.out hiL
    cases e9
    rw [hR] at hr hrl
    obtain ⟨ra, rc, hre⟩ := hrl.form
    obtain ⟨K, hK⟩ : ∃ K, R.refs.length = K := ⟨_, rfl⟩
    have hK20 : K ≤ 20 := by rw [← hK]; exact HRF.out R hmem
    rw [hre, hK] at hrl
    have HRL := Lib.hid hrl
    have HK := Lib.hid hK
    have HMEM := Lib.hid hmem
    have HRE := Lib.hid hR
    have HCX := Lib.hid (show ∀ w', Below w.heap.size w w' → w'.cell? ⟨g, off + i * 83 + 48, none⟩ = some (.int .i64 R.date) ∧ w'.cell? ⟨g, off + i * 83 + 50, none⟩ = some (.slice ra K rc) from fun w' hw' => by
      have h1 := range_below hr (World.block_lt_of_cell? _ _ (row_mid hr).1) hw'
      obtain ⟨m1, _, m3⟩ := row_mid h1
      rw [hre, hK] at m3
      exact ⟨m1, m3⟩)
    have HDX := Lib.hid (show ∀ m (h : m < L.length) w', Below w.heap.size w w' → w'.cell? ⟨g, off + m * 83 + 48, none⟩ = some (.int .i64 L[m].date) from fun m h w' hw' => by
      obtain ⟨g', o', n', c', e9, hr', _⟩ := row_at HV.out h
      cases e9
      have h1 := range_below hr' (World.block_lt_of_cell? _ _ (row_mid hr').1) hw'
      exact (row_mid h1).1)
    clear hr hrl hre hK hmem hR
    have HK0 := Lib.hid (show RowOk L R (R.refs.take 0) from fun q hq => by rw [List.take_zero] at hq; cases hq)
    have HB1 := HB
    go_wp2_with fail
    go_loopw [4] (fun kv wr => ∃ k : Nat, k ≤ K ∧ kv = .int .i64 (k : Int) ∧ Hid (RowOk L R (R.refs.take k)) ∧ Hid (Below w.heap.size w wr)) (fun kv _ => K - (intOf kv).toNat)
    case atStart => exact ⟨0, Nat.zero_le _, rfl, HK0, HB1⟩
    case round =>
      obtain ⟨k, hk, rfl, HKO, HBW⟩ := hrel
      obtain ⟨W1, rfl⟩ : ∃ W1, W1 = wr := ⟨_, rfl⟩
      clear HK0 HB1
      obtain ⟨hcd, hcs⟩ := HCX.out W1 HBW.out
      by_cases hkl : k < K
      case neg =>
        obtain rfl : K = k := by omega
        have HIN := Lib.hid (show ∀ j (h : j < L.length), j < i + 1 → RowOk L L[j] L[j].refs from fun j h hj => by
          by_cases e : j = i
          · subst e
            have h1 := HKO.out
            rw [List.take_of_length_le (by rw [HK.out]; exact Nat.le_refl _)] at h1
            rw [HRE.out]
            exact h1
          · exact HI.out j h (by omega))
        go_wp2_with fail
        go_roundw
        case rel => exact ⟨i + 1, by omega, by go_num, HIN, HBW⟩
        case measure => simp [intOf] <;> omega
      have hkI : (k : Int) < (K : Int) := by omega
      have hkR : k < R.refs.length := by rw [HK.out]; exact hkl
      obtain ⟨q, hq⟩ : ∃ q, R.refs[k] = q := ⟨_, rfl⟩
      obtain ⟨gr, or_, e9, hgr, hrr⟩ := (HRL.out.below HBW.out).get hkR
      subst e9
      rw [hq] at hrr
      have HQ := Lib.hid (show W1.rangeAt gr (or_ + k * 32) (bvs q.1) from hrr)
      have HTK := Lib.hid (show R.refs.take (k + 1) = R.refs.take k ++ [q] by rw [List.take_succ_eq_append_getElem hkR, hq])
      clear hrr hq hgr
      go_wp2_with (with_reducible refine wpList_load_mid rfl 31 (.tmp 29) rfl gr (or_ + k * 32) rfl (bvs q.1) _ HQ.out Try.underlying31 rfl (sizeId q) ?_; refine Stop.on ?_)
      refine Stop.go ?_
      try simp only [Act.put, List.setIfInBounds_toArray, List.set_cons_zero, List.set_cons_succ]
      go_wp2_with fail
      refine (row_any _ L q (HV.out.below HBW.out) HL.out).mono ?_
      rintro e W2 ⟨rfl, hb⟩
      have HB2 := Lib.hid (HBW.out.trans (hb.mono HBW.out.size))
      clear hb hcd hcs
      rcases rowIx_cases L q with ⟨hix, hno⟩ | ⟨m, hm, hix, hid⟩
      · rw [hix]
        have HKN := Lib.hid (show RowOk L R (R.refs.take (k + 1)) from fun z hz p hp e => by
          rw [HTK.out] at hz
          rcases List.mem_append.1 hz with hz | hz
          · exact HKO.out z hz p hp e
          · rw [List.mem_singleton.1 hz] at e
            exact absurd e (hno p hp))
        clear hix hno
        go_wp2_with fail
        refine wp_region_noPanic ?_
        refine wp_region_H (Below W2.heap.size W2) (by kernel_rfl) ?_
        have hS0 : (Below W2.heap.size W2) W2.drew := (Below.refl _ _).drew
        obtain ⟨wd, hwd⟩ : ∃ wd, W2.drew = wd := ⟨_, rfl⟩
        rw [hwd] at hS0  ⊢
        clear hwd
        refine wpAnyH_takeI (i := 0) (v := ?v1) rfl (by kernel_rfl) (by kernel_rfl) (by kernel_rfl) (fun _ _ _ h => h) (yieldsIf_run rfl (fun w' hw' => ?y1)) hS0 ?_
        case y1 => first | (go_simp; rfl) | (go_simp; done) | rfl
        simp only [Act.put, List.setIfInBounds_toArray, List.set_cons_zero, List.set_cons_succ]
        refine wpAnyH_takeI (i := 1) (v := ?v2) rfl (by kernel_rfl) (by kernel_rfl) (by kernel_rfl) (fun _ _ _ h => h) (yieldsIf_run rfl (fun w' hw' => ?y2)) hS0 ?_
        case y2 => first | (go_simp; rfl) | (go_simp; done) | rfl
        simp only [Act.put, List.setIfInBounds_toArray, List.set_cons_zero, List.set_cons_succ]
        refine wpAnyH_takeI (i := 2) (v := ?v3) rfl (by kernel_rfl) (by kernel_rfl) (by kernel_rfl) (fun _ _ _ h => h) (yieldsIf_run rfl (fun w' hw' => ?y3)) hS0 ?_
        case y3 => first | (go_simp; rfl) | (go_simp; done) | rfl
        simp only [Act.put, List.setIfInBounds_toArray, List.set_cons_zero, List.set_cons_succ]
        refine wpAnyH_takeI (i := 3) (v := undef) rfl (by kernel_rfl) (by kernel_rfl) (by kernel_rfl) (fun _ _ _ h => h) (yieldsIf_skip rfl) hS0 ?_
        simp only [Act.put, List.setIfInBounds_toArray, List.set_cons_zero, List.set_cons_succ]
        refine wpAnyH_takeI (i := 4) (v := undef) rfl (by kernel_rfl) (by kernel_rfl) (by kernel_rfl) (fun _ _ _ h => h) (yieldsIf_skip rfl) hS0 ?_
        simp only [Act.put, List.setIfInBounds_toArray, List.set_cons_zero, List.set_cons_succ]
        refine wpAnyH_takeI (i := 5) (v := undef) rfl (by kernel_rfl) (by kernel_rfl) (by kernel_rfl) (fun _ _ _ h => h) (yieldsIf_skip rfl) hS0 ?_
        simp only [Act.put, List.setIfInBounds_toArray, List.set_cons_zero, List.set_cons_succ]
        refine wpAnyH_takeI (i := 6) (v := undef) rfl (by kernel_rfl) (by kernel_rfl) (by kernel_rfl) (fun _ _ _ h => h) (yieldsIf_skip rfl) hS0 ?_
        simp only [Act.put, List.setIfInBounds_toArray, List.set_cons_zero, List.set_cons_succ]
        refine wpAnyH_takeI (i := 7) (v := undef) rfl (by kernel_rfl) (by kernel_rfl) (by kernel_rfl) (fun _ _ _ h => h) (yieldsIf_skip rfl) hS0 ?_
        simp only [Act.put, List.setIfInBounds_toArray, List.set_cons_zero, List.set_cons_succ]
        refine wpAnyH_takeI (i := 8) (v := undef) rfl (by kernel_rfl) (by kernel_rfl) (by kernel_rfl) (fun _ _ _ h => h) (yieldsIf_skip rfl) hS0 ?_
        simp only [Act.put, List.setIfInBounds_toArray, List.set_cons_zero, List.set_cons_succ]
        refine wpAnyH_takeI (i := 9) (v := undef) rfl (by kernel_rfl) (by kernel_rfl) (by kernel_rfl) (fun _ _ _ h => h) (yieldsIf_skip rfl) hS0 ?_
        simp only [Act.put, List.setIfInBounds_toArray, List.set_cons_zero, List.set_cons_succ]
        refine wpAnyH_takeI (i := 10) (v := undef) rfl (by kernel_rfl) (by kernel_rfl) (by kernel_rfl) (fun _ _ _ h => h) (yieldsIf_skip rfl) hS0 ?_
        simp only [Act.put, List.setIfInBounds_toArray, List.set_cons_zero, List.set_cons_succ]
        refine wpAnyH_takeI (i := 11) (v := undef) rfl (by kernel_rfl) (by kernel_rfl) (by kernel_rfl) (fun _ _ _ h => h) (yieldsIf_skip rfl) hS0 ?_
        simp only [Act.put, List.setIfInBounds_toArray, List.set_cons_zero, List.set_cons_succ]
        refine wpAnyH_takeI (i := 12) (v := undef) rfl (by kernel_rfl) (by kernel_rfl) (by kernel_rfl) (fun _ _ _ h => h) (yieldsIf_skip rfl) hS0 ?_
        simp only [Act.put, List.setIfInBounds_toArray, List.set_cons_zero, List.set_cons_succ]
        refine wpAnyH_takeI (i := 13) (v := undef) rfl (by kernel_rfl) (by kernel_rfl) (by kernel_rfl) (fun _ _ _ h => h) (yieldsIf_skip rfl) hS0 ?_
        simp only [Act.put, List.setIfInBounds_toArray, List.set_cons_zero, List.set_cons_succ]
        refine wpAnyH_takeI (i := 14) (v := ?v4) rfl (by kernel_rfl) (by kernel_rfl) (by kernel_rfl) (fun _ _ _ h => h) (yieldsIf_run rfl (fun w' hw' => ?y4)) hS0 ?_
        case y4 => first | (go_simp; rfl) | (go_simp; done) | rfl
        simp only [Act.put, List.setIfInBounds_toArray, List.set_cons_zero, List.set_cons_succ]
        refine wpAnyH_done (by kernel_rfl) ?_ _
        refine NoPanic.normal ?_
        have HBN := Lib.hid (HB2.out.trans (hS0.mono HB2.out.size))
        go_wp2_with fail
        go_roundw
        case rel => exact ⟨k + 1, by omega, by go_num, HKN, HBN⟩
        case measure => simp [intOf] <;> omega
      · rw [hix]
        obtain ⟨P, hP⟩ : ∃ P, L[m] = P := ⟨_, rfl⟩
        have hPm : P ∈ L := by rw [← hP]; exact List.getElem_mem hm
        have hmI : (m : Int) < (N : Int) := by have := HN.out; omega
        obtain ⟨d1, hd1⟩ : ∃ d1, P.date = d1 := ⟨_, rfl⟩
        obtain ⟨d2, hd2⟩ : ∃ d2, R.date = d2 := ⟨_, rfl⟩
        have HNC := Lib.hid (show ∀ w', Below W2.heap.size W2 w' → w'.cell? ⟨g, off + i * 83 + 48, none⟩ = some (.int .i64 d2) ∧ w'.cell? ⟨g, off + m * 83 + 48, none⟩ = some (.int .i64 d1) from fun w' hw' => by
          have hbb := HB2.out.trans (hw'.mono HB2.out.size)
          have h1 := HDX.out m hm w' hbb
          rw [hP, hd1] at h1
          have h2 := (HCX.out w' hbb).1
          rw [hd2] at h2
          exact ⟨h2, h1⟩)
        rw [hP] at hid
        by_cases hge : d2 ≤ d1
        case pos =>
          have hge' : decide (d2 ≤ d1) = true := decide_eq_true hge
          have hdf : d = false := by
            cases d with
            | false => rfl
            | true =>
              have h1 := HD.out.1 rfl R HMEM.out q (by
                have h2 : q ∈ R.refs.take (k + 1) := by rw [HTK.out]; exact List.mem_append_right _ (List.mem_singleton.2 rfl)
                exact (List.take_sublist _ _).mem h2) P hPm hid
              omega
          subst hdf
          clear hix hP hd1 hd2 hid hPm
          go_wp2_with fail
          refine wp_region_noPanic ?_
          refine wp_region_H (Below W2.heap.size W2) (by kernel_rfl) ?_
          have hS0 : (Below W2.heap.size W2) W2.drew := (Below.refl _ _).drew
          obtain ⟨wd, hwd⟩ : ∃ wd, W2.drew = wd := ⟨_, rfl⟩
          rw [hwd] at hS0  ⊢
          clear hwd
          refine wpAnyH_takeI (i := 0) (v := ?v5) rfl (by kernel_rfl) (by kernel_rfl) (by kernel_rfl) (fun _ _ _ h => h) (yieldsIf_run rfl (fun w' hw' => ?y5)) hS0 ?_
          case y5 => first | (go_simp; rfl) | (go_simp; done) | rfl
          simp only [Act.put, List.setIfInBounds_toArray, List.set_cons_zero, List.set_cons_succ]
          refine wpAnyH_takeI (i := 1) (v := ?v6) rfl (by kernel_rfl) (by kernel_rfl) (by kernel_rfl) (fun _ _ _ h => h) (yieldsIf_run rfl (fun w' hw' => ?y6)) hS0 ?_
          case y6 => first | (go_simp; rfl) | (go_simp; done) | rfl
          simp only [Act.put, List.setIfInBounds_toArray, List.set_cons_zero, List.set_cons_succ]
          refine wpAnyH_takeI (i := 2) (v := ?v7) rfl (by kernel_rfl) (by kernel_rfl) (by kernel_rfl) (fun _ _ _ h => h) (yieldsIf_run rfl (fun w' hw' => ?y7)) hS0 ?_
          case y7 => first | (go_simp; rfl) | (go_simp; done) | rfl
          simp only [Act.put, List.setIfInBounds_toArray, List.set_cons_zero, List.set_cons_succ]
          refine wpAnyH_takeI (i := 3) (v := ?v8) rfl (by kernel_rfl) (by kernel_rfl) (by kernel_rfl) (fun _ _ _ h => h) (yieldsIf_want rfl (fun w' hw' => ?y8)) hS0 ?_
          case y8 => first | (go_simp; rfl) | (go_simp; done) | rfl
          simp only [Act.put, List.setIfInBounds_toArray, List.set_cons_zero, List.set_cons_succ]
          refine wpAnyH_takeI (i := 4) (v := ?v9) rfl (by kernel_rfl) (by kernel_rfl) (by kernel_rfl) (fun _ _ _ h => h) (yieldsIf_want rfl (fun w' hw' => ?y9)) hS0 ?_
          case y9 => first | (go_simp; rfl) | (go_simp; done) | rfl
          simp only [Act.put, List.setIfInBounds_toArray, List.set_cons_zero, List.set_cons_succ]
          refine wpAnyH_takeI (i := 5) (v := ?v10) rfl (by kernel_rfl) (by kernel_rfl) (by kernel_rfl) (fun _ _ _ h => h) (yieldsIf_want rfl (fun w' hw' => ?y10)) hS0 ?_
          case y10 => first | (go_simp; rfl) | (go_simp; done) | rfl
          simp only [Act.put, List.setIfInBounds_toArray, List.set_cons_zero, List.set_cons_succ]
          refine wpAnyH_takeI (i := 6) (v := ?v11) rfl (by kernel_rfl) (by kernel_rfl) (by kernel_rfl) (fun _ _ _ h => h) (yieldsIf_want rfl (fun w' hw' => ?y11)) hS0 ?_
          case y11 => first | (go_simp; rfl) | (go_simp; done) | rfl
          simp only [Act.put, List.setIfInBounds_toArray, List.set_cons_zero, List.set_cons_succ]
          refine wpAnyH_takeI (i := 7) (v := ?v12) rfl (by kernel_rfl) (by kernel_rfl) (by kernel_rfl) (fun _ _ _ h => h) (yieldsIf_want rfl (fun w' hw' => ?y12)) hS0 ?_
          case y12 => (obtain ⟨h1, h2⟩ := HNC.out w' hw'; clear hw'; first | (go_simp; rfl) | (go_simp; done))
          simp only [Act.put, List.setIfInBounds_toArray, List.set_cons_zero, List.set_cons_succ]
          refine wpAnyH_takeI (i := 8) (v := ?v13) rfl (by kernel_rfl) (by kernel_rfl) (by kernel_rfl) (fun _ _ _ h => h) (yieldsIf_want rfl (fun w' hw' => ?y13)) hS0 ?_
          case y13 => first | (go_simp; rfl) | (go_simp; done) | rfl
          simp only [Act.put, List.setIfInBounds_toArray, List.set_cons_zero, List.set_cons_succ]
          refine wpAnyH_takeI (i := 9) (v := ?v14) rfl (by kernel_rfl) (by kernel_rfl) (by kernel_rfl) (fun _ _ _ h => h) (yieldsIf_want rfl (fun w' hw' => ?y14)) hS0 ?_
          case y14 => first | (go_simp; rfl) | (go_simp; done) | rfl
          simp only [Act.put, List.setIfInBounds_toArray, List.set_cons_zero, List.set_cons_succ]
          refine wpAnyH_takeI (i := 10) (v := ?v15) rfl (by kernel_rfl) (by kernel_rfl) (by kernel_rfl) (fun _ _ _ h => h) (yieldsIf_want rfl (fun w' hw' => ?y15)) hS0 ?_
          case y15 => first | (go_simp; rfl) | (go_simp; done) | rfl
          simp only [Act.put, List.setIfInBounds_toArray, List.set_cons_zero, List.set_cons_succ]
          refine wpAnyH_takeI (i := 11) (v := ?v16) rfl (by kernel_rfl) (by kernel_rfl) (by kernel_rfl) (fun _ _ _ h => h) (yieldsIf_want rfl (fun w' hw' => ?y16)) hS0 ?_
          case y16 => first | (go_simp; rfl) | (go_simp; done) | rfl
          simp only [Act.put, List.setIfInBounds_toArray, List.set_cons_zero, List.set_cons_succ]
          refine wpAnyH_takeI (i := 12) (v := ?v17) rfl (by kernel_rfl) (by kernel_rfl) (by kernel_rfl) (fun _ _ _ h => h) (yieldsIf_want rfl (fun w' hw' => ?y17)) hS0 ?_
          case y17 => (obtain ⟨h1, h2⟩ := HNC.out w' hw'; clear hw'; first | (go_simp; rfl) | (go_simp; done))
          simp only [Act.put, List.setIfInBounds_toArray, List.set_cons_zero, List.set_cons_succ]
          refine wpAnyH_takeI (i := 13) (v := ?v18) rfl (by kernel_rfl) (by kernel_rfl) (by kernel_rfl) (fun _ _ _ h => h) (yieldsIf_want rfl (fun w' hw' => ?y18)) hS0 ?_
          case y18 => first | (go_simp; rfl) | (go_simp; done) | rfl
          simp only [Act.put, List.setIfInBounds_toArray, List.set_cons_zero, List.set_cons_succ]
          refine wpAnyH_takeI (i := 14) (v := ?v19) rfl (by kernel_rfl) (by kernel_rfl) (by kernel_rfl) (fun _ _ _ h => h) (yieldsIf_run rfl (fun w' hw' => ?y19)) hS0 ?_
          case y19 => first | (go_simp; rfl) | (go_simp; done) | rfl
          simp only [Act.put, List.setIfInBounds_toArray, List.set_cons_zero, List.set_cons_succ]
          refine wpAnyH_done (by kernel_rfl) ?_ _
          refine NoPanic.normal ?_
          have HBN := Lib.hid (HB2.out.trans (hS0.mono HB2.out.size))
          go_wp2_with fail
          exact bodyPost_ret (v := .bool false) (by simp [results, Try.results23, go_sem]) rfl ⟨rfl, HBN.out⟩
        have hge' : decide (d2 ≤ d1) = false := decide_eq_false hge
        have HKN := Lib.hid (show RowOk L R (R.refs.take (k + 1)) from fun z hz p hp e => by
          rw [HTK.out] at hz
          rcases List.mem_append.1 hz with hz | hz
          · exact HKO.out z hz p hp e
          · rw [List.mem_singleton.1 hz] at e
            rcases rowIx_cases L q with ⟨h1, _⟩ | ⟨m', hm', h1, h2⟩
            · omega
            · obtain rfl : m = m' := by omega
              rw [hd2]
              have h3 := HUN.out p hp P hPm (by rw [e, hid])
              rw [h3, hd1]
              omega)
        clear hix hP hd1 hd2 hid hPm
        go_wp2_with fail
        refine wp_region_noPanic ?_
        refine wp_region_H (Below W2.heap.size W2) (by kernel_rfl) ?_
        have hS0 : (Below W2.heap.size W2) W2.drew := (Below.refl _ _).drew
        obtain ⟨wd, hwd⟩ : ∃ wd, W2.drew = wd := ⟨_, rfl⟩
        rw [hwd] at hS0  ⊢
        clear hwd
        refine wpAnyH_takeI (i := 0) (v := ?v20) rfl (by kernel_rfl) (by kernel_rfl) (by kernel_rfl) (fun _ _ _ h => h) (yieldsIf_run rfl (fun w' hw' => ?y20)) hS0 ?_
        case y20 => first | (go_simp; rfl) | (go_simp; done) | rfl
        simp only [Act.put, List.setIfInBounds_toArray, List.set_cons_zero, List.set_cons_succ]
        refine wpAnyH_takeI (i := 1) (v := ?v21) rfl (by kernel_rfl) (by kernel_rfl) (by kernel_rfl) (fun _ _ _ h => h) (yieldsIf_run rfl (fun w' hw' => ?y21)) hS0 ?_
        case y21 => first | (go_simp; rfl) | (go_simp; done) | rfl
        simp only [Act.put, List.setIfInBounds_toArray, List.set_cons_zero, List.set_cons_succ]
        refine wpAnyH_takeI (i := 2) (v := ?v22) rfl (by kernel_rfl) (by kernel_rfl) (by kernel_rfl) (fun _ _ _ h => h) (yieldsIf_run rfl (fun w' hw' => ?y22)) hS0 ?_
        case y22 => first | (go_simp; rfl) | (go_simp; done) | rfl
        simp only [Act.put, List.setIfInBounds_toArray, List.set_cons_zero, List.set_cons_succ]
        refine wpAnyH_takeI (i := 3) (v := ?v23) rfl (by kernel_rfl) (by kernel_rfl) (by kernel_rfl) (fun _ _ _ h => h) (yieldsIf_want rfl (fun w' hw' => ?y23)) hS0 ?_
        case y23 => first | (go_simp; rfl) | (go_simp; done) | rfl
        simp only [Act.put, List.setIfInBounds_toArray, List.set_cons_zero, List.set_cons_succ]
        refine wpAnyH_takeI (i := 4) (v := ?v24) rfl (by kernel_rfl) (by kernel_rfl) (by kernel_rfl) (fun _ _ _ h => h) (yieldsIf_want rfl (fun w' hw' => ?y24)) hS0 ?_
        case y24 => first | (go_simp; rfl) | (go_simp; done) | rfl
        simp only [Act.put, List.setIfInBounds_toArray, List.set_cons_zero, List.set_cons_succ]
        refine wpAnyH_takeI (i := 5) (v := ?v25) rfl (by kernel_rfl) (by kernel_rfl) (by kernel_rfl) (fun _ _ _ h => h) (yieldsIf_want rfl (fun w' hw' => ?y25)) hS0 ?_
        case y25 => first | (go_simp; rfl) | (go_simp; done) | rfl
        simp only [Act.put, List.setIfInBounds_toArray, List.set_cons_zero, List.set_cons_succ]
        refine wpAnyH_takeI (i := 6) (v := ?v26) rfl (by kernel_rfl) (by kernel_rfl) (by kernel_rfl) (fun _ _ _ h => h) (yieldsIf_want rfl (fun w' hw' => ?y26)) hS0 ?_
        case y26 => first | (go_simp; rfl) | (go_simp; done) | rfl
        simp only [Act.put, List.setIfInBounds_toArray, List.set_cons_zero, List.set_cons_succ]
        refine wpAnyH_takeI (i := 7) (v := ?v27) rfl (by kernel_rfl) (by kernel_rfl) (by kernel_rfl) (fun _ _ _ h => h) (yieldsIf_want rfl (fun w' hw' => ?y27)) hS0 ?_
        case y27 => (obtain ⟨h1, h2⟩ := HNC.out w' hw'; clear hw'; first | (go_simp; rfl) | (go_simp; done))
        simp only [Act.put, List.setIfInBounds_toArray, List.set_cons_zero, List.set_cons_succ]
        refine wpAnyH_takeI (i := 8) (v := ?v28) rfl (by kernel_rfl) (by kernel_rfl) (by kernel_rfl) (fun _ _ _ h => h) (yieldsIf_want rfl (fun w' hw' => ?y28)) hS0 ?_
        case y28 => first | (go_simp; rfl) | (go_simp; done) | rfl
        simp only [Act.put, List.setIfInBounds_toArray, List.set_cons_zero, List.set_cons_succ]
        refine wpAnyH_takeI (i := 9) (v := ?v29) rfl (by kernel_rfl) (by kernel_rfl) (by kernel_rfl) (fun _ _ _ h => h) (yieldsIf_want rfl (fun w' hw' => ?y29)) hS0 ?_
        case y29 => first | (go_simp; rfl) | (go_simp; done) | rfl
        simp only [Act.put, List.setIfInBounds_toArray, List.set_cons_zero, List.set_cons_succ]
        refine wpAnyH_takeI (i := 10) (v := ?v30) rfl (by kernel_rfl) (by kernel_rfl) (by kernel_rfl) (fun _ _ _ h => h) (yieldsIf_want rfl (fun w' hw' => ?y30)) hS0 ?_
        case y30 => first | (go_simp; rfl) | (go_simp; done) | rfl
        simp only [Act.put, List.setIfInBounds_toArray, List.set_cons_zero, List.set_cons_succ]
        refine wpAnyH_takeI (i := 11) (v := ?v31) rfl (by kernel_rfl) (by kernel_rfl) (by kernel_rfl) (fun _ _ _ h => h) (yieldsIf_want rfl (fun w' hw' => ?y31)) hS0 ?_
        case y31 => first | (go_simp; rfl) | (go_simp; done) | rfl
        simp only [Act.put, List.setIfInBounds_toArray, List.set_cons_zero, List.set_cons_succ]
        refine wpAnyH_takeI (i := 12) (v := ?v32) rfl (by kernel_rfl) (by kernel_rfl) (by kernel_rfl) (fun _ _ _ h => h) (yieldsIf_want rfl (fun w' hw' => ?y32)) hS0 ?_
        case y32 => (obtain ⟨h1, h2⟩ := HNC.out w' hw'; clear hw'; first | (go_simp; rfl) | (go_simp; done))
        simp only [Act.put, List.setIfInBounds_toArray, List.set_cons_zero, List.set_cons_succ]
        refine wpAnyH_takeI (i := 13) (v := ?v33) rfl (by kernel_rfl) (by kernel_rfl) (by kernel_rfl) (fun _ _ _ h => h) (yieldsIf_want rfl (fun w' hw' => ?y33)) hS0 ?_
        case y33 => first | (go_simp; rfl) | (go_simp; done) | rfl
        simp only [Act.put, List.setIfInBounds_toArray, List.set_cons_zero, List.set_cons_succ]
        refine wpAnyH_takeI (i := 14) (v := ?v34) rfl (by kernel_rfl) (by kernel_rfl) (by kernel_rfl) (fun _ _ _ h => h) (yieldsIf_run rfl (fun w' hw' => ?y34)) hS0 ?_
        case y34 => first | (go_simp; rfl) | (go_simp; done) | rfl
        simp only [Act.put, List.setIfInBounds_toArray, List.set_cons_zero, List.set_cons_succ]
        refine wpAnyH_done (by kernel_rfl) ?_ _
        refine NoPanic.normal ?_
        have HBN := Lib.hid (HB2.out.trans (hS0.mono HB2.out.size))
        go_wp2_with fail
        go_roundw
        case rel => exact ⟨k + 1, by omega, by go_num, HKN, HBN⟩
        case measure => simp [intOf] <;> omega
end Go.Proofs.Ytjjanjhoaiannaa
