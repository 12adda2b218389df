/- Path; ThreadWalks. -/
import Derived.Test.YthfinofmbnfijaaTh31
namespace Go.Proofs.Ythfinofmbnfijaa
open Go.Shelf Go.RowKit Go.Lib Go.Sort
set_option linter.unusedVariables false
set_option linter.unusedSimpArgs false

theorem putRow_chg {α : Type} [Inhabited α] {enc : α → Value} {w : World} {g m n cap : Nat} {dk : Array α} : Chg (fun k => (Value.slice (some ⟨g, 0, none⟩) n cap).ownBlock = some k) w (putRow enc (Sort.ahead w m) g 0 dk) := by
  refine ⟨rfl, rfl, rfl, ?_, fun k hk hne => ?_⟩
  · rw [size_putRow]; exact Nat.le_refl _
  · have hkg : g ≠ k := fun e => hne (by rw [e]; rfl)
    simp [putRow, mapBlock, Sort.ahead, Array.getElem?_modify, hkg]
/-- slices.Reverse at a list of one's own that is not empty. -/
theorem rev_any {w : World} {B : Nat} {v : Value} {C : List Nat} (h : OwnL natE w B v C) (hne : C ≠ []) (hl : C.length < 1000000) : Calls Try.prog 52 #[v] w fun e w' => e = .returned (.tuple #[]) ∧ OwnL natE w' B v C.reverse ∧ Chg (fun k => v.ownBlock = some k) w w' := by
  have hh : w.ownsRow B 3 1 v C.length (C.flatMap natE.enc) := h
  have hmap : C.flatMap natE.enc = (C.map fun n : Nat => (n : Int)).map (Value.int .i64) := by rw [natE_flat, List.map_map]; rfl
  rw [hmap] at hh
  have hv0 : v ≠ .slice none 0 0 := fun e => by
    rcases hh.2 with ⟨_, h1⟩ | ⟨g, cap, cur, e1, _⟩
    · exact hne (List.eq_nil_of_length_eq_zero h1)
    · rw [e1] at e; cases e
  obtain ⟨g, cap, rfl, hgB, hgw, hnc, hcm, _, hH⟩ := Lib.holds_of_ownsRow hh hv0
  have hlen : (C.map fun n : Nat => (n : Int)).length = C.length := List.length_map _
  have hcon := Any.slices_Reverse_int lays112 g 0 cap (C.map fun n : Nat => (n : Int)) w hH (by rw [hlen]; omega)
  rw [hlen] at hcon
  refine hcon.mono ?_
  rintro e w' ⟨rfl, m, rfl⟩
  refine ⟨rfl, ?_, putRow_chg⟩
  have hown := Lib.ownsRow_putRow (q := m) (k := C.length) (ys := (C.map fun n : Nat => (n : Int)).reverse) hh (by rw [List.length_reverse, hlen]) (Nat.le_refl _)
  rw [List.take_of_length_le (by rw [List.length_reverse, hlen]; exact Nat.le_refl _)] at hown
  show World.ownsRow _ B 3 1 _ C.reverse.length (C.reverse.flatMap natE.enc)
  rw [natE_flat, List.length_reverse]
  have e2 : C.reverse.map (fun n : Nat => Value.int .i64 (n : Int)) = (C.map fun n : Nat => (n : Int)).reverse.map (Value.int .i64) := by rw [← List.map_reverse, List.map_map]; rfl
  rw [e2]
  exact hown
set_option maxRecDepth 100000 in
set_option maxHeartbeats 2000000 in
theorem Path_any {w : World} (v : Value) (F : List NodeV) (hv : ListAt nodeE w v F) (hc : checkP F = 0) (hl : F.length < 1000000) (a : Int) : Calls Try.prog 38 #[v, .int .i64 a] w (NatsPost w (if inL F.length a then (chn F a.toNat).reverse else [])) := by
  obtain ⟨va, vc, rfl⟩ := hv.form
  obtain ⟨N, hN⟩ : ∃ N, F.length = N := ⟨_, rfl⟩
  have HN := Lib.hid hN
  have HV := Lib.hid (show ListAt nodeE w (.slice va N vc) F by rw [← hN]; exact hv)
  rw [hN] at hl ⊢
  have HCK := Lib.hid hc
  clear hv hN hc
  cases hin : inL N a with
  | false =>
    rw [if_neg (by simp)]
    have HO := Lib.hid (ownL_nil natE w w.heap.size)
    rcases inL_out hin with h | ⟨h1, h2⟩
    · have hd : decide (a < 0) = true := decide_eq_true h
      clear hin
      go_enter Try.func38, Try.ntmps38
      go_wp2_with fail
      exact bodyPost_ret (v := .slice none 0 0) (by simp [results, Try.results38, go_sem]) rfl ⟨_, rfl, HO.out, Below.refl _ _⟩
    · have hd : decide (a < 0) = false := decide_eq_false (by omega)
      have hd2 : decide ((N : Int) ≤ a) = true := decide_eq_true h2
      clear hin
      go_enter Try.func38, Try.ntmps38
      go_wp2_with fail
      exact bodyPost_ret (v := .slice none 0 0) (by simp [results, Try.results38, go_sem]) rfl ⟨_, rfl, HO.out, Below.refl _ _⟩
  | true =>
    rw [if_pos rfl]
    have hr := of_decide_eq_true hin
    obtain ⟨k, rfl⟩ : ∃ k : Nat, a = (k : Int) := ⟨a.toNat, by omega⟩
    rw [Int.toNat_natCast]
    have hkN : k < N := by omega
    have hkF : k < F.length := by rw [HN.out]; exact hkN
    have hd : decide ((k : Int) < 0) = false := decide_eq_false (by omega)
    have hd2 : decide ((N : Int) ≤ (k : Int)) = false := decide_eq_false (by omega)
    have hd3 : decide (N ≤ k) = false := decide_eq_false (by omega)
    have HCL := Lib.hid (show (chn F k).length ≤ k + 1 by
      have h1 := chn_len HCK.out hkF
      have h2 := chk_dep HCK.out k hkF
      omega)
    clear hin hr
    go_enter Try.func38, Try.ntmps38
    go_wp2_with (refine wpList_litN rfl (some 15) rfl (.tmp 14) rfl k rfl ?_; refine Stop.on ?_)
    refine Stop.go ?_
    try simp only [Act.put, List.setIfInBounds_toArray, List.set_cons_zero, List.set_cons_succ]
    intro Wl xl bl sl
    try simp only [Act.put, List.setIfInBounds_toArray, List.set_cons_zero, List.set_cons_succ]
    have HO0 := Lib.hid (show OwnL natE Wl w.heap.size (.slice (some ⟨w.heap.size, 0, none⟩) 1 1) (([] : List Nat) ++ [k]) from xl)
    have HB0 := Lib.hid bl
    have HX0 := Lib.hid (show chn F k = [] ++ chn F k from rfl)
    clear xl bl sl
    go_wp2_with fail
    go_loopw [1, 5] (fun iv ov wr => ∃ (m : Nat) (X : List Nat) (oa : Option Addr) (on oc : Nat), m < N ∧ on ≤ N ∧ iv = .int .i64 (m : Int) ∧ ov = .slice oa on oc ∧ Hid (chn F k = X ++ chn F m) ∧ Hid (OwnL natE wr w.heap.size (.slice oa on oc) (X ++ [m])) ∧ Hid (Below w.heap.size w wr)) (fun iv _ _ => (intOf iv).toNat)
    case atStart => exact ⟨k, [], _, 1, 1, hkN, by omega, rfl, rfl, HX0, HO0, HB0⟩
    case round =>
      obtain ⟨m, X, oa, on, oc, hm, hon, rfl, rfl, HX, HO, HB⟩ := hrel
      obtain ⟨W0, rfl⟩ : ∃ W0, W0 = wr := ⟨_, rfl⟩
      clear HX0 HO0 HB0
      obtain ⟨X2, hX2⟩ : ∃ X2, X ++ [m] = X2 := ⟨_, rfl⟩
      rw [hX2] at HO
      have HX2 := Lib.hid hX2
      clear hX2
      have hmF : m < F.length := by rw [HN.out]; exact hm
      have hmI : (m : Int) < (N : Int) := by omega
      obtain ⟨g, o, eg, hcell⟩ := node_at (HV.out.below HB.out) hmF
      subst eg
      obtain ⟨p, hp⟩ : ∃ p, F[m].parent = p := ⟨_, rfl⟩
      have hpc := (hcell W0 (Below.refl _ _)).2.1
      rw [hp] at hpc
      have hck := chk_all HCK.out m hmF
      have hb1 := hck.par
      have hb2 := hck.lt
      rw [hp] at hb1 hb2
      have HLEN := Lib.hid (show X2.length = on by obtain ⟨a', c', e⟩ := HO.out.form; cases e; rfl)
      have HP := Lib.hid hp
      clear hcell hp hck
      by_cases hp0 : 0 ≤ p
      case neg =>
        obtain rfl : p = -1 := by omega
        have HE := Lib.hid (show chn F k = X2 by rw [HX.out, chn_root HCK.out hmF HP.out, HX2.out])
        have HNE := Lib.hid (show X2 ≠ [] by rw [← HX2.out]; simp)
        have HLT := Lib.hid (show X2.length < 1000000 by rw [HLEN.out]; omega)
        go_wp2_with fail
        refine (rev_any HO.out HNE.out HLT.out).mono ?_
        rintro e Wr ⟨rfl, ho, hc⟩
        have HOR := Lib.hid (show OwnL natE Wr w.heap.size (.slice oa on oc) (chn F k).reverse by rw [HE.out]; exact ho)
        have HBR := Lib.hid (HB.out.trans (hc.below (B := w.heap.size) (fun j hj => (HO.out.lt hj).1) HB.out.size))
        clear ho hc
        go_wp2_with fail
        exact bodyPost_ret (v := .slice oa on oc) (by simp [results, Try.results38, go_sem]) rfl ⟨_, rfl, HOR.out, HBR.out⟩
      obtain ⟨q, rfl⟩ : ∃ q : Nat, p = (q : Int) := ⟨p.toNat, by omega⟩
      have HU := Lib.hid (chn_up HCK.out hmF HP.out)
      have hqm : (q : Int) < (m : Int) := by omega
      have hq0 : decide (0 ≤ (q : Int)) = true := decide_eq_true hp0
      have hqd : decide ((q : Int) < (m : Int)) = true := decide_eq_true hqm
      have hon1 : on + 1 ≤ N := by
        have h1 := congrArg List.length HX.out
        have h2 := HLEN.out
        rw [List.length_append, HU.out.1, List.length_cons] at h1
        rw [← HX2.out, List.length_append, List.length_singleton] at h2
        have h3 := HCL.out
        have h4 : 0 < (chn F q).length := List.length_pos_of_mem (chn_self F q)
        omega
      go_wp2_with (refine wpList_litN rfl (some 38) rfl (.tmp 37) rfl q rfl ?_; refine Stop.on ?_)
      refine Stop.go ?_
      try simp only [Act.put, List.setIfInBounds_toArray, List.set_cons_zero, List.set_cons_succ]
      intro Wl xl bl sl
      try simp only [Act.put, List.setIfInBounds_toArray, List.set_cons_zero, List.set_cons_succ]
      have HLL := Lib.hid xl.at_
      have HOl := Lib.hid (HO.out.below bl)
      have HBl := Lib.hid (HB.out.trans (bl.mono HB.out.size))
      clear xl bl sl
      go_wp2_with (refine wpList_appL natE rfl (.tmp 36) (.tmp 38) rfl rfl HOl.out rfl HLL.out (n := on) (m := 1) HLEN.out rfl (by omega) HBl.out.size ?_; refine Stop.on ?_)
      refine Stop.go ?_
      try simp only [Act.put, List.setIfInBounds_toArray, List.set_cons_zero, List.set_cons_succ]
      intro a5 c5 W5 ho5 hg5 hat5
      try simp only [Act.put, List.setIfInBounds_toArray, List.set_cons_zero, List.set_cons_succ]
      have HON := Lib.hid ho5
      have HXN := Lib.hid (show chn F k = X2 ++ chn F q by rw [← HX2.out, HX.out, HU.out.1]; simp)
      have HBN := Lib.hid (HBl.out.trans (HOl.out.grown_below hg5 HBl.out.size))
      clear ho5 hg5 hat5
      go_wp2_with fail
      go_roundw
      case rel => exact ⟨q, X2, a5, on + 1, c5, by omega, by omega, rfl, rfl, HXN, HON, HBN⟩
      case measure => simp [intOf] <;> omega
/-- Three lists of one's own. -/
structure Tri (w0 w : World) (rv cv pv : Value) (R C P : List Nat) : Prop where
  r : OwnL natE w w0.heap.size rv R
  c : OwnL natE w w0.heap.size cv C
  p : OwnL natE w w0.heap.size pv P
  rc : ∀ j, rv.ownBlock = some j → cv.ownBlock ≠ some j
  rp : ∀ j, rv.ownBlock = some j → pv.ownBlock ≠ some j
  cp : ∀ j, cv.ownBlock = some j → pv.ownBlock ≠ some j
  b : Below w0.heap.size w0 w
section
variable {w0 w w' : World} {r c p v : Value} {R C P X : List Nat}
theorem Tri.below (h : Tri w0 w r c p R C P) (hb : Below w.heap.size w w') : Tri w0 w' r c p R C P :=
  ⟨h.r.below hb, h.c.below hb, h.p.below hb, h.rc, h.rp, h.cp, h.b.trans (hb.mono h.b.size)⟩
theorem Tri.perm1 (h : Tri w0 w r c p R C P) : Tri w0 w c r p C R P := ⟨h.c, h.r, h.p, fun j a b => h.rc j b a, h.cp, h.rp, h.b⟩
theorem Tri.perm2 (h : Tri w0 w r c p R C P) : Tri w0 w p c r P C R := ⟨h.p, h.c, h.r, fun j a b => h.cp j b a, fun j a b => h.rp j b a, fun j a b => h.rc j b a, h.b⟩
theorem Tri.app (h : Tri w0 w r c p R C P) (ho : OwnL natE w' w0.heap.size v X) (hg : w.grownBy w' r.ownBlock) (ha : ∀ k, v.ownBlock = some k → r.ownBlock = some k ∨ w.heap.size ≤ k) : Tri w0 w' v c p X C P := by
  have hc := OwnL.grown_chg hg
  refine ⟨ho, h.c.chg hc (fun k hk hk2 => h.rc k hk2 hk), h.p.chg hc (fun k hk hk2 => h.rp k hk2 hk), fun j hj hj2 => ?_, fun j hj hj2 => ?_, h.cp, h.b.trans (h.r.grown_below hg h.b.size)⟩
  · rcases ha j hj with h1 | h1
    · exact h.rc j h1 hj2
    · have := (h.c.lt hj2).2
      omega
  · rcases ha j hj with h1 | h1
    · exact h.rp j h1 hj2
    · have := (h.p.lt hj2).2
      omega
end
theorem endAt_ex (F : List NodeV) {k : Nat} (hk : k < F.length) : ∃ e, EndAt F k e := by
  obtain ⟨e, ⟨h1, h2⟩, hmin⟩ := exists_least (P := fun e => k < e ∧ (e = F.length ∨ ∃ he : e < F.length, ¬ F[k].depth < F[e].depth)) ⟨F.length, hk, .inl rfl⟩
  have hle : e ≤ F.length := by
    rcases h2 with h | ⟨h, _⟩ <;> omega
  refine ⟨e, h1, hle, fun j hj _ hkj hje => Classical.byContradiction fun hc => ?_, fun he _ => ?_⟩
  · have := hmin j ⟨hkj, .inr ⟨hj, hc⟩⟩
    omega
  · rcases h2 with h | ⟨_, h⟩
    · omega
    · exact h
theorem EndAt.uniq {F : List NodeV} {k a b : Nat} (ha : EndAt F k a) (hb : EndAt F k b) : a = b := by
  have hk : k < F.length := by have := ha.lt; have := ha.le; omega
  have h1 := hb.lt
  have h2 := ha.lt
  have h3 := ha.le
  have h4 := hb.le
  rcases Nat.lt_trichotomy a b with h | h | h
  · exact absurd (hb.deep a (by omega) hk ha.lt h) (ha.stop (by omega) hk)
  · exact h
  · exact absurd (ha.deep b (by omega) hk hb.lt h) (hb.stop (by omega) hk)
def endL (k e i : Nat) : Nat := if i ≤ k then 0 else min i e
set_option maxRecDepth 100000 in
set_option maxHeartbeats 2000000 in
theorem Walks_law {w : World} (v : Value) (L : List RawV) (hv : RawsAt w v L) (a : Int) : Calls Try.prog 14 #[v, .int .i64 a] w fun e w' => e = .returned (.bool true) ∧ Below w.heap.size w w' := by
  have HV := Lib.hid hv
  clear hv
  go_enter Try.func14, Try.ntmps14
  go_wp2_with fail
  refine (rows_any _ L HV.out).mono ?_
  rintro e Wa ⟨xv, M, rfl, ho, ht, hb⟩
  obtain ⟨hN14, hnd⟩ := rows_facts ht
  obtain ⟨xa, xc, rfl⟩ := ho.own.form
  obtain ⟨N, hN⟩ : ∃ N, M.length = N := ⟨_, rfl⟩
  rw [hN] at ho hN14 ⊢
  have HM := Lib.hid ho
  have HN := Lib.hid hN
  have HND := Lib.hid hnd
  have HBA := Lib.hid hb
  clear ho ht hN hb hnd
  obtain ⟨c, hc⟩ := isCut_ex (parP M) (arrS M)
  have hgood := good HND.out hc
  obtain ⟨F, hF⟩ : ∃ F, forestV M c = F := ⟨_, rfl⟩
  rw [hF] at hgood
  have hFl : F.length ≤ 28 := by
    rw [← hF, forestV_eq HND.out]
    unfold forestS
    refine Nat.le_trans (forL_len (cut_acyclic hc) (pls_nodup HND.out c) _ _) ?_
    have := pls_len M c
    have h2 := HN.out
    omega
  go_wp2_with fail
  refine (forest_any _ M c hc HM.out.at_ HND.out (by rw [HN.out]; omega)).mono ?_
  rintro e Wf ⟨fv, rfl, hof, hb⟩
  rw [hF] at hof
  obtain ⟨fa, fc, rfl⟩ := hof.form
  obtain ⟨n, hn⟩ : ∃ n, F.length = n := ⟨_, rfl⟩
  rw [hn] at hof hFl ⊢
  obtain ⟨hz1, hnfc, hfcm, hz2⟩ := hof.at_.len
  unfold maxLen at hfcm
  have HFN := Lib.hid hn
  have HG := Lib.hid hgood
  have HC1 := Lib.hid hc
  have HFE := Lib.hid hF
  have HF0 := Lib.hid hof.at_
  have HM0 := Lib.hid (HM.out.below hb)
  have HB0 := Lib.hid (HBA.out.trans (hb.mono HBA.out.size))
  clear hof hb hgood hF hn hz1 hz2 HM HBA hc
  have HE := Lib.hid (show ∃ e, inL n a = true → EndAt F a.toNat e from by
    cases hin : inL n a with
    | false => exact ⟨0, fun h => by cases h⟩
    | true =>
      have := of_decide_eq_true hin
      obtain ⟨e, he⟩ := endAt_ex F (k := a.toNat) (by rw [HFN.out]; omega)
      exact ⟨e, fun _ => he⟩)
  obtain ⟨en, hen⟩ := HE.out
  have HEN := Lib.hid hen
  have HT0 := Lib.hid (show Tri Wf Wf (.slice none 0 0) (.slice none 0 0) (.slice none 0 0) (belowL F (-1) 0) (if inL n a then belowL F a 0 else []) (if inL n a then onL (chn F a.toNat) 0 else []) by
    have h0 : OwnL natE Wf Wf.heap.size (.slice none 0 0) [] := ownL_nil natE Wf Wf.heap.size
    have e1 : (if inL n a then belowL F a 0 else []) = [] := by split <;> rfl
    have e2 : (if inL n a then onL (chn F a.toNat) 0 else []) = [] := by split <;> rfl
    rw [e1, e2]
    exact ⟨h0, h0, h0, (fun j hj => by cases hj), (fun j hj => by cases hj), (fun j hj => by cases hj), Below.refl _ _⟩)
  have HV0 := Lib.hid (show 0 = if inL n a then endL a.toNat en 0 else 0 by unfold endL; simp)
  clear HE hen
  go_wp2_with fail
  go_loopw [6, 7, 8, 9, 10] (fun rv cv pv ev iv wr => ∃ (i ez : Nat) (ra : Option Addr) (rn rc : Nat) (ca : Option Addr) (cn cc : Nat) (pa : Option Addr) (pn pc : Nat), i ≤ n ∧ (rn ≤ i ∧ cn ≤ i ∧ pn ≤ i ∧ ez ≤ n) ∧ iv = .int .i64 (i : Int) ∧ ev = .int .i64 (ez : Int) ∧ rv = .slice ra rn rc ∧ cv = .slice ca cn cc ∧ pv = .slice pa pn pc ∧ Hid (ez = if inL n a then endL a.toNat en i else 0) ∧ Hid (Tri Wf wr (.slice ra rn rc) (.slice ca cn cc) (.slice pa pn pc) (belowL F (-1) i) (if inL n a then belowL F a i else []) (if inL n a then onL (chn F a.toNat) i else []))) (fun _ _ _ _ iv _ => n - (intOf iv).toNat)
  case atStart => exact ⟨0, 0, none, 0, 0, none, 0, 0, none, 0, 0, Nat.zero_le _, by omega, rfl, rfl, rfl, rfl, rfl, HV0, HT0⟩
  case round =>
    obtain ⟨i, ez, ra, rn, rc, ca, cn, cc, pa, pn, pc, hi, hbd, rfl, rfl, rfl, rfl, rfl, HVE, HT⟩ := hrel
    obtain ⟨W0, rfl⟩ : ∃ W0, W0 = wr := ⟨_, rfl⟩
    clear HT0 HV0
    by_cases hlt : i < n
    case neg =>
      obtain rfl : i = n := by omega
      have HRA := Lib.hid HT.out.r.at_
      have HCA := Lib.hid HT.out.c.at_
      have HPA := Lib.hid HT.out.p.at_
      have HFA := Lib.hid (HF0.out.below HT.out.b)
      have HBA := Lib.hid (HB0.out.trans (HT.out.b.mono HB0.out.size))
      have HRL := Lib.hid (show (belowL F (-1) i).length < 1000000 by have h := HT.out.r.at_.len.1; omega)
      have HCL := Lib.hid (show (if inL i a then belowL F a i else []).length < 1000000 by have h := HT.out.c.at_.len.1; omega)
      have HPL := Lib.hid (show (if inL i a then onL (chn F a.toNat) i else []).length < 1000000 by have h := HT.out.p.at_.len.1; omega)
      have HPE := Lib.hid (show (if inL i a then (chn F a.toNat).reverse else []) = (if inL i a then onL (chn F a.toNat) i else []) by
        cases hin : inL i a with
        | false => rfl
        | true =>
          rw [if_pos rfl, if_pos rfl]
          have hr := of_decide_eq_true hin
          have h := onL_chn HG.out.check (a := a.toNat) (by rw [HFN.out]; omega)
          rw [HFN.out] at h
          exact h.symm)
      clear HT
      go_wp2_with fail
      refine known_any.mono ?_
      rintro e Wk ⟨rfl, hb⟩
      have HRA := Lib.hid (HRA.out.below hb)
      have HCA := Lib.hid (HCA.out.below hb)
      have HPA := Lib.hid (HPA.out.below hb)
      have HFA := Lib.hid (HFA.out.below hb)
      have HBA := Lib.hid (HBA.out.trans (hb.mono HBA.out.size))
      clear hb
      go_wp2_with fail
      refine (Roots_any _ F HFA.out (by rw [HFN.out]; omega)).mono ?_
      rintro e W1 ⟨rvW1, rfl, ho, hb⟩
      rw [HFN.out] at ho
      have HX := Lib.hid ho.at_
      clear ho
      have HRA := Lib.hid (HRA.out.below hb)
      have HCA := Lib.hid (HCA.out.below hb)
      have HPA := Lib.hid (HPA.out.below hb)
      have HFA := Lib.hid (HFA.out.below hb)
      have HBA := Lib.hid (HBA.out.trans (hb.mono HBA.out.size))
      clear hb
      go_wp2_with fail
      refine (numbers_any _ _ _ _ HX.out HRA.out HRL.out HRL.out).mono ?_
      rintro e W1n ⟨rfl, hb⟩
      rw [decide_eq_true rfl]
      have HRA := Lib.hid (HRA.out.below hb)
      have HCA := Lib.hid (HCA.out.below hb)
      have HPA := Lib.hid (HPA.out.below hb)
      have HFA := Lib.hid (HFA.out.below hb)
      have HBA := Lib.hid (HBA.out.trans (hb.mono HBA.out.size))
      clear hb
      go_wp2_with fail
      refine (Children_any _ F HFA.out (by rw [HFN.out]; omega) a).mono ?_
      rintro e W2 ⟨rvW2, rfl, ho, hb⟩
      rw [HFN.out] at ho
      have HX := Lib.hid ho.at_
      clear ho
      have HRA := Lib.hid (HRA.out.below hb)
      have HCA := Lib.hid (HCA.out.below hb)
      have HPA := Lib.hid (HPA.out.below hb)
      have HFA := Lib.hid (HFA.out.below hb)
      have HBA := Lib.hid (HBA.out.trans (hb.mono HBA.out.size))
      clear hb
      go_wp2_with fail
      refine (numbers_any _ _ _ _ HX.out HCA.out HCL.out HCL.out).mono ?_
      rintro e W2n ⟨rfl, hb⟩
      rw [decide_eq_true rfl]
      have HRA := Lib.hid (HRA.out.below hb)
      have HCA := Lib.hid (HCA.out.below hb)
      have HPA := Lib.hid (HPA.out.below hb)
      have HFA := Lib.hid (HFA.out.below hb)
      have HBA := Lib.hid (HBA.out.trans (hb.mono HBA.out.size))
      clear hb
      go_wp2_with fail
      refine (Path_any _ F HFA.out HG.out.check (by rw [HFN.out]; omega) a).mono ?_
      rintro e W3 ⟨rvW3, rfl, ho, hb⟩
      rw [HFN.out] at ho
      rw [HPE.out] at ho
      have HX := Lib.hid ho.at_
      clear ho
      have HRA := Lib.hid (HRA.out.below hb)
      have HCA := Lib.hid (HCA.out.below hb)
      have HPA := Lib.hid (HPA.out.below hb)
      have HFA := Lib.hid (HFA.out.below hb)
      have HBA := Lib.hid (HBA.out.trans (hb.mono HBA.out.size))
      clear hb
      go_wp2_with fail
      refine (numbers_any _ _ _ _ HX.out HPA.out HPL.out HPL.out).mono ?_
      rintro e W3n ⟨rfl, hb⟩
      rw [decide_eq_true rfl]
      have HRA := Lib.hid (HRA.out.below hb)
      have HCA := Lib.hid (HCA.out.below hb)
      have HPA := Lib.hid (HPA.out.below hb)
      have HFA := Lib.hid (HFA.out.below hb)
      have HBA := Lib.hid (HBA.out.trans (hb.mono HBA.out.size))
      clear hb
      go_wp2_with fail
      refine (End_any _ F HFA.out (by rw [HFN.out]; omega) a).mono ?_
      rintro e W4 ⟨hb, hor⟩
      have HBE := Lib.hid (HBA.out.trans (hb.mono HBA.out.size))
      rw [HFN.out] at hor
      have hres : e = .returned (.int .i64 (ez : Int)) := by
        rcases hor with ⟨h1, h2⟩ | ⟨k, m, rfl, hk, hE, h2⟩
        · have h3 := HVE.out
          rw [h1, if_neg (by simp)] at h3
          rw [h2, h3]
          rfl
        · have hin : inL i (k : Int) = true := decide_eq_true (by omega)
          have h3 := HVE.out
          have h4 := HEN.out hin
          rw [Int.toNat_natCast] at h3 h4
          have h5 := hE.uniq h4
          subst h5
          have h6 := hE.le
          rw [HFN.out] at h6
          rw [hin, if_pos rfl] at h3
          unfold endL at h3
          rw [if_neg (by omega), Nat.min_eq_right h6] at h3
          rw [h2, h3]
      subst hres
      clear hb hor
      have hee : ((ez : Int) == (ez : Int)) = true := by simp
      go_wp2_with fail
      exact bodyPost_ret (v := .bool true) (by simp [results, Try.results14, go_sem]) rfl ⟨rfl, HBE.out⟩
    have hiI : (i : Int) < (n : Int) := by omega
    have hiF : i < F.length := by rw [HFN.out]; exact hlt
    have HFW := Lib.hid (HF0.out.below HT.out.b)
    obtain ⟨fg, fo, ef, hcell⟩ := node_at HFW.out hiF
    subst ef
    obtain ⟨p1, hp1⟩ : ∃ p, F[i].parent = p := ⟨_, rfl⟩
    have HPC := Lib.hid (show ∀ w', Below W0.heap.size W0 w' → w'.cell? ⟨fg, fo + i * 35 + 33, none⟩ = some (.int .i64 p1) from fun w' hw' => hp1 ▸ (hcell w' hw').2.1)
    have hck := chk_all HG.out.check i hiF
    have hpb1 := hck.par
    have hpb2 := hck.lt
    rw [hp1] at hpb1 hpb2
    have HPAR := Lib.hid (show parA F i = p1 by rw [parA_at hiF, hp1])
    have HFG := Lib.hid (show fg < Wf.heap.size by
      obtain ⟨g', o', e', hg', _⟩ := HF0.out.get hiF
      cases e'
      exact hg')
    have hst : ∀ w', Below Wf.heap.size Wf w' → w'.cell? ⟨fg, fo + i * 35 + 33, none⟩ = some (.int .i64 p1) := fun w' hw' => by
      obtain ⟨g', o', e', hc'⟩ := node_at HF0.out hiF
      cases e'
      exact hp1 ▸ (hc' w' hw').2.1
    have HST := Lib.hid hst
    clear hcell hck hst HFG hp1
    have q0 := HPC.out W0 (Below.refl _ _)
    go_upto_block 1 with (fail)
    refine wp_block ?_
    refine wp_seq_k ?_
    intro K1 hK1
    go_cut [6] from 20 to 29 (fun rv wc => ∃ (ra : Option Addr) (rn rc : Nat), rn ≤ i + 1 ∧ rv = .slice ra rn rc ∧ Hid (Tri Wf wc (.slice ra rn rc) (.slice ca cn cc) (.slice pa pn pc) (belowL F (-1) (i + 1)) (if inL n a then belowL F a i else []) (if inL n a then onL (chn F a.toNat) i else [])))
    case first =>
      have HNX := Lib.hid (belowL_next F (-1) i)
      have HLEN := Lib.hid (show (belowL F (-1) i).length = rn by obtain ⟨a', c', e⟩ := HT.out.r.form; cases e; rfl)
      by_cases hp : p1 = -1
      case neg =>
        have hd : (p1 == (-1 : Int)) = false := by simp [hp]
        have HTN := Lib.hid (show Tri Wf W0 (.slice ra rn rc) (.slice ca cn cc) (.slice pa pn pc) (belowL F (-1) (i + 1)) (if inL n a then belowL F a i else []) (if inL n a then onL (chn F a.toNat) i else []) by rw [HNX.out, HPAR.out, if_neg hp]; exact HT.out)
        go_wp2_with fail
        go_meet
        case rel => exact ⟨ra, rn, rc, by omega, rfl, HTN⟩
      subst hp
      have hd : ((-1 : Int) == (-1 : Int)) = true := by simp
      go_wp2_with (refine wpList_litN rfl (some 28) rfl (.tmp 27) rfl i rfl ?_; refine Stop.on ?_)
      refine Stop.go ?_
      try simp only [Act.put, List.setIfInBounds_toArray, List.set_cons_zero, List.set_cons_succ]
      intro Wl xl bl sl
      try simp only [Act.put, List.setIfInBounds_toArray, List.set_cons_zero, List.set_cons_succ]
      have HLL := Lib.hid xl.at_
      have HTl := Lib.hid (HT.out.below bl)
      clear xl bl sl
      go_wp2_with (refine wpList_appL natE rfl (.tmp 26) (.tmp 28) rfl rfl HTl.out.r rfl HLL.out (n := rn) (m := 1) HLEN.out rfl (by omega) HTl.out.b.size ?_; refine Stop.on ?_)
      refine Stop.go ?_
      try simp only [Act.put, List.setIfInBounds_toArray, List.set_cons_zero, List.set_cons_succ]
      intro a5 c5 W5 ho5 hg5 hat5
      try simp only [Act.put, List.setIfInBounds_toArray, List.set_cons_zero, List.set_cons_succ]
      have ht5 := (HTl.out.app ho5 hg5 hat5)
      have HTN := Lib.hid (show Tri Wf W5 (.slice a5 (rn + 1) c5) (.slice ca cn cc) (.slice pa pn pc) (belowL F (-1) (i + 1)) (if inL n a then belowL F a i else []) (if inL n a then onL (chn F a.toNat) i else []) by rw [HNX.out, HPAR.out, if_pos rfl]; exact ht5)
      clear ho5 hg5 hat5 ht5
      go_wp2_with fail
      go_meet
      case rel => exact ⟨a5, rn + 1, c5, by omega, rfl, HTN⟩
    case rest =>
    obtain ⟨ra, rn, rc, hrn, rfl, HT⟩ := hcut
    have q0 := HST.out wc HT.out.b
    refine hK1 _ _ ?_
    clear hK1 K1
    refine wp_seq_k ?_
    intro K2 hK2
    go_cut [7] from 30 to 44 (fun rv wc => ∃ (ca : Option Addr) (cn cc : Nat), cn ≤ i + 1 ∧ rv = .slice ca cn cc ∧ Hid (Tri Wf wc (.slice ra rn rc) (.slice ca cn cc) (.slice pa pn pc) (belowL F (-1) (i + 1)) (if inL n a then belowL F a (i + 1) else []) (if inL n a then onL (chn F a.toNat) i else [])))
    case first =>
      cases hin : inL n a with
      | false =>
        have HTN := Lib.hid (show Tri Wf wc (.slice ra rn rc) (.slice ca cn cc) (.slice pa pn pc) (belowL F (-1) (i + 1)) (if inL n a then belowL F a (i + 1) else []) (if inL n a then onL (chn F a.toNat) i else []) by
          have h := HT.out
          rw [hin] at h ⊢
          exact h)
        rcases inL_out hin with h1 | ⟨h1, h2⟩
        · have ha0 : decide (0 ≤ a) = false := decide_eq_false (by omega)
          clear hin
          go_wp2_with fail
          go_meet
          case rel => exact ⟨ca, cn, cc, by omega, rfl, HTN⟩
        · have ha0 : decide (0 ≤ a) = true := decide_eq_true h1
          have han : decide (a < (n : Int)) = false := decide_eq_false (by omega)
          have hpa : (p1 == a) = false := by simp; omega
          clear hin
          go_wp2_with fail
          go_meet
          case rel => exact ⟨ca, cn, cc, by omega, rfl, HTN⟩
      | true =>
        have hr := of_decide_eq_true hin
        have ha0 : decide (0 ≤ a) = true := decide_eq_true hr.1
        have HNX := Lib.hid (belowL_next F a i)
        have HLEN := Lib.hid (show (belowL F a i).length = cn by
          have h := HT.out.c.at_.len.1
          rw [hin] at h
          exact h.symm)
        have HT := Lib.hid (show Tri Wf wc (.slice ra rn rc) (.slice ca cn cc) (.slice pa pn pc) (belowL F (-1) (i + 1)) (belowL F a i) (onL (chn F a.toNat) i) by
          have h := HT.out
          rw [hin] at h
          exact h)
        have HIN := Lib.hid hin
        clear hin
        by_cases hp : p1 = a
        case neg =>
          have hd : (p1 == a) = false := by simp [hp]
          have HTN := Lib.hid (show Tri Wf wc (.slice ra rn rc) (.slice ca cn cc) (.slice pa pn pc) (belowL F (-1) (i + 1)) (if inL n a then belowL F a (i + 1) else []) (if inL n a then onL (chn F a.toNat) i else []) by
            rw [HIN.out, if_pos rfl, if_pos rfl, HNX.out, HPAR.out, if_neg hp]
            exact HT.out)
          go_wp2_with fail
          go_meet
          case rel => exact ⟨ca, cn, cc, by omega, rfl, HTN⟩
        have HPA := Lib.hid hp
        have hd : (p1 == a) = true := by simp [hp]
        clear hp
        go_wp2_with (refine wpList_litN rfl (some 43) rfl (.tmp 42) rfl i rfl ?_; refine Stop.on ?_)
        refine Stop.go ?_
        try simp only [Act.put, List.setIfInBounds_toArray, List.set_cons_zero, List.set_cons_succ]
        intro Wl xl bl sl
        try simp only [Act.put, List.setIfInBounds_toArray, List.set_cons_zero, List.set_cons_succ]
        have HLL := Lib.hid xl.at_
        have HTl := Lib.hid (HT.out.below bl)
        clear xl bl sl
        go_wp2_with (refine wpList_appL natE rfl (.tmp 41) (.tmp 43) rfl rfl HTl.out.c rfl HLL.out (n := cn) (m := 1) HLEN.out rfl (by omega) HTl.out.b.size ?_; refine Stop.on ?_)
        refine Stop.go ?_
        try simp only [Act.put, List.setIfInBounds_toArray, List.set_cons_zero, List.set_cons_succ]
        intro a5 c5 W5 ho5 hg5 hat5
        try simp only [Act.put, List.setIfInBounds_toArray, List.set_cons_zero, List.set_cons_succ]
        have ht5 := (HTl.out.perm1.app ho5 hg5 hat5).perm1
        have HTN := Lib.hid (show Tri Wf W5 (.slice ra rn rc) (.slice a5 (cn + 1) c5) (.slice pa pn pc) (belowL F (-1) (i + 1)) (if inL n a then belowL F a (i + 1) else []) (if inL n a then onL (chn F a.toNat) i else []) by rw [HIN.out, if_pos rfl, if_pos rfl, HNX.out, HPAR.out, if_pos HPA.out]; exact ht5)
        clear ho5 hg5 hat5 ht5
        go_wp2_with fail
        go_meet
        case rel => exact ⟨a5, cn + 1, c5, by omega, rfl, HTN⟩
    case rest =>
    obtain ⟨ca, cn, cc, hcn, rfl, HT⟩ := hcut
    refine hK2 _ _ ?_
    clear hK2 K2 q0
    have q0 := HST.out wc HT.out.b
    have HFC := Lib.hid (HF0.out.below HT.out.b)
    refine wp_seq_k ?_
    intro K3 hK3
    go_cut [8] from 45 to 62 (fun rv wc => ∃ (pa : Option Addr) (pn pc : Nat), pn ≤ i + 1 ∧ rv = .slice pa pn pc ∧ Hid (Tri Wf wc (.slice ra rn rc) (.slice ca cn cc) (.slice pa pn pc) (belowL F (-1) (i + 1)) (if inL n a then belowL F a (i + 1) else []) (if inL n a then onL (chn F a.toNat) (i + 1) else [])))
    case first =>
      cases hin : inL n a with
      | false =>
        have HTN := Lib.hid (show Tri Wf wc (.slice ra rn rc) (.slice ca cn cc) (.slice pa pn pc) (belowL F (-1) (i + 1)) (if inL n a then belowL F a (i + 1) else []) (if inL n a then onL (chn F a.toNat) (i + 1) else []) by
          have h := HT.out
          rw [hin] at h ⊢
          exact h)
        rcases inL_out hin with h1 | ⟨h1, h2⟩
        · have ha0 : decide (0 ≤ a) = false := decide_eq_false (by omega)
          clear hin
          go_wp2_with fail
          go_meet
          case rel => exact ⟨pa, pn, pc, by omega, rfl, HTN⟩
        · have ha0 : decide (0 ≤ a) = true := decide_eq_true h1
          have han : decide (a < (n : Int)) = false := decide_eq_false (by omega)
          have hpa : (p1 == a) = false := by simp; omega
          clear hin
          go_wp2_with fail
          go_meet
          case rel => exact ⟨pa, pn, pc, by omega, rfl, HTN⟩
      | true =>
        have hr := of_decide_eq_true hin
        obtain ⟨k, rfl⟩ : ∃ k : Nat, a = (k : Int) := ⟨a.toNat, by omega⟩
        have hkn : k < n := by omega
        have ha0 : decide (0 ≤ (k : Int)) = true := decide_eq_true hr.1
        have han : decide ((k : Int) < (n : Int)) = true := decide_eq_true hr.2
        have HNX := Lib.hid (onL_next (chn F k) i)
        have HT := Lib.hid (show Tri Wf wc (.slice ra rn rc) (.slice ca cn cc) (.slice pa pn pc) (belowL F (-1) (i + 1)) (belowL F (k : Int) (i + 1)) (onL (chn F k) i) by
          have h := HT.out
          rw [hin, Int.toNat_natCast] at h
          exact h)
        have HLEN := Lib.hid (show (onL (chn F k) i).length = pn from HT.out.p.at_.len.1.symm)
        have HIN := Lib.hid hin
        clear hin hr
        go_wp2_with fail
        refine (within_any _ F HFC.out HG.out.check (by rw [HFN.out]; omega) k i (by rw [HFN.out]; exact hkn) (by omega)).mono ?_
        rintro e Wn ⟨rfl, rfl⟩
        by_cases hp : i ∈ chn F k
        case neg =>
          rw [decide_eq_false hp]
          have HTN := Lib.hid (show Tri Wf wc (.slice ra rn rc) (.slice ca cn cc) (.slice pa pn pc) (belowL F (-1) (i + 1)) (if inL n (k : Int) then belowL F (k : Int) (i + 1) else []) (if inL n (k : Int) then onL (chn F (k : Int).toNat) (i + 1) else []) by
            rw [HIN.out, if_pos rfl, if_pos rfl, Int.toNat_natCast, HNX.out, if_neg hp]
            exact HT.out)
          clear hp
          go_wp2_with fail
          go_meet
          case rel => exact ⟨pa, pn, pc, by omega, rfl, HTN⟩
        rw [decide_eq_true hp]
        have HPA := Lib.hid hp
        clear hp
        go_wp2_with (refine wpList_litN rfl (some 61) rfl (.tmp 60) rfl i rfl ?_; refine Stop.on ?_)
        refine Stop.go ?_
        try simp only [Act.put, List.setIfInBounds_toArray, List.set_cons_zero, List.set_cons_succ]
        intro Wl xl bl sl
        try simp only [Act.put, List.setIfInBounds_toArray, List.set_cons_zero, List.set_cons_succ]
        have HLL := Lib.hid xl.at_
        have HTl := Lib.hid (HT.out.below bl)
        clear xl bl sl
        go_wp2_with (refine wpList_appL natE rfl (.tmp 59) (.tmp 61) rfl rfl HTl.out.p rfl HLL.out (n := pn) (m := 1) HLEN.out rfl (by omega) HTl.out.b.size ?_; refine Stop.on ?_)
        refine Stop.go ?_
        try simp only [Act.put, List.setIfInBounds_toArray, List.set_cons_zero, List.set_cons_succ]
        intro a5 c5 W5 ho5 hg5 hat5
        try simp only [Act.put, List.setIfInBounds_toArray, List.set_cons_zero, List.set_cons_succ]
        have ht5 := (HTl.out.perm2.app ho5 hg5 hat5).perm2
        have HTN := Lib.hid (show Tri Wf W5 (.slice ra rn rc) (.slice ca cn cc) (.slice a5 (pn + 1) c5) (belowL F (-1) (i + 1)) (if inL n (k : Int) then belowL F (k : Int) (i + 1) else []) (if inL n (k : Int) then onL (chn F (k : Int).toNat) (i + 1) else []) by rw [HIN.out, if_pos rfl, if_pos rfl, Int.toNat_natCast, HNX.out, if_pos HPA.out]; exact ht5)
        clear ho5 hg5 hat5 ht5
        go_wp2_with fail
        go_meet
        case rel => exact ⟨a5, pn + 1, c5, by omega, rfl, HTN⟩
    case rest =>
    obtain ⟨pa, pn, pc, hpn, rfl, HT⟩ := hcut
    refine hK3 _ _ ?_
    clear hK3 K3 q0 HFC
    have HFC := Lib.hid (HF0.out.below HT.out.b)
    cases hin : inL n a with
    | false =>
      have HVN := Lib.hid (show ez = if inL n a then endL a.toNat en (i + 1) else 0 by
        have h := HVE.out
        rw [hin] at h ⊢
        exact h)
      rcases inL_out hin with h1 | ⟨h1, h2⟩
      · have ha0 : decide (0 ≤ a) = false := decide_eq_false (by omega)
        clear hin
        go_wp2_with fail
        go_roundw
        case rel => exact ⟨i + 1, ez, ra, rn, rc, ca, cn, cc, pa, pn, pc, by omega, by omega, by go_num, rfl, rfl, rfl, rfl, HVN, HT⟩
        case measure => simp [intOf] <;> omega
      · have ha0 : decide (0 ≤ a) = true := decide_eq_true h1
        have han : decide (a < (n : Int)) = false := decide_eq_false (by omega)
        have hpa : (p1 == a) = false := by simp; omega
        clear hin
        go_wp2_with fail
        go_roundw
        case rel => exact ⟨i + 1, ez, ra, rn, rc, ca, cn, cc, pa, pn, pc, by omega, by omega, by go_num, rfl, rfl, rfl, rfl, HVN, HT⟩
        case measure => simp [intOf] <;> omega
    | true =>
      have hr := of_decide_eq_true hin
      obtain ⟨k, rfl⟩ : ∃ k : Nat, a = (k : Int) := ⟨a.toNat, by omega⟩
      have hkn : k < n := by omega
      have ha0 : decide (0 ≤ (k : Int)) = true := decide_eq_true hr.1
      have han : decide ((k : Int) < (n : Int)) = true := decide_eq_true hr.2
      have HIN := Lib.hid hin
      clear hin hr
      go_wp2_with fail
      refine (within_any _ F HFC.out HG.out.check (by rw [HFN.out]; omega) i k (by rw [HFN.out]; exact hlt) (by omega)).mono ?_
      rintro e Wn ⟨rfl, rfl⟩
      have hw := (HEN.out HIN.out).within HG.out.check i hiF
      rw [Int.toNat_natCast] at hw
      by_cases hp : k ∈ chn F i
      case neg =>
        rw [decide_eq_false hp]
        have HVN := Lib.hid (show ez = if inL n (k : Int) then endL (k : Int).toNat en (i + 1) else 0 by
          have h := HVE.out
          rw [HIN.out, if_pos rfl, Int.toNat_natCast] at h ⊢
          rw [h]
          have h9 : ¬ (k ≤ i ∧ i < en) := fun h => hp (hw.2 h)
          have h8 := (HEN.out HIN.out).lt
          rw [Int.toNat_natCast] at h8
          unfold endL
          by_cases e1 : i ≤ k
          · rw [if_pos e1]
            by_cases e2 : i + 1 ≤ k
            · rw [if_pos e2]
            · omega
          · rw [if_neg e1, if_neg (by omega)]
            omega)
        clear hp hw
        go_wp2_with fail
        go_roundw
        case rel => exact ⟨i + 1, ez, ra, rn, rc, ca, cn, cc, pa, pn, pc, by omega, by omega, by go_num, rfl, rfl, rfl, rfl, HVN, HT⟩
        case measure => simp [intOf] <;> omega
      rw [decide_eq_true hp]
      have HVN := Lib.hid (show i + 1 = if inL n (k : Int) then endL (k : Int).toNat en (i + 1) else 0 by
        rw [HIN.out, if_pos rfl, Int.toNat_natCast]
        have h9 := hw.1 hp
        unfold endL
        rw [if_neg (by omega)]
        omega)
      clear hp hw
      go_wp2_with fail
      go_roundw
      case rel => exact ⟨i + 1, i + 1, ra, rn, rc, ca, cn, cc, pa, pn, pc, by omega, by omega, by go_num, by go_num, rfl, rfl, rfl, HVN, HT⟩
      case measure => simp [intOf] <;> omega
end Go.Proofs.Ythfinofmbnfijaa
