/- The model's grow, forest. -/
import Derived.Test.YthfinofmbnfijaaTh28
namespace Go.Proofs.Ythfinofmbnfijaa
open Go.Shelf Go.RowKit Go.Lib Go.Sort Go.ChangeShapes Go.Maps
set_option linter.unusedVariables false
set_option linter.unusedSimpArgs false

theorem cellsOf_bool : Try.prog.cellsOf 4 = 1 := by kernel_rfl
theorem cellsOf_Par : Try.prog.cellsOf 63 = 33 := by kernel_rfl
theorem keyLits_bool (d : Nat) (b : Bool) : Try.prog.keyLits (d + 1) 4 [.bool b] = some [.bool b] := by
  simp [Program.keyLits, Try.underlying4, Lit.wf]
def parLits (u : Option IdB) : List Lit := .bool u.isSome :: (u.getD z32).1.map bl
theorem pvC_eq (u : Option IdB) : pvC u = .bool u.isSome :: bvs (u.getD z32).1 := by cases u <;> rfl
theorem keyLits_Par (u : Option IdB) : Try.prog.keyLits 3 63 (pvC u) = some (parLits u) := by
  have e0 : ((pvC u).drop 0).take 1 = [.bool u.isSome] := by rw [pvC_eq]; rfl
  have e1 : ((pvC u).drop 1).take 32 = bvs (u.getD z32).1 := by
    rw [pvC_eq]
    show List.take 32 (bvs (u.getD z32).1) = _
    rw [List.take_of_length_le (by rw [bvs_length, (u.getD z32).2]; exact Nat.le_refl _)]
  unfold Program.keyLits
  rw [Try.underlying63]
  simp only [pvC_len, cellsOf_Par]
  rw [if_pos ⟨trivial, by decide +kernel⟩]
  simp only [List.mapM_cons, List.mapM_nil, cellsOf_Id, cellsOf_bool, e0, e1, keyLits_Id 0 (u.getD z32).2, keyLits_bool 1]
  unfold parLits
  simp
theorem parLits_inj {u v : Option IdB} (h : parLits u = parLits v) : u = v := by
  unfold parLits at h
  simp only [List.cons.injEq, Lit.bool.injEq] at h
  obtain ⟨h1, h2⟩ := h
  have h3 := Subtype.ext (bl_inj h2)
  cases u <;> cases v <;> simp_all
theorem keyType_Par : Try.prog.keyTypeAt 5 63 = true := by kernel_rfl
theorem deep_Par : EqAt Try.prog 10000 63 := by
  have := run_equalIn_deep 9995 5 63 keyType_Par
  simpa only [Nat.reduceAdd] using this
theorem formed_Par (u : Option IdB) : (Value.agg (pvC u).toArray).formed Try.prog 63 = true := by
  unfold Value.formed
  rw [Try.underlying63]
  simp [cellsOf_Par, pvC_len]
theorem neq_Par (x y : Option IdB) (w : World) : (binOp .neq 63 (.agg (pvC x).toArray) (.agg (pvC y).toArray)).run Try.prog w = .ok (.bool (!decide (x = y))) w := by
  rw [run_neq_struct (P := Try.prog) w 63 (pvC x).toArray (pvC y).toArray]
  obtain ⟨r, h1, h2⟩ := deep_Par w 3 3 (.agg (pvC x).toArray) (.agg (pvC y).toArray) _ _ (formed_Par x) (formed_Par y) (keyLits_Par x) (keyLits_Par y)
  have e : r = decide (x = y) := by
    rw [Bool.eq_iff_iff, h2, decide_eq_true_iff]
    exact ⟨parLits_inj, fun h => by rw [h]⟩
  rw [h1, e]
  rfl
theorem guard_Par : Try.prog.eqGuardType Try.prog.depth 63 = false := by kernel_rfl
theorem sizeNodeB (n : NodeV) : (Try.prog.info? 37).map (·.size) = some (nodeE.enc n).toArray.size := sizeNodeA n
theorem sizeNode35 {n : NodeV} : (nodeE.enc n).toArray.size = 35 := by rw [List.size_toArray]; exact n.cells_length
theorem cand_next {K : List KnV} {p : Option IdB} {D : List IdB} {i : Nat} (hi : i < K.length) {tb : Bool} (h : tb = true ↔ K[i].up ≠ p ∨ K[i].id ∈ D) : Cand K p D i ↔ tb = false := by
  constructor
  · rintro ⟨_, h1, h2⟩
    cases tb with
    | false => rfl
    | true =>
      rcases h.1 rfl with h3 | h3
      · exact absurd h1 h3
      · exact absurd h3 h2
  · intro e
    refine ⟨hi, Classical.byContradiction fun h1 => ?_, fun h2 => ?_⟩
    · have := h.2 (.inl h1)
      rw [e] at this
      cases this
    · have := h.2 (.inr h2)
      rw [e] at this
      cases this
def GrowPost (w wb : World) (ov : Value) (R : List NodeV) (e : Ending) (w' : World) : Prop :=
  ∃ v', e = .returned v' ∧ OwnL nodeE w' wb.heap.size v' R ∧ Chg (fun k => ov.ownBlock = some k) w w' ∧ ∀ k, v'.ownBlock = some k → ov.ownBlock = some k ∨ w.heap.size ≤ k
def GrowAt (wb : World) (L : List RowV) (c : Par) (kv : Value) (n : Nat) : Prop :=
  ∀ (w : World) (p : Option IdB) (ov : Value) (O : List NodeV) (at_ d : Int), (∀ y ∈ chl c (pls L c) p, FinK (kidsOf c (pls L c)) n y) → Below wb.heap.size wb w → OwnL nodeE w wb.heap.size ov O → (growL c (pls L c) (idxL L) n p O at_ d).length < 1000000 → 0 ≤ d → d + n < 1000000000 →
    Calls Try.prog 44 #[ov, kv, .agg (pvC p).toArray, .int .i64 at_, .int .i64 d] w (GrowPost w wb ov (growL c (pls L c) (idxL L) n p O at_ d))
set_option maxRecDepth 100000 in
set_option maxHeartbeats 2000000 in
theorem grow_step {wb : World} {L : List RowV} {c : Par} {K : List KnV} {kv : Value} (hkv : ListAt knE wb kv K) (hok : KnOk L c K) (hn : (L.map (·.id)).Nodup) (hac : ∀ x, ¬ onC c x) (hKl : K.length < 1000000) (n : Nat) (ih : ∀ m, m + 1 = n → GrowAt wb L c kv m) : GrowAt wb L c kv n := by
  intro w p ov O at_ d hfin hbw ho hlen hd0 hdn
  obtain ⟨ka, kc, rfl⟩ := hkv.form
  obtain ⟨oa0, oc0, rfl⟩ := ho.form
  obtain ⟨KN, hKN⟩ : ∃ KN, K.length = KN := ⟨_, rfl⟩
  obtain ⟨on0, hon0⟩ : ∃ on0, O.length = on0 := ⟨_, rfl⟩
  rw [hKN] at hkv hKl ih ⊢
  rw [hon0] at ho ⊢
  obtain ⟨G, hG⟩ : ∃ G, chl c (pls L c) p = G := ⟨_, rfl⟩
  obtain ⟨fR, hfR⟩ : ∃ fR : List NodeV → IdB → List NodeV, (fun o y => visL (kidsOf c (pls L c)) (idxL L) n o y at_ d) = fR := ⟨_, rfl⟩
  obtain ⟨R, hR⟩ : ∃ R, growL c (pls L c) (idxL L) n p O at_ d = R := ⟨_, rfl⟩
  have hRG : R = G.foldl fR O := by rw [← hR, ← hG, ← hfR]; rfl
  have hfl : ∀ o y, o.length ≤ (fR o y).length := fun o y => by rw [← hfR]; exact visL_len _ _ _ _ _ _ _
  rw [hR] at hlen ⊢
  have hlk : ∀ k, ((G.take k).foldl fR O).length < 1000000 := fun k => Nat.lt_of_le_of_lt (fold_take hfl G k O) (by rw [← hRG]; exact hlen)
  have hbest : ∀ (k : Nat) (b : Int), BestI K p (G.take k) KN b → (b = -1 ∧ G.length ≤ k) ∨ ∃ (j : Nat) (hj : j < K.length) (hk : k < G.length), b = (j : Int) ∧ K[j].id = G[k] := fun k b h => by
    subst hG
    rw [← hKN] at h
    exact best_next hn hac hok h
  have hGl : G.length ≤ KN := by
    have hnd : G.Nodup := by rw [← hG, chl_filter]; exact (pls_nodup hn c).sublist List.filter_sublist
    have h := nodup_len G (K.map (·.id)) hnd (fun y hy => by
      rw [← hG] at hy
      obtain ⟨m, hm, e⟩ := (hok.mem y).1 (mem_chl.1 hy).1
      exact List.mem_map.2 ⟨m, hm, e⟩)
    rw [List.length_map, hKN] at h
    exact h
  have hfinG : ∀ y ∈ G, FinK (kidsOf c (pls L c)) n y := by rw [← hG]; exact hfin
  have hrow : ∀ k ∈ K, k.row = idxL L k.id := hok.row
  obtain ⟨w1, hw1⟩ : ∃ w1, w.alloc (.cells (pvC p).toArray 63) = w1 := ⟨_, rfl⟩
  have hb1 : Below w.heap.size w w1 := hw1 ▸ (Below.refl _ w).alloc (Nat.le_refl _) _
  have hx1 : w1.heap[w.heap.size]? = some (.cells (pvC p).toArray 63 (0, 0)) := by rw [← hw1]; exact heap_alloc_new _ _
  have hs1 : w1.heap.size = w.heap.size + 1 := by rw [← hw1]; simp
  obtain ⟨Pb, hPb⟩ : ∃ Pb, w.heap.size = Pb := ⟨_, rfl⟩
  obtain ⟨B, hB⟩ : ∃ B, wb.heap.size = B := ⟨_, rfl⟩
  have HX1 := Lib.hid (show w1.heap[Pb]? = some (.cells (pvC p).toArray 63 (0, 0)) by rw [← hPb]; exact hx1)
  have HPB := Lib.hid (show w.heap.size = Pb ∧ w1.heap.size = Pb + 1 by omega)
  have HBB := Lib.hid hB
  have HKV := Lib.hid hkv
  have HKN := Lib.hid hKN
  have HFL := Lib.hid hlk
  have HBEST := Lib.hid hbest
  have HFIN := Lib.hid hfinG
  have HGL := Lib.hid hGl
  have HROW := Lib.hid hrow
  have HRG := Lib.hid hRG
  have HIH := Lib.hid ih
  have HFR := Lib.hid hfR
  have HB1 := Lib.hid hb1
  have HFo := Lib.hid (show ∀ k, (Value.slice oa0 on0 oc0).ownBlock = some k → B ≤ k ∧ k < Pb from fun k hk => by have := ho.lt hk; omega)
  have HO0 := Lib.hid (show OwnL nodeE w1 B (.slice oa0 on0 oc0) ((G.take 0).foldl fR O) by rw [← hB]; exact ho.below hb1)
  have HBW := Lib.hid (show ∀ w', Chg (fun k => (Value.slice oa0 on0 oc0).ownBlock = some k) w1 w' → Below wb.heap.size wb w' from fun w' hc =>
    (hbw.trans (hb1.mono hbw.size)).trans (hc.below (fun k hk => (ho.lt hk).1) (Nat.le_trans hbw.size hb1.size)))
  have HPX := Lib.hid (show ∀ w', Chg (fun k => (Value.slice oa0 on0 oc0).ownBlock = some k) w1 w' → w'.heap[Pb]? = some (.cells (pvC p).toArray 63 (0, 0)) from fun w' hc =>
    (hc.block Pb (by omega) (fun hk => by have := (ho.lt hk).2; omega)).trans HX1.out)
  have HD0 := Lib.hid (ownL_nil idE w1 w1.heap.size)
  have HJ0 := Lib.hid (show ∀ j, (Value.slice none 0 0).ownBlock = some j → (Value.slice oa0 on0 oc0).ownBlock ≠ some j from fun j hj => by cases hj)
  have HC0 := Lib.hid (Chg.refl (fun k => (Value.slice oa0 on0 oc0).ownBlock = some k) w1)
  have HA0 := Lib.hid (show ∀ j, (Value.slice oa0 on0 oc0).ownBlock = some j → (Value.slice oa0 on0 oc0).ownBlock = some j ∨ w1.heap.size ≤ j from fun j hj => .inl hj)
  have hdI : d + 1 < 1000000001 := by omega
  clear hkv ho hbw hlen hfin hok hac hR hRG hfl hlk hbest hfinG hGl hrow ih hfR hx1 hs1 hPb hB hb1 hKN hon0 hn
  go_enter Try.func44, Try.ntmps44
  go_wp2_with fail
  rw [HPB.out.1]
  clear hw1
  go_loopw [0, 11, 12, 13, 14, 15] (fun ov dv bv iv tv kv wr => ∃ (k : Nat) (oa : Option Addr) (on oc : Nat) (da : Option Addr) (dc : Nat), k ≤ G.length ∧ ov = .slice oa on oc ∧ dv = .slice da k dc ∧ Hid (OwnL nodeE wr B (.slice oa on oc) ((G.take k).foldl fR O)) ∧ Hid (OwnL idE wr w1.heap.size (.slice da k dc) (G.take k)) ∧ Hid (∀ j, (Value.slice da k dc).ownBlock = some j → (Value.slice oa on oc).ownBlock ≠ some j) ∧ Hid (Chg (fun k => (Value.slice oa0 on0 oc0).ownBlock = some k) w1 wr) ∧ Hid (∀ j, (Value.slice oa on oc).ownBlock = some j → (Value.slice oa0 on0 oc0).ownBlock = some j ∨ w1.heap.size ≤ j)) (fun _ dv _ _ _ _ _ => G.length - lenV dv)
  case atStart => exact ⟨0, oa0, on0, oc0, none, 0, Nat.zero_le _, rfl, rfl, HO0, HD0, HJ0, HC0, HA0⟩
  case round =>
    obtain ⟨k, oa, on, oc, da, dc, hk, rfl, rfl, HO, HD, HJ, HC, HA⟩ := hrel
    obtain ⟨W0, rfl⟩ : ∃ W0, W0 = wr := ⟨_, rfl⟩
    clear HO0 HD0 HJ0 HC0 HA0
    have HON := Lib.hid (show ((G.take k).foldl fR O).length = on by obtain ⟨a', c', e⟩ := HO.out.form; cases e; rfl)
    have honl : on < 1000000 := by rw [← HON.out]; exact HFL.out k
    have HDN := Lib.hid (show (G.take k).length = k by rw [List.length_take]; omega)
    have HKV0 := Lib.hid (HKV.out.below (HBW.out W0 HC.out))
    have HP0 := Lib.hid (HPX.out W0 HC.out)
    have hkKN : k ≤ KN := Nat.le_trans hk HGL.out
    have HB0 := Lib.hid (BestI.zero K p (G.take k))
    have HS0 := Lib.hid (Below.refl W0.heap.size W0)
    go_wp2_with fail
    go_loopw [12, 13, 14, 15] (fun bv iv tv kv wr => ∃ (i : Nat) (b : Int), i ≤ KN ∧ (-1 ≤ b ∧ b < 1000000) ∧ iv = .int .i64 (i : Int) ∧ bv = .int .i64 b ∧ Hid (BestI K p (G.take k) i b) ∧ Hid (Below W0.heap.size W0 wr)) (fun _ iv _ _ _ => KN - (intOf iv).toNat)
    case atStart => exact ⟨0, -1, Nat.zero_le _, by omega, rfl, rfl, HB0, HS0⟩
    case round =>
      obtain ⟨i, b, hi, hb, rfl, rfl, HBI, HS⟩ := hrel
      obtain ⟨W1, rfl⟩ : ∃ W1, W1 = wr := ⟨_, rfl⟩
      clear HB0 HS0
      have HP1 := Lib.hid ((HS.out.block Pb (Array.getElem?_eq_some_iff.1 HP0.out).1).trans HP0.out)
      by_cases hlt : i < KN
      case neg =>
        obtain rfl : i = KN := by omega
        have hbn := HBEST.out k b HBI.out
        have HC1 := Lib.hid (HC.out.trans (Chg.of_below (F := fun _ => False) HS.out) (fun j hj => hj.elim))
        have HO1 := Lib.hid (HO.out.below HS.out)
        have HD1 := Lib.hid (HD.out.below HS.out)
        by_cases hb0 : b < 0
        case pos =>
          have hbd : decide (b < 0) = true := decide_eq_true hb0
          have HFE := Lib.hid (show OwnL nodeE W1 wb.heap.size (.slice oa on oc) R by
            have hkG : k = G.length := by
              rcases hbn with ⟨_, h⟩ | ⟨j, _, _, e, _⟩
              · omega
              · omega
            have h1 := HO1.out
            rw [List.take_of_length_le (by omega), ← HRG.out] at h1
            rw [HBB.out]
            exact h1)
          have HCE := Lib.hid (show Chg (fun k => (Value.slice oa0 on0 oc0).ownBlock = some k) w W1 from (Chg.of_below HB1.out).trans HC1.out (fun j hj => .inl hj))
          have HAE := Lib.hid (show ∀ j, (Value.slice oa on oc).ownBlock = some j → (Value.slice oa0 on0 oc0).ownBlock = some j ∨ w.heap.size ≤ j from fun j hj => (HA.out j hj).imp id (fun h => by have := HPB.out; omega))
          clear hbn
          go_wp2_with fail
          exact bodyPost_ret (v := .slice oa on oc) (by simp [results, Try.results44, go_sem]) rfl ⟨_, rfl, HFE.out, HCE.out, HAE.out⟩
        obtain ⟨j, hjK, hkG, rfl, hjy⟩ : ∃ (j : Nat) (hj : j < K.length) (hk : k < G.length), b = (j : Int) ∧ K[j].id = G[k] := by
          rcases hbn with ⟨e, _⟩ | h
          · omega
          · exact h
        have hbd : decide ((j : Int) < 0) = false := decide_eq_false hb0
        have hjN : (j : Int) < (i : Int) := by have := HKN.out; omega
        obtain ⟨y, hy⟩ : ∃ y, G[k] = y := ⟨_, rfl⟩
        rw [hy] at hjy
        obtain ⟨kg, ko, ek, hkg, hkr⟩ := HKV.out.get hjK
        subst ek
        have hrv : K[j].row = idxL L y := by rw [HROW.out _ (List.getElem_mem hjK), hjy]
        have HY1 := Lib.hid (show ∀ w', Below wb.heap.size wb w' → w'.rangeAt kg (ko + j * 149) (bvs y.1) from fun w' hw' => by
          rw [← hjy]
          exact kn_id (range_below (show wb.rangeAt kg (ko + j * 149) K[j].cells from hkr) hkg hw'))
        have HY2 := Lib.hid (show ∀ w', Below wb.heap.size wb w' → w'.cell? ⟨kg, ko + j * 149 + 32, none⟩ = some (.int .i64 (idxL L y)) from fun w' hw' => by
          rw [← hrv]
          exact kn_row (range_below (show wb.rangeAt kg (ko + j * 149) K[j].cells from hkr) hkg hw'))
        have HYG := Lib.hid (show G.take (k + 1) = G.take k ++ [y] by rw [List.take_succ_eq_append_getElem hkG, hy])
        have HFY := Lib.hid (HFIN.out y (hy ▸ List.getElem_mem hkG))
        have HYA := Lib.hid (HY1.out W1 (HBW.out W1 HC1.out))
        clear hbn hjy hy hkr hkg hrv
        go_wp2_with (with_reducible refine wpList_load_mid rfl 35 (.tmp 76) rfl kg (ko + j * 149) rfl (bvs y.1) _ HYA.out Try.underlying35 rfl (sizeId y) ?_; refine Stop.on ?_)
        refine Stop.go ?_
        try simp only [Act.put, List.setIfInBounds_toArray, List.set_cons_zero, List.set_cons_succ]
        go_wp2_with (refine wpList_litsV idE rfl (some 78) rfl 1 _ rfl [y] rfl rfl (by decide) (by decide) ?_; refine Stop.on ?_)
        refine Stop.go ?_
        try simp only [Act.put, List.setIfInBounds_toArray, List.set_cons_zero, List.set_cons_succ]
        intro Wl xl bl sl
        try simp only [Act.put, List.setIfInBounds_toArray, List.set_cons_zero, List.set_cons_succ]
        have HLY := Lib.hid (list_of_block idE (M := [y]) xl (by unfold maxLen; simp))
        have HDl := Lib.hid (HD1.out.below bl)
        have HOl := Lib.hid (HO1.out.below bl)
        have HCl := Lib.hid (HC1.out.trans (Chg.of_below (F := fun _ => False) bl) (fun j hj => hj.elim))
        clear xl bl sl
        go_wp2_with (refine wpList_appL idE rfl (.tmp 72) (.tmp 78) rfl rfl HDl.out rfl HLY.out (n := k) (m := 1) HDN.out rfl (by omega) HCl.out.size ?_; refine Stop.on ?_)
        refine Stop.go ?_
        try simp only [Act.put, List.setIfInBounds_toArray, List.set_cons_zero, List.set_cons_succ]
        intro da5 dc5 W5 ho5 hg5 hat5
        try simp only [Act.put, List.setIfInBounds_toArray, List.set_cons_zero, List.set_cons_succ]
        have HD5 := Lib.hid (show OwnL idE W5 w1.heap.size (.slice da5 (k + 1) dc5) (G.take (k + 1)) by rw [HYG.out]; exact ho5)
        have hc5 := OwnL.grown_chg hg5
        have HO5 := Lib.hid (HOl.out.chg hc5 (fun x hx hx2 => HJ.out x hx2 hx))
        have HC5 := Lib.hid (HCl.out.trans hc5 (fun x hx => .inr (HD.out.lt hx).1))
        have HJ5 := Lib.hid (show ∀ x, (Value.slice da5 (k + 1) dc5).ownBlock = some x → (Value.slice oa on oc).ownBlock ≠ some x from fun x hx hx2 => by
          rcases hat5 x hx with h | h
          · exact HJ.out x h hx2
          · have := (HOl.out.lt hx2).2
            omega)
        have HS5 := Lib.hid (HBW.out W5 HC5.out)
        clear ho5 hg5 hat5 hc5
        go_wp2_with fail
        refine wp_region_noPanic ?_
        refine wp_region_H (Below wb.heap.size wb) (by kernel_rfl) ?_
        have hS0 : (Below wb.heap.size wb) W5.drew := HS5.out.trans ((Below.refl W5.heap.size W5).drew.mono HS5.out.size)
        have hOd := (show OwnL nodeE W5 wb.heap.size _ _ from HBB.out ▸ HO5.out).below (Below.refl W5.heap.size W5).drew
        have hDd := HD5.out.below (Below.refl W5.heap.size W5).drew
        have hCd := HC5.out.drew
        obtain ⟨wd, hwd⟩ : ∃ wd, W5.drew = wd := ⟨_, rfl⟩
        rw [hwd] at hS0 hOd hDd hCd ⊢
        clear hwd
        refine wpAnyH_takeI (i := 0) (v := ?v1) rfl (by kernel_rfl) (by kernel_rfl) (by kernel_rfl) (fun _ _ _ h => h) (yieldsIf_run rfl (fun w' hw' => ?y1)) hS0 ?_
        case y1 => first | (go_simp; rfl) | (go_simp; done) | rfl
        simp only [Act.put, List.setIfInBounds_toArray, List.set_cons_zero, List.set_cons_succ]
        refine wpAnyH_takeI (i := 1) (v := ?v2) rfl (by kernel_rfl) (by kernel_rfl) (by kernel_rfl) (fun _ _ _ h => h) (yieldsIf_run rfl (fun w' hw' => ?y2)) hS0 ?_
        case y2 => first | (go_simp; rfl) | (go_simp; done) | rfl
        simp only [Act.put, List.setIfInBounds_toArray, List.set_cons_zero, List.set_cons_succ]
        refine wpAnyH_takeI (i := 2) (v := ?v3) rfl (by kernel_rfl) (by kernel_rfl) (by kernel_rfl) (fun _ _ _ h => h) (yieldsIf_run rfl (fun w' hw' => ?y3)) hS0 ?_
        case y3 => first | (go_simp; rfl) | (go_simp; done) | rfl
        simp only [Act.put, List.setIfInBounds_toArray, List.set_cons_zero, List.set_cons_succ]
        refine wpAnyH_takeI (i := 3) (v := ?v4) rfl (by kernel_rfl) (by kernel_rfl) (by kernel_rfl) (fun _ _ _ h => h) (yieldsIf_run rfl (fun w' hw' => ?y4)) hS0 ?_
        case y4 => first | (go_simp; rfl) | (go_simp; done) | rfl
        simp only [Act.put, List.setIfInBounds_toArray, List.set_cons_zero, List.set_cons_succ]
        refine wpAnyH_takeI (i := 4) (v := ?v5) rfl (by kernel_rfl) (by kernel_rfl) (by kernel_rfl) (fun _ _ _ h => h) (yieldsIf_run rfl (fun w' hw' => ?y5)) hS0 ?_
        case y5 => first | (go_simp; rfl) | (go_simp; done) | rfl
        simp only [Act.put, List.setIfInBounds_toArray, List.set_cons_zero, List.set_cons_succ]
        refine wpAnyH_takeI (i := 5) (v := .agg (bvs y.1).toArray) rfl (by kernel_rfl) (by kernel_rfl) (by kernel_rfl) (fun _ _ _ h => h) (yieldsIf_load_mid rfl 35 (.tmp 84) rfl kg (ko + j * 149) rfl (bvs y.1) _ (fun w' hw' => HY1.out w' hw') Try.underlying35 rfl (sizeId y)) hS0 ?_
        simp only [Act.put, List.setIfInBounds_toArray, List.set_cons_zero, List.set_cons_succ]
        refine wpAnyH_takeI (i := 6) (v := ?v6) rfl (by kernel_rfl) (by kernel_rfl) (by kernel_rfl) (fun _ _ _ h => h) (yieldsIf_run rfl (fun w' hw' => ?y6)) hS0 ?_
        case y6 => first | (go_simp; rfl) | (go_simp; done) | rfl
        simp only [Act.put, List.setIfInBounds_toArray, List.set_cons_zero, List.set_cons_succ]
        refine wpAnyH_takeI (i := 7) (v := ?v7) rfl (by kernel_rfl) (by kernel_rfl) (by kernel_rfl) (fun _ _ _ h => h) (yieldsIf_run rfl (fun w' hw' => ?y7)) hS0 ?_
        case y7 => first | (go_simp; rfl) | (go_simp; done) | rfl
        simp only [Act.put, List.setIfInBounds_toArray, List.set_cons_zero, List.set_cons_succ]
        refine wpAnyH_takeI (i := 8) (v := ?v8) rfl (by kernel_rfl) (by kernel_rfl) (by kernel_rfl) (fun _ _ _ h => h) (yieldsIf_run rfl (fun w' hw' => ?y8)) hS0 ?_
        case y8 => first | (go_simp; rfl) | (go_simp; done) | rfl
        simp only [Act.put, List.setIfInBounds_toArray, List.set_cons_zero, List.set_cons_succ]
        refine wpAnyH_takeI (i := 9) (v := ?v9) rfl (by kernel_rfl) (by kernel_rfl) (by kernel_rfl) (fun _ _ _ h => h) (yieldsIf_run rfl (fun w' hw' => ?y9)) hS0 ?_
        case y9 => first | (go_simp; rfl) | (go_simp; done) | rfl
        simp only [Act.put, List.setIfInBounds_toArray, List.set_cons_zero, List.set_cons_succ]
        refine wpAnyH_takeI (i := 10) (v := .int .i64 (idxL L y)) rfl (by kernel_rfl) (by kernel_rfl) (by kernel_rfl) (fun _ _ _ h => h) (yieldsIf_run rfl (fun w' hw' => ?y10)) hS0 ?_
        case y10 => (have q1 := HY2.out w' hw'; clear hw'; first | (go_simp; rfl) | (go_simp; done))
        simp only [Act.put, List.setIfInBounds_toArray, List.set_cons_zero, List.set_cons_succ]
        refine wpAnyH_takeI (i := 11) (v := ?v11) rfl (by kernel_rfl) (by kernel_rfl) (by kernel_rfl) (fun _ _ _ h => h) (yieldsIf_run rfl (fun w' hw' => ?y11)) hS0 ?_
        case y11 => first | (go_simp; rfl) | (go_simp; done) | rfl
        simp only [Act.put, List.setIfInBounds_toArray, List.set_cons_zero, List.set_cons_succ]
        refine wpAnyH_takeI (i := 12) (v := ?v12) rfl (by kernel_rfl) (by kernel_rfl) (by kernel_rfl) (fun _ _ _ h => h) (yieldsIf_run rfl (fun w' hw' => ?y12)) hS0 ?_
        case y12 => first | (go_simp; rfl) | (go_simp; done) | rfl
        simp only [Act.put, List.setIfInBounds_toArray, List.set_cons_zero, List.set_cons_succ]
        refine wpAnyH_takeI (i := 13) (v := .agg (NodeV.cells ⟨y, idxL L y, at_, d⟩).toArray) rfl (by kernel_rfl) (by kernel_rfl) (by kernel_rfl) (fun _ _ _ h => h) (yieldsIf_run rfl (fun w' hw' => exec_buildL 37 _ rfl [(0, .agg (bvs y.1).toArray), (1, .int .i64 (idxL L y)), (2, .int .i64 at_), (3, .int .i64 d)] rfl (build_node ⟨y, idxL L y, at_, d⟩ _))) hS0 ?_
        simp only [Act.put, List.setIfInBounds_toArray, List.set_cons_zero, List.set_cons_succ]
        refine wpAnyH_do (i := 14) (by kernel_rfl) rfl rfl (fun K hK => ?_)
        refine wp_lit1 25 37 (.tmp 93) rfl (nodeE.enc (⟨y, idxL L y, at_, d⟩ : NodeV)).toArray rfl Try.underlying25 (sizeNodeB _) (by kernel_rfl) (by rw [sizeNode35]; decide) (by rw [sizeNode35]; decide) ?_
        obtain ⟨Wm, hwn⟩ : ∃ Wm, wd.alloc (.cells (nodeE.enc (⟨y, idxL L y, at_, d⟩ : NodeV)).toArray 37) = Wm := ⟨_, rfl⟩
        have hbn : Below wd.heap.size wd Wm := hwn ▸ one_below nodeE wd (⟨y, idxL L y, at_, d⟩ : NodeV)
        have hLWm : Wm.heap[wd.heap.size]? = some (.cells (nodeE.enc (⟨y, idxL L y, at_, d⟩ : NodeV)).toArray 37 (0, 0)) := by rw [← hwn]; exact heap_alloc_new _ _
        rw [hwn]
        have hOWm := hOd.below hbn
        have hsWm := hS0.trans (hbn.mono hS0.size)
        have hbWm := hbn
        clear hbn hwn
        refine hK _ _ (hsWm) ?_
        clear hK K
        try simp only [Act.put, List.setIfInBounds_toArray, List.set_cons_zero, List.set_cons_succ]
        refine wpAnyH_do (i := 15) (by kernel_rfl) rfl rfl (fun K hK => ?_)
        refine wp_appL nodeE (.tmp 80) (.tmp 94) rfl rfl hOWm rfl (list_block1 nodeE hLWm) (n := on) (m := 1) HON.out rfl (by omega) hsWm.size ?_
        intro a6 c6 W6 hOW6 hgW6 haW6
        have hsW6 := hsWm.trans (hOWm.grown_below hgW6 hsWm.size)
        refine hK _ _ (hsW6) ?_
        clear hK K
        try simp only [Act.put, List.setIfInBounds_toArray, List.set_cons_zero, List.set_cons_succ]
        refine wpAnyH_takeI (i := 16) (v := ?v13) rfl (by kernel_rfl) (by kernel_rfl) (by kernel_rfl) (fun _ _ _ h => h) (yieldsIf_run rfl (fun w' hw' => ?y13)) hsW6 ?_
        case y13 => first | (go_simp; rfl) | (go_simp; done) | rfl
        simp only [Act.put, List.setIfInBounds_toArray, List.set_cons_zero, List.set_cons_succ]
        refine wpAnyH_done (by kernel_rfl) ?_ _
        refine NoPanic.normal ?_
        have hbm : Below wd.heap.size wd Wm := hbWm
        have hc6 := OwnL.grown_chg hgW6
        have HO6 := Lib.hid hOW6
        have HD6 := Lib.hid ((hDd.below hbm).chg hc6 (fun x hx hx2 => HJ5.out x hx hx2))
        have HC6 := Lib.hid ((hCd.trans (Chg.of_below (F := fun _ => False) hbm) (fun x hx => hx.elim)).trans hc6 (fun x hx => HA.out x hx))
        have HJ6 := Lib.hid (show ∀ x, (Value.slice da5 (k + 1) dc5).ownBlock = some x → (Value.slice a6 (on + 1) c6).ownBlock ≠ some x from fun x hx hx2 => by
          rcases haW6 x hx2 with h | h
          · exact HJ5.out x hx h
          · have := ((hDd.below hbm).lt hx).2
            omega)
        have HA6 := Lib.hid (show ∀ x, (Value.slice a6 (on + 1) c6).ownBlock = some x → (Value.slice oa0 on0 oc0).ownBlock = some x ∨ w1.heap.size ≤ x from fun x hx => by
          rcases haW6 x hx with h | h
          · exact HA.out x h
          · right
            have h1 := hCd.size
            have h2 := hbm.size
            omega)
        have HS6 := Lib.hid hsW6
        clear hOd hDd hCd hOWm hLWm hsWm hsW6 hOW6 hgW6 haW6 hS0 hbm hc6
        have HYB := Lib.hid (HY1.out W6 HS6.out)
        go_wp2_with (with_reducible refine wpList_load_mid rfl 35 (.tmp 101) rfl kg (ko + j * 149) rfl (bvs y.1) _ HYB.out Try.underlying35 rfl (sizeId y) ?_; refine Stop.on ?_)
        refine Stop.go ?_
        try simp only [Act.put, List.setIfInBounds_toArray, List.set_cons_zero, List.set_cons_succ]
        go_wp2_with (refine wpList_buildV rfl (some 103) rfl 63 _ rfl [(0, .bool true), (1, .agg (bvs y.1).toArray)] rfl (.agg (pvC (some y)).toArray) (build_par1 y _) ?_; refine Stop.on ?_)
        refine Stop.go ?_
        try simp only [Act.put, List.setIfInBounds_toArray, List.set_cons_zero, List.set_cons_succ]
        obtain ⟨m, hm⟩ : ∃ m, m + 1 = n := by
          cases n with
          | zero => exact absurd HFY.out (fun h => h)
          | succ m => exact ⟨m, rfl⟩
        have HFM := Lib.hid (show ∀ z ∈ chl c (pls L c) (some y), FinK (kidsOf c (pls L c)) m z from by
          have h1 := HFY.out
          rw [← hm] at h1
          exact h1)
        have HVY := Lib.hid (show (G.take (k + 1)).foldl fR O = growL c (pls L c) (idxL L) m (some y) (((G.take k).foldl fR O) ++ [⟨y, idxL L y, at_, d⟩]) (on : Int) (d + 1) by
          rw [HYG.out, List.foldl_append, List.foldl_cons, List.foldl_nil]
          obtain ⟨X, hX⟩ : ∃ X, (G.take k).foldl fR O = X := ⟨_, rfl⟩
          rw [hX]
          have h1 := HON.out
          rw [hX] at h1
          rw [← HFR.out, ← hm, ← h1]
          exact visL_grow c (pls L c) (idxL L) m X y at_ d)
        have hd2 : 0 ≤ d + 1 := by omega
        have hdm : d + 1 + m < 1000000000 := by omega
        have honI : ((on : Int) + 1 - 1) = (on : Int) := by omega
        have HIHm := Lib.hid (HIH.out m hm)
        have HLM := Lib.hid (show (growL c (pls L c) (idxL L) m (some y) (((G.take k).foldl fR O) ++ [⟨y, idxL L y, at_, d⟩]) (on : Int) (d + 1)).length < 1000000 by rw [← HVY.out]; exact HFL.out (k + 1))
        clear hm honI
        go_wp2_with fail
        refine (HIHm.out _ (some y) _ _ (on : Int) (d + 1) HFM.out HS6.out HO6.out HLM.out hd2 hdm).mono ?_
        rintro e W7 ⟨v7, rfl, ho7, hc7, ha7⟩
        rw [← HVY.out] at ho7
        obtain ⟨on7, hon7⟩ : ∃ on7, ((G.take (k + 1)).foldl fR O).length = on7 := ⟨_, rfl⟩
        obtain ⟨oa7, oc7, rfl⟩ := ho7.form
        rw [hon7] at ho7 ha7 ⊢
        have HO7 := Lib.hid (show OwnL nodeE W7 B (.slice oa7 on7 oc7) ((G.take (k + 1)).foldl fR O) by rw [← HBB.out]; exact ho7)
        have HD7 := Lib.hid (HD6.out.chg hc7 (fun x hx hx2 => HJ6.out x hx hx2))
        have HC7 := Lib.hid (HC6.out.trans hc7 (fun x hx => HA6.out x hx))
        have HJ7 := Lib.hid (show ∀ x, (Value.slice da5 (k + 1) dc5).ownBlock = some x → (Value.slice oa7 on7 oc7).ownBlock ≠ some x from fun x hx hx2 => by
          rcases ha7 x hx2 with h | h
          · exact HJ6.out x hx h
          · have := (HD6.out.lt hx).2
            omega)
        have HA7 := Lib.hid (show ∀ x, (Value.slice oa7 on7 oc7).ownBlock = some x → (Value.slice oa0 on0 oc0).ownBlock = some x ∨ w1.heap.size ≤ x from fun x hx => by
          rcases ha7 x hx with h | h
          · exact HA6.out x h
          · right
            have := HC6.out.size
            omega)
        clear ho7 hc7 ha7 hon7
        go_wp2_with fail
        go_roundw
        case rel => exact ⟨k + 1, oa7, on7, oc7, da5, dc5, by omega, rfl, rfl, HO7, HD7, HJ7, HC7, HA7⟩
        case measure => simp [lenV] <;> omega
      have hiK : i < K.length := by rw [HKN.out]; exact hlt
      have hiI : (i : Int) < (KN : Int) := by omega
      obtain ⟨kg, ko, ek, hkg, hkr⟩ := (HKV0.out.below HS.out).get hiK
      subst ek
      obtain ⟨kn, hkn⟩ : ∃ kn, K[i] = kn := ⟨_, rfl⟩
      have HKNE := Lib.hid hkn
      have HKA := Lib.hid (show ∀ w', Below W1.heap.size W1 w' → ∀ (j : Nat) (hj : j < K.length), w'.rangeAt kg (ko + j * 149) K[j].cells from fun w' hw' j hj => by
        obtain ⟨g', o', e', hg', hr'⟩ := (HKV0.out.below HS.out).get hj
        cases e'
        exact range_below (show W1.rangeAt kg (ko + j * 149) K[j].cells from hr') hg' hw')
      have HKR := Lib.hid (show ∀ w', Below W1.heap.size W1 w' → w'.rangeAt kg (ko + i * 149) kn.cells from fun w' hw' => by rw [← hkn]; exact HKA.out w' hw' i hiK)
      have HPR := Lib.hid (show ∀ w', Below W1.heap.size W1 w' → w'.heap[Pb]? = some (.cells (pvC p).toArray 63 (0, 0)) from fun w' hw' => (hw'.block Pb (Array.getElem?_eq_some_iff.1 HP1.out).1).trans HP1.out)
      clear hkr hkg hkn
      go_wp2_with fail
      refine wp_region_seq 7 (by kernel_rfl) (by kernel_rfl) ?_
      simp only [List.take_succ_cons, List.take_zero, List.drop_succ_cons, List.drop_zero]
      obtain ⟨wd, hwd⟩ : ∃ wd, W1.drew = wd := ⟨_, rfl⟩
      have hd_wd : Below W1.heap.size W1 wd ∧ wd.heap.size = W1.heap.size := hwd ▸ ⟨(Below.refl _ _).drew, rfl⟩
      rw [hwd]
      clear hwd
      have HUP := Lib.hid (kn_up (HKR.out wd hd_wd.1))
      have HPd := Lib.hid (HPR.out wd hd_wd.1)
      have HSd := Lib.hid hd_wd.1
      clear hd_wd
      go_wp2_with (with_reducible refine wpList_load_mid rfl 63 (.tmp 25) rfl kg (ko + i * 149 + 116) rfl (pvC kn.up) _ HUP.out Try.underlying63 rfl (sizePar kn.up) ?_; refine Stop.on ?_)
      refine Stop.go ?_
      try simp only [Act.put, List.setIfInBounds_toArray, List.set_cons_zero, List.set_cons_succ]
      go_wp2_with (refine wpList_loadV rfl (some 27) rfl 63 (.tmp 7) rfl _ rfl 63 (pvC p).toArray (0, 0) _ HPd.out Try.underlying63 rfl (sizeParA p) ?_; refine Stop.on ?_)
      refine Stop.go ?_
      try simp only [Act.put, List.setIfInBounds_toArray, List.set_cons_zero, List.set_cons_succ]
      refine wpList_runI rfl (some 28) rfl (.bool (!decide (kn.up = p))) _ (op_neq 63 (.tmp 26) (.tmp 27) 63 rfl rfl rfl guard_Par (neq_Par kn.up p _)) ?_
      try simp only [Act.put, List.setIfInBounds_toArray, List.set_cons_zero, List.set_cons_succ]
      obtain ⟨tb0, htb0⟩ : ∃ tb0, (!decide (kn.up = p)) = tb0 := ⟨_, rfl⟩
      rw [htb0]
      refine HeadPost.mk ?_
      have HT0 := Lib.hid (show tb0 = true ↔ kn.up ≠ p ∨ kn.id ∈ (G.take k).take 0 by rw [← htb0, List.take_zero]; simp)
      have HR0 := Lib.hid (Below.refl wd.heap.size wd)
      clear htb0
      go_wp2_with fail
      go_loopw [14, 15] (fun tv mv wr => ∃ (m : Nat) (tb : Bool), m ≤ k ∧ mv = .int .i64 (m : Int) ∧ tv = .bool tb ∧ Hid (tb = true ↔ kn.up ≠ p ∨ kn.id ∈ (G.take k).take m) ∧ Hid (Below wd.heap.size wd wr)) (fun _ mv _ => k - (intOf mv).toNat)
      case atStart => exact ⟨0, tb0, Nat.zero_le _, rfl, rfl, HT0, HR0⟩
      case round =>
        obtain ⟨m, tb, hm, rfl, rfl, HT, HR⟩ := hrel
        obtain ⟨W2, rfl⟩ : ∃ W2, W2 = wr := ⟨_, rfl⟩
        clear HR0 HT0
        have HS2 := Lib.hid (HSd.out.trans (HR.out.mono HSd.out.size))
        by_cases hmk : m < k
        case neg =>
          obtain rfl : m = k := by omega
          have hall : tb = true ↔ K[i].up ≠ p ∨ K[i].id ∈ G.take m := by
            have h := HT.out
            rw [List.take_of_length_le (l := G.take m) (by rw [HDN.out]; exact Nat.le_refl _), ← HKNE.out] at h
            exact h
          have HCN := Lib.hid (cand_next (p := p) (D := G.take m) hiK hall)
          have HSe0 := Lib.hid (HS.out.trans (HS2.out.mono HS.out.size))
          clear hall
          go_wp2_with fail
          refine wp_region_seq 16 (by kernel_rfl) (by kernel_rfl) ?_
          simp only [List.take_succ_cons, List.take_zero, List.drop_succ_cons, List.drop_zero]
          obtain ⟨wf, hwd⟩ : ∃ wf, W2.drew = wf := ⟨_, rfl⟩
          have hd_wf : Below W2.heap.size W2 wf ∧ wf.heap.size = W2.heap.size := hwd ▸ ⟨(Below.refl _ _).drew, rfl⟩
          rw [hwd]
          clear hwd
          have HSf := Lib.hid (HS2.out.trans (hd_wf.1.mono HS2.out.size))
          have HSe := Lib.hid (HSe0.out.trans (hd_wf.1.mono HSe0.out.size))
          clear hd_wf
          cases tb with
          | true =>
            have HBN := Lib.hid (HBI.out.skip (fun h => by have := HCN.out.1 h; simp at this))
            go_wp2_with fail
            refine HeadPost.mk ?_
            go_wp2_with fail
            go_roundw
            case rel => exact ⟨i + 1, b, by omega, by omega, by go_num, rfl, HBN, HSe⟩
            case measure => simp [intOf] <;> omega
          | false =>
            have HCY := Lib.hid (HCN.out.2 rfl)
            by_cases hb0 : b < 0
            case pos =>
              have hbd : decide (b < 0) = true := decide_eq_true hb0
              have HBN := Lib.hid (HBI.out.take hiK HCY.out (.inl hb0))
              go_wp2_with fail
              refine HeadPost.mk ?_
              go_wp2_with fail
              go_roundw
              case rel => exact ⟨i + 1, (i : Int), by omega, by omega, by go_num, rfl, HBN, HSe⟩
              case measure => simp [intOf] <;> omega
            obtain ⟨j, rfl⟩ : ∃ j : Nat, b = (j : Int) := ⟨b.toNat, by omega⟩
            obtain ⟨j', hjK, ej, hji, _⟩ := HBI.out.yes (by omega)
            obtain rfl : j = j' := by omega
            clear ej
            have hbd : decide ((j : Int) < 0) = false := decide_eq_false hb0
            have hjN : (j : Int) < (KN : Int) := by omega
            have HPI := Lib.hid (kn_place (HKA.out wf HSf.out i hiK))
            have HPJ := Lib.hid (kn_place (HKA.out wf HSf.out j hjK))
            go_wp2_with (refine wpList_met rfl ?_; with_reducible refine wpList_load_mid rfl 43 (.tmp 57) rfl kg (ko + i * 149 + 33) rfl K[i].place.cells _ HPI.out Try.underlying43 rfl (sizeRow K[i].place) ?_; refine Stop.on ?_)
            refine Stop.go ?_
            try simp only [Act.put, List.setIfInBounds_toArray, List.set_cons_zero, List.set_cons_succ]
            go_wp2_with (refine wpList_met rfl ?_; with_reducible refine wpList_load_mid rfl 43 (.tmp 62) rfl kg (ko + j * 149 + 33) rfl K[j].place.cells _ HPJ.out Try.underlying43 rfl (sizeRow K[j].place) ?_; refine Stop.on ?_)
            refine Stop.go ?_
            try simp only [Act.put, List.setIfInBounds_toArray, List.set_cons_zero, List.set_cons_succ]
            refine HeadPost.mk ?_
            obtain ⟨cv, hcv⟩ : ∃ cv, cmpT K[i].place.tw K[j].place.tw = cv := ⟨_, rfl⟩
            go_wp2_with fail
            refine (ordRow K[i].place K[j].place _).mono ?_
            rintro e We ⟨rfl, q9, os9, rfl⟩
            obtain ⟨W9, hW9⟩ : ∃ W9, grow (wf.drewN q9) os9 = W9 := ⟨_, rfl⟩
            have hb9 := grow_below wf q9 os9
            rw [hW9] at hb9 ⊢
            rw [hcv]
            have HS9 := Lib.hid (HSe.out.trans (hb9.mono HSe.out.size))
            clear hb9 hW9
            by_cases hc0 : cv < 0
            case pos =>
              have hcd : decide (cv < 0) = true := decide_eq_true hc0
              have HBN := Lib.hid (HBI.out.take hiK HCY.out (.inr ⟨j, hjK, rfl, by rw [hcv]; exact hc0⟩))
              go_wp2_with fail
              go_roundw
              case rel => exact ⟨i + 1, (i : Int), by omega, by omega, by go_num, rfl, HBN, HS9⟩
              case measure => simp [intOf] <;> omega
            have hcd : decide (cv < 0) = false := decide_eq_false hc0
            have HBN := Lib.hid (HBI.out.keep hiK hjK rfl (by rw [hcv]; exact hc0))
            go_wp2_with fail
            go_roundw
            case rel => exact ⟨i + 1, (j : Int), by omega, by omega, by go_num, rfl, HBN, HS9⟩
            case measure => simp [intOf] <;> omega
        have hmG : m < (G.take k).length := by rw [HDN.out]; exact hmk
        have hmI : (m : Int) < (k : Int) := by omega
        obtain ⟨dg, do_, ed, hdg, hdr⟩ := ((HD.out.at_.below HS.out).below HS2.out).get hmG
        subst ed
        obtain ⟨z, hz⟩ : ∃ z, (G.take k)[m] = z := ⟨_, rfl⟩
        rw [hz] at hdr
        have HZR := Lib.hid (show ∀ w', Below W2.heap.size W2 w' → w'.rangeAt dg (do_ + m * 32) (bvs z.1) from fun w' hw' => range_below hdr hdg hw')
        have HNX := Lib.hid (show kn.id ∈ (G.take k).take (m + 1) ↔ kn.id ∈ (G.take k).take m ∨ z = kn.id by
          rw [List.take_succ_eq_append_getElem hmG, hz, List.mem_append, List.mem_singleton]
          exact ⟨fun h => h.imp id Eq.symm, fun h => h.imp id Eq.symm⟩)
        clear hz hdr hdg hmG
        go_wp2_with fail
        refine wp_region_seq 13 (by kernel_rfl) (by kernel_rfl) ?_
        simp only [List.take_succ_cons, List.take_zero, List.drop_succ_cons, List.drop_zero]
        obtain ⟨we, hwd⟩ : ∃ we, W2.drew = we := ⟨_, rfl⟩
        have hd_we : Below W2.heap.size W2 we ∧ we.heap.size = W2.heap.size := hwd ▸ ⟨(Below.refl _ _).drew, rfl⟩
        rw [hwd]
        clear hwd
        have HZe := Lib.hid (HZR.out we hd_we.1)
        have HIe := Lib.hid (kn_id (HKR.out we (HS2.out.trans (hd_we.1.mono HS2.out.size))))
        have HRe := Lib.hid (HR.out.trans (hd_we.1.mono HR.out.size))
        clear hd_we
        cases tb with
        | true =>
          have HTN := Lib.hid (show kn.up ≠ p ∨ kn.id ∈ (G.take k).take (m + 1) from (HT.out.1 (by simp)).imp id (fun h => HNX.out.2 (.inl h)))
          go_wp2_with fail
          refine HeadPost.mk ?_
          go_wp2_with fail
          go_roundw
          case rel => exact ⟨m + 1, true, by omega, by go_num, rfl, Lib.hid ⟨fun _ => HTN.out, fun _ => rfl⟩, HRe⟩
          case measure => simp [intOf] <;> omega
        | false =>
          go_wp2_with (refine wpList_met rfl ?_; with_reducible refine wpList_load_mid rfl 35 (.tmp 39) rfl dg (do_ + m * 32) rfl (bvs z.1) _ HZe.out Try.underlying35 rfl (sizeId z) ?_; refine Stop.on ?_)
          refine Stop.go ?_
          try simp only [Act.put, List.setIfInBounds_toArray, List.set_cons_zero, List.set_cons_succ]
          go_wp2_with (refine wpList_met rfl ?_; with_reducible refine wpList_load_mid rfl 35 (.tmp 44) rfl kg (ko + i * 149) rfl (bvs kn.id.1) _ HIe.out Try.underlying35 rfl (sizeId kn.id) ?_; refine Stop.on ?_)
          refine Stop.go ?_
          try simp only [Act.put, List.setIfInBounds_toArray, List.set_cons_zero, List.set_cons_succ]
          refine wpList_met rfl ?_
          refine wpList_runI rfl (some 46) rfl (.bool (decide (z = kn.id))) _ (op_eql 35 (.tmp 40) (.tmp 45) 35 rfl rfl rfl guard_Id (eql_Id z kn.id _)) ?_
          try simp only [Act.put, List.setIfInBounds_toArray, List.set_cons_zero, List.set_cons_succ]
          obtain ⟨tb2, htb2⟩ : ∃ tb2, decide (z = kn.id) = tb2 := ⟨_, rfl⟩
          rw [htb2]
          have HTN := Lib.hid (show tb2 = true ↔ kn.up ≠ p ∨ kn.id ∈ (G.take k).take (m + 1) by
            have h1 := HT.out
            rw [HNX.out, ← or_assoc, ← h1, ← htb2]
            simp)
          clear htb2
          go_wp2_with fail
          refine HeadPost.mk ?_
          go_wp2_with fail
          go_roundw
          case rel => exact ⟨m + 1, tb2, by omega, by go_num, rfl, HTN, HRe⟩
          case measure => simp [intOf] <;> omega
theorem grow_any {wb : World} {L : List RowV} {c : Par} {K : List KnV} {kv : Value} (hkv : ListAt knE wb kv K) (hok : KnOk L c K) (hn : (L.map (·.id)).Nodup) (hac : ∀ x, ¬ onC c x) (hKl : K.length < 1000000) : ∀ n, GrowAt wb L c kv n
  | 0 => grow_step hkv hok hn hac hKl 0 (fun m hm => by omega)
  | n + 1 => grow_step hkv hok hn hac hKl (n + 1) (fun m hm => by
    obtain rfl : m = n := by omega
    exact grow_any hkv hok hn hac hKl m)
def ForPost (w : World) (R : List NodeV) (e : Ending) (w' : World) : Prop := ∃ v', e = .returned v' ∧ OwnL nodeE w' w.heap.size v' R ∧ Below w.heap.size w w'
set_option maxRecDepth 100000 in
set_option maxHeartbeats 2000000 in
theorem forest_any {w : World} (v : Value) (L : List RowV) (c : Par) (hc : IsCut (parP L) (arrS L) c) (hv : RowsAt w v L) (hn : (L.map (·.id)).Nodup) (hl : L.length < 100000) :
    Calls Try.prog 20 #[v] w (ForPost w (forestV L c)) := by
  obtain ⟨va, vc, rfl⟩ := hv.l.form
  have hac := cut_acyclic hc
  have hlen : (forestV L c).length < 1000000 := by
    rw [forestV_eq hn]
    unfold forestS
    have h1 := forL_len hac (pls_nodup hn c) (idxL L) ((place (isArt (arrS L)) c (arrS L)).pl.length + 1)
    have h2 := pls_len L c
    unfold pls at h1 h2
    omega
  have hpl := pls_len L c
  have HPL := Lib.hid hpl
  have HLEN := Lib.hid hlen
  have HAC := Lib.hid hac
  have HV := Lib.hid hv
  have HND := Lib.hid hn
  have HC := Lib.hid hc
  obtain ⟨N, hN⟩ : ∃ N, L.length = N := ⟨_, rfl⟩
  have HN := Lib.hid hN
  rw [hN] at hl ⊢
  clear hac hlen hpl hv hn hc hN
  go_enter Try.func20, Try.ntmps20
  go_wp2_with fail
  refine (knots_any _ L c HC.out (by have := HV.out; rw [HN.out] at this; exact this) HND.out (by rw [HN.out]; omega)).mono ?_
  rintro e Wk ⟨kv, K, rfl, hok, hki, hbk⟩
  have HKV := Lib.hid hok.at_
  have HKO := Lib.hid (hki.ok HND.out HC.out)
  have HKL := Lib.hid (show K.length < 1000000 by have := hki.len; have := HN.out; omega)
  have HBK := Lib.hid hbk
  clear hok hki hbk
  go_wp2_with (refine wpList_buildV rfl (some 5) rfl 63 _ rfl [] rfl (.agg (pvC none).toArray) (build_par0 _) ?_; refine Stop.on ?_)
  refine Stop.go ?_
  try simp only [Act.put, List.setIfInBounds_toArray, List.set_cons_zero, List.set_cons_succ]
  go_wp2_with fail
  refine ((grow_any HKV.out HKO.out HND.out HAC.out HKL.out ((pls L c).length + 1)) Wk none (.slice none 0 0) [] (-1) 0 (fun y _ => fin_all HAC.out y) (Below.refl _ _) (ownL_nil nodeE Wk Wk.heap.size) (by rw [growL_none L HND.out c]; exact HLEN.out) (by omega) (by have := HPL.out; have := HN.out; omega)).mono ?_
  rintro e Wg ⟨gv, rfl, hog, hcg, _⟩
  rw [growL_none L HND.out c] at hog
  have HOG := Lib.hid (hog.base HBK.out.size)
  have HBG := Lib.hid (HBK.out.trans ((hcg.below (B := Wk.heap.size) (fun k hk => by cases hk) (Nat.le_refl _)).mono HBK.out.size))
  clear hog hcg
  go_wp2_with fail
  exact bodyPost_ret (v := gv) (by simp [results, Try.results20, go_sem]) rfl ⟨_, rfl, HOG.out, HBG.out⟩
end Go.Proofs.Ythfinofmbnfijaa
