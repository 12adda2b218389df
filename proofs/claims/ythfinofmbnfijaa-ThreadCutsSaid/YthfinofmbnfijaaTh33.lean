/- Cut; ThreadCuts. -/
import Derived.Test.YthfinofmbnfijaaTh31
import Derived.Test.YthfinofmbnfijaaTp18
namespace Go.Proofs.Ythfinofmbnfijaa
open Go.Shelf Go.RowKit Go.Lib Go.Sort
set_option linter.unusedVariables false
set_option linter.unusedSimpArgs false

theorem sl_nil (ad : Addr) (n c : Nat) (w : World) : (binOp .eql 25 (.slice (some ad) n c) (.slice none 0 0)).run Try.prog w = .ok (.bool false) w := by kernel_rfl
set_option maxRecDepth 100000 in
set_option maxHeartbeats 2000000 in
theorem Clone_any {w : World} (ad : Addr) (n c : Nat) (L : List NodeV) (hv : ListAt nodeE w (.slice (some ad) n c) L) (hl : L.length < 1000000) : Calls Try.prog 50 #[.slice (some ad) n c] w fun e w' => ∃ v', e = .returned v' ∧ OwnL nodeE w' w.heap.size v' L ∧ Below w.heap.size w w' := by
  have HV := Lib.hid hv
  have HL := Lib.hid (show L.length = n from hv.len.1.symm)
  have hn : n < 1000000 := by rw [hv.len.1]; exact hl
  have hnil := fun w => sl_nil ad n c w
  clear hv hl
  go_enter Try.func50, Try.ntmps50
  go_wp2_with (refine wpList_lit0 nodeE rfl (some 5) rfl rfl ?_; refine Stop.on ?_)
  refine Stop.go ?_
  try simp only [Act.put, List.setIfInBounds_toArray, List.set_cons_zero, List.set_cons_succ]
  intro Wl xl bl
  try simp only [Act.put, List.setIfInBounds_toArray, List.set_cons_zero, List.set_cons_succ]
  have HOl := Lib.hid xl
  have HVl := Lib.hid (HV.out.below bl)
  have HBl := Lib.hid bl
  clear xl bl
  go_wp2_with (refine wpList_appL nodeE rfl (.tmp 5) (.tmp 6) rfl rfl HOl.out rfl HVl.out (n := 0) (m := n) rfl HL.out (by omega) HBl.out.size ?_; refine Stop.on ?_)
  refine Stop.go ?_
  try simp only [Act.put, List.setIfInBounds_toArray, List.set_cons_zero, List.set_cons_succ]
  intro a5 c5 W5 ho5 hg5 hat5
  try simp only [Act.put, List.setIfInBounds_toArray, List.set_cons_zero, List.set_cons_succ]
  try rw [Nat.zero_add] at ho5 ⊢
  have HO := Lib.hid (show OwnL nodeE W5 w.heap.size (.slice a5 n c5) L from ho5)
  have HB := Lib.hid (HBl.out.trans (HOl.out.grown_below hg5 HBl.out.size))
  clear ho5 hg5 hat5
  go_wp2_with fail
  exact bodyPost_ret (v := .slice a5 n c5) (by simp [results, Try.results50, go_sem]) rfl ⟨_, rfl, HO.out, HB.out⟩
def convN (k : Nat) (dk : Int) (n : NodeV) : NodeV := ⟨n.id, n.row, n.parent - k, n.depth - dk⟩
def mixC (G : List NodeV) (k : Nat) (dk : Int) (i : Nat) : List NodeV := (G.take i).map (convN k dk) ++ G.drop i
theorem mixC_len (G : List NodeV) (k : Nat) (dk : Int) {i : Nat} (hi : i ≤ G.length) : (mixC G k dk i).length = G.length := by
  unfold mixC
  rw [List.length_append, List.length_map, List.length_take, List.length_drop]
  omega
theorem mixC_at (G : List NodeV) (k : Nat) (dk : Int) {i : Nat} (hi : i < G.length) (h : i < (mixC G k dk i).length) : (mixC G k dk i)[i] = G[i] := by
  unfold mixC at h ⊢
  rw [List.getElem_append_right (by rw [List.length_map, List.length_take]; omega), List.getElem_drop]
  congr 1
  rw [List.length_map, List.length_take]
  omega
theorem mixC_next (G : List NodeV) (k : Nat) (dk : Int) {i : Nat} (hi : i < G.length) : (mixC G k dk i).set i (convN k dk G[i]) = mixC G k dk (i + 1) := by
  unfold mixC
  have h1 : ((G.take i).map (convN k dk)).length = i := by rw [List.length_map, List.length_take]; omega
  rw [List.set_append_right _ _ (by omega), h1, Nat.sub_self, List.drop_eq_getElem_cons hi, List.set_cons_zero, List.take_succ_eq_append_getElem hi, List.map_append]
  simp
theorem mixC_all {F : List NodeV} {k e : Nat} {dk : Int} (hke : k < e) (he : e ≤ F.length) : ∀ (n0 : NodeV), ((mixC ((F.drop k).take (e - k)) k dk (e - k))[0]? = some n0 → (mixC ((F.drop k).take (e - k)) k dk (e - k)).set 0 (n0.wPar (-1)) = cutGL F k e dk) := fun n0 h0 => by
  have hl : ((F.drop k).take (e - k)).length = e - k := by rw [List.length_take, List.length_drop]; omega
  have hm : mixC ((F.drop k).take (e - k)) k dk (e - k) = ((F.drop k).take (e - k)).map (convN k dk) := by
    unfold mixC
    obtain ⟨X, hX⟩ : ∃ X, (F.drop k).take (e - k) = X := ⟨_, rfl⟩
    rw [hX] at hl ⊢
    rw [List.take_of_length_le (Nat.le_of_eq hl), List.drop_of_length_le (Nat.le_of_eq hl), List.append_nil]
  rw [hm] at h0 ⊢
  unfold cutGL
  apply List.ext_getElem?
  intro i
  rw [List.getElem?_mapIdx]
  by_cases hi : i = 0
  · subst hi
    rw [List.getElem?_set_self (by rw [List.length_map, hl]; omega)]
    rw [List.getElem?_map] at h0
    cases hx : ((F.drop k).take (e - k))[0]? with
    | none => rw [hx] at h0; cases h0
    | some x =>
      rw [hx] at h0
      have : convN k dk x = n0 := Option.some.inj h0
      rw [← this]
      rfl
  · rw [List.getElem?_set_ne (by omega), List.getElem?_map]
    cases hx : ((F.drop k).take (e - k))[i]? with
    | none => rfl
    | some x =>
      show some (convN k dk x) = some (cutN1 k dk i x)
      unfold cutN1 convN
      rw [if_neg hi]
theorem slice_KE {g o n c k e : Nat} (hk : k < e) (he : e ≤ c) (w : World) : (Instr.sliceAt 25 (.slice (some ⟨g, o, none⟩) n c) (some (.int .i64 (k : Int))) (some (.int .i64 (e : Int))) none).run Try.prog w = .ok (.slice (some ⟨g, o + k * 35, none⟩) (e - k) (c - k)) w := by
  have h1 : (k : Int) ≤ (e : Int) := by omega
  have h2 : (e : Int) ≤ (c : Int) := by omega
  have h3 : ¬ c = k := by omega
  go_simp
def CutPost (w : World) (F : List NodeV) (a : Int) (e : Ending) (w' : World) : Prop := Below w.heap.size w w' ∧ ((inL F.length a = false ∧ e = .returned (.tuple #[.slice none 0 0, .int .i64 2])) ∨ ∃ (k en : Nat) (gv : Value) (hk : k < F.length), a = (k : Int) ∧ EndAt F k en ∧ e = .returned (.tuple #[gv, .int .i64 0]) ∧ OwnL nodeE w' w.heap.size gv (cutGL F k en F[k].depth))
set_option maxRecDepth 100000 in
set_option maxHeartbeats 2000000 in
theorem Cut_any {w : World} (v : Value) (F : List NodeV) (hv : ListAt nodeE w v F) (hc : checkP F = 0) (hl : F.length < 1000000) (a : Int) : Calls Try.prog 33 #[v, .int .i64 a] w (CutPost w F a) := by
  obtain ⟨va, vc, rfl⟩ := hv.form
  obtain ⟨N, hN⟩ : ∃ N, F.length = N := ⟨_, rfl⟩
  have HN := Lib.hid hN
  have HV := Lib.hid (show ListAt nodeE w (.slice va N vc) F by rw [← hN]; exact hv)
  have HL := Lib.hid hl
  have HCK := Lib.hid hc
  obtain ⟨hz1, hnc, hcm, hz2⟩ := HV.out.len
  unfold maxLen at hcm
  rw [hN] at hl ⊢
  clear hv hN hc hz1 hz2
  go_enter Try.func33, Try.ntmps33
  go_wp2_with fail
  refine (Check_any _ F HV.out HL.out).mono ?_
  rintro e Wc ⟨rfl, hb⟩
  rw [HCK.out]
  have HBc := Lib.hid hb
  have HVc := Lib.hid (HV.out.below hb)
  clear hb
  cases hin : inL N a with
  | false =>
    have HIN := Lib.hid (show inL F.length a = false by rw [HN.out]; exact hin)
    rcases inL_out hin with h | ⟨h1, h2⟩
    · have hd : decide (a < 0) = true := decide_eq_true h
      clear hin
      go_wp2_with fail
      exact bodyPost_ret (v := .tuple #[.slice none 0 0, .int .i64 2]) (by simp [results, Try.results33, go_sem]) rfl ⟨HBc.out, .inl ⟨HIN.out, rfl⟩⟩
    · have hd : decide (a < 0) = false := decide_eq_false (by omega)
      have hd2 : decide ((N : Int) ≤ a) = true := decide_eq_true h2
      clear hin
      go_wp2_with fail
      exact bodyPost_ret (v := .tuple #[.slice none 0 0, .int .i64 2]) (by simp [results, Try.results33, go_sem]) rfl ⟨HBc.out, .inl ⟨HIN.out, rfl⟩⟩
  | true =>
    have hr := of_decide_eq_true hin
    obtain ⟨k, rfl⟩ : ∃ k : Nat, a = (k : Int) := ⟨a.toNat, by omega⟩
    have hkN : k < N := by omega
    have hkF : k < F.length := by rw [HN.out]; exact hkN
    have hkI : (k : Int) < (N : Int) := by omega
    have hd : decide ((k : Int) < 0) = false := decide_eq_false (by omega)
    have hd2 : decide ((N : Int) ≤ (k : Int)) = false := decide_eq_false (by omega)
    have hd3 : decide (N ≤ k) = false := decide_eq_false (by omega)
    clear hin hr
    go_wp2_with fail
    refine (End_any _ F HVc.out HL.out (k : Int)).mono ?_
    rintro e We ⟨hb, hor⟩
    obtain ⟨en, hE, rfl⟩ : ∃ en : Nat, EndAt F k en ∧ e = .returned (.int .i64 (en : Int)) := by
      rcases hor with ⟨h1, _⟩ | ⟨k', en, h1, _, h2, h3⟩
      · have := of_decide_eq_false h1
        rw [HN.out] at this
        omega
      · obtain rfl : k = k' := by omega
        exact ⟨en, h2, h3⟩
    have hke := hE.lt
    have heN := hE.le
    rw [HN.out] at heN
    have HE := Lib.hid hE
    have HBe := Lib.hid (HBc.out.trans (hb.mono HBc.out.size))
    have HVe := Lib.hid (HVc.out.below hb)
    obtain ⟨vg, vo, ev, hvg, _⟩ := HVe.out.get hkF
    subst ev
    have hsl := slice_KE (g := vg) (o := vo) (n := N) (c := vc) hke (Nat.le_trans heN hnc)
    obtain ⟨D, hD⟩ : ∃ D, (F.drop k).take (en - k) = D := ⟨_, rfl⟩
    have HD := Lib.hid hD
    have HDL := Lib.hid (show D.length = en - k by rw [← hD, List.length_take, List.length_drop, HN.out]; omega)
    have HSL := Lib.hid (show ListAt nodeE We (.slice (some ⟨vg, vo + k * 35, none⟩) (en - k) (vc - k)) D by
      have h1 := HVe.out.drop (k := k) (by omega)
      have h2 := h1.take (k := en - k) (by omega)
      rw [hD] at h2
      exact h2)
    clear hb hor hE hD hvg
    go_wp2_with fail
    refine (Clone_any _ _ _ D HSL.out (by rw [HDL.out]; omega)).mono ?_
    rintro e Wl ⟨gv, rfl, hog, hb⟩
    obtain ⟨ga, gc, rfl⟩ := hog.form
    obtain ⟨m, hm⟩ : ∃ m, en - k = m := ⟨_, rfl⟩
    have hm0 : 0 < m := by omega
    have HM := Lib.hid hm
    rw [HDL.out, hm] at hog ⊢
    obtain ⟨gg, rfl⟩ := hog.addr hm0
    obtain ⟨dk, hdk⟩ : ∃ dk, F[k].depth = dk := ⟨_, rfl⟩
    have hdb := chk_dep HCK.out k hkF
    rw [hdk] at hdb
    have HDK := Lib.hid hdk
    have HO0 := Lib.hid (show OwnL nodeE Wl We.heap.size (.slice (some ⟨gg, 0, none⟩) m gc) (mixC D k dk 0) by
      unfold mixC
      simpa using hog)
    have HB0 := Lib.hid hb
    have hz3 := hog.at_.len
    have hmc : m ≤ gc := hz3.2.1
    have hgcm : gc ≤ 9223372036854775807 := by have := hz3.2.2.1; unfold maxLen at this; omega
    have HK := Lib.hid (show ∀ w', Below We.heap.size We w' → w'.cell? ⟨vg, vo + k * 35 + 34, none⟩ = some (.int .i64 dk) from fun w' hw' => by
      obtain ⟨g', o', e', hc'⟩ := node_at HVe.out hkF
      cases e'
      rw [← hdk]
      exact (hc' w' hw').2.2.1)
    have HDB := Lib.hid (show ∀ i (hi : i < D.length), (-1 ≤ D[i].parent ∧ D[i].parent < 1000000) ∧ (0 ≤ D[i].depth ∧ D[i].depth < 1000000) from fun i hi => by
      have hiF : k + i < F.length := by rw [HDL.out] at hi; rw [HN.out]; omega
      have e1 : D[i] = F[k + i] := by
        have h9 := HD.out
        subst h9
        rw [List.getElem_take, List.getElem_drop]
      rw [e1]
      have h1 := chk_all HCK.out (k + i) hiF
      have h2 := chk_dep HCK.out (k + i) hiF
      have h3 := h1.par
      have h4 := h1.lt
      have h5 := HL.out
      omega)
    clear hog hb hsl hm hdk hz3
    go_wp2_with fail
    go_loopw [8, 31] (fun jv iv wr => ∃ i : Nat, i ≤ m ∧ iv = .int .i64 (i : Int) ∧ Hid (OwnL nodeE wr We.heap.size (.slice (some ⟨gg, 0, none⟩) m gc) (mixC D k dk i)) ∧ Hid (Below We.heap.size We wr)) (fun _ iv _ => m - (intOf iv).toNat)
    case atStart => exact ⟨0, Nat.zero_le _, rfl, HO0, HB0⟩
    case round =>
      obtain ⟨i, hi, rfl, HO, HB⟩ := hrel
      obtain ⟨W0, rfl⟩ : ∃ W0, W0 = wr := ⟨_, rfl⟩
      clear HO0 HB0
      have HLN := Lib.hid (show (mixC D k dk i).length = m by rw [mixC_len _ _ _ (by rw [HDL.out, HM.out]; exact hi), HDL.out, HM.out])
      by_cases hlt : i < m
      case neg =>
        obtain rfl : i = m := by omega
        have hm0L : 0 < (mixC D k dk i).length := by rw [HLN.out]; exact hm0
        have hm0I : (0 : Int) < (i : Int) := by omega
        have HFIN := Lib.hid (show (mixC D k dk i).set 0 ((mixC D k dk i)[0].wPar (-1)) = cutGL F k en F[k].depth by
          rw [HDK.out]
          have h1 := mixC_all (F := F) (dk := dk) hke (by rw [HN.out]; exact heN) ((mixC D k dk i)[0])
          rw [HD.out, HM.out] at h1
          exact h1 (List.getElem?_eq_getElem hm0L))
        have hsz : (Try.prog.info? 3).map (·.size) = some 1 := by kernel_rfl
        go_wp2_with (refine wpList_setC rfl rfl 3 (.tmp 59) (.const (.int .i64 (-1))) rfl HO.out 0 hm0L 33 (by decide) (.int .i64 (-1)) ((mixC D k dk i)[0].wPar (-1)) (by show Value.pointer (some ⟨gg, 33, none⟩) = _; rfl) rfl rfl hsz (enc_wPar _ _) ?_; refine Stop.on ?_)
        refine Stop.go ?_
        try simp only [Act.put, List.setIfInBounds_toArray, List.set_cons_zero, List.set_cons_succ]
        intro W9 x9 c9 s9
        try simp only [Act.put, List.setIfInBounds_toArray, List.set_cons_zero, List.set_cons_succ]
        have HF9 := Lib.hid (show OwnL nodeE W9 We.heap.size (.slice (some ⟨gg, 0, none⟩) i gc) (cutGL F k en F[k].depth) by rw [← HFIN.out]; exact x9)
        have HF9 := Lib.hid (HF9.out.base HBe.out.size)
        have hb9 := c9.below (B := We.heap.size) (fun j e => by have := (HO.out.lt (k := gg) rfl).1; omega) HB.out.size
        have HB9 := Lib.hid (HBe.out.trans ((HB.out.trans hb9).mono HBe.out.size))
        clear x9 c9 s9 hb9 hsz
        go_wp2_with fail
        exact bodyPost_ret (v := .tuple #[.slice (some ⟨gg, 0, none⟩) i gc, .int .i64 0]) (by simp [results, Try.results33, go_sem]) rfl ⟨HB9.out, .inr ⟨k, en, _, hkF, rfl, HE.out, rfl, HF9.out⟩⟩
      have hiI : (i : Int) < (m : Int) := by omega
      have hiD : i < D.length := by rw [HDL.out, HM.out]; exact hlt
      have hiL : i < (mixC D k dk i).length := by rw [HLN.out]; exact hlt
      have hat := mixC_at D k dk hiD hiL
      obtain ⟨nd, hnd⟩ : ∃ nd, D[i] = nd := ⟨_, rfl⟩
      have HNX := Lib.hid (mixC_next D k dk hiD)
      rw [hnd] at hat
      have HAT := Lib.hid hat
      have HND := Lib.hid hnd
      have hdbn := HDB.out i hiD
      rw [hnd] at hdbn
      obtain ⟨g', o', e', hcell⟩ := node_at HO.out.at_ hiL
      cases e'
      rw [hat] at hcell
      obtain ⟨p1, hp1⟩ : ∃ p, nd.parent = p := ⟨_, rfl⟩
      obtain ⟨d1, hd1⟩ : ∃ d, nd.depth = d := ⟨_, rfl⟩
      rw [hp1, hd1] at hdbn
      have HC := Lib.hid (show W0.cell? ⟨gg, i * 35 + 33, none⟩ = some (.int .i64 p1) ∧ W0.cell? ⟨gg, i * 35 + 34, none⟩ = some (.int .i64 d1) by
        obtain ⟨_, m2, m3, _⟩ := hcell W0 (Below.refl _ _)
        rw [Nat.zero_add, hp1] at m2
        rw [Nat.zero_add, hd1] at m3
        exact ⟨m2, m3⟩)
      have HP1 := Lib.hid hp1
      have HD1 := Lib.hid hd1
      obtain ⟨⟨hpa, hpb⟩, hda, hdb2⟩ := hdbn
      clear hcell hnd hat hp1 hd1
      have hc1 := HC.out.1
      have hsz : (Try.prog.info? 3).map (·.size) = some 1 := by kernel_rfl
      go_wp2_with (refine wpList_setC rfl rfl 3 (.tmp 42) (.tmp 40) rfl HO.out i hiL 33 (by decide) (.int .i64 (p1 - (k : Int))) ((mixC D k dk i)[i].wPar (p1 - (k : Int))) rfl rfl rfl hsz (enc_wPar _ _) ?_; refine Stop.on ?_)
      refine Stop.go ?_
      try simp only [Act.put, List.setIfInBounds_toArray, List.set_cons_zero, List.set_cons_succ]
      intro W2 x2 c2 s2
      try simp only [Act.put, List.setIfInBounds_toArray, List.set_cons_zero, List.set_cons_succ]
      rw [HAT.out] at x2
      have HO2 := Lib.hid x2
      have HB2 := Lib.hid (HB.out.trans (c2.below (B := We.heap.size) (fun j e => by have := (HO.out.lt (k := gg) rfl).1; omega) HB.out.size))
      clear x2 c2 s2 hc1
      have hiL2 : i < ((mixC D k dk i).set i (nd.wPar (p1 - (k : Int)))).length := by rw [List.length_set]; exact hiL
      have HAT2 := Lib.hid (show ((mixC D k dk i).set i (nd.wPar (p1 - (k : Int))))[i] = nd.wPar (p1 - (k : Int)) from List.getElem_set_self _)
      obtain ⟨g', o', e', hcell⟩ := node_at HO2.out.at_ hiL2
      cases e'
      rw [HAT2.out] at hcell
      have HC2 := Lib.hid (show ∀ w', Below W2.heap.size W2 w' → w'.cell? ⟨gg, i * 35 + 34, none⟩ = some (.int .i64 d1) from fun w' hw' => by
        have h1 := (hcell w' hw').2.2.1
        rw [Nat.zero_add] at h1
        rw [← HD1.out]
        exact h1)
      clear hcell
      go_wp2_with fail
      refine wp_region_seq 13 (by kernel_rfl) (by kernel_rfl) ?_
      simp only [List.take_succ_cons, List.take_zero, List.drop_succ_cons, List.drop_zero]
      obtain ⟨wd, hwd⟩ : ∃ wd, W2.drew = wd := ⟨_, rfl⟩
      have hd_wd : Below W2.heap.size W2 wd ∧ wd.heap.size = W2.heap.size := hwd ▸ ⟨(Below.refl _ _).drew, rfl⟩
      rw [hwd]
      clear hwd
      have c1 := HC2.out wd hd_wd.1
      have c2 := HK.out wd (HB2.out.trans (hd_wd.1.mono HB2.out.size))
      have HOd := Lib.hid (HO2.out.below hd_wd.1)
      have HBd := Lib.hid (HB2.out.trans (hd_wd.1.mono HB2.out.size))
      clear hd_wd
      go_wp2_with fail
      refine HeadPost.mk ?_
      go_wp2_with (refine wpList_setC rfl rfl 3 (.tmp 55) (.tmp 53) rfl HOd.out i hiL2 34 (by decide) (.int .i64 (d1 - dk)) (((mixC D k dk i).set i (nd.wPar (p1 - (k : Int))))[i].wDep (d1 - dk)) rfl rfl rfl hsz (enc_wDep _ _) ?_; refine Stop.on ?_)
      refine Stop.go ?_
      try simp only [Act.put, List.setIfInBounds_toArray, List.set_cons_zero, List.set_cons_succ]
      intro W9 x9 c9 s9
      try simp only [Act.put, List.setIfInBounds_toArray, List.set_cons_zero, List.set_cons_succ]
      rw [HAT2.out, List.set_set] at x9
      have HON := Lib.hid (show OwnL nodeE W9 We.heap.size (.slice (some ⟨gg, 0, none⟩) m gc) (mixC D k dk (i + 1)) by
        rw [← HNX.out, HND.out]
        have h1 : (nd.wPar (p1 - (k : Int))).wDep (d1 - dk) = convN k dk nd := by unfold convN NodeV.wPar NodeV.wDep; rw [HP1.out, HD1.out]
        rw [← h1]
        exact x9)
      have HBN := Lib.hid (HBd.out.trans (c9.below (B := We.heap.size) (fun j e => by have := (HOd.out.lt (k := gg) rfl).1; omega) HBd.out.size))
      clear x9 c9 s9 hsz
      go_wp2_with fail
      go_roundw
      case rel => exact ⟨i + 1, by omega, by go_num, HON, HBN⟩
      case measure => simp [intOf] <;> omega
set_option maxRecDepth 100000 in
set_option maxHeartbeats 2000000 in
theorem Cuts_law {w : World} (v : Value) (L : List RawV) (hv : RawsAt w v L) (a : Int) : Calls Try.prog 13 #[v, .int .i64 a] w fun e w' => e = .returned (.bool true) ∧ Below w.heap.size w w' := by
  have HV := Lib.hid hv
  clear hv
  go_enter Try.func13, Try.ntmps13
  go_wp2_with fail
  refine (rows_any _ L HV.out).mono ?_
  rintro e Wa ⟨xv, M, rfl, ho, ht, hb⟩
  obtain ⟨hN14, hnd⟩ := rows_facts ht
  obtain ⟨xa, xc, rfl⟩ := ho.own.form
  obtain ⟨N, hN⟩ : ∃ N, M.length = N := ⟨_, rfl⟩
  rw [hN] at ho hN14 ⊢
  have HM := Lib.hid ho
  have HN := Lib.hid hN
  have HND := Lib.hid hnd
  have HBA := Lib.hid hb
  clear ho ht hN hb hnd
  obtain ⟨c, hc⟩ := isCut_ex (parP M) (arrS M)
  have hgood := good HND.out hc
  obtain ⟨F, hF⟩ : ∃ F, forestV M c = F := ⟨_, rfl⟩
  rw [hF] at hgood
  have hFl : F.length ≤ 28 := by
    rw [← hF, forestV_eq HND.out]
    unfold forestS
    refine Nat.le_trans (forL_len (cut_acyclic hc) (pls_nodup HND.out c) _ _) ?_
    have := pls_len M c
    have h2 := HN.out
    omega
  go_wp2_with fail
  refine (forest_any _ M c hc HM.out.at_ HND.out (by rw [HN.out]; omega)).mono ?_
  rintro e Wf ⟨fv, rfl, hof, hb⟩
  rw [hF] at hof
  obtain ⟨fa, fc, rfl⟩ := hof.form
  obtain ⟨n, hn⟩ : ∃ n, F.length = n := ⟨_, rfl⟩
  rw [hn] at hof hFl ⊢
  obtain ⟨hz1, hnfc, hfcm, hz2⟩ := hof.at_.len
  unfold maxLen at hfcm
  have HFN := Lib.hid hn
  have HG := Lib.hid hgood
  have HC1 := Lib.hid hc
  have HFE := Lib.hid hF
  have HF0 := Lib.hid hof.at_
  have HM0 := Lib.hid (HM.out.below hb)
  have HB0 := Lib.hid (HBA.out.trans (hb.mono HBA.out.size))
  clear hof hb hgood hF hn hz1 hz2 HM HBA hc
  go_wp2_with fail
  refine (Cut_any _ F HF0.out HG.out.check (by rw [HFN.out]; omega) a).mono ?_
  rintro e Wu ⟨hb, hor⟩
  have HF0 := Lib.hid (HF0.out.below hb)
  have HB0 := Lib.hid (HB0.out.trans (hb.mono HB0.out.size))
  clear hb HM0
  rcases hor with ⟨hin, rfl⟩ | ⟨k, en, gv, hk, rfl, hE, rfl, hog⟩
  case inl =>
    rw [HFN.out] at hin
    rcases inL_out hin with h1 | ⟨h1, h2⟩
    · have ha0 : decide (a < 0) = true := decide_eq_true h1
      clear hin
      go_wp2_with fail
      refine known_any.mono ?_
      rintro e Wk ⟨rfl, hb⟩
      have HB0 := Lib.hid (HB0.out.trans (hb.mono HB0.out.size))
      clear hb
      go_wp2_with fail
      exact bodyPost_ret (v := .bool true) (by simp [results, Try.results13, go_sem]) rfl ⟨rfl, HB0.out⟩
    · have ha0 : decide (a < 0) = false := decide_eq_false (by omega)
      have han : decide ((n : Int) ≤ a) = true := decide_eq_true h2
      clear hin
      go_wp2_with fail
      refine known_any.mono ?_
      rintro e Wk ⟨rfl, hb⟩
      have HB0 := Lib.hid (HB0.out.trans (hb.mono HB0.out.size))
      clear hb
      go_wp2_with fail
      exact bodyPost_ret (v := .bool true) (by simp [results, Try.results13, go_sem]) rfl ⟨rfl, HB0.out⟩
  have hkn : k < n := by rw [← HFN.out]; exact hk
  have hke := hE.lt
  have hen := hE.le
  rw [HFN.out] at hen
  have ha0 : decide ((k : Int) < 0) = false := decide_eq_false (by omega)
  have han : decide ((n : Int) ≤ (k : Int)) = false := decide_eq_false (by omega)
  have han2 : decide (n ≤ k) = false := decide_eq_false (by omega)
  have HCG := Lib.hid (cut_check HG.out.check hE hk)
  have HGL := Lib.hid (cutG_len (F := F) (k := k) (e := en) (dk := F[k].depth) (by omega) (by rw [HFN.out]; exact hen))
  have HGA := Lib.hid (show ∀ i (h1 : i < (cutGL F k en F[k].depth).length) (h2 : k + i < F.length), (cutGL F k en F[k].depth)[i] = cutN1 k F[k].depth i F[k + i] from fun i h1 h2 => cutG_at (by rw [HFN.out]; exact hen) (by rw [HGL.out] at h1; omega) h1 h2)
  have HE := Lib.hid hE
  obtain ⟨G, hGe⟩ : ∃ G, cutGL F k en F[k].depth = G := ⟨_, rfl⟩
  rw [hGe] at hog HCG HGL HGA
  obtain ⟨m, hm⟩ : ∃ m, en - k = m := ⟨_, rfl⟩
  rw [hm] at HGL
  have hm0 : 0 < m := by omega
  have hmn : k + m ≤ n := by omega
  have HME := Lib.hid (show k + m = en by omega)
  obtain ⟨ga, gc, rfl⟩ := hog.form
  rw [HGL.out] at hog ⊢
  have HG0 := Lib.hid hog.at_
  obtain ⟨gg, rfl⟩ := hog.addr hm0
  clear hE hog hGe hm hen hke
  go_wp2_with fail
  refine known_any.mono ?_
  rintro e Wk ⟨rfl, hb⟩
  have HF0 := Lib.hid (HF0.out.below hb)
  have HG0 := Lib.hid (HG0.out.below hb)
  have HB0 := Lib.hid (HB0.out.trans (hb.mono HB0.out.size))
  clear hb
  go_wp2_with fail
  refine (check_any _ G HG0.out (by rw [HGL.out]; omega)).mono ?_
  rintro e Wc ⟨rfl, hb⟩
  rw [HCG.out]
  have HF0 := Lib.hid (HF0.out.below hb)
  have HG0 := Lib.hid (HG0.out.below hb)
  have HB0 := Lib.hid (HB0.out.trans (hb.mono HB0.out.size))
  clear hb
  have hm0I : (0 : Int) < (m : Int) := by omega
  have hm0e : ((m : Int) == 0) = false := by simp; omega
  have hc0 : Wc.cell? ⟨gg, 33, none⟩ = some (.int .i64 (-1)) := by
    have h0 : 0 < G.length := by rw [HGL.out]; exact hm0
    obtain ⟨g', o', e', hc⟩ := node_at HG0.out h0
    cases e'
    have h1 := (hc Wc (Below.refl _ _)).2.1
    rw [HGA.out 0 h0 (by rw [HFN.out]; omega)] at h1
    exact h1
  go_wp2_with fail
  clear hc0
  have HK0 := Lib.hid (Below.refl Wc.heap.size Wc)
  go_loopw [8] (fun iv wr => ∃ j : Nat, j ≤ m ∧ iv = .int .i64 (j : Int) ∧ Hid (Below Wc.heap.size Wc wr)) (fun iv _ => m - (intOf iv).toNat)
  case atStart => exact ⟨0, Nat.zero_le _, rfl, HK0⟩
  case round =>
    obtain ⟨j, hj, rfl, HB6⟩ := hrel
    obtain ⟨W0, rfl⟩ : ∃ W0, W0 = wr := ⟨_, rfl⟩
    clear HK0
    have HBE := Lib.hid (HB0.out.trans (HB6.out.mono HB0.out.size))
    by_cases hlt : j < m
    case neg =>
      obtain rfl : j = m := by omega
      by_cases hkj : k + j = n
      case pos =>
        have hd : (((k : Int) + (j : Int)) == (n : Int)) = true := by simp; omega
        go_wp2_with fail
        exact bodyPost_ret (v := .bool true) (by simp [results, Try.results13, go_sem]) rfl ⟨rfl, HBE.out⟩
      have hd : (((k : Int) + (j : Int)) == (n : Int)) = false := by simp; omega
      have HFW := Lib.hid (HF0.out.below HB6.out)
      obtain ⟨en2, hen2⟩ : ∃ en2, k + j = en2 := ⟨_, rfl⟩
      have hen3 : (k : Int) + (j : Int) = (en2 : Int) := by omega
      have heF : en2 < F.length := by rw [HFN.out]; omega
      have HNO := Lib.hid (show ¬ k ∈ chn F en2 from fun h => by
        have := ((HE.out.within HG.out.check en2 heF).1 h).2
        have := HME.out
        omega)
      clear hen2
      go_wp2_with fail
      refine (within_any _ F HFW.out HG.out.check (by rw [HFN.out]; omega) en2 k heF (by omega)).mono ?_
      rintro e Wn ⟨rfl, rfl⟩
      rw [decide_eq_false HNO.out]
      clear hen3
      go_wp2_with fail
      exact bodyPost_ret (v := .bool true) (by simp [results, Try.results13, go_sem]) rfl ⟨rfl, HBE.out⟩
    have hjI : (j : Int) < (m : Int) := by omega
    have hkjn : (k : Int) + (j : Int) < (n : Int) := by omega
    have hkjd : decide ((n : Int) ≤ (k : Int) + (j : Int)) = false := decide_eq_false (by omega)
    have hkj0 : (0 : Int) ≤ (k : Int) + (j : Int) := by omega
    have hjG : j < G.length := by rw [HGL.out]; exact hlt
    have hkjF : k + j < F.length := by rw [HFN.out]; omega
    obtain ⟨g1, o1, e1, hcg⟩ := node_at (HG0.out.below HB6.out) hjG
    cases e1
    obtain ⟨g2, o2, e2, hcf⟩ := node_at (HF0.out.below HB6.out) hkjF
    subst e2
    obtain ⟨nd, hnd⟩ : ∃ nd, F[k + j] = nd := ⟨_, rfl⟩
    have hga := HGA.out j hjG hkjF
    rw [hnd] at hga hcf
    rw [hga] at hcg
    have hck := chk_all HG.out.check (k + j) hkjF
    rw [hnd] at hck
    have hb1 := hck.par
    have hb2 := hck.lt
    obtain ⟨p1, hp1⟩ : ∃ p, nd.parent = p := ⟨_, rfl⟩
    obtain ⟨r1, hr1⟩ : ∃ r, nd.row = r := ⟨_, rfl⟩
    obtain ⟨x, hx⟩ : ∃ x, nd.id = x := ⟨_, rfl⟩
    rw [hp1] at hb1 hb2
    have HCC := Lib.hid (show ∀ w', Below W0.heap.size W0 w' → (w'.rangeAt gg (j * 35) (bvs x.1) ∧ w'.cell? ⟨gg, j * 35 + 32, none⟩ = some (.int .i64 r1) ∧ w'.cell? ⟨gg, j * 35 + 33, none⟩ = some (.int .i64 (if j = 0 then -1 else p1 - (k : Int)))) ∧ (w'.rangeAt g2 (o2 + (k + j) * 35) (bvs x.1) ∧ w'.cell? ⟨g2, o2 + (k + j) * 35 + 32, none⟩ = some (.int .i64 r1) ∧ w'.cell? ⟨g2, o2 + (k + j) * 35 + 33, none⟩ = some (.int .i64 p1)) from fun w' hw' => by
      obtain ⟨a1, a2, _, a4, _⟩ := hcg w' hw'
      obtain ⟨b1, b2, _, b4, _⟩ := hcf w' hw'
      rw [Nat.zero_add] at a1 a2 a4
      rw [hr1] at b1
      rw [hp1] at b2
      rw [hx] at b4
      refine ⟨⟨hx ▸ a4, hr1 ▸ a1, ?_⟩, b4, b1, b2⟩
      rw [← hp1]
      exact a2)
    clear hcg hcf hnd hga hck hp1 hr1 hx
    have hix : ((k : Int) + (j : Int)).toNat = k + j := by omega
    go_wp2_with fail
    refine wp_region_seq 56 (by kernel_rfl) (by kernel_rfl) ?_
    simp only [List.take_succ_cons, List.take_zero, List.drop_succ_cons, List.drop_zero]
    obtain ⟨wd, hwd⟩ : ∃ wd, W0.drew = wd := ⟨_, rfl⟩
    have hd_wd : Below W0.heap.size W0 wd ∧ wd.heap.size = W0.heap.size := hwd ▸ ⟨(Below.refl _ _).drew, rfl⟩
    rw [hwd]
    clear hwd
    obtain ⟨⟨a4, a1, a2⟩, b4, b1, b2⟩ := HCC.out wd hd_wd.1
    have HA4 := Lib.hid a4
    have HB4 := Lib.hid b4
    have HBd := Lib.hid (HB6.out.trans (hd_wd.1.mono HB6.out.size))
    clear hd_wd a4 b4
    go_wp2_with (refine wpList_met rfl ?_; with_reducible refine wpList_load_mid rfl 35 (.tmp 75) rfl gg (j * 35) rfl (bvs x.1) _ HA4.out Try.underlying35 rfl (sizeId x) ?_; refine Stop.on ?_)
    refine Stop.go ?_
    try simp only [Act.put, List.setIfInBounds_toArray, List.set_cons_zero, List.set_cons_succ]
    go_wp2_with (refine wpList_met rfl ?_; with_reducible refine wpList_load_mid rfl 35 (.tmp 82) rfl g2 (o2 + (k + j) * 35) rfl (bvs x.1) _ HB4.out Try.underlying35 rfl (sizeId x) ?_; refine Stop.on ?_)
    refine Stop.go ?_
    try simp only [Act.put, List.setIfInBounds_toArray, List.set_cons_zero, List.set_cons_succ]
    refine wpList_met rfl ?_
    refine wpList_runI rfl (some 84) rfl (.bool false) _ (op_neq 35 (.tmp 76) (.tmp 83) 35 rfl rfl rfl guard_Id (by have h1 := neq_Id x x wd; rw [decide_eq_true rfl] at h1; exact h1)) ?_
    try simp only [Act.put, List.setIfInBounds_toArray, List.set_cons_zero, List.set_cons_succ]
    have hrr : (r1 != r1) = false := by simp
    by_cases hj0 : j = 0
    case pos =>
      subst hj0
      have hjd : decide ((0 : Int) < ((0 : Nat) : Int)) = false := by simp
      rw [if_pos rfl] at a2
      simp only [Nat.zero_mul, Nat.zero_add, Nat.add_zero] at a1 a2 b1 b2
      go_wp2_with fail
      refine HeadPost.mk ?_
      go_wp2_with fail
      go_roundw
      case rel => exact ⟨0 + 1, by omega, by go_num, HBd⟩
      case measure => simp [intOf] <;> omega
    rw [if_neg hj0] at a2
    have hjd : decide ((0 : Int) < (j : Int)) = true := decide_eq_true (by omega)
    have hpp : (p1 - (k : Int) != p1 - (k : Int)) = false := by simp
    go_wp2_with fail
    refine HeadPost.mk ?_
    go_wp2_with fail
    go_roundw
    case rel => exact ⟨j + 1, by omega, by go_num, HBd⟩
    case measure => simp [intOf] <;> omega
end Go.Proofs.Ythfinofmbnfijaa
