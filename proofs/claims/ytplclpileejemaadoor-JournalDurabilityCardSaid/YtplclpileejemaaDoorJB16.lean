/- Entries are cut off; An entry is appended. -/
import Derived.Test.YtplclpileejemaaDoorJB15
namespace Go.Proofs.YtplclpileejemaaDoor
open Go.RowKit
set_option linter.unusedVariables false
set_option linter.unusedSimpArgs false

/-- An open journal and its device in memory. -/
structure JSt (w : World) (F G : Nat → Prop) (b g : Nat) (S : DS) (R : JR) (J : JD) : Prop where
  dev : DiskAt w F b S
  mem : ∃ ev, JBlk w g b R J ev ∧ EntsAt w G ev J.ents
  fg : ¬ F g
  gG : ¬ G g
  fG : ∀ k, G k → ¬ F k
  fl : ∀ k, F k → k < w.heap.size
  gl : ∀ k, G k → k < w.heap.size
/-- Behind an operation of it. -/
structure JPost (w : World) (F G : Nat → Prop) (b g : Nat) (R : JR) (S : DS) (J : JD) (w' : World) : Prop where
  st : ∃ F' G', JSt w' F' G' b g S R J ∧ (∀ k, F' k → F k ∨ w.heap.size ≤ k) ∧ (∀ k, G' k → G k ∨ w.heap.size ≤ k)
  chg : Chg (fun k => F k ∨ G k ∨ k = g) w w'
theorem JSt.chg {w w' : World} {F G H : Nat → Prop} {b g : Nat} {S : DS} {R : JR} {J : JD} (h : JSt w F G b g S R J) (hc : Chg H w w') (hd : ∀ k, k < w.heap.size → H k → ¬ F k ∧ ¬ G k ∧ k ≠ g) : JSt w' F G b g S R J := by
  obtain ⟨ev, h1, h2⟩ := h.mem
  refine ⟨h.dev.chg hc (fun k h3 h4 => (hd k (h.fl k h3) h4).1 h3), ⟨ev, h1.chg hc (fun h3 => (hd g h1.lt h3).2.2 rfl), h2.chg hc (fun k hk h3 h4 => (hd k hk h4).2.1 h3)⟩, h.fg, h.gG, h.fG, fun k hk => Nat.lt_of_lt_of_le (h.fl k hk) hc.size, fun k hk => Nat.lt_of_lt_of_le (h.gl k hk) hc.size⟩
theorem JSt.below {w w' : World} {F G : Nat → Prop} {b g : Nat} {S : DS} {R : JR} {J : JD} (h : JSt w F G b g S R J) (hb : Below w.heap.size w w') : JSt w' F G b g S R J := h.chg (H := fun _ => False) (Chg.of_below hb) (fun _ _ h => h.elim)
/-- A sync, so told. -/
theorem JSync_st {w : World} {F G : Nat → Prop} {b g : Nat} {S : DS} {R : JR} {J : JD} (h : JSt w F G b g S R J) (hnb : J.first + J.ents.length < 4611686018427387904) (hroom : Roomy S 1) :
    Calls Tryd.prog 28 #[.pointer (some ⟨g, 0, none⟩)] w fun e w' => e = .returned (.int .i64 (synJ S J).2.2) ∧ JPost w F G b g R (synJ S J).1 (synJ S J).2.1 w' := by
  obtain ⟨ev, h1, h2⟩ := h.mem
  obtain ⟨va, vc, rfl⟩ := h2.form
  refine (JSync_any h.dev h1 h.fg rfl hnb hroom).mono ?_
  rintro e w' ⟨rfl, k1, k2, k3⟩
  refine ⟨rfl, ⟨F, G, ⟨k1, ⟨_, k2, ?_⟩, h.fg, h.gG, h.fG, fun k hk => Nat.lt_of_lt_of_le (h.fl k hk) k3.size, fun k hk => Nat.lt_of_lt_of_le (h.gl k hk) k3.size⟩, fun k hk => .inl hk, fun k hk => .inl hk⟩, k3.mono (fun k hk => hk.elim .inl (fun e => .inr (.inr e)))⟩
  have he : (synJ S J).2.1.ents = J.ents := by
    unfold synJ
    by_cases h3 : J.failed ≠ 0
    · rw [if_pos h3]
    · rw [if_neg h3]
      by_cases h4 : S.flush.2 = 0
      · rw [if_pos h4]
      · rw [if_neg h4]
  rw [he]
  exact h2.chg k3 (fun k _ h4 h5 => h5.elim (h.fG k h4) (fun e => h.gG (e ▸ h4)))
set_option maxRecDepth 100000 in
set_option maxHeartbeats 2000000 in
theorem JTruncate_nil {w : World} (t : Int) : Calls Tryd.prog 20 #[.pointer none, .int .i64 t] w fun e w' => e = .returned (.int .i64 1) ∧ Below w.heap.size w w' := by
  obtain ⟨w1, hw1⟩ : ∃ w1, w.alloc (.cells #[.int .i64 0] 25) = w1 := ⟨_, rfl⟩
  have HW1 := Lib.hid hw1
  have hb1 : Below w.heap.size w w1 := hw1 ▸ (Below.refl _ _).alloc (Nat.le_refl _) _
  have HB1 := Lib.hid hb1
  have HX1 := Lib.hid (show w1.heap[w.heap.size]? = some (.cells #[.int .i64 0] 25 (0, 0)) by rw [← hw1]; exact heap_alloc_new _ _)
  clear hw1 hb1
  go_enter_defers Tryd.func20, Tryd.ntmps20
  go_wp2_with fail
  rw [HW1.out]
  refine JFailed_nil.mono ?_
  rintro e V2 ⟨rfl, hb2⟩
  have HX2 := Lib.hid ((hb2.block _ (Array.getElem?_eq_some_iff.1 HX1.out).1).trans HX1.out)
  have HB2 := Lib.hid (HB1.out.trans (hb2.mono HB1.out.size))
  obtain ⟨q, hq⟩ : ∃ q, w.heap.size = q := ⟨_, rfl⟩
  rw [hq] at HX2 ⊢
  have HQ := Lib.hid hq
  clear hb2 hq HX1
  go_wp2_with (refine wpList_putC rfl rfl 25 (.tmp 4) (.tmp 10) rfl q 0 (.int .i64 1) rfl rfl HX2.out (by show 0 < 1; decide) rfl (by kernel_rfl) ?_; refine Stop.on ?_)
  refine Stop.go ?_
  try simp only [Act.put, List.setIfInBounds_toArray, List.set_cons_zero, List.set_cons_succ]
  intro W3 x3 c3 s3
  try simp only [Act.put, List.setIfInBounds_toArray, List.set_cons_zero, List.set_cons_succ]
  have k3 : W3.cell? ⟨q, 0, none⟩ = some (.int .i64 1) := by rw [cell_of_row _ _ _ _ _ _ x3]; rfl
  have HB3 := Lib.hid (HB2.out.trans (c3.below (fun k e => by rw [e, HQ.out]; exact Nat.le_refl _) HB2.out.size))
  go_wp2_with fail
  exact ⟨.int .i64 1, by simp [results, Tryd.results20, go_sem, k3], rfl, HB3.out⟩
set_option maxRecDepth 100000 in
set_option maxHeartbeats 2000000 in
theorem JTruncate_any {w : World} {F G : Nat → Prop} {b g : Nat} {S : DS} {R : JR} {J : JD} (h : JSt w F G b g S R J) (hK : KAt w) (hK0 : ¬ F 0) (t : Int) (hd : S.down = false) (hr : R.at_ + R.cnt ≤ S.dur.length) (hgn : nextG (1 - J.gen % 2) (secL S R.at_ R.cnt) ≤ 2147483647) (hnx : J.first + J.ents.length ≤ 2147483647) (hsh : shortE J.ents) (hN : sizeE J.ents ≤ 100000) (hroom : Roomy S (sizeE J.ents + 1)) :
    Calls Tryd.prog 20 #[.pointer (some ⟨g, 0, none⟩), .int .i64 t] w fun e w' => e = .returned (.int .i64 (trnJ S R J t).2.2) ∧ JPost w F G b g R (trnJ S R J t).1 (trnJ S R J t).2.1 w' := by
  obtain ⟨ev, hg, hE⟩ := h.mem
  obtain ⟨va, vc, rfl⟩ := hE.form
  obtain ⟨n, hn⟩ : ∃ n, J.ents.length = n := ⟨_, rfl⟩
  rw [hn] at hg hE hnx
  have hnb : n ≤ 100000 := by have := sizeE_len J.ents; omega
  obtain ⟨w1, hw1⟩ : ∃ w1, w.alloc (.cells #[.int .i64 0] 25) = w1 := ⟨_, rfl⟩
  have HW1 := Lib.hid hw1
  have hb1 : Below w.heap.size w w1 := hw1 ▸ (Below.refl _ _).alloc (Nat.le_refl _) _
  have HB1 := Lib.hid hb1
  have HX1 := Lib.hid (show w1.heap[w.heap.size]? = some (.cells #[.int .i64 0] 25 (0, 0)) by rw [← hw1]; exact heap_alloc_new _ _)
  have HST := Lib.hid h
  have HG1 := Lib.hid (hg.below hb1)
  have HE1 := Lib.hid (hE.below hb1)
  have HD1 := Lib.hid (h.dev.below hb1)
  have HGL := Lib.hid hg.lt
  have HFG := Lib.hid h.fg
  have HN := Lib.hid hn
  have HK := Lib.hid hK
  have HK0 := Lib.hid hK0
  have HDN := Lib.hid hd
  have HRR := Lib.hid hr
  have HGN := Lib.hid hgn
  have HSH := Lib.hid hsh
  have HNN := Lib.hid hN
  have HRM := Lib.hid hroom
  obtain ⟨z, hz⟩ : ∃ z, trnJ S R J t = z := ⟨_, rfl⟩
  have HZ := Lib.hid (show z = trnJ S R J t from hz.symm)
  rw [hz]
  obtain ⟨fl, hfl⟩ : ∃ fl, J.failed = fl := ⟨_, rfl⟩
  have HFL := Lib.hid hfl
  -- nothing changed
  have HSM := Lib.hid (show ∀ w', Below w.heap.size w w' → JPost w F G b g R S J w' from fun w' hb => ⟨⟨F, G, h.below hb, fun k hk => .inl hk, fun k hk => .inl hk⟩, Chg.of_below hb⟩)
  clear hw1 hb1 h hg hE hroom hz hn hfl hK hK0 hd hr hgn hsh hN
  go_enter_defers Tryd.func20, Tryd.ntmps20
  go_wp2_with fail
  rw [HW1.out]
  refine (JFailed_any HG1.out).mono ?_
  rintro e V2 ⟨rfl, hb2⟩
  rw [HFL.out]
  have HX2 := Lib.hid ((hb2.block _ (Array.getElem?_eq_some_iff.1 HX1.out).1).trans HX1.out)
  have HB2 := Lib.hid (HB1.out.trans (hb2.mono HB1.out.size))
  have HG2 := Lib.hid (HG1.out.below hb2)
  have HE2 := Lib.hid (HE1.out.below hb2)
  have HD2 := Lib.hid (HD1.out.below hb2)
  obtain ⟨q, hq⟩ : ∃ q, w.heap.size = q := ⟨_, rfl⟩
  rw [hq] at HX2 HGL ⊢
  have HQ := Lib.hid hq
  clear hb2 hq HX1 HG1 HD1 HE1
  by_cases hf0 : fl = 0
  case neg =>
    have hdt : (fl != 0) = true := by simpa using hf0
    have HZE := Lib.hid (show z = (S, J, fl) by rw [HZ.out]; unfold trnJ; rw [HFL.out, if_pos hf0])
    clear hf0
    go_wp2_with (refine wpList_putC rfl rfl 25 (.tmp 4) (.tmp 10) rfl q 0 (.int .i64 fl) rfl rfl HX2.out (by show 0 < 1; decide) rfl (by kernel_rfl) ?_; refine Stop.on ?_)
    refine Stop.go ?_
    try simp only [Act.put, List.setIfInBounds_toArray, List.set_cons_zero, List.set_cons_succ]
    intro W3 x3 c3 s3
    try simp only [Act.put, List.setIfInBounds_toArray, List.set_cons_zero, List.set_cons_succ]
    have k3 : W3.cell? ⟨q, 0, none⟩ = some (.int .i64 fl) := by rw [cell_of_row _ _ _ _ _ _ x3]; rfl
    have HB3 := Lib.hid (HB2.out.trans (c3.below (fun k e => by rw [e, HQ.out]; exact Nat.le_refl _) HB2.out.size))
    go_wp2_with fail
    exact ⟨.int .i64 fl, by simp [results, Tryd.results20, go_sem, k3], by rw [HZE.out]; exact ⟨rfl, HSM.out W3 HB3.out⟩⟩
  subst hf0
  have HZS := Lib.hid (show z = if t < J.first ∨ (J.next : Int) < t then (S, J, 2) else
  if t = J.first then (S, J, 0) else
  if (moveJ S R (1 - J.gen % 2) t.toNat (J.ents.drop (t.toNat - J.first))).2.1 = 0 then ((moveJ S R (1 - J.gen % 2) t.toNat (J.ents.drop (t.toNat - J.first))).1, (moveJ S R (1 - J.gen % 2) t.toNat (J.ents.drop (t.toNat - J.first))).2.2, 0)
  else ((moveJ S R (1 - J.gen % 2) t.toNat (J.ents.drop (t.toNat - J.first))).1, { J with failed := if (moveJ S R (1 - J.gen % 2) t.toNat (J.ents.drop (t.toNat - J.first))).2.1 = 28 then 28 else 0 }, (moveJ S R (1 - J.gen % 2) t.toNat (J.ents.drop (t.toNat - J.first))).2.1) by rw [HZ.out]; unfold trnJ; rw [if_neg (by rw [HFL.out]; simp)])
  have HNXT := Lib.hid (show J.next = J.first + n by unfold JD.next; rw [HN.out])
  clear HZ
  go_wp2_with fail
  refine (JFirst_any HG2.out).mono ?_
  rintro e V3 ⟨rfl, hb⟩
  have HXV3 := Lib.hid ((hb.block _ (Array.getElem?_eq_some_iff.1 HX2.out).1).trans HX2.out)
  have HBV3 := Lib.hid (HB2.out.trans (hb.mono HB2.out.size))
  have HGV3 := Lib.hid (HG2.out.below hb)
  have HEV3 := Lib.hid (HE2.out.below hb)
  have HDV3 := Lib.hid (HD2.out.below hb)
  clear hb
  by_cases h1 : t < (J.first : Int)
  · have HZE := Lib.hid (show z = (S, J, 2) by rw [HZS.out, if_pos (.inl h1)])
    go_wp2_with (refine wpList_putC rfl rfl 25 (.tmp 4) (.const (.int .i64 2)) rfl q 0 (.int .i64 2) rfl rfl HXV3.out (by show 0 < 1; decide) rfl (by kernel_rfl) ?_; refine Stop.on ?_)
    refine Stop.go ?_
    try simp only [Act.put, List.setIfInBounds_toArray, List.set_cons_zero, List.set_cons_succ]
    intro W3 x3 c3 s3
    try simp only [Act.put, List.setIfInBounds_toArray, List.set_cons_zero, List.set_cons_succ]
    have k3 : W3.cell? ⟨q, 0, none⟩ = some (.int .i64 2) := by rw [cell_of_row _ _ _ _ _ _ x3]; rfl
    have HB3 := Lib.hid (HBV3.out.trans (c3.below (fun k e => by rw [e, HQ.out]; exact Nat.le_refl _) HBV3.out.size))
    go_wp2_with fail
    exact ⟨.int .i64 2, by simp [results, Tryd.results20, go_sem, k3], by rw [HZE.out]; exact ⟨rfl, HSM.out W3 HB3.out⟩⟩
  go_wp2_with fail
  refine (JNext_any HGV3.out (by omega)).mono ?_
  rintro e V4 ⟨rfl, hb⟩
  have HXV4 := Lib.hid ((hb.block _ (Array.getElem?_eq_some_iff.1 HXV3.out).1).trans HXV3.out)
  have HBV4 := Lib.hid (HBV3.out.trans (hb.mono HBV3.out.size))
  have HGV4 := Lib.hid (HGV3.out.below hb)
  have HEV4 := Lib.hid (HEV3.out.below hb)
  have HDV4 := Lib.hid (HDV3.out.below hb)
  clear hb
  by_cases h2 : ((J.first + n : Nat) : Int) < t
  · have HZE := Lib.hid (show z = (S, J, 2) by rw [HZS.out, if_pos (.inr (by rw [HNXT.out]; exact h2))])
    go_wp2_with (refine wpList_putC rfl rfl 25 (.tmp 4) (.const (.int .i64 2)) rfl q 0 (.int .i64 2) rfl rfl HXV4.out (by show 0 < 1; decide) rfl (by kernel_rfl) ?_; refine Stop.on ?_)
    refine Stop.go ?_
    try simp only [Act.put, List.setIfInBounds_toArray, List.set_cons_zero, List.set_cons_succ]
    intro W3 x3 c3 s3
    try simp only [Act.put, List.setIfInBounds_toArray, List.set_cons_zero, List.set_cons_succ]
    have k3 : W3.cell? ⟨q, 0, none⟩ = some (.int .i64 2) := by rw [cell_of_row _ _ _ _ _ _ x3]; rfl
    have HB3 := Lib.hid (HBV4.out.trans (c3.below (fun k e => by rw [e, HQ.out]; exact Nat.le_refl _) HBV4.out.size))
    go_wp2_with fail
    exact ⟨.int .i64 2, by simp [results, Tryd.results20, go_sem, k3], by rw [HZE.out]; exact ⟨rfl, HSM.out W3 HB3.out⟩⟩
  go_wp2_with fail
  refine (JFirst_any HGV4.out).mono ?_
  rintro e V5 ⟨rfl, hb⟩
  have HXV5 := Lib.hid ((hb.block _ (Array.getElem?_eq_some_iff.1 HXV4.out).1).trans HXV4.out)
  have HBV5 := Lib.hid (HBV4.out.trans (hb.mono HBV4.out.size))
  have HGV5 := Lib.hid (HGV4.out.below hb)
  have HEV5 := Lib.hid (HEV4.out.below hb)
  have HDV5 := Lib.hid (HDV4.out.below hb)
  clear hb
  by_cases h3 : t = (J.first : Int)
  · have HZE := Lib.hid (show z = (S, J, 0) by rw [HZS.out, if_neg (by rw [HNXT.out]; omega), if_pos h3])
    subst h3
    go_wp2_with (refine wpList_putC rfl rfl 25 (.tmp 4) (.const (.int .i64 0)) rfl q 0 (.int .i64 0) rfl rfl HXV5.out (by show 0 < 1; decide) rfl (by kernel_rfl) ?_; refine Stop.on ?_)
    refine Stop.go ?_
    try simp only [Act.put, List.setIfInBounds_toArray, List.set_cons_zero, List.set_cons_succ]
    intro W3 x3 c3 s3
    try simp only [Act.put, List.setIfInBounds_toArray, List.set_cons_zero, List.set_cons_succ]
    have k3 : W3.cell? ⟨q, 0, none⟩ = some (.int .i64 0) := by rw [cell_of_row _ _ _ _ _ _ x3]; rfl
    have HB3 := Lib.hid (HBV5.out.trans (c3.below (fun k e => by rw [e, HQ.out]; exact Nat.le_refl _) HBV5.out.size))
    go_wp2_with fail
    exact ⟨.int .i64 0, by simp [results, Tryd.results20, go_sem, k3], by rw [HZE.out]; exact ⟨rfl, HSM.out W3 HB3.out⟩⟩
  have h3' : (t == (J.first : Int)) = false := by simpa using h3
  have HZS := Lib.hid (HZS.out.trans (by rw [if_neg (by rw [HNXT.out]; omega), if_neg h3]))
  go_wp2_with fail
  obtain ⟨k, hk⟩ : ∃ k : Nat, t = ((J.first + k : Nat) : Int) := ⟨t.toNat - J.first, by omega⟩
  have hk0 : 0 < k := by omega
  have hkn : k ≤ n := by omega
  subst hk
  have HZS := Lib.hid (show z = if (moveJ S R (1 - J.gen % 2) (J.first + k) (J.ents.drop k)).2.1 = 0 then ((moveJ S R (1 - J.gen % 2) (J.first + k) (J.ents.drop k)).1, (moveJ S R (1 - J.gen % 2) (J.first + k) (J.ents.drop k)).2.2, 0)
  else ((moveJ S R (1 - J.gen % 2) (J.first + k) (J.ents.drop k)).1, { J with failed := if (moveJ S R (1 - J.gen % 2) (J.first + k) (J.ents.drop k)).2.1 = 28 then 28 else 0 }, (moveJ S R (1 - J.gen % 2) (J.first + k) (J.ents.drop k)).2.1) by
    have h9 := HZS.out
    rw [Int.toNat_natCast, Nat.add_sub_cancel_left] at h9
    exact h9)
  have HDE := Lib.hid (show (moveJ S R (1 - J.gen % 2) (J.first + k) (J.ents.drop k)).2.1 = 0 → (moveJ S R (1 - J.gen % 2) (J.first + k) (J.ents.drop k)).2.2.ents = J.ents.drop k from fun h9 => (moveJ_first _ _ _ _ _ h9).2)
  have HLIM := Lib.hid (show JLim (nextG (1 - J.gen % 2) (secL S R.at_ R.cnt)) (J.first + k) (J.ents.drop k).length (J.ents.drop k) from JLim.mk' HGN.out (by rw [List.length_drop, HN.out]; omega) (Nat.le_refl _) (fun b hb => HSH.out b (List.mem_of_mem_drop hb)))
  have HMS := Lib.hid (show sizeE (J.ents.drop k) ≤ sizeE J.ents from sizeE_drop _ _)
  have HEL := Lib.hid (show ∀ V, Below V5.heap.size V5 V → EntsAt V G (.slice va n vc) J.ents from fun V hV => HEV5.out.below hV)
  obtain ⟨M, hM⟩ : ∃ M, moveJ S R (1 - J.gen % 2) (J.first + k) (J.ents.drop k) = M := ⟨_, rfl⟩
  have HMV := Lib.hid (show ∀ (V : World) (H : Nat → Prop) (ev2 : Value), Below V5.heap.size V5 V → EntsAt V H ev2 (J.ents.drop k) → (∀ j, j < V.heap.size → H j → ¬ F j) → Calls Tryd.prog 39 #[.pointer (some ⟨g, 0, none⟩), .int .i64 ((J.first + k : Nat) : Int), ev2] V (MovePost V F g b R J (.slice va n vc) ev2 M) from fun V H ev2 hV he hH => by
    rw [← hM]
    exact Jmove_any (HDV5.out.below hV) (KAt.below HK.out (HBV5.out.trans (hV.mono HBV5.out.size)) HK.out.size) HK0.out (HGV5.out.below hV) HFG.out (J.first + k) (J.ents.drop k) he hH HDN.out HRR.out HFL.out HLIM.out (Nat.le_trans HMS.out HNN.out) (HRM.out.less (by have := HMS.out; omega)))
  rw [hM] at HZS HDE
  have HCL := Lib.hid (show ∀ w', Below V5.heap.size V5 w' → w'.cell? ⟨g, 6, none⟩ = some (.slice va n vc) from fun w' hw' => (HGV5.out.below hw').cell rfl)
  have HGF := Lib.hid (show ∀ j, G j → ¬ F j from HST.out.fG)
  have HFLT := Lib.hid (show ∀ j, F j → j < w.heap.size from HST.out.fl)
  have HGLT := Lib.hid (show ∀ j, G j → j < w.heap.size from HST.out.gl)
  have HgG := Lib.hid HST.out.gG
  obtain ⟨fi, hfi⟩ : ∃ fi, J.first = fi := ⟨_, rfl⟩
  have HFI := Lib.hid hfi
  rw [hfi, Int.natCast_add] at HMV
  simp only [hfi]
  have hnx' : fi + n ≤ 2147483647 := by omega
  clear hM hfi h1 h2 h3 h3'
  refine wp_region_noPanic ?_
  refine wp_region_G [11, 12, 13] (Below V5.heap.size V5) (by kernel_rfl) ?_
  have hS0 : (Below V5.heap.size V5) V5.drew := ((Below.refl _ _).drew)
  obtain ⟨wd, hwd⟩ : ∃ wd, V5.drew = wd := ⟨_, rfl⟩
  rw [hwd] at hS0 ⊢
  have hd0 : Below V5.heap.size V5 wd := hwd ▸ (Below.refl _ _).drew
  clear hwd
  refine wpAnyG_pure (i := 0) (v := ?v1) rfl (by kernel_rfl) (by kernel_rfl) (by kernel_rfl) (by kernel_rfl) (fun _ _ _ h => h) (yieldsIf_run rfl (fun w' hw' => ?y1)) (fun _ => hS0) ?_
  case y1 => first | (go_simp; rfl) | (go_simp; done) | rfl
  simp only [Act.put, List.setIfInBounds_toArray, List.set_cons_zero, List.set_cons_succ]
  refine wpAnyG_pure (i := 1) (v := ?v2) rfl (by kernel_rfl) (by kernel_rfl) (by kernel_rfl) (by kernel_rfl) (fun _ _ _ h => h) (yieldsIf_run rfl (fun w' hw' => ?y2)) (fun _ => hS0) ?_
  case y2 => first | (go_simp; rfl) | (go_simp; done) | rfl
  simp only [Act.put, List.setIfInBounds_toArray, List.set_cons_zero, List.set_cons_succ]
  refine wpAnyG_pure (i := 2) (v := ?v3) rfl (by kernel_rfl) (by kernel_rfl) (by kernel_rfl) (by kernel_rfl) (fun _ _ _ h => h) (yieldsIf_run rfl (fun w' hw' => ?y3)) (fun _ => hS0) ?_
  case y3 => first | (go_simp; rfl) | (go_simp; done) | rfl
  simp only [Act.put, List.setIfInBounds_toArray, List.set_cons_zero, List.set_cons_succ]
  refine wpAnyG_pure (i := 3) (v := ?v4) rfl (by kernel_rfl) (by kernel_rfl) (by kernel_rfl) (by kernel_rfl) (fun _ _ _ h => h) (yieldsIf_run rfl (fun w' hw' => ?y4)) (fun _ => hS0) ?_
  case y4 => first | (go_simp; rfl) | (go_simp; done) | rfl
  simp only [Act.put, List.setIfInBounds_toArray, List.set_cons_zero, List.set_cons_succ]
  refine wpAnyG_pure (i := 4) (v := ?v5) rfl (by kernel_rfl) (by kernel_rfl) (by kernel_rfl) (by kernel_rfl) (fun _ _ _ h => h) (yieldsIf_run rfl (fun w' hw' => ?y5)) (fun _ => hS0) ?_
  case y5 => first | (go_simp; rfl) | (go_simp; done) | rfl
  simp only [Act.put, List.setIfInBounds_toArray, List.set_cons_zero, List.set_cons_succ]
  refine wpAnyG_pure (i := 5) (v := ?v6) rfl (by kernel_rfl) (by kernel_rfl) (by kernel_rfl) (by kernel_rfl) (fun _ _ _ h => h) (yieldsIf_run rfl (fun w' hw' => ?y6)) (fun _ => hS0) ?_
  case y6 => first | (go_simp; rfl) | (go_simp; done) | rfl
  simp only [Act.put, List.setIfInBounds_toArray, List.set_cons_zero, List.set_cons_succ]
  refine wpAnyG_takeZ (i := 6) (v := ?v7) rfl (by kernel_rfl) (by kernel_rfl) (by kernel_rfl) (by kernel_rfl) (fun _ _ _ h => h) (yieldsIf_run rfl (fun w' hw' => ?y7)) hS0 ?_
  case y7 => (have h1 := HCL.out w' hw'; clear hw'; first | (go_simp; rfl) | (go_simp; done))
  simp only [Act.put, List.setIfInBounds_toArray, List.set_cons_zero, List.set_cons_succ]
  refine wpAnyG_pure (i := 7) (v := ?v8) rfl (by kernel_rfl) (by kernel_rfl) (by kernel_rfl) (by kernel_rfl) (fun _ _ _ h => h) (yieldsIf_run rfl (fun w' hw' => ?y8)) (fun _ => hS0) ?_
  case y8 => first | (go_simp; rfl) | (go_simp; done) | rfl
  simp only [Act.put, List.setIfInBounds_toArray, List.set_cons_zero, List.set_cons_succ]
  refine wpAnyG_pure (i := 8) (v := ?v9) rfl (by kernel_rfl) (by kernel_rfl) (by kernel_rfl) (by kernel_rfl) (fun _ _ _ h => h) (yieldsIf_run rfl (fun w' hw' => ?y9)) (fun _ => hS0) ?_
  case y9 => first | (go_simp; rfl) | (go_simp; done) | rfl
  simp only [Act.put, List.setIfInBounds_toArray, List.set_cons_zero, List.set_cons_succ]
  refine wpAnyG_do (i := 9) (by kernel_rfl) rfl rfl (fun K hK => ?_)
  go_simp
  go_at_call 21
  refine (JFirst_any (HGV5.out.below hd0)).mono ?_
  rintro e V6 ⟨rfl, hb6⟩
  rw [HFI.out]
  have hb06 := hd0.trans (hb6.mono hd0.size)
  refine hK _ _ hb06 ?_
  clear hK K
  try simp only [Act.put, List.setIfInBounds_toArray, List.set_cons_zero, List.set_cons_succ]
  refine wpAnyG_pure (i := 10) (v := .int .i64 (k : Int)) rfl (by kernel_rfl) (by kernel_rfl) (by kernel_rfl) (by kernel_rfl) (fun _ _ _ h => h) (yieldsIf_run rfl (fun w' hw' => ?y10)) (fun _ => hb06) ?_
  case y10 => (have hwr : IntKind.i64.wrap ((fi : Int) + (k : Int) - (fi : Int)) = (k : Int) := (by rw [show (fi : Int) + (k : Int) - (fi : Int) = (k : Int) by omega]; exact IntWalk.i64_in _ (by omega)); first | (go_simp; rfl) | (go_simp; done))
  simp only [Act.put, List.setIfInBounds_toArray, List.set_cons_zero, List.set_cons_succ]
  refine wpAnyG_fin (i := 11) (by kernel_rfl) rfl rfl (by kernel_rfl) (fun K hK => ?_)
  go_simp
  go_at_call 45
  refine (bytesFrom_any (HEL.out V6 hb06) k hk0 hkn HN.out (by omega)).mono ?_
  rintro e V7 ⟨ua, uc, rfl, he7, hb7⟩
  have hb07 := hb06.trans (hb7.mono hb06.size)
  refine hK _ _ ?_
  clear hK K
  try simp only [Act.put, List.setIfInBounds_toArray, List.set_cons_zero, List.set_cons_succ]
  refine wpAnyG_fin (i := 12) (by kernel_rfl) rfl rfl (by kernel_rfl) (fun K hK => ?_)
  go_simp
  go_at_call 39
  refine (HMV.out V7 _ _ hb07 he7 (fun j hj h1 h2 => h1.elim (fun h3 => HGF.out j h3.1 h2) (fun h3 => by have h4 := HFLT.out j h2; have h5 := HBV5.out.size; have h6 := hb06.size; omega))).mono ?_
  rintro e V8 ⟨rfl, hd8, hc8, hok8, hno8⟩
  refine hK _ _ ?_
  clear hK K
  try simp only [Act.put, List.setIfInBounds_toArray, List.set_cons_zero, List.set_cons_succ]
  refine wpAnyG_fin (i := 13) (by kernel_rfl) rfl rfl (by kernel_rfl) (fun K hK => ?_)
  have hxq := ((hc8.block q (by have h1 := (Array.getElem?_eq_some_iff.1 HXV5.out).1; have h2 := hb07.size; omega) (fun h1 => h1.elim (fun h2 => by have := HFLT.out q h2; have := HQ.out; omega) (fun h2 => by have := HGL.out; omega))).trans (hb07.block q (Array.getElem?_eq_some_iff.1 HXV5.out).1)).trans HXV5.out
  refine wp_putC rfl 25 (.tmp 4) (.tmp 38) rfl q 0 (.int .i64 M.2.1) rfl rfl hxq (by show 0 < 1; decide) rfl (by kernel_rfl) ?_
  intro V9 x9 c9 s9
  refine hK _ _ ?_
  clear hK K
  try simp only [Act.put, List.setIfInBounds_toArray, List.set_cons_zero, List.set_cons_succ]
  refine wpAnyG_done (by kernel_rfl) ?_ _
  refine NoPanic.normal ?_
  have hqg : q ≠ g := by have := HGL.out; omega
  have hqs : q < V7.heap.size := by have h1 := (Array.getElem?_eq_some_iff.1 HXV5.out).1; have h2 := hb07.size; omega
  have hFq : ¬ F q := fun h1 => by have := HFLT.out q h1; have := HQ.out; omega
  have hsz8 := hc8.size
  have hsz9 := c9.size
  have HSV := Lib.hid (show w.heap.size ≤ V6.heap.size ∧ V6.heap.size ≤ V7.heap.size ∧ V7.heap.size ≤ V8.heap.size ∧ V8.heap.size ≤ V9.heap.size ∧ q < V7.heap.size ∧ w.heap.size = q ∧ g < q from ⟨Nat.le_trans HBV5.out.size hb06.size, hb7.size, hsz8, hsz9, hqs, HQ.out, HGL.out⟩)
  have HD9 := Lib.hid (hd8.bound.chg c9 (fun j h1 h2 => by
    subst h2
    rcases h1.1 with h3 | h3
    · exact hFq h3
    · omega))
  have HX9 := Lib.hid (show V9.heap[q]? = some (.cells #[.int .i64 M.2.1] 25 (0, 0)) from x9)
  have HC9 := Lib.hid (show Chg (fun j => F j ∨ G j ∨ j = g) w V9 from ((Chg.of_below (F := fun j => F j ∨ G j ∨ j = g) (HBV5.out.trans (hb07.mono HBV5.out.size))).trans hc8 (fun j h1 => .inl (h1.elim .inl (fun h2 => .inr (.inr h2))))).trans c9 (fun j h1 => .inr (by have := HQ.out; omega)))
  have HOK9 := Lib.hid (show M.2.1 = 0 → JBlk V9 g b R M.2.2 (.slice ua (n - k) uc) from fun h1 => (hok8 h1).chg c9 (fun h2 => hqg h2.symm))
  have HNO9 := Lib.hid (show M.2.1 ≠ 0 → JBlk V9 g b R J (.slice va n vc) from fun h1 => (hno8 h1).chg c9 (fun h2 => hqg h2.symm))
  have HE9 := Lib.hid ((he7.chg hc8 (fun j _ h1 h2 => by
    rcases h1 with h1 | h1
    · rcases h2 with h2 | h2
      · exact HGF.out j h1.1 h2
      · exact HgG.out (h2 ▸ h1.1)
    · rcases h2 with h2 | h2
      · have := HFLT.out j h2; have := HSV.out; omega
      · have := HSV.out; omega)).chg c9 (fun j _ h1 h2 => by
    rcases h1 with h1 | h1
    · have := HGLT.out j h1.1; have := HSV.out; omega
    · have h3 := HBV5.out.size
      have h4 := (Array.getElem?_eq_some_iff.1 HXV5.out).1
      have h5 := hb06.size
      omega))
  have HEO9 := Lib.hid ((((HEL.out V7 hb07)).chg hc8 (fun j _ h1 h2 => by
    rcases h2 with h2 | h2
    · exact HGF.out j h1 h2
    · exact HgG.out (h2 ▸ h1))).chg c9 (fun j _ h1 h2 => by have := HGLT.out j h1; have := HSV.out; omega))
  clear hd8 hc8 hok8 hno8 x9 c9 s9 he7 hb7 hb07 hb06 hqg hqs hFq hsz8 hsz9
  try clear hS0
  try clear hd0
  obtain ⟨S1, e1, J1⟩ := M
  simp only at HD9 HX9 HOK9 HNO9 HZS HDE ⊢
  go_wp2_with fail
  by_cases he : e1 = 0
  · subst he
    have HZE := Lib.hid (show z = (S1, J1, 0) by rw [HZS.out, if_pos rfl])
    refine leaves_cons (f := 43) (args := #[.pointer (some ⟨g, 0, none⟩), .pointer (some ⟨q, 0, none⟩)]) (by simp) (by simp [go_sem]) ?_
    refine (Jwatch_d .returning (HOK9.out rfl) HX9.out).mono ?_
    rintro e u' W7 ⟨rfl, rfl, hg7, hc7⟩
    have k7 : W7.cell? ⟨q, 0, none⟩ = some (.int .i64 0) := by rw [cell_of_row _ _ _ _ _ _ ((hc7.block q (Array.getElem?_eq_some_iff.1 HX9.out).1 (by have := HSV.out; omega)).trans HX9.out)]; rfl
    exact ⟨.int .i64 0, by simp [results, Tryd.results20, go_sem, k7], by
      rw [HZE.out]
      refine ⟨rfl, ⟨⟨_, (fun j => (G j ∧ j < V6.heap.size) ∨ (V6.heap.size ≤ j ∧ j < V7.heap.size)), ⟨HD9.out.chg hc7 (fun j h1 h2 => ?_), ⟨_, hg7, ?_⟩, ?_, ?_, ?_, ?_, ?_⟩, ?_, ?_⟩, HC9.out.trans hc7 (fun j e => .inl (.inr (.inr e)))⟩⟩
      · subst h2
        rcases h1.1 with h3 | h3
        · exact HFG.out h3
        · have := HSV.out; omega
      · rw [HDE.out rfl]
        exact HE9.out.chg hc7 (fun j _ h1 h2 => by
          subst h2
          rcases h1 with h3 | h3
          · exact HgG.out h3.1
          · have := HSV.out; omega)
      · rintro ⟨h1 | h1, _⟩
        · exact HFG.out h1
        · have := HSV.out; omega
      · rintro (h1 | h1)
        · exact HgG.out h1.1
        · have := HSV.out; omega
      · rintro j (h1 | h1) ⟨h2 | h2, _⟩
        · exact HGF.out j h1.1 h2
        · have := HSV.out; omega
        · have := HFLT.out j h2; have := HSV.out; omega
        · omega
      · intro j h1; have := hc7.size; have := HSV.out; have := h1.2; omega
      · rintro j (h1 | h1)
        · have := hc7.size; have := HSV.out; omega
        · have := hc7.size; have := HSV.out; omega
      · rintro j ⟨h1 | h1, _⟩
        · exact .inl h1
        · exact .inr (by have := HSV.out; omega)
      · rintro j (h1 | h1)
        · exact .inl h1.1
        · exact .inr (by have := HSV.out; omega)⟩
  · have HZE := Lib.hid (show z = (S1, { J with failed := if e1 = 28 then 28 else 0 }, e1) by rw [HZS.out, if_neg he])
    have HWJ := Lib.hid (show watchJ J e1 = { J with failed := if e1 = 28 then 28 else 0 } by
      unfold watchJ
      by_cases h28 : e1 = 28
      · rw [if_pos h28, if_pos h28]
      · rw [if_neg h28, if_neg h28]
        have h0 := HFL.out
        obtain ⟨_, _, _, _, _, _⟩ := J
        simp only at h0
        subst h0
        rfl)
    refine leaves_cons (f := 43) (args := #[.pointer (some ⟨g, 0, none⟩), .pointer (some ⟨q, 0, none⟩)]) (by simp) (by simp [go_sem]) ?_
    refine (Jwatch_d .returning (HNO9.out he) HX9.out).mono ?_
    rintro e u' W7 ⟨rfl, rfl, hg7, hc7⟩
    rw [HWJ.out] at hg7
    have k7 : W7.cell? ⟨q, 0, none⟩ = some (.int .i64 e1) := by rw [cell_of_row _ _ _ _ _ _ ((hc7.block q (Array.getElem?_eq_some_iff.1 HX9.out).1 (by have := HSV.out; omega)).trans HX9.out)]; rfl
    exact ⟨.int .i64 e1, by simp [results, Tryd.results20, go_sem, k7], by
      rw [HZE.out]
      refine ⟨rfl, ⟨⟨_, G, ⟨HD9.out.chg hc7 (fun j h1 h2 => ?_), ⟨_, hg7, ?_⟩, ?_, HgG.out, ?_, ?_, ?_⟩, ?_, fun j h1 => .inl h1⟩, HC9.out.trans hc7 (fun j e => .inl (.inr (.inr e)))⟩⟩
      · subst h2
        rcases h1.1 with h3 | h3
        · exact HFG.out h3
        · have := HSV.out; omega
      · exact HEO9.out.chg hc7 (fun j _ h1 h2 => HgG.out (h2 ▸ h1))
      · rintro ⟨h1 | h1, _⟩
        · exact HFG.out h1
        · have := HSV.out; omega
      · rintro j h1 ⟨h2 | h2, _⟩
        · exact HGF.out j h1 h2
        · have := HGLT.out j h1; have := HSV.out; omega
      · intro j h1; have := hc7.size; have := HSV.out; have := h1.2; omega
      · intro j h1; have := HGLT.out j h1; have := hc7.size; have := HSV.out; omega
      · rintro j ⟨h1 | h1, _⟩
        · exact .inl h1
        · exact .inr (by have := HSV.out; omega)⟩
end Go.Proofs.YtplclpileejemaaDoor

namespace Go.Proofs.YtplclpileejemaaDoor
open Go.RowKit
set_option linter.unusedVariables false
set_option linter.unusedSimpArgs false

set_option maxRecDepth 100000 in
set_option maxHeartbeats 2000000 in
theorem JAppend_nil {w : World} (bv : Value) : Calls Tryd.prog 18 #[.pointer none, bv] w fun e w' => e = .returned (.tuple #[.int .i64 0, .int .i64 1]) ∧ Below w.heap.size w w' := by
  obtain ⟨w1, hw1⟩ : ∃ w1, w.alloc (.cells #[.int .i64 0] 25) = w1 := ⟨_, rfl⟩
  have HW1 := Lib.hid hw1
  have hb1 : Below w.heap.size w w1 := hw1 ▸ (Below.refl _ _).alloc (Nat.le_refl _) _
  have HB1 := Lib.hid hb1
  have HX1 := Lib.hid (show w1.heap[w.heap.size]? = some (.cells #[.int .i64 0] 25 (0, 0)) by rw [← hw1]; exact heap_alloc_new _ _)
  clear hw1 hb1
  go_enter_defers Tryd.func18, Tryd.ntmps18
  go_wp2_with fail
  rw [HW1.out]
  refine JFailed_nil.mono ?_
  rintro e V2 ⟨rfl, hb2⟩
  have HX2 := Lib.hid ((hb2.block _ (Array.getElem?_eq_some_iff.1 HX1.out).1).trans HX1.out)
  have HB2 := Lib.hid (HB1.out.trans (hb2.mono HB1.out.size))
  obtain ⟨q, hq⟩ : ∃ q, w.heap.size = q := ⟨_, rfl⟩
  rw [hq] at HX2 ⊢
  have HQ := Lib.hid hq
  clear hb2 hq HX1
  go_wp2_with (refine wpList_putC rfl rfl 25 (.tmp 5) (.tmp 14) rfl q 0 (.int .i64 1) rfl rfl HX2.out (by show 0 < 1; decide) rfl (by kernel_rfl) ?_; refine Stop.on ?_)
  refine Stop.go ?_
  try simp only [Act.put, List.setIfInBounds_toArray, List.set_cons_zero, List.set_cons_succ]
  intro W3 x3 c3 s3
  try simp only [Act.put, List.setIfInBounds_toArray, List.set_cons_zero, List.set_cons_succ]
  have k3 : W3.cell? ⟨q, 0, none⟩ = some (.int .i64 1) := by rw [cell_of_row _ _ _ _ _ _ x3]; rfl
  have HB3 := Lib.hid (HB2.out.trans (c3.below (fun k e => by rw [e, HQ.out]; exact Nat.le_refl _) HB2.out.size))
  go_wp2_with fail
  exact ⟨.tuple #[.int .i64 0, .int .i64 1], by simp [results, Tryd.results18, go_sem, k3], rfl, HB3.out⟩
set_option maxRecDepth 100000 in
set_option maxHeartbeats 2000000 in
theorem JAppend_any {w : World} {F G D : Nat → Prop} {b g : Nat} {S : DS} {R : JR} {J : JD} (h : JSt w F G b g S R J) (hK : KAt w) (hK0 : ¬ F 0) {bv : Value} {l : List UInt8} (hv : BytesN w D bv l) (hDF : ∀ k, k < w.heap.size → D k → ¬ F k ∧ k ≠ g) (hl : l.length ≤ 1000000000)
    (hr : R.at_ + R.cnt ≤ S.dur.length) (hat : R.at_ < 100000000) (hcn : R.cnt < 1000000) (hus : J.used ≤ R.half) (hgn : J.gen ≤ 2147483647) (hnx : J.first + J.ents.length + 1 ≤ 2147483647) (hN : sizeE J.ents ≤ 100000) (hroom : Roomy S 1000) :
    Calls Tryd.prog 18 #[.pointer (some ⟨g, 0, none⟩), bv] w fun e w' => e = .returned (.tuple #[.int .i64 ((appJ S R J l).2.2.2 : Int), .int .i64 (appJ S R J l).2.2.1]) ∧ JPost w F G b g R (appJ S R J l).1 (appJ S R J l).2.1 w' := by
  obtain ⟨ev, hg, hE⟩ := h.mem
  obtain ⟨va, vc, rfl⟩ := hE.form
  obtain ⟨ba, bc, rfl⟩ := hv.form
  obtain ⟨n, hn⟩ : ∃ n, J.ents.length = n := ⟨_, rfl⟩
  rw [hn] at hg hE hnx
  have hnb : n ≤ 100000 := by have := sizeE_len J.ents; omega
  obtain ⟨w1, hw1⟩ : ∃ w1, w.alloc (.cells #[.int .i64 0] 25) = w1 := ⟨_, rfl⟩
  have HW1 := Lib.hid hw1
  have hb1 : Below w.heap.size w w1 := hw1 ▸ (Below.refl _ _).alloc (Nat.le_refl _) _
  have HB1 := Lib.hid hb1
  have HX1 := Lib.hid (show w1.heap[w.heap.size]? = some (.cells #[.int .i64 0] 25 (0, 0)) by rw [← hw1]; exact heap_alloc_new _ _)
  have HST := Lib.hid h
  have HG1 := Lib.hid (hg.below hb1)
  have HE1 := Lib.hid (hE.below hb1)
  have HD1 := Lib.hid (h.dev.below hb1)
  have HV1 := Lib.hid ((hv.weak (G := fun k => D k ∧ k < w.heap.size) (fun k h1 h2 => ⟨h2, h1⟩)).below hb1)
  have HDF := Lib.hid (show ∀ k, D k ∧ k < w.heap.size → ¬ F k ∧ k ≠ g from fun k h1 => hDF k h1.2 h1.1)
  have HGL := Lib.hid hg.lt
  have HFG := Lib.hid h.fg
  have HN := Lib.hid hn
  have HK := Lib.hid hK
  have HK0 := Lib.hid hK0
  have HRM := Lib.hid hroom
  obtain ⟨m, hm⟩ : ∃ m, l.length = m := ⟨_, rfl⟩
  rw [hm] at hl HV1 ⊢
  have HM := Lib.hid hm
  obtain ⟨z, hz⟩ : ∃ z, appJ S R J l = z := ⟨_, rfl⟩
  have HZ := Lib.hid (show z = appJ S R J l from hz.symm)
  rw [hz]
  obtain ⟨fl, hfl⟩ : ∃ fl, J.failed = fl := ⟨_, rfl⟩
  have HFL := Lib.hid hfl
  have hub : R.half < 1000000 := by unfold JR.half; omega
  -- nothing changed
  have HSM := Lib.hid (show ∀ w', Below w.heap.size w w' → JPost w F G b g R S J w' from fun w' hb => ⟨⟨F, G, h.below hb, fun k hk => .inl hk, fun k hk => .inl hk⟩, Chg.of_below hb⟩)
  clear hw1 hb1 h hg hE hroom hz hn hfl hK hK0 hv hDF hm
  go_enter_defers Tryd.func18, Tryd.ntmps18
  go_wp2_with fail
  rw [HW1.out]
  refine (JFailed_any HG1.out).mono ?_
  rintro e V2 ⟨rfl, hb2⟩
  rw [HFL.out]
  have HX2 := Lib.hid ((hb2.block _ (Array.getElem?_eq_some_iff.1 HX1.out).1).trans HX1.out)
  have HB2 := Lib.hid (HB1.out.trans (hb2.mono HB1.out.size))
  have HG2 := Lib.hid (HG1.out.below hb2)
  have HE2 := Lib.hid (HE1.out.below hb2)
  have HD2 := Lib.hid (HD1.out.below hb2)
  have HV2 := Lib.hid (HV1.out.below hb2)
  obtain ⟨q, hq⟩ : ∃ q, w.heap.size = q := ⟨_, rfl⟩
  rw [hq] at HX2 HGL ⊢
  have HQ := Lib.hid hq
  clear hb2 hq HX1 HG1 HD1 HE1 HV1
  by_cases hf0 : fl = 0
  case neg =>
    have hdt : (fl != 0) = true := by simpa using hf0
    have HZE := Lib.hid (show z = (S, J, fl, 0) by rw [HZ.out]; unfold appJ; rw [HFL.out, if_pos hf0])
    clear hf0
    go_wp2_with (refine wpList_putC rfl rfl 25 (.tmp 5) (.tmp 14) rfl q 0 (.int .i64 fl) rfl rfl HX2.out (by show 0 < 1; decide) rfl (by kernel_rfl) ?_; refine Stop.on ?_)
    refine Stop.go ?_
    try simp only [Act.put, List.setIfInBounds_toArray, List.set_cons_zero, List.set_cons_succ]
    intro W3 x3 c3 s3
    try simp only [Act.put, List.setIfInBounds_toArray, List.set_cons_zero, List.set_cons_succ]
    have k3 : W3.cell? ⟨q, 0, none⟩ = some (.int .i64 fl) := by rw [cell_of_row _ _ _ _ _ _ x3]; rfl
    have HB3 := Lib.hid (HB2.out.trans (c3.below (fun k e => by rw [e, HQ.out]; exact Nat.le_refl _) HB2.out.size))
    go_wp2_with fail
    exact ⟨.tuple #[.int .i64 0, .int .i64 fl], by simp [results, Tryd.results18, go_sem, k3], by rw [HZE.out]; exact ⟨rfl, HSM.out W3 HB3.out⟩⟩
  subst hf0
  have HZS := Lib.hid (show z = if 100000 < m then (S, J, 5, 0) else
  if R.half - J.used < needN m then (S, J, 9, 0) else
  if (wrL S (R.area (J.gen % 2) + J.used) (splitL (bodR J.gen (n + 1) l))).2 = 0 then
    ((wrL S (R.area (J.gen % 2) + J.used) (splitL (bodR J.gen (n + 1) l))).1, { J with ents := J.ents ++ [l], used := J.used + needN m }, 0, J.next)
  else ((wrL S (R.area (J.gen % 2) + J.used) (splitL (bodR J.gen (n + 1) l))).1, { J with failed := (wrL S (R.area (J.gen % 2) + J.used) (splitL (bodR J.gen (n + 1) l))).2 }, (wrL S (R.area (J.gen % 2) + J.used) (splitL (bodR J.gen (n + 1) l))).2, 0) by
    rw [HZ.out]; unfold appJ; rw [if_neg (by rw [HFL.out]; simp), HM.out, HN.out])
  clear HZ
  by_cases hlong : 100000 < m
  · have HZE := Lib.hid (show z = (S, J, 5, 0) by rw [HZS.out, if_pos hlong])
    go_wp2_with fail
    refine (JNeed_no (m : Int) (.inr (by omega))).mono ?_
    rintro e V3 ⟨rfl, hb⟩
    have HXV3 := Lib.hid ((hb.block _ (Array.getElem?_eq_some_iff.1 HX2.out).1).trans HX2.out)
    have HBV3 := Lib.hid (HB2.out.trans (hb.mono HB2.out.size))
    have HGV3 := Lib.hid (HG2.out.below hb)
    have HEV3 := Lib.hid (HE2.out.below hb)
    have HDV3 := Lib.hid (HD2.out.below hb)
    have HVV3 := Lib.hid (HV2.out.below hb)
    clear hb
    go_wp2_with (refine wpList_putC rfl rfl 25 (.tmp 5) (.tmp 20) rfl q 0 (.int .i64 2) rfl rfl HXV3.out (by show 0 < 1; decide) rfl (by kernel_rfl) ?_; refine Stop.on ?_)
    refine Stop.go ?_
    try simp only [Act.put, List.setIfInBounds_toArray, List.set_cons_zero, List.set_cons_succ]
    intro V4 x3 c3 s3
    try simp only [Act.put, List.setIfInBounds_toArray, List.set_cons_zero, List.set_cons_succ]
    have HXV4 := Lib.hid (show V4.heap[q]? = some (.cells #[.int .i64 2] 25 (0, 0)) from x3)
    have HBV4 := Lib.hid (HBV3.out.trans (c3.below (fun k e => by rw [e, HQ.out]; exact Nat.le_refl _) HBV3.out.size))
    have HGV4 := Lib.hid (HGV3.out.chg c3 (by have := HGL.out; omega))
    have HEV4 := Lib.hid (HEV3.out.chg c3 (fun k _ h1 e => by have := HST.out.gl k h1; have := HQ.out; omega))
    have HDV4 := Lib.hid (HDV3.out.chg c3 (fun k h1 e => by have := HST.out.fl k h1; have := HQ.out; omega))
    have HVV4 := Lib.hid (HVV3.out.chg c3 (fun k _ h1 e => by have := h1.2; have := HQ.out; omega))
    have kqV4 : V4.cell? ⟨q, 0, none⟩ = some (.int .i64 2) := by rw [cell_of_row _ _ _ _ _ _ x3]; rfl
    clear x3 c3 s3
    go_wp2_with (refine wpList_putC rfl rfl 25 (.tmp 5) (.const (.int .i64 5)) rfl q 0 (.int .i64 5) rfl rfl HXV4.out (by show 0 < 1; decide) rfl (by kernel_rfl) ?_; refine Stop.on ?_)
    refine Stop.go ?_
    try simp only [Act.put, List.setIfInBounds_toArray, List.set_cons_zero, List.set_cons_succ]
    intro W3 x3 c3 s3
    try simp only [Act.put, List.setIfInBounds_toArray, List.set_cons_zero, List.set_cons_succ]
    have k3 : W3.cell? ⟨q, 0, none⟩ = some (.int .i64 5) := by rw [cell_of_row _ _ _ _ _ _ x3]; rfl
    have HB3 := Lib.hid (HBV4.out.trans (c3.below (fun k e => by rw [e, HQ.out]; exact Nat.le_refl _) HBV4.out.size))
    go_wp2_with fail
    exact ⟨.tuple #[.int .i64 0, .int .i64 5], by simp [results, Tryd.results18, go_sem, k3], by rw [HZE.out]; exact ⟨rfl, HSM.out W3 HB3.out⟩⟩
  have HZS := Lib.hid (HZS.out.trans (if_neg hlong))
  go_wp2_with fail
  refine (JNeed_ok m (by omega)).mono ?_
  rintro e V3 ⟨rfl, hb⟩
  have HXV3 := Lib.hid ((hb.block _ (Array.getElem?_eq_some_iff.1 HX2.out).1).trans HX2.out)
  have HBV3 := Lib.hid (HB2.out.trans (hb.mono HB2.out.size))
  have HGV3 := Lib.hid (HG2.out.below hb)
  have HEV3 := Lib.hid (HE2.out.below hb)
  have HDV3 := Lib.hid (HD2.out.below hb)
  have HVV3 := Lib.hid (HV2.out.below hb)
  clear hb
  go_wp2_with (refine wpList_putC rfl rfl 25 (.tmp 5) (.tmp 20) rfl q 0 (.int .i64 0) rfl rfl HXV3.out (by show 0 < 1; decide) rfl (by kernel_rfl) ?_; refine Stop.on ?_)
  refine Stop.go ?_
  try simp only [Act.put, List.setIfInBounds_toArray, List.set_cons_zero, List.set_cons_succ]
  intro V4 x3 c3 s3
  try simp only [Act.put, List.setIfInBounds_toArray, List.set_cons_zero, List.set_cons_succ]
  have HXV4 := Lib.hid (show V4.heap[q]? = some (.cells #[.int .i64 0] 25 (0, 0)) from x3)
  have HBV4 := Lib.hid (HBV3.out.trans (c3.below (fun k e => by rw [e, HQ.out]; exact Nat.le_refl _) HBV3.out.size))
  have HGV4 := Lib.hid (HGV3.out.chg c3 (by have := HGL.out; omega))
  have HEV4 := Lib.hid (HEV3.out.chg c3 (fun k _ h1 e => by have := HST.out.gl k h1; have := HQ.out; omega))
  have HDV4 := Lib.hid (HDV3.out.chg c3 (fun k h1 e => by have := HST.out.fl k h1; have := HQ.out; omega))
  have HVV4 := Lib.hid (HVV3.out.chg c3 (fun k _ h1 e => by have := h1.2; have := HQ.out; omega))
  have kqV4 : V4.cell? ⟨q, 0, none⟩ = some (.int .i64 0) := by rw [cell_of_row _ _ _ _ _ _ x3]; rfl
  clear x3 c3 s3
  go_wp2_with fail
  refine (JFree_any HGV4.out hcn (by omega)).mono ?_
  rintro e V5 ⟨rfl, hb⟩
  have HXV5 := Lib.hid ((hb.block _ (Array.getElem?_eq_some_iff.1 HXV4.out).1).trans HXV4.out)
  have HBV5 := Lib.hid (HBV4.out.trans (hb.mono HBV4.out.size))
  have HGV5 := Lib.hid (HGV4.out.below hb)
  have HEV5 := Lib.hid (HEV4.out.below hb)
  have HDV5 := Lib.hid (HDV4.out.below hb)
  have HVV5 := Lib.hid (HVV4.out.below hb)
  clear hb
  obtain ⟨nd, hnd⟩ : ∃ nd, needN m = nd := ⟨_, rfl⟩
  rw [hnd] at HZS ⊢
  have hnd1 : nd ≤ 586 := by rw [← hnd]; exact (need_le (by omega)).2
  have HND := Lib.hid hnd
  clear hnd
  by_cases hroom : R.half - J.used < nd
  · have hgt : (R.half : Int) - (J.used : Int) < (nd : Int) := by omega
    have HZE := Lib.hid (show z = (S, J, 9, 0) by rw [HZS.out, if_pos hroom])
    go_wp2_with (refine wpList_putC rfl rfl 25 (.tmp 5) (.const (.int .i64 9)) rfl q 0 (.int .i64 9) rfl rfl HXV5.out (by show 0 < 1; decide) rfl (by kernel_rfl) ?_; refine Stop.on ?_)
    refine Stop.go ?_
    try simp only [Act.put, List.setIfInBounds_toArray, List.set_cons_zero, List.set_cons_succ]
    intro W3 x3 c3 s3
    try simp only [Act.put, List.setIfInBounds_toArray, List.set_cons_zero, List.set_cons_succ]
    have k3 : W3.cell? ⟨q, 0, none⟩ = some (.int .i64 9) := by rw [cell_of_row _ _ _ _ _ _ x3]; rfl
    have HB3 := Lib.hid (HBV5.out.trans (c3.below (fun k e => by rw [e, HQ.out]; exact Nat.le_refl _) HBV5.out.size))
    go_wp2_with fail
    exact ⟨.tuple #[.int .i64 0, .int .i64 9], by simp [results, Tryd.results18, go_sem, k3], by rw [HZE.out]; exact ⟨rfl, HSM.out W3 HB3.out⟩⟩
  have hgt : ¬ (R.half : Int) - (J.used : Int) < (nd : Int) := by omega
  have HZS := Lib.hid (HZS.out.trans (if_neg hroom))
  clear hroom
  go_wp2_with fail
  obtain ⟨gn, hgnE⟩ : ∃ gn, J.gen = gn := ⟨_, rfl⟩
  obtain ⟨us, husE⟩ : ∃ us, J.used = us := ⟨_, rfl⟩
  obtain ⟨ca, hca⟩ : ∃ ca, R.at_ = ca := ⟨_, rfl⟩
  obtain ⟨cc, hcc⟩ : ∃ cc, R.cnt = cc := ⟨_, rfl⟩
  obtain ⟨ar, har⟩ : ∃ ar, gn % 2 = ar := ⟨_, rfl⟩
  have har1 : ar ≤ 1 := by omega
  obtain ⟨hh, hhE⟩ : ∃ hh, cc / 2 = hh := ⟨_, rfl⟩
  have hhf : R.half = hh := by unfold JR.half; rw [hcc, hhE]
  obtain ⟨wh, hwE⟩ : ∃ wh, ar * hh = wh := ⟨_, rfl⟩
  have hwm : wh ≤ 1000000 := by
    subst hwE
    rcases (show ar = 0 ∨ ar = 1 by omega) with rfl | rfl <;> omega
  have hmul : (ar : Int) * (hh : Int) = (wh : Int) := by rw [← hwE, Int.natCast_mul]
  have hwrap : IntKind.i64.wrap (wh : Int) = (wh : Int) := IntWalk.i64_in _ (by omega)
  have HSZ := Lib.hid (fun (w1 : World) => Jsize_any (w := w1) b (ca : Int) cc (by omega))
  rw [hhE] at HSZ
  unfold stV at HSZ
  have HGJ := Lib.hid (show ∀ V, JBlk V g b R J (.slice va n vc) → V.cell? ⟨g, 0, none⟩ = some (.pointer (some ⟨b, 0, none⟩)) ∧ V.cell? ⟨g, 1, none⟩ = some (.int .i64 (ca : Int)) ∧ V.cell? ⟨g, 2, none⟩ = some (.int .i64 (cc : Int)) ∧ V.cell? ⟨g, 3, none⟩ = some (.int .i64 (ar : Int)) ∧ V.cell? ⟨g, 4, none⟩ = some (.int .i64 (gn : Int)) ∧ V.cell? ⟨g, 6, none⟩ = some (.slice va n vc) ∧ V.cell? ⟨g, 7, none⟩ = some (.int .i64 (us : Int)) from fun V hV => by
    subst hgnE husE hca hcc har
    exact ⟨hV.cell rfl, hV.cell rfl, hV.cell rfl, hV.cell rfl, hV.cell rfl, hV.cell rfl, hV.cell rfl⟩)
  have HPUT := Lib.hid (show ∀ V, DiskAt V F b S → KAt V → BytesN V (fun k => D k ∧ k < w.heap.size) (.slice ba m bc) l → Calls Tryd.prog 44 #[.agg #[.pointer (some ⟨b, 0, none⟩), .int .i64 (ca : Int), .int .i64 (cc : Int)], .int .i64 ((wh : Int) + (us : Int)), .agg #[.int .i64 2, .int .i64 (gn : Int), .int .i64 ((n : Int) + 1), .slice ba m bc]] V fun e w' => e = .returned (putV nd (wrL S (R.area (J.gen % 2) + J.used) (splitL (bodR J.gen (n + 1) l))).2) ∧ DiskAt w' (fun k => F k ∨ V.heap.size ≤ k) b (wrL S (R.area (J.gen % 2) + J.used) (splitL (bodR J.gen (n + 1) l))).1 ∧ Chg F V w' from fun V h1 h2 h3 => by
    have h4 := Jput_any h1 h2 HK0.out ca (wh + us) (cc : Int) (bodR gn (n + 1) l) (bodR_ok (by omega) (by omega) (by rw [HM.out]; omega)) (.slice ba m bc) h3 (by omega) (HRM.out.less (by show needN l.length ≤ _; rw [HM.out, HND.out]; omega))
    have e1 : R.area (J.gen % 2) + J.used = ca + (wh + us) := by
      unfold JR.area
      rw [hgnE, har, hhf, hwE, hca, husE, Nat.add_assoc]
    rw [show needN (bodR gn (n + 1) l).load.length = nd by show needN l.length = nd; rw [HM.out, HND.out]] at h4
    rw [e1, hgnE]
    exact h4)
  have HCA := Lib.hid (show R.half = hh ∧ J.used = us from ⟨hhf, husE⟩)
  have H28 := Lib.hid (show (wrL S (R.area (J.gen % 2) + J.used) (splitL (bodR J.gen (n + 1) l))).2 ≠ 0 → (wrL S (R.area (J.gen % 2) + J.used) (splitL (bodR J.gen (n + 1) l))).2 = 28 from fun h9 => (wrL_err (splitL_256 _) (by
    have h1 := area_room (R := R) (h := J.gen % 2) (n := J.used + nd) (by omega) (by omega)
    rw [splitL_length (bodR_ok (by omega) (by omega) (by rw [HM.out]; omega)), show needN (bodR J.gen (n + 1) l).load.length = nd by show needN l.length = nd; rw [HM.out, HND.out]]
    omega) h9).1)
  obtain ⟨y, hy⟩ : ∃ y, wrL S (R.area (J.gen % 2) + J.used) (splitL (bodR J.gen (n + 1) l)) = y := ⟨_, rfl⟩
  rw [hy] at HPUT HZS H28
  rw [husE, hhf] at hgt
  have hus2 : us ≤ hh := by omega
  have hub2 : hh < 1000000 := by omega
  have hgm : gn ≤ 2147483647 := by omega
  have HKV := Lib.hid (show ∀ V, Below w.heap.size w V → KAt V from fun V hV => KAt.below HK.out hV HK.out.size)
  clear hy hgnE husE hca hcc har hhE hhf hwE
  have HCL := Lib.hid (show ∀ w', Below V5.heap.size V5 w' → w'.cell? ⟨g, 4, none⟩ = some (.int .i64 (gn : Int)) ∧ w'.cell? ⟨g, 6, none⟩ = some (.slice va n vc) from fun w' hw' => by
    obtain ⟨_, _, _, _, h5, h6, _⟩ := HGJ.out w' (HGV5.out.below hw')
    exact ⟨h5, h6⟩)
  refine wp_region_noPanic ?_
  refine wp_region_H (Below V5.heap.size V5) (by kernel_rfl) ?_
  have hS0 : (Below V5.heap.size V5) V5.drew := ((Below.refl _ _).drew)
  obtain ⟨wd, hwd⟩ : ∃ wd, V5.drew = wd := ⟨_, rfl⟩
  rw [hwd] at hS0 ⊢
  have hd0 : Below V5.heap.size V5 wd := hwd ▸ (Below.refl _ _).drew
  clear hwd
  refine wpAnyH_takeI (i := 0) (v := ?v1) rfl (by kernel_rfl) (by kernel_rfl) (by kernel_rfl) (fun _ _ _ h => h) (yieldsIf_run rfl (fun w' hw' => ?y1)) hS0 ?_
  case y1 => first | (go_simp; rfl) | (go_simp; done) | rfl
  simp only [Act.put, List.setIfInBounds_toArray, List.set_cons_zero, List.set_cons_succ]
  refine wpAnyH_takeI (i := 1) (v := ?v2) rfl (by kernel_rfl) (by kernel_rfl) (by kernel_rfl) (fun _ _ _ h => h) (yieldsIf_run rfl (fun w' hw' => ?y2)) hS0 ?_
  case y2 => first | (go_simp; rfl) | (go_simp; done) | rfl
  simp only [Act.put, List.setIfInBounds_toArray, List.set_cons_zero, List.set_cons_succ]
  refine wpAnyH_takeI (i := 2) (v := ?v3) rfl (by kernel_rfl) (by kernel_rfl) (by kernel_rfl) (fun _ _ _ h => h) (yieldsIf_run rfl (fun w' hw' => ?y3)) hS0 ?_
  case y3 => first | (go_simp; rfl) | (go_simp; done) | rfl
  simp only [Act.put, List.setIfInBounds_toArray, List.set_cons_zero, List.set_cons_succ]
  refine wpAnyH_takeI (i := 3) (v := ?v4) rfl (by kernel_rfl) (by kernel_rfl) (by kernel_rfl) (fun _ _ _ h => h) (yieldsIf_run rfl (fun w' hw' => ?y4)) hS0 ?_
  case y4 => first | (go_simp; rfl) | (go_simp; done) | rfl
  simp only [Act.put, List.setIfInBounds_toArray, List.set_cons_zero, List.set_cons_succ]
  refine wpAnyH_takeI (i := 4) (v := ?v5) rfl (by kernel_rfl) (by kernel_rfl) (by kernel_rfl) (fun _ _ _ h => h) (yieldsIf_run rfl (fun w' hw' => ?y5)) hS0 ?_
  case y5 => (obtain ⟨h1, h2⟩ := HCL.out w' hw'; clear hw'; first | (go_simp; rfl) | (go_simp; done))
  simp only [Act.put, List.setIfInBounds_toArray, List.set_cons_zero, List.set_cons_succ]
  refine wpAnyH_takeI (i := 5) (v := ?v6) rfl (by kernel_rfl) (by kernel_rfl) (by kernel_rfl) (fun _ _ _ h => h) (yieldsIf_run rfl (fun w' hw' => ?y6)) hS0 ?_
  case y6 => first | (go_simp; rfl) | (go_simp; done) | rfl
  simp only [Act.put, List.setIfInBounds_toArray, List.set_cons_zero, List.set_cons_succ]
  refine wpAnyH_takeI (i := 6) (v := ?v7) rfl (by kernel_rfl) (by kernel_rfl) (by kernel_rfl) (fun _ _ _ h => h) (yieldsIf_run rfl (fun w' hw' => ?y7)) hS0 ?_
  case y7 => first | (go_simp; rfl) | (go_simp; done) | rfl
  simp only [Act.put, List.setIfInBounds_toArray, List.set_cons_zero, List.set_cons_succ]
  refine wpAnyH_takeI (i := 7) (v := ?v8) rfl (by kernel_rfl) (by kernel_rfl) (by kernel_rfl) (fun _ _ _ h => h) (yieldsIf_run rfl (fun w' hw' => ?y8)) hS0 ?_
  case y8 => first | (go_simp; rfl) | (go_simp; done) | rfl
  simp only [Act.put, List.setIfInBounds_toArray, List.set_cons_zero, List.set_cons_succ]
  refine wpAnyH_takeI (i := 8) (v := ?v9) rfl (by kernel_rfl) (by kernel_rfl) (by kernel_rfl) (fun _ _ _ h => h) (yieldsIf_run rfl (fun w' hw' => ?y9)) hS0 ?_
  case y9 => first | (go_simp; rfl) | (go_simp; done) | rfl
  simp only [Act.put, List.setIfInBounds_toArray, List.set_cons_zero, List.set_cons_succ]
  refine wpAnyH_takeI (i := 9) (v := ?v10) rfl (by kernel_rfl) (by kernel_rfl) (by kernel_rfl) (fun _ _ _ h => h) (yieldsIf_run rfl (fun w' hw' => ?y10)) hS0 ?_
  case y10 => (obtain ⟨h1, h2⟩ := HCL.out w' hw'; clear hw'; first | (go_simp; rfl) | (go_simp; done))
  simp only [Act.put, List.setIfInBounds_toArray, List.set_cons_zero, List.set_cons_succ]
  refine wpAnyH_takeI (i := 10) (v := ?v11) rfl (by kernel_rfl) (by kernel_rfl) (by kernel_rfl) (fun _ _ _ h => h) (yieldsIf_run rfl (fun w' hw' => ?y11)) hS0 ?_
  case y11 => first | (go_simp; rfl) | (go_simp; done) | rfl
  simp only [Act.put, List.setIfInBounds_toArray, List.set_cons_zero, List.set_cons_succ]
  refine wpAnyH_takeI (i := 11) (v := .int .i64 ((n : Int) + 1)) rfl (by kernel_rfl) (by kernel_rfl) (by kernel_rfl) (fun _ _ _ h => h) (yieldsIf_run rfl (fun w' hw' => ?y12)) hS0 ?_
  case y12 => (have hwr : IntKind.i64.wrap ((n : Int) + 1) = (n : Int) + 1 := IntWalk.i64_in _ (by omega); clear hw'; first | (go_simp; rfl) | (go_simp; done))
  simp only [Act.put, List.setIfInBounds_toArray, List.set_cons_zero, List.set_cons_succ]
  refine wpAnyH_takeI (i := 12) (v := ?v13) rfl (by kernel_rfl) (by kernel_rfl) (by kernel_rfl) (fun _ _ _ h => h) (yieldsIf_run rfl (fun w' hw' => ?y13)) hS0 ?_
  case y13 => first | (go_simp; rfl) | (go_simp; done) | rfl
  simp only [Act.put, List.setIfInBounds_toArray, List.set_cons_zero, List.set_cons_succ]
  refine wpAnyH_takeI (i := 13) (v := ?v14) rfl (by kernel_rfl) (by kernel_rfl) (by kernel_rfl) (fun _ _ _ h => h) (yieldsIf_run rfl (fun w' hw' => ?y14)) hS0 ?_
  case y14 => first | (go_simp; rfl) | (go_simp; done) | rfl
  simp only [Act.put, List.setIfInBounds_toArray, List.set_cons_zero, List.set_cons_succ]
  refine wpAnyH_do (i := 14) (by kernel_rfl) rfl rfl (fun K hK => ?_)
  refine wp_newV (some 8) rfl 88 rfl #[.int .i64 0, .int .i64 0, .int .i64 0, .slice none 0 0] 4 (by kernel_rfl) ?_
  intro wn xn bi sn
  have hS14 : Below V5.heap.size V5 wn := hS0.trans (bi.mono hS0.size)
  refine hK _ _ (hS14) ?_
  clear hK K
  try simp only [Act.put, List.setIfInBounds_toArray, List.set_cons_zero, List.set_cons_succ]
  refine wpAnyH_do (i := 15) (by kernel_rfl) rfl rfl (fun K hK => ?_)
  refine wp_putV rfl 88 (.tmp 8) (.tmp 41) rfl _ #[.int .i64 2, .int .i64 (gn : Int), .int .i64 ((n : Int) + 1), .slice ba m bc] rfl rfl 88 _ xn (by kernel_rfl) rfl (by kernel_rfl) ?_
  intro V6 x6 c6 s6
  have hS15 : Below V5.heap.size V5 V6 := hS14.trans (c6.below (B := V5.heap.size) (fun k e => by rw [e]; exact hd0.size) hS14.size)
  refine hK _ _ (hS15) ?_
  clear hK K
  try simp only [Act.put, List.setIfInBounds_toArray, List.set_cons_zero, List.set_cons_succ]
  refine wpAnyH_done (by kernel_rfl) ?_ _
  refine NoPanic.normal ?_
  obtain ⟨p, hp⟩ : ∃ p, wd.heap.size = p := ⟨_, rfl⟩
  rw [hp] at x6 ⊢
  have hpq : q < p ∧ w.heap.size ≤ p := by have h1 := (Array.getElem?_eq_some_iff.1 HXV5.out).1; have h2 := hd0.size; have h3 := HBV5.out.size; omega
  have HP := Lib.hid (show q < p ∧ g < p ∧ (∀ k, F k → k < p) from ⟨hpq.1, by have := HGL.out; omega, fun k hk => by have := HST.out.fl k hk; omega⟩)
  have hb := hS15
  have HX6 := Lib.hid x6
  have HXV6 := Lib.hid ((hb.block _ (Array.getElem?_eq_some_iff.1 HXV5.out).1).trans HXV5.out)
  have HBV6 := Lib.hid (HBV5.out.trans (hb.mono HBV5.out.size))
  have HGV6 := Lib.hid (HGV5.out.below hb)
  have HEV6 := Lib.hid (HEV5.out.below hb)
  have HDV6 := Lib.hid (HDV5.out.below hb)
  have HVV6 := Lib.hid (HVV5.out.below hb)
  clear hp hpq hb x6 c6 s6 hS15 hS14 xn bi sn hS0 hd0 HCL
  go_wp2_with fail
  have HNC := Lib.hid (show ∀ w', Chg (fun k => F k ∨ k = q) V6 w' → (w'.cell? ⟨g, 0, none⟩ = some (.pointer (some ⟨b, 0, none⟩)) ∧ w'.cell? ⟨g, 1, none⟩ = some (.int .i64 (ca : Int)) ∧ w'.cell? ⟨g, 2, none⟩ = some (.int .i64 (cc : Int)) ∧ w'.cell? ⟨g, 3, none⟩ = some (.int .i64 (ar : Int)) ∧ w'.cell? ⟨g, 7, none⟩ = some (.int .i64 (us : Int))) ∧ w'.cell? ⟨p, 0, none⟩ = some (.int .i64 2) ∧ w'.cell? ⟨p, 1, none⟩ = some (.int .i64 (gn : Int)) ∧ w'.cell? ⟨p, 2, none⟩ = some (.int .i64 ((n : Int) + 1)) ∧ w'.cell? ⟨p, 3, none⟩ = some (.slice ba m bc) from fun w' hw' => by
    obtain ⟨h1, h2, h3, h4, _, _, h7⟩ := HGJ.out w' (HGV6.out.chg hw' (fun h => h.elim HFG.out (fun e => by have := HGL.out; omega)))
    have h8 := (hw'.block p (Array.getElem?_eq_some_iff.1 HX6.out).1 (fun h => by
      have h9 := HP.out
      rcases h with h | h
      · have := h9.2.2 p h; omega
      · omega)).trans HX6.out
    refine ⟨⟨h1, h2, h3, h4, h7⟩, ?_, ?_, ?_, ?_⟩ <;> rw [cell_of_row _ _ _ _ _ _ h8] <;> rfl)
  refine wp_region_noPanic ?_
  refine wp_region_H (Chg (fun k => F k ∨ k = q) V6) (by kernel_rfl) ?_
  have hS0 : (Chg (fun k => F k ∨ k = q) V6) V6.drew := Chg.of_below ((Below.refl _ _).drew)
  obtain ⟨wd, hwd⟩ : ∃ wd, V6.drew = wd := ⟨_, rfl⟩
  rw [hwd] at hS0 ⊢
  have hd0 : Below V6.heap.size V6 wd := hwd ▸ (Below.refl _ _).drew
  clear hwd
  refine wpAnyH_takeI (i := 0) (v := ?v15) rfl (by kernel_rfl) (by kernel_rfl) (by kernel_rfl) (fun _ _ _ h => h) (yieldsIf_run rfl (fun w' hw' => ?y15)) hS0 ?_
  case y15 => first | (go_simp; rfl) | (go_simp; done) | rfl
  simp only [Act.put, List.setIfInBounds_toArray, List.set_cons_zero, List.set_cons_succ]
  refine wpAnyH_takeI (i := 1) (v := ?v16) rfl (by kernel_rfl) (by kernel_rfl) (by kernel_rfl) (fun _ _ _ h => h) (yieldsIf_run rfl (fun w' hw' => ?y16)) hS0 ?_
  case y16 => first | (go_simp; rfl) | (go_simp; done) | rfl
  simp only [Act.put, List.setIfInBounds_toArray, List.set_cons_zero, List.set_cons_succ]
  refine wpAnyH_takeI (i := 2) (v := ?v17) rfl (by kernel_rfl) (by kernel_rfl) (by kernel_rfl) (fun _ _ _ h => h) (yieldsIf_run rfl (fun w' hw' => ?y17)) hS0 ?_
  case y17 => first | (go_simp; rfl) | (go_simp; done) | rfl
  simp only [Act.put, List.setIfInBounds_toArray, List.set_cons_zero, List.set_cons_succ]
  refine wpAnyH_takeI (i := 3) (v := ?v18) rfl (by kernel_rfl) (by kernel_rfl) (by kernel_rfl) (fun _ _ _ h => h) (yieldsIf_run rfl (fun w' hw' => ?y18)) hS0 ?_
  case y18 => (obtain ⟨⟨h1, h2, h3, h4, h5⟩, h6, h7, h8, h9⟩ := HNC.out w' hw'; clear hw'; first | (go_simp; rfl) | (go_simp; done))
  simp only [Act.put, List.setIfInBounds_toArray, List.set_cons_zero, List.set_cons_succ]
  refine wpAnyH_takeI (i := 4) (v := ?v19) rfl (by kernel_rfl) (by kernel_rfl) (by kernel_rfl) (fun _ _ _ h => h) (yieldsIf_run rfl (fun w' hw' => ?y19)) hS0 ?_
  case y19 => first | (go_simp; rfl) | (go_simp; done) | rfl
  simp only [Act.put, List.setIfInBounds_toArray, List.set_cons_zero, List.set_cons_succ]
  refine wpAnyH_takeI (i := 5) (v := ?v20) rfl (by kernel_rfl) (by kernel_rfl) (by kernel_rfl) (fun _ _ _ h => h) (yieldsIf_run rfl (fun w' hw' => ?y20)) hS0 ?_
  case y20 => first | (go_simp; rfl) | (go_simp; done) | rfl
  simp only [Act.put, List.setIfInBounds_toArray, List.set_cons_zero, List.set_cons_succ]
  refine wpAnyH_takeI (i := 6) (v := ?v21) rfl (by kernel_rfl) (by kernel_rfl) (by kernel_rfl) (fun _ _ _ h => h) (yieldsIf_run rfl (fun w' hw' => ?y21)) hS0 ?_
  case y21 => first | (go_simp; rfl) | (go_simp; done) | rfl
  simp only [Act.put, List.setIfInBounds_toArray, List.set_cons_zero, List.set_cons_succ]
  refine wpAnyH_takeI (i := 7) (v := ?v22) rfl (by kernel_rfl) (by kernel_rfl) (by kernel_rfl) (fun _ _ _ h => h) (yieldsIf_run rfl (fun w' hw' => ?y22)) hS0 ?_
  case y22 => (obtain ⟨⟨h1, h2, h3, h4, h5⟩, h6, h7, h8, h9⟩ := HNC.out w' hw'; clear hw'; first | (go_simp; rfl) | (go_simp; done))
  simp only [Act.put, List.setIfInBounds_toArray, List.set_cons_zero, List.set_cons_succ]
  refine wpAnyH_takeI (i := 8) (v := ?v23) rfl (by kernel_rfl) (by kernel_rfl) (by kernel_rfl) (fun _ _ _ h => h) (yieldsIf_run rfl (fun w' hw' => ?y23)) hS0 ?_
  case y23 => first | (go_simp; rfl) | (go_simp; done) | rfl
  simp only [Act.put, List.setIfInBounds_toArray, List.set_cons_zero, List.set_cons_succ]
  refine wpAnyH_takeI (i := 9) (v := ?v24) rfl (by kernel_rfl) (by kernel_rfl) (by kernel_rfl) (fun _ _ _ h => h) (yieldsIf_run rfl (fun w' hw' => ?y24)) hS0 ?_
  case y24 => first | (go_simp; rfl) | (go_simp; done) | rfl
  simp only [Act.put, List.setIfInBounds_toArray, List.set_cons_zero, List.set_cons_succ]
  refine wpAnyH_takeI (i := 10) (v := ?v25) rfl (by kernel_rfl) (by kernel_rfl) (by kernel_rfl) (fun _ _ _ h => h) (yieldsIf_run rfl (fun w' hw' => ?y25)) hS0 ?_
  case y25 => first | (go_simp; rfl) | (go_simp; done) | rfl
  simp only [Act.put, List.setIfInBounds_toArray, List.set_cons_zero, List.set_cons_succ]
  refine wpAnyH_takeI (i := 11) (v := ?v26) rfl (by kernel_rfl) (by kernel_rfl) (by kernel_rfl) (fun _ _ _ h => h) (yieldsIf_run rfl (fun w' hw' => ?y26)) hS0 ?_
  case y26 => (obtain ⟨⟨h1, h2, h3, h4, h5⟩, h6, h7, h8, h9⟩ := HNC.out w' hw'; clear hw'; first | (go_simp; rfl) | (go_simp; done))
  simp only [Act.put, List.setIfInBounds_toArray, List.set_cons_zero, List.set_cons_succ]
  refine wpAnyH_takeI (i := 14) (v := ?v27) rfl (by kernel_rfl) (by kernel_rfl) (by kernel_rfl) (fun _ _ _ h => h) (yieldsIf_run rfl (fun w' hw' => ?y27)) hS0 ?_
  case y27 => first | (go_simp; rfl) | (go_simp; done) | rfl
  simp only [Act.put, List.setIfInBounds_toArray, List.set_cons_zero, List.set_cons_succ]
  refine wpAnyH_takeI (i := 15) (v := ?v28) rfl (by kernel_rfl) (by kernel_rfl) (by kernel_rfl) (fun _ _ _ h => h) (yieldsIf_run rfl (fun w' hw' => ?y28)) hS0 ?_
  case y28 => first | (go_simp; rfl) | (go_simp; done) | rfl
  simp only [Act.put, List.setIfInBounds_toArray, List.set_cons_zero, List.set_cons_succ]
  refine wpAnyH_takeI (i := 16) (v := ?v29) rfl (by kernel_rfl) (by kernel_rfl) (by kernel_rfl) (fun _ _ _ h => h) (yieldsIf_run rfl (fun w' hw' => ?y29)) hS0 ?_
  case y29 => first | (go_simp; rfl) | (go_simp; done) | rfl
  simp only [Act.put, List.setIfInBounds_toArray, List.set_cons_zero, List.set_cons_succ]
  refine wpAnyH_takeI (i := 17) (v := ?v30) rfl (by kernel_rfl) (by kernel_rfl) (by kernel_rfl) (fun _ _ _ h => h) (yieldsIf_run rfl (fun w' hw' => ?y30)) hS0 ?_
  case y30 => first | (go_simp; rfl) | (go_simp; done) | rfl
  simp only [Act.put, List.setIfInBounds_toArray, List.set_cons_zero, List.set_cons_succ]
  refine wpAnyH_takeI (i := 18) (v := ?v31) rfl (by kernel_rfl) (by kernel_rfl) (by kernel_rfl) (fun _ _ _ h => h) (yieldsIf_run rfl (fun w' hw' => ?y31)) hS0 ?_
  case y31 => (obtain ⟨⟨h1, h2, h3, h4, h5⟩, h6, h7, h8, h9⟩ := HNC.out w' hw'; clear hw'; first | (go_simp; rfl) | (go_simp; done))
  simp only [Act.put, List.setIfInBounds_toArray, List.set_cons_zero, List.set_cons_succ]
  refine wpAnyH_takeI (i := 20) (v := ?v32) rfl (by kernel_rfl) (by kernel_rfl) (by kernel_rfl) (fun _ _ _ h => h) (yieldsIf_run rfl (fun w' hw' => ?y32)) hS0 ?_
  case y32 => (obtain ⟨⟨h1, h2, h3, h4, h5⟩, h6, h7, h8, h9⟩ := HNC.out w' hw'; clear hw'; first | (go_simp; rfl) | (go_simp; done))
  simp only [Act.put, List.setIfInBounds_toArray, List.set_cons_zero, List.set_cons_succ]
  refine wpAnyH_do (i := 12) (by kernel_rfl) rfl rfl (fun K hK => ?_)
  go_simp
  go_at_call 42
  refine (HSZ.out _).mono ?_
  rintro e V7 ⟨rfl, hb9⟩
  have hbV7 := hd0.trans (hb9.mono hd0.size)
  have hsV7 := Chg.of_below (F := fun k => F k ∨ k = q) hbV7
  clear hb9
  refine hK _ _ (hsV7) ?_
  clear hK K
  try simp only [Act.put, List.setIfInBounds_toArray, List.set_cons_zero, List.set_cons_succ]
  refine wpAnyH_takeI (i := 13) (v := .int .i64 (wh : Int)) rfl (by kernel_rfl) (by kernel_rfl) (by kernel_rfl) (fun _ _ _ h => h) (yieldsIf_run rfl (fun w' hw' => ?y33)) hsV7 ?_
  case y33 => first | (go_simp; rfl) | (go_simp; done) | rfl
  simp only [Act.put, List.setIfInBounds_toArray, List.set_cons_zero, List.set_cons_succ]
  refine wpAnyH_takeI (i := 19) (v := .int .i64 ((wh : Int) + (us : Int))) rfl (by kernel_rfl) (by kernel_rfl) (by kernel_rfl) (fun _ _ _ h => h) (yieldsIf_run rfl (fun w' hw' => ?y34)) hsV7 ?_
  case y34 => (have hwr2 : IntKind.i64.wrap ((wh : Int) + (us : Int)) = (wh : Int) + (us : Int) := IntWalk.i64_in _ (by omega); clear hw'; first | (go_simp; rfl) | (go_simp; done))
  simp only [Act.put, List.setIfInBounds_toArray, List.set_cons_zero, List.set_cons_succ]
  refine wpAnyH_do (i := 21) (by kernel_rfl) rfl rfl (fun K hK => ?_)
  go_simp
  go_at_call 44
  refine (HPUT.out V7 (HDV6.out.below hbV7) (HKV.out V7 (HBV6.out.trans (hbV7.mono HBV6.out.size))) (HVV6.out.below hbV7)).mono ?_
  rintro e V8 ⟨rfl, hd8, hc8⟩
  unfold putV
  obtain ⟨nv, hnv⟩ : ∃ nv : Int, (if y.2 = 0 then (nd : Int) else 0) = nv := ⟨_, rfl⟩
  rw [hnv]
  have hsV8 := hsV7.trans (hc8.mono (G := fun k => F k ∨ k = q) (fun k e => .inl e)) (fun k e => .inl e)
  refine hK _ _ (hsV8) ?_
  clear hK K
  try simp only [Act.put, List.setIfInBounds_toArray, List.set_cons_zero, List.set_cons_succ]
  refine wpAnyH_takeI (i := 22) (v := ?v35) rfl (by kernel_rfl) (by kernel_rfl) (by kernel_rfl) (fun _ _ _ h => h) (yieldsIf_run rfl (fun w' hw' => ?y35)) hsV8 ?_
  case y35 => first | (go_simp; rfl) | (go_simp; done) | rfl
  simp only [Act.put, List.setIfInBounds_toArray, List.set_cons_zero, List.set_cons_succ]
  refine wpAnyH_takeI (i := 23) (v := ?v36) rfl (by kernel_rfl) (by kernel_rfl) (by kernel_rfl) (fun _ _ _ h => h) (yieldsIf_run rfl (fun w' hw' => ?y36)) hsV8 ?_
  case y36 => first | (go_simp; rfl) | (go_simp; done) | rfl
  simp only [Act.put, List.setIfInBounds_toArray, List.set_cons_zero, List.set_cons_succ]
  refine wpAnyH_takeI (i := 24) (v := ?v37) rfl (by kernel_rfl) (by kernel_rfl) (by kernel_rfl) (fun _ _ _ h => h) (yieldsIf_run rfl (fun w' hw' => ?y37)) hsV8 ?_
  case y37 => first | (go_simp; rfl) | (go_simp; done) | rfl
  simp only [Act.put, List.setIfInBounds_toArray, List.set_cons_zero, List.set_cons_succ]
  refine wpAnyH_takeI (i := 25) (v := ?v38) rfl (by kernel_rfl) (by kernel_rfl) (by kernel_rfl) (fun _ _ _ h => h) (yieldsIf_run rfl (fun w' hw' => ?y38)) hsV8 ?_
  case y38 => first | (go_simp; rfl) | (go_simp; done) | rfl
  simp only [Act.put, List.setIfInBounds_toArray, List.set_cons_zero, List.set_cons_succ]
  refine wpAnyH_do (i := 26) (by kernel_rfl) rfl rfl (fun K hK => ?_)
  have hxq := (hc8.block q (by have h1 := (Array.getElem?_eq_some_iff.1 HXV6.out).1; have h2 := hbV7.size; omega) (fun h1 => by have := HST.out.fl q h1; have := HQ.out; omega)).trans ((hbV7.block q (Array.getElem?_eq_some_iff.1 HXV6.out).1).trans HXV6.out)
  refine wp_putC rfl 25 (.tmp 5) (.tmp 66) rfl q 0 (.int .i64 y.2) rfl rfl hxq (by show 0 < 1; decide) rfl (by kernel_rfl) ?_
  intro V9 x9 c9 s9
  have hsV9 : Chg (fun k => F k ∨ k = q) V6 V9 := hsV8.trans c9 (fun k e => .inl (.inr e))
  refine hK _ _ (hsV9) ?_
  clear hK K
  try simp only [Act.put, List.setIfInBounds_toArray, List.set_cons_zero, List.set_cons_succ]
  refine wpAnyH_done (by kernel_rfl) ?_ _
  refine NoPanic.normal ?_
  have HSV := Lib.hid (show w.heap.size ≤ V6.heap.size ∧ V6.heap.size ≤ V7.heap.size ∧ V7.heap.size ≤ V8.heap.size ∧ V8.heap.size ≤ V9.heap.size ∧ q < V6.heap.size ∧ w.heap.size = q ∧ g < q from ⟨HBV6.out.size, hbV7.size, hc8.size, c9.size, (Array.getElem?_eq_some_iff.1 HXV6.out).1, HQ.out, HGL.out⟩)
  have HDX := Lib.hid (hd8.bound.chg c9 (fun j h1 h2 => by
    subst h2
    rcases h1.1 with h3 | h3
    · have := HST.out.fl j h3; have := HSV.out; omega
    · have := HSV.out; omega))
  have hx9 : V9.heap[q]? = some (.cells #[.int .i64 y.2] 25 (0, 0)) := x9
  have HXV9 := Lib.hid hx9
  have hcq := hsV9
  have HGV9 := Lib.hid (HGV6.out.chg hcq (fun h => h.elim HFG.out (fun e => by have := HSV.out; omega)))
  have HEV9 := Lib.hid (HEV6.out.chg hcq (fun k _ h1 h2 => h2.elim (HST.out.fG k h1) (fun e => by have := HST.out.gl k h1; have := HSV.out; omega)))
  have HVV9 := Lib.hid (HVV6.out.chg hcq (fun k _ h1 h2 => h2.elim (HDF.out k h1).1 (fun e => by have := HSV.out; have := h1.2; omega)))
  have HCV9 := Lib.hid (show Chg (fun k => F k ∨ G k ∨ k = g) w V9 from (Chg.of_below (F := fun k => F k ∨ G k ∨ k = g) HBV6.out).trans hcq (fun k h2 => h2.elim (fun h3 => .inl (.inl h3)) (fun e => .inr (by have := HSV.out; omega))))
  have kq9 : V9.cell? ⟨q, 0, none⟩ = some (.int .i64 y.2) := by rw [cell_of_row _ _ _ _ _ _ hx9]; rfl
  have HNV := Lib.hid hnv
  obtain ⟨S1, e1⟩ := y
  simp only at HDX HXV9 HZS H28 HNV kq9 ⊢
  clear hx9 hcq hd8 hc8 x9 c9 s9 hsV8 hsV7 hbV7 hd0 hnv hsV9 hS0
  by_cases he : e1 = 0
  case neg =>
    have hdt : (e1 != 0) = true := by simpa using he
    obtain rfl : e1 = 28 := H28.out he
    have HZE := Lib.hid (show z = (S1, { J with failed := 28 }, 28, 0) by rw [HZS.out, if_neg he])
    clear he
    go_wp2_with fail
    have HQC := Lib.hid (show ∀ w', Below V9.heap.size V9 w' → w'.cell? ⟨q, 0, none⟩ = some (.int .i64 28) from fun w' hw' => by rw [cell_of_row _ _ _ _ _ _ ((hw'.block q (Array.getElem?_eq_some_iff.1 HXV9.out).1).trans HXV9.out)]; rfl)
    refine wp_region_noPanic ?_
    refine wp_region_G [2] (Below V9.heap.size V9) (by kernel_rfl) ?_
    have hS0 : (Below V9.heap.size V9) V9.drew := ((Below.refl _ _).drew)
    obtain ⟨wd, hwd⟩ : ∃ wd, V9.drew = wd := ⟨_, rfl⟩
    rw [hwd] at hS0 ⊢
    have hd0 : Below V9.heap.size V9 wd := hwd ▸ (Below.refl _ _).drew
    clear hwd
    refine wpAnyG_takeZ (i := 0) (v := ?v39) rfl (by kernel_rfl) (by kernel_rfl) (by kernel_rfl) (by kernel_rfl) (fun _ _ _ h => h) (yieldsIf_run rfl (fun w' hw' => ?y39)) hS0 ?_
    case y39 => (have h1 := HQC.out w' hw'; clear hw'; first | (go_simp; rfl) | (go_simp; done))
    simp only [Act.put, List.setIfInBounds_toArray, List.set_cons_zero, List.set_cons_succ]
    refine wpAnyG_pure (i := 1) (v := ?v40) rfl (by kernel_rfl) (by kernel_rfl) (by kernel_rfl) (by kernel_rfl) (fun _ _ _ h => h) (yieldsIf_run rfl (fun w' hw' => ?y40)) (fun _ => hS0) ?_
    case y40 => first | (go_simp; rfl) | (go_simp; done) | rfl
    simp only [Act.put, List.setIfInBounds_toArray, List.set_cons_zero, List.set_cons_succ]
    refine wpAnyG_fin (i := 2) (by kernel_rfl) rfl rfl (by kernel_rfl) (fun K hK => ?_)
    refine wp_putC rfl 25 (.tmp 5) (.tmp 69) rfl q 0 (.int .i64 28) rfl rfl ((hd0.block q (Array.getElem?_eq_some_iff.1 HXV9.out).1).trans HXV9.out) (by show 0 < 1; decide) rfl (by kernel_rfl) ?_
    intro V10 x10 c10 s10
    have hcc10 := (Chg.of_below (F := fun k => k = q) hd0).trans c10 (fun k e => .inl e)
    refine hK _ _ ?_
    clear hK K
    try simp only [Act.put, List.setIfInBounds_toArray, List.set_cons_zero, List.set_cons_succ]
    refine wpAnyG_done (by kernel_rfl) ?_ _
    refine NoPanic.normal ?_
    have HXA := Lib.hid (show V10.heap[q]? = some (.cells #[.int .i64 28] 25 (0, 0)) from x10)
    have HGA := Lib.hid (HGV9.out.chg hcc10 (fun e => by have := HSV.out; omega))
    have HEA := Lib.hid (HEV9.out.chg hcc10 (fun k _ h1 e => by have := HST.out.gl k h1; have := HSV.out; omega))
    have HDA := Lib.hid (HDX.out.chg hcc10 (fun k h1 e => by
      subst e
      rcases h1.1 with h3 | h3
      · have := HST.out.fl k h3; have := HSV.out; omega
      · have := HSV.out; omega))
    have HCA2 := Lib.hid (HCV9.out.trans hcc10 (fun k e => .inr (by have := HSV.out; omega)))
    have HSA := Lib.hid (show V9.heap.size ≤ V10.heap.size from hcc10.size)
    clear x10 c10 s10 hcc10 hd0 hS0 HQC
    go_wp2_with fail
    refine leaves_cons (f := 43) (args := #[.pointer (some ⟨g, 0, none⟩), .pointer (some ⟨q, 0, none⟩)]) (by simp) (by simp [go_sem]) ?_
    refine (Jwatch_d .returning HGA.out HXA.out).mono ?_
    rintro e u' W7 ⟨rfl, rfl, hg7, hc7⟩
    have k7 : W7.cell? ⟨q, 0, none⟩ = some (.int .i64 28) := by rw [cell_of_row _ _ _ _ _ _ ((hc7.block q (Array.getElem?_eq_some_iff.1 HXA.out).1 (by have := HSV.out; omega)).trans HXA.out)]; rfl
    exact ⟨.tuple #[.int .i64 0, .int .i64 28], by simp [results, Tryd.results18, go_sem, k7], by
      rw [HZE.out]
      refine ⟨rfl, ⟨⟨_, G, ⟨HDA.out.chg hc7 (fun j h1 h2 => ?_), ⟨_, hg7, ?_⟩, ?_, HST.out.gG, ?_, ?_, ?_⟩, ?_, fun j h1 => .inl h1⟩, HCA2.out.trans hc7 (fun j e => .inl (.inr (.inr e)))⟩⟩
      · subst h2
        rcases h1.1 with h3 | h3
        · exact HFG.out h3
        · have := HSV.out; omega
      · exact HEA.out.chg hc7 (fun j _ h1 h2 => HST.out.gG (h2 ▸ h1))
      · rintro ⟨h1 | h1, _⟩
        · exact HFG.out h1
        · have := HSV.out; omega
      · rintro j h1 ⟨h2 | h2, _⟩
        · exact HST.out.fG j h1 h2
        · have := HST.out.gl j h1; have := HSV.out; omega
      · intro j h1; have := hc7.size; have := HSV.out; have := HSA.out; have := h1.2; omega
      · intro j h1; have := HST.out.gl j h1; have := hc7.size; have := HSV.out; have := HSA.out; omega
      · rintro j ⟨h1 | h1, _⟩
        · exact .inl h1
        · exact .inr (by have := HSV.out; omega)⟩
  subst he
  have hne0 : nv = (nd : Int) := by rw [← HNV.out, if_pos rfl]
  subst hne0
  have HZE := Lib.hid (show z = (S1, { J with ents := J.ents ++ [l], used := J.used + nd }, 0, J.next) by rw [HZS.out, if_pos rfl])
  clear HZS H28 HNV
  go_wp2_with fail
  refine (JNext_any HGV9.out (by omega)).mono ?_
  rintro e V10 ⟨rfl, hb⟩
  have HXA := Lib.hid ((hb.block _ (Array.getElem?_eq_some_iff.1 HXV9.out).1).trans HXV9.out)
  have HGA := Lib.hid (HGV9.out.below hb)
  have HEA := Lib.hid (HEV9.out.below hb)
  have HVA := Lib.hid (HVV9.out.below hb)
  have HDA := Lib.hid (HDX.out.below hb)
  have HCA2 := Lib.hid (HCV9.out.trans (Chg.of_below (F := fun k => F k ∨ G k ∨ k = g) hb) (fun k e => .inl e))
  have HSA := Lib.hid (show V9.heap.size ≤ V10.heap.size from hb.size)
  clear hb kq9
  have HOW := Lib.hid (show ∀ k, (Value.slice va n vc).ownBlock = some k → G k ∧ k < V10.heap.size from fun k e => ents_own HEA.out k e)
  have HQC := Lib.hid (show ∀ w', Chg (fun k => (Value.slice va n vc).ownBlock = some k) V10 w' → w'.cell? ⟨g, 6, none⟩ = some (.slice va n vc) from fun w' hw' => (HGA.out.chg hw' (fun e => HST.out.gG (HOW.out g e).1)).cell rfl)
  have HLL := Lib.hid (show l.length ≤ 1000000000 by rw [HM.out]; exact hl)
  go_wp2_with fail
  refine wp_region_noPanic ?_
  refine wp_region_G [13] (Chg (fun k => (Value.slice va n vc).ownBlock = some k) V10) (by kernel_rfl) ?_
  have hS0 : (Chg (fun k => (Value.slice va n vc).ownBlock = some k) V10) V10.drew := Chg.of_below ((Below.refl _ _).drew)
  obtain ⟨wd, hwd⟩ : ∃ wd, V10.drew = wd := ⟨_, rfl⟩
  rw [hwd] at hS0 ⊢
  have hd0 : Below V10.heap.size V10 wd := hwd ▸ (Below.refl _ _).drew
  clear hwd
  refine wpAnyG_pure (i := 0) (v := ?v41) rfl (by kernel_rfl) (by kernel_rfl) (by kernel_rfl) (by kernel_rfl) (fun _ _ _ h => h) (yieldsIf_run rfl (fun w' hw' => ?y41)) (fun _ => hS0) ?_
  case y41 => first | (go_simp; rfl) | (go_simp; done) | rfl
  simp only [Act.put, List.setIfInBounds_toArray, List.set_cons_zero, List.set_cons_succ]
  refine wpAnyG_pure (i := 1) (v := ?v42) rfl (by kernel_rfl) (by kernel_rfl) (by kernel_rfl) (by kernel_rfl) (fun _ _ _ h => h) (yieldsIf_run rfl (fun w' hw' => ?y42)) (fun _ => hS0) ?_
  case y42 => first | (go_simp; rfl) | (go_simp; done) | rfl
  simp only [Act.put, List.setIfInBounds_toArray, List.set_cons_zero, List.set_cons_succ]
  refine wpAnyG_pure (i := 2) (v := ?v43) rfl (by kernel_rfl) (by kernel_rfl) (by kernel_rfl) (by kernel_rfl) (fun _ _ _ h => h) (yieldsIf_run rfl (fun w' hw' => ?y43)) (fun _ => hS0) ?_
  case y43 => first | (go_simp; rfl) | (go_simp; done) | rfl
  simp only [Act.put, List.setIfInBounds_toArray, List.set_cons_zero, List.set_cons_succ]
  refine wpAnyG_pure (i := 3) (v := ?v44) rfl (by kernel_rfl) (by kernel_rfl) (by kernel_rfl) (by kernel_rfl) (fun _ _ _ h => h) (yieldsIf_run rfl (fun w' hw' => ?y44)) (fun _ => hS0) ?_
  case y44 => first | (go_simp; rfl) | (go_simp; done) | rfl
  simp only [Act.put, List.setIfInBounds_toArray, List.set_cons_zero, List.set_cons_succ]
  refine wpAnyG_pure (i := 4) (v := ?v45) rfl (by kernel_rfl) (by kernel_rfl) (by kernel_rfl) (by kernel_rfl) (fun _ _ _ h => h) (yieldsIf_run rfl (fun w' hw' => ?y45)) (fun _ => hS0) ?_
  case y45 => first | (go_simp; rfl) | (go_simp; done) | rfl
  simp only [Act.put, List.setIfInBounds_toArray, List.set_cons_zero, List.set_cons_succ]
  refine wpAnyG_takeZ (i := 5) (v := ?v46) rfl (by kernel_rfl) (by kernel_rfl) (by kernel_rfl) (by kernel_rfl) (fun _ _ _ h => h) (yieldsIf_run rfl (fun w' hw' => ?y46)) hS0 ?_
  case y46 => (have h1 := HQC.out w' hw'; clear hw'; first | (go_simp; rfl) | (go_simp; done))
  simp only [Act.put, List.setIfInBounds_toArray, List.set_cons_zero, List.set_cons_succ]
  refine wpAnyG_pure (i := 6) (v := ?v47) rfl (by kernel_rfl) (by kernel_rfl) (by kernel_rfl) (by kernel_rfl) (fun _ _ _ h => h) (yieldsIf_run rfl (fun w' hw' => ?y47)) (fun _ => hS0) ?_
  case y47 => first | (go_simp; rfl) | (go_simp; done) | rfl
  simp only [Act.put, List.setIfInBounds_toArray, List.set_cons_zero, List.set_cons_succ]
  refine wpAnyG_do (i := 7) (by kernel_rfl) rfl rfl (fun K hK => ?_)
  go_simp
  go_at_call 40
  refine (JClone_any (HVA.out.below hd0) HLL.out).mono ?_
  rintro e V11 ⟨u9, rfl, ho, hb11⟩
  rw [HM.out] at ho
  obtain ⟨ua9, uc9, rfl⟩ := ownsRow_form ho
  have hb011 := hd0.trans (hb11.mono hd0.size)
  have hs11 := Chg.of_below (F := fun k => (Value.slice va n vc).ownBlock = some k) hb011
  refine hK _ _ hs11 ?_
  clear hK K
  try simp only [Act.put, List.setIfInBounds_toArray, List.set_cons_zero, List.set_cons_succ]
  refine wpAnyG_do (i := 8) (by kernel_rfl) rfl rfl (fun K hK => ?_)
  go_simp
  have hba8 : Below V11.heap.size V11 (V11.alloc (.cells #[.slice ua9 m uc9] 36)) := (Below.refl _ _).alloc (Nat.le_refl _) _
  have hs12 := hs11.trans (Chg.of_below (F := fun k => (Value.slice va n vc).ownBlock = some k) hba8) (fun k e => .inl e)
  refine hK _ _ hs12 ?_
  clear hK K
  try simp only [Act.put, List.setIfInBounds_toArray, List.set_cons_zero, List.set_cons_succ]
  refine wpAnyG_do (i := 9) (by kernel_rfl) rfl rfl (fun K hK => ?_)
  refine wp_appEntB (.tmp 77) (.tmp 80) rfl rfl ((HEA.out.below hb011).weak (G := fun k => G k ∨ V10.heap.size ≤ k) (fun k _ h1 => .inl h1)) (l := l) ((own_bytesN (l := l) ho).weak (fun k h1 h2 => ⟨.inr (Nat.le_trans hd0.size h2), fun e => by have h3 := (HOW.out k e).2; have h4 := hd0.size; omega⟩)) rfl HN.out (by omega) ?_
  intro a5 c5 V13 he13 hc13 ho13
  have hs13 := hs11.trans hc13 (fun k e => .inl e)
  refine hK _ _ hs13 ?_
  clear hK K
  try simp only [Act.put, List.setIfInBounds_toArray, List.set_cons_zero, List.set_cons_succ]
  refine wpAnyG_pure (i := 10) (v := ?v48) rfl (by kernel_rfl) (by kernel_rfl) (by kernel_rfl) (by kernel_rfl) (fun _ _ _ h => h) (yieldsIf_run rfl (fun w' hw' => ?y48)) (fun _ => hs13) ?_
  case y48 => first | (go_simp; rfl) | (go_simp; done) | rfl
  simp only [Act.put, List.setIfInBounds_toArray, List.set_cons_zero, List.set_cons_succ]
  refine wpAnyG_pure (i := 11) (v := ?v49) rfl (by kernel_rfl) (by kernel_rfl) (by kernel_rfl) (by kernel_rfl) (fun _ _ _ h => h) (yieldsIf_run rfl (fun w' hw' => ?y49)) (fun _ => hs13) ?_
  case y49 => first | (go_simp; rfl) | (go_simp; done) | rfl
  simp only [Act.put, List.setIfInBounds_toArray, List.set_cons_zero, List.set_cons_succ]
  refine wpAnyG_pure (i := 12) (v := ?v50) rfl (by kernel_rfl) (by kernel_rfl) (by kernel_rfl) (by kernel_rfl) (fun _ _ _ h => h) (yieldsIf_run rfl (fun w' hw' => ?y50)) (fun _ => hs13) ?_
  case y50 => first | (go_simp; rfl) | (go_simp; done) | rfl
  simp only [Act.put, List.setIfInBounds_toArray, List.set_cons_zero, List.set_cons_succ]
  refine wpAnyG_fin (i := 13) (by kernel_rfl) rfl rfl (by kernel_rfl) (fun K hK => ?_)
  refine wp_putC rfl 56 (.tmp 84) (.tmp 81) rfl g 6 (.slice a5 (n + 1) c5) rfl rfl (HGA.out.chg hs13 (fun e => HST.out.gG (HOW.out g e).1)) (by show 6 < 10; decide) rfl (by kernel_rfl) ?_
  intro V14 x14 c14 s14
  refine hK _ _ ?_
  clear hK K
  try simp only [Act.put, List.setIfInBounds_toArray, List.set_cons_zero, List.set_cons_succ]
  refine wpAnyG_done (by kernel_rfl) ?_ _
  refine NoPanic.normal ?_
  have HGB := Lib.hid (show JBlk V14 g b R { J with ents := J.ents ++ [l] } (.slice a5 (n + 1) c5) from x14)
  have hc14 : Chg (fun k => (Value.slice va n vc).ownBlock = some k ∨ k = g) V10 V14 := (hs13.mono (fun k e => .inl e)).trans c14 (fun k e => .inl (.inr e))
  have hsz := hb011.size
  have HEB := Lib.hid (he13.chg c14 (G := fun k => k = g) (fun k _ h1 e => by
    subst e
    rcases h1 with (h1 | h1) | h1
    · exact HST.out.gG h1
    · have := HSV.out; have := HSA.out; omega
    · have := HSV.out; have := HSA.out; omega))
  have hlt13 := c14.size
  have HLT := Lib.hid (show V13.heap.size ≤ V14.heap.size ∧ V10.heap.size ≤ V11.heap.size ∧ V10.heap.size ≤ V14.heap.size from ⟨c14.size, hsz, hc14.size⟩)
  have HEB := Lib.hid (HEB.out.weak (G := fun k => (G k ∨ V10.heap.size ≤ k) ∧ k < V14.heap.size) (fun k h1 h2 => ⟨h2.elim id (fun h3 => .inr (Nat.le_trans hsz h3)), h1⟩))
  have HXB := Lib.hid ((hc14.block q (Array.getElem?_eq_some_iff.1 HXA.out).1 (fun h => h.elim (fun e => by have h1 := (HOW.out q e).1; have := HST.out.gl q h1; have := HSV.out; omega) (fun e => by have := HSV.out; omega))).trans HXA.out)
  have HDB := Lib.hid (HDA.out.chg hc14 (fun k h1 h2 => by
    rcases h2 with h2 | h2
    · have h3 := (HOW.out k h2).1
      rcases h1.1 with h4 | h4
      · exact HST.out.fG k h3 h4
      · have := HST.out.gl k h3; have := HSV.out; omega
    · subst h2
      rcases h1.1 with h4 | h4
      · exact HFG.out h4
      · have := HSV.out; omega))
  have HCB := Lib.hid (HCA2.out.trans hc14 (fun k h1 => .inl (h1.elim (fun e => .inr (.inl (HOW.out k e).1)) (fun e => .inr (.inr e)))))
  clear x14 c14 s14 hc14 hsz hlt13 he13 hc13 ho13 hs13 hs12 hba8 hs11 hb011 hb11 ho hd0 hS0 HQC HEA HGA HXA HDA HCA2
  have ku : V14.cell? ⟨g, 7, none⟩ = some (.int .i64 (us : Int)) := by rw [← HCA.out.2]; exact HGB.out.cell rfl
  go_wp2_with (refine wpList_putC rfl rfl 3 (.tmp 94) (.tmp 91) rfl g 7 (.int .i64 ((us : Int) + (nd : Int))) rfl rfl HGB.out (by show 7 < 10; decide) rfl (by kernel_rfl) ?_; refine Stop.on ?_)
  refine Stop.go ?_
  try simp only [Act.put, List.setIfInBounds_toArray, List.set_cons_zero, List.set_cons_succ]
  intro V15 x15 c15 s15
  try simp only [Act.put, List.setIfInBounds_toArray, List.set_cons_zero, List.set_cons_succ]
  have HGC := Lib.hid (show JBlk V15 g b R { J with ents := J.ents ++ [l], used := J.used + nd } (.slice a5 (n + 1) c5) by
    unfold JBlk jcells
    simp only
    rw [HCA.out.2, Int.natCast_add]
    exact x15)
  have HXC := Lib.hid ((c15.block q (Array.getElem?_eq_some_iff.1 HXB.out).1 (by have := HSV.out; omega)).trans HXB.out)
  have HEC := Lib.hid (HEB.out.chg c15 (fun k _ h1 e => by
    subst e
    rcases h1.1 with h1 | h1
    · exact HST.out.gG h1
    · have := HSV.out; have := HSA.out; omega))
  have HDC := Lib.hid (HDB.out.chg c15 (fun k h1 e => by
    subst e
    rcases h1.1 with h4 | h4
    · exact HFG.out h4
    · have := HSV.out; omega))
  have HCC := Lib.hid (HCB.out.trans c15 (fun k e => .inl (.inr (.inr e))))
  have HSC := Lib.hid (show V14.heap.size ≤ V15.heap.size from c15.size)
  clear x15 c15 s15 HGB HXB HEB HDB HCB ku
  go_wp2_with (refine wpList_putC rfl rfl 25 (.tmp 5) (.const (.int .i64 0)) rfl q 0 (.int .i64 0) rfl rfl HXC.out (by show 0 < 1; decide) rfl (by kernel_rfl) ?_; refine Stop.on ?_)
  refine Stop.go ?_
  try simp only [Act.put, List.setIfInBounds_toArray, List.set_cons_zero, List.set_cons_succ]
  intro V16 x16 c16 s16
  try simp only [Act.put, List.setIfInBounds_toArray, List.set_cons_zero, List.set_cons_succ]
  have HXD := Lib.hid (show V16.heap[q]? = some (.cells #[.int .i64 0] 25 (0, 0)) from x16)
  have HGD := Lib.hid (HGC.out.chg c16 (by have := HSV.out; omega))
  have HED := Lib.hid (HEC.out.chg c16 (fun k _ h1 e => by
    subst e
    rcases h1.1 with h1 | h1
    · have := HST.out.gl _ h1; have := HSV.out; omega
    · have := HSV.out; have := HSA.out; omega))
  have HDD := Lib.hid (HDC.out.chg c16 (fun k h1 e => by
    subst e
    rcases h1.1 with h4 | h4
    · have := HST.out.fl _ h4; have := HSV.out; omega
    · have := HSV.out; omega))
  have HCD := Lib.hid (HCC.out.trans c16 (fun k e => .inr (by have := HSV.out; omega)))
  have HSD := Lib.hid (show V15.heap.size ≤ V16.heap.size from c16.size)
  clear x16 c16 s16 HGC HXC HEC HDC HCC
  go_wp2_with fail
  refine leaves_cons (f := 43) (args := #[.pointer (some ⟨g, 0, none⟩), .pointer (some ⟨q, 0, none⟩)]) (by simp) (by simp [go_sem]) ?_
  refine (Jwatch_d .returning HGD.out HXD.out).mono ?_
  rintro e u' W7 ⟨rfl, rfl, hg7, hc7⟩
  have k7 : W7.cell? ⟨q, 0, none⟩ = some (.int .i64 0) := by rw [cell_of_row _ _ _ _ _ _ ((hc7.block q (Array.getElem?_eq_some_iff.1 HXD.out).1 (by have := HSV.out; omega)).trans HXD.out)]; rfl
  exact ⟨.tuple #[.int .i64 ((J.first + n : Nat) : Int), .int .i64 0], by simp [results, Tryd.results18, go_sem, k7], by
    rw [HZE.out]
    refine ⟨by show _ = Ending.returned (.tuple #[.int .i64 ((J.next : Nat) : Int), .int .i64 0]); unfold JD.next; rw [HN.out], ⟨⟨_, (fun k => (G k ∨ V10.heap.size ≤ k) ∧ k < V14.heap.size), ⟨HDD.out.chg hc7 (fun j h1 h2 => ?_), ⟨_, hg7, ?_⟩, ?_, ?_, ?_, ?_, ?_⟩, ?_, ?_⟩, HCD.out.trans hc7 (fun j e => .inl (.inr (.inr e)))⟩⟩
    · subst h2
      rcases h1.1 with h3 | h3
      · exact HFG.out h3
      · have := HSV.out; omega
    · exact HED.out.chg hc7 (fun j _ h1 h2 => by
        subst h2
        rcases h1.1 with h1 | h1
        · exact HST.out.gG h1
        · have := HSV.out; have := HSA.out; omega)
    · rintro ⟨h1 | h1, _⟩
      · exact HFG.out h1
      · have := HSV.out; omega
    · rintro ⟨h1 | h1, _⟩
      · exact HST.out.gG h1
      · have := HSV.out; have := HSA.out; omega
    · rintro j ⟨h1 | h1, _⟩ ⟨h2 | h2, h3⟩
      · exact HST.out.fG j h1 h2
      · have := HST.out.gl j h1; have := HSV.out; omega
      · have := HST.out.fl j h2; have := HSV.out; have := HSA.out; omega
      · have := HSV.out; have := HSA.out; omega
    · intro j h1; have := hc7.size; have := HSV.out; have := HSA.out; have := HLT.out; have := HSC.out; have := HSD.out; have := h1.2; omega
    · intro j h1; have := hc7.size; have := HSC.out; have := HSD.out; have := h1.2; omega
    · rintro j ⟨h1 | h1, _⟩
      · exact .inl h1
      · exact .inr (by have := HSV.out; omega)
    · rintro j ⟨h1 | h1, _⟩
      · exact .inl h1
      · exact .inr (by have := HSV.out; have := HSA.out; omega)⟩
end Go.Proofs.YtplclpileejemaaDoor
