/- The spool: Decode. -/
import Derived.Test.YtnmdgjodbikndaaS33
namespace Go.Proofs.Ytnmdgjodbikndaa
open Go.RowKit
set_option linter.unusedVariables false
set_option linter.unusedSimpArgs false

theorem hide_postD {P : Program} {c : Code} {Q : Exit → Act → World → Prop} {a : Act} {w : World} (h : ∀ Q', Hid (Q' = Q) → Code.wp P c Q' a w) : Code.wp P c Q a w := h Q (Lib.hid rfl)
theorem _root_.Go.Proofs.Ytnmdgjodbikndaa.Chg.drop7 {w w' : World} {a b c e : Nat} (h : Chg (fun k => k = a ∨ k = b ∨ k = c ∨ k = e) w w') (he : w.heap.size ≤ e) : Chg (fun k => k = a ∨ k = b ∨ k = c) w w' := ⟨h.os, h.tape, h.output, h.size, fun k hk hf => h.block k hk (fun hf2 => by
  rcases hf2 with e1 | e1 | e1 | e1
  · exact hf (.inl e1)
  · exact hf (.inr (.inl e1))
  · exact hf (.inr (.inr e1))
  · omega)⟩
theorem min_int (f : Int) (w : World) : (Builtin.min_ #[3, 3] 3 #[.int .i64 65536, .int .i64 f]).run Try.prog w = .ok (.int .i64 (min 65536 f)) w := by
  by_cases hc : f < 65536
  · have h2 : min 65536 f = f := by omega
    rw [h2]
    go_simp
    try omega
  · have h2 : min 65536 f = 65536 := by omega
    rw [h2]
    go_simp
    try omega
theorem fail_e {s : SrcD} {bad : Bool} {c : Int} (hc : c ≠ 0) (h : (s.fail bad c).e = 0) : s.e = 0 ∧ s.fail bad c = s := by
  unfold SrcD.fail at h ⊢
  by_cases hb : s.e = 0 ∧ bad = true
  · rw [if_pos hb] at h; exact absurd h hc
  · rw [if_neg hb] at h ⊢; exact ⟨h, rfl⟩
theorem fail_rest (s : SrcD) (bad : Bool) (c : Int) : (s.fail bad c).rest = s.rest := by unfold SrcD.fail; split <;> rfl
theorem take_e {s : SrcD} {n : Nat} (h : (s.takeS n).e = 0) : s.e = 0 ∧ n ≤ s.rest.length ∧ s.takeS n = ⟨s.rest.drop n, 0⟩ ∧ s.takeB n = s.rest.take n := by
  by_cases h1 : (s.takeE n).e = 0
  · have h2 := fail_e (c := 23) (by decide) h1
    have h3 : n ≤ s.rest.length := by
      rcases Nat.lt_or_ge s.rest.length n with h4 | h4
      · exfalso
        unfold SrcD.takeE SrcD.fail at h1
        rw [if_pos ⟨h2.1, by rw [decide_eq_true h4]⟩] at h1
        exact absurd h1 (by show (23 : Int) ≠ 0; decide)
      · exact h4
    exact ⟨h2.1, h3, by unfold SrcD.takeS; rw [if_pos h1], by unfold SrcD.takeB; rw [if_pos h1]⟩
  · exfalso
    unfold SrcD.takeS at h
    rw [if_neg h1] at h
    exact h1 h
theorem take_rest (s : SrcD) (n : Nat) : (s.takeS n).rest.length ≤ s.rest.length := by
  unfold SrcD.takeS
  split
  · rw [List.length_drop]; omega
  · unfold SrcD.takeE; rw [fail_rest]; exact Nat.le_refl _
theorem num_rest (s : SrcD) (l m : Int) : (s.numS l m).rest.length ≤ s.rest.length := by
  unfold SrcD.numS
  rw [fail_rest]
  exact take_rest s 8
theorem num_e {s : SrcD} {l m : Int} (h : (s.numS l m).e = 0) : (s.takeS 8).e = 0 ∧ s.e = 0 ∧ s.numV l m = (s.cnt : Int) ∧ l ≤ s.numV l m ∧ s.numV l m ≤ m := by
  have h1 := fail_e (c := 3) (by decide) h
  have h2 := take_e h1.1
  have hv : s.numV l m = (s.cnt : Int) := by unfold SrcD.numV; rw [if_pos h]
  have hb : badN s.cnt l m = false := by
    cases hb : badN s.cnt l m with
    | false => rfl
    | true =>
      exfalso
      unfold SrcD.numS SrcD.fail at h
      rw [if_pos ⟨h1.1, hb⟩] at h
      exact absurd h (by show (3 : Int) ≠ 0; decide)
  unfold badN at hb
  simp only [Bool.or_eq_false_iff, decide_eq_false_iff_not] at hb
  exact ⟨h1.1, h2.1, hv, by rw [hv]; omega, by rw [hv]; omega⟩
theorem step_spec {d : DecS} (hok : d.s.e = 0 → d.sp.Ok) (h0 : d.s.e = 0) (hn : (d.sp.list.length : Int) = d.sp.next) {Z : Int} (hz : d.sp.next + (d.s.rest.length : Int) ≤ Z) :
    (decStep d).sp.Ok ∧ ((decStep d).sp.list.length : Int) = (decStep d).sp.next ∧ (decStep d).sp.next + ((decStep d).s.rest.length : Int) ≤ Z ∧ (decStep d).sp.budget = d.sp.budget := by
  have hr1 : (dec1 d).rest.length ≤ d.s.rest.length := by unfold dec1; rw [fail_rest]; exact take_rest _ _
  have hr4 : (dec4 d).rest.length ≤ (dec1 d).rest.length := Nat.le_trans (take_rest _ _) (Nat.le_trans (num_rest _ _ _) (num_rest _ _ _))
  by_cases h4 : (dec4 d).e = 0
  · have e3 := (take_e h4).1
    have e2 := (num_e e3).2.1
    have e1 := (num_e e2).2.1
    have e0 := (fail_e (c := 3) (by decide) e1).1
    have t0 := take_e e0
    have hr0 : (dec1 d).rest.length + 32 = d.s.rest.length := by
      unfold dec1
      rw [fail_rest, t0.2.2.1]
      show (d.s.rest.drop 32).length + 32 = _
      rw [List.length_drop]
      omega
    have hst : decStep d = ⟨putS d.sp (idOf (d.s.takeB 32)) (decT d) ((dec1 d).numV 0 105190559), dec4 d⟩ := by unfold decStep; rw [if_pos h4]
    rw [hst]
    unfold putS
    split
    · rename_i hc
      refine ⟨Ok.add (hok h0) hc, ?_, ?_, rfl⟩
      · show ((d.sp.list ++ [_]).length : Int) = d.sp.next + 1
        rw [List.length_append, List.length_singleton]
        omega
      · show d.sp.next + 1 + ((dec4 d).rest.length : Int) ≤ Z
        omega
    · exact ⟨hok h0, hn, by show d.sp.next + ((dec4 d).rest.length : Int) ≤ Z; omega, rfl⟩
  · have hst : decStep d = ⟨d.sp, dec4 d⟩ := by unfold decStep; rw [if_neg h4]
    rw [hst]
    exact ⟨hok h0, hn, by show d.sp.next + ((dec4 d).rest.length : Int) ≤ Z; omega, rfl⟩
theorem splice_id {B : List UInt8} (h : B.length = 32 ∨ B = []) : spliceL z32.1 0 (B.take 32) = (idOf B).1 := by
  rcases h with h | h
  · have h1 : B.take 32 = B := List.take_of_length_le (by omega)
    have h2 : (idOf B).1 = B := by unfold idOf; rw [dif_pos h]
    rw [h1, h2]
    unfold spliceL
    rw [List.take_zero, List.nil_append, h, List.drop_of_length_le (by rw [z32.2]; omega), List.append_nil]
  · subst h
    have h2 : (idOf []).1 = z32.1 := by unfold idOf; rw [dif_neg (by decide)]
    rw [h2]
    unfold spliceL
    rw [List.take_nil, List.take_zero, List.nil_append, List.nil_append, List.length_nil, List.drop_zero]
theorem takeB_32 (s : SrcD) (n : Nat) : (s.takeB n).length = n ∨ s.takeB n = [] := by
  by_cases h : (s.takeS n).e = 0
  · have := take_e h
    exact .inl (by rw [this.2.2.2, List.length_take]; omega)
  · right
    unfold SrcD.takeB
    rw [if_neg (fun h1 => h (by unfold SrcD.takeS; rw [if_pos h1]))]
def DecPost (w : World) (b : List UInt8) (e : Ending) (w' : World) : Prop := Below w.heap.size w w' ∧
  ((decE b = 0 ∧ ∃ p m, e = .returned (.tuple #[.pointer (some ⟨p, 0, none⟩), .int .i64 0]) ∧ w.heap.size ≤ p ∧ w.heap.size ≤ m ∧ SpAt w' p m (decR b).sp ∧ (decR b).sp.Ok ∧ (decR b).sp.list.length ≤ b.length) ∨
   (decE b ≠ 0 ∧ e = .returned (.tuple #[.pointer none, .int .i64 (decE b)])))
set_option maxRecDepth 100000 in
set_option maxHeartbeats 2000000 in
theorem Decode_any {w : World} (v : Value) (b : List UInt8) (hv : ListAt byE w v b) (hl : b.length ≤ 1000000) :
    Calls Try.prog 31 #[v] w (DecPost w b) := by
  obtain ⟨va, vc, rfl⟩ := hv.form
  obtain ⟨w1, hw1⟩ : ∃ w1, w.alloc (.cells #[.slice va b.length vc, .int .i64 0] 103) = w1 := ⟨_, rfl⟩
  have hb1 : Below w.heap.size w w1 := hw1 ▸ (Below.refl _ _).alloc (Nat.le_refl _) _
  have hs1 : w1.heap.size = w.heap.size + 1 := by rw [← hw1, World.size_alloc]
  have hsr : SrcAt w1 w.heap.size w.heap.size ⟨b, 0⟩ := ⟨_, by rw [← hw1]; exact heap_alloc_new w _, hv.below hb1, fun hne p n c e => by
    obtain ⟨a', cap', e2, _, _, _, h4⟩ := hv.ex
    obtain ⟨g, off, e3, hg, _⟩ := h4 hne
    cases e2
    cases e
    cases e3
    exact hg, Nat.le_refl _⟩
  obtain ⟨N, hN⟩ : ∃ N, b.length = N := ⟨_, rfl⟩
  have hn1 := number_any hsr 1 1073741824 (by decide) (by decide)
  rw [hN] at hw1 ⊢
  have HW1 := Lib.hid hw1
  have HB1 := Lib.hid hb1
  have HS1 := Lib.hid hs1
  have HN1 := Lib.hid hn1
  have HNN := Lib.hid hN
  have HLL := Lib.hid hl
  clear hw1 hb1 hs1 hsr hn1 hN hl hv
  go_enter Try.func31, Try.ntmps31
  go_wp2_with fail
  rw [HW1.out]
  clear HW1
  refine HN1.out.mono ?_
  rintro e w2 ⟨rfl, hs2, hc2, hz2⟩
  obtain ⟨V, hV⟩ : ∃ V, (⟨b, 0⟩ : SrcD).numV 1 1073741824 = V := ⟨_, rfl⟩
  rw [hV]
  obtain ⟨w3, hw3⟩ : ∃ w3, (w2.alloc (.map #[] 0)).alloc (.cells #[.int .i64 V, .int .i64 0, .int .i64 0, .map (some w2.heap.size)] 78) = w3 := ⟨_, rfl⟩
  have hb3 : Below w2.heap.size w2 w3 := hw3 ▸ ((Below.refl _ _).alloc (Nat.le_refl _) _).alloc (by simp only [World.size_alloc]; omega) _
  have hz3 : w3.heap.size = w2.heap.size + 2 := by rw [← hw3]; simp only [World.size_alloc]
  have hsp : SpAt w3 (w2.heap.size + 1) w2.heap.size ⟨V, 0, []⟩ := by
    have e1 := heap_alloc_new (w2.alloc (.map #[] 0)) (.cells #[.int .i64 V, .int .i64 0, .int .i64 0, .map (some w2.heap.size)] 78)
    rw [World.size_alloc, hw3] at e1
    have e2 := (KMS.new (E := idKey) w2).below (w' := w3) (hw3 ▸ (Below.refl _ _).alloc (Nat.le_refl _) _)
    exact ⟨e1, e2⟩
  have hc3 := count_any (hs2.below hb3)
  have HW3 := Lib.hid hw3
  have HB3 := Lib.hid hb3
  have HC2 := Lib.hid (And.intro hc2 hz2)
  have HZ3 := Lib.hid hz3
  have HSP := Lib.hid hsp
  have HC3 := Lib.hid hc3
  have HVV := Lib.hid hV
  clear hs2 hc2 hz2 hw3 hb3 hz3 hsp hc3 hV
  have hmk := mkMap0 w2
  go_wp2_with fail
  rw [HW3.out]
  clear HW3
  refine HC3.out.mono ?_
  rintro e w4 ⟨rfl, hs4, hc4, hz4⟩
  obtain ⟨Ar, hAr⟩ : ∃ Ar, w.heap.size = Ar := ⟨_, rfl⟩
  obtain ⟨Ap, hAp⟩ : ∃ Ap, w2.heap.size + 1 = Ap := ⟨_, rfl⟩
  obtain ⟨Am, hAm⟩ : ∃ Am, w2.heap.size = Am := ⟨_, rfl⟩
  have HZ := Lib.hid (show Ar = w.heap.size ∧ Ar < Am ∧ Ap = Am + 1 ∧ w4.heap.size = Am + 2 by
    have h1 := HS1.out; have h2 := HC2.out.2; have h3 := HZ3.out; omega)
  have hsp4 := HSP.out.chg hc4 (show ¬ w2.heap.size + 1 = w.heap.size by have h1 := HS1.out; have h2 := HC2.out.2; omega) (show ¬ w2.heap.size = w.heap.size by have h1 := HS1.out; have h2 := HC2.out.2; omega)
  have hB4 : Below w.heap.size w w4 := HB1.out.trans ((HC2.out.1.below (B := w.heap.size) (fun k e => by omega) (by have h1 := HS1.out; omega)).trans ((HB3.out.mono (by have h1 := HS1.out; have h2 := HC2.out.2; omega)).trans (hc4.below (B := w.heap.size) (fun k e => by omega) (by have h1 := HS1.out; have h2 := HC2.out.2; have h3 := HZ3.out; omega))))
  have hd0 : dec0 b = ⟨⟨V, 0, []⟩, ((⟨b, 0⟩ : SrcD).numS 1 1073741824).takeS 8⟩ := by unfold dec0; rw [HVV.out]
  have hok0 : (dec0 b).s.e = 0 → (dec0 b).sp.Ok := fun h0 => by
    have h1 := (take_e (show (((⟨b, 0⟩ : SrcD).numS 1 1073741824).takeS 8).e = 0 from h0)).1
    have h2 := num_e h1
    exact ok_new h2.2.2.2.1 h2.2.2.2.2
  have hrl0 : (dec0 b).s.rest.length ≤ N := by
    rw [← HNN.out]
    exact Nat.le_trans (take_rest _ _) (num_rest _ _ _)
  have hcn : (((⟨b, 0⟩ : SrcD).numS 1 1073741824).cnt) < 18446744073709551616 := cnt_lt _
  obtain ⟨C, hC⟩ : ∃ C, ((⟨b, 0⟩ : SrcD).numS 1 1073741824).cnt = C := ⟨_, rfl⟩
  have hsp4' : SpAt w4 Ap Am (dec0 b).sp := by rw [hd0, ← hAp, ← hAm]; exact hsp4
  have hs4' : SrcAt w4 Ar Ar (dec0 b).s := by rw [hd0, ← hAr]; exact hs4
  have HD0 := Lib.hid (show SrcAt w4 Ar Ar (dec0 b).s ∧ SpAt w4 Ap Am (dec0 b).sp ∧ ((dec0 b).s.e = 0 → (dec0 b).sp.Ok) ∧ ((dec0 b).sp.list.length : Int) = (dec0 b).sp.next ∧ (dec0 b).sp.next + ((dec0 b).s.rest.length : Int) ≤ (N : Int) ∧ decLoop C (dec0 b) = decR b from
    ⟨hs4', hsp4', hok0, rfl, by show (0 : Int) + _ ≤ _; omega, by rw [← hC]; rfl⟩)
  have HB4 := Lib.hid hB4
  rw [hC] at hcn ⊢
  rw [hAp, hAm, hAr]
  have HCN := Lib.hid hcn
  clear hs4 hc4 hz4 hsp4 hB4 hd0 hok0 hrl0 hcn hC hsp4' hs4' hAp hAm HB1 HS1 HN1 HB3 HC2 HZ3 HSP HC3 HVV hmk
  go_wp2_with fail
  go_loopw [6] (fun nv wr => ∃ (n : Nat) (d : DecS), n < 18446744073709551616 ∧ nv = .int .u64 (n : Int) ∧ Hid (SrcAt wr Ar Ar d.s) ∧ Hid (SpAt wr Ap Am d.sp) ∧ Hid (d.s.e = 0 → d.sp.Ok) ∧ Hid ((d.sp.list.length : Int) = d.sp.next ∧ d.sp.next + (d.s.rest.length : Int) ≤ (N : Int)) ∧ Hid (decLoop n d = decR b) ∧ Hid (Chg (fun k => k = Ar ∨ k = Ap ∨ k = Am) w4 wr)) (fun nv _ => (intOf nv).toNat)
  case atStart => exact ⟨C, dec0 b, HCN.out, rfl, Lib.hid HD0.out.1, Lib.hid HD0.out.2.1, Lib.hid HD0.out.2.2.1, Lib.hid ⟨HD0.out.2.2.2.1, HD0.out.2.2.2.2.1⟩, Lib.hid HD0.out.2.2.2.2.2, Lib.hid (Chg.refl _ _)⟩
  case round =>
  clear HD0
  obtain ⟨n, d, hn64, rfl, HSR, HSP, HOK, HLN, HDL, HC⟩ := hrel
  by_cases hgo : 0 < n ∧ d.s.e = 0
  case neg =>
    have hfin : d = decR b := by
      rw [← HDL.out]
      cases n with
      | zero => rfl
      | succ n => unfold decLoop; rw [if_neg (fun h => hgo ⟨by omega, h⟩)]
    have HFIN := Lib.hid hfin
    obtain ⟨vr, kr, kl, klb, kbr⟩ := HSR.out.ex
    obtain ⟨ra, rc, rfl⟩ := kl.form
    have cr0 := cell_of_row wr _ 0 _ _ _ kr
    have cr1 := cell_of_row wr _ 1 _ _ _ kr
    simp only [List.getElem?_toArray, List.getElem?_cons_zero, List.getElem?_cons_succ] at cr0 cr1
    clear hfin kr kl klb kbr
    have hw0 : ∀ f1, f1 = fail_any HSR.out (decide (0 < d.s.rest.length)) 5 → True := fun _ _ => trivial
    obtain ⟨z, hz⟩ : ∃ z, decide (0 < d.s.rest.length) = z := ⟨_, rfl⟩
    have HFL := Lib.hid (hz ▸ fail_any HSR.out (decide (0 < d.s.rest.length)) 5)
    have hee : (decR b).s.fail (decide (0 < (decR b).s.rest.length)) 5 = d.s.fail z 5 := by rw [← HFIN.out, hz]
    have HEE := Lib.hid (show decE b = (d.s.fail z 5).e by unfold decE; rw [hee])
    obtain ⟨fs, hfs⟩ : ∃ fs, d.s.fail z 5 = fs := ⟨_, rfl⟩
    rw [hfs] at HFL HEE
    have HZZ := Lib.hid hz
    have HOE := Lib.hid (show fs.e = 0 → d.s.e = 0 from fun h => (fail_e (c := 5) (by decide) (hfs ▸ h)).1)
    clear hw0 hz hee hfs
    have hcall : ∀ z', z' = z → Calls Try.prog 54 #[.pointer (some ⟨Ar, 0, none⟩), .bool z', .int .i64 5] wr fun e w' => e = .returned (.tuple #[]) ∧ SrcAt w' Ar Ar fs ∧ Chg (fun k => k = Ar) wr w' ∧ w'.heap.size = wr.heap.size := fun z' e => by rw [e]; exact HFL.out
    have HCL := Lib.hid hcall
    clear hcall HFL
    by_cases hn0 : n = 0
    · subst hn0
      go_wp2_with fail
      refine (HCL.out _ (by rw [← HZZ.out]; first | done | (simp; done) | (simp; omega))).mono ?_
      rintro e wf ⟨rfl, hsf, hcf, hzf⟩
      obtain ⟨vf, kf, _⟩ := hsf.ex
      have d1 := cell_of_row wf _ 1 _ _ _ kf
      simp only [List.getElem?_toArray, List.getElem?_cons_zero, List.getElem?_cons_succ] at d1
      have HBF := Lib.hid (show Below w.heap.size w wf from HB4.out.trans ((HC.out.below (B := w.heap.size) (fun k e => by have := HZ.out; omega) HB4.out.size).trans (hcf.below (B := w.heap.size) (fun k e => by have := HZ.out; omega) (by have h1 := HC.out.size; have h2 := HB4.out.size; omega))))
      have HSPF := Lib.hid (HSP.out.chg hcf (show ¬ Ap = Ar by have := HZ.out; omega) (show ¬ Am = Ar by have := HZ.out; omega))
      clear kf hsf hcf hzf
      by_cases hfe : fs.e = 0
      · have hne : (fs.e != 0) = false := by simpa using hfe
        have hde : decE b = 0 := by rw [HEE.out, hfe]
        have HDE := Lib.hid hde
        have HO9 := Lib.hid (HOK.out (HOE.out hfe))
        clear hfe hde
        go_wp2_with fail
        exact bodyPost_ret (v := .tuple #[.pointer (some ⟨Ap, 0, none⟩), .int .i64 0]) (by simp [results, Try.results31, go_sem]) rfl ⟨HBF.out, .inl ⟨HDE.out, Ap, Am, rfl, by have := HZ.out; omega, by have := HZ.out; omega, by rw [← HFIN.out]; exact HSPF.out, by rw [← HFIN.out]; exact HO9.out, by rw [← HFIN.out]; have h1 := HLN.out; have h2 := HNN.out; omega⟩⟩
      · have hne : (fs.e != 0) = true := by simpa using hfe
        have HDE := Lib.hid (show decE b ≠ 0 by rw [HEE.out]; exact hfe)
        obtain ⟨fe, hfee⟩ : ∃ fe, fs.e = fe := ⟨_, rfl⟩
        rw [hfee] at d1 hne HEE
        clear hfe hfee
        go_wp2_with fail
        have HF16 := Lib.hid (show ∀ w', Below wf.heap.size wf w' → w'.cell? ⟨Ar, 1, none⟩ = some (.int .i64 fe) from fun w' hw' => (hw'.cell (p := ⟨Ar, 1, none⟩) (World.block_lt_of_cell? _ _ d1)).trans d1)
        refine wp_region_noPanic ?_
        refine wp_region_H (Below wf.heap.size wf) (by kernel_rfl) ?_
        have hS0 : (Below wf.heap.size wf) wf.drew := (Below.refl _ _).drew
        obtain ⟨wd, hwd⟩ : ∃ wd, wf.drew = wd := ⟨_, rfl⟩
        rw [hwd] at hS0 ⊢
        clear hwd
        refine wpAnyH_takeI (i := 0) (v := ?v3) rfl (by kernel_rfl) (by kernel_rfl) (by kernel_rfl) (fun _ _ _ h => h) (yieldsIf_run rfl (fun w' hw' => ?y3)) hS0 ?_
        case y3 => first | (go_simp; rfl) | (go_simp; done) | rfl
        simp only [Act.put, List.setIfInBounds_toArray, List.set_cons_zero, List.set_cons_succ]
        refine wpAnyH_takeI (i := 1) (v := ?v4) rfl (by kernel_rfl) (by kernel_rfl) (by kernel_rfl) (fun _ _ _ h => h) (yieldsIf_run rfl (fun w' hw' => ?y4)) hS0 ?_
        case y4 => first | (go_simp; rfl) | (go_simp; done) | rfl
        simp only [Act.put, List.setIfInBounds_toArray, List.set_cons_zero, List.set_cons_succ]
        refine wpAnyH_takeI (i := 2) (v := ?v5) rfl (by kernel_rfl) (by kernel_rfl) (by kernel_rfl) (fun _ _ _ h => h) (yieldsIf_run rfl (fun w' hw' => ?y5)) hS0 ?_
        case y5 => first | (go_simp; rfl) | (go_simp; done) | rfl
        simp only [Act.put, List.setIfInBounds_toArray, List.set_cons_zero, List.set_cons_succ]
        refine wpAnyH_takeI (i := 3) (v := ?v6) rfl (by kernel_rfl) (by kernel_rfl) (by kernel_rfl) (fun _ _ _ h => h) (yieldsIf_run rfl (fun w' hw' => ?y6)) hS0 ?_
        case y6 => (have h0 := HF16.out w' hw'; clear hw'; first | (go_simp; rfl) | (go_simp; done))
        simp only [Act.put, List.setIfInBounds_toArray, List.set_cons_zero, List.set_cons_succ]
        refine wpAnyH_takeI (i := 4) (v := ?v7) rfl (by kernel_rfl) (by kernel_rfl) (by kernel_rfl) (fun _ _ _ h => h) (yieldsIf_run rfl (fun w' hw' => ?y7)) hS0 ?_
        case y7 => first | (go_simp; rfl) | (go_simp; done) | rfl
        simp only [Act.put, List.setIfInBounds_toArray, List.set_cons_zero, List.set_cons_succ]
        refine wpAnyH_takeI (i := 5) (v := ?v8) rfl (by kernel_rfl) (by kernel_rfl) (by kernel_rfl) (fun _ _ _ h => h) (yieldsIf_run rfl (fun w' hw' => ?y8)) hS0 ?_
        case y8 => first | (go_simp; rfl) | (go_simp; done) | rfl
        simp only [Act.put, List.setIfInBounds_toArray, List.set_cons_zero, List.set_cons_succ]
        refine wpAnyH_done (by kernel_rfl) ?_ _
        refine NoPanic.normal ?_
        have HS16 := Lib.hid hS0
        clear hS0
        go_wp2_with fail
        exact bodyPost_ret (v := .tuple #[.pointer none, .int .i64 fe]) (by simp [results, Try.results31, go_sem]) rfl ⟨HBF.out.trans (HS16.out.mono HBF.out.size), .inr ⟨HDE.out, by rw [HEE.out]⟩⟩
    · have hnI : (0 : Int) < (n : Int) := by omega
      have hen : (d.s.e == 0) = false := by simp; intro h; exact hgo ⟨by omega, h⟩
      go_wp2_with fail
      refine (HCL.out _ (by rw [← HZZ.out]; first | done | (simp; done) | (simp; omega))).mono ?_
      rintro e wf ⟨rfl, hsf, hcf, hzf⟩
      obtain ⟨vf, kf, _⟩ := hsf.ex
      have d1 := cell_of_row wf _ 1 _ _ _ kf
      simp only [List.getElem?_toArray, List.getElem?_cons_zero, List.getElem?_cons_succ] at d1
      have HBF := Lib.hid (show Below w.heap.size w wf from HB4.out.trans ((HC.out.below (B := w.heap.size) (fun k e => by have := HZ.out; omega) HB4.out.size).trans (hcf.below (B := w.heap.size) (fun k e => by have := HZ.out; omega) (by have h1 := HC.out.size; have h2 := HB4.out.size; omega))))
      have HSPF := Lib.hid (HSP.out.chg hcf (show ¬ Ap = Ar by have := HZ.out; omega) (show ¬ Am = Ar by have := HZ.out; omega))
      clear kf hsf hcf hzf
      by_cases hfe : fs.e = 0
      · have hne : (fs.e != 0) = false := by simpa using hfe
        have hde : decE b = 0 := by rw [HEE.out, hfe]
        have HDE := Lib.hid hde
        have HO9 := Lib.hid (HOK.out (HOE.out hfe))
        clear hfe hde
        go_wp2_with fail
        exact bodyPost_ret (v := .tuple #[.pointer (some ⟨Ap, 0, none⟩), .int .i64 0]) (by simp [results, Try.results31, go_sem]) rfl ⟨HBF.out, .inl ⟨HDE.out, Ap, Am, rfl, by have := HZ.out; omega, by have := HZ.out; omega, by rw [← HFIN.out]; exact HSPF.out, by rw [← HFIN.out]; exact HO9.out, by rw [← HFIN.out]; have h1 := HLN.out; have h2 := HNN.out; omega⟩⟩
      · have hne : (fs.e != 0) = true := by simpa using hfe
        have HDE := Lib.hid (show decE b ≠ 0 by rw [HEE.out]; exact hfe)
        obtain ⟨fe, hfee⟩ : ∃ fe, fs.e = fe := ⟨_, rfl⟩
        rw [hfee] at d1 hne HEE
        clear hfe hfee
        go_wp2_with fail
        have HF16 := Lib.hid (show ∀ w', Below wf.heap.size wf w' → w'.cell? ⟨Ar, 1, none⟩ = some (.int .i64 fe) from fun w' hw' => (hw'.cell (p := ⟨Ar, 1, none⟩) (World.block_lt_of_cell? _ _ d1)).trans d1)
        refine wp_region_noPanic ?_
        refine wp_region_H (Below wf.heap.size wf) (by kernel_rfl) ?_
        have hS0 : (Below wf.heap.size wf) wf.drew := (Below.refl _ _).drew
        obtain ⟨wd, hwd⟩ : ∃ wd, wf.drew = wd := ⟨_, rfl⟩
        rw [hwd] at hS0 ⊢
        clear hwd
        refine wpAnyH_takeI (i := 0) (v := ?v9) rfl (by kernel_rfl) (by kernel_rfl) (by kernel_rfl) (fun _ _ _ h => h) (yieldsIf_run rfl (fun w' hw' => ?y9)) hS0 ?_
        case y9 => first | (go_simp; rfl) | (go_simp; done) | rfl
        simp only [Act.put, List.setIfInBounds_toArray, List.set_cons_zero, List.set_cons_succ]
        refine wpAnyH_takeI (i := 1) (v := ?v10) rfl (by kernel_rfl) (by kernel_rfl) (by kernel_rfl) (fun _ _ _ h => h) (yieldsIf_run rfl (fun w' hw' => ?y10)) hS0 ?_
        case y10 => first | (go_simp; rfl) | (go_simp; done) | rfl
        simp only [Act.put, List.setIfInBounds_toArray, List.set_cons_zero, List.set_cons_succ]
        refine wpAnyH_takeI (i := 2) (v := ?v11) rfl (by kernel_rfl) (by kernel_rfl) (by kernel_rfl) (fun _ _ _ h => h) (yieldsIf_run rfl (fun w' hw' => ?y11)) hS0 ?_
        case y11 => first | (go_simp; rfl) | (go_simp; done) | rfl
        simp only [Act.put, List.setIfInBounds_toArray, List.set_cons_zero, List.set_cons_succ]
        refine wpAnyH_takeI (i := 3) (v := ?v12) rfl (by kernel_rfl) (by kernel_rfl) (by kernel_rfl) (fun _ _ _ h => h) (yieldsIf_run rfl (fun w' hw' => ?y12)) hS0 ?_
        case y12 => (have h0 := HF16.out w' hw'; clear hw'; first | (go_simp; rfl) | (go_simp; done))
        simp only [Act.put, List.setIfInBounds_toArray, List.set_cons_zero, List.set_cons_succ]
        refine wpAnyH_takeI (i := 4) (v := ?v13) rfl (by kernel_rfl) (by kernel_rfl) (by kernel_rfl) (fun _ _ _ h => h) (yieldsIf_run rfl (fun w' hw' => ?y13)) hS0 ?_
        case y13 => first | (go_simp; rfl) | (go_simp; done) | rfl
        simp only [Act.put, List.setIfInBounds_toArray, List.set_cons_zero, List.set_cons_succ]
        refine wpAnyH_takeI (i := 5) (v := ?v14) rfl (by kernel_rfl) (by kernel_rfl) (by kernel_rfl) (fun _ _ _ h => h) (yieldsIf_run rfl (fun w' hw' => ?y14)) hS0 ?_
        case y14 => first | (go_simp; rfl) | (go_simp; done) | rfl
        simp only [Act.put, List.setIfInBounds_toArray, List.set_cons_zero, List.set_cons_succ]
        refine wpAnyH_done (by kernel_rfl) ?_ _
        refine NoPanic.normal ?_
        have HS16 := Lib.hid hS0
        clear hS0
        go_wp2_with fail
        exact bodyPost_ret (v := .tuple #[.pointer none, .int .i64 fe]) (by simp [results, Try.results31, go_sem]) rfl ⟨HBF.out.trans (HS16.out.mono HBF.out.size), .inr ⟨HDE.out, by rw [HEE.out]⟩⟩
  obtain ⟨hn0, he0⟩ := hgo
  obtain ⟨n, rfl⟩ : ∃ k, n = k + 1 := ⟨n - 1, by omega⟩
  have hnI : (0 : Int) < ((n + 1 : Nat) : Int) := by omega
  have hwn : IntKind.u64.wrap (((n + 1 : Nat) : Int) - 1) = (n : Int) := (IntWalk.u64_in _ (by omega)).trans (by omega)
  have hst := step_spec HOK.out he0 HLN.out.1 HLN.out.2
  have HST := Lib.hid hst
  have HOK2 := Lib.hid (HOK.out he0)
  have HDL2 := Lib.hid (show decLoop n (decStep d) = decR b by have h := HDL.out; unfold decLoop at h; rw [if_pos he0] at h; exact h)
  obtain ⟨vr, kr, _⟩ := HSR.out.ex
  rw [he0] at kr
  have cr1 := cell_of_row wr _ 1 _ _ _ kr
  simp only [List.getElem?_toArray, List.getElem?_cons_zero, List.getElem?_cons_succ] at cr1
  have HNB := Lib.hid (show d.sp.next < 1000000000000 from by have h1 := HLN.out.2; have h2 := HNN.out; have h3 := HLL.out; omega)
  clear kr hst hn0 he0 HOK HDL
  refine hide_postD fun Q HQ => ?_
  go_wp2_with (refine wpList_newV rfl (some 7) rfl 30 rfl (bvs z32.1).toArray 32 (by kernel_rfl) ?_; refine Stop.on ?_)
  refine Stop.go ?_
  intro wn xn bn sn
  try simp only [Act.put, List.setIfInBounds_toArray, List.set_cons_zero, List.set_cons_succ]
  obtain ⟨A7, hA7⟩ : ∃ A7, wr.heap.size = A7 := ⟨_, rfl⟩
  have HA7 := Lib.hid (show A7 < wn.heap.size ∧ Ar < A7 ∧ Ap < A7 ∧ Am < A7 from by have h1 := HZ.out; have h2 := HC.out.size; omega)
  have HAW := Lib.hid (show w4.heap.size ≤ A7 from by have h2 := HC.out.size; omega)
  have HSR1 := Lib.hid (HSR.out.below bn)
  have HSP1 := Lib.hid (HSP.out.below bn)
  have HC1 := Lib.hid (show Chg (fun k => k = Ar ∨ k = Ap ∨ k = Am) w4 wn from HC.out.trans (Chg.of_below bn) (fun i h => .inl h))
  rw [hA7] at xn ⊢
  have HG7 := Lib.hid xn
  clear xn bn sn hA7 HSR HSP HC cr1
  have HSR := HSR1
  go_wp2_with fail
  refine wp_region_noPanic ?_
  refine wp_region_G [3] (fun _ => True) (by kernel_rfl) ?_
  have hS0 : (fun _ => True) wn.drew := trivial
  have hX0 : Below wn.heap.size wn wn.drew := (Below.refl _ _).drew
  obtain ⟨wd, hwd⟩ : ∃ wd, wn.drew = wd := ⟨_, rfl⟩
  rw [hwd] at hX0 ⊢
  clear hwd
  refine wpAnyG_take (i := 0) (v := .slice (some ⟨A7, 0, none⟩) 32 32) rfl (by kernel_rfl) (by kernel_rfl) (by kernel_rfl) (by kernel_rfl) (fun _ _ _ h => h) (yieldsIf_run rfl (fun w' hw' => ?y1)) hS0 ?_
  case y1 => first | (go_simp; rfl) | (go_simp; done) | rfl
  simp only [Act.put, List.setIfInBounds_toArray, List.set_cons_zero, List.set_cons_succ]
  refine wpAnyG_pure (i := 1) (v := ?v2) rfl (by kernel_rfl) (by kernel_rfl) (by kernel_rfl) (by kernel_rfl) (fun _ _ _ h => h) (yieldsIf_run rfl (fun w' hw' => ?y2)) (fun _ => hS0) ?_
  case y2 => first | (go_simp; rfl) | (go_simp; done) | rfl
  simp only [Act.put, List.setIfInBounds_toArray, List.set_cons_zero, List.set_cons_succ]
  refine wpAnyG_do (i := 2) (by kernel_rfl) rfl rfl (fun K hK => ?_)
  go_simp
  go_at_call 53
  refine (take_any (HSR.out.below hX0) 32 (by decide)).mono ?_
  rintro e wt ⟨tv, rfl, htl, hts, htc, htz⟩
  obtain ⟨ta, tc, rfl⟩ := htl.form
  refine hK _ _ trivial ?_
  clear hK K
  try simp only [Act.put, List.setIfInBounds_toArray, List.set_cons_zero, List.set_cons_succ]
  refine wpAnyG_fin (i := 3) (by kernel_rfl) rfl rfl (by kernel_rfl) (fun K hK => ?_)
  have hgt : wt.heap[A7]? = some (.cells (bvs z32.1).toArray 30 (0, 0)) := (htc.block _ (by have := HA7.out; have := hX0.size; omega) (by have := HA7.out; omega)).trans ((hX0.block _ (by have := HA7.out; omega)).trans HG7.out)
  refine wp_copyBytes rfl (.tmp 32) (.tmp 34) rfl rfl rfl (bytesAt_of htl) hgt (by rw [z32.2]; omega) (fun wc hgc hcc => ?_)
  refine hK _ _ ?_
  clear hK K
  try simp only [Act.put, List.setIfInBounds_toArray, List.set_cons_zero, List.set_cons_succ]
  refine wpAnyG_done (by kernel_rfl) ?_ _
  refine NoPanic.normal ?_
  have hgc2 : wc.heap[A7]? = some (.cells (bvs (idOf (d.s.takeB 32)).1).toArray 30 (0, 0)) := by rw [← splice_id (takeB_32 d.s 32)]; exact hgc
  have hs1 : SrcAt wc Ar Ar (d.s.takeS 32) := hts.chg hcc (show ¬ Ar = A7 by have := HA7.out; omega) (fun k e => by have := HA7.out; omega)
  have hcw : Chg (fun k => k = A7 ∨ k = Ar) wn wc := ((Chg.of_below (F := fun k => k = A7 ∨ k = Ar) hX0).trans (htc.mono (G := fun k => k = A7 ∨ k = Ar) (fun k e => .inr e)) (fun i h => .inl h)).trans (hcc.mono (G := fun k => k = A7 ∨ k = Ar) (fun k e => .inl e)) (fun i h => .inl h)
  obtain ⟨k0, hk0⟩ : ∃ k0, idOf (d.s.takeB 32) = k0 := ⟨_, rfl⟩
  rw [hk0] at hgc2
  have HSP2 := Lib.hid (HSP1.out.chg hcw (show ¬ (Ap = A7 ∨ Ap = Ar) by have h1 := HA7.out; have h2 := HZ.out; omega) (show ¬ (Am = A7 ∨ Am = Ar) by have h1 := HA7.out; have h2 := HZ.out; omega))
  have HCW := Lib.hid (show Chg (fun k => k = Ar ∨ k = Ap ∨ k = Am ∨ k = A7) w4 wc from (HC1.out.mono (G := fun k => k = Ar ∨ k = Ap ∨ k = Am ∨ k = A7) (fun k h => by omega)).trans (hcw.mono (G := fun k => k = Ar ∨ k = Ap ∨ k = Am ∨ k = A7) (fun k h => by omega)) (fun i h => .inl h))
  obtain ⟨bd, hbd⟩ : ∃ bd, (decide (k0 = z32) || (d.sp.find k0).isSome) = bd := ⟨_, rfl⟩
  have hd1 : dec1 d = (d.s.takeS 32).fail bd 3 := by unfold dec1; rw [hk0, hbd]
  have HD1 := Lib.hid hd1
  have HBD := Lib.hid hbd
  have HG := Lib.hid (show ∀ w', Below wc.heap.size wc w' → w'.heap[A7]? = some (.cells (bvs k0.1).toArray 30 (0, 0)) from fun w' hw' => (hw'.block _ (Array.getElem?_eq_some_iff.1 hgc2).1).trans hgc2)
  have HFL := Lib.hid (show ∀ w' z, z = bd → Below wc.heap.size wc w' → Calls Try.prog 54 #[.pointer (some ⟨Ar, 0, none⟩), .bool z, .int .i64 3] w' fun e w'' => e = .returned (.tuple #[]) ∧ SrcAt w'' Ar Ar (dec1 d) ∧ Chg (fun k => k = Ar) w' w'' ∧ w''.heap.size = w'.heap.size from fun w' z hz hw' => by rw [hz, hd1]; exact fail_any (hs1.below hw') bd 3)
  have HHAS := Lib.hid (Has_any HSP2.out k0)
  have HK0 := Lib.hid hk0
  have HA7' := Lib.hid (show A7 < wc.heap.size from (Array.getElem?_eq_some_iff.1 hgc2).1)
  clear hs1 hcw hgc2 hk0 hbd hd1 hgt hgc hcc htl hts htc htz hX0
  go_wp2_with (refine wpList_loadV rfl (some 37) rfl 30 (.tmp 7) rfl _ rfl 30 (bvs k0.1).toArray (0, 0) _ (HG.out _ (Below.refl _ _)) Try.underlying30 rfl (sizeIdA k0) ?_; refine Stop.on ?_)
  refine Stop.go ?_
  try simp only [Act.put, List.setIfInBounds_toArray, List.set_cons_zero, List.set_cons_succ]
  refine wpList_buildV rfl (some 38) rfl 30 #[] rfl [] rfl (.agg (bvs z32.1).toArray) (zeroIdV _) ?_
  try simp only [Act.put, List.setIfInBounds_toArray, List.set_cons_zero, List.set_cons_succ]
  refine wpList_runI rfl (some 39) rfl (.bool (decide (k0 = z32))) _ (op_eql 30 (.tmp 37) (.tmp 38) 30 rfl rfl rfl guard_Id (eql_Id k0 z32 _)) ?_
  try simp only [Act.put, List.setIfInBounds_toArray, List.set_cons_zero, List.set_cons_succ]
  by_cases hk : k0 = z32
  · have hbt : true = bd := by rw [← HBD.out, decide_eq_true hk]; rfl
    have HBT := Lib.hid hbt
    rw [decide_eq_true hk]
    clear hk hbt
    go_wp2_with fail
    refine (HFL.out _ _ HBT.out (Below.refl _ _)).mono ?_
    rintro e wf ⟨rfl, hsf, hcf, hzf⟩
    have HBX := Lib.hid (Below.refl wc.heap.size wc)
    have HCF := Lib.hid (show Chg (fun k => k = Ar ∨ k = Ap ∨ k = Am ∨ k = A7) w4 wf from HCW.out.trans ((Chg.of_below (F := fun k => k = Ar) HBX.out).trans hcf (fun i h => .inl h)) (fun i h => .inl (.inl h)))
    have HSPF := Lib.hid ((HSP2.out.below HBX.out).chg hcf (show ¬ Ap = Ar by have := HZ.out; omega) (show ¬ Am = Ar by have := HZ.out; omega))
    have HGF := Lib.hid ((hcf.block A7 (by have h1 := HA7'.out; have h2 := HBX.out.size; omega) (by have := HA7.out; omega)).trans (HG.out _ HBX.out))
    have hnu := number_any hsf 0 105190559 (by decide) (by decide)
    obtain ⟨av, hav⟩ : ∃ av, (dec1 d).numV 0 105190559 = av := ⟨_, rfl⟩
    rw [hav] at hnu
    have HNU := Lib.hid hnu
    have HAV := Lib.hid hav
    clear hsf hcf hzf hnu hav
    go_wp2_with fail
    refine HNU.out.mono ?_
    rintro e wg ⟨rfl, hsg, hcg, hzg⟩
    have HSG := Lib.hid (show SrcAt wg Ar Ar (dec2 d) from hsg)
    have HCG := Lib.hid (HCF.out.trans hcg (fun i h => .inl (.inl h)))
    have HSPG := Lib.hid (HSPF.out.chg hcg (show ¬ Ap = Ar by have := HZ.out; omega) (show ¬ Am = Ar by have := HZ.out; omega))
    have HGG := Lib.hid ((hcg.block A7 (Array.getElem?_eq_some_iff.1 HGF.out).1 (by have := HA7.out; omega)).trans HGF.out)
    have hfr := Free_any HSPG.out HOK2.out
    obtain ⟨fv, hfv⟩ : ∃ fv, d.sp.budget - (d.sp.size : Int) = fv := ⟨_, rfl⟩
    rw [hfv] at hfr
    have HFR := Lib.hid hfr
    have hmin : ∀ w, (Builtin.min_ #[3, 3] 3 #[.int .i64 65536, .int .i64 fv]).run Try.prog w = .ok (.int .i64 (decM d)) w := fun w => by
      unfold decM
      rw [hfv]
      exact min_int fv w
    have HMR := Lib.hid (show -9223372036854775808 ≤ decM d ∧ decM d ≤ 9223372036854775807 from by
      unfold decM
      have h1 := HOK2.out.sz
      omega)
    clear hsg hcg hzg hfr hfv
    go_wp2_with fail
    refine HFR.out.mono ?_
    rintro e wi ⟨rfl, hbi⟩
    have hn3 := number_any (HSG.out.below hbi) 1 (decM d) (by decide) HMR.out
    have hnv : (dec2 d).numV 1 (decM d) = (decN d : Int) := by
      unfold decN
      have h0 : 0 ≤ (dec2 d).numV 1 (decM d) := by
        unfold SrcD.numV
        split
        · omega
        · exact Int.le_refl _
      omega
    have hnb : decN d < 4611686018427387904 := by
      have h1 : (dec2 d).numV 1 (decM d) ≤ 65536 := by
        by_cases h0 : ((dec2 d).numS 1 (decM d)).e = 0
        · have h2 := (num_e h0).2.2.2.2
          have h3 : decM d ≤ 65536 := by unfold decM; omega
          omega
        · unfold SrcD.numV; rw [if_neg h0]; decide
      omega
    rw [hnv] at hn3
    have HN3 := Lib.hid hn3
    have HNB2 := Lib.hid hnb
    have HBI := Lib.hid hbi
    clear hbi hn3 hnv hnb
    go_wp2_with fail
    refine HN3.out.mono ?_
    rintro e wj ⟨rfl, hsj, hcj, hzj⟩
    have HCJ := Lib.hid ((HCG.out.trans (Chg.of_below HBI.out) (fun i h => .inl h)).trans hcj (fun i h => .inl (.inl h)))
    have HSPJ := Lib.hid ((HSPG.out.below HBI.out).chg hcj (show ¬ Ap = Ar by have := HZ.out; omega) (show ¬ Am = Ar by have := HZ.out; omega))
    have hgi := (HBI.out.block _ (Array.getElem?_eq_some_iff.1 HGG.out).1).trans HGG.out
    have HGJ := Lib.hid ((hcj.block A7 (Array.getElem?_eq_some_iff.1 hgi).1 (by have := HA7.out; omega)).trans hgi)
    have HTK := Lib.hid (take_any (show SrcAt wj Ar Ar (dec3 d) from hsj) (decN d) HNB2.out)
    clear hsj hcj hzj hgi hmin
    go_wp2_with fail
    refine HTK.out.mono ?_
    rintro e wk ⟨tv, rfl, htl, hsk, hck, hzk⟩
    obtain ⟨ta, tc, rfl⟩ := htl.form
    have hstr := (bytesAt_of htl).str
    have hsk : SrcAt wk Ar Ar (dec4 d) := hsk
    have HCK := Lib.hid (HCJ.out.trans hck (fun i h => .inl (.inl h)))
    have HSPK := Lib.hid (HSPJ.out.chg hck (show ¬ Ap = Ar by have := HZ.out; omega) (show ¬ Am = Ar by have := HZ.out; omega))
    have HGK := Lib.hid ((hck.block A7 (Array.getElem?_eq_some_iff.1 HGJ.out).1 (by have := HA7.out; omega)).trans HGJ.out)
    obtain ⟨vk, kk, _⟩ := hsk.ex
    have ck1 := cell_of_row wk _ 1 _ _ _ kk
    simp only [List.getElem?_toArray, List.getElem?_cons_zero, List.getElem?_cons_succ] at ck1
    have HSK := Lib.hid hsk
    obtain ⟨tl, htll⟩ : ∃ tl, ((dec3 d).takeB (decN d)).length = tl := ⟨_, rfl⟩
    rw [htll] at hstr ⊢
    obtain ⟨tx, htx⟩ : ∃ tx : ByteArray, (⟨((dec3 d).takeB (decN d)).toArray⟩ : ByteArray) = tx := ⟨_, rfl⟩
    rw [htx] at hstr
    have HTX := Lib.hid (show decT d = tx from htx)
    clear htl hsk hck hzk kk htll htx
    by_cases he4 : (dec4 d).e = 0
    · have hee : ((dec4 d).e == 0) = true := by simpa using he4
      have HSTEP := Lib.hid (show decStep d = ⟨putS d.sp k0 tx av, dec4 d⟩ by unfold decStep; rw [if_pos he4, HK0.out, HTX.out, HAV.out])
      have HPUT := Lib.hid (Put_any HSPK.out HOK2.out HNB.out k0 tx av)
      clear he4
      go_wp2_with (refine wpList_loadV rfl (some 63) rfl 30 (.tmp 7) rfl _ rfl 30 (bvs k0.1).toArray (0, 0) _ HGK.out Try.underlying30 rfl (sizeIdA k0) ?_; refine Stop.on ?_)
      refine Stop.go ?_
      try simp only [Act.put, List.setIfInBounds_toArray, List.set_cons_zero, List.set_cons_succ]
      go_wp2_with fail
      refine HPUT.out.mono ?_
      rintro e wm ⟨rfl, hsm, hcm⟩
      have HE := Lib.hid (show SrcAt wm Ar Ar (decStep d).s ∧ SpAt wm Ap Am (decStep d).sp ∧ Chg (fun k => k = Ar ∨ k = Ap ∨ k = Am) w4 wm from by
        rw [HSTEP.out]
        exact ⟨HSK.out.chg hcm (show ¬ (Ar = Ap ∨ Ar = Am) by have := HZ.out; omega) (fun k e => by have := HZ.out; omega), hsm, (HCK.out.trans hcm (fun i h => .inl (by rcases h with h | h; exact .inr (.inl h); exact .inr (.inr (.inl h))))).drop7 (by have h1 := HA7.out; have h2 := HC1.out.size; have h3 := HAW.out; omega)⟩)
      clear hsm hcm ck1 hstr hee
      go_wp2_with fail
      rw [HQ.out]
      change _ ∧ _
      go_roundw
      case rel => exact ⟨n, decStep d, by omega, by go_num, Lib.hid HE.out.1, Lib.hid HE.out.2.1, Lib.hid (fun _ => HST.out.1), Lib.hid ⟨HST.out.2.1, HST.out.2.2.1⟩, Lib.hid HDL2.out, Lib.hid HE.out.2.2⟩
      case measure => simp [intOf]
    · have hee : ((dec4 d).e == 0) = false := by simpa using he4
      have HSTEP := Lib.hid (show decStep d = ⟨d.sp, dec4 d⟩ by unfold decStep; rw [if_neg he4])
      have HE := Lib.hid (show SrcAt wk Ar Ar (decStep d).s ∧ SpAt wk Ap Am (decStep d).sp ∧ Chg (fun k => k = Ar ∨ k = Ap ∨ k = Am) w4 wk from by
        rw [HSTEP.out]
        exact ⟨HSK.out, HSPK.out, HCK.out.drop7 (by have h3 := HAW.out; omega)⟩)
      clear he4
      go_wp2_with fail
      rw [HQ.out]
      change _ ∧ _
      go_roundw
      case rel => exact ⟨n, decStep d, by omega, by go_num, Lib.hid HE.out.1, Lib.hid HE.out.2.1, Lib.hid (fun _ => HST.out.1), Lib.hid ⟨HST.out.2.1, HST.out.2.2.1⟩, Lib.hid HDL2.out, Lib.hid HE.out.2.2⟩
      case measure => simp [intOf]
  · have hbt : (d.sp.find k0).isSome = bd := by rw [← HBD.out, decide_eq_false hk]; rfl
    have HBT := Lib.hid hbt
    rw [decide_eq_false hk]
    clear hk hbt
    go_wp2_with (refine wpList_met rfl ?_; refine wpList_loadV rfl (some 42) rfl 30 (.tmp 7) rfl _ rfl 30 (bvs k0.1).toArray (0, 0) _ (HG.out _ (Below.refl _ _)) Try.underlying30 rfl (sizeIdA k0) ?_; refine Stop.on ?_)
    refine Stop.go ?_
    try simp only [Act.put, List.setIfInBounds_toArray, List.set_cons_zero, List.set_cons_succ]
    go_wp2_with fail
    refine HHAS.out.mono ?_
    rintro e wh ⟨rfl, hbh⟩
    have HBX := Lib.hid hbh
    clear hbh
    rw [HBT.out]
    go_wp2_with fail
    refine (HFL.out _ _ rfl HBX.out).mono ?_
    rintro e wf ⟨rfl, hsf, hcf, hzf⟩
    have HCF := Lib.hid (show Chg (fun k => k = Ar ∨ k = Ap ∨ k = Am ∨ k = A7) w4 wf from HCW.out.trans ((Chg.of_below (F := fun k => k = Ar) HBX.out).trans hcf (fun i h => .inl h)) (fun i h => .inl (.inl h)))
    have HSPF := Lib.hid ((HSP2.out.below HBX.out).chg hcf (show ¬ Ap = Ar by have := HZ.out; omega) (show ¬ Am = Ar by have := HZ.out; omega))
    have HGF := Lib.hid ((hcf.block A7 (by have h1 := HA7'.out; have h2 := HBX.out.size; omega) (by have := HA7.out; omega)).trans (HG.out _ HBX.out))
    have hnu := number_any hsf 0 105190559 (by decide) (by decide)
    obtain ⟨av, hav⟩ : ∃ av, (dec1 d).numV 0 105190559 = av := ⟨_, rfl⟩
    rw [hav] at hnu
    have HNU := Lib.hid hnu
    have HAV := Lib.hid hav
    clear hsf hcf hzf hnu hav
    go_wp2_with fail
    refine HNU.out.mono ?_
    rintro e wg ⟨rfl, hsg, hcg, hzg⟩
    have HSG := Lib.hid (show SrcAt wg Ar Ar (dec2 d) from hsg)
    have HCG := Lib.hid (HCF.out.trans hcg (fun i h => .inl (.inl h)))
    have HSPG := Lib.hid (HSPF.out.chg hcg (show ¬ Ap = Ar by have := HZ.out; omega) (show ¬ Am = Ar by have := HZ.out; omega))
    have HGG := Lib.hid ((hcg.block A7 (Array.getElem?_eq_some_iff.1 HGF.out).1 (by have := HA7.out; omega)).trans HGF.out)
    have hfr := Free_any HSPG.out HOK2.out
    obtain ⟨fv, hfv⟩ : ∃ fv, d.sp.budget - (d.sp.size : Int) = fv := ⟨_, rfl⟩
    rw [hfv] at hfr
    have HFR := Lib.hid hfr
    have hmin : ∀ w, (Builtin.min_ #[3, 3] 3 #[.int .i64 65536, .int .i64 fv]).run Try.prog w = .ok (.int .i64 (decM d)) w := fun w => by
      unfold decM
      rw [hfv]
      exact min_int fv w
    have HMR := Lib.hid (show -9223372036854775808 ≤ decM d ∧ decM d ≤ 9223372036854775807 from by
      unfold decM
      have h1 := HOK2.out.sz
      omega)
    clear hsg hcg hzg hfr hfv
    go_wp2_with fail
    refine HFR.out.mono ?_
    rintro e wi ⟨rfl, hbi⟩
    have hn3 := number_any (HSG.out.below hbi) 1 (decM d) (by decide) HMR.out
    have hnv : (dec2 d).numV 1 (decM d) = (decN d : Int) := by
      unfold decN
      have h0 : 0 ≤ (dec2 d).numV 1 (decM d) := by
        unfold SrcD.numV
        split
        · omega
        · exact Int.le_refl _
      omega
    have hnb : decN d < 4611686018427387904 := by
      have h1 : (dec2 d).numV 1 (decM d) ≤ 65536 := by
        by_cases h0 : ((dec2 d).numS 1 (decM d)).e = 0
        · have h2 := (num_e h0).2.2.2.2
          have h3 : decM d ≤ 65536 := by unfold decM; omega
          omega
        · unfold SrcD.numV; rw [if_neg h0]; decide
      omega
    rw [hnv] at hn3
    have HN3 := Lib.hid hn3
    have HNB2 := Lib.hid hnb
    have HBI := Lib.hid hbi
    clear hbi hn3 hnv hnb
    go_wp2_with fail
    refine HN3.out.mono ?_
    rintro e wj ⟨rfl, hsj, hcj, hzj⟩
    have HCJ := Lib.hid ((HCG.out.trans (Chg.of_below HBI.out) (fun i h => .inl h)).trans hcj (fun i h => .inl (.inl h)))
    have HSPJ := Lib.hid ((HSPG.out.below HBI.out).chg hcj (show ¬ Ap = Ar by have := HZ.out; omega) (show ¬ Am = Ar by have := HZ.out; omega))
    have hgi := (HBI.out.block _ (Array.getElem?_eq_some_iff.1 HGG.out).1).trans HGG.out
    have HGJ := Lib.hid ((hcj.block A7 (Array.getElem?_eq_some_iff.1 hgi).1 (by have := HA7.out; omega)).trans hgi)
    have HTK := Lib.hid (take_any (show SrcAt wj Ar Ar (dec3 d) from hsj) (decN d) HNB2.out)
    clear hsj hcj hzj hgi hmin
    go_wp2_with fail
    refine HTK.out.mono ?_
    rintro e wk ⟨tv, rfl, htl, hsk, hck, hzk⟩
    obtain ⟨ta, tc, rfl⟩ := htl.form
    have hstr := (bytesAt_of htl).str
    have hsk : SrcAt wk Ar Ar (dec4 d) := hsk
    have HCK := Lib.hid (HCJ.out.trans hck (fun i h => .inl (.inl h)))
    have HSPK := Lib.hid (HSPJ.out.chg hck (show ¬ Ap = Ar by have := HZ.out; omega) (show ¬ Am = Ar by have := HZ.out; omega))
    have HGK := Lib.hid ((hck.block A7 (Array.getElem?_eq_some_iff.1 HGJ.out).1 (by have := HA7.out; omega)).trans HGJ.out)
    obtain ⟨vk, kk, _⟩ := hsk.ex
    have ck1 := cell_of_row wk _ 1 _ _ _ kk
    simp only [List.getElem?_toArray, List.getElem?_cons_zero, List.getElem?_cons_succ] at ck1
    have HSK := Lib.hid hsk
    obtain ⟨tl, htll⟩ : ∃ tl, ((dec3 d).takeB (decN d)).length = tl := ⟨_, rfl⟩
    rw [htll] at hstr ⊢
    obtain ⟨tx, htx⟩ : ∃ tx : ByteArray, (⟨((dec3 d).takeB (decN d)).toArray⟩ : ByteArray) = tx := ⟨_, rfl⟩
    rw [htx] at hstr
    have HTX := Lib.hid (show decT d = tx from htx)
    clear htl hsk hck hzk kk htll htx
    by_cases he4 : (dec4 d).e = 0
    · have hee : ((dec4 d).e == 0) = true := by simpa using he4
      have HSTEP := Lib.hid (show decStep d = ⟨putS d.sp k0 tx av, dec4 d⟩ by unfold decStep; rw [if_pos he4, HK0.out, HTX.out, HAV.out])
      have HPUT := Lib.hid (Put_any HSPK.out HOK2.out HNB.out k0 tx av)
      clear he4
      go_wp2_with (refine wpList_loadV rfl (some 63) rfl 30 (.tmp 7) rfl _ rfl 30 (bvs k0.1).toArray (0, 0) _ HGK.out Try.underlying30 rfl (sizeIdA k0) ?_; refine Stop.on ?_)
      refine Stop.go ?_
      try simp only [Act.put, List.setIfInBounds_toArray, List.set_cons_zero, List.set_cons_succ]
      go_wp2_with fail
      refine HPUT.out.mono ?_
      rintro e wm ⟨rfl, hsm, hcm⟩
      have HE := Lib.hid (show SrcAt wm Ar Ar (decStep d).s ∧ SpAt wm Ap Am (decStep d).sp ∧ Chg (fun k => k = Ar ∨ k = Ap ∨ k = Am) w4 wm from by
        rw [HSTEP.out]
        exact ⟨HSK.out.chg hcm (show ¬ (Ar = Ap ∨ Ar = Am) by have := HZ.out; omega) (fun k e => by have := HZ.out; omega), hsm, (HCK.out.trans hcm (fun i h => .inl (by rcases h with h | h; exact .inr (.inl h); exact .inr (.inr (.inl h))))).drop7 (by have h1 := HA7.out; have h2 := HC1.out.size; have h3 := HAW.out; omega)⟩)
      clear hsm hcm ck1 hstr hee
      go_wp2_with fail
      rw [HQ.out]
      change _ ∧ _
      go_roundw
      case rel => exact ⟨n, decStep d, by omega, by go_num, Lib.hid HE.out.1, Lib.hid HE.out.2.1, Lib.hid (fun _ => HST.out.1), Lib.hid ⟨HST.out.2.1, HST.out.2.2.1⟩, Lib.hid HDL2.out, Lib.hid HE.out.2.2⟩
      case measure => simp [intOf]
    · have hee : ((dec4 d).e == 0) = false := by simpa using he4
      have HSTEP := Lib.hid (show decStep d = ⟨d.sp, dec4 d⟩ by unfold decStep; rw [if_neg he4])
      have HE := Lib.hid (show SrcAt wk Ar Ar (decStep d).s ∧ SpAt wk Ap Am (decStep d).sp ∧ Chg (fun k => k = Ar ∨ k = Ap ∨ k = Am) w4 wk from by
        rw [HSTEP.out]
        exact ⟨HSK.out, HSPK.out, HCK.out.drop7 (by have h3 := HAW.out; omega)⟩)
      clear he4
      go_wp2_with fail
      rw [HQ.out]
      change _ ∧ _
      go_roundw
      case rel => exact ⟨n, decStep d, by omega, by go_num, Lib.hid HE.out.1, Lib.hid HE.out.2.1, Lib.hid (fun _ => HST.out.1), Lib.hid ⟨HST.out.2.1, HST.out.2.2.1⟩, Lib.hid HDL2.out, Lib.hid HE.out.2.2⟩
      case measure => simp [intOf]
end Go.Proofs.Ytnmdgjodbikndaa
