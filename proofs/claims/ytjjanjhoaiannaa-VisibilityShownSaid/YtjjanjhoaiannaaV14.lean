/- Visibility: the law Monotone: what is shown stays shown. -/
import Derived.Test.YtjjanjhoaiannaaV13
namespace Go.Proofs.Ytjjanjhoaiannaa
open Go.RowKit
set_option linter.unusedVariables false
set_option linter.unusedSimpArgs false

theorem run_lit0 {P : Program} {sT T : TypeId} {α : Type} (E : ElemTy P sT T α) (w : World) : (Instr.buildSlice sT 0 #[]).run P w = .ok (.slice (some ⟨w.heap.size, 0, none⟩) 0 0) (w.alloc (.cells #[] T)) := by
  obtain ⟨z, bytes, hinfo, hz, hb⟩ := E.hi
  obtain ⟨i0, hi, hz0, hz1, hz2⟩ := info_parts hinfo
  have hr : Array.range 0 = #[] := rfl
  simp [Instr.buildSlice, run_underlying E.hu, sizeOf, typeInfo, zeroValue, hi, hz0, Go.newRow, hr, Instr.fill]
theorem wpList_lit0 {P : Program} {sT T : TypeId} {α : Type} {ops : Array Oper} {rest : List Oper} {o : Oper} {a : Act} {w : World} {Q : Exit → Act → World → Prop} (E : ElemTy P sT T α) (hg : o.guard = none) (dst : Option Tmp) (hdst : o.dst = dst) (ho : o.op = .buildSlice sT 0 #[])
    (h : ∀ w', OwnL E w' w.heap.size (.slice (some ⟨w.heap.size, 0, none⟩) 0 0) [] → Below w.heap.size w w' → wpList P ops Q rest (a.put dst (.slice (some ⟨w.heap.size, 0, none⟩) 0 0)) w') : wpList P ops Q (o :: rest) a w :=
  wpList_runI hg dst hdst _ _ (exec_buildSlice ho (ps := #[]) (by simp) (run_lit0 E w)) (h _ (ownL_zero E (Nat.le_refl _)) ((Below.refl _ _).alloc (Nat.le_refl _) _))
theorem mem_sorted {L : List RowV} {p : RowV → Bool} {a : IdB} : a ∈ sortB ((L.filter p).map (·.id)) ↔ ∃ r ∈ L, p r = true ∧ r.id = a := by
  rw [(sortB_perm _).mem_iff, List.mem_map]
  constructor
  · rintro ⟨s, hs, he⟩
    obtain ⟨h1, h2⟩ := List.mem_filter.1 hs
    exact ⟨s, h1, h2, he⟩
  · rintro ⟨s, h1, h2, he⟩
    exact ⟨s, List.mem_filter.2 ⟨h1, h2⟩, he⟩
theorem termR_mono {G G' : List IdB} {now now' : Int} (hG : ∀ x ∈ G, x ∈ G') (hn : now ≤ now') {r : RowV} (h : termR G now r = true) : termR G' now' r = true := by
  unfold termR at h ⊢
  cases hq : r.refs.getLast? with
  | none => rfl
  | some q =>
    rw [hq] at h
    simp only [Bool.or_eq_true, decide_eq_true_eq] at h ⊢
    rcases h with h | h
    · exact .inl (hG _ h)
    · exact .inr (Int.le_trans h hn)
theorem dec_mono {L : List RowV} {G G' : List IdB} {now now' : Int} (hG : ∀ x ∈ G, x ∈ G') (hn : now ≤ now') {n m : Nat} (hnm : n ≤ m) {r : RowV} (h : dec L G now n r = true) : dec L G' now' m r = true := by
  obtain ⟨k, hk, s, h1, h2, h3⟩ := (dec_iff _ _).1 h
  exact (dec_iff _ _).2 ⟨k, Nat.lt_of_lt_of_le hk hnm, s, h1, h2, termR_mono hG hn h3⟩

set_option maxRecDepth 100000 in
set_option maxHeartbeats 2000000 in
theorem Monotone_law {w : World} (v u t : Value) (L : List RowV) (G M : List IdB) (now later : Int) (hv : RowsAt w v L) (hu : ListAt idE w u G) (ht : ListAt idE w t M) :
    Calls Try.prog 4 #[v, u, t, .int .i64 now, .int .i64 later] w (fun e w' => e = .returned (.bool true) ∧ Below w.heap.size w w') := by
  obtain ⟨va, vc, rfl⟩ := hv.l.form
  obtain ⟨ua, uc, rfl⟩ := hu.form
  obtain ⟨N, hN⟩ : ∃ N, L.length = N := ⟨_, rfl⟩
  obtain ⟨ta, tc, rfl⟩ := ht.form
  obtain ⟨K, hK⟩ : ∃ K, G.length = K := ⟨_, rfl⟩
  obtain ⟨J, hJ⟩ : ∃ J, M.length = J := ⟨_, rfl⟩
  rw [hK] at hu ⊢
  rw [hJ] at ht ⊢
  have HT := Lib.hid ht
  have HK := Lib.hid hK
  have HJ := Lib.hid hJ
  have hlm : L.length ≤ 9223372036854775807 := by
    obtain ⟨a, c, e, h1, h2, _⟩ := hv.l.ex
    unfold maxLen at h2
    omega
  have HLM := Lib.hid hlm
  rw [hN] at hv ⊢
  have HV := Lib.hid hv
  have HU := Lib.hid hu
  have HN := Lib.hid hN
  clear hv hu hN hlm ht hK hJ
  go_enter Try.func4, Try.ntmps4
  go_wp2_with fail
  refine known_any.mono ?_
  rintro e wa ⟨rfl, hba⟩
  have HBA := Lib.hid hba
  clear hba
  go_wp2_with fail
  refine (few_any _ _ L G (HN.out.symm ▸ HV.out.below HBA.out) (HK.out.symm ▸ HU.out.below HBA.out) HLM.out).mono ?_
  rintro e wb ⟨rfl, hbb⟩
  have HBB := Lib.hid (HBA.out.trans (hbb.mono HBA.out.size))
  clear hbb
  obtain ⟨bf, hbf⟩ : ∃ bf, fewB L G = bf := ⟨_, rfl⟩
  rw [hbf]
  have HFEW := Lib.hid hbf
  clear hbf
  cases bf with
  | false =>
    go_wp2_with fail
    refine known_any.mono ?_
    rintro e wz ⟨rfl, hbz⟩
    have HBZ := Lib.hid hbz
    clear hbz
    go_wp2_with fail
    exact bodyPost_ret (v := .bool true) (by simp [results, Try.results4, go_sem]) rfl ⟨rfl, (HBB.out).trans (HBZ.out.mono (HBB.out).size)⟩
  | true =>
  obtain ⟨hf1, hf2, hf3⟩ := few_iff.1 HFEW.out
  have HF1 := Lib.hid hf1
  have HF2 := Lib.hid hf2
  have HF3 := Lib.hid hf3
  have HLN := Lib.hid (show L.length < 1000000000 by omega)
  have HGN := Lib.hid (show G.length < 1000000000 by omega)
  clear hf1 hf2 hf3
  by_cases hm30 : 30 < J
  · have hmI : (30 : Int) < (J : Int) := by omega
    go_wp2_with fail
    refine known_any.mono ?_
    rintro e wz ⟨rfl, hbz⟩
    have HBZ := Lib.hid hbz
    clear hbz
    go_wp2_with fail
    exact bodyPost_ret (v := .bool true) (by simp [results, Try.results4, go_sem]) rfl ⟨rfl, (HBB.out).trans (HBZ.out.mono (HBB.out).size)⟩
  have hmI : ¬ (30 : Int) < (J : Int) := by omega
  go_wp2_with fail
  refine (check_any _ L (HN.out.symm ▸ HV.out.below HBB.out) HLN.out).mono ?_
  rintro e wc ⟨rfl, hbc⟩
  have HBC := Lib.hid ((HBB.out).trans (hbc.mono (HBB.out).size))
  clear hbc
  obtain ⟨ck, hck⟩ : ∃ ck, chkL L = ck := ⟨_, rfl⟩
  rw [hck]
  have HCHK := Lib.hid hck
  clear hck
  rcases Decidable.em (¬ ck = 0) with hc0 | hc0
  · have hcb : (ck == 0) = false := by simpa using hc0
    have hcb2 : (ck != 0) = true := by simp [bne, hcb]
    go_wp2_with fail
    refine known_any.mono ?_
    rintro e wz ⟨rfl, hbz⟩
    have HBZ := Lib.hid hbz
    clear hbz
    go_wp2_with fail
    exact bodyPost_ret (v := .bool true) (by simp [results, Try.results4, go_sem]) rfl ⟨rfl, (HBC.out).trans (HBZ.out.mono (HBC.out).size)⟩
  obtain rfl : ck = 0 := Decidable.of_not_not hc0
  clear hc0
  obtain ⟨hlen, hdt, hrf, hnd⟩ := chk_zero HCHK.out
  have HDT := Lib.hid hdt
  have HRF := Lib.hid hrf
  have HND := Lib.hid hnd
  clear hlen hdt hrf hnd
  by_cases hlat : later < now
  · go_wp2_with fail
    refine known_any.mono ?_
    rintro e wz ⟨rfl, hbz⟩
    have HBZ := Lib.hid hbz
    clear hbz
    go_wp2_with fail
    exact bodyPost_ret (v := .bool true) (by simp [results, Try.results4, go_sem]) rfl ⟨rfl, (HBC.out).trans (HBZ.out.mono (HBC.out).size)⟩
  have HLAT := Lib.hid (show now ≤ later by omega)
  have hK30 : K ≤ 30 := by have := HF3.out; have := HK.out; omega
  go_wp2_with fail
  refine (Shown_any _ _ L G now (HN.out.symm ▸ HV.out.below HBC.out) (HK.out.symm ▸ HU.out.below HBC.out) HLN.out HGN.out).mono ?_
  rintro e w5 ⟨x, rfl, hox, hb5⟩
  rw [HCHK.out, if_pos rfl] at hox
  rw [HCHK.out]
  obtain ⟨X, hX⟩ : ∃ X, sortB ((L.filter fun r => shB L G now r).map (·.id)) = X := ⟨_, rfl⟩
  rw [hX] at hox
  have HX := Lib.hid hX
  have HXL := Lib.hid (show X.length ≤ L.length from hX ▸ shown_len _ _)
  have hox := hox.at_
  obtain ⟨xa, xc, rfl⟩ := hox.form
  obtain ⟨NX, hNX⟩ : ∃ NX, X.length = NX := ⟨_, rfl⟩
  rw [hNX] at hox ⊢
  have HNX := Lib.hid hNX
  have HOX := Lib.hid hox
  have HB5 := Lib.hid (HBC.out.trans (hb5.mono HBC.out.size))
  clear hox hb5 hX hNX
  go_wp2_with (refine wpList_lit0 idE rfl (some 49) rfl rfl ?_; refine Stop.on ?_)
  refine Stop.go ?_
  intro wl hol hbl
  have HOL := Lib.hid hol
  have HBL := Lib.hid hbl
  clear hol hbl
  try simp only [Act.put, List.setIfInBounds_toArray, List.set_cons_zero, List.set_cons_succ]
  go_wp2_with (at_builtin; refine wpList_appL idE rfl (n := 0) (m := K) (.tmp 49) (.tmp 50) rfl rfl HOL.out rfl (HU.out.below (HB5.out.trans (HBL.out.mono HB5.out.size))) rfl HK.out (by omega) HBL.out.size ?_; refine Stop.on ?_)
  refine Stop.go ?_
  intro a1 c1 wm ho1 hg1 hat
  have hb1 := HOL.out.grown_below hg1 HBL.out.size
  try simp only [Nat.zero_add, List.nil_append] at ho1
  try simp only [Nat.zero_add]
  have HO1 := Lib.hid ho1
  have HBM := Lib.hid (HBL.out.trans hb1)
  clear ho1 hg1 hb1 hat HOL HBL
  try simp only [Act.put, List.setIfInBounds_toArray, List.set_cons_zero, List.set_cons_succ]
  go_wp2_with (at_builtin; refine wpList_appL idE rfl (n := K) (m := J) (.tmp 51) (.tmp 52) rfl rfl HO1.out rfl (HT.out.below (HB5.out.trans (HBM.out.mono HB5.out.size))) HK.out HJ.out (by omega) HBM.out.size ?_; refine Stop.on ?_)
  refine Stop.go ?_
  intro a2 c2 wn ho2 hg2 hat
  have hb2 := HO1.out.grown_below hg2 HBM.out.size
  have HO2 := Lib.hid ho2.at_
  have HBN := Lib.hid (HBM.out.trans hb2)
  have HBN0 := Lib.hid (HB5.out.trans ((HBM.out.trans hb2).mono HB5.out.size))
  clear ho2 hg2 hb2 hat HO1 HBM
  try simp only [Act.put, List.setIfInBounds_toArray, List.set_cons_zero, List.set_cons_succ]
  go_wp2_with fail
  refine (Shown_any _ _ L (G ++ M) later (HN.out.symm ▸ HV.out.below HBN0.out) HO2.out HLN.out (by rw [List.length_append, HK.out, HJ.out]; omega)).mono ?_
  rintro e w6 ⟨y, rfl, hoy, hb6⟩
  rw [HCHK.out, if_pos rfl] at hoy
  rw [HCHK.out]
  obtain ⟨Y, hY⟩ : ∃ Y, sortB ((L.filter fun r => shB L (G ++ M) later r).map (·.id)) = Y := ⟨_, rfl⟩
  rw [hY] at hoy
  have HXY := Lib.hid (show ∀ a ∈ X, a ∈ Y from fun a ha => by
    rw [← HX.out, mem_sorted] at ha
    obtain ⟨r, h1, h2, h3⟩ := ha
    rw [← hY, mem_sorted]
    exact ⟨r, h1, dec_mono (fun x hx => List.mem_append_left _ hx) HLAT.out (Nat.le_refl _) h2, h3⟩)
  have HYL := Lib.hid (show Y.length ≤ L.length from hY ▸ shown_len _ _)
  have HOY := Lib.hid hoy.at_
  have HB56 := Lib.hid (HBN.out.trans (hb6.mono HBN.out.size))
  have HB6 := Lib.hid (HBN0.out.trans (hb6.mono HBN0.out.size))
  have hX30 : NX ≤ 30 := by have := HXL.out; have := HNX.out; have := HF2.out; omega
  clear hoy hb6 hY
  go_wp2_with fail
  go_loopw [15] (fun iv wr => ∃ i : Nat, i ≤ NX ∧ iv = .int .i64 (i : Int) ∧ Below w6.heap.size w6 wr) (fun iv _ => NX - (intOf iv).toNat)
  case atStart => exact ⟨0, Nat.zero_le _, rfl, Below.refl _ _⟩
  case round =>
    obtain ⟨i, hi, rfl, hB⟩ := hrel
    have HB := Lib.hid hB
    have HBW := Lib.hid (HB6.out.trans (hB.mono HB6.out.size))
    clear hB
    by_cases hlt : i < NX
    · have hiI : (i : Int) < (NX : Int) := by omega
      have hiI0 : (0 : Int) ≤ (i : Int) := by omega
      have hlt' : i < X.length := by rw [HNX.out]; exact hlt
      obtain ⟨xg, xo, rfl, hxg, hxr⟩ := (HOX.out.below (HB56.out.trans (HB.out.mono HB56.out.size))).get (i := i) hlt'
      have hxr : wr.rangeAt xg (xo + i * 32) (bvs X[i].1) := hxr
      have hmem : X[i] ∈ Y := HXY.out _ (List.getElem_mem hlt')
      obtain ⟨q, hq⟩ : ∃ q, X[i] = q := ⟨_, rfl⟩
      rw [hq] at hxr hmem
      have HRQ := Lib.hid hxr
      have HSQ := Lib.hid (sizeId q)
      have HMEM := Lib.hid hmem
      clear hxr hmem hq
      go_wp2_with (with_reducible refine wpList_load_mid rfl 31 _ rfl xg (xo + i * 32) rfl (bvs q.1) _ HRQ.out Try.underlying31 rfl HSQ.out ?_)
      refine (has_any _ Y q (HOY.out.below HB.out) (by have := HYL.out; have := HLN.out; omega)).mono ?_
      rintro e w7 ⟨rfl, hb7⟩
      have HB7 := Lib.hid (HB.out.trans (hb7.mono HB.out.size))
      clear hb7
      rw [decide_eq_true HMEM.out]
      go_wp2_with fail
      go_roundw
      case rel => exact ⟨i + 1, by omega, by go_num, HB7.out⟩
      case measure => simp [intOf]; omega
    · obtain rfl : NX = i := by omega
      go_wp2_with fail
      exact bodyPost_ret (v := .bool true) (by simp [results, Try.results4, go_sem]) rfl ⟨rfl, HBW.out⟩

end Go.Proofs.Ytjjanjhoaiannaa
