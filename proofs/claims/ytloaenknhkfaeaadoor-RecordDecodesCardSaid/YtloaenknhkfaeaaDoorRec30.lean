/- Records: the law Decodes. -/
import Derived.Test.YtloaenknhkfaeaaDoorRec26
namespace Go.Proofs.YtloaenknhkfaeaaDoor
open Go.RowKit
set_option linter.unusedVariables false
set_option linter.unusedSimpArgs false

set_option linter.unusedSimpArgs false
theorem zeroCells1 (n : Nat) : (Builtin.zeroCells #[Value.int .u8 0] n) = (List.replicate n (Value.int .u8 0)).toArray := by
  apply Array.ext'
  unfold Builtin.zeroCells
  apply List.ext_getElem <;> simp
  intro j h1; simp [Nat.mod_one]
theorem run_append_zeros {P : Program} (w : World) (base : Nat) (t u ty e : TypeId) (kk : IntKind) (i : TypeInfo) (ht : P.underlying t = some (.slice e)) (hu : P.underlying u = some (.int kk)) (hi : P.info? e = some i) (hz : i.zero = some (.int .u8 0))
    (hsize : i.size = 1) (hby : i.bytes = 1) (g n cap : Nat) (xs : List Value) (hown : w.ownsRow base e 1 (.slice (some ⟨g, 0, none⟩) n cap) n xs) (m : Nat) (hm : n + m ≤ 1000000000) (hm0 : 0 < m) (hbase : base ≤ w.heap.size) :
    ∃ v' w', (Builtin.append_ #[t, u] ty #[.slice (some ⟨g, 0, none⟩) n cap, .int .i64 (m : Int)]).run P w = .ok v' w' ∧ w'.ownsRow base e 1 v' (n + m) (xs ++ List.replicate m (.int .u8 0)) ∧ w.grownBy w' (some g) := by
  have hw : IntKind.i64.wrap (m : Int) = (m : Int) := by rw [IntKind.wrap]; unfold IntKind.bits; simp; omega
  have h0 : ¬ (m : Int) < 0 := by omega
  have h0' : ¬ (m : Int) ≤ 0 := by omega
  have h0'' : ¬ m = 0 := by omega
  have hb : ¬ (281474976710656 : Int) < (m : Int) := by omega
  rcases hown.2 with ⟨h, _⟩ | ⟨g', cap', cur, he, hbg, hg, hnc, hcm, hcs, htake⟩
  · cases h
  cases he
  rw [Nat.mul_one] at hcs htake
  have hlx : xs.length = n := by simpa using hown.1
  by_cases hroom : n + m ≤ cap
  · have hst := run_storeCells_at P g n e (List.replicate m (.int .u8 0)) 0 cur w hg (by simp; omega) (by intro u hu; rw [List.eq_of_mem_replicate hu]; rfl)
    simp only [Nat.add_zero] at hst
    refine ⟨.slice (some ⟨g, 0, none⟩) (n + m) cap, w.setRow g (cur.toList.take n ++ List.replicate m (Value.int .u8 0) ++ cur.toList.drop (n + m)).toArray, ?_, ?_, ?_⟩
    · simp [Builtin.append_, run_underlying ht, run_underlying hu, sizeOf, typeInfo, hi, hsize, hby, asInt, asIntOf, hw, h0, h0', h0'', hb, hroom, zeroValue, hz, Addr.add_lit, Value.cells, zeroCells1, hst]
    · refine ⟨by simp [hlx], .inr ⟨g, cap, _, rfl, hbg, setRow_heap w g cur _ e _ hg, hroom, hcm, ?_, ?_⟩⟩
      · simp; omega
      · rw [htake, Nat.mul_one]
        have : n + m = (xs ++ List.replicate m (Value.int .u8 0)).length := by simp [hlx]
        rw [this]
        exact List.take_left
    · exact ⟨rfl, rfl, rfl, by simp, fun k _ hk => setRow_other w g k _ (fun e => hk (by rw [e]))⟩
  · have hs1 : ¬ (9223372036854775807 : Int) < (n : Int) + (m : Int) := by omega
    have hs2 : ¬ (281474976710656 : Nat) < Builtin.nextslicecap (n + m) cap := by
      have := growslice_fits (bytes := 1) (show cap < n + m by omega) (by omega)
      omega
    have hfc := run_firstCells_some (P := P) w.drew 1 n ⟨g, 0, none⟩ n cap xs (by simpa using hlx) (by
      intro j u hu
      have hadd : (⟨g, 0, none⟩ : Addr).add j = ⟨g, j, none⟩ := by unfold Addr.add; split <;> simp_all
      rw [hadd, cell_of_row w.drew g j cur e (0, 0) hg]
      rw [← htake, List.getElem?_take] at hu
      split at hu
      · simpa using hu
      · cases hu)
    refine ⟨.slice (some ⟨w.heap.size, 0, none⟩) (n + m) (grownCap w (n + m) cap e), w.drew.alloc (.cells (xs ++ (List.replicate m (Value.int .u8 0) ++ List.replicate (grownCap w (n + m) cap e - (n + m)) (Value.int .u8 0))).toArray e), ?_, ?_, ?_⟩
    · simp [Builtin.append_, run_underlying ht, run_underlying hu, sizeOf, typeInfo, hi, hsize, hby, asInt, asIntOf, hw, h0, h0', h0'', hb, hroom, hs1, hs2, zeroValue, hz, Addr.add_lit, Value.cells, zeroCells1, hfc, Question.forced, newRow, grownCap]
      congr 2
      apply Array.ext'
      simp
    · have hge := grownCap_ge w (n + m) cap e
      refine ⟨by simp [hlx], .inr ⟨w.heap.size, _, _, rfl, hbase, heap_alloc_new w.drew _, hge, grownCap_le_maxLen w (n + m) cap e (by unfold maxLen; omega), ?_, ?_⟩⟩
      · simp; omega
      · rw [Nat.mul_one, List.toList_toArray, ← List.append_assoc]
        have : n + m = (xs ++ List.replicate m (Value.int .u8 0)).length := by simp [hlx]
        rw [this]
        exact List.take_left
    · exact ⟨rfl, rfl, rfl, by simp, fun k hk _ => Below.heap_alloc w.drew _ k hk⟩

theorem wpList_appZeros {w : World} {ops : Array Oper} {rest : List Oper} {o : Oper} {a : Act} {Q : Exit → Act → World → Prop} (hgd : o.guard = none) (s x : Operand) (ho : o.op = .call { callee := .builtin .append, args := #[s, x], argTypes := #[22, 3] })
    {B g n cap m : Nat} {l : List UInt8} (hs : a.eval s = .slice (some ⟨g, 0, none⟩) n cap) (hown : w.ownsRow B 5 1 (.slice (some ⟨g, 0, none⟩) n cap) n (bvs l)) (hx : a.eval x = .int .i64 (m : Int)) (hm : n + m ≤ 1000000000) (hm0 : 0 < m) (hB : B ≤ w.heap.size)
    (h : ∀ a' c' w', w'.ownsRow B 5 1 (.slice a' (n + m) c') (n + m) (bvs (l ++ List.replicate m 0)) → w.grownBy w' (some g) → wpList Tryd.prog ops Q rest (a.put o.dst (.slice a' (n + m) c')) w') : wpList Tryd.prog ops Q (o :: rest) a w := by
  refine wpList_plain hgd fun _ hK => ?_
  obtain ⟨i0, hi, hz0, hz1, hz2⟩ := info_parts infoByte
  obtain ⟨v', w', hr, h2, h3⟩ := run_append_zeros (P := Tryd.prog) w B 22 3 o.type 5 .i64 i0 Tryd.underlying22 Tryd.underlying3 hi hz0 hz1 hz2 g n cap (bvs l) hown m hm hm0 hB
  obtain ⟨a', c', rfl⟩ := ownsRow_form h2
  unfold Oper.wp execOp
  simp only [ho, resolve, invoke, builtin, Sem.run_bind, Sem.run_pure, Result.andThen_ok, List.map_toArray, List.map_cons, List.map_nil, hs, hx, hr]
  refine hK _ _ (h a' c' w' ?_ h3)
  rw [bvs_append]
  have e : bvs (List.replicate m 0) = List.replicate m (Value.int .u8 0) := by unfold bvs; rw [List.map_replicate]; rfl
  rw [e]; exact h2

set_option maxRecDepth 100000 in
set_option maxHeartbeats 2000000 in
theorem RecordDecodes_any {w : World} (S : SecV) (hS : S.At w) (cut : Int) (hc1 : -9223372036854775808 ≤ cut) (hc2 : cut ≤ 9223372036854775807) (hK : KAt w) :
    Calls Tryd.prog 4 #[.agg S.cells.toArray, .int .i64 cut] w fun e w' => e = .returned (.bool true) ∧ Below w.heap.size w w' := by
  obtain ⟨w1, hw1⟩ : ∃ w1, w.alloc (.cells S.cells.toArray 40) = w1 := ⟨_, rfl⟩
  have hb1 : Below w.heap.size w w1 := hw1 ▸ (Below.refl _ w).alloc (Nat.le_refl _) _
  have hsc := sector_at S (hS.below hb1)
  have HSC := Lib.hid hsc
  have HW1 := Lib.hid hw1
  have HB1 := Lib.hid hb1
  have HK := Lib.hid hK
  clear hsc hw1 hb1 hK hS
  unfold SecV.cells at HW1 HSC ⊢
  go_enter Tryd.func4, Tryd.ntmps4
  go_wp2_with fail
  rw [HW1.out]
  refine HSC.out.mono ?_
  rintro e w2 ⟨u, L, rfl, hl, hu, hb2⟩
  obtain ⟨ua, uc, rfl⟩ := ownsRow_form hu
  obtain ⟨ug, rfl, _, hug1, hug2⟩ := own_addr hu (by decide)
  have huc := (own_bytes hu).len.2
  have HU := Lib.hid hu
  have HL := Lib.hid hl
  have HS12 := Lib.hid hb2.size
  have HUG := Lib.hid (Nat.le_trans HB1.out.size hug1)
  clear hug1 hug2
  have HB2 := Lib.hid (HB1.out.trans (hb2.mono HB1.out.size))
  clear hu hl hb2 HSC HW1
  by_cases h1 : 0 < cut
  · have h1n : ¬ cut < 0 := by omega
    by_cases h2 : cut < 256
    · obtain ⟨c, rfl⟩ := Int.eq_ofNat_of_zero_le (Int.le_of_lt h1)
      have hsl := slice_cut (some ⟨ug, 0, none⟩) 256 uc c (by omega) (fun e => by cases e)
      have hby : BytesAt w2 (fun k => w1.heap.size ≤ k) (.slice (some ⟨ug, 0, none⟩) c uc) (L.take c) := (BytesN.take (own_bytesN HU.out) c (by omega)).at_
      have hdec := DecodePart_any (L.take c) _ hby (HK.out.below HB2.out HK.out.size)
      have HBY := Lib.hid hby
      have HDEC := Lib.hid hdec
      clear hdec
      obtain ⟨d, hd'⟩ : ∃ d, decP (L.take c) = d := ⟨_, rfl⟩
      obtain ⟨E, hE⟩ : ∃ E, decE (L.take c) = E := ⟨_, rfl⟩
      obtain ⟨N, hN⟩ : ∃ N, d.bytes.length = N := ⟨_, rfl⟩
      have HD := Lib.hid hd'
      have HE := Lib.hid hE
      have HN := Lib.hid hN
      clear hd' hE hN
      go_wp2_with fail
      refine HDEC.out.mono ?_
      intro e w4 hd
      obtain ⟨a4, c4, rfl, ho4, hb4⟩ := hd.parts
      rw [HD.out, HE.out]
      rw [HD.out] at ho4
      simp only [HN.out] at ho4 ⊢
      obtain ⟨w5, hw5⟩ : ∃ w5, w4.alloc (.cells #[.int .i64 d.kind, .int .i64 d.gen, .int .i64 d.num, .int .i64 d.idx, .int .i64 d.cnt, .slice a4 N c4] 25) = w5 := ⟨_, rfl⟩
      have hb5 : Below w4.heap.size w4 w5 := hw5 ▸ (Below.refl _ _).alloc (Nat.le_refl _) _
      have hx5 : w5.heap[w4.heap.size]? = some (.cells #[.int .i64 d.kind, .int .i64 d.gen, .int .i64 d.num, .int .i64 d.idx, .int .i64 d.cnt, .slice a4 N c4] 25 (0, 0)) := by rw [← hw5]; exact heap_alloc_new _ _
      have hdec := rDecode_any (L.take c) _ ((HBY.out.below hb4).below hb5)
      have HDEC5 := Lib.hid hdec
      have HW5 := Lib.hid hw5
      have HX5 := Lib.hid hx5
      have HO5 := Lib.hid (own_kept ho4 hb5)
      have HB5 := Lib.hid (HB2.out.trans ((hb4.trans (hb5.mono hb4.size)).mono HB2.out.size))
      clear hd ho4 hb4 hw5 hb5 hx5 hdec
      go_wp2_with fail
      rw [HW5.out]
      refine HDEC5.out.mono ?_
      intro e w6 hd
      obtain ⟨a6, c6, rfl, ho6, hb6⟩ := hd.parts
      rw [HD.out, HE.out]
      rw [HD.out] at ho6
      simp only [HN.out] at ho6 ⊢
      obtain ⟨w7, hw7⟩ : ∃ w7, w6.alloc (.cells #[.int .i64 d.kind, .int .i64 d.gen, .int .i64 d.num, .int .i64 d.idx, .int .i64 d.cnt, .slice a6 N c6] 24) = w7 := ⟨_, rfl⟩
      have hb7 : Below w6.heap.size w6 w7 := hw7 ▸ (Below.refl _ _).alloc (Nat.le_refl _) _
      have hx7 : w7.heap[w6.heap.size]? = some (.cells #[.int .i64 d.kind, .int .i64 d.gen, .int .i64 d.num, .int .i64 d.idx, .int .i64 d.cnt, .slice a6 N c6] 24 (0, 0)) := by rw [← hw7]; exact heap_alloc_new _ _
      have hbb : Below w5.heap.size w5 w7 := hb6.trans (hb7.mono hb6.size)
      have hx57 := (hbb.block _ (Array.getElem?_eq_some_iff.1 HX5.out).1).trans HX5.out
      have HW7 := Lib.hid hw7
      have HP := Lib.hid (own_bytes (own_kept HO5.out hbb))
      have HQ := Lib.hid (own_bytes (own_kept ho6 hb7))
      have HB7 := Lib.hid (HB5.out.trans (hbb.mono HB5.out.size))
      have hcell : ∀ w' : World, Below w7.heap.size w7 w' → w'.cell? ⟨w4.heap.size, 0, none⟩ = some (.int .i64 d.kind) ∧ w'.cell? ⟨w4.heap.size, 1, none⟩ = some (.int .i64 d.gen) ∧ w'.cell? ⟨w4.heap.size, 2, none⟩ = some (.int .i64 d.num) ∧ w'.cell? ⟨w4.heap.size, 3, none⟩ = some (.int .i64 d.idx) ∧ w'.cell? ⟨w4.heap.size, 4, none⟩ = some (.int .i64 d.cnt) ∧ w'.cell? ⟨w4.heap.size, 5, none⟩ = some (.slice a4 N c4) ∧ w'.cell? ⟨w6.heap.size, 0, none⟩ = some (.int .i64 d.kind) ∧ w'.cell? ⟨w6.heap.size, 1, none⟩ = some (.int .i64 d.gen) ∧ w'.cell? ⟨w6.heap.size, 2, none⟩ = some (.int .i64 d.num) ∧ w'.cell? ⟨w6.heap.size, 3, none⟩ = some (.int .i64 d.idx) ∧ w'.cell? ⟨w6.heap.size, 4, none⟩ = some (.int .i64 d.cnt) ∧ w'.cell? ⟨w6.heap.size, 5, none⟩ = some (.slice a6 N c6) := by
        intro w' hb
        have h0 := (hb.block _ (Array.getElem?_eq_some_iff.1 hx57).1).trans hx57
        have h1 := (hb.block _ (Array.getElem?_eq_some_iff.1 hx7).1).trans hx7
        refine ⟨?_, ?_, ?_, ?_, ?_, ?_, ?_, ?_, ?_, ?_, ?_, ?_⟩ <;> first | (rw [cell_of_row _ _ _ _ _ _ h0]; rfl) | (rw [cell_of_row _ _ _ _ _ _ h1]; rfl)
      have HCELL := Lib.hid hcell
      have hEI : (E == E) = true := by simp
      clear hd ho6 hb6 hw7 hb7 hx7 hbb hx57 hcell
      go_wp2_with fail
      rw [HW7.out]
      refine wp_region_noPanic ?_
      refine wp_region_H (Below w7.heap.size w7) (by kernel_rfl) ?_
      have hS0 : (Below w7.heap.size w7) w7.drew := (Below.refl _ _).drew
      obtain ⟨wd, hwd⟩ : ∃ wd, w7.drew = wd := ⟨_, rfl⟩
      rw [hwd] at hS0 ⊢
      clear hwd
      refine wpAnyH_do (i := 0) (by kernel_rfl) rfl rfl (fun K hK => ?_)
      go_simp
      go_at_call 18
      refine (known_any (HK.out.below (HB7.out.trans (hS0.mono HB7.out.size)) HK.out.size)).mono ?_
      rintro e wx ⟨rfl, hbwx⟩
      have hSwx := hS0.trans (hbwx.mono hS0.size)
      refine hK _ _ (hSwx) ?_
      clear hK K
      try simp only [Act.put, List.setIfInBounds_toArray, List.set_cons_zero, List.set_cons_succ]
      refine wpAnyH_takeI (i := 1) (v := ?v1) rfl (by kernel_rfl) (by kernel_rfl) (by kernel_rfl) (fun _ _ _ h => h) (yieldsIf_run rfl (fun w' hw' => ?y1)) hSwx ?_
      case y1 => first | (go_simp; rfl) | (go_simp; done) | rfl
      simp only [Act.put, List.setIfInBounds_toArray, List.set_cons_zero, List.set_cons_succ]
      refine wpAnyH_takeI (i := 2) (v := ?v2) rfl (by kernel_rfl) (by kernel_rfl) (by kernel_rfl) (fun _ _ _ h => h) (yieldsIf_want rfl (fun w' hw' => ?y2)) hSwx ?_
      case y2 => first | (go_simp; rfl) | (go_simp; done) | rfl
      simp only [Act.put, List.setIfInBounds_toArray, List.set_cons_zero, List.set_cons_succ]
      refine wpAnyH_takeI (i := 3) (v := ?v3) rfl (by kernel_rfl) (by kernel_rfl) (by kernel_rfl) (fun _ _ _ h => h) (yieldsIf_want rfl (fun w' hw' => ?y3)) hSwx ?_
      case y3 => first | (go_simp; rfl) | (go_simp; done) | rfl
      simp only [Act.put, List.setIfInBounds_toArray, List.set_cons_zero, List.set_cons_succ]
      refine wpAnyH_takeI (i := 4) (v := ?v4) rfl (by kernel_rfl) (by kernel_rfl) (by kernel_rfl) (fun _ _ _ h => h) (yieldsIf_want rfl (fun w' hw' => ?y4)) hSwx ?_
      case y4 => first | (go_simp; rfl) | (go_simp; done) | rfl
      simp only [Act.put, List.setIfInBounds_toArray, List.set_cons_zero, List.set_cons_succ]
      refine wpAnyH_takeI (i := 5) (v := ?v5) rfl (by kernel_rfl) (by kernel_rfl) (by kernel_rfl) (fun _ _ _ h => h) (yieldsIf_run rfl (fun w' hw' => ?y5)) hSwx ?_
      case y5 => first | (go_simp; rfl) | (go_simp; done) | rfl
      simp only [Act.put, List.setIfInBounds_toArray, List.set_cons_zero, List.set_cons_succ]
      refine wpAnyH_takeI (i := 6) (v := ?v6) rfl (by kernel_rfl) (by kernel_rfl) (by kernel_rfl) (fun _ _ _ h => h) (yieldsIf_run rfl (fun w' hw' => ?y6)) hSwx ?_
      case y6 => first | (go_simp; rfl) | (go_simp; done) | rfl
      simp only [Act.put, List.setIfInBounds_toArray, List.set_cons_zero, List.set_cons_succ]
      refine wpAnyH_takeI (i := 7) (v := ?v7) rfl (by kernel_rfl) (by kernel_rfl) (by kernel_rfl) (fun _ _ _ h => h) (yieldsIf_want rfl (fun w' hw' => ?y7)) hSwx ?_
      case y7 => (obtain ⟨z0, z1, z2, z3, z4, z5, z6, z7, z8, z9, z10, z11⟩ := HCELL.out w' hw'; clear hw'; first | (go_simp; rfl) | (go_simp; done))
      simp only [Act.put, List.setIfInBounds_toArray, List.set_cons_zero, List.set_cons_succ]
      refine wpAnyH_takeI (i := 9) (v := ?v8) rfl (by kernel_rfl) (by kernel_rfl) (by kernel_rfl) (fun _ _ _ h => h) (yieldsIf_want rfl (fun w' hw' => ?y8)) hSwx ?_
      case y8 => (obtain ⟨z0, z1, z2, z3, z4, z5, z6, z7, z8, z9, z10, z11⟩ := HCELL.out w' hw'; clear hw'; first | (go_simp; rfl) | (go_simp; done))
      simp only [Act.put, List.setIfInBounds_toArray, List.set_cons_zero, List.set_cons_succ]
      refine wpAnyH_want (i := 8) (by kernel_rfl) rfl rfl (fun K hK => ?_)
      go_simp
      go_at_call 16
      refine (back_any d.kind d.gen d.num d.idx d.cnt a4 N c4 wx).mono ?_
      rintro e wy ⟨rfl, hbwy⟩
      have hSwy := hSwx.trans (hbwy.mono hSwx.size)
      refine hK _ _ (hSwy) ?_
      clear hK K
      try simp only [Act.put, List.setIfInBounds_toArray, List.set_cons_zero, List.set_cons_succ]
      refine wpAnyH_want (i := 10) (by kernel_rfl) rfl rfl (fun K hK => ?_)
      go_simp
      go_at_call 23
      refine (same_any d.kind d.gen d.num d.idx d.cnt a4 a6 N c4 N c6 d.bytes (HP.out.below hSwy) (HQ.out.below hSwy)).mono ?_
      rintro e wz ⟨rfl, hbwz⟩
      have hSwz := hSwy.trans (hbwz.mono hSwy.size)
      refine hK _ _ (hSwz) ?_
      clear hK K
      try simp only [Act.put, List.setIfInBounds_toArray, List.set_cons_zero, List.set_cons_succ]
      refine wpAnyH_takeI (i := 11) (v := ?v9) rfl (by kernel_rfl) (by kernel_rfl) (by kernel_rfl) (fun _ _ _ h => h) (yieldsIf_run rfl (fun w' hw' => ?y9)) hSwz ?_
      case y9 => first | (go_simp; rfl) | (go_simp; done) | rfl
      simp only [Act.put, List.setIfInBounds_toArray, List.set_cons_zero, List.set_cons_succ]
      refine wpAnyH_takeI (i := 12) (v := ?v10) rfl (by kernel_rfl) (by kernel_rfl) (by kernel_rfl) (fun _ _ _ h => h) (yieldsIf_run rfl (fun w' hw' => ?y10)) hSwz ?_
      case y10 => first | (go_simp; rfl) | (go_simp; done) | rfl
      simp only [Act.put, List.setIfInBounds_toArray, List.set_cons_zero, List.set_cons_succ]
      refine wpAnyH_done (by kernel_rfl) ?_ _
      refine NoPanic.normal ?_
      go_wp2_with fail
      go_ret
      exact ⟨rfl, HB7.out.trans (hSwz.mono HB7.out.size)⟩
    · have hby := own_bytes HU.out
      have hdec := DecodePart_any L _ hby (HK.out.below HB2.out HK.out.size)
      have HBY := Lib.hid hby
      have HDEC := Lib.hid hdec
      clear hdec
      obtain ⟨d, hd'⟩ : ∃ d, decP L = d := ⟨_, rfl⟩
      obtain ⟨E, hE⟩ : ∃ E, decE L = E := ⟨_, rfl⟩
      obtain ⟨N, hN⟩ : ∃ N, d.bytes.length = N := ⟨_, rfl⟩
      have HD := Lib.hid hd'
      have HE := Lib.hid hE
      have HN := Lib.hid hN
      clear hd' hE hN
      go_wp2_with fail
      refine HDEC.out.mono ?_
      intro e w4 hd
      obtain ⟨a4, c4, rfl, ho4, hb4⟩ := hd.parts
      rw [HD.out, HE.out]
      rw [HD.out] at ho4
      simp only [HN.out] at ho4 ⊢
      obtain ⟨w5, hw5⟩ : ∃ w5, w4.alloc (.cells #[.int .i64 d.kind, .int .i64 d.gen, .int .i64 d.num, .int .i64 d.idx, .int .i64 d.cnt, .slice a4 N c4] 25) = w5 := ⟨_, rfl⟩
      have hb5 : Below w4.heap.size w4 w5 := hw5 ▸ (Below.refl _ _).alloc (Nat.le_refl _) _
      have hx5 : w5.heap[w4.heap.size]? = some (.cells #[.int .i64 d.kind, .int .i64 d.gen, .int .i64 d.num, .int .i64 d.idx, .int .i64 d.cnt, .slice a4 N c4] 25 (0, 0)) := by rw [← hw5]; exact heap_alloc_new _ _
      have hdec := rDecode_any L _ ((HBY.out.below hb4).below hb5)
      have HDEC5 := Lib.hid hdec
      have HW5 := Lib.hid hw5
      have HX5 := Lib.hid hx5
      have HO5 := Lib.hid (own_kept ho4 hb5)
      have HB5 := Lib.hid (HB2.out.trans ((hb4.trans (hb5.mono hb4.size)).mono HB2.out.size))
      clear hd ho4 hb4 hw5 hb5 hx5 hdec
      go_wp2_with fail
      rw [HW5.out]
      refine HDEC5.out.mono ?_
      intro e w6 hd
      obtain ⟨a6, c6, rfl, ho6, hb6⟩ := hd.parts
      rw [HD.out, HE.out]
      rw [HD.out] at ho6
      simp only [HN.out] at ho6 ⊢
      obtain ⟨w7, hw7⟩ : ∃ w7, w6.alloc (.cells #[.int .i64 d.kind, .int .i64 d.gen, .int .i64 d.num, .int .i64 d.idx, .int .i64 d.cnt, .slice a6 N c6] 24) = w7 := ⟨_, rfl⟩
      have hb7 : Below w6.heap.size w6 w7 := hw7 ▸ (Below.refl _ _).alloc (Nat.le_refl _) _
      have hx7 : w7.heap[w6.heap.size]? = some (.cells #[.int .i64 d.kind, .int .i64 d.gen, .int .i64 d.num, .int .i64 d.idx, .int .i64 d.cnt, .slice a6 N c6] 24 (0, 0)) := by rw [← hw7]; exact heap_alloc_new _ _
      have hbb : Below w5.heap.size w5 w7 := hb6.trans (hb7.mono hb6.size)
      have hx57 := (hbb.block _ (Array.getElem?_eq_some_iff.1 HX5.out).1).trans HX5.out
      have HW7 := Lib.hid hw7
      have HP := Lib.hid (own_bytes (own_kept HO5.out hbb))
      have HQ := Lib.hid (own_bytes (own_kept ho6 hb7))
      have HB7 := Lib.hid (HB5.out.trans (hbb.mono HB5.out.size))
      have hcell : ∀ w' : World, Below w7.heap.size w7 w' → w'.cell? ⟨w4.heap.size, 0, none⟩ = some (.int .i64 d.kind) ∧ w'.cell? ⟨w4.heap.size, 1, none⟩ = some (.int .i64 d.gen) ∧ w'.cell? ⟨w4.heap.size, 2, none⟩ = some (.int .i64 d.num) ∧ w'.cell? ⟨w4.heap.size, 3, none⟩ = some (.int .i64 d.idx) ∧ w'.cell? ⟨w4.heap.size, 4, none⟩ = some (.int .i64 d.cnt) ∧ w'.cell? ⟨w4.heap.size, 5, none⟩ = some (.slice a4 N c4) ∧ w'.cell? ⟨w6.heap.size, 0, none⟩ = some (.int .i64 d.kind) ∧ w'.cell? ⟨w6.heap.size, 1, none⟩ = some (.int .i64 d.gen) ∧ w'.cell? ⟨w6.heap.size, 2, none⟩ = some (.int .i64 d.num) ∧ w'.cell? ⟨w6.heap.size, 3, none⟩ = some (.int .i64 d.idx) ∧ w'.cell? ⟨w6.heap.size, 4, none⟩ = some (.int .i64 d.cnt) ∧ w'.cell? ⟨w6.heap.size, 5, none⟩ = some (.slice a6 N c6) := by
        intro w' hb
        have h0 := (hb.block _ (Array.getElem?_eq_some_iff.1 hx57).1).trans hx57
        have h1 := (hb.block _ (Array.getElem?_eq_some_iff.1 hx7).1).trans hx7
        refine ⟨?_, ?_, ?_, ?_, ?_, ?_, ?_, ?_, ?_, ?_, ?_, ?_⟩ <;> first | (rw [cell_of_row _ _ _ _ _ _ h0]; rfl) | (rw [cell_of_row _ _ _ _ _ _ h1]; rfl)
      have HCELL := Lib.hid hcell
      have hEI : (E == E) = true := by simp
      clear hd ho6 hb6 hw7 hb7 hx7 hbb hx57 hcell
      go_wp2_with fail
      rw [HW7.out]
      refine wp_region_noPanic ?_
      refine wp_region_H (Below w7.heap.size w7) (by kernel_rfl) ?_
      have hS0 : (Below w7.heap.size w7) w7.drew := (Below.refl _ _).drew
      obtain ⟨wd, hwd⟩ : ∃ wd, w7.drew = wd := ⟨_, rfl⟩
      rw [hwd] at hS0 ⊢
      clear hwd
      refine wpAnyH_do (i := 0) (by kernel_rfl) rfl rfl (fun K hK => ?_)
      go_simp
      go_at_call 18
      refine (known_any (HK.out.below (HB7.out.trans (hS0.mono HB7.out.size)) HK.out.size)).mono ?_
      rintro e wx ⟨rfl, hbwx⟩
      have hSwx := hS0.trans (hbwx.mono hS0.size)
      refine hK _ _ (hSwx) ?_
      clear hK K
      try simp only [Act.put, List.setIfInBounds_toArray, List.set_cons_zero, List.set_cons_succ]
      refine wpAnyH_takeI (i := 1) (v := ?v11) rfl (by kernel_rfl) (by kernel_rfl) (by kernel_rfl) (fun _ _ _ h => h) (yieldsIf_run rfl (fun w' hw' => ?y11)) hSwx ?_
      case y11 => first | (go_simp; rfl) | (go_simp; done) | rfl
      simp only [Act.put, List.setIfInBounds_toArray, List.set_cons_zero, List.set_cons_succ]
      refine wpAnyH_takeI (i := 2) (v := ?v12) rfl (by kernel_rfl) (by kernel_rfl) (by kernel_rfl) (fun _ _ _ h => h) (yieldsIf_want rfl (fun w' hw' => ?y12)) hSwx ?_
      case y12 => first | (go_simp; rfl) | (go_simp; done) | rfl
      simp only [Act.put, List.setIfInBounds_toArray, List.set_cons_zero, List.set_cons_succ]
      refine wpAnyH_takeI (i := 3) (v := ?v13) rfl (by kernel_rfl) (by kernel_rfl) (by kernel_rfl) (fun _ _ _ h => h) (yieldsIf_want rfl (fun w' hw' => ?y13)) hSwx ?_
      case y13 => first | (go_simp; rfl) | (go_simp; done) | rfl
      simp only [Act.put, List.setIfInBounds_toArray, List.set_cons_zero, List.set_cons_succ]
      refine wpAnyH_takeI (i := 4) (v := ?v14) rfl (by kernel_rfl) (by kernel_rfl) (by kernel_rfl) (fun _ _ _ h => h) (yieldsIf_want rfl (fun w' hw' => ?y14)) hSwx ?_
      case y14 => first | (go_simp; rfl) | (go_simp; done) | rfl
      simp only [Act.put, List.setIfInBounds_toArray, List.set_cons_zero, List.set_cons_succ]
      refine wpAnyH_takeI (i := 5) (v := ?v15) rfl (by kernel_rfl) (by kernel_rfl) (by kernel_rfl) (fun _ _ _ h => h) (yieldsIf_run rfl (fun w' hw' => ?y15)) hSwx ?_
      case y15 => first | (go_simp; rfl) | (go_simp; done) | rfl
      simp only [Act.put, List.setIfInBounds_toArray, List.set_cons_zero, List.set_cons_succ]
      refine wpAnyH_takeI (i := 6) (v := ?v16) rfl (by kernel_rfl) (by kernel_rfl) (by kernel_rfl) (fun _ _ _ h => h) (yieldsIf_run rfl (fun w' hw' => ?y16)) hSwx ?_
      case y16 => first | (go_simp; rfl) | (go_simp; done) | rfl
      simp only [Act.put, List.setIfInBounds_toArray, List.set_cons_zero, List.set_cons_succ]
      refine wpAnyH_takeI (i := 7) (v := ?v17) rfl (by kernel_rfl) (by kernel_rfl) (by kernel_rfl) (fun _ _ _ h => h) (yieldsIf_want rfl (fun w' hw' => ?y17)) hSwx ?_
      case y17 => (obtain ⟨z0, z1, z2, z3, z4, z5, z6, z7, z8, z9, z10, z11⟩ := HCELL.out w' hw'; clear hw'; first | (go_simp; rfl) | (go_simp; done))
      simp only [Act.put, List.setIfInBounds_toArray, List.set_cons_zero, List.set_cons_succ]
      refine wpAnyH_takeI (i := 9) (v := ?v18) rfl (by kernel_rfl) (by kernel_rfl) (by kernel_rfl) (fun _ _ _ h => h) (yieldsIf_want rfl (fun w' hw' => ?y18)) hSwx ?_
      case y18 => (obtain ⟨z0, z1, z2, z3, z4, z5, z6, z7, z8, z9, z10, z11⟩ := HCELL.out w' hw'; clear hw'; first | (go_simp; rfl) | (go_simp; done))
      simp only [Act.put, List.setIfInBounds_toArray, List.set_cons_zero, List.set_cons_succ]
      refine wpAnyH_want (i := 8) (by kernel_rfl) rfl rfl (fun K hK => ?_)
      go_simp
      go_at_call 16
      refine (back_any d.kind d.gen d.num d.idx d.cnt a4 N c4 wx).mono ?_
      rintro e wy ⟨rfl, hbwy⟩
      have hSwy := hSwx.trans (hbwy.mono hSwx.size)
      refine hK _ _ (hSwy) ?_
      clear hK K
      try simp only [Act.put, List.setIfInBounds_toArray, List.set_cons_zero, List.set_cons_succ]
      refine wpAnyH_want (i := 10) (by kernel_rfl) rfl rfl (fun K hK => ?_)
      go_simp
      go_at_call 23
      refine (same_any d.kind d.gen d.num d.idx d.cnt a4 a6 N c4 N c6 d.bytes (HP.out.below hSwy) (HQ.out.below hSwy)).mono ?_
      rintro e wz ⟨rfl, hbwz⟩
      have hSwz := hSwy.trans (hbwz.mono hSwy.size)
      refine hK _ _ (hSwz) ?_
      clear hK K
      try simp only [Act.put, List.setIfInBounds_toArray, List.set_cons_zero, List.set_cons_succ]
      refine wpAnyH_takeI (i := 11) (v := ?v19) rfl (by kernel_rfl) (by kernel_rfl) (by kernel_rfl) (fun _ _ _ h => h) (yieldsIf_run rfl (fun w' hw' => ?y19)) hSwz ?_
      case y19 => first | (go_simp; rfl) | (go_simp; done) | rfl
      simp only [Act.put, List.setIfInBounds_toArray, List.set_cons_zero, List.set_cons_succ]
      refine wpAnyH_takeI (i := 12) (v := ?v20) rfl (by kernel_rfl) (by kernel_rfl) (by kernel_rfl) (fun _ _ _ h => h) (yieldsIf_run rfl (fun w' hw' => ?y20)) hSwz ?_
      case y20 => first | (go_simp; rfl) | (go_simp; done) | rfl
      simp only [Act.put, List.setIfInBounds_toArray, List.set_cons_zero, List.set_cons_succ]
      refine wpAnyH_done (by kernel_rfl) ?_ _
      refine NoPanic.normal ?_
      go_wp2_with fail
      go_ret
      exact ⟨rfl, HB7.out.trans (hSwz.mono HB7.out.size)⟩
  · by_cases h2 : cut < 0
    · by_cases h3 : -20 < cut
      · obtain ⟨c, hc⟩ := Int.eq_ofNat_of_zero_le (show 0 ≤ -cut by omega)
        have hc0 : 0 < c := by omega
        have hc20 : c < 20 := by omega
        have hneg : -cut = (c : Int) := hc
        clear hc
        go_wp2_with (at_builtin; refine wpList_appZeros rfl (.tmp 27) (.tmp 29) rfl rfl HU.out rfl (by omega) hc0 HS12.out ?_)
        intro a3 c3 w3 ho3 hg3
        have hby := own_bytes ho3
        have HB3 := Lib.hid (HB2.out.grown hg3 HB2.out.size (fun j hj => by cases hj; exact HUG.out))
        clear ho3 hg3 hneg
        have hdec := DecodePart_any (L ++ List.replicate c 0) _ hby (HK.out.below HB3.out HK.out.size)
        have HBY := Lib.hid hby
        have HDEC := Lib.hid hdec
        clear hdec
        obtain ⟨d, hd'⟩ : ∃ d, decP (L ++ List.replicate c 0) = d := ⟨_, rfl⟩
        obtain ⟨E, hE⟩ : ∃ E, decE (L ++ List.replicate c 0) = E := ⟨_, rfl⟩
        obtain ⟨N, hN⟩ : ∃ N, d.bytes.length = N := ⟨_, rfl⟩
        have HD := Lib.hid hd'
        have HE := Lib.hid hE
        have HN := Lib.hid hN
        clear hd' hE hN
        go_wp2_with fail
        refine HDEC.out.mono ?_
        intro e w4 hd
        obtain ⟨a4, c4, rfl, ho4, hb4⟩ := hd.parts
        rw [HD.out, HE.out]
        rw [HD.out] at ho4
        simp only [HN.out] at ho4 ⊢
        obtain ⟨w5, hw5⟩ : ∃ w5, w4.alloc (.cells #[.int .i64 d.kind, .int .i64 d.gen, .int .i64 d.num, .int .i64 d.idx, .int .i64 d.cnt, .slice a4 N c4] 25) = w5 := ⟨_, rfl⟩
        have hb5 : Below w4.heap.size w4 w5 := hw5 ▸ (Below.refl _ _).alloc (Nat.le_refl _) _
        have hx5 : w5.heap[w4.heap.size]? = some (.cells #[.int .i64 d.kind, .int .i64 d.gen, .int .i64 d.num, .int .i64 d.idx, .int .i64 d.cnt, .slice a4 N c4] 25 (0, 0)) := by rw [← hw5]; exact heap_alloc_new _ _
        have hdec := rDecode_any (L ++ List.replicate c 0) _ ((HBY.out.below hb4).below hb5)
        have HDEC5 := Lib.hid hdec
        have HW5 := Lib.hid hw5
        have HX5 := Lib.hid hx5
        have HO5 := Lib.hid (own_kept ho4 hb5)
        have HB5 := Lib.hid (HB3.out.trans ((hb4.trans (hb5.mono hb4.size)).mono HB3.out.size))
        clear hd ho4 hb4 hw5 hb5 hx5 hdec
        go_wp2_with fail
        rw [HW5.out]
        refine HDEC5.out.mono ?_
        intro e w6 hd
        obtain ⟨a6, c6, rfl, ho6, hb6⟩ := hd.parts
        rw [HD.out, HE.out]
        rw [HD.out] at ho6
        simp only [HN.out] at ho6 ⊢
        obtain ⟨w7, hw7⟩ : ∃ w7, w6.alloc (.cells #[.int .i64 d.kind, .int .i64 d.gen, .int .i64 d.num, .int .i64 d.idx, .int .i64 d.cnt, .slice a6 N c6] 24) = w7 := ⟨_, rfl⟩
        have hb7 : Below w6.heap.size w6 w7 := hw7 ▸ (Below.refl _ _).alloc (Nat.le_refl _) _
        have hx7 : w7.heap[w6.heap.size]? = some (.cells #[.int .i64 d.kind, .int .i64 d.gen, .int .i64 d.num, .int .i64 d.idx, .int .i64 d.cnt, .slice a6 N c6] 24 (0, 0)) := by rw [← hw7]; exact heap_alloc_new _ _
        have hbb : Below w5.heap.size w5 w7 := hb6.trans (hb7.mono hb6.size)
        have hx57 := (hbb.block _ (Array.getElem?_eq_some_iff.1 HX5.out).1).trans HX5.out
        have HW7 := Lib.hid hw7
        have HP := Lib.hid (own_bytes (own_kept HO5.out hbb))
        have HQ := Lib.hid (own_bytes (own_kept ho6 hb7))
        have HB7 := Lib.hid (HB5.out.trans (hbb.mono HB5.out.size))
        have hcell : ∀ w' : World, Below w7.heap.size w7 w' → w'.cell? ⟨w4.heap.size, 0, none⟩ = some (.int .i64 d.kind) ∧ w'.cell? ⟨w4.heap.size, 1, none⟩ = some (.int .i64 d.gen) ∧ w'.cell? ⟨w4.heap.size, 2, none⟩ = some (.int .i64 d.num) ∧ w'.cell? ⟨w4.heap.size, 3, none⟩ = some (.int .i64 d.idx) ∧ w'.cell? ⟨w4.heap.size, 4, none⟩ = some (.int .i64 d.cnt) ∧ w'.cell? ⟨w4.heap.size, 5, none⟩ = some (.slice a4 N c4) ∧ w'.cell? ⟨w6.heap.size, 0, none⟩ = some (.int .i64 d.kind) ∧ w'.cell? ⟨w6.heap.size, 1, none⟩ = some (.int .i64 d.gen) ∧ w'.cell? ⟨w6.heap.size, 2, none⟩ = some (.int .i64 d.num) ∧ w'.cell? ⟨w6.heap.size, 3, none⟩ = some (.int .i64 d.idx) ∧ w'.cell? ⟨w6.heap.size, 4, none⟩ = some (.int .i64 d.cnt) ∧ w'.cell? ⟨w6.heap.size, 5, none⟩ = some (.slice a6 N c6) := by
          intro w' hb
          have h0 := (hb.block _ (Array.getElem?_eq_some_iff.1 hx57).1).trans hx57
          have h1 := (hb.block _ (Array.getElem?_eq_some_iff.1 hx7).1).trans hx7
          refine ⟨?_, ?_, ?_, ?_, ?_, ?_, ?_, ?_, ?_, ?_, ?_, ?_⟩ <;> first | (rw [cell_of_row _ _ _ _ _ _ h0]; rfl) | (rw [cell_of_row _ _ _ _ _ _ h1]; rfl)
        have HCELL := Lib.hid hcell
        have hEI : (E == E) = true := by simp
        clear hd ho6 hb6 hw7 hb7 hx7 hbb hx57 hcell
        go_wp2_with fail
        rw [HW7.out]
        refine wp_region_noPanic ?_
        refine wp_region_H (Below w7.heap.size w7) (by kernel_rfl) ?_
        have hS0 : (Below w7.heap.size w7) w7.drew := (Below.refl _ _).drew
        obtain ⟨wd, hwd⟩ : ∃ wd, w7.drew = wd := ⟨_, rfl⟩
        rw [hwd] at hS0 ⊢
        clear hwd
        refine wpAnyH_do (i := 0) (by kernel_rfl) rfl rfl (fun K hK => ?_)
        go_simp
        go_at_call 18
        refine (known_any (HK.out.below (HB7.out.trans (hS0.mono HB7.out.size)) HK.out.size)).mono ?_
        rintro e wx ⟨rfl, hbwx⟩
        have hSwx := hS0.trans (hbwx.mono hS0.size)
        refine hK _ _ (hSwx) ?_
        clear hK K
        try simp only [Act.put, List.setIfInBounds_toArray, List.set_cons_zero, List.set_cons_succ]
        refine wpAnyH_takeI (i := 1) (v := ?v21) rfl (by kernel_rfl) (by kernel_rfl) (by kernel_rfl) (fun _ _ _ h => h) (yieldsIf_run rfl (fun w' hw' => ?y21)) hSwx ?_
        case y21 => first | (go_simp; rfl) | (go_simp; done) | rfl
        simp only [Act.put, List.setIfInBounds_toArray, List.set_cons_zero, List.set_cons_succ]
        refine wpAnyH_takeI (i := 2) (v := ?v22) rfl (by kernel_rfl) (by kernel_rfl) (by kernel_rfl) (fun _ _ _ h => h) (yieldsIf_want rfl (fun w' hw' => ?y22)) hSwx ?_
        case y22 => first | (go_simp; rfl) | (go_simp; done) | rfl
        simp only [Act.put, List.setIfInBounds_toArray, List.set_cons_zero, List.set_cons_succ]
        refine wpAnyH_takeI (i := 3) (v := ?v23) rfl (by kernel_rfl) (by kernel_rfl) (by kernel_rfl) (fun _ _ _ h => h) (yieldsIf_want rfl (fun w' hw' => ?y23)) hSwx ?_
        case y23 => first | (go_simp; rfl) | (go_simp; done) | rfl
        simp only [Act.put, List.setIfInBounds_toArray, List.set_cons_zero, List.set_cons_succ]
        refine wpAnyH_takeI (i := 4) (v := ?v24) rfl (by kernel_rfl) (by kernel_rfl) (by kernel_rfl) (fun _ _ _ h => h) (yieldsIf_want rfl (fun w' hw' => ?y24)) hSwx ?_
        case y24 => first | (go_simp; rfl) | (go_simp; done) | rfl
        simp only [Act.put, List.setIfInBounds_toArray, List.set_cons_zero, List.set_cons_succ]
        refine wpAnyH_takeI (i := 5) (v := ?v25) rfl (by kernel_rfl) (by kernel_rfl) (by kernel_rfl) (fun _ _ _ h => h) (yieldsIf_run rfl (fun w' hw' => ?y25)) hSwx ?_
        case y25 => first | (go_simp; rfl) | (go_simp; done) | rfl
        simp only [Act.put, List.setIfInBounds_toArray, List.set_cons_zero, List.set_cons_succ]
        refine wpAnyH_takeI (i := 6) (v := ?v26) rfl (by kernel_rfl) (by kernel_rfl) (by kernel_rfl) (fun _ _ _ h => h) (yieldsIf_run rfl (fun w' hw' => ?y26)) hSwx ?_
        case y26 => first | (go_simp; rfl) | (go_simp; done) | rfl
        simp only [Act.put, List.setIfInBounds_toArray, List.set_cons_zero, List.set_cons_succ]
        refine wpAnyH_takeI (i := 7) (v := ?v27) rfl (by kernel_rfl) (by kernel_rfl) (by kernel_rfl) (fun _ _ _ h => h) (yieldsIf_want rfl (fun w' hw' => ?y27)) hSwx ?_
        case y27 => (obtain ⟨z0, z1, z2, z3, z4, z5, z6, z7, z8, z9, z10, z11⟩ := HCELL.out w' hw'; clear hw'; first | (go_simp; rfl) | (go_simp; done))
        simp only [Act.put, List.setIfInBounds_toArray, List.set_cons_zero, List.set_cons_succ]
        refine wpAnyH_takeI (i := 9) (v := ?v28) rfl (by kernel_rfl) (by kernel_rfl) (by kernel_rfl) (fun _ _ _ h => h) (yieldsIf_want rfl (fun w' hw' => ?y28)) hSwx ?_
        case y28 => (obtain ⟨z0, z1, z2, z3, z4, z5, z6, z7, z8, z9, z10, z11⟩ := HCELL.out w' hw'; clear hw'; first | (go_simp; rfl) | (go_simp; done))
        simp only [Act.put, List.setIfInBounds_toArray, List.set_cons_zero, List.set_cons_succ]
        refine wpAnyH_want (i := 8) (by kernel_rfl) rfl rfl (fun K hK => ?_)
        go_simp
        go_at_call 16
        refine (back_any d.kind d.gen d.num d.idx d.cnt a4 N c4 wx).mono ?_
        rintro e wy ⟨rfl, hbwy⟩
        have hSwy := hSwx.trans (hbwy.mono hSwx.size)
        refine hK _ _ (hSwy) ?_
        clear hK K
        try simp only [Act.put, List.setIfInBounds_toArray, List.set_cons_zero, List.set_cons_succ]
        refine wpAnyH_want (i := 10) (by kernel_rfl) rfl rfl (fun K hK => ?_)
        go_simp
        go_at_call 23
        refine (same_any d.kind d.gen d.num d.idx d.cnt a4 a6 N c4 N c6 d.bytes (HP.out.below hSwy) (HQ.out.below hSwy)).mono ?_
        rintro e wz ⟨rfl, hbwz⟩
        have hSwz := hSwy.trans (hbwz.mono hSwy.size)
        refine hK _ _ (hSwz) ?_
        clear hK K
        try simp only [Act.put, List.setIfInBounds_toArray, List.set_cons_zero, List.set_cons_succ]
        refine wpAnyH_takeI (i := 11) (v := ?v29) rfl (by kernel_rfl) (by kernel_rfl) (by kernel_rfl) (fun _ _ _ h => h) (yieldsIf_run rfl (fun w' hw' => ?y29)) hSwz ?_
        case y29 => first | (go_simp; rfl) | (go_simp; done) | rfl
        simp only [Act.put, List.setIfInBounds_toArray, List.set_cons_zero, List.set_cons_succ]
        refine wpAnyH_takeI (i := 12) (v := ?v30) rfl (by kernel_rfl) (by kernel_rfl) (by kernel_rfl) (fun _ _ _ h => h) (yieldsIf_run rfl (fun w' hw' => ?y30)) hSwz ?_
        case y30 => first | (go_simp; rfl) | (go_simp; done) | rfl
        simp only [Act.put, List.setIfInBounds_toArray, List.set_cons_zero, List.set_cons_succ]
        refine wpAnyH_done (by kernel_rfl) ?_ _
        refine NoPanic.normal ?_
        go_wp2_with fail
        go_ret
        exact ⟨rfl, HB7.out.trans (hSwz.mono HB7.out.size)⟩
      · have hby := own_bytes HU.out
        have hdec := DecodePart_any L _ hby (HK.out.below HB2.out HK.out.size)
        have HBY := Lib.hid hby
        have HDEC := Lib.hid hdec
        clear hdec
        obtain ⟨d, hd'⟩ : ∃ d, decP L = d := ⟨_, rfl⟩
        obtain ⟨E, hE⟩ : ∃ E, decE L = E := ⟨_, rfl⟩
        obtain ⟨N, hN⟩ : ∃ N, d.bytes.length = N := ⟨_, rfl⟩
        have HD := Lib.hid hd'
        have HE := Lib.hid hE
        have HN := Lib.hid hN
        clear hd' hE hN
        go_wp2_with fail
        refine HDEC.out.mono ?_
        intro e w4 hd
        obtain ⟨a4, c4, rfl, ho4, hb4⟩ := hd.parts
        rw [HD.out, HE.out]
        rw [HD.out] at ho4
        simp only [HN.out] at ho4 ⊢
        obtain ⟨w5, hw5⟩ : ∃ w5, w4.alloc (.cells #[.int .i64 d.kind, .int .i64 d.gen, .int .i64 d.num, .int .i64 d.idx, .int .i64 d.cnt, .slice a4 N c4] 25) = w5 := ⟨_, rfl⟩
        have hb5 : Below w4.heap.size w4 w5 := hw5 ▸ (Below.refl _ _).alloc (Nat.le_refl _) _
        have hx5 : w5.heap[w4.heap.size]? = some (.cells #[.int .i64 d.kind, .int .i64 d.gen, .int .i64 d.num, .int .i64 d.idx, .int .i64 d.cnt, .slice a4 N c4] 25 (0, 0)) := by rw [← hw5]; exact heap_alloc_new _ _
        have hdec := rDecode_any L _ ((HBY.out.below hb4).below hb5)
        have HDEC5 := Lib.hid hdec
        have HW5 := Lib.hid hw5
        have HX5 := Lib.hid hx5
        have HO5 := Lib.hid (own_kept ho4 hb5)
        have HB5 := Lib.hid (HB2.out.trans ((hb4.trans (hb5.mono hb4.size)).mono HB2.out.size))
        clear hd ho4 hb4 hw5 hb5 hx5 hdec
        go_wp2_with fail
        rw [HW5.out]
        refine HDEC5.out.mono ?_
        intro e w6 hd
        obtain ⟨a6, c6, rfl, ho6, hb6⟩ := hd.parts
        rw [HD.out, HE.out]
        rw [HD.out] at ho6
        simp only [HN.out] at ho6 ⊢
        obtain ⟨w7, hw7⟩ : ∃ w7, w6.alloc (.cells #[.int .i64 d.kind, .int .i64 d.gen, .int .i64 d.num, .int .i64 d.idx, .int .i64 d.cnt, .slice a6 N c6] 24) = w7 := ⟨_, rfl⟩
        have hb7 : Below w6.heap.size w6 w7 := hw7 ▸ (Below.refl _ _).alloc (Nat.le_refl _) _
        have hx7 : w7.heap[w6.heap.size]? = some (.cells #[.int .i64 d.kind, .int .i64 d.gen, .int .i64 d.num, .int .i64 d.idx, .int .i64 d.cnt, .slice a6 N c6] 24 (0, 0)) := by rw [← hw7]; exact heap_alloc_new _ _
        have hbb : Below w5.heap.size w5 w7 := hb6.trans (hb7.mono hb6.size)
        have hx57 := (hbb.block _ (Array.getElem?_eq_some_iff.1 HX5.out).1).trans HX5.out
        have HW7 := Lib.hid hw7
        have HP := Lib.hid (own_bytes (own_kept HO5.out hbb))
        have HQ := Lib.hid (own_bytes (own_kept ho6 hb7))
        have HB7 := Lib.hid (HB5.out.trans (hbb.mono HB5.out.size))
        have hcell : ∀ w' : World, Below w7.heap.size w7 w' → w'.cell? ⟨w4.heap.size, 0, none⟩ = some (.int .i64 d.kind) ∧ w'.cell? ⟨w4.heap.size, 1, none⟩ = some (.int .i64 d.gen) ∧ w'.cell? ⟨w4.heap.size, 2, none⟩ = some (.int .i64 d.num) ∧ w'.cell? ⟨w4.heap.size, 3, none⟩ = some (.int .i64 d.idx) ∧ w'.cell? ⟨w4.heap.size, 4, none⟩ = some (.int .i64 d.cnt) ∧ w'.cell? ⟨w4.heap.size, 5, none⟩ = some (.slice a4 N c4) ∧ w'.cell? ⟨w6.heap.size, 0, none⟩ = some (.int .i64 d.kind) ∧ w'.cell? ⟨w6.heap.size, 1, none⟩ = some (.int .i64 d.gen) ∧ w'.cell? ⟨w6.heap.size, 2, none⟩ = some (.int .i64 d.num) ∧ w'.cell? ⟨w6.heap.size, 3, none⟩ = some (.int .i64 d.idx) ∧ w'.cell? ⟨w6.heap.size, 4, none⟩ = some (.int .i64 d.cnt) ∧ w'.cell? ⟨w6.heap.size, 5, none⟩ = some (.slice a6 N c6) := by
          intro w' hb
          have h0 := (hb.block _ (Array.getElem?_eq_some_iff.1 hx57).1).trans hx57
          have h1 := (hb.block _ (Array.getElem?_eq_some_iff.1 hx7).1).trans hx7
          refine ⟨?_, ?_, ?_, ?_, ?_, ?_, ?_, ?_, ?_, ?_, ?_, ?_⟩ <;> first | (rw [cell_of_row _ _ _ _ _ _ h0]; rfl) | (rw [cell_of_row _ _ _ _ _ _ h1]; rfl)
        have HCELL := Lib.hid hcell
        have hEI : (E == E) = true := by simp
        clear hd ho6 hb6 hw7 hb7 hx7 hbb hx57 hcell
        go_wp2_with fail
        rw [HW7.out]
        refine wp_region_noPanic ?_
        refine wp_region_H (Below w7.heap.size w7) (by kernel_rfl) ?_
        have hS0 : (Below w7.heap.size w7) w7.drew := (Below.refl _ _).drew
        obtain ⟨wd, hwd⟩ : ∃ wd, w7.drew = wd := ⟨_, rfl⟩
        rw [hwd] at hS0 ⊢
        clear hwd
        refine wpAnyH_do (i := 0) (by kernel_rfl) rfl rfl (fun K hK => ?_)
        go_simp
        go_at_call 18
        refine (known_any (HK.out.below (HB7.out.trans (hS0.mono HB7.out.size)) HK.out.size)).mono ?_
        rintro e wx ⟨rfl, hbwx⟩
        have hSwx := hS0.trans (hbwx.mono hS0.size)
        refine hK _ _ (hSwx) ?_
        clear hK K
        try simp only [Act.put, List.setIfInBounds_toArray, List.set_cons_zero, List.set_cons_succ]
        refine wpAnyH_takeI (i := 1) (v := ?v31) rfl (by kernel_rfl) (by kernel_rfl) (by kernel_rfl) (fun _ _ _ h => h) (yieldsIf_run rfl (fun w' hw' => ?y31)) hSwx ?_
        case y31 => first | (go_simp; rfl) | (go_simp; done) | rfl
        simp only [Act.put, List.setIfInBounds_toArray, List.set_cons_zero, List.set_cons_succ]
        refine wpAnyH_takeI (i := 2) (v := ?v32) rfl (by kernel_rfl) (by kernel_rfl) (by kernel_rfl) (fun _ _ _ h => h) (yieldsIf_want rfl (fun w' hw' => ?y32)) hSwx ?_
        case y32 => first | (go_simp; rfl) | (go_simp; done) | rfl
        simp only [Act.put, List.setIfInBounds_toArray, List.set_cons_zero, List.set_cons_succ]
        refine wpAnyH_takeI (i := 3) (v := ?v33) rfl (by kernel_rfl) (by kernel_rfl) (by kernel_rfl) (fun _ _ _ h => h) (yieldsIf_want rfl (fun w' hw' => ?y33)) hSwx ?_
        case y33 => first | (go_simp; rfl) | (go_simp; done) | rfl
        simp only [Act.put, List.setIfInBounds_toArray, List.set_cons_zero, List.set_cons_succ]
        refine wpAnyH_takeI (i := 4) (v := ?v34) rfl (by kernel_rfl) (by kernel_rfl) (by kernel_rfl) (fun _ _ _ h => h) (yieldsIf_want rfl (fun w' hw' => ?y34)) hSwx ?_
        case y34 => first | (go_simp; rfl) | (go_simp; done) | rfl
        simp only [Act.put, List.setIfInBounds_toArray, List.set_cons_zero, List.set_cons_succ]
        refine wpAnyH_takeI (i := 5) (v := ?v35) rfl (by kernel_rfl) (by kernel_rfl) (by kernel_rfl) (fun _ _ _ h => h) (yieldsIf_run rfl (fun w' hw' => ?y35)) hSwx ?_
        case y35 => first | (go_simp; rfl) | (go_simp; done) | rfl
        simp only [Act.put, List.setIfInBounds_toArray, List.set_cons_zero, List.set_cons_succ]
        refine wpAnyH_takeI (i := 6) (v := ?v36) rfl (by kernel_rfl) (by kernel_rfl) (by kernel_rfl) (fun _ _ _ h => h) (yieldsIf_run rfl (fun w' hw' => ?y36)) hSwx ?_
        case y36 => first | (go_simp; rfl) | (go_simp; done) | rfl
        simp only [Act.put, List.setIfInBounds_toArray, List.set_cons_zero, List.set_cons_succ]
        refine wpAnyH_takeI (i := 7) (v := ?v37) rfl (by kernel_rfl) (by kernel_rfl) (by kernel_rfl) (fun _ _ _ h => h) (yieldsIf_want rfl (fun w' hw' => ?y37)) hSwx ?_
        case y37 => (obtain ⟨z0, z1, z2, z3, z4, z5, z6, z7, z8, z9, z10, z11⟩ := HCELL.out w' hw'; clear hw'; first | (go_simp; rfl) | (go_simp; done))
        simp only [Act.put, List.setIfInBounds_toArray, List.set_cons_zero, List.set_cons_succ]
        refine wpAnyH_takeI (i := 9) (v := ?v38) rfl (by kernel_rfl) (by kernel_rfl) (by kernel_rfl) (fun _ _ _ h => h) (yieldsIf_want rfl (fun w' hw' => ?y38)) hSwx ?_
        case y38 => (obtain ⟨z0, z1, z2, z3, z4, z5, z6, z7, z8, z9, z10, z11⟩ := HCELL.out w' hw'; clear hw'; first | (go_simp; rfl) | (go_simp; done))
        simp only [Act.put, List.setIfInBounds_toArray, List.set_cons_zero, List.set_cons_succ]
        refine wpAnyH_want (i := 8) (by kernel_rfl) rfl rfl (fun K hK => ?_)
        go_simp
        go_at_call 16
        refine (back_any d.kind d.gen d.num d.idx d.cnt a4 N c4 wx).mono ?_
        rintro e wy ⟨rfl, hbwy⟩
        have hSwy := hSwx.trans (hbwy.mono hSwx.size)
        refine hK _ _ (hSwy) ?_
        clear hK K
        try simp only [Act.put, List.setIfInBounds_toArray, List.set_cons_zero, List.set_cons_succ]
        refine wpAnyH_want (i := 10) (by kernel_rfl) rfl rfl (fun K hK => ?_)
        go_simp
        go_at_call 23
        refine (same_any d.kind d.gen d.num d.idx d.cnt a4 a6 N c4 N c6 d.bytes (HP.out.below hSwy) (HQ.out.below hSwy)).mono ?_
        rintro e wz ⟨rfl, hbwz⟩
        have hSwz := hSwy.trans (hbwz.mono hSwy.size)
        refine hK _ _ (hSwz) ?_
        clear hK K
        try simp only [Act.put, List.setIfInBounds_toArray, List.set_cons_zero, List.set_cons_succ]
        refine wpAnyH_takeI (i := 11) (v := ?v39) rfl (by kernel_rfl) (by kernel_rfl) (by kernel_rfl) (fun _ _ _ h => h) (yieldsIf_run rfl (fun w' hw' => ?y39)) hSwz ?_
        case y39 => first | (go_simp; rfl) | (go_simp; done) | rfl
        simp only [Act.put, List.setIfInBounds_toArray, List.set_cons_zero, List.set_cons_succ]
        refine wpAnyH_takeI (i := 12) (v := ?v40) rfl (by kernel_rfl) (by kernel_rfl) (by kernel_rfl) (fun _ _ _ h => h) (yieldsIf_run rfl (fun w' hw' => ?y40)) hSwz ?_
        case y40 => first | (go_simp; rfl) | (go_simp; done) | rfl
        simp only [Act.put, List.setIfInBounds_toArray, List.set_cons_zero, List.set_cons_succ]
        refine wpAnyH_done (by kernel_rfl) ?_ _
        refine NoPanic.normal ?_
        go_wp2_with fail
        go_ret
        exact ⟨rfl, HB7.out.trans (hSwz.mono HB7.out.size)⟩
    · obtain rfl : cut = 0 := by omega
      have hby := own_bytes HU.out
      have hdec := DecodePart_any L _ hby (HK.out.below HB2.out HK.out.size)
      have HBY := Lib.hid hby
      have HDEC := Lib.hid hdec
      clear hdec
      obtain ⟨d, hd'⟩ : ∃ d, decP L = d := ⟨_, rfl⟩
      obtain ⟨E, hE⟩ : ∃ E, decE L = E := ⟨_, rfl⟩
      obtain ⟨N, hN⟩ : ∃ N, d.bytes.length = N := ⟨_, rfl⟩
      have HD := Lib.hid hd'
      have HE := Lib.hid hE
      have HN := Lib.hid hN
      clear hd' hE hN
      go_wp2_with fail
      refine HDEC.out.mono ?_
      intro e w4 hd
      obtain ⟨a4, c4, rfl, ho4, hb4⟩ := hd.parts
      rw [HD.out, HE.out]
      rw [HD.out] at ho4
      simp only [HN.out] at ho4 ⊢
      obtain ⟨w5, hw5⟩ : ∃ w5, w4.alloc (.cells #[.int .i64 d.kind, .int .i64 d.gen, .int .i64 d.num, .int .i64 d.idx, .int .i64 d.cnt, .slice a4 N c4] 25) = w5 := ⟨_, rfl⟩
      have hb5 : Below w4.heap.size w4 w5 := hw5 ▸ (Below.refl _ _).alloc (Nat.le_refl _) _
      have hx5 : w5.heap[w4.heap.size]? = some (.cells #[.int .i64 d.kind, .int .i64 d.gen, .int .i64 d.num, .int .i64 d.idx, .int .i64 d.cnt, .slice a4 N c4] 25 (0, 0)) := by rw [← hw5]; exact heap_alloc_new _ _
      have hdec := rDecode_any L _ ((HBY.out.below hb4).below hb5)
      have HDEC5 := Lib.hid hdec
      have HW5 := Lib.hid hw5
      have HX5 := Lib.hid hx5
      have HO5 := Lib.hid (own_kept ho4 hb5)
      have HB5 := Lib.hid (HB2.out.trans ((hb4.trans (hb5.mono hb4.size)).mono HB2.out.size))
      clear hd ho4 hb4 hw5 hb5 hx5 hdec
      go_wp2_with fail
      rw [HW5.out]
      refine HDEC5.out.mono ?_
      intro e w6 hd
      obtain ⟨a6, c6, rfl, ho6, hb6⟩ := hd.parts
      rw [HD.out, HE.out]
      rw [HD.out] at ho6
      simp only [HN.out] at ho6 ⊢
      obtain ⟨w7, hw7⟩ : ∃ w7, w6.alloc (.cells #[.int .i64 d.kind, .int .i64 d.gen, .int .i64 d.num, .int .i64 d.idx, .int .i64 d.cnt, .slice a6 N c6] 24) = w7 := ⟨_, rfl⟩
      have hb7 : Below w6.heap.size w6 w7 := hw7 ▸ (Below.refl _ _).alloc (Nat.le_refl _) _
      have hx7 : w7.heap[w6.heap.size]? = some (.cells #[.int .i64 d.kind, .int .i64 d.gen, .int .i64 d.num, .int .i64 d.idx, .int .i64 d.cnt, .slice a6 N c6] 24 (0, 0)) := by rw [← hw7]; exact heap_alloc_new _ _
      have hbb : Below w5.heap.size w5 w7 := hb6.trans (hb7.mono hb6.size)
      have hx57 := (hbb.block _ (Array.getElem?_eq_some_iff.1 HX5.out).1).trans HX5.out
      have HW7 := Lib.hid hw7
      have HP := Lib.hid (own_bytes (own_kept HO5.out hbb))
      have HQ := Lib.hid (own_bytes (own_kept ho6 hb7))
      have HB7 := Lib.hid (HB5.out.trans (hbb.mono HB5.out.size))
      have hcell : ∀ w' : World, Below w7.heap.size w7 w' → w'.cell? ⟨w4.heap.size, 0, none⟩ = some (.int .i64 d.kind) ∧ w'.cell? ⟨w4.heap.size, 1, none⟩ = some (.int .i64 d.gen) ∧ w'.cell? ⟨w4.heap.size, 2, none⟩ = some (.int .i64 d.num) ∧ w'.cell? ⟨w4.heap.size, 3, none⟩ = some (.int .i64 d.idx) ∧ w'.cell? ⟨w4.heap.size, 4, none⟩ = some (.int .i64 d.cnt) ∧ w'.cell? ⟨w4.heap.size, 5, none⟩ = some (.slice a4 N c4) ∧ w'.cell? ⟨w6.heap.size, 0, none⟩ = some (.int .i64 d.kind) ∧ w'.cell? ⟨w6.heap.size, 1, none⟩ = some (.int .i64 d.gen) ∧ w'.cell? ⟨w6.heap.size, 2, none⟩ = some (.int .i64 d.num) ∧ w'.cell? ⟨w6.heap.size, 3, none⟩ = some (.int .i64 d.idx) ∧ w'.cell? ⟨w6.heap.size, 4, none⟩ = some (.int .i64 d.cnt) ∧ w'.cell? ⟨w6.heap.size, 5, none⟩ = some (.slice a6 N c6) := by
        intro w' hb
        have h0 := (hb.block _ (Array.getElem?_eq_some_iff.1 hx57).1).trans hx57
        have h1 := (hb.block _ (Array.getElem?_eq_some_iff.1 hx7).1).trans hx7
        refine ⟨?_, ?_, ?_, ?_, ?_, ?_, ?_, ?_, ?_, ?_, ?_, ?_⟩ <;> first | (rw [cell_of_row _ _ _ _ _ _ h0]; rfl) | (rw [cell_of_row _ _ _ _ _ _ h1]; rfl)
      have HCELL := Lib.hid hcell
      have hEI : (E == E) = true := by simp
      clear hd ho6 hb6 hw7 hb7 hx7 hbb hx57 hcell
      go_wp2_with fail
      rw [HW7.out]
      refine wp_region_noPanic ?_
      refine wp_region_H (Below w7.heap.size w7) (by kernel_rfl) ?_
      have hS0 : (Below w7.heap.size w7) w7.drew := (Below.refl _ _).drew
      obtain ⟨wd, hwd⟩ : ∃ wd, w7.drew = wd := ⟨_, rfl⟩
      rw [hwd] at hS0 ⊢
      clear hwd
      refine wpAnyH_do (i := 0) (by kernel_rfl) rfl rfl (fun K hK => ?_)
      go_simp
      go_at_call 18
      refine (known_any (HK.out.below (HB7.out.trans (hS0.mono HB7.out.size)) HK.out.size)).mono ?_
      rintro e wx ⟨rfl, hbwx⟩
      have hSwx := hS0.trans (hbwx.mono hS0.size)
      refine hK _ _ (hSwx) ?_
      clear hK K
      try simp only [Act.put, List.setIfInBounds_toArray, List.set_cons_zero, List.set_cons_succ]
      refine wpAnyH_takeI (i := 1) (v := ?v41) rfl (by kernel_rfl) (by kernel_rfl) (by kernel_rfl) (fun _ _ _ h => h) (yieldsIf_run rfl (fun w' hw' => ?y41)) hSwx ?_
      case y41 => first | (go_simp; rfl) | (go_simp; done) | rfl
      simp only [Act.put, List.setIfInBounds_toArray, List.set_cons_zero, List.set_cons_succ]
      refine wpAnyH_takeI (i := 2) (v := ?v42) rfl (by kernel_rfl) (by kernel_rfl) (by kernel_rfl) (fun _ _ _ h => h) (yieldsIf_want rfl (fun w' hw' => ?y42)) hSwx ?_
      case y42 => first | (go_simp; rfl) | (go_simp; done) | rfl
      simp only [Act.put, List.setIfInBounds_toArray, List.set_cons_zero, List.set_cons_succ]
      refine wpAnyH_takeI (i := 3) (v := ?v43) rfl (by kernel_rfl) (by kernel_rfl) (by kernel_rfl) (fun _ _ _ h => h) (yieldsIf_want rfl (fun w' hw' => ?y43)) hSwx ?_
      case y43 => first | (go_simp; rfl) | (go_simp; done) | rfl
      simp only [Act.put, List.setIfInBounds_toArray, List.set_cons_zero, List.set_cons_succ]
      refine wpAnyH_takeI (i := 4) (v := ?v44) rfl (by kernel_rfl) (by kernel_rfl) (by kernel_rfl) (fun _ _ _ h => h) (yieldsIf_want rfl (fun w' hw' => ?y44)) hSwx ?_
      case y44 => first | (go_simp; rfl) | (go_simp; done) | rfl
      simp only [Act.put, List.setIfInBounds_toArray, List.set_cons_zero, List.set_cons_succ]
      refine wpAnyH_takeI (i := 5) (v := ?v45) rfl (by kernel_rfl) (by kernel_rfl) (by kernel_rfl) (fun _ _ _ h => h) (yieldsIf_run rfl (fun w' hw' => ?y45)) hSwx ?_
      case y45 => first | (go_simp; rfl) | (go_simp; done) | rfl
      simp only [Act.put, List.setIfInBounds_toArray, List.set_cons_zero, List.set_cons_succ]
      refine wpAnyH_takeI (i := 6) (v := ?v46) rfl (by kernel_rfl) (by kernel_rfl) (by kernel_rfl) (fun _ _ _ h => h) (yieldsIf_run rfl (fun w' hw' => ?y46)) hSwx ?_
      case y46 => first | (go_simp; rfl) | (go_simp; done) | rfl
      simp only [Act.put, List.setIfInBounds_toArray, List.set_cons_zero, List.set_cons_succ]
      refine wpAnyH_takeI (i := 7) (v := ?v47) rfl (by kernel_rfl) (by kernel_rfl) (by kernel_rfl) (fun _ _ _ h => h) (yieldsIf_want rfl (fun w' hw' => ?y47)) hSwx ?_
      case y47 => (obtain ⟨z0, z1, z2, z3, z4, z5, z6, z7, z8, z9, z10, z11⟩ := HCELL.out w' hw'; clear hw'; first | (go_simp; rfl) | (go_simp; done))
      simp only [Act.put, List.setIfInBounds_toArray, List.set_cons_zero, List.set_cons_succ]
      refine wpAnyH_takeI (i := 9) (v := ?v48) rfl (by kernel_rfl) (by kernel_rfl) (by kernel_rfl) (fun _ _ _ h => h) (yieldsIf_want rfl (fun w' hw' => ?y48)) hSwx ?_
      case y48 => (obtain ⟨z0, z1, z2, z3, z4, z5, z6, z7, z8, z9, z10, z11⟩ := HCELL.out w' hw'; clear hw'; first | (go_simp; rfl) | (go_simp; done))
      simp only [Act.put, List.setIfInBounds_toArray, List.set_cons_zero, List.set_cons_succ]
      refine wpAnyH_want (i := 8) (by kernel_rfl) rfl rfl (fun K hK => ?_)
      go_simp
      go_at_call 16
      refine (back_any d.kind d.gen d.num d.idx d.cnt a4 N c4 wx).mono ?_
      rintro e wy ⟨rfl, hbwy⟩
      have hSwy := hSwx.trans (hbwy.mono hSwx.size)
      refine hK _ _ (hSwy) ?_
      clear hK K
      try simp only [Act.put, List.setIfInBounds_toArray, List.set_cons_zero, List.set_cons_succ]
      refine wpAnyH_want (i := 10) (by kernel_rfl) rfl rfl (fun K hK => ?_)
      go_simp
      go_at_call 23
      refine (same_any d.kind d.gen d.num d.idx d.cnt a4 a6 N c4 N c6 d.bytes (HP.out.below hSwy) (HQ.out.below hSwy)).mono ?_
      rintro e wz ⟨rfl, hbwz⟩
      have hSwz := hSwy.trans (hbwz.mono hSwy.size)
      refine hK _ _ (hSwz) ?_
      clear hK K
      try simp only [Act.put, List.setIfInBounds_toArray, List.set_cons_zero, List.set_cons_succ]
      refine wpAnyH_takeI (i := 11) (v := ?v49) rfl (by kernel_rfl) (by kernel_rfl) (by kernel_rfl) (fun _ _ _ h => h) (yieldsIf_run rfl (fun w' hw' => ?y49)) hSwz ?_
      case y49 => first | (go_simp; rfl) | (go_simp; done) | rfl
      simp only [Act.put, List.setIfInBounds_toArray, List.set_cons_zero, List.set_cons_succ]
      refine wpAnyH_takeI (i := 12) (v := ?v50) rfl (by kernel_rfl) (by kernel_rfl) (by kernel_rfl) (fun _ _ _ h => h) (yieldsIf_run rfl (fun w' hw' => ?y50)) hSwz ?_
      case y50 => first | (go_simp; rfl) | (go_simp; done) | rfl
      simp only [Act.put, List.setIfInBounds_toArray, List.set_cons_zero, List.set_cons_succ]
      refine wpAnyH_done (by kernel_rfl) ?_ _
      refine NoPanic.normal ?_
      go_wp2_with fail
      go_ret
      exact ⟨rfl, HB7.out.trans (hSwz.mono HB7.out.size)⟩

end Go.Proofs.YtloaenknhkfaeaaDoor
