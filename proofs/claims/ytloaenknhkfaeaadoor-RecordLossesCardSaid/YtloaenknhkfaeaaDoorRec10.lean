/- Records: the reference's Encode. -/
import Derived.Test.YtloaenknhkfaeaaDoorRec9
namespace Go.Proofs.YtloaenknhkfaeaaDoor
open Go.RowKit
set_option linter.unusedVariables false
set_option linter.unusedSimpArgs false

theorem wp_appOwn {o : Oper} {a : Act} {Q : Exit → Act → World → Prop} {K : Act → World → Prop} {w : World} (s x : Operand) (ho : o.op = .call { callee := .builtin .append, args := #[s, x], argTypes := #[22, 22] })
    {B n m N : Nat} {v : Value} {F : Nat → Prop} {xs ys : List UInt8} {g off c : Nat} (hs : a.eval s = v) (hown : w.ownsRow B 5 1 v n (bvs xs)) (hx : a.eval x = .slice (some ⟨g, off, none⟩) m c)
    (hb : BytesAt w F (.slice (some ⟨g, off, none⟩) m c) ys) (hN : n + m = N) (h0 : 0 < m) (hn : N < 1000000000000) (hB : B ≤ w.heap.size)
    (h : ∀ a' cap' w', w'.ownsRow B 5 1 (.slice a' N cap') N (bvs (xs ++ ys)) → w.grownBy w' v.ownBlock → K (a.put o.dst (.slice a' N cap')) w') :
    o.wp Tryd.prog a w K Q := by
  subst hN
  obtain ⟨i0, hi, hz0, hz1, hz2⟩ := info_parts infoByte
  obtain ⟨rfl, _⟩ := hb.len
  refine wp_append_lies _ s x 22 ho B 5 i0 _ 1 1 Tryd.underlying22 hi hz0 hz1 hz2 rfl (by decide) v n (bvs xs) hs hown
    ⟨g, off, none⟩ ys.length c (bvs ys) hx (by simp) ?_ bvs_oneCell h0 (by unfold maxLen; omega) (by omega) hB _ rfl ?_
  · obtain ⟨xa, xc, e, _, hr⟩ := hb
    intro j u hu
    obtain ⟨g', off', e', _, _, hr⟩ := hr (by intro e; rw [e] at hu; simp [bvs] at hu)
    cases e
    cases e'
    have hadd : (⟨g, off, none⟩ : Addr).add j = ⟨g, off + j, none⟩ := by unfold Addr.add; split <;> simp_all
    rw [hadd]
    exact hr j u hu
  · intro g' cap' w' hown' hgrow hat hlt
    rw [← bvs_append] at hown'
    exact h _ cap' w' hown' hgrow

set_option maxRecDepth 100000 in
set_option maxHeartbeats 2000000 in
theorem Encode_any {w : World} {F : Nat → Prop} (k g n i c : Nat) (l : List UInt8) (a : Option Addr) (len cap : Nat) (hv : BytesN w F (.slice a len cap) l) (hlen : l.length = len) (h4 : len ≤ 1000)
    (hk : k ≤ 65535) (hg : g ≤ 2147483647) (hn : n ≤ 2147483647) (hi : i ≤ 65535) (hc : c ≤ 65535) :
    Calls Tryd.prog 22 #[.agg #[.int .i64 k, .int .i64 g, .int .i64 n, .int .i64 i, .int .i64 c, .slice a len cap]] w fun e w' =>
      ∃ u, e = .returned u ∧ w'.ownsRow w.heap.size 5 1 u 256 (bvs (encL ⟨k, g, n, i, c, l⟩)) ∧ Below w.heap.size w w' := by
  obtain ⟨w1, hw1⟩ : ∃ w1, w.alloc (.cells #[.int .i64 k, .int .i64 g, .int .i64 n, .int .i64 i, .int .i64 c, .slice a len cap] 24) = w1 := ⟨_, rfl⟩
  have hb1 : Below w.heap.size w w1 := hw1 ▸ (Below.refl _ _).alloc (Nat.le_refl _) _
  have hs1 : w1.heap.size = w.heap.size + 1 := by rw [← hw1]; simp
  have hx1 : w1.heap[w.heap.size]? = some (.cells #[.int .i64 k, .int .i64 g, .int .i64 n, .int .i64 i, .int .i64 c, .slice a len cap] 24 (0, 0)) := by rw [← hw1]; exact heap_alloc_new _ _
  have hv1 := hv.below hb1
  have hcell : ∀ w' : World, Below w1.heap.size w1 w' → w'.cell? ⟨w.heap.size, 0, none⟩ = some (.int .i64 k) ∧ w'.cell? ⟨w.heap.size, 1, none⟩ = some (.int .i64 g) ∧ w'.cell? ⟨w.heap.size, 2, none⟩ = some (.int .i64 n) ∧
      w'.cell? ⟨w.heap.size, 3, none⟩ = some (.int .i64 i) ∧ w'.cell? ⟨w.heap.size, 4, none⟩ = some (.int .i64 c) ∧ w'.cell? ⟨w.heap.size, 5, none⟩ = some (.slice a len cap) := by
    intro w' hb
    have hh := (hb.block w.heap.size (by omega)).trans hx1
    refine ⟨?_, ?_, ?_, ?_, ?_, ?_⟩ <;> (rw [cell_of_row _ _ _ _ _ _ hh]; rfl)
  have HW1 := Lib.hid hw1
  have HB1 := Lib.hid hb1
  have HS1 := Lib.hid hs1
  have HV1 := Lib.hid hv1
  have HCELL := Lib.hid hcell
  have HL := Lib.hid hlen
  clear hv hw1 hb1 hs1 hx1 hv1 hcell hlen
  go_enter Tryd.func22, Tryd.ntmps22
  go_wp2_with fail
  rw [HW1.out]
  refine wp_region_noPanic ?_
  refine wp_region_F 7 (Below w1.heap.size w1) (by kernel_rfl) ?_
  have hS0 : (Below w1.heap.size w1) w1.drew := (Below.refl _ _).drew
  refine wpAnyF_take (i := 0) (fin := 7) (v := ?v1) rfl (by kernel_rfl) (by kernel_rfl) (by kernel_rfl) (by kernel_rfl) (fun _ _ _ h => h) (yieldsIf_run rfl (fun w' hw' => ?y1)) hS0 ?_
  case y1 => first | (go_simp; rfl) | (go_simp; done) | rfl
  simp only [Act.put, List.setIfInBounds_toArray, List.set_cons_zero, List.set_cons_succ]
  refine wpAnyF_take (i := 1) (fin := 7) (v := ?v2) rfl (by kernel_rfl) (by kernel_rfl) (by kernel_rfl) (by kernel_rfl) (fun _ _ _ h => h) (yieldsIf_run rfl (fun w' hw' => ?y2)) hS0 ?_
  case y2 => (obtain ⟨z0, z1, z2, z3, z4, z5⟩ := HCELL.out w' hw'; clear hw'; first | (go_simp; rfl) | (go_simp; done))
  simp only [Act.put, List.setIfInBounds_toArray, List.set_cons_zero, List.set_cons_succ]
  refine wpAnyF_take (i := 3) (fin := 7) (v := ?v3) rfl (by kernel_rfl) (by kernel_rfl) (by kernel_rfl) (by kernel_rfl) (fun _ _ _ h => h) (yieldsIf_run rfl (fun w' hw' => ?y3)) hS0 ?_
  case y3 => first | (go_simp; rfl) | (go_simp; done) | rfl
  simp only [Act.put, List.setIfInBounds_toArray, List.set_cons_zero, List.set_cons_succ]
  refine wpAnyF_take (i := 4) (fin := 7) (v := ?v4) rfl (by kernel_rfl) (by kernel_rfl) (by kernel_rfl) (by kernel_rfl) (fun _ _ _ h => h) (yieldsIf_run rfl (fun w' hw' => ?y4)) hS0 ?_
  case y4 => (obtain ⟨z0, z1, z2, z3, z4, z5⟩ := HCELL.out w' hw'; clear hw'; first | (go_simp; rfl) | (go_simp; done))
  simp only [Act.put, List.setIfInBounds_toArray, List.set_cons_zero, List.set_cons_succ]
  refine wpAnyF_do (i := 2) (by kernel_rfl) rfl rfl (fun K hK => ?_)
  go_simp
  go_at_call 54
  refine (number_any g 4 (by omega) (by omega) _).mono ?_
  rintro e x1 ⟨q1, rfl, hn1, hm1⟩
  obtain ⟨qa1, qc1, rfl⟩ := ownsRow_form hn1
  obtain ⟨qg1, rfl, _, _, _⟩ := own_addr hn1 (by omega)
  have hS1 : Below w1.heap.size w1 x1 := hS0.trans (hm1.mono hS0.size)
  refine hK _ _ (fun _ => hS1) ?_
  clear hK K
  try simp only [Act.put, List.setIfInBounds_toArray, List.set_cons_zero, List.set_cons_succ]
  have ho1 := ownsRow_base hn1 hS0.size
  refine wpAnyF_do (i := 5) (by kernel_rfl) rfl rfl (fun K hK => ?_)
  go_simp
  go_at_call 54
  refine (number_any n 4 (by omega) (by omega) _).mono ?_
  rintro e x2 ⟨q2, rfl, hn2, hm2⟩
  obtain ⟨qa2, qc2, rfl⟩ := ownsRow_form hn2
  obtain ⟨qg2, rfl, _, _, _⟩ := own_addr hn2 (by omega)
  have hS2 : Below w1.heap.size w1 x2 := hS1.trans (hm2.mono hS1.size)
  have ho2 := own_kept ho1 hm2
  refine hK _ _ (fun _ => hS2) ?_
  clear hK K
  try simp only [Act.put, List.setIfInBounds_toArray, List.set_cons_zero, List.set_cons_succ]
  refine wpAnyF_do (i := 6) (by kernel_rfl) rfl rfl (fun K hK => ?_)
  have hbq := own_bytes hn2
  refine wp_appOwn (n := 4) (m := 4) (N := 8) (.tmp 6) (.tmp 9) rfl rfl ho2 rfl hbq rfl (by omega) (by omega) hS2.size ?_
  intro ra3 rc3 x3 ho3 hg3
  clear hbq
  have hS3 : Below w1.heap.size w1 x3 := hS2.grown hg3 hS2.size (fun j hj => (ownsRow_lt ho2 j hj).1)
  refine hK _ _ (fun _ => hS3) ?_
  clear hK K
  try simp only [Act.put, List.setIfInBounds_toArray, List.set_cons_zero, List.set_cons_succ]
  refine wpAnyF_do (i := 7) (by kernel_rfl) rfl rfl (fun K hK => ?_)
  go_simp
  refine hK _ _ (fun h => absurd rfl h) ?_
  clear hK K
  refine wpAnyF_done (by kernel_rfl) ?_ _
  refine NoPanic.normal ?_
  have hoE := ho3
  have hSE := hS3
  have hoD := own_kept hoE (show Below x3.heap.size x3 x3.drew from (Below.refl _ _).drew)
  go_wp2_with fail
  refine wp_region_noPanic ?_
  refine wp_region_F 9 (Below w1.heap.size w1) (by kernel_rfl) ?_
  have hS0 : (Below w1.heap.size w1) x3.drew := hSE.drew
  refine wpAnyF_take (i := 0) (fin := 9) (v := ?v5) rfl (by kernel_rfl) (by kernel_rfl) (by kernel_rfl) (by kernel_rfl) (fun _ _ _ h => h) (yieldsIf_run rfl (fun w' hw' => ?y5)) hS0 ?_
  case y5 => first | (go_simp; rfl) | (go_simp; done) | rfl
  simp only [Act.put, List.setIfInBounds_toArray, List.set_cons_zero, List.set_cons_succ]
  refine wpAnyF_take (i := 1) (fin := 9) (v := ?v6) rfl (by kernel_rfl) (by kernel_rfl) (by kernel_rfl) (by kernel_rfl) (fun _ _ _ h => h) (yieldsIf_run rfl (fun w' hw' => ?y6)) hS0 ?_
  case y6 => first | (go_simp; rfl) | (go_simp; done) | rfl
  simp only [Act.put, List.setIfInBounds_toArray, List.set_cons_zero, List.set_cons_succ]
  refine wpAnyF_take (i := 2) (fin := 9) (v := ?v7) rfl (by kernel_rfl) (by kernel_rfl) (by kernel_rfl) (by kernel_rfl) (fun _ _ _ h => h) (yieldsIf_run rfl (fun w' hw' => ?y7)) hS0 ?_
  case y7 => (obtain ⟨z0, z1, z2, z3, z4, z5⟩ := HCELL.out w' hw'; clear hw'; first | (go_simp; rfl) | (go_simp; done))
  simp only [Act.put, List.setIfInBounds_toArray, List.set_cons_zero, List.set_cons_succ]
  refine wpAnyF_take (i := 5) (fin := 9) (v := ?v8) rfl (by kernel_rfl) (by kernel_rfl) (by kernel_rfl) (by kernel_rfl) (fun _ _ _ h => h) (yieldsIf_run rfl (fun w' hw' => ?y8)) hS0 ?_
  case y8 => first | (go_simp; rfl) | (go_simp; done) | rfl
  simp only [Act.put, List.setIfInBounds_toArray, List.set_cons_zero, List.set_cons_succ]
  refine wpAnyF_take (i := 6) (fin := 9) (v := ?v9) rfl (by kernel_rfl) (by kernel_rfl) (by kernel_rfl) (by kernel_rfl) (fun _ _ _ h => h) (yieldsIf_run rfl (fun w' hw' => ?y9)) hS0 ?_
  case y9 => (obtain ⟨z0, z1, z2, z3, z4, z5⟩ := HCELL.out w' hw'; clear hw'; first | (go_simp; rfl) | (go_simp; done))
  simp only [Act.put, List.setIfInBounds_toArray, List.set_cons_zero, List.set_cons_succ]
  refine wpAnyF_do (i := 3) (by kernel_rfl) rfl rfl (fun K hK => ?_)
  go_simp
  go_at_call 54
  refine (number_any k 2 (by omega) (by omega) _).mono ?_
  rintro e x4 ⟨q4, rfl, hn4, hm4⟩
  obtain ⟨qa4, qc4, rfl⟩ := ownsRow_form hn4
  obtain ⟨qg4, rfl, _, _, _⟩ := own_addr hn4 (by omega)
  have hS20a : Below w1.heap.size w1 x4 := hS0.trans (hm4.mono hS0.size)
  have ho20a := own_kept hoD hm4
  refine hK _ _ (fun _ => hS20a) ?_
  clear hK K
  try simp only [Act.put, List.setIfInBounds_toArray, List.set_cons_zero, List.set_cons_succ]
  refine wpAnyF_do (i := 4) (by kernel_rfl) rfl rfl (fun K hK => ?_)
  have hbq := own_bytes hn4
  refine wp_appOwn (n := 8) (m := 2) (N := 10) (.tmp 11) (.tmp 14) rfl rfl ho20a rfl hbq rfl (by omega) (by omega) hS20a.size ?_
  intro ra5 rc5 x5 ho20b hg5
  clear hbq
  have hS20b : Below w1.heap.size w1 x5 := hS20a.grown hg5 hS20a.size (fun j hj => (ownsRow_lt ho20a j hj).1)
  refine hK _ _ (fun _ => hS20b) ?_
  clear hK K
  try simp only [Act.put, List.setIfInBounds_toArray, List.set_cons_zero, List.set_cons_succ]
  refine wpAnyF_do (i := 7) (by kernel_rfl) rfl rfl (fun K hK => ?_)
  go_simp
  go_at_call 54
  refine (number_any i 2 (by omega) (by omega) _).mono ?_
  rintro e x6 ⟨q6, rfl, hn6, hm6⟩
  obtain ⟨qa6, qc6, rfl⟩ := ownsRow_form hn6
  obtain ⟨qg6, rfl, _, _, _⟩ := own_addr hn6 (by omega)
  have hS21a : Below w1.heap.size w1 x6 := hS20b.trans (hm6.mono hS20b.size)
  have ho21a := own_kept ho20b hm6
  refine hK _ _ (fun _ => hS21a) ?_
  clear hK K
  try simp only [Act.put, List.setIfInBounds_toArray, List.set_cons_zero, List.set_cons_succ]
  refine wpAnyF_do (i := 8) (by kernel_rfl) rfl rfl (fun K hK => ?_)
  have hbq := own_bytes hn6
  refine wp_appOwn (n := 10) (m := 2) (N := 12) (.tmp 15) (.tmp 18) rfl rfl ho21a rfl hbq rfl (by omega) (by omega) hS21a.size ?_
  intro ra7 rc7 x7 ho21b hg7
  clear hbq
  have hS21b : Below w1.heap.size w1 x7 := hS21a.grown hg7 hS21a.size (fun j hj => (ownsRow_lt ho21a j hj).1)
  refine hK _ _ (fun _ => hS21b) ?_
  clear hK K
  try simp only [Act.put, List.setIfInBounds_toArray, List.set_cons_zero, List.set_cons_succ]
  refine wpAnyF_do (i := 9) (by kernel_rfl) rfl rfl (fun K hK => ?_)
  go_simp
  refine hK _ _ (fun h => absurd rfl h) ?_
  clear hK K
  refine wpAnyF_done (by kernel_rfl) ?_ _
  refine NoPanic.normal ?_
  clear hoE hSE
  have hoE := ho21b
  have hSE := hS21b
  have hoD := own_kept hoE (show Below x7.heap.size x7 x7.drew from (Below.refl _ _).drew)
  go_wp2_with fail
  refine wp_region_noPanic ?_
  refine wp_region_F 10 (Below w1.heap.size w1) (by kernel_rfl) ?_
  have hS0 : (Below w1.heap.size w1) x7.drew := hSE.drew
  refine wpAnyF_take (i := 0) (fin := 10) (v := ?v10) rfl (by kernel_rfl) (by kernel_rfl) (by kernel_rfl) (by kernel_rfl) (fun _ _ _ h => h) (yieldsIf_run rfl (fun w' hw' => ?y10)) hS0 ?_
  case y10 => first | (go_simp; rfl) | (go_simp; done) | rfl
  simp only [Act.put, List.setIfInBounds_toArray, List.set_cons_zero, List.set_cons_succ]
  refine wpAnyF_take (i := 1) (fin := 10) (v := ?v11) rfl (by kernel_rfl) (by kernel_rfl) (by kernel_rfl) (by kernel_rfl) (fun _ _ _ h => h) (yieldsIf_run rfl (fun w' hw' => ?y11)) hS0 ?_
  case y11 => first | (go_simp; rfl) | (go_simp; done) | rfl
  simp only [Act.put, List.setIfInBounds_toArray, List.set_cons_zero, List.set_cons_succ]
  refine wpAnyF_take (i := 2) (fin := 10) (v := ?v12) rfl (by kernel_rfl) (by kernel_rfl) (by kernel_rfl) (by kernel_rfl) (fun _ _ _ h => h) (yieldsIf_run rfl (fun w' hw' => ?y12)) hS0 ?_
  case y12 => (obtain ⟨z0, z1, z2, z3, z4, z5⟩ := HCELL.out w' hw'; clear hw'; first | (go_simp; rfl) | (go_simp; done))
  simp only [Act.put, List.setIfInBounds_toArray, List.set_cons_zero, List.set_cons_succ]
  refine wpAnyF_take (i := 5) (fin := 10) (v := ?v13) rfl (by kernel_rfl) (by kernel_rfl) (by kernel_rfl) (by kernel_rfl) (fun _ _ _ h => h) (yieldsIf_run rfl (fun w' hw' => ?y13)) hS0 ?_
  case y13 => first | (go_simp; rfl) | (go_simp; done) | rfl
  simp only [Act.put, List.setIfInBounds_toArray, List.set_cons_zero, List.set_cons_succ]
  refine wpAnyF_take (i := 6) (fin := 10) (v := ?v14) rfl (by kernel_rfl) (by kernel_rfl) (by kernel_rfl) (by kernel_rfl) (fun _ _ _ h => h) (yieldsIf_run rfl (fun w' hw' => ?y14)) hS0 ?_
  case y14 => (obtain ⟨z0, z1, z2, z3, z4, z5⟩ := HCELL.out w' hw'; clear hw'; first | (go_simp; rfl) | (go_simp; done))
  simp only [Act.put, List.setIfInBounds_toArray, List.set_cons_zero, List.set_cons_succ]
  refine wpAnyF_take (i := 7) (fin := 10) (v := ?v15) rfl (by kernel_rfl) (by kernel_rfl) (by kernel_rfl) (by kernel_rfl) (fun _ _ _ h => h) (yieldsIf_run rfl (fun w' hw' => ?y15)) hS0 ?_
  case y15 => first | (go_simp; rfl) | (go_simp; done) | rfl
  simp only [Act.put, List.setIfInBounds_toArray, List.set_cons_zero, List.set_cons_succ]
  refine wpAnyF_do (i := 3) (by kernel_rfl) rfl rfl (fun K hK => ?_)
  go_simp
  go_at_call 54
  refine (number_any c 2 (by omega) (by omega) _).mono ?_
  rintro e x8 ⟨q8, rfl, hn8, hm8⟩
  obtain ⟨qa8, qc8, rfl⟩ := ownsRow_form hn8
  obtain ⟨qg8, rfl, _, _, _⟩ := own_addr hn8 (by omega)
  have hS30a : Below w1.heap.size w1 x8 := hS0.trans (hm8.mono hS0.size)
  have ho30a := own_kept hoD hm8
  refine hK _ _ (fun _ => hS30a) ?_
  clear hK K
  try simp only [Act.put, List.setIfInBounds_toArray, List.set_cons_zero, List.set_cons_succ]
  refine wpAnyF_do (i := 4) (by kernel_rfl) rfl rfl (fun K hK => ?_)
  have hbq := own_bytes hn8
  refine wp_appOwn (n := 12) (m := 2) (N := 14) (.tmp 20) (.tmp 23) rfl rfl ho30a rfl hbq rfl (by omega) (by omega) hS30a.size ?_
  intro ra9 rc9 x9 ho30b hg9
  clear hbq
  have hS30b : Below w1.heap.size w1 x9 := hS30a.grown hg9 hS30a.size (fun j hj => (ownsRow_lt ho30a j hj).1)
  refine hK _ _ (fun _ => hS30b) ?_
  clear hK K
  try simp only [Act.put, List.setIfInBounds_toArray, List.set_cons_zero, List.set_cons_succ]
  refine wpAnyF_do (i := 8) (by kernel_rfl) rfl rfl (fun K hK => ?_)
  go_simp
  go_at_call 54
  refine (number_any len 2 (by omega) (by omega) _).mono ?_
  rintro e x10 ⟨q10, rfl, hn10, hm10⟩
  obtain ⟨qa10, qc10, rfl⟩ := ownsRow_form hn10
  obtain ⟨qg10, rfl, _, _, _⟩ := own_addr hn10 (by omega)
  have hS31a : Below w1.heap.size w1 x10 := hS30b.trans (hm10.mono hS30b.size)
  have ho31a := own_kept ho30b hm10
  refine hK _ _ (fun _ => hS31a) ?_
  clear hK K
  try simp only [Act.put, List.setIfInBounds_toArray, List.set_cons_zero, List.set_cons_succ]
  refine wpAnyF_do (i := 9) (by kernel_rfl) rfl rfl (fun K hK => ?_)
  have hbq := own_bytes hn10
  refine wp_appOwn (n := 14) (m := 2) (N := 16) (.tmp 24) (.tmp 28) rfl rfl ho31a rfl hbq rfl (by omega) (by omega) hS31a.size ?_
  intro ra11 rc11 x11 ho31b hg11
  clear hbq
  have hS31b : Below w1.heap.size w1 x11 := hS31a.grown hg11 hS31a.size (fun j hj => (ownsRow_lt ho31a j hj).1)
  refine hK _ _ (fun _ => hS31b) ?_
  clear hK K
  try simp only [Act.put, List.setIfInBounds_toArray, List.set_cons_zero, List.set_cons_succ]
  refine wpAnyF_do (i := 10) (by kernel_rfl) rfl rfl (fun K hK => ?_)
  go_simp
  refine hK _ _ (fun h => absurd rfl h) ?_
  clear hK K
  refine wpAnyF_done (by kernel_rfl) ?_ _
  refine NoPanic.normal ?_
  clear hoE hSE
  have hoE := ho31b
  have hSE := hS31b
  have hh : x11.ownsRow w1.heap.size 5 1 (.slice ra11 16 rc11) 16 (bvs (hdrL ⟨k, g, n, i, c, l⟩)) := by
    have h := hoE
    rw [← HL.out] at h
    exact h
  obtain ⟨z0, z1, z2, z3, z4, z5⟩ := HCELL.out _ hSE
  have hvE := HV1.out.below hSE
  have hbE := HB1.out.trans (hSE.mono HB1.out.size)
  have HH := Lib.hid hh
  have HVE := Lib.hid hvE
  have HBE := Lib.hid hbE
  have HSE := Lib.hid hSE
  clear hoE hh hvE hbE hSE z0 z1 z2 z3 z4
  go_wp2_with (at_builtin; refine wpList_appBytes rfl (.tmp 30) (.tmp 32) rfl rfl HH.out rfl HVE.out.at_ HVE.out.nil ?hn HSE.out.size ?_)
  case hn => rw [HL.out]; omega
  intro a8 cap8 w8 hO8 hg8
  have hB8 : Below w1.heap.size w1 w8 := HSE.out.grown hg8 HSE.out.size (fun j hj => (ownsRow_lt HH.out j hj).1)
  rw [HL.out] at hO8 ⊢
  have hseal := Seal_any _ _ (own_bytesN hO8) (by simp [HL.out]; omega)
  have hB9 := HB1.out.trans (hB8.mono HB1.out.size)
  have HSEAL := Lib.hid hseal
  have HB9 := Lib.hid hB9
  clear hO8 hg8 hB8 hseal hB9
  go_wp2_with fail
  refine HSEAL.out.mono ?_
  rintro e w9 ⟨u, rfl, hO9, hB9⟩
  have HO9 := Lib.hid (ownsRow_base hO9 HB9.out.size)
  have HBB := Lib.hid (HB9.out.trans (hB9.mono HB9.out.size))
  clear hO9 hB9
  go_wp2_with fail
  go_ret
  exact ⟨_, rfl, HO9.out, HBB.out⟩

end Go.Proofs.YtloaenknhkfaeaaDoor
