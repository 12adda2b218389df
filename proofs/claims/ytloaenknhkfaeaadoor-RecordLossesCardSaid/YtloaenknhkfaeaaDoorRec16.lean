/- Records: Join. -/
import Derived.Test.YtloaenknhkfaeaaDoorRec15

namespace Go.Proofs.YtloaenknhkfaeaaDoor
open Go.RowKit
set_option linter.unusedVariables false
set_option linter.unusedSimpArgs false

theorem wp_known {P : Program} {o : Oper} {a : Act} {w : World} {K : Act → World → Prop} {Q : Exit → Act → World → Prop} (v : Value) (hr : (execOp a.eval o).run P w = .ok (.value v) w) (h : K (a.put o.dst v) w) : o.wp P a w K Q := by
  unfold Oper.wp
  rw [hr]
  exact h
theorem op_neq {P : Program} {w : World} {ρ : Operand → Value} {o : Oper} {xs ys : Array Value} {b : Bool} (t : TypeId) (x y : Operand) (u : TypeId) (ho : o.op = .binOp .neq t x y u) (hx : ρ x = .agg xs) (hy : ρ y = .agg ys) (hg : P.eqGuardType P.depth t = false)
    (h : (binOp .neq t (.agg xs) (.agg ys)).run P w = .ok (.bool b) w) : (execOp ρ o).run P w = .ok (.value (.bool b)) w := by
  unfold execOp
  simp only [ho, hx, hy, Sem.run_bind, run_eqGuard_agg w .neq t x y xs ys hg, h, Result.andThen_ok]
  rfl
theorem chg4 (w : World) (b : Nat) (v0 v1 v2 v3 : Value) : Chg (fun k => k = b) w ((((w.setCell ⟨b, 0, none⟩ v0).setCell ⟨b, 1, none⟩ v1).setCell ⟨b, 2, none⟩ v2).setCell ⟨b, 3, none⟩ v3) := by
  have t : ∀ {a c : World} (j : Nat) (v : Value), Chg (fun k => k = b) a c → Chg (fun k => k = b) a (c.setCell ⟨b, j, none⟩ v) := fun j v h => h.trans (Chg.setCell (F := fun k => k = b) _ _ rfl) (fun _ h => .inl h)
  exact t 3 _ (t 2 _ (t 1 _ (t 0 _ (Chg.refl _ _))))
theorem below_chg {w w1 w2 : World} {B b : Nat} (h : Below B w w1) (hc : Chg (fun k => k = b) w1 w2) (hb : B ≤ b) (hB : B ≤ w.heap.size) : Below B w w2 := h.trans (hc.below (fun k hk => by have : k = b := hk; omega) (Nat.le_trans hB h.size))
theorem below_z {w w1 : World} {B b : Nat} (h : Below B w w1) (hb : B ≤ b) (hB : B ≤ w.heap.size) (v0 v1 v2 v3 : Value) (o : Obj) : Below B w (((((w1.setCell ⟨b, 0, none⟩ v0).setCell ⟨b, 1, none⟩ v1).setCell ⟨b, 2, none⟩ v2).setCell ⟨b, 3, none⟩ v3).alloc o) :=
  (below_chg h (chg4 _ _ _ _ _ _) hb hB).alloc (Nat.le_trans hB (below_chg h (chg4 _ _ _ _ _ _) hb hB).size) _

theorem Join_nil {w : World} (a : Option Addr) (cap : Nat) : Calls Tryd.prog 34 #[.slice a 0 cap] w (JoinPost w []) := by
  go_enter Tryd.func34, Tryd.ntmps34
  go_wp2_with fail
  exact bodyPost_ret (v := .tuple #[.agg #[.int .i64 0, .int .i64 0, .int .i64 0, .slice none 0 0], .int .i64 0, .int .i64 4]) (by simp [results, Tryd.results34, go_sem]) rfl (JoinPost.no rfl ((Below.refl _ _).alloc (Nat.le_refl _) _))

set_option maxRecDepth 100000 in
set_option maxHeartbeats 2000000 in
theorem Join_cons {w : World} (b : List UInt8) (L' : List (List UInt8)) (v : Value) (hv : SecsAt w v (b :: L')) (hM0 : (b :: L').length < 1000000000) (hK : KAt w) : Calls Tryd.prog 34 #[v] w (JoinPost w (b :: L')) := by
  obtain ⟨va, cap, rfl⟩ := hv.form
  obtain ⟨L, hL⟩ : ∃ L, b :: L' = L := ⟨_, rfl⟩
  obtain ⟨M, hM⟩ : ∃ M, L.length = M := ⟨_, rfl⟩
  have hpos : 0 < M := by rw [← hM, ← hL]; simp
  have hMz : ((M : Int) == 0) = false := by simp; omega
  rw [hL] at hv hM0 ⊢
  rw [hM] at hv hM0 ⊢
  obtain ⟨w1, hw1⟩ : ∃ w1, w.alloc (.cells #[.int .i64 0, .int .i64 0, .int .i64 0, .slice none 0 0] 50) = w1 := ⟨_, rfl⟩
  have hb1 : Below w.heap.size w w1 := hw1 ▸ (Below.refl _ w).alloc (Nat.le_refl _) _
  have hR1 : w1.heap[w.heap.size]? = some (.cells #[.int .i64 0, .int .i64 0, .int .i64 0, .slice none 0 0] 50 (0, 0)) := by rw [← hw1]; exact heap_alloc_new _ _
  have hv1 := hv.below hb1
  obtain ⟨sg, so, x0, n0, c0, rfl, hc0, hs0⟩ := hv1.get (i := 0) (by rw [hM]; exact hpos)
  have hb00 : L[0]'(by rw [hM]; exact hpos) = b := by simp [← hL]
  rw [hb00] at hs0
  rw [Nat.add_zero] at hc0
  obtain ⟨P, hP⟩ : ∃ P, decP b = P := ⟨_, rfl⟩
  obtain ⟨E0, hE0⟩ : ∃ E, decE b = E := ⟨_, rfl⟩
  obtain ⟨m, hm⟩ : ∃ m, P.bytes.length = m := ⟨_, rfl⟩
  have hdec : Calls Tryd.prog 21 #[.slice x0 n0 c0] w1 (fun e w' => ∃ a c, e = .returned (.tuple #[.agg #[.int .i64 P.kind, .int .i64 P.gen, .int .i64 P.num, .int .i64 P.idx, .int .i64 P.cnt, .slice a m c], .int .i64 E0]) ∧
      w'.ownsRow w1.heap.size 5 1 (.slice a m c) m (bvs P.bytes) ∧ Below w1.heap.size w1 w') :=
    (DecodePart_any b _ hs0.at_ (hK.below hb1 hK.size)).mono (fun e w' h => by have := h.parts; rwa [hP, hE0, hm] at this)
  have hsm : E0 = 0 → Small P.kind ∧ Small P.gen ∧ Small P.num ∧ Small P.idx ∧ Small P.cnt ∧ P.bytes.length ≤ 224 ∧ 1 ≤ P.cnt ∧ P.cnt ≤ 586 := fun h => by rw [← hP]; exact decP_small (by rw [hE0]; exact h)
  have hj1 : E0 ≠ 0 → joinL L = (.zero, 0, E0) := fun h => by rw [← hL, joinL, if_pos (by rw [hE0]; exact h), hE0]
  have hj2 : E0 = 0 → P.idx ≠ 0 → joinL L = (.zero, 0, 30) := fun h h2 => by rw [← hL, joinL, if_neg (by rw [hE0]; exact fun h3 => h3 h), hP, if_pos h2]
  have hj3 : E0 = 0 → P.idx = 0 → joinL L = joinGo L P 1 (P.cnt.toNat - 1) P.bytes := fun h h2 => by rw [← hL, joinL, if_neg (by rw [hE0]; exact fun h3 => h3 h), hP, if_neg (fun h3 => h3 h2)]
  obtain ⟨k, g, n, x, c, bs⟩ := P
  simp only at hdec hsm hj1 hj2 hj3 hm
  have HDEC := Lib.hid hdec
  have HSM := Lib.hid hsm
  have HJ1 := Lib.hid hj1
  have HJ2 := Lib.hid hj2
  have HJ3 := Lib.hid hj3
  have HM := Lib.hid hM
  have HML := Lib.hid hm
  have HV := Lib.hid hv
  have HK := Lib.hid hK
  have HW1 := Lib.hid hw1
  have HB1 := Lib.hid hb1
  have HR1 := Lib.hid hR1
  have hw1s : w1.heap.size = w.heap.size + 1 := by rw [← hw1]; simp
  have HC0 := Lib.hid hc0
  have HPOS := Lib.hid hpos
  have hc0' : (w.alloc (.cells #[.int .i64 0, .int .i64 0, .int .i64 0, .slice none 0 0] 50)).cell? ⟨sg, so, none⟩ = some (.slice x0 n0 c0) := by rw [hw1]; exact hc0
  clear hdec hsm hj1 hj2 hj3 hM hm hv hK hw1 hb1 hR1 hv1 hc0 hs0 hb00 hP hE0
  go_enter Tryd.func34, Tryd.ntmps34
  go_wp2_with fail
  rw [HW1.out]
  refine HDEC.out.mono ?_
  rintro e w2 ⟨ca, cc, rfl, hO2, hb2⟩
  have hR2 := (hb2.block w.heap.size (by omega)).trans HR1.out
  have hbd2 := HB1.out.trans (hb2.mono HB1.out.size)
  have hq2 := hb2.size
  have hlt2 : w.heap.size < w2.heap.size := by omega
  have hrf : ∀ j : Nat, w2.frozen? ⟨w.heap.size, j, none⟩ = false := fun j => frozen_of_row _ _ _ _ _ hR2
  have hy0 : w2.cell? ⟨w.heap.size, 0, none⟩ = some (.int .i64 0) := by rw [cell_of_row _ _ _ _ _ _ hR2]; rfl
  have hy1 : w2.cell? ⟨w.heap.size, 1, none⟩ = some (.int .i64 0) := by rw [cell_of_row _ _ _ _ _ _ hR2]; rfl
  have hy2 : w2.cell? ⟨w.heap.size, 2, none⟩ = some (.int .i64 0) := by rw [cell_of_row _ _ _ _ _ _ hR2]; rfl
  have hy3 : w2.cell? ⟨w.heap.size, 3, none⟩ = some (.slice none 0 0) := by rw [cell_of_row _ _ _ _ _ _ hR2]; rfl
  have HR2 := Lib.hid hR2
  have HBD2 := Lib.hid hbd2
  have HO2 := Lib.hid hO2
  have HQ2 := Lib.hid hq2
  clear hO2 hb2 hR2 hbd2 hq2 hc0'
  by_cases hE : E0 = 0
  · subst hE
    obtain ⟨sk, sg', sn, sx, sc, hm224, hc1, hc586⟩ := HSM.out (by simp)
    obtain ⟨w3, hw3⟩ : ∃ w3, w2.alloc (.cells #[.int .i64 k, .int .i64 g, .int .i64 n, .int .i64 x, .int .i64 c, .slice ca m cc] 25) = w3 := ⟨_, rfl⟩
    have hb3 : Below w2.heap.size w2 w3 := hw3 ▸ (Below.refl _ _).alloc (Nat.le_refl _) _
    have hs3 : w3.heap.size = w2.heap.size + 1 := by rw [← hw3]; simp
    have hT3 : w3.heap[w2.heap.size]? = some (.cells #[.int .i64 k, .int .i64 g, .int .i64 n, .int .i64 x, .int .i64 c, .slice ca m cc] 25 (0, 0)) := by rw [← hw3]; exact heap_alloc_new _ _
    have hR3 := (hb3.block _ hlt2).trans HR2.out
    have hO3 := own_kept HO2.out hb3
    have hbd3 := HBD2.out.trans (hb3.mono HBD2.out.size)
    have hpl := place_any k g n x c ca m cc w3
    have HPL := Lib.hid hpl
    have HW3 := Lib.hid hw3
    have HT3 := Lib.hid hT3
    have HR3 := Lib.hid hR3
    have HO3 := Lib.hid hO3
    have HBD3 := Lib.hid hbd3
    clear hpl hw3 hb3 hT3 hR3 hO3 hbd3 hrf hy0 hy1 hy2 hy3
    go_wp2_with fail
    rw [HW3.out]
    refine HPL.out.mono ?_
    rintro e w4 ⟨rfl, hb4⟩
    have hq4 := hb4.size
    have hT4 := (hb4.block w2.heap.size (by omega)).trans HT3.out
    have hR4 := (hb4.block w.heap.size (by omega)).trans HR3.out
    have hO4 := own_kept HO3.out hb4
    have hbd4 := HBD3.out.trans (hb4.mono HBD3.out.size)
    have hlt4 : w.heap.size < w4.heap.size := by omega
    have hlt4b : w2.heap.size < w4.heap.size := by omega
    have hrf : ∀ j : Nat, w4.frozen? ⟨w.heap.size, j, none⟩ = false := fun j => frozen_of_row _ _ _ _ _ hR4
    have hy0 : w4.cell? ⟨w.heap.size, 0, none⟩ = some (.int .i64 0) := by rw [cell_of_row _ _ _ _ _ _ hR4]; rfl
    have hy1 : w4.cell? ⟨w.heap.size, 1, none⟩ = some (.int .i64 0) := by rw [cell_of_row _ _ _ _ _ _ hR4]; rfl
    have hy2 : w4.cell? ⟨w.heap.size, 2, none⟩ = some (.int .i64 0) := by rw [cell_of_row _ _ _ _ _ _ hR4]; rfl
    have hy3 : w4.cell? ⟨w.heap.size, 3, none⟩ = some (.slice none 0 0) := by rw [cell_of_row _ _ _ _ _ _ hR4]; rfl
    have HR4 := Lib.hid hR4
    have HT4 := Lib.hid hT4
    have HO4 := Lib.hid hO4
    have HBD4 := Lib.hid hbd4
    clear hb4 hT4 hR4 hO4 hbd4
    by_cases hx : x = 0
    · have hxb : (x != 0) = false := by simp [hx]
      obtain ⟨w5, hw5⟩ : ∃ w5, w4.alloc (.cells #[.int .i64 k, .int .i64 g, .int .i64 n, .int .i64 x, .int .i64 c] 100) = w5 := ⟨_, rfl⟩
      have hb5 : Below w4.heap.size w4 w5 := hw5 ▸ (Below.refl _ _).alloc (Nat.le_refl _) _
      have hU5 : w5.heap[w4.heap.size]? = some (.cells #[.int .i64 k, .int .i64 g, .int .i64 n, .int .i64 x, .int .i64 c] 100 (0, 0)) := by rw [← hw5]; exact heap_alloc_new _ _
      have hT5 := (hb5.block _ hlt4b).trans HT4.out
      have hR5 := (hb5.block _ hlt4).trans HR4.out
      have hO5 := ownsRow_base (own_kept HO4.out hb5) HB1.out.size
      have hbd5 := HBD4.out.trans (hb5.mono HBD4.out.size)
      have hj := HJ3.out (by simp) hx
      have HW5 := Lib.hid hw5
      have HU5 := Lib.hid hU5
      have HT5 := Lib.hid hT5
      have HR5 := Lib.hid hR5
      have HO5 := Lib.hid hO5
      have HBD5 := Lib.hid hbd5
      have HJ := Lib.hid hj
      have ht5 : w4.cell? ⟨w2.heap.size, 5, none⟩ = some (.slice ca m cc) := by rw [cell_of_row _ _ _ _ _ _ HT4.out]; rfl
      clear hw5 hb5 hU5 hT5 hR5 hO5 hbd5 hj hx hrf hy0 hy1 hy2 hy3
      go_wp2_with fail
      rw [HW5.out]
      go_loopw [7, 8] (fun pv jv wr => ∃ (j : Nat) (acc : List UInt8) (N : Nat) (y : Int) (pa : Option Addr) (pc : Nat), 1 ≤ j ∧ (j : Int) ≤ c ∧ jv = .int .i64 (j : Int) ∧ pv = .slice pa N pc ∧ acc.length = N ∧ N ≤ 224 * j ∧
          wr.ownsRow w.heap.size 5 1 pv N (bvs acc) ∧ joinL L = joinGo L ⟨k, g, n, x, c, bs⟩ j (c.toNat - j) acc ∧ wr.heap[w.heap.size]? = some (.cells #[.int .i64 0, .int .i64 0, .int .i64 0, .slice none 0 0] 50 (0, 0)) ∧ wr.heap[w2.heap.size]? = some (.cells #[.int .i64 k, .int .i64 g, .int .i64 n, .int .i64 x, .int .i64 c, .slice ca m cc] 25 (0, 0)) ∧
          wr.heap[w4.heap.size]? = some (.cells #[.int .i64 k, .int .i64 g, .int .i64 n, .int .i64 y, .int .i64 c] 100 (0, 0)) ∧ Below w.heap.size w wr) (fun _ jv _ => (c - intOf jv).toNat)
      case atStart => exact ⟨1, bs, m, x, ca, cc, Nat.le_refl _, by omega, rfl, rfl, HML.out, by have := HML.out; omega, HO5.out, HJ.out, HR5.out, HT5.out, HU5.out, HBD5.out⟩
      case round =>
        obtain ⟨j, acc, N, y, pa, pc, hj1, hjc, rfl, rfl, hacc, hN, hO, hJ, hR, hT, hU, hB⟩ := hrel
        have hqR := (Array.getElem?_eq_some_iff.1 hR).1
        have hqT := (Array.getElem?_eq_some_iff.1 hT).1
        have hqU := (Array.getElem?_eq_some_iff.1 hU).1
        have hrf : ∀ j : Nat, wr.frozen? ⟨w.heap.size, j, none⟩ = false := fun j => frozen_of_row _ _ _ _ _ hR
        have hy0 : wr.cell? ⟨w.heap.size, 0, none⟩ = some (.int .i64 0) := by rw [cell_of_row _ _ _ _ _ _ hR]; rfl
        have hy1 : wr.cell? ⟨w.heap.size, 1, none⟩ = some (.int .i64 0) := by rw [cell_of_row _ _ _ _ _ _ hR]; rfl
        have hy2 : wr.cell? ⟨w.heap.size, 2, none⟩ = some (.int .i64 0) := by rw [cell_of_row _ _ _ _ _ _ hR]; rfl
        have hy3 : wr.cell? ⟨w.heap.size, 3, none⟩ = some (.slice none 0 0) := by rw [cell_of_row _ _ _ _ _ _ hR]; rfl
        have ht4 : wr.cell? ⟨w2.heap.size, 4, none⟩ = some (.int .i64 c) := by rw [cell_of_row _ _ _ _ _ _ hT]; rfl
        have HACC := Lib.hid hacc
        have HO := Lib.hid hO
        have HJ := Lib.hid hJ
        have HR := Lib.hid hR
        have HT := Lib.hid hT
        have HU := Lib.hid hU
        have HB := Lib.hid hB
        clear hacc hO hJ hR hT hU hB
        by_cases hlt : (j : Int) < c
        · have hstep : c.toNat - j = (c.toNat - (j + 1)) + 1 := by omega
          by_cases hjM : j < M
          · have hjMI : ¬ ((M : Int) ≤ (j : Int)) := by omega
            have hjMI2 : (j : Int) < (M : Int) := by omega
            have hvr := HV.out.below HB.out
            obtain ⟨sg', so', x1, n1, c1, e, hcj, hsj⟩ := hvr.get (i := j) (by rw [HM.out]; exact hjM)
            cases e
            obtain ⟨b2, hb2⟩ : ∃ b2, L[j]'(by rw [HM.out]; exact hjM) = b2 := ⟨_, rfl⟩
            rw [hb2] at hsj
            have hget : L[j]? = some b2 := by rw [List.getElem?_eq_getElem (by rw [HM.out]; exact hjM), hb2]
            obtain ⟨P2, hP2⟩ : ∃ P, decP b2 = P := ⟨_, rfl⟩
            obtain ⟨E2, hE2⟩ : ∃ E, decE b2 = E := ⟨_, rfl⟩
            obtain ⟨m2, hm2⟩ : ∃ m, P2.bytes.length = m := ⟨_, rfl⟩
            have hdec : Calls Tryd.prog 21 #[.slice x1 n1 c1] wr (fun e w' => ∃ a c, e = .returned (.tuple #[.agg #[.int .i64 P2.kind, .int .i64 P2.gen, .int .i64 P2.num, .int .i64 P2.idx, .int .i64 P2.cnt, .slice a m2 c], .int .i64 E2]) ∧
                w'.ownsRow wr.heap.size 5 1 (.slice a m2 c) m2 (bvs P2.bytes) ∧ Below wr.heap.size wr w') :=
              (DecodePart_any b2 _ hsj.at_ (HK.out.below HB.out HK.out.size)).mono (fun e w' h => by have := h.parts; rwa [hP2, hE2, hm2] at this)
            have hsm2 : E2 = 0 → Small P2.kind ∧ Small P2.gen ∧ Small P2.num ∧ Small P2.idx ∧ Small P2.cnt ∧ P2.bytes.length ≤ 224 ∧ 1 ≤ P2.cnt ∧ P2.cnt ≤ 586 := fun h => by rw [← hP2]; exact decP_small (by rw [hE2]; exact h)
            have hk1 : E2 ≠ 0 → joinL L = (.zero, 0, E2) := fun h => by rw [HJ.out, hstep, joinGo, hget]; simp only; rw [if_pos (by rw [hE2]; exact h), hE2]
            have hk2 : E2 = 0 → samePl ⟨k, g, n, x, c, bs⟩ P2 j = false → joinL L = (.zero, 0, 30) := fun h h2 => by rw [HJ.out, hstep, joinGo, hget]; simp only; rw [if_neg (by rw [hE2]; exact fun h3 => h3 h), hP2, if_neg (by rw [h2]; simp)]
            have hk3 : E2 = 0 → samePl ⟨k, g, n, x, c, bs⟩ P2 j = true → joinL L = joinGo L ⟨k, g, n, x, c, bs⟩ (j + 1) (c.toNat - (j + 1)) (acc ++ P2.bytes) := fun h h2 => by rw [HJ.out, hstep, joinGo, hget]; simp only; rw [if_neg (by rw [hE2]; exact fun h3 => h3 h), hP2, if_pos h2]
            obtain ⟨k2, g2, n2, x2, c2, bs2⟩ := P2
            simp only at hdec hsm2 hk1 hk2 hk3 hm2
            unfold samePl at hk2 hk3
            simp only at hk2 hk3
            have HDEC2 := Lib.hid hdec
            have HSM2 := Lib.hid hsm2
            have HK1 := Lib.hid hk1
            have HK2 := Lib.hid hk2
            have HK3 := Lib.hid hk3
            have HM2 := Lib.hid hm2
            clear hdec hsm2 hk1 hk2 hk3 hm2 hvr hsj hb2 hget hP2 hE2 hstep
            go_wp2_with fail
            refine HDEC2.out.mono ?_
            rintro e w6 ⟨ca2, cc2, rfl, hO6, hb6⟩
            have hR6 := (hb6.block _ hqR).trans HR.out
            have hbd6 := HB.out.trans (hb6.mono HB.out.size)
            have hq6 := hb6.size
            have hqR6 : w.heap.size < w6.heap.size := by omega
            have hrf : ∀ j : Nat, w6.frozen? ⟨w.heap.size, j, none⟩ = false := fun j => frozen_of_row _ _ _ _ _ hR6
            have hy0 : w6.cell? ⟨w.heap.size, 0, none⟩ = some (.int .i64 0) := by rw [cell_of_row _ _ _ _ _ _ hR6]; rfl
            have hy1 : w6.cell? ⟨w.heap.size, 1, none⟩ = some (.int .i64 0) := by rw [cell_of_row _ _ _ _ _ _ hR6]; rfl
            have hy2 : w6.cell? ⟨w.heap.size, 2, none⟩ = some (.int .i64 0) := by rw [cell_of_row _ _ _ _ _ _ hR6]; rfl
            have hy3 : w6.cell? ⟨w.heap.size, 3, none⟩ = some (.slice none 0 0) := by rw [cell_of_row _ _ _ _ _ _ hR6]; rfl
            by_cases hE2 : E2 = 0
            · subst hE2
              obtain ⟨sk2, sg2, sn2, sx2, sc2, hm2224, _, _⟩ := HSM2.out (by simp)
              have hT6 := (hb6.block _ hqT).trans HT.out
              have hU6 := (hb6.block _ hqU).trans HU.out
              have hO6b := own_kept HO.out hb6
              obtain ⟨wa, hwa⟩ : ∃ wa, w6.setCell ⟨w4.heap.size, 3, none⟩ (.int .i64 (j : Int)) = wa := ⟨_, rfl⟩
              have hcs : Chg (fun k => k = w4.heap.size) w6 wa := hwa ▸ Chg.setCell _ _ rfl
              have hsa : wa.heap.size = w6.heap.size := by rw [← hwa]; simp [World.setCell]
              obtain ⟨w7, hw7⟩ : ∃ w7, wa.alloc (.cells #[.int .i64 k2, .int .i64 g2, .int .i64 n2, .int .i64 x2, .int .i64 c2, .slice ca2 m2 cc2] 25) = w7 := ⟨_, rfl⟩
              have hba : Below wa.heap.size wa w7 := hw7 ▸ (Below.refl _ _).alloc (Nat.le_refl _) _
              have hUa : wa.heap[w4.heap.size]? = some (.cells #[.int .i64 k, .int .i64 g, .int .i64 n, .int .i64 (j : Int), .int .i64 c] 100 (0, 0)) := by rw [← hwa]; exact heap_setCell_same _ _ 3 _ _ (.int .i64 (j : Int)) hU6
              have hU7 := (hba.block _ (by omega)).trans hUa
              have hT7 := (hba.block _ (by omega)).trans ((hcs.block w2.heap.size (by omega) (by omega)).trans hT6)
              have hR7 := (hba.block _ (by omega)).trans ((hcs.block w.heap.size (by omega) (by omega)).trans hR6)
              have hQ7 : w7.heap[w6.heap.size]? = some (.cells #[.int .i64 k2, .int .i64 g2, .int .i64 n2, .int .i64 x2, .int .i64 c2, .slice ca2 m2 cc2] 25 (0, 0)) := by rw [← hw7, ← hsa]; exact heap_alloc_new _ _
              have hO7 := own_kept (ownsRow_chg' hO6b hcs (fun k hk h => own_ne hO6b hU6 (by decide) k hk h)) hba
              have hP7 := own_kept (ownsRow_chg' hO6 hcs (fun k hk h => own_ne hO6 hU6 (by decide) k hk h)) hba
              have hbd7 := (below_chg hbd6 hcs (by omega) (Nat.le_refl _)).trans (hba.mono (by omega))
              have hs7 : w7.heap.size = w6.heap.size + 1 := by rw [← hw7, World.size_alloc, hsa]
              have hu3 : w6.cell? ⟨w4.heap.size, 3, none⟩ = some (.int .i64 y) := by rw [cell_of_row _ _ _ _ _ _ hU6]; rfl
              have huf : w6.frozen? ⟨w4.heap.size, 3, none⟩ = false := frozen_of_row _ _ _ _ _ hU6
              have hqU6 : w4.heap.size < w6.heap.size := by omega
              have hne4 : w4.heap.size ≠ w6.heap.size := by omega
              have hw7' : (w6.setCell ⟨w4.heap.size, 3, none⟩ (.int .i64 (j : Int))).alloc (.cells #[.int .i64 k2, .int .i64 g2, .int .i64 n2, .int .i64 x2, .int .i64 c2, .slice ca2 m2 cc2] 25) = w7 := by rw [hwa]; exact hw7
              have HW7 := Lib.hid hw7'
              have HU7 := Lib.hid hU7
              have HT7 := Lib.hid hT7
              have HR7 := Lib.hid hR7
              have HQ7 := Lib.hid hQ7
              have HO7 := Lib.hid hO7
              have HP7 := Lib.hid hP7
              have HBD7 := Lib.hid hbd7
              have hq7s := hs7
              have HS7 := Lib.hid hs7
              clear hO6 hb6 hR6 hbd6 hT6 hU6 hO6b hw7 hw7' hwa hsa hba hcs hUa hU7 hT7 hR7 hQ7 hO7 hP7 hbd7 hs7 hrf hy0 hy1 hy2 hy3
              go_wp2_with fail
              rw [HW7.out]
              have hneq := neq_place sk sg' sn (i := (j : Int)) ⟨by omega, by omega⟩ sc sk2 sg2 sn2 sx2 sc2
              have HNEQ := Lib.hid hneq
              have HPL2 := Lib.hid (place_any k2 g2 n2 x2 c2 ca2 m2 cc2)
              have hcell : ∀ w' : World, Below w7.heap.size w7 w' → (w'.heap[w6.heap.size]? = some (.cells #[.int .i64 k2, .int .i64 g2, .int .i64 n2, .int .i64 x2, .int .i64 c2, .slice ca2 m2 cc2] 25 (0, 0)) ∧ w'.heap[w4.heap.size]? = some (.cells #[.int .i64 k, .int .i64 g, .int .i64 n, .int .i64 (j : Int), .int .i64 c] 100 (0, 0))) := fun w' h =>
                ⟨(h.block _ (by omega)).trans HQ7.out, (h.block _ (by omega)).trans HU7.out⟩
              have HCELL := Lib.hid hcell
              clear hneq hcell hu3 huf
              refine wp_region_noPanic ?_
              refine wp_region_H (Below w7.heap.size w7) (by kernel_rfl) ?_
              have hS0 : (Below w7.heap.size w7) w7.drew := (Below.refl _ _).drew
              obtain ⟨wd, hwd⟩ : ∃ wd, w7.drew = wd := ⟨_, rfl⟩
              rw [hwd] at hS0 ⊢
              clear hwd
              refine wpAnyH_takeI (i := 0) (v := ?v1) rfl (by kernel_rfl) (by kernel_rfl) (by kernel_rfl) (fun _ _ _ h => h) (yieldsIf_run rfl (fun w' hw' => ?y1)) hS0 ?_
              case y1 => (have h9 := (HCELL.out w' hw').1; have q0 : w'.cell? ⟨w6.heap.size, 0, none⟩ = some (.int .i64 k2) := (by rw [cell_of_row _ _ _ _ _ _ h9]; rfl); have q1 : w'.cell? ⟨w6.heap.size, 1, none⟩ = some (.int .i64 g2) := (by rw [cell_of_row _ _ _ _ _ _ h9]; rfl); have q2 : w'.cell? ⟨w6.heap.size, 2, none⟩ = some (.int .i64 n2) := (by rw [cell_of_row _ _ _ _ _ _ h9]; rfl); have q3 : w'.cell? ⟨w6.heap.size, 3, none⟩ = some (.int .i64 x2) := (by rw [cell_of_row _ _ _ _ _ _ h9]; rfl); have q4 : w'.cell? ⟨w6.heap.size, 4, none⟩ = some (.int .i64 c2) := (by rw [cell_of_row _ _ _ _ _ _ h9]; rfl); have q5 : w'.cell? ⟨w6.heap.size, 5, none⟩ = some (.slice ca2 m2 cc2) := (by rw [cell_of_row _ _ _ _ _ _ h9]; rfl); clear h9; clear hw'; first | (go_simp; rfl) | (go_simp; done))
              simp only [Act.put, List.setIfInBounds_toArray, List.set_cons_zero, List.set_cons_succ]
              refine wpAnyH_takeI (i := 2) (v := ?v2) rfl (by kernel_rfl) (by kernel_rfl) (by kernel_rfl) (fun _ _ _ h => h) (yieldsIf_run rfl (fun w' hw' => ?y2)) hS0 ?_
              case y2 => (have h9 := (HCELL.out w' hw').2; have q0 : w'.cell? ⟨w4.heap.size, 0, none⟩ = some (.int .i64 k) := (by rw [cell_of_row _ _ _ _ _ _ h9]; rfl); have q1 : w'.cell? ⟨w4.heap.size, 1, none⟩ = some (.int .i64 g) := (by rw [cell_of_row _ _ _ _ _ _ h9]; rfl); have q2 : w'.cell? ⟨w4.heap.size, 2, none⟩ = some (.int .i64 n) := (by rw [cell_of_row _ _ _ _ _ _ h9]; rfl); have q3 : w'.cell? ⟨w4.heap.size, 3, none⟩ = some (.int .i64 (j : Int)) := (by rw [cell_of_row _ _ _ _ _ _ h9]; rfl); have q4 : w'.cell? ⟨w4.heap.size, 4, none⟩ = some (.int .i64 c) := (by rw [cell_of_row _ _ _ _ _ _ h9]; rfl); clear h9; clear hw'; first | (go_simp; rfl) | (go_simp; done))
              simp only [Act.put, List.setIfInBounds_toArray, List.set_cons_zero, List.set_cons_succ]
              refine wpAnyH_do (i := 1) (by kernel_rfl) rfl rfl (fun K hK => ?_)
              go_simp
              go_at_call 48
              refine (HPL2.out wd).mono ?_
              rintro e w8 ⟨rfl, hb8⟩
              have hS1 := hS0.trans (hb8.mono hS0.size)
              refine hK _ _ (hS1) ?_
              clear hK K
              try simp only [Act.put, List.setIfInBounds_toArray, List.set_cons_zero, List.set_cons_succ]
              refine wpAnyH_do (i := 3) (by kernel_rfl) rfl rfl (fun K hK => ?_)
              refine wp_known _ (op_neq 100 (.tmp 60) (.tmp 61) 100 rfl rfl rfl guard_place (HNEQ.out w8)) ?_
              refine hK _ _ (hS1) ?_
              clear hK K
              try simp only [Act.put, List.setIfInBounds_toArray, List.set_cons_zero, List.set_cons_succ]
              refine wpAnyH_done (by kernel_rfl) ?_ _
              refine NoPanic.normal ?_
              have hR8 := (hS1.block w.heap.size (by omega)).trans HR7.out
              have hbd8 := HBD7.out.trans (hS1.mono HBD7.out.size)
              have hrf : ∀ j : Nat, w8.frozen? ⟨w.heap.size, j, none⟩ = false := fun j => frozen_of_row _ _ _ _ _ hR8
              have hy0 : w8.cell? ⟨w.heap.size, 0, none⟩ = some (.int .i64 0) := by rw [cell_of_row _ _ _ _ _ _ hR8]; rfl
              have hy1 : w8.cell? ⟨w.heap.size, 1, none⟩ = some (.int .i64 0) := by rw [cell_of_row _ _ _ _ _ _ hR8]; rfl
              have hy2 : w8.cell? ⟨w.heap.size, 2, none⟩ = some (.int .i64 0) := by rw [cell_of_row _ _ _ _ _ _ hR8]; rfl
              have hy3 : w8.cell? ⟨w.heap.size, 3, none⟩ = some (.slice none 0 0) := by rw [cell_of_row _ _ _ _ _ _ hR8]; rfl
              by_cases hsame : (k2 == k && g2 == g && n2 == n && x2 == (j : Int) && c2 == c) = true
              · have hk3 := HK3.out (by simp) hsame
                have hO8 := own_kept HO7.out hS1
                have hP8 := own_kept HP7.out hS1
                have hT8 := (hS1.block w2.heap.size (by omega)).trans HT7.out
                have hU8 := (hS1.block w4.heap.size (by omega)).trans HU7.out
                have hQ8 := (hS1.block w6.heap.size (by omega)).trans HQ7.out
                have hq5 : w8.cell? ⟨w6.heap.size, 5, none⟩ = some (.slice ca2 m2 cc2) := by rw [cell_of_row _ _ _ _ _ _ hQ8]; rfl
                have hpb := own_bytesN hP8
                rw [hsame]
                have HKK := Lib.hid hk3
                have HO8 := Lib.hid hO8
                have HPB := Lib.hid hpb
                have HT8 := Lib.hid hT8
                have HU8 := Lib.hid hU8
                have HR8 := Lib.hid hR8
                have HBD8 := Lib.hid hbd8
                clear hk3 hO8 hP8 hT8 hU8 hQ8 hpb hR8 hbd8 hb8 hS0 hS1 hsame hrf hy0 hy1 hy2 hy3
                go_wp2_with (at_builtin; refine wpList_appBytes rfl (.tmp 64) (.tmp 66) rfl rfl HO8.out rfl HPB.out.at_ HPB.out.nil (by have := HM2.out; omega) HBD8.out.size ?_)
                intro a9 cap9 w9 hO9 hg9
                rw [HM2.out] at hO9 ⊢
                have hB9 := HBD8.out.trans (grown_below HO8.out hg9 HBD8.out.size)
                have keep : ∀ {b : Nat} {c : Array Value} {T : TypeId}, w8.heap[b]? = some (.cells c T (0, 0)) → 5 ≠ T → w9.heap[b]? = some (.cells c T (0, 0)) := fun h hne => (hg9.block _ (Array.getElem?_eq_some_iff.1 h).1 (fun e => own_ne HO8.out h hne _ e.symm rfl)).trans h
                have hR9 := keep HR8.out (by decide)
                have hT9 := keep HT8.out (by decide)
                have hU9 := keep HU8.out (by decide)
                have HO9 := Lib.hid hO9
                have HB9 := Lib.hid hB9
                have HR9 := Lib.hid hR9
                have HT9 := Lib.hid hT9
                have HU9 := Lib.hid hU9
                clear hO9 hg9 hB9 hR9 hT9 hU9 keep
                go_wp2_with fail
                go_roundw
                case rel => exact ⟨j + 1, acc ++ bs2, N + m2, (j : Int), a9, cap9, by omega, by omega, by go_num, rfl, by rw [List.length_append, HACC.out, HM2.out], by have := HM2.out; omega, HO9.out, HKK.out, HR9.out, HT9.out, HU9.out, HB9.out⟩
                case measure => simp [intOf]; omega
              · have hs' : (k2 == k && g2 == g && n2 == n && x2 == (j : Int) && c2 == c) = false := by simpa using hsame
                have hk2 := HK2.out (by simp) hs'
                have HKK := Lib.hid hk2
                have HBD8 := Lib.hid hbd8
                rw [hs']
                clear hk2 hs' hsame hR8 hbd8 hb8 hS0 hS1
                go_wp2_with fail
                exact bodyPost_ret (v := .tuple #[.agg #[.int .i64 0, .int .i64 0, .int .i64 0, .slice none 0 0], .int .i64 0, .int .i64 30]) (by simp [results, Tryd.results34, go_sem, hy0, hy1, hy2, hy3]) rfl (JoinPost.no HKK.out (by first | exact (((((HBD8.out).setCell (Nat.le_refl _) _).setCell (Nat.le_refl _) _).setCell (Nat.le_refl _) _).setCell (Nat.le_refl _) _) | exact below_z HBD8.out (Nat.le_refl _) (Nat.le_refl _) _ _ _ _ _))
            · have hk1 := HK1.out hE2
              have hE2b : (E2 != 0) = true := by simpa using hE2
              have HKK := Lib.hid hk1
              have HBD6 := Lib.hid hbd6
              clear hk1 hE2 hO6 hb6 hR6 hbd6
              go_wp2_with fail
              exact bodyPost_ret (v := .tuple #[.agg #[.int .i64 0, .int .i64 0, .int .i64 0, .slice none 0 0], .int .i64 0, .int .i64 E2]) (by simp [results, Tryd.results34, go_sem, hy0, hy1, hy2, hy3, hqR6]) rfl (JoinPost.no HKK.out (by first | exact (((((HBD6.out.alloc HBD6.out.size _).setCell (Nat.le_refl _) _).setCell (Nat.le_refl _) _).setCell (Nat.le_refl _) _).setCell (Nat.le_refl _) _) | exact below_z HBD6.out (Nat.le_refl _) (Nat.le_refl _) _ _ _ _ _))
          · have hjMI : (M : Int) ≤ (j : Int) := by omega
            have hk : joinL L = (.zero, 0, 23) := by
              rw [HJ.out, hstep, joinGo, List.getElem?_eq_none (by rw [HM.out]; omega)]
            have HKK := Lib.hid hk
            clear hk hstep
            go_wp2_with fail
            exact bodyPost_ret (v := .tuple #[.agg #[.int .i64 0, .int .i64 0, .int .i64 0, .slice none 0 0], .int .i64 0, .int .i64 23]) (by simp [results, Tryd.results34, go_sem, hy0, hy1, hy2, hy3]) rfl (JoinPost.no HKK.out (by first | exact (((((HB.out).setCell (Nat.le_refl _) _).setCell (Nat.le_refl _) _).setCell (Nat.le_refl _) _).setCell (Nat.le_refl _) _) | exact below_z HB.out (Nat.le_refl _) (Nat.le_refl _) _ _ _ _ _))
        · obtain rfl : (j : Int) = c := by omega
          have hres : joinL L = (⟨k, g, n, acc⟩, j, 0) := by
            rw [HJ.out]
            have e : (j : Int).toNat - j = 0 := by omega
            rw [e, joinGo]
            simp
          have HRES := Lib.hid hres
          clear hres
          have hcell : ∀ w' : World, Chg (fun k => k = w.heap.size) wr w' → w'.heap[w2.heap.size]? = some (.cells #[.int .i64 k, .int .i64 g, .int .i64 n, .int .i64 x, .int .i64 (j : Int), .slice ca m cc] 25 (0, 0)) := fun w' h => (h.block _ hqT (by omega)).trans HT.out
          have HCELL := Lib.hid hcell
          clear hcell
          go_wp2_with fail
          refine wp_region_noPanic ?_
          refine wp_region_F 12 (Chg (fun k => k = w.heap.size) wr) (by kernel_rfl) ?_
          have hS0 : (Chg (fun k => k = w.heap.size) wr) wr.drew := (Chg.refl _ _).drew
          have hRd : wr.drew.heap[w.heap.size]? = some (.cells #[.int .i64 0, .int .i64 0, .int .i64 0, .slice none 0 0] 50 (0, 0)) := HR.out
          obtain ⟨wd, hwd⟩ : ∃ wd, wr.drew = wd := ⟨_, rfl⟩
          rw [hwd] at hS0 hRd ⊢
          have hBd : Below w.heap.size w wd := hwd ▸ HB.out.drew
          have hOd : wd.ownsRow w.heap.size 5 1 (.slice pa N pc) N (bvs acc) := hwd ▸ own_kept HO.out (show Below wr.heap.size wr wr.drew from (Below.refl _ _).drew)
          clear hwd
          refine wpAnyF_take (i := 0) (fin := 12) (v := ?v3) rfl (by kernel_rfl) (by kernel_rfl) (by kernel_rfl) (by kernel_rfl) (fun _ _ _ h => h) (yieldsIf_run rfl (fun w' hw' => ?y3)) hS0 ?_
          case y3 => first | (go_simp; rfl) | (go_simp; done) | rfl
          simp only [Act.put, List.setIfInBounds_toArray, List.set_cons_zero, List.set_cons_succ]
          refine wpAnyF_take (i := 1) (fin := 12) (v := ?v4) rfl (by kernel_rfl) (by kernel_rfl) (by kernel_rfl) (by kernel_rfl) (fun _ _ _ h => h) (yieldsIf_run rfl (fun w' hw' => ?y4)) hS0 ?_
          case y4 => (have h9 := HCELL.out w' hw'; have q0 : w'.cell? ⟨w2.heap.size, 0, none⟩ = some (.int .i64 k) := (by rw [cell_of_row _ _ _ _ _ _ h9]; rfl); clear h9; clear hw'; first | (go_simp; rfl) | (go_simp; done))
          simp only [Act.put, List.setIfInBounds_toArray, List.set_cons_zero, List.set_cons_succ]
          refine wpAnyF_take (i := 2) (fin := 12) (v := ?v5) rfl (by kernel_rfl) (by kernel_rfl) (by kernel_rfl) (by kernel_rfl) (fun _ _ _ h => h) (yieldsIf_run rfl (fun w' hw' => ?y5)) hS0 ?_
          case y5 => first | (go_simp; rfl) | (go_simp; done) | rfl
          simp only [Act.put, List.setIfInBounds_toArray, List.set_cons_zero, List.set_cons_succ]
          refine wpAnyF_take (i := 3) (fin := 12) (v := ?v6) rfl (by kernel_rfl) (by kernel_rfl) (by kernel_rfl) (by kernel_rfl) (fun _ _ _ h => h) (yieldsIf_run rfl (fun w' hw' => ?y6)) hS0 ?_
          case y6 => (have h9 := HCELL.out w' hw'; have q1 : w'.cell? ⟨w2.heap.size, 1, none⟩ = some (.int .i64 g) := (by rw [cell_of_row _ _ _ _ _ _ h9]; rfl); clear h9; clear hw'; first | (go_simp; rfl) | (go_simp; done))
          simp only [Act.put, List.setIfInBounds_toArray, List.set_cons_zero, List.set_cons_succ]
          refine wpAnyF_take (i := 4) (fin := 12) (v := ?v7) rfl (by kernel_rfl) (by kernel_rfl) (by kernel_rfl) (by kernel_rfl) (fun _ _ _ h => h) (yieldsIf_run rfl (fun w' hw' => ?y7)) hS0 ?_
          case y7 => first | (go_simp; rfl) | (go_simp; done) | rfl
          simp only [Act.put, List.setIfInBounds_toArray, List.set_cons_zero, List.set_cons_succ]
          refine wpAnyF_take (i := 5) (fin := 12) (v := ?v8) rfl (by kernel_rfl) (by kernel_rfl) (by kernel_rfl) (by kernel_rfl) (fun _ _ _ h => h) (yieldsIf_run rfl (fun w' hw' => ?y8)) hS0 ?_
          case y8 => (have h9 := HCELL.out w' hw'; have q2 : w'.cell? ⟨w2.heap.size, 2, none⟩ = some (.int .i64 n) := (by rw [cell_of_row _ _ _ _ _ _ h9]; rfl); clear h9; clear hw'; first | (go_simp; rfl) | (go_simp; done))
          simp only [Act.put, List.setIfInBounds_toArray, List.set_cons_zero, List.set_cons_succ]
          refine wpAnyF_take (i := 6) (fin := 12) (v := ?v9) rfl (by kernel_rfl) (by kernel_rfl) (by kernel_rfl) (by kernel_rfl) (fun _ _ _ h => h) (yieldsIf_run rfl (fun w' hw' => ?y9)) hS0 ?_
          case y9 => first | (go_simp; rfl) | (go_simp; done) | rfl
          simp only [Act.put, List.setIfInBounds_toArray, List.set_cons_zero, List.set_cons_succ]
          refine wpAnyF_take (i := 7) (fin := 12) (v := ?v10) rfl (by kernel_rfl) (by kernel_rfl) (by kernel_rfl) (by kernel_rfl) (fun _ _ _ h => h) (yieldsIf_run rfl (fun w' hw' => ?y10)) hS0 ?_
          case y10 => first | (go_simp; rfl) | (go_simp; done) | rfl
          simp only [Act.put, List.setIfInBounds_toArray, List.set_cons_zero, List.set_cons_succ]
          refine wpAnyF_take (i := 8) (fin := 12) (v := ?v11) rfl (by kernel_rfl) (by kernel_rfl) (by kernel_rfl) (by kernel_rfl) (fun _ _ _ h => h) (yieldsIf_run rfl (fun w' hw' => ?y11)) hS0 ?_
          case y11 => first | (go_simp; rfl) | (go_simp; done) | rfl
          simp only [Act.put, List.setIfInBounds_toArray, List.set_cons_zero, List.set_cons_succ]
          refine wpAnyF_take (i := 9) (fin := 12) (v := ?v12) rfl (by kernel_rfl) (by kernel_rfl) (by kernel_rfl) (by kernel_rfl) (fun _ _ _ h => h) (yieldsIf_run rfl (fun w' hw' => ?y12)) hS0 ?_
          case y12 => (have h9 := HCELL.out w' hw'; have q4 : w'.cell? ⟨w2.heap.size, 4, none⟩ = some (.int .i64 (j : Int)) := (by rw [cell_of_row _ _ _ _ _ _ h9]; rfl); clear h9; clear hw'; first | (go_simp; rfl) | (go_simp; done))
          simp only [Act.put, List.setIfInBounds_toArray, List.set_cons_zero, List.set_cons_succ]
          have hrfd : ∀ j : Nat, wd.frozen? ⟨w.heap.size, j, none⟩ = false := fun j => frozen_of_row _ _ _ _ _ hRd
          have hz0 : wd.cell? ⟨w.heap.size, 0, none⟩ = some (.int .i64 0) := by rw [cell_of_row _ _ _ _ _ _ hRd]; rfl
          have hz1 : wd.cell? ⟨w.heap.size, 1, none⟩ = some (.int .i64 0) := by rw [cell_of_row _ _ _ _ _ _ hRd]; rfl
          have hz2 : wd.cell? ⟨w.heap.size, 2, none⟩ = some (.int .i64 0) := by rw [cell_of_row _ _ _ _ _ _ hRd]; rfl
          have hz3 : wd.cell? ⟨w.heap.size, 3, none⟩ = some (.slice none 0 0) := by rw [cell_of_row _ _ _ _ _ _ hRd]; rfl
          refine wpAnyF_do (i := 10) (by kernel_rfl) rfl rfl (fun K hK => ?_)
          go_simp
          obtain ⟨we, hwe⟩ : ∃ we, ((((wd.setCell ⟨w.heap.size, 0, none⟩ (.int .i64 k)).setCell ⟨w.heap.size, 1, none⟩ (.int .i64 g)).setCell ⟨w.heap.size, 2, none⟩ (.int .i64 n)).setCell ⟨w.heap.size, 3, none⟩ (.slice pa N pc)) = we := ⟨_, rfl⟩
          have hce : Chg (fun k => k = w.heap.size) wd we := hwe ▸ chg4 _ _ _ _ _ _
          have hRe : we.heap[w.heap.size]? = some (.cells #[.int .i64 k, .int .i64 g, .int .i64 n, .slice pa N pc] 50 (0, 0)) := by
            rw [← hwe]
            exact heap_setCell_same _ _ 3 _ _ _ (heap_setCell_same _ _ 2 _ _ _ (heap_setCell_same _ _ 1 _ _ _ (heap_setCell_same _ _ 0 _ _ _ hRd)))
          have hSe : Chg (fun k => k = w.heap.size) wr we := hS0.trans hce (fun _ h => .inl h)
          try rw [hwe]
          refine hK _ _ (fun _ => hSe) ?_
          clear hK K
          try simp only [Act.put, List.setIfInBounds_toArray, List.set_cons_zero, List.set_cons_succ]
          refine wpAnyF_do (i := 11) (by kernel_rfl) rfl rfl (fun K hK => ?_)
          go_simp
          refine hK _ _ (fun _ => hSe) ?_
          clear hK K
          try simp only [Act.put, List.setIfInBounds_toArray, List.set_cons_zero, List.set_cons_succ]
          refine wpAnyF_do (i := 12) (by kernel_rfl) rfl rfl (fun K hK => ?_)
          go_simp
          refine hK _ _ (fun h => absurd rfl h) ?_
          clear hK K
          refine wpAnyF_done (by kernel_rfl) ?_ _
          refine NoPanic.normal ?_
          have hOe := ownsRow_chg' hOd hce (fun k hk h => own_ne hOd hRd (by decide) k hk h)
          have hBe := below_chg hBd hce (Nat.le_refl _) (Nat.le_refl _)
          have hw0 : we.cell? ⟨w.heap.size, 0, none⟩ = some (.int .i64 k) := by rw [cell_of_row _ _ _ _ _ _ hRe]; rfl
          have hw1 : we.cell? ⟨w.heap.size, 1, none⟩ = some (.int .i64 g) := by rw [cell_of_row _ _ _ _ _ _ hRe]; rfl
          have hw2 : we.cell? ⟨w.heap.size, 2, none⟩ = some (.int .i64 n) := by rw [cell_of_row _ _ _ _ _ _ hRe]; rfl
          have hw3 : we.cell? ⟨w.heap.size, 3, none⟩ = some (.slice pa N pc) := by rw [cell_of_row _ _ _ _ _ _ hRe]; rfl
          clear hz0 hz1 hz2 hz3 hy0 hy1 hy2 hy3
          have HOE := Lib.hid hOe
          have HBE := Lib.hid hBe
          clear hOd hRd hBd hOe hBe hce hRe hSe hS0
          go_wp2_with fail
          exact bodyPost_ret (v := .tuple #[.agg #[.int .i64 k, .int .i64 g, .int .i64 n, .slice pa N pc], .int .i64 (j : Int), .int .i64 0]) (by simp [results, Tryd.results34, go_sem, hw0, hw1, hw2, hw3]) rfl (JoinPost.yes HRES.out HACC.out HOE.out HBE.out)
    · have hxb : (x != 0) = true := by simpa using hx
      have hj := HJ2.out (by simp) hx
      have HJ := Lib.hid hj
      clear hj hx
      go_wp2_with fail
      exact bodyPost_ret (v := .tuple #[.agg #[.int .i64 0, .int .i64 0, .int .i64 0, .slice none 0 0], .int .i64 0, .int .i64 30]) (by simp [results, Tryd.results34, go_sem, hy0, hy1, hy2, hy3, hlt4]) rfl (JoinPost.no HJ.out (by first | exact (((((HBD4.out.alloc HBD4.out.size _).setCell (Nat.le_refl _) _).setCell (Nat.le_refl _) _).setCell (Nat.le_refl _) _).setCell (Nat.le_refl _) _) | exact below_z HBD4.out (Nat.le_refl _) (Nat.le_refl _) _ _ _ _ _))
  · have hEb : (E0 != 0) = true := by simpa using hE
    have hj := HJ1.out hE
    have HJ := Lib.hid hj
    clear hj hE
    go_wp2_with fail
    exact bodyPost_ret (v := .tuple #[.agg #[.int .i64 0, .int .i64 0, .int .i64 0, .slice none 0 0], .int .i64 0, .int .i64 E0]) (by simp [results, Tryd.results34, go_sem, hy0, hy1, hy2, hy3, hlt2]) rfl (JoinPost.no HJ.out (by first | exact (((((HBD2.out.alloc HBD2.out.size _).setCell (Nat.le_refl _) _).setCell (Nat.le_refl _) _).setCell (Nat.le_refl _) _).setCell (Nat.le_refl _) _) | exact below_z HBD2.out (Nat.le_refl _) (Nat.le_refl _) _ _ _ _ _))

end Go.Proofs.YtloaenknhkfaeaaDoor
