/- Records: the reference's Join. -/
import Derived.Test.YtloaenknhkfaeaaDoorRec16
namespace Go.Proofs.YtloaenknhkfaeaaDoor
open Go.RowKit
set_option linter.unusedVariables false
set_option linter.unusedSimpArgs false

theorem rJoin_nil {w : World} (a : Option Addr) (cap : Nat) : Calls Tryd.prog 36 #[.slice a 0 cap] w (JoinPost w []) := by
  go_enter Tryd.func36, Tryd.ntmps36
  go_wp2_with fail
  exact bodyPost_ret (v := .tuple #[.agg #[.int .i64 0, .int .i64 0, .int .i64 0, .slice none 0 0], .int .i64 0, .int .i64 4]) (by simp [results, Tryd.results36, go_sem]) rfl (JoinPost.no rfl ((Below.refl _ _).alloc (Nat.le_refl _) _))

set_option maxRecDepth 100000 in
set_option maxHeartbeats 2000000 in
theorem rJoin_cons {w : World} (b : List UInt8) (L' : List (List UInt8)) (v : Value) (hv : SecsAt w v (b :: L')) (hM0 : (b :: L').length < 1000000000) : Calls Tryd.prog 36 #[v] w (JoinPost w (b :: L')) := by
  obtain ⟨va, cap, rfl⟩ := hv.form
  obtain ⟨L, hL⟩ : ∃ L, b :: L' = L := ⟨_, rfl⟩
  obtain ⟨M, hM⟩ : ∃ M, L.length = M := ⟨_, rfl⟩
  have hpos : 0 < M := by rw [← hM, ← hL]; simp
  have hMz : ((M : Int) == 0) = false := by simp; omega
  rw [hL] at hv hM0 ⊢
  rw [hM] at hv hM0 ⊢
  obtain ⟨w1, hw1⟩ : ∃ w1, w.alloc (.cells #[.int .i64 0, .int .i64 0, .int .i64 0, .slice none 0 0] 49) = w1 := ⟨_, rfl⟩
  have hb1 : Below w.heap.size w w1 := hw1 ▸ (Below.refl _ w).alloc (Nat.le_refl _) _
  have hR1 : w1.heap[w.heap.size]? = some (.cells #[.int .i64 0, .int .i64 0, .int .i64 0, .slice none 0 0] 49 (0, 0)) := by rw [← hw1]; exact heap_alloc_new _ _
  have hv1 := hv.below hb1
  obtain ⟨sg, so, x0, n0, c0, rfl, hc0, hs0⟩ := hv1.get (i := 0) (by rw [hM]; exact hpos)
  have hb00 : L[0]'(by rw [hM]; exact hpos) = b := by simp [← hL]
  rw [hb00] at hs0
  rw [Nat.add_zero] at hc0
  obtain ⟨P, hP⟩ : ∃ P, decP b = P := ⟨_, rfl⟩
  obtain ⟨E0, hE0⟩ : ∃ E, decE b = E := ⟨_, rfl⟩
  obtain ⟨m, hm⟩ : ∃ m, P.bytes.length = m := ⟨_, rfl⟩
  have hdec : Calls Tryd.prog 25 #[.slice x0 n0 c0] w1 (fun e w' => ∃ a c, e = .returned (.tuple #[.agg #[.int .i64 P.kind, .int .i64 P.gen, .int .i64 P.num, .int .i64 P.idx, .int .i64 P.cnt, .slice a m c], .int .i64 E0]) ∧
      w'.ownsRow w1.heap.size 5 1 (.slice a m c) m (bvs P.bytes) ∧ Below w1.heap.size w1 w') :=
    (rDecode_any b _ hs0.at_).mono (fun e w' h => by have := h.parts; rwa [hP, hE0, hm] at this)
  have hsm : E0 = 0 → Small P.kind ∧ Small P.gen ∧ Small P.num ∧ Small P.idx ∧ Small P.cnt ∧ P.bytes.length ≤ 224 ∧ 1 ≤ P.cnt ∧ P.cnt ≤ 586 := fun h => by rw [← hP]; exact decP_small (by rw [hE0]; exact h)
  have hj1 : E0 ≠ 0 → joinL L = (.zero, 0, E0) := fun h => by rw [← hL, joinL, if_pos (by rw [hE0]; exact h), hE0]
  have hj2 : E0 = 0 → P.idx ≠ 0 → joinL L = (.zero, 0, 30) := fun h h2 => by rw [← hL, joinL, if_neg (by rw [hE0]; exact fun h3 => h3 h), hP, if_pos h2]
  have hj3 : E0 = 0 → P.idx = 0 → joinL L = joinGo L P 1 (P.cnt.toNat - 1) P.bytes := fun h h2 => by rw [← hL, joinL, if_neg (by rw [hE0]; exact fun h3 => h3 h), hP, if_neg (fun h3 => h3 h2)]
  obtain ⟨k, g, n, x, c, bs⟩ := P
  simp only at hdec hsm hj1 hj2 hj3 hm
  have HDEC := Lib.hid hdec
  have HSM := Lib.hid hsm
  have HJ1 := Lib.hid hj1
  have HJ2 := Lib.hid hj2
  have HJ3 := Lib.hid hj3
  have HM := Lib.hid hM
  have HML := Lib.hid hm
  have HV := Lib.hid hv
  have HW1 := Lib.hid hw1
  have HB1 := Lib.hid hb1
  have HR1 := Lib.hid hR1
  have hw1s : w1.heap.size = w.heap.size + 1 := by rw [← hw1]; simp
  have hc0' : (w.alloc (.cells #[.int .i64 0, .int .i64 0, .int .i64 0, .slice none 0 0] 49)).cell? ⟨sg, so, none⟩ = some (.slice x0 n0 c0) := by rw [hw1]; exact hc0
  clear hdec hsm hj1 hj2 hj3 hM hm hv hw1 hb1 hR1 hv1 hc0 hs0 hb00 hP hE0
  go_enter Tryd.func36, Tryd.ntmps36
  go_wp2_with fail
  rw [HW1.out]
  refine HDEC.out.mono ?_
  rintro e w2 ⟨ca, cc, rfl, hO2, hb2⟩
  have hR2 := (hb2.block w.heap.size (by omega)).trans HR1.out
  have hbd2 := HB1.out.trans (hb2.mono HB1.out.size)
  have hq2 := hb2.size
  have hlt2 : w.heap.size < w2.heap.size := by omega
  have hrf : ∀ j : Nat, w2.frozen? ⟨w.heap.size, j, none⟩ = false := fun j => frozen_of_row _ _ _ _ _ hR2
  have hy0 : w2.cell? ⟨w.heap.size, 0, none⟩ = some (.int .i64 0) := by rw [cell_of_row _ _ _ _ _ _ hR2]; rfl
  have hy1 : w2.cell? ⟨w.heap.size, 1, none⟩ = some (.int .i64 0) := by rw [cell_of_row _ _ _ _ _ _ hR2]; rfl
  have hy2 : w2.cell? ⟨w.heap.size, 2, none⟩ = some (.int .i64 0) := by rw [cell_of_row _ _ _ _ _ _ hR2]; rfl
  have hy3 : w2.cell? ⟨w.heap.size, 3, none⟩ = some (.slice none 0 0) := by rw [cell_of_row _ _ _ _ _ _ hR2]; rfl
  have HR2 := Lib.hid hR2
  have HBD2 := Lib.hid hbd2
  have HO2 := Lib.hid hO2
  clear hO2 hb2 hR2 hbd2 hc0'
  by_cases hE : E0 = 0
  · subst hE
    obtain ⟨sk, sg', sn, sx, sc, hm224, hc1, hc586⟩ := HSM.out (by simp)
    by_cases hx : x = 0
    · have hxb : (x != 0) = false := by simp [hx]
      obtain ⟨w3, hw3⟩ : ∃ w3, w2.alloc (.cells #[.int .i64 k, .int .i64 g, .int .i64 n, .int .i64 x, .int .i64 c, .slice ca m cc] 24) = w3 := ⟨_, rfl⟩
      have hb3 : Below w2.heap.size w2 w3 := hw3 ▸ (Below.refl _ _).alloc (Nat.le_refl _) _
      have hs3 : w3.heap.size = w2.heap.size + 1 := by rw [← hw3]; simp
      have hT3 : w3.heap[w2.heap.size]? = some (.cells #[.int .i64 k, .int .i64 g, .int .i64 n, .int .i64 x, .int .i64 c, .slice ca m cc] 24 (0, 0)) := by rw [← hw3]; exact heap_alloc_new _ _
      have hR3 := (hb3.block _ hlt2).trans HR2.out
      have hO3 := own_kept HO2.out hb3
      have hbd3 := HBD2.out.trans (hb3.mono HBD2.out.size)
      obtain ⟨w5, hw5⟩ : ∃ w5, w3.alloc (.cells #[.int .i64 k, .int .i64 g, .int .i64 n, .slice ca m cc] 49) = w5 := ⟨_, rfl⟩
      have hb5 : Below w3.heap.size w3 w5 := hw5 ▸ (Below.refl _ _).alloc (Nat.le_refl _) _
      have hU5 : w5.heap[w2.heap.size + 1]? = some (.cells #[.int .i64 k, .int .i64 g, .int .i64 n, .slice ca m cc] 49 (0, 0)) := by rw [← hw5, ← hs3]; exact heap_alloc_new _ _
      have hT5 := (hb5.block w2.heap.size (by omega)).trans hT3
      have hR5 := (hb5.block w.heap.size (by omega)).trans hR3
      have hO5 := ownsRow_base (own_kept hO3 hb5) HB1.out.size
      have hbd5 := hbd3.trans (hb5.mono hbd3.size)
      have hj := HJ3.out (by simp) hx
      have hw5' : (w2.alloc (.cells #[.int .i64 k, .int .i64 g, .int .i64 n, .int .i64 x, .int .i64 c, .slice ca m cc] 24)).alloc (.cells #[.int .i64 k, .int .i64 g, .int .i64 n, .slice ca m cc] 49) = w5 := by rw [hw3]; exact hw5
      have HW5 := Lib.hid hw5'
      have HU5 := Lib.hid hU5
      have HT5 := Lib.hid hT5
      have HR5 := Lib.hid hR5
      have HO5 := Lib.hid hO5
      have HBD5 := Lib.hid hbd5
      have HJ := Lib.hid hj
      clear hw3 hw5 hw5' hb3 hb5 hT3 hU5 hT5 hR3 hR5 hO3 hO5 hbd3 hbd5 hj hx hrf hy0 hy1 hy2 hy3 hs3
      go_wp2_with fail
      rw [HW5.out]
      go_loopw [8] (fun jv wr => ∃ (j : Nat) (acc : List UInt8) (N : Nat) (pa : Option Addr) (pc : Nat), 1 ≤ j ∧ (j : Int) ≤ c ∧ jv = .int .i64 (j : Int) ∧ acc.length = N ∧ N ≤ 224 * j ∧
          wr.ownsRow w.heap.size 5 1 (.slice pa N pc) N (bvs acc) ∧ joinL L = joinGo L ⟨k, g, n, x, c, bs⟩ j (c.toNat - j) acc ∧ wr.heap[w.heap.size]? = some (.cells #[.int .i64 0, .int .i64 0, .int .i64 0, .slice none 0 0] 49 (0, 0)) ∧ wr.heap[w2.heap.size]? = some (.cells #[.int .i64 k, .int .i64 g, .int .i64 n, .int .i64 x, .int .i64 c, .slice ca m cc] 24 (0, 0)) ∧
          wr.heap[w2.heap.size + 1]? = some (.cells #[.int .i64 k, .int .i64 g, .int .i64 n, .slice pa N pc] 49 (0, 0)) ∧ Below w.heap.size w wr) (fun jv _ => (c - intOf jv).toNat)
      case atStart => exact ⟨1, bs, m, ca, cc, Nat.le_refl _, by omega, rfl, HML.out, by have := HML.out; omega, HO5.out, HJ.out, HR5.out, HT5.out, HU5.out, HBD5.out⟩
      case round =>
        obtain ⟨j, acc, N, pa, pc, hj1, hjc, rfl, hacc, hN, hO, hJ, hR, hT, hU, hB⟩ := hrel
        have hqR := (Array.getElem?_eq_some_iff.1 hR).1
        have hqT := (Array.getElem?_eq_some_iff.1 hT).1
        have hqU := (Array.getElem?_eq_some_iff.1 hU).1
        have hrf : ∀ j : Nat, wr.frozen? ⟨w.heap.size, j, none⟩ = false := fun j => frozen_of_row _ _ _ _ _ hR
        have hy0 : wr.cell? ⟨w.heap.size, 0, none⟩ = some (.int .i64 0) := by rw [cell_of_row _ _ _ _ _ _ hR]; rfl
        have hy1 : wr.cell? ⟨w.heap.size, 1, none⟩ = some (.int .i64 0) := by rw [cell_of_row _ _ _ _ _ _ hR]; rfl
        have hy2 : wr.cell? ⟨w.heap.size, 2, none⟩ = some (.int .i64 0) := by rw [cell_of_row _ _ _ _ _ _ hR]; rfl
        have hy3 : wr.cell? ⟨w.heap.size, 3, none⟩ = some (.slice none 0 0) := by rw [cell_of_row _ _ _ _ _ _ hR]; rfl
        have ht4 : wr.cell? ⟨w2.heap.size, 4, none⟩ = some (.int .i64 c) := by rw [cell_of_row _ _ _ _ _ _ hT]; rfl
        have HACC := Lib.hid hacc
        have HO := Lib.hid hO
        have HJ := Lib.hid hJ
        have HR := Lib.hid hR
        have HT := Lib.hid hT
        have HU := Lib.hid hU
        have HB := Lib.hid hB
        clear hacc hO hJ hR hT hU hB
        by_cases hlt : (j : Int) < c
        · have hstep : c.toNat - j = (c.toNat - (j + 1)) + 1 := by omega
          by_cases hjM : j < M
          · have hjMI : ¬ ((M : Int) ≤ (j : Int)) := by omega
            have hjMI2 : (j : Int) < (M : Int) := by omega
            have hvr := HV.out.below HB.out
            obtain ⟨sg', so', x1, n1, c1, e, hcj, hsj⟩ := hvr.get (i := j) (by rw [HM.out]; exact hjM)
            cases e
            obtain ⟨b2, hb2⟩ : ∃ b2, L[j]'(by rw [HM.out]; exact hjM) = b2 := ⟨_, rfl⟩
            rw [hb2] at hsj
            have hget : L[j]? = some b2 := by rw [List.getElem?_eq_getElem (by rw [HM.out]; exact hjM), hb2]
            obtain ⟨P2, hP2⟩ : ∃ P, decP b2 = P := ⟨_, rfl⟩
            obtain ⟨E2, hE2⟩ : ∃ E, decE b2 = E := ⟨_, rfl⟩
            obtain ⟨m2, hm2⟩ : ∃ m, P2.bytes.length = m := ⟨_, rfl⟩
            have hdec : Calls Tryd.prog 25 #[.slice x1 n1 c1] wr (fun e w' => ∃ a c, e = .returned (.tuple #[.agg #[.int .i64 P2.kind, .int .i64 P2.gen, .int .i64 P2.num, .int .i64 P2.idx, .int .i64 P2.cnt, .slice a m2 c], .int .i64 E2]) ∧
                w'.ownsRow wr.heap.size 5 1 (.slice a m2 c) m2 (bvs P2.bytes) ∧ Below wr.heap.size wr w') :=
              (rDecode_any b2 _ hsj.at_).mono (fun e w' h => by have := h.parts; rwa [hP2, hE2, hm2] at this)
            have hsm2 : E2 = 0 → P2.bytes.length ≤ 224 := fun h => by rw [← hP2]; exact (decP_small (by rw [hE2]; exact h)).2.2.2.2.2.1
            have hk1 : E2 ≠ 0 → joinL L = (.zero, 0, E2) := fun h => by rw [HJ.out, hstep, joinGo, hget]; simp only; rw [if_pos (by rw [hE2]; exact h), hE2]
            have hk2 : E2 = 0 → samePl ⟨k, g, n, x, c, bs⟩ P2 j = false → joinL L = (.zero, 0, 30) := fun h h2 => by rw [HJ.out, hstep, joinGo, hget]; simp only; rw [if_neg (by rw [hE2]; exact fun h3 => h3 h), hP2, if_neg (by rw [h2]; simp)]
            have hk3 : E2 = 0 → samePl ⟨k, g, n, x, c, bs⟩ P2 j = true → joinL L = joinGo L ⟨k, g, n, x, c, bs⟩ (j + 1) (c.toNat - (j + 1)) (acc ++ P2.bytes) := fun h h2 => by rw [HJ.out, hstep, joinGo, hget]; simp only; rw [if_neg (by rw [hE2]; exact fun h3 => h3 h), hP2, if_pos h2]
            obtain ⟨k2, g2, n2, x2, c2, bs2⟩ := P2
            simp only at hdec hsm2 hk1 hk2 hk3 hm2
            unfold samePl at hk2 hk3
            simp only at hk2 hk3
            have HDEC2 := Lib.hid hdec
            have HSM2 := Lib.hid hsm2
            have HK1 := Lib.hid hk1
            have HK2 := Lib.hid hk2
            have HK3 := Lib.hid hk3
            have HM2 := Lib.hid hm2
            clear hdec hsm2 hk1 hk2 hk3 hm2 hvr hsj hb2 hget hP2 hE2 hstep
            go_wp2_with fail
            refine HDEC2.out.mono ?_
            rintro e w6 ⟨ca2, cc2, rfl, hO6, hb6⟩
            have hR6 := (hb6.block _ hqR).trans HR.out
            have hbd6 := HB.out.trans (hb6.mono HB.out.size)
            have hq6 := hb6.size
            have hqR6 : w.heap.size < w6.heap.size := by omega
            have hrf : ∀ j : Nat, w6.frozen? ⟨w.heap.size, j, none⟩ = false := fun j => frozen_of_row _ _ _ _ _ hR6
            have hy0 : w6.cell? ⟨w.heap.size, 0, none⟩ = some (.int .i64 0) := by rw [cell_of_row _ _ _ _ _ _ hR6]; rfl
            have hy1 : w6.cell? ⟨w.heap.size, 1, none⟩ = some (.int .i64 0) := by rw [cell_of_row _ _ _ _ _ _ hR6]; rfl
            have hy2 : w6.cell? ⟨w.heap.size, 2, none⟩ = some (.int .i64 0) := by rw [cell_of_row _ _ _ _ _ _ hR6]; rfl
            have hy3 : w6.cell? ⟨w.heap.size, 3, none⟩ = some (.slice none 0 0) := by rw [cell_of_row _ _ _ _ _ _ hR6]; rfl
            by_cases hE2 : E2 = 0
            · subst hE2
              have hm2224 := HSM2.out (by simp)
              have hT6 := (hb6.block _ hqT).trans HT.out
              have hU6 := (hb6.block _ hqU).trans HU.out
              have hO6b := own_kept HO.out hb6
              have hp0 : w6.cell? ⟨w2.heap.size, 0, none⟩ = some (.int .i64 k) := by rw [cell_of_row _ _ _ _ _ _ hT6]; rfl
              have hp1 : w6.cell? ⟨w2.heap.size, 1, none⟩ = some (.int .i64 g) := by rw [cell_of_row _ _ _ _ _ _ hT6]; rfl
              have hp2 : w6.cell? ⟨w2.heap.size, 2, none⟩ = some (.int .i64 n) := by rw [cell_of_row _ _ _ _ _ _ hT6]; rfl
              have hp3 : w6.cell? ⟨w2.heap.size, 3, none⟩ = some (.int .i64 x) := by rw [cell_of_row _ _ _ _ _ _ hT6]; rfl
              have hp4 : w6.cell? ⟨w2.heap.size, 4, none⟩ = some (.int .i64 c) := by rw [cell_of_row _ _ _ _ _ _ hT6]; rfl
              have hu0 : w6.cell? ⟨w2.heap.size + 1, 0, none⟩ = some (.int .i64 k) := by rw [cell_of_row _ _ _ _ _ _ hU6]; rfl
              have hu1 : w6.cell? ⟨w2.heap.size + 1, 1, none⟩ = some (.int .i64 g) := by rw [cell_of_row _ _ _ _ _ _ hU6]; rfl
              have hu2 : w6.cell? ⟨w2.heap.size + 1, 2, none⟩ = some (.int .i64 n) := by rw [cell_of_row _ _ _ _ _ _ hU6]; rfl
              have hu3 : w6.cell? ⟨w2.heap.size + 1, 3, none⟩ = some (.slice pa N pc) := by rw [cell_of_row _ _ _ _ _ _ hU6]; rfl
              have hlt26 : w2.heap.size < w6.heap.size := by omega
              have hlt26b : w2.heap.size + 1 < w6.heap.size := by omega
              have huf : w6.frozen? ⟨w2.heap.size + 1, 3, none⟩ = false := frozen_of_row _ _ _ _ _ hU6
              have HT6 := Lib.hid hT6
              have HU6 := Lib.hid hU6
              have HR6 := Lib.hid hR6
              have HO6 := Lib.hid hO6
              have HO6B := Lib.hid hO6b
              have HBD6 := Lib.hid hbd6
              clear hT6 hU6 hR6 hO6 hO6b hbd6 hb6
              by_cases hd0 : x2 = (j : Int)
              · have he0 : (x2 != (j : Int)) = false := by simp [hd0]
                by_cases hd1 : c2 = c
                · have he1 : (c2 != c) = false := by simp [hd1]
                  by_cases hd2 : k2 = k
                  · have he2 : (k2 != k) = false := by simp [hd2]
                    by_cases hd3 : g2 = g
                    · have he3 : (g2 != g) = false := by simp [hd3]
                      by_cases hd4 : n2 = n
                      · have he4 : (n2 != n) = false := by simp [hd4]
                        have hsame : (k2 == k && g2 == g && n2 == n && x2 == (j : Int) && c2 == c) = true := by simp [hd0, hd1, hd2, hd3, hd4]
                        have hk3 := HK3.out (by simp) hsame
                        have hba : Below w6.heap.size w6 (w6.alloc (.cells #[.int .i64 k2, .int .i64 g2, .int .i64 n2, .int .i64 x2, .int .i64 c2, .slice ca2 m2 cc2] 24)) := (Below.refl _ _).alloc (Nat.le_refl _) _
                        have hOa := own_kept HO6B.out hba
                        have hPa := own_kept HO6.out hba
                        have hTa := (hba.block _ hlt26).trans HT6.out
                        have hUa := (hba.block _ hlt26b).trans HU6.out
                        have hRa := (hba.block _ hqR6).trans HR6.out
                        have hbda := HBD6.out.trans (hba.mono HBD6.out.size)
                        obtain ⟨w7, hw7⟩ : ∃ w7, w6.alloc (.cells #[.int .i64 k2, .int .i64 g2, .int .i64 n2, .int .i64 x2, .int .i64 c2, .slice ca2 m2 cc2] 24) = w7 := ⟨_, rfl⟩
                        rw [hw7] at hOa hPa hTa hUa hRa hbda
                        have hpb := own_bytesN hPa
                        have HKK := Lib.hid hk3
                        have HW7 := Lib.hid hw7
                        have HOA := Lib.hid hOa
                        have HPB := Lib.hid hpb
                        have HTA := Lib.hid hTa
                        have HUA := Lib.hid hUa
                        have HRA := Lib.hid hRa
                        have HBDA := Lib.hid hbda
                        clear hk3 hba hOa hPa hTa hUa hRa hbda hw7 hpb hsame hrf hy0 hy1 hy2 hy3 hd0 hd1 hd2 hd3 hd4
                        go_wp2_with (at_builtin; rw [HW7.out]; refine wpList_appBytes rfl (.tmp 96) (.tmp 98) rfl rfl HOA.out rfl HPB.out.at_ HPB.out.nil (by have := HM2.out; omega) HBDA.out.size ?_)
                        intro a9 cap9 w9 hO9 hg9
                        rw [HM2.out] at hO9 ⊢
                        have hB9 := HBDA.out.trans (grown_below HOA.out hg9 HBDA.out.size)
                        have keep : ∀ {b : Nat} {c : Array Value} {T : TypeId}, w7.heap[b]? = some (.cells c T (0, 0)) → 5 ≠ T → w9.heap[b]? = some (.cells c T (0, 0)) := fun h hne => (hg9.block _ (Array.getElem?_eq_some_iff.1 h).1 (fun e => own_ne HOA.out h hne _ e.symm rfl)).trans h
                        have hR9 := keep HRA.out (by decide)
                        have hT9 := keep HTA.out (by decide)
                        have hU9 := keep HUA.out (by decide)
                        have hu93 : w9.cell? ⟨w2.heap.size + 1, 3, none⟩ = some (.slice pa N pc) := by rw [cell_of_row _ _ _ _ _ _ hU9]; rfl
                        have huf9 : w9.frozen? ⟨w2.heap.size + 1, 3, none⟩ = false := frozen_of_row _ _ _ _ _ hU9
                        obtain ⟨w10, hw10⟩ : ∃ w10, w9.setCell ⟨w2.heap.size + 1, 3, none⟩ (.slice a9 (N + m2) cap9) = w10 := ⟨_, rfl⟩
                        have hcs : Chg (fun k => k = w2.heap.size + 1) w9 w10 := hw10 ▸ Chg.setCell _ _ rfl
                        have hU10 : w10.heap[w2.heap.size + 1]? = some (.cells #[.int .i64 k, .int .i64 g, .int .i64 n, .slice a9 (N + m2) cap9] 49 (0, 0)) := by rw [← hw10]; exact heap_setCell_same _ _ 3 _ _ (.slice a9 (N + m2) cap9) hU9
                        have hT10 := (hcs.block w2.heap.size (Array.getElem?_eq_some_iff.1 hT9).1 (by omega)).trans hT9
                        have hR10 := (hcs.block w.heap.size (Array.getElem?_eq_some_iff.1 hR9).1 (by omega)).trans hR9
                        have hO10 := ownsRow_chg' hO9 hcs (fun k hk h => own_ne hO9 hU9 (by decide) k hk h)
                        have hB10 := below_chg hB9 hcs (by omega) (Nat.le_refl _)
                        have HO9 := Lib.hid hO10
                        have HB9 := Lib.hid hB10
                        have HR9 := Lib.hid hR10
                        have HT9 := Lib.hid hT10
                        have HU9 := Lib.hid hU10
                        have HW10 := Lib.hid hw10
                        clear hO9 hg9 hB9 hR9 hT9 hU9 keep hcs hU10 hT10 hR10 hO10 hB10 hw10
                        go_wp2_with fail
                        rw [HW10.out]
                        go_roundw
                        case rel => exact ⟨j + 1, acc ++ bs2, N + m2, a9, cap9, by omega, by omega, by go_num, by rw [List.length_append, HACC.out, HM2.out], by have := HM2.out; omega, HO9.out, HKK.out, HR9.out, HT9.out, HU9.out, HB9.out⟩
                        case measure => simp [intOf]; omega
                      · have he4 : (n2 != n) = true := by simpa using hd4
                        have hs' : (k2 == k && g2 == g && n2 == n && x2 == (j : Int) && c2 == c) = false := by simp [hd4]
                        have hk2 := HK2.out (by simp) hs'
                        have HKK := Lib.hid hk2
                        clear hk2 hs' hd0 hd1 hd2 hd3 hd4
                        go_wp2_with fail
                        exact bodyPost_ret (v := .tuple #[.agg #[.int .i64 0, .int .i64 0, .int .i64 0, .slice none 0 0], .int .i64 0, .int .i64 30]) (by simp [results, Tryd.results36, go_sem, hy0, hy1, hy2, hy3, hqR6]) rfl (JoinPost.no HKK.out (by first | exact (((((HBD6.out.alloc HBD6.out.size _).setCell (Nat.le_refl _) _).setCell (Nat.le_refl _) _).setCell (Nat.le_refl _) _).setCell (Nat.le_refl _) _) | exact below_z HBD6.out (Nat.le_refl _) (Nat.le_refl _) _ _ _ _ _))
                    · have he3 : (g2 != g) = true := by simpa using hd3
                      have hs' : (k2 == k && g2 == g && n2 == n && x2 == (j : Int) && c2 == c) = false := by simp [hd3]
                      have hk2 := HK2.out (by simp) hs'
                      have HKK := Lib.hid hk2
                      clear hk2 hs' hd0 hd1 hd2 hd3
                      go_wp2_with fail
                      exact bodyPost_ret (v := .tuple #[.agg #[.int .i64 0, .int .i64 0, .int .i64 0, .slice none 0 0], .int .i64 0, .int .i64 30]) (by simp [results, Tryd.results36, go_sem, hy0, hy1, hy2, hy3, hqR6]) rfl (JoinPost.no HKK.out (by first | exact (((((HBD6.out.alloc HBD6.out.size _).setCell (Nat.le_refl _) _).setCell (Nat.le_refl _) _).setCell (Nat.le_refl _) _).setCell (Nat.le_refl _) _) | exact below_z HBD6.out (Nat.le_refl _) (Nat.le_refl _) _ _ _ _ _))
                  · have he2 : (k2 != k) = true := by simpa using hd2
                    have hs' : (k2 == k && g2 == g && n2 == n && x2 == (j : Int) && c2 == c) = false := by simp [hd2]
                    have hk2 := HK2.out (by simp) hs'
                    have HKK := Lib.hid hk2
                    clear hk2 hs' hd0 hd1 hd2
                    go_wp2_with fail
                    exact bodyPost_ret (v := .tuple #[.agg #[.int .i64 0, .int .i64 0, .int .i64 0, .slice none 0 0], .int .i64 0, .int .i64 30]) (by simp [results, Tryd.results36, go_sem, hy0, hy1, hy2, hy3, hqR6]) rfl (JoinPost.no HKK.out (by first | exact (((((HBD6.out.alloc HBD6.out.size _).setCell (Nat.le_refl _) _).setCell (Nat.le_refl _) _).setCell (Nat.le_refl _) _).setCell (Nat.le_refl _) _) | exact below_z HBD6.out (Nat.le_refl _) (Nat.le_refl _) _ _ _ _ _))
                · have he1 : (c2 != c) = true := by simpa using hd1
                  have hs' : (k2 == k && g2 == g && n2 == n && x2 == (j : Int) && c2 == c) = false := by simp [hd1]
                  have hk2 := HK2.out (by simp) hs'
                  have HKK := Lib.hid hk2
                  clear hk2 hs' hd0 hd1
                  go_wp2_with fail
                  exact bodyPost_ret (v := .tuple #[.agg #[.int .i64 0, .int .i64 0, .int .i64 0, .slice none 0 0], .int .i64 0, .int .i64 30]) (by simp [results, Tryd.results36, go_sem, hy0, hy1, hy2, hy3, hqR6]) rfl (JoinPost.no HKK.out (by first | exact (((((HBD6.out.alloc HBD6.out.size _).setCell (Nat.le_refl _) _).setCell (Nat.le_refl _) _).setCell (Nat.le_refl _) _).setCell (Nat.le_refl _) _) | exact below_z HBD6.out (Nat.le_refl _) (Nat.le_refl _) _ _ _ _ _))
              · have he0 : (x2 != (j : Int)) = true := by simpa using hd0
                have hs' : (k2 == k && g2 == g && n2 == n && x2 == (j : Int) && c2 == c) = false := by simp [hd0]
                have hk2 := HK2.out (by simp) hs'
                have HKK := Lib.hid hk2
                clear hk2 hs' hd0
                go_wp2_with fail
                exact bodyPost_ret (v := .tuple #[.agg #[.int .i64 0, .int .i64 0, .int .i64 0, .slice none 0 0], .int .i64 0, .int .i64 30]) (by simp [results, Tryd.results36, go_sem, hy0, hy1, hy2, hy3, hqR6]) rfl (JoinPost.no HKK.out (by first | exact (((((HBD6.out.alloc HBD6.out.size _).setCell (Nat.le_refl _) _).setCell (Nat.le_refl _) _).setCell (Nat.le_refl _) _).setCell (Nat.le_refl _) _) | exact below_z HBD6.out (Nat.le_refl _) (Nat.le_refl _) _ _ _ _ _))
            · have hk1 := HK1.out hE2
              have hE2b : (E2 != 0) = true := by simpa using hE2
              have HKK := Lib.hid hk1
              have HBD6 := Lib.hid hbd6
              clear hk1 hE2 hO6 hb6 hR6 hbd6
              go_wp2_with fail
              exact bodyPost_ret (v := .tuple #[.agg #[.int .i64 0, .int .i64 0, .int .i64 0, .slice none 0 0], .int .i64 0, .int .i64 E2]) (by simp [results, Tryd.results36, go_sem, hy0, hy1, hy2, hy3, hqR6]) rfl (JoinPost.no HKK.out (by first | exact (((((HBD6.out.alloc HBD6.out.size _).setCell (Nat.le_refl _) _).setCell (Nat.le_refl _) _).setCell (Nat.le_refl _) _).setCell (Nat.le_refl _) _) | exact below_z HBD6.out (Nat.le_refl _) (Nat.le_refl _) _ _ _ _ _))
          · have hjMI : (M : Int) ≤ (j : Int) := by omega
            have hk : joinL L = (.zero, 0, 23) := by
              rw [HJ.out, hstep, joinGo, List.getElem?_eq_none (by rw [HM.out]; omega)]
            have HKK := Lib.hid hk
            clear hk hstep
            go_wp2_with fail
            exact bodyPost_ret (v := .tuple #[.agg #[.int .i64 0, .int .i64 0, .int .i64 0, .slice none 0 0], .int .i64 0, .int .i64 23]) (by simp [results, Tryd.results36, go_sem, hy0, hy1, hy2, hy3]) rfl (JoinPost.no HKK.out (by first | exact (((((HB.out).setCell (Nat.le_refl _) _).setCell (Nat.le_refl _) _).setCell (Nat.le_refl _) _).setCell (Nat.le_refl _) _) | exact below_z HB.out (Nat.le_refl _) (Nat.le_refl _) _ _ _ _ _))
        · obtain rfl : (j : Int) = c := by omega
          have hres : joinL L = (⟨k, g, n, acc⟩, j, 0) := by
            rw [HJ.out]
            have e : (j : Int).toNat - j = 0 := by omega
            rw [e, joinGo]
            simp
          have HRES := Lib.hid hres
          clear hres
          have hcell : ∀ w' : World, Chg (fun k => k = w.heap.size) wr w' → w'.heap[w2.heap.size]? = some (.cells #[.int .i64 k, .int .i64 g, .int .i64 n, .int .i64 x, .int .i64 (j : Int), .slice ca m cc] 24 (0, 0)) ∧ w'.heap[w2.heap.size + 1]? = some (.cells #[.int .i64 k, .int .i64 g, .int .i64 n, .slice pa N pc] 49 (0, 0)) := fun w' h =>
            ⟨(h.block _ hqT (by omega)).trans HT.out, (h.block _ hqU (by omega)).trans HU.out⟩
          have HCELL := Lib.hid hcell
          clear hcell
          go_wp2_with fail
          refine wp_region_noPanic ?_
          refine wp_region_F 5 (Chg (fun k => k = w.heap.size) wr) (by kernel_rfl) ?_
          have hS0 : (Chg (fun k => k = w.heap.size) wr) wr.drew := (Chg.refl _ _).drew
          have hRd : wr.drew.heap[w.heap.size]? = some (.cells #[.int .i64 0, .int .i64 0, .int .i64 0, .slice none 0 0] 49 (0, 0)) := HR.out
          obtain ⟨wd, hwd⟩ : ∃ wd, wr.drew = wd := ⟨_, rfl⟩
          rw [hwd] at hS0 hRd ⊢
          have hBd : Below w.heap.size w wd := hwd ▸ HB.out.drew
          have hOd : wd.ownsRow w.heap.size 5 1 (.slice pa N pc) N (bvs acc) := hwd ▸ own_kept HO.out (show Below wr.heap.size wr wr.drew from (Below.refl _ _).drew)
          clear hwd
          refine wpAnyF_take (i := 0) (fin := 5) (v := ?v1) rfl (by kernel_rfl) (by kernel_rfl) (by kernel_rfl) (by kernel_rfl) (fun _ _ _ h => h) (yieldsIf_run rfl (fun w' hw' => ?y1)) hS0 ?_
          case y1 => (have h9 := (HCELL.out w' hw').2; have q0 : w'.cell? ⟨w2.heap.size + 1, 0, none⟩ = some (.int .i64 k) := (by rw [cell_of_row _ _ _ _ _ _ h9]; rfl); have q1 : w'.cell? ⟨w2.heap.size + 1, 1, none⟩ = some (.int .i64 g) := (by rw [cell_of_row _ _ _ _ _ _ h9]; rfl); have q2 : w'.cell? ⟨w2.heap.size + 1, 2, none⟩ = some (.int .i64 n) := (by rw [cell_of_row _ _ _ _ _ _ h9]; rfl); have q3 : w'.cell? ⟨w2.heap.size + 1, 3, none⟩ = some (.slice pa N pc) := (by rw [cell_of_row _ _ _ _ _ _ h9]; rfl); clear h9; clear hw'; first | (go_simp; rfl) | (go_simp; done))
          simp only [Act.put, List.setIfInBounds_toArray, List.set_cons_zero, List.set_cons_succ]
          refine wpAnyF_take (i := 1) (fin := 5) (v := ?v2) rfl (by kernel_rfl) (by kernel_rfl) (by kernel_rfl) (by kernel_rfl) (fun _ _ _ h => h) (yieldsIf_run rfl (fun w' hw' => ?y2)) hS0 ?_
          case y2 => first | (go_simp; rfl) | (go_simp; done) | rfl
          simp only [Act.put, List.setIfInBounds_toArray, List.set_cons_zero, List.set_cons_succ]
          refine wpAnyF_take (i := 2) (fin := 5) (v := ?v3) rfl (by kernel_rfl) (by kernel_rfl) (by kernel_rfl) (by kernel_rfl) (fun _ _ _ h => h) (yieldsIf_run rfl (fun w' hw' => ?y3)) hS0 ?_
          case y3 => (have h9 := (HCELL.out w' hw').1; have q4 : w'.cell? ⟨w2.heap.size, 4, none⟩ = some (.int .i64 (j : Int)) := (by rw [cell_of_row _ _ _ _ _ _ h9]; rfl); clear h9; clear hw'; first | (go_simp; rfl) | (go_simp; done))
          simp only [Act.put, List.setIfInBounds_toArray, List.set_cons_zero, List.set_cons_succ]
          have hrfd : ∀ j : Nat, wd.frozen? ⟨w.heap.size, j, none⟩ = false := fun j => frozen_of_row _ _ _ _ _ hRd
          have hz0 : wd.cell? ⟨w.heap.size, 0, none⟩ = some (.int .i64 0) := by rw [cell_of_row _ _ _ _ _ _ hRd]; rfl
          have hz1 : wd.cell? ⟨w.heap.size, 1, none⟩ = some (.int .i64 0) := by rw [cell_of_row _ _ _ _ _ _ hRd]; rfl
          have hz2 : wd.cell? ⟨w.heap.size, 2, none⟩ = some (.int .i64 0) := by rw [cell_of_row _ _ _ _ _ _ hRd]; rfl
          have hz3 : wd.cell? ⟨w.heap.size, 3, none⟩ = some (.slice none 0 0) := by rw [cell_of_row _ _ _ _ _ _ hRd]; rfl
          refine wpAnyF_do (i := 3) (by kernel_rfl) rfl rfl (fun K hK => ?_)
          go_simp
          obtain ⟨we, hwe⟩ : ∃ we, ((((wd.setCell ⟨w.heap.size, 0, none⟩ (.int .i64 k)).setCell ⟨w.heap.size, 1, none⟩ (.int .i64 g)).setCell ⟨w.heap.size, 2, none⟩ (.int .i64 n)).setCell ⟨w.heap.size, 3, none⟩ (.slice pa N pc)) = we := ⟨_, rfl⟩
          have hce : Chg (fun k => k = w.heap.size) wd we := hwe ▸ chg4 _ _ _ _ _ _
          have hRe : we.heap[w.heap.size]? = some (.cells #[.int .i64 k, .int .i64 g, .int .i64 n, .slice pa N pc] 49 (0, 0)) := by
            rw [← hwe]
            exact heap_setCell_same _ _ 3 _ _ _ (heap_setCell_same _ _ 2 _ _ _ (heap_setCell_same _ _ 1 _ _ _ (heap_setCell_same _ _ 0 _ _ _ hRd)))
          have hSe : Chg (fun k => k = w.heap.size) wr we := hS0.trans hce (fun _ h => .inl h)
          try rw [hwe]
          refine hK _ _ (fun _ => hSe) ?_
          clear hK K
          try simp only [Act.put, List.setIfInBounds_toArray, List.set_cons_zero, List.set_cons_succ]
          refine wpAnyF_do (i := 4) (by kernel_rfl) rfl rfl (fun K hK => ?_)
          go_simp
          refine hK _ _ (fun _ => hSe) ?_
          clear hK K
          try simp only [Act.put, List.setIfInBounds_toArray, List.set_cons_zero, List.set_cons_succ]
          refine wpAnyF_do (i := 5) (by kernel_rfl) rfl rfl (fun K hK => ?_)
          go_simp
          refine hK _ _ (fun h => absurd rfl h) ?_
          clear hK K
          refine wpAnyF_done (by kernel_rfl) ?_ _
          refine NoPanic.normal ?_
          have hOe := ownsRow_chg' hOd hce (fun k hk h => own_ne hOd hRd (by decide) k hk h)
          have hBe := below_chg hBd hce (Nat.le_refl _) (Nat.le_refl _)
          have hw0 : we.cell? ⟨w.heap.size, 0, none⟩ = some (.int .i64 k) := by rw [cell_of_row _ _ _ _ _ _ hRe]; rfl
          have hw1 : we.cell? ⟨w.heap.size, 1, none⟩ = some (.int .i64 g) := by rw [cell_of_row _ _ _ _ _ _ hRe]; rfl
          have hw2 : we.cell? ⟨w.heap.size, 2, none⟩ = some (.int .i64 n) := by rw [cell_of_row _ _ _ _ _ _ hRe]; rfl
          have hw3 : we.cell? ⟨w.heap.size, 3, none⟩ = some (.slice pa N pc) := by rw [cell_of_row _ _ _ _ _ _ hRe]; rfl
          clear hz0 hz1 hz2 hz3 hy0 hy1 hy2 hy3
          have HOE := Lib.hid hOe
          have HBE := Lib.hid hBe
          clear hOd hRd hBd hOe hBe hce hRe hSe hS0
          go_wp2_with fail
          exact bodyPost_ret (v := .tuple #[.agg #[.int .i64 k, .int .i64 g, .int .i64 n, .slice pa N pc], .int .i64 (j : Int), .int .i64 0]) (by simp [results, Tryd.results36, go_sem, hw0, hw1, hw2, hw3]) rfl (JoinPost.yes HRES.out HACC.out HOE.out HBE.out)
    · have hxb : (x != 0) = true := by simpa using hx
      have hj := HJ2.out (by simp) hx
      have HJ := Lib.hid hj
      clear hj hx
      go_wp2_with fail
      exact bodyPost_ret (v := .tuple #[.agg #[.int .i64 0, .int .i64 0, .int .i64 0, .slice none 0 0], .int .i64 0, .int .i64 30]) (by simp [results, Tryd.results36, go_sem, hy0, hy1, hy2, hy3, hlt2]) rfl (JoinPost.no HJ.out (by first | exact (((((HBD2.out.alloc HBD2.out.size _).setCell (Nat.le_refl _) _).setCell (Nat.le_refl _) _).setCell (Nat.le_refl _) _).setCell (Nat.le_refl _) _) | exact below_z HBD2.out (Nat.le_refl _) (Nat.le_refl _) _ _ _ _ _))
  · have hEb : (E0 != 0) = true := by simpa using hE
    have hj := HJ1.out hE
    have HJ := Lib.hid hj
    clear hj hE
    go_wp2_with fail
    exact bodyPost_ret (v := .tuple #[.agg #[.int .i64 0, .int .i64 0, .int .i64 0, .slice none 0 0], .int .i64 0, .int .i64 E0]) (by simp [results, Tryd.results36, go_sem, hy0, hy1, hy2, hy3, hlt2]) rfl (JoinPost.no HJ.out (by first | exact (((((HBD2.out.alloc HBD2.out.size _).setCell (Nat.le_refl _) _).setCell (Nat.le_refl _) _).setCell (Nat.le_refl _) _).setCell (Nat.le_refl _) _) | exact below_z HBD2.out (Nat.le_refl _) (Nat.le_refl _) _ _ _ _ _))

theorem rJoin_any {w : World} (L : List (List UInt8)) (v : Value) (hv : SecsAt w v L) (hM0 : L.length < 1000000000) : Calls Tryd.prog 36 #[v] w (JoinPost w L) := by
  cases L with
  | nil => obtain ⟨a, c, rfl⟩ := hv.form; exact rJoin_nil a c
  | cons b L' => exact rJoin_cons b L' v hv hM0
theorem Join_any {w : World} (L : List (List UInt8)) (v : Value) (hv : SecsAt w v L) (hM0 : L.length < 1000000000) (hK : KAt w) : Calls Tryd.prog 34 #[v] w (JoinPost w L) := by
  cases L with
  | nil => obtain ⟨a, c, rfl⟩ := hv.form; exact Join_nil a c
  | cons b L' => exact Join_cons b L' v hv hM0 hK

end Go.Proofs.YtloaenknhkfaeaaDoor
