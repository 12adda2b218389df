/- Records: Scan and Salvage, both sides. -/
import Derived.Test.YtloaenknhkfaeaaDoorRec18
import Derived.WalkMore
namespace Go.Proofs.YtloaenknhkfaeaaDoor
open Go.RowKit
set_option linter.unusedVariables false
set_option linter.unusedSimpArgs false

theorem join_cnt {l : List (List UInt8)} (h : (joinL l).2.2 = 0) : (joinL l).2.1 ≤ 586 := by
  cases l with
  | nil => cases h
  | cons b l =>
    rw [joinL] at h ⊢
    by_cases h1 : decE b ≠ 0
    · rw [if_pos h1] at h; exact absurd h h1
    · rw [if_neg h1] at h ⊢
      by_cases h2 : (decP b).idx ≠ 0
      · rw [if_pos h2] at h; cases h
      · rw [if_neg h2] at h ⊢
        rw [joinGo_count _ _ _ _ _ h]
        have hk := decP_small (by simpa using h1 : decE b = 0)
        have := hk.2.2.2.2.2.2.2
        omega
/-- What both Scans return. -/
def ScanPost (T : TypeId) (w : World) (S : List RecD × Nat × Int) (e : Ending) (w' : World) : Prop :=
  ∃ v, e = .returned (.tuple #[v, .int .i64 (S.2.1 : Int), .int .i64 S.2.2]) ∧ OwnRecs T w' w.heap.size v S.1 ∧ Below w.heap.size w w'
theorem ScanPost.mk {T : TypeId} {w w' : World} {S : List RecD × Nat × Int} {out : List RecD} {m : Nat} {k : Int} {v : Value} (h : S = (out, m, k)) (ho : OwnRecs T w' w.heap.size v out) (hb : Below w.heap.size w w') :
    ScanPost T w S (.returned (.tuple #[v, .int .i64 (m : Int), .int .i64 k])) w' := by
  subst h
  exact ⟨v, rfl, ho, hb⟩
def SalPost (T : TypeId) (w : World) (out : List RecD) (e : Ending) (w' : World) : Prop := ∃ v, e = .returned v ∧ OwnRecs T w' w.heap.size v out ∧ Below w.heap.size w w'
theorem scanGo_end (g n : Int) (l : List (List UInt8)) (k a : Nat) (out : List RecD) (h : l.length ≤ a) : scanGo g n l k a out = (out, a, 0) := by
  cases k with
  | zero => rfl
  | succ k => rw [scanGo.eq_2, if_pos h]
theorem salGo_end (l : List (List UInt8)) (k a : Nat) (out : List RecD) (h : l.length ≤ a) : salGo l k a out = out := by
  cases k with
  | zero => rfl
  | succ k => rw [salGo.eq_2, if_pos h]

set_option maxRecDepth 100000 in
set_option maxHeartbeats 2000000 in
theorem Scan_bad {w : World} (g n : Int) (L : List (List UInt8)) (v : Value) (hf : fineB 0 g n = false) : Calls Tryd.prog 39 #[.int .i64 g, .int .i64 n, v] w (ScanPost 50 w (scanL g n L)) := by
  have hs : scanL g n L = ([], 0, 2) := by unfold scanL; rw [if_pos hf]
  have HS := Lib.hid hs
  clear hs
  obtain ⟨w0, hw0⟩ : ∃ w0, w.alloc (.cells #[.int .i64 0, .int .i64 g, .int .i64 n] 98) = w0 := ⟨_, rfl⟩
  have hb0 : Below w.heap.size w w0 := hw0 ▸ (Below.refl _ w).alloc (Nat.le_refl _) _
  have hval := valid_any 0 g n w0
  rw [hf] at hval
  have HVAL := Lib.hid hval
  have HW0 := Lib.hid hw0
  have HB0 := Lib.hid hb0
  clear hval hw0 hb0
  clear hf
  go_enter Tryd.func39, Tryd.ntmps39
  try go_wp2_with fail
  go_step3
  go_wp2_with fail
  rw [HW0.out]
  refine HVAL.out.mono ?_
  rintro e w1 ⟨rfl, hb1⟩
  have HBD := Lib.hid (HB0.out.trans (hb1.mono HB0.out.size))
  clear hb1
  go_wp2_with fail
  try rw [Exit.noGoto_ret]
  go_ret3
  exact ScanPost.mk HS.out (ownRecs_nil _ _ _) HBD.out

set_option maxRecDepth 100000 in
set_option maxHeartbeats 2000000 in
theorem Scan_any {w : World} (g n : Int) (L : List (List UInt8)) (v : Value) (hv : SecsAt w v L) (hM0 : L.length < 1000000) (hK : KAt w) : Calls Tryd.prog 39 #[.int .i64 g, .int .i64 n, v] w (ScanPost 50 w (scanL g n L)) := by
  by_cases hf0 : fineB 0 g n = false
  · exact Scan_bad g n L v hf0
  have hf : fineB 0 g n = true := by simpa using hf0
  have hs : scanL g n L = scanGo g n L L.length 0 [] := by unfold scanL; rw [if_neg hf0]
  have hgn : 0 ≤ n ∧ n ≤ 2147483647 := by
    simp only [fineB, Bool.and_eq_true, decide_eq_true_eq] at hf
    exact ⟨hf.1.2, hf.2⟩
  obtain ⟨hn0, hn1⟩ := hgn
  obtain ⟨va, cap, rfl⟩ := hv.form
  obtain ⟨M, hM⟩ : ∃ M, L.length = M := ⟨_, rfl⟩
  rw [hM] at hv hM0 hs ⊢
  have HS := Lib.hid hs
  have HM := Lib.hid hM
  have HV := Lib.hid hv
  have HK := Lib.hid hK
  obtain ⟨w0, hw0⟩ : ∃ w0, w.alloc (.cells #[.int .i64 0, .int .i64 g, .int .i64 n] 98) = w0 := ⟨_, rfl⟩
  have hb0 : Below w.heap.size w w0 := hw0 ▸ (Below.refl _ w).alloc (Nat.le_refl _) _
  have hval := valid_any 0 g n w0
  rw [hf] at hval
  have HVAL := Lib.hid hval
  have HW0 := Lib.hid hw0
  have HB0 := Lib.hid hb0
  clear hval hw0 hb0
  clear hs hM hv hf hf0 hK
  go_enter Tryd.func39, Tryd.ntmps39
  try go_wp2_with fail
  go_step3
  go_wp2_with fail
  rw [HW0.out]
  refine HVAL.out.mono ?_
  rintro e w1 ⟨rfl, hb1⟩
  have HBD := Lib.hid (HB0.out.trans (hb1.mono HB0.out.size))
  clear hb1
  go_wp2_with fail
  go_step3
  go_wp2_with fail
  go_loopw [6, 7, 8] (fun pv av ev wr => ∃ (i : Nat) (q : Nat) (out : List RecD) (k : Nat) (pa : Option Addr) (pc : Nat), ev = .int .i64 0 ∧ av = .int .i64 (i : Int) ∧ pv = .slice pa q pc ∧ out.length = q ∧ q ≤ i ∧ i ≤ M + 586 ∧ M ≤ i + k ∧ OwnRecs 50 wr w.heap.size pv out ∧
      scanL g n L = scanGo g n L k i out ∧ Below w.heap.size w wr) (fun _ av _ _ => M + 600 - (intOf av).toNat)
  case atStart => exact ⟨0, 0, [], M, none, 0, rfl, rfl, rfl, rfl, Nat.le_refl _, by omega, by omega, ownRecs_nil _ _ _, HS.out, HBD.out⟩
  case round =>
    obtain ⟨i, q, out, k, pa, pc, rfl, rfl, rfl, hq, hqi, hiM, hfu, hO, hJ, hB⟩ := hrel
    have HBW := hB
    have HQ := Lib.hid hq
    have HO := Lib.hid hO
    have HJ := Lib.hid hJ
    have HB := Lib.hid hB
    by_cases hlt : i < M
    · obtain ⟨k, rfl⟩ : ∃ k', k = k' + 1 := ⟨k - 1, by omega⟩
      have hvr := HV.out.below HBW
      obtain ⟨sg, so, x1, n1, c1, rfl, _, _⟩ := hvr.get (i := i) (by rw [HM.out]; exact hlt)
      have hcapM : M ≤ cap := by obtain ⟨a', cap', vs, e, h2, _⟩ := hvr.ex; cases e; rw [HM.out] at h2; exact h2
      have hck : ¬ cap = i := by omega
      have hdr := hvr.drop (i := i) (by rw [HM.out]; omega)
      obtain ⟨R, hR⟩ : ∃ R, joinL (L.drop i) = R := ⟨_, rfl⟩
      obtain ⟨r, cnt, why⟩ := R
      obtain ⟨m, hm⟩ : ∃ m, r.load.length = m := ⟨_, rfl⟩
      have hjoin : Calls Tryd.prog 34 #[.slice (some ⟨sg, so + i, none⟩) (M - i) (cap - i)] wr (fun e w' => ∃ a c, e = .returned (.tuple #[.agg #[.int .i64 r.kind, .int .i64 r.gen, .int .i64 r.num, .slice a m c], .int .i64 (cnt : Int), .int .i64 why]) ∧
          w'.ownsRow wr.heap.size 5 1 (.slice a m c) m (bvs r.load) ∧ Below wr.heap.size wr w') :=
        (Join_any (L.drop i) _ hdr (by rw [List.length_drop, HM.out]; omega) (HK.out.below HBW HK.out.size)).mono (fun e w' h => by
          obtain ⟨a, c, h1, h2, h3⟩ := h
          rw [hR] at h1 h2
          simp only [hm] at h1 h2
          exact ⟨a, c, h1, h2, h3⟩)
      have hcn : why = 0 → 1 ≤ cnt ∧ cnt ≤ 586 := fun h => by
        have h1 := join_pos (l := L.drop i) (by rw [hR]; exact h)
        have h2 := join_cnt (l := L.drop i) (by rw [hR]; exact h)
        rw [hR] at h1 h2
        exact ⟨h1, h2⟩
      have hj1 : why ≠ 0 → scanL g n L = (out, i, why) := fun h => by rw [hJ, scanGo.eq_2, if_neg (by rw [HM.out]; omega), hR]; simp only; rw [if_pos h]
      have hj2 : why = 0 → ¬ (r.gen = g ∧ r.num = n + (q : Int)) → scanL g n L = (out, i, 30) := fun h h2 => by rw [hJ, scanGo.eq_2, if_neg (by rw [HM.out]; omega), hR]; simp only; rw [if_neg (fun h3 => h3 h), hq, if_neg h2]
      have hj3 : why = 0 → (r.gen = g ∧ r.num = n + (q : Int)) → scanL g n L = scanGo g n L k (i + cnt) (out ++ [r]) := fun h h2 => by rw [hJ, scanGo.eq_2, if_neg (by rw [HM.out]; omega), hR]; simp only; rw [if_neg (fun h3 => h3 h), hq, if_pos h2]
      have HJOIN := Lib.hid hjoin
      have HCN := Lib.hid hcn
      have HJ1 := Lib.hid hj1
      have HJ2 := Lib.hid hj2
      have HJ3 := Lib.hid hj3
      have HMM := Lib.hid hm
      clear hvr hdr hR hm hjoin hcn hj1 hj2 hj3 hJ HBW hB hO hq
      go_wp2_with fail
      refine HJOIN.out.mono ?_
      rintro e w3 ⟨ra, rc, rfl, hP3, hb3⟩
      have hO3 := HO.out.below hb3
      have hB3 := HB.out.trans (hb3.mono HB.out.size)
      obtain ⟨w4, hw4⟩ : ∃ w4, w3.alloc (.cells #[.int .i64 r.kind, .int .i64 r.gen, .int .i64 r.num, .slice ra m rc] 50) = w4 := ⟨_, rfl⟩
      have hb4 : Below w3.heap.size w3 w4 := hw4 ▸ (Below.refl _ _).alloc (Nat.le_refl _) _
      have hO4 := hO3.below hb4
      have hP4 := ownsRow_base (own_kept hP3 hb4) HB.out.size
      have hB4 := hB3.trans (hb4.mono hB3.size)
      have hN4 : w4.heap[w3.heap.size]? = some (.cells #[.int .i64 r.kind, .int .i64 r.gen, .int .i64 r.num, .slice ra m rc] 50 (0, 0)) := by rw [← hw4]; exact heap_alloc_new _ _
      have hP4 : w4.ownsRow w.heap.size 5 1 (.slice ra m rc) r.load.length (bvs r.load) := by rw [HMM.out]; exact hP4
      have hg4 : w3.heap.size + 1 = w4.heap.size := by rw [← hw4]; simp
      have HG4 := Lib.hid hg4
      clear hg4
      have HO4 := Lib.hid hO4
      have HP4 := Lib.hid hP4
      have HB4 := Lib.hid hB4
      have HW4 := Lib.hid hw4
      have HN4 := Lib.hid hN4
      clear hP3 hb3 hO3 hB3 hb4 hO4 hP4 hB4 hw4 hN4
      by_cases hwhy : why = 0
      · subst hwhy
        obtain ⟨hcn1, hcn2⟩ := HCN.out (by simp)
        by_cases hgen : r.gen = g
        · have hgb : (r.gen != g) = false := by simp [hgen]
          by_cases hnum : r.num = n + (q : Int)
          · have hnb : (r.num != n + (q : Int)) = false := by simp [hnum]
            have hj3 := HJ3.out (by simp) ⟨hgen, hnum⟩
            have HJJ := Lib.hid hj3
            clear hj3 hgen hnum
            go_wp2_with (at_builtin; rw [HW4.out]; refine wpList_appRec rfl (.tmp 49) (.tmp 51) rfl rfl HO4.out HP4.out rfl HG4.out HQ.out (by omega) HB4.out.size ?_)
            intro a' cap' w5 ho5 hb5
            have HO5 := Lib.hid ho5
            have HB5 := Lib.hid (HB4.out.trans hb5)
            clear ho5 hb5
            go_wp2_with fail
            go_roundw
            case rel => exact ⟨i + cnt, q + 1, out ++ [r], k, a', cap', rfl, by go_num, rfl, by rw [List.length_append, HQ.out]; rfl, by omega, by omega, by omega, HO5.out, HJJ.out, HB5.out⟩
            case measure => simp [intOf]; omega
          · have hnb : (r.num != n + (q : Int)) = true := by simpa using hnum
            have hj2 := HJ2.out (by simp) (fun h => hnum h.2)
            have HJJ := Lib.hid hj2
            clear hj2 hnum hgen
            go_wp2_with fail
            rw [HW4.out]
            try rw [Exit.noGoto_ret]
            go_ret3
            exact ScanPost.mk HJJ.out HO4.out HB4.out
        · have hgb : (r.gen != g) = true := by simpa using hgen
          have hj2 := HJ2.out (by simp) (fun h => hgen h.1)
          have HJJ := Lib.hid hj2
          clear hj2 hgen
          go_wp2_with fail
          rw [HW4.out]
          try rw [Exit.noGoto_ret]
          go_ret3
          exact ScanPost.mk HJJ.out HO4.out HB4.out
      · have hwb : (why != 0) = true := by simpa using hwhy
        have hj1 := HJ1.out hwhy
        have HJJ := Lib.hid hj1
        clear hj1 hwhy
        go_wp2_with fail
        rw [HW4.out]
        try rw [Exit.noGoto_ret]
        go_ret3
        exact ScanPost.mk HJJ.out HO4.out HB4.out
    · have hres : scanL g n L = (out, i, 0) := by rw [hJ, scanGo_end _ _ _ _ _ _ (by rw [HM.out]; omega)]
      have HRES := Lib.hid hres
      clear hres hJ HBW hB hO hq
      go_wp2_with fail
      try rw [Exit.noGoto_ret]
      go_ret3
      exact ScanPost.mk HRES.out HO.out HB.out

set_option maxRecDepth 100000 in
set_option maxHeartbeats 2000000 in
theorem rScan_bad {w : World} (g n : Int) (L : List (List UInt8)) (v : Value) (hf : fineB 0 g n = false) : Calls Tryd.prog 40 #[.int .i64 g, .int .i64 n, v] w (ScanPost 49 w (scanL g n L)) := by
  have hs : scanL g n L = ([], 0, 2) := by unfold scanL; rw [if_pos hf]
  have HS := Lib.hid hs
  clear hs
  have hval := fun w => fine_any 0 g n w
  rw [hf] at hval
  have HVAL := Lib.hid hval
  clear hval
  clear hf
  go_enter Tryd.func40, Tryd.ntmps40
  go_wp2_with fail
  refine (HVAL.out _).mono ?_
  rintro e w' ⟨rfl, rfl⟩
  have HBD := Lib.hid (Below.refl w.heap.size w)
  go_wp2_with fail
  go_ret3
  exact ScanPost.mk HS.out (ownRecs_nil _ _ _) HBD.out

set_option maxRecDepth 100000 in
set_option maxHeartbeats 2000000 in
theorem rScan_any {w : World} (g n : Int) (L : List (List UInt8)) (v : Value) (hv : SecsAt w v L) (hM0 : L.length < 1000000) : Calls Tryd.prog 40 #[.int .i64 g, .int .i64 n, v] w (ScanPost 49 w (scanL g n L)) := by
  by_cases hf0 : fineB 0 g n = false
  · exact rScan_bad g n L v hf0
  have hf : fineB 0 g n = true := by simpa using hf0
  have hs : scanL g n L = scanGo g n L L.length 0 [] := by unfold scanL; rw [if_neg hf0]
  have hgn : 0 ≤ n ∧ n ≤ 2147483647 := by
    simp only [fineB, Bool.and_eq_true, decide_eq_true_eq] at hf
    exact ⟨hf.1.2, hf.2⟩
  obtain ⟨hn0, hn1⟩ := hgn
  obtain ⟨va, cap, rfl⟩ := hv.form
  obtain ⟨M, hM⟩ : ∃ M, L.length = M := ⟨_, rfl⟩
  rw [hM] at hv hM0 hs ⊢
  have HS := Lib.hid hs
  have HM := Lib.hid hM
  have HV := Lib.hid hv
  have hval := fun w => fine_any 0 g n w
  rw [hf] at hval
  have HVAL := Lib.hid hval
  clear hval
  clear hs hM hv hf hf0
  go_enter Tryd.func40, Tryd.ntmps40
  go_wp2_with fail
  refine (HVAL.out _).mono ?_
  rintro e w' ⟨rfl, rfl⟩
  have HBD := Lib.hid (Below.refl w.heap.size w)
  go_wp2_with fail
  go_loopw [9, 10] (fun pv av wr => ∃ (i : Nat) (q : Nat) (out : List RecD) (k : Nat) (pa : Option Addr) (pc : Nat), av = .int .i64 (i : Int) ∧ pv = .slice pa q pc ∧ out.length = q ∧ q ≤ i ∧ i ≤ M + 586 ∧ M ≤ i + k ∧ OwnRecs 49 wr w.heap.size pv out ∧
      scanL g n L = scanGo g n L k i out ∧ Below w.heap.size w wr) (fun _ av _ => M + 600 - (intOf av).toNat)
  case atStart => exact ⟨0, 0, [], M, none, 0, rfl, rfl, rfl, Nat.le_refl _, by omega, by omega, ownRecs_nil _ _ _, HS.out, HBD.out⟩
  case round =>
    obtain ⟨i, q, out, k, pa, pc, rfl, rfl, hq, hqi, hiM, hfu, hO, hJ, hB⟩ := hrel
    have HBW := hB
    have HQ := Lib.hid hq
    have HO := Lib.hid hO
    have HJ := Lib.hid hJ
    have HB := Lib.hid hB
    by_cases hlt : i < M
    · obtain ⟨k, rfl⟩ : ∃ k', k = k' + 1 := ⟨k - 1, by omega⟩
      have hvr := HV.out.below HBW
      obtain ⟨sg, so, x1, n1, c1, rfl, _, _⟩ := hvr.get (i := i) (by rw [HM.out]; exact hlt)
      have hcapM : M ≤ cap := by obtain ⟨a', cap', vs, e, h2, _⟩ := hvr.ex; cases e; rw [HM.out] at h2; exact h2
      have hck : ¬ cap = i := by omega
      have hdr := hvr.drop (i := i) (by rw [HM.out]; omega)
      obtain ⟨R, hR⟩ : ∃ R, joinL (L.drop i) = R := ⟨_, rfl⟩
      obtain ⟨r, cnt, why⟩ := R
      obtain ⟨m, hm⟩ : ∃ m, r.load.length = m := ⟨_, rfl⟩
      have hjoin : Calls Tryd.prog 36 #[.slice (some ⟨sg, so + i, none⟩) (M - i) (cap - i)] wr (fun e w' => ∃ a c, e = .returned (.tuple #[.agg #[.int .i64 r.kind, .int .i64 r.gen, .int .i64 r.num, .slice a m c], .int .i64 (cnt : Int), .int .i64 why]) ∧
          w'.ownsRow wr.heap.size 5 1 (.slice a m c) m (bvs r.load) ∧ Below wr.heap.size wr w') :=
        (rJoin_any (L.drop i) _ hdr (by rw [List.length_drop, HM.out]; omega)).mono (fun e w' h => by
          obtain ⟨a, c, h1, h2, h3⟩ := h
          rw [hR] at h1 h2
          simp only [hm] at h1 h2
          exact ⟨a, c, h1, h2, h3⟩)
      have hcn : why = 0 → 1 ≤ cnt ∧ cnt ≤ 586 := fun h => by
        have h1 := join_pos (l := L.drop i) (by rw [hR]; exact h)
        have h2 := join_cnt (l := L.drop i) (by rw [hR]; exact h)
        rw [hR] at h1 h2
        exact ⟨h1, h2⟩
      have hj1 : why ≠ 0 → scanL g n L = (out, i, why) := fun h => by rw [hJ, scanGo.eq_2, if_neg (by rw [HM.out]; omega), hR]; simp only; rw [if_pos h]
      have hj2 : why = 0 → ¬ (r.gen = g ∧ r.num = n + (q : Int)) → scanL g n L = (out, i, 30) := fun h h2 => by rw [hJ, scanGo.eq_2, if_neg (by rw [HM.out]; omega), hR]; simp only; rw [if_neg (fun h3 => h3 h), hq, if_neg h2]
      have hj3 : why = 0 → (r.gen = g ∧ r.num = n + (q : Int)) → scanL g n L = scanGo g n L k (i + cnt) (out ++ [r]) := fun h h2 => by rw [hJ, scanGo.eq_2, if_neg (by rw [HM.out]; omega), hR]; simp only; rw [if_neg (fun h3 => h3 h), hq, if_pos h2]
      have HJOIN := Lib.hid hjoin
      have HCN := Lib.hid hcn
      have HJ1 := Lib.hid hj1
      have HJ2 := Lib.hid hj2
      have HJ3 := Lib.hid hj3
      have HMM := Lib.hid hm
      clear hvr hdr hR hm hjoin hcn hj1 hj2 hj3 hJ HBW hB hO hq
      go_wp2_with fail
      refine HJOIN.out.mono ?_
      rintro e w3 ⟨ra, rc, rfl, hP3, hb3⟩
      have hO3 := HO.out.below hb3
      have hB3 := HB.out.trans (hb3.mono HB.out.size)
      obtain ⟨w4, hw4⟩ : ∃ w4, w3.alloc (.cells #[.int .i64 r.kind, .int .i64 r.gen, .int .i64 r.num, .slice ra m rc] 49) = w4 := ⟨_, rfl⟩
      have hb4 : Below w3.heap.size w3 w4 := hw4 ▸ (Below.refl _ _).alloc (Nat.le_refl _) _
      have hO4 := hO3.below hb4
      have hP4 := ownsRow_base (own_kept hP3 hb4) HB.out.size
      have hB4 := hB3.trans (hb4.mono hB3.size)
      have hN4 : w4.heap[w3.heap.size]? = some (.cells #[.int .i64 r.kind, .int .i64 r.gen, .int .i64 r.num, .slice ra m rc] 49 (0, 0)) := by rw [← hw4]; exact heap_alloc_new _ _
      have hP4 : w4.ownsRow w.heap.size 5 1 (.slice ra m rc) r.load.length (bvs r.load) := by rw [HMM.out]; exact hP4
      have hg4 : w3.heap.size + 1 = w4.heap.size := by rw [← hw4]; simp
      have HG4 := Lib.hid hg4
      clear hg4
      have HO4 := Lib.hid hO4
      have HP4 := Lib.hid hP4
      have HB4 := Lib.hid hB4
      have HW4 := Lib.hid hw4
      have HN4 := Lib.hid hN4
      clear hP3 hb3 hO3 hB3 hb4 hO4 hP4 hB4 hw4 hN4
      by_cases hwhy : why = 0
      · subst hwhy
        obtain ⟨hcn1, hcn2⟩ := HCN.out (by simp)
        by_cases hgen : r.gen = g
        · have hgb : (r.gen != g) = false := by simp [hgen]
          by_cases hnum : r.num = n + (q : Int)
          · have hnb : (r.num != n + (q : Int)) = false := by simp [hnum]
            have hj3 := HJ3.out (by simp) ⟨hgen, hnum⟩
            have HJJ := Lib.hid hj3
            clear hj3 hgen hnum
            go_wp2_with (at_builtin; rw [HW4.out]; refine wpList_appRRec rfl (.tmp 50) (.tmp 52) rfl rfl HO4.out HP4.out rfl HG4.out HQ.out (by omega) HB4.out.size ?_)
            intro a' cap' w5 ho5 hb5
            have HO5 := Lib.hid ho5
            have HB5 := Lib.hid (HB4.out.trans hb5)
            clear ho5 hb5
            go_wp2_with fail
            go_roundw
            case rel => exact ⟨i + cnt, q + 1, out ++ [r], k, a', cap', by go_num, rfl, by rw [List.length_append, HQ.out]; rfl, by omega, by omega, by omega, HO5.out, HJJ.out, HB5.out⟩
            case measure => simp [intOf]; omega
          · have hnb : (r.num != n + (q : Int)) = true := by simpa using hnum
            have hj2 := HJ2.out (by simp) (fun h => hnum h.2)
            have HJJ := Lib.hid hj2
            clear hj2 hnum hgen
            go_wp2_with fail
            rw [HW4.out]
            go_ret3
            exact ScanPost.mk HJJ.out HO4.out HB4.out
        · have hgb : (r.gen != g) = true := by simpa using hgen
          have hj2 := HJ2.out (by simp) (fun h => hgen h.1)
          have HJJ := Lib.hid hj2
          clear hj2 hgen
          go_wp2_with fail
          rw [HW4.out]
          go_ret3
          exact ScanPost.mk HJJ.out HO4.out HB4.out
      · have hwb : (why != 0) = true := by simpa using hwhy
        have hj1 := HJ1.out hwhy
        have HJJ := Lib.hid hj1
        clear hj1 hwhy
        go_wp2_with fail
        rw [HW4.out]
        go_ret3
        exact ScanPost.mk HJJ.out HO4.out HB4.out
    · have hres : scanL g n L = (out, i, 0) := by rw [hJ, scanGo_end _ _ _ _ _ _ (by rw [HM.out]; omega)]
      have HRES := Lib.hid hres
      clear hres hJ HBW hB hO hq
      go_wp2_with fail
      go_ret3
      exact ScanPost.mk HRES.out HO.out HB.out

set_option maxRecDepth 100000 in
set_option maxHeartbeats 2000000 in
theorem Salvage_any {w : World} (L : List (List UInt8)) (v : Value) (hv : SecsAt w v L) (hM0 : L.length < 1000000) (hK : KAt w) : Calls Tryd.prog 44 #[v] w (SalPost 50 w (salL L)) := by
  have hs : salL L = salGo L L.length 0 [] := rfl
  obtain ⟨va, cap, rfl⟩ := hv.form
  obtain ⟨M, hM⟩ : ∃ M, L.length = M := ⟨_, rfl⟩
  rw [hM] at hv hM0 hs ⊢
  have HS := Lib.hid hs
  have HM := Lib.hid hM
  have HV := Lib.hid hv
  have HK := Lib.hid hK
  clear hs hM hv hK
  go_enter Tryd.func44, Tryd.ntmps44
  go_wp2_with fail
  go_loopw [3, 4] (fun pv av wr => ∃ (i : Nat) (q : Nat) (out : List RecD) (k : Nat) (pa : Option Addr) (pc : Nat), av = .int .i64 (i : Int) ∧ pv = .slice pa q pc ∧ out.length = q ∧ q ≤ i ∧ i ≤ M + 586 ∧ M ≤ i + k ∧ OwnRecs 50 wr w.heap.size pv out ∧
      salL L = salGo L k i out ∧ Below w.heap.size w wr) (fun _ av _ => M + 600 - (intOf av).toNat)
  case atStart => exact ⟨0, 0, [], M, none, 0, rfl, rfl, rfl, Nat.le_refl _, by omega, by omega, ownRecs_nil _ _ _, HS.out, Below.refl _ _⟩
  case round =>
    obtain ⟨i, q, out, k, pa, pc, rfl, rfl, hq, hqi, hiM, hfu, hO, hJ, hB⟩ := hrel
    have HBW := hB
    have HQ := Lib.hid hq
    have HO := Lib.hid hO
    have HJ := Lib.hid hJ
    have HB := Lib.hid hB
    by_cases hlt : i < M
    · obtain ⟨k, rfl⟩ : ∃ k', k = k' + 1 := ⟨k - 1, by omega⟩
      have hvr := HV.out.below HBW
      obtain ⟨sg, so, x1, n1, c1, rfl, _, _⟩ := hvr.get (i := i) (by rw [HM.out]; exact hlt)
      have hcapM : M ≤ cap := by obtain ⟨a', cap', vs, e, h2, _⟩ := hvr.ex; cases e; rw [HM.out] at h2; exact h2
      have hck : ¬ cap = i := by omega
      have hdr := hvr.drop (i := i) (by rw [HM.out]; omega)
      obtain ⟨R, hR⟩ : ∃ R, joinL (L.drop i) = R := ⟨_, rfl⟩
      obtain ⟨r, cnt, why⟩ := R
      obtain ⟨m, hm⟩ : ∃ m, r.load.length = m := ⟨_, rfl⟩
      have hjoin : Calls Tryd.prog 34 #[.slice (some ⟨sg, so + i, none⟩) (M - i) (cap - i)] wr (fun e w' => ∃ a c, e = .returned (.tuple #[.agg #[.int .i64 r.kind, .int .i64 r.gen, .int .i64 r.num, .slice a m c], .int .i64 (cnt : Int), .int .i64 why]) ∧
          w'.ownsRow wr.heap.size 5 1 (.slice a m c) m (bvs r.load) ∧ Below wr.heap.size wr w') :=
        (Join_any (L.drop i) _ hdr (by rw [List.length_drop, HM.out]; omega) (HK.out.below HBW HK.out.size)).mono (fun e w' h => by
          obtain ⟨a, c, h1, h2, h3⟩ := h
          rw [hR] at h1 h2
          simp only [hm] at h1 h2
          exact ⟨a, c, h1, h2, h3⟩)
      have hcn : why = 0 → 1 ≤ cnt ∧ cnt ≤ 586 := fun h => by
        have h1 := join_pos (l := L.drop i) (by rw [hR]; exact h)
        have h2 := join_cnt (l := L.drop i) (by rw [hR]; exact h)
        rw [hR] at h1 h2
        exact ⟨h1, h2⟩
      have hj1 : why ≠ 0 → salL L = salGo L k (i + 1) out := fun h => by rw [hJ, salGo.eq_2, if_neg (by rw [HM.out]; omega), hR]; simp only; rw [if_pos h]
      have hj3 : why = 0 → salL L = salGo L k (i + cnt) (out ++ [r]) := fun h => by rw [hJ, salGo.eq_2, if_neg (by rw [HM.out]; omega), hR]; simp only; rw [if_neg (fun h3 => h3 h)]
      have HJOIN := Lib.hid hjoin
      have HCN := Lib.hid hcn
      have HJ1 := Lib.hid hj1
      have HJ3 := Lib.hid hj3
      have HMM := Lib.hid hm
      clear hvr hdr hR hm hjoin hcn hj1 hj3 hJ HBW hB hO hq
      go_wp2_with fail
      refine HJOIN.out.mono ?_
      rintro e w3 ⟨ra, rc, rfl, hP3, hb3⟩
      have hO3 := HO.out.below hb3
      have hB3 := HB.out.trans (hb3.mono HB.out.size)
      obtain ⟨w4, hw4⟩ : ∃ w4, w3.alloc (.cells #[.int .i64 r.kind, .int .i64 r.gen, .int .i64 r.num, .slice ra m rc] 50) = w4 := ⟨_, rfl⟩
      have hb4 : Below w3.heap.size w3 w4 := hw4 ▸ (Below.refl _ _).alloc (Nat.le_refl _) _
      have hO4 := hO3.below hb4
      have hP4 := ownsRow_base (own_kept hP3 hb4) HB.out.size
      have hB4 := hB3.trans (hb4.mono hB3.size)
      have hP4 : w4.ownsRow w.heap.size 5 1 (.slice ra m rc) r.load.length (bvs r.load) := by rw [HMM.out]; exact hP4
      have hg4 : w3.heap.size + 1 = w4.heap.size := by rw [← hw4]; simp
      have HG4 := Lib.hid hg4
      clear hg4
      have HO4 := Lib.hid hO4
      have HP4 := Lib.hid hP4
      have HB4 := Lib.hid hB4
      have HW4 := Lib.hid hw4
      clear hP3 hb3 hO3 hB3 hb4 hO4 hP4 hB4 hw4
      by_cases hwhy : why = 0
      · subst hwhy
        obtain ⟨hcn1, hcn2⟩ := HCN.out (by simp)
        have hj3 := HJ3.out (by simp)
        have HJJ := Lib.hid hj3
        clear hj3
        go_wp2_with (at_builtin; rw [HW4.out]; refine wpList_appRec rfl (.tmp 24) (.tmp 26) rfl rfl HO4.out HP4.out rfl HG4.out HQ.out (by omega) HB4.out.size ?_)
        intro a' cap' w5 ho5 hb5
        have HO5 := Lib.hid ho5
        have HB5 := Lib.hid (HB4.out.trans hb5)
        clear ho5 hb5
        go_wp2_with fail
        go_roundw
        case rel => exact ⟨i + cnt, q + 1, out ++ [r], k, a', cap', by go_num, rfl, by rw [List.length_append, HQ.out]; rfl, by omega, by omega, by omega, HO5.out, HJJ.out, HB5.out⟩
        case measure => simp [intOf]; omega
      · have hwb : (why != 0) = true := by simpa using hwhy
        have hj1 := HJ1.out hwhy
        have HJJ := Lib.hid hj1
        clear hj1 hwhy
        go_wp2_with fail
        rw [HW4.out]
        go_roundw
        case rel => exact ⟨i + 1, q, out, k, pa, pc, by go_num, rfl, HQ.out, by omega, by omega, by omega, HO4.out, HJJ.out, HB4.out⟩
        case measure => simp [intOf]; omega
    · have hres : salL L = out := by rw [hJ, salGo_end _ _ _ _ (by rw [HM.out]; omega)]
      have HRES := Lib.hid hres
      clear hres hJ HBW hB hO hq
      go_wp2_with fail
      go_ret
      exact ⟨_, rfl, by rw [HRES.out]; exact HO.out, HB.out⟩

set_option maxRecDepth 100000 in
set_option maxHeartbeats 2000000 in
theorem rSalvage_any {w : World} (L : List (List UInt8)) (v : Value) (hv : SecsAt w v L) (hM0 : L.length < 1000000) : Calls Tryd.prog 45 #[v] w (SalPost 49 w (salL L)) := by
  have hs : salL L = salGo L L.length 0 [] := rfl
  obtain ⟨va, cap, rfl⟩ := hv.form
  obtain ⟨M, hM⟩ : ∃ M, L.length = M := ⟨_, rfl⟩
  rw [hM] at hv hM0 hs ⊢
  have HS := Lib.hid hs
  have HM := Lib.hid hM
  have HV := Lib.hid hv
  clear hs hM hv
  go_enter Tryd.func45, Tryd.ntmps45
  go_wp2_with fail
  go_loopw [3, 4] (fun pv av wr => ∃ (i : Nat) (q : Nat) (out : List RecD) (k : Nat) (pa : Option Addr) (pc : Nat), av = .int .i64 (i : Int) ∧ pv = .slice pa q pc ∧ out.length = q ∧ q ≤ i ∧ i ≤ M + 586 ∧ M ≤ i + k ∧ OwnRecs 49 wr w.heap.size pv out ∧
      salL L = salGo L k i out ∧ Below w.heap.size w wr) (fun _ av _ => M + 600 - (intOf av).toNat)
  case atStart => exact ⟨0, 0, [], M, none, 0, rfl, rfl, rfl, Nat.le_refl _, by omega, by omega, ownRecs_nil _ _ _, HS.out, Below.refl _ _⟩
  case round =>
    obtain ⟨i, q, out, k, pa, pc, rfl, rfl, hq, hqi, hiM, hfu, hO, hJ, hB⟩ := hrel
    have HBW := hB
    have HQ := Lib.hid hq
    have HO := Lib.hid hO
    have HJ := Lib.hid hJ
    have HB := Lib.hid hB
    by_cases hlt : i < M
    · obtain ⟨k, rfl⟩ : ∃ k', k = k' + 1 := ⟨k - 1, by omega⟩
      have hvr := HV.out.below HBW
      obtain ⟨sg, so, x1, n1, c1, rfl, _, _⟩ := hvr.get (i := i) (by rw [HM.out]; exact hlt)
      have hcapM : M ≤ cap := by obtain ⟨a', cap', vs, e, h2, _⟩ := hvr.ex; cases e; rw [HM.out] at h2; exact h2
      have hck : ¬ cap = i := by omega
      have hdr := hvr.drop (i := i) (by rw [HM.out]; omega)
      obtain ⟨R, hR⟩ : ∃ R, joinL (L.drop i) = R := ⟨_, rfl⟩
      obtain ⟨r, cnt, why⟩ := R
      obtain ⟨m, hm⟩ : ∃ m, r.load.length = m := ⟨_, rfl⟩
      have hjoin : Calls Tryd.prog 36 #[.slice (some ⟨sg, so + i, none⟩) (M - i) (cap - i)] wr (fun e w' => ∃ a c, e = .returned (.tuple #[.agg #[.int .i64 r.kind, .int .i64 r.gen, .int .i64 r.num, .slice a m c], .int .i64 (cnt : Int), .int .i64 why]) ∧
          w'.ownsRow wr.heap.size 5 1 (.slice a m c) m (bvs r.load) ∧ Below wr.heap.size wr w') :=
        (rJoin_any (L.drop i) _ hdr (by rw [List.length_drop, HM.out]; omega)).mono (fun e w' h => by
          obtain ⟨a, c, h1, h2, h3⟩ := h
          rw [hR] at h1 h2
          simp only [hm] at h1 h2
          exact ⟨a, c, h1, h2, h3⟩)
      have hcn : why = 0 → 1 ≤ cnt ∧ cnt ≤ 586 := fun h => by
        have h1 := join_pos (l := L.drop i) (by rw [hR]; exact h)
        have h2 := join_cnt (l := L.drop i) (by rw [hR]; exact h)
        rw [hR] at h1 h2
        exact ⟨h1, h2⟩
      have hj1 : why ≠ 0 → salL L = salGo L k (i + 1) out := fun h => by rw [hJ, salGo.eq_2, if_neg (by rw [HM.out]; omega), hR]; simp only; rw [if_pos h]
      have hj3 : why = 0 → salL L = salGo L k (i + cnt) (out ++ [r]) := fun h => by rw [hJ, salGo.eq_2, if_neg (by rw [HM.out]; omega), hR]; simp only; rw [if_neg (fun h3 => h3 h)]
      have HJOIN := Lib.hid hjoin
      have HCN := Lib.hid hcn
      have HJ1 := Lib.hid hj1
      have HJ3 := Lib.hid hj3
      have HMM := Lib.hid hm
      clear hvr hdr hR hm hjoin hcn hj1 hj3 hJ HBW hB hO hq
      go_wp2_with fail
      refine HJOIN.out.mono ?_
      rintro e w3 ⟨ra, rc, rfl, hP3, hb3⟩
      have hO3 := HO.out.below hb3
      have hB3 := HB.out.trans (hb3.mono HB.out.size)
      obtain ⟨w4, hw4⟩ : ∃ w4, w3.alloc (.cells #[.int .i64 r.kind, .int .i64 r.gen, .int .i64 r.num, .slice ra m rc] 49) = w4 := ⟨_, rfl⟩
      have hb4 : Below w3.heap.size w3 w4 := hw4 ▸ (Below.refl _ _).alloc (Nat.le_refl _) _
      have hO4 := hO3.below hb4
      have hP4 := ownsRow_base (own_kept hP3 hb4) HB.out.size
      have hB4 := hB3.trans (hb4.mono hB3.size)
      have hP4 : w4.ownsRow w.heap.size 5 1 (.slice ra m rc) r.load.length (bvs r.load) := by rw [HMM.out]; exact hP4
      have hg4 : w3.heap.size + 1 = w4.heap.size := by rw [← hw4]; simp
      have HG4 := Lib.hid hg4
      clear hg4
      have HO4 := Lib.hid hO4
      have HP4 := Lib.hid hP4
      have HB4 := Lib.hid hB4
      have HW4 := Lib.hid hw4
      clear hP3 hb3 hO3 hB3 hb4 hO4 hP4 hB4 hw4
      by_cases hwhy : why = 0
      · subst hwhy
        obtain ⟨hcn1, hcn2⟩ := HCN.out (by simp)
        have hj3 := HJ3.out (by simp)
        have HJJ := Lib.hid hj3
        clear hj3
        go_wp2_with (at_builtin; rw [HW4.out]; refine wpList_appRRec rfl (.tmp 22) (.tmp 24) rfl rfl HO4.out HP4.out rfl HG4.out HQ.out (by omega) HB4.out.size ?_)
        intro a' cap' w5 ho5 hb5
        have HO5 := Lib.hid ho5
        have HB5 := Lib.hid (HB4.out.trans hb5)
        clear ho5 hb5
        go_wp2_with fail
        go_roundw
        case rel => exact ⟨i + cnt, q + 1, out ++ [r], k, a', cap', by go_num, rfl, by rw [List.length_append, HQ.out]; rfl, by omega, by omega, by omega, HO5.out, HJJ.out, HB5.out⟩
        case measure => simp [intOf]; omega
      · have hwb : (why != 0) = true := by simpa using hwhy
        have hj1 := HJ1.out hwhy
        have HJJ := Lib.hid hj1
        clear hj1 hwhy
        go_wp2_with fail
        rw [HW4.out]
        go_roundw
        case rel => exact ⟨i + 1, q, out, k, pa, pc, by go_num, rfl, HQ.out, by omega, by omega, by omega, HO4.out, HJJ.out, HB4.out⟩
        case measure => simp [intOf]; omega
    · have hres : salL L = out := by rw [hJ, salGo_end _ _ _ _ (by rw [HM.out]; omega)]
      have HRES := Lib.hid hres
      clear hres hJ HBW hB hO hq
      go_wp2_with fail
      go_ret
      exact ⟨_, rfl, by rw [HRES.out]; exact HO.out, HB.out⟩

end Go.Proofs.YtloaenknhkfaeaaDoor
