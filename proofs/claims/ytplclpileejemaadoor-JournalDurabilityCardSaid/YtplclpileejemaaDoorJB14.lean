/- An area is written; Journals, plainly: the operations keep what a journal is; An open journal in memory; its small methods. -/
import Derived.Test.YtplclpileejemaaDoorJB12
import Derived.Test.YtplclpileejemaaDoorJB13
namespace Go.Proofs.YtplclpileejemaaDoor
open Go.RowKit
set_option linter.unusedVariables false
set_option linter.unusedSimpArgs false

theorem putR_snoc : ∀ (rs : List RecD) (S : DS) (a u : Nat) (r : RecD), putR S a u (rs ++ [r]) = if (putR S a u rs).2.2 = 0 then (if (wrL (putR S a u rs).1 (a + (putR S a u rs).2.1) (splitL r)).2 = 0 then ((wrL (putR S a u rs).1 (a + (putR S a u rs).2.1) (splitL r)).1, (putR S a u rs).2.1 + needN r.load.length, 0) else ((wrL (putR S a u rs).1 (a + (putR S a u rs).2.1) (splitL r)).1, 0, (wrL (putR S a u rs).1 (a + (putR S a u rs).2.1) (splitL r)).2)) else putR S a u rs
  | [], S, a, u, r => by
    show (if (wrL S (a + u) (splitL r)).2 = 0 then putR (wrL S (a + u) (splitL r)).1 a (u + needN r.load.length) [] else _) = _
    rfl
  | q :: rs, S, a, u, r => by
    by_cases h : (wrL S (a + u) (splitL q)).2 = 0
    · have e : ∀ t, putR S a u (q :: t) = putR (wrL S (a + u) (splitL q)).1 a (u + needN q.load.length) t := fun t => if_pos h
      rw [List.cons_append, e, e, putR_snoc rs]
    · have e : ∀ t, putR S a u (q :: t) = ((wrL S (a + u) (splitL q)).1, 0, (wrL S (a + u) (splitL q)).2) := fun t => if_neg h
      rw [List.cons_append, e, e, if_neg h]
theorem putR_stop : ∀ (A B : List RecD) (S : DS) (a u : Nat), (putR S a u A).2.2 ≠ 0 → putR S a u (A ++ B) = putR S a u A
  | [], _, _, _, _, h => absurd rfl h
  | x :: A, B, S, a, u, h => by
    by_cases hx : (wrL S (a + u) (splitL x)).2 = 0
    · have e : ∀ t, putR S a u (x :: t) = putR (wrL S (a + u) (splitL x)).1 a (u + needN x.load.length) t := fun t => if_pos hx
      rw [List.cons_append, e, e] at *
      exact putR_stop A B _ _ _ h
    · have e : ∀ t, putR S a u (x :: t) = ((wrL S (a + u) (splitL x)).1, 0, (wrL S (a + u) (splitL x)).2) := fun t => if_neg hx
      rw [List.cons_append, e, e]
theorem wrL_room : ∀ {L : List (List UInt8)} {S : DS} {a m : Nat}, Roomy S (m + L.length) → Roomy (wrL S a L).1 m
  | [], _, _, _, h => h
  | b :: L, S, a, m, h => by
    have h1 : Roomy (S.write a b).1 (m + L.length) := write_room (by simpa [Nat.add_assoc] using h) a b
    by_cases h0 : (S.write a b).2 = 0
    · have e : wrL S a (b :: L) = wrL (S.write a b).1 (a + 1) L := if_pos h0
      rw [e]
      exact wrL_room h1
    · have e : wrL S a (b :: L) = S.write a b := if_neg h0
      rw [e]
      exact h1.less (by omega)
theorem putR_room : ∀ {rs : List RecD} {S : DS} {a u m : Nat}, Roomy S (m + (seqL rs).length) → Roomy (putR S a u rs).1 m
  | [], _, _, _, _, h => h
  | r :: rs, S, a, u, m, h => by
    rw [seqL_cons, List.length_append] at h
    have h1 : Roomy (wrL S (a + u) (splitL r)).1 (m + (seqL rs).length) := wrL_room (h.less (by omega))
    by_cases h0 : (wrL S (a + u) (splitL r)).2 = 0
    · have e : putR S a u (r :: rs) = putR (wrL S (a + u) (splitL r)).1 a (u + needN r.load.length) rs := if_pos h0
      rw [e]
      exact putR_room h1
    · have e : putR S a u (r :: rs) = ((wrL S (a + u) (splitL r)).1, 0, (wrL S (a + u) (splitL r)).2) := if_neg h0
      rw [e]
      exact h1.less (by omega)
theorem seqL_take_le (rs : List RecD) (j : Nat) : (seqL (rs.take j)).length ≤ (seqL rs).length := by
  have := congrArg List.length (show seqL (rs.take j) ++ seqL (rs.drop j) = seqL rs by rw [← seqL_append, List.take_append_drop])
  rw [List.length_append] at this
  omega
theorem putR_used {rs : List RecD} {S : DS} {a : Nat} (hok : ∀ r ∈ rs, splitE r = 0) (h : (putR S a 0 rs).2.2 = 0) : (putR S a 0 rs).2.1 = (seqL rs).length := by
  obtain ⟨k, _, _, h3⟩ := putR_wrote rs S a 0 hok
  have := (h3 h).2.1
  omega
/-- A state written, or none. -/
def wrSt (g f : Nat) (v : Value) (u : Nat) (e : Int) : Value := if e = 0 then .agg (stC g f v u) else .agg (stC 0 0 (.slice none 0 0) 0)
def WrPost (w : World) (F : Nat → Prop) (b g f : Nat) (v : Value) (z : DS × Nat × Int) (e : Ending) (w' : World) : Prop :=
  e = .returned (.tuple #[wrSt g f v z.2.1 z.2.2, .int .i64 z.2.2]) ∧ DiskAt w' (fun k => F k ∨ w.heap.size ≤ k) b z.1 ∧ Chg F w w'
set_option maxRecDepth 100000 in
set_option maxHeartbeats 2000000 in
theorem Jwrite_any {w : World} {F G : Nat → Prop} {b : Nat} {S : DS} (h : DiskAt w F b S) (hK : KAt w) (hK0 : ¬ F 0) (a c which g first : Nat) (hc : c < 1000000) (ha : a < 100000000) (hwh : which ≤ 1) (v : Value) (E : List (List UInt8)) (hE : EntsAt w G v E) (hGF : ∀ k, k < w.heap.size → G k → ¬ F k) (hlim : JLim g first E.length E)
    (hN : (seqL (recsR g first E)).length ≤ 100000000) (hroom : Roomy S ((seqL (recsR g first E)).length + 1)) :
    Calls Tryd.prog 37 #[stV b (a : Int) (c : Int), .int .i64 (which : Int), .int .i64 (g : Int), .int .i64 (first : Int), v] w (WrPost w F b g first v (wrA S (a + which * (c / 2)) g first E)) := by
  obtain ⟨va, vc, rfl⟩ := hE.form
  obtain ⟨n, hn⟩ : ∃ n, E.length = n := ⟨_, rfl⟩
  have hnb : n < 100000000 := by
    have h1 := seqL_long hlim.recs.mem
    rw [← recsR_recsJ, show (recsR g first E).length = n + 1 by rw [recsR_recsJ, recsJ_length, hn]] at h1
    omega
  obtain ⟨wh, hwE⟩ : ∃ wh, which * (c / 2) = wh := ⟨_, rfl⟩
  have hwm : wh ≤ c := by
    subst hwE
    rcases (show which = 0 ∨ which = 1 by omega) with rfl | rfl <;> omega
  have hmul : (which : Int) * ((c / 2 : Nat) : Int) = (wh : Int) := by rw [← hwE, Int.natCast_mul]
  have hwrap : IntKind.i64.wrap (wh : Int) = (wh : Int) := IntWalk.i64_in _ (by omega)
  have hsz := fun (w1 : World) => Jsize_any (w := w1) b (a : Int) c (by omega)
  obtain ⟨hh, hhE⟩ : ∃ hh, c / 2 = hh := ⟨_, rfl⟩
  rw [hhE] at hmul hsz
  rw [hwE]
  have HSZ := Lib.hid hsz
  have HOK := Lib.hid hlim.recs
  rw [← recsR_recsJ] at HOK
  obtain ⟨A, hA⟩ : ∃ A, a + wh = A := ⟨_, rfl⟩
  have HA := Lib.hid hA
  have hAb : A < 200000000 := by omega
  rw [hA]
  obtain ⟨rs, hrs⟩ : ∃ rs, recsR g first E = rs := ⟨_, rfl⟩
  have HRL := Lib.hid (show rs.length = n + 1 by rw [← hrs, recsR_recsJ, recsJ_length, hn])
  have HR0 := Lib.hid (show rs.take 1 = [⟨1, g, 0, headB first n⟩] by rw [← hrs, ← hn]; rfl)
  have HRS := Lib.hid (show ∀ i (h : i < E.length), rs.take (i + 1 + 1) = rs.take (i + 1) ++ [bodR g (i + 1) E[i]] from fun i hi => by
    rw [← hrs]
    have h1 : i + 1 < (recsR g first E).length := by rw [recsR_recsJ, recsJ_length]; omega
    have h2 : (recsR g first E)[i + 1] = bodR g (i + 1) E[i] := recsJ_get g first E.length E i h1
    rw [List.take_succ_eq_append_getElem h1, h2])
  have HZ := Lib.hid (show wrA S A g first E = if (putR S A 0 rs).2.2 = 0 then
    (if (putR S A 0 rs).1.flush.2 = 0 then ((putR S A 0 rs).1.flush.1, (putR S A 0 rs).2.1, 0) else ((putR S A 0 rs).1.flush.1, 0, (putR S A 0 rs).1.flush.2))
  else putR S A 0 rs by rw [← hrs]; rfl)
  rw [hrs] at hN hroom HOK
  obtain ⟨N, hNE⟩ : ∃ N, (seqL rs).length = N := ⟨_, rfl⟩
  have HNE := Lib.hid hNE
  rw [hNE] at hN hroom
  obtain ⟨z, hz⟩ : ∃ z, wrA S A g first E = z := ⟨_, rfl⟩
  rw [hz] at HZ ⊢
  have hgb := hlim.g
  have hfb : first ≤ 2147483647 := hlim.f
  rw [hn] at hlim ⊢
  have HEN := Lib.hid hn
  clear hz hNE hrs hA hwE hhE hsz hlim
  -- memory
  obtain ⟨w1, hw1⟩ : ∃ w1, w.alloc (.cells #[.pointer (some ⟨b, 0, none⟩), .int .i64 (a : Int), .int .i64 (c : Int)] 75) = w1 := ⟨_, rfl⟩
  have hb1 : Below w.heap.size w w1 := hw1 ▸ (Below.refl _ _).alloc (Nat.le_refl _) _
  have s1 : w1.heap.size = w.heap.size + 1 := by rw [← hw1]; simp
  have x1 : w1.heap[w.heap.size]? = some (.cells #[.pointer (some ⟨b, 0, none⟩), .int .i64 (a : Int), .int .i64 (c : Int)] 75 (0, 0)) := by rw [← hw1]; exact heap_alloc_new _ _
  obtain ⟨w2, hw2⟩ : ∃ w2, w1.alloc (.cells #[.int .i64 0, .int .i64 0, .slice none 0 0, .int .i64 0] 77) = w2 := ⟨_, rfl⟩
  have hb2 : Below w1.heap.size w1 w2 := hw2 ▸ (Below.refl _ _).alloc (Nat.le_refl _) _
  have s2 : w2.heap.size = w1.heap.size + 1 := by rw [← hw2]; simp
  have x2 : w2.heap[w1.heap.size]? = some (.cells #[.int .i64 0, .int .i64 0, .slice none 0 0, .int .i64 0] 77 (0, 0)) := by rw [← hw2]; exact heap_alloc_new _ _
  obtain ⟨w3, hw3⟩ : ∃ w3, w2.alloc (.cells #[.int .i64 0, .int .i64 0, .slice none 0 0, .int .i64 0] 77) = w3 := ⟨_, rfl⟩
  have hb3 : Below w2.heap.size w2 w3 := hw3 ▸ (Below.refl _ _).alloc (Nat.le_refl _) _
  have s3 : w3.heap.size = w2.heap.size + 1 := by rw [← hw3]; simp
  have x3 : w3.heap[w2.heap.size]? = some (.cells #[.int .i64 0, .int .i64 0, .slice none 0 0, .int .i64 0] 77 (0, 0)) := by rw [← hw3]; exact heap_alloc_new _ _
  obtain ⟨B, hB⟩ : ∃ B, w.heap.size = B := ⟨_, rfl⟩
  rw [show w1.heap.size = B + 1 by omega] at x2
  have x1 := (hb2.block _ (by omega)).trans x1
  rw [hB] at x1
  have hb12 := hb1.trans (hb2.mono (by omega))
  have HX3 := Lib.hid (show (((w.alloc (.cells #[.pointer (some ⟨b, 0, none⟩), .int .i64 (a : Int), .int .i64 (c : Int)] 75)).alloc (.cells #[.int .i64 0, .int .i64 0, .slice none 0 0, .int .i64 0] 77)).alloc (.cells #[.int .i64 0, .int .i64 0, .slice none 0 0, .int .i64 0] 77)).heap[w.heap.size + 1 + 1]? = some (.cells #[.int .i64 0, .int .i64 0, .slice none 0 0, .int .i64 0] 77 (0, 0)) by
    rw [hw1, hw2, hw3, hB, show B + 1 + 1 = w2.heap.size by omega]; exact x3)
  have HX1 := Lib.hid x1
  have HX2 := Lib.hid x2
  have HW1 := Lib.hid hw1
  have HW2 := Lib.hid hw2
  have HW3 := Lib.hid hw3
  have HB3 := Lib.hid hb3
  have HB := Lib.hid hB
  have HB2 := Lib.hid hb12
  have HS2 := Lib.hid (show w2.heap.size = B + 2 by omega)
  have HD := Lib.hid (h.bound.below hb12)
  rw [hB] at HD
  have HE := Lib.hid ((hE.weak (G := fun k => G k ∧ k < B) (fun k h1 h2 => ⟨h2, by omega⟩)).below hb12)
  have HGF := Lib.hid (show ∀ k, G k ∧ k < B → ¬ (F k ∧ k < B) from fun k h1 h2 => hGF k (by omega) h1.1 h2.1)
  have HK := Lib.hid (KAt.below hK hb12 hK.size)
  have HKS := Lib.hid hK.size
  have HK0 := Lib.hid hK0
  have HRM := Lib.hid hroom
  clear h hE hGF hK hK0 hroom hb1 hb2 hb12 s1 s2 s3 x1 x2 x3 hw1 hw2 hw3 hb3 hB hn
  unfold stV at HSZ ⊢
  go_enter Tryd.func37, Tryd.ntmps37
  go_wp2_with (refine wpList_putV rfl rfl 77 (.tmp 12) (.tmp 24) rfl _ #[.int .i64 (g : Int), .int .i64 (first : Int), .slice va n vc, .int .i64 0] rfl rfl 77 _ HX3.out (by kernel_rfl) rfl (by kernel_rfl) ?_; refine Stop.on ?_)
  refine Stop.go ?_
  try simp only [Act.put, List.setIfInBounds_toArray, List.set_cons_zero, List.set_cons_succ]
  intro W0 x0 c0 s0
  try simp only [Act.put, List.setIfInBounds_toArray, List.set_cons_zero, List.set_cons_succ]
  rw [HW1.out, HW2.out, HW3.out] at c0 s0
  rw [HB.out] at x0 c0
  have HBW0 := Lib.hid (HB3.out.trans (c0.below (fun k e => by have h1 := HS2.out; omega) HB3.out.size))
  have HSW0 := Lib.hid (show W0.heap.size = B + 3 by have h1 := HS2.out; have h2 := HW3.out; rw [s0, ← h2]; simp [HS2.out])
  have HX0 := Lib.hid x0
  clear x0 c0 s0 HX3 HW1 HW2 HW3
  go_wp2_with fail
  refine (headBytes_any first n (by omega) (by omega) W0.heap.size (heap_alloc_new _ _)).mono ?_
  rintro e V1 ⟨hv, rfl, hown, hbv⟩
  obtain ⟨hva, hvc, hvE⟩ := ownsRow_form hown
  subst hvE
  rw [HB.out]
  try rw [show B + 1 + 1 = B + 2 from rfl]
  obtain ⟨Wi, hWi⟩ : ∃ Wi, W0.alloc (.cells #[.int .i64 (first : Int), .int .i64 (n : Int)] 3) = Wi := ⟨_, rfl⟩
  have hbi : Below W0.heap.size W0 Wi := hWi ▸ (Below.refl _ _).alloc (Nat.le_refl _) _
  rw [hWi] at hown hbv
  have hbV := hbi.trans (hbv.mono hbi.size)
  have HBV := Lib.hid (HBW0.out.trans (hbV.mono HBW0.out.size))
  have HX0V := Lib.hid ((hbV.block _ (by have := HSW0.out; omega)).trans HX0.out)
  have hpay := (own_bytesN hown).weak (G := fun k => B + 3 ≤ k ∧ k < V1.heap.size) (fun k h1 h2 => ⟨by have := HSW0.out; have := hbi.size; omega, h1⟩)
  obtain ⟨V2, hV2⟩ : ∃ V2, V1.alloc (.cells #[.int .i64 1, .int .i64 (g : Int), .int .i64 0, .slice hva 16 hvc] 88) = V2 := ⟨_, rfl⟩
  have hb2 : Below V1.heap.size V1 V2 := hV2 ▸ (Below.refl _ _).alloc (Nat.le_refl _) _
  have hx2 : V2.heap[V1.heap.size]? = some (.cells #[.int .i64 1, .int .i64 (g : Int), .int .i64 0, .slice hva 16 hvc] 88 (0, 0)) := by rw [← hV2]; exact heap_alloc_new _ _
  have hV1B : B + 3 ≤ V1.heap.size := by have := HSW0.out; have := hbV.size; omega
  have HR1 := Lib.hid (recsAt_one (w := V2) (F := fun k => (G k ∧ k < B) ∨ B + 3 ≤ k) (r := ⟨1, g, 0, headB first n⟩) hx2 (.inr hV1B) (((hpay.below hb2)).weak (fun k _ h1 => ⟨.inr h1.1, by omega⟩)))
  have HR1 : Hid (RecsAt V2 (fun k => (G k ∧ k < B) ∨ B + 3 ≤ k) (.slice (some ⟨V1.heap.size, 0, none⟩) (0 + 1) 1) (rs.take (0 + 1))) := by rw [show rs.take (0 + 1) = [⟨1, g, 0, headB first n⟩] from HR0.out]; exact HR1
  have HV2 := Lib.hid hV2
  have HBV2 := Lib.hid (HBV.out.trans (hb2.mono HBV.out.size))
  have HX02 := Lib.hid ((hb2.block _ (Array.getElem?_eq_some_iff.1 HX0V.out).1).trans HX0V.out)
  have HSV2 := Lib.hid (show B + 3 ≤ V2.heap.size by have := hb2.size; omega)
  have HOW1 := Lib.hid (show ∀ q, (Value.slice (some ⟨V1.heap.size, 0, none⟩) 1 1).ownBlock = some q → B + 3 ≤ q from fun q hq => by obtain rfl : V1.heap.size = q := Option.some.inj hq; exact hV1B)
  have HC0 := Lib.hid (Chg.refl (fun k => B + 3 ≤ k) V2)
  have HEV := Lib.hid (HE.out.below HBV2.out)
  clear hWi hbi hown hbv hbV hpay hV2 hb2 hx2 hV1B HX0V HBV HBW0 HSW0 HX0 HE
  go_wp2_with fail
  rw [HV2.out]
  go_loopw [13, 35] (fun rv iv wr => ∃ (i : Nat) (ra : Option Addr) (rc : Nat), i ≤ n ∧ iv = .int .i64 (i : Int) ∧ rv = .slice ra (i + 1) rc ∧ Hid (RecsAt wr (fun k => (G k ∧ k < B) ∨ B + 3 ≤ k) (.slice ra (i + 1) rc) (rs.take (i + 1))) ∧ Hid (∀ q, (Value.slice ra (i + 1) rc).ownBlock = some q → B + 3 ≤ q) ∧ Hid (Chg (fun k => B + 3 ≤ k) V2 wr)) (fun _ iv _ => n - (intOf iv).toNat)
  case atStart => exact ⟨0, _, 1, Nat.zero_le _, rfl, rfl, HR1, HOW1, HC0⟩
  case round =>
    obtain ⟨i, ra, rc, hi, rfl, rfl, HRR, HOW, HCR⟩ := hrel
    obtain ⟨W1, rfl⟩ : ∃ W1, W1 = wr := ⟨_, rfl⟩
    clear HR1 HOW1 HC0
    by_cases hlt : i < n
    · have hiI : (i : Int) < (n : Int) := by omega
      have hiE : i < E.length := by rw [HEN.out]; exact hlt
      have HE1 := Lib.hid (HEV.out.chg HCR.out (fun k _ h1 h2 => by omega))
      obtain ⟨gv, x, xc, e9, _, hcell, hbx⟩ := (HE1.out).get hiE
      subst e9
      obtain ⟨X, hX⟩ : ∃ X, E[i] = X := ⟨_, rfl⟩
      have HTS := Lib.hid (show rs.take (i + 1 + 1) = rs.take (i + 1) ++ [⟨2, g, (i : Int) + 1, X⟩] by rw [HRS.out i hiE, hX]; rfl)
      have HLN := Lib.hid (show (rs.take (i + 1)).length = i + 1 by rw [List.length_take, HRL.out]; omega)
      rw [hX] at hcell hbx
      have HU := Lib.hid (show BytesN W1 (fun k => ((G k ∧ k < B) ∨ B + 3 ≤ k) ∧ (Value.slice ra (i + 1) rc).ownBlock ≠ some k) (.slice x X.length xc) X from hbx.weak (fun k _ h1 => ⟨.inl h1, fun e => by have := HOW.out k e; omega⟩))
      obtain ⟨xn, hxn⟩ : ∃ xn, X.length = xn := ⟨_, rfl⟩
      rw [hxn] at hcell HU
      obtain ⟨LT, hLT⟩ : ∃ LT, rs.take (i + 1) = LT := ⟨_, rfl⟩
      rw [hLT] at HRR HTS HLN
      clear hX hbx hxn hLT HE1
      go_wp2_with (at_builtin; refine wpList_appRecA rfl (.tmp 40) (.tmp 46) rfl ⟨2, (g : Int), (i : Int) + 1, X⟩ rfl HRR.out HU.out rfl HLN.out (by omega) ?_; refine Stop.on ?_)
      refine Stop.go ?_
      try simp only [Act.put, List.setIfInBounds_toArray, List.set_cons_zero, List.set_cons_succ]
      intro a5 c5 W3 hr3 hc3 ho3
      try simp only [Act.put, List.setIfInBounds_toArray, List.set_cons_zero, List.set_cons_succ]
      have HOW3 := Lib.hid (show ∀ q, (Value.slice a5 (i + 1 + 1) c5).ownBlock = some q → B + 3 ≤ q from fun q hq => (ho3 q hq).elim (HOW.out q) (fun h1 => by have h2 := HCR.out.size; have h3 := HSV2.out; omega))
      have HC3 := Lib.hid (HCR.out.trans (hc3.mono (G := fun k => B + 3 ≤ k) (fun k e => HOW.out k e)) (fun k e => .inl e))
      have HR3 : Hid (RecsAt W3 (fun k => (G k ∧ k < B) ∨ B + 3 ≤ k) (.slice a5 (i + 1 + 1) c5) (rs.take (i + 1 + 1))) := Lib.hid (by rw [HTS.out]; exact hr3.weak (fun k _ h1 => h1.elim id (fun h2 => .inr (by have h3 := HCR.out.size; have h4 := HSV2.out; omega))))
      clear hr3 hc3 ho3 hcell
      go_wp2_with fail
      go_roundw
      case rel => exact ⟨i + 1, a5, c5, by omega, by go_num, rfl, HR3, HOW3, HC3⟩
      case measure => simp [intOf] <;> omega
    obtain rfl : i = n := by omega
    have HRA := Lib.hid (show RecsAt W1 (fun k => (G k ∧ k < B) ∨ B + 3 ≤ k) (.slice ra (i + 1) rc) rs by
      have h1 := HRR.out
      rw [List.take_of_length_le (by rw [HRL.out]; exact Nat.le_refl _)] at h1
      exact h1)
    clear HRR hlt hi
    obtain ⟨m, hm⟩ : ∃ m, i + 1 = m := ⟨_, rfl⟩
    rw [hm] at HRA HRL HOW ⊢
    have HBW := Lib.hid (HBV2.out.trans (HCR.out.below (B := w2.heap.size) (fun k e => by have := HS2.out; omega) (by have := HS2.out; have := HSV2.out; omega)))
    have HXW := Lib.hid ((HCR.out.block (B + 2) (Array.getElem?_eq_some_iff.1 HX02.out).1 (by omega)).trans HX02.out)
    have HXB := Lib.hid ((HBW.out.block B (by have := HS2.out; omega)).trans HX1.out)
    have HXR := Lib.hid ((HBW.out.block (B + 1) (by have := HS2.out; omega)).trans HX2.out)
    have HDW := Lib.hid ((HD.out.below HBW.out).mono (G := fun k => (F k ∧ k < B) ∨ W1.heap.size ≤ k) (fun k h1 => .inl h1))
    have HKW := Lib.hid (KAt.below HK.out HBW.out HK.out.size)
    have HSW := Lib.hid (show B + 3 ≤ W1.heap.size by have := HCR.out.size; have := HSV2.out; omega)
    have HBT := Lib.hid (HB2.out.trans (HBW.out.mono HB2.out.size))
    have HRA := Lib.hid (HRA.out.weak (G := fun k => ((G k ∧ k < B) ∨ B + 3 ≤ k) ∧ k < W1.heap.size) (fun k h1 h2 => ⟨h2, h1⟩))
    have HAP := Lib.hid (show ∀ k, (((G k ∧ k < B) ∨ B + 3 ≤ k) ∧ k < W1.heap.size) → ¬ (((F k ∧ k < B) ∨ W1.heap.size ≤ k) ∨ k = B + 2) from fun k h1 h2 => by
      rcases h2 with (h2 | h2) | h2
      · rcases h1.1 with h3 | h3
        · exact HGF.out k h3 h2
        · omega
      · omega
      · have := h1.1; omega)
    have HP0 := Lib.hid (show putR S A 0 (rs.take 0) = (S, 0, 0) from rfl)
    have HC0 := Lib.hid (Chg.refl (fun k => ((F k ∧ k < B) ∨ W1.heap.size ≤ k) ∨ k = B + 2) W1)
    have HRM0 : Hid (Roomy S (N - 0 + 1)) := HRM
    clear HBV2 HX02 HSV2 HCR HEV
    go_wp2_with fail
    go_loopw [51] (fun iv wr => ∃ (j uj : Nat) (Sj : DS), j ≤ m ∧ iv = .int .i64 (j : Int) ∧ uj ≤ N ∧ Hid (putR S A 0 (rs.take j) = (Sj, uj, 0)) ∧ Hid (DiskAt wr (fun k => (F k ∧ k < B) ∨ W1.heap.size ≤ k) b Sj) ∧ Hid (Roomy Sj (N - uj + 1)) ∧ Hid (wr.heap[B + 2]? = some (.cells #[.int .i64 (g : Int), .int .i64 (first : Int), .slice va i vc, .int .i64 (uj : Int)] 77 (0, 0))) ∧ Hid (Chg (fun k => ((F k ∧ k < B) ∨ W1.heap.size ≤ k) ∨ k = B + 2) W1 wr)) (fun iv _ => m - (intOf iv).toNat)
    case atStart => exact ⟨0, 0, S, Nat.zero_le _, rfl, Nat.zero_le _, HP0, HDW, HRM0, HXW, HC0⟩
    case round =>
      obtain ⟨j, uj, Sj, hj, rfl, huj, HPJ, HDJ, HRJ, HXJ, HCJ⟩ := hrel
      obtain ⟨W2, rfl⟩ : ∃ W2, W2 = wr := ⟨_, rfl⟩
      clear HP0 HDW HRM0 HXW HC0
      have HXB2 := Lib.hid ((HCJ.out.block B (by have := HSW.out; omega) (by have := HSW.out; omega)).trans HXB.out)
      have HXR2 := Lib.hid ((HCJ.out.block (B + 1) (by have := HSW.out; omega) (by have := HSW.out; omega)).trans HXR.out)
      have HFW := Lib.hid (show Chg F w W2 from by
        have h1 := (Chg.of_below (F := fun k => F k) HBT.out).trans HCJ.out (fun k h2 => by
          rcases h2 with (h2 | h2) | h2
          · exact .inl h2.1
          · exact .inr (by have := HBT.out.size; omega)
          · exact .inr (by have := HB.out; omega))
        exact h1)
      by_cases hlt : j < m
      case neg =>
        obtain rfl : m = j := by omega
        have HZE := Lib.hid (show z = if Sj.flush.2 = 0 then (Sj.flush.1, uj, 0) else (Sj.flush.1, 0, Sj.flush.2) by
          have h1 := HPJ.out
          rw [List.take_of_length_le (by rw [HRL.out]; exact Nat.le_refl _)] at h1
          rw [HZ.out, h1]
          rfl)
        have k0 : W2.cell? ⟨B, 0, none⟩ = some (.pointer (some ⟨b, 0, none⟩)) := by rw [cell_of_row _ _ _ _ _ _ HXB2.out]; rfl
        go_wp2_with fail
        refine (Flush_any HDJ.out (by have := HRJ.out.pend; omega) (by have := HRJ.out.ops; omega) HRJ.out.lim).mono ?_
        rintro e W3 ⟨rfl, hd3, hc3⟩
        obtain ⟨T, hT⟩ : ∃ T, Sj.flush = T := ⟨_, rfl⟩
        rw [hT] at hd3 ⊢
        have HZE := Lib.hid (show z = if T.2 = 0 then (T.1, uj, 0) else (T.1, 0, T.2) by rw [HZE.out, hT])
        obtain ⟨S1, e1⟩ := T
        simp only at HZE hd3 ⊢
        have HD3 := Lib.hid hd3
        have HXR3 := Lib.hid ((hc3.block (B + 1) (Array.getElem?_eq_some_iff.1 HXR2.out).1 (by have := HSW.out; omega)).trans HXR2.out)
        have hxj3 := (hc3.block (B + 2) (Array.getElem?_eq_some_iff.1 HXJ.out).1 (by have := HSW.out; omega)).trans HXJ.out
        have HFW3 := Lib.hid (show Chg F w W3 from HFW.out.trans hc3 (fun k h2 => h2.elim (fun h3 => .inl h3.1) (fun h3 => .inr (by have := HBT.out.size; omega))))
        have HDF := Lib.hid (show ∀ W9, Chg (fun k => k = B + 1) W3 W9 → DiskAt W9 (fun k => F k ∨ w.heap.size ≤ k) b S1 ∧ Chg F w W9 from fun W9 h9 => ⟨(HD3.out.chg h9 (fun k h1 h2 => by have := HSW.out; omega)).mono (fun k h1 => h1.elim (fun h2 => .inl h2.1) (fun h2 => .inr (by have := HBT.out.size; omega))), HFW3.out.trans h9 (fun k h1 => .inr (by have := HB.out; omega))⟩)
        clear hT hd3 hc3 k0
        by_cases he : e1 = 0
        · subst he
          have HZF := Lib.hid (show z = (S1, uj, 0) from HZE.out)
          have y0 : W3.cell? ⟨B + 2, 0, none⟩ = some (.int .i64 (g : Int)) := by rw [cell_of_row _ _ _ _ _ _ hxj3]; rfl
          have y1 : W3.cell? ⟨B + 2, 1, none⟩ = some (.int .i64 (first : Int)) := by rw [cell_of_row _ _ _ _ _ _ hxj3]; rfl
          have y2 : W3.cell? ⟨B + 2, 2, none⟩ = some (.slice va i vc) := by rw [cell_of_row _ _ _ _ _ _ hxj3]; rfl
          have y3 : W3.cell? ⟨B + 2, 3, none⟩ = some (.int .i64 (uj : Int)) := by rw [cell_of_row _ _ _ _ _ _ hxj3]; rfl
          clear hxj3
          go_wp2_with (refine wpList_putV rfl rfl 77 (.tmp 10) (.tmp 85) rfl _ #[.int .i64 (g : Int), .int .i64 (first : Int), .slice va i vc, .int .i64 (uj : Int)] rfl rfl 77 _ HXR3.out (by kernel_rfl) rfl (by kernel_rfl) ?_; refine Stop.on ?_)
          refine Stop.go ?_
          try simp only [Act.put, List.setIfInBounds_toArray, List.set_cons_zero, List.set_cons_succ]
          intro V8 x8 c8 s8
          try simp only [Act.put, List.setIfInBounds_toArray, List.set_cons_zero, List.set_cons_succ]
          have k0 : V8.cell? ⟨B + 1, 0, none⟩ = some (.int .i64 (g : Int)) := by rw [cell_of_row _ _ _ _ _ _ x8]; rfl
          have k1 : V8.cell? ⟨B + 1, 1, none⟩ = some (.int .i64 (first : Int)) := by rw [cell_of_row _ _ _ _ _ _ x8]; rfl
          have k2 : V8.cell? ⟨B + 1, 2, none⟩ = some (.slice va i vc) := by rw [cell_of_row _ _ _ _ _ _ x8]; rfl
          have k3 : V8.cell? ⟨B + 1, 3, none⟩ = some (.int .i64 (uj : Int)) := by rw [cell_of_row _ _ _ _ _ _ x8]; rfl
          have HFN := Lib.hid (HDF.out V8 c8)
          clear x8 c8 s8
          go_wp2_with fail
          exact bodyPost_ret (v := .tuple #[.agg #[.int .i64 (g : Int), .int .i64 (first : Int), .slice va i vc, .int .i64 (uj : Int)], .int .i64 0]) (by simp [results, Tryd.results37, go_sem, k0, k1, k2, k3]) rfl ⟨by rw [HZF.out]; rfl, by rw [HZF.out]; exact HFN.out.1, HFN.out.2⟩
        · have hd0 : (e1 != 0) = true := by simpa using he
          have HZF := Lib.hid (show z = (S1, 0, e1) by rw [HZE.out, if_neg he])
          have HWS := Lib.hid (show wrSt g first (.slice va i vc) 0 e1 = .agg #[.int .i64 0, .int .i64 0, .slice none 0 0, .int .i64 0] by unfold wrSt; rw [if_neg he]; rfl)
          clear he hxj3
          go_wp2_with (refine wpList_putV rfl rfl 77 (.tmp 10) (.tmp 83) rfl _ #[.int .i64 0, .int .i64 0, .slice none 0 0, .int .i64 0] rfl rfl 77 _ HXR3.out (by kernel_rfl) rfl (by kernel_rfl) ?_; refine Stop.on ?_)
          refine Stop.go ?_
          try simp only [Act.put, List.setIfInBounds_toArray, List.set_cons_zero, List.set_cons_succ]
          intro V8 x8 c8 s8
          try simp only [Act.put, List.setIfInBounds_toArray, List.set_cons_zero, List.set_cons_succ]
          have k0 : V8.cell? ⟨B + 1, 0, none⟩ = some (.int .i64 0) := by rw [cell_of_row _ _ _ _ _ _ x8]; rfl
          have k1 : V8.cell? ⟨B + 1, 1, none⟩ = some (.int .i64 0) := by rw [cell_of_row _ _ _ _ _ _ x8]; rfl
          have k2 : V8.cell? ⟨B + 1, 2, none⟩ = some (.slice none 0 0) := by rw [cell_of_row _ _ _ _ _ _ x8]; rfl
          have k3 : V8.cell? ⟨B + 1, 3, none⟩ = some (.int .i64 0) := by rw [cell_of_row _ _ _ _ _ _ x8]; rfl
          have HFN := Lib.hid (HDF.out V8 c8)
          clear x8 c8 s8
          go_wp2_with fail
          exact bodyPost_ret (v := .tuple #[.agg #[.int .i64 0, .int .i64 0, .slice none 0 0, .int .i64 0], .int .i64 e1]) (by simp [results, Tryd.results37, go_sem, k0, k1, k2, k3]) rfl ⟨by rw [HZF.out]; exact congrArg (fun q => Ending.returned (.tuple #[q, .int .i64 e1])) HWS.out.symm, by rw [HZF.out]; exact HFN.out.1, HFN.out.2⟩
      have hjI : (j : Int) < (m : Int) := by omega
      have hjr : j < rs.length := by rw [HRL.out]; exact hlt
      obtain ⟨gr, pv, e9, hgrF, hgr, r0, r1, r2, r3, hpv⟩ := (HRA.out.chg HCJ.out (fun k _ h1 => HAP.out k h1)).get hjr
      subst e9
      obtain ⟨pa, pc, rfl⟩ := hpv.form
      have hrok := (HOK.out.ok j hjr).1
      have hsnoc := putR_snoc (rs.take j) S A 0 rs[j]
      rw [HPJ.out, ← List.take_succ_eq_append_getElem hjr] at hsnoc
      simp only at hsnoc
      have hstop := putR_stop (rs.take (j + 1)) (rs.drop (j + 1)) S A 0
      rw [List.take_append_drop] at hstop
      have hul : uj + needN rs[j].load.length ≤ N := by
        have h1 := putR_used (rs := rs.take j) (S := S) (a := A) (fun r hr => HOK.out.mem r (List.mem_of_mem_take hr)) (by rw [HPJ.out])
        rw [HPJ.out] at h1
        have h2 := seqL_take_le rs (j + 1)
        rw [List.take_succ_eq_append_getElem hjr, seqL_append, List.length_append, HNE.out] at h2
        have h3 : seqL [rs[j]] = splitL rs[j] := by simp [seqL]
        rw [h3, splitL_length hrok] at h2
        simp only at h1
        omega
      obtain ⟨R, hR⟩ : ∃ R, rs[j] = R := ⟨_, rfl⟩
      rw [hR] at r0 r1 r2 r3 hpv hrok hsnoc hul
      obtain ⟨kd, hkd⟩ : ∃ kd, R.kind = kd := ⟨_, rfl⟩
      obtain ⟨gd, hgd⟩ : ∃ gd, R.gen = gd := ⟨_, rfl⟩
      obtain ⟨nd, hnd⟩ : ∃ nd, R.num = nd := ⟨_, rfl⟩
      obtain ⟨ld, hld⟩ : ∃ ld, R.load.length = ld := ⟨_, rfl⟩
      have hcall := fun (V : World) (hV : Below W2.heap.size W2 V) => Jput_any (HDJ.out.bound.below hV) (KAt.below (KAt.chg HKW.out HCJ.out (fun h => by have := HSW.out; have := HK0.out; rcases h with (h | h) | h; exact this h.1; omega; omega)) hV (by have := HSW.out; have := HCJ.out.size; omega)) (fun h => by have := HSW.out; have := HK0.out; rcases h.1 with h | h; exact this h.1; omega) a (wh + uj) (c : Int) R hrok (.slice pa R.load.length pc) (hpv.below hV) (by omega) (HRJ.out.less (by omega))
      rw [hkd, hgd, hnd] at hcall
      rw [show a + (wh + uj) = A + uj by have := HA.out; omega] at hcall
      obtain ⟨T, hT⟩ : ∃ T, wrL Sj (A + uj) (splitL R) = T := ⟨_, rfl⟩
      have hrm : Roomy T.1 (N - (uj + needN R.load.length) + 1) := by
        rw [← hT]
        refine wrL_room (HRJ.out.less ?_)
        rw [splitL_length hrok]
        omega
      rw [hT] at hcall hsnoc
      obtain ⟨S1, e1⟩ := T
      simp only at hcall hsnoc hrm
      rw [hld] at hcall r3 hul hrm hsnoc
      rw [hkd] at r0
      rw [hgd] at r1
      rw [hnd] at r2
      obtain ⟨ne, hne⟩ : ∃ ne, needN ld = ne := ⟨_, rfl⟩
      rw [hne] at hcall hul hrm hsnoc
      have HCL := Lib.hid hcall
      have HSN := Lib.hid hsnoc
      have HST := Lib.hid hstop
      have HRM1 := Lib.hid hrm
      clear hcall hsnoc hstop hrm hT hR hkd hgd hnd hld hne hpv hrok
      go_wp2_with (refine wpList_putV rfl rfl 88 (.tmp 17) (.tmp 54) rfl _ #[.int .i64 kd, .int .i64 gd, .int .i64 nd, .slice pa ld pc] rfl rfl 88 _ (heap_alloc_new _ _) (by kernel_rfl) rfl (by kernel_rfl) ?_; refine Stop.on ?_)
      refine Stop.go ?_
      try simp only [Act.put, List.setIfInBounds_toArray, List.set_cons_zero, List.set_cons_succ]
      intro W4 x4 c4 s4
      try simp only [Act.put, List.setIfInBounds_toArray, List.set_cons_zero, List.set_cons_succ]
      have hba : Below W2.heap.size W2 (W2.alloc (.cells #[.int .i64 0, .int .i64 0, .int .i64 0, .slice none 0 0] 88)) := (Below.refl _ _).alloc (Nat.le_refl _) _
      have HB4 := Lib.hid (hba.trans (c4.below (fun k e => by rw [e]; exact Nat.le_refl _) hba.size))
      have HS4 := Lib.hid (show W2.heap.size < W4.heap.size by rw [s4]; simp)
      obtain ⟨q, hq⟩ : ∃ q, W2.heap.size = q := ⟨_, rfl⟩
      rw [hq] at x4 c4 ⊢
      have HQ := Lib.hid hq
      have HXB4 := Lib.hid ((HB4.out.block B (Array.getElem?_eq_some_iff.1 HXB2.out).1).trans HXB2.out)
      have HXJ4 := Lib.hid ((HB4.out.block (B + 2) (Array.getElem?_eq_some_iff.1 HXJ.out).1).trans HXJ.out)
      have HX4 := Lib.hid x4
      have HNC := Lib.hid (show ∀ w', Chg (fun k => ((F k ∧ k < B) ∨ W1.heap.size ≤ k) ∧ k < W2.heap.size) W4 w' → w'.cell? ⟨B, 0, none⟩ = some (.pointer (some ⟨b, 0, none⟩)) ∧ w'.cell? ⟨B, 1, none⟩ = some (.int .i64 (a : Int)) ∧ w'.cell? ⟨B, 2, none⟩ = some (.int .i64 (c : Int)) ∧ w'.cell? ⟨B + 2, 3, none⟩ = some (.int .i64 (uj : Int)) ∧ w'.cell? ⟨q, 0, none⟩ = some (.int .i64 kd) ∧ w'.cell? ⟨q, 1, none⟩ = some (.int .i64 gd) ∧ w'.cell? ⟨q, 2, none⟩ = some (.int .i64 nd) ∧ w'.cell? ⟨q, 3, none⟩ = some (.slice pa ld pc) from fun w' hw' => by
        have h1 := (hw'.block B (Array.getElem?_eq_some_iff.1 HXB4.out).1 (by have := HSW.out; have := HQ.out; omega)).trans HXB4.out
        have h2 := (hw'.block (B + 2) (Array.getElem?_eq_some_iff.1 HXJ4.out).1 (by have := HSW.out; have := HQ.out; omega)).trans HXJ4.out
        have h3 := (hw'.block q (Array.getElem?_eq_some_iff.1 HX4.out).1 (by have := HSW.out; have := HQ.out; omega)).trans HX4.out
        refine ⟨?_, ?_, ?_, ?_, ?_, ?_, ?_, ?_⟩
        · rw [cell_of_row _ _ _ _ _ _ h1]; rfl
        · rw [cell_of_row _ _ _ _ _ _ h1]; rfl
        · rw [cell_of_row _ _ _ _ _ _ h1]; rfl
        · rw [cell_of_row _ _ _ _ _ _ h2]; rfl
        · rw [cell_of_row _ _ _ _ _ _ h3]; rfl
        · rw [cell_of_row _ _ _ _ _ _ h3]; rfl
        · rw [cell_of_row _ _ _ _ _ _ h3]; rfl
        · rw [cell_of_row _ _ _ _ _ _ h3]; rfl)
      clear hba x4 c4 s4 hq r0 r1 r2 r3
      have HSUM := Lib.hid (show (wh : Int) + (uj : Int) = ((wh + uj : Nat) : Int) by omega)
      go_wp2_with fail
      refine wp_region_noPanic ?_
      refine wp_region_H (Chg (fun k => ((F k ∧ k < B) ∨ W1.heap.size ≤ k) ∧ k < W2.heap.size) W4) (by kernel_rfl) ?_
      have hS0 : (Chg (fun k => ((F k ∧ k < B) ∨ W1.heap.size ≤ k) ∧ k < W2.heap.size) W4) W4.drew := Chg.of_below ((Below.refl _ _).drew)
      obtain ⟨wd, hwd⟩ : ∃ wd, W4.drew = wd := ⟨_, rfl⟩
      rw [hwd] at hS0 ⊢
      have hd0 : Below W4.heap.size W4 wd := hwd ▸ (Below.refl _ _).drew
      clear hwd
      refine wpAnyH_takeI (i := 0) (v := ?v1) rfl (by kernel_rfl) (by kernel_rfl) (by kernel_rfl) (fun _ _ _ h => h) (yieldsIf_run rfl (fun w' hw' => ?y1)) hS0 ?_
      case y1 => (obtain ⟨h1, h2, h3, h4, h5, h6, h7, h8⟩ := HNC.out w' hw'; clear hw'; first | (go_simp; rfl) | (go_simp; done))
      simp only [Act.put, List.setIfInBounds_toArray, List.set_cons_zero, List.set_cons_succ]
      refine wpAnyH_takeI (i := 1) (v := ?v2) rfl (by kernel_rfl) (by kernel_rfl) (by kernel_rfl) (fun _ _ _ h => h) (yieldsIf_run rfl (fun w' hw' => ?y2)) hS0 ?_
      case y2 => first | (go_simp; rfl) | (go_simp; done) | rfl
      simp only [Act.put, List.setIfInBounds_toArray, List.set_cons_zero, List.set_cons_succ]
      refine wpAnyH_takeI (i := 2) (v := ?v3) rfl (by kernel_rfl) (by kernel_rfl) (by kernel_rfl) (fun _ _ _ h => h) (yieldsIf_run rfl (fun w' hw' => ?y3)) hS0 ?_
      case y3 => (obtain ⟨h1, h2, h3, h4, h5, h6, h7, h8⟩ := HNC.out w' hw'; clear hw'; first | (go_simp; rfl) | (go_simp; done))
      simp only [Act.put, List.setIfInBounds_toArray, List.set_cons_zero, List.set_cons_succ]
      refine wpAnyH_takeI (i := 5) (v := ?v4) rfl (by kernel_rfl) (by kernel_rfl) (by kernel_rfl) (fun _ _ _ h => h) (yieldsIf_run rfl (fun w' hw' => ?y4)) hS0 ?_
      case y4 => first | (go_simp; rfl) | (go_simp; done) | rfl
      simp only [Act.put, List.setIfInBounds_toArray, List.set_cons_zero, List.set_cons_succ]
      refine wpAnyH_takeI (i := 6) (v := ?v5) rfl (by kernel_rfl) (by kernel_rfl) (by kernel_rfl) (fun _ _ _ h => h) (yieldsIf_run rfl (fun w' hw' => ?y5)) hS0 ?_
      case y5 => (obtain ⟨h1, h2, h3, h4, h5, h6, h7, h8⟩ := HNC.out w' hw'; clear hw'; first | (go_simp; rfl) | (go_simp; done))
      simp only [Act.put, List.setIfInBounds_toArray, List.set_cons_zero, List.set_cons_succ]
      refine wpAnyH_takeI (i := 8) (v := ?v6) rfl (by kernel_rfl) (by kernel_rfl) (by kernel_rfl) (fun _ _ _ h => h) (yieldsIf_run rfl (fun w' hw' => ?y6)) hS0 ?_
      case y6 => (obtain ⟨h1, h2, h3, h4, h5, h6, h7, h8⟩ := HNC.out w' hw'; clear hw'; first | (go_simp; rfl) | (go_simp; done))
      simp only [Act.put, List.setIfInBounds_toArray, List.set_cons_zero, List.set_cons_succ]
      refine wpAnyH_do (i := 3) (by kernel_rfl) rfl rfl (fun K hK => ?_)
      go_simp
      go_at_call 42
      refine (HSZ.out _).mono ?_
      rintro e V3 ⟨rfl, hb9⟩
      have hbV3 := hd0.trans (hb9.mono hd0.size)
      have hsV3 := Chg.of_below (F := fun k => ((F k ∧ k < B) ∨ W1.heap.size ≤ k) ∧ k < W2.heap.size) hbV3
      clear hb9
      refine hK _ _ (hsV3) ?_
      clear hK K
      try simp only [Act.put, List.setIfInBounds_toArray, List.set_cons_zero, List.set_cons_succ]
      refine wpAnyH_takeI (i := 4) (v := .int .i64 (wh : Int)) rfl (by kernel_rfl) (by kernel_rfl) (by kernel_rfl) (fun _ _ _ h => h) (yieldsIf_run rfl (fun w' hw' => ?y7)) hsV3 ?_
      case y7 => first | (go_simp; rfl) | (go_simp; done) | rfl
      simp only [Act.put, List.setIfInBounds_toArray, List.set_cons_zero, List.set_cons_succ]
      refine wpAnyH_takeI (i := 7) (v := .int .i64 ((wh : Int) + (uj : Int))) rfl (by kernel_rfl) (by kernel_rfl) (by kernel_rfl) (fun _ _ _ h => h) (yieldsIf_run rfl (fun w' hw' => ?y8)) hsV3 ?_
      case y8 => (have hwr2 : IntKind.i64.wrap ((wh : Int) + (uj : Int)) = (wh : Int) + (uj : Int) := IntWalk.i64_in _ (by omega); clear hw'; first | (go_simp; rfl) | (go_simp; done))
      simp only [Act.put, List.setIfInBounds_toArray, List.set_cons_zero, List.set_cons_succ]
      refine wpAnyH_do (i := 9) (by kernel_rfl) rfl rfl (fun K hK => ?_)
      go_simp
      go_at_call 44
      rw [HSUM.out]
      refine (HCL.out _ (HB4.out.trans (hbV3.mono (Nat.le_of_lt HS4.out)))).mono ?_
      rintro e W5 ⟨rfl, hd5, hc5⟩
      unfold putV
      obtain ⟨nv, hnv⟩ : ∃ nv : Int, (if e1 = 0 then (ne : Int) else 0) = nv := ⟨_, rfl⟩
      rw [hnv]
      have hsW5 := hsV3.trans hc5 (fun k e => .inl e)
      refine hK _ _ (hsW5) ?_
      clear hK K
      try simp only [Act.put, List.setIfInBounds_toArray, List.set_cons_zero, List.set_cons_succ]
      refine wpAnyH_takeI (i := 10) (v := ?v9) rfl (by kernel_rfl) (by kernel_rfl) (by kernel_rfl) (fun _ _ _ h => h) (yieldsIf_run rfl (fun w' hw' => ?y9)) hsW5 ?_
      case y9 => first | (go_simp; rfl) | (go_simp; done) | rfl
      simp only [Act.put, List.setIfInBounds_toArray, List.set_cons_zero, List.set_cons_succ]
      refine wpAnyH_takeI (i := 11) (v := ?v10) rfl (by kernel_rfl) (by kernel_rfl) (by kernel_rfl) (fun _ _ _ h => h) (yieldsIf_run rfl (fun w' hw' => ?y10)) hsW5 ?_
      case y10 => first | (go_simp; rfl) | (go_simp; done) | rfl
      simp only [Act.put, List.setIfInBounds_toArray, List.set_cons_zero, List.set_cons_succ]
      refine wpAnyH_takeI (i := 12) (v := ?v11) rfl (by kernel_rfl) (by kernel_rfl) (by kernel_rfl) (fun _ _ _ h => h) (yieldsIf_run rfl (fun w' hw' => ?y11)) hsW5 ?_
      case y11 => first | (go_simp; rfl) | (go_simp; done) | rfl
      simp only [Act.put, List.setIfInBounds_toArray, List.set_cons_zero, List.set_cons_succ]
      refine wpAnyH_takeI (i := 13) (v := ?v12) rfl (by kernel_rfl) (by kernel_rfl) (by kernel_rfl) (fun _ _ _ h => h) (yieldsIf_run rfl (fun w' hw' => ?y12)) hsW5 ?_
      case y12 => first | (go_simp; rfl) | (go_simp; done) | rfl
      simp only [Act.put, List.setIfInBounds_toArray, List.set_cons_zero, List.set_cons_succ]
      refine wpAnyH_takeI (i := 14) (v := ?v13) rfl (by kernel_rfl) (by kernel_rfl) (by kernel_rfl) (fun _ _ _ h => h) (yieldsIf_run rfl (fun w' hw' => ?y13)) hsW5 ?_
      case y13 => first | (go_simp; rfl) | (go_simp; done) | rfl
      simp only [Act.put, List.setIfInBounds_toArray, List.set_cons_zero, List.set_cons_succ]
      refine wpAnyH_done (by kernel_rfl) ?_ _
      refine NoPanic.normal ?_
      have hd5' : DiskAt W5 (fun k => (F k ∧ k < B) ∨ W1.heap.size ≤ k) b S1 := hd5.mono (fun k h1 => h1.elim (fun h2 => h2.1) (fun h2 => .inr (by have h3 := hbV3.size; have h4 := HS4.out; have h5 := HCJ.out.size; omega)))
      have HD5 := Lib.hid hd5'
      have HC5 := Lib.hid (HCJ.out.trans ((Chg.of_below (F := fun k => ((F k ∧ k < B) ∨ W1.heap.size ≤ k) ∧ k < W2.heap.size) HB4.out).trans hsW5 (fun k e => .inl e)) (fun k e => .inl (.inl e.1)))
      have hxj5 := (hsW5.block (B + 2) (Array.getElem?_eq_some_iff.1 HXJ4.out).1 (by have := HSW.out; omega)).trans HXJ4.out
      have HXJ5 := Lib.hid hxj5
      have HXR5 := Lib.hid ((hsW5.block (B + 1) (by have h1 := (Array.getElem?_eq_some_iff.1 HXR2.out).1; have h2 := HB4.out.size; omega) (by have := HSW.out; omega)).trans ((HB4.out.block (B + 1) (Array.getElem?_eq_some_iff.1 HXR2.out).1).trans HXR2.out))
      have HFW5 := Lib.hid (show Chg F w W5 from HFW.out.trans ((Chg.of_below (F := fun k => ((F k ∧ k < B) ∨ W1.heap.size ≤ k) ∧ k < W2.heap.size) HB4.out).trans hsW5 (fun k e => .inl e)) (fun k h2 => h2.1.elim (fun h3 => .inl h3.1) (fun h3 => .inr (by have := HBT.out.size; omega))))
      have hy3 : W5.cell? ⟨B + 2, 3, none⟩ = some (.int .i64 (uj : Int)) := by rw [cell_of_row _ _ _ _ _ _ hxj5]; rfl
      have HNV := Lib.hid hnv
      clear hd5 hd5' hc5 hsW5 hS0 hd0 hbV3 hsV3 hxj5 hnv
      by_cases he : e1 = 0
      · subst he
        have hne0 : nv = (ne : Int) := by rw [← HNV.out, if_pos rfl]
        subst hne0
        have HPN := Lib.hid (show putR S A 0 (rs.take (j + 1)) = (S1, uj + ne, 0) by rw [HSN.out]; rfl)
        go_wp2_with (refine wpList_putC rfl rfl 3 (.tmp 76) (.tmp 75) rfl (B + 2) 3 (.int .i64 ((uj : Int) + (ne : Int))) rfl rfl HXJ5.out (by show 3 < 4; decide) rfl (by kernel_rfl) ?_; refine Stop.on ?_)
        refine Stop.go ?_
        try simp only [Act.put, List.setIfInBounds_toArray, List.set_cons_zero, List.set_cons_succ]
        intro W6 x6 c6 s6
        try simp only [Act.put, List.setIfInBounds_toArray, List.set_cons_zero, List.set_cons_succ]
        have HX6 := Lib.hid (show W6.heap[B + 2]? = some (.cells #[.int .i64 (g : Int), .int .i64 (first : Int), .slice va i vc, .int .i64 ((uj + ne : Nat) : Int)] 77 (0, 0)) by rw [show ((uj + ne : Nat) : Int) = (uj : Int) + (ne : Int) by omega]; exact x6)
        have HD6 := Lib.hid (HD5.out.chg c6 (fun k h1 h2 => by have := HSW.out; omega))
        have HC6 := Lib.hid (HC5.out.trans c6 (fun k e => .inl (.inr e)))
        have HR6 : Hid (Roomy S1 (N - (uj + ne) + 1)) := HRM1
        clear x6 c6 s6 hy3 HNV
        go_wp2_with fail
        go_roundw
        case rel => exact ⟨j + 1, uj + ne, S1, by omega, by go_num, hul, HPN, HD6, HR6, HX6, HC6⟩
        case measure => simp [intOf] <;> omega
      · have hdt : (e1 != 0) = true := by simpa using he
        have HZF := Lib.hid (show z = (S1, 0, e1) by
          have h1 := HSN.out
          rw [if_neg he] at h1
          have h2 := HST.out (by rw [h1]; exact he)
          rw [HZ.out, h2, h1]
          exact if_neg he)
        have HDF := Lib.hid (show ∀ W9, Chg (fun k => k = B + 1) W5 W9 → DiskAt W9 (fun k => F k ∨ w.heap.size ≤ k) b S1 ∧ Chg F w W9 from fun W9 h9 => ⟨(HD5.out.chg h9 (fun k h1 h2 => by have := HSW.out; omega)).mono (fun k h1 => h1.elim (fun h2 => .inl h2.1) (fun h2 => .inr (by have := HBT.out.size; omega))), HFW5.out.trans h9 (fun k h1 => .inr (by have := HB.out; omega))⟩)
        have HWS := Lib.hid (show wrSt g first (.slice va i vc) 0 e1 = .agg #[.int .i64 0, .int .i64 0, .slice none 0 0, .int .i64 0] by unfold wrSt; rw [if_neg he]; rfl)
        clear he hy3 HNV
        go_wp2_with (refine wpList_putV rfl rfl 77 (.tmp 10) (.tmp 70) rfl _ #[.int .i64 0, .int .i64 0, .slice none 0 0, .int .i64 0] rfl rfl 77 _ HXR5.out (by kernel_rfl) rfl (by kernel_rfl) ?_; refine Stop.on ?_)
        refine Stop.go ?_
        try simp only [Act.put, List.setIfInBounds_toArray, List.set_cons_zero, List.set_cons_succ]
        intro V8 x8 c8 s8
        try simp only [Act.put, List.setIfInBounds_toArray, List.set_cons_zero, List.set_cons_succ]
        have k0 : V8.cell? ⟨B + 1, 0, none⟩ = some (.int .i64 0) := by rw [cell_of_row _ _ _ _ _ _ x8]; rfl
        have k1 : V8.cell? ⟨B + 1, 1, none⟩ = some (.int .i64 0) := by rw [cell_of_row _ _ _ _ _ _ x8]; rfl
        have k2 : V8.cell? ⟨B + 1, 2, none⟩ = some (.slice none 0 0) := by rw [cell_of_row _ _ _ _ _ _ x8]; rfl
        have k3 : V8.cell? ⟨B + 1, 3, none⟩ = some (.int .i64 0) := by rw [cell_of_row _ _ _ _ _ _ x8]; rfl
        have HFN := Lib.hid (HDF.out V8 c8)
        clear x8 c8 s8
        go_wp2_with fail
        exact bodyPost_ret (v := .tuple #[.agg #[.int .i64 0, .int .i64 0, .slice none 0 0, .int .i64 0], .int .i64 e1]) (by simp [results, Tryd.results37, go_sem, k0, k1, k2, k3]) rfl ⟨by rw [HZF.out]; exact congrArg (fun q => Ending.returned (.tuple #[q, .int .i64 e1])) HWS.out.symm, by rw [HZF.out]; exact HFN.out.1, HFN.out.2⟩
end Go.Proofs.YtplclpileejemaaDoor

namespace Go.Proofs.YtplclpileejemaaDoor
open Go.RowKit
set_option linter.unusedVariables false
set_option linter.unusedSimpArgs false

/-- The sectors of a head and entries. -/
def sizeE (E : List (List UInt8)) : Nat := 1 + (E.map fun b => needN b.length).sum
theorem seq_size : ∀ {rs : List RecD}, (∀ r ∈ rs, splitE r = 0) → (seqL rs).length = (rs.map fun r => needN r.load.length).sum
  | [], _ => rfl
  | r :: rs, h => by
    rw [seqL_cons, List.length_append, splitL_length (h r (List.mem_cons_self ..)), seq_size (fun q hq => h q (List.mem_cons_of_mem _ hq)), List.map_cons, List.sum_cons]
theorem seqJ_size {g f c : Nat} {E : List (List UInt8)} (h : JLim g f c E) : (seqL (recsJ g f c E)).length = sizeE E := by
  rw [seq_size h.recs.mem, recsJ, List.map_cons, List.sum_cons]
  have e1 : needN (headB f c).length = 1 := by rw [headB_length]; rfl
  have e2 : (E.mapIdx fun i b => bodR g (i + 1) b).map (fun r => needN r.load.length) = E.map fun b => needN b.length := by
    apply List.ext_getElem
    · simp
    · intro i h1 h2
      simp [bodR]
  rw [e2]
  show needN (headB f c).length + _ = _
  rw [e1]
  rfl
theorem sizeE_append (E : List (List UInt8)) (b : List UInt8) : sizeE (E ++ [b]) = sizeE E + needN b.length := by simp [sizeE]; omega
theorem sizeE_take (E : List (List UInt8)) (k : Nat) : sizeE (E.take k) ≤ sizeE E := by
  have h : (E.map fun b => needN b.length).sum = ((E.take k).map fun b => needN b.length).sum + ((E.drop k).map fun b => needN b.length).sum := by rw [← List.sum_append, ← List.map_append, List.take_append_drop]
  unfold sizeE
  omega
theorem sizeE_drop (E : List (List UInt8)) (k : Nat) : sizeE (E.drop k) ≤ sizeE E := by
  have h : (E.map fun b => needN b.length).sum = ((E.take k).map fun b => needN b.length).sum + ((E.drop k).map fun b => needN b.length).sum := by rw [← List.sum_append, ← List.map_append, List.take_append_drop]
  unfold sizeE
  omega
theorem sizeE_len (E : List (List UInt8)) : E.length + 1 ≤ sizeE E := by
  unfold sizeE
  induction E with
  | nil => simp
  | cons b E ih =>
    rw [List.map_cons, List.sum_cons, List.length_cons]
    have : 1 ≤ needN b.length := by unfold needN; omega
    omega
/-- Entries are short. -/
def shortE (E : List (List UInt8)) : Prop := ∀ b ∈ E, b.length ≤ 100000
theorem JLim.mk' {g f c : Nat} {E : List (List UInt8)} (hg : g ≤ 2147483647) (hf : f + E.length ≤ 2147483647) (hc : c ≤ E.length) (hl : shortE E) : JLim g f c E :=
  ⟨hg, by unfold mostH; omega, by unfold mostH; omega, by omega, fun b hb => Nat.le_trans (hl b hb) (by omega)⟩
/-- An open journal on its device: c entries were carried along. -/
structure JI (S : DS) (R : JR) (J : JD) (c : Nat) : Prop where
  w : JW S R J.gen J.first c J.ents (J.synced - J.first)
  sy : J.first ≤ J.synced
  used : J.used = sizeE J.ents
  vis : ∀ i, i < J.used → (seqL (recsJ J.gen J.first c J.ents))[i]? = some (S.visible (R.area (J.gen % 2) + i))
  failed : J.failed = 0
  down : S.down = false
  rng : R.at_ + R.cnt ≤ S.dur.length
  short : shortE J.ents
theorem JI.fit {S : DS} {R : JR} {J : JD} {c : Nat} (h : JI S R J c) : sizeE J.ents ≤ R.half := by rw [← seqJ_size h.w.lim]; exact h.w.fit
/-- What is read is what the journal holds. -/
theorem JI.curr {S : DS} {R : JR} {J : JD} {c : Nat} (h : JI S R J c) : currL S R = some ⟨J.gen, J.first, J.ents⟩ := by
  have hw := h.w
  have hfit := hw.fit
  have hus := h.used
  rw [← seqJ_size hw.lim] at hus
  have hdn := hw.dn
  rw [currL_F]
  refine currF_win (h := J.gen % 2) (by omega) ?_ (hw.base.oth _ (choice_visible S R))
  obtain ⟨k, h1, h2, h3⟩ := area_loads (d := J.ents.length) (l := secF S.visible (R.area (J.gen % 2)) R.half) hw.lim (by rw [secF_length]; exact hfit) (Nat.le_refl _) (fun i hi => by
    rw [List.take_length] at hi
    rw [secF_at (by omega), h.vis i (by omega)]) (fun i x hx h4 h5 => by
    obtain ⟨hi, rfl⟩ := secF_get hx
    exact hw.own i hi _ (cand_visible S _) h4 h5)
  rw [h3, if_pos (by have := hw.cd; omega), List.take_of_length_le h1]
/-- Generations in a range. -/
def GensLe (S : DS) (R : JR) (M : Nat) : Prop := ∀ s, inR R s → ∀ x, Cand S s x → decE x = 0 → (decP x).gen ≤ (M : Int)
theorem next_le {S : DS} {R : JR} {M w : Nat} (hw : w ≤ 1) (h : GensLe S R M) : nextG w (secL S R.at_ R.cnt) ≤ M + 2 := by
  obtain ⟨_, _, h3⟩ := nextG_par hw (secL S R.at_ R.cnt)
  by_cases hp : (M + 1) % 2 = w
  · have := h3 (M + 1) hp (fun b hb h0 => by
      obtain ⟨s, hs, rfl⟩ := of_mem_secL hb
      have := h s hs _ (cand_visible S s) h0
      omega)
    omega
  · exact h3 (M + 2) (by omega) (fun b hb h0 => by
      obtain ⟨s, hs, rfl⟩ := of_mem_secL hb
      have := h s hs _ (cand_visible S s) h0
      omega)
theorem next_eq {S : DS} {R : JR} {J : JD} {c : Nat} (h : JI S R J c) : nextG (1 - J.gen % 2) (secL S R.at_ R.cnt) = J.gen + 1 := by
  obtain ⟨h1, h2, h3⟩ := nextG_par (w := 1 - J.gen % 2) (by omega) (secL S R.at_ R.cnt)
  have h4 := h3 (J.gen + 1) (by omega) (fun b hb h0 => by
    obtain ⟨s, hs, rfl⟩ := of_mem_secL hb
    have := h.w.gens s hs _ (cand_visible S s) h0
    omega)
  obtain ⟨b, hb, hb0, hbg⟩ := seqJ_head h.w.lim
  have h5 := h.vis 0 (by rw [h.used]; have := sizeE_len J.ents; omega)
  rw [hb] at h5
  obtain rfl := Option.some.inj h5
  have hfit := h.fit
  have hr := inR_area (R := R) (h := J.gen % 2) (i := 0) (by omega) (by have := sizeE_len J.ents; omega)
  have := h2 _ (mem_secL hr) hb0
  omega
/-- What a move needs. -/
structure Mov (S : DS) (R : JR) (g : Nat) (P : ArD → Prop) (M f : Nat) (E : List (List UInt8)) : Prop where
  base : JBase S R g P
  gens : GensLe S R M
  most : M + 2 ≤ 2147483647
  f : f + E.length ≤ 2147483647
  short : shortE E
  fit : sizeE E ≤ R.half
  rng : R.at_ + R.cnt ≤ S.dur.length
theorem Mov.lim {S : DS} {R : JR} {g M f : Nat} {P : ArD → Prop} {E : List (List UInt8)} (h : Mov S R g P M f E) : JLim (nextG (1 - g % 2) (secL S R.at_ R.cnt)) f E.length E :=
  JLim.mk' (Nat.le_trans (next_le (by omega) h.gens) h.most) h.f (Nat.le_refl _) h.short
theorem area_room {R : JR} {h n : Nat} (hh : h ≤ 1) (hn : n ≤ R.half) : R.area h + n ≤ R.at_ + R.cnt := by
  unfold JR.area JR.half at *
  rcases (show h = 0 ∨ h = 1 by omega) with rfl | rfl <;> omega
/-- A move that is done. -/
theorem moveJ_ok {S : DS} {R : JR} {g M f : Nat} {P : ArD → Prop} {E : List (List UInt8)} (h : Mov S R g P M f E) (h0 : (moveJ S R (1 - g % 2) f E).2.1 = 0) :
    JI (moveJ S R (1 - g % 2) f E).1 R (moveJ S R (1 - g % 2) f E).2.2 E.length ∧ (moveJ S R (1 - g % 2) f E).2.2.gen = nextG (1 - g % 2) (secL S R.at_ R.cnt) ∧ (moveJ S R (1 - g % 2) f E).2.2.first = f ∧ (moveJ S R (1 - g % 2) f E).2.2.ents = E ∧
    (moveJ S R (1 - g % 2) f E).2.2.synced = f + E.length ∧ (moveJ S R (1 - g % 2) f E).1.dur.length = S.dur.length ∧ g < (moveJ S R (1 - g % 2) f E).2.2.gen := by
  have hl := h.lim
  obtain ⟨g', hg'⟩ : ∃ g', nextG (1 - g % 2) (secL S R.at_ R.cnt) = g' := ⟨_, rfl⟩
  unfold moveJ at h0 ⊢
  rw [hg'] at h0 hl ⊢
  have hgm := hl.g
  simp only at h0 ⊢
  rw [if_neg (by omega)] at h0 ⊢
  by_cases h1 : (wrA S (R.area (1 - g % 2)) g' f E).2.2 = 0
  · rw [if_pos h1] at h0 ⊢
    have hsz := seqJ_size hl
    rw [← recsR_recsJ] at hsz
    obtain ⟨m1, m2, m3, m4, m5, m6, m7⟩ := move_done h.base h.rng hg'.symm hl (by rw [hsz]; exact h.fit) h1
    rw [hsz] at m4 m7
    refine ⟨⟨?_, by show f ≤ f + E.length; omega, m4, fun i hi => ?_, rfl, m5, by rw [m6]; exact h.rng, h.short⟩, rfl, rfl, rfl, rfl, m6, m2⟩
    · show JW _ R g' f E.length E (f + E.length - f)
      rw [Nat.add_sub_cancel_left]
      exact m3
    · show (seqL (recsJ g' f E.length E))[i]? = some (DS.visible _ (R.area (g' % 2) + i))
      rw [m1]
      exact m7 i (by have h9 : i < (wrA S (R.area (1 - g % 2)) g' f E).2.1 := hi; omega)
  · rw [if_neg h1] at h0; exact absurd h0 h1
/-- A move that is cut short. -/
theorem moveJ_fail {S : DS} {R : JR} {g M f : Nat} {P : ArD → Prop} {E : List (List UInt8)} (h : Mov S R g P M f E) (h0 : (moveJ S R (1 - g % 2) f E).2.1 ≠ 0) :
    (moveJ S R (1 - g % 2) f E).2.1 = 28 ∧ (moveJ S R (1 - g % 2) f E).1.down = true := by
  have hl := h.lim
  obtain ⟨g', hg'⟩ : ∃ g', nextG (1 - g % 2) (secL S R.at_ R.cnt) = g' := ⟨_, rfl⟩
  unfold moveJ at h0 ⊢
  rw [hg'] at h0 hl ⊢
  have hgm := hl.g
  simp only at h0 ⊢
  rw [if_neg (by omega)] at h0 ⊢
  by_cases h1 : (wrA S (R.area (1 - g % 2)) g' f E).2.2 = 0
  · rw [if_pos h1] at h0; exact absurd rfl h0
  · rw [if_neg h1]
    refine wrA_err hl ?_ h1
    have hsz := seqJ_size hl
    rw [← recsR_recsJ] at hsz
    rw [hsz]
    exact Nat.le_trans (area_room (by omega) h.fit) h.rng
/-- Whatever became of a move: the old area or the new one, behind a failure. -/
theorem moveJ_any {S : DS} {R : JR} {g M f : Nat} {P : ArD → Prop} {E : List (List UInt8)} (h : Mov S R g P M f E) :
    (∀ T, Choice (moveJ S R (1 - g % 2) f E).1 R T → ∃ y, currF T R = some y ∧ ((y.gen = g ∧ P y) ∨ y = ⟨nextG (1 - g % 2) (secL S R.at_ R.cnt), f, E⟩)) ∧ GensLe (moveJ S R (1 - g % 2) f E).1 R (M + 2) ∧ (moveJ S R (1 - g % 2) f E).1.dur.length = S.dur.length := by
  have hl := h.lim
  have hnl := next_le (w := 1 - g % 2) (by omega) h.gens
  obtain ⟨g', hg'⟩ : ∃ g', nextG (1 - g % 2) (secL S R.at_ R.cnt) = g' := ⟨_, rfl⟩
  have e : (moveJ S R (1 - g % 2) f E).1 = (wrA S (R.area (1 - g % 2)) g' f E).1 := by
    unfold moveJ
    rw [hg'] at hl ⊢
    have hgm := hl.g
    simp only
    rw [if_neg (by omega)]
    by_cases h1 : (wrA S (R.area (1 - g % 2)) g' f E).2.2 = 0
    · rw [if_pos h1]
    · rw [if_neg h1]
  rw [e]
  rw [hg'] at hl hnl ⊢
  obtain ⟨S1, k, hw⟩ := wrA_wrote S (R.area (1 - g % 2)) hl
  have hsz := seqJ_size hl
  rw [← recsR_recsJ] at hsz
  have hin : ∀ s, inR R s → s < S.dur.length := fun s hs => by have := hs.2; have := h.rng; omega
  refine ⟨fun T hT => move_choice h.base hg'.symm hl (by rw [hsz]; exact h.fit) (fun s hs => hw.cand (hin s hs) (hT s hs)), fun s hs x hx h0 => ?_, hw.dur⟩
  rcases hw.cand (hin s hs) hx with h1 | ⟨_, h1⟩
  · have := h.gens s hs x h1 h0; omega
  · rw [recsR_recsJ] at h1
    rw [(hl.gen _ _ h1).2]
    omega
theorem recsJ_append (g f c : Nat) (E : List (List UInt8)) (b : List UInt8) : recsJ g f c (E ++ [b]) = recsJ g f c E ++ [bodR g (E.length + 1) b] := by
  unfold recsJ
  rw [List.mapIdx_append]
  simp
/-- An entry more, whole or in part. -/
theorem JW.append {S S' : DS} {R : JR} {g f c d k : Nat} {E : List (List UInt8)} {b : List UInt8} (h : JW S R g f c E d) (hl : JLim g f c (E ++ [b])) (hfit : sizeE (E ++ [b]) ≤ R.half)
    (hw : WroteL S S' (R.area (g % 2) + sizeE E) ((splitL (bodR g (E.length + 1) b)).take k)) : JW S' R g f c (E ++ [b]) d := by
  have hdn := h.dn
  have hs1 := seqJ_size h.lim
  have e : seqL (recsJ g f c (E ++ [b])) = seqL (recsJ g f c E) ++ splitL (bodR g (E.length + 1) b) := by
    rw [recsJ_append, seqL_append]
    simp [seqL]
  have hnew : ∀ i x, (splitL (bodR g (E.length + 1) b))[i]? = some x → (seqL (recsJ g f c (E ++ [b])))[sizeE E + i]? = some x := fun i x hx => by
    rw [e, List.getElem?_append_right (by omega), hs1, Nat.add_sub_cancel_left]; exact hx
  have hc : ∀ s x, Cand S' s x → Cand S s x ∨ (∃ i, s = R.area (g % 2) + (sizeE E + i) ∧ (splitL (bodR g (E.length + 1) b))[i]? = some x) := fun s x hx => by
    rcases hw.cand hx with h1 | ⟨h1, h2⟩
    · exact .inl h1
    · refine .inr ⟨s - (R.area (g % 2) + sizeE E), by omega, ?_⟩
      rw [List.getElem?_take] at h2
      split at h2
      · exact h2
      · cases h2
  refine ⟨hl, by rw [seqJ_size hl]; exact hfit, h.cd, by rw [List.length_append]; omega, fun s hs x hx h0 => ?_, fun i hi x hx => ?_, fun i hi x hx h0 hg => ?_⟩
  · rcases hc s x hx with h1 | ⟨i, _, h1⟩
    · exact h.gens s hs x h1 h0
    · rw [(hl.gen _ _ (hnew i x h1)).2]; exact Int.le_refl _
  · rw [List.take_append_of_le_length hdn] at hi
    have hle := (seqJ_prefix g f c E d).length_le
    rcases hc _ x hx with h1 | ⟨j, h1, _⟩
    · rw [e, List.getElem?_append_left (by omega)]
      exact h.dur i hi x h1
    · omega
  · rcases hc _ x hx with h1 | ⟨j, h1, h2⟩
    · have h3 := h.own i hi x h1 h0 hg
      rw [e, List.getElem?_append_left (List.getElem?_eq_some_iff.1 h3).1]
      exact h3
    · obtain rfl : i = sizeE E + j := by omega
      exact hnew j x h2
/-- Nothing but counters. -/
theorem JW.same {S S' : DS} {R : JR} {g f c d : Nat} {E : List (List UInt8)} (h : JW S R g f c E d) (hs : Same S S') : JW S' R g f c E d :=
  ⟨h.lim, h.fit, h.cd, h.dn, fun s hr x hx => h.gens s hr x (hs.cand hx), fun i hi x hx => h.dur i hi x (hs.cand hx), fun i hi x hx => h.own i hi x (hs.cand hx)⟩
theorem bodR_ok {g i : Nat} {b : List UInt8} (hg : g ≤ 2147483647) (hi : i ≤ 2147483647) (hb : b.length ≤ 131072) : splitE (bodR g i b) = 0 := by
  show splitE ⟨2, g, (i : Int), b⟩ = 0
  unfold splitE
  simp only
  have : fineB 2 (g : Int) (i : Int) = true := by simp [fineB]; omega
  rw [if_neg (by rw [this]; simp), if_neg (by omega)]
/-- An append is done, or there is no room, or the power fails. -/
theorem appJ_any {S : DS} {R : JR} {J : JD} {c : Nat} {b : List UInt8} (h : JI S R J c) (hb : b.length ≤ 100000) (hn : J.next + 1 ≤ 2147483647) :
    (appJ S R J b = (S, J, 9, 0) ∧ R.half - sizeE J.ents < needN b.length) ∨
    ((∃ S', appJ S R J b = (S', { J with ents := J.ents ++ [b], used := J.used + needN b.length }, 0, J.next) ∧ JI S' R { J with ents := J.ents ++ [b], used := J.used + needN b.length } c ∧ S'.dur.length = S.dur.length) ∧ needN b.length ≤ R.half - sizeE J.ents) ∨
    (∃ S', appJ S R J b = (S', { J with failed := 28 }, 28, 0) ∧ JW S' R J.gen J.first c (J.ents ++ [b]) (J.synced - J.first) ∧ S'.down = true ∧ S'.dur.length = S.dur.length) := by
  have hfit := h.fit
  have hlen := sizeE_len J.ents
  have hw := h.w
  unfold appJ
  rw [if_neg (by rw [h.failed]; simp), if_neg (by omega), h.used]
  by_cases h1 : R.half - sizeE J.ents < needN b.length
  · rw [if_pos h1]; exact .inl ⟨rfl, h1⟩
  · rw [if_neg h1]
    refine .inr ?_
    have hg := hw.lim.g
    have hc : c ≤ (J.ents ++ [b]).length := by rw [List.length_append]; have := hw.cd; have := hw.dn; omega
    unfold JD.next at hn
    have hshort : shortE (J.ents ++ [b]) := fun x hx => by
      rcases List.mem_append.1 hx with hx | hx
      · exact h.short x hx
      · rw [List.mem_singleton.1 hx]; exact hb
    have hl : JLim J.gen J.first c (J.ents ++ [b]) := JLim.mk' hg (by rw [List.length_append, List.length_singleton]; omega) hc hshort
    have hfit' : sizeE (J.ents ++ [b]) ≤ R.half := by rw [sizeE_append]; omega
    obtain ⟨k, hk, hwr, h0⟩ := wrL_wrote (splitL (bodR J.gen (J.ents.length + 1) b)) S (R.area (J.gen % 2) + sizeE J.ents)
    have hrok : splitE (bodR J.gen (J.ents.length + 1) b) = 0 := bodR_ok hg (by omega) (by omega)
    have hW := hw.append hl hfit' hwr
    obtain ⟨z, hz⟩ : ∃ z, wrL S (R.area (J.gen % 2) + sizeE J.ents) (splitL (bodR J.gen (J.ents.length + 1) b)) = z := ⟨_, rfl⟩
    rw [hz] at hwr h0 hW ⊢
    by_cases h2 : z.2 = 0
    · rw [if_pos h2]
      refine .inl ⟨⟨z.1, rfl, ?_, by rw [hwr.dur]⟩, by omega⟩
      obtain ⟨rfl, hdn, _⟩ := h0 h2
      rw [List.take_length] at hwr
      have hsl := splitL_length hrok
      have hs1 := seqJ_size hw.lim
      refine ⟨hW, h.sy, ?_, fun i hi => ?_, h.failed, hdn (splitL_pos hrok), by rw [hwr.dur]; exact h.rng, hshort⟩
      · show sizeE J.ents + _ = _
        rw [sizeE_append]
      · have hi' : i < sizeE J.ents + needN b.length := hi
        show (seqL (recsJ J.gen J.first c (J.ents ++ [b])))[i]? = some (z.1.visible (R.area (J.gen % 2) + i))
        have e : seqL (recsJ J.gen J.first c (J.ents ++ [b])) = seqL (recsJ J.gen J.first c J.ents) ++ splitL (bodR J.gen (J.ents.length + 1) b) := by
          rw [recsJ_append, seqL_append]
          simp [seqL]
        rw [e, hwr.visible]
        have hsl' : (splitL (bodR J.gen (J.ents.length + 1) b)).length = needN b.length := hsl
        by_cases h3 : i < sizeE J.ents
        · rw [List.getElem?_append_left (by omega), dif_neg (by omega)]
          exact h.vis i (by rw [h.used]; exact h3)
        · rw [List.getElem?_append_right (by omega), hs1, dif_pos ⟨by omega, by omega⟩]
          rw [List.getElem?_eq_getElem (by omega)]
          congr 2
          omega
    · rw [if_neg h2]
      have hsl := splitL_length hrok
      have he : z.2 = 28 ∧ z.1.down = true := by
        rw [← hz] at h2 ⊢
        refine wrL_err (splitL_256 _) ?_ h2
        have hr := h.rng
        have ha := area_room (R := R) (h := J.gen % 2) (by omega) hfit'
        rw [sizeE_append] at ha
        rw [hsl]
        show R.area (J.gen % 2) + sizeE J.ents + needN b.length ≤ _
        omega
      refine .inr ⟨z.1, by rw [he.1], hW, he.2, by rw [hwr.dur]⟩
/-- A sync is done, or the power fails. -/
theorem synJ_any {S : DS} {R : JR} {J : JD} {c : Nat} (h : JI S R J c) :
    (∃ S', synJ S J = (S', { J with synced := J.next }, 0) ∧ JI S' R { J with synced := J.next } c ∧ S'.dur.length = S.dur.length) ∨
    (∃ S', synJ S J = (S', { J with failed := 28 }, 28) ∧ JW S' R J.gen J.first c J.ents (J.synced - J.first) ∧ S'.down = true ∧ S'.dur.length = S.dur.length) := by
  have hw := h.w
  unfold synJ
  rw [if_neg (by rw [h.failed]; simp)]
  rcases flush_cases h.down with ⟨f1, f2, f3, f4, f5⟩ | ⟨f1, f2, f3⟩
  · rw [if_pos f1]
    refine .inl ⟨S.flush.1, rfl, ?_, f4⟩
    have hs1 := seqJ_size hw.lim
    have hfit := h.fit
    have hin : ∀ s, inR R s → s < S.dur.length := fun s hs => by have := hs.2; have := h.rng; omega
    have hc : ∀ s, inR R s → ∀ x, Cand S.flush.1 s x → x = S.visible s := fun s hs x hx => by rw [cand_none f2 hx, f5 s (hin s hs)]
    have hvis := h.vis
    rw [h.used] at hvis
    have hcd := hw.cd
    have hdn := hw.dn
    have hsy := h.sy
    refine ⟨?_, ?_, h.used, fun i hi => ?_, h.failed, f3, by rw [f4]; exact h.rng, h.short⟩
    · show JW S.flush.1 R J.gen J.first c J.ents (J.first + J.ents.length - J.first)
      rw [Nat.add_sub_cancel_left]
      refine ⟨hw.lim, hw.fit, by omega, Nat.le_refl _, fun s hs x hx h0 => ?_, fun i hi x hx => ?_, fun i hi x hx h0 hg => ?_⟩
      · rw [hc s hs x hx] at h0 ⊢
        exact hw.gens s hs _ (cand_visible S s) h0
      · rw [List.take_length, hs1] at hi
        rw [hc _ (inR_area (by omega) (by omega)) x hx]
        exact hvis i hi
      · have e := hc _ (inR_area (by omega) hi) x hx
        rw [e] at h0 hg ⊢
        exact hw.own i hi _ (cand_visible S _) h0 hg
    · show J.first ≤ J.first + J.ents.length
      omega
    · have hi' : i < sizeE J.ents := by rw [← h.used]; exact hi
      show (seqL (recsJ J.gen J.first c J.ents))[i]? = some (S.flush.1.visible (R.area (J.gen % 2) + i))
      rw [f5 _ (hin _ (inR_area (by omega) (by omega)))]
      exact hvis i hi'
  · rw [if_neg (by rw [f1]; decide), f1]
    exact .inr ⟨S.flush.1, rfl, hw.same f2, f3, by rw [f2.dur]⟩
theorem JI.mov {S : DS} {R : JR} {J : JD} {c k : Nat} (h : JI S R J c) (hk : k ≤ J.ents.length) (hn : J.next ≤ 2147483647) (hg : J.gen + 2 ≤ 2147483647) :
    Mov S R J.gen (fun y => ∃ j, J.synced - J.first ≤ j ∧ j ≤ J.ents.length ∧ y = ⟨J.gen, J.first, J.ents.take j⟩) J.gen (J.first + k) (J.ents.drop k) := by
  refine ⟨h.w.base, h.w.gens, hg, ?_, fun b hb => h.short b (List.mem_of_mem_drop hb), Nat.le_trans (sizeE_drop _ _) h.fit, h.rng⟩
  unfold JD.next at hn
  rw [List.length_drop]
  omega
end Go.Proofs.YtplclpileejemaaDoor

namespace Go.Proofs.YtplclpileejemaaDoor
open Go.RowKit
set_option linter.unusedVariables false
set_option linter.unusedSimpArgs false

/-- The cells of an open journal. -/
def jcells (b : Nat) (R : JR) (J : JD) (ev : Value) : Array Value :=
  #[.pointer (some ⟨b, 0, none⟩), .int .i64 (R.at_ : Int), .int .i64 (R.cnt : Int), .int .i64 ((J.gen % 2 : Nat) : Int), .int .i64 (J.gen : Int), .int .i64 (J.first : Int), ev, .int .i64 (J.used : Int), .int .i64 (J.synced : Int), .int .i64 J.failed]
def JBlk (w : World) (g b : Nat) (R : JR) (J : JD) (ev : Value) : Prop := w.heap[g]? = some (.cells (jcells b R J ev) 83 (0, 0))
theorem JBlk.lt {w : World} {g b : Nat} {R : JR} {J : JD} {ev : Value} (h : JBlk w g b R J ev) : g < w.heap.size := (Array.getElem?_eq_some_iff.1 h).1
theorem JBlk.chg {w w' : World} {g b : Nat} {R : JR} {J : JD} {ev : Value} {F : Nat → Prop} (h : JBlk w g b R J ev) (hc : Chg F w w') (hF : ¬ F g) : JBlk w' g b R J ev := (hc.block g h.lt hF).trans h
theorem JBlk.below {w w' : World} {g b : Nat} {R : JR} {J : JD} {ev : Value} (h : JBlk w g b R J ev) (hb : Below w.heap.size w w') : JBlk w' g b R J ev := (hb.block g h.lt).trans h
theorem JBlk.cell {w : World} {g b : Nat} {R : JR} {J : JD} {ev : Value} (h : JBlk w g b R J ev) {i : Nat} {v : Value} (hv : (jcells b R J ev)[i]? = some v) : w.cell? ⟨g, i, none⟩ = some v := by rw [cell_of_row _ _ _ _ _ _ h]; exact hv
theorem JFirst_any {w : World} {g b : Nat} {R : JR} {J : JD} {ev : Value} (h : JBlk w g b R J ev) : Calls Tryd.prog 21 #[.pointer (some ⟨g, 0, none⟩)] w fun e w' => e = .returned (.int .i64 (J.first : Int)) ∧ Below w.heap.size w w' := by
  have k0 : w.cell? ⟨g, 5, none⟩ = some (.int .i64 (J.first : Int)) := h.cell rfl
  clear h
  go_enter Tryd.func21, Tryd.ntmps21
  go_wp2_with fail
  exact bodyPost_ret (v := .int .i64 (J.first : Int)) (by simp [results, Tryd.results21, go_sem]) rfl ⟨rfl, Below.refl _ _⟩
theorem JFirst_nil {w : World} : Calls Tryd.prog 21 #[.pointer none] w fun e w' => e = .returned (.int .i64 0) ∧ Below w.heap.size w w' := by
  go_enter Tryd.func21, Tryd.ntmps21
  go_wp2_with fail
  exact bodyPost_ret (v := .int .i64 0) (by simp [results, Tryd.results21, go_sem]) rfl ⟨rfl, Below.refl _ _⟩
theorem JGeneration_any {w : World} {g b : Nat} {R : JR} {J : JD} {ev : Value} (h : JBlk w g b R J ev) : Calls Tryd.prog 31 #[.pointer (some ⟨g, 0, none⟩)] w fun e w' => e = .returned (.int .i64 (J.gen : Int)) ∧ Below w.heap.size w w' := by
  have k0 : w.cell? ⟨g, 4, none⟩ = some (.int .i64 (J.gen : Int)) := h.cell rfl
  clear h
  go_enter Tryd.func31, Tryd.ntmps31
  go_wp2_with fail
  exact bodyPost_ret (v := .int .i64 (J.gen : Int)) (by simp [results, Tryd.results31, go_sem]) rfl ⟨rfl, Below.refl _ _⟩
theorem JGeneration_nil {w : World} : Calls Tryd.prog 31 #[.pointer none] w fun e w' => e = .returned (.int .i64 0) ∧ Below w.heap.size w w' := by
  go_enter Tryd.func31, Tryd.ntmps31
  go_wp2_with fail
  exact bodyPost_ret (v := .int .i64 0) (by simp [results, Tryd.results31, go_sem]) rfl ⟨rfl, Below.refl _ _⟩
theorem JSynced_any {w : World} {g b : Nat} {R : JR} {J : JD} {ev : Value} (h : JBlk w g b R J ev) : Calls Tryd.prog 30 #[.pointer (some ⟨g, 0, none⟩)] w fun e w' => e = .returned (.int .i64 (J.synced : Int)) ∧ Below w.heap.size w w' := by
  have k0 : w.cell? ⟨g, 8, none⟩ = some (.int .i64 (J.synced : Int)) := h.cell rfl
  clear h
  go_enter Tryd.func30, Tryd.ntmps30
  go_wp2_with fail
  exact bodyPost_ret (v := .int .i64 (J.synced : Int)) (by simp [results, Tryd.results30, go_sem]) rfl ⟨rfl, Below.refl _ _⟩
theorem JSynced_nil {w : World} : Calls Tryd.prog 30 #[.pointer none] w fun e w' => e = .returned (.int .i64 0) ∧ Below w.heap.size w w' := by
  go_enter Tryd.func30, Tryd.ntmps30
  go_wp2_with fail
  exact bodyPost_ret (v := .int .i64 0) (by simp [results, Tryd.results30, go_sem]) rfl ⟨rfl, Below.refl _ _⟩
theorem JFailed_any {w : World} {g b : Nat} {R : JR} {J : JD} {ev : Value} (h : JBlk w g b R J ev) : Calls Tryd.prog 29 #[.pointer (some ⟨g, 0, none⟩)] w fun e w' => e = .returned (.int .i64 J.failed) ∧ Below w.heap.size w w' := by
  have k0 : w.cell? ⟨g, 9, none⟩ = some (.int .i64 J.failed) := h.cell rfl
  clear h
  go_enter Tryd.func29, Tryd.ntmps29
  go_wp2_with fail
  exact bodyPost_ret (v := .int .i64 J.failed) (by simp [results, Tryd.results29, go_sem]) rfl ⟨rfl, Below.refl _ _⟩
theorem JFailed_nil {w : World} : Calls Tryd.prog 29 #[.pointer none] w fun e w' => e = .returned (.int .i64 1) ∧ Below w.heap.size w w' := by
  go_enter Tryd.func29, Tryd.ntmps29
  go_wp2_with fail
  exact bodyPost_ret (v := .int .i64 1) (by simp [results, Tryd.results29, go_sem]) rfl ⟨rfl, Below.refl _ _⟩
set_option maxRecDepth 100000 in
set_option maxHeartbeats 2000000 in
theorem JNext_any {w : World} {g b : Nat} {R : JR} {J : JD} {va : Option Addr} {n vc : Nat} (h : JBlk w g b R J (.slice va n vc)) (hb : J.first + n < 4611686018427387904) : Calls Tryd.prog 19 #[.pointer (some ⟨g, 0, none⟩)] w fun e w' => e = .returned (.int .i64 ((J.first + n : Nat) : Int)) ∧ Below w.heap.size w w' := by
  have HNC := Lib.hid (show ∀ w', Below w.heap.size w w' → w'.cell? ⟨g, 0, none⟩ = some (.pointer (some ⟨b, 0, none⟩)) ∧ w'.cell? ⟨g, 1, none⟩ = some (.int .i64 (R.at_ : Int)) ∧ w'.cell? ⟨g, 2, none⟩ = some (.int .i64 (R.cnt : Int)) ∧ w'.cell? ⟨g, 5, none⟩ = some (.int .i64 (J.first : Int)) ∧ w'.cell? ⟨g, 6, none⟩ = some (.slice va n vc) ∧ w'.cell? ⟨g, 7, none⟩ = some (.int .i64 (J.used : Int)) from fun w' hw' => ⟨(h.below hw').cell rfl, (h.below hw').cell rfl, (h.below hw').cell rfl, (h.below hw').cell rfl, (h.below hw').cell rfl, (h.below hw').cell rfl⟩)
  obtain ⟨fi, hfi⟩ : ∃ fi, J.first = fi := ⟨_, rfl⟩
  obtain ⟨us, hus⟩ : ∃ us, J.used = us := ⟨_, rfl⟩
  obtain ⟨ca, hca⟩ : ∃ ca, R.at_ = ca := ⟨_, rfl⟩
  obtain ⟨cc, hcc⟩ : ∃ cc, R.cnt = cc := ⟨_, rfl⟩
  rw [hfi, hus, hca, hcc] at HNC
  clear h
  go_enter Tryd.func19, Tryd.ntmps19
  go_wp2_with fail
  refine wp_region_noPanic ?_
  refine wp_region_H (Below w.heap.size w) (by kernel_rfl) ?_
  have hS0 : (Below w.heap.size w) w.drew := (Below.refl _ _).drew
  obtain ⟨wd, hwd⟩ : ∃ wd, w.drew = wd := ⟨_, rfl⟩
  rw [hwd] at hS0 ⊢
  clear hwd
  refine wpAnyH_takeI (i := 0) (v := ?v1) rfl (by kernel_rfl) (by kernel_rfl) (by kernel_rfl) (fun _ _ _ h => h) (yieldsIf_run rfl (fun w' hw' => ?y1)) hS0 ?_
  case y1 => first | (go_simp; rfl) | (go_simp; done) | rfl
  simp only [Act.put, List.setIfInBounds_toArray, List.set_cons_zero, List.set_cons_succ]
  refine wpAnyH_takeI (i := 1) (v := ?v2) rfl (by kernel_rfl) (by kernel_rfl) (by kernel_rfl) (fun _ _ _ h => h) (yieldsIf_run rfl (fun w' hw' => ?y2)) hS0 ?_
  case y2 => first | (go_simp; rfl) | (go_simp; done) | rfl
  simp only [Act.put, List.setIfInBounds_toArray, List.set_cons_zero, List.set_cons_succ]
  refine wpAnyH_takeI (i := 2) (v := ?v3) rfl (by kernel_rfl) (by kernel_rfl) (by kernel_rfl) (fun _ _ _ h => h) (yieldsIf_run rfl (fun w' hw' => ?y3)) hS0 ?_
  case y3 => first | (go_simp; rfl) | (go_simp; done) | rfl
  simp only [Act.put, List.setIfInBounds_toArray, List.set_cons_zero, List.set_cons_succ]
  refine wpAnyH_takeI (i := 3) (v := ?v4) rfl (by kernel_rfl) (by kernel_rfl) (by kernel_rfl) (fun _ _ _ h => h) (yieldsIf_run rfl (fun w' hw' => ?y4)) hS0 ?_
  case y4 => first | (go_simp; rfl) | (go_simp; done) | rfl
  simp only [Act.put, List.setIfInBounds_toArray, List.set_cons_zero, List.set_cons_succ]
  refine wpAnyH_takeI (i := 4) (v := ?v5) rfl (by kernel_rfl) (by kernel_rfl) (by kernel_rfl) (fun _ _ _ h => h) (yieldsIf_run rfl (fun w' hw' => ?y5)) hS0 ?_
  case y5 => (obtain ⟨h0, h1, h2, h5, h6, h7⟩ := HNC.out w' hw'; clear hw'; first | (go_simp; rfl) | (go_simp; done))
  simp only [Act.put, List.setIfInBounds_toArray, List.set_cons_zero, List.set_cons_succ]
  refine wpAnyH_takeI (i := 5) (v := ?v6) rfl (by kernel_rfl) (by kernel_rfl) (by kernel_rfl) (fun _ _ _ h => h) (yieldsIf_run rfl (fun w' hw' => ?y6)) hS0 ?_
  case y6 => first | (go_simp; rfl) | (go_simp; done) | rfl
  simp only [Act.put, List.setIfInBounds_toArray, List.set_cons_zero, List.set_cons_succ]
  refine wpAnyH_takeI (i := 6) (v := ?v7) rfl (by kernel_rfl) (by kernel_rfl) (by kernel_rfl) (fun _ _ _ h => h) (yieldsIf_run rfl (fun w' hw' => ?y7)) hS0 ?_
  case y7 => first | (go_simp; rfl) | (go_simp; done) | rfl
  simp only [Act.put, List.setIfInBounds_toArray, List.set_cons_zero, List.set_cons_succ]
  refine wpAnyH_takeI (i := 7) (v := ?v8) rfl (by kernel_rfl) (by kernel_rfl) (by kernel_rfl) (fun _ _ _ h => h) (yieldsIf_run rfl (fun w' hw' => ?y8)) hS0 ?_
  case y8 => first | (go_simp; rfl) | (go_simp; done) | rfl
  simp only [Act.put, List.setIfInBounds_toArray, List.set_cons_zero, List.set_cons_succ]
  refine wpAnyH_takeI (i := 8) (v := ?v9) rfl (by kernel_rfl) (by kernel_rfl) (by kernel_rfl) (fun _ _ _ h => h) (yieldsIf_run rfl (fun w' hw' => ?y9)) hS0 ?_
  case y9 => first | (go_simp; rfl) | (go_simp; done) | rfl
  simp only [Act.put, List.setIfInBounds_toArray, List.set_cons_zero, List.set_cons_succ]
  refine wpAnyH_takeI (i := 9) (v := ?v10) rfl (by kernel_rfl) (by kernel_rfl) (by kernel_rfl) (fun _ _ _ h => h) (yieldsIf_run rfl (fun w' hw' => ?y10)) hS0 ?_
  case y10 => (obtain ⟨h0, h1, h2, h5, h6, h7⟩ := HNC.out w' hw'; clear hw'; first | (go_simp; rfl) | (go_simp; done))
  simp only [Act.put, List.setIfInBounds_toArray, List.set_cons_zero, List.set_cons_succ]
  refine wpAnyH_takeI (i := 10) (v := ?v11) rfl (by kernel_rfl) (by kernel_rfl) (by kernel_rfl) (fun _ _ _ h => h) (yieldsIf_run rfl (fun w' hw' => ?y11)) hS0 ?_
  case y11 => first | (go_simp; rfl) | (go_simp; done) | rfl
  simp only [Act.put, List.setIfInBounds_toArray, List.set_cons_zero, List.set_cons_succ]
  refine wpAnyH_takeI (i := 11) (v := .int .i64 ((fi : Int) + (n : Int))) rfl (by kernel_rfl) (by kernel_rfl) (by kernel_rfl) (fun _ _ _ h => h) (yieldsIf_run rfl (fun w' hw' => ?y12)) hS0 ?_
  case y12 => (have hwr : IntKind.i64.wrap ((fi : Int) + (n : Int)) = (fi : Int) + (n : Int) := IntWalk.i64_in _ (by omega); clear hw'; first | (go_simp; rfl) | (go_simp; done))
  simp only [Act.put, List.setIfInBounds_toArray, List.set_cons_zero, List.set_cons_succ]
  refine wpAnyH_takeI (i := 12) (v := ?v13) rfl (by kernel_rfl) (by kernel_rfl) (by kernel_rfl) (fun _ _ _ h => h) (yieldsIf_run rfl (fun w' hw' => ?y13)) hS0 ?_
  case y13 => first | (go_simp; rfl) | (go_simp; done) | rfl
  simp only [Act.put, List.setIfInBounds_toArray, List.set_cons_zero, List.set_cons_succ]
  refine wpAnyH_done (by kernel_rfl) ?_ _
  refine NoPanic.normal ?_
  go_wp2_with fail
  exact bodyPost_ret (v := .int .i64 ((fi : Int) + (n : Int))) (by simp [results, Tryd.results19, go_sem]) rfl ⟨by rw [hfi]; rfl, hS0⟩
theorem JNext_nil {w : World} : Calls Tryd.prog 19 #[.pointer none] w fun e w' => e = .returned (.int .i64 0) ∧ Below w.heap.size w w' := by
  go_enter Tryd.func19, Tryd.ntmps19
  go_wp2_with fail
  exact bodyPost_ret (v := .int .i64 0) (by simp [results, Tryd.results19, go_sem]) rfl ⟨rfl, Below.refl _ _⟩
set_option maxRecDepth 100000 in
set_option maxHeartbeats 2000000 in
theorem JFree_any {w : World} {g b : Nat} {R : JR} {J : JD} {va : Option Addr} {n vc : Nat} (h : JBlk w g b R J (.slice va n vc)) (hb : R.cnt < 1000000) (hu : J.used < 1000000) : Calls Tryd.prog 17 #[.pointer (some ⟨g, 0, none⟩)] w fun e w' => e = .returned (.int .i64 ((R.half : Int) - (J.used : Int))) ∧ Below w.heap.size w w' := by
  have HSZ := Lib.hid (fun (w1 : World) => Jsize_any (w := w1) b (R.at_ : Int) R.cnt (by omega))
  have HNC := Lib.hid (show ∀ w', Below w.heap.size w w' → w'.cell? ⟨g, 0, none⟩ = some (.pointer (some ⟨b, 0, none⟩)) ∧ w'.cell? ⟨g, 1, none⟩ = some (.int .i64 (R.at_ : Int)) ∧ w'.cell? ⟨g, 2, none⟩ = some (.int .i64 (R.cnt : Int)) ∧ w'.cell? ⟨g, 5, none⟩ = some (.int .i64 (J.first : Int)) ∧ w'.cell? ⟨g, 6, none⟩ = some (.slice va n vc) ∧ w'.cell? ⟨g, 7, none⟩ = some (.int .i64 (J.used : Int)) from fun w' hw' => ⟨(h.below hw').cell rfl, (h.below hw').cell rfl, (h.below hw').cell rfl, (h.below hw').cell rfl, (h.below hw').cell rfl, (h.below hw').cell rfl⟩)
  obtain ⟨fi, hfi⟩ : ∃ fi, J.first = fi := ⟨_, rfl⟩
  obtain ⟨us, hus⟩ : ∃ us, J.used = us := ⟨_, rfl⟩
  obtain ⟨ca, hca⟩ : ∃ ca, R.at_ = ca := ⟨_, rfl⟩
  obtain ⟨cc, hcc⟩ : ∃ cc, R.cnt = cc := ⟨_, rfl⟩
  rw [hfi, hus, hca, hcc] at HNC
  rw [hca, hcc] at HSZ
  obtain ⟨hh, hhE⟩ : ∃ hh, cc / 2 = hh := ⟨_, rfl⟩
  rw [hhE] at HSZ
  have HHH := Lib.hid (show R.half = hh by unfold JR.half; rw [hcc, hhE])
  have hhb : hh < 1000000 := by omega
  clear hhE
  unfold stV at HSZ
  clear h
  go_enter Tryd.func17, Tryd.ntmps17
  go_wp2_with fail
  refine wp_region_noPanic ?_
  refine wp_region_H (Below w.heap.size w) (by kernel_rfl) ?_
  have hS0 : (Below w.heap.size w) w.drew := (Below.refl _ _).drew
  obtain ⟨wd, hwd⟩ : ∃ wd, w.drew = wd := ⟨_, rfl⟩
  rw [hwd] at hS0 ⊢
  clear hwd
  refine wpAnyH_takeI (i := 0) (v := ?v14) rfl (by kernel_rfl) (by kernel_rfl) (by kernel_rfl) (fun _ _ _ h => h) (yieldsIf_run rfl (fun w' hw' => ?y14)) hS0 ?_
  case y14 => first | (go_simp; rfl) | (go_simp; done) | rfl
  simp only [Act.put, List.setIfInBounds_toArray, List.set_cons_zero, List.set_cons_succ]
  refine wpAnyH_takeI (i := 1) (v := ?v15) rfl (by kernel_rfl) (by kernel_rfl) (by kernel_rfl) (fun _ _ _ h => h) (yieldsIf_run rfl (fun w' hw' => ?y15)) hS0 ?_
  case y15 => first | (go_simp; rfl) | (go_simp; done) | rfl
  simp only [Act.put, List.setIfInBounds_toArray, List.set_cons_zero, List.set_cons_succ]
  refine wpAnyH_takeI (i := 2) (v := ?v16) rfl (by kernel_rfl) (by kernel_rfl) (by kernel_rfl) (fun _ _ _ h => h) (yieldsIf_run rfl (fun w' hw' => ?y16)) hS0 ?_
  case y16 => first | (go_simp; rfl) | (go_simp; done) | rfl
  simp only [Act.put, List.setIfInBounds_toArray, List.set_cons_zero, List.set_cons_succ]
  refine wpAnyH_takeI (i := 3) (v := ?v17) rfl (by kernel_rfl) (by kernel_rfl) (by kernel_rfl) (fun _ _ _ h => h) (yieldsIf_run rfl (fun w' hw' => ?y17)) hS0 ?_
  case y17 => (obtain ⟨h0, h1, h2, h5, h6, h7⟩ := HNC.out w' hw'; clear hw'; first | (go_simp; rfl) | (go_simp; done))
  simp only [Act.put, List.setIfInBounds_toArray, List.set_cons_zero, List.set_cons_succ]
  refine wpAnyH_takeI (i := 5) (v := ?v18) rfl (by kernel_rfl) (by kernel_rfl) (by kernel_rfl) (fun _ _ _ h => h) (yieldsIf_run rfl (fun w' hw' => ?y18)) hS0 ?_
  case y18 => first | (go_simp; rfl) | (go_simp; done) | rfl
  simp only [Act.put, List.setIfInBounds_toArray, List.set_cons_zero, List.set_cons_succ]
  refine wpAnyH_takeI (i := 6) (v := ?v19) rfl (by kernel_rfl) (by kernel_rfl) (by kernel_rfl) (fun _ _ _ h => h) (yieldsIf_run rfl (fun w' hw' => ?y19)) hS0 ?_
  case y19 => first | (go_simp; rfl) | (go_simp; done) | rfl
  simp only [Act.put, List.setIfInBounds_toArray, List.set_cons_zero, List.set_cons_succ]
  refine wpAnyH_takeI (i := 7) (v := ?v20) rfl (by kernel_rfl) (by kernel_rfl) (by kernel_rfl) (fun _ _ _ h => h) (yieldsIf_run rfl (fun w' hw' => ?y20)) hS0 ?_
  case y20 => first | (go_simp; rfl) | (go_simp; done) | rfl
  simp only [Act.put, List.setIfInBounds_toArray, List.set_cons_zero, List.set_cons_succ]
  refine wpAnyH_takeI (i := 8) (v := ?v21) rfl (by kernel_rfl) (by kernel_rfl) (by kernel_rfl) (fun _ _ _ h => h) (yieldsIf_run rfl (fun w' hw' => ?y21)) hS0 ?_
  case y21 => first | (go_simp; rfl) | (go_simp; done) | rfl
  simp only [Act.put, List.setIfInBounds_toArray, List.set_cons_zero, List.set_cons_succ]
  refine wpAnyH_takeI (i := 9) (v := ?v22) rfl (by kernel_rfl) (by kernel_rfl) (by kernel_rfl) (fun _ _ _ h => h) (yieldsIf_run rfl (fun w' hw' => ?y22)) hS0 ?_
  case y22 => (obtain ⟨h0, h1, h2, h5, h6, h7⟩ := HNC.out w' hw'; clear hw'; first | (go_simp; rfl) | (go_simp; done))
  simp only [Act.put, List.setIfInBounds_toArray, List.set_cons_zero, List.set_cons_succ]
  refine wpAnyH_do (i := 4) (by kernel_rfl) rfl rfl (fun K hK => ?_)
  go_simp
  go_at_call 42
  refine (HSZ.out _).mono ?_
  rintro e V3 ⟨rfl, hb9⟩
  have hsV3 := hS0.trans (hb9.mono hS0.size)
  clear hb9
  refine hK _ _ (hsV3) ?_
  clear hK K
  try simp only [Act.put, List.setIfInBounds_toArray, List.set_cons_zero, List.set_cons_succ]
  refine wpAnyH_takeI (i := 10) (v := .int .i64 ((hh : Int) - (us : Int))) rfl (by kernel_rfl) (by kernel_rfl) (by kernel_rfl) (fun _ _ _ h => h) (yieldsIf_run rfl (fun w' hw' => ?y23)) hsV3 ?_
  case y23 => (have hwr : IntKind.i64.wrap ((hh : Int) - (us : Int)) = (hh : Int) - (us : Int) := IntWalk.i64_in _ (by omega); clear hw'; first | (go_simp; rfl) | (go_simp; done))
  simp only [Act.put, List.setIfInBounds_toArray, List.set_cons_zero, List.set_cons_succ]
  refine wpAnyH_takeI (i := 11) (v := ?v24) rfl (by kernel_rfl) (by kernel_rfl) (by kernel_rfl) (fun _ _ _ h => h) (yieldsIf_run rfl (fun w' hw' => ?y24)) hsV3 ?_
  case y24 => first | (go_simp; rfl) | (go_simp; done) | rfl
  simp only [Act.put, List.setIfInBounds_toArray, List.set_cons_zero, List.set_cons_succ]
  refine wpAnyH_done (by kernel_rfl) ?_ _
  refine NoPanic.normal ?_
  go_wp2_with fail
  exact bodyPost_ret (v := .int .i64 ((hh : Int) - (us : Int))) (by simp [results, Tryd.results17, go_sem]) rfl ⟨by rw [hus, HHH.out], hsV3⟩
theorem JFree_nil {w : World} : Calls Tryd.prog 17 #[.pointer none] w fun e w' => e = .returned (.int .i64 0) ∧ Below w.heap.size w w' := by
  go_enter Tryd.func17, Tryd.ntmps17
  go_wp2_with fail
  exact bodyPost_ret (v := .int .i64 0) (by simp [results, Tryd.results17, go_sem]) rfl ⟨rfl, Below.refl _ _⟩
theorem JNeed_ok {w : World} (n : Nat) (hn : n ≤ 100000) : Calls Tryd.prog 15 #[.int .i64 (n : Int)] w fun e w' => e = .returned (.tuple #[.int .i64 ((needN n : Nat) : Int), .int .i64 0]) ∧ Below w.heap.size w w' := by
  have hV := Lib.hid (show needV (n : Int) = ((needN n : Nat) : Int) by unfold needV needN; split <;> omega)
  have hE := Lib.hid (show needE (n : Int) = 0 by unfold needE; split <;> omega)
  have h0 : ¬ (n : Int) < 0 := by omega
  have h1 : ¬ (100000 : Int) < n := by omega
  go_enter Tryd.func15, Tryd.ntmps15
  go_wp2_with fail
  refine (Need_any (n : Int) _).mono ?_
  rintro e w' ⟨rfl, rfl⟩
  rw [hV.out, hE.out]
  go_wp2_with fail
  exact bodyPost_ret (v := .tuple #[.int .i64 ((needN n : Nat) : Int), .int .i64 0]) (by simp [results, Tryd.results15, go_sem]) rfl ⟨rfl, Below.refl _ _⟩
theorem JNeed_no {w : World} (n : Int) (hn : n < 0 ∨ 100000 < n) : Calls Tryd.prog 15 #[.int .i64 n] w fun e w' => e = .returned (.tuple #[.int .i64 0, .int .i64 2]) ∧ Below w.heap.size w w' := by
  rcases hn with hn | hn
  · go_enter Tryd.func15, Tryd.ntmps15
    go_wp2_with fail
    exact bodyPost_ret (v := .tuple #[.int .i64 0, .int .i64 2]) (by simp [results, Tryd.results15, go_sem]) rfl ⟨rfl, Below.refl _ _⟩
  · have h0 : ¬ n < 0 := by omega
    go_enter Tryd.func15, Tryd.ntmps15
    go_wp2_with fail
    exact bodyPost_ret (v := .tuple #[.int .i64 0, .int .i64 2]) (by simp [results, Tryd.results15, go_sem]) rfl ⟨rfl, Below.refl _ _⟩
end Go.Proofs.YtplclpileejemaaDoor
