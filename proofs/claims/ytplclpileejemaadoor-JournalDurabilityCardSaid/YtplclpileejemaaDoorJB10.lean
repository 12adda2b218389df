/- The sectors of a record are written; The payload of a head; The numbers of a head. -/
import Derived.Test.YtplclpileejemaaDoorJB9
namespace Go.Proofs.YtplclpileejemaaDoor
open Go.RowKit
set_option linter.unusedVariables false
set_option linter.unusedSimpArgs false

theorem DiskAt.bound {w : World} {F : Nat → Prop} {b : Nat} {S : DS} (h : DiskAt w F b S) : DiskAt w (fun k => F k ∧ k < w.heap.size) b S := by
  obtain ⟨hok, m, pv, hx⟩ := h
  refine ⟨hok, m, pv, ⟨⟨hx.fb, hx.lt⟩, ⟨hx.fm, hx.hm.lt⟩, fun g hg => ⟨hx.fp g hg, ?_⟩, hx.hb, hx.hm, hx.hp⟩⟩
  rcases hx.hp.2 with ⟨rfl, _⟩ | ⟨g', cap, cur, rfl, _, hh, _⟩
  · cases hg
  · simp [Value.ownBlock] at hg
    subst hg
    exact (Array.getElem?_eq_some_iff.1 hh).1
/-- There is room for m more operations. -/
structure Roomy (S : DS) (m : Nat) : Prop where
  ops : S.ops + m ≤ 1000000000
  pend : S.pend.length + m ≤ 1000000000
  lim : S.limit.getD 0 ≤ 9223372036854775807
theorem Roomy.less {S : DS} {m k : Nat} (h : Roomy S m) (hk : k ≤ m) : Roomy S k := ⟨by have := h.ops; omega, by have := h.pend; omega, h.lim⟩
theorem operate_room {S : DS} {m : Nat} (h : Roomy S (m + 1)) : Roomy S.operate.1 m ∧ S.operate.1.pend = S.pend := by
  have h1 := h.ops
  have h2 := h.pend
  have h3 := h.lim
  unfold DS.operate
  split
  · exact ⟨⟨by show S.ops + m ≤ _; omega, by show S.pend.length + m ≤ _; omega, h3⟩, rfl⟩
  · rename_i k hk
    rw [hk] at h3
    have h4 : k + 1 ≤ 9223372036854775807 := h3
    exact ⟨⟨by show S.ops + 1 + m ≤ _; omega, by show S.pend.length + m ≤ _; omega, by show k ≤ _; omega⟩, rfl⟩
  · rename_i hk
    exact ⟨⟨by show S.ops + 1 + m ≤ _; omega, by show S.pend.length + m ≤ _; omega, h3⟩, rfl⟩
theorem write_room {S : DS} {m : Nat} (h : Roomy S (m + 1)) (s : Int) (l : List UInt8) : Roomy (S.write s l).1 m := by
  have h1 := operate_room h
  unfold DS.write
  split
  · exact h.less (by omega)
  split
  · split
    · split
      · refine ⟨h1.1.ops, ?_, h1.1.lim⟩
        show (S.operate.1.pend ++ [(s.toNat, l)]).length + m ≤ _
        rw [h1.2, List.length_append, List.length_singleton]
        have := h.pend
        omega
      · exact h1.1
    · exact h.less (by omega)
  · exact h.less (by omega)
theorem wrL_snoc : ∀ (L : List (List UInt8)) (S : DS) (a : Nat) (b : List UInt8), wrL S a (L ++ [b]) = if (wrL S a L).2 = 0 then (if ((wrL S a L).1.write ((a + L.length : Nat) : Int) b).2 = 0 then (((wrL S a L).1.write ((a + L.length : Nat) : Int) b).1, 0) else (wrL S a L).1.write ((a + L.length : Nat) : Int) b) else wrL S a L
  | [], S, a, b => by
    show (if (S.write a b).2 = 0 then wrL (S.write a b).1 (a + 1) [] else S.write a b) = _
    rfl
  | x :: L, S, a, b => by
    show (if (S.write a x).2 = 0 then wrL (S.write a x).1 (a + 1) (L ++ [b]) else S.write a x) = _
    by_cases h : (S.write a x).2 = 0
    · have e : wrL S a (x :: L) = wrL (S.write a x).1 (a + 1) L := if_pos h
      rw [if_pos h, wrL_snoc L, e, List.length_cons, show a + 1 + L.length = a + (L.length + 1) by omega]
    · have e : wrL S a (x :: L) = S.write a x := if_neg h
      rw [if_neg h, e, if_neg h]
theorem wrL_stop : ∀ (A B : List (List UInt8)) (S : DS) (a : Nat), (wrL S a A).2 ≠ 0 → wrL S a (A ++ B) = wrL S a A
  | [], _, _, _, h => absurd rfl h
  | x :: A, B, S, a, h => by
    by_cases hx : (S.write a x).2 = 0
    · have e : wrL S a (x :: A) = wrL (S.write a x).1 (a + 1) A := if_pos hx
      rw [e] at h ⊢
      show (if (S.write a x).2 = 0 then wrL (S.write a x).1 (a + 1) (A ++ B) else S.write a x) = _
      rw [if_pos hx]
      exact wrL_stop A B _ _ h
    · have e : wrL S a (x :: A) = S.write a x := if_neg hx
      rw [e]
      exact if_neg hx
/-- The values that put returns. -/
def putV (n : Nat) (e : Int) : Value := .tuple #[.int .i64 (if e = 0 then (n : Int) else 0), .int .i64 e]
set_option maxRecDepth 100000 in
set_option maxHeartbeats 2000000 in
theorem Jput_any {w : World} {F : Nat → Prop} {b : Nat} {S : DS} (h : DiskAt w F b S) (hK : KAt w) (hK0 : ¬ F 0) (a o : Nat) (c : Int) (r : RecD) (hs : splitE r = 0) {G : Nat → Prop} (v : Value) (hv : BytesN w G v r.load) (hao : a + o < 1000000000) (hroom : Roomy S (needN r.load.length)) :
    Calls Tryd.prog 44 #[stV b (a : Int) c, .int .i64 (o : Int), .agg #[.int .i64 r.kind, .int .i64 r.gen, .int .i64 r.num, v]] w fun e w' => e = .returned (putV (needN r.load.length) (wrL S (a + o) (splitL r)).2) ∧ DiskAt w' (fun k => F k ∨ w.heap.size ≤ k) b (wrL S (a + o) (splitL r)).1 ∧ Chg F w w' := by
  obtain ⟨va, vc, rfl⟩ := hv.form
  have hnb := need_le (splitE_ok hs).2
  have hsl := splitL_length hs
  obtain ⟨n, hn⟩ : ∃ n, needN r.load.length = n := ⟨_, rfl⟩
  rw [hn] at hnb hsl hroom ⊢
  have hlen256 : ∀ x ∈ splitL r, x.length = 256 := fun x hx => by
    unfold splitL at hx
    rw [if_pos hs] at hx
    obtain ⟨i, _, rfl⟩ := List.mem_map.1 hx
    exact encL_length _
  obtain ⟨w1, hw1⟩ : ∃ w1, w.alloc (.cells #[.pointer (some ⟨b, 0, none⟩), .int .i64 (a : Int), .int .i64 c] 75) = w1 := ⟨_, rfl⟩
  have hb1 : Below w.heap.size w w1 := hw1 ▸ (Below.refl _ _).alloc (Nat.le_refl _) _
  have hs1 : w1.heap.size = w.heap.size + 1 := by rw [← hw1]; simp
  obtain ⟨w2, hw2⟩ : ∃ w2, w1.alloc (.cells #[.int .i64 r.kind, .int .i64 r.gen, .int .i64 r.num, .slice va r.load.length vc] 88) = w2 := ⟨_, rfl⟩
  have hb2 : Below w1.heap.size w1 w2 := hw2 ▸ (Below.refl _ _).alloc (Nat.le_refl _) _
  have hx1 : w1.heap[w.heap.size]? = some (.cells #[.pointer (some ⟨b, 0, none⟩), .int .i64 (a : Int), .int .i64 c] 75 (0, 0)) := by rw [← hw1]; exact heap_alloc_new _ _
  have hx1 := (hb2.block _ (by omega)).trans hx1
  have hb12 := hb1.trans (hb2.mono hb1.size)
  have hsp := Split_any r va r.load.length vc (hv.below hb12) (KAt.below hK hb12 hK.size)
  have HSP := Lib.hid hsp
  have HX1 := Lib.hid hx1
  have HB2 := Lib.hid hb12
  have HW1 := Lib.hid hw1
  have HW2 := Lib.hid hw2
  have HD := Lib.hid h.bound
  have HRM := Lib.hid hroom
  have HSL := Lib.hid hsl
  have H256 := Lib.hid hlen256
  have HK0 := Lib.hid hK0
  obtain ⟨B, hB⟩ : ∃ B, w.heap.size = B := ⟨_, rfl⟩
  rw [hB] at HX1 HD
  have HB := Lib.hid hB
  obtain ⟨L, hL⟩ : ∃ L, splitL r = L := ⟨_, rfl⟩
  have HLE := Lib.hid hL
  unfold SplitPost at HSP
  rw [hs] at HSP
  rw [hL] at HSP HSL H256 ⊢
  obtain ⟨z, hz⟩ : ∃ z, wrL S (a + o) L = z := ⟨_, rfl⟩
  rw [hz]
  have HZ := Lib.hid hz
  obtain ⟨rk, hrk⟩ : ∃ rk, r.kind = rk := ⟨_, rfl⟩
  obtain ⟨rg, hrg⟩ : ∃ rg, r.gen = rg := ⟨_, rfl⟩
  obtain ⟨rn, hrn⟩ : ∃ rn, r.num = rn := ⟨_, rfl⟩
  obtain ⟨rl, hrl⟩ : ∃ rl, r.load.length = rl := ⟨_, rfl⟩
  rw [hrk, hrg, hrn, hrl] at HW2 HSP ⊢
  unfold stV
  clear hn hv hs h hK hK0 hsl hroom hlen256 hw1 hb1 hs1 hw2 hb2 hx1 hb12 hsp hB hL hz hrk hrg hrn hrl
  go_enter Tryd.func44, Tryd.ntmps44
  go_wp2_with fail
  rw [HW1.out, HW2.out, HB.out]
  refine HSP.out.mono ?_
  rintro e w3 ⟨sv, rfl, ho, hb⟩
  have hents := ho.ents
  obtain ⟨sa, sc, rfl⟩ := ho.form
  rw [HSL.out] at hents ⊢
  have HB3 := Lib.hid (HB2.out.trans (hb.mono HB2.out.size))
  have HE := Lib.hid hents
  have HX3 := Lib.hid ((hb.block _ (by have h1 := HB2.out.size; have h2 := HB.out; have h3 := (Array.getElem?_eq_some_iff.1 HX1.out).1; omega)).trans HX1.out)
  have HDS := Lib.hid (((HD.out.below HB3.out).mono (G := fun k => (F k ∧ k < B) ∨ w3.heap.size ≤ k) (fun k h1 => .inl h1)))
  have HWZ := Lib.hid (show wrL S (a + o) (L.take 0) = (S, 0) from rfl)
  have HC0 := Lib.hid (Chg.refl (fun k => F k ∧ k < B) w3)
  have HRM0 := Lib.hid (show Roomy S (n - 0) from HRM.out)
  have HS2 := Lib.hid (show w2.heap.size ≤ w3.heap.size from hb.size)
  have HB2S := Lib.hid (show B ≤ w2.heap.size by have h1 := HB2.out.size; have h2 := HB.out; omega)
  clear ho hents hb HSP HX1
  have hn2 : n ≤ 586 := hnb.2
  have hz0 : ((0 : Int) != 0) = false := by decide
  go_wp2_with fail
  go_loopw [23] (fun iv wr => ∃ (i : Nat) (Si : DS), i ≤ n ∧ iv = .int .i64 (i : Int) ∧ Hid (wrL S (a + o) (L.take i) = (Si, 0)) ∧ Hid (DiskAt wr (fun k => (F k ∧ k < B) ∨ w3.heap.size ≤ k) b Si) ∧ Hid (Roomy Si (n - i)) ∧ Hid (Chg (fun k => F k ∧ k < B) w3 wr)) (fun iv _ => n - (intOf iv).toNat)
  case atStart => exact ⟨0, S, Nat.zero_le _, rfl, HWZ, HDS, HRM0, HC0⟩
  case round =>
    obtain ⟨i, Si, hi, rfl, HWI, HDI, HRI, HCI⟩ := hrel
    obtain ⟨W0, rfl⟩ : ∃ W0, W0 = wr := ⟨_, rfl⟩
    clear HWZ HDS HC0 HRM0
    have HFW := Lib.hid (show Chg F w W0 from (Chg.of_below HB3.out).trans (HCI.out.mono (G := F) (fun k e => e.1)) (fun k e => .inl e))
    have HDF := Lib.hid (show ∀ (w9 : World) (S9 : DS), DiskAt w9 (fun k => (F k ∧ k < B) ∨ w3.heap.size ≤ k) b S9 → DiskAt w9 (fun k => F k ∨ w.heap.size ≤ k) b S9 from fun w9 S9 h9 => h9.mono (fun k h1 => h1.elim (fun h2 => .inl h2.1) (fun h2 => .inr (by have h3 := HB2S.out; have h4 := HS2.out; have h5 := HB.out; omega))))
    by_cases hlt : i < n
    case neg =>
      obtain rfl : n = i := by omega
      obtain rfl : (Si, 0) = z := by
        have h1 := HWI.out
        rw [List.take_of_length_le (by rw [HSL.out]; exact Nat.le_refl _)] at h1
        rw [← h1, HZ.out]
      have HFIN := Lib.hid (HDF.out W0 Si HDI.out)
      go_wp2_with fail
      exact bodyPost_ret (v := .tuple #[.int .i64 (n : Int), .int .i64 0]) (by simp [results, Tryd.results44, go_sem]) rfl ⟨rfl, HFIN.out, HFW.out⟩
    have hiI : (i : Int) < (n : Int) := by omega
    have hiL : i < L.length := by rw [HSL.out]; exact hlt
    obtain ⟨gv, x, xc, e9, _, hcell, _⟩ := (HE.out.chg HCI.out (fun k _ h1 h2 => by have := HB2S.out; omega)).get hiL
    subst e9
    obtain ⟨gv', x', xc', e9, _, hcell3, hbx⟩ := HE.out.get hiL
    obtain rfl : gv = gv' := by injection (Option.some.inj e9)
    have hgv : B ≤ gv := by
      have h1 := (ents_own HE.out gv rfl).1
      have h2 := HB2S.out
      omega
    rw [Chg.cell HCI.out (p := ⟨gv, i, none⟩) (by show ¬ (F gv ∧ gv < B); omega) hcell3] at hcell
    injection (Option.some.inj hcell) with q1 _ q3
    subst q1
    subst q3
    have hbx := (hbx.weak (G := fun k => w2.heap.size ≤ k ∧ k < w3.heap.size) (fun k h1 h2 => ⟨h2, h1⟩)).chg HCI.out (fun k _ h1 h2 => by have := HB2S.out; omega)
    have hcell := Chg.cell HCI.out (p := ⟨gv, i, none⟩) (by show ¬ (F gv ∧ gv < B); omega) hcell3
    clear hcell3 e9
    obtain ⟨X, hX⟩ : ∃ X, L[i] = X := ⟨_, rfl⟩
    have hX256 : X.length = 256 := by rw [← hX]; exact H256.out _ (List.getElem_mem hiL)
    rw [hX] at hcell hbx
    rw [hX256] at hcell hbx
    have hx0 := (HCI.out.block _ (by have h1 := (Array.getElem?_eq_some_iff.1 HX3.out).1; omega) (by omega)).trans HX3.out
    have hc0 : W0.cell? ⟨B, 0, none⟩ = some (.pointer (some ⟨b, 0, none⟩)) := by rw [cell_of_row _ _ _ _ _ _ hx0]; rfl
    have hc1 : W0.cell? ⟨B, 1, none⟩ = some (.int .i64 (a : Int)) := by rw [cell_of_row _ _ _ _ _ _ hx0]; rfl
    have HNX := Lib.hid (show wrL S (a + o) (L.take (i + 1)) = (if (Si.write ((a + o + i : Nat) : Int) X).2 = 0 then ((Si.write ((a + o + i : Nat) : Int) X).1, 0) else Si.write ((a + o + i : Nat) : Int) X) by
      rw [List.take_succ_eq_append_getElem hiL, wrL_snoc, HWI.out, hX, List.length_take, HSL.out, Nat.min_eq_left (Nat.le_of_lt hlt)]
      rfl)
    have hsum : (a : Int) + (o : Int) + (i : Int) = ((a + o + i : Nat) : Int) := by omega
    have HSUM := Lib.hid hsum
    have hroom' : Roomy Si (n - (i + 1) + 1) := HRI.out.less (by omega)
    have HRN := Lib.hid (write_room hroom' ((a + o + i : Nat) : Int) X)
    have hops := HRI.out.ops
    have hpend := HRI.out.pend
    have hlim := HRI.out.lim
    have hwa := Write_any (G := fun k => w2.heap.size ≤ k ∧ k < w3.heap.size) ((a + o + i : Nat) : Int) (.slice x' 256 xc') X HDI.out hbx.at_ (fun k h1 h2 => h1.elim (fun h3 => by have := HB2S.out; omega) (fun h3 => by omega)) (by omega) (by omega) hlim (by omega)
    have HWA := Lib.hid hwa
    clear hX hx0 hsum hroom' hops hpend hlim hwa hbx
    go_wp2_with fail
    rw [HSUM.out]
    refine HWA.out.mono ?_
    rintro e W1 ⟨rfl, hd1, hc1'⟩
    have hd1' := hd1.mono (G := fun k => (F k ∧ k < B) ∨ w3.heap.size ≤ k) (fun k h1 => h1.elim id (fun h2 => .inr (by have := HCI.out.size; omega)))
    have HC1 := Lib.hid (HCI.out.trans hc1' (fun k h1 => h1.elim .inl .inr))
    have HFW1 := Lib.hid (show Chg F w W1 from (Chg.of_below HB3.out).trans (HC1.out.mono (G := F) (fun k e => e.1)) (fun k e => .inl e))
    obtain ⟨T, hT⟩ : ∃ T, Si.write ((a + o + i : Nat) : Int) X = T := ⟨_, rfl⟩
    rw [hT] at hd1' HNX HRN ⊢
    obtain ⟨S1, e1⟩ := T
    have HD1 := Lib.hid (show DiskAt W1 (fun k => (F k ∧ k < B) ∨ w3.heap.size ≤ k) b S1 from hd1')
    have HR1 := Lib.hid (show Roomy S1 (n - (i + 1)) from HRN.out)
    have HNX1 := Lib.hid (show wrL S (a + o) (L.take (i + 1)) = (if e1 = 0 then (S1, 0) else (S1, e1)) from HNX.out)
    clear hd1 hd1' hc1' hT HNX HRN hcell hc0 hc1
    by_cases he : e1 = 0
    · subst he
      have HWN := Lib.hid (show wrL S (a + o) (L.take (i + 1)) = (S1, 0) by rw [HNX1.out, if_pos rfl])
      go_wp2_with fail
      go_roundw
      case rel => exact ⟨i + 1, S1, by omega, by go_num, HWN, HD1, HR1, HC1⟩
      case measure => simp [intOf] <;> omega
    · have hd0 : (e1 != 0) = true := by simpa using he
      obtain rfl : (S1, e1) = z := by
        have h1 : wrL S (a + o) (L.take (i + 1)) = (S1, e1) := by rw [HNX1.out, if_neg he]
        have h2 := wrL_stop (L.take (i + 1)) (L.drop (i + 1)) S (a + o) (by rw [h1]; exact he)
        rw [List.take_append_drop, h1, HZ.out] at h2
        exact h2.symm
      have HFIN := Lib.hid (HDF.out W1 S1 HD1.out)
      have HPV := Lib.hid (show putV n e1 = .tuple #[.int .i64 0, .int .i64 e1] by unfold putV; rw [if_neg he])
      clear he
      go_wp2_with fail
      rw [HPV.out]
      exact bodyPost_ret (v := .tuple #[.int .i64 0, .int .i64 e1]) (by simp [results, Tryd.results44, go_sem]) rfl ⟨rfl, HFIN.out, HFW1.out⟩
end Go.Proofs.YtplclpileejemaaDoor

namespace Go.Proofs.YtplclpileejemaaDoor
open Go.RowKit
set_option linter.unusedVariables false
set_option linter.unusedSimpArgs false

/-- The bytes of the first i of two numbers. -/
def twoB (x y : Nat) : Nat → List UInt8
  | 0 => []
  | 1 => beL 8 x
  | _ + 2 => headB x y
theorem byte_shift (n j : Nat) : Value.int .u8 ((n : Int) / 2 ^ (8 * (8 - 1 - j)) % 256) = bv ((n / 256 ^ (8 - 1 - j)).toUInt8) := by
  have e : (2 : Int) ^ (8 * (8 - 1 - j)) = ((256 ^ (8 - 1 - j) : Nat) : Int) := by rw [Int.pow_mul, Int.natCast_pow]; rfl
  rw [e]
  unfold bv
  simp
set_option maxRecDepth 100000 in
set_option maxHeartbeats 2000000 in
theorem headBytes_any {w : World} (x y : Nat) (hx : x < 4611686018427387904) (hy : y < 4611686018427387904) (g : Nat) (hg : w.heap[g]? = some (.cells #[.int .i64 (x : Int), .int .i64 (y : Int)] 3 (0, 0))) :
    Calls Tryd.prog 57 #[.slice (some ⟨g, 0, none⟩) 2 2] w fun e w' => ∃ v, e = .returned v ∧ w'.ownsRow w.heap.size 5 1 v 16 (bvs (headB x y)) ∧ Below w.heap.size w w' := by
  have HG := Lib.hid hg
  have HGL := Lib.hid (Array.getElem?_eq_some_iff.1 hg).1
  have HXY := Lib.hid (show ∀ i : Nat, i < 2 → ∃ n : Nat, n < 4611686018427387904 ∧ (#[Value.int .i64 (x : Int), .int .i64 (y : Int)] : Array Value)[i]? = some (.int .i64 (n : Int)) ∧ twoB x y (i + 1) = twoB x y i ++ beL 8 n from fun i hi => by
    rcases (show i = 0 ∨ i = 1 by omega) with rfl | rfl
    · exact ⟨x, hx, rfl, rfl⟩
    · exact ⟨y, hy, rfl, rfl⟩)
  have HTL := Lib.hid (show ∀ i, i ≤ 2 → (twoB x y i).length = 8 * i from fun i hi => by
    rcases (show i = 0 ∨ i = 1 ∨ i = 2 by omega) with rfl | rfl | rfl
    · rfl
    · exact beL_length 8 x
    · show (beL 8 x ++ beL 8 y).length = _
      rw [List.length_append, beL_length, beL_length])
  have HO0 := Lib.hid (show w.ownsRow w.heap.size 5 1 (.slice none 0 0) (8 * 0) (bvs (twoB x y 0)) from own_none _ _ _)
  have HB0 := Lib.hid (Below.refl w.heap.size w)
  clear hg
  go_enter Tryd.func57, Tryd.ntmps57
  go_wp2_with fail
  go_loopw [3, 9] (fun bvv iv wr => ∃ i : Nat, i ≤ 2 ∧ iv = .int .i64 (i : Int) ∧ (∃ (ba : Option Addr) (bc : Nat), bvv = .slice ba (8 * i) bc ∧ wr.ownsRow w.heap.size 5 1 (.slice ba (8 * i) bc) (8 * i) (bvs (twoB x y i))) ∧ Hid (Below w.heap.size w wr)) (fun _ iv _ => 2 - (intOf iv).toNat)
  case atStart => exact ⟨0, by omega, rfl, ⟨none, 0, rfl, HO0.out⟩, HB0⟩
  case round =>
    obtain ⟨i, hi, rfl, ⟨ba, bc, rfl, ho⟩, HB⟩ := hrel
    obtain ⟨W0, rfl⟩ : ∃ W0, W0 = wr := ⟨_, rfl⟩
    have HO := Lib.hid ho
    clear HO0 HB0 ho
    by_cases hlt : i < 2
    case neg =>
      obtain rfl : i = 2 := by omega
      go_wp2_with fail
      exact bodyPost_ret (v := .slice ba 16 bc) (by simp [results, Tryd.results57, go_sem]) rfl ⟨_, rfl, HO.out, HB.out⟩
    have hiI : (i : Int) < 2 := by omega
    obtain ⟨n, hn, hni, hnx⟩ := HXY.out i hlt
    have hcell : W0.cell? ⟨g, i, none⟩ = some (.int .i64 (n : Int)) := by
      rw [cell_of_row _ _ _ _ _ _ ((HB.out.block _ HGL.out).trans HG.out)]
      exact hni
    have HNX := Lib.hid hnx
    have HO1 := Lib.hid (show W0.ownsRow w.heap.size 5 1 (.slice ba (8 * i) bc) (8 * i + 0) (bvs (twoB x y i ++ (beL 8 n).take 0)) by rw [List.take_zero, List.append_nil]; exact HO.out)
    have HB1 := HB
    clear hni hnx
    go_wp2_with fail
    go_loopw [3, 6] (fun bvv jv wr => ∃ j : Nat, j ≤ 8 ∧ jv = .int .i64 ((8 : Int) - 1 - (j : Int)) ∧ (∃ (ba : Option Addr) (bc : Nat), bvv = .slice ba (8 * i + j) bc ∧ wr.ownsRow w.heap.size 5 1 (.slice ba (8 * i + j) bc) (8 * i + j) (bvs (twoB x y i ++ (beL 8 n).take j))) ∧ Hid (Below w.heap.size w wr)) (fun _ jv _ => (intOf jv + 1).toNat)
    case atStart => exact ⟨0, by omega, by go_num, ⟨ba, bc, rfl, HO1.out⟩, HB1⟩
    case round =>
      obtain ⟨j, hj, rfl, ⟨ca, cc, rfl, ho2⟩, HBW⟩ := hrel
      obtain ⟨W1, rfl⟩ : ∃ W1, W1 = wr := ⟨_, rfl⟩
      have HO2 := Lib.hid ho2
      clear HO1 HB1 ho2
      by_cases hjl : j < 8
      case neg =>
        obtain rfl : j = 8 := by omega
        have hge : ((8 : Nat) : Int) - 1 - ((8 : Nat) : Int) < 0 := by omega
        have HON := Lib.hid (show W1.ownsRow w.heap.size 5 1 (.slice ca (8 * i + 8) cc) (8 * (i + 1)) (bvs (twoB x y (i + 1))) by
          have h1 := HO2.out
          rw [List.take_of_length_le (by rw [beL_length]; exact Nat.le_refl _), ← HNX.out] at h1
          exact h1)
        go_wp2_with fail
        go_roundw
        case rel => exact ⟨i + 1, by omega, by go_num, ⟨ca, cc, rfl, HON.out⟩, HBW⟩
        case measure => simp [intOf] <;> omega
      have hge : (0 : Int) ≤ (8 : Int) - 1 - (j : Int) := by omega
      have HVL := Lib.hid (byte_shift n j)
      have HTK := Lib.hid (beL_take 8 n j hjl)
      obtain ⟨X, hX⟩ : ∃ X, (n / 256 ^ (8 - 1 - j)).toUInt8 = X := ⟨_, rfl⟩
      rw [hX] at HVL HTK
      have hba : Below W1.heap.size W1 (W1.alloc (.cells #[bv X] 5)) := (Below.refl _ _).alloc (Nat.le_refl _) _
      have HGN := Lib.hid (show (W1.alloc (.cells #[bv X] 5)).heap[W1.heap.size]? = some (.cells #[bv X] 5 (0, 0)) from heap_alloc_new _ _)
      have HO3 := Lib.hid (own_kept HO2.out hba)
      have HB3 := Lib.hid (HBW.out.trans (hba.mono HBW.out.size))
      clear hba hX
      go_wp2_with (at_builtin; rw [HVL.out]; refine wpList_appByte rfl (.tmp 17) (.tmp 23) rfl rfl HO3.out W1.heap.size rfl HGN.out (by omega) HB3.out.size ?_; refine Stop.on ?_)
      refine Stop.go ?_
      try simp only [Act.put, List.setIfInBounds_toArray, List.set_cons_zero, List.set_cons_succ]
      intro g' cap' w5 hlt5 hown5 hgr5 hat5
      try simp only [Act.put, List.setIfInBounds_toArray, List.set_cons_zero, List.set_cons_succ]
      have HON := Lib.hid (show w5.ownsRow w.heap.size 5 1 (.slice (some ⟨g', 0, none⟩) (8 * i + (j + 1)) cap') (8 * i + (j + 1)) (bvs (twoB x y i ++ (beL 8 n).take (j + 1))) by rw [HTK.out]; exact hown5)
      have HBN := Lib.hid (HB3.out.grown hgr5 HB3.out.size (fun k hk => (ownsRow_lt HO3.out k hk).1))
      clear hlt5 hown5 hgr5 hat5
      go_wp2_with fail
      go_roundw
      case rel => exact ⟨j + 1, by omega, by go_num, ⟨some ⟨g', 0, none⟩, cap', rfl, HON.out⟩, HBN⟩
      case measure => simp [intOf] <;> omega
end Go.Proofs.YtplclpileejemaaDoor

namespace Go.Proofs.YtplclpileejemaaDoor
open Go.RowKit
set_option linter.unusedVariables false
set_option linter.unusedSimpArgs false

theorem bits_or_u64 (V X : Nat) (hV : V < 256 ^ 7) (hX : X < 256) : bits .or .u64 ((V : Int) * 256) (X : Int) = ((V * 256 + X : Nat) : Int) := by
  have h1 : (BitVec.ofInt 64 ((V * 256 : Nat) : Int)).toNat = V * 256 := by
    rw [BitVec.ofInt_natCast, BitVec.toNat_ofNat]; exact Nat.mod_eq_of_lt (by omega)
  have h2 : (BitVec.ofInt 64 (X : Int)).toNat = X := by
    rw [BitVec.ofInt_natCast, BitVec.toNat_ofNat]; exact Nat.mod_eq_of_lt (by omega)
  have e : (V : Int) * 256 = ((V * 256 : Nat) : Int) := by omega
  rw [e]
  show IntKind.u64.wrap ((BitVec.ofInt 64 ((V * 256 : Nat) : Int) ||| BitVec.ofInt 64 (X : Int)).toNat : Int) = _
  rw [BitVec.toNat_or, h1, h2, or_low V X hX]
  exact IntWalk.u64_in _ (by omega)
/-- The two numbers behind i bytes. -/
def hdN (l : List UInt8) (i : Nat) : Nat × Nat := (valN (l.take (min i 8)), valN ((l.drop 8).take (i - 8)))
def numV (o : Option (Nat × Nat)) : Value := match o with
  | none => .tuple #[.int .i64 0, .int .i64 0, .bool false]
  | some (f, c) => .tuple #[.int .i64 (f : Int), .int .i64 (c : Int), .bool true]
set_option maxRecDepth 100000 in
set_option maxHeartbeats 2000000 in
theorem headNumbers_any {w : World} {F : Nat → Prop} (v : Value) (l : List UInt8) (hv : BytesAt w F v l) (hl : l.length < 1000000000) :
    Calls Tryd.prog 68 #[v] w fun e w' => e = .returned (numV (numL l)) ∧ Below w.heap.size w w' := by
  obtain ⟨va, vc, rfl⟩ := hv.form
  by_cases h16 : l.length = 16
  case neg =>
    have hn : numL l = none := if_neg (fun h => h16 h.1)
    have HNV := Lib.hid (show numV (numL l) = .tuple #[.int .i64 0, .int .i64 0, .bool false] by rw [hn]; rfl)
    have hd : ((l.length : Int) != 16) = true := by simp; omega
    obtain ⟨n, hnn⟩ : ∃ n, l.length = n := ⟨_, rfl⟩
    rw [hnn] at hd ⊢
    clear hn hv h16 hnn
    go_enter Tryd.func68, Tryd.ntmps68
    go_wp2_with fail
    rw [HNV.out]
    exact bodyPost_ret (v := .tuple #[.int .i64 0, .int .i64 0, .bool false]) (by simp [results, Tryd.results68, go_sem]) rfl ⟨rfl, Below.refl _ _⟩
  rw [h16] at hv ⊢
  obtain ⟨w0, hw0⟩ : ∃ w0, w.alloc (.cells #[.int .u64 0, .int .u64 0] 138) = w0 := ⟨_, rfl⟩
  have hb0 : Below w.heap.size w w0 := hw0 ▸ (Below.refl _ _).alloc (Nat.le_refl _) _
  have hx0 : w0.heap[w.heap.size]? = some (.cells #[.int .u64 0, .int .u64 0] 138 (0, 0)) := by rw [← hw0]; exact heap_alloc_new _ _
  have hs0 : w0.heap.size = w.heap.size + 1 := by rw [← hw0]; simp
  obtain ⟨B, hB⟩ : ∃ B, w.heap.size = B := ⟨_, rfl⟩
  rw [hB] at hx0
  have HV := Lib.hid hv
  have H16 := Lib.hid h16
  have HW0 := Lib.hid hw0
  have HB0 := Lib.hid hb0
  have HB := Lib.hid hB
  have HS0 := Lib.hid (show w0.heap.size = B + 1 by omega)
  have HX0 := Lib.hid (show w0.heap[B]? = some (.cells #[.int .u64 ((hdN l 0).1 : Int), .int .u64 ((hdN l 0).2 : Int)] 138 (0, 0)) from hx0)
  have HC0 := Lib.hid (Chg.refl (fun k => k = B) w0)
  obtain ⟨z, hz⟩ : ∃ z, numV (numL l) = z := ⟨_, rfl⟩
  rw [hz]
  have HZ := Lib.hid hz
  clear hv h16 hw0 hb0 hx0 hs0 hB hz
  go_enter Tryd.func68, Tryd.ntmps68
  go_wp2_with fail
  rw [HW0.out, HB.out]
  go_loopw [13] (fun iv wr => ∃ i : Nat, i ≤ 16 ∧ iv = .int .i64 (i : Int) ∧ Hid (wr.heap[B]? = some (.cells #[.int .u64 ((hdN l i).1 : Int), .int .u64 ((hdN l i).2 : Int)] 138 (0, 0))) ∧ Hid (Chg (fun k => k = B) w0 wr)) (fun iv _ => 16 - (intOf iv).toNat)
  case atStart => exact ⟨0, by omega, rfl, HX0, HC0⟩
  case round =>
    obtain ⟨i, hi, rfl, HX, HC⟩ := hrel
    obtain ⟨W0, rfl⟩ : ∃ W0, W0 = wr := ⟨_, rfl⟩
    clear HX0 HC0
    have HBW := Lib.hid (HB0.out.trans (HC.out.below (B := w.heap.size) (fun j e => by have := HB.out; omega) HB0.out.size))
    obtain ⟨n0, hn0⟩ : ∃ n0, (hdN l i).1 = n0 := ⟨_, rfl⟩
    obtain ⟨n1, hn1⟩ : ∃ n1, (hdN l i).2 = n1 := ⟨_, rfl⟩
    rw [hn0, hn1] at HX
    have c0 : W0.cell? ⟨B, 0, none⟩ = some (.int .u64 (n0 : Int)) := by rw [cell_of_row _ _ _ _ _ _ HX.out]; rfl
    have c1 : W0.cell? ⟨B, 1, none⟩ = some (.int .u64 (n1 : Int)) := by rw [cell_of_row _ _ _ _ _ _ HX.out]; rfl
    have f0 : W0.frozen? ⟨B, 0, none⟩ = false := frozen_of_row _ _ _ _ _ HX.out
    have f1 : W0.frozen? ⟨B, 1, none⟩ = false := frozen_of_row _ _ _ _ _ HX.out
    by_cases hlt : i < 16
    case neg =>
      obtain rfl : i = 16 := by omega
      have HN0 := Lib.hid (show valN (l.take 8) = n0 from hn0)
      have HN1 := Lib.hid (show valN (l.drop 8) = n1 by
        have h1 := hn1
        unfold hdN at h1
        rw [show (l.drop 8).take (16 - 8) = l.drop 8 from List.take_of_length_le (by rw [List.length_drop, H16.out]; exact Nat.le_refl _)] at h1
        exact h1)
      clear hn0 hn1
      by_cases hb0 : 2147483647 < n0
      · have hd : decide ((2147483647 : Int) < (n0 : Int)) = true := decide_eq_true (by omega)
        have hd2 : decide (2147483647 < n0) = true := decide_eq_true hb0
        obtain rfl : .tuple #[.int .i64 0, .int .i64 0, .bool false] = z := by
          rw [← HZ.out]
          unfold numL mostH
          rw [HN0.out, if_neg (fun h => by omega)]
          rfl
        go_wp2_with fail
        exact bodyPost_ret (v := .tuple #[.int .i64 0, .int .i64 0, .bool false]) (by simp [results, Tryd.results68, go_sem]) rfl ⟨rfl, HBW.out⟩
      have hd : decide ((2147483647 : Int) < (n0 : Int)) = false := decide_eq_false (by omega)
      have hd2 : decide (2147483647 < n0) = false := decide_eq_false hb0
      by_cases hb1 : 2147483647 < n1
      · have hd3 : decide ((2147483647 : Int) < (n1 : Int)) = true := decide_eq_true (by omega)
        have hd4 : decide (2147483647 < n1) = true := decide_eq_true hb1
        obtain rfl : .tuple #[.int .i64 0, .int .i64 0, .bool false] = z := by
          rw [← HZ.out]
          unfold numL mostH
          rw [HN1.out, if_neg (fun h => by omega)]
          rfl
        go_wp2_with fail
        exact bodyPost_ret (v := .tuple #[.int .i64 0, .int .i64 0, .bool false]) (by simp [results, Tryd.results68, go_sem]) rfl ⟨rfl, HBW.out⟩
      have hd3 : decide ((2147483647 : Int) < (n1 : Int)) = false := decide_eq_false (by omega)
      have hd4 : decide (2147483647 < n1) = false := decide_eq_false hb1
      obtain rfl : .tuple #[.int .i64 (n0 : Int), .int .i64 (n1 : Int), .bool true] = z := by
        rw [← HZ.out]
        unfold numL mostH
        rw [HN0.out, HN1.out, if_pos ⟨H16.out, by omega, by omega⟩]
        rfl
      have HNC := Lib.hid (show ∀ w', Below W0.heap.size W0 w' → w'.cell? ⟨B, 0, none⟩ = some (.int .u64 (n0 : Int)) ∧ w'.cell? ⟨B, 1, none⟩ = some (.int .u64 (n1 : Int)) from fun w' hw' => by
        have h1 := (hw'.block _ (Array.getElem?_eq_some_iff.1 HX.out).1).trans HX.out
        refine ⟨?_, ?_⟩ <;> rw [cell_of_row _ _ _ _ _ _ h1] <;> rfl)
      have hw0 : IntKind.i64.wrap (n0 : Int) = (n0 : Int) := IntWalk.i64_in _ (by omega)
      have hw1 : IntKind.i64.wrap (n1 : Int) = (n1 : Int) := IntWalk.i64_in _ (by omega)
      go_wp2_with fail
      refine wp_region_noPanic ?_
      refine wp_region_H (Below W0.heap.size W0) (by kernel_rfl) ?_
      have hS0 : (Below W0.heap.size W0) W0.drew := (Below.refl _ _).drew
      obtain ⟨wd, hwd⟩ : ∃ wd, W0.drew = wd := ⟨_, rfl⟩
      rw [hwd] at hS0 ⊢
      clear hwd
      refine wpAnyH_takeI (i := 0) (v := ?v1) rfl (by kernel_rfl) (by kernel_rfl) (by kernel_rfl) (fun _ _ _ h => h) (yieldsIf_run rfl (fun w' hw' => ?y1)) hS0 ?_
      case y1 => first | (go_simp; rfl) | (go_simp; done) | rfl
      simp only [Act.put, List.setIfInBounds_toArray, List.set_cons_zero, List.set_cons_succ]
      refine wpAnyH_takeI (i := 1) (v := ?v2) rfl (by kernel_rfl) (by kernel_rfl) (by kernel_rfl) (fun _ _ _ h => h) (yieldsIf_run rfl (fun w' hw' => ?y2)) hS0 ?_
      case y2 => (obtain ⟨h1, h2⟩ := HNC.out w' hw'; clear hw'; first | (go_simp; rfl) | (go_simp; done))
      simp only [Act.put, List.setIfInBounds_toArray, List.set_cons_zero, List.set_cons_succ]
      refine wpAnyH_takeI (i := 2) (v := ?v3) rfl (by kernel_rfl) (by kernel_rfl) (by kernel_rfl) (fun _ _ _ h => h) (yieldsIf_run rfl (fun w' hw' => ?y3)) hS0 ?_
      case y3 => first | (go_simp; rfl) | (go_simp; done) | rfl
      simp only [Act.put, List.setIfInBounds_toArray, List.set_cons_zero, List.set_cons_succ]
      refine wpAnyH_takeI (i := 3) (v := ?v4) rfl (by kernel_rfl) (by kernel_rfl) (by kernel_rfl) (fun _ _ _ h => h) (yieldsIf_run rfl (fun w' hw' => ?y4)) hS0 ?_
      case y4 => first | (go_simp; rfl) | (go_simp; done) | rfl
      simp only [Act.put, List.setIfInBounds_toArray, List.set_cons_zero, List.set_cons_succ]
      refine wpAnyH_takeI (i := 4) (v := ?v5) rfl (by kernel_rfl) (by kernel_rfl) (by kernel_rfl) (fun _ _ _ h => h) (yieldsIf_run rfl (fun w' hw' => ?y5)) hS0 ?_
      case y5 => (obtain ⟨h1, h2⟩ := HNC.out w' hw'; clear hw'; first | (go_simp; rfl) | (go_simp; done))
      simp only [Act.put, List.setIfInBounds_toArray, List.set_cons_zero, List.set_cons_succ]
      refine wpAnyH_takeI (i := 5) (v := ?v6) rfl (by kernel_rfl) (by kernel_rfl) (by kernel_rfl) (fun _ _ _ h => h) (yieldsIf_run rfl (fun w' hw' => ?y6)) hS0 ?_
      case y6 => first | (go_simp; rfl) | (go_simp; done) | rfl
      simp only [Act.put, List.setIfInBounds_toArray, List.set_cons_zero, List.set_cons_succ]
      refine wpAnyH_takeI (i := 6) (v := ?v7) rfl (by kernel_rfl) (by kernel_rfl) (by kernel_rfl) (fun _ _ _ h => h) (yieldsIf_run rfl (fun w' hw' => ?y7)) hS0 ?_
      case y7 => first | (go_simp; rfl) | (go_simp; done) | rfl
      simp only [Act.put, List.setIfInBounds_toArray, List.set_cons_zero, List.set_cons_succ]
      refine wpAnyH_takeI (i := 7) (v := ?v8) rfl (by kernel_rfl) (by kernel_rfl) (by kernel_rfl) (fun _ _ _ h => h) (yieldsIf_run rfl (fun w' hw' => ?y8)) hS0 ?_
      case y8 => first | (go_simp; rfl) | (go_simp; done) | rfl
      simp only [Act.put, List.setIfInBounds_toArray, List.set_cons_zero, List.set_cons_succ]
      refine wpAnyH_takeI (i := 8) (v := ?v9) rfl (by kernel_rfl) (by kernel_rfl) (by kernel_rfl) (fun _ _ _ h => h) (yieldsIf_run rfl (fun w' hw' => ?y9)) hS0 ?_
      case y9 => first | (go_simp; rfl) | (go_simp; done) | rfl
      simp only [Act.put, List.setIfInBounds_toArray, List.set_cons_zero, List.set_cons_succ]
      refine wpAnyH_done (by kernel_rfl) ?_ _
      refine NoPanic.normal ?_
      have HBE := Lib.hid (HBW.out.trans (hS0.mono HBW.out.size))
      go_wp2_with fail
      exact bodyPost_ret (v := .tuple #[.int .i64 (n0 : Int), .int .i64 (n1 : Int), .bool true]) (by simp [results, Tryd.results68, go_sem]) rfl ⟨rfl, HBE.out⟩
    have hiI : (i : Int) < 16 := by omega
    have hil : i < l.length := by rw [H16.out]; exact hlt
    have hvw := HV.out.below HBW.out
    obtain ⟨g', off', e9, hc⟩ := BytesAt.get (show BytesAt W0 F (.slice va l.length vc) l by rw [H16.out]; exact hvw) hil
    subst e9
    obtain ⟨X, hX⟩ : ∃ X, l[i] = X := ⟨_, rfl⟩
    rw [hX] at hc
    have hx256 : X.toNat < 256 := UInt8.toNat_lt _
    obtain ⟨x, hx⟩ : ∃ x, X.toNat = x := ⟨_, rfl⟩
    rw [hx] at hc hx256
    by_cases h8 : i < 8
    · have hdiv : (i : Int) / 8 = 0 := by omega
      have hv0 := valN_lt (l.take (min i 8))
      have hle : (l.take (min i 8)).length ≤ 7 := by rw [List.length_take]; omega
      have hv7 : n0 < 256 ^ 7 := by rw [← hn0]; exact Nat.lt_of_lt_of_le hv0 (Nat.pow_le_pow_right (by decide) hle)
      have HV0 := Lib.hid (show bits .or .u64 (IntKind.u64.wrap ((n0 : Int) * 256)) (x : Int) = ((n0 * 256 + x : Nat) : Int) by
        rw [show IntKind.u64.wrap ((n0 : Int) * 256) = (n0 : Int) * 256 from IntWalk.u64_in _ (by omega)]
        exact bits_or_u64 n0 x hv7 hx256)
      have HNX := Lib.hid (show hdN l (i + 1) = (n0 * 256 + x, n1) by
        unfold hdN at hn0 hn1 ⊢
        rw [Nat.min_eq_left (by omega)] at hn0 ⊢
        rw [List.take_succ_eq_append_getElem hil, valN_snoc, hX, hx]
        dsimp only at hn0 hn1 ⊢
        rw [hn0, show i + 1 - 8 = i - 8 by omega, hn1])
      clear hvw hn0 hn1 hv0 hle hX hx hv7
      go_wp2_with fail
      rw [HV0.out]
      go_roundw
      case rel => exact ⟨i + 1, by omega, by go_num, Lib.hid (by rw [HNX.out]; exact heap_setCell_same _ _ _ _ _ _ HX.out), Lib.hid (HC.out.trans (Chg.setCell (F := fun k => k = B) _ _ rfl) (fun _ h => .inl h))⟩
      case measure => simp [intOf] <;> omega
    · have hdiv : (i : Int) / 8 = 1 := by omega
      have hv0 := valN_lt ((l.drop 8).take (i - 8))
      have hle : ((l.drop 8).take (i - 8)).length ≤ 7 := by rw [List.length_take]; omega
      have hv7 : n1 < 256 ^ 7 := by rw [← hn1]; exact Nat.lt_of_lt_of_le hv0 (Nat.pow_le_pow_right (by decide) hle)
      have HV0 := Lib.hid (show bits .or .u64 (IntKind.u64.wrap ((n1 : Int) * 256)) (x : Int) = ((n1 * 256 + x : Nat) : Int) by
        rw [show IntKind.u64.wrap ((n1 : Int) * 256) = (n1 : Int) * 256 from IntWalk.u64_in _ (by omega)]
        exact bits_or_u64 n1 x hv7 hx256)
      have HNX := Lib.hid (show hdN l (i + 1) = (n0, n1 * 256 + x) by
        have hd : i - 8 < (l.drop 8).length := by rw [List.length_drop]; omega
        have hde : (l.drop 8)[i - 8] = l[i] := by rw [List.getElem_drop]; congr 1; omega
        unfold hdN at hn0 hn1 ⊢
        dsimp only at hn0 hn1 ⊢
        rw [show min (i + 1) 8 = min i 8 by omega, hn0, show i + 1 - 8 = i - 8 + 1 by omega, List.take_succ_eq_append_getElem hd, valN_snoc, hde, hX, hx, hn1])
      clear hvw hn0 hn1 hv0 hle hX hx hv7
      go_wp2_with fail
      rw [HV0.out]
      go_roundw
      case rel => exact ⟨i + 1, by omega, by go_num, Lib.hid (by rw [HNX.out]; exact heap_setCell_same _ _ _ _ _ _ HX.out), Lib.hid (HC.out.trans (Chg.setCell (F := fun k => k = B) _ _ rfl) (fun _ h => .inl h))⟩
      case measure => simp [intOf] <;> omega
end Go.Proofs.YtplclpileejemaaDoor
