/- The spool: the source of Decode; The spool: the numbers of the source of Decode; The spool: bytes copied as one operation; the steps of Decode, plainly. -/
import Derived.Test.YtnmdgjodbikndaaS35
import Derived.Test.YtnmdgjodbikndaaGenR
namespace Go.Proofs.Ytnmdgjodbikndaa
open Go.RowKit
set_option linter.unusedVariables false
set_option linter.unusedSimpArgs false

/-- Where the slice lies, if anywhere. -/
def LiesB (B : Nat) (v : Value) (L : List UInt8) : Prop := L ≠ [] → ∀ p n c, v = .slice (some p) n c → p.block < B
/-- Bytes below B stay where only blocks from B on change. -/
theorem keptB {w w' : World} {F : Nat → Prop} {B : Nat} {v : Value} {L : List UInt8} (h : ListAt byE w v L) (hb : LiesB B v L) (hc : Chg F w w') (hF : ∀ k, F k → B ≤ k) : ListAt byE w' v L := by
  obtain ⟨a, cap, e, h1, h2, h3, h4⟩ := h.ex
  refine ⟨a, cap, e, h1, h2, h3, fun hne => ?_⟩
  obtain ⟨g, off, e1, hg, hr⟩ := h4 hne
  have hgB : g < B := hb hne ⟨g, off, none⟩ _ _ (by rw [e, e1])
  exact ⟨g, off, e1, Nat.lt_of_lt_of_le hg hc.size, fun i hi j u hj => hc.cell (p := ⟨g, off + i * 1 + j, none⟩) (fun hf => by have := hF g hf; omega) (hr i hi j u hj)⟩
/-- What is left of the bytes, and the first error. -/
structure SrcD where
  rest : List UInt8
  e : Int
/-- The source lies in the block r, its bytes below B. -/
structure SrcAt (w : World) (r B : Nat) (s : SrcD) : Prop where
  ex : ∃ v, w.heap[r]? = some (.cells #[v, .int .i64 s.e] 103 (0, 0)) ∧ ListAt byE w v s.rest ∧ LiesB B v s.rest ∧ B ≤ r
theorem SrcAt.below {w w' : World} {r B : Nat} {s : SrcD} (h : SrcAt w r B s) (hb : Below w.heap.size w w') : SrcAt w' r B s := by
  obtain ⟨v, h1, h2, h3⟩ := h.ex
  exact ⟨v, (hb.block _ (Array.getElem?_eq_some_iff.1 h1).1).trans h1, h2.below hb, h3⟩
theorem SrcAt.chg {w w' : World} {F : Nat → Prop} {r B : Nat} {s : SrcD} (h : SrcAt w r B s) (hc : Chg F w w') (hr : ¬ F r) (hF : ∀ k, F k → B ≤ k) : SrcAt w' r B s := by
  obtain ⟨v, h1, h2, h3, h4⟩ := h.ex
  exact ⟨v, (hc.block _ (Array.getElem?_eq_some_iff.1 h1).1 hr).trans h1, keptB h2 h3 hc hF, h3, h4⟩
def SrcD.fail (s : SrcD) (bad : Bool) (c : Int) : SrcD := if s.e = 0 ∧ bad = true then ⟨s.rest, c⟩ else s
set_option maxRecDepth 100000 in
set_option maxHeartbeats 2000000 in
theorem fail_any {w : World} {r B : Nat} {s : SrcD} (h : SrcAt w r B s) (bad : Bool) (c : Int) :
    Calls Try.prog 54 #[.pointer (some ⟨r, 0, none⟩), .bool bad, .int .i64 c] w fun e w' => e = .returned (.tuple #[]) ∧ SrcAt w' r B (s.fail bad c) ∧ Chg (fun k => k = r) w w' ∧ w'.heap.size = w.heap.size := by
  obtain ⟨v, h1, h2, hlb, hbr⟩ := h.ex
  have c1 := cell_of_row w _ 1 _ _ _ h1
  have f1 := frozen_of_row w _ 1 _ _ h1
  simp only [List.getElem?_toArray, List.getElem?_cons_zero, List.getElem?_cons_succ] at c1
  have HH := Lib.hid h
  have H1 := Lib.hid h1
  have hc := Chg.setCell (F := fun k => k = r) w (a := ⟨r, 1, none⟩) (.int .i64 c) rfl
  obtain ⟨a, cap, rfl⟩ := h2.form
  have HE := Lib.hid (show SrcAt (w.setCell ⟨r, 1, none⟩ (.int .i64 c)) r B ⟨s.rest, c⟩ ∧ Chg (fun k => k = r) w (w.setCell ⟨r, 1, none⟩ (.int .i64 c)) ∧ (w.setCell ⟨r, 1, none⟩ (.int .i64 c)).heap.size = w.heap.size from
    ⟨⟨_, by rw [heap_setCell_same _ _ _ _ _ _ h1]; simp, keptB h2 hlb hc (fun k e => by rw [e]; exact hbr), hlb, hbr⟩, hc, by simp [World.setCell]⟩)
  clear h1 h2 h hc hlb hbr
  go_enter Try.func54, Try.ntmps54
  cases bad with
  | false =>
    have hs : s.fail false c = s := by unfold SrcD.fail; rw [if_neg (by simp)]
    rw [hs]
    by_cases he : s.e = 0
    · have hee : (s.e == 0) = true := by simpa using he
      clear he
      go_wp2_with fail
      go_end0
      exact ⟨rfl, HH.out, Chg.refl _ _, rfl⟩
    · have hee : (s.e == 0) = false := by simpa using he
      clear he
      go_wp2_with fail
      go_end0
      exact ⟨rfl, HH.out, Chg.refl _ _, rfl⟩
  | true =>
    by_cases he : s.e = 0
    · have hs : s.fail true c = ⟨s.rest, c⟩ := by unfold SrcD.fail; rw [if_pos ⟨he, rfl⟩]
      rw [hs]
      have hee : (s.e == 0) = true := by simpa using he
      clear he
      go_wp2_with fail
      go_end0
      exact ⟨rfl, HE.out⟩
    · have hs : s.fail true c = s := by unfold SrcD.fail; rw [if_neg (fun h => he h.1)]
      rw [hs]
      have hee : (s.e == 0) = false := by simpa using he
      clear he
      go_wp2_with fail
      go_end0
      exact ⟨rfl, HH.out, Chg.refl _ _, rfl⟩
def SrcD.takeE (s : SrcD) (n : Nat) : SrcD := s.fail (decide (s.rest.length < n)) 23
def SrcD.takeS (s : SrcD) (n : Nat) : SrcD := if (s.takeE n).e = 0 then ⟨s.rest.drop n, 0⟩ else s.takeE n
def SrcD.takeB (s : SrcD) (n : Nat) : List UInt8 := if (s.takeE n).e = 0 then s.rest.take n else []
theorem SrcAt.len {w : World} {r B : Nat} {s : SrcD} (h : SrcAt w r B s) : s.rest.length ≤ maxLen := by
  obtain ⟨v, h1, h2, _⟩ := h.ex
  obtain ⟨a, cap, e, h3, h4, _⟩ := h2.ex
  omega
theorem store_src {w : World} {r B N c : Nat} {a : Option Addr} {v' : Value} {e : Int} {L : List UInt8} (h1 : w.heap[r]? = some (.cells #[.slice a N c, .int .i64 e] 103 (0, 0))) (h2 : ListAt byE w v' L) (hv : LiesB B v' L) (hbr : B ≤ r) :
    SrcAt (w.setCell ⟨r, 0, none⟩ v') r B ⟨L, e⟩ ∧ Chg (fun k => k = r) w (w.setCell ⟨r, 0, none⟩ v') ∧ (w.setCell ⟨r, 0, none⟩ v').heap.size = w.heap.size ∧ ∀ u K, LiesB B u K → ListAt byE w u K → ListAt byE (w.setCell ⟨r, 0, none⟩ v') u K := by
  have hc := Chg.setCell (F := fun k => k = r) w (a := ⟨r, 0, none⟩) v' rfl
  have hk : ∀ u K, LiesB B u K → ListAt byE w u K → ListAt byE (w.setCell ⟨r, 0, none⟩ v') u K := fun u K hl hu => keptB hu hl hc (fun k e => by rw [e]; exact hbr)
  exact ⟨⟨_, by rw [heap_setCell_same _ _ _ _ _ _ h1]; simp, hk _ _ hv h2, hv, hbr⟩, hc, by simp [World.setCell], hk⟩
theorem take_list {w : World} {cap n : Nat} {L : List UInt8} {p : Addr} (h : ListAt byE w (.slice (some p) L.length cap) L) (hn : n ≤ L.length) : ListAt byE w (.slice (some p) n cap) (L.take n) ∧ (n ≠ cap → ListAt byE w (.slice (some (p.add n)) (L.length - n) (cap - n)) (L.drop n)) ∧ (n = cap → ListAt byE w (.slice (some p) 0 0) (L.drop n)) := by
  obtain ⟨a', cap', e, h1, h2, h3, h4⟩ := h.ex
  cases e
  have hl1 : (L.take n).length = n := by rw [List.length_take]; omega
  have hl2 : (L.drop n).length = L.length - n := by rw [List.length_drop]
  refine ⟨⟨_, _, by rw [hl1], by omega, h2, fun e => (by cases e), fun hne => ?_⟩, fun hc => ⟨_, _, by rw [hl2], by omega, by omega, fun e => (by cases e), fun hne => ?_⟩, fun hc => ?_⟩
  · have hLne : L ≠ [] := fun e => hne (by rw [e, List.take_nil])
    obtain ⟨g', off', e1, hg, hr⟩ := h4 hLne
    refine ⟨g', off', e1, hg, fun i hi => ?_⟩
    rw [List.getElem_take]
    exact hr i (by rw [hl1] at hi; omega)
  · have hLne : L ≠ [] := fun e => hne (by rw [e, List.drop_nil])
    obtain ⟨g', off', e1, hg, hr⟩ := h4 hLne
    simp only [Option.some.injEq] at e1
    subst e1
    refine ⟨g', off' + n, by rw [Addr.add_mid], hg, fun i hi => ?_⟩
    rw [List.getElem_drop]
    have := hr (n + i) (by rw [hl2] at hi; omega)
    rw [show off' + n + i * byE.k = off' + (n + i) * byE.k by show off' + n + i * 1 = off' + (n + i) * 1; omega]
    exact this
  · have hd : L.drop n = [] := List.drop_of_length_le (by omega)
    rw [hd]
    exact ⟨some p, 0, rfl, Nat.le_refl _, by unfold maxLen; omega, fun e => (by cases e), fun h => absurd rfl h⟩
set_option maxRecDepth 100000 in
set_option maxHeartbeats 2000000 in
theorem take_any {w : World} {r B : Nat} {s : SrcD} (h : SrcAt w r B s) (n : Nat) (hn : n < 4611686018427387904) :
    Calls Try.prog 53 #[.pointer (some ⟨r, 0, none⟩), .int .i64 (n : Int)] w fun e w' => ∃ v, e = .returned v ∧ ListAt byE w' v (s.takeB n) ∧ SrcAt w' r B (s.takeS n) ∧ Chg (fun k => k = r) w w' ∧ w'.heap.size = w.heap.size := by
  obtain ⟨v, h1, h2, hlb, hbr⟩ := h.ex
  have hlm := h.len
  have c0 := cell_of_row w _ 0 _ _ _ h1
  simp only [List.getElem?_toArray, List.getElem?_cons_zero, List.getElem?_cons_succ] at c0
  obtain ⟨a, cap, rfl⟩ := h2.form
  have HF := fun bad => Lib.hid (fail_any h bad 23)
  have HLM := Lib.hid hlm
  obtain ⟨TB, hTB⟩ : ∃ x, s.takeB n = x := ⟨_, rfl⟩
  obtain ⟨TS, hTS⟩ : ∃ x, s.takeS n = x := ⟨_, rfl⟩
  rw [hTB, hTS]
  have HTB := Lib.hid hTB
  have HTS := Lib.hid hTS
  clear h1 h2 h hlm hTB hTS hlb hbr
  go_enter Try.func53, Try.ntmps53
  by_cases hlt : s.rest.length < n
  · have hI : (s.rest.length : Int) < (n : Int) := by omega
    go_wp2_with fail
    refine (HF true).out.mono ?_
    rintro e w1 ⟨rfl, hs1, hc1, hz1⟩
    have hte : s.takeE n = s.fail true 23 := by unfold SrcD.takeE; rw [decide_eq_true hlt]
    have hne : (s.takeE n).e ≠ 0 := by
      rw [hte]
      unfold SrcD.fail
      by_cases he : s.e = 0
      · rw [if_pos ⟨he, rfl⟩]; show (23 : Int) ≠ 0; decide
      · rw [if_neg (fun h => he h.1)]; exact he
    have hb : s.takeB n = [] := by unfold SrcD.takeB; rw [if_neg hne]
    have hs : s.takeS n = s.fail true 23 := by unfold SrcD.takeS; rw [if_neg hne, hte]
    obtain ⟨v1, k1, k2, _⟩ := hs1.ex
    rw [hte] at hne
    have c1 := cell_of_row w1 _ 1 _ _ _ k1
    simp only [List.getElem?_toArray, List.getElem?_cons_zero, List.getElem?_cons_succ] at c1
    have hnq : ((s.fail true 23).e != 0) = true := by simpa using hne
    have htb : TB = [] := HTB.out ▸ hb
    have hts : s.fail true 23 = TS := hs.symm.trans HTS.out
    subst htb
    rw [hts] at hs1 c1 hnq
    have HE := Lib.hid (And.intro hs1 (And.intro hc1 hz1))
    clear c0 hs1 hc1 hz1 hte hne hb hs k1 k2 hts
    go_wp2_with fail
    exact bodyPost_ret (v := .slice none 0 0) (by simp [results, Try.results53, go_sem]) rfl ⟨_, rfl, listAt_nil byE _, HE.out⟩
  have hI : ¬ (s.rest.length : Int) < (n : Int) := by omega
  go_wp2_with fail
  refine (HF false).out.mono ?_
  rintro e w1 ⟨rfl, hs1, hc1, hz1⟩
  have hsf : s.fail false 23 = s := by unfold SrcD.fail; rw [if_neg (by simp)]
  rw [hsf] at hs1
  have hte : s.takeE n = s := by unfold SrcD.takeE; rw [decide_eq_false hlt]; exact hsf
  have hbe : s.takeB n = if s.e = 0 then s.rest.take n else [] := by unfold SrcD.takeB; rw [hte]
  have hse : s.takeS n = if s.e = 0 then ⟨s.rest.drop n, 0⟩ else s := by unfold SrcD.takeS; rw [hte]
  rw [HTB.out] at hbe
  rw [HTS.out] at hse
  obtain ⟨v1, k1, k2, hlb, hbr⟩ := hs1.ex
  obtain ⟨a1, cap1, rfl⟩ := k2.form
  have d0 := cell_of_row w1 _ 0 _ _ _ k1
  have d1 := cell_of_row w1 _ 1 _ _ _ k1
  have df := frozen_of_row w1 _ 0 _ _ k1
  simp only [List.getElem?_toArray, List.getElem?_cons_zero, List.getElem?_cons_succ] at d0 d1
  have HS1 := Lib.hid hs1
  have HC1 := Lib.hid (And.intro hc1 hz1)
  clear c0 hs1 hc1 hz1 hsf hte
  by_cases he : s.e = 0
  case neg =>
    have hnq : (s.e != 0) = true := by simpa using he
    rw [if_neg he] at hbe hse
    subst hbe
    have HSE := Lib.hid hse
    clear he k1 k2 hse hlb hbr
    go_wp2_with fail
    exact bodyPost_ret (v := .slice none 0 0) (by simp [results, Try.results53, go_sem]) rfl ⟨_, rfl, listAt_nil byE _, by rw [HSE.out]; exact HS1.out, HC1.out⟩
  have hnq : (s.e != 0) = false := by simpa using he
  rw [if_pos he] at hbe hse
  rw [he] at k1 d1
  have hcp := k2.len
  clear he
  have hbn : (n : Int) ≤ (s.rest.length : Int) := by omega
  have hbc : (s.rest.length : Int) ≤ (cap1 : Int) := by omega
  have HSE := Lib.hid (And.intro hbe hse)
  cases a1 with
  | none =>
    obtain rfl : cap1 = 0 := hcp.2.2.2 rfl
    obtain rfl : n = 0 := by omega
    have hz0 : s.rest = [] := List.eq_nil_of_length_eq_zero (by omega)
    have h0 : ListAt byE w1 (.slice none 0 0) (s.rest.drop 0) := by rw [hz0]; exact listAt_nil byE _
    have HTL := Lib.hid (show ListAt byE w1 (.slice none 0 0) (s.rest.take 0) from listAt_nil byE _)
    have HEND := Lib.hid (store_src k1 h0 (B := B) (fun _ p n c e => by cases e) hbr)
    clear k1 k2 hbe hse HF HLM h0 hz0 hlb hbr
    go_wp2_with fail
    all_goals first
    | (exfalso; omega)
    | skip
    exact bodyPost_ret (v := .slice none 0 0) (by simp [results, Try.results53, go_sem]) rfl ⟨_, rfl, by rw [HSE.out.1]; exact HEND.out.2.2.2 _ _ (fun _ p n c e => by cases e) HTL.out, by rw [HSE.out.2]; exact HEND.out.1, HC1.out.1.trans HEND.out.2.1 (fun i h => .inl h), by rw [HEND.out.2.2.1]; exact HC1.out.2⟩
  | some p =>
    have htl := take_list k2 (show n ≤ s.rest.length by omega)
    have HTL := Lib.hid htl.1
    have hpB : s.rest ≠ [] → p.block < B := fun hne => hlb hne p _ _ rfl
    have hadd : (p.add n).block = p.block := by unfold Addr.add; split <;> rfl
    have HLU := Lib.hid (show ∀ n c k, LiesB B (.slice (some p) n c) (s.rest.take k) ∧ LiesB B (.slice (some p) n c) (s.rest.drop k) from fun n c k => ⟨fun hne q n' c' e => by cases e; exact hpB (fun h => hne (by rw [h, List.take_nil])), fun hne q n' c' e => by cases e; exact hpB (fun h => hne (by rw [h, List.drop_nil]))⟩)
    by_cases hcn : n = cap1
    · have HEND := Lib.hid (store_src k1 (htl.2.2 hcn) (HLU.out _ _ _).2 hbr)
      clear k1 k2 hbe hse HF HLM htl hlb hbr hpB hadd
      subst hcn
      go_wp2_with fail
      exact bodyPost_ret (v := .slice (some p) n n) (by simp [results, Try.results53, go_sem]) rfl ⟨_, rfl, by rw [HSE.out.1]; exact HEND.out.2.2.2 _ _ (HLU.out _ _ _).1 HTL.out, by rw [HSE.out.2]; exact HEND.out.1, HC1.out.1.trans HEND.out.2.1 (fun i h => .inl h), by rw [HEND.out.2.2.1]; exact HC1.out.2⟩
    · have HEND := Lib.hid (store_src k1 (htl.2.1 hcn) (fun hne q n' c' e => by cases e; rw [hadd]; exact hpB (fun h => hne (by rw [h, List.drop_nil]))) hbr)
      clear k1 k2 hbe hse HF HLM htl hlb hbr hpB hadd
      go_wp2_with fail
      exact bodyPost_ret (v := .slice (some p) n cap1) (by simp [results, Try.results53, go_sem]) rfl ⟨_, rfl, by rw [HSE.out.1]; exact HEND.out.2.2.2 _ _ (HLU.out _ _ _).1 HTL.out, by rw [HSE.out.2]; exact HEND.out.1, HC1.out.1.trans HEND.out.2.1 (fun i h => .inl h), by rw [HEND.out.2.2.1]; exact HC1.out.2⟩
end Go.Proofs.Ytnmdgjodbikndaa

namespace Go.Proofs.Ytnmdgjodbikndaa
open Go.RowKit
set_option linter.unusedVariables false
set_option linter.unusedSimpArgs false

def bval (B : List UInt8) : Nat := B.foldl (fun n x => n * 256 + x.toNat) 0
theorem bval_snoc (B : List UInt8) (x : UInt8) : bval (B ++ [x]) = bval B * 256 + x.toNat := by unfold bval; rw [List.foldl_append]; rfl
theorem bval_lt : ∀ (B : List UInt8), bval B < 256 ^ B.length := by
  intro B
  rw [← List.reverse_reverse B]
  induction B.reverse with
  | nil => decide
  | cons x l ih =>
    rw [List.reverse_cons, bval_snoc, List.length_append, List.length_singleton, Nat.pow_succ]
    have := x.toNat_lt
    omega
theorem bits_or_u64 (V X : Nat) (hV : V < 72057594037927936) (hX : X < 256) : bits .or .u64 ((V : Int) * 256) (IntKind.u64.wrap (X : Int)) = ((V * 256 + X : Nat) : Int) := by
  have e : (V : Int) * 256 = ((V * 256 : Nat) : Int) := by simp
  rw [IntWalk.u64_in (X : Int) (by omega), e]
  have h1 : (BitVec.ofInt 64 ((V * 256 : Nat) : Int)).toNat = V * 256 := by
    rw [BitVec.ofInt_natCast, BitVec.toNat_ofNat]; exact Nat.mod_eq_of_lt (by omega)
  have h2 : (BitVec.ofInt 64 (X : Int)).toNat = X := by
    rw [BitVec.ofInt_natCast, BitVec.toNat_ofNat]; exact Nat.mod_eq_of_lt (by omega)
  have h3 : V * 256 ||| X = V * 256 + X := by
    have := Nat.two_pow_add_eq_or_of_lt (i := 8) (b := X) hX V
    rw [Nat.mul_comm] at this
    exact this.symm
  show IntKind.u64.wrap ((BitVec.ofInt 64 ((V * 256 : Nat) : Int) ||| BitVec.ofInt 64 (X : Int)).toNat : Int) = _
  rw [BitVec.toNat_or, h1, h2, h3]
  exact IntWalk.u64_in _ (by omega)
def SrcD.cnt (s : SrcD) : Nat := bval (s.takeB 8)
theorem takeB_len (s : SrcD) (n : Nat) : (s.takeB n).length ≤ n := by
  unfold SrcD.takeB
  split
  · rw [List.length_take]; omega
  · exact Nat.zero_le _
set_option maxRecDepth 100000 in
set_option maxHeartbeats 2000000 in
theorem count_any {w : World} {r B0 : Nat} {s : SrcD} (h : SrcAt w r B0 s) :
    Calls Try.prog 52 #[.pointer (some ⟨r, 0, none⟩)] w fun e w' => e = .returned (.int .u64 (s.cnt : Int)) ∧ SrcAt w' r B0 (s.takeS 8) ∧ Chg (fun k => k = r) w w' ∧ w'.heap.size = w.heap.size := by
  obtain ⟨C, hC⟩ : ∃ C, s.cnt = C := ⟨_, rfl⟩
  obtain ⟨B, hB⟩ : ∃ B, s.takeB 8 = B := ⟨_, rfl⟩
  obtain ⟨TS, hT⟩ : ∃ TS, s.takeS 8 = TS := ⟨_, rfl⟩
  have hl := takeB_len s 8
  have ht := take_any h 8 (by decide)
  unfold SrcD.cnt at hC
  rw [hB] at hl ht hC
  rw [hT] at ht
  rw [show s.cnt = C by unfold SrcD.cnt; rw [hB, hC], hT]
  have HT := Lib.hid ht
  have HCC := Lib.hid hC
  obtain ⟨N, hN⟩ : ∃ N, B.length = N := ⟨_, rfl⟩
  rw [hN] at hl
  have HN := Lib.hid hN
  clear h hC hB hT ht hN
  go_enter Try.func52, Try.ntmps52
  go_wp2_with fail
  refine HT.out.mono ?_
  rintro e w1 ⟨v, rfl, hv, hs, hc, hz⟩
  obtain ⟨a, c, rfl⟩ := hv.form
  rw [HN.out] at hv ⊢
  have HV := Lib.hid hv
  have HS := Lib.hid (And.intro hs (And.intro hc hz))
  clear hv hs hc hz
  go_wp2_with fail
  go_loopw [3, 9] (fun nv iv wr => ∃ i : Nat, i ≤ N ∧ iv = .int .i64 (i : Int) ∧ nv = .int .u64 ((bval (B.take i) : Nat) : Int) ∧ wr = w1) (fun _ iv _ => N - (intOf iv).toNat)
  case atStart => exact ⟨0, Nat.zero_le _, rfl, rfl, rfl⟩
  case round =>
    obtain ⟨i, hi, rfl, rfl, rfl⟩ := hrel
    by_cases hlt : i < N
    · have hiI : (i : Int) < (N : Int) := by omega
      have hiI0 : (0 : Int) ≤ (i : Int) := by omega
      have hlt' : i < B.length := by rw [HN.out]; exact hlt
      obtain ⟨g, off, rfl, hg, hr⟩ := HV.out.get hlt'
      obtain ⟨x, hx⟩ : ∃ x, B[i] = x := ⟨_, rfl⟩
      rw [hx] at hr
      have hcl := hr 0 _ rfl
      have hcl : wr.cell? ⟨g, off + i, none⟩ = some (.int .u8 (x.toNat : Int)) := by
        have e : off + i * byE.k + 0 = off + i := by show off + i * 1 + 0 = off + i; omega
        rw [e] at hcl
        exact hcl
      have htk : B.take (i + 1) = B.take i ++ [x] := by rw [List.take_add_one, List.getElem?_eq_getElem hlt', hx]; rfl
      have hbv := bval_lt (B.take i)
      have hbl : (B.take i).length ≤ 7 := by rw [List.length_take]; omega
      have hb56 : bval (B.take i) < 72057594037927936 := Nat.lt_of_lt_of_le hbv (Nat.le_trans (Nat.pow_le_pow_right (by decide) hbl) (by decide))
      have hnx : bval (B.take (i + 1)) = bval (B.take i) * 256 + x.toNat := by rw [htk, bval_snoc]
      obtain ⟨q, hq⟩ : ∃ q, bval (B.take i) = q := ⟨_, rfl⟩
      rw [hq] at hb56 hnx ⊢
      have HNX := Lib.hid hnx
      have HX := Lib.hid x.toNat_lt
      have HB := Lib.hid hb56
      clear hr hx hbv hbl hnx hq htk hlt' hg
      have hor := bits_or_u64 q x.toNat hb56 x.toNat_lt
      go_wp2_with fail
      refine ⟨⟨i + 1, by omega, by go_num, by rw [HNX.out]; simp, trivial⟩, by simp [intOf]; omega⟩
    · obtain rfl : N = i := by omega
      have htk : B.take N = B := List.take_of_length_le (by rw [HN.out]; exact Nat.le_refl _)
      rw [htk, HCC.out]
      go_wp2_with fail
      exact bodyPost_ret (v := .int .u64 (C : Int)) (by simp [results, Try.results52, go_sem]) rfl ⟨rfl, HS.out⟩
def badN (C : Nat) (l m : Int) : Bool := decide (9223372036854775807 < C) || decide ((C : Int) < l) || decide (m < (C : Int))
def SrcD.numS (s : SrcD) (l m : Int) : SrcD := (s.takeS 8).fail (badN s.cnt l m) 3
def SrcD.numV (s : SrcD) (l m : Int) : Int := if (s.numS l m).e = 0 then (s.cnt : Int) else 0
theorem cnt_lt (s : SrcD) : s.cnt < 18446744073709551616 := by
  have h1 := bval_lt (s.takeB 8)
  have h2 := takeB_len s 8
  exact Nat.lt_of_lt_of_le h1 (Nat.le_trans (Nat.pow_le_pow_right (by decide) h2) (by decide))
set_option maxRecDepth 100000 in
set_option maxHeartbeats 2000000 in
theorem number_any {w : World} {r B0 : Nat} {s : SrcD} (h : SrcAt w r B0 s) (l m : Int) (hl : -9223372036854775808 ≤ l ∧ l ≤ 9223372036854775807) (hm : -9223372036854775808 ≤ m ∧ m ≤ 9223372036854775807) :
    Calls Try.prog 51 #[.pointer (some ⟨r, 0, none⟩), .int .i64 l, .int .i64 m] w fun e w' => e = .returned (.int .i64 (s.numV l m)) ∧ SrcAt w' r B0 (s.numS l m) ∧ Chg (fun k => k = r) w w' ∧ w'.heap.size = w.heap.size := by
  obtain ⟨V, hV⟩ : ∃ V, s.numV l m = V := ⟨_, rfl⟩
  obtain ⟨NS, hNS⟩ : ∃ NS, s.numS l m = NS := ⟨_, rfl⟩
  obtain ⟨C, hC⟩ : ∃ C, s.cnt = C := ⟨_, rfl⟩
  obtain ⟨TS, hT⟩ : ∃ TS, s.takeS 8 = TS := ⟨_, rfl⟩
  obtain ⟨bd, hb⟩ : ∃ bd, badN C l m = bd := ⟨_, rfl⟩
  have hc64 := cnt_lt s
  have hct := count_any h
  rw [hC] at hc64 hct
  rw [hT] at hct
  have hns : TS.fail bd 3 = NS := by rw [← hNS, ← hb, ← hT, ← hC]; rfl
  have hnv : (if NS.e = 0 then (C : Int) else 0) = V := by rw [← hV, ← hNS, ← hC]; rfl
  rw [hV, hNS]
  have HCT := Lib.hid hct
  have HNS := Lib.hid hns
  have HNV := Lib.hid hnv
  have HBD := Lib.hid hb
  have HMX := Lib.hid (show NS.e = 0 → C ≤ 9223372036854775807 from fun h0 => by
    rcases Nat.lt_or_ge 9223372036854775807 C with h1 | h1
    · exfalso
      have hbt : bd = true := by rw [← hb]; unfold badN; rw [decide_eq_true h1]; rfl
      rw [hbt] at hns
      rw [← hns] at h0
      unfold SrcD.fail at h0
      by_cases he : TS.e = 0
      · rw [if_pos ⟨he, rfl⟩] at h0; exact absurd h0 (by show (3 : Int) ≠ 0; decide)
      · rw [if_neg (fun h => he h.1)] at h0; exact he h0
    · exact h1)
  clear h hV hNS hC hT hb hct hns hnv
  go_enter Try.func51, Try.ntmps51
  go_wp2_with fail
  refine HCT.out.mono ?_
  rintro e w1 ⟨rfl, hs, hc, hz⟩
  have HF := Lib.hid (HNS.out ▸ fail_any hs bd 3)
  have HS := Lib.hid (And.intro hc hz)
  clear hs hc hz
  have hcall : ∀ b', b' = bd → Calls Try.prog 54 #[.pointer (some ⟨r, 0, none⟩), .bool b', .int .i64 3] w1 fun e w' => e = .returned (.tuple #[]) ∧ SrcAt w' r B0 NS ∧ Chg (fun k => k = r) w1 w' ∧ w'.heap.size = w1.heap.size := fun b' e => by rw [e]; exact HF.out
  have HCL := Lib.hid hcall
  clear hcall HF
  by_cases h1 : 9223372036854775807 < C
  · have h1I : (9223372036854775807 : Int) < (C : Int) := by omega
    have hbt : bd = true := by rw [← HBD.out]; unfold badN; rw [decide_eq_true h1]; rfl
    have HB := Lib.hid hbt
    go_wp2_with fail
    refine (HCL.out _ (by rw [HB.out]; first | done | (simp; done) | (simp; omega))).mono ?_
    rintro e w2 ⟨rfl, hs2, hc2, hz2⟩
    obtain ⟨v1, k1, _⟩ := hs2.ex
    have d1 := cell_of_row w2 _ 1 _ _ _ k1
    simp only [List.getElem?_toArray, List.getElem?_cons_zero, List.getElem?_cons_succ] at d1
    have HE := Lib.hid (show SrcAt w2 r B0 NS ∧ Chg (fun k => k = r) w w2 ∧ w2.heap.size = w.heap.size from ⟨hs2, HS.out.1.trans hc2 (fun i h => .inl h), by rw [hz2]; exact HS.out.2⟩)
    clear hs2 hc2 hz2 k1
    by_cases he : NS.e = 0
    · have hne : (NS.e != 0) = false := by simpa using he
      have hv : (C : Int) = V := by rw [← HNV.out, if_pos he]
      have HV := Lib.hid hv
      have hwc : IntKind.i64.wrap (C : Int) = (C : Int) := IntWalk.i64_in _ (by have := HMX.out he; omega)
      clear he hv
      go_wp2_with fail
      exact bodyPost_ret (v := .int .i64 (C : Int)) (by simp [results, Try.results51, go_sem]) rfl ⟨by rw [HV.out], HE.out⟩
    · have hne : (NS.e != 0) = true := by simpa using he
      have hv : (0 : Int) = V := by rw [← HNV.out, if_neg he]
      have HV := Lib.hid hv
      clear he hv
      go_wp2_with fail
      exact bodyPost_ret (v := .int .i64 0) (by simp [results, Try.results51, go_sem]) rfl ⟨by rw [HV.out], HE.out⟩
  have h1I : ¬ (9223372036854775807 : Int) < (C : Int) := by omega
  have hwc : IntKind.i64.wrap (C : Int) = (C : Int) := IntWalk.i64_in _ (by omega)
  by_cases h2 : (C : Int) < l
  · have hbt : bd = true := by rw [← HBD.out]; unfold badN; rw [decide_eq_false h1, decide_eq_true h2]; rfl
    have HB := Lib.hid hbt
    go_wp2_with fail
    refine (HCL.out _ (by rw [HB.out]; first | done | (simp; done) | (simp; omega))).mono ?_
    rintro e w2 ⟨rfl, hs2, hc2, hz2⟩
    obtain ⟨v1, k1, _⟩ := hs2.ex
    have d1 := cell_of_row w2 _ 1 _ _ _ k1
    simp only [List.getElem?_toArray, List.getElem?_cons_zero, List.getElem?_cons_succ] at d1
    have HE := Lib.hid (show SrcAt w2 r B0 NS ∧ Chg (fun k => k = r) w w2 ∧ w2.heap.size = w.heap.size from ⟨hs2, HS.out.1.trans hc2 (fun i h => .inl h), by rw [hz2]; exact HS.out.2⟩)
    clear hs2 hc2 hz2 k1
    by_cases he : NS.e = 0
    · have hne : (NS.e != 0) = false := by simpa using he
      have hv : (C : Int) = V := by rw [← HNV.out, if_pos he]
      have HV := Lib.hid hv
      have hwc : IntKind.i64.wrap (C : Int) = (C : Int) := IntWalk.i64_in _ (by have := HMX.out he; omega)
      clear he hv
      go_wp2_with fail
      exact bodyPost_ret (v := .int .i64 (C : Int)) (by simp [results, Try.results51, go_sem]) rfl ⟨by rw [HV.out], HE.out⟩
    · have hne : (NS.e != 0) = true := by simpa using he
      have hv : (0 : Int) = V := by rw [← HNV.out, if_neg he]
      have HV := Lib.hid hv
      clear he hv
      go_wp2_with fail
      exact bodyPost_ret (v := .int .i64 0) (by simp [results, Try.results51, go_sem]) rfl ⟨by rw [HV.out], HE.out⟩
  by_cases h3 : m < (C : Int)
  · have hbt : bd = true := by rw [← HBD.out]; unfold badN; rw [decide_eq_false h1, decide_eq_false h2, decide_eq_true h3]; rfl
    have HB := Lib.hid hbt
    go_wp2_with fail
    refine (HCL.out _ (by rw [HB.out]; first | done | (simp; done) | (simp; omega))).mono ?_
    rintro e w2 ⟨rfl, hs2, hc2, hz2⟩
    obtain ⟨v1, k1, _⟩ := hs2.ex
    have d1 := cell_of_row w2 _ 1 _ _ _ k1
    simp only [List.getElem?_toArray, List.getElem?_cons_zero, List.getElem?_cons_succ] at d1
    have HE := Lib.hid (show SrcAt w2 r B0 NS ∧ Chg (fun k => k = r) w w2 ∧ w2.heap.size = w.heap.size from ⟨hs2, HS.out.1.trans hc2 (fun i h => .inl h), by rw [hz2]; exact HS.out.2⟩)
    clear hs2 hc2 hz2 k1
    by_cases he : NS.e = 0
    · have hne : (NS.e != 0) = false := by simpa using he
      have hv : (C : Int) = V := by rw [← HNV.out, if_pos he]
      have HV := Lib.hid hv
      have hwc : IntKind.i64.wrap (C : Int) = (C : Int) := IntWalk.i64_in _ (by have := HMX.out he; omega)
      clear he hv
      go_wp2_with fail
      exact bodyPost_ret (v := .int .i64 (C : Int)) (by simp [results, Try.results51, go_sem]) rfl ⟨by rw [HV.out], HE.out⟩
    · have hne : (NS.e != 0) = true := by simpa using he
      have hv : (0 : Int) = V := by rw [← HNV.out, if_neg he]
      have HV := Lib.hid hv
      clear he hv
      go_wp2_with fail
      exact bodyPost_ret (v := .int .i64 0) (by simp [results, Try.results51, go_sem]) rfl ⟨by rw [HV.out], HE.out⟩
  · have hbt : bd = false := by rw [← HBD.out]; unfold badN; rw [decide_eq_false h1, decide_eq_false h2, decide_eq_false h3]; rfl
    have HB := Lib.hid hbt
    go_wp2_with fail
    refine (HCL.out _ (by rw [HB.out]; first | done | (simp; done) | (simp; omega))).mono ?_
    rintro e w2 ⟨rfl, hs2, hc2, hz2⟩
    obtain ⟨v1, k1, _⟩ := hs2.ex
    have d1 := cell_of_row w2 _ 1 _ _ _ k1
    simp only [List.getElem?_toArray, List.getElem?_cons_zero, List.getElem?_cons_succ] at d1
    have HE := Lib.hid (show SrcAt w2 r B0 NS ∧ Chg (fun k => k = r) w w2 ∧ w2.heap.size = w.heap.size from ⟨hs2, HS.out.1.trans hc2 (fun i h => .inl h), by rw [hz2]; exact HS.out.2⟩)
    clear hs2 hc2 hz2 k1
    by_cases he : NS.e = 0
    · have hne : (NS.e != 0) = false := by simpa using he
      have hv : (C : Int) = V := by rw [← HNV.out, if_pos he]
      have HV := Lib.hid hv
      have hwc : IntKind.i64.wrap (C : Int) = (C : Int) := IntWalk.i64_in _ (by have := HMX.out he; omega)
      clear he hv
      go_wp2_with fail
      exact bodyPost_ret (v := .int .i64 (C : Int)) (by simp [results, Try.results51, go_sem]) rfl ⟨by rw [HV.out], HE.out⟩
    · have hne : (NS.e != 0) = true := by simpa using he
      have hv : (0 : Int) = V := by rw [← HNV.out, if_neg he]
      have HV := Lib.hid hv
      clear he hv
      go_wp2_with fail
      exact bodyPost_ret (v := .int .i64 0) (by simp [results, Try.results51, go_sem]) rfl ⟨by rw [HV.out], HE.out⟩
end Go.Proofs.Ytnmdgjodbikndaa

namespace Go.Proofs.Ytnmdgjodbikndaa
open Go.RowKit
set_option linter.unusedVariables false
set_option linter.unusedSimpArgs false

theorem bytesAt_of {w : World} {v : Value} {L : List UInt8} (h : ListAt byE w v L) : BytesAt w (fun _ => True) v L := by
  obtain ⟨a, cap, e, h1, h2, h3, h4⟩ := h.ex
  refine ⟨a, cap, e, h1, fun hne => ?_⟩
  obtain ⟨g, off, e1, hg, hr⟩ := h4 hne
  refine ⟨g, off, e1, trivial, hg, fun j u hj => ?_⟩
  have hjl : j < L.length := by
    have := (List.getElem?_eq_some_iff.1 hj).1
    rwa [bvs_length] at this
  have h5 := hr j hjl 0 _ rfl
  have e2 : off + j * byE.k + 0 = off + j := by show off + j * 1 + 0 = off + j; omega
  rw [e2] at h5
  have e3 : u = .int .u8 (L[j].toNat : Int) := by
    have e4 : (bvs L)[j]? = some (.int .u8 (L[j].toNat : Int)) := by
      unfold bvs
      rw [List.getElem?_map, List.getElem?_eq_getElem hjl]
      rfl
    rw [hj] at e4
    exact Option.some.inj e4
  rw [e3]
  exact h5
theorem listAt_of {w : World} {F : Nat → Prop} {a : Option Addr} {n c : Nat} {L : List UInt8} (h : BytesAt w F (.slice a n c) L) (hm : c ≤ maxLen) (hc : a = none → c = 0) : ListAt byE w (.slice a n c) L := by
  obtain ⟨a', cap, e, h1, h2⟩ := h
  cases e
  refine ⟨_, _, rfl, h1, hm, hc, fun hne => ?_⟩
  obtain ⟨g, off, e1, _, hg, hr⟩ := h2 hne
  refine ⟨g, off, e1, hg, fun i hi j u hj => ?_⟩
  obtain rfl : j = 0 := by
    have h5 : j < [Value.int .u8 (L[i].toNat : Int)].length := (List.getElem?_eq_some_iff.1 hj).1
    rw [List.length_singleton] at h5
    omega
  have hu : Value.int .u8 (L[i].toNat : Int) = u := by
    have h5 : [Value.int .u8 (L[i].toNat : Int)][0]? = some u := hj
    exact Option.some.inj h5
  have e2 : off + i * byE.k + 0 = off + i := by show off + i * 1 + 0 = off + i; omega
  rw [e2, ← hu]
  refine hr i _ ?_
  unfold bvs
  rw [List.getElem?_map, List.getElem?_eq_getElem hi]
  rfl
theorem wp_copyBytes {o : Oper} {a : Act} {w : World} {Q : Exit → Act → World → Prop} {K : Act → World → Prop} (hgd : o.guard = none) (d s : Operand)
    (ho : o.op = .call { callee := .builtin .copy, args := #[d, s], argTypes := #[22, 22] }) {g off dLen dCap : Nat} {cur : List UInt8} {T : TypeId} {sv : Value} {F : Nat → Prop} {l : List UInt8}
    (hd : a.eval d = .slice (some ⟨g, off, none⟩) dLen dCap) (hs : a.eval s = sv) (hb : BytesAt w F sv l) (hg : w.heap[g]? = some (.cells (bvs cur).toArray T (0, 0))) (hfit : off + min l.length dLen ≤ cur.length)
    (h : ∀ w', w'.heap[g]? = some (.cells (bvs (spliceL cur off (l.take dLen))).toArray T (0, 0)) → Chg (fun k => k = g) w w' → K (a.put o.dst (.int .i64 ((l.take dLen).length : Int))) w') :
    o.wp Try.prog a w K Q := by
  have h2 : wpList Try.prog #[] (fun e a w => e = Exit.normal ∧ K a w) [o] a w := wpList_copyBytes (rest := []) hgd d s ho hd hs hb hg hfit (fun w' h3 h4 => ⟨rfl, h w' h3 h4⟩)
  unfold wpList at h2
  rw [if_pos (by simp [Region.wanted, hgd])] at h2
  rcases h2 with h2 | ⟨_, a', w', h3, _⟩
  · unfold Oper.wp at h2 ⊢
    generalize (execOp a.eval o).run Try.prog w = r at *
    cases r with
    | ok n w' =>
      cases n <;> simp only [Oper.upon] at h2 ⊢
      case value u => exact h2.2
      case skip => exact h2.2
      case defer d => exact h2.2
      case enter f args => exact Calls.mono h2 fun e w'' he => by cases e <;> first | exact he.2 | (exfalso; obtain ⟨a, w, h, _⟩ := he; cases h) | (exfalso; cases he.1)
      case row row args => exact Rows.mono h2 fun u w'' he => he.2
    | halt x w' => cases x <;> simp only [Oper.upon] at h2 ⊢ <;> first | exact h2 | (exfalso; cases h2.1)
  · cases h3
/-- One article of Decode. -/
def idOf (B : List UInt8) : IdB := if h : B.length = 32 then ⟨B, h⟩ else z32
structure DecS where
  sp : SpD
  s : SrcD
def dec1 (d : DecS) : SrcD := (d.s.takeS 32).fail (decide (idOf (d.s.takeB 32) = z32) || (d.sp.find (idOf (d.s.takeB 32))).isSome) 3
def dec2 (d : DecS) : SrcD := (dec1 d).numS 0 105190559
def decM (d : DecS) : Int := min 65536 (d.sp.budget - (d.sp.size : Int))
def dec3 (d : DecS) : SrcD := (dec2 d).numS 1 (decM d)
def decN (d : DecS) : Nat := ((dec2 d).numV 1 (decM d)).toNat
def dec4 (d : DecS) : SrcD := (dec3 d).takeS (decN d)
def decT (d : DecS) : ByteArray := ⟨((dec3 d).takeB (decN d)).toArray⟩
def decStep (d : DecS) : DecS := ⟨if (dec4 d).e = 0 then putS d.sp (idOf (d.s.takeB 32)) (decT d) ((dec1 d).numV 0 105190559) else d.sp, dec4 d⟩
def decLoop : Nat → DecS → DecS
  | 0, d => d
  | n + 1, d => if d.s.e = 0 then decLoop n (decStep d) else d
def dec0 (b : List UInt8) : DecS := ⟨⟨(⟨b, 0⟩ : SrcD).numV 1 1073741824, 0, []⟩, ((⟨b, 0⟩ : SrcD).numS 1 1073741824).takeS 8⟩
def decC (b : List UInt8) : Nat := ((⟨b, 0⟩ : SrcD).numS 1 1073741824).cnt
def decR (b : List UInt8) : DecS := decLoop (decC b) (dec0 b)
def decE (b : List UInt8) : Int := ((decR b).s.fail (decide (0 < (decR b).s.rest.length)) 5).e
end Go.Proofs.Ytnmdgjodbikndaa
