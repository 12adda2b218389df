/- Records: the law Losses. -/
import Derived.Test.YtloaenknhkfaeaaDoorRec35
import Derived.IntWalk
import Derived.Deep.RegionHeld
namespace Go.Proofs.YtloaenknhkfaeaaDoor
open Go.RowKit
set_option linter.unusedVariables false
set_option linter.unusedSimpArgs false

/-! ### the plain law -/
theorem recAt_num (L : List (List UInt8)) (i : Nat) (h : i < 6) : recAt 5 7 L i = ⟨0, 5, 7 + (i : Int), (L.getD i []).take 600⟩ := by
  unfold recAt
  rw [IntWalk.i64_in _ (by omega)]
theorem recAt_split (L : List (List UInt8)) (i : Nat) (h : i < 6) : splitE (recAt 5 7 L i) = 0 := by
  rw [recAt_num L i h]
  unfold splitE
  have hf : fineB 0 5 (7 + (i : Int)) = true := by simp [fineB]; omega
  rw [if_neg (by simp only; rw [hf]; simp), if_neg (by simp only [List.length_take]; omega)]
def endN (L : List (List UInt8)) (i : Nat) : Nat := (baseL 5 7 L i).length
def recsL (L : List (List UInt8)) (i : Nat) : List RecD := (List.range i).map (recAt 5 7 L)
theorem recsL_length (L : List (List UInt8)) (i : Nat) : (recsL L i).length = i := by simp [recsL]
theorem recsL_succ (L : List (List UInt8)) (i : Nat) : recsL L (i + 1) = recsL L i ++ [recAt 5 7 L i] := by simp [recsL, List.range_succ]
theorem recsL_get (L : List (List UInt8)) (k i : Nat) (h : i < (recsL L k).length) : (recsL L k)[i] = recAt 5 7 L i := by simp [recsL]
theorem recAt_len (L : List (List UInt8)) (i : Nat) (h : i < L.length) : (recAt 5 7 L i).load.length = min L[i].length 600 := by
  unfold recAt
  simp only [List.length_take]
  rw [List.getD_eq_getElem?_getD, List.getElem?_eq_getElem h, Option.getD_some]
  omega
theorem endN_succ (L : List (List UInt8)) (i : Nat) (h : i < 6) : endN L (i + 1) = endN L i + needN (recAt 5 7 L i).load.length := by
  unfold endN
  rw [baseL, List.length_append, splitL_length (recAt_split L i h)]
theorem needN_pos (n : Nat) : 1 ≤ needN n := by unfold needN; omega
theorem endN_le (L : List (List UInt8)) : ∀ i, i ≤ 6 → i ≤ endN L i ∧ endN L i ≤ 3 * i
  | 0, _ => ⟨Nat.le_refl _, Nat.le_refl _⟩
  | i + 1, h => by
    have h1 := endN_le L i (by omega)
    have h2 := endN_succ L i (by omega)
    have h3 := needN_pos (recAt 5 7 L i).load.length
    have h4 := baseL_few 5 7 L (i + 1)
    refine ⟨by omega, h4⟩
/-- What stands behind the first k records. -/
theorem base_split (g n : Int) (L : List (List UInt8)) (k : Nat) : ∀ m, k ≤ m → ∃ X, baseL g n L m = baseL g n L k ++ X
  | 0, h => ⟨[], by obtain rfl : k = 0 := by omega
                    simp⟩
  | m + 1, h => by
    by_cases e : k = m + 1
    · subst e; exact ⟨[], by simp⟩
    · obtain ⟨X, hX⟩ := base_split g n L k m (by omega)
      exact ⟨X ++ splitL (recAt g n L m), by rw [baseL, hX, List.append_assoc]⟩
theorem base_mid (L : List (List UInt8)) (m k : Nat) (h : k < m) : ∃ X, baseL 5 7 L m = baseL 5 7 L k ++ (splitL (recAt 5 7 L k) ++ X) := by
  obtain ⟨X, hX⟩ := base_split 5 7 L (k + 1) m (by omega)
  exact ⟨X, by rw [hX, baseL, List.append_assoc]⟩
theorem joinGo_bad {{r : RecD}} (h : splitE r = 0) (n : Nat) (hn : n < needN r.load.length) (X : List (List UInt8)) (hX : ∀ x, X[0]? = some x → decE x ≠ 0) : ∀ k i acc, i + k = needN r.load.length → i ≤ n → (joinGo ((splitL r).take n ++ X) (partOf r 0) i k acc).2.2 ≠ 0
  | 0, i, _, hk, hi => by omega
  | k + 1, i, acc, hk, hi => by
    have hl : ((splitL r).take n).length = n := by rw [List.length_take, splitL_length h]; omega
    rw [joinGo]
    by_cases e : i = n
    · subst e
      rw [List.getElem?_append_right (by omega), hl, Nat.sub_self]
      cases hx : X[0]? with
      | none => simp
      | some b =>
        simp only
        rw [if_pos (hX b hx)]
        exact hX b hx
    · have hd := dec_enc (partOf_ok h (i := i) (by omega))
      have h0 := splitL_get h (i := i) (by omega) []
      rw [List.append_nil] at h0
      rw [List.getElem?_append_left (by omega), List.getElem?_take_of_lt (by omega), h0]
      simp only
      rw [if_neg (by rw [hd.1]; simp), hd.2, if_pos (by simp [samePl, partOf])]
      exact joinGo_bad h n hn X hX k (i + 1) _ (by omega) (by omega)
theorem join_bad {{r : RecD}} (h : splitE r = 0) (n : Nat) (hn : n < needN r.load.length) (X : List (List UInt8)) (hX : ∀ x, X[0]? = some x → decE x ≠ 0) : (joinL ((splitL r).take n ++ X)).2.2 ≠ 0 := by
  have hl : ((splitL r).take n).length = n := by rw [List.length_take, splitL_length h]; omega
  cases hs : (splitL r).take n ++ X with
  | nil => rw [joinL]; decide
  | cons b l =>
    have hb : ((splitL r).take n ++ X)[0]? = some b := by rw [hs]; rfl
    rw [joinL]
    by_cases e : n = 0
    · subst e
      rw [List.take_zero, List.nil_append] at hb
      rw [if_pos (hX b hb)]
      exact hX b hb
    · have hd := dec_enc (partOf_ok h (i := 0) (by omega))
      have h0 := splitL_get h (i := 0) (by omega) []
      rw [List.append_nil] at h0
      rw [List.getElem?_append_left (by omega), List.getElem?_take_of_lt (by omega), h0] at hb
      have hbe : b = encL (partOf r 0) := by simpa using hb.symm
      rw [hbe, if_neg (by rw [hd.1]; simp), hd.2, if_neg (by simp [partOf])]
      have hj := joinGo_bad h n hn X hX (needN r.load.length - 1) 1 (partOf r 0).bytes (by omega) (by omega)
      rw [hs, hbe] at hj
      exact hj
theorem scan_steps (L cut : List (List UInt8)) (whole : Nat) (hw : whole ≤ 6) (hpre : ∀ j, j < whole → ∃ X, cut.drop (endN L j) = splitL (recAt 5 7 L j) ++ X) (f : Nat) :
    ∀ d j, j + d = whole → scanGo 5 7 cut (f + d) (endN L j) (recsL L j) = scanGo 5 7 cut f (endN L whole) (recsL L whole)
  | 0, j, h => by obtain rfl : j = whole := by omega
                  rfl
  | d + 1, j, h => by
    obtain ⟨X, hX⟩ := hpre j (by omega)
    have hE := recAt_split L j (by omega)
    have hj := join_split hE X
    have hlen : ¬ cut.length ≤ endN L j := by
      intro hle
      have := congrArg List.length hX
      rw [List.length_drop, List.length_append, splitL_length hE] at this
      have := needN_pos (recAt 5 7 L j).load.length
      omega
    have hrec := scan_steps L cut whole hw hpre f d (j + 1) (by omega)
    rw [endN_succ L j (by omega), recsL_succ] at hrec
    rw [← Nat.add_assoc, scanGo, if_neg hlen, hX, hj, if_neg (by simp), if_pos (by
      refine ⟨by rw [recAt_num L j (by omega)], by rw [recAt_num L j (by omega), recsL_length]⟩)]
    exact hrec
/-- The records before the place come back, and no more. -/
theorem losses_scan (L : List (List UInt8)) (at_ whole : Nat) (X : List (List UInt8)) (hm : whole < min L.length 6) (h1 : endN L whole ≤ at_) (h2 : at_ < endN L whole + needN (recAt 5 7 L whole).load.length) (hX : ∀ x, X[0]? = some x → decE x ≠ 0) :
    ∃ code, scanL 5 7 ((baseL 5 7 L (min L.length 6)).take at_ ++ X) = (recsL L whole, endN L whole, code) ∧ (code = 0 ↔ at_ + X.length = endN L whole) := by
  obtain ⟨m, hmm⟩ : ∃ m, min L.length 6 = m := ⟨_, rfl⟩
  rw [hmm] at hm ⊢
  have hm6 : m ≤ 6 := by omega
  obtain ⟨Y, hY⟩ := base_mid L m whole hm
  have hE := recAt_split L whole (by omega)
  have hT : (baseL 5 7 L m).length = endN L whole + (needN (recAt 5 7 L whole).load.length + Y.length) := by
    rw [hY, List.length_append, List.length_append, splitL_length hE]; rfl
  obtain ⟨cut, hcut⟩ : ∃ cut, (baseL 5 7 L m).take at_ ++ X = cut := ⟨_, rfl⟩
  have hcl : cut.length = at_ + X.length := by rw [← hcut, List.length_append, List.length_take]; omega
  have htail : cut.drop (endN L whole) = (splitL (recAt 5 7 L whole)).take (at_ - endN L whole) ++ X := by
    rw [← hcut, List.drop_append, List.length_take, hT]
    have e0 : endN L whole - min at_ (endN L whole + (needN (recAt 5 7 L whole).load.length + Y.length)) = 0 := by omega
    rw [e0, List.drop_zero, List.drop_take]
    congr 1
    have hdb : (baseL 5 7 L m).drop (endN L whole) = splitL (recAt 5 7 L whole) ++ Y := by rw [hY]; exact List.drop_left' rfl
    rw [hdb, List.take_append_of_le_length (by rw [splitL_length hE]; omega)]
  have hpre : ∀ j, j < whole → ∃ Z, cut.drop (endN L j) = splitL (recAt 5 7 L j) ++ Z := by
    intro j hj
    obtain ⟨Z, hZ⟩ := base_mid L m j (by omega)
    have hEj := recAt_split L j (by omega)
    have hmono : endN L (j + 1) ≤ endN L whole := by
      obtain ⟨V, hV⟩ := base_split 5 7 L (j + 1) whole (by omega)
      unfold endN
      rw [hV, List.length_append]
      omega
    rw [endN_succ L j (by omega)] at hmono
    have hTj : (baseL 5 7 L m).length = endN L j + (needN (recAt 5 7 L j).load.length + Z.length) := by
      rw [hZ, List.length_append, List.length_append, splitL_length hEj]; rfl
    refine ⟨Z.take (at_ - endN L j - needN (recAt 5 7 L j).load.length) ++ X, ?_⟩
    rw [← hcut, List.drop_append, List.length_take, hTj]
    have e0 : endN L j - min at_ (endN L j + (needN (recAt 5 7 L j).load.length + Z.length)) = 0 := by omega
    rw [e0, List.drop_zero, List.drop_take]
    have hdb : (baseL 5 7 L m).drop (endN L j) = splitL (recAt 5 7 L j) ++ Z := by rw [hZ]; exact List.drop_left' rfl
    rw [hdb, List.take_append, splitL_length hEj, List.take_of_length_le (l := splitL (recAt 5 7 L j)) (by rw [splitL_length hEj]; omega), List.append_assoc]
  rw [hcut]
  have hfine : ¬ fineB 0 5 7 = false := by decide
  have hwe := (endN_le L whole (by omega)).1
  have hst := scan_steps L cut whole (by omega) hpre (cut.length - whole) whole 0 (by omega)
  rw [show cut.length - whole + whole = cut.length by omega] at hst
  have h00 : endN L 0 = 0 := rfl
  have hr0 : recsL L 0 = [] := rfl
  rw [h00, hr0] at hst
  unfold scanL
  rw [if_neg hfine, hst]
  by_cases hz : cut.length ≤ endN L whole
  · exact ⟨0, scanGo_end _ _ _ _ _ _ hz, ⟨fun _ => by omega, fun _ => rfl⟩⟩
  · obtain ⟨f, hf⟩ : ∃ f, cut.length - whole = f + 1 := ⟨cut.length - whole - 1, by omega⟩
    have hb := join_bad hE (at_ - endN L whole) (by omega) X hX
    rw [← htail] at hb
    refine ⟨(joinL (cut.drop (endN L whole))).2.2, ?_, ⟨fun h => absurd h hb, fun h => by omega⟩⟩
    rw [hf, scanGo, if_neg hz, if_pos hb]

theorem needN_le3 {n : Nat} (h : n ≤ 600) : needN n ≤ 3 := by unfold needN; omega

/-! ### the walk's steps -/
theorem enc_halfB {p : PartD} (h : p.bytes.length ≤ 224) : halfL ((encL p).drop 16) = (encL p).take 16 := by
  rw [encL_rest h, List.drop_left' (by simp [halfL]), List.take_left' (by simp [halfL])]
theorem xor_neB (c b : UInt8) (h : b ≠ 0) : c ^^^ b ≠ c := fun e => h (by
  have h2 : c ^^^ (c ^^^ b) = c ^^^ c := by rw [e]
  rwa [← UInt8.xor_assoc, UInt8.xor_self, UInt8.zero_xor] at h2)
theorem slice_16B (g c : Nat) (hc : 256 ≤ c) (w : World) :
    (Instr.sliceAt 22 (.slice (some ⟨g, 0, none⟩) 256 c) (some (.int .i64 16)) none none).run Tryd.prog w = .ok (.slice (some ⟨g, 16, none⟩) 240 (c - 16)) w := by
  have h := slice_from g 0 256 c 16 (by omega) hc w
  rw [if_neg (by omega)] at h
  simpa using h
theorem bytes_16B {w : World} {B g c : Nat} {l : List UInt8} (h : w.ownsRow B 5 1 (.slice (some ⟨g, 0, none⟩) 256 c) 256 (bvs l)) (hc : 256 ≤ c) : BytesN w (fun k => B ≤ k) (.slice (some ⟨g, 16, none⟩) 240 (c - 16)) (l.drop 16) := by
  have hb := from_bytes h (i := 16) (by omega)
  rw [if_neg (by omega)] at hb
  exact ⟨by simpa using hb, fun k c e => by cases e⟩
theorem splitL_half (r : RecD) : ∀ l ∈ splitL r, halfL (l.drop 16) = l.take 16 := by
  intro l hl
  unfold splitL at hl
  split at hl
  case isTrue h =>
    obtain ⟨i, hi, rfl⟩ := List.mem_map.1 hl
    exact enc_halfB (partOf_ok h (List.mem_range.1 hi)).len
  case isFalse h => cases hl
theorem baseL_half (g n : Int) (L : List (List UInt8)) : ∀ k, ∀ l ∈ baseL g n L k, halfL (l.drop 16) = l.take 16
  | 0, l, h => by cases h
  | k + 1, l, h => by
    rw [baseL] at h
    rcases List.mem_append.1 h with h | h
    · exact baseL_half g n L k l h
    · exact splitL_half _ l h
/-- One of the sectors, with its own row. -/
theorem OwnSecs.at_ {w : World} {B g n cap i : Nat} {M : List (List UInt8)} (h : OwnSecs w B (.slice (some ⟨g, 0, none⟩) n cap) M) (hi : i < M.length) :
    ∃ u, w.cell? ⟨g, i, none⟩ = some u ∧ w.ownsRow B 5 1 u M[i].length (bvs M[i]) := by
  obtain ⟨vs, hr, he⟩ := h.ex
  obtain ⟨u, h1, h2⟩ := he i hi
  obtain ⟨g', c', e, _, _, hc⟩ := ownsRow_at hr (by omega)
  cases e
  exact ⟨u, hc i u h1, h2⟩
/-- Sectors that another list's store, and new memory, leave as they are. -/
theorem OwnSecs.keep {w w2 : World} {B gc : Nat} {v : Value} {M : List (List UInt8)} {cur : Array Value} (h : OwnSecs w B v M) (hg : w.heap[gc]? = some (.cells cur 22 (0, 0))) (hne : ∀ k, v.ownBlock = some k → k ≠ gc)
    (hc : Chg (fun k => k = gc ∨ w.heap.size ≤ k) w w2) : OwnSecs w2 B v M := by
  obtain ⟨vs, hr, he⟩ := h.ex
  refine ⟨vs, ownsRow_chg' hr hc (fun k hk e => ?_), fun i hi => ?_⟩
  · rcases e with e | e
    · exact hne k hk e
    · have := (ownsRow_lt hr k hk).2; omega
  · obtain ⟨u, h1, h2⟩ := he i hi
    refine ⟨u, h1, ownsRow_chg' h2 hc (fun k hk e => ?_)⟩
    rcases e with e | e
    · exact own_ne h2 hg (by decide) k hk e
    · have := (ownsRow_lt h2 k hk).2; omega
/-- A sector copied into a list, and one byte of the copy changed. -/
theorem OwnSecs.copyChange {w wq w1 w2 : World} {B gc gu n cap cu i p : Nat} {C : List (List UInt8)} {l : List UInt8} {x : UInt8} (h : OwnSecs w B (.slice (some ⟨gc, 0, none⟩) n cap) C) (hB : B ≤ w.heap.size)
    (hb : Below w.heap.size w wq) (hu : wq.ownsRow w.heap.size 5 1 (.slice (some ⟨gu, 0, none⟩) 256 cu) 256 (bvs l)) (hl : l.length = 256)
    (hgc : gc < w.heap.size) (hgu : w.heap.size ≤ gu) (h1 : wq.setCell ⟨gc, i, none⟩ (.slice (some ⟨gu, 0, none⟩) 256 cu) = w1) (h2 : w1.setCell ⟨gu, p, none⟩ (bv x) = w2) :
    OwnSecs w2 B (.slice (some ⟨gc, 0, none⟩) n cap) (C.set i (l.set p x)) ∧ w2.ownsRow w.heap.size 5 1 (.slice (some ⟨gu, 0, none⟩) 256 cu) 256 (bvs (l.set p x)) ∧ Chg (fun k => k = gc ∨ w.heap.size ≤ k) w w2 := by
  obtain ⟨vs, hr, he⟩ := h.ex
  have hnn := h.cap.2.1
  rw [← hnn] at hr
  have hc1 : Chg (fun k => k = gc) wq w1 := h1 ▸ Chg.setCell _ _ rfl
  have hc2 : Chg (fun k => k = gu) w1 w2 := h2 ▸ Chg.setCell _ _ rfl
  have hr1 : w1.ownsRow B 22 1 (.slice (some ⟨gc, 0, none⟩) n cap) n (vs.set i (.slice (some ⟨gu, 0, none⟩) 256 cu)) := h1 ▸ ownsRow_set (own_kept hr hb) (i := i) _
  have hr2 := ownsRow_chg' hr1 hc2 (fun k hk e => by cases hk; exact absurd (show gc = gu from e) (by omega))
  have hu1 := ownsRow_chg' hu hc1 (fun k hk e => by cases hk; exact absurd (show gu = gc from e) (by omega))
  have hu2 : w2.ownsRow w.heap.size 5 1 (.slice (some ⟨gu, 0, none⟩) 256 cu) 256 (bvs (l.set p x)) := by
    rw [bvs_set]
    exact h2 ▸ ownsRow_set hu1 (i := p) (bv x)
  obtain ⟨cur, hgr, _⟩ := own_row hr
  refine ⟨⟨vs.set i (.slice (some ⟨gu, 0, none⟩) 256 cu), by rw [List.length_set, ← hnn]; exact hr2, fun j hj => ?_⟩, hu2, ?_⟩
  · rw [List.length_set] at hj
    by_cases hij : i = j
    · subst hij
      refine ⟨_, by rw [List.getElem?_set_self (by have := hr.1; omega)], ?_⟩
      simp only [List.getElem_set_self, List.length_set, hl]
      exact ownsRow_base hu2 hB
    · obtain ⟨y, h3, h4⟩ := he j hj
      refine ⟨y, by rw [List.getElem?_set_ne hij]; exact h3, ?_⟩
      simp only [List.getElem_set_ne hij]
      have hlt := fun k hk => (ownsRow_lt h4 k hk).2
      exact ownsRow_chg' (ownsRow_chg' (own_kept h4 hb) hc1 (fun k hk e => own_ne h4 hgr (by decide) k hk e)) hc2 (fun k hk e => by have := hlt k hk; omega)
  · exact ((Chg.of_below hb).trans (hc1.mono (fun k e => Or.inl e)) (fun k e => by
      rcases e with e | e
      · exact .inl (.inl e)
      · exact .inl (.inr (Nat.le_trans hb.size e)))).trans (hc2.mono (G := fun k => w.heap.size ≤ k) (fun k (e : k = gu) => by omega)) (fun k e => .inl (.inr e))

set_option maxRecDepth 100000 in
set_option maxHeartbeats 2000000 in
theorem RecordLosses_any {w : World} (v : Value) (L : List (List UInt8)) (hv : SecsAt w v L) (place by_ : UInt8) (hK : KAt w) :
    Calls Tryd.prog 12 #[v, .int .u8 (place.toNat : Int), .int .u8 (by_.toNat : Int)] w fun e w' => e = .returned (.bool true) ∧ Below w.heap.size w w' := by
  obtain ⟨va, vc, rfl⟩ := hv.form
  obtain ⟨N, hN⟩ : ∃ N, L.length = N := ⟨_, rfl⟩
  obtain ⟨pl, hpl⟩ : ∃ pl, place.toNat = pl := ⟨_, rfl⟩
  have hpl2 : pl < 256 := by rw [← hpl]; exact place.toNat_lt
  rw [hN] at hv ⊢
  rw [hpl]
  obtain ⟨w1, hw1⟩ : ∃ w1, w.alloc (.cells #[.int .i64 5, .int .i64 7, .slice va N vc, .slice none 0 0, .slice none 0 0, .int .u8 0] 75) = w1 := ⟨_, rfl⟩
  have hb1 : Below w.heap.size w w1 := hw1 ▸ (Below.refl _ w).alloc (Nat.le_refl _) _
  have hrun := run_any (w := w1) ⟨5, 7, .slice va N vc, L, .slice none 0 0, [], none, 0, [], 0⟩ ⟨hv.below hb1, ⟨none, 0, rfl, Nat.le_refl _, Nat.zero_le _, fun h => absurd rfl h⟩, ⟨bytesAt_nil _ _, fun k c e => by cases e; rfl⟩⟩
  have hrun2 : Calls Tryd.prog 38 #[.agg #[.int .i64 5, .int .i64 7, .slice va N vc, .slice none 0 0, .slice none 0 0, .int .u8 0]] w1 (RunPost ⟨5, 7, .slice va N vc, L, .slice none 0 0, [], none, 0, [], 0⟩ w1) := hrun
  have HRUN := Lib.hid hrun2
  have HW1 := Lib.hid hw1
  have HB1 := Lib.hid hb1
  have HK := Lib.hid hK
  have HV := Lib.hid hv
  have HN := Lib.hid hN
  have HPL := Lib.hid hpl
  clear hrun hrun2 hw1 hb1 hK hv hN hpl
  go_enter Tryd.func12, Tryd.ntmps12
  go_wp2_with fail
  rw [HW1.out]
  refine HRUN.out.mono ?_
  rintro e w2 ⟨u, M, rfl, hO, hA, _, hM, hb2⟩
  replace hM := hM rfl rfl
  simp only at hM
  obtain ⟨m, hm⟩ : ∃ m, min L.length 6 = m := ⟨_, rfl⟩
  rw [hm] at hM
  have hmN : m ≤ N ∧ m ≤ 6 ∧ (m = N ∨ m = 6) := by have := HN.out; omega
  obtain ⟨ba, bc, rfl⟩ := hO.form
  obtain ⟨T, hT⟩ : ∃ T, M.length = T := ⟨_, rfl⟩
  have hTe : endN L m = T := by rw [← hT, hM]; rfl
  have hT18 : T ≤ 18 := by have := (endN_le L m (by omega)).2; omega
  rw [hT] at hO ⊢
  have hB2 := HB1.out.trans (hb2.mono HB1.out.size)
  have hkn := known_any (HK.out.below hB2 HK.out.size)
  have HKN := Lib.hid hkn
  have HB2 := Lib.hid hB2
  have HB12 := Lib.hid hb2
  have HO := Lib.hid hO
  have HA := Lib.hid hA
  have HM := Lib.hid hM
  have HMM := Lib.hid hm
  have HT := Lib.hid hT
  have HTE := Lib.hid hTe
  clear hb2 hB2 hkn hO hA hM hm hT hTe HRUN
  go_wp2_with fail
  refine HKN.out.mono ?_
  rintro e w3 ⟨rfl, hb3⟩
  have hB3 := HB2.out.trans (hb3.mono HB2.out.size)
  have HB3 := Lib.hid hB3
  have HO3 := Lib.hid (HO.out.below hb3)
  have HB13 := Lib.hid (HB12.out.trans (hb3.mono HB12.out.size))
  have HKN3 := Lib.hid (known_any (HK.out.below hB3 HK.out.size))
  clear hb3 hB3 HO HKN
  by_cases h0 : T = 0
  · have hz : ((T : Int) == 0) = true := by simp [h0]
    go_wp2_with fail
    refine HKN3.out.mono ?_
    rintro e w4 ⟨rfl, hb4⟩
    go_wp2_with fail
    go_ret
    exact ⟨rfl, HB3.out.trans (hb4.mono HB3.out.size)⟩
  have hz : ((T : Int) == 0) = false := by simp [h0]
  have hT1 : (1 : Int) ≤ (T : Int) := by omega
  have hT2 : (T : Int) ≤ 18 := by omega
  have hTp : 0 < T := by omega
  obtain ⟨at_, hat_⟩ : ∃ at_, pl % T = at_ := ⟨_, rfl⟩
  have hat1 : at_ < T := by rw [← hat_]; exact Nat.mod_lt _ hTp
  have hatI : (pl : Int) % (T : Int) = (at_ : Int) := by rw [← hat_]; rfl
  have hplI : (pl : Int) < 256 := by omega
  have hpl0 : (0 : Int) ≤ (pl : Int) := by omega
  clear hat_ h0
  go_wp2_with fail
  rw [hatI]
  clear hatI hz
  go_loop [10, 11, 12] (fun wv ev iv => ∃ i : Nat, i ≤ m ∧ wv = .int .i64 (i : Int) ∧ ev = .int .i64 (endN L i : Int) ∧ iv = .int .i64 (i : Int) ∧ endN L i ≤ at_) (fun _ _ iv => 6 - (intOf iv).toNat)
  case atStart => exact ⟨0, Nat.zero_le _, rfl, rfl, rfl, Nat.zero_le _⟩
  case round =>
    obtain ⟨i, hi, rfl, rfl, rfl, hend⟩ := hrel
    have him : i < m := by
      rcases Nat.lt_or_ge i m with h | h
      · exact h
      · exfalso
        obtain rfl : i = m := by omega
        have := HTE.out
        omega
    have hiN : (i : Int) < (N : Int) := by omega
    have hi6 : (i : Int) < 6 := by omega
    have hi0 : (0 : Int) ≤ (i : Int) := by omega
    obtain ⟨pg, po, x, k, c, rfl, hx, hxb⟩ := (HV.out.below HB3.out).get (i := i) (by have := HN.out; omega)
    have hxl := hxb.at_.len
    obtain ⟨k6, hk6⟩ : ∃ k6, min k 600 = k6 := ⟨_, rfl⟩
    have hmin := min_600 k
    rw [hk6] at hmin
    have hlen : (recAt 5 7 L i).load.length = k6 := by rw [recAt_len L i (by have := HN.out; omega), ← hxl.1, hk6]
    have hes := endN_succ L i (by omega)
    rw [hlen] at hes
    have hnp := needN_pos k6
    obtain ⟨ns, hns⟩ : ∃ ns, needN k6 = ns := ⟨_, rfl⟩
    have hnl := needN_le3 (show k6 ≤ 600 by omega)
    rw [hns] at hes hnp hnl
    have hrn := fun w => rNeed_any k6 (by omega) w
    rw [hns] at hrn
    obtain ⟨en, hen⟩ : ∃ en, endN L i = en := ⟨_, rfl⟩
    have hee := (endN_le L i (by omega)).2
    rw [hen] at hes hend hee ⊢
    have HRN := Lib.hid hrn
    have HES := Lib.hid hes
    have HEN := Lib.hid hen
    have HLEN := Lib.hid hlen
    have HNS := Lib.hid hns
    clear hxl hk6 hxb hrn hlen hes hns hen
    by_cases hb : at_ < en + ns
    · have hbI : (at_ : Int) < (en : Int) + (ns : Int) := by omega
      have hcap := HO3.out.cap
      have hsl := slice_cutS ba T bc at_ (by omega) hcap.2.2
      clear hcap
      by_cases hby : by_ = 0
      · have hb0 : (by_.toNat : Int) = 0 := by rw [hby]; rfl
        rw [hb0]
        clear hb0
        have hls := losses_scan L at_ i [] (by rw [HMM.out]; exact him) (by rw [HEN.out]; exact hend) (by rw [HEN.out, HLEN.out, HNS.out]; exact hb) (fun x hx => by cases hx)
        rw [HMM.out, ← HM.out, List.append_nil, HEN.out, List.length_nil, Nat.add_zero] at hls
        have HLS := Lib.hid hls
        have HBT := Lib.hid HB13.out
        have HSEC := Lib.hid (HO3.out.take (k := at_) (by omega)).secs
        have HLEN2 := Lib.hid (show (M.take at_).length = at_ by rw [List.length_take, HT.out]; omega)
        clear hls hby
        go_wp2_with ((with_reducible refine (HRN.out _).mono ?_); rintro e w' ⟨rfl, rfl⟩)
        clear hsl hmin hx
        obtain ⟨code, hsc, hcode⟩ := HLS.out
        have hscan := Scan_any 5 7 (M.take at_) _ HSEC.out (by rw [HLEN2.out]; omega) (HK.out.below (HB1.out.trans (HBT.out.mono HB1.out.size)) HK.out.size)
        have HSCAN := Lib.hid hscan
        have HSC := Lib.hid hsc
        have hq : ∃ q : Bool, ((code : Int) == 0) = q ∧ (((at_ : Nat) : Int) == ((en : Nat) : Int)) = q := by
          by_cases h : code = 0
          · have h2 := hcode.1 h
            exact ⟨true, by simp [h], by simp [h2]⟩
          · have h2 := fun e => h (hcode.2 e)
            refine ⟨false, by simpa using h, by simp; omega⟩
        obtain ⟨q, hq1, hq2⟩ := hq
        clear hscan hsc hcode
        go_wp2_with fail
        refine HSCAN.out.mono ?_
        rintro e ws ⟨sv, rfl, hor, hbs⟩
        rw [HSC.out] at hor ⊢
        simp only [HEN.out] at hor ⊢
        obtain ⟨ra, rc, rfl⟩ := hor.form
        rw [recsL_length] at hor ⊢
        have HOR := Lib.hid hor
        have HBS := Lib.hid (HBT.out.trans (hbs.mono HBT.out.size))
        have hi18 : (i : Int) ≤ 6 := by omega
        clear hor hbs
        go_wp2_with fail
        clear hq1 hq2
        go_loopw [21] (fun tv wr => ∃ t : Nat, t ≤ i ∧ tv = .int .i64 (t : Int) ∧ Below w1.heap.size w1 wr ∧ Below ws.heap.size ws wr) (fun tv _ => i - (intOf tv).toNat)
        case atStart => exact ⟨0, Nat.zero_le _, rfl, HBS.out, Below.refl _ _⟩
        case round =>
          obtain ⟨t, ht, rfl, hB, hBs⟩ := hrel
          have HB := Lib.hid hB
          have HBs := Lib.hid hBs
          clear hB hBs
          by_cases hlt : t < i
          · have htI : (t : Int) < (i : Int) := by omega
            have htI0 : (0 : Int) ≤ (t : Int) := by omega
            have htN : (t : Int) < (N : Int) := by omega
            have hw7 : IntKind.i64.wrap (7 + (t : Int)) = 7 + (t : Int) := IntWalk.i64_in _ (by omega)
            obtain ⟨rg, rx, rcc, rfl, r0, r1, r2, r3, hrb⟩ := (HOR.out.below HBs.out).get (i := t) (by rw [recsL_length]; exact hlt)
            rw [recsL_get, recAt_num L t (by omega)] at r2 r3 hrb
            obtain ⟨pg2, po2, y, k2, c2, e2, hy, hyb⟩ := (HV.out.below (HB1.out.trans (HB.out.mono HB1.out.size))).get (i := t) (by have := HN.out; omega)
            cases e2
            obtain ⟨ld, hld⟩ : ∃ ld, (L.getD t []).take 600 = ld := ⟨_, rfl⟩
            simp only [hld] at r2 r3 hrb
            have hyl := hyb.at_.len
            obtain ⟨k7, hk7⟩ : ∃ k7, min k2 600 = k7 := ⟨_, rfl⟩
            have hmin := min_600 k2
            rw [hk7] at hmin
            have hsl := slice_cut y k2 c2 k7 (by omega) (fun e => hyb.nil k2 c2 (by rw [e]))
            have hcut := hyb.take k7 (by omega)
            have hl7 : (L[t]'(by have := HN.out; omega)).take k7 = ld := by
              rw [← hld, List.getD_eq_getElem?_getD, List.getElem?_eq_getElem (by have := HN.out; omega), Option.getD_some, ← hk7, hyl.1]
              by_cases h : (L[t]'(by have := HN.out; omega)).length ≤ 600
              · rw [Nat.min_eq_left h, List.take_of_length_le (Nat.le_refl _), List.take_of_length_le h]
              · rw [Nat.min_eq_right (by omega)]
            rw [hl7] at hcut
            obtain ⟨nl, hnl2⟩ : ∃ nl, ld.length = nl := ⟨_, rfl⟩
            rw [hnl2] at r3 hrb
            have hcell : ∀ w' : World, Below wr.heap.size wr w' → w'.cell? ⟨rg, t * 4 + 2, none⟩ = some (.int .i64 (7 + (t : Int))) ∧ w'.cell? ⟨rg, t * 4 + 3, none⟩ = some (.slice rx nl rcc) ∧ w'.cell? ⟨pg, po + t, none⟩ = some (.slice y k2 c2) := by
              intro w' hb
              exact ⟨(hb.cell (p := ⟨rg, t * 4 + 2, none⟩) (World.block_lt_of_cell? _ _ r2)).trans r2, (hb.cell (p := ⟨rg, t * 4 + 3, none⟩) (World.block_lt_of_cell? _ _ r3)).trans r3, (hb.cell (p := ⟨pg, po + t, none⟩) (World.block_lt_of_cell? _ _ hy)).trans hy⟩
            have hstr1 : ∀ w' : World, Below wr.heap.size wr w' → (convert 22 9 (.slice rx nl rcc)).run Tryd.prog w' = .ok (.string ⟨ld.toArray⟩) w' := fun w' hb => (hrb.below hb).at_.str
            have hstr2 : ∀ w' : World, Below wr.heap.size wr w' → (convert 22 9 (.slice y k7 c2)).run Tryd.prog w' = .ok (.string ⟨ld.toArray⟩) w' := fun w' hb => (hcut.below hb).at_.str
            obtain ⟨str, hstr⟩ : ∃ str : ByteArray, (⟨ld.toArray⟩ : ByteArray) = str := ⟨_, rfl⟩
            simp only [hstr] at hstr1 hstr2
            have HCELL := Lib.hid hcell
            have HST1 := Lib.hid hstr1
            have HST2 := Lib.hid hstr2
            clear r0 r1 r2 r3 hrb hy hyb hyl hk7 hcut hl7 hnl2 hcell hstr hstr1 hstr2 hld
            go_wp2_with fail
            refine wp_region_noPanic ?_
            refine wp_region_H (Below wr.heap.size wr) (by kernel_rfl) ?_
            have hS0 : (Below wr.heap.size wr) wr.drew := (Below.refl _ _).drew
            obtain ⟨wd, hwd⟩ : ∃ wd, wr.drew = wd := ⟨_, rfl⟩
            rw [hwd] at hS0 ⊢
            clear hwd
            refine wpAnyH_takeI (i := 0) (v := ?v1) rfl (by kernel_rfl) (by kernel_rfl) (by kernel_rfl) (fun _ _ _ h => h) (yieldsIf_run rfl (fun w' hw' => ?y1)) hS0 ?_
            case y1 => first | (go_simp; rfl) | (go_simp; done) | rfl
            simp only [Act.put, List.setIfInBounds_toArray, List.set_cons_zero, List.set_cons_succ]
            refine wpAnyH_takeI (i := 1) (v := ?v2) rfl (by kernel_rfl) (by kernel_rfl) (by kernel_rfl) (fun _ _ _ h => h) (yieldsIf_run rfl (fun w' hw' => ?y2)) hS0 ?_
            case y2 => first | (go_simp; rfl) | (go_simp; done) | rfl
            simp only [Act.put, List.setIfInBounds_toArray, List.set_cons_zero, List.set_cons_succ]
            refine wpAnyH_takeI (i := 2) (v := ?v3) rfl (by kernel_rfl) (by kernel_rfl) (by kernel_rfl) (fun _ _ _ h => h) (yieldsIf_run rfl (fun w' hw' => ?y3)) hS0 ?_
            case y3 => first | (go_simp; rfl) | (go_simp; done) | rfl
            simp only [Act.put, List.setIfInBounds_toArray, List.set_cons_zero, List.set_cons_succ]
            refine wpAnyH_takeI (i := 3) (v := ?v4) rfl (by kernel_rfl) (by kernel_rfl) (by kernel_rfl) (fun _ _ _ h => h) (yieldsIf_run rfl (fun w' hw' => ?y4)) hS0 ?_
            case y4 => first | (go_simp; rfl) | (go_simp; done) | rfl
            simp only [Act.put, List.setIfInBounds_toArray, List.set_cons_zero, List.set_cons_succ]
            refine wpAnyH_takeI (i := 4) (v := ?v5) rfl (by kernel_rfl) (by kernel_rfl) (by kernel_rfl) (fun _ _ _ h => h) (yieldsIf_run rfl (fun w' hw' => ?y5)) hS0 ?_
            case y5 => (obtain ⟨y0, y1, y2⟩ := HCELL.out w' hw'; clear hw'; first | (go_simp; rfl) | (go_simp; done))
            simp only [Act.put, List.setIfInBounds_toArray, List.set_cons_zero, List.set_cons_succ]
            refine wpAnyH_takeI (i := 5) (v := ?v6) rfl (by kernel_rfl) (by kernel_rfl) (by kernel_rfl) (fun _ _ _ h => h) (yieldsIf_run rfl (fun w' hw' => ?y6)) hS0 ?_
            case y6 => first | (go_simp; rfl) | (go_simp; done) | rfl
            simp only [Act.put, List.setIfInBounds_toArray, List.set_cons_zero, List.set_cons_succ]
            refine wpAnyH_takeI (i := 6) (v := .int .i64 (7 + (t : Int))) rfl (by kernel_rfl) (by kernel_rfl) (by kernel_rfl) (fun _ _ _ h => h) (yieldsIf_run rfl (fun w' hw' => ?y7)) hS0 ?_
            case y7 => first | (go_simp; rfl) | (go_simp; done) | rfl
            simp only [Act.put, List.setIfInBounds_toArray, List.set_cons_zero, List.set_cons_succ]
            refine wpAnyH_takeI (i := 7) (v := .bool false) rfl (by kernel_rfl) (by kernel_rfl) (by kernel_rfl) (fun _ _ _ h => h) (yieldsIf_run rfl (fun w' hw' => ?y8)) hS0 ?_
            case y8 => first | (go_simp; rfl) | (go_simp; done) | rfl
            simp only [Act.put, List.setIfInBounds_toArray, List.set_cons_zero, List.set_cons_succ]
            refine wpAnyH_takeI (i := 8) (v := ?v9) rfl (by kernel_rfl) (by kernel_rfl) (by kernel_rfl) (fun _ _ _ h => h) (yieldsIf_run rfl (fun w' hw' => ?y9)) hS0 ?_
            case y9 => first | (go_simp; rfl) | (go_simp; done) | rfl
            simp only [Act.put, List.setIfInBounds_toArray, List.set_cons_zero, List.set_cons_succ]
            refine wpAnyH_takeI (i := 9) (v := ?v10) rfl (by kernel_rfl) (by kernel_rfl) (by kernel_rfl) (fun _ _ _ h => h) (yieldsIf_want rfl (fun w' hw' => ?y10)) hS0 ?_
            case y10 => first | (go_simp; rfl) | (go_simp; done) | rfl
            simp only [Act.put, List.setIfInBounds_toArray, List.set_cons_zero, List.set_cons_succ]
            refine wpAnyH_takeI (i := 10) (v := ?v11) rfl (by kernel_rfl) (by kernel_rfl) (by kernel_rfl) (fun _ _ _ h => h) (yieldsIf_want rfl (fun w' hw' => ?y11)) hS0 ?_
            case y11 => first | (go_simp; rfl) | (go_simp; done) | rfl
            simp only [Act.put, List.setIfInBounds_toArray, List.set_cons_zero, List.set_cons_succ]
            refine wpAnyH_takeI (i := 11) (v := ?v12) rfl (by kernel_rfl) (by kernel_rfl) (by kernel_rfl) (fun _ _ _ h => h) (yieldsIf_want rfl (fun w' hw' => ?y12)) hS0 ?_
            case y12 => first | (go_simp; rfl) | (go_simp; done) | rfl
            simp only [Act.put, List.setIfInBounds_toArray, List.set_cons_zero, List.set_cons_succ]
            refine wpAnyH_takeI (i := 12) (v := ?v13) rfl (by kernel_rfl) (by kernel_rfl) (by kernel_rfl) (fun _ _ _ h => h) (yieldsIf_want rfl (fun w' hw' => ?y13)) hS0 ?_
            case y13 => first | (go_simp; rfl) | (go_simp; done) | rfl
            simp only [Act.put, List.setIfInBounds_toArray, List.set_cons_zero, List.set_cons_succ]
            refine wpAnyH_takeI (i := 13) (v := ?v14) rfl (by kernel_rfl) (by kernel_rfl) (by kernel_rfl) (fun _ _ _ h => h) (yieldsIf_want rfl (fun w' hw' => ?y14)) hS0 ?_
            case y14 => (obtain ⟨y0, y1, y2⟩ := HCELL.out w' hw'; clear hw'; first | (go_simp; rfl) | (go_simp; done))
            simp only [Act.put, List.setIfInBounds_toArray, List.set_cons_zero, List.set_cons_succ]
            refine wpAnyH_takeI (i := 14) (v := .string str) rfl (by kernel_rfl) (by kernel_rfl) (by kernel_rfl) (fun _ _ _ h => h) (yieldsIf_want rfl (fun w' hw' => ?y15)) hS0 ?_
            case y15 => (have HS := HST1.out w' hw'; clear hw'; first | (go_simp; rfl) | (go_simp; done))
            simp only [Act.put, List.setIfInBounds_toArray, List.set_cons_zero, List.set_cons_succ]
            refine wpAnyH_takeI (i := 15) (v := ?v16) rfl (by kernel_rfl) (by kernel_rfl) (by kernel_rfl) (fun _ _ _ h => h) (yieldsIf_want rfl (fun w' hw' => ?y16)) hS0 ?_
            case y16 => first | (go_simp; rfl) | (go_simp; done) | rfl
            simp only [Act.put, List.setIfInBounds_toArray, List.set_cons_zero, List.set_cons_succ]
            refine wpAnyH_takeI (i := 16) (v := ?v17) rfl (by kernel_rfl) (by kernel_rfl) (by kernel_rfl) (fun _ _ _ h => h) (yieldsIf_want rfl (fun w' hw' => ?y17)) hS0 ?_
            case y17 => first | (go_simp; rfl) | (go_simp; done) | rfl
            simp only [Act.put, List.setIfInBounds_toArray, List.set_cons_zero, List.set_cons_succ]
            refine wpAnyH_takeI (i := 17) (v := ?v18) rfl (by kernel_rfl) (by kernel_rfl) (by kernel_rfl) (fun _ _ _ h => h) (yieldsIf_want rfl (fun w' hw' => ?y18)) hS0 ?_
            case y18 => first | (go_simp; rfl) | (go_simp; done) | rfl
            simp only [Act.put, List.setIfInBounds_toArray, List.set_cons_zero, List.set_cons_succ]
            refine wpAnyH_takeI (i := 18) (v := ?v19) rfl (by kernel_rfl) (by kernel_rfl) (by kernel_rfl) (fun _ _ _ h => h) (yieldsIf_want rfl (fun w' hw' => ?y19)) hS0 ?_
            case y19 => (obtain ⟨y0, y1, y2⟩ := HCELL.out w' hw'; clear hw'; first | (go_simp; rfl) | (go_simp; done))
            simp only [Act.put, List.setIfInBounds_toArray, List.set_cons_zero, List.set_cons_succ]
            refine wpAnyH_takeI (i := 19) (v := ?v20) rfl (by kernel_rfl) (by kernel_rfl) (by kernel_rfl) (fun _ _ _ h => h) (yieldsIf_want rfl (fun w' hw' => ?y20)) hS0 ?_
            case y20 => first | (go_simp; rfl) | (go_simp; done) | rfl
            simp only [Act.put, List.setIfInBounds_toArray, List.set_cons_zero, List.set_cons_succ]
            refine wpAnyH_takeI (i := 20) (v := ?v21) rfl (by kernel_rfl) (by kernel_rfl) (by kernel_rfl) (fun _ _ _ h => h) (yieldsIf_want rfl (fun w' hw' => ?y21)) hS0 ?_
            case y21 => first | (go_simp; rfl) | (go_simp; done) | rfl
            simp only [Act.put, List.setIfInBounds_toArray, List.set_cons_zero, List.set_cons_succ]
            refine wpAnyH_takeI (i := 21) (v := ?v22) rfl (by kernel_rfl) (by kernel_rfl) (by kernel_rfl) (fun _ _ _ h => h) (yieldsIf_want rfl (fun w' hw' => ?y22)) hS0 ?_
            case y22 => first | (go_simp; rfl) | (go_simp; done) | rfl
            simp only [Act.put, List.setIfInBounds_toArray, List.set_cons_zero, List.set_cons_succ]
            refine wpAnyH_takeI (i := 22) (v := ?v23) rfl (by kernel_rfl) (by kernel_rfl) (by kernel_rfl) (fun _ _ _ h => h) (yieldsIf_want rfl (fun w' hw' => ?y23)) hS0 ?_
            case y23 => (obtain ⟨y0, y1, y2⟩ := HCELL.out w' hw'; clear hw'; first | (go_simp; rfl) | (go_simp; done))
            simp only [Act.put, List.setIfInBounds_toArray, List.set_cons_zero, List.set_cons_succ]
            refine wpAnyH_takeI (i := 23) (v := ?v24) rfl (by kernel_rfl) (by kernel_rfl) (by kernel_rfl) (fun _ _ _ h => h) (yieldsIf_want rfl (fun w' hw' => ?y24)) hS0 ?_
            case y24 => first | (go_simp; rfl) | (go_simp; done) | rfl
            simp only [Act.put, List.setIfInBounds_toArray, List.set_cons_zero, List.set_cons_succ]
            refine wpAnyH_takeI (i := 24) (v := .int .i64 (k7 : Int)) rfl (by kernel_rfl) (by kernel_rfl) (by kernel_rfl) (fun _ _ _ h => h) (yieldsIf_want rfl (fun w' hw' => ?y25)) hS0 ?_
            case y25 => first | (go_simp; rfl) | (go_simp; done) | rfl
            simp only [Act.put, List.setIfInBounds_toArray, List.set_cons_zero, List.set_cons_succ]
            refine wpAnyH_takeI (i := 25) (v := .slice y k7 c2) rfl (by kernel_rfl) (by kernel_rfl) (by kernel_rfl) (fun _ _ _ h => h) (yieldsIf_want rfl (fun w' hw' => ?y26)) hS0 ?_
            case y26 => first | (go_simp; rfl) | (go_simp; done) | rfl
            simp only [Act.put, List.setIfInBounds_toArray, List.set_cons_zero, List.set_cons_succ]
            refine wpAnyH_takeI (i := 26) (v := .string str) rfl (by kernel_rfl) (by kernel_rfl) (by kernel_rfl) (fun _ _ _ h => h) (yieldsIf_want rfl (fun w' hw' => ?y27)) hS0 ?_
            case y27 => (have HS := HST2.out w' hw'; clear hw'; first | (go_simp; rfl) | (go_simp; done))
            simp only [Act.put, List.setIfInBounds_toArray, List.set_cons_zero, List.set_cons_succ]
            refine wpAnyH_takeI (i := 27) (v := .bool false) rfl (by kernel_rfl) (by kernel_rfl) (by kernel_rfl) (fun _ _ _ h => h) (yieldsIf_want rfl (fun w' hw' => ?y28)) hS0 ?_
            case y28 => first | (go_simp; rfl) | (go_simp; done) | rfl
            simp only [Act.put, List.setIfInBounds_toArray, List.set_cons_zero, List.set_cons_succ]
            refine wpAnyH_takeI (i := 28) (v := ?v29) rfl (by kernel_rfl) (by kernel_rfl) (by kernel_rfl) (fun _ _ _ h => h) (yieldsIf_run rfl (fun w' hw' => ?y29)) hS0 ?_
            case y29 => first | (go_simp; rfl) | (go_simp; done) | rfl
            simp only [Act.put, List.setIfInBounds_toArray, List.set_cons_zero, List.set_cons_succ]
            refine wpAnyH_done (by kernel_rfl) ?_ _
            refine NoPanic.normal ?_
            go_wp2_with fail
            go_roundw
            case rel => exact ⟨t + 1, by omega, by go_num, HB.out.trans (hS0.mono HB.out.size), HBs.out.trans (hS0.mono HBs.out.size)⟩
            case measure => simp [intOf]; omega
          · go_wp2_with fail
            go_ret
            exact ⟨rfl, HB1.out.trans (HB.out.mono HB1.out.size)⟩
      · have hbyI : ((by_.toNat : Int) == 0) = false := by
          have : by_.toNat ≠ 0 := fun e => hby (UInt8.toNat_inj.1 e)
          simp; omega
        have hba : Below w3.heap.size w3 (w3.alloc (.cells #[] 22)) := (Below.refl _ _).alloc (Nat.le_refl _) _
        have hoz := ownSecs_zero (w := w3) (B := w1.heap.size) HB13.out.size
        have hok := HO3.out.below hba
        have HOZ := Lib.hid hoz
        have HOK := Lib.hid hok
        have HBA := Lib.hid hba
        have HBYI := Lib.hid hby
        clear hba hoz hok hby
        go_wp2_with (first | ((with_reducible refine (HRN.out _).mono ?_); rintro e w' ⟨rfl, rfl⟩) | (at_builtin; refine wpList_appSecs (n := 0) (m := T) rfl (.tmp 71) (.tmp 72) rfl rfl HOZ.out rfl HOK.out rfl HT.out (by omega) (Nat.le_trans HB13.out.size HBA.out.size) w3.heap.size (fun k hk => by cases hk; exact Nat.le_refl _) HBA.out.size ?_))
        intro ca cc w4 ho4 hk4 hb4
        try simp only [Nat.zero_add, List.nil_append] at ho4 hk4
        try simp only [Nat.zero_add]
        obtain ⟨bg, rfl, hbg1, hbg2⟩ := ownSecs_addr HO3.out (by rw [HT.out]; exact hTp)
        obtain ⟨cg, rfl, hcg1, hcg2⟩ := ownSecs_addr ho4 (by rw [HT.out]; exact hTp)
        have hcg3 := hk4 cg rfl
        have hb34 := HBA.out.trans hb4
        have HO4 := Lib.hid ho4
        have HOB4 := Lib.hid (HO3.out.below hb34)
        have HB4 := Lib.hid (HB13.out.trans (hb34.mono HB13.out.size))
        have hne : bg ≠ cg := by omega
        clear ho4 hk4 hb4 hb34 HOZ HOK HBA hbg1 hbg2 hcg1 hcg2 hcg3 hmin hsl hx
        go_wp2_with fail
        go_loopw [15] (fun jv wr => ∃ (j : Nat) (C : List (List UInt8)), at_ ≤ j ∧ j ≤ T ∧ jv = .int .i64 (j : Int) ∧ C.length = T ∧ C.take at_ = M.take at_ ∧ (at_ < j → ∀ x, C[at_]? = some x → decE x ≠ 0) ∧ OwnSecs wr w1.heap.size (.slice (some ⟨cg, 0, none⟩) T cc) C ∧ OwnSecs wr w1.heap.size (.slice (some ⟨bg, 0, none⟩) T bc) M ∧ Below w1.heap.size w1 wr) (fun jv _ => T - (intOf jv).toNat)
        case atStart => exact ⟨at_, M, Nat.le_refl _, by omega, rfl, HT.out, rfl, fun h => by omega, HO4.out, HOB4.out, HB4.out⟩
        case round =>
          obtain ⟨j, C, hj1, hj2, rfl, hC, hCt, hCb, hOC, hOB, hB⟩ := hrel
          have HC := Lib.hid hC
          have HCT := Lib.hid hCt
          have HCB := Lib.hid hCb
          have HOC := Lib.hid hOC
          have HOB := Lib.hid hOB
          have HB := Lib.hid hB
          clear hC hCt hCb hOC hOB hB
          by_cases hlt : j < T
          · have hjI : (j : Int) < (T : Int) := by omega
            have hjI0 : (0 : Int) ≤ (j : Int) := by omega
            have hjM : j < M.length := by rw [HT.out]; exact hlt
            obtain ⟨u0, hu0, hur⟩ := HOB.out.at_ hjM
            have hl256 : M[j].length = 256 := HA.out _ (List.getElem_mem hjM)
            have hhalf : halfL (M[j].drop 16) = M[j].take 16 := by
              refine baseL_half 5 7 L m _ ?_
              rw [← HM.out]
              exact List.getElem_mem hjM
            obtain ⟨l, hl⟩ : ∃ l, M[j] = l := ⟨_, rfl⟩
            rw [hl] at hur hl256 hhalf
            rw [hl256] at hur
            obtain ⟨ua, uc, rfl⟩ := ownsRow_form hur
            obtain ⟨ug, rfl, _, _, hug⟩ := own_addr hur (by decide)
            have hucap := (own_bytes hur).len.2
            have hba : Below wr.heap.size wr (wr.alloc (.cells #[] 5)) := (Below.refl _ _).alloc (Nat.le_refl _) _
            have hbu := (hba.cell (p := ⟨bg, j, none⟩) (World.block_lt_of_cell? _ _ hu0)).trans hu0
            have ho := own_zero (w := wr) (Nat.le_refl _) 5
            have hbv := own_bytesN (own_kept hur hba)
            have HU := Lib.hid hur
            have HL256 := Lib.hid hl256
            have HHALF := Lib.hid hhalf
            have HBA := Lib.hid hba
            have HZ := Lib.hid ho
            have HBV := Lib.hid hbv
            clear hl hur hl256 hhalf hba ho hbv hjM
            go_wp2_with (at_builtin; refine wpList_appBytes (xs := []) rfl (.tmp 83) (.tmp 87) rfl rfl HZ.out rfl HBV.out.at_ HBV.out.nil (by rw [HL256.out]; omega) HBA.out.size ?_)
            intro a7 c7 w7 hO7 hg7
            rw [HL256.out] at hO7 ⊢
            try simp only [Nat.zero_add, List.nil_append] at hO7 ⊢
            have hB7 : Below wr.heap.size wr w7 := HBA.out.grown hg7 HBA.out.size (fun j hj => by cases hj; exact Nat.le_refl _)
            obtain ⟨vg, rfl, _, hvg1, hvg2⟩ := own_addr hO7 (by decide)
            have hvcap := (own_bytes hO7).len.2
            obtain ⟨g9, o9, e9, hcu⟩ := (own_bytes hO7).get (i := pl) (by rw [HL256.out]; exact hpl2)
            cases e9
            rw [Nat.zero_add] at hcu
            obtain ⟨c, hc⟩ : ∃ c, l[pl]'(by rw [HL256.out]; exact hpl2) = c := ⟨_, rfl⟩
            rw [hc] at hcu
            have hxor := bits_xor_u8 c by_
            obtain ⟨cur, hcur, _⟩ := own_row hO7
            have hfz : w7.frozen? ⟨vg, pl, none⟩ = false := frozen_of_row _ _ _ _ _ hcur
            obtain ⟨⟨q0, hq0⟩, hqf⟩ := ownSecs_cell (HOC.out.below hB7) hlt
            have hcgl : cg < wr.heap.size := by
              obtain ⟨_, e, _, h⟩ := ownSecs_addr HOC.out (by rw [HC.out]; exact hTp)
              cases e
              exact h
            have hvc : ¬ vg = cg := by omega
            have hcv : ¬ cg = vg := by omega
            obtain ⟨w8, hw8⟩ : ∃ w8, w7.setCell ⟨cg, j, none⟩ (.slice (some ⟨vg, 0, none⟩) 256 c7) = w8 := ⟨_, rfl⟩
            obtain ⟨w9, hw9⟩ : ∃ w9, w8.setCell ⟨vg, pl, none⟩ (bv (c ^^^ by_)) = w9 := ⟨_, rfl⟩
            have hw9' : w8.setCell ⟨vg, pl, none⟩ (.int .u8 ((c.toNat ^^^ by_.toNat : Nat) : Int)) = w9 := by rw [← UInt8.toNat_xor]; exact hw9
            obtain ⟨hs1, hs2, hs3⟩ := HOC.out.copyChange (p := pl) HB.out.size hB7 hO7 HL256.out hcgl hvg1 hw8 hw9
            have e80 : w8.cell? ⟨cg, j, none⟩ = some (.slice (some ⟨vg, 0, none⟩) 256 c7) := hw8 ▸ World.cell?_setCell_same _ _ _ hq0
            have e81 : w8.cell? ⟨vg, pl, none⟩ = some (.int .u8 (c.toNat : Int)) := hw8 ▸ (World.cell?_setCell_far _ ⟨cg, j, none⟩ ⟨vg, pl, none⟩ _ hcv).trans hcu
            have e82 : w8.frozen? ⟨vg, pl, none⟩ = false := hw8 ▸ (World.frozen?_setCell _ _ _ _).trans hfz
            have e90 : w9.cell? ⟨cg, j, none⟩ = some (.slice (some ⟨vg, 0, none⟩) 256 c7) := hw9 ▸ (World.cell?_setCell_far _ ⟨vg, pl, none⟩ ⟨cg, j, none⟩ _ hvc).trans e80
            have hplI2 : (pl : Int) < 256 := by omega
            have htam := tamper HL256.out HHALF.out hpl2 (show c ^^^ by_ ≠ l[pl]'(by rw [HL256.out]; exact hpl2) by rw [hc]; exact xor_neB c by_ HBYI.out)
            obtain ⟨L8, hL8⟩ : ∃ L8, l.set pl (c ^^^ by_) = L8 := ⟨_, rfl⟩
            rw [hL8] at hs1 hs2 htam
            obtain ⟨curb, hcurb, _⟩ := (by obtain ⟨vs, hr, _⟩ := HOC.out.ex; have hnn := HOC.out.cap.2.1; rw [← hnn] at hr; exact (own_row hr).imp fun _ h => ⟨h.1, trivial⟩ : ∃ cur : Array Value, wr.heap[cg]? = some (.cells cur 22 (0, 0)) ∧ True)
            have hob9 := HOB.out.keep hcurb (fun k hk e => by cases hk; exact hne e) hs3
            have hu9 := ownsRow_chg' HU.out hs3 (fun k hk e => by
              rcases e with e | e
              · exact own_ne HU.out hcurb (by decide) k hk e
              · have := (ownsRow_lt HU.out k hk).2; omega)
            have hb9 : Below w1.heap.size w1 w9 := HB.out.trans (hs3.below (fun k e => by
              rcases e with e | e
              · obtain ⟨_, e2, h, _⟩ := ownSecs_addr HOC.out (by rw [HC.out]; exact hTp)
                cases e2
                omega
              · have := HB.out.size; omega) HB.out.size)
            have hdec := rDecode_any L8 _ (own_bytes hs2)
            have HDEC := Lib.hid hdec
            have HS1 := Lib.hid hs1
            have HS2 := Lib.hid hs2
            have HOB9 := Lib.hid hob9
            have e9b : w9.cell? ⟨bg, j, none⟩ = some (.slice (some ⟨ug, 0, none⟩) 256 uc) := hs3.cell (fun e => by
              rcases e with e | e
              · exact hne e
              · have := World.block_lt_of_cell? _ _ hu0; have e2 : wr.heap.size ≤ bg := e; have e3 : bg < wr.heap.size := this; omega) hu0
            have HE9 := Lib.hid (And.intro e9b e90)
            have HUC := Lib.hid hucap
            clear e9b
            have HU9 := Lib.hid hu9
            have HB9 := Lib.hid hb9
            have HTAM := Lib.hid htam
            have HVC := Lib.hid hvcap
            have HL8 := Lib.hid (show L8.length = 256 by rw [← hL8, List.length_set]; exact HL256.out)
            clear hdec hs1 hs2 hob9 hu9 hb9 htam hvcap hL8 hc hB7 hg7 hO7 HZ HBV HBA HHALF hvg1 hvg2 hw9 hcur hcurb hs3 hcgl hug hucap
            go_wp2_with fail
            refine HDEC.out.mono ?_
            intro e wd9 hd9
            obtain ⟨a9, c9, rfl, _, hbd⟩ := hd9.parts
            obtain ⟨d, hd⟩ : ∃ d, decP L8 = d := ⟨_, rfl⟩
            obtain ⟨E, hE⟩ : ∃ E, decE L8 = E := ⟨_, rfl⟩
            rw [hd, hE]
            obtain ⟨ND, hND⟩ : ∃ ND, d.bytes.length = ND := ⟨_, rfl⟩
            rw [hND]
            obtain ⟨wa, hwa⟩ : ∃ wa, wd9.alloc (.cells #[.int .i64 d.kind, .int .i64 d.gen, .int .i64 d.num, .int .i64 d.idx, .int .i64 d.cnt, .slice a9 ND c9] 24) = wa := ⟨_, rfl⟩
            have hba : Below wd9.heap.size wd9 wa := hwa ▸ (Below.refl _ _).alloc (Nat.le_refl _) _
            have hb9a := hbd.trans (hba.mono hbd.size)
            have HWA := Lib.hid hwa
            have HEE := Lib.hid hE
            have HS1a := Lib.hid (HS1.out.below hb9a)
            have HOBa := Lib.hid (HOB9.out.below hb9a)
            have HUa := Lib.hid (own_kept HU9.out hb9a)
            have HS2a := Lib.hid (own_kept HS2.out hb9a)
            have hcell : ∀ w' : World, Below wa.heap.size wa w' → w'.cell? ⟨bg, j, none⟩ = some (.slice (some ⟨ug, 0, none⟩) 256 uc) ∧ w'.cell? ⟨cg, j, none⟩ = some (.slice (some ⟨vg, 0, none⟩) 256 c7) := by
              intro w' hb
              have hbb := hb9a.trans (hb.mono hb9a.size)
              exact ⟨(hbb.cell (p := ⟨bg, j, none⟩) (World.block_lt_of_cell? _ _ HE9.out.1)).trans HE9.out.1, (hbb.cell (p := ⟨cg, j, none⟩) (World.block_lt_of_cell? _ _ HE9.out.2)).trans HE9.out.2⟩
            have HCELL := Lib.hid hcell
            clear hcell
            have HBa := Lib.hid (HB9.out.trans (hb9a.mono HB9.out.size))
            clear hd9 hd hE hND hwa hba hb9a hbd
            clear hu0 hbu hq0 hqf hcu hfz hxor e80 e81 e82 e90 hw8 hw9'
            by_cases h22 : E = 22
            · subst h22
              go_wp2_with fail
              try rw [HWA.out]
              go_roundw
              case rel => exact ⟨j + 1, C.set j L8, by omega, by omega, by go_num, by rw [List.length_set]; exact HC.out, by rw [List.take_set, HCT.out]; exact List.set_eq_of_length_le (by rw [List.length_take]; omega), fun _ x hx => by
                  by_cases he : at_ = j
                  · subst he
                    rw [List.getElem?_set_self (by rw [HC.out]; exact hlt)] at hx
                    obtain rfl : L8 = x := by simpa using hx
                    rw [HEE.out]; decide
                  · rw [List.getElem?_set_ne (fun e => he e.symm)] at hx
                    exact HCB.out (by omega) x hx, HS1a.out, HOBa.out, HBa.out⟩
              case measure => simp [intOf]; omega
            · have h22b : (E == 22) = false := by simpa using h22
              have HNH := Lib.hid (show l.drop 16 ≠ L8.drop 16 ∧ halfL (l.drop 16) = halfL (L8.drop 16) from by
                rcases HTAM.out with ht | ht
                · exact absurd (HEE.out.symm.trans ht) h22
                · exact ht)
              have hsl1 := slice_16B ug uc HUC.out
              have hsl2 := slice_16B vg c7 HVC.out
              have HX1 := Lib.hid (bytes_16B HUa.out HUC.out)
              have HX2 := Lib.hid (bytes_16B HS2a.out HVC.out)
              go_wp2_with fail
              try rw [HWA.out]
              refine wp_region_noPanic ?_
              refine wp_region_H (Below wa.heap.size wa) (by kernel_rfl) ?_
              have hS0 : (Below wa.heap.size wa) wa.drew := (Below.refl _ _).drew
              obtain ⟨wd, hwd⟩ : ∃ wd, wa.drew = wd := ⟨_, rfl⟩
              rw [hwd] at hS0 ⊢
              clear hwd
              refine wpAnyH_takeI (i := 0) (v := ?v30) rfl (by kernel_rfl) (by kernel_rfl) (by kernel_rfl) (fun _ _ _ h => h) (yieldsIf_run rfl (fun w' hw' => ?y30)) hS0 ?_
              case y30 => first | (go_simp; rfl) | (go_simp; done) | rfl
              simp only [Act.put, List.setIfInBounds_toArray, List.set_cons_zero, List.set_cons_succ]
              refine wpAnyH_takeI (i := 1) (v := ?v31) rfl (by kernel_rfl) (by kernel_rfl) (by kernel_rfl) (fun _ _ _ h => h) (yieldsIf_run rfl (fun w' hw' => ?y31)) hS0 ?_
              case y31 => first | (go_simp; rfl) | (go_simp; done) | rfl
              simp only [Act.put, List.setIfInBounds_toArray, List.set_cons_zero, List.set_cons_succ]
              refine wpAnyH_takeI (i := 2) (v := ?v32) rfl (by kernel_rfl) (by kernel_rfl) (by kernel_rfl) (fun _ _ _ h => h) (yieldsIf_run rfl (fun w' hw' => ?y32)) hS0 ?_
              case y32 => first | (go_simp; rfl) | (go_simp; done) | rfl
              simp only [Act.put, List.setIfInBounds_toArray, List.set_cons_zero, List.set_cons_succ]
              refine wpAnyH_takeI (i := 3) (v := ?v33) rfl (by kernel_rfl) (by kernel_rfl) (by kernel_rfl) (fun _ _ _ h => h) (yieldsIf_run rfl (fun w' hw' => ?y33)) hS0 ?_
              case y33 => (obtain ⟨y0, y1⟩ := HCELL.out w' hw'; clear hw'; first | (go_simp; rfl) | (go_simp; done))
              simp only [Act.put, List.setIfInBounds_toArray, List.set_cons_zero, List.set_cons_succ]
              refine wpAnyH_takeI (i := 4) (v := .slice (some ⟨ug, 16, none⟩) 240 (uc - 16)) rfl (by kernel_rfl) (by kernel_rfl) (by kernel_rfl) (fun _ _ _ h => h) (yieldsIf_run rfl (fun w' hw' => ?y34)) hS0 ?_
              case y34 => first | (go_simp; rfl) | (go_simp; done) | rfl
              simp only [Act.put, List.setIfInBounds_toArray, List.set_cons_zero, List.set_cons_succ]
              refine wpAnyH_takeI (i := 5) (v := ?v35) rfl (by kernel_rfl) (by kernel_rfl) (by kernel_rfl) (fun _ _ _ h => h) (yieldsIf_run rfl (fun w' hw' => ?y35)) hS0 ?_
              case y35 => first | (go_simp; rfl) | (go_simp; done) | rfl
              simp only [Act.put, List.setIfInBounds_toArray, List.set_cons_zero, List.set_cons_succ]
              refine wpAnyH_takeI (i := 6) (v := ?v36) rfl (by kernel_rfl) (by kernel_rfl) (by kernel_rfl) (fun _ _ _ h => h) (yieldsIf_run rfl (fun w' hw' => ?y36)) hS0 ?_
              case y36 => first | (go_simp; rfl) | (go_simp; done) | rfl
              simp only [Act.put, List.setIfInBounds_toArray, List.set_cons_zero, List.set_cons_succ]
              refine wpAnyH_takeI (i := 7) (v := ?v37) rfl (by kernel_rfl) (by kernel_rfl) (by kernel_rfl) (fun _ _ _ h => h) (yieldsIf_run rfl (fun w' hw' => ?y37)) hS0 ?_
              case y37 => first | (go_simp; rfl) | (go_simp; done) | rfl
              simp only [Act.put, List.setIfInBounds_toArray, List.set_cons_zero, List.set_cons_succ]
              refine wpAnyH_takeI (i := 8) (v := ?v38) rfl (by kernel_rfl) (by kernel_rfl) (by kernel_rfl) (fun _ _ _ h => h) (yieldsIf_run rfl (fun w' hw' => ?y38)) hS0 ?_
              case y38 => (obtain ⟨y0, y1⟩ := HCELL.out w' hw'; clear hw'; first | (go_simp; rfl) | (go_simp; done))
              simp only [Act.put, List.setIfInBounds_toArray, List.set_cons_zero, List.set_cons_succ]
              refine wpAnyH_takeI (i := 9) (v := .slice (some ⟨vg, 16, none⟩) 240 (c7 - 16)) rfl (by kernel_rfl) (by kernel_rfl) (by kernel_rfl) (fun _ _ _ h => h) (yieldsIf_run rfl (fun w' hw' => ?y39)) hS0 ?_
              case y39 => first | (go_simp; rfl) | (go_simp; done) | rfl
              simp only [Act.put, List.setIfInBounds_toArray, List.set_cons_zero, List.set_cons_succ]
              refine wpAnyH_do (i := 10) (by kernel_rfl) rfl rfl (fun K hK => ?_)
              go_simp
              go_at_call 26
              refine (collide_any _ _ _ _ (HX1.out.below hS0) (HX2.out.below hS0) (by rw [List.length_drop, HL256.out]; omega) (by rw [List.length_drop, HL8.out]; omega) HNH.out.1 HNH.out.2).mono ?_
              rintro e wz ⟨rfl, hbwz⟩
              have hSwz := hS0.trans (hbwz.mono hS0.size)
              refine hK _ _ (hSwz) ?_
              clear hK K
              try simp only [Act.put, List.setIfInBounds_toArray, List.set_cons_zero, List.set_cons_succ]
              refine wpAnyH_takeI (i := 11) (v := ?v40) rfl (by kernel_rfl) (by kernel_rfl) (by kernel_rfl) (fun _ _ _ h => h) (yieldsIf_run rfl (fun w' hw' => ?y40)) hSwz ?_
              case y40 => first | (go_simp; rfl) | (go_simp; done) | rfl
              simp only [Act.put, List.setIfInBounds_toArray, List.set_cons_zero, List.set_cons_succ]
              refine wpAnyH_done (by kernel_rfl) ?_ _
              refine NoPanic.normal ?_
              go_wp2_with fail
              go_ret
              exact ⟨rfl, HB1.out.trans ((HBa.out.trans (hSwz.mono HBa.out.size)).mono HB1.out.size)⟩
          · have hjT : ¬ (j : Int) < (T : Int) := by omega
            have hls := losses_scan L at_ i (C.drop at_) (by rw [HMM.out]; exact him) (by rw [HEN.out]; exact hend) (by rw [HEN.out, HLEN.out, HNS.out]; exact hb) (fun x hx => HCB.out (by omega) x (by rw [List.getElem?_drop] at hx; simpa using hx))
            rw [HMM.out, ← HM.out, ← HCT.out, List.take_append_drop, HEN.out, List.length_drop, HC.out, show at_ + (T - at_) = T by omega] at hls
            have HLS := Lib.hid hls
            have HBT := Lib.hid HB.out
            have HSEC := Lib.hid HOC.out.secs
            have HLEN2 := Lib.hid HC.out
            clear hls
            obtain ⟨code, hsc, hcode⟩ := HLS.out
            have hscan := Scan_any 5 7 (C) _ HSEC.out (by rw [HLEN2.out]; omega) (HK.out.below (HB1.out.trans (HBT.out.mono HB1.out.size)) HK.out.size)
            have HSCAN := Lib.hid hscan
            have HSC := Lib.hid hsc
            have hq : ∃ q : Bool, ((code : Int) == 0) = q ∧ (((T : Nat) : Int) == ((en : Nat) : Int)) = q := by
              by_cases h : code = 0
              · have h2 := hcode.1 h
                exact ⟨true, by simp [h], by simp [h2]⟩
              · have h2 := fun e => h (hcode.2 e)
                refine ⟨false, by simpa using h, by simp; omega⟩
            obtain ⟨q, hq1, hq2⟩ := hq
            clear hscan hsc hcode
            go_wp2_with fail
            refine HSCAN.out.mono ?_
            rintro e ws ⟨sv, rfl, hor, hbs⟩
            rw [HSC.out] at hor ⊢
            simp only [HEN.out] at hor ⊢
            obtain ⟨ra, rc, rfl⟩ := hor.form
            rw [recsL_length] at hor ⊢
            have HOR := Lib.hid hor
            have HBS := Lib.hid (HBT.out.trans (hbs.mono HBT.out.size))
            have hi18 : (i : Int) ≤ 6 := by omega
            clear hor hbs
            go_wp2_with fail
            clear hq1 hq2
            go_loopw [21] (fun tv wr => ∃ t : Nat, t ≤ i ∧ tv = .int .i64 (t : Int) ∧ Below w1.heap.size w1 wr ∧ Below ws.heap.size ws wr) (fun tv _ => i - (intOf tv).toNat)
            case atStart => exact ⟨0, Nat.zero_le _, rfl, HBS.out, Below.refl _ _⟩
            case round =>
              obtain ⟨t, ht, rfl, hB, hBs⟩ := hrel
              have HB := Lib.hid hB
              have HBs := Lib.hid hBs
              clear hB hBs
              by_cases hlt : t < i
              · have htI : (t : Int) < (i : Int) := by omega
                have htI0 : (0 : Int) ≤ (t : Int) := by omega
                have htN : (t : Int) < (N : Int) := by omega
                have hw7 : IntKind.i64.wrap (7 + (t : Int)) = 7 + (t : Int) := IntWalk.i64_in _ (by omega)
                obtain ⟨rg, rx, rcc, rfl, r0, r1, r2, r3, hrb⟩ := (HOR.out.below HBs.out).get (i := t) (by rw [recsL_length]; exact hlt)
                rw [recsL_get, recAt_num L t (by omega)] at r2 r3 hrb
                obtain ⟨pg2, po2, y, k2, c2, e2, hy, hyb⟩ := (HV.out.below (HB1.out.trans (HB.out.mono HB1.out.size))).get (i := t) (by have := HN.out; omega)
                cases e2
                obtain ⟨ld, hld⟩ : ∃ ld, (L.getD t []).take 600 = ld := ⟨_, rfl⟩
                simp only [hld] at r2 r3 hrb
                have hyl := hyb.at_.len
                obtain ⟨k7, hk7⟩ : ∃ k7, min k2 600 = k7 := ⟨_, rfl⟩
                have hmin := min_600 k2
                rw [hk7] at hmin
                have hsl := slice_cut y k2 c2 k7 (by omega) (fun e => hyb.nil k2 c2 (by rw [e]))
                have hcut := hyb.take k7 (by omega)
                have hl7 : (L[t]'(by have := HN.out; omega)).take k7 = ld := by
                  rw [← hld, List.getD_eq_getElem?_getD, List.getElem?_eq_getElem (by have := HN.out; omega), Option.getD_some, ← hk7, hyl.1]
                  by_cases h : (L[t]'(by have := HN.out; omega)).length ≤ 600
                  · rw [Nat.min_eq_left h, List.take_of_length_le (Nat.le_refl _), List.take_of_length_le h]
                  · rw [Nat.min_eq_right (by omega)]
                rw [hl7] at hcut
                obtain ⟨nl, hnl2⟩ : ∃ nl, ld.length = nl := ⟨_, rfl⟩
                rw [hnl2] at r3 hrb
                have hcell : ∀ w' : World, Below wr.heap.size wr w' → w'.cell? ⟨rg, t * 4 + 2, none⟩ = some (.int .i64 (7 + (t : Int))) ∧ w'.cell? ⟨rg, t * 4 + 3, none⟩ = some (.slice rx nl rcc) ∧ w'.cell? ⟨pg, po + t, none⟩ = some (.slice y k2 c2) := by
                  intro w' hb
                  exact ⟨(hb.cell (p := ⟨rg, t * 4 + 2, none⟩) (World.block_lt_of_cell? _ _ r2)).trans r2, (hb.cell (p := ⟨rg, t * 4 + 3, none⟩) (World.block_lt_of_cell? _ _ r3)).trans r3, (hb.cell (p := ⟨pg, po + t, none⟩) (World.block_lt_of_cell? _ _ hy)).trans hy⟩
                have hstr1 : ∀ w' : World, Below wr.heap.size wr w' → (convert 22 9 (.slice rx nl rcc)).run Tryd.prog w' = .ok (.string ⟨ld.toArray⟩) w' := fun w' hb => (hrb.below hb).at_.str
                have hstr2 : ∀ w' : World, Below wr.heap.size wr w' → (convert 22 9 (.slice y k7 c2)).run Tryd.prog w' = .ok (.string ⟨ld.toArray⟩) w' := fun w' hb => (hcut.below hb).at_.str
                obtain ⟨str, hstr⟩ : ∃ str : ByteArray, (⟨ld.toArray⟩ : ByteArray) = str := ⟨_, rfl⟩
                simp only [hstr] at hstr1 hstr2
                have HCELL := Lib.hid hcell
                have HST1 := Lib.hid hstr1
                have HST2 := Lib.hid hstr2
                clear r0 r1 r2 r3 hrb hy hyb hyl hk7 hcut hl7 hnl2 hcell hstr hstr1 hstr2 hld
                go_wp2_with fail
                refine wp_region_noPanic ?_
                refine wp_region_H (Below wr.heap.size wr) (by kernel_rfl) ?_
                have hS0 : (Below wr.heap.size wr) wr.drew := (Below.refl _ _).drew
                obtain ⟨wd, hwd⟩ : ∃ wd, wr.drew = wd := ⟨_, rfl⟩
                rw [hwd] at hS0 ⊢
                clear hwd
                refine wpAnyH_takeI (i := 0) (v := ?v41) rfl (by kernel_rfl) (by kernel_rfl) (by kernel_rfl) (fun _ _ _ h => h) (yieldsIf_run rfl (fun w' hw' => ?y41)) hS0 ?_
                case y41 => first | (go_simp; rfl) | (go_simp; done) | rfl
                simp only [Act.put, List.setIfInBounds_toArray, List.set_cons_zero, List.set_cons_succ]
                refine wpAnyH_takeI (i := 1) (v := ?v42) rfl (by kernel_rfl) (by kernel_rfl) (by kernel_rfl) (fun _ _ _ h => h) (yieldsIf_run rfl (fun w' hw' => ?y42)) hS0 ?_
                case y42 => first | (go_simp; rfl) | (go_simp; done) | rfl
                simp only [Act.put, List.setIfInBounds_toArray, List.set_cons_zero, List.set_cons_succ]
                refine wpAnyH_takeI (i := 2) (v := ?v43) rfl (by kernel_rfl) (by kernel_rfl) (by kernel_rfl) (fun _ _ _ h => h) (yieldsIf_run rfl (fun w' hw' => ?y43)) hS0 ?_
                case y43 => first | (go_simp; rfl) | (go_simp; done) | rfl
                simp only [Act.put, List.setIfInBounds_toArray, List.set_cons_zero, List.set_cons_succ]
                refine wpAnyH_takeI (i := 3) (v := ?v44) rfl (by kernel_rfl) (by kernel_rfl) (by kernel_rfl) (fun _ _ _ h => h) (yieldsIf_run rfl (fun w' hw' => ?y44)) hS0 ?_
                case y44 => first | (go_simp; rfl) | (go_simp; done) | rfl
                simp only [Act.put, List.setIfInBounds_toArray, List.set_cons_zero, List.set_cons_succ]
                refine wpAnyH_takeI (i := 4) (v := ?v45) rfl (by kernel_rfl) (by kernel_rfl) (by kernel_rfl) (fun _ _ _ h => h) (yieldsIf_run rfl (fun w' hw' => ?y45)) hS0 ?_
                case y45 => (obtain ⟨y0, y1, y2⟩ := HCELL.out w' hw'; clear hw'; first | (go_simp; rfl) | (go_simp; done))
                simp only [Act.put, List.setIfInBounds_toArray, List.set_cons_zero, List.set_cons_succ]
                refine wpAnyH_takeI (i := 5) (v := ?v46) rfl (by kernel_rfl) (by kernel_rfl) (by kernel_rfl) (fun _ _ _ h => h) (yieldsIf_run rfl (fun w' hw' => ?y46)) hS0 ?_
                case y46 => first | (go_simp; rfl) | (go_simp; done) | rfl
                simp only [Act.put, List.setIfInBounds_toArray, List.set_cons_zero, List.set_cons_succ]
                refine wpAnyH_takeI (i := 6) (v := .int .i64 (7 + (t : Int))) rfl (by kernel_rfl) (by kernel_rfl) (by kernel_rfl) (fun _ _ _ h => h) (yieldsIf_run rfl (fun w' hw' => ?y47)) hS0 ?_
                case y47 => first | (go_simp; rfl) | (go_simp; done) | rfl
                simp only [Act.put, List.setIfInBounds_toArray, List.set_cons_zero, List.set_cons_succ]
                refine wpAnyH_takeI (i := 7) (v := .bool false) rfl (by kernel_rfl) (by kernel_rfl) (by kernel_rfl) (fun _ _ _ h => h) (yieldsIf_run rfl (fun w' hw' => ?y48)) hS0 ?_
                case y48 => first | (go_simp; rfl) | (go_simp; done) | rfl
                simp only [Act.put, List.setIfInBounds_toArray, List.set_cons_zero, List.set_cons_succ]
                refine wpAnyH_takeI (i := 8) (v := ?v49) rfl (by kernel_rfl) (by kernel_rfl) (by kernel_rfl) (fun _ _ _ h => h) (yieldsIf_run rfl (fun w' hw' => ?y49)) hS0 ?_
                case y49 => first | (go_simp; rfl) | (go_simp; done) | rfl
                simp only [Act.put, List.setIfInBounds_toArray, List.set_cons_zero, List.set_cons_succ]
                refine wpAnyH_takeI (i := 9) (v := ?v50) rfl (by kernel_rfl) (by kernel_rfl) (by kernel_rfl) (fun _ _ _ h => h) (yieldsIf_want rfl (fun w' hw' => ?y50)) hS0 ?_
                case y50 => first | (go_simp; rfl) | (go_simp; done) | rfl
                simp only [Act.put, List.setIfInBounds_toArray, List.set_cons_zero, List.set_cons_succ]
                refine wpAnyH_takeI (i := 10) (v := ?v51) rfl (by kernel_rfl) (by kernel_rfl) (by kernel_rfl) (fun _ _ _ h => h) (yieldsIf_want rfl (fun w' hw' => ?y51)) hS0 ?_
                case y51 => first | (go_simp; rfl) | (go_simp; done) | rfl
                simp only [Act.put, List.setIfInBounds_toArray, List.set_cons_zero, List.set_cons_succ]
                refine wpAnyH_takeI (i := 11) (v := ?v52) rfl (by kernel_rfl) (by kernel_rfl) (by kernel_rfl) (fun _ _ _ h => h) (yieldsIf_want rfl (fun w' hw' => ?y52)) hS0 ?_
                case y52 => first | (go_simp; rfl) | (go_simp; done) | rfl
                simp only [Act.put, List.setIfInBounds_toArray, List.set_cons_zero, List.set_cons_succ]
                refine wpAnyH_takeI (i := 12) (v := ?v53) rfl (by kernel_rfl) (by kernel_rfl) (by kernel_rfl) (fun _ _ _ h => h) (yieldsIf_want rfl (fun w' hw' => ?y53)) hS0 ?_
                case y53 => first | (go_simp; rfl) | (go_simp; done) | rfl
                simp only [Act.put, List.setIfInBounds_toArray, List.set_cons_zero, List.set_cons_succ]
                refine wpAnyH_takeI (i := 13) (v := ?v54) rfl (by kernel_rfl) (by kernel_rfl) (by kernel_rfl) (fun _ _ _ h => h) (yieldsIf_want rfl (fun w' hw' => ?y54)) hS0 ?_
                case y54 => (obtain ⟨y0, y1, y2⟩ := HCELL.out w' hw'; clear hw'; first | (go_simp; rfl) | (go_simp; done))
                simp only [Act.put, List.setIfInBounds_toArray, List.set_cons_zero, List.set_cons_succ]
                refine wpAnyH_takeI (i := 14) (v := .string str) rfl (by kernel_rfl) (by kernel_rfl) (by kernel_rfl) (fun _ _ _ h => h) (yieldsIf_want rfl (fun w' hw' => ?y55)) hS0 ?_
                case y55 => (have HS := HST1.out w' hw'; clear hw'; first | (go_simp; rfl) | (go_simp; done))
                simp only [Act.put, List.setIfInBounds_toArray, List.set_cons_zero, List.set_cons_succ]
                refine wpAnyH_takeI (i := 15) (v := ?v56) rfl (by kernel_rfl) (by kernel_rfl) (by kernel_rfl) (fun _ _ _ h => h) (yieldsIf_want rfl (fun w' hw' => ?y56)) hS0 ?_
                case y56 => first | (go_simp; rfl) | (go_simp; done) | rfl
                simp only [Act.put, List.setIfInBounds_toArray, List.set_cons_zero, List.set_cons_succ]
                refine wpAnyH_takeI (i := 16) (v := ?v57) rfl (by kernel_rfl) (by kernel_rfl) (by kernel_rfl) (fun _ _ _ h => h) (yieldsIf_want rfl (fun w' hw' => ?y57)) hS0 ?_
                case y57 => first | (go_simp; rfl) | (go_simp; done) | rfl
                simp only [Act.put, List.setIfInBounds_toArray, List.set_cons_zero, List.set_cons_succ]
                refine wpAnyH_takeI (i := 17) (v := ?v58) rfl (by kernel_rfl) (by kernel_rfl) (by kernel_rfl) (fun _ _ _ h => h) (yieldsIf_want rfl (fun w' hw' => ?y58)) hS0 ?_
                case y58 => first | (go_simp; rfl) | (go_simp; done) | rfl
                simp only [Act.put, List.setIfInBounds_toArray, List.set_cons_zero, List.set_cons_succ]
                refine wpAnyH_takeI (i := 18) (v := ?v59) rfl (by kernel_rfl) (by kernel_rfl) (by kernel_rfl) (fun _ _ _ h => h) (yieldsIf_want rfl (fun w' hw' => ?y59)) hS0 ?_
                case y59 => (obtain ⟨y0, y1, y2⟩ := HCELL.out w' hw'; clear hw'; first | (go_simp; rfl) | (go_simp; done))
                simp only [Act.put, List.setIfInBounds_toArray, List.set_cons_zero, List.set_cons_succ]
                refine wpAnyH_takeI (i := 19) (v := ?v60) rfl (by kernel_rfl) (by kernel_rfl) (by kernel_rfl) (fun _ _ _ h => h) (yieldsIf_want rfl (fun w' hw' => ?y60)) hS0 ?_
                case y60 => first | (go_simp; rfl) | (go_simp; done) | rfl
                simp only [Act.put, List.setIfInBounds_toArray, List.set_cons_zero, List.set_cons_succ]
                refine wpAnyH_takeI (i := 20) (v := ?v61) rfl (by kernel_rfl) (by kernel_rfl) (by kernel_rfl) (fun _ _ _ h => h) (yieldsIf_want rfl (fun w' hw' => ?y61)) hS0 ?_
                case y61 => first | (go_simp; rfl) | (go_simp; done) | rfl
                simp only [Act.put, List.setIfInBounds_toArray, List.set_cons_zero, List.set_cons_succ]
                refine wpAnyH_takeI (i := 21) (v := ?v62) rfl (by kernel_rfl) (by kernel_rfl) (by kernel_rfl) (fun _ _ _ h => h) (yieldsIf_want rfl (fun w' hw' => ?y62)) hS0 ?_
                case y62 => first | (go_simp; rfl) | (go_simp; done) | rfl
                simp only [Act.put, List.setIfInBounds_toArray, List.set_cons_zero, List.set_cons_succ]
                refine wpAnyH_takeI (i := 22) (v := ?v63) rfl (by kernel_rfl) (by kernel_rfl) (by kernel_rfl) (fun _ _ _ h => h) (yieldsIf_want rfl (fun w' hw' => ?y63)) hS0 ?_
                case y63 => (obtain ⟨y0, y1, y2⟩ := HCELL.out w' hw'; clear hw'; first | (go_simp; rfl) | (go_simp; done))
                simp only [Act.put, List.setIfInBounds_toArray, List.set_cons_zero, List.set_cons_succ]
                refine wpAnyH_takeI (i := 23) (v := ?v64) rfl (by kernel_rfl) (by kernel_rfl) (by kernel_rfl) (fun _ _ _ h => h) (yieldsIf_want rfl (fun w' hw' => ?y64)) hS0 ?_
                case y64 => first | (go_simp; rfl) | (go_simp; done) | rfl
                simp only [Act.put, List.setIfInBounds_toArray, List.set_cons_zero, List.set_cons_succ]
                refine wpAnyH_takeI (i := 24) (v := .int .i64 (k7 : Int)) rfl (by kernel_rfl) (by kernel_rfl) (by kernel_rfl) (fun _ _ _ h => h) (yieldsIf_want rfl (fun w' hw' => ?y65)) hS0 ?_
                case y65 => first | (go_simp; rfl) | (go_simp; done) | rfl
                simp only [Act.put, List.setIfInBounds_toArray, List.set_cons_zero, List.set_cons_succ]
                refine wpAnyH_takeI (i := 25) (v := .slice y k7 c2) rfl (by kernel_rfl) (by kernel_rfl) (by kernel_rfl) (fun _ _ _ h => h) (yieldsIf_want rfl (fun w' hw' => ?y66)) hS0 ?_
                case y66 => first | (go_simp; rfl) | (go_simp; done) | rfl
                simp only [Act.put, List.setIfInBounds_toArray, List.set_cons_zero, List.set_cons_succ]
                refine wpAnyH_takeI (i := 26) (v := .string str) rfl (by kernel_rfl) (by kernel_rfl) (by kernel_rfl) (fun _ _ _ h => h) (yieldsIf_want rfl (fun w' hw' => ?y67)) hS0 ?_
                case y67 => (have HS := HST2.out w' hw'; clear hw'; first | (go_simp; rfl) | (go_simp; done))
                simp only [Act.put, List.setIfInBounds_toArray, List.set_cons_zero, List.set_cons_succ]
                refine wpAnyH_takeI (i := 27) (v := .bool false) rfl (by kernel_rfl) (by kernel_rfl) (by kernel_rfl) (fun _ _ _ h => h) (yieldsIf_want rfl (fun w' hw' => ?y68)) hS0 ?_
                case y68 => first | (go_simp; rfl) | (go_simp; done) | rfl
                simp only [Act.put, List.setIfInBounds_toArray, List.set_cons_zero, List.set_cons_succ]
                refine wpAnyH_takeI (i := 28) (v := ?v69) rfl (by kernel_rfl) (by kernel_rfl) (by kernel_rfl) (fun _ _ _ h => h) (yieldsIf_run rfl (fun w' hw' => ?y69)) hS0 ?_
                case y69 => first | (go_simp; rfl) | (go_simp; done) | rfl
                simp only [Act.put, List.setIfInBounds_toArray, List.set_cons_zero, List.set_cons_succ]
                refine wpAnyH_done (by kernel_rfl) ?_ _
                refine NoPanic.normal ?_
                go_wp2_with fail
                go_roundw
                case rel => exact ⟨t + 1, by omega, by go_num, HB.out.trans (hS0.mono HB.out.size), HBs.out.trans (hS0.mono HBs.out.size)⟩
                case measure => simp [intOf]; omega
              · go_wp2_with fail
                go_ret
                exact ⟨rfl, HB1.out.trans (HB.out.mono HB1.out.size)⟩
    · have hbI : ¬ (at_ : Int) < (en : Int) + (ns : Int) := by omega
      go_wp2_with ((with_reducible refine (HRN.out _).mono ?_); rintro e w' ⟨rfl, rfl⟩)
      go_round
      case rel => exact ⟨i + 1, by omega, by go_num, by rw [HES.out]; go_num, by go_num, by rw [HES.out]; omega⟩
      case measure => simp [intOf]; omega

end Go.Proofs.YtloaenknhkfaeaaDoor
