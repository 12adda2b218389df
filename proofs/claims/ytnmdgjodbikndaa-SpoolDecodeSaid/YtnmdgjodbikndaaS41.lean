/- The spool's reference: Decode. -/
import Derived.Test.YtnmdgjodbikndaaS40
import Derived.Deep.Cut
import Derived.Deep.CutRange
import Derived.Lib.SlBytesRow
namespace Go.Proofs.Ytnmdgjodbikndaa
open Go.RowKit
set_option linter.unusedVariables false
set_option linter.unusedSimpArgs false

def RDecPost (w : World) (b : List UInt8) (e : Ending) (w' : World) : Prop := Below w.heap.size w w' ∧
  ((decE b = 0 ∧ ∃ v, e = .returned (.tuple #[.agg #[.int .i64 (decR b).sp.budget, v], .int .i64 0]) ∧ ListAt refE w' v (decR b).sp.ref) ∨
   (decE b ≠ 0 ∧ e = .returned (.tuple #[.agg #[.int .i64 0, .slice none 0 0], .int .i64 (decE b)])))
/-- The reference's spool lies in A4, the result in A2. -/
structure RD (w W : World) (A2 A4 : Nat) (Bu : Int) (la : Option Addr) (n lc : Nat) (L : List RefA) : Prop where
  h2 : W.heap[A2]? = some (.cells #[.int .i64 0, .slice none 0 0] 50 (0, 0))
  h4 : W.heap[A4]? = some (.cells #[.int .i64 Bu, .slice la n lc] 50 (0, 0))
  ol : OwnL refE W (A4 + 1) (.slice la n lc) L
  bw : Below w.heap.size w W
theorem RD.below {w W W' : World} {A2 A4 n lc : Nat} {Bu : Int} {la : Option Addr} {L : List RefA} (h : RD w W A2 A4 Bu la n lc L) (hb : Below W.heap.size W W') : RD w W' A2 A4 Bu la n lc L :=
  ⟨(hb.block _ (Array.getElem?_eq_some_iff.1 h.h2).1).trans h.h2, (hb.block _ (Array.getElem?_eq_some_iff.1 h.h4).1).trans h.h4, h.ol.below hb, h.bw.trans (hb.mono h.bw.size)⟩
/-- The row of the article that is read, after k bytes of its identity. -/
def aRow (I : List UInt8) (k : Nat) (t : ByteArray) (m : Int) : List Value := bvs (I.take k ++ z32.1.drop k) ++ [.string t, .int .i64 m]
theorem aRow_length {I : List UInt8} (hI : I.length = 32) {k : Nat} (hk : k ≤ 32) (t : ByteArray) (m : Int) : (aRow I k t m).length = 34 := by
  unfold aRow
  rw [List.length_append, bvs_length, List.length_append, List.length_take, List.length_drop, hI, z32.2]
  show min k 32 + (32 - k) + 2 = 34
  omega
theorem aRow_set {I : List UInt8} (hI : I.length = 32) {k : Nat} (hk : k < 32) (t : ByteArray) (m : Int) : (aRow I k t m).set k (.int .u8 ((I[k]'(by omega)).toNat : Int)) = aRow I (k + 1) t m := by
  have h1 : (bvs (I.take k)).length = k := by rw [bvs_length, List.length_take, hI]; omega
  have h2 : k < z32.1.length := by rw [z32.2]; exact hk
  unfold aRow
  rw [bvs_append, bvs_append, List.append_assoc, List.append_assoc, List.set_append_right _ _ (by rw [h1]; exact Nat.le_refl _), h1, Nat.sub_self, List.drop_eq_getElem_cons h2]
  show bvs (I.take k) ++ (Value.int .u8 _ :: (bvs (z32.1.drop (k + 1)) ++ _)) = _
  rw [List.take_succ_eq_append_getElem (by omega), bvs_append, List.append_assoc]
  rfl
theorem aRow_full {R : List UInt8} (h : 32 ≤ R.length) (t : ByteArray) (m : Int) : aRow (R.take 32) 32 t m = (⟨idOf (R.take 32), t, m⟩ : RefA).cells := by
  unfold aRow RefA.cells
  have h1 : (idOf (R.take 32)).1 = R.take 32 := by unfold idOf; rw [dif_pos (by rw [List.length_take]; omega)]
  rw [h1, List.take_of_length_le (by rw [List.length_take]; omega), List.drop_of_length_le (by rw [z32.2]; exact Nat.le_refl _), List.append_nil]
theorem aRow_zero (I : List UInt8) : aRow I 0 ⟨#[]⟩ 0 = zR.cells := by unfold aRow; rw [List.take_zero, List.nil_append, List.drop_zero]; rfl
theorem cells_min (k : IdB) (t : ByteArray) (m m2 : Int) : ((⟨k, t, m⟩ : RefA).cells.toArray).setIfInBounds 33 (.int .i64 m2) = ((⟨k, t, m2⟩ : RefA).cells).toArray := by
  have hl : (bvs k.1).length = 32 := by rw [bvs_length, k.2]
  unfold RefA.cells
  rw [List.setIfInBounds_toArray, List.set_append_right _ _ (by rw [hl]; decide), hl]
  rfl
theorem cells_txt (k : IdB) (t t2 : ByteArray) (m : Int) : ((⟨k, t, m⟩ : RefA).cells.toArray).setIfInBounds 32 (.string t2) = ((⟨k, t2, m⟩ : RefA).cells).toArray := by
  have hl : (bvs k.1).length = 32 := by rw [bvs_length, k.2]
  unfold RefA.cells
  rw [List.setIfInBounds_toArray, List.set_append_right _ _ (by rw [hl]; decide), hl]
  rfl
theorem cells_range {w : World} {g : Nat} {a : RefA} (h1 : w.heap[g]? = some (.cells a.cells.toArray 37 (0, 0))) : w.rangeAt g 0 (bvs a.id.1) ∧ w.cell? ⟨g, 32, none⟩ = some (.string a.text) ∧ w.cell? ⟨g, 33, none⟩ = some (.int .i64 a.min) := by
  have hl : (bvs a.id.1).length = 32 := by rw [bvs_length, a.id.2]
  refine ⟨fun j u hu => range_block h1 j u ?_, ?_, ?_⟩
  · unfold RefA.cells
    rw [List.getElem?_append_left (List.getElem?_eq_some_iff.1 hu).1]
    exact hu
  · rw [cell_of_row _ _ _ _ _ _ h1, List.getElem?_toArray]
    unfold RefA.cells
    rw [List.getElem?_append_right (by omega), hl]
    rfl
  · rw [cell_of_row _ _ _ _ _ _ h1, List.getElem?_toArray]
    unfold RefA.cells
    rw [List.getElem?_append_right (by omega), hl]
    rfl
theorem find_iff (sp : SpD) (k : IdB) : fIx sp.ref k < 0 ↔ (sp.find k).isSome = false := by
  rcases fIx_find sp.ref k with ⟨h1, h2⟩ | ⟨i, hi, h1, h2⟩
  · rw [ref_find] at h2
    rw [h1]
    cases hq : sp.find k with
    | none => exact ⟨fun _ => rfl, fun _ => by decide⟩
    | some a => rw [hq] at h2; cases h2
  · rw [ref_find] at h2
    rw [h1]
    cases hq : sp.find k with
    | none => rw [hq] at h2; cases h2
    | some a => exact ⟨fun h => by omega, fun h => by cases h⟩
theorem rSize_ref (sp : SpD) : rSize sp.ref = sp.size := by
  unfold rSize SpD.ref SpD.size
  rw [List.map_map]
  rfl
set_option maxRecDepth 100000 in
set_option maxHeartbeats 2000000 in
theorem rDecode_any {w : World} (v : Value) (b : List UInt8) (hv : ListAt byE w v b) (hl : b.length ≤ 1000000) :
    Calls Try.prog 32 #[v] w (RDecPost w b) := by
  obtain ⟨va, vc, rfl⟩ := hv.form
  obtain ⟨N, hN⟩ : ∃ N, b.length = N := ⟨_, rfl⟩
  rw [hN] at hv hl ⊢
  have HV := Lib.hid hv
  have HN := Lib.hid hN
  have HNL := Lib.hid hl
  clear hv hN
  go_enter Try.func32, Try.ntmps32
  go_wp2_with (refine wpList_newV rfl (some 2) rfl 50 rfl #[.int .i64 0, .slice none 0 0] 2 (by kernel_rfl) ?_; refine Stop.on ?_)
  refine Stop.go ?_
  try simp only [Act.put, List.setIfInBounds_toArray, List.set_cons_zero, List.set_cons_succ]
  intro w1 x1 b1 s1
  try simp only [Act.put, List.setIfInBounds_toArray, List.set_cons_zero, List.set_cons_succ]
  obtain ⟨A2, hA2⟩ : ∃ A2, w.heap.size = A2 := ⟨_, rfl⟩
  rw [hA2] at x1 ⊢
  have HA2 := Lib.hid (show w.heap.size = A2 from hA2)
  have HX2 := Lib.hid x1
  have HB := Lib.hid b1
  clear x1 b1 s1 hA2
  by_cases h8 : N < 8
  · have h8I : (N : Int) < 8 := by omega
    have HERR := Lib.hid (decE_start (dec0_short (by rw [HN.out]; exact h8)) (by decide))
    go_wp2_with (refine wpList_putV rfl rfl 50 (.tmp 2) (.tmp 15) rfl _ #[.int .i64 0, .slice none 0 0] rfl rfl 50 _ HX2.out sizeS rfl oneS ?_; refine Stop.on ?_)
    refine Stop.go ?_
    try simp only [Act.put, List.setIfInBounds_toArray, List.set_cons_zero, List.set_cons_succ]
    intro wz xz cz sz
    try simp only [Act.put, List.setIfInBounds_toArray, List.set_cons_zero, List.set_cons_succ]
    have HXZ := Lib.hid xz
    have HBZ := Lib.hid (HB.out.trans (cz.below (B := w.heap.size) (fun k e => by have := HA2.out; omega) HB.out.size))
    clear xz cz sz
    go_wp2_with fail
    exact bodyPost_ret (results_cell_tmp_row (g := A2) rfl _ _ _ _ _ _ rfl HXZ.out Try.underlying50 rfl sizeS) rfl ⟨HBZ.out, .inr ⟨by rw [HERR.out]; decide, by rw [HERR.out]; rfl⟩⟩
  have h8I : ¬ (N : Int) < 8 := by omega
  have HRD0 := Lib.hid (read_any (w := w1) _ b (HV.out.below HB.out) 0 (by rw [HN.out]; omega) (by rw [HN.out]; exact hl))
  obtain ⟨Bu, hBu⟩ : ∃ Bu, rdV (b.take 8) = Bu := ⟨_, rfl⟩
  rw [List.drop_zero, hBu] at HRD0
  have HBU := Lib.hid hBu
  clear hBu
  go_wp2_with fail
  refine HRD0.out.mono ?_
  rintro e w1' ⟨rfl, rfl⟩
  clear HRD0
  go_wp2_with fail
  refine (rNew_any Bu).mono ?_
  rintro e w3 ⟨rfl, hb3⟩
  have HX2' := Lib.hid ((hb3.block _ (Array.getElem?_eq_some_iff.1 HX2.out).1).trans HX2.out)
  have HB' := Lib.hid (HB.out.trans (hb3.mono HB.out.size))
  have HV3 := Lib.hid (HV.out.below (HB.out.trans (hb3.mono HB.out.size)))
  clear hb3 HX2 HB
  have HX2 := HX2'
  have HB := HB'
  clear HX2' HB'
  by_cases hbad : 1 ≤ Bu ∧ Bu ≤ 1073741824
  case neg =>
    rw [if_neg hbad, if_neg hbad]
    go_wp2_with (refine wpList_newV rfl (some 4) rfl 50 rfl #[.int .i64 0, .slice none 0 0] 2 (by kernel_rfl) ?_; refine Stop.on ?_)
    refine Stop.go ?_
    try simp only [Act.put, List.setIfInBounds_toArray, List.set_cons_zero, List.set_cons_succ]
    intro w4 x4 b4 s4
    try simp only [Act.put, List.setIfInBounds_toArray, List.set_cons_zero, List.set_cons_succ]
    refine wpList_putV rfl rfl 50 (.tmp 4) (.tmp 20) rfl _ #[.int .i64 0, .slice none 0 0] rfl rfl 50 _ x4 sizeS rfl oneS ?_
    intro w5 x5 c5 s5
    try simp only [Act.put, List.setIfInBounds_toArray, List.set_cons_zero, List.set_cons_succ]
    have hb5 : Below w3.heap.size w3 w5 := b4.trans (c5.below (B := w3.heap.size) (fun k e => by omega) b4.size)
    have HX2' := Lib.hid ((hb5.block _ (Array.getElem?_eq_some_iff.1 HX2.out).1).trans HX2.out)
    have HB' := Lib.hid (HB.out.trans (hb5.mono HB.out.size))
    clear x4 b4 s4 x5 c5 s5 hb5 HX2 HB
    have HX2 := HX2'
    have HB := HB'
    clear HX2' HB'
    have HERR := Lib.hid (decE_start (dec0_bad (by rw [HN.out]; omega) (by rw [HBU.out]; exact hbad)) (by decide))
    go_wp2_with (refine wpList_putV rfl rfl 50 (.tmp 2) (.tmp 24) rfl _ #[.int .i64 0, .slice none 0 0] rfl rfl 50 _ HX2.out sizeS rfl oneS ?_; refine Stop.on ?_)
    refine Stop.go ?_
    try simp only [Act.put, List.setIfInBounds_toArray, List.set_cons_zero, List.set_cons_succ]
    intro wz xz cz sz
    try simp only [Act.put, List.setIfInBounds_toArray, List.set_cons_zero, List.set_cons_succ]
    have HXZ := Lib.hid xz
    have HBZ := Lib.hid (HB.out.trans (cz.below (B := w.heap.size) (fun k e => by have := HA2.out; omega) HB.out.size))
    clear xz cz sz
    go_wp2_with fail
    exact bodyPost_ret (results_cell_tmp_row (g := A2) rfl _ _ _ _ _ _ rfl HXZ.out Try.underlying50 rfl sizeS) rfl ⟨HBZ.out, .inr ⟨by rw [HERR.out]; decide, by rw [HERR.out]; rfl⟩⟩
  rw [if_pos hbad, if_pos hbad]
  go_wp2_with (refine wpList_newV rfl (some 4) rfl 50 rfl #[.int .i64 0, .slice none 0 0] 2 (by kernel_rfl) ?_; refine Stop.on ?_)
  refine Stop.go ?_
  try simp only [Act.put, List.setIfInBounds_toArray, List.set_cons_zero, List.set_cons_succ]
  intro w4 x4 b4 s4
  try simp only [Act.put, List.setIfInBounds_toArray, List.set_cons_zero, List.set_cons_succ]
  obtain ⟨A4, hA4⟩ : ∃ A4, w3.heap.size = A4 := ⟨_, rfl⟩
  rw [hA4] at x4 ⊢
  refine wpList_putV rfl rfl 50 (.tmp 4) (.tmp 20) rfl _ #[.int .i64 Bu, .slice none 0 0] rfl rfl 50 _ x4 sizeS rfl oneS ?_
  intro w5 x5 c5 s5
  try simp only [Act.put, List.setIfInBounds_toArray, List.set_cons_zero, List.set_cons_succ]
  have hb5 : Below w3.heap.size w3 w5 := b4.trans (c5.below (B := w3.heap.size) (fun k e => by omega) b4.size)
  have HX2' := Lib.hid ((hb5.block _ (Array.getElem?_eq_some_iff.1 HX2.out).1).trans HX2.out)
  have HB' := Lib.hid (HB.out.trans (hb5.mono HB.out.size))
  have HX4 := Lib.hid x5
  have HZ := Lib.hid (show A2 < A4 ∧ w.heap.size ≤ A2 ∧ A4 < w5.heap.size by
    have h1 := (Array.getElem?_eq_some_iff.1 HX2.out).1
    have h2 := HA2.out
    have h3 := (Array.getElem?_eq_some_iff.1 x5).1
    omega)
  clear x4 b4 s4 x5 c5 s5 hb5 HX2 HB hA4
  have HX2 := HX2'
  have HB := HB'
  clear HX2' HB' HV3
  by_cases h16 : N < 16
  · have h16I : (N : Int) < 16 := by omega
    have HERR := Lib.hid (decE_start (dec0_short2 (by rw [HN.out]; omega) (by rw [HBU.out]; exact hbad) (by rw [HN.out]; exact h16)) (by decide))
    go_wp2_with (refine wpList_putV rfl rfl 50 (.tmp 2) (.tmp 28) rfl _ #[.int .i64 0, .slice none 0 0] rfl rfl 50 _ HX2.out sizeS rfl oneS ?_; refine Stop.on ?_)
    refine Stop.go ?_
    try simp only [Act.put, List.setIfInBounds_toArray, List.set_cons_zero, List.set_cons_succ]
    intro wz xz cz sz
    try simp only [Act.put, List.setIfInBounds_toArray, List.set_cons_zero, List.set_cons_succ]
    have HXZ := Lib.hid xz
    have HBZ := Lib.hid (HB.out.trans (cz.below (B := w.heap.size) (fun k e => by have := HA2.out; omega) HB.out.size))
    clear xz cz sz
    go_wp2_with fail
    exact bodyPost_ret (results_cell_tmp_row (g := A2) rfl _ _ _ _ _ _ rfl HXZ.out Try.underlying50 rfl sizeS) rfl ⟨HBZ.out, .inr ⟨by rw [HERR.out]; decide, by rw [HERR.out]; rfl⟩⟩
  have h16I : ¬ (N : Int) < 16 := by omega
  have HRD8 := Lib.hid (read_any (w := w5) _ b (HV.out.below HB.out) 8 (by rw [HN.out]; omega) (by rw [HN.out]; exact hl))
  have hdc := dec0_ok (b := b) (by rw [HN.out]; omega) (by rw [HBU.out]; exact hbad)
  obtain ⟨nn, hnn⟩ : ∃ nn, rdV ((b.drop 8).take 8) = nn := ⟨_, rfl⟩
  obtain ⟨q, hq⟩ : ∃ q, decC b = q := ⟨_, rfl⟩
  have hnq : (nn < 0 ∧ 4611686018427387904 ≤ q) ∨ (nn = (q : Int) ∧ q < 4611686018427387904) := by
    rw [← hnn, ← hq, hdc.2]
    unfold rdV
    split
    · rename_i h; exact .inr ⟨rfl, h⟩
    · rename_i h; exact .inl ⟨by decide, by omega⟩
  rw [hnn] at HRD8
  have HNQ := Lib.hid hnq
  have HQ := Lib.hid hq
  have HBD := Lib.hid hbad
  have HDI0 := Lib.hid (dinv_zero (b := b) (by rw [HN.out]; omega) (by rw [HBU.out]; exact hbad))
  rw [HBU.out] at HDI0
  clear hdc hnn hq hnq
  go_wp2_with fail
  refine HRD8.out.mono ?_
  rintro e w5' ⟨rfl, rfl⟩
  clear HRD8
  go_wp2_with fail
  refine hide_postD ?_
  intro Q' HQ'
  go_loopw [7, 8] (fun av iv wr => ∃ (i at_ : Nat) (sp : SpD) (la : Option Addr) (lc : Nat), iv = .int .i64 (i : Int) ∧ av = .int .i64 (at_ : Int) ∧ Hid (DInv b i at_ sp) ∧ Hid (RD w wr A2 A4 Bu la i lc sp.ref) ∧ i ≤ q) (fun av _ _ => N - (intOf av).toNat)
  case atStart => exact ⟨0, 16, _, none, 0, rfl, rfl, HDI0, Lib.hid ⟨HX2.out, HX4.out, ownL_nil refE _ _, HB.out⟩, Nat.zero_le _⟩
  case round =>
    obtain ⟨i, at_, sp, la, lc, rfl, rfl, HDI, HRD, hiq⟩ := hrel
    clear HX2 HX4 HB HDI0
    obtain ⟨W0, rfl⟩ : ∃ W0, W0 = wr := ⟨_, rfl⟩
    have hat : at_ ≤ N ∧ 16 ≤ at_ ∧ 48 * i ≤ at_ := by have h1 := HDI.out.at1; have h2 := HDI.out.at0; have h3 := HDI.out.at2; rw [HN.out] at h1; omega
    have HIL := Lib.hid (show i < 1000000 by omega)
    by_cases hcond : i < q
    case neg =>
      have hqi : i = q := by omega
      have hnn : nn = (i : Int) := by rcases HNQ.out with h | h; exfalso; omega; omega
      have n1 : ¬ nn < 0 := by omega
      have n2 : ¬ (i : Int) < nn := by omega
      have HEND := Lib.hid (dinv_end HDI.out (by rw [HQ.out]; exact hqi.symm))
      rw [HN.out] at HEND
      clear hqi hnn
      go_wp2_with fail
      rw [HQ'.out]
      simp only [Exit.inBlock, Exit.then, if_true]
      by_cases hlt : at_ < N
      · have hltI : (at_ : Int) < (N : Int) := by omega
        have HERR := Lib.hid (HEND.out.2.trans (if_pos hlt))
        go_wp2_with (refine wpList_putV rfl rfl 50 (.tmp 2) (.tmp 149) rfl _ #[.int .i64 0, .slice none 0 0] rfl rfl 50 _ (HRD.out).h2 sizeS rfl oneS ?_; refine Stop.on ?_)
        refine Stop.go ?_
        try simp only [Act.put, List.setIfInBounds_toArray, List.set_cons_zero, List.set_cons_succ]
        intro wz xz cz sz
        try simp only [Act.put, List.setIfInBounds_toArray, List.set_cons_zero, List.set_cons_succ]
        have HXZ := Lib.hid xz
        have HBZ := Lib.hid ((HRD.out).bw.trans (cz.below (B := w.heap.size) (fun k e => by have := HA2.out; omega) (HRD.out).bw.size))
        clear xz cz sz
        go_wp2_with fail
        exact bodyPost_ret (results_cell_tmp_row (g := A2) rfl _ _ _ _ _ _ rfl HXZ.out Try.underlying50 rfl sizeS) rfl ⟨HBZ.out, .inr ⟨by rw [HERR.out]; decide, by rw [HERR.out]; rfl⟩⟩
      have hlt2 : ¬ (at_ : Int) < (N : Int) := by omega
      go_wp2_with (refine wpList_loadV rfl (some 150) rfl 50 (.tmp 4) rfl _ rfl 50 #[.int .i64 Bu, .slice la i lc] (0, 0) _ HRD.out.h4 Try.underlying50 rfl sizeS ?_; refine Stop.on ?_)
      refine Stop.go ?_
      try simp only [Act.put, List.setIfInBounds_toArray, List.set_cons_zero, List.set_cons_succ]
      refine wpList_putV rfl rfl 50 (.tmp 2) (.tmp 150) rfl _ #[.int .i64 Bu, .slice la i lc] rfl rfl 50 _ HRD.out.h2 sizeS rfl oneS ?_
      intro wz xz cz sz
      try simp only [Act.put, List.setIfInBounds_toArray, List.set_cons_zero, List.set_cons_succ]
      have HXZ := Lib.hid xz
      have HBZ := Lib.hid (HRD.out.bw.trans (cz.below (B := w.heap.size) (fun k e => by have := HA2.out; omega) HRD.out.bw.size))
      have HEE := Lib.hid (show ∃ v, Ending.returned (.tuple #[.agg #[.int .i64 Bu, .slice la i lc], .int .i64 0]) = .returned (.tuple #[.agg #[.int .i64 (decR b).sp.budget, v], .int .i64 0]) ∧ ListAt refE wz v (decR b).sp.ref from ⟨.slice la i lc, by
        rw [HEND.out.1]
        show _ = Ending.returned (.tuple #[.agg #[.int .i64 sp.budget, _], _])
        rw [HDI.out.bud, HBU.out], by
        rw [HEND.out.1]
        exact (HRD.out.ol.chg cz (fun k hk e => by have h1 := (HRD.out.ol.lt hk).1; have := HZ.out; omega)).at_⟩)
      clear xz cz sz
      go_wp2_with fail
      exact bodyPost_ret (results_cell_tmp_row (g := A2) rfl _ _ _ _ _ _ rfl HXZ.out Try.underlying50 rfl sizeS) rfl ⟨HBZ.out, .inl ⟨HEND.out.2.trans (if_neg hlt), by obtain ⟨v, h1, h2⟩ := HEE.out; exact ⟨v, by rw [← h1]; rfl, h2⟩⟩⟩
    have hgo : nn < 0 ∨ (¬ nn < 0 ∧ (i : Int) < nn) := by rcases HNQ.out with h | h; exact .inl h.1; exact .inr ⟨by omega, by omega⟩
    refine hide_postD ?_
    intro Q3 HQ3
    go_upto_region 11 with (fail)
    go_cut [37] from 31 to 37 (fun pv wx => pv = .bool true ∧ W0 = wx)
    case first =>
      rcases hgo with h | ⟨h, h2⟩
      · go_wp2_with fail
        go_meet
        case rel => exact ⟨rfl, rfl⟩
      · go_wp2_with fail
        go_meet
        case rel => exact ⟨rfl, rfl⟩
    clear hgo
    obtain ⟨rfl, rfl⟩ := hcut
    obtain ⟨R, hR⟩ : ∃ R, b.drop at_ = R := ⟨_, rfl⟩
    have hRl : R.length = N - at_ := by rw [← hR, List.length_drop, HN.out]
    have HSE := Lib.hid (show ∀ c, (decStep ⟨sp, ⟨R, 0⟩⟩).s.e = c → c ≠ 0 → decE b = c from fun c h1 h2 => dinv_err HDI.out (by rw [HQ.out]; exact hcond) (by rw [hR]; exact h1) h2)
    have HR := Lib.hid hR
    have HRL := Lib.hid hRl
    have HCO := Lib.hid hcond
    clear hR hRl hcond
    by_cases h32 : N < at_ + 32
    · have h32I : (N : Int) < (at_ : Int) + 32 := by omega
      have HERR := Lib.hid (HSE.out 23 (step_23a (by rw [HRL.out]; omega)) (by decide))
      go_wp2_with (refine wpList_putV rfl rfl 50 (.tmp 2) (.tmp 45) rfl _ #[.int .i64 0, .slice none 0 0] rfl rfl 50 _ (HRD.out).h2 sizeS rfl oneS ?_; refine Stop.on ?_)
      refine Stop.go ?_
      try simp only [Act.put, List.setIfInBounds_toArray, List.set_cons_zero, List.set_cons_succ]
      intro wz xz cz sz
      try simp only [Act.put, List.setIfInBounds_toArray, List.set_cons_zero, List.set_cons_succ]
      have HXZ := Lib.hid xz
      have HBZ := Lib.hid ((HRD.out).bw.trans (cz.below (B := w.heap.size) (fun k e => by have := HA2.out; omega) (HRD.out).bw.size))
      clear xz cz sz
      go_wp2_with fail
      rw [HQ3.out]
      show Q' _ _ _
      rw [HQ'.out]
      simp only [Exit.inBlock, Exit.then]
      exact bodyPost_ret (results_cell_tmp_row (g := A2) rfl _ _ _ _ _ _ rfl HXZ.out Try.underlying50 rfl sizeS) rfl ⟨HBZ.out, .inr ⟨by rw [HERR.out]; decide, by rw [HERR.out]; rfl⟩⟩
    have h32I : ¬ (N : Int) < (at_ : Int) + 32 := by omega
    go_wp2_with (refine wpList_newV rfl (some 9) rfl 37 rfl zR.cells.toArray 34 (by kernel_rfl) ?_; refine Stop.on ?_)
    refine Stop.go ?_
    try simp only [Act.put, List.setIfInBounds_toArray, List.set_cons_zero, List.set_cons_succ]
    intro w9 x9 b9 s9
    try simp only [Act.put, List.setIfInBounds_toArray, List.set_cons_zero, List.set_cons_succ]
    obtain ⟨A9, hA9⟩ : ∃ A9, W0.heap.size = A9 := ⟨_, rfl⟩
    rw [hA9] at x9 ⊢
    obtain ⟨I, hI⟩ : ∃ I, R.take 32 = I := ⟨_, rfl⟩
    have hIl : I.length = 32 := by rw [← hI, List.length_take, HRL.out]; omega
    have HI := Lib.hid hI
    have HIL2 := Lib.hid hIl
    have HX9 := Lib.hid x9
    have HB9 := Lib.hid b9
    have HA9 := Lib.hid hA9
    have HAB := Lib.hid (show A2 < A9 ∧ A4 < A9 by have h2 := (Array.getElem?_eq_some_iff.1 HRD.out.h2).1; have h4 := (Array.getElem?_eq_some_iff.1 HRD.out.h4).1; omega)
    clear x9 b9 s9 hI hIl hA9
    go_wp2_with fail
    go_loopw [10] (fun kv wq => ∃ k : Nat, k ≤ 32 ∧ kv = .int .i64 (k : Int) ∧ Hid (wq.heap[A9]? = some (.cells (aRow I k ⟨#[]⟩ 0).toArray 37 (0, 0))) ∧ Hid (Below W0.heap.size W0 wq)) (fun kv _ => 32 - (intOf kv).toNat)
    case atStart => exact ⟨0, by omega, rfl, Lib.hid (by rw [aRow_zero]; exact HX9.out), HB9⟩
    case round =>
      obtain ⟨k, hk, rfl, HK, HBQ⟩ := hrel
      clear HX9 HB9
      by_cases hlt : k < 32
      · refine hide_postD ?_
        intro Q4 HQ4
        have hltI : (k : Int) < 32 := by omega
        have hk0 : (0 : Int) ≤ (k : Int) := by omega
        have hak : at_ + k < b.length := by rw [HN.out]; omega
        obtain ⟨g, off, rfl, hg, hr⟩ := ((HV.out.below HRD.out.bw).below HBQ.out).get hak
        obtain ⟨x, hx⟩ : ∃ x, b[at_ + k] = x := ⟨_, rfl⟩
        rw [hx] at hr
        have hcl : wr.cell? ⟨g, off + (at_ + k), none⟩ = some (.int .u8 (x.toNat : Int)) := by
          have h := hr 0 _ rfl
          have e : off + (at_ + k) * byE.k + 0 = off + (at_ + k) := by show off + (at_ + k) * 1 + 0 = off + (at_ + k); omega
          rw [e] at h
          exact h
        have hki : k < I.length := by rw [HIL2.out]; exact hlt
        have hxI : I[k]'hki = x := by
          have h1 : I[k]? = some x := by rw [← HI.out, ← HR.out, List.getElem?_take_of_lt hlt, List.getElem?_drop, List.getElem?_eq_getElem hak, hx]
          rw [List.getElem?_eq_getElem hki] at h1
          exact Option.some.inj h1
        have cd := cell_of_row wr _ k _ _ _ HK.out
        have fd := frozen_of_row wr _ k _ _ HK.out
        obtain ⟨u, hu⟩ : ∃ u, (aRow I k ⟨#[]⟩ 0).toArray[k]? = some u := ⟨_, Array.getElem?_eq_getElem (by rw [List.size_toArray, aRow_length HIL2.out (by omega)]; omega)⟩
        rw [hu] at cd
        have HNX := Lib.hid (show (wr.setCell ⟨A9, k, none⟩ (.int .u8 (x.toNat : Int))).heap[A9]? = some (.cells (aRow I (k + 1) ⟨#[]⟩ 0).toArray 37 (0, 0)) by
          rw [heap_setCell_same _ _ _ _ _ _ HK.out, List.setIfInBounds_toArray, ← hxI, aRow_set HIL2.out hlt])
        have HBN := Lib.hid (HBQ.out.setCell (p := ⟨A9, k, none⟩) (show W0.heap.size ≤ A9 by have := HA9.out; omega) (.int .u8 (x.toNat : Int)))
        have hak2 : (at_ : Int) + (k : Int) < (N : Int) := by rw [HN.out] at hak; omega
        have h0a : (0 : Int) ≤ (at_ : Int) + (k : Int) := by omega
        have hnt : ((at_ : Int) + (k : Int)).toNat = at_ + k := by omega
        have hwr : IntKind.i64.wrap ((at_ : Int) + (k : Int)) = (at_ : Int) + (k : Int) := IntWalk.i64_in _ (by omega)
        clear hr hx hu hxI hak hki hg
        go_wp2_with fail
        rw [HQ4.out]
        change _ ∧ _
        go_roundw
        case rel => exact ⟨k + 1, by omega, by go_num, HNX, HBN⟩
        case measure => simp [intOf]; omega
      · skip
        obtain rfl : k = 32 := by omega
        obtain ⟨id0, hid0⟩ : ∃ id0, idOf (R.take 32) = id0 := ⟨_, rfl⟩
        have HK9 := Lib.hid (show wr.heap[A9]? = some (.cells (⟨id0, ⟨#[]⟩, 0⟩ : RefA).cells.toArray 37 (0, 0)) by
          have h1 := HK.out
          rw [← HI.out, aRow_full (by rw [HRL.out]; omega), hid0] at h1
          exact h1)
        have HID := Lib.hid hid0
        have HR9 := Lib.hid (cells_range HK9.out).1
        have HR32 := Lib.hid (show 32 ≤ R.length by rw [HRL.out]; omega)
        clear hid0 HK
        go_wp2_with (with_reducible refine wpList_load_mid rfl 29 _ rfl A9 0 rfl (bvs id0.1) _ HR9.out Try.underlying29 rfl (sizeArr id0) ?_; refine Stop.on ?_)
        refine Stop.go ?_
        try simp only [Act.put, List.setIfInBounds_toArray, List.set_cons_zero, List.set_cons_succ]
        refine wpList_buildV rfl (some 61) rfl 29 #[] rfl [] rfl (.agg (bvs z32.1).toArray) (zeroArrV _) ?_
        try simp only [Act.put, List.setIfInBounds_toArray, List.set_cons_zero, List.set_cons_succ]
        refine wpList_runI rfl (some 62) rfl (.bool (decide (id0 = z32))) _ (op_eql 29 (.tmp 60) (.tmp 61) 29 rfl rfl rfl guard_Arr (eql_Arr id0 z32 _)) ?_
        try simp only [Act.put, List.setIfInBounds_toArray, List.set_cons_zero, List.set_cons_succ]
        by_cases hz : id0 = z32
        · rw [decide_eq_true hz]
          have HERR := Lib.hid (HSE.out 3 (step_3a HR32.out (fun h => h.1 (HID.out.trans hz))) (by decide))
          go_wp2_with (refine wpList_putV rfl rfl 50 (.tmp 2) (.tmp 70) rfl _ #[.int .i64 0, .slice none 0 0] rfl rfl 50 _ ((HRD.out.below HBQ.out)).h2 sizeS rfl oneS ?_; refine Stop.on ?_)
          refine Stop.go ?_
          try simp only [Act.put, List.setIfInBounds_toArray, List.set_cons_zero, List.set_cons_succ]
          intro wz xz cz sz
          try simp only [Act.put, List.setIfInBounds_toArray, List.set_cons_zero, List.set_cons_succ]
          have HXZ := Lib.hid xz
          have HBZ := Lib.hid (((HRD.out.below HBQ.out)).bw.trans (cz.below (B := w.heap.size) (fun k e => by have := HA2.out; omega) ((HRD.out.below HBQ.out)).bw.size))
          clear xz cz sz
          go_wp2_with fail
          rw [HQ3.out]
          show Q' _ _ _
          rw [HQ'.out]
          simp only [Exit.inBlock, Exit.then]
          exact bodyPost_ret (results_cell_tmp_row (g := A2) rfl _ _ _ _ _ _ rfl HXZ.out Try.underlying50 rfl sizeS) rfl ⟨HBZ.out, .inr ⟨by rw [HERR.out]; decide, by rw [HERR.out]; rfl⟩⟩
        rw [decide_eq_false hz]
        have HZN := Lib.hid hz
        clear hz
        have hrd2 := HRD.out.below HBQ.out
        obtain ⟨fx, hfx⟩ : ∃ fx, fIx sp.ref id0 = fx := ⟨_, rfl⟩
        have HFN := Lib.hid (rFind_any Bu (.slice la i lc) sp.ref id0 hrd2.ol.at_ (by rw [ref_length, HDI.out.len]; omega))
        have HFI := Lib.hid (find_iff sp id0)
        rw [hfx] at HFN HFI
        have HS4 := Lib.hid hrd2.h4
        clear hrd2 hfx
        go_wp2_with (refine wpList_met rfl ?_; refine wpList_loadV rfl (some 64) rfl 50 (.tmp 4) rfl _ rfl 50 #[.int .i64 Bu, .slice la i lc] (0, 0) _ HS4.out Try.underlying50 rfl sizeS ?_; refine Stop.on ?_)
        refine Stop.go ?_
        try simp only [Act.put, List.setIfInBounds_toArray, List.set_cons_zero, List.set_cons_succ]
        go_wp2_with (refine wpList_met rfl ?_; with_reducible refine wpList_load_mid rfl 29 _ rfl A9 0 rfl (bvs id0.1) _ HR9.out Try.underlying29 rfl (sizeArr id0) ?_; refine Stop.on ?_)
        refine Stop.go ?_
        try simp only [Act.put, List.setIfInBounds_toArray, List.set_cons_zero, List.set_cons_succ]
        go_wp2_with fail
        refine HFN.out.mono ?_
        rintro e wf ⟨rfl, hbf⟩
        have HBF := Lib.hid (HBQ.out.trans (hbf.mono HBQ.out.size))
        have HF9 := Lib.hid ((hbf.block _ (Array.getElem?_eq_some_iff.1 HK9.out).1).trans HK9.out)
        clear hbf HFN HK9 HR9 HBQ HS4
        by_cases hf : (sp.find id0).isSome = false
        case neg =>
          have h0f : (0 : Int) ≤ fx := by
            have h1 := HFI.out
            by_cases h2 : fx < 0
            · exact absurd (h1.1 h2) hf
            · omega
          have HERR := Lib.hid (HSE.out 3 (step_3a HR32.out (fun h => hf (by rw [← HID.out]; exact h.2))) (by decide))
          go_wp2_with (refine wpList_putV rfl rfl 50 (.tmp 2) (.tmp 70) rfl _ #[.int .i64 0, .slice none 0 0] rfl rfl 50 _ ((HRD.out.below HBF.out)).h2 sizeS rfl oneS ?_; refine Stop.on ?_)
          refine Stop.go ?_
          try simp only [Act.put, List.setIfInBounds_toArray, List.set_cons_zero, List.set_cons_succ]
          intro wz xz cz sz
          try simp only [Act.put, List.setIfInBounds_toArray, List.set_cons_zero, List.set_cons_succ]
          have HXZ := Lib.hid xz
          have HBZ := Lib.hid (((HRD.out.below HBF.out)).bw.trans (cz.below (B := w.heap.size) (fun k e => by have := HA2.out; omega) ((HRD.out.below HBF.out)).bw.size))
          clear xz cz sz
          go_wp2_with fail
          rw [HQ3.out]
          show Q' _ _ _
          rw [HQ'.out]
          simp only [Exit.inBlock, Exit.then]
          exact bodyPost_ret (results_cell_tmp_row (g := A2) rfl _ _ _ _ _ _ rfl HXZ.out Try.underlying50 rfl sizeS) rfl ⟨HBZ.out, .inr ⟨by rw [HERR.out]; decide, by rw [HERR.out]; rfl⟩⟩
        have h0f : ¬ (0 : Int) ≤ fx := by have h1 := HFI.out.2 hf; omega
        have HIDN := Lib.hid (show idOf (R.take 32) ≠ z32 ∧ (sp.find (idOf (R.take 32))).isSome = false by rw [HID.out]; exact ⟨HZN.out, hf⟩)
        clear hf HFI HZN
        by_cases h40 : N < at_ + 40
        · have h40I : (N : Int) < (at_ : Int) + 40 := by omega
          have HERR := Lib.hid (HSE.out 23 (step_23b HR32.out HIDN.out (by rw [HRL.out]; omega)) (by decide))
          go_wp2_with (refine wpList_putV rfl rfl 50 (.tmp 2) (.tmp 76) rfl _ #[.int .i64 0, .slice none 0 0] rfl rfl 50 _ ((HRD.out.below HBF.out)).h2 sizeS rfl oneS ?_; refine Stop.on ?_)
          refine Stop.go ?_
          try simp only [Act.put, List.setIfInBounds_toArray, List.set_cons_zero, List.set_cons_succ]
          intro wz xz cz sz
          try simp only [Act.put, List.setIfInBounds_toArray, List.set_cons_zero, List.set_cons_succ]
          have HXZ := Lib.hid xz
          have HBZ := Lib.hid (((HRD.out.below HBF.out)).bw.trans (cz.below (B := w.heap.size) (fun k e => by have := HA2.out; omega) ((HRD.out.below HBF.out)).bw.size))
          clear xz cz sz
          go_wp2_with fail
          rw [HQ3.out]
          show Q' _ _ _
          rw [HQ'.out]
          simp only [Exit.inBlock, Exit.then]
          exact bodyPost_ret (results_cell_tmp_row (g := A2) rfl _ _ _ _ _ _ rfl HXZ.out Try.underlying50 rfl sizeS) rfl ⟨HBZ.out, .inr ⟨by rw [HERR.out]; decide, by rw [HERR.out]; rfl⟩⟩
        have h40I : ¬ (N : Int) < (at_ : Int) + 40 := by omega
        obtain ⟨mv, hmv⟩ : ∃ mv, rdV ((R.drop 32).take 8) = mv := ⟨_, rfl⟩
        have hrm := read_any (w := wf) (.slice va N vc) b ((HV.out.below HRD.out.bw).below HBF.out) (at_ + 32) (by rw [HN.out]; omega) (by rw [HN.out]; exact hl)
        rw [show b.drop (at_ + 32) = R.drop 32 by rw [← HR.out, List.drop_drop], hmv, show ((at_ + 32 : Nat) : Int) = (at_ : Int) + 32 by omega] at hrm
        have HRM := Lib.hid hrm
        have HMV := Lib.hid hmv
        have c33 := (cells_range HF9.out).2.2
        have f33 := frozen_of_row wf _ 33 _ _ HF9.out
        clear hrm hmv
        go_wp2_with fail
        refine HRM.out.mono ?_
        rintro e wf' ⟨rfl, rfl⟩
        have HB3 := Lib.hid (HBF.out.setCell (p := ⟨A9, 33, none⟩) (show W0.heap.size ≤ A9 by have := HA9.out; omega) (.int .i64 mv))
        have HK3 := Lib.hid (show (wf.setCell ⟨A9, 33, none⟩ (.int .i64 mv)).heap[A9]? = some (.cells (⟨id0, ⟨#[]⟩, mv⟩ : RefA).cells.toArray 37 (0, 0)) by rw [heap_setCell_same _ _ _ _ _ _ HF9.out, cells_min])
        clear HRM
        by_cases hm0 : mv < 0
        · have HMM := Lib.hid (show ¬ (0 ≤ rdV ((R.drop 32).take 8) ∧ rdV ((R.drop 32).take 8) ≤ 105190559) by rw [HMV.out]; omega)
          have HERR := Lib.hid (HSE.out 3 (step_3b HIDN.out (by rw [HRL.out]; omega) HMM.out) (by decide))
          go_wp2_with (refine wpList_putV rfl rfl 50 (.tmp 2) (.tmp 90) rfl _ #[.int .i64 0, .slice none 0 0] rfl rfl 50 _ ((HRD.out.below HB3.out)).h2 sizeS rfl oneS ?_; refine Stop.on ?_)
          refine Stop.go ?_
          try simp only [Act.put, List.setIfInBounds_toArray, List.set_cons_zero, List.set_cons_succ]
          intro wz xz cz sz
          try simp only [Act.put, List.setIfInBounds_toArray, List.set_cons_zero, List.set_cons_succ]
          have HXZ := Lib.hid xz
          have HBZ := Lib.hid (((HRD.out.below HB3.out)).bw.trans (cz.below (B := w.heap.size) (fun k e => by have := HA2.out; omega) ((HRD.out.below HB3.out)).bw.size))
          clear xz cz sz
          go_wp2_with fail
          rw [HQ3.out]
          show Q' _ _ _
          rw [HQ'.out]
          simp only [Exit.inBlock, Exit.then]
          exact bodyPost_ret (results_cell_tmp_row (g := A2) rfl _ _ _ _ _ _ rfl HXZ.out Try.underlying50 rfl sizeS) rfl ⟨HBZ.out, .inr ⟨by rw [HERR.out]; decide, by rw [HERR.out]; rfl⟩⟩
        by_cases hm1 : 105190559 < mv
        · have HMM := Lib.hid (show ¬ (0 ≤ rdV ((R.drop 32).take 8) ∧ rdV ((R.drop 32).take 8) ≤ 105190559) by rw [HMV.out]; omega)
          have HERR := Lib.hid (HSE.out 3 (step_3b HIDN.out (by rw [HRL.out]; omega) HMM.out) (by decide))
          go_wp2_with (refine wpList_putV rfl rfl 50 (.tmp 2) (.tmp 90) rfl _ #[.int .i64 0, .slice none 0 0] rfl rfl 50 _ ((HRD.out.below HB3.out)).h2 sizeS rfl oneS ?_; refine Stop.on ?_)
          refine Stop.go ?_
          try simp only [Act.put, List.setIfInBounds_toArray, List.set_cons_zero, List.set_cons_succ]
          intro wz xz cz sz
          try simp only [Act.put, List.setIfInBounds_toArray, List.set_cons_zero, List.set_cons_succ]
          have HXZ := Lib.hid xz
          have HBZ := Lib.hid (((HRD.out.below HB3.out)).bw.trans (cz.below (B := w.heap.size) (fun k e => by have := HA2.out; omega) ((HRD.out.below HB3.out)).bw.size))
          clear xz cz sz
          go_wp2_with fail
          rw [HQ3.out]
          show Q' _ _ _
          rw [HQ'.out]
          simp only [Exit.inBlock, Exit.then]
          exact bodyPost_ret (results_cell_tmp_row (g := A2) rfl _ _ _ _ _ _ rfl HXZ.out Try.underlying50 rfl sizeS) rfl ⟨HBZ.out, .inr ⟨by rw [HERR.out]; decide, by rw [HERR.out]; rfl⟩⟩
        have HMM := Lib.hid (show 0 ≤ rdV ((R.drop 32).take 8) ∧ rdV ((R.drop 32).take 8) ≤ 105190559 by rw [HMV.out]; omega)
        by_cases h48 : N < at_ + 48
        · have h48I : (N : Int) < (at_ : Int) + 48 := by omega
          have HERR := Lib.hid (HSE.out 23 (step_23c HIDN.out (by rw [HRL.out]; omega) HMM.out (by rw [HRL.out]; omega)) (by decide))
          go_wp2_with (refine wpList_putV rfl rfl 50 (.tmp 2) (.tmp 96) rfl _ #[.int .i64 0, .slice none 0 0] rfl rfl 50 _ ((HRD.out.below HB3.out)).h2 sizeS rfl oneS ?_; refine Stop.on ?_)
          refine Stop.go ?_
          try simp only [Act.put, List.setIfInBounds_toArray, List.set_cons_zero, List.set_cons_succ]
          intro wz xz cz sz
          try simp only [Act.put, List.setIfInBounds_toArray, List.set_cons_zero, List.set_cons_succ]
          have HXZ := Lib.hid xz
          have HBZ := Lib.hid (((HRD.out.below HB3.out)).bw.trans (cz.below (B := w.heap.size) (fun k e => by have := HA2.out; omega) ((HRD.out.below HB3.out)).bw.size))
          clear xz cz sz
          go_wp2_with fail
          rw [HQ3.out]
          show Q' _ _ _
          rw [HQ'.out]
          simp only [Exit.inBlock, Exit.then]
          exact bodyPost_ret (results_cell_tmp_row (g := A2) rfl _ _ _ _ _ _ rfl HXZ.out Try.underlying50 rfl sizeS) rfl ⟨HBZ.out, .inr ⟨by rw [HERR.out]; decide, by rw [HERR.out]; rfl⟩⟩
        have h48I : ¬ (N : Int) < (at_ : Int) + 48 := by omega
        go_upto_region 27 with (fail)
        obtain ⟨w5, hw5⟩ : ∃ w5, wf.setCell ⟨A9, 33, none⟩ (.int .i64 mv) = w5 := ⟨_, rfl⟩
        rw [hw5] at HB3 HK3 ⊢
        clear hw5 c33 f33 HBF HF9 hm0 hm1
        obtain ⟨zv, hzv⟩ : ∃ zv, rdV ((R.drop 40).take 8) = zv := ⟨_, rfl⟩
        have hrm := read_any (w := w5) (.slice va N vc) b ((HV.out.below HRD.out.bw).below HB3.out) (at_ + 40) (by rw [HN.out]; omega) (by rw [HN.out]; exact hl)
        rw [show b.drop (at_ + 40) = R.drop 40 by rw [← HR.out, List.drop_drop], hzv, show ((at_ + 40 : Nat) : Int) = (at_ : Int) + 40 by omega] at hrm
        have HRM := Lib.hid hrm
        have HZV := Lib.hid hzv
        clear hrm hzv
        go_wp2_with fail
        refine HRM.out.mono ?_
        rintro e w5' ⟨rfl, rfl⟩
        clear HRM
        have HBR := HB3
        have HF := Lib.hid (show ∀ w', Below w5.heap.size w5 w' → w'.cell? ⟨A4, 0, none⟩ = some (.int .i64 Bu) ∧ w'.cell? ⟨A4, 1, none⟩ = some (.slice la i lc) ∧ w'.rangeAt A4 0 [.int .i64 Bu, .slice la i lc] from fun w' hw' => by
          have h := (HRD.out.below (HBR.out.trans (hw'.mono HBR.out.size))).h4
          exact ⟨by rw [cell_of_row _ _ _ _ _ _ h]; rfl, by rw [cell_of_row _ _ _ _ _ _ h]; rfl, range_block h⟩)
        have HRS := Lib.hid (rSize_ref sp)
        have HTX := Lib.hid (show ∀ a ∈ sp.ref, a.text.size ≤ 65536 from fun a ha => by
          obtain ⟨y, hy, rfl⟩ := List.mem_map.1 ha
          exact (HDI.out.oks.tx y hy).2)
        have HBUD := Lib.hid (show sp.budget = Bu by rw [HDI.out.bud, HBU.out])
        have HSZ := Lib.hid (show (sp.size : Int) ≤ Bu ∧ Bu ≤ 1073741824 by rw [← HBUD.out]; exact ⟨HDI.out.oks.sz, HDI.out.oks.b1⟩)
        go_wp2_with fail
        by_cases hz1 : zv < 1
        · have HSS := Lib.hid (show ¬ (1 ≤ rdV ((R.drop 40).take 8) ∧ rdV ((R.drop 40).take 8) ≤ min 65536 (sp.budget - (sp.size : Int))) by rw [HZV.out]; omega)
          refine wp_region_noPanic ?_
          refine wp_region_H (Below w5.heap.size w5) (by kernel_rfl) ?_
          have hS0 : (Below w5.heap.size w5) w5.drew := (Below.refl _ _).drew
          obtain ⟨wd, hwd⟩ : ∃ wd, w5.drew = wd := ⟨_, rfl⟩
          have hX0 : Below w5.heap.size w5 w5.drew := (Below.refl _ _).drew
          rw [hwd] at hS0 hX0 ⊢
          clear hwd
          refine wpAnyH_takeI (i := 0) (v := ?v1) rfl (by kernel_rfl) (by kernel_rfl) (by kernel_rfl) (fun _ _ _ h => h) (yieldsIf_run rfl (fun w' hw' => ?y1)) hS0 ?_
          case y1 => first | (go_simp; rfl) | (go_simp; done) | rfl
          simp only [Act.put, List.setIfInBounds_toArray, List.set_cons_zero, List.set_cons_succ]
          refine wpAnyH_takeI (i := 1) (v := ?v2) rfl (by kernel_rfl) (by kernel_rfl) (by kernel_rfl) (fun _ _ _ h => h) (yieldsIf_run rfl (fun w' hw' => ?y2)) hS0 ?_
          case y2 => first | (go_simp; rfl) | (go_simp; done) | rfl
          simp only [Act.put, List.setIfInBounds_toArray, List.set_cons_zero, List.set_cons_succ]
          refine wpAnyH_takeI (i := 2) (v := ?v3) rfl (by kernel_rfl) (by kernel_rfl) (by kernel_rfl) (fun _ _ _ h => h) (yieldsIf_run rfl (fun w' hw' => ?y3)) hS0 ?_
          case y3 => first | (go_simp; rfl) | (go_simp; done) | rfl
          simp only [Act.put, List.setIfInBounds_toArray, List.set_cons_zero, List.set_cons_succ]
          refine wpAnyH_takeI (i := 3) (v := undef) rfl (by kernel_rfl) (by kernel_rfl) (by kernel_rfl) (fun _ _ _ h => h) (yieldsIf_skip rfl) hS0 ?_
          simp only [Act.put, List.setIfInBounds_toArray, List.set_cons_zero, List.set_cons_succ]
          refine wpAnyH_takeI (i := 4) (v := undef) rfl (by kernel_rfl) (by kernel_rfl) (by kernel_rfl) (fun _ _ _ h => h) (yieldsIf_skip rfl) hS0 ?_
          simp only [Act.put, List.setIfInBounds_toArray, List.set_cons_zero, List.set_cons_succ]
          refine wpAnyH_takeI (i := 5) (v := ?v4) rfl (by kernel_rfl) (by kernel_rfl) (by kernel_rfl) (fun _ _ _ h => h) (yieldsIf_run rfl (fun w' hw' => ?y4)) hS0 ?_
          case y4 => first | (go_simp; rfl) | (go_simp; done) | rfl
          simp only [Act.put, List.setIfInBounds_toArray, List.set_cons_zero, List.set_cons_succ]
          refine wpAnyH_takeI (i := 6) (v := ?v5) rfl (by kernel_rfl) (by kernel_rfl) (by kernel_rfl) (fun _ _ _ h => h) (yieldsIf_run rfl (fun w' hw' => ?y5)) hS0 ?_
          case y5 => first | (go_simp; rfl) | (go_simp; done) | rfl
          simp only [Act.put, List.setIfInBounds_toArray, List.set_cons_zero, List.set_cons_succ]
          refine wpAnyH_takeI (i := 7) (v := undef) rfl (by kernel_rfl) (by kernel_rfl) (by kernel_rfl) (fun _ _ _ h => h) (yieldsIf_skip rfl) hS0 ?_
          simp only [Act.put, List.setIfInBounds_toArray, List.set_cons_zero, List.set_cons_succ]
          refine wpAnyH_takeI (i := 9) (v := undef) rfl (by kernel_rfl) (by kernel_rfl) (by kernel_rfl) (fun _ _ _ h => h) (yieldsIf_skip rfl) hS0 ?_
          simp only [Act.put, List.setIfInBounds_toArray, List.set_cons_zero, List.set_cons_succ]
          refine wpAnyH_takeI (i := 11) (v := undef) rfl (by kernel_rfl) (by kernel_rfl) (by kernel_rfl) (fun _ _ _ h => h) (yieldsIf_skip rfl) hS0 ?_
          simp only [Act.put, List.setIfInBounds_toArray, List.set_cons_zero, List.set_cons_succ]
          refine wpAnyH_takeI (i := 12) (v := undef) rfl (by kernel_rfl) (by kernel_rfl) (by kernel_rfl) (fun _ _ _ h => h) (yieldsIf_skip rfl) hS0 ?_
          simp only [Act.put, List.setIfInBounds_toArray, List.set_cons_zero, List.set_cons_succ]
          refine wpAnyH_takeI (i := 8) (v := undef) rfl (by kernel_rfl) (by kernel_rfl) (by kernel_rfl) (fun _ _ _ h => h) (yieldsIf_skip rfl) hS0 ?_
          simp only [Act.put, List.setIfInBounds_toArray, List.set_cons_zero, List.set_cons_succ]
          refine wpAnyH_takeI (i := 10) (v := undef) rfl (by kernel_rfl) (by kernel_rfl) (by kernel_rfl) (fun _ _ _ h => h) (yieldsIf_skip rfl) hS0 ?_
          simp only [Act.put, List.setIfInBounds_toArray, List.set_cons_zero, List.set_cons_succ]
          refine wpAnyH_takeI (i := 13) (v := undef) rfl (by kernel_rfl) (by kernel_rfl) (by kernel_rfl) (fun _ _ _ h => h) (yieldsIf_skip rfl) hS0 ?_
          simp only [Act.put, List.setIfInBounds_toArray, List.set_cons_zero, List.set_cons_succ]
          refine wpAnyH_takeI (i := 14) (v := ?v6) rfl (by kernel_rfl) (by kernel_rfl) (by kernel_rfl) (fun _ _ _ h => h) (yieldsIf_run rfl (fun w' hw' => ?y6)) hS0 ?_
          case y6 => first | (go_simp; rfl) | (go_simp; done) | rfl
          simp only [Act.put, List.setIfInBounds_toArray, List.set_cons_zero, List.set_cons_succ]
          refine wpAnyH_done (by kernel_rfl) ?_ _
          refine NoPanic.normal ?_
          have HERR := Lib.hid (HSE.out 3 (step_3c HIDN.out HMM.out (by rw [HRL.out]; omega) HSS.out) (by decide))
          go_wp2_with (refine wpList_putV rfl rfl 50 (.tmp 2) (.tmp 116) rfl _ #[.int .i64 0, .slice none 0 0] rfl rfl 50 _ ((HRD.out.below (HBR.out.trans (hX0.mono HBR.out.size)))).h2 sizeS rfl oneS ?_; refine Stop.on ?_)
          refine Stop.go ?_
          try simp only [Act.put, List.setIfInBounds_toArray, List.set_cons_zero, List.set_cons_succ]
          intro wz xz cz sz
          try simp only [Act.put, List.setIfInBounds_toArray, List.set_cons_zero, List.set_cons_succ]
          have HXZ := Lib.hid xz
          have HBZ := Lib.hid (((HRD.out.below (HBR.out.trans (hX0.mono HBR.out.size)))).bw.trans (cz.below (B := w.heap.size) (fun k e => by have := HA2.out; omega) ((HRD.out.below (HBR.out.trans (hX0.mono HBR.out.size)))).bw.size))
          clear xz cz sz
          go_wp2_with fail
          rw [HQ3.out]
          show Q' _ _ _
          rw [HQ'.out]
          simp only [Exit.inBlock, Exit.then]
          exact bodyPost_ret (results_cell_tmp_row (g := A2) rfl _ _ _ _ _ _ rfl HXZ.out Try.underlying50 rfl sizeS) rfl ⟨HBZ.out, .inr ⟨by rw [HERR.out]; decide, by rw [HERR.out]; rfl⟩⟩
        by_cases hz2 : 65536 < zv
        · have HSS := Lib.hid (show ¬ (1 ≤ rdV ((R.drop 40).take 8) ∧ rdV ((R.drop 40).take 8) ≤ min 65536 (sp.budget - (sp.size : Int))) by rw [HZV.out]; omega)
          refine wp_region_noPanic ?_
          refine wp_region_H (Below w5.heap.size w5) (by kernel_rfl) ?_
          have hS0 : (Below w5.heap.size w5) w5.drew := (Below.refl _ _).drew
          obtain ⟨wd, hwd⟩ : ∃ wd, w5.drew = wd := ⟨_, rfl⟩
          have hX0 : Below w5.heap.size w5 w5.drew := (Below.refl _ _).drew
          rw [hwd] at hS0 hX0 ⊢
          clear hwd
          refine wpAnyH_takeI (i := 0) (v := ?v7) rfl (by kernel_rfl) (by kernel_rfl) (by kernel_rfl) (fun _ _ _ h => h) (yieldsIf_run rfl (fun w' hw' => ?y7)) hS0 ?_
          case y7 => first | (go_simp; rfl) | (go_simp; done) | rfl
          simp only [Act.put, List.setIfInBounds_toArray, List.set_cons_zero, List.set_cons_succ]
          refine wpAnyH_takeI (i := 1) (v := ?v8) rfl (by kernel_rfl) (by kernel_rfl) (by kernel_rfl) (fun _ _ _ h => h) (yieldsIf_run rfl (fun w' hw' => ?y8)) hS0 ?_
          case y8 => first | (go_simp; rfl) | (go_simp; done) | rfl
          simp only [Act.put, List.setIfInBounds_toArray, List.set_cons_zero, List.set_cons_succ]
          refine wpAnyH_takeI (i := 2) (v := ?v9) rfl (by kernel_rfl) (by kernel_rfl) (by kernel_rfl) (fun _ _ _ h => h) (yieldsIf_run rfl (fun w' hw' => ?y9)) hS0 ?_
          case y9 => first | (go_simp; rfl) | (go_simp; done) | rfl
          simp only [Act.put, List.setIfInBounds_toArray, List.set_cons_zero, List.set_cons_succ]
          refine wpAnyH_takeI (i := 3) (v := ?v10) rfl (by kernel_rfl) (by kernel_rfl) (by kernel_rfl) (fun _ _ _ h => h) (yieldsIf_want rfl (fun w' hw' => ?y10)) hS0 ?_
          case y10 => first | (go_simp; rfl) | (go_simp; done) | rfl
          simp only [Act.put, List.setIfInBounds_toArray, List.set_cons_zero, List.set_cons_succ]
          refine wpAnyH_takeI (i := 4) (v := ?v11) rfl (by kernel_rfl) (by kernel_rfl) (by kernel_rfl) (fun _ _ _ h => h) (yieldsIf_want rfl (fun w' hw' => ?y11)) hS0 ?_
          case y11 => first | (go_simp; rfl) | (go_simp; done) | rfl
          simp only [Act.put, List.setIfInBounds_toArray, List.set_cons_zero, List.set_cons_succ]
          refine wpAnyH_takeI (i := 5) (v := ?v12) rfl (by kernel_rfl) (by kernel_rfl) (by kernel_rfl) (fun _ _ _ h => h) (yieldsIf_run rfl (fun w' hw' => ?y12)) hS0 ?_
          case y12 => first | (go_simp; rfl) | (go_simp; done) | rfl
          simp only [Act.put, List.setIfInBounds_toArray, List.set_cons_zero, List.set_cons_succ]
          refine wpAnyH_takeI (i := 6) (v := ?v13) rfl (by kernel_rfl) (by kernel_rfl) (by kernel_rfl) (fun _ _ _ h => h) (yieldsIf_run rfl (fun w' hw' => ?y13)) hS0 ?_
          case y13 => first | (go_simp; rfl) | (go_simp; done) | rfl
          simp only [Act.put, List.setIfInBounds_toArray, List.set_cons_zero, List.set_cons_succ]
          refine wpAnyH_takeI (i := 7) (v := undef) rfl (by kernel_rfl) (by kernel_rfl) (by kernel_rfl) (fun _ _ _ h => h) (yieldsIf_skip rfl) hS0 ?_
          simp only [Act.put, List.setIfInBounds_toArray, List.set_cons_zero, List.set_cons_succ]
          refine wpAnyH_takeI (i := 9) (v := undef) rfl (by kernel_rfl) (by kernel_rfl) (by kernel_rfl) (fun _ _ _ h => h) (yieldsIf_skip rfl) hS0 ?_
          simp only [Act.put, List.setIfInBounds_toArray, List.set_cons_zero, List.set_cons_succ]
          refine wpAnyH_takeI (i := 11) (v := undef) rfl (by kernel_rfl) (by kernel_rfl) (by kernel_rfl) (fun _ _ _ h => h) (yieldsIf_skip rfl) hS0 ?_
          simp only [Act.put, List.setIfInBounds_toArray, List.set_cons_zero, List.set_cons_succ]
          refine wpAnyH_takeI (i := 12) (v := undef) rfl (by kernel_rfl) (by kernel_rfl) (by kernel_rfl) (fun _ _ _ h => h) (yieldsIf_skip rfl) hS0 ?_
          simp only [Act.put, List.setIfInBounds_toArray, List.set_cons_zero, List.set_cons_succ]
          refine wpAnyH_takeI (i := 8) (v := undef) rfl (by kernel_rfl) (by kernel_rfl) (by kernel_rfl) (fun _ _ _ h => h) (yieldsIf_skip rfl) hS0 ?_
          simp only [Act.put, List.setIfInBounds_toArray, List.set_cons_zero, List.set_cons_succ]
          refine wpAnyH_takeI (i := 10) (v := undef) rfl (by kernel_rfl) (by kernel_rfl) (by kernel_rfl) (fun _ _ _ h => h) (yieldsIf_skip rfl) hS0 ?_
          simp only [Act.put, List.setIfInBounds_toArray, List.set_cons_zero, List.set_cons_succ]
          refine wpAnyH_takeI (i := 13) (v := undef) rfl (by kernel_rfl) (by kernel_rfl) (by kernel_rfl) (fun _ _ _ h => h) (yieldsIf_skip rfl) hS0 ?_
          simp only [Act.put, List.setIfInBounds_toArray, List.set_cons_zero, List.set_cons_succ]
          refine wpAnyH_takeI (i := 14) (v := ?v14) rfl (by kernel_rfl) (by kernel_rfl) (by kernel_rfl) (fun _ _ _ h => h) (yieldsIf_run rfl (fun w' hw' => ?y14)) hS0 ?_
          case y14 => first | (go_simp; rfl) | (go_simp; done) | rfl
          simp only [Act.put, List.setIfInBounds_toArray, List.set_cons_zero, List.set_cons_succ]
          refine wpAnyH_done (by kernel_rfl) ?_ _
          refine NoPanic.normal ?_
          have HERR := Lib.hid (HSE.out 3 (step_3c HIDN.out HMM.out (by rw [HRL.out]; omega) HSS.out) (by decide))
          go_wp2_with (refine wpList_putV rfl rfl 50 (.tmp 2) (.tmp 116) rfl _ #[.int .i64 0, .slice none 0 0] rfl rfl 50 _ ((HRD.out.below (HBR.out.trans (hX0.mono HBR.out.size)))).h2 sizeS rfl oneS ?_; refine Stop.on ?_)
          refine Stop.go ?_
          try simp only [Act.put, List.setIfInBounds_toArray, List.set_cons_zero, List.set_cons_succ]
          intro wz xz cz sz
          try simp only [Act.put, List.setIfInBounds_toArray, List.set_cons_zero, List.set_cons_succ]
          have HXZ := Lib.hid xz
          have HBZ := Lib.hid (((HRD.out.below (HBR.out.trans (hX0.mono HBR.out.size)))).bw.trans (cz.below (B := w.heap.size) (fun k e => by have := HA2.out; omega) ((HRD.out.below (HBR.out.trans (hX0.mono HBR.out.size)))).bw.size))
          clear xz cz sz
          go_wp2_with fail
          rw [HQ3.out]
          show Q' _ _ _
          rw [HQ'.out]
          simp only [Exit.inBlock, Exit.then]
          exact bodyPost_ret (results_cell_tmp_row (g := A2) rfl _ _ _ _ _ _ rfl HXZ.out Try.underlying50 rfl sizeS) rfl ⟨HBZ.out, .inr ⟨by rw [HERR.out]; decide, by rw [HERR.out]; rfl⟩⟩
        obtain ⟨z, rfl⟩ : ∃ z : Nat, zv = (z : Int) := ⟨zv.toNat, by omega⟩
        obtain ⟨sz, hsz⟩ : ∃ sz : Nat, sp.size = sz := ⟨_, rfl⟩
        rw [hsz] at HRS HSZ
        have HZZ := Lib.hid hsz
        clear hsz
        have hszb := HSZ.out
        have hwz : IntKind.i64.wrap ((sz : Int) + (z : Int)) = (sz : Int) + (z : Int) := IntWalk.i64_in _ (by omega)
        by_cases hov : Bu < (sz : Int) + (z : Int)
        · have HSS := Lib.hid (show ¬ (1 ≤ rdV ((R.drop 40).take 8) ∧ rdV ((R.drop 40).take 8) ≤ min 65536 (sp.budget - (sp.size : Int))) by rw [HZV.out, HBUD.out, HZZ.out]; omega)
          refine wp_region_noPanic ?_
          refine wp_region_H (Below w5.heap.size w5) (by kernel_rfl) ?_
          have hS0 : (Below w5.heap.size w5) w5.drew := (Below.refl _ _).drew
          obtain ⟨wd, hwd⟩ : ∃ wd, w5.drew = wd := ⟨_, rfl⟩
          have hX0 : Below w5.heap.size w5 w5.drew := (Below.refl _ _).drew
          rw [hwd] at hS0 hX0 ⊢
          clear hwd
          refine wpAnyH_takeI (i := 0) (v := ?v15) rfl (by kernel_rfl) (by kernel_rfl) (by kernel_rfl) (fun _ _ _ h => h) (yieldsIf_run rfl (fun w' hw' => ?y15)) hS0 ?_
          case y15 => first | (go_simp; rfl) | (go_simp; done) | rfl
          simp only [Act.put, List.setIfInBounds_toArray, List.set_cons_zero, List.set_cons_succ]
          refine wpAnyH_takeI (i := 1) (v := ?v16) rfl (by kernel_rfl) (by kernel_rfl) (by kernel_rfl) (fun _ _ _ h => h) (yieldsIf_run rfl (fun w' hw' => ?y16)) hS0 ?_
          case y16 => first | (go_simp; rfl) | (go_simp; done) | rfl
          simp only [Act.put, List.setIfInBounds_toArray, List.set_cons_zero, List.set_cons_succ]
          refine wpAnyH_takeI (i := 2) (v := ?v17) rfl (by kernel_rfl) (by kernel_rfl) (by kernel_rfl) (fun _ _ _ h => h) (yieldsIf_run rfl (fun w' hw' => ?y17)) hS0 ?_
          case y17 => first | (go_simp; rfl) | (go_simp; done) | rfl
          simp only [Act.put, List.setIfInBounds_toArray, List.set_cons_zero, List.set_cons_succ]
          refine wpAnyH_takeI (i := 3) (v := ?v18) rfl (by kernel_rfl) (by kernel_rfl) (by kernel_rfl) (fun _ _ _ h => h) (yieldsIf_want rfl (fun w' hw' => ?y18)) hS0 ?_
          case y18 => first | (go_simp; rfl) | (go_simp; done) | rfl
          simp only [Act.put, List.setIfInBounds_toArray, List.set_cons_zero, List.set_cons_succ]
          refine wpAnyH_takeI (i := 4) (v := ?v19) rfl (by kernel_rfl) (by kernel_rfl) (by kernel_rfl) (fun _ _ _ h => h) (yieldsIf_want rfl (fun w' hw' => ?y19)) hS0 ?_
          case y19 => first | (go_simp; rfl) | (go_simp; done) | rfl
          simp only [Act.put, List.setIfInBounds_toArray, List.set_cons_zero, List.set_cons_succ]
          refine wpAnyH_takeI (i := 5) (v := ?v20) rfl (by kernel_rfl) (by kernel_rfl) (by kernel_rfl) (fun _ _ _ h => h) (yieldsIf_run rfl (fun w' hw' => ?y20)) hS0 ?_
          case y20 => first | (go_simp; rfl) | (go_simp; done) | rfl
          simp only [Act.put, List.setIfInBounds_toArray, List.set_cons_zero, List.set_cons_succ]
          refine wpAnyH_takeI (i := 6) (v := ?v21) rfl (by kernel_rfl) (by kernel_rfl) (by kernel_rfl) (fun _ _ _ h => h) (yieldsIf_run rfl (fun w' hw' => ?y21)) hS0 ?_
          case y21 => first | (go_simp; rfl) | (go_simp; done) | rfl
          simp only [Act.put, List.setIfInBounds_toArray, List.set_cons_zero, List.set_cons_succ]
          refine wpAnyH_takeI (i := 7) (v := .agg #[.int .i64 Bu, .slice la i lc]) rfl (by kernel_rfl) (by kernel_rfl) (by kernel_rfl) (fun _ _ _ h => h) (yieldsIf_load_mid rfl 50 (.tmp 4) rfl A4 0 rfl [.int .i64 Bu, .slice la i lc] _ (fun w' hw' => (HF.out w' hw').2.2) Try.underlying50 rfl sizeSL) hS0 ?_
          simp only [Act.put, List.setIfInBounds_toArray, List.set_cons_zero, List.set_cons_succ]
          refine wpAnyH_takeI (i := 9) (v := ?v22) rfl (by kernel_rfl) (by kernel_rfl) (by kernel_rfl) (fun _ _ _ h => h) (yieldsIf_want rfl (fun w' hw' => ?y22)) hS0 ?_
          case y22 => first | (go_simp; rfl) | (go_simp; done) | rfl
          simp only [Act.put, List.setIfInBounds_toArray, List.set_cons_zero, List.set_cons_succ]
          refine wpAnyH_takeI (i := 11) (v := ?v23) rfl (by kernel_rfl) (by kernel_rfl) (by kernel_rfl) (fun _ _ _ h => h) (yieldsIf_want rfl (fun w' hw' => ?y23)) hS0 ?_
          case y23 => first | (go_simp; rfl) | (go_simp; done) | rfl
          simp only [Act.put, List.setIfInBounds_toArray, List.set_cons_zero, List.set_cons_succ]
          refine wpAnyH_takeI (i := 12) (v := ?v24) rfl (by kernel_rfl) (by kernel_rfl) (by kernel_rfl) (fun _ _ _ h => h) (yieldsIf_want rfl (fun w' hw' => ?y24)) hS0 ?_
          case y24 => (obtain ⟨h0, h1, h2⟩ := HF.out w' hw'; clear hw'; first | (go_simp; rfl) | (go_simp; done))
          simp only [Act.put, List.setIfInBounds_toArray, List.set_cons_zero, List.set_cons_succ]
          refine wpAnyH_want (i := 8) (by kernel_rfl) rfl rfl (fun K hK => ?_)
          go_simp
          go_at_call 39
          have hrl := HRD.out.below (HBR.out.trans (hX0.mono HBR.out.size))
          refine (rBytes_any Bu (.slice la i lc) sp.ref hrl.ol.at_ (by rw [ref_length, HDI.out.len]; have := HIL.out; omega) HTX.out).mono ?_
          rintro e wb ⟨rfl, hbb⟩
          rw [HRS.out]
          have hX1 : Below w5.heap.size w5 wb := hX0.trans (hbb.mono hX0.size)
          refine hK _ _ (hX1) ?_
          clear hK K
          try simp only [Act.put, List.setIfInBounds_toArray, List.set_cons_zero, List.set_cons_succ]
          refine wpAnyH_takeI (i := 10) (v := ?v25) rfl (by kernel_rfl) (by kernel_rfl) (by kernel_rfl) (fun _ _ _ h => h) (yieldsIf_want rfl (fun w' hw' => ?y25)) hX1 ?_
          case y25 => first | (go_simp; rfl) | (go_simp; done) | rfl
          simp only [Act.put, List.setIfInBounds_toArray, List.set_cons_zero, List.set_cons_succ]
          refine wpAnyH_takeI (i := 13) (v := ?v26) rfl (by kernel_rfl) (by kernel_rfl) (by kernel_rfl) (fun _ _ _ h => h) (yieldsIf_want rfl (fun w' hw' => ?y26)) hX1 ?_
          case y26 => first | (go_simp; rfl) | (go_simp; done) | rfl
          simp only [Act.put, List.setIfInBounds_toArray, List.set_cons_zero, List.set_cons_succ]
          refine wpAnyH_takeI (i := 14) (v := ?v27) rfl (by kernel_rfl) (by kernel_rfl) (by kernel_rfl) (fun _ _ _ h => h) (yieldsIf_run rfl (fun w' hw' => ?y27)) hX1 ?_
          case y27 => first | (go_simp; rfl) | (go_simp; done) | rfl
          simp only [Act.put, List.setIfInBounds_toArray, List.set_cons_zero, List.set_cons_succ]
          refine wpAnyH_done (by kernel_rfl) ?_ _
          refine NoPanic.normal ?_
          have HERR := Lib.hid (HSE.out 3 (step_3c HIDN.out HMM.out (by rw [HRL.out]; omega) HSS.out) (by decide))
          go_wp2_with (refine wpList_putV rfl rfl 50 (.tmp 2) (.tmp 116) rfl _ #[.int .i64 0, .slice none 0 0] rfl rfl 50 _ ((HRD.out.below (HBR.out.trans (hX1.mono HBR.out.size)))).h2 sizeS rfl oneS ?_; refine Stop.on ?_)
          refine Stop.go ?_
          try simp only [Act.put, List.setIfInBounds_toArray, List.set_cons_zero, List.set_cons_succ]
          intro wz xz cz sz
          try simp only [Act.put, List.setIfInBounds_toArray, List.set_cons_zero, List.set_cons_succ]
          have HXZ := Lib.hid xz
          have HBZ := Lib.hid (((HRD.out.below (HBR.out.trans (hX1.mono HBR.out.size)))).bw.trans (cz.below (B := w.heap.size) (fun k e => by have := HA2.out; omega) ((HRD.out.below (HBR.out.trans (hX1.mono HBR.out.size)))).bw.size))
          clear xz cz sz
          go_wp2_with fail
          rw [HQ3.out]
          show Q' _ _ _
          rw [HQ'.out]
          simp only [Exit.inBlock, Exit.then]
          exact bodyPost_ret (results_cell_tmp_row (g := A2) rfl _ _ _ _ _ _ rfl HXZ.out Try.underlying50 rfl sizeS) rfl ⟨HBZ.out, .inr ⟨by rw [HERR.out]; decide, by rw [HERR.out]; rfl⟩⟩
        have HSS := Lib.hid (show 1 ≤ rdV ((R.drop 40).take 8) ∧ rdV ((R.drop 40).take 8) ≤ min 65536 (sp.budget - (sp.size : Int)) by rw [HZV.out, HBUD.out, HZZ.out]; omega)
        refine wp_region_noPanic ?_
        refine wp_region_H (Below w5.heap.size w5) (by kernel_rfl) ?_
        have hS0 : (Below w5.heap.size w5) w5.drew := (Below.refl _ _).drew
        obtain ⟨wd, hwd⟩ : ∃ wd, w5.drew = wd := ⟨_, rfl⟩
        have hX0 : Below w5.heap.size w5 w5.drew := (Below.refl _ _).drew
        rw [hwd] at hS0 hX0 ⊢
        clear hwd
        refine wpAnyH_takeI (i := 0) (v := ?v28) rfl (by kernel_rfl) (by kernel_rfl) (by kernel_rfl) (fun _ _ _ h => h) (yieldsIf_run rfl (fun w' hw' => ?y28)) hS0 ?_
        case y28 => first | (go_simp; rfl) | (go_simp; done) | rfl
        simp only [Act.put, List.setIfInBounds_toArray, List.set_cons_zero, List.set_cons_succ]
        refine wpAnyH_takeI (i := 1) (v := ?v29) rfl (by kernel_rfl) (by kernel_rfl) (by kernel_rfl) (fun _ _ _ h => h) (yieldsIf_run rfl (fun w' hw' => ?y29)) hS0 ?_
        case y29 => first | (go_simp; rfl) | (go_simp; done) | rfl
        simp only [Act.put, List.setIfInBounds_toArray, List.set_cons_zero, List.set_cons_succ]
        refine wpAnyH_takeI (i := 2) (v := ?v30) rfl (by kernel_rfl) (by kernel_rfl) (by kernel_rfl) (fun _ _ _ h => h) (yieldsIf_run rfl (fun w' hw' => ?y30)) hS0 ?_
        case y30 => first | (go_simp; rfl) | (go_simp; done) | rfl
        simp only [Act.put, List.setIfInBounds_toArray, List.set_cons_zero, List.set_cons_succ]
        refine wpAnyH_takeI (i := 3) (v := ?v31) rfl (by kernel_rfl) (by kernel_rfl) (by kernel_rfl) (fun _ _ _ h => h) (yieldsIf_want rfl (fun w' hw' => ?y31)) hS0 ?_
        case y31 => first | (go_simp; rfl) | (go_simp; done) | rfl
        simp only [Act.put, List.setIfInBounds_toArray, List.set_cons_zero, List.set_cons_succ]
        refine wpAnyH_takeI (i := 4) (v := ?v32) rfl (by kernel_rfl) (by kernel_rfl) (by kernel_rfl) (fun _ _ _ h => h) (yieldsIf_want rfl (fun w' hw' => ?y32)) hS0 ?_
        case y32 => first | (go_simp; rfl) | (go_simp; done) | rfl
        simp only [Act.put, List.setIfInBounds_toArray, List.set_cons_zero, List.set_cons_succ]
        refine wpAnyH_takeI (i := 5) (v := ?v33) rfl (by kernel_rfl) (by kernel_rfl) (by kernel_rfl) (fun _ _ _ h => h) (yieldsIf_run rfl (fun w' hw' => ?y33)) hS0 ?_
        case y33 => first | (go_simp; rfl) | (go_simp; done) | rfl
        simp only [Act.put, List.setIfInBounds_toArray, List.set_cons_zero, List.set_cons_succ]
        refine wpAnyH_takeI (i := 6) (v := ?v34) rfl (by kernel_rfl) (by kernel_rfl) (by kernel_rfl) (fun _ _ _ h => h) (yieldsIf_run rfl (fun w' hw' => ?y34)) hS0 ?_
        case y34 => first | (go_simp; rfl) | (go_simp; done) | rfl
        simp only [Act.put, List.setIfInBounds_toArray, List.set_cons_zero, List.set_cons_succ]
        refine wpAnyH_takeI (i := 7) (v := .agg #[.int .i64 Bu, .slice la i lc]) rfl (by kernel_rfl) (by kernel_rfl) (by kernel_rfl) (fun _ _ _ h => h) (yieldsIf_load_mid rfl 50 (.tmp 4) rfl A4 0 rfl [.int .i64 Bu, .slice la i lc] _ (fun w' hw' => (HF.out w' hw').2.2) Try.underlying50 rfl sizeSL) hS0 ?_
        simp only [Act.put, List.setIfInBounds_toArray, List.set_cons_zero, List.set_cons_succ]
        refine wpAnyH_takeI (i := 9) (v := ?v35) rfl (by kernel_rfl) (by kernel_rfl) (by kernel_rfl) (fun _ _ _ h => h) (yieldsIf_want rfl (fun w' hw' => ?y35)) hS0 ?_
        case y35 => first | (go_simp; rfl) | (go_simp; done) | rfl
        simp only [Act.put, List.setIfInBounds_toArray, List.set_cons_zero, List.set_cons_succ]
        refine wpAnyH_takeI (i := 11) (v := ?v36) rfl (by kernel_rfl) (by kernel_rfl) (by kernel_rfl) (fun _ _ _ h => h) (yieldsIf_want rfl (fun w' hw' => ?y36)) hS0 ?_
        case y36 => first | (go_simp; rfl) | (go_simp; done) | rfl
        simp only [Act.put, List.setIfInBounds_toArray, List.set_cons_zero, List.set_cons_succ]
        refine wpAnyH_takeI (i := 12) (v := ?v37) rfl (by kernel_rfl) (by kernel_rfl) (by kernel_rfl) (fun _ _ _ h => h) (yieldsIf_want rfl (fun w' hw' => ?y37)) hS0 ?_
        case y37 => (obtain ⟨h0, h1, h2⟩ := HF.out w' hw'; clear hw'; first | (go_simp; rfl) | (go_simp; done))
        simp only [Act.put, List.setIfInBounds_toArray, List.set_cons_zero, List.set_cons_succ]
        refine wpAnyH_want (i := 8) (by kernel_rfl) rfl rfl (fun K hK => ?_)
        go_simp
        go_at_call 39
        have hrl := HRD.out.below (HBR.out.trans (hX0.mono HBR.out.size))
        refine (rBytes_any Bu (.slice la i lc) sp.ref hrl.ol.at_ (by rw [ref_length, HDI.out.len]; have := HIL.out; omega) HTX.out).mono ?_
        rintro e wb ⟨rfl, hbb⟩
        rw [HRS.out]
        have hX1 : Below w5.heap.size w5 wb := hX0.trans (hbb.mono hX0.size)
        refine hK _ _ (hX1) ?_
        clear hK K
        try simp only [Act.put, List.setIfInBounds_toArray, List.set_cons_zero, List.set_cons_succ]
        refine wpAnyH_takeI (i := 10) (v := ?v38) rfl (by kernel_rfl) (by kernel_rfl) (by kernel_rfl) (fun _ _ _ h => h) (yieldsIf_want rfl (fun w' hw' => ?y38)) hX1 ?_
        case y38 => first | (go_simp; rfl) | (go_simp; done) | rfl
        simp only [Act.put, List.setIfInBounds_toArray, List.set_cons_zero, List.set_cons_succ]
        refine wpAnyH_takeI (i := 13) (v := ?v39) rfl (by kernel_rfl) (by kernel_rfl) (by kernel_rfl) (fun _ _ _ h => h) (yieldsIf_want rfl (fun w' hw' => ?y39)) hX1 ?_
        case y39 => first | (go_simp; rfl) | (go_simp; done) | rfl
        simp only [Act.put, List.setIfInBounds_toArray, List.set_cons_zero, List.set_cons_succ]
        refine wpAnyH_takeI (i := 14) (v := ?v40) rfl (by kernel_rfl) (by kernel_rfl) (by kernel_rfl) (fun _ _ _ h => h) (yieldsIf_run rfl (fun w' hw' => ?y40)) hX1 ?_
        case y40 => first | (go_simp; rfl) | (go_simp; done) | rfl
        simp only [Act.put, List.setIfInBounds_toArray, List.set_cons_zero, List.set_cons_succ]
        refine wpAnyH_done (by kernel_rfl) ?_ _
        refine NoPanic.normal ?_
        have HBB := Lib.hid (HBR.out.trans (hX1.mono HBR.out.size))
        have HKB := Lib.hid ((hX1.block _ (Array.getElem?_eq_some_iff.1 HK3.out).1).trans HK3.out)
        clear hS0 hX0 hrl hbb hX1 hwz hov hszb HF HK3
        by_cases ht : N < at_ + 48 + z
        · have htI : (N : Int) < (at_ : Int) + 48 + (z : Int) := by omega
          have HERR := Lib.hid (HSE.out 23 (step_23d HIDN.out HMM.out (by rw [HRL.out]; omega) HSS.out (by rw [HZV.out, HRL.out, Int.toNat_natCast]; omega)) (by decide))
          go_wp2_with (refine wpList_putV rfl rfl 50 (.tmp 2) (.tmp 124) rfl _ #[.int .i64 0, .slice none 0 0] rfl rfl 50 _ ((HRD.out.below HBB.out)).h2 sizeS rfl oneS ?_; refine Stop.on ?_)
          refine Stop.go ?_
          try simp only [Act.put, List.setIfInBounds_toArray, List.set_cons_zero, List.set_cons_succ]
          intro wz xz cz sz
          try simp only [Act.put, List.setIfInBounds_toArray, List.set_cons_zero, List.set_cons_succ]
          have HXZ := Lib.hid xz
          have HBZ := Lib.hid (((HRD.out.below HBB.out)).bw.trans (cz.below (B := w.heap.size) (fun k e => by have := HA2.out; omega) ((HRD.out.below HBB.out)).bw.size))
          clear xz cz sz
          go_wp2_with fail
          rw [HQ3.out]
          show Q' _ _ _
          rw [HQ'.out]
          simp only [Exit.inBlock, Exit.then]
          exact bodyPost_ret (results_cell_tmp_row (g := A2) rfl _ _ _ _ _ _ rfl HXZ.out Try.underlying50 rfl sizeS) rfl ⟨HBZ.out, .inr ⟨by rw [HERR.out]; decide, by rw [HERR.out]; rfl⟩⟩
        have htI : ¬ (N : Int) < (at_ : Int) + 48 + (z : Int) := by omega
        have HOK := Lib.hid (show StepOk R sp from ⟨HR32.out, HIDN.out, by rw [HRL.out]; omega, HMM.out, by rw [HRL.out]; omega, HSS.out, by rw [HZV.out, HRL.out, Int.toNat_natCast]; omega⟩)
        obtain ⟨tx, htx⟩ : ∃ tx : ByteArray, (⟨((R.drop 48).take z).toArray⟩ : ByteArray) = tx := ⟨_, rfl⟩
        have HART := Lib.hid (show artOf R = ⟨id0, tx, mv⟩ by unfold artOf; rw [HZV.out, HMV.out, HID.out, Int.toNat_natCast, htx])
        have hvb := (HV.out.below HRD.out.bw).below HBB.out
        obtain ⟨g, off, rfl, hg, _⟩ := hvb.get (i := 0) (by rw [HN.out]; omega)
        have hcap : N ≤ vc := by obtain ⟨a', c', e, h1, _⟩ := hvb.ex; cases e; rw [HN.out] at h1; exact h1
        have hvb2 : ListAt byE wb (.slice (some ⟨g, off, none⟩) b.length vc) b := by rw [HN.out]; exact hvb
        have hl1 := (take_list (n := at_ + 48) hvb2 (by rw [HN.out]; omega)).2.1 (by omega)
        rw [show b.drop (at_ + 48) = R.drop 48 by rw [← HR.out, List.drop_drop], show b.length - (at_ + 48) = (R.drop 48).length by rw [List.length_drop, HRL.out, HN.out]; omega] at hl1
        have hl2 := (take_list (n := z) hl1 (by rw [List.length_drop, HRL.out]; omega)).1
        have hstr := (bytesAt_of hl2).str
        rw [htx] at hstr
        have hstr : (convert 22 9 (.slice (some ⟨g, off + (at_ + 48), none⟩) z (vc - (at_ + 48)))).run Try.prog wb = .ok (.string tx) wb := hstr
        have hsl := Lib.run_slice_window (P := Try.prog) wb 22 5 Try.underlying22 (fun w => by kernel_rfl) g off N vc (at_ + 48) (at_ + 48 + z) (by omega) (by omega)
        rw [show at_ + 48 + z - (at_ + 48) = z by omega, show ((at_ + 48 : Nat) : Int) = (at_ : Int) + 48 by omega, show ((at_ + 48 + z : Nat) : Int) = (at_ : Int) + 48 + (z : Int) by omega] at hsl
        have c32 := (cells_range HKB.out).2.1
        have f32 := frozen_of_row wb _ 32 _ _ HKB.out
        have HB6 := Lib.hid (HBB.out.setCell (p := ⟨A9, 32, none⟩) (show W0.heap.size ≤ A9 by have := HA9.out; omega) (.string tx))
        have HK6 := Lib.hid (show (wb.setCell ⟨A9, 32, none⟩ (.string tx)).heap[A9]? = some (.cells (⟨id0, tx, mv⟩ : RefA).cells.toArray 37 (0, 0)) by rw [heap_setCell_same _ _ _ _ _ _ HKB.out, cells_txt])
        clear hvb hvb2 hl1 hl2 hg htx HV
        go_upto_region 35 with (fail)
        obtain ⟨w6, hw6⟩ : ∃ w6, wb.setCell ⟨A9, 32, none⟩ (.string tx) = w6 := ⟨_, rfl⟩
        rw [hw6] at HB6 HK6 ⊢
        clear hw6 c32 f32 hsl hstr HBB HKB
        have hrd6 := HRD.out.below HB6.out
        have c41 : w6.cell? ⟨A4, 1, none⟩ = some (.slice la i lc) := by rw [cell_of_row _ _ _ _ _ _ hrd6.h4]; rfl
        obtain ⟨we, hwe⟩ : ∃ we, w6.alloc (.cells (⟨id0, tx, mv⟩ : RefA).cells.toArray 37) = we := ⟨_, rfl⟩
        have hbe : Below w6.heap.size w6 we := hwe ▸ (Below.refl _ _).alloc (Nat.le_refl _) _
        have HXE := Lib.hid (show we.heap[w6.heap.size]? = some (.cells (⟨id0, tx, mv⟩ : RefA).cells.toArray 37 (0, 0)) from hwe ▸ heap_alloc_new _ _)
        have HRE := Lib.hid (hrd6.below hbe)
        have HWE := Lib.hid hwe
        have HN6 := Lib.hid (show sp.ref.length = i by rw [ref_length, HDI.out.len])
        have HAE := Lib.hid (show A4 + 1 ≤ we.heap.size by have h1 := (Array.getElem?_eq_some_iff.1 HRE.out.h4).1; omega)
        clear hrd6 hbe hwe
        go_wp2_with (refine wpList_loadV rfl (some 137) rfl 37 (.tmp 9) rfl _ rfl 37 _ (0, 0) _ HK6.out Try.underlying37 rfl sizeAA ?_; refine Stop.on ?_)
        refine Stop.go ?_
        try simp only [Act.put, List.setIfInBounds_toArray, List.set_cons_zero, List.set_cons_succ]
        refine wpList_lit1 rfl 48 37 (.tmp 137) rfl _ rfl HWE.out Try.underlying48 sizeAA zOkA (by rw [(show (⟨id0, tx, mv⟩ : RefA).cells.toArray.size = 34 by rw [List.size_toArray, RefA.cells_length])]; decide) (by rw [(show (⟨id0, tx, mv⟩ : RefA).cells.toArray.size = 34 by rw [List.size_toArray, RefA.cells_length])]; decide) ?_
        try simp only [Act.put, List.setIfInBounds_toArray, List.set_cons_zero, List.set_cons_succ]
        refine wpList_appL refE rfl (n := i) (m := 1) (.tmp 136) (.tmp 138) rfl rfl HRE.out.ol rfl (list_block1 refE HXE.out) HN6.out rfl (by omega) HAE.out ?_
        try simp only [Act.put, List.setIfInBounds_toArray, List.set_cons_zero, List.set_cons_succ]
        intro a7 c7 w7 ho7 hg7 hk7
        try simp only [Act.put, List.setIfInBounds_toArray, List.set_cons_zero, List.set_cons_succ]
        have hc7 := OwnL.grown_chg hg7
        have hn4 : ∀ A, A ≤ A4 → ¬ (Value.slice la i lc).ownBlock = some A := fun A hA e => by have h1 := (HRE.out.ol.lt e).1; omega
        have h74 := (hc7.block A4 (Array.getElem?_eq_some_iff.1 HRE.out.h4).1 (hn4 A4 (Nat.le_refl _))).trans HRE.out.h4
        have h72 := (hc7.block A2 (Array.getElem?_eq_some_iff.1 HRE.out.h2).1 (hn4 A2 (by have := HZ.out; omega))).trans HRE.out.h2
        have hb7 := HRE.out.ol.grown_below hg7 HAE.out
        have hcz := Chg.setCell (F := fun k => k = A4) w7 (a := ⟨A4, 1, none⟩) (.slice a7 (i + 1) c7) rfl
        have HRN := Lib.hid (show RD w (w7.setCell ⟨A4, 1, none⟩ (.slice a7 (i + 1) c7)) A2 A4 Bu a7 (i + 1) c7 (sp.add (artOf R).id (artOf R).text (artOf R).min).ref from
          ⟨(heap_setCell_other w7 ⟨A4, 1, none⟩ _ _ (show A2 ≠ A4 by have := HZ.out; omega)).trans h72, by rw [heap_setCell_same _ _ _ _ _ _ h74]; rfl, by
            rw [add_ref, HART.out]
            exact ho7.chg hcz (fun k hk e => by have h1 := (ho7.lt hk).1; omega), (HRE.out.bw.trans (hb7.mono (by have := HZ.out; have := HA2.out; omega))).setCell (show w.heap.size ≤ A4 by have := HZ.out; omega) _⟩)
        have c7c := cell_of_row w7 _ 1 _ _ _ h74
        have f7c := frozen_of_row w7 _ 1 _ _ h74
        simp only [List.getElem?_toArray, List.getElem?_cons_zero, List.getElem?_cons_succ] at c7c
        have HDN := Lib.hid (dinv_next HDI.out (by rw [HR.out]; exact HOK.out))
        rw [HR.out, HZV.out, Int.toNat_natCast] at HDN
        clear h74 h72 hb7 hcz hc7 ho7 hg7 hk7 hn4 c41
        go_wp2_with fail
        rw [HQ3.out]
        change _ ∧ _
        go_roundw
        case rel => exact ⟨i + 1, at_ + (48 + z), _, a7, c7, by go_num, congrArg (Value.int .i64) (by omega), HDN, HRN, by have := HCO.out; omega⟩
        case measure => simp [intOf]; omega
end Go.Proofs.Ytnmdgjodbikndaa
