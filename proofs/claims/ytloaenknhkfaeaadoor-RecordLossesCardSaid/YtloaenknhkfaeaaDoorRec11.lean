/- Records: the reference's Decode. -/
import Derived.Test.YtloaenknhkfaeaaDoorRec10
import Derived.Test.YtloaenknhkfaeaaDoorRegion3
namespace Go.Proofs.YtloaenknhkfaeaaDoor
open Go.RowKit
set_option linter.unusedVariables false
set_option linter.unusedSimpArgs false

theorem rcheck_at (p : PartD) (a : Option Addr) (len cap : Nat) (h : p.bytes.length = len) (w : World) : Calls Tryd.prog 20 #[.agg #[.int .i64 p.kind, .int .i64 p.gen, .int .i64 p.num, .int .i64 p.idx, .int .i64 p.cnt, .slice a len cap]] w fun e w' => e = .returned (.int .i64 (chkP p)) ∧ Below w.heap.size w w' := by
  subst h
  exact rcheck_any p.kind p.gen p.num p.idx p.cnt a p.bytes.length cap w
theorem half_ne {m l : List UInt8} {i : Nat} (hi : i < 16) (h : (shaL m)[i]? ≠ l[i]?) : halfL m ≠ l.take 16 := by
  intro e
  apply h
  have := congrArg (·[i]?) e
  simp only [halfL, List.getElem?_take] at this
  rwa [if_pos hi, if_pos hi] at this
theorem half_eq {m l : List UInt8} (h : ∀ j, j < 16 → (shaL m)[j]? = l[j]?) : halfL m = l.take 16 := by
  apply List.ext_getElem?
  intro j
  simp only [halfL, List.getElem?_take]
  by_cases hj : j < 16
  · rw [if_pos hj, if_pos hj]; exact h j hj
  · rw [if_neg hj, if_neg hj]
theorem wp_appSeg {o : Oper} {a : Act} {Q : Exit → Act → World → Prop} {K : Act → World → Prop} {w : World} (s x : Operand) (ho : o.op = .call { callee := .builtin .append, args := #[s, x], argTypes := #[22, 22] })
    {B n m : Nat} {v : Value} {F : Nat → Prop} {xs ys : List UInt8} {g off c : Nat} (hs : a.eval s = v) (hown : w.ownsRow B 5 1 v n (bvs xs)) (hx : a.eval x = .slice (some ⟨g, off, none⟩) m c)
    (hb : BytesAt w F (.slice (some ⟨g, off, none⟩) m c) ys) (hN : n + ys.length = n + m) (hn : n + m < 1000000000000) (hB : B ≤ w.heap.size)
    (h : ∀ a' cap' w', w'.ownsRow B 5 1 (.slice a' (n + m) cap') (n + m) (bvs (xs ++ ys)) → w.grownBy w' v.ownBlock → K (a.put o.dst (.slice a' (n + m) cap')) w') :
    o.wp Tryd.prog a w K Q := by
  obtain ⟨i0, hi, hz0, hz1, hz2⟩ := info_parts infoByte
  obtain ⟨rfl, _⟩ := hb.len
  refine wp_append_own _ s x 22 ho B 5 i0 _ 1 1 Tryd.underlying22 hi hz0 hz1 hz2 rfl (by decide) v n (bvs xs) hs hown
    ⟨g, off, none⟩ ys.length c (bvs ys) hx (by simp) ?_ bvs_oneCell (by unfold maxLen; omega) (by omega) hB ?_
  · obtain ⟨xa, xc, e, _, hr⟩ := hb
    intro j u hu
    obtain ⟨g', off', e', _, _, hr⟩ := hr (by intro e; rw [e] at hu; simp [bvs] at hu)
    cases e
    cases e'
    have hadd : (⟨g, off, none⟩ : Addr).add j = ⟨g, off + j, none⟩ := by unfold Addr.add; split <;> simp_all
    rw [hadd]
    exact hr j u hu
  · intro v' w' hown' hgrow _
    rw [← bvs_append] at hown'
    obtain ⟨a', cap', rfl⟩ := ownsRow_form hown'
    exact h a' cap' w' hown' hgrow
theorem own_ne {w : World} {B n s b : Nat} {T1 T2 : TypeId} {v : Value} {xs : List Value} {c : Array Value} {fr : Nat × Nat} (h : w.ownsRow B T1 s v n xs) (hb : w.heap[b]? = some (.cells c T2 fr)) (hne : T1 ≠ T2) : ∀ k, v.ownBlock = some k → k ≠ b := by
  intro k hk e
  subst e
  rcases h.2 with ⟨rfl, _⟩ | ⟨g, cap, cur, rfl, _, hg, _⟩
  · cases hk
  · cases hk
    rw [hg] at hb
    cases hb
    exact hne rfl
theorem yieldsC_run {P : Program} {ops : Array Oper} {S : World → Prop} {o : Oper} {v : Value} {a : Act} (hg : o.guard = none) (h : ∀ w, S w → o.quietAt P a (fun x => x = w) w v) : YieldsC P ops S o v a :=
  ⟨by simp [Region.wanted, hg], h⟩

set_option maxRecDepth 100000 in
set_option maxHeartbeats 2000000 in
theorem rDecode_len {w : World} (l : List UInt8) (a : Option Addr) (n cap : Nat) (hl : l.length = n) (h : n ≠ 256) :
    Calls Tryd.prog 25 #[.slice a n cap] w (DecPost w l) := by
  by_cases h1 : n < 256
  · have hd : decE l = 4 := by unfold decE; rw [if_pos (by omega)]
    have HD := Lib.hid hd
    clear hd hl h
    go_enter Tryd.func25, Tryd.ntmps25
    go_wp2_with fail
    exact bodyPost_ret (v := .tuple #[.agg #[.int .i64 0, .int .i64 0, .int .i64 0, .int .i64 0, .int .i64 0, .slice none 0 0], .int .i64 4]) (by simp [results, Tryd.results25, go_sem]) rfl (DecPost.no HD.out (by decide) ((Below.refl _ _).alloc (Nat.le_refl _) _))
  · have h2 : 256 < n := by omega
    have hd : decE l = 5 := by unfold decE; rw [if_neg (by omega), if_pos (by omega)]
    have HD := Lib.hid hd
    have h1' : 256 ≤ n := by omega
    clear hd hl h h1
    go_enter Tryd.func25, Tryd.ntmps25
    go_wp2_with fail
    exact bodyPost_ret (v := .tuple #[.agg #[.int .i64 0, .int .i64 0, .int .i64 0, .int .i64 0, .int .i64 0, .slice none 0 0], .int .i64 5]) (by simp [results, Tryd.results25, go_sem]) rfl (DecPost.no HD.out (by decide) ((Below.refl _ _).alloc (Nat.le_refl _) _))

set_option maxRecDepth 100000 in
set_option maxHeartbeats 2000000 in
theorem rDecode_main {w : World} (l : List UInt8) (g off cap : Nat) {F : Nat → Prop} (hv : BytesAt w F (.slice (some ⟨g, off, none⟩) 256 cap) l) (hl : l.length = 256) :
    Calls Tryd.prog 25 #[.slice (some ⟨g, off, none⟩) 256 cap] w (DecPost w l) := by
  obtain ⟨-, hcap⟩ := hv.len
  have hc16 : ¬ cap = 16 := by omega
  have hi16 : (16 : Int) ≤ (cap : Int) := by omega
  have hc20 : ¬ cap = 20 := by omega
  have hi20 : (20 : Int) ≤ (cap : Int) := by omega
  have hc24 : ¬ cap = 24 := by omega
  have hi24 : (24 : Int) ≤ (cap : Int) := by omega
  have hc26 : ¬ cap = 26 := by omega
  have hi26 : (26 : Int) ≤ (cap : Int) := by omega
  have hc28 : ¬ cap = 28 := by omega
  have hi28 : (28 : Int) ≤ (cap : Int) := by omega
  have hc30 : ¬ cap = 30 := by omega
  have hi30 : (30 : Int) ≤ (cap : Int) := by omega
  have hc32 : ¬ cap = 32 := by omega
  have hi32 : (32 : Int) ≤ (cap : Int) := by omega
  obtain ⟨w1, hw1⟩ : ∃ w1, w.alloc (.cells #[.int .i64 0, .int .i64 0, .int .i64 0, .int .i64 0, .int .i64 0, .slice none 0 0] 24) = w1 := ⟨_, rfl⟩
  have hb1 : Below w.heap.size w w1 := hw1 ▸ (Below.refl _ w).alloc (Nat.le_refl _) _
  have hs1 : w1.heap.size = w.heap.size + 1 := by rw [← hw1]; simp
  have hR1 : w1.heap[w.heap.size]? = some (.cells #[.int .i64 0, .int .i64 0, .int .i64 0, .int .i64 0, .int .i64 0, .slice none 0 0] 24 (0, 0)) := by rw [← hw1]; exact heap_alloc_new _ _
  have hl1 := hv.here.below hb1
  rw [← hl] at hl1
  have hl2 := hl1.part 16 240 (cap - 16) (by omega) (by omega)
  rw [List.take_of_length_le (by simp; omega)] at hl2
  have hsum := rSum_any (l.drop 16) _ hl2.n (by simp; omega)
  have HSUM := Lib.hid hsum
  have HV := Lib.hid hv
  have HL := Lib.hid hl
  have HW1 := Lib.hid hw1
  have HB1 := Lib.hid hb1
  have HS1 := Lib.hid hs1
  have HR1 := Lib.hid hR1
  clear hsum hv hl hw1 hb1 hs1 hR1 hl1 hl2
  go_enter Tryd.func25, Tryd.ntmps25
  go_wp2_with fail
  rw [HW1.out]
  refine HSUM.out.mono ?_
  rintro e w2 ⟨rfl, hb2⟩
  obtain ⟨w3, hw3⟩ : ∃ w3, w2.alloc (.cells (bvs (shaL (l.drop 16))).toArray 92) = w3 := ⟨_, rfl⟩
  have hb3 : Below w2.heap.size w2 w3 := hw3 ▸ (Below.refl _ _).alloc (Nat.le_refl _) _
  have hs1 := HS1.out
  have hq2 := hb2.size
  have hR3 := (hb3.block w.heap.size (by omega)).trans ((hb2.block w.heap.size (by omega)).trans HR1.out)
  have hD3 : w3.heap[w2.heap.size]? = some (.cells (bvs (shaL (l.drop 16))).toArray 92 (0, 0)) := by rw [← hw3]; exact heap_alloc_new _ _
  have hnw := heap_alloc_new w2 (.cells Z32 92)
  have hsz := d32Size (l.drop 16)
  have hzs := z32Size (l.drop 16)
  have hbd3 := (HB1.out.trans (hb2.mono HB1.out.size)).trans (hb3.mono (Nat.le_trans HB1.out.size hb2.size))
  have hl3 := HV.out.here.below hbd3
  have HSZ := Lib.hid hsz
  have HZS := Lib.hid hzs
  have HNW := Lib.hid hnw
  have HW3 := Lib.hid hw3
  have HR3 := Lib.hid hR3
  have HD3 := Lib.hid hD3
  have HBD := Lib.hid hbd3
  have HL3 := Lib.hid hl3
  have hq3 : w.heap.size < w3.heap.size := (Array.getElem?_eq_some_iff.1 hR3).1
  clear hb2 hw3 hb3 hs1 hq2 hR3 hD3 hnw hsz hzs hbd3 hl3
  go_wp2_with (with_reducible refine wpList_store_row rfl 92 _ _ rfl w2.heap.size (bvs (shaL (l.drop 16))).toArray rfl rfl 92 _ HNW.out HSZ.out HZS.out (oneCell_bvs _) ?_; rw [World.setRow_alloc_new, HW3.out])
  clear HNW HSZ HZS HW3
  go_loopw [5] (fun iv wr => ∃ i : Nat, i ≤ 16 ∧ iv = .int .i64 (i : Int) ∧ (∀ j, j < i → (shaL (l.drop 16))[j]? = l[j]?) ∧ Below w3.heap.size w3 wr) (fun iv _ => 16 - (intOf iv).toNat)
  case atStart => exact ⟨0, Nat.zero_le _, rfl, fun j hj => by omega, Below.refl _ _⟩
  case round =>
    obtain ⟨i, hi, rfl, hj, hB⟩ := hrel
    have HJ := Lib.hid hj
    have HB := Lib.hid hB
    have hRr := (hB.block w.heap.size hq3).trans HR3.out
    have HRr := Lib.hid hRr
    clear hj hRr
    by_cases hlt : i < 16
    · have hlr := HL3.out.below hB
      have hil : i < l.length := by rw [HL.out]; omega
      have his : i < (shaL (l.drop 16)).length := by simp; omega
      rw [← HL.out] at hlr
      obtain ⟨g', off', e, hcb⟩ := hlr.get hil
      cases e
      have hDr := (hB.block w2.heap.size (Array.getElem?_eq_some_iff.1 HD3.out).1).trans HD3.out
      have hcd : wr.cell? ⟨w2.heap.size, i, none⟩ = some (.int .u8 ((shaL (l.drop 16))[i].toNat : Int)) := by
        rw [cell_of_row _ _ _ _ _ _ hDr, List.getElem?_toArray, bvs_getElem?, List.getElem?_eq_getElem his]; rfl
      have hi256 : (i : Int) < (256 : Int) := by omega
      have hi32 : (i : Int) < (32 : Int) := by omega
      have hgX : (shaL (l.drop 16))[i]? = some (shaL (l.drop 16))[i] := List.getElem?_eq_getElem his
      have hgY : l[i]? = some l[i] := List.getElem?_eq_getElem hil
      by_cases hx : (shaL (l.drop 16))[i] = l[i]
      · rw [hx] at hcd hgX
        have hne : ((l[i].toNat : Int) != (l[i].toNat : Int)) = false := by simp
        have hst : ∀ j, j < i + 1 → (shaL (l.drop 16))[j]? = l[j]? := fun j hj2 => by
          by_cases e : j = i
          · subst e; rw [hgX, hgY]
          · exact HJ.out j (by omega)
        have HST := Lib.hid hst
        obtain ⟨Y, hY⟩ : ∃ Y, l[i].toNat = Y := ⟨_, rfl⟩
        rw [hY] at hcd hcb hne
        clear hst hgX hgY hx hDr hlr hB hY
        go_wp2_with fail
        go_quiet (fail)
        go_wp2_with fail
        go_roundw
        case rel => exact ⟨i + 1, by omega, by go_num, HST.out, HB.out.trans (below_drewN2 _ _ _)⟩
        case measure => simp [intOf]; omega
      · have hne : (((shaL (l.drop 16))[i].toNat : Int) != (l[i].toNat : Int)) = true := by
          simp only [bne_iff_ne, ne_eq]
          intro e
          exact hx (UInt8.toNat_inj.1 (by omega))
        have hdec := decE_sum HL.out (half_ne hlt (by rw [hgX, hgY]; simpa using hx))
        have HDEC := Lib.hid hdec
        obtain ⟨Y, hY⟩ : ∃ Y, l[i].toNat = Y := ⟨_, rfl⟩
        obtain ⟨X, hX⟩ : ∃ X, (shaL (l.drop 16))[i].toNat = X := ⟨_, rfl⟩
        rw [hY] at hcb hne
        rw [hX] at hcd hne
        clear hgX hgY hx hDr hlr hB hY hX hdec
        go_wp2_with fail
        go_quiet (fail)
        have hBq : Below w.heap.size w (wr.drewN nq) := (HBD.out.trans (HB.out.mono HBD.out.size)).trans (below_drewN2 _ _ _)
        have HBQ := Lib.hid hBq
        have hRq : (wr.drewN nq).heap[w.heap.size]? = some (.cells #[.int .i64 0, .int .i64 0, .int .i64 0, .int .i64 0, .int .i64 0, .slice none 0 0] 24 (0, 0)) := HRr.out
        have hrf : ∀ j : Nat, wr.frozen? ⟨w.heap.size, j, none⟩ = false := fun j => frozen_of_row _ _ _ _ _ HRr.out
        have hy0 : wr.cell? ⟨w.heap.size, 0, none⟩ = some (.int .i64 0) := by rw [cell_of_row _ _ _ _ _ _ HRr.out]; rfl
        have hy1 : wr.cell? ⟨w.heap.size, 1, none⟩ = some (.int .i64 0) := by rw [cell_of_row _ _ _ _ _ _ HRr.out]; rfl
        have hy2 : wr.cell? ⟨w.heap.size, 2, none⟩ = some (.int .i64 0) := by rw [cell_of_row _ _ _ _ _ _ HRr.out]; rfl
        have hy3 : wr.cell? ⟨w.heap.size, 3, none⟩ = some (.int .i64 0) := by rw [cell_of_row _ _ _ _ _ _ HRr.out]; rfl
        have hy4 : wr.cell? ⟨w.heap.size, 4, none⟩ = some (.int .i64 0) := by rw [cell_of_row _ _ _ _ _ _ HRr.out]; rfl
        have hy5 : wr.cell? ⟨w.heap.size, 5, none⟩ = some (.slice none 0 0) := by rw [cell_of_row _ _ _ _ _ _ HRr.out]; rfl
        clear hBq hRq
        go_wp2_with fail
        exact bodyPost_ret (v := .tuple #[.agg #[.int .i64 0, .int .i64 0, .int .i64 0, .int .i64 0, .int .i64 0, .slice none 0 0], .int .i64 22]) (by simp [results, Tryd.results25, go_sem, hy0, hy1, hy2, hy3, hy4, hy5]) rfl (DecPost.no HDEC.out (by decide) ((((((HBQ.out.setCell (Nat.le_refl _) _).setCell (Nat.le_refl _) _).setCell (Nat.le_refl _) _).setCell (Nat.le_refl _) _).setCell (Nat.le_refl _) _).setCell (Nat.le_refl _) _))
    · obtain rfl : i = 16 := by omega
      have hsum := half_eq HJ.out
      have hlr := HL3.out.below hB
      rw [← HL.out] at hlr
      have hlv := hlr.part 30 2 (cap - 30) (by rw [HL.out]; omega) (by omega)
      have hval := value_any hlv (by simp; omega)
      obtain ⟨sz, hsz⟩ : ∃ sz, valN ((l.drop 30).take 2) = sz := ⟨_, rfl⟩
      rw [hsz] at hval
      have hszq : szL l = sz := hsz
      have hszb : sz ≤ 65535 := by have h1 := valN_lt ((l.drop 30).take 2); have h2 : ((l.drop 30).take 2).length = 2 := (List.length_take ..).trans (by rw [List.length_drop, HL.out]; rfl); rw [hsz, h2] at h1; omega
      have hdE : decE l = (if szL l ≤ 224 ∧ zerosB (l.drop (32 + szL l)) = true ∧ chkP (rawP l) = 0 then 0 else 3) := by
        unfold decE
        rw [if_neg (by rw [HL.out]; omega), if_neg (by rw [HL.out]; omega), if_neg (by rw [hsum]; simp)]
      have hbdr := HBD.out.trans (hB.mono HBD.out.size)
      have hlrh := HL3.out.below hB
      have HDE := Lib.hid hdE
      have HVAL := Lib.hid hval
      have HSZQ := Lib.hid hszq
      have HBR := Lib.hid hbdr
      have HLR := Lib.hid hlrh
      have hqr : w.heap.size < wr.heap.size := (Array.getElem?_eq_some_iff.1 HRr.out).1
      clear hsum hlr hlv hval hsz hszq hdE hbdr hlrh hB HJ HD3 HR3 HBD HL3
      go_wp2_with fail
      refine HVAL.out.mono ?_
      rintro e v' ⟨rfl, rfl⟩
      by_cases h224 : 224 < sz
      · have h3 : decE l = 3 := by rw [HDE.out, if_neg (by rw [HSZQ.out]; omega)]
        have HD3 := Lib.hid h3
        have hrf : ∀ j : Nat, wr.frozen? ⟨w.heap.size, j, none⟩ = false := fun j => frozen_of_row _ _ _ _ _ HRr.out
        clear h3
        have hy0 : wr.cell? ⟨w.heap.size, 0, none⟩ = some (.int .i64 0) := by rw [cell_of_row _ _ _ _ _ _ HRr.out]; rfl
        have hy1 : wr.cell? ⟨w.heap.size, 1, none⟩ = some (.int .i64 0) := by rw [cell_of_row _ _ _ _ _ _ HRr.out]; rfl
        have hy2 : wr.cell? ⟨w.heap.size, 2, none⟩ = some (.int .i64 0) := by rw [cell_of_row _ _ _ _ _ _ HRr.out]; rfl
        have hy3 : wr.cell? ⟨w.heap.size, 3, none⟩ = some (.int .i64 0) := by rw [cell_of_row _ _ _ _ _ _ HRr.out]; rfl
        have hy4 : wr.cell? ⟨w.heap.size, 4, none⟩ = some (.int .i64 0) := by rw [cell_of_row _ _ _ _ _ _ HRr.out]; rfl
        have hy5 : wr.cell? ⟨w.heap.size, 5, none⟩ = some (.slice none 0 0) := by rw [cell_of_row _ _ _ _ _ _ HRr.out]; rfl
        go_wp2_with fail
        exact bodyPost_ret (v := .tuple #[.agg #[.int .i64 0, .int .i64 0, .int .i64 0, .int .i64 0, .int .i64 0, .slice none 0 0], .int .i64 3]) (by simp [results, Tryd.results25, go_sem, hy0, hy1, hy2, hy3, hy4, hy5]) rfl (DecPost.no HD3.out (by decide) ((((((HBR.out.setCell (Nat.le_refl _) _).setCell (Nat.le_refl _) _).setCell (Nat.le_refl _) _).setCell (Nat.le_refl _) _).setCell (Nat.le_refl _) _).setCell (Nat.le_refl _) _))
      · have h224' : sz ≤ 224 := by omega
        have hw32 : IntKind.i64.wrap (32 + (sz : Int)) = 32 + (sz : Int) := IntWalk.i64_in _ (by omega)
        have hge32 : (32 : Int) ≤ 32 + (sz : Int) := by omega
        have htn : (32 + (sz : Int)).toNat = 32 + sz := by omega
        have hsb : 32 + sz - 32 = sz := by omega
        have hi32s : (32 : Int) + (sz : Int) ≤ (cap : Int) := by omega
        clear h224
        have hsegl : (seg l 32 sz).length = sz := seg_length _ _ _ (by rw [HL.out]; omega)
        have hrb : (rawP l).bytes = seg l 32 sz := by unfold rawP; rw [HSZQ.out]
        have HSEG := Lib.hid hsegl
        have HRB := Lib.hid hrb
        clear hsegl hrb
        have hV : ∀ (lo n : Nat) (w' : World), lo + n ≤ 256 → n ≤ 4 → Below wr.heap.size wr w' → Calls Tryd.prog 57 #[.slice (some ⟨g, off + lo, none⟩) n (cap - lo)] w' (fun e w'' => e = .returned (.int .i64 (valN (seg l lo n) : Int)) ∧ w'' = w') := by
          intro lo n w' h1 h2 hb
          have hlx := HLR.out.below hb
          rw [← HL.out] at hlx
          have hly := hlx.part lo n (cap - lo) (by rw [HL.out]; exact h1) (by omega)
          exact (value_any hly (by rw [List.length_take]; omega)).mono fun e w'' ⟨a, b⟩ => ⟨a, b.symm⟩
        have HV2 := Lib.hid hV
        clear hV
        go_wp2_with fail
        refine wp_region_noPanic ?_
        refine wp_region_F 23 (Below wr.heap.size wr) (by kernel_rfl) ?_
        have hS0 : (Below wr.heap.size wr) wr.drew := (Below.refl _ _).drew
        obtain ⟨wd, hwd⟩ : ∃ wd, wr.drew = wd := ⟨_, rfl⟩
        rw [hwd] at hS0 ⊢
        clear hwd
        refine wpAnyF_take (i := 0) (fin := 23) (v := ?v1) rfl (by kernel_rfl) (by kernel_rfl) (by kernel_rfl) (by kernel_rfl) (fun _ _ _ h => h) (yieldsIf_run rfl (fun w' hw' => ?y1)) hS0 ?_
        case y1 => first | (go_simp; rfl) | (go_simp; done) | rfl
        simp only [Act.put, List.setIfInBounds_toArray, List.set_cons_zero, List.set_cons_succ]
        refine wpAnyF_take (i := 1) (fin := 23) (v := ?v2) rfl (by kernel_rfl) (by kernel_rfl) (by kernel_rfl) (by kernel_rfl) (fun _ _ _ h => h) (yieldsIf_run rfl (fun w' hw' => ?y2)) hS0 ?_
        case y2 => first | (go_simp; rfl) | (go_simp; done) | rfl
        simp only [Act.put, List.setIfInBounds_toArray, List.set_cons_zero, List.set_cons_succ]
        refine wpAnyF_take (i := 3) (fin := 23) (v := ?v3) rfl (by kernel_rfl) (by kernel_rfl) (by kernel_rfl) (by kernel_rfl) (fun _ _ _ h => h) (yieldsIf_run rfl (fun w' hw' => ?y3)) hS0 ?_
        case y3 => first | (go_simp; rfl) | (go_simp; done) | rfl
        simp only [Act.put, List.setIfInBounds_toArray, List.set_cons_zero, List.set_cons_succ]
        refine wpAnyF_take (i := 4) (fin := 23) (v := ?v4) rfl (by kernel_rfl) (by kernel_rfl) (by kernel_rfl) (by kernel_rfl) (fun _ _ _ h => h) (yieldsIf_run rfl (fun w' hw' => ?y4)) hS0 ?_
        case y4 => first | (go_simp; rfl) | (go_simp; done) | rfl
        simp only [Act.put, List.setIfInBounds_toArray, List.set_cons_zero, List.set_cons_succ]
        refine wpAnyF_take (i := 6) (fin := 23) (v := ?v5) rfl (by kernel_rfl) (by kernel_rfl) (by kernel_rfl) (by kernel_rfl) (fun _ _ _ h => h) (yieldsIf_run rfl (fun w' hw' => ?y5)) hS0 ?_
        case y5 => first | (go_simp; rfl) | (go_simp; done) | rfl
        simp only [Act.put, List.setIfInBounds_toArray, List.set_cons_zero, List.set_cons_succ]
        refine wpAnyF_take (i := 7) (fin := 23) (v := ?v6) rfl (by kernel_rfl) (by kernel_rfl) (by kernel_rfl) (by kernel_rfl) (fun _ _ _ h => h) (yieldsIf_run rfl (fun w' hw' => ?y6)) hS0 ?_
        case y6 => first | (go_simp; rfl) | (go_simp; done) | rfl
        simp only [Act.put, List.setIfInBounds_toArray, List.set_cons_zero, List.set_cons_succ]
        refine wpAnyF_take (i := 9) (fin := 23) (v := ?v7) rfl (by kernel_rfl) (by kernel_rfl) (by kernel_rfl) (by kernel_rfl) (fun _ _ _ h => h) (yieldsIf_run rfl (fun w' hw' => ?y7)) hS0 ?_
        case y7 => first | (go_simp; rfl) | (go_simp; done) | rfl
        simp only [Act.put, List.setIfInBounds_toArray, List.set_cons_zero, List.set_cons_succ]
        refine wpAnyF_take (i := 10) (fin := 23) (v := ?v8) rfl (by kernel_rfl) (by kernel_rfl) (by kernel_rfl) (by kernel_rfl) (fun _ _ _ h => h) (yieldsIf_run rfl (fun w' hw' => ?y8)) hS0 ?_
        case y8 => first | (go_simp; rfl) | (go_simp; done) | rfl
        simp only [Act.put, List.setIfInBounds_toArray, List.set_cons_zero, List.set_cons_succ]
        refine wpAnyF_take (i := 12) (fin := 23) (v := ?v9) rfl (by kernel_rfl) (by kernel_rfl) (by kernel_rfl) (by kernel_rfl) (fun _ _ _ h => h) (yieldsIf_run rfl (fun w' hw' => ?y9)) hS0 ?_
        case y9 => first | (go_simp; rfl) | (go_simp; done) | rfl
        simp only [Act.put, List.setIfInBounds_toArray, List.set_cons_zero, List.set_cons_succ]
        refine wpAnyF_take (i := 13) (fin := 23) (v := ?v10) rfl (by kernel_rfl) (by kernel_rfl) (by kernel_rfl) (by kernel_rfl) (fun _ _ _ h => h) (yieldsIf_run rfl (fun w' hw' => ?y10)) hS0 ?_
        case y10 => first | (go_simp; rfl) | (go_simp; done) | rfl
        simp only [Act.put, List.setIfInBounds_toArray, List.set_cons_zero, List.set_cons_succ]
        refine wpAnyF_take (i := 16) (fin := 23) (v := ?v11) rfl (by kernel_rfl) (by kernel_rfl) (by kernel_rfl) (by kernel_rfl) (fun _ _ _ h => h) (yieldsIf_run rfl (fun w' hw' => ?y11)) hS0 ?_
        case y11 => first | (go_simp; rfl) | (go_simp; done) | rfl
        simp only [Act.put, List.setIfInBounds_toArray, List.set_cons_zero, List.set_cons_succ]
        refine wpAnyF_take (i := 17) (fin := 23) (v := ?v12) rfl (by kernel_rfl) (by kernel_rfl) (by kernel_rfl) (by kernel_rfl) (fun _ _ _ h => h) (yieldsIf_run rfl (fun w' hw' => ?y12)) hS0 ?_
        case y12 => first | (go_simp; rfl) | (go_simp; done) | rfl
        simp only [Act.put, List.setIfInBounds_toArray, List.set_cons_zero, List.set_cons_succ]
        refine wpAnyF_take (i := 18) (fin := 23) (v := (.int .i64 (32 + (sz : Int)))) rfl (by kernel_rfl) (by kernel_rfl) (by kernel_rfl) (by kernel_rfl) (fun _ _ _ h => h) (yieldsIf_run rfl (fun w' hw' => ?y13)) hS0 ?_
        case y13 => first | (go_simp; rfl) | (go_simp; done) | rfl
        simp only [Act.put, List.setIfInBounds_toArray, List.set_cons_zero, List.set_cons_succ]
        refine wpAnyF_take (i := 19) (fin := 23) (v := (.slice (some ⟨g, off + 32, none⟩) sz (cap - 32))) rfl (by kernel_rfl) (by kernel_rfl) (by kernel_rfl) (by kernel_rfl) (fun _ _ _ h => h) (yieldsIf_run rfl (fun w' hw' => ?y14)) hS0 ?_
        case y14 => first | (go_simp; rfl) | (go_simp; done) | rfl
        simp only [Act.put, List.setIfInBounds_toArray, List.set_cons_zero, List.set_cons_succ]
        refine wpAnyF_takeC (i := 2) (fin := 23) (v := .int .i64 (valN (seg l 16 4) : Nat)) rfl (by kernel_rfl) (by kernel_rfl) (by kernel_rfl) (by kernel_rfl) (fun _ _ _ h => h) (yieldsC_run rfl (fun w' hw' => ?yc2)) hS0 ?_
        case yc2 =>
          have hcall := HV2.out 16 4 w' (by omega) (by omega) hw'
          clear hw'
          unfold Oper.quietAt
          go_simp
          try exact hcall
        simp only [Act.put, List.setIfInBounds_toArray, List.set_cons_zero, List.set_cons_succ]
        refine wpAnyF_takeC (i := 5) (fin := 23) (v := .int .i64 (valN (seg l 20 4) : Nat)) rfl (by kernel_rfl) (by kernel_rfl) (by kernel_rfl) (by kernel_rfl) (fun _ _ _ h => h) (yieldsC_run rfl (fun w' hw' => ?yc5)) hS0 ?_
        case yc5 =>
          have hcall := HV2.out 20 4 w' (by omega) (by omega) hw'
          clear hw'
          unfold Oper.quietAt
          go_simp
          try exact hcall
        simp only [Act.put, List.setIfInBounds_toArray, List.set_cons_zero, List.set_cons_succ]
        refine wpAnyF_takeC (i := 8) (fin := 23) (v := .int .i64 (valN (seg l 24 2) : Nat)) rfl (by kernel_rfl) (by kernel_rfl) (by kernel_rfl) (by kernel_rfl) (fun _ _ _ h => h) (yieldsC_run rfl (fun w' hw' => ?yc8)) hS0 ?_
        case yc8 =>
          have hcall := HV2.out 24 2 w' (by omega) (by omega) hw'
          clear hw'
          unfold Oper.quietAt
          go_simp
          try exact hcall
        simp only [Act.put, List.setIfInBounds_toArray, List.set_cons_zero, List.set_cons_succ]
        refine wpAnyF_takeC (i := 11) (fin := 23) (v := .int .i64 (valN (seg l 26 2) : Nat)) rfl (by kernel_rfl) (by kernel_rfl) (by kernel_rfl) (by kernel_rfl) (fun _ _ _ h => h) (yieldsC_run rfl (fun w' hw' => ?yc11)) hS0 ?_
        case yc11 =>
          have hcall := HV2.out 26 2 w' (by omega) (by omega) hw'
          clear hw'
          unfold Oper.quietAt
          go_simp
          try exact hcall
        simp only [Act.put, List.setIfInBounds_toArray, List.set_cons_zero, List.set_cons_succ]
        refine wpAnyF_takeC (i := 14) (fin := 23) (v := .int .i64 (valN (seg l 28 2) : Nat)) rfl (by kernel_rfl) (by kernel_rfl) (by kernel_rfl) (by kernel_rfl) (fun _ _ _ h => h) (yieldsC_run rfl (fun w' hw' => ?yc14)) hS0 ?_
        case yc14 =>
          have hcall := HV2.out 28 2 w' (by omega) (by omega) hw'
          clear hw'
          unfold Oper.quietAt
          go_simp
          try exact hcall
        simp only [Act.put, List.setIfInBounds_toArray, List.set_cons_zero, List.set_cons_succ]
        refine wpAnyF_two (i := 15) (j := 22) (by kernel_rfl) rfl rfl rfl rfl (fun K hK => ?_) (fun K hK => ?_)
        · skip
          go_simp
          obtain ⟨eqa, heqa⟩ : ∃ eqa, wd.alloc (.cells #[] 5) = eqa := ⟨_, rfl⟩
          have hseqa : Below wr.heap.size wr eqa := heqa ▸ hS0.alloc hS0.size _
          have hoeqa : eqa.ownsRow wr.heap.size 5 1 (.slice (some ⟨wd.heap.size, 0, none⟩) 0 0) 0 (bvs []) := heqa ▸ own_zero hS0.size 5
          try rw [heqa]
          refine hK _ _ (fun _ => hseqa) ?_
          clear hK K
          try simp only [Act.put, List.setIfInBounds_toArray, List.set_cons_zero, List.set_cons_succ]
          refine wpAnyF_two (i := 20) (j := 22) (by kernel_rfl) rfl rfl rfl rfl (fun K hK => ?_) (fun K hK => ?_)
          · skip
            have hlx := HLR.out.below hseqa
            rw [← HL.out] at hlx
            have hly : BytesAt eqa (fun k => k < w.heap.size) (.slice (some ⟨g, off + 32, none⟩) sz (cap - 32)) (seg l 32 sz) := hlx.part 32 sz (cap - 32) (by rw [HL.out]; omega) (by omega)
            refine wp_appSeg (.tmp 54) (.tmp 58) rfl rfl hoeqa rfl hly (by rw [HSEG.out]) (by omega) hseqa.size ?_
            intro aaqaa acqaa aqaa hoaqaa hgaqaa
            rw [List.nil_append] at hoaqaa
            simp only [Nat.zero_add] at hoaqaa ⊢
            have hsaqaa : Below wr.heap.size wr aqaa := hseqa.grown hgaqaa hseqa.size (fun j hj => (ownsRow_lt hoeqa j hj).1)
            clear hlx hly
            refine hK _ _ (fun _ => hsaqaa) ?_
            clear hK K
            try simp only [Act.put, List.setIfInBounds_toArray, List.set_cons_zero, List.set_cons_succ]
            refine wpAnyF_take (i := 21) (fin := 23) (v := ?v15) rfl (by kernel_rfl) (by kernel_rfl) (by kernel_rfl) (by kernel_rfl) (fun _ _ _ h => h) (yieldsIf_run rfl (fun w' hw' => ?y15)) hsaqaa ?_
            case y15 => first | (go_simp; rfl) | (go_simp; done) | rfl
            simp only [Act.put, List.setIfInBounds_toArray, List.set_cons_zero, List.set_cons_succ]
            refine wpAnyF_do (i := 22) (by kernel_rfl) rfl rfl (fun K hK => ?_)
            go_simp
            obtain ⟨pqaad, hpqaad⟩ : ∃ pqaad, aqaa.alloc (.cells #[.int .i64 0, .int .i64 0, .int .i64 0, .int .i64 0, .int .i64 0, .slice none 0 0] 24) = pqaad := ⟨_, rfl⟩
            have hspqaad : Below wr.heap.size wr pqaad := hpqaad ▸ hsaqaa.alloc hsaqaa.size _
            have hpbqaad : Below aqaa.heap.size aqaa pqaad := hpqaad ▸ (Below.refl _ _).alloc (Nat.le_refl _) _
            have hpnqaad : pqaad.heap[aqaa.heap.size]? = some (.cells #[.int .i64 0, .int .i64 0, .int .i64 0, .int .i64 0, .int .i64 0, .slice none 0 0] 24 (0, 0)) := by rw [← hpqaad]; exact heap_alloc_new _ _
            have hplqaad : wr.heap.size ≤ aqaa.heap.size := hsaqaa.size
            try rw [hpqaad]
            refine hK _ _ (fun _ => hspqaad) ?_
            clear hK K
            try simp only [Act.put, List.setIfInBounds_toArray, List.set_cons_zero, List.set_cons_succ]
            have hTBqaad := hpnqaad
            have hTLqaad := hplqaad
            have hOOqaad := own_kept hoaqaa hpbqaad
            have hNEqaad := own_ne hOOqaad hTBqaad (by decide)
            refine wpAnyF_do (i := 23) (by kernel_rfl) rfl rfl (fun K hK => ?_)
            have hzf : ∀ j : Nat, pqaad.frozen? ⟨aqaa.heap.size, j, none⟩ = false := fun j => frozen_of_row _ _ _ _ _ hTBqaad
            have hzc0 : pqaad.cell? ⟨aqaa.heap.size, 0, none⟩ = some (.int .i64 0) := by rw [cell_of_row _ _ _ _ _ _ hTBqaad]; rfl
            have hzc1 : pqaad.cell? ⟨aqaa.heap.size, 1, none⟩ = some (.int .i64 0) := by rw [cell_of_row _ _ _ _ _ _ hTBqaad]; rfl
            have hzc2 : pqaad.cell? ⟨aqaa.heap.size, 2, none⟩ = some (.int .i64 0) := by rw [cell_of_row _ _ _ _ _ _ hTBqaad]; rfl
            have hzc3 : pqaad.cell? ⟨aqaa.heap.size, 3, none⟩ = some (.int .i64 0) := by rw [cell_of_row _ _ _ _ _ _ hTBqaad]; rfl
            have hzc4 : pqaad.cell? ⟨aqaa.heap.size, 4, none⟩ = some (.int .i64 0) := by rw [cell_of_row _ _ _ _ _ _ hTBqaad]; rfl
            have hzc5 : pqaad.cell? ⟨aqaa.heap.size, 5, none⟩ = some (.slice none 0 0) := by rw [cell_of_row _ _ _ _ _ _ hTBqaad]; rfl
            have hTl : wr.heap.size ≤ aqaa.heap.size := hTLqaad
            have hTs := (Array.getElem?_eq_some_iff.1 hTBqaad).1
            go_simp
            obtain ⟨zqaad, hzqaad⟩ : ∃ zqaad, ((((((pqaad.setCell ⟨aqaa.heap.size, 0, none⟩ (.int .i64 (valN (seg l 24 2) : Nat))).setCell ⟨aqaa.heap.size, 1, none⟩ (.int .i64 (valN (seg l 16 4) : Nat))).setCell ⟨aqaa.heap.size, 2, none⟩ (.int .i64 (valN (seg l 20 4) : Nat))).setCell ⟨aqaa.heap.size, 3, none⟩ (.int .i64 (valN (seg l 26 2) : Nat))).setCell ⟨aqaa.heap.size, 4, none⟩ (.int .i64 (valN (seg l 28 2) : Nat))).setCell ⟨aqaa.heap.size, 5, none⟩ (.slice aaqaa sz acqaa)) = zqaad := ⟨_, rfl⟩
            have hcz : Chg (fun k => k = aqaa.heap.size) pqaad zqaad := hzqaad ▸ chg6 _ _ _ _ _ _ _ _
            have hszqaad : Below wr.heap.size wr zqaad := hspqaad.trans (hcz.below (fun k h => by have : k = aqaa.heap.size := h; omega) hspqaad.size)
            have hTzqaad : zqaad.heap[aqaa.heap.size]? = some (.cells #[.int .i64 (valN (seg l 24 2) : Nat), .int .i64 (valN (seg l 16 4) : Nat), .int .i64 (valN (seg l 20 4) : Nat), .int .i64 (valN (seg l 26 2) : Nat), .int .i64 (valN (seg l 28 2) : Nat), .slice aaqaa sz acqaa] 24 (0, 0)) := by
              rw [← hzqaad]
              exact heap_setCell_same _ _ 5 _ _ _ (heap_setCell_same _ _ 4 _ _ _ (heap_setCell_same _ _ 3 _ _ _ (heap_setCell_same _ _ 2 _ _ _ (heap_setCell_same _ _ 1 _ _ _ (heap_setCell_same _ _ 0 _ _ _ hTBqaad)))))
            have hozqaad : zqaad.ownsRow wr.heap.size 5 1 (.slice aaqaa sz acqaa) sz (bvs (seg l 32 sz)) := ownsRow_chg' hOOqaad hcz (fun k hk h => by have : k = aqaa.heap.size := h; exact hNEqaad k hk this)
            try rw [hzqaad]
            clear hzf hzc0 hzc1 hzc2 hzc3 hzc4 hzc5 hcz
            refine hK _ _ (fun h => absurd rfl h) ?_
            clear hK K
            refine wpAnyF_done (by kernel_rfl) ?_ _
            refine NoPanic.normal ?_
            have hTZ := hTzqaad
            have hbz : Below w.heap.size w zqaad := HBR.out.trans (hszqaad.mono HBR.out.size)
            have hRz := (hszqaad.block w.heap.size hqr).trans HRr.out
            have ht0 : zqaad.cell? ⟨aqaa.heap.size, 0, none⟩ = some (.int .i64 (valN (seg l 24 2) : Nat)) := by rw [cell_of_row _ _ _ _ _ _ hTZ]; rfl
            have ht1 : zqaad.cell? ⟨aqaa.heap.size, 1, none⟩ = some (.int .i64 (valN (seg l 16 4) : Nat)) := by rw [cell_of_row _ _ _ _ _ _ hTZ]; rfl
            have ht2 : zqaad.cell? ⟨aqaa.heap.size, 2, none⟩ = some (.int .i64 (valN (seg l 20 4) : Nat)) := by rw [cell_of_row _ _ _ _ _ _ hTZ]; rfl
            have ht3 : zqaad.cell? ⟨aqaa.heap.size, 3, none⟩ = some (.int .i64 (valN (seg l 26 2) : Nat)) := by rw [cell_of_row _ _ _ _ _ _ hTZ]; rfl
            have ht4 : zqaad.cell? ⟨aqaa.heap.size, 4, none⟩ = some (.int .i64 (valN (seg l 28 2) : Nat)) := by rw [cell_of_row _ _ _ _ _ _ hTZ]; rfl
            have ht5 : zqaad.cell? ⟨aqaa.heap.size, 5, none⟩ = some (.slice aaqaa sz acqaa) := by rw [cell_of_row _ _ _ _ _ _ hTZ]; rfl
            have HTZ := Lib.hid hTZ
            have HRZ := Lib.hid hRz
            have HBZ := Lib.hid hbz
            have HOZ := Lib.hid hozqaad
            have HSZZ := Lib.hid hszqaad
            clear hTZ hRz hbz hozqaad hszqaad hTzqaad hzqaad
            have hchk : Calls Tryd.prog 20 #[.agg #[.int .i64 (valN (seg l 24 2) : Nat), .int .i64 (valN (seg l 16 4) : Nat), .int .i64 (valN (seg l 20 4) : Nat), .int .i64 (valN (seg l 26 2) : Nat), .int .i64 (valN (seg l 28 2) : Nat), .slice aaqaa sz acqaa]] zqaad (fun e w' => e = .returned (.int .i64 (chkP (rawP l))) ∧ Below zqaad.heap.size zqaad w') := rcheck_at (rawP l) aaqaa sz acqaa (by rw [HRB.out]; exact HSEG.out) zqaad
            have HCHK := Lib.hid hchk
            clear hchk
            go_wp2_with fail
            refine HCHK.out.mono ?_
            rintro e y ⟨rfl, hY⟩
            have hTy := (hY.block _ (Array.getElem?_eq_some_iff.1 HTZ.out).1).trans HTZ.out
            have hRy := (hY.block _ (Array.getElem?_eq_some_iff.1 HRZ.out).1).trans HRZ.out
            have hby := HBZ.out.trans (hY.mono HBZ.out.size)
            have hsy := HSZZ.out.trans (hY.mono HSZZ.out.size)
            have hly := HLR.out.below hsy
            have hoy := own_kept HOZ.out hY
            have hrf : ∀ j : Nat, y.frozen? ⟨w.heap.size, j, none⟩ = false := fun j => frozen_of_row _ _ _ _ _ hRy
            have hy0 : y.cell? ⟨w.heap.size, 0, none⟩ = some (.int .i64 0) := by rw [cell_of_row _ _ _ _ _ _ hRy]; rfl
            have hy1 : y.cell? ⟨w.heap.size, 1, none⟩ = some (.int .i64 0) := by rw [cell_of_row _ _ _ _ _ _ hRy]; rfl
            have hy2 : y.cell? ⟨w.heap.size, 2, none⟩ = some (.int .i64 0) := by rw [cell_of_row _ _ _ _ _ _ hRy]; rfl
            have hy3 : y.cell? ⟨w.heap.size, 3, none⟩ = some (.int .i64 0) := by rw [cell_of_row _ _ _ _ _ _ hRy]; rfl
            have hy4 : y.cell? ⟨w.heap.size, 4, none⟩ = some (.int .i64 0) := by rw [cell_of_row _ _ _ _ _ _ hRy]; rfl
            have hy5 : y.cell? ⟨w.heap.size, 5, none⟩ = some (.slice none 0 0) := by rw [cell_of_row _ _ _ _ _ _ hRy]; rfl
            have HTY := Lib.hid hTy
            have HBY := Lib.hid hby
            have HLY := Lib.hid hly
            have HOY := Lib.hid hoy
            clear hY hTy hRy hby hsy hly hoy ht0 ht1 ht2 ht3 ht4 ht5
            by_cases hk : chkP (rawP l) = 0
            · have hk2 : (chkP (rawP l) != 0) = false := by simp [hk]
              have HK := Lib.hid hk
              clear hk
              go_wp2_with fail
              go_loop [8] (fun iv => ∃ i : Nat, 32 + sz + i ≤ 256 ∧ iv = .int .i64 ((32 : Int) + (sz : Int) + (i : Int)) ∧ zerosB ((l.drop (32 + sz)).take i) = true) (fun iv => (256 - intOf iv).toNat)
              case atStart => exact ⟨0, by omega, by simp, rfl⟩
              case round =>
                obtain ⟨i, hi, rfl, hz⟩ := hrel
                have HZ := Lib.hid hz
                clear hz
                have htn2 : ((32 : Int) + (sz : Int) + (i : Int)).toNat = 32 + sz + i := by omega
                have hge0 : (0 : Int) ≤ (32 : Int) + (sz : Int) + (i : Int) := by omega
                by_cases hlt : 32 + sz + i < 256
                · have hltI : (32 : Int) + (sz : Int) + (i : Int) < (256 : Int) := by omega
                  have hil : 32 + sz + i < l.length := by rw [HL.out]; exact hlt
                  have hly := HLY.out
                  rw [← HL.out] at hly
                  obtain ⟨g', off', e, hcb⟩ := hly.get hil
                  cases e
                  have hdl : i < (l.drop (32 + sz)).length := by rw [List.length_drop]; omega
                  have hde : (l.drop (32 + sz))[i] = l[32 + sz + i] := List.getElem_drop ..
                  by_cases hx : l[32 + sz + i] = 0
                  · have h0 : l[32 + sz + i].toNat = 0 := by rw [hx]; rfl
                    rw [h0] at hcb
                    have hz2 : zerosB ((l.drop (32 + sz)).take (i + 1)) = true := by rw [zeros_snoc _ i hdl, HZ.out, hde, hx]; rfl
                    have HZ2 := Lib.hid hz2
                    clear hz2 h0 hx hde hdl hly
                    go_wp2_with fail
                    go_round
                    case rel => exact ⟨i + 1, by omega, by go_num, HZ2.out⟩
                    case measure => simp [intOf]; omega
                  · have hz2 := zeros_stop _ i hdl (by rw [hde]; exact hx)
                    have hn0 : ((l[32 + sz + i].toNat : Int) != 0) = true := by
                      simp only [bne_iff_ne, ne_eq]
                      intro e
                      exact hx (UInt8.toNat_inj.1 (by simpa using e))
                    have h3 : decE l = 3 := by rw [HDE.out, if_neg (fun h => by rw [HSZQ.out, hz2] at h; exact absurd h.2.1 (by simp))]
                    have HD3 := Lib.hid h3
                    obtain ⟨X, hX⟩ : ∃ X, l[32 + sz + i].toNat = X := ⟨_, rfl⟩
                    rw [hX] at hcb hn0
                    clear hz2 hx hde hdl hly h3 hX
                    go_wp2_with fail
                    exact bodyPost_ret (v := .tuple #[.agg #[.int .i64 0, .int .i64 0, .int .i64 0, .int .i64 0, .int .i64 0, .slice none 0 0], .int .i64 3]) (by simp [results, Tryd.results25, go_sem, hy0, hy1, hy2, hy3, hy4, hy5]) rfl (DecPost.no HD3.out (by decide) ((((((HBY.out.setCell (Nat.le_refl _) _).setCell (Nat.le_refl _) _).setCell (Nat.le_refl _) _).setCell (Nat.le_refl _) _).setCell (Nat.le_refl _) _).setCell (Nat.le_refl _) _))
                · obtain rfl : i = 256 - (32 + sz) := by omega
                  have hltI : ¬ (32 : Int) + (sz : Int) + ((256 - (32 + sz) : Nat) : Int) < (256 : Int) := by omega
                  have hgeI : (256 : Int) ≤ (32 : Int) + (sz : Int) + ((256 - (32 + sz) : Nat) : Int) := by omega
                  have hz2 : zerosB (l.drop (32 + sz)) = true := by
                    have := HZ.out
                    rwa [List.take_of_length_le (by rw [List.length_drop, HL.out]; exact Nat.le_refl _)] at this
                  have hd0 : decE l = 0 := by rw [HDE.out, if_pos ⟨by rw [HSZQ.out]; omega, by rw [HSZQ.out]; exact hz2, HK.out⟩]
                  have HD0 := Lib.hid hd0
                  have hty0 := HTY.out
                  have ht0 : y.cell? ⟨aqaa.heap.size, 0, none⟩ = some (.int .i64 (valN (seg l 24 2) : Nat)) := by rw [cell_of_row _ _ _ _ _ _ hty0]; rfl
                  have ht1 : y.cell? ⟨aqaa.heap.size, 1, none⟩ = some (.int .i64 (valN (seg l 16 4) : Nat)) := by rw [cell_of_row _ _ _ _ _ _ hty0]; rfl
                  have ht2 : y.cell? ⟨aqaa.heap.size, 2, none⟩ = some (.int .i64 (valN (seg l 20 4) : Nat)) := by rw [cell_of_row _ _ _ _ _ _ hty0]; rfl
                  have ht3 : y.cell? ⟨aqaa.heap.size, 3, none⟩ = some (.int .i64 (valN (seg l 26 2) : Nat)) := by rw [cell_of_row _ _ _ _ _ _ hty0]; rfl
                  have ht4 : y.cell? ⟨aqaa.heap.size, 4, none⟩ = some (.int .i64 (valN (seg l 28 2) : Nat)) := by rw [cell_of_row _ _ _ _ _ _ hty0]; rfl
                  have ht5 : y.cell? ⟨aqaa.heap.size, 5, none⟩ = some (.slice aaqaa sz acqaa) := by rw [cell_of_row _ _ _ _ _ _ hty0]; rfl
                  clear hz2 hd0 hty0
                  obtain ⟨I, hI⟩ : ∃ I, (32 : Int) + (sz : Int) + ((256 - (32 + sz) : Nat) : Int) = I := ⟨_, rfl⟩
                  rw [hI] at hltI hgeI ⊢
                  clear hI htn2 hge0
                  go_wp2_with fail
                  refine bodyPost_ret (v := .tuple #[.agg #[.int .i64 (valN (seg l 24 2) : Nat), .int .i64 (valN (seg l 16 4) : Nat), .int .i64 (valN (seg l 20 4) : Nat), .int .i64 (valN (seg l 26 2) : Nat), .int .i64 (valN (seg l 28 2) : Nat), .slice aaqaa sz acqaa], .int .i64 0]) (by simp [results, Tryd.results25, go_sem, hy0, hy1, hy2, hy3, hy4, hy5]) rfl ?_
                  refine DecPost.yes HD0.out (by rw [HRB.out]; exact HSEG.out) ?_ ?_
                  · rw [HRB.out]
                    refine ownsRow_base (ownsRow_chg (G := fun k => k = w.heap.size) HOY.out (chg6 _ _ _ _ _ _ _ _) (fun k h1 _ h3 => by have : k = w.heap.size := h3; omega)) (by omega)
                  · exact HBY.out.trans ((chg6 _ _ _ _ _ _ _ _).below (fun k h => by have : k = w.heap.size := h; omega) HBY.out.size)
            · have hk2 : (chkP (rawP l) != 0) = true := by simpa using hk
              have hd3 : decE l = 3 := by rw [HDE.out, if_neg (fun h => hk h.2.2)]
              have HD3 := Lib.hid hd3
              clear hk hd3
              go_wp2_with fail
              exact bodyPost_ret (v := .tuple #[.agg #[.int .i64 0, .int .i64 0, .int .i64 0, .int .i64 0, .int .i64 0, .slice none 0 0], .int .i64 3]) (by simp [results, Tryd.results25, go_sem, hy0, hy1, hy2, hy3, hy4, hy5]) rfl (DecPost.no HD3.out (by decide) ((((((HBY.out.setCell (Nat.le_refl _) _).setCell (Nat.le_refl _) _).setCell (Nat.le_refl _) _).setCell (Nat.le_refl _) _).setCell (Nat.le_refl _) _).setCell (Nat.le_refl _) _))
          · skip
            go_simp
            obtain ⟨pqab, hpqab⟩ : ∃ pqab, eqa.alloc (.cells #[.int .i64 0, .int .i64 0, .int .i64 0, .int .i64 0, .int .i64 0, .slice none 0 0] 24) = pqab := ⟨_, rfl⟩
            have hspqab : Below wr.heap.size wr pqab := hpqab ▸ hseqa.alloc hseqa.size _
            have hpbqab : Below eqa.heap.size eqa pqab := hpqab ▸ (Below.refl _ _).alloc (Nat.le_refl _) _
            have hpnqab : pqab.heap[eqa.heap.size]? = some (.cells #[.int .i64 0, .int .i64 0, .int .i64 0, .int .i64 0, .int .i64 0, .slice none 0 0] 24 (0, 0)) := by rw [← hpqab]; exact heap_alloc_new _ _
            have hplqab : wr.heap.size ≤ eqa.heap.size := hseqa.size
            try rw [hpqab]
            have hoqqab := own_kept hoeqa hpbqab
            refine hK _ _ (fun _ => hspqab) ?_
            clear hK K
            try simp only [Act.put, List.setIfInBounds_toArray, List.set_cons_zero, List.set_cons_succ]
            have hnEqabd := own_ne hoqqab hpnqab (by decide)
            refine wpAnyF_do (i := 20) (by kernel_rfl) rfl rfl (fun K hK => ?_)
            have hlx := HLR.out.below hspqab
            rw [← HL.out] at hlx
            have hly : BytesAt pqab (fun k => k < w.heap.size) (.slice (some ⟨g, off + 32, none⟩) sz (cap - 32)) (seg l 32 sz) := hlx.part 32 sz (cap - 32) (by rw [HL.out]; omega) (by omega)
            refine wp_appSeg (.tmp 54) (.tmp 58) rfl rfl hoqqab rfl hly (by rw [HSEG.out]) (by omega) hspqab.size ?_
            intro aaqabd acqabd aqabd hoaqabd hgaqabd
            rw [List.nil_append] at hoaqabd
            simp only [Nat.zero_add] at hoaqabd ⊢
            have hsaqabd : Below wr.heap.size wr aqabd := hspqab.grown hgaqabd hspqab.size (fun j hj => (ownsRow_lt hoqqab j hj).1)
            clear hlx hly
            refine hK _ _ (fun _ => hsaqabd) ?_
            clear hK K
            try simp only [Act.put, List.setIfInBounds_toArray, List.set_cons_zero, List.set_cons_succ]
            refine wpAnyF_take (i := 21) (fin := 23) (v := ?v16) rfl (by kernel_rfl) (by kernel_rfl) (by kernel_rfl) (by kernel_rfl) (fun _ _ _ h => h) (yieldsIf_run rfl (fun w' hw' => ?y16)) hsaqabd ?_
            case y16 => first | (go_simp; rfl) | (go_simp; done) | rfl
            simp only [Act.put, List.setIfInBounds_toArray, List.set_cons_zero, List.set_cons_succ]
            have hTBqabd := (hgaqabd.block _ (Array.getElem?_eq_some_iff.1 hpnqab).1 (fun e => hnEqabd _ e.symm rfl)).trans hpnqab
            have hTLqabd := hplqab
            have hOOqabd := hoaqabd
            have hNEqabd := own_ne hoaqabd hTBqabd (by decide)
            refine wpAnyF_do (i := 23) (by kernel_rfl) rfl rfl (fun K hK => ?_)
            have hzf : ∀ j : Nat, aqabd.frozen? ⟨eqa.heap.size, j, none⟩ = false := fun j => frozen_of_row _ _ _ _ _ hTBqabd
            have hzc0 : aqabd.cell? ⟨eqa.heap.size, 0, none⟩ = some (.int .i64 0) := by rw [cell_of_row _ _ _ _ _ _ hTBqabd]; rfl
            have hzc1 : aqabd.cell? ⟨eqa.heap.size, 1, none⟩ = some (.int .i64 0) := by rw [cell_of_row _ _ _ _ _ _ hTBqabd]; rfl
            have hzc2 : aqabd.cell? ⟨eqa.heap.size, 2, none⟩ = some (.int .i64 0) := by rw [cell_of_row _ _ _ _ _ _ hTBqabd]; rfl
            have hzc3 : aqabd.cell? ⟨eqa.heap.size, 3, none⟩ = some (.int .i64 0) := by rw [cell_of_row _ _ _ _ _ _ hTBqabd]; rfl
            have hzc4 : aqabd.cell? ⟨eqa.heap.size, 4, none⟩ = some (.int .i64 0) := by rw [cell_of_row _ _ _ _ _ _ hTBqabd]; rfl
            have hzc5 : aqabd.cell? ⟨eqa.heap.size, 5, none⟩ = some (.slice none 0 0) := by rw [cell_of_row _ _ _ _ _ _ hTBqabd]; rfl
            have hTl : wr.heap.size ≤ eqa.heap.size := hTLqabd
            have hTs := (Array.getElem?_eq_some_iff.1 hTBqabd).1
            go_simp
            obtain ⟨zqabd, hzqabd⟩ : ∃ zqabd, ((((((aqabd.setCell ⟨eqa.heap.size, 0, none⟩ (.int .i64 (valN (seg l 24 2) : Nat))).setCell ⟨eqa.heap.size, 1, none⟩ (.int .i64 (valN (seg l 16 4) : Nat))).setCell ⟨eqa.heap.size, 2, none⟩ (.int .i64 (valN (seg l 20 4) : Nat))).setCell ⟨eqa.heap.size, 3, none⟩ (.int .i64 (valN (seg l 26 2) : Nat))).setCell ⟨eqa.heap.size, 4, none⟩ (.int .i64 (valN (seg l 28 2) : Nat))).setCell ⟨eqa.heap.size, 5, none⟩ (.slice aaqabd sz acqabd)) = zqabd := ⟨_, rfl⟩
            have hcz : Chg (fun k => k = eqa.heap.size) aqabd zqabd := hzqabd ▸ chg6 _ _ _ _ _ _ _ _
            have hszqabd : Below wr.heap.size wr zqabd := hsaqabd.trans (hcz.below (fun k h => by have : k = eqa.heap.size := h; omega) hsaqabd.size)
            have hTzqabd : zqabd.heap[eqa.heap.size]? = some (.cells #[.int .i64 (valN (seg l 24 2) : Nat), .int .i64 (valN (seg l 16 4) : Nat), .int .i64 (valN (seg l 20 4) : Nat), .int .i64 (valN (seg l 26 2) : Nat), .int .i64 (valN (seg l 28 2) : Nat), .slice aaqabd sz acqabd] 24 (0, 0)) := by
              rw [← hzqabd]
              exact heap_setCell_same _ _ 5 _ _ _ (heap_setCell_same _ _ 4 _ _ _ (heap_setCell_same _ _ 3 _ _ _ (heap_setCell_same _ _ 2 _ _ _ (heap_setCell_same _ _ 1 _ _ _ (heap_setCell_same _ _ 0 _ _ _ hTBqabd)))))
            have hozqabd : zqabd.ownsRow wr.heap.size 5 1 (.slice aaqabd sz acqabd) sz (bvs (seg l 32 sz)) := ownsRow_chg' hOOqabd hcz (fun k hk h => by have : k = eqa.heap.size := h; exact hNEqabd k hk this)
            try rw [hzqabd]
            clear hzf hzc0 hzc1 hzc2 hzc3 hzc4 hzc5 hcz
            refine hK _ _ (fun h => absurd rfl h) ?_
            clear hK K
            refine wpAnyF_done (by kernel_rfl) ?_ _
            refine NoPanic.normal ?_
            have hTZ := hTzqabd
            have hbz : Below w.heap.size w zqabd := HBR.out.trans (hszqabd.mono HBR.out.size)
            have hRz := (hszqabd.block w.heap.size hqr).trans HRr.out
            have ht0 : zqabd.cell? ⟨eqa.heap.size, 0, none⟩ = some (.int .i64 (valN (seg l 24 2) : Nat)) := by rw [cell_of_row _ _ _ _ _ _ hTZ]; rfl
            have ht1 : zqabd.cell? ⟨eqa.heap.size, 1, none⟩ = some (.int .i64 (valN (seg l 16 4) : Nat)) := by rw [cell_of_row _ _ _ _ _ _ hTZ]; rfl
            have ht2 : zqabd.cell? ⟨eqa.heap.size, 2, none⟩ = some (.int .i64 (valN (seg l 20 4) : Nat)) := by rw [cell_of_row _ _ _ _ _ _ hTZ]; rfl
            have ht3 : zqabd.cell? ⟨eqa.heap.size, 3, none⟩ = some (.int .i64 (valN (seg l 26 2) : Nat)) := by rw [cell_of_row _ _ _ _ _ _ hTZ]; rfl
            have ht4 : zqabd.cell? ⟨eqa.heap.size, 4, none⟩ = some (.int .i64 (valN (seg l 28 2) : Nat)) := by rw [cell_of_row _ _ _ _ _ _ hTZ]; rfl
            have ht5 : zqabd.cell? ⟨eqa.heap.size, 5, none⟩ = some (.slice aaqabd sz acqabd) := by rw [cell_of_row _ _ _ _ _ _ hTZ]; rfl
            have HTZ := Lib.hid hTZ
            have HRZ := Lib.hid hRz
            have HBZ := Lib.hid hbz
            have HOZ := Lib.hid hozqabd
            have HSZZ := Lib.hid hszqabd
            clear hTZ hRz hbz hozqabd hszqabd hTzqabd hzqabd
            have hchk : Calls Tryd.prog 20 #[.agg #[.int .i64 (valN (seg l 24 2) : Nat), .int .i64 (valN (seg l 16 4) : Nat), .int .i64 (valN (seg l 20 4) : Nat), .int .i64 (valN (seg l 26 2) : Nat), .int .i64 (valN (seg l 28 2) : Nat), .slice aaqabd sz acqabd]] zqabd (fun e w' => e = .returned (.int .i64 (chkP (rawP l))) ∧ Below zqabd.heap.size zqabd w') := rcheck_at (rawP l) aaqabd sz acqabd (by rw [HRB.out]; exact HSEG.out) zqabd
            have HCHK := Lib.hid hchk
            clear hchk
            go_wp2_with fail
            refine HCHK.out.mono ?_
            rintro e y ⟨rfl, hY⟩
            have hTy := (hY.block _ (Array.getElem?_eq_some_iff.1 HTZ.out).1).trans HTZ.out
            have hRy := (hY.block _ (Array.getElem?_eq_some_iff.1 HRZ.out).1).trans HRZ.out
            have hby := HBZ.out.trans (hY.mono HBZ.out.size)
            have hsy := HSZZ.out.trans (hY.mono HSZZ.out.size)
            have hly := HLR.out.below hsy
            have hoy := own_kept HOZ.out hY
            have hrf : ∀ j : Nat, y.frozen? ⟨w.heap.size, j, none⟩ = false := fun j => frozen_of_row _ _ _ _ _ hRy
            have hy0 : y.cell? ⟨w.heap.size, 0, none⟩ = some (.int .i64 0) := by rw [cell_of_row _ _ _ _ _ _ hRy]; rfl
            have hy1 : y.cell? ⟨w.heap.size, 1, none⟩ = some (.int .i64 0) := by rw [cell_of_row _ _ _ _ _ _ hRy]; rfl
            have hy2 : y.cell? ⟨w.heap.size, 2, none⟩ = some (.int .i64 0) := by rw [cell_of_row _ _ _ _ _ _ hRy]; rfl
            have hy3 : y.cell? ⟨w.heap.size, 3, none⟩ = some (.int .i64 0) := by rw [cell_of_row _ _ _ _ _ _ hRy]; rfl
            have hy4 : y.cell? ⟨w.heap.size, 4, none⟩ = some (.int .i64 0) := by rw [cell_of_row _ _ _ _ _ _ hRy]; rfl
            have hy5 : y.cell? ⟨w.heap.size, 5, none⟩ = some (.slice none 0 0) := by rw [cell_of_row _ _ _ _ _ _ hRy]; rfl
            have HTY := Lib.hid hTy
            have HBY := Lib.hid hby
            have HLY := Lib.hid hly
            have HOY := Lib.hid hoy
            clear hY hTy hRy hby hsy hly hoy ht0 ht1 ht2 ht3 ht4 ht5
            by_cases hk : chkP (rawP l) = 0
            · have hk2 : (chkP (rawP l) != 0) = false := by simp [hk]
              have HK := Lib.hid hk
              clear hk
              go_wp2_with fail
              go_loop [8] (fun iv => ∃ i : Nat, 32 + sz + i ≤ 256 ∧ iv = .int .i64 ((32 : Int) + (sz : Int) + (i : Int)) ∧ zerosB ((l.drop (32 + sz)).take i) = true) (fun iv => (256 - intOf iv).toNat)
              case atStart => exact ⟨0, by omega, by simp, rfl⟩
              case round =>
                obtain ⟨i, hi, rfl, hz⟩ := hrel
                have HZ := Lib.hid hz
                clear hz
                have htn2 : ((32 : Int) + (sz : Int) + (i : Int)).toNat = 32 + sz + i := by omega
                have hge0 : (0 : Int) ≤ (32 : Int) + (sz : Int) + (i : Int) := by omega
                by_cases hlt : 32 + sz + i < 256
                · have hltI : (32 : Int) + (sz : Int) + (i : Int) < (256 : Int) := by omega
                  have hil : 32 + sz + i < l.length := by rw [HL.out]; exact hlt
                  have hly := HLY.out
                  rw [← HL.out] at hly
                  obtain ⟨g', off', e, hcb⟩ := hly.get hil
                  cases e
                  have hdl : i < (l.drop (32 + sz)).length := by rw [List.length_drop]; omega
                  have hde : (l.drop (32 + sz))[i] = l[32 + sz + i] := List.getElem_drop ..
                  by_cases hx : l[32 + sz + i] = 0
                  · have h0 : l[32 + sz + i].toNat = 0 := by rw [hx]; rfl
                    rw [h0] at hcb
                    have hz2 : zerosB ((l.drop (32 + sz)).take (i + 1)) = true := by rw [zeros_snoc _ i hdl, HZ.out, hde, hx]; rfl
                    have HZ2 := Lib.hid hz2
                    clear hz2 h0 hx hde hdl hly
                    go_wp2_with fail
                    go_round
                    case rel => exact ⟨i + 1, by omega, by go_num, HZ2.out⟩
                    case measure => simp [intOf]; omega
                  · have hz2 := zeros_stop _ i hdl (by rw [hde]; exact hx)
                    have hn0 : ((l[32 + sz + i].toNat : Int) != 0) = true := by
                      simp only [bne_iff_ne, ne_eq]
                      intro e
                      exact hx (UInt8.toNat_inj.1 (by simpa using e))
                    have h3 : decE l = 3 := by rw [HDE.out, if_neg (fun h => by rw [HSZQ.out, hz2] at h; exact absurd h.2.1 (by simp))]
                    have HD3 := Lib.hid h3
                    obtain ⟨X, hX⟩ : ∃ X, l[32 + sz + i].toNat = X := ⟨_, rfl⟩
                    rw [hX] at hcb hn0
                    clear hz2 hx hde hdl hly h3 hX
                    go_wp2_with fail
                    exact bodyPost_ret (v := .tuple #[.agg #[.int .i64 0, .int .i64 0, .int .i64 0, .int .i64 0, .int .i64 0, .slice none 0 0], .int .i64 3]) (by simp [results, Tryd.results25, go_sem, hy0, hy1, hy2, hy3, hy4, hy5]) rfl (DecPost.no HD3.out (by decide) ((((((HBY.out.setCell (Nat.le_refl _) _).setCell (Nat.le_refl _) _).setCell (Nat.le_refl _) _).setCell (Nat.le_refl _) _).setCell (Nat.le_refl _) _).setCell (Nat.le_refl _) _))
                · obtain rfl : i = 256 - (32 + sz) := by omega
                  have hltI : ¬ (32 : Int) + (sz : Int) + ((256 - (32 + sz) : Nat) : Int) < (256 : Int) := by omega
                  have hgeI : (256 : Int) ≤ (32 : Int) + (sz : Int) + ((256 - (32 + sz) : Nat) : Int) := by omega
                  have hz2 : zerosB (l.drop (32 + sz)) = true := by
                    have := HZ.out
                    rwa [List.take_of_length_le (by rw [List.length_drop, HL.out]; exact Nat.le_refl _)] at this
                  have hd0 : decE l = 0 := by rw [HDE.out, if_pos ⟨by rw [HSZQ.out]; omega, by rw [HSZQ.out]; exact hz2, HK.out⟩]
                  have HD0 := Lib.hid hd0
                  have hty0 := HTY.out
                  have ht0 : y.cell? ⟨eqa.heap.size, 0, none⟩ = some (.int .i64 (valN (seg l 24 2) : Nat)) := by rw [cell_of_row _ _ _ _ _ _ hty0]; rfl
                  have ht1 : y.cell? ⟨eqa.heap.size, 1, none⟩ = some (.int .i64 (valN (seg l 16 4) : Nat)) := by rw [cell_of_row _ _ _ _ _ _ hty0]; rfl
                  have ht2 : y.cell? ⟨eqa.heap.size, 2, none⟩ = some (.int .i64 (valN (seg l 20 4) : Nat)) := by rw [cell_of_row _ _ _ _ _ _ hty0]; rfl
                  have ht3 : y.cell? ⟨eqa.heap.size, 3, none⟩ = some (.int .i64 (valN (seg l 26 2) : Nat)) := by rw [cell_of_row _ _ _ _ _ _ hty0]; rfl
                  have ht4 : y.cell? ⟨eqa.heap.size, 4, none⟩ = some (.int .i64 (valN (seg l 28 2) : Nat)) := by rw [cell_of_row _ _ _ _ _ _ hty0]; rfl
                  have ht5 : y.cell? ⟨eqa.heap.size, 5, none⟩ = some (.slice aaqabd sz acqabd) := by rw [cell_of_row _ _ _ _ _ _ hty0]; rfl
                  clear hz2 hd0 hty0
                  obtain ⟨I, hI⟩ : ∃ I, (32 : Int) + (sz : Int) + ((256 - (32 + sz) : Nat) : Int) = I := ⟨_, rfl⟩
                  rw [hI] at hltI hgeI ⊢
                  clear hI htn2 hge0
                  go_wp2_with fail
                  refine bodyPost_ret (v := .tuple #[.agg #[.int .i64 (valN (seg l 24 2) : Nat), .int .i64 (valN (seg l 16 4) : Nat), .int .i64 (valN (seg l 20 4) : Nat), .int .i64 (valN (seg l 26 2) : Nat), .int .i64 (valN (seg l 28 2) : Nat), .slice aaqabd sz acqabd], .int .i64 0]) (by simp [results, Tryd.results25, go_sem, hy0, hy1, hy2, hy3, hy4, hy5]) rfl ?_
                  refine DecPost.yes HD0.out (by rw [HRB.out]; exact HSEG.out) ?_ ?_
                  · rw [HRB.out]
                    refine ownsRow_base (ownsRow_chg (G := fun k => k = w.heap.size) HOY.out (chg6 _ _ _ _ _ _ _ _) (fun k h1 _ h3 => by have : k = w.heap.size := h3; omega)) (by omega)
                  · exact HBY.out.trans ((chg6 _ _ _ _ _ _ _ _).below (fun k h => by have : k = w.heap.size := h; omega) HBY.out.size)
            · have hk2 : (chkP (rawP l) != 0) = true := by simpa using hk
              have hd3 : decE l = 3 := by rw [HDE.out, if_neg (fun h => hk h.2.2)]
              have HD3 := Lib.hid hd3
              clear hk hd3
              go_wp2_with fail
              exact bodyPost_ret (v := .tuple #[.agg #[.int .i64 0, .int .i64 0, .int .i64 0, .int .i64 0, .int .i64 0, .slice none 0 0], .int .i64 3]) (by simp [results, Tryd.results25, go_sem, hy0, hy1, hy2, hy3, hy4, hy5]) rfl (DecPost.no HD3.out (by decide) ((((((HBY.out.setCell (Nat.le_refl _) _).setCell (Nat.le_refl _) _).setCell (Nat.le_refl _) _).setCell (Nat.le_refl _) _).setCell (Nat.le_refl _) _).setCell (Nat.le_refl _) _))
        · skip
          go_simp
          obtain ⟨pqb, hpqb⟩ : ∃ pqb, wd.alloc (.cells #[.int .i64 0, .int .i64 0, .int .i64 0, .int .i64 0, .int .i64 0, .slice none 0 0] 24) = pqb := ⟨_, rfl⟩
          have hspqb : Below wr.heap.size wr pqb := hpqb ▸ hS0.alloc hS0.size _
          have hpbqb : Below wd.heap.size wd pqb := hpqb ▸ (Below.refl _ _).alloc (Nat.le_refl _) _
          have hpnqb : pqb.heap[wd.heap.size]? = some (.cells #[.int .i64 0, .int .i64 0, .int .i64 0, .int .i64 0, .int .i64 0, .slice none 0 0] 24 (0, 0)) := by rw [← hpqb]; exact heap_alloc_new _ _
          have hplqb : wr.heap.size ≤ wd.heap.size := hS0.size
          try rw [hpqb]
          refine hK _ _ (fun _ => hspqb) ?_
          clear hK K
          try simp only [Act.put, List.setIfInBounds_toArray, List.set_cons_zero, List.set_cons_succ]
          refine wpAnyF_do (i := 15) (by kernel_rfl) rfl rfl (fun K hK => ?_)
          go_simp
          obtain ⟨eqbc, heqbc⟩ : ∃ eqbc, pqb.alloc (.cells #[] 5) = eqbc := ⟨_, rfl⟩
          have hseqbc : Below wr.heap.size wr eqbc := heqbc ▸ hspqb.alloc hspqb.size _
          have hoeqbc : eqbc.ownsRow wr.heap.size 5 1 (.slice (some ⟨pqb.heap.size, 0, none⟩) 0 0) 0 (bvs []) := heqbc ▸ own_zero hspqb.size 5
          try rw [heqbc]
          refine hK _ _ (fun _ => hseqbc) ?_
          clear hK K
          try simp only [Act.put, List.setIfInBounds_toArray, List.set_cons_zero, List.set_cons_succ]
          have hpkqbc := ((show Below pqb.heap.size pqb eqbc from heqbc ▸ (Below.refl _ _).alloc (Nat.le_refl _) _).block _ (Array.getElem?_eq_some_iff.1 hpnqb).1).trans hpnqb
          have hnEqbcd := own_ne hoeqbc hpkqbc (by decide)
          refine wpAnyF_do (i := 20) (by kernel_rfl) rfl rfl (fun K hK => ?_)
          have hlx := HLR.out.below hseqbc
          rw [← HL.out] at hlx
          have hly : BytesAt eqbc (fun k => k < w.heap.size) (.slice (some ⟨g, off + 32, none⟩) sz (cap - 32)) (seg l 32 sz) := hlx.part 32 sz (cap - 32) (by rw [HL.out]; omega) (by omega)
          refine wp_appSeg (.tmp 54) (.tmp 58) rfl rfl hoeqbc rfl hly (by rw [HSEG.out]) (by omega) hseqbc.size ?_
          intro aaqbcd acqbcd aqbcd hoaqbcd hgaqbcd
          rw [List.nil_append] at hoaqbcd
          simp only [Nat.zero_add] at hoaqbcd ⊢
          have hsaqbcd : Below wr.heap.size wr aqbcd := hseqbc.grown hgaqbcd hseqbc.size (fun j hj => (ownsRow_lt hoeqbc j hj).1)
          clear hlx hly
          refine hK _ _ (fun _ => hsaqbcd) ?_
          clear hK K
          try simp only [Act.put, List.setIfInBounds_toArray, List.set_cons_zero, List.set_cons_succ]
          refine wpAnyF_take (i := 21) (fin := 23) (v := ?v17) rfl (by kernel_rfl) (by kernel_rfl) (by kernel_rfl) (by kernel_rfl) (fun _ _ _ h => h) (yieldsIf_run rfl (fun w' hw' => ?y17)) hsaqbcd ?_
          case y17 => first | (go_simp; rfl) | (go_simp; done) | rfl
          simp only [Act.put, List.setIfInBounds_toArray, List.set_cons_zero, List.set_cons_succ]
          have hTBqbcd := (hgaqbcd.block _ (Array.getElem?_eq_some_iff.1 hpkqbc).1 (fun e => hnEqbcd _ e.symm rfl)).trans hpkqbc
          have hTLqbcd := hplqb
          have hOOqbcd := hoaqbcd
          have hNEqbcd := own_ne hoaqbcd hTBqbcd (by decide)
          refine wpAnyF_do (i := 23) (by kernel_rfl) rfl rfl (fun K hK => ?_)
          have hzf : ∀ j : Nat, aqbcd.frozen? ⟨wd.heap.size, j, none⟩ = false := fun j => frozen_of_row _ _ _ _ _ hTBqbcd
          have hzc0 : aqbcd.cell? ⟨wd.heap.size, 0, none⟩ = some (.int .i64 0) := by rw [cell_of_row _ _ _ _ _ _ hTBqbcd]; rfl
          have hzc1 : aqbcd.cell? ⟨wd.heap.size, 1, none⟩ = some (.int .i64 0) := by rw [cell_of_row _ _ _ _ _ _ hTBqbcd]; rfl
          have hzc2 : aqbcd.cell? ⟨wd.heap.size, 2, none⟩ = some (.int .i64 0) := by rw [cell_of_row _ _ _ _ _ _ hTBqbcd]; rfl
          have hzc3 : aqbcd.cell? ⟨wd.heap.size, 3, none⟩ = some (.int .i64 0) := by rw [cell_of_row _ _ _ _ _ _ hTBqbcd]; rfl
          have hzc4 : aqbcd.cell? ⟨wd.heap.size, 4, none⟩ = some (.int .i64 0) := by rw [cell_of_row _ _ _ _ _ _ hTBqbcd]; rfl
          have hzc5 : aqbcd.cell? ⟨wd.heap.size, 5, none⟩ = some (.slice none 0 0) := by rw [cell_of_row _ _ _ _ _ _ hTBqbcd]; rfl
          have hTl : wr.heap.size ≤ wd.heap.size := hTLqbcd
          have hTs := (Array.getElem?_eq_some_iff.1 hTBqbcd).1
          go_simp
          obtain ⟨zqbcd, hzqbcd⟩ : ∃ zqbcd, ((((((aqbcd.setCell ⟨wd.heap.size, 0, none⟩ (.int .i64 (valN (seg l 24 2) : Nat))).setCell ⟨wd.heap.size, 1, none⟩ (.int .i64 (valN (seg l 16 4) : Nat))).setCell ⟨wd.heap.size, 2, none⟩ (.int .i64 (valN (seg l 20 4) : Nat))).setCell ⟨wd.heap.size, 3, none⟩ (.int .i64 (valN (seg l 26 2) : Nat))).setCell ⟨wd.heap.size, 4, none⟩ (.int .i64 (valN (seg l 28 2) : Nat))).setCell ⟨wd.heap.size, 5, none⟩ (.slice aaqbcd sz acqbcd)) = zqbcd := ⟨_, rfl⟩
          have hcz : Chg (fun k => k = wd.heap.size) aqbcd zqbcd := hzqbcd ▸ chg6 _ _ _ _ _ _ _ _
          have hszqbcd : Below wr.heap.size wr zqbcd := hsaqbcd.trans (hcz.below (fun k h => by have : k = wd.heap.size := h; omega) hsaqbcd.size)
          have hTzqbcd : zqbcd.heap[wd.heap.size]? = some (.cells #[.int .i64 (valN (seg l 24 2) : Nat), .int .i64 (valN (seg l 16 4) : Nat), .int .i64 (valN (seg l 20 4) : Nat), .int .i64 (valN (seg l 26 2) : Nat), .int .i64 (valN (seg l 28 2) : Nat), .slice aaqbcd sz acqbcd] 24 (0, 0)) := by
            rw [← hzqbcd]
            exact heap_setCell_same _ _ 5 _ _ _ (heap_setCell_same _ _ 4 _ _ _ (heap_setCell_same _ _ 3 _ _ _ (heap_setCell_same _ _ 2 _ _ _ (heap_setCell_same _ _ 1 _ _ _ (heap_setCell_same _ _ 0 _ _ _ hTBqbcd)))))
          have hozqbcd : zqbcd.ownsRow wr.heap.size 5 1 (.slice aaqbcd sz acqbcd) sz (bvs (seg l 32 sz)) := ownsRow_chg' hOOqbcd hcz (fun k hk h => by have : k = wd.heap.size := h; exact hNEqbcd k hk this)
          try rw [hzqbcd]
          clear hzf hzc0 hzc1 hzc2 hzc3 hzc4 hzc5 hcz
          refine hK _ _ (fun h => absurd rfl h) ?_
          clear hK K
          refine wpAnyF_done (by kernel_rfl) ?_ _
          refine NoPanic.normal ?_
          have hTZ := hTzqbcd
          have hbz : Below w.heap.size w zqbcd := HBR.out.trans (hszqbcd.mono HBR.out.size)
          have hRz := (hszqbcd.block w.heap.size hqr).trans HRr.out
          have ht0 : zqbcd.cell? ⟨wd.heap.size, 0, none⟩ = some (.int .i64 (valN (seg l 24 2) : Nat)) := by rw [cell_of_row _ _ _ _ _ _ hTZ]; rfl
          have ht1 : zqbcd.cell? ⟨wd.heap.size, 1, none⟩ = some (.int .i64 (valN (seg l 16 4) : Nat)) := by rw [cell_of_row _ _ _ _ _ _ hTZ]; rfl
          have ht2 : zqbcd.cell? ⟨wd.heap.size, 2, none⟩ = some (.int .i64 (valN (seg l 20 4) : Nat)) := by rw [cell_of_row _ _ _ _ _ _ hTZ]; rfl
          have ht3 : zqbcd.cell? ⟨wd.heap.size, 3, none⟩ = some (.int .i64 (valN (seg l 26 2) : Nat)) := by rw [cell_of_row _ _ _ _ _ _ hTZ]; rfl
          have ht4 : zqbcd.cell? ⟨wd.heap.size, 4, none⟩ = some (.int .i64 (valN (seg l 28 2) : Nat)) := by rw [cell_of_row _ _ _ _ _ _ hTZ]; rfl
          have ht5 : zqbcd.cell? ⟨wd.heap.size, 5, none⟩ = some (.slice aaqbcd sz acqbcd) := by rw [cell_of_row _ _ _ _ _ _ hTZ]; rfl
          have HTZ := Lib.hid hTZ
          have HRZ := Lib.hid hRz
          have HBZ := Lib.hid hbz
          have HOZ := Lib.hid hozqbcd
          have HSZZ := Lib.hid hszqbcd
          clear hTZ hRz hbz hozqbcd hszqbcd hTzqbcd hzqbcd
          have hchk : Calls Tryd.prog 20 #[.agg #[.int .i64 (valN (seg l 24 2) : Nat), .int .i64 (valN (seg l 16 4) : Nat), .int .i64 (valN (seg l 20 4) : Nat), .int .i64 (valN (seg l 26 2) : Nat), .int .i64 (valN (seg l 28 2) : Nat), .slice aaqbcd sz acqbcd]] zqbcd (fun e w' => e = .returned (.int .i64 (chkP (rawP l))) ∧ Below zqbcd.heap.size zqbcd w') := rcheck_at (rawP l) aaqbcd sz acqbcd (by rw [HRB.out]; exact HSEG.out) zqbcd
          have HCHK := Lib.hid hchk
          clear hchk
          go_wp2_with fail
          refine HCHK.out.mono ?_
          rintro e y ⟨rfl, hY⟩
          have hTy := (hY.block _ (Array.getElem?_eq_some_iff.1 HTZ.out).1).trans HTZ.out
          have hRy := (hY.block _ (Array.getElem?_eq_some_iff.1 HRZ.out).1).trans HRZ.out
          have hby := HBZ.out.trans (hY.mono HBZ.out.size)
          have hsy := HSZZ.out.trans (hY.mono HSZZ.out.size)
          have hly := HLR.out.below hsy
          have hoy := own_kept HOZ.out hY
          have hrf : ∀ j : Nat, y.frozen? ⟨w.heap.size, j, none⟩ = false := fun j => frozen_of_row _ _ _ _ _ hRy
          have hy0 : y.cell? ⟨w.heap.size, 0, none⟩ = some (.int .i64 0) := by rw [cell_of_row _ _ _ _ _ _ hRy]; rfl
          have hy1 : y.cell? ⟨w.heap.size, 1, none⟩ = some (.int .i64 0) := by rw [cell_of_row _ _ _ _ _ _ hRy]; rfl
          have hy2 : y.cell? ⟨w.heap.size, 2, none⟩ = some (.int .i64 0) := by rw [cell_of_row _ _ _ _ _ _ hRy]; rfl
          have hy3 : y.cell? ⟨w.heap.size, 3, none⟩ = some (.int .i64 0) := by rw [cell_of_row _ _ _ _ _ _ hRy]; rfl
          have hy4 : y.cell? ⟨w.heap.size, 4, none⟩ = some (.int .i64 0) := by rw [cell_of_row _ _ _ _ _ _ hRy]; rfl
          have hy5 : y.cell? ⟨w.heap.size, 5, none⟩ = some (.slice none 0 0) := by rw [cell_of_row _ _ _ _ _ _ hRy]; rfl
          have HTY := Lib.hid hTy
          have HBY := Lib.hid hby
          have HLY := Lib.hid hly
          have HOY := Lib.hid hoy
          clear hY hTy hRy hby hsy hly hoy ht0 ht1 ht2 ht3 ht4 ht5
          by_cases hk : chkP (rawP l) = 0
          · have hk2 : (chkP (rawP l) != 0) = false := by simp [hk]
            have HK := Lib.hid hk
            clear hk
            go_wp2_with fail
            go_loop [8] (fun iv => ∃ i : Nat, 32 + sz + i ≤ 256 ∧ iv = .int .i64 ((32 : Int) + (sz : Int) + (i : Int)) ∧ zerosB ((l.drop (32 + sz)).take i) = true) (fun iv => (256 - intOf iv).toNat)
            case atStart => exact ⟨0, by omega, by simp, rfl⟩
            case round =>
              obtain ⟨i, hi, rfl, hz⟩ := hrel
              have HZ := Lib.hid hz
              clear hz
              have htn2 : ((32 : Int) + (sz : Int) + (i : Int)).toNat = 32 + sz + i := by omega
              have hge0 : (0 : Int) ≤ (32 : Int) + (sz : Int) + (i : Int) := by omega
              by_cases hlt : 32 + sz + i < 256
              · have hltI : (32 : Int) + (sz : Int) + (i : Int) < (256 : Int) := by omega
                have hil : 32 + sz + i < l.length := by rw [HL.out]; exact hlt
                have hly := HLY.out
                rw [← HL.out] at hly
                obtain ⟨g', off', e, hcb⟩ := hly.get hil
                cases e
                have hdl : i < (l.drop (32 + sz)).length := by rw [List.length_drop]; omega
                have hde : (l.drop (32 + sz))[i] = l[32 + sz + i] := List.getElem_drop ..
                by_cases hx : l[32 + sz + i] = 0
                · have h0 : l[32 + sz + i].toNat = 0 := by rw [hx]; rfl
                  rw [h0] at hcb
                  have hz2 : zerosB ((l.drop (32 + sz)).take (i + 1)) = true := by rw [zeros_snoc _ i hdl, HZ.out, hde, hx]; rfl
                  have HZ2 := Lib.hid hz2
                  clear hz2 h0 hx hde hdl hly
                  go_wp2_with fail
                  go_round
                  case rel => exact ⟨i + 1, by omega, by go_num, HZ2.out⟩
                  case measure => simp [intOf]; omega
                · have hz2 := zeros_stop _ i hdl (by rw [hde]; exact hx)
                  have hn0 : ((l[32 + sz + i].toNat : Int) != 0) = true := by
                    simp only [bne_iff_ne, ne_eq]
                    intro e
                    exact hx (UInt8.toNat_inj.1 (by simpa using e))
                  have h3 : decE l = 3 := by rw [HDE.out, if_neg (fun h => by rw [HSZQ.out, hz2] at h; exact absurd h.2.1 (by simp))]
                  have HD3 := Lib.hid h3
                  obtain ⟨X, hX⟩ : ∃ X, l[32 + sz + i].toNat = X := ⟨_, rfl⟩
                  rw [hX] at hcb hn0
                  clear hz2 hx hde hdl hly h3 hX
                  go_wp2_with fail
                  exact bodyPost_ret (v := .tuple #[.agg #[.int .i64 0, .int .i64 0, .int .i64 0, .int .i64 0, .int .i64 0, .slice none 0 0], .int .i64 3]) (by simp [results, Tryd.results25, go_sem, hy0, hy1, hy2, hy3, hy4, hy5]) rfl (DecPost.no HD3.out (by decide) ((((((HBY.out.setCell (Nat.le_refl _) _).setCell (Nat.le_refl _) _).setCell (Nat.le_refl _) _).setCell (Nat.le_refl _) _).setCell (Nat.le_refl _) _).setCell (Nat.le_refl _) _))
              · obtain rfl : i = 256 - (32 + sz) := by omega
                have hltI : ¬ (32 : Int) + (sz : Int) + ((256 - (32 + sz) : Nat) : Int) < (256 : Int) := by omega
                have hgeI : (256 : Int) ≤ (32 : Int) + (sz : Int) + ((256 - (32 + sz) : Nat) : Int) := by omega
                have hz2 : zerosB (l.drop (32 + sz)) = true := by
                  have := HZ.out
                  rwa [List.take_of_length_le (by rw [List.length_drop, HL.out]; exact Nat.le_refl _)] at this
                have hd0 : decE l = 0 := by rw [HDE.out, if_pos ⟨by rw [HSZQ.out]; omega, by rw [HSZQ.out]; exact hz2, HK.out⟩]
                have HD0 := Lib.hid hd0
                have hty0 := HTY.out
                have ht0 : y.cell? ⟨wd.heap.size, 0, none⟩ = some (.int .i64 (valN (seg l 24 2) : Nat)) := by rw [cell_of_row _ _ _ _ _ _ hty0]; rfl
                have ht1 : y.cell? ⟨wd.heap.size, 1, none⟩ = some (.int .i64 (valN (seg l 16 4) : Nat)) := by rw [cell_of_row _ _ _ _ _ _ hty0]; rfl
                have ht2 : y.cell? ⟨wd.heap.size, 2, none⟩ = some (.int .i64 (valN (seg l 20 4) : Nat)) := by rw [cell_of_row _ _ _ _ _ _ hty0]; rfl
                have ht3 : y.cell? ⟨wd.heap.size, 3, none⟩ = some (.int .i64 (valN (seg l 26 2) : Nat)) := by rw [cell_of_row _ _ _ _ _ _ hty0]; rfl
                have ht4 : y.cell? ⟨wd.heap.size, 4, none⟩ = some (.int .i64 (valN (seg l 28 2) : Nat)) := by rw [cell_of_row _ _ _ _ _ _ hty0]; rfl
                have ht5 : y.cell? ⟨wd.heap.size, 5, none⟩ = some (.slice aaqbcd sz acqbcd) := by rw [cell_of_row _ _ _ _ _ _ hty0]; rfl
                clear hz2 hd0 hty0
                obtain ⟨I, hI⟩ : ∃ I, (32 : Int) + (sz : Int) + ((256 - (32 + sz) : Nat) : Int) = I := ⟨_, rfl⟩
                rw [hI] at hltI hgeI ⊢
                clear hI htn2 hge0
                go_wp2_with fail
                refine bodyPost_ret (v := .tuple #[.agg #[.int .i64 (valN (seg l 24 2) : Nat), .int .i64 (valN (seg l 16 4) : Nat), .int .i64 (valN (seg l 20 4) : Nat), .int .i64 (valN (seg l 26 2) : Nat), .int .i64 (valN (seg l 28 2) : Nat), .slice aaqbcd sz acqbcd], .int .i64 0]) (by simp [results, Tryd.results25, go_sem, hy0, hy1, hy2, hy3, hy4, hy5]) rfl ?_
                refine DecPost.yes HD0.out (by rw [HRB.out]; exact HSEG.out) ?_ ?_
                · rw [HRB.out]
                  refine ownsRow_base (ownsRow_chg (G := fun k => k = w.heap.size) HOY.out (chg6 _ _ _ _ _ _ _ _) (fun k h1 _ h3 => by have : k = w.heap.size := h3; omega)) (by omega)
                · exact HBY.out.trans ((chg6 _ _ _ _ _ _ _ _).below (fun k h => by have : k = w.heap.size := h; omega) HBY.out.size)
          · have hk2 : (chkP (rawP l) != 0) = true := by simpa using hk
            have hd3 : decE l = 3 := by rw [HDE.out, if_neg (fun h => hk h.2.2)]
            have HD3 := Lib.hid hd3
            clear hk hd3
            go_wp2_with fail
            exact bodyPost_ret (v := .tuple #[.agg #[.int .i64 0, .int .i64 0, .int .i64 0, .int .i64 0, .int .i64 0, .slice none 0 0], .int .i64 3]) (by simp [results, Tryd.results25, go_sem, hy0, hy1, hy2, hy3, hy4, hy5]) rfl (DecPost.no HD3.out (by decide) ((((((HBY.out.setCell (Nat.le_refl _) _).setCell (Nat.le_refl _) _).setCell (Nat.le_refl _) _).setCell (Nat.le_refl _) _).setCell (Nat.le_refl _) _).setCell (Nat.le_refl _) _))

theorem rDecode_any {w : World} {F : Nat → Prop} (l : List UInt8) (v : Value) (hv : BytesAt w F v l) : Calls Tryd.prog 25 #[v] w (DecPost w l) := by
  obtain ⟨a, cap, rfl⟩ := hv.form
  by_cases h : l.length = 256
  · obtain ⟨g, off, rfl⟩ := hv.addr (fun e => by rw [e] at h; simp at h)
    rw [h] at hv ⊢
    exact rDecode_main l g off cap hv h
  · exact rDecode_len l a l.length cap rfl h
theorem DecodePart_any {w : World} {F : Nat → Prop} (l : List UInt8) (v : Value) (hv : BytesAt w F v l) (hK : KAt w) : Calls Tryd.prog 21 #[v] w (DecPost w l) := by
  obtain ⟨a, cap, rfl⟩ := hv.form
  by_cases h : l.length = 256
  · obtain ⟨g, off, rfl⟩ := hv.addr (fun e => by rw [e] at h; simp at h)
    rw [h] at hv ⊢
    by_cases hs : halfL (l.drop 16) = l.take 16
    · exact DecodePart_go l g off cap hv h hK hs
    · exact DecodePart_sum l g off cap hv h hK hs
  · exact DecodePart_len l a l.length cap rfl h

end Go.Proofs.YtloaenknhkfaeaaDoor
