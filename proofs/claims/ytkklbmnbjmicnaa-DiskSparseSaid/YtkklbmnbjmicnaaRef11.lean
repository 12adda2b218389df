/- The reference: Restart. -/
import Derived.Test.YtkklbmnbjmicnaaRef10
import Derived.Deep.Cut
import Derived.Deep.CutRange
import Derived.Deep.LoopGhost
namespace Go.Proofs.Ytkklbmnbjmicnaa
open Go.RowKit Go.Shelf
set_option linter.unusedVariables false
set_option linter.unusedSimpArgs false

def nbOf (c : Nat) : Nat := if c % 3 = 1 then 256 else if c % 3 = 2 then c / 3 % 17 * 16 else 0
theorem nbOf_le (c : Nat) : nbOf c ≤ 256 := by
  unfold nbOf
  have : c / 3 % 17 < 17 := Nat.mod_lt _ (by decide)
  split
  · omega
  · split <;> omega
theorem fate_nb (a b : List UInt8) (ha : a.length = 256) (hb : b.length = 256) (c : Nat) : fate a b c = b.take (nbOf c) ++ a.drop (nbOf c) := by
  unfold fate nbOf
  by_cases h0 : c % 3 = 0
  · have h1 : ¬ c % 3 = 1 := by omega
    have h2 : ¬ c % 3 = 2 := by omega
    simp [h0]
  · by_cases h1 : c % 3 = 1
    · rw [if_neg h0, if_pos h1, if_pos h1, List.take_of_length_le (by omega), List.drop_of_length_le (by omega), List.append_nil]
    · have h2 : c % 3 = 2 := by omega
      simp [h2]
/-- The device when k writes have been applied, and n bytes of the next one. -/
def DS.restAt (S : DS) (cs : List UInt8) (k n : Nat) : DS :=
  { S with dur := match S.pend[k]? with
    | some x => (rdur S cs k).set x.1 (x.2.take n ++ ((rdur S cs k).getD x.1 zeros).drop n)
    | none => rdur S cs k }
theorem restAt_len (S : DS) (cs : List UInt8) (k n : Nat) : (S.restAt cs k n).dur.length = S.dur.length := by
  unfold DS.restAt
  cases S.pend[k]? with
  | none => exact rdur_length S cs k
  | some x => simp [rdur_length]
theorem restAt_zero {S : DS} (h : S.ok) (cs : List UInt8) (k : Nat) : (S.restAt cs k 0).dur = rdur S cs k := by
  unfold DS.restAt
  cases hp : S.pend[k]? with
  | none => rfl
  | some x =>
    have hx := h.pend x (List.mem_of_getElem? hp)
    have hl := rdur_length S cs k
    simp only [List.take_zero, List.nil_append, List.drop_zero]
    have : (rdur S cs k).getD x.1 zeros = (rdur S cs k)[x.1]'(by omega) := by simp [show x.1 < (rdur S cs k).length by omega]
    rw [this]
    exact List.set_getElem_self _
theorem restAt_nb {S : DS} (h : S.ok) (cs : List UInt8) (k : Nat) : (S.restAt cs k (nbOf (cs.getD k 0).toNat)).dur = rdur S cs (k + 1) := by
  unfold DS.restAt
  conv => rhs; unfold rdur
  cases hp : S.pend[k]? with
  | none => rfl
  | some x =>
    have hx := h.pend x (List.mem_of_getElem? hp)
    have hl := rdur_length S cs k
    have : (rdur S cs k).getD x.1 zeros = (rdur S cs k)[x.1]'(by omega) := by simp [show x.1 < (rdur S cs k).length by omega]
    simp only
    rw [fate_nb _ _ (by rw [this]; exact rdur_256 h cs k _ (List.getElem_mem _)) hx.2]
theorem restAt_row {S : DS} (h : S.ok) (cs : List UInt8) (k n : Nat) {x1 : Nat} {x2 : List UInt8} (hp : S.pend[k]? = some (x1, x2)) (hn : n < 256) :
    ∃ hx : x1 < (S.restAt cs k n).dur.length, { S.restAt cs k n with dur := (S.restAt cs k n).dur.set x1 ((S.restAt cs k n).dur[x1].set n (x2.getD n 0)) } = S.restAt cs k (n + 1) := by
  have hx := h.pend _ (List.mem_of_getElem? hp)
  have hl := rdur_length S cs k
  refine ⟨by rw [restAt_len]; exact hx.1, ?_⟩
  have hx2 : x2.length = 256 := hx.2
  have hbl : ((rdur S cs k).getD x1 zeros).length = 256 := by
    have : (rdur S cs k).getD x1 zeros = (rdur S cs k)[x1]'(by omega) := by simp [show x1 < (rdur S cs k).length by omega]
    rw [this]; exact rdur_256 h cs k _ (List.getElem_mem _)
  obtain ⟨bf, hbf⟩ : ∃ bf, (rdur S cs k).getD x1 zeros = bf := ⟨_, rfl⟩
  rw [hbf] at hbl
  have e1 : ∀ m, S.restAt cs k m = { S with dur := (rdur S cs k).set x1 (x2.take m ++ bf.drop m) } := fun m => by unfold DS.restAt; rw [hp]; simp only [hbf]
  simp only [e1]
  congr 1
  rw [List.set_set]
  congr 1
  rw [List.getElem_set_self]
  have h1 : (x2.take n).length = n := by simp; omega
  rw [List.set_append_right _ _ (by omega), h1, Nat.sub_self, List.drop_eq_getElem_cons (by omega), List.set_cons_zero, List.take_add_one, List.getElem?_eq_getElem (by omega), List.append_assoc]
  simp [List.getD, List.getElem?_eq_getElem (show n < x2.length by omega)]
theorem restAt_src {S : DS} (cs : List UInt8) (k n : Nat) : (S.restAt cs k n).pend = S.pend := rfl

theorem RefOwnX.ofDur {w : World} {B : Nat} {S S' : DS} {dv wv : Value} {D : List (List UInt8 × Value)} {L : List (Nat × List UInt8 × Value)} (h : RefOwnX w B S dv wv D L) (hd : S'.dur = S.dur) (hp : S'.pend = S.pend) : RefOwnX w B S' dv wv D L :=
  ⟨h.dur.trans hd.symm, h.pend.trans hp.symm, by rw [hd]; exact h.rd, by rw [hp]; exact h.rw, h.rows⟩

set_option maxRecDepth 100000 in
set_option maxHeartbeats 2000000 in
theorem ref_restart_down {w : World} {G Gc : Nat → Prop} {S : DS} {v cv : Value} (cs : List UInt8) (h : RefAt w G S v) (hcv : BytesAt w Gc cv cs) (hok : S.ok) (hd : S.down = true) (hlen : S.pend.length < 100000000) (hcl : cs.length ≤ 9223372036854775807) :
    Calls Try.prog 51 #[v, cv] w fun e w' => ∃ v', e = .returned (.tuple #[v', .int .i64 0]) ∧ RefOwn w' w.heap.size (S.restart cs).1 v' ∧ Below w.heap.size w w' := by
  have HH := Lib.hid h
  have HOK := Lib.hid hok
  have hwr : S.restart cs = ({ dur := rdur S cs S.pend.length, pend := [], ops := S.ops, limit := none, down := false }, 0) := by simp [DS.restart, hd]
  rw [hwr]
  obtain ⟨ca, ccap, rfl, hccap, hcr⟩ := hcv
  obtain ⟨dv, wv, rfl, hdu, hw⟩ := h
  obtain ⟨ad, capd, rfl⟩ := hdu.len
  obtain ⟨aw, capw, rfl⟩ := hw.len
  clear hdu hw hok hwr
  unfold refV at HH ⊢
  rw [hd] at HH ⊢
  have hf := front w S (.slice ad S.dur.length capd) (.slice aw S.pend.length capw)
  rw [hd] at hf
  obtain ⟨w1, hw1⟩ : ∃ w1, (w.alloc (.cells #[.slice ad S.dur.length capd, .slice aw S.pend.length capw, .int .i64 (limI S), .bool true, .int .i64 (S.ops : Int)] 45)).alloc (.cells #[.slice none 0 0, .slice none 0 0, .int .i64 0, .bool false, .int .i64 0] 45) = w1 := ⟨_, rfl⟩
  rw [hw1] at hf
  obtain ⟨n1, n2, hb⟩ := hf.below (Below.refl _ _)
  rw [hd] at n1
  obtain ⟨c0, c1, c2, c3, c4, cf⟩ := cells5 n1
  have HF := Lib.hid hf
  have HCR := Lib.hid hcr
  have HD := Lib.hid hd
  clear hf n1 n2 hb hcr hd
  go_enter Try.func51, Try.ntmps51
  go_wp2_with fail
  have hR1 : RefAt w1 G S (refV S (.slice ad S.dur.length capd) (.slice aw S.pend.length capw)) := by unfold refV; rw [HD.out]; exact HH.out.below HF.out.b1
  unfold refV at hR1
  rw [HD.out] at hR1
  refine (ref_copy hR1 HOK.out hlen).mono ?_
  rintro e w3 ⟨v3, rfl, ⟨dv', wv', D, L, rfl, hX3⟩, hb3⟩
  obtain ⟨⟨ad', cd', rfl⟩, ⟨aw', cw', rfl⟩⟩ := hX3.slices
  unfold refV
  rw [HD.out]
  have n1 := (HF.out.below hb3).1
  have n2 := (HF.out.below hb3).2.1
  have hbw3 := (HF.out.below hb3).2.2
  rw [HD.out] at n1
  clear c0 c1 c2 c3 c4 cf hw1 hR1
  obtain ⟨c0, c1, c2, c3, c4, cf⟩ := cells5 n1
  have hs1 := HF.out.s1
  have hn5 := put5_heap n1 (.slice ad' S.dur.length cd') (.slice aw' S.pend.length cw') (.int .i64 (limI S)) (.bool true) (.int .i64 (S.ops : Int))
  have hc5 := put5_chg w3 w.heap.size (.slice ad' S.dur.length cd') (.slice aw' S.pend.length cw') (.int .i64 (limI S)) (.bool true) (.int .i64 (S.ops : Int))
  obtain ⟨w5, hw5⟩ : ∃ w5, put5 w3 w.heap.size (.slice ad' S.dur.length cd') (.slice aw' S.pend.length cw') (.int .i64 (limI S)) (.bool true) (.int .i64 (S.ops : Int)) = w5 := ⟨_, rfl⟩
  rw [hw5] at hn5 hc5
  have hn52 : w5.heap[w.heap.size + 1]? = _ := (hc5.block _ (by have := hb3.size; omega) (by omega)).trans n2
  have hbw5 : Below w.heap.size w w5 := hbw3.trans (hc5.below (fun i e => by omega) hbw3.size)
  have hX5 : RefOwnX w5 w1.heap.size (S.restAt cs 0 0) (.slice ad' S.dur.length cd') (.slice aw' S.pend.length cw') D L := (hX3.chg hc5 (fun i h e => by omega)).ofDur (restAt_zero HOK.out cs 0) rfl
  have HN1 := Lib.hid hn5
  have HN2 := Lib.hid hn52
  have HB5 := Lib.hid hbw5
  have HX5 := Lib.hid hX5
  have HW1 := Lib.hid hs1
  unfold put5 at hw5
  obtain ⟨x0, x1, x2, x3, x4, xf⟩ := cells5 HN1.out
  clear hb3 n1 n2 hbw3 hn5 hn52 hbw5 hX5 hX3 hs1 hc5
  go_wp2_with fail
  clear hw5 c0 c1 c2 c3 c4 cf x0 x1 x2 x3 x4 xf
  go_loopg [6] (S.pend.length) (fun m i wr => ∃ (k : Nat) (D : List (List UInt8 × Value)), m + k = S.pend.length ∧ i = .int .i64 (k : Int) ∧ wr.heap[w.heap.size]? = some (.cells #[.slice ad' S.dur.length cd', .slice aw' S.pend.length cw', .int .i64 (limI S), .bool true, .int .i64 (S.ops : Int)] 45 (0, 0)) ∧
      wr.heap[w.heap.size + 1]? = some (.cells #[.slice none 0 0, .slice none 0 0, .int .i64 0, .bool false, .int .i64 0] 45 (0, 0)) ∧ RefOwnX wr w1.heap.size (S.restAt cs k 0) (.slice ad' S.dur.length cd') (.slice aw' S.pend.length cw') D L ∧ Below w.heap.size w wr)
  case atStart => exact ⟨0, D, rfl, rfl, HN1.out, HN2.out, HX5.out, HB5.out⟩
  case round =>
    clear HN1 HN2 HX5 HB5 D
    obtain ⟨gk0, rfl⟩ : ∃ gk0, gk0 = gk := ⟨_, rfl⟩
    obtain ⟨k, D, hk, rfl, hn, hn2, hX, hB⟩ := hrel
    obtain ⟨x0, x1, x2, x3, x4, xf⟩ := cells5 hn
    have HN := Lib.hid hn
    have HN2 := Lib.hid hn2
    have HB := Lib.hid hB
    have HX := Lib.hid hX
    have HK := Lib.hid hk
    have hkl : k ≤ S.pend.length := by omega
    clear hn hn2 hB hX hk
    by_cases hlt : k < S.pend.length
    · obtain ⟨c, hc⟩ : ∃ c : Nat, (cs.getD k 0).toNat = c := ⟨_, rfl⟩
      have hcb : c ≤ 255 := by rw [← hc]; have := UInt8.toNat_lt (cs.getD k 0); omega
      have HC := Lib.hid hc
      clear hc
      go_upto_if 27 with fail
      go_cut [7] from 17 to 65 (fun cv wx => cv = .int .i64 (c : Int) ∧ wx = wr)
      case first =>
        by_cases hic : k < cs.length
        · obtain ⟨gc, oc, rfl, _, hgc, hcr⟩ := HCR.out (by intro e; rw [e] at hic; simp at hic)
          have hcc : wr.cell? ⟨gc, oc + k, none⟩ = some (.int .u8 (c : Int)) := by
            refine (HB.out.cell (p := ⟨gc, oc + k, none⟩) hgc).trans (hcr k _ ?_)
            have := HC.out
            rw [List.getD_eq_getElem?_getD, List.getElem?_eq_getElem hic, Option.getD_some] at this
            rw [bvs_getElem?, List.getElem?_eq_getElem hic, Option.map_some]
            unfold bv
            rw [this]
          clear hcr hgc x0 x1 x2 x3 x4 xf
          go_wp2_with fail
          go_meet
          case rel => exact ⟨rfl, rfl⟩
        · have hc0 : c = 0 := by
            have := HC.out
            rw [List.getD_eq_getElem?_getD, List.getElem?_eq_none (by omega)] at this
            simpa using this.symm
          subst hc0
          clear x0 x1 x2 x3 x4 xf
          go_wp2_with fail
          go_meet
          case rel => exact ⟨rfl, rfl⟩
      case rest =>
        obtain ⟨rfl, rfl⟩ := hcut
        go_upto_if 35 with fail
        obtain ⟨b1, hb1⟩ : ∃ b1 : Nat, (if c % 3 = 1 then 256 else 0) = b1 := ⟨_, rfl⟩
        have HB1 := Lib.hid hb1
        clear hb1
        go_cut [8] from 17 to 65 (fun bn wx => bn = .int .i64 (b1 : Int) ∧ wx = wc)
        case first =>
          clear x0 x1 x2 x3 x4 xf
          by_cases h1 : c % 3 = 1
          · have h1' : ((c : Int) % 3 == 1) = true := by simp; omega
            have h1'' : (c : Int) % 3 = 1 := by omega
            have H1 := Lib.hid h1
            clear h1
            go_wp2_with fail
            go_meet
            case rel => exact ⟨by rw [← HB1.out, if_pos H1.out]; rfl, rfl⟩
          · have h1' : ((c : Int) % 3 == 1) = false := by simp; omega
            have h1'' : ¬ (c : Int) % 3 = 1 := by omega
            have H1 := Lib.hid h1
            clear h1
            go_wp2_with fail
            go_meet
            case rel => exact ⟨by rw [← HB1.out, if_neg H1.out]; rfl, rfl⟩
        case rest =>
          obtain ⟨rfl, rfl⟩ := hcut
          go_upto_if 38 with fail
          go_cut [8] from 17 to 65 (fun bn wx => bn = .int .i64 (nbOf c : Int) ∧ wx = wc)
          case first =>
            clear x0 x1 x2 x3 x4 xf
            by_cases h1 : c % 3 = 2
            · have h1' : ((c : Int) % 3 == 2) = true := by simp; omega
              have h1'' : (c : Int) % 3 = 2 := by omega
              have hnb : nbOf c = c / 3 % 17 * 16 := by unfold nbOf; rw [if_neg (by omega), if_pos h1]
              have HNB := Lib.hid hnb
              clear h1 hnb
              go_wp2_with fail
              go_meet
              case rel => exact ⟨by rw [HNB.out]; go_num, rfl⟩
            · have h1' : ((c : Int) % 3 == 2) = false := by simp; omega
              have h1'' : ¬ (c : Int) % 3 = 2 := by omega
              have hnb : nbOf c = b1 := by rw [← HB1.out]; unfold nbOf; rw [if_neg h1]
              have HNB := Lib.hid hnb
              clear h1 hnb
              go_wp2_with fail
              go_meet
              case rel => exact ⟨by rw [HNB.out], rfl⟩
          case rest =>
            obtain ⟨rfl, rfl⟩ := hcut
            obtain ⟨nb, hnb⟩ : ∃ nb, nbOf c = nb := ⟨_, rfl⟩
            have hnbl : nb ≤ 256 := by rw [← hnb]; exact nbOf_le c
            rw [hnb]
            obtain ⟨gw, cw2, g2, cx2, e, hLk, hr0, hr1⟩ := HX.out.formL k (by rw [restAt_src]; exact hlt)
            simp only [restAt_src, Value.slice.injEq] at e hLk hr0
            obtain ⟨rfl, ee, rfl⟩ := e
            clear ee
            obtain ⟨q1, q2, hq⟩ : ∃ q1 q2, S.pend[k] = (q1, q2) := ⟨_, _, rfl⟩
            rw [hq] at hLk hr0
            simp only at hLk hr0
            have HNB := Lib.hid hnb
            have HLK := Lib.hid hLk
            have HQ := Lib.hid hq
            have hwlt : w.heap.size + 1 < wc.heap.size := (Array.getElem?_eq_some_iff.1 HN2.out).1
            have HWL := Lib.hid hwlt
            obtain ⟨wb, hwb⟩ : ∃ wb, wc.alloc (.cells #[.int .i64 (q1 : Int), .slice (some ⟨g2, 0, none⟩) 256 cx2] 90) = wb := ⟨_, rfl⟩
            clear hnb hLk hq hwlt
            have hwb1 : wb.heap[wc.heap.size]? = some (.cells #[.int .i64 (q1 : Int), .slice (some ⟨g2, 0, none⟩) 256 cx2] 90 (0, 0)) := by
              rw [← hwb]; exact heap_alloc_new wc _
            have hbb : Below wc.heap.size wc wb := hwb ▸ (Below.refl _ wc).alloc (Nat.le_refl _) _
            have hbn : wb.heap[w.heap.size]? = _ := (hbb.block _ (by have := HWL.out; omega)).trans HN.out
            have hbn2 : wb.heap[w.heap.size + 1]? = _ := (hbb.block _ HWL.out).trans HN2.out
            have hbX := HX.out.chg (G := fun _ => False) (Chg.of_below hbb) (fun _ _ h => h)
            have hbB := HB.out.trans (hbb.mono HB.out.size)
            have HBN := Lib.hid hbn
            have HBN2 := Lib.hid hbn2
            have HBX := Lib.hid hbX
            have HBB := Lib.hid hbB
            have HWB1 := Lib.hid hwb1
            have HWBB := Lib.hid hbb
            clear hwb1 hbn hbn2 hbX hbB hbb
            go_wp2_with fail
            clear hwb x0 x1 x2 x3 x4 xf hr0 hr1
            have hwm : w.heap.size + 2 ≤ w1.heap.size := by have := HW1.out; omega
            have HWM := Lib.hid hwm
            clear hwm
            go_loopg [10] (nb) (fun m i wi => ∃ (n : Nat) (D : List (List UInt8 × Value)), m + n = nb ∧ i = .int .i64 (n : Int) ∧ wi.heap[w.heap.size]? = some (.cells #[.slice ad' S.dur.length cd', .slice (some ⟨gw, 0, none⟩) S.pend.length cw', .int .i64 (limI S), .bool true, .int .i64 (S.ops : Int)] 45 (0, 0)) ∧
              wi.heap[w.heap.size + 1]? = some (.cells #[.slice none 0 0, .slice none 0 0, .int .i64 0, .bool false, .int .i64 0] 45 (0, 0)) ∧ wi.heap[wc.heap.size]? = some (.cells #[.int .i64 (q1 : Int), .slice (some ⟨g2, 0, none⟩) 256 cx2] 90 (0, 0)) ∧
              RefOwnX wi w1.heap.size (S.restAt cs k n) (.slice ad' S.dur.length cd') (.slice (some ⟨gw, 0, none⟩) S.pend.length cw') D L ∧ Below w.heap.size w wi)
            case atStart => exact ⟨0, D, rfl, rfl, HBN.out, HBN2.out, HWB1.out, HBX.out, HBB.out⟩
            case round =>
              clear HBN HBN2 HWB1 HBX HBB HN HN2 HB HX HWBB D
              obtain ⟨n, D, hk2, rfl, hn, hn2, hnw, hX, hB⟩ := hrel
              have HN := Lib.hid hn
              have HN2 := Lib.hid hn2
              have HNW := Lib.hid hnw
              have HB := Lib.hid hB
              have HX := Lib.hid hX
              have HK2 := Lib.hid hk2
              have hnl : n ≤ nb := by omega
              clear hn2 hB hX hk2
              by_cases hltn : n < nb
              · obtain ⟨hq1, hnext⟩ := restAt_row HOK.out cs k n (x1 := q1) (x2 := q2) (by rw [List.getElem?_eq_getElem hlt, HQ.out]) (by omega)
                obtain ⟨gd, cd2, gx, cx, e, hgd, hgx, hgxl, hcr, hcb, hfz, ⟨cur, hcur⟩, hset⟩ := HX.out.atD q1 hq1
                simp only [Value.slice.injEq, restAt_len] at e
                obtain ⟨rfl, ee, rfl⟩ := e
                clear ee
                have hsrc := HX.out.bytesL HLK.out n (by omega)
                obtain ⟨z, hz⟩ : ∃ z, q2.getD n 0 = z := ⟨_, rfl⟩
                rw [hz] at hsrc hnext
                unfold bv at hsrc
                have hdst : ∃ u, wr.cell? ⟨gx, n, none⟩ = some u := ⟨_, hcb n (by omega)⟩
                obtain ⟨du, hdst⟩ := hdst
                have hdf := hfz n
                have hq1' : (q1 : Int) < (S.dur.length : Int) := by rw [restAt_len] at hq1; omega
                have hdm : S.dur.length ≤ 4096 := HOK.out.most
                obtain ⟨b0, b1, b2, b3, b4, bf⟩ := cells5 hn
                have hnw0 : wr.cell? ⟨wc.heap.size, 0, none⟩ = some (.int .i64 (q1 : Int)) := by simp [World.cell?, hnw]
                have hnw1 : wr.cell? ⟨wc.heap.size, 1, none⟩ = some (.slice (some ⟨g2, 0, none⟩) 256 cx2) := by simp [World.cell?, hnw]
                have hgw : gx ≠ wc.heap.size := fun e => by
                  rw [e, hnw] at hcur
                  simp at hcur
                obtain ⟨D2, hX6⟩ := hset n z
                rw [hnext] at hX6
                have hX6' := hX6.drew
                unfold bv at hX6'
                obtain ⟨w6, hw6⟩ : ∃ w6, (wr.setCell ⟨gx, n, none⟩ (.int .u8 (z.toNat : Int))).drew = w6 := ⟨_, rfl⟩
                have hc6 : Chg (fun i => i = gx) wr w6 := hw6 ▸ (Chg.setCell (F := fun i => i = gx) wr _ rfl).drew
                rw [hw6] at hX6'
                have hwm := HWM.out
                have hn61 : w6.heap[w.heap.size]? = _ := (hc6.block _ (Array.getElem?_eq_some_iff.1 hn).1 (by omega)).trans hn
                have hn62 : w6.heap[w.heap.size + 1]? = _ := (hc6.block _ (Array.getElem?_eq_some_iff.1 HN2.out).1 (by omega)).trans HN2.out
                have hn63 : w6.heap[wc.heap.size]? = _ := (hc6.block _ (Array.getElem?_eq_some_iff.1 hnw).1 (Ne.symm hgw)).trans hnw
                have hb6 : Below w.heap.size w w6 := HB.out.trans (hc6.below (fun i e => by omega) HB.out.size)
                have HN61 := Lib.hid hn61
                have HN62 := Lib.hid hn62
                have HN63 := Lib.hid hn63
                have HB6 := Lib.hid hb6
                have HX6 := Lib.hid hX6'
                have HW6 := Lib.hid hw6
                clear hn61 hn62 hn63 hb6 hX6 hX6' hw6 hc6 hwm hset hcb hfz hz hcur hnext hq1 hgd hgx hgxl hgw hn hnw
                go_wp2_with fail
                go_region
                rw [HW6.out]
                clear b0 b1 b2 b3 b4 bf hnw0 hnw1 hdst hdf hsrc hcr
                go_wp2_with fail
                go_roundg (gk - 1)
                case measure => have := HK2.out; omega
                case rel => exact ⟨n + 1, D2, by have := HK2.out; omega, by go_num, HN61.out, HN62.out, HN63.out, HX6.out, HB6.out⟩
              · obtain rfl : n = nb := by omega
                have hX7 : RefOwnX wr w1.heap.size (S.restAt cs (k + 1) 0) (.slice ad' S.dur.length cd') (.slice (some ⟨gw, 0, none⟩) S.pend.length cw') D L := by
                  refine HX.out.ofDur ?_ rfl
                  have h9 := restAt_nb HOK.out cs k
                  rw [HC.out, HNB.out] at h9
                  rw [h9]
                  exact restAt_zero HOK.out cs (k + 1)
                have HX7 := Lib.hid hX7
                clear hX7 hn hnw
                go_wp2_with fail
                go_roundg (gk0 - 1)
                case measure => have := HK.out; omega
                case rel => exact ⟨k + 1, D, by have := HK.out; omega, by go_num, HN.out, HN2.out, HX7.out, HB.out⟩
    · obtain rfl : k = S.pend.length := by omega
      have hs1 := HW1.out
      have hX6 : RefOwnX wr w1.heap.size { dur := rdur S cs S.pend.length, pend := [], ops := S.ops, limit := none, down := false } (.slice ad' S.dur.length cd') (.slice none 0 0) D [] :=
        HX.out.noPend.ofDur (by exact (restAt_zero HOK.out cs S.pend.length).symm) rfl
      obtain ⟨wx, hwx⟩ : ∃ wx, ((wr.setCell ⟨w.heap.size, 1, none⟩ (.slice none 0 0)).setCell ⟨w.heap.size, 3, none⟩ (.bool false)).setCell ⟨w.heap.size, 2, none⟩ (.int .i64 (-1)) = wx := ⟨_, rfl⟩
      have hnx : wx.heap[w.heap.size]? = some (.cells #[.slice ad' S.dur.length cd', .slice none 0 0, .int .i64 (-1), .bool false, .int .i64 (S.ops : Int)] 45 (0, 0)) := by
        rw [← hwx, heap_setCell_same _ _ _ _ _ _ (heap_setCell_same _ _ _ _ _ _ (heap_setCell_same _ _ _ _ _ _ HN.out))]; rfl
      have s9 := fun (x : World) (k : Nat) (v : Value) => Chg.setCell (F := fun i => i = w.heap.size ∨ i = w.heap.size + 1) x (a := ⟨w.heap.size, k, none⟩) v (.inl rfl)
      have hcx : Chg (fun i => i = w.heap.size ∨ i = w.heap.size + 1) wr wx := hwx ▸ ((s9 wr _ _).trans (s9 _ _ _) (fun _ h => .inl h)).trans (s9 _ _ _) (fun _ h => .inl h)
      have hnx2 : wx.heap[w.heap.size + 1]? = some (.cells #[.slice none 0 0, .slice none 0 0, .int .i64 0, .bool false, .int .i64 0] 45 (0, 0)) := by
        rw [← hwx]
        exact (heap_setCell_other _ ⟨w.heap.size, 2, none⟩ _ _ (by show w.heap.size + 1 ≠ w.heap.size; omega)).trans ((heap_setCell_other _ ⟨w.heap.size, 3, none⟩ _ _ (by show w.heap.size + 1 ≠ w.heap.size; omega)).trans ((heap_setCell_other _ ⟨w.heap.size, 1, none⟩ _ _ (by show w.heap.size + 1 ≠ w.heap.size; omega)).trans HN2.out))
      have hfin := put5_heap hnx2 (.slice ad' S.dur.length cd') (.slice none 0 0) (.int .i64 (-1)) (.bool false) (.int .i64 (S.ops : Int))
      have hcf := hcx.trans (put5_chg wx (w.heap.size + 1) (.slice ad' S.dur.length cd') (.slice none 0 0) (.int .i64 (-1)) (.bool false) (.int .i64 (S.ops : Int))) (fun _ h => .inl (.inr h))
      have hXf := (hX6.chg hcf (fun i h e => by omega)).base (B' := w.heap.size) (by omega)
      have hbf := HB.out.trans (hcf.below (fun i e => by omega) HB.out.size)
      obtain ⟨z0, z1, z2, z3, z4, zf⟩ := cells5 hnx
      obtain ⟨y0, y1, y2, y3, y4, yf⟩ := cells5 hnx2
      have HXF := Lib.hid hXf
      have HBF := Lib.hid hbf
      have HFIN := Lib.hid hfin
      clear hcf hcx hnx hnx2 hfin hXf hbf hs1 hX6 s9
      go_wp2_with fail
      exact bodyPost_ret (results_cell_tmp_row (g := w.heap.size + 1) rfl _ _ _ _ _ _ rfl HFIN.out Try.underlying45 rfl infoD) rfl ⟨_, rfl, ⟨_, _, D, _, rfl, HXF.out⟩, HBF.out⟩

end Go.Proofs.Ytkklbmnbjmicnaa
