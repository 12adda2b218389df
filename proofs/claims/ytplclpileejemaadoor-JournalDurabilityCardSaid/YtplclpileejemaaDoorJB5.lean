/- sha256: Write; sha256: (*Hash).Sum. -/
import Derived.Test.YtplclpileejemaaDoorJB4
import Derived.Test.YtplclpileejemaaDoorJB1
namespace Go.Proofs.YtplclpileejemaaDoor
open Go.RowKit
set_option linter.unusedVariables false
set_option linter.unusedSimpArgs false

theorem KAt.below {w w' : World} {B : Nat} (h : KAt w) (hb : Below B w w') (hB : 0 < B) : KAt w' := ⟨Nat.lt_of_lt_of_le h.size hb.size, fun j hj => (hb.cell (p := ⟨0, j, none⟩) hB).trans (h.cell j hj)⟩
theorem KAt.chg {w w' : World} {F : Nat → Prop} (h : KAt w) (hc : Chg F w w') (hF : ¬ F 0) : KAt w' := ⟨Nat.lt_of_lt_of_le h.size hc.size, fun j hj => (World.cell?_of_block (hc.block _ h.size hF)).trans (h.cell j hj)⟩

theorem slice_from64 (w : World) (b off r : Nat) (hr : r < 64) :
    (Instr.sliceAt 146 (.pointer (some ⟨b, off, none⟩)) (some (.int .i64 (r : Int))) none none).run Tryd.prog w = .ok (.slice (some ⟨b, off + r, none⟩) (64 - r) (64 - r)) w := by
  have h1 : (r : Int) ≤ 64 := by omega
  have h2 : ¬ 64 = r := by omega
  have h3 : r ≤ 64 := by omega
  have hs := size_u8 w
  simp [Instr.sliceAt, run_underlying Tryd.underlying146, Instr.sureAddr, Instr.sliceBounds, Instr.sliceBound, asIntOf, h1, h2, h3, hs, Addr.add]

theorem bytesAt_cut {w : World} {F : Nat → Prop} {g off n tc k : Nat} {D : List UInt8} (hF : F g) (hg : g < w.heap.size) (hr : w.rangeAt g off (bvs D)) (hn : D.length = n) (htc : n ≤ tc) (hk : k ≤ n) :
    BytesAt w F (.slice (some ⟨g, if tc = k then off else off + k, none⟩) (n - k) (tc - k)) (D.drop k) := by
  refine ⟨_, _, by rw [List.length_drop, hn], by rw [List.length_drop]; omega, fun hne => ⟨g, _, rfl, hF, hg, ?_⟩⟩
  have : ¬ tc = k := by
    intro e
    apply hne
    rw [List.drop_eq_nil_iff]; omega
  rw [if_neg this]
  intro j u hu
  have h2 : (bvs D)[k + j]? = some u := by
    rw [← hu]; simp [bvs, List.getElem?_drop]
  have := hr (k + j) u h2
  rwa [← Nat.add_assoc] at this
theorem sizeU8i : (Tryd.prog.info? 5).map (·.size) = some 1 := by kernel_rfl
theorem Chg.setRow {F : Nat → Prop} {w : World} (g : Nat) (cs : Array Value) (h : F g) : Chg F w (w.setRow g cs) := ⟨rfl, rfl, rfl, by simp [World.setRow], fun k _ hf => setRow_other w g k cs (fun e => hf (e ▸ h))⟩
theorem hcells_splice (v : W8) (n : Nat) {buf c : List UInt8} {r : Nat} (hl : buf.length = 64) (h : r + c.length ≤ 64) :
    ((hcells v buf n).toArray.toList.take (8 + r) ++ (bvs c ++ (hcells v buf n).toArray.toList.drop (8 + r + (bvs c).length))).toArray = (hcells v (bufP buf r c) n).toArray := by
  have e8 : v.cells.length = 8 := rfl
  congr 1
  show (hcells v buf n).take (8 + r) ++ (bvs c ++ (hcells v buf n).drop (8 + r + (bvs c).length)) = hcells v (bufP buf r c) n
  unfold hcells bufP
  rw [← e8, List.take_length_add_append, bvs_length, Nat.add_assoc, List.drop_length_add_append, List.take_append_of_le_length (by simp; omega), List.drop_append_of_le_length (by simp; omega)]
  simp [bvs, List.map_take, List.map_drop]
theorem HashAt.splice {w : World} {b : Nat} {v : W8} {buf : List UInt8} {n : Nat} (h : HashAt w b v buf n) {c : List UInt8} {r : Nat} (hr : r + c.length ≤ 64) : HashAt (w.setRow b (hcells v (bufP buf r c) n).toArray) b v (bufP buf r c) n :=
  ⟨bufP_length h.len hr, setRow_heap w b _ _ _ _ h.hb⟩

set_option maxRecDepth 100000 in
set_option maxHeartbeats 2000000 in
theorem ShaWrite_any {w : World} {b : Nat} {v0 : W8} {buf0 : List UInt8} (M l : List UInt8) (bv : Value) (hH : HashAt w b v0 buf0 M.length) (hS : M ≠ [] → HS v0 buf0 M) (hv : BytesAt w (fun g => g ≠ b) bv l) (hK : KAt w) (hb : b ≠ 0) (hlen : M.length + l.length < 1000000000000000) :
    Calls Tryd.prog 77 #[.pointer (some ⟨b, 0, none⟩), bv] w fun e w' => e = .returned (.int .i64 0) ∧ ∃ v buf, HashAt w' b v buf (M ++ l).length ∧ HS v buf (M ++ l) ∧ Chg (fun k => k = b) w w' := by
  obtain ⟨sa, sc, rfl, hsc, hsr⟩ := hv
  have hlc := hH.length
  have hst := hH.state
  have hfr := hH.frozen
  by_cases hM : M = []
  · have hini : ∀ w, Calls Tryd.prog 79 #[] w (fun e w' => e = .returned (.agg #[.int .u32 (wN w8init.a), .int .u32 (wN w8init.b), .int .u32 (wN w8init.c), .int .u32 (wN w8init.d), .int .u32 (wN w8init.e), .int .u32 (wN w8init.f), .int .u32 (wN w8init.g), .int .u32 (wN w8init.i)]) ∧ Below w.heap.size w w') := fun w => initial_any w
    have hm0 : ((M.length : Int) == 0) = true := by simp [hM]
    have HI := Lib.hid hini
    have HH := Lib.hid hH
    have HK := Lib.hid hK
    have HR := Lib.hid hsr
    have HM := Lib.hid hM
    clear hM
    clear hini hH hS hK hsr hst
    go_enter Tryd.func77, Tryd.ntmps77
    go_wp2_with fail
    refine (HI.out _).mono ?_
    rintro e wi ⟨rfl, hbi⟩
    have hhi := HH.out.kept (hbi.block _ HH.out.lt)
    have hfr := hhi.frozen
    have hst := hhi.state
    obtain ⟨e0, e1, e2, e3, e4, e5, e6, e7⟩ := hst
    have HHI := Lib.hid hhi
    have HBI := Lib.hid hbi
    clear hlc hhi hbi hm0
    go_wp2_with fail
    have hh0 := HHI.out.setState w8init
    have hg0 := grown_states wi b (.int .u32 (wN w8init.a)) (.int .u32 (wN w8init.b)) (.int .u32 (wN w8init.c)) (.int .u32 (wN w8init.d)) (.int .u32 (wN w8init.e)) (.int .u32 (wN w8init.f)) (.int .u32 (wN w8init.g)) (.int .u32 (wN w8init.i))
    obtain ⟨W0, hW0⟩ : ∃ W0, (((((((wi.setCell ⟨b, 0, none⟩ (.int .u32 (wN w8init.a))).setCell ⟨b, 1, none⟩ (.int .u32 (wN w8init.b))).setCell ⟨b, 2, none⟩ (.int .u32 (wN w8init.c))).setCell ⟨b, 3, none⟩ (.int .u32 (wN w8init.d))).setCell ⟨b, 4, none⟩ (.int .u32 (wN w8init.e))).setCell ⟨b, 5, none⟩ (.int .u32 (wN w8init.f))).setCell ⟨b, 6, none⟩ (.int .u32 (wN w8init.g))).setCell ⟨b, 7, none⟩ (.int .u32 (wN w8init.i)) = W0 := ⟨_, rfl⟩
    rw [hW0] at hh0 hg0 ⊢
    have hc0 : Chg (fun j => j = b) w W0 := (Chg.of_below HBI.out).trans (Chg.grown (F := fun j => j = b) hg0 (fun j e => .inl (Option.some.inj e).symm)) (fun _ h => .inl h)
    have HH0 := Lib.hid hh0
    have HS0 : Hid (HS w8init buf0 M) := Lib.hid (by rw [HM.out]; exact ⟨hh0.len, rfl, by simp⟩)
    have HV0 := Lib.hid ((show BytesAt w (fun g => g ≠ b) (.slice sa l.length sc) l from ⟨sa, sc, rfl, hsc, HR.out⟩).kept hc0 (fun j h e => h e))
    have HC0 := Lib.hid hc0
    clear hh0 hg0 hc0 hW0 e0 e1 e2 e3 e4 e5 e6 e7 hfr
    go_loopw [1] (fun t wr => ∃ (i : Nat) (v : W8) (buf : List UInt8), i ≤ l.length ∧ HashAt wr b v buf (M.length + i) ∧ HS v buf (M ++ l.take i) ∧ BytesAt wr (fun g => g ≠ b) t (l.drop i) ∧ Chg (fun k => k = b) w wr)
      (fun t _ => match t with | .slice _ n _ => n | _ => 0)
    case atStart => exact ⟨0, _, buf0, Nat.zero_le _, HH0.out, by rw [List.take_zero, List.append_nil]; exact HS0.out, HV0.out, HC0.out⟩
    case round =>
      obtain ⟨i, v, buf, hi, hH, hS, hV, hC⟩ := hrel
      have hml : (M ++ l.take i).length = M.length + (l.take i).length := List.length_append
      rw [List.length_take, Nat.min_eq_left hi] at hml
      by_cases hlt : i < l.length
      · obtain ⟨ta, tc, rfl, htc, htr⟩ := hV
        obtain ⟨g, off, rfl, hgb, hgl, hrg⟩ := htr (by intro e; have := congrArg List.length e; simp at this; omega)
        obtain ⟨n, hn⟩ : ∃ n, (l.drop i).length = n := ⟨_, rfl⟩
        rw [hn] at htc ⊢
        obtain ⟨N, hN⟩ : ∃ N, M.length + i = N := ⟨_, rfl⟩
        rw [hN] at hH
        have hn' : n = l.length - i := by rw [← hn]; simp
        obtain ⟨r, hr⟩ : ∃ r, N % 64 = r := ⟨_, rfl⟩
        obtain ⟨k, hk⟩ : ∃ k, Nat.min n (64 - r) = k := ⟨_, rfl⟩
        have hr64 : r < 64 := by omega
        have hk0 : min n (64 - r) = k := hk
        have hk1 : 1 ≤ k := by omega
        have hkn : k ≤ n := by omega
        have hrk : r + k ≤ 64 := by omega
        clear hk0
        obtain ⟨c, hc⟩ : ∃ c, (l.drop i).take k = c := ⟨_, rfl⟩
        have hcl : c.length = k := by rw [← hc, List.length_take, hn]; omega
        obtain ⟨buf2, hb2⟩ : ∃ buf2, bufP buf r c = buf2 := ⟨_, rfl⟩
        have hbl2 : buf2.length = 64 := by rw [← hb2]; exact bufP_length hH.len (by omega)
        have htk : M ++ l.take (i + k) = M ++ l.take i ++ c := by rw [← hc, List.append_assoc, ← List.take_add]
        have hlc := hH.length
        have hm : (N : Int).tmod 64 = (r : Int) := by rw [Int.tmod_eq_emod_of_nonneg (by omega)]; omega
        have hsl := slice_from64 wr.drew b 8 r hr64
        have hpos : (0 : Int) < (n : Int) := by omega
        have HNE := Lib.hid hN
        have HNR := Lib.hid hr
        have HKE := Lib.hid hk
        have HCE := Lib.hid hc
        have HCL := Lib.hid hcl
        have HB2 := Lib.hid hb2
        have HBL2 := Lib.hid hbl2
        have HTK := Lib.hid htk
        have HN' := Lib.hid hn'
        have HNL := Lib.hid hn
        have HHR := Lib.hid hH
        have HSO := Lib.hid hS
        have HML : Hid ((M ++ l.take i).length = N) := Lib.hid (hml.trans hN)
        have HCR := Lib.hid hC
        have HRG := Lib.hid hrg
        have HGB := Lib.hid hgb
        have HGL := Lib.hid hgl
        have HTC := Lib.hid htc
        have hNb : N + k ≤ 1000000000000000 := by omega
        have hkb : (k : Int) ≤ (n : Int) := by omega
        have hnb : (n : Int) ≤ 9223372036854775807 := by omega
        clear hN hr hk hc hcl hb2 hbl2 htk hn' hn hH hS hml hC hrg hgb hgl htr
        go_wp2_with fail
        go_still_tail 10, (by kernel_rfl)
        obtain ⟨W1, hW1⟩ : ∃ W1 : World, { wr with drawn := wr.drawn + 1 } = W1 := ⟨_, rfl⟩
        have hq : ∀ j : Nat, W1.heap[j]? = wr.heap[j]? := fun j => by rw [← hW1]
        have hcw : Chg (fun j => j = b) wr W1 := by rw [← hW1]; exact ⟨rfl, rfl, rfl, Nat.le_refl _, fun _ _ _ => rfl⟩
        rw [hW1]
        clear hW1 hsl hm hlc
        have hh1 := HHR.out.kept (hq b)
        have hfit : 8 + r + (bvs c).length ≤ (hcells v buf N).toArray.size := by rw [List.size_toArray, hcells_length HHR.out.len, bvs_length, HCL.out]; omega
        have hsrc : ∀ j u, (bvs c)[j]? = some u → W1.cell? ((⟨g, off, none⟩ : Addr).add j) = some u := by
          intro j u hu
          have hadd : (⟨g, off, none⟩ : Addr).add j = ⟨g, off + j, none⟩ := by unfold Addr.add; split <;> simp_all
          rw [hadd, World.cell?_of_block (hq g)]
          refine HRG.out j u ?_
          rw [← HCE.out, bvs_getElem?, List.getElem?_take] at hu
          split at hu
          · rw [bvs_getElem?]; exact hu
          · cases hu
        refine wpList_copy_own rfl (.tmp 28) (.tmp 29) 36 36 rfl 5 Tryd.underlying36 sizeU8i b (8 + r) (64 - r) (64 - r) ⟨g, off, none⟩ n tc rfl rfl (hcells v buf N).toArray _ hh1.hb (bvs c) (by rw [bvs_length, HCL.out]; exact HKE.out.symm) hsrc hfit bvs_oneCell ?_
        have esp := hcells_splice v N HHR.out.len (c := c) (r := r) (by rw [HCL.out]; omega)
        have hh2 := hh1.splice (c := c) (r := r) (by rw [HCL.out]; omega)
        have hcs : Chg (fun j => j = b) W1 (W1.setRow b (hcells v (bufP buf r c) N).toArray) := Chg.setRow b _ rfl
        rw [esp]
        obtain ⟨Wc, hWc⟩ : ∃ Wc, W1.setRow b (hcells v (bufP buf r c) N).toArray = Wc := ⟨_, rfl⟩
        rw [hWc] at hh2 hcs ⊢
        rw [HB2.out] at hh2
        have hc2 := (HCR.out.trans (hcw.trans hcs (fun _ h => .inl h)) (fun _ h => .inl h))
        have hrg2 : Wc.rangeAt g off (bvs (l.drop i)) := fun j u hu => ((hcw.trans hcs (fun _ h => .inl h)).cell (p := ⟨g, off + j, none⟩) HGB.out (HRG.out j u hu))
        have hlc2 := hh2.length
        have hfr2 := hh2.frozen
        have hgl2 : g < Wc.heap.size := Nat.lt_of_lt_of_le HGL.out (hcw.trans hcs (fun _ h => .inl h)).size
        have hch3 := Chg.setCell (F := fun j => j = b) (a := ⟨b, 72, none⟩) Wc (.int .i64 ((N : Int) + (k : Int))) rfl
        have hh3 : HashAt (Wc.setCell ⟨b, 72, none⟩ (.int .i64 ((N : Int) + (k : Int)))) b v buf2 (N + k) := hh2.setLength (N + k)
        have hc3 := hc2.trans hch3 (fun _ h => .inl h)
        have hbt := (bytesAt_cut (F := fun j => j ≠ b) HGB.out hgl2 hrg2 HNL.out HTC.out hkn).kept hch3 (fun j h e => h e)
        rw [List.drop_drop] at hbt
        have HH1 := Lib.hid hh2
        have HH3 := Lib.hid hh3
        have HC3 := Lib.hid hc3
        have HBT := Lib.hid hbt
        rw [bvs_length, HCL.out]
        clear hWc esp hcs hcw hq hh1 hh2 hc2 hrg2 hgl2 hfit hsrc hch3 hh3 hc3 hbt
        by_cases hck : tc = k
        · have hbt := HBT.out
          rw [if_pos hck] at hbt
          have HV3 := Lib.hid hbt
          clear hbt HBT
          have hnk : n = k := by have := HTC.out; omega
          by_cases hfull : r + k = 64
          · have hmod : (((N : Int) + (k : Int)) % 64 == 0) = true := by have := HNR.out; simp; omega
            obtain ⟨v', hv'⟩ : ∃ v', procW v (loadW buf2) = v' := ⟨_, rfl⟩
            have hHS9 := HSO.out.full (c := c) (by rw [HML.out, HCL.out, HNR.out]; omega)
            rw [HML.out, HNR.out, HB2.out, hv'] at hHS9
            have HS9 := Lib.hid hHS9
            have HVE := Lib.hid hv'
            clear hHS9 hv'
            go_wp2_with fail
            obtain ⟨W2, hW2⟩ : ∃ W2, Wc.setCell ⟨b, 72, none⟩ (.int .i64 ((N : Int) + (k : Int))) = W2 := ⟨_, rfl⟩
            have hh2 := HH3.out
            have hc2 := HC3.out
            have hv2 := HV3.out
            rw [hW2] at hh2 hc2 hv2 ⊢
            have HH2 := Lib.hid hh2
            have HC2 := Lib.hid hc2
            have HV2 := Lib.hid hv2
            have hka := HK.out.chg hc2 (fun e => hb e.symm)
            have HKAT := Lib.hid hka
            have hszb : (Tryd.prog.info? 146).map (·.size) = some (bvs buf2).length := by
              have : (Tryd.prog.info? 146).map (·.size) = some 64 := by kernel_rfl
              rw [this, bvs_length, HBL2.out]
            have HSZB := Lib.hid hszb
            clear hW2 hh2 hc2 hv2 hlc2 hfr2 hmod hka hszb HH3 HC3 HV3
            refine wp_region_noPanic ?_
            refine wp_region_G [13] (fun w' => Below W2.heap.size W2 w') (by kernel_rfl) ?_
            have hS0 : (fun w' => Below W2.heap.size W2 w') W2.drew := (Below.refl _ _).drew
            refine wpAnyG_take (i := 0) (v := ?v1) rfl (by kernel_rfl) (by kernel_rfl) (by kernel_rfl) (by kernel_rfl) (fun _ _ _ h => h) (yieldsIf_run rfl (fun w' hw' => ?y1)) hS0 ?_
            case y1 => first | (go_simp; rfl) | (go_simp; done) | rfl
            simp only [Act.put, List.setIfInBounds_toArray, List.set_cons_zero, List.set_cons_succ]
            refine wpAnyG_take (i := 1) (v := ?v2) rfl (by kernel_rfl) (by kernel_rfl) (by kernel_rfl) (by kernel_rfl) (fun _ _ _ h => h) (yieldsIf_run rfl (fun w' hw' => ?y2)) hS0 ?_
            case y2 => first | (go_simp; rfl) | (go_simp; done) | rfl
            simp only [Act.put, List.setIfInBounds_toArray, List.set_cons_zero, List.set_cons_succ]
            refine wpAnyG_take (i := 2) (v := ?v3) rfl (by kernel_rfl) (by kernel_rfl) (by kernel_rfl) (by kernel_rfl) (fun _ _ _ h => h) (yieldsIf_run rfl (fun w' hw' => ?y3)) hS0 ?_
            case y3 => first | (go_simp; rfl) | (go_simp; done) | rfl
            simp only [Act.put, List.setIfInBounds_toArray, List.set_cons_zero, List.set_cons_succ]
            refine wpAnyG_take (i := 3) (v := ?v4) rfl (by kernel_rfl) (by kernel_rfl) (by kernel_rfl) (by kernel_rfl) (fun _ _ _ h => h) (yieldsIf_run rfl (fun w' hw' => ?y4)) hS0 ?_
            case y4 => first | (go_simp; rfl) | (go_simp; done) | rfl
            simp only [Act.put, List.setIfInBounds_toArray, List.set_cons_zero, List.set_cons_succ]
            refine wpAnyG_take (i := 4) (v := ?v5) rfl (by kernel_rfl) (by kernel_rfl) (by kernel_rfl) (by kernel_rfl) (fun _ _ _ h => h) (yieldsIf_run rfl (fun w' hw' => ?y5)) hS0 ?_
            case y5 => (obtain ⟨e0, e1, e2, e3, e4, e5, e6, e7⟩ := (HH2.out.kept (hw'.block _ HH2.out.lt)).state; clear hw'; first | (go_simp; rfl) | (go_simp; done))
            simp only [Act.put, List.setIfInBounds_toArray, List.set_cons_zero, List.set_cons_succ]
            refine wpAnyG_take (i := 5) (v := ?v6) rfl (by kernel_rfl) (by kernel_rfl) (by kernel_rfl) (by kernel_rfl) (fun _ _ _ h => h) (yieldsIf_run rfl (fun w' hw' => ?y6)) hS0 ?_
            case y6 => first | (go_simp; rfl) | (go_simp; done) | rfl
            simp only [Act.put, List.setIfInBounds_toArray, List.set_cons_zero, List.set_cons_succ]
            refine wpAnyG_take (i := 6) (v := ?v7) rfl (by kernel_rfl) (by kernel_rfl) (by kernel_rfl) (by kernel_rfl) (fun _ _ _ h => h) (yieldsIf_run rfl (fun w' hw' => ?y7)) hS0 ?_
            case y7 => first | (go_simp; rfl) | (go_simp; done) | rfl
            simp only [Act.put, List.setIfInBounds_toArray, List.set_cons_zero, List.set_cons_succ]
            refine wpAnyG_take (i := 7) (v := ?v8) rfl (by kernel_rfl) (by kernel_rfl) (by kernel_rfl) (by kernel_rfl) (fun _ _ _ h => h) (yieldsIf_run rfl (fun w' hw' => ?y8)) hS0 ?_
            case y8 => first | (go_simp; rfl) | (go_simp; done) | rfl
            simp only [Act.put, List.setIfInBounds_toArray, List.set_cons_zero, List.set_cons_succ]
            refine wpAnyG_take (i := 8) (v := .agg (bvs buf2).toArray) rfl (by kernel_rfl) (by kernel_rfl) (by kernel_rfl) (by kernel_rfl) (fun _ _ _ h => h) (yieldsIf_run rfl (fun w' hw' => ?y9)) hS0 ?_
            case y9 => exact run_load_op 146 (.tmp 55) b 8 (bvs buf2) _ rfl rfl ((HH2.out.kept (hw'.block _ HH2.out.lt)).range) Tryd.underlying146 rfl HSZB.out
            simp only [Act.put, List.setIfInBounds_toArray, List.set_cons_zero, List.set_cons_succ]
            refine wpAnyG_do (i := 9) (by kernel_rfl) rfl rfl (fun K hK => ?_)
            go_simp
            refine (load_any buf2 HBL2.out W2.drew).mono ?_
            rintro e w3 ⟨rfl, hb3⟩
            have k3 : Below W2.heap.size W2 w3 := (Below.refl _ W2).drew.trans hb3
            refine hK _ _ k3 ?_
            clear hK K
            try simp only [Act.put, List.setIfInBounds_toArray, List.set_cons_zero, List.set_cons_succ]
            refine wpAnyG_do (i := 10) (by kernel_rfl) rfl rfl (fun K hK => ?_)
            go_simp
            have hpr : Calls Tryd.prog 80 #[Value.agg #[.int .u32 (wN v.a), .int .u32 (wN v.b), .int .u32 (wN v.c), .int .u32 (wN v.d), .int .u32 (wN v.e), .int .u32 (wN v.f), .int .u32 (wN v.g), .int .u32 (wN v.i)], .agg (wvs (loadW buf2)).toArray] w3 (fun e w' => e = .returned (.agg #[.int .u32 (wN (procW v (loadW buf2)).a), .int .u32 (wN (procW v (loadW buf2)).b), .int .u32 (wN (procW v (loadW buf2)).c), .int .u32 (wN (procW v (loadW buf2)).d), .int .u32 (wN (procW v (loadW buf2)).e), .int .u32 (wN (procW v (loadW buf2)).f), .int .u32 (wN (procW v (loadW buf2)).g), .int .u32 (wN (procW v (loadW buf2)).i)]) ∧ Below w3.heap.size w3 w') := process_any v (loadW buf2) (ldAt_length _ _) w3 (HKAT.out.below k3 HKAT.out.size)
            refine hpr.mono ?_
            rintro e w4 ⟨rfl, hb4⟩
            have k4 : Below W2.heap.size W2 w4 := k3.trans (hb4.mono k3.size)
            refine hK _ _ k4 ?_
            clear hK K
            try simp only [Act.put, List.setIfInBounds_toArray, List.set_cons_zero, List.set_cons_succ]
            refine wpAnyG_pure (i := 11) (v := ?v10) rfl (by kernel_rfl) (by kernel_rfl) (by kernel_rfl) (by kernel_rfl) (fun _ _ _ h => h) (yieldsIf_run rfl (fun w' hw' => ?y10)) (fun _ => k4) ?_
            case y10 => first | (go_simp; rfl) | (go_simp; done) | rfl
            simp only [Act.put, List.setIfInBounds_toArray, List.set_cons_zero, List.set_cons_succ]
            refine wpAnyG_pure (i := 12) (v := ?v11) rfl (by kernel_rfl) (by kernel_rfl) (by kernel_rfl) (by kernel_rfl) (fun _ _ _ h => h) (yieldsIf_run rfl (fun w' hw' => ?y11)) (fun _ => k4) ?_
            case y11 => first | (go_simp; rfl) | (go_simp; done) | rfl
            simp only [Act.put, List.setIfInBounds_toArray, List.set_cons_zero, List.set_cons_succ]
            refine wpAnyG_fin (i := 13) (by kernel_rfl) rfl rfl (by kernel_rfl) (fun K hK => ?_)
            have hh4 := HH2.out.kept (k4.block _ HH2.out.lt)
            have ef := hh4.frozen
            obtain ⟨e0, e1, e2, e3, e4, e5, e6, e7⟩ := hh4.state
            go_simp
            refine hK _ _ ?_
            clear hK K
            try simp only [Act.put, List.setIfInBounds_toArray, List.set_cons_zero, List.set_cons_succ]
            refine wpAnyG_done (by kernel_rfl) ?_ _
            refine NoPanic.normal ?_
            rw [HVE.out]
            have hh5 := hh4.setState v'
            have hg5 := grown_states w4 b (.int .u32 (wN v'.a)) (.int .u32 (wN v'.b)) (.int .u32 (wN v'.c)) (.int .u32 (wN v'.d)) (.int .u32 (wN v'.e)) (.int .u32 (wN v'.f)) (.int .u32 (wN v'.g)) (.int .u32 (wN v'.i))
            obtain ⟨W5, hW5⟩ : ∃ W5, (((((((w4.setCell ⟨b, 0, none⟩ (.int .u32 (wN v'.a))).setCell ⟨b, 1, none⟩ (.int .u32 (wN v'.b))).setCell ⟨b, 2, none⟩ (.int .u32 (wN v'.c))).setCell ⟨b, 3, none⟩ (.int .u32 (wN v'.d))).setCell ⟨b, 4, none⟩ (.int .u32 (wN v'.e))).setCell ⟨b, 5, none⟩ (.int .u32 (wN v'.f))).setCell ⟨b, 6, none⟩ (.int .u32 (wN v'.g))).setCell ⟨b, 7, none⟩ (.int .u32 (wN v'.i)) = W5 := ⟨_, rfl⟩
            rw [hW5] at hh5 hg5 ⊢
            have hc5 : Chg (fun j => j = b) W2 W5 := (Chg.of_below k4).trans (Chg.grown (F := fun j => j = b) hg5 (fun j e => .inl (Option.some.inj e).symm)) (fun _ h => .inl h)
            have hc9 := HC2.out.trans hc5 (fun _ h => .inl h)
            have HH9 := Lib.hid hh5
            have HC9 := Lib.hid hc9
            have HV9 := Lib.hid (HV2.out.kept hc5 (fun j h e => h e))
            clear hW5 hh5 hg5 hc5 hc9 hh4 ef e0 e1 e2 e3 e4 e5 e6 e7 k3 k4 hS0
            go_wp2_with fail
            go_roundw
            case rel => exact ⟨i + k, _, _, by have := HN'.out; omega, by rw [← Nat.add_assoc, HNE.out]; exact HH9.out, by rw [HTK.out]; exact HS9.out, by first | exact HV9.out | (have h9 := HV9.out; rw [show n - k = 0 by omega, show tc - k = 0 by omega] at h9; exact h9), HC9.out⟩
            case measure => simp; omega
          · have hmod : (((N : Int) + (k : Int)) % 64 == 0) = false := by have := HNR.out; simp; omega
            have hHS9 := HSO.out.part (c := c) (by rw [HML.out, HCL.out, HNR.out]; omega)
            rw [HML.out, HNR.out, HB2.out] at hHS9
            have HS9 := Lib.hid hHS9
            have HC9 := HC3
            clear hHS9
            go_wp2_with fail
            go_roundw
            case rel => exact ⟨i + k, _, _, by have := HN'.out; omega, by rw [← Nat.add_assoc, HNE.out]; exact HH3.out, by rw [HTK.out]; exact HS9.out, by first | exact HV3.out | (have h9 := HV3.out; rw [show n - k = 0 by omega, show tc - k = 0 by omega] at h9; exact h9), HC9.out⟩
            case measure => simp; omega
        · have hbt := HBT.out
          rw [if_neg hck] at hbt
          have HV3 := Lib.hid hbt
          clear hbt HBT
          by_cases hfull : r + k = 64
          · have hmod : (((N : Int) + (k : Int)) % 64 == 0) = true := by have := HNR.out; simp; omega
            obtain ⟨v', hv'⟩ : ∃ v', procW v (loadW buf2) = v' := ⟨_, rfl⟩
            have hHS9 := HSO.out.full (c := c) (by rw [HML.out, HCL.out, HNR.out]; omega)
            rw [HML.out, HNR.out, HB2.out, hv'] at hHS9
            have HS9 := Lib.hid hHS9
            have HVE := Lib.hid hv'
            clear hHS9 hv'
            go_wp2_with fail
            obtain ⟨W2, hW2⟩ : ∃ W2, Wc.setCell ⟨b, 72, none⟩ (.int .i64 ((N : Int) + (k : Int))) = W2 := ⟨_, rfl⟩
            have hh2 := HH3.out
            have hc2 := HC3.out
            have hv2 := HV3.out
            rw [hW2] at hh2 hc2 hv2 ⊢
            have HH2 := Lib.hid hh2
            have HC2 := Lib.hid hc2
            have HV2 := Lib.hid hv2
            have hka := HK.out.chg hc2 (fun e => hb e.symm)
            have HKAT := Lib.hid hka
            have hszb : (Tryd.prog.info? 146).map (·.size) = some (bvs buf2).length := by
              have : (Tryd.prog.info? 146).map (·.size) = some 64 := by kernel_rfl
              rw [this, bvs_length, HBL2.out]
            have HSZB := Lib.hid hszb
            clear hW2 hh2 hc2 hv2 hlc2 hfr2 hmod hka hszb HH3 HC3 HV3
            refine wp_region_noPanic ?_
            refine wp_region_G [13] (fun w' => Below W2.heap.size W2 w') (by kernel_rfl) ?_
            have hS0 : (fun w' => Below W2.heap.size W2 w') W2.drew := (Below.refl _ _).drew
            refine wpAnyG_take (i := 0) (v := ?v1) rfl (by kernel_rfl) (by kernel_rfl) (by kernel_rfl) (by kernel_rfl) (fun _ _ _ h => h) (yieldsIf_run rfl (fun w' hw' => ?y1)) hS0 ?_
            case y1 => first | (go_simp; rfl) | (go_simp; done) | rfl
            simp only [Act.put, List.setIfInBounds_toArray, List.set_cons_zero, List.set_cons_succ]
            refine wpAnyG_take (i := 1) (v := ?v2) rfl (by kernel_rfl) (by kernel_rfl) (by kernel_rfl) (by kernel_rfl) (fun _ _ _ h => h) (yieldsIf_run rfl (fun w' hw' => ?y2)) hS0 ?_
            case y2 => first | (go_simp; rfl) | (go_simp; done) | rfl
            simp only [Act.put, List.setIfInBounds_toArray, List.set_cons_zero, List.set_cons_succ]
            refine wpAnyG_take (i := 2) (v := ?v3) rfl (by kernel_rfl) (by kernel_rfl) (by kernel_rfl) (by kernel_rfl) (fun _ _ _ h => h) (yieldsIf_run rfl (fun w' hw' => ?y3)) hS0 ?_
            case y3 => first | (go_simp; rfl) | (go_simp; done) | rfl
            simp only [Act.put, List.setIfInBounds_toArray, List.set_cons_zero, List.set_cons_succ]
            refine wpAnyG_take (i := 3) (v := ?v4) rfl (by kernel_rfl) (by kernel_rfl) (by kernel_rfl) (by kernel_rfl) (fun _ _ _ h => h) (yieldsIf_run rfl (fun w' hw' => ?y4)) hS0 ?_
            case y4 => first | (go_simp; rfl) | (go_simp; done) | rfl
            simp only [Act.put, List.setIfInBounds_toArray, List.set_cons_zero, List.set_cons_succ]
            refine wpAnyG_take (i := 4) (v := ?v5) rfl (by kernel_rfl) (by kernel_rfl) (by kernel_rfl) (by kernel_rfl) (fun _ _ _ h => h) (yieldsIf_run rfl (fun w' hw' => ?y5)) hS0 ?_
            case y5 => (obtain ⟨e0, e1, e2, e3, e4, e5, e6, e7⟩ := (HH2.out.kept (hw'.block _ HH2.out.lt)).state; clear hw'; first | (go_simp; rfl) | (go_simp; done))
            simp only [Act.put, List.setIfInBounds_toArray, List.set_cons_zero, List.set_cons_succ]
            refine wpAnyG_take (i := 5) (v := ?v6) rfl (by kernel_rfl) (by kernel_rfl) (by kernel_rfl) (by kernel_rfl) (fun _ _ _ h => h) (yieldsIf_run rfl (fun w' hw' => ?y6)) hS0 ?_
            case y6 => first | (go_simp; rfl) | (go_simp; done) | rfl
            simp only [Act.put, List.setIfInBounds_toArray, List.set_cons_zero, List.set_cons_succ]
            refine wpAnyG_take (i := 6) (v := ?v7) rfl (by kernel_rfl) (by kernel_rfl) (by kernel_rfl) (by kernel_rfl) (fun _ _ _ h => h) (yieldsIf_run rfl (fun w' hw' => ?y7)) hS0 ?_
            case y7 => first | (go_simp; rfl) | (go_simp; done) | rfl
            simp only [Act.put, List.setIfInBounds_toArray, List.set_cons_zero, List.set_cons_succ]
            refine wpAnyG_take (i := 7) (v := ?v8) rfl (by kernel_rfl) (by kernel_rfl) (by kernel_rfl) (by kernel_rfl) (fun _ _ _ h => h) (yieldsIf_run rfl (fun w' hw' => ?y8)) hS0 ?_
            case y8 => first | (go_simp; rfl) | (go_simp; done) | rfl
            simp only [Act.put, List.setIfInBounds_toArray, List.set_cons_zero, List.set_cons_succ]
            refine wpAnyG_take (i := 8) (v := .agg (bvs buf2).toArray) rfl (by kernel_rfl) (by kernel_rfl) (by kernel_rfl) (by kernel_rfl) (fun _ _ _ h => h) (yieldsIf_run rfl (fun w' hw' => ?y9)) hS0 ?_
            case y9 => exact run_load_op 146 (.tmp 55) b 8 (bvs buf2) _ rfl rfl ((HH2.out.kept (hw'.block _ HH2.out.lt)).range) Tryd.underlying146 rfl HSZB.out
            simp only [Act.put, List.setIfInBounds_toArray, List.set_cons_zero, List.set_cons_succ]
            refine wpAnyG_do (i := 9) (by kernel_rfl) rfl rfl (fun K hK => ?_)
            go_simp
            refine (load_any buf2 HBL2.out W2.drew).mono ?_
            rintro e w3 ⟨rfl, hb3⟩
            have k3 : Below W2.heap.size W2 w3 := (Below.refl _ W2).drew.trans hb3
            refine hK _ _ k3 ?_
            clear hK K
            try simp only [Act.put, List.setIfInBounds_toArray, List.set_cons_zero, List.set_cons_succ]
            refine wpAnyG_do (i := 10) (by kernel_rfl) rfl rfl (fun K hK => ?_)
            go_simp
            have hpr : Calls Tryd.prog 80 #[Value.agg #[.int .u32 (wN v.a), .int .u32 (wN v.b), .int .u32 (wN v.c), .int .u32 (wN v.d), .int .u32 (wN v.e), .int .u32 (wN v.f), .int .u32 (wN v.g), .int .u32 (wN v.i)], .agg (wvs (loadW buf2)).toArray] w3 (fun e w' => e = .returned (.agg #[.int .u32 (wN (procW v (loadW buf2)).a), .int .u32 (wN (procW v (loadW buf2)).b), .int .u32 (wN (procW v (loadW buf2)).c), .int .u32 (wN (procW v (loadW buf2)).d), .int .u32 (wN (procW v (loadW buf2)).e), .int .u32 (wN (procW v (loadW buf2)).f), .int .u32 (wN (procW v (loadW buf2)).g), .int .u32 (wN (procW v (loadW buf2)).i)]) ∧ Below w3.heap.size w3 w') := process_any v (loadW buf2) (ldAt_length _ _) w3 (HKAT.out.below k3 HKAT.out.size)
            refine hpr.mono ?_
            rintro e w4 ⟨rfl, hb4⟩
            have k4 : Below W2.heap.size W2 w4 := k3.trans (hb4.mono k3.size)
            refine hK _ _ k4 ?_
            clear hK K
            try simp only [Act.put, List.setIfInBounds_toArray, List.set_cons_zero, List.set_cons_succ]
            refine wpAnyG_pure (i := 11) (v := ?v10) rfl (by kernel_rfl) (by kernel_rfl) (by kernel_rfl) (by kernel_rfl) (fun _ _ _ h => h) (yieldsIf_run rfl (fun w' hw' => ?y10)) (fun _ => k4) ?_
            case y10 => first | (go_simp; rfl) | (go_simp; done) | rfl
            simp only [Act.put, List.setIfInBounds_toArray, List.set_cons_zero, List.set_cons_succ]
            refine wpAnyG_pure (i := 12) (v := ?v11) rfl (by kernel_rfl) (by kernel_rfl) (by kernel_rfl) (by kernel_rfl) (fun _ _ _ h => h) (yieldsIf_run rfl (fun w' hw' => ?y11)) (fun _ => k4) ?_
            case y11 => first | (go_simp; rfl) | (go_simp; done) | rfl
            simp only [Act.put, List.setIfInBounds_toArray, List.set_cons_zero, List.set_cons_succ]
            refine wpAnyG_fin (i := 13) (by kernel_rfl) rfl rfl (by kernel_rfl) (fun K hK => ?_)
            have hh4 := HH2.out.kept (k4.block _ HH2.out.lt)
            have ef := hh4.frozen
            obtain ⟨e0, e1, e2, e3, e4, e5, e6, e7⟩ := hh4.state
            go_simp
            refine hK _ _ ?_
            clear hK K
            try simp only [Act.put, List.setIfInBounds_toArray, List.set_cons_zero, List.set_cons_succ]
            refine wpAnyG_done (by kernel_rfl) ?_ _
            refine NoPanic.normal ?_
            rw [HVE.out]
            have hh5 := hh4.setState v'
            have hg5 := grown_states w4 b (.int .u32 (wN v'.a)) (.int .u32 (wN v'.b)) (.int .u32 (wN v'.c)) (.int .u32 (wN v'.d)) (.int .u32 (wN v'.e)) (.int .u32 (wN v'.f)) (.int .u32 (wN v'.g)) (.int .u32 (wN v'.i))
            obtain ⟨W5, hW5⟩ : ∃ W5, (((((((w4.setCell ⟨b, 0, none⟩ (.int .u32 (wN v'.a))).setCell ⟨b, 1, none⟩ (.int .u32 (wN v'.b))).setCell ⟨b, 2, none⟩ (.int .u32 (wN v'.c))).setCell ⟨b, 3, none⟩ (.int .u32 (wN v'.d))).setCell ⟨b, 4, none⟩ (.int .u32 (wN v'.e))).setCell ⟨b, 5, none⟩ (.int .u32 (wN v'.f))).setCell ⟨b, 6, none⟩ (.int .u32 (wN v'.g))).setCell ⟨b, 7, none⟩ (.int .u32 (wN v'.i)) = W5 := ⟨_, rfl⟩
            rw [hW5] at hh5 hg5 ⊢
            have hc5 : Chg (fun j => j = b) W2 W5 := (Chg.of_below k4).trans (Chg.grown (F := fun j => j = b) hg5 (fun j e => .inl (Option.some.inj e).symm)) (fun _ h => .inl h)
            have hc9 := HC2.out.trans hc5 (fun _ h => .inl h)
            have HH9 := Lib.hid hh5
            have HC9 := Lib.hid hc9
            have HV9 := Lib.hid (HV2.out.kept hc5 (fun j h e => h e))
            clear hW5 hh5 hg5 hc5 hc9 hh4 ef e0 e1 e2 e3 e4 e5 e6 e7 k3 k4 hS0
            go_wp2_with fail
            go_roundw
            case rel => exact ⟨i + k, _, _, by have := HN'.out; omega, by rw [← Nat.add_assoc, HNE.out]; exact HH9.out, by rw [HTK.out]; exact HS9.out, by first | exact HV9.out | (have h9 := HV9.out; rw [show n - k = 0 by omega, show tc - k = 0 by omega] at h9; exact h9), HC9.out⟩
            case measure => simp; omega
          · have hmod : (((N : Int) + (k : Int)) % 64 == 0) = false := by have := HNR.out; simp; omega
            have hHS9 := HSO.out.part (c := c) (by rw [HML.out, HCL.out, HNR.out]; omega)
            rw [HML.out, HNR.out, HB2.out] at hHS9
            have HS9 := Lib.hid hHS9
            have HC9 := HC3
            clear hHS9
            go_wp2_with fail
            go_roundw
            case rel => exact ⟨i + k, _, _, by have := HN'.out; omega, by rw [← Nat.add_assoc, HNE.out]; exact HH3.out, by rw [HTK.out]; exact HS9.out, by first | exact HV3.out | (have h9 := HV3.out; rw [show n - k = 0 by omega, show tc - k = 0 by omega] at h9; exact h9), HC9.out⟩
            case measure => simp; omega
      · obtain rfl : i = l.length := by omega
        have hV2 : ∃ ta tc, u1 = Value.slice ta 0 tc := by
          obtain ⟨ta, tc, e, _⟩ := hV
          exact ⟨ta, tc, by rw [e]; simp⟩
        obtain ⟨ta, tc, rfl⟩ := hV2
        rw [List.take_length] at hS
        have HHe := Lib.hid hH
        have HSe := Lib.hid hS
        have HCe := Lib.hid hC
        clear hH hS hC hV hml
        go_wp2_with fail
        go_ret
        exact ⟨rfl, v, buf, by rw [List.length_append]; exact HHe.out, HSe.out, HCe.out⟩


  · have hm0 : ((M.length : Int) == 0) = false := by simpa using hM
    have HH0 := Lib.hid hH
    have HS0 := Lib.hid (hS hM)
    have HV0 := Lib.hid (show BytesAt w (fun g => g ≠ b) (.slice sa l.length sc) l from ⟨sa, sc, rfl, hsc, hsr⟩)
    have HC0 := Lib.hid (Chg.refl (fun k => k = b) w)
    have HK := Lib.hid hK
    clear hH hS hsr hK hst hfr
    go_enter Tryd.func77, Tryd.ntmps77
    go_wp2_with fail
    clear hlc hm0 hM
    go_loopw [1] (fun t wr => ∃ (i : Nat) (v : W8) (buf : List UInt8), i ≤ l.length ∧ HashAt wr b v buf (M.length + i) ∧ HS v buf (M ++ l.take i) ∧ BytesAt wr (fun g => g ≠ b) t (l.drop i) ∧ Chg (fun k => k = b) w wr)
      (fun t _ => match t with | .slice _ n _ => n | _ => 0)
    case atStart => exact ⟨0, _, buf0, Nat.zero_le _, HH0.out, by rw [List.take_zero, List.append_nil]; exact HS0.out, HV0.out, HC0.out⟩
    case round =>
      obtain ⟨i, v, buf, hi, hH, hS, hV, hC⟩ := hrel
      have hml : (M ++ l.take i).length = M.length + (l.take i).length := List.length_append
      rw [List.length_take, Nat.min_eq_left hi] at hml
      by_cases hlt : i < l.length
      · obtain ⟨ta, tc, rfl, htc, htr⟩ := hV
        obtain ⟨g, off, rfl, hgb, hgl, hrg⟩ := htr (by intro e; have := congrArg List.length e; simp at this; omega)
        obtain ⟨n, hn⟩ : ∃ n, (l.drop i).length = n := ⟨_, rfl⟩
        rw [hn] at htc ⊢
        obtain ⟨N, hN⟩ : ∃ N, M.length + i = N := ⟨_, rfl⟩
        rw [hN] at hH
        have hn' : n = l.length - i := by rw [← hn]; simp
        obtain ⟨r, hr⟩ : ∃ r, N % 64 = r := ⟨_, rfl⟩
        obtain ⟨k, hk⟩ : ∃ k, Nat.min n (64 - r) = k := ⟨_, rfl⟩
        have hr64 : r < 64 := by omega
        have hk0 : min n (64 - r) = k := hk
        have hk1 : 1 ≤ k := by omega
        have hkn : k ≤ n := by omega
        have hrk : r + k ≤ 64 := by omega
        clear hk0
        obtain ⟨c, hc⟩ : ∃ c, (l.drop i).take k = c := ⟨_, rfl⟩
        have hcl : c.length = k := by rw [← hc, List.length_take, hn]; omega
        obtain ⟨buf2, hb2⟩ : ∃ buf2, bufP buf r c = buf2 := ⟨_, rfl⟩
        have hbl2 : buf2.length = 64 := by rw [← hb2]; exact bufP_length hH.len (by omega)
        have htk : M ++ l.take (i + k) = M ++ l.take i ++ c := by rw [← hc, List.append_assoc, ← List.take_add]
        have hlc := hH.length
        have hm : (N : Int).tmod 64 = (r : Int) := by rw [Int.tmod_eq_emod_of_nonneg (by omega)]; omega
        have hsl := slice_from64 wr.drew b 8 r hr64
        have hpos : (0 : Int) < (n : Int) := by omega
        have HNE := Lib.hid hN
        have HNR := Lib.hid hr
        have HKE := Lib.hid hk
        have HCE := Lib.hid hc
        have HCL := Lib.hid hcl
        have HB2 := Lib.hid hb2
        have HBL2 := Lib.hid hbl2
        have HTK := Lib.hid htk
        have HN' := Lib.hid hn'
        have HNL := Lib.hid hn
        have HHR := Lib.hid hH
        have HSO := Lib.hid hS
        have HML : Hid ((M ++ l.take i).length = N) := Lib.hid (hml.trans hN)
        have HCR := Lib.hid hC
        have HRG := Lib.hid hrg
        have HGB := Lib.hid hgb
        have HGL := Lib.hid hgl
        have HTC := Lib.hid htc
        have hNb : N + k ≤ 1000000000000000 := by omega
        have hkb : (k : Int) ≤ (n : Int) := by omega
        have hnb : (n : Int) ≤ 9223372036854775807 := by omega
        clear hN hr hk hc hcl hb2 hbl2 htk hn' hn hH hS hml hC hrg hgb hgl htr
        go_wp2_with fail
        go_still_tail 10, (by kernel_rfl)
        obtain ⟨W1, hW1⟩ : ∃ W1 : World, { wr with drawn := wr.drawn + 1 } = W1 := ⟨_, rfl⟩
        have hq : ∀ j : Nat, W1.heap[j]? = wr.heap[j]? := fun j => by rw [← hW1]
        have hcw : Chg (fun j => j = b) wr W1 := by rw [← hW1]; exact ⟨rfl, rfl, rfl, Nat.le_refl _, fun _ _ _ => rfl⟩
        rw [hW1]
        clear hW1 hsl hm hlc
        have hh1 := HHR.out.kept (hq b)
        have hfit : 8 + r + (bvs c).length ≤ (hcells v buf N).toArray.size := by rw [List.size_toArray, hcells_length HHR.out.len, bvs_length, HCL.out]; omega
        have hsrc : ∀ j u, (bvs c)[j]? = some u → W1.cell? ((⟨g, off, none⟩ : Addr).add j) = some u := by
          intro j u hu
          have hadd : (⟨g, off, none⟩ : Addr).add j = ⟨g, off + j, none⟩ := by unfold Addr.add; split <;> simp_all
          rw [hadd, World.cell?_of_block (hq g)]
          refine HRG.out j u ?_
          rw [← HCE.out, bvs_getElem?, List.getElem?_take] at hu
          split at hu
          · rw [bvs_getElem?]; exact hu
          · cases hu
        refine wpList_copy_own rfl (.tmp 28) (.tmp 29) 36 36 rfl 5 Tryd.underlying36 sizeU8i b (8 + r) (64 - r) (64 - r) ⟨g, off, none⟩ n tc rfl rfl (hcells v buf N).toArray _ hh1.hb (bvs c) (by rw [bvs_length, HCL.out]; exact HKE.out.symm) hsrc hfit bvs_oneCell ?_
        have esp := hcells_splice v N HHR.out.len (c := c) (r := r) (by rw [HCL.out]; omega)
        have hh2 := hh1.splice (c := c) (r := r) (by rw [HCL.out]; omega)
        have hcs : Chg (fun j => j = b) W1 (W1.setRow b (hcells v (bufP buf r c) N).toArray) := Chg.setRow b _ rfl
        rw [esp]
        obtain ⟨Wc, hWc⟩ : ∃ Wc, W1.setRow b (hcells v (bufP buf r c) N).toArray = Wc := ⟨_, rfl⟩
        rw [hWc] at hh2 hcs ⊢
        rw [HB2.out] at hh2
        have hc2 := (HCR.out.trans (hcw.trans hcs (fun _ h => .inl h)) (fun _ h => .inl h))
        have hrg2 : Wc.rangeAt g off (bvs (l.drop i)) := fun j u hu => ((hcw.trans hcs (fun _ h => .inl h)).cell (p := ⟨g, off + j, none⟩) HGB.out (HRG.out j u hu))
        have hlc2 := hh2.length
        have hfr2 := hh2.frozen
        have hgl2 : g < Wc.heap.size := Nat.lt_of_lt_of_le HGL.out (hcw.trans hcs (fun _ h => .inl h)).size
        have hch3 := Chg.setCell (F := fun j => j = b) (a := ⟨b, 72, none⟩) Wc (.int .i64 ((N : Int) + (k : Int))) rfl
        have hh3 : HashAt (Wc.setCell ⟨b, 72, none⟩ (.int .i64 ((N : Int) + (k : Int)))) b v buf2 (N + k) := hh2.setLength (N + k)
        have hc3 := hc2.trans hch3 (fun _ h => .inl h)
        have hbt := (bytesAt_cut (F := fun j => j ≠ b) HGB.out hgl2 hrg2 HNL.out HTC.out hkn).kept hch3 (fun j h e => h e)
        rw [List.drop_drop] at hbt
        have HH1 := Lib.hid hh2
        have HH3 := Lib.hid hh3
        have HC3 := Lib.hid hc3
        have HBT := Lib.hid hbt
        rw [bvs_length, HCL.out]
        clear hWc esp hcs hcw hq hh1 hh2 hc2 hrg2 hgl2 hfit hsrc hch3 hh3 hc3 hbt
        by_cases hck : tc = k
        · have hbt := HBT.out
          rw [if_pos hck] at hbt
          have HV3 := Lib.hid hbt
          clear hbt HBT
          have hnk : n = k := by have := HTC.out; omega
          by_cases hfull : r + k = 64
          · have hmod : (((N : Int) + (k : Int)) % 64 == 0) = true := by have := HNR.out; simp; omega
            obtain ⟨v', hv'⟩ : ∃ v', procW v (loadW buf2) = v' := ⟨_, rfl⟩
            have hHS9 := HSO.out.full (c := c) (by rw [HML.out, HCL.out, HNR.out]; omega)
            rw [HML.out, HNR.out, HB2.out, hv'] at hHS9
            have HS9 := Lib.hid hHS9
            have HVE := Lib.hid hv'
            clear hHS9 hv'
            go_wp2_with fail
            obtain ⟨W2, hW2⟩ : ∃ W2, Wc.setCell ⟨b, 72, none⟩ (.int .i64 ((N : Int) + (k : Int))) = W2 := ⟨_, rfl⟩
            have hh2 := HH3.out
            have hc2 := HC3.out
            have hv2 := HV3.out
            rw [hW2] at hh2 hc2 hv2 ⊢
            have HH2 := Lib.hid hh2
            have HC2 := Lib.hid hc2
            have HV2 := Lib.hid hv2
            have hka := HK.out.chg hc2 (fun e => hb e.symm)
            have HKAT := Lib.hid hka
            have hszb : (Tryd.prog.info? 146).map (·.size) = some (bvs buf2).length := by
              have : (Tryd.prog.info? 146).map (·.size) = some 64 := by kernel_rfl
              rw [this, bvs_length, HBL2.out]
            have HSZB := Lib.hid hszb
            clear hW2 hh2 hc2 hv2 hlc2 hfr2 hmod hka hszb HH3 HC3 HV3
            refine wp_region_noPanic ?_
            refine wp_region_G [13] (fun w' => Below W2.heap.size W2 w') (by kernel_rfl) ?_
            have hS0 : (fun w' => Below W2.heap.size W2 w') W2.drew := (Below.refl _ _).drew
            refine wpAnyG_take (i := 0) (v := ?v12) rfl (by kernel_rfl) (by kernel_rfl) (by kernel_rfl) (by kernel_rfl) (fun _ _ _ h => h) (yieldsIf_run rfl (fun w' hw' => ?y12)) hS0 ?_
            case y12 => first | (go_simp; rfl) | (go_simp; done) | rfl
            simp only [Act.put, List.setIfInBounds_toArray, List.set_cons_zero, List.set_cons_succ]
            refine wpAnyG_take (i := 1) (v := ?v13) rfl (by kernel_rfl) (by kernel_rfl) (by kernel_rfl) (by kernel_rfl) (fun _ _ _ h => h) (yieldsIf_run rfl (fun w' hw' => ?y13)) hS0 ?_
            case y13 => first | (go_simp; rfl) | (go_simp; done) | rfl
            simp only [Act.put, List.setIfInBounds_toArray, List.set_cons_zero, List.set_cons_succ]
            refine wpAnyG_take (i := 2) (v := ?v14) rfl (by kernel_rfl) (by kernel_rfl) (by kernel_rfl) (by kernel_rfl) (fun _ _ _ h => h) (yieldsIf_run rfl (fun w' hw' => ?y14)) hS0 ?_
            case y14 => first | (go_simp; rfl) | (go_simp; done) | rfl
            simp only [Act.put, List.setIfInBounds_toArray, List.set_cons_zero, List.set_cons_succ]
            refine wpAnyG_take (i := 3) (v := ?v15) rfl (by kernel_rfl) (by kernel_rfl) (by kernel_rfl) (by kernel_rfl) (fun _ _ _ h => h) (yieldsIf_run rfl (fun w' hw' => ?y15)) hS0 ?_
            case y15 => first | (go_simp; rfl) | (go_simp; done) | rfl
            simp only [Act.put, List.setIfInBounds_toArray, List.set_cons_zero, List.set_cons_succ]
            refine wpAnyG_take (i := 4) (v := ?v16) rfl (by kernel_rfl) (by kernel_rfl) (by kernel_rfl) (by kernel_rfl) (fun _ _ _ h => h) (yieldsIf_run rfl (fun w' hw' => ?y16)) hS0 ?_
            case y16 => (obtain ⟨e0, e1, e2, e3, e4, e5, e6, e7⟩ := (HH2.out.kept (hw'.block _ HH2.out.lt)).state; clear hw'; first | (go_simp; rfl) | (go_simp; done))
            simp only [Act.put, List.setIfInBounds_toArray, List.set_cons_zero, List.set_cons_succ]
            refine wpAnyG_take (i := 5) (v := ?v17) rfl (by kernel_rfl) (by kernel_rfl) (by kernel_rfl) (by kernel_rfl) (fun _ _ _ h => h) (yieldsIf_run rfl (fun w' hw' => ?y17)) hS0 ?_
            case y17 => first | (go_simp; rfl) | (go_simp; done) | rfl
            simp only [Act.put, List.setIfInBounds_toArray, List.set_cons_zero, List.set_cons_succ]
            refine wpAnyG_take (i := 6) (v := ?v18) rfl (by kernel_rfl) (by kernel_rfl) (by kernel_rfl) (by kernel_rfl) (fun _ _ _ h => h) (yieldsIf_run rfl (fun w' hw' => ?y18)) hS0 ?_
            case y18 => first | (go_simp; rfl) | (go_simp; done) | rfl
            simp only [Act.put, List.setIfInBounds_toArray, List.set_cons_zero, List.set_cons_succ]
            refine wpAnyG_take (i := 7) (v := ?v19) rfl (by kernel_rfl) (by kernel_rfl) (by kernel_rfl) (by kernel_rfl) (fun _ _ _ h => h) (yieldsIf_run rfl (fun w' hw' => ?y19)) hS0 ?_
            case y19 => first | (go_simp; rfl) | (go_simp; done) | rfl
            simp only [Act.put, List.setIfInBounds_toArray, List.set_cons_zero, List.set_cons_succ]
            refine wpAnyG_take (i := 8) (v := .agg (bvs buf2).toArray) rfl (by kernel_rfl) (by kernel_rfl) (by kernel_rfl) (by kernel_rfl) (fun _ _ _ h => h) (yieldsIf_run rfl (fun w' hw' => ?y20)) hS0 ?_
            case y20 => exact run_load_op 146 (.tmp 55) b 8 (bvs buf2) _ rfl rfl ((HH2.out.kept (hw'.block _ HH2.out.lt)).range) Tryd.underlying146 rfl HSZB.out
            simp only [Act.put, List.setIfInBounds_toArray, List.set_cons_zero, List.set_cons_succ]
            refine wpAnyG_do (i := 9) (by kernel_rfl) rfl rfl (fun K hK => ?_)
            go_simp
            refine (load_any buf2 HBL2.out W2.drew).mono ?_
            rintro e w3 ⟨rfl, hb3⟩
            have k3 : Below W2.heap.size W2 w3 := (Below.refl _ W2).drew.trans hb3
            refine hK _ _ k3 ?_
            clear hK K
            try simp only [Act.put, List.setIfInBounds_toArray, List.set_cons_zero, List.set_cons_succ]
            refine wpAnyG_do (i := 10) (by kernel_rfl) rfl rfl (fun K hK => ?_)
            go_simp
            have hpr : Calls Tryd.prog 80 #[Value.agg #[.int .u32 (wN v.a), .int .u32 (wN v.b), .int .u32 (wN v.c), .int .u32 (wN v.d), .int .u32 (wN v.e), .int .u32 (wN v.f), .int .u32 (wN v.g), .int .u32 (wN v.i)], .agg (wvs (loadW buf2)).toArray] w3 (fun e w' => e = .returned (.agg #[.int .u32 (wN (procW v (loadW buf2)).a), .int .u32 (wN (procW v (loadW buf2)).b), .int .u32 (wN (procW v (loadW buf2)).c), .int .u32 (wN (procW v (loadW buf2)).d), .int .u32 (wN (procW v (loadW buf2)).e), .int .u32 (wN (procW v (loadW buf2)).f), .int .u32 (wN (procW v (loadW buf2)).g), .int .u32 (wN (procW v (loadW buf2)).i)]) ∧ Below w3.heap.size w3 w') := process_any v (loadW buf2) (ldAt_length _ _) w3 (HKAT.out.below k3 HKAT.out.size)
            refine hpr.mono ?_
            rintro e w4 ⟨rfl, hb4⟩
            have k4 : Below W2.heap.size W2 w4 := k3.trans (hb4.mono k3.size)
            refine hK _ _ k4 ?_
            clear hK K
            try simp only [Act.put, List.setIfInBounds_toArray, List.set_cons_zero, List.set_cons_succ]
            refine wpAnyG_pure (i := 11) (v := ?v21) rfl (by kernel_rfl) (by kernel_rfl) (by kernel_rfl) (by kernel_rfl) (fun _ _ _ h => h) (yieldsIf_run rfl (fun w' hw' => ?y21)) (fun _ => k4) ?_
            case y21 => first | (go_simp; rfl) | (go_simp; done) | rfl
            simp only [Act.put, List.setIfInBounds_toArray, List.set_cons_zero, List.set_cons_succ]
            refine wpAnyG_pure (i := 12) (v := ?v22) rfl (by kernel_rfl) (by kernel_rfl) (by kernel_rfl) (by kernel_rfl) (fun _ _ _ h => h) (yieldsIf_run rfl (fun w' hw' => ?y22)) (fun _ => k4) ?_
            case y22 => first | (go_simp; rfl) | (go_simp; done) | rfl
            simp only [Act.put, List.setIfInBounds_toArray, List.set_cons_zero, List.set_cons_succ]
            refine wpAnyG_fin (i := 13) (by kernel_rfl) rfl rfl (by kernel_rfl) (fun K hK => ?_)
            have hh4 := HH2.out.kept (k4.block _ HH2.out.lt)
            have ef := hh4.frozen
            obtain ⟨e0, e1, e2, e3, e4, e5, e6, e7⟩ := hh4.state
            go_simp
            refine hK _ _ ?_
            clear hK K
            try simp only [Act.put, List.setIfInBounds_toArray, List.set_cons_zero, List.set_cons_succ]
            refine wpAnyG_done (by kernel_rfl) ?_ _
            refine NoPanic.normal ?_
            rw [HVE.out]
            have hh5 := hh4.setState v'
            have hg5 := grown_states w4 b (.int .u32 (wN v'.a)) (.int .u32 (wN v'.b)) (.int .u32 (wN v'.c)) (.int .u32 (wN v'.d)) (.int .u32 (wN v'.e)) (.int .u32 (wN v'.f)) (.int .u32 (wN v'.g)) (.int .u32 (wN v'.i))
            obtain ⟨W5, hW5⟩ : ∃ W5, (((((((w4.setCell ⟨b, 0, none⟩ (.int .u32 (wN v'.a))).setCell ⟨b, 1, none⟩ (.int .u32 (wN v'.b))).setCell ⟨b, 2, none⟩ (.int .u32 (wN v'.c))).setCell ⟨b, 3, none⟩ (.int .u32 (wN v'.d))).setCell ⟨b, 4, none⟩ (.int .u32 (wN v'.e))).setCell ⟨b, 5, none⟩ (.int .u32 (wN v'.f))).setCell ⟨b, 6, none⟩ (.int .u32 (wN v'.g))).setCell ⟨b, 7, none⟩ (.int .u32 (wN v'.i)) = W5 := ⟨_, rfl⟩
            rw [hW5] at hh5 hg5 ⊢
            have hc5 : Chg (fun j => j = b) W2 W5 := (Chg.of_below k4).trans (Chg.grown (F := fun j => j = b) hg5 (fun j e => .inl (Option.some.inj e).symm)) (fun _ h => .inl h)
            have hc9 := HC2.out.trans hc5 (fun _ h => .inl h)
            have HH9 := Lib.hid hh5
            have HC9 := Lib.hid hc9
            have HV9 := Lib.hid (HV2.out.kept hc5 (fun j h e => h e))
            clear hW5 hh5 hg5 hc5 hc9 hh4 ef e0 e1 e2 e3 e4 e5 e6 e7 k3 k4 hS0
            go_wp2_with fail
            go_roundw
            case rel => exact ⟨i + k, _, _, by have := HN'.out; omega, by rw [← Nat.add_assoc, HNE.out]; exact HH9.out, by rw [HTK.out]; exact HS9.out, by first | exact HV9.out | (have h9 := HV9.out; rw [show n - k = 0 by omega, show tc - k = 0 by omega] at h9; exact h9), HC9.out⟩
            case measure => simp; omega
          · have hmod : (((N : Int) + (k : Int)) % 64 == 0) = false := by have := HNR.out; simp; omega
            have hHS9 := HSO.out.part (c := c) (by rw [HML.out, HCL.out, HNR.out]; omega)
            rw [HML.out, HNR.out, HB2.out] at hHS9
            have HS9 := Lib.hid hHS9
            have HC9 := HC3
            clear hHS9
            go_wp2_with fail
            go_roundw
            case rel => exact ⟨i + k, _, _, by have := HN'.out; omega, by rw [← Nat.add_assoc, HNE.out]; exact HH3.out, by rw [HTK.out]; exact HS9.out, by first | exact HV3.out | (have h9 := HV3.out; rw [show n - k = 0 by omega, show tc - k = 0 by omega] at h9; exact h9), HC9.out⟩
            case measure => simp; omega
        · have hbt := HBT.out
          rw [if_neg hck] at hbt
          have HV3 := Lib.hid hbt
          clear hbt HBT
          by_cases hfull : r + k = 64
          · have hmod : (((N : Int) + (k : Int)) % 64 == 0) = true := by have := HNR.out; simp; omega
            obtain ⟨v', hv'⟩ : ∃ v', procW v (loadW buf2) = v' := ⟨_, rfl⟩
            have hHS9 := HSO.out.full (c := c) (by rw [HML.out, HCL.out, HNR.out]; omega)
            rw [HML.out, HNR.out, HB2.out, hv'] at hHS9
            have HS9 := Lib.hid hHS9
            have HVE := Lib.hid hv'
            clear hHS9 hv'
            go_wp2_with fail
            obtain ⟨W2, hW2⟩ : ∃ W2, Wc.setCell ⟨b, 72, none⟩ (.int .i64 ((N : Int) + (k : Int))) = W2 := ⟨_, rfl⟩
            have hh2 := HH3.out
            have hc2 := HC3.out
            have hv2 := HV3.out
            rw [hW2] at hh2 hc2 hv2 ⊢
            have HH2 := Lib.hid hh2
            have HC2 := Lib.hid hc2
            have HV2 := Lib.hid hv2
            have hka := HK.out.chg hc2 (fun e => hb e.symm)
            have HKAT := Lib.hid hka
            have hszb : (Tryd.prog.info? 146).map (·.size) = some (bvs buf2).length := by
              have : (Tryd.prog.info? 146).map (·.size) = some 64 := by kernel_rfl
              rw [this, bvs_length, HBL2.out]
            have HSZB := Lib.hid hszb
            clear hW2 hh2 hc2 hv2 hlc2 hfr2 hmod hka hszb HH3 HC3 HV3
            refine wp_region_noPanic ?_
            refine wp_region_G [13] (fun w' => Below W2.heap.size W2 w') (by kernel_rfl) ?_
            have hS0 : (fun w' => Below W2.heap.size W2 w') W2.drew := (Below.refl _ _).drew
            refine wpAnyG_take (i := 0) (v := ?v12) rfl (by kernel_rfl) (by kernel_rfl) (by kernel_rfl) (by kernel_rfl) (fun _ _ _ h => h) (yieldsIf_run rfl (fun w' hw' => ?y12)) hS0 ?_
            case y12 => first | (go_simp; rfl) | (go_simp; done) | rfl
            simp only [Act.put, List.setIfInBounds_toArray, List.set_cons_zero, List.set_cons_succ]
            refine wpAnyG_take (i := 1) (v := ?v13) rfl (by kernel_rfl) (by kernel_rfl) (by kernel_rfl) (by kernel_rfl) (fun _ _ _ h => h) (yieldsIf_run rfl (fun w' hw' => ?y13)) hS0 ?_
            case y13 => first | (go_simp; rfl) | (go_simp; done) | rfl
            simp only [Act.put, List.setIfInBounds_toArray, List.set_cons_zero, List.set_cons_succ]
            refine wpAnyG_take (i := 2) (v := ?v14) rfl (by kernel_rfl) (by kernel_rfl) (by kernel_rfl) (by kernel_rfl) (fun _ _ _ h => h) (yieldsIf_run rfl (fun w' hw' => ?y14)) hS0 ?_
            case y14 => first | (go_simp; rfl) | (go_simp; done) | rfl
            simp only [Act.put, List.setIfInBounds_toArray, List.set_cons_zero, List.set_cons_succ]
            refine wpAnyG_take (i := 3) (v := ?v15) rfl (by kernel_rfl) (by kernel_rfl) (by kernel_rfl) (by kernel_rfl) (fun _ _ _ h => h) (yieldsIf_run rfl (fun w' hw' => ?y15)) hS0 ?_
            case y15 => first | (go_simp; rfl) | (go_simp; done) | rfl
            simp only [Act.put, List.setIfInBounds_toArray, List.set_cons_zero, List.set_cons_succ]
            refine wpAnyG_take (i := 4) (v := ?v16) rfl (by kernel_rfl) (by kernel_rfl) (by kernel_rfl) (by kernel_rfl) (fun _ _ _ h => h) (yieldsIf_run rfl (fun w' hw' => ?y16)) hS0 ?_
            case y16 => (obtain ⟨e0, e1, e2, e3, e4, e5, e6, e7⟩ := (HH2.out.kept (hw'.block _ HH2.out.lt)).state; clear hw'; first | (go_simp; rfl) | (go_simp; done))
            simp only [Act.put, List.setIfInBounds_toArray, List.set_cons_zero, List.set_cons_succ]
            refine wpAnyG_take (i := 5) (v := ?v17) rfl (by kernel_rfl) (by kernel_rfl) (by kernel_rfl) (by kernel_rfl) (fun _ _ _ h => h) (yieldsIf_run rfl (fun w' hw' => ?y17)) hS0 ?_
            case y17 => first | (go_simp; rfl) | (go_simp; done) | rfl
            simp only [Act.put, List.setIfInBounds_toArray, List.set_cons_zero, List.set_cons_succ]
            refine wpAnyG_take (i := 6) (v := ?v18) rfl (by kernel_rfl) (by kernel_rfl) (by kernel_rfl) (by kernel_rfl) (fun _ _ _ h => h) (yieldsIf_run rfl (fun w' hw' => ?y18)) hS0 ?_
            case y18 => first | (go_simp; rfl) | (go_simp; done) | rfl
            simp only [Act.put, List.setIfInBounds_toArray, List.set_cons_zero, List.set_cons_succ]
            refine wpAnyG_take (i := 7) (v := ?v19) rfl (by kernel_rfl) (by kernel_rfl) (by kernel_rfl) (by kernel_rfl) (fun _ _ _ h => h) (yieldsIf_run rfl (fun w' hw' => ?y19)) hS0 ?_
            case y19 => first | (go_simp; rfl) | (go_simp; done) | rfl
            simp only [Act.put, List.setIfInBounds_toArray, List.set_cons_zero, List.set_cons_succ]
            refine wpAnyG_take (i := 8) (v := .agg (bvs buf2).toArray) rfl (by kernel_rfl) (by kernel_rfl) (by kernel_rfl) (by kernel_rfl) (fun _ _ _ h => h) (yieldsIf_run rfl (fun w' hw' => ?y20)) hS0 ?_
            case y20 => exact run_load_op 146 (.tmp 55) b 8 (bvs buf2) _ rfl rfl ((HH2.out.kept (hw'.block _ HH2.out.lt)).range) Tryd.underlying146 rfl HSZB.out
            simp only [Act.put, List.setIfInBounds_toArray, List.set_cons_zero, List.set_cons_succ]
            refine wpAnyG_do (i := 9) (by kernel_rfl) rfl rfl (fun K hK => ?_)
            go_simp
            refine (load_any buf2 HBL2.out W2.drew).mono ?_
            rintro e w3 ⟨rfl, hb3⟩
            have k3 : Below W2.heap.size W2 w3 := (Below.refl _ W2).drew.trans hb3
            refine hK _ _ k3 ?_
            clear hK K
            try simp only [Act.put, List.setIfInBounds_toArray, List.set_cons_zero, List.set_cons_succ]
            refine wpAnyG_do (i := 10) (by kernel_rfl) rfl rfl (fun K hK => ?_)
            go_simp
            have hpr : Calls Tryd.prog 80 #[Value.agg #[.int .u32 (wN v.a), .int .u32 (wN v.b), .int .u32 (wN v.c), .int .u32 (wN v.d), .int .u32 (wN v.e), .int .u32 (wN v.f), .int .u32 (wN v.g), .int .u32 (wN v.i)], .agg (wvs (loadW buf2)).toArray] w3 (fun e w' => e = .returned (.agg #[.int .u32 (wN (procW v (loadW buf2)).a), .int .u32 (wN (procW v (loadW buf2)).b), .int .u32 (wN (procW v (loadW buf2)).c), .int .u32 (wN (procW v (loadW buf2)).d), .int .u32 (wN (procW v (loadW buf2)).e), .int .u32 (wN (procW v (loadW buf2)).f), .int .u32 (wN (procW v (loadW buf2)).g), .int .u32 (wN (procW v (loadW buf2)).i)]) ∧ Below w3.heap.size w3 w') := process_any v (loadW buf2) (ldAt_length _ _) w3 (HKAT.out.below k3 HKAT.out.size)
            refine hpr.mono ?_
            rintro e w4 ⟨rfl, hb4⟩
            have k4 : Below W2.heap.size W2 w4 := k3.trans (hb4.mono k3.size)
            refine hK _ _ k4 ?_
            clear hK K
            try simp only [Act.put, List.setIfInBounds_toArray, List.set_cons_zero, List.set_cons_succ]
            refine wpAnyG_pure (i := 11) (v := ?v21) rfl (by kernel_rfl) (by kernel_rfl) (by kernel_rfl) (by kernel_rfl) (fun _ _ _ h => h) (yieldsIf_run rfl (fun w' hw' => ?y21)) (fun _ => k4) ?_
            case y21 => first | (go_simp; rfl) | (go_simp; done) | rfl
            simp only [Act.put, List.setIfInBounds_toArray, List.set_cons_zero, List.set_cons_succ]
            refine wpAnyG_pure (i := 12) (v := ?v22) rfl (by kernel_rfl) (by kernel_rfl) (by kernel_rfl) (by kernel_rfl) (fun _ _ _ h => h) (yieldsIf_run rfl (fun w' hw' => ?y22)) (fun _ => k4) ?_
            case y22 => first | (go_simp; rfl) | (go_simp; done) | rfl
            simp only [Act.put, List.setIfInBounds_toArray, List.set_cons_zero, List.set_cons_succ]
            refine wpAnyG_fin (i := 13) (by kernel_rfl) rfl rfl (by kernel_rfl) (fun K hK => ?_)
            have hh4 := HH2.out.kept (k4.block _ HH2.out.lt)
            have ef := hh4.frozen
            obtain ⟨e0, e1, e2, e3, e4, e5, e6, e7⟩ := hh4.state
            go_simp
            refine hK _ _ ?_
            clear hK K
            try simp only [Act.put, List.setIfInBounds_toArray, List.set_cons_zero, List.set_cons_succ]
            refine wpAnyG_done (by kernel_rfl) ?_ _
            refine NoPanic.normal ?_
            rw [HVE.out]
            have hh5 := hh4.setState v'
            have hg5 := grown_states w4 b (.int .u32 (wN v'.a)) (.int .u32 (wN v'.b)) (.int .u32 (wN v'.c)) (.int .u32 (wN v'.d)) (.int .u32 (wN v'.e)) (.int .u32 (wN v'.f)) (.int .u32 (wN v'.g)) (.int .u32 (wN v'.i))
            obtain ⟨W5, hW5⟩ : ∃ W5, (((((((w4.setCell ⟨b, 0, none⟩ (.int .u32 (wN v'.a))).setCell ⟨b, 1, none⟩ (.int .u32 (wN v'.b))).setCell ⟨b, 2, none⟩ (.int .u32 (wN v'.c))).setCell ⟨b, 3, none⟩ (.int .u32 (wN v'.d))).setCell ⟨b, 4, none⟩ (.int .u32 (wN v'.e))).setCell ⟨b, 5, none⟩ (.int .u32 (wN v'.f))).setCell ⟨b, 6, none⟩ (.int .u32 (wN v'.g))).setCell ⟨b, 7, none⟩ (.int .u32 (wN v'.i)) = W5 := ⟨_, rfl⟩
            rw [hW5] at hh5 hg5 ⊢
            have hc5 : Chg (fun j => j = b) W2 W5 := (Chg.of_below k4).trans (Chg.grown (F := fun j => j = b) hg5 (fun j e => .inl (Option.some.inj e).symm)) (fun _ h => .inl h)
            have hc9 := HC2.out.trans hc5 (fun _ h => .inl h)
            have HH9 := Lib.hid hh5
            have HC9 := Lib.hid hc9
            have HV9 := Lib.hid (HV2.out.kept hc5 (fun j h e => h e))
            clear hW5 hh5 hg5 hc5 hc9 hh4 ef e0 e1 e2 e3 e4 e5 e6 e7 k3 k4 hS0
            go_wp2_with fail
            go_roundw
            case rel => exact ⟨i + k, _, _, by have := HN'.out; omega, by rw [← Nat.add_assoc, HNE.out]; exact HH9.out, by rw [HTK.out]; exact HS9.out, by first | exact HV9.out | (have h9 := HV9.out; rw [show n - k = 0 by omega, show tc - k = 0 by omega] at h9; exact h9), HC9.out⟩
            case measure => simp; omega
          · have hmod : (((N : Int) + (k : Int)) % 64 == 0) = false := by have := HNR.out; simp; omega
            have hHS9 := HSO.out.part (c := c) (by rw [HML.out, HCL.out, HNR.out]; omega)
            rw [HML.out, HNR.out, HB2.out] at hHS9
            have HS9 := Lib.hid hHS9
            have HC9 := HC3
            clear hHS9
            go_wp2_with fail
            go_roundw
            case rel => exact ⟨i + k, _, _, by have := HN'.out; omega, by rw [← Nat.add_assoc, HNE.out]; exact HH3.out, by rw [HTK.out]; exact HS9.out, by first | exact HV3.out | (have h9 := HV3.out; rw [show n - k = 0 by omega, show tc - k = 0 by omega] at h9; exact h9), HC9.out⟩
            case measure => simp; omega
      · obtain rfl : i = l.length := by omega
        have hV2 : ∃ ta tc, u1 = Value.slice ta 0 tc := by
          obtain ⟨ta, tc, e, _⟩ := hV
          exact ⟨ta, tc, by rw [e]; simp⟩
        obtain ⟨ta, tc, rfl⟩ := hV2
        rw [List.take_length] at hS
        have HHe := Lib.hid hH
        have HSe := Lib.hid hS
        have HCe := Lib.hid hC
        clear hH hS hC hV hml
        go_wp2_with fail
        go_ret
        exact ⟨rfl, v, buf, by rw [List.length_append]; exact HHe.out, HSe.out, HCe.out⟩


end Go.Proofs.YtplclpileejemaaDoor

namespace Go.Proofs.YtplclpileejemaaDoor
open Go.RowKit
set_option linter.unusedVariables false
set_option linter.unusedSimpArgs false

/-! ### the padding -/
def zN (n : Nat) : Nat := (119 - n % 64) % 64
def cntB (n j : Nat) : UInt8 := (n * 8 / 2 ^ (56 - 8 * j)).toUInt8
def padL (n : Nat) : List UInt8 := (128 :: List.replicate (zN n) 0) ++ (List.range 8).map (cntB n)
theorem padL_length (n : Nat) : (padL n).length = zN n + 9 := by simp [padL]
theorem padL_full (n : Nat) : (n + (padL n).length) % 64 = 0 := by rw [padL_length]; unfold zN; omega
def shaL (M : List UInt8) : List UInt8 := digestL (blkW w8init (M ++ padL M.length) ((M ++ padL M.length).length / 64))
@[simp] theorem shaL_length (M : List UInt8) : (shaL M).length = 32 := digestL_length _
theorem zstep (z : Nat) : (128 : UInt8) :: List.replicate (z + 1) 0 = (128 :: List.replicate z 0) ++ [0] := by rw [List.replicate_succ']; rfl
theorem range_step (n j : Nat) : (List.range (j + 1)).map (cntB n) = (List.range j).map (cntB n) ++ [cntB n j] := by rw [List.range_succ, List.map_append]; rfl

theorem sizeHash : (Tryd.prog.info? 148).map (·.size) = some 73 := by kernel_rfl
def w8zero : W8 := ⟨0, 0, 0, 0, 0, 0, 0, 0⟩
theorem zcHash : Tryd.zeroCells148 = (hcells w8zero (List.replicate 64 0) 0).toArray := by kernel_rfl
theorem oneCell_hcells (v : W8) (buf : List UInt8) (n : Nat) : (hcells v buf n).toArray.all (·.oneCell') = true := by
  rw [List.all_toArray]
  unfold hcells
  rw [List.all_append, List.all_append]
  have h1 : v.cells.all (·.oneCell') = true := by simp [W8.cells, wv, Value.oneCell']
  have h2 : (bvs buf).all (·.oneCell') = true := List.all_eq_true.2 bvs_oneCell
  rw [h1, h2]
  rfl

theorem HBD_block {w wr W2 : World} {o : Obj} {B j : Nat} (_ : Below B w wr) (h : wr.alloc o = W2) (hj : j < wr.heap.size) : W2.heap[j]? = wr.heap[j]? := by rw [← h]; exact Below.heap_alloc wr o j hj
set_option maxRecDepth 100000 in
set_option maxHeartbeats 2000000 in
theorem HashSum_any {w : World} {b : Nat} {v : W8} {buf : List UInt8} (M : List UInt8) (hH : HashAt w b v buf M.length) (hS : HS v buf M) (hK : KAt w) (hlen : M.length < 1000000000) :
    Calls Tryd.prog 78 #[.pointer (some ⟨b, 0, none⟩)] w fun e w' => e = .returned (cval (shaL M)) ∧ Below w.heap.size w w' := by
  have hlc := hH.length
  obtain ⟨N, hN⟩ : ∃ N, M.length = N := ⟨_, rfl⟩
  rw [hN] at hH hlc hlen
  obtain ⟨z, hz⟩ : ∃ z, zN N = z := ⟨_, rfl⟩
  have hz64 : z < 64 := by rw [← hz]; unfold zN; omega
  have hmz : (N + 1 + z) % 64 = 56 := by rw [← hz]; unfold zN; omega
  have hmz2 : ∀ j, j < z → (N + 1 + j) % 64 ≠ 56 := by intro j hj; rw [← hz] at hj; unfold zN at hj; omega
  obtain ⟨w1, hw1⟩ : ∃ w1, (w.alloc (.cells #[.int .u8 0, .int .u8 0, .int .u8 0, .int .u8 0, .int .u8 0, .int .u8 0, .int .u8 0, .int .u8 0, .int .u8 0, .int .u8 0, .int .u8 0, .int .u8 0, .int .u8 0, .int .u8 0, .int .u8 0, .int .u8 0, .int .u8 0, .int .u8 0, .int .u8 0, .int .u8 0, .int .u8 0, .int .u8 0, .int .u8 0, .int .u8 0, .int .u8 0, .int .u8 0, .int .u8 0, .int .u8 0, .int .u8 0, .int .u8 0, .int .u8 0, .int .u8 0] 130)).alloc (.cells #[.int .u8 128] 5) = w1 := ⟨_, rfl⟩
  have hb1 : Below w.heap.size w w1 := hw1 ▸ ((Below.refl _ w).alloc (Nat.le_refl _) _).alloc (by simp) _
  have hs1 : w1.heap.size = w.heap.size + 2 := by rw [← hw1]; simp
  have n1 : w1.heap[w.heap.size]? = some (.cells #[.int .u8 0, .int .u8 0, .int .u8 0, .int .u8 0, .int .u8 0, .int .u8 0, .int .u8 0, .int .u8 0, .int .u8 0, .int .u8 0, .int .u8 0, .int .u8 0, .int .u8 0, .int .u8 0, .int .u8 0, .int .u8 0, .int .u8 0, .int .u8 0, .int .u8 0, .int .u8 0, .int .u8 0, .int .u8 0, .int .u8 0, .int .u8 0, .int .u8 0, .int .u8 0, .int .u8 0, .int .u8 0, .int .u8 0, .int .u8 0, .int .u8 0, .int .u8 0] 130 (0, 0)) := by rw [← hw1, Below.heap_alloc _ _ _ (by simp)]; exact heap_alloc_new w _
  have n2 : w1.heap[w.heap.size + 1]? = some (.cells #[.int .u8 128] 5 (0, 0)) := by
    have := heap_alloc_new (w.alloc (.cells #[.int .u8 0, .int .u8 0, .int .u8 0, .int .u8 0, .int .u8 0, .int .u8 0, .int .u8 0, .int .u8 0, .int .u8 0, .int .u8 0, .int .u8 0, .int .u8 0, .int .u8 0, .int .u8 0, .int .u8 0, .int .u8 0, .int .u8 0, .int .u8 0, .int .u8 0, .int .u8 0, .int .u8 0, .int .u8 0, .int .u8 0, .int .u8 0, .int .u8 0, .int .u8 0, .int .u8 0, .int .u8 0, .int .u8 0, .int .u8 0, .int .u8 0, .int .u8 0] 130)) (.cells #[.int .u8 128] 5)
    rw [World.size_alloc] at this
    rw [← hw1]; exact this
  have ho1 : w1.ownsRow (w.heap.size + 1) 5 1 (.slice (some ⟨w.heap.size + 1, 0, none⟩) 1 1) 1 (bvs (128 :: List.replicate 0 0)) :=
    ⟨by decide, .inr ⟨w.heap.size + 1, 1, _, rfl, Nat.le_refl _, n2, by decide, by decide, by decide, rfl⟩⟩
  have hbl := hH.lt
  have HH := Lib.hid hH
  have HSS := Lib.hid hS
  have HK := Lib.hid hK
  have HN := Lib.hid hN
  have HZ := Lib.hid hz
  have HMZ := Lib.hid hmz
  have HMZ2 := Lib.hid hmz2
  have HW1 := Lib.hid hw1
  have HB1 := Lib.hid hb1
  have HS1 := Lib.hid hs1
  have HN1 := Lib.hid n1
  have HO1 := Lib.hid ho1
  clear hH hS hK hN hz hmz hmz2 hw1 hb1 hs1 n1 n2 ho1
  go_enter Tryd.func78, Tryd.ntmps78
  go_wp2_with fail
  rw [HW1.out]
  clear HW1 hlc
  go_loopw [3] (fun pv wr => ∃ j : Nat, j ≤ z ∧ wr.ownsRow (w.heap.size + 1) 5 1 pv (1 + j) (bvs (128 :: List.replicate j 0)) ∧ Below (w.heap.size + 1) w1 wr)
    (fun pv _ => match pv with | .slice _ n _ => 1 + z - n | _ => 0)
  case atStart => exact ⟨0, Nat.zero_le _, HO1.out, Below.refl _ _⟩
  case round =>
    obtain ⟨j, hj, hO, hB⟩ := hrel
    obtain ⟨pa, pc, rfl⟩ := ownsRow_form hO
    have hlr : wr.cell? ⟨b, 72, none⟩ = some (.int .i64 (N : Int)) := (hB.cell (p := ⟨b, 72, none⟩) (by show b < w.heap.size + 1; omega)).trans ((HB1.out.cell (p := ⟨b, 72, none⟩) hbl).trans HH.out.length)
    have HO := Lib.hid hO
    have HB := Lib.hid hB
    clear hO hB
    by_cases hlt : j < z
    · have hmod : (((N : Int) + (1 + (j : Int))) % 64 == 56) = false := by have := HMZ2.out j hlt; simp; omega
      have hmod2 : (((N : Int) + (1 + (j : Int))) % 64 != 56) = true := by have := HMZ2.out j hlt; simp; omega
      have hgn := heap_alloc_new wr (.cells #[bv 0] 5)
      have hba : Below wr.heap.size wr (wr.alloc (.cells #[bv 0] 5)) := (Below.refl _ _).alloc (Nat.le_refl _) _
      have hO3 := ownsRow_chg (G := fun _ => False) HO.out (Chg.of_below hba) (fun _ _ _ h => h)
      have hB3 := HB.out.trans (hba.mono (Nat.le_trans (by have := HS1.out; omega) HB.out.size))
      have hbs : w.heap.size + 1 ≤ (wr.alloc (.cells #[bv 0] 5)).heap.size := by have := HB.out.size; have := HS1.out; simp; omega
      have HGN := Lib.hid hgn
      have HO3 := Lib.hid hO3
      have HB3 := Lib.hid hB3
      have HBS := Lib.hid hbs
      clear hgn hba hO3 hB3 hbs
      go_wp2_with (at_builtin; refine wpList_appByte rfl (.tmp 20) (.tmp 21) rfl rfl HO3.out wr.heap.size rfl HGN.out (by omega) HBS.out ?_)
      intro g' cap' w5 hlt5 hown5 hgr5 hat5
      have hB5 : Below (w.heap.size + 1) w1 w5 := HB3.out.grown hgr5 HBS.out (fun j hj => (ownsRow_lt HO3.out j hj).1)
      have HO5 := Lib.hid hown5
      have HB5 := Lib.hid hB5
      clear hown5 hgr5 hat5 hB5
      go_wp2_with fail
      go_roundw
      case rel => exact ⟨j + 1, by omega, by rw [zstep]; exact HO5.out, HB5.out⟩
      case measure => simp; omega
    · obtain rfl : j = z := by omega
      have hmod : (((N : Int) + (1 + (j : Int))) % 64 == 56) = true := by have := HMZ.out; simp; omega
      have hmod2 : (((N : Int) + (1 + (j : Int))) % 64 != 56) = false := by have := HMZ.out; simp; omega
      go_wp2_with fail
      have HOz := HO
      have hq : wr.ownsRow (w.heap.size + 1) 5 1 (.slice pa (1 + j) pc) (1 + j + 0) (bvs ((128 :: List.replicate j 0) ++ (List.range 0).map (cntB N))) := by
        rw [List.range_zero, List.map_nil, List.append_nil]; exact HO.out
      have HQ := Lib.hid hq
      clear hq hmod hmod2 hlr HOz
      obtain ⟨wa, rfl⟩ : ∃ wa : World, wa = wr := ⟨_, rfl⟩
      go_loopw [3, 29] (fun pv i wr => ∃ q : Nat, q ≤ 8 ∧ i = .int .i64 (q : Int) ∧ wr.ownsRow (w.heap.size + 1) 5 1 pv (1 + j + q) (bvs ((128 :: List.replicate j 0) ++ (List.range q).map (cntB N))) ∧ Below (w.heap.size + 1) w1 wr)
        (fun _ i _ => 8 - (intOf i).toNat)
      case atStart => exact ⟨0, Nat.zero_le _, rfl, HQ.out, HB.out⟩
      case round =>
        obtain ⟨q, hq, rfl, hO, hB⟩ := hrel
        obtain ⟨qa, qc, rfl⟩ := ownsRow_form hO
        have HO2 := Lib.hid hO
        have HB2 := Lib.hid hB
        clear hO hB
        by_cases hq8 : q < 8
        · have hval : 8 * (N : Int) / 2 ^ (56 - 8 * q) % 256 = ((cntB N q).toNat : Int) := by
            unfold cntB
            rw [Nat.mul_comm N 8]
            have e : (2 : Int) ^ (56 - 8 * q) = ((2 ^ (56 - 8 * q) : Nat) : Int) := (Int.natCast_pow 2 _).symm
            rw [e]
            simp
          have hgn := heap_alloc_new wr (.cells #[.int .u8 (8 * (N : Int) / 2 ^ (56 - 8 * q) % 256)] 5)
          have hba : Below wr.heap.size wr (wr.alloc (.cells #[.int .u8 (8 * (N : Int) / 2 ^ (56 - 8 * q) % 256)] 5)) := (Below.refl _ _).alloc (Nat.le_refl _) _
          have hgn2 : (wr.alloc (.cells #[.int .u8 (8 * (N : Int) / 2 ^ (56 - 8 * q) % 256)] 5)).heap[wr.heap.size]? = some (.cells #[bv (cntB N q)] 5 (0, 0)) := by rw [hgn, hval]; rfl
          have hO3 := ownsRow_chg (G := fun _ => False) HO2.out (Chg.of_below hba) (fun _ _ _ h => h)
          have hB3 := HB2.out.trans (hba.mono (Nat.le_trans (by have := HS1.out; omega) HB2.out.size))
          have hbs : w.heap.size + 1 ≤ (wr.alloc (.cells #[.int .u8 (8 * (N : Int) / 2 ^ (56 - 8 * q) % 256)] 5)).heap.size := by have := HB2.out.size; have := HS1.out; simp; omega
          have HGN := Lib.hid hgn2
          have HO3 := Lib.hid hO3
          have HB3 := Lib.hid hB3
          have HBS := Lib.hid hbs
          clear hgn hba hO3 hB3 hbs hgn2 hval
          go_wp2_with (at_builtin; refine wpList_appByte rfl (.tmp 32) (.tmp 39) rfl rfl HO3.out wr.heap.size rfl HGN.out (by omega) HBS.out ?_)
          intro g' cap' w5 hlt5 hown5 hgr5 hat5
          have hB5 : Below (w.heap.size + 1) w1 w5 := HB3.out.grown hgr5 HBS.out (fun j hj => (ownsRow_lt HO3.out j hj).1)
          have HO5 := Lib.hid hown5
          have HB5 := Lib.hid hB5
          clear hown5 hgr5 hat5 hB5
          go_wp2_with fail
          go_roundw
          case rel => exact ⟨q + 1, by omega, by go_num, by rw [range_step]; have h := HO5.out; simp only [List.cons_append, List.append_assoc] at h ⊢; exact h, HB5.out⟩
          case measure => simp [intOf]; omega
        · obtain rfl : q = 8 := by omega
          have hpl : (128 :: List.replicate j 0) ++ (List.range 8).map (cntB N) = padL N := by unfold padL; rw [HZ.out]
          obtain ⟨P, hP⟩ : ∃ P, padL N = P := ⟨_, rfl⟩
          have hPl : P.length = 1 + j + 8 := by rw [← hP, padL_length, HZ.out]; omega
          have hOP := HO2.out
          rw [hpl, hP] at hOP
          obtain ⟨nP, hnP⟩ : ∃ nP, 1 + j + 8 = nP := ⟨_, rfl⟩
          rw [hnP] at hOP hPl ⊢
          have hnPb : nP ≤ 100 := by omega
          have hB0 : Below w.heap.size w wr := HB1.out.trans (HB2.out.mono (Nat.le_succ _))
          have hhr := HH.out.kept (hB0.block _ hbl)
          have hsz : (Tryd.prog.info? 148).map (·.size) = some (hcells v buf N).toArray.size := by rw [List.size_toArray, hcells_length HH.out.len]; exact sizeHash
          have hzs : (Tryd.zeroCells148 : Array Value).size = (hcells v buf N).toArray.size := by
            rw [zcHash, List.size_toArray, List.size_toArray, hcells_length HH.out.len]; exact hcells_length (by simp)
          have hnw := heap_alloc_new wr (.cells Tryd.zeroCells148 148)
          obtain ⟨W2, hW2⟩ : ∃ W2, wr.alloc (.cells (hcells v buf N).toArray 148) = W2 := ⟨_, rfl⟩
          have hb2 : Below wr.heap.size wr W2 := hW2 ▸ (Below.refl _ _).alloc (Nat.le_refl _) _
          have hs2 : W2.heap.size = wr.heap.size + 1 := by rw [← hW2, World.size_alloc]
          have hh2 : HashAt W2 wr.heap.size v buf M.length := ⟨HH.out.len, by rw [← hW2, HN.out]; exact heap_alloc_new _ _⟩
          have hOP2 := ownsRow_chg (G := fun _ => False) hOP (Chg.of_below hb2) (fun _ _ _ h => h)
          have hlP : ∀ g, (Value.slice qa nP qc).ownBlock = some g → g < wr.heap.size := fun g hg => (ownsRow_lt hOP g hg).2
          have hBP : BytesAt W2 (fun g => g ≠ wr.heap.size) (.slice qa nP qc) P := by
            have h9 := ownsRow_bytes hOP hPl
            have h8 := h9.kept (G := fun _ => False) (Chg.of_below hb2) (fun _ _ h => h)
            obtain ⟨xa, xc, e, hxc, hxr⟩ := h9
            obtain ⟨ya, yc, e2, hyc, hyr⟩ := h8
            refine ⟨ya, yc, e2, hyc, fun hne => ?_⟩
            obtain ⟨g, off, e3, h3, h4, h5⟩ := hyr hne
            obtain ⟨g', off', e3', h3', h4', h5'⟩ := hxr hne
            rw [e3'] at e
            rw [e3] at e2
            rw [e2] at e
            cases e
            exact ⟨g, off, e3, by omega, h4, h5⟩
          have hbd := hB0.trans (hb2.mono hB0.size)
          have hka := (HK.out.below hbd HK.out.size)
          have HHR := Lib.hid hhr
          have HSZ := Lib.hid hsz
          have HZS := Lib.hid hzs
          have HNW := Lib.hid hnw
          have HW2 := Lib.hid hW2
          have HH2 := Lib.hid hh2
          have HBP := Lib.hid hBP
          have HBD := Lib.hid hbd
          have HKA := Lib.hid hka
          have HS2 := Lib.hid hs2
          have HPE := Lib.hid hP
          have HPL := Lib.hid hPl
          have HB20 := Lib.hid hB0
          have hbr : w.heap.size < wr.heap.size := by have := HB2.out.size; have := HS1.out; omega
          clear hpl hP hPl hOP hnP hB0 hhr hsz hzs hnw hW2 hb2 hs2 hh2 hOP2 hlP hBP hbd hka
          go_wp2_with (first | (with_reducible refine wpList_load_row rfl 148 _ rfl b rfl 148 (hcells v buf N).toArray (0, 0) _ HHR.out.hb Tryd.underlying148 rfl HSZ.out ?_) | (with_reducible refine wpList_store_row rfl 148 _ _ rfl wr.heap.size (hcells v buf N).toArray rfl rfl 148 _ HNW.out HSZ.out HZS.out (oneCell_hcells _ _ _) ?_; rw [World.setRow_alloc_new, HW2.out]))
          refine (ShaWrite_any M P _ HH2.out (fun _ => HSS.out) HBP.out HKA.out (by have := HK.out.size; omega) (by have := HN.out; have := HPL.out; omega)).mono ?_
          rintro e w6 ⟨rfl, v6, buf6, hh6, hs6, hc6⟩
          have hst6 := hh6.state
          obtain ⟨e0, e1, e2, e3, e4, e5, e6, e7⟩ := hst6
          have hb6 : Below w.heap.size w w6 := HBD.out.trans (hc6.below (fun k e => by rw [e]; omega) HBD.out.size)
          have n16 : w6.heap[w.heap.size]? = _ := (hc6.block _ (by have := HS2.out; omega) (by omega)).trans ((HBD_block HB20.out HW2.out (by omega)).trans ((HB2.out.block _ (by omega)).trans HN1.out))
          have hv6 : digestL v6 = shaL M := by
            unfold shaL
            rw [HN.out, HPE.out, ← hs6.st]
          have hdg : Calls Tryd.prog 82 #[.agg #[.int .u32 (wN v6.a), .int .u32 (wN v6.b), .int .u32 (wN v6.c), .int .u32 (wN v6.d), .int .u32 (wN v6.e), .int .u32 (wN v6.f), .int .u32 (wN v6.g), .int .u32 (wN v6.i)]] w6 (fun e w' => e = .returned (.agg (bvs (digestL v6)).toArray) ∧ Below w6.heap.size w6 w') := digest_any v6 w6
          rw [hv6] at hdg
          have HDG := Lib.hid hdg
          have HB6 := Lib.hid hb6
          have HN6 := Lib.hid n16
          have hl6 : w.heap.size < w6.heap.size := (Array.getElem?_eq_some_iff.1 n16).1
          clear hh6 hs6 hc6 hb6 n16 hv6 hdg
          go_wp2_with fail
          refine HDG.out.mono ?_
          rintro e w7 ⟨rfl, hb7⟩
          have n17 : w7.heap[w.heap.size]? = _ := (hb7.block _ hl6).trans HN6.out
          have hb7' := HB6.out.trans (hb7.mono HB6.out.size)
          have hszd : (Tryd.prog.info? 130).map (·.size) = some (bvs (shaL M)).toArray.size := by
            have : (Tryd.prog.info? 130).map (·.size) = some 32 := by kernel_rfl
            rw [this, List.size_toArray, bvs_length, shaL_length]
          have hzsd : (#[.int .u8 0, .int .u8 0, .int .u8 0, .int .u8 0, .int .u8 0, .int .u8 0, .int .u8 0, .int .u8 0, .int .u8 0, .int .u8 0, .int .u8 0, .int .u8 0, .int .u8 0, .int .u8 0, .int .u8 0, .int .u8 0, .int .u8 0, .int .u8 0, .int .u8 0, .int .u8 0, .int .u8 0, .int .u8 0, .int .u8 0, .int .u8 0, .int .u8 0, .int .u8 0, .int .u8 0, .int .u8 0, .int .u8 0, .int .u8 0, .int .u8 0, .int .u8 0] : Array Value).size = (bvs (shaL M)).toArray.size := by
            show 32 = _
            rw [List.size_toArray, bvs_length, shaL_length]
          have HN7 := Lib.hid n17
          have HB7 := Lib.hid hb7'
          have HSD := Lib.hid hszd
          have HZD := Lib.hid hzsd
          clear n17 hb7 hb7' hszd hzsd e0 e1 e2 e3 e4 e5 e6 e7
          go_wp2_with (with_reducible refine wpList_store_row rfl 130 _ _ rfl w.heap.size (bvs (shaL M)).toArray rfl rfl 130 _ HN7.out HSD.out HZD.out (oneCell_bvs _) ?_)
          refine bodyPost_ret (v := .agg (bvs (shaL M)).toArray) ?r1 rfl ?r2
          case r1 => exact results_cell_row (g := w.heap.size) rfl _ _ _ _ _ _ rfl (setRow_heap _ _ _ _ _ _ HN7.out) Tryd.underlying130 rfl HSD.out
          case r2 => exact ⟨rfl, below_setRow HB7.out (Nat.le_refl _) _⟩

end Go.Proofs.YtplclpileejemaaDoor
