/- sha256: Write. -/
import Derived.Test.YtloaenknhkfaeaaDoorSha4
namespace Go.Proofs.YtloaenknhkfaeaaDoor
open Go.RowKit
set_option linter.unusedVariables false
set_option linter.unusedSimpArgs false

theorem KAt.below {w w' : World} {B : Nat} (h : KAt w) (hb : Below B w w') (hB : 0 < B) : KAt w' := ⟨Nat.lt_of_lt_of_le h.size hb.size, fun j hj => (hb.cell (p := ⟨0, j, none⟩) hB).trans (h.cell j hj)⟩
theorem KAt.chg {w w' : World} {F : Nat → Prop} (h : KAt w) (hc : Chg F w w') (hF : ¬ F 0) : KAt w' := ⟨Nat.lt_of_lt_of_le h.size hc.size, fun j hj => (World.cell?_of_block (hc.block _ h.size hF)).trans (h.cell j hj)⟩

theorem slice_from64 (w : World) (b off r : Nat) (hr : r < 64) :
    (Instr.sliceAt 123 (.pointer (some ⟨b, off, none⟩)) (some (.int .i64 (r : Int))) none none).run Tryd.prog w = .ok (.slice (some ⟨b, off + r, none⟩) (64 - r) (64 - r)) w := by
  have h1 : (r : Int) ≤ 64 := by omega
  have h2 : ¬ 64 = r := by omega
  have h3 : r ≤ 64 := by omega
  have hs := size_u8 w
  simp [Instr.sliceAt, run_underlying Tryd.underlying123, Instr.sureAddr, Instr.sliceBounds, Instr.sliceBound, asIntOf, h1, h2, h3, hs, Addr.add]

theorem bytesAt_cut {w : World} {F : Nat → Prop} {g off n tc k : Nat} {D : List UInt8} (hF : F g) (hg : g < w.heap.size) (hr : w.rangeAt g off (bvs D)) (hn : D.length = n) (htc : n ≤ tc) (hk : k ≤ n) :
    BytesAt w F (.slice (some ⟨g, if tc = k then off else off + k, none⟩) (n - k) (tc - k)) (D.drop k) := by
  refine ⟨_, _, by rw [List.length_drop, hn], by rw [List.length_drop]; omega, fun hne => ⟨g, _, rfl, hF, hg, ?_⟩⟩
  have : ¬ tc = k := by
    intro e
    apply hne
    rw [List.drop_eq_nil_iff]; omega
  rw [if_neg this]
  intro j u hu
  have h2 : (bvs D)[k + j]? = some u := by
    rw [← hu]; simp [bvs, List.getElem?_drop]
  have := hr (k + j) u h2
  rwa [← Nat.add_assoc] at this
theorem sizeU8i : (Tryd.prog.info? 5).map (·.size) = some 1 := by kernel_rfl
theorem Chg.setRow {F : Nat → Prop} {w : World} (g : Nat) (cs : Array Value) (h : F g) : Chg F w (w.setRow g cs) := ⟨rfl, rfl, rfl, by simp [World.setRow], fun k _ hf => setRow_other w g k cs (fun e => hf (e ▸ h))⟩
theorem hcells_splice (v : W8) (n : Nat) {buf c : List UInt8} {r : Nat} (hl : buf.length = 64) (h : r + c.length ≤ 64) :
    ((hcells v buf n).toArray.toList.take (8 + r) ++ (bvs c ++ (hcells v buf n).toArray.toList.drop (8 + r + (bvs c).length))).toArray = (hcells v (bufP buf r c) n).toArray := by
  have e8 : v.cells.length = 8 := rfl
  congr 1
  show (hcells v buf n).take (8 + r) ++ (bvs c ++ (hcells v buf n).drop (8 + r + (bvs c).length)) = hcells v (bufP buf r c) n
  unfold hcells bufP
  rw [← e8, List.take_length_add_append, bvs_length, Nat.add_assoc, List.drop_length_add_append, List.take_append_of_le_length (by simp; omega), List.drop_append_of_le_length (by simp; omega)]
  simp [bvs, List.map_take, List.map_drop]
theorem HashAt.splice {w : World} {b : Nat} {v : W8} {buf : List UInt8} {n : Nat} (h : HashAt w b v buf n) {c : List UInt8} {r : Nat} (hr : r + c.length ≤ 64) : HashAt (w.setRow b (hcells v (bufP buf r c) n).toArray) b v (bufP buf r c) n :=
  ⟨bufP_length h.len hr, setRow_heap w b _ _ _ _ h.hb⟩

set_option maxRecDepth 100000 in
set_option maxHeartbeats 2000000 in
theorem Write_any {w : World} {b : Nat} {v0 : W8} {buf0 : List UInt8} (M l : List UInt8) (bv : Value) (hH : HashAt w b v0 buf0 M.length) (hS : M ≠ [] → HS v0 buf0 M) (hv : BytesAt w (fun g => g ≠ b) bv l) (hK : KAt w) (hb : b ≠ 0) (hlen : M.length + l.length < 1000000000000000) :
    Calls Tryd.prog 64 #[.pointer (some ⟨b, 0, none⟩), bv] w fun e w' => e = .returned (.int .i64 0) ∧ ∃ v buf, HashAt w' b v buf (M ++ l).length ∧ HS v buf (M ++ l) ∧ Chg (fun k => k = b) w w' := by
  obtain ⟨sa, sc, rfl, hsc, hsr⟩ := hv
  have hlc := hH.length
  have hst := hH.state
  have hfr := hH.frozen
  by_cases hM : M = []
  · have hini : ∀ w, Calls Tryd.prog 66 #[] w (fun e w' => e = .returned (.agg #[.int .u32 (wN w8init.a), .int .u32 (wN w8init.b), .int .u32 (wN w8init.c), .int .u32 (wN w8init.d), .int .u32 (wN w8init.e), .int .u32 (wN w8init.f), .int .u32 (wN w8init.g), .int .u32 (wN w8init.i)]) ∧ Below w.heap.size w w') := fun w => initial_any w
    have hm0 : ((M.length : Int) == 0) = true := by simp [hM]
    have HI := Lib.hid hini
    have HH := Lib.hid hH
    have HK := Lib.hid hK
    have HR := Lib.hid hsr
    have HM := Lib.hid hM
    clear hM
    clear hini hH hS hK hsr hst
    go_enter Tryd.func64, Tryd.ntmps64
    go_wp2_with fail
    refine (HI.out _).mono ?_
    rintro e wi ⟨rfl, hbi⟩
    have hhi := HH.out.kept (hbi.block _ HH.out.lt)
    have hfr := hhi.frozen
    have hst := hhi.state
    obtain ⟨e0, e1, e2, e3, e4, e5, e6, e7⟩ := hst
    have HHI := Lib.hid hhi
    have HBI := Lib.hid hbi
    clear hlc hhi hbi hm0
    go_wp2_with fail
    have hh0 := HHI.out.setState w8init
    have hg0 := grown_states wi b (.int .u32 (wN w8init.a)) (.int .u32 (wN w8init.b)) (.int .u32 (wN w8init.c)) (.int .u32 (wN w8init.d)) (.int .u32 (wN w8init.e)) (.int .u32 (wN w8init.f)) (.int .u32 (wN w8init.g)) (.int .u32 (wN w8init.i))
    obtain ⟨W0, hW0⟩ : ∃ W0, (((((((wi.setCell ⟨b, 0, none⟩ (.int .u32 (wN w8init.a))).setCell ⟨b, 1, none⟩ (.int .u32 (wN w8init.b))).setCell ⟨b, 2, none⟩ (.int .u32 (wN w8init.c))).setCell ⟨b, 3, none⟩ (.int .u32 (wN w8init.d))).setCell ⟨b, 4, none⟩ (.int .u32 (wN w8init.e))).setCell ⟨b, 5, none⟩ (.int .u32 (wN w8init.f))).setCell ⟨b, 6, none⟩ (.int .u32 (wN w8init.g))).setCell ⟨b, 7, none⟩ (.int .u32 (wN w8init.i)) = W0 := ⟨_, rfl⟩
    rw [hW0] at hh0 hg0 ⊢
    have hc0 : Chg (fun j => j = b) w W0 := (Chg.of_below HBI.out).trans (Chg.grown (F := fun j => j = b) hg0 (fun j e => .inl (Option.some.inj e).symm)) (fun _ h => .inl h)
    have HH0 := Lib.hid hh0
    have HS0 : Hid (HS w8init buf0 M) := Lib.hid (by rw [HM.out]; exact ⟨hh0.len, rfl, by simp⟩)
    have HV0 := Lib.hid ((show BytesAt w (fun g => g ≠ b) (.slice sa l.length sc) l from ⟨sa, sc, rfl, hsc, HR.out⟩).kept hc0 (fun j h e => h e))
    have HC0 := Lib.hid hc0
    clear hh0 hg0 hc0 hW0 e0 e1 e2 e3 e4 e5 e6 e7 hfr
    go_loopw [1] (fun t wr => ∃ (i : Nat) (v : W8) (buf : List UInt8), i ≤ l.length ∧ HashAt wr b v buf (M.length + i) ∧ HS v buf (M ++ l.take i) ∧ BytesAt wr (fun g => g ≠ b) t (l.drop i) ∧ Chg (fun k => k = b) w wr)
      (fun t _ => match t with | .slice _ n _ => n | _ => 0)
    case atStart => exact ⟨0, _, buf0, Nat.zero_le _, HH0.out, by rw [List.take_zero, List.append_nil]; exact HS0.out, HV0.out, HC0.out⟩
    case round =>
      obtain ⟨i, v, buf, hi, hH, hS, hV, hC⟩ := hrel
      have hml : (M ++ l.take i).length = M.length + (l.take i).length := List.length_append
      rw [List.length_take, Nat.min_eq_left hi] at hml
      by_cases hlt : i < l.length
      · obtain ⟨ta, tc, rfl, htc, htr⟩ := hV
        obtain ⟨g, off, rfl, hgb, hgl, hrg⟩ := htr (by intro e; have := congrArg List.length e; simp at this; omega)
        obtain ⟨n, hn⟩ : ∃ n, (l.drop i).length = n := ⟨_, rfl⟩
        rw [hn] at htc ⊢
        obtain ⟨N, hN⟩ : ∃ N, M.length + i = N := ⟨_, rfl⟩
        rw [hN] at hH
        have hn' : n = l.length - i := by rw [← hn]; simp
        obtain ⟨r, hr⟩ : ∃ r, N % 64 = r := ⟨_, rfl⟩
        obtain ⟨k, hk⟩ : ∃ k, Nat.min n (64 - r) = k := ⟨_, rfl⟩
        have hr64 : r < 64 := by omega
        have hk0 : min n (64 - r) = k := hk
        have hk1 : 1 ≤ k := by omega
        have hkn : k ≤ n := by omega
        have hrk : r + k ≤ 64 := by omega
        clear hk0
        obtain ⟨c, hc⟩ : ∃ c, (l.drop i).take k = c := ⟨_, rfl⟩
        have hcl : c.length = k := by rw [← hc, List.length_take, hn]; omega
        obtain ⟨buf2, hb2⟩ : ∃ buf2, bufP buf r c = buf2 := ⟨_, rfl⟩
        have hbl2 : buf2.length = 64 := by rw [← hb2]; exact bufP_length hH.len (by omega)
        have htk : M ++ l.take (i + k) = M ++ l.take i ++ c := by rw [← hc, List.append_assoc, ← List.take_add]
        have hlc := hH.length
        have hm : (N : Int).tmod 64 = (r : Int) := by rw [Int.tmod_eq_emod_of_nonneg (by omega)]; omega
        have hsl := slice_from64 wr.drew b 8 r hr64
        have hpos : (0 : Int) < (n : Int) := by omega
        have HNE := Lib.hid hN
        have HNR := Lib.hid hr
        have HKE := Lib.hid hk
        have HCE := Lib.hid hc
        have HCL := Lib.hid hcl
        have HB2 := Lib.hid hb2
        have HBL2 := Lib.hid hbl2
        have HTK := Lib.hid htk
        have HN' := Lib.hid hn'
        have HNL := Lib.hid hn
        have HHR := Lib.hid hH
        have HSO := Lib.hid hS
        have HML : Hid ((M ++ l.take i).length = N) := Lib.hid (hml.trans hN)
        have HCR := Lib.hid hC
        have HRG := Lib.hid hrg
        have HGB := Lib.hid hgb
        have HGL := Lib.hid hgl
        have HTC := Lib.hid htc
        have hNb : N + k ≤ 1000000000000000 := by omega
        have hkb : (k : Int) ≤ (n : Int) := by omega
        have hnb : (n : Int) ≤ 9223372036854775807 := by omega
        clear hN hr hk hc hcl hb2 hbl2 htk hn' hn hH hS hml hC hrg hgb hgl htr
        go_wp2_with fail
        go_still_tail 10, (by kernel_rfl)
        obtain ⟨W1, hW1⟩ : ∃ W1 : World, { wr with drawn := wr.drawn + 1 } = W1 := ⟨_, rfl⟩
        have hq : ∀ j : Nat, W1.heap[j]? = wr.heap[j]? := fun j => by rw [← hW1]
        have hcw : Chg (fun j => j = b) wr W1 := by rw [← hW1]; exact ⟨rfl, rfl, rfl, Nat.le_refl _, fun _ _ _ => rfl⟩
        rw [hW1]
        clear hW1 hsl hm hlc
        have hh1 := HHR.out.kept (hq b)
        have hfit : 8 + r + (bvs c).length ≤ (hcells v buf N).toArray.size := by rw [List.size_toArray, hcells_length HHR.out.len, bvs_length, HCL.out]; omega
        have hsrc : ∀ j u, (bvs c)[j]? = some u → W1.cell? ((⟨g, off, none⟩ : Addr).add j) = some u := by
          intro j u hu
          have hadd : (⟨g, off, none⟩ : Addr).add j = ⟨g, off + j, none⟩ := by unfold Addr.add; split <;> simp_all
          rw [hadd, World.cell?_of_block (hq g)]
          refine HRG.out j u ?_
          rw [← HCE.out, bvs_getElem?, List.getElem?_take] at hu
          split at hu
          · rw [bvs_getElem?]; exact hu
          · cases hu
        refine wpList_copy_own rfl (.tmp 28) (.tmp 29) 22 22 rfl 5 Tryd.underlying22 sizeU8i b (8 + r) (64 - r) (64 - r) ⟨g, off, none⟩ n tc rfl rfl (hcells v buf N).toArray _ hh1.hb (bvs c) (by rw [bvs_length, HCL.out]; exact HKE.out.symm) hsrc hfit bvs_oneCell ?_
        have esp := hcells_splice v N HHR.out.len (c := c) (r := r) (by rw [HCL.out]; omega)
        have hh2 := hh1.splice (c := c) (r := r) (by rw [HCL.out]; omega)
        have hcs : Chg (fun j => j = b) W1 (W1.setRow b (hcells v (bufP buf r c) N).toArray) := Chg.setRow b _ rfl
        rw [esp]
        obtain ⟨Wc, hWc⟩ : ∃ Wc, W1.setRow b (hcells v (bufP buf r c) N).toArray = Wc := ⟨_, rfl⟩
        rw [hWc] at hh2 hcs ⊢
        rw [HB2.out] at hh2
        have hc2 := (HCR.out.trans (hcw.trans hcs (fun _ h => .inl h)) (fun _ h => .inl h))
        have hrg2 : Wc.rangeAt g off (bvs (l.drop i)) := fun j u hu => ((hcw.trans hcs (fun _ h => .inl h)).cell (p := ⟨g, off + j, none⟩) HGB.out (HRG.out j u hu))
        have hlc2 := hh2.length
        have hfr2 := hh2.frozen
        have hgl2 : g < Wc.heap.size := Nat.lt_of_lt_of_le HGL.out (hcw.trans hcs (fun _ h => .inl h)).size
        have hch3 := Chg.setCell (F := fun j => j = b) (a := ⟨b, 72, none⟩) Wc (.int .i64 ((N : Int) + (k : Int))) rfl
        have hh3 : HashAt (Wc.setCell ⟨b, 72, none⟩ (.int .i64 ((N : Int) + (k : Int)))) b v buf2 (N + k) := hh2.setLength (N + k)
        have hc3 := hc2.trans hch3 (fun _ h => .inl h)
        have hbt := (bytesAt_cut (F := fun j => j ≠ b) HGB.out hgl2 hrg2 HNL.out HTC.out hkn).kept hch3 (fun j h e => h e)
        rw [List.drop_drop] at hbt
        have HH1 := Lib.hid hh2
        have HH3 := Lib.hid hh3
        have HC3 := Lib.hid hc3
        have HBT := Lib.hid hbt
        rw [bvs_length, HCL.out]
        clear hWc esp hcs hcw hq hh1 hh2 hc2 hrg2 hgl2 hfit hsrc hch3 hh3 hc3 hbt
        by_cases hck : tc = k
        · have hbt := HBT.out
          rw [if_pos hck] at hbt
          have HV3 := Lib.hid hbt
          clear hbt HBT
          have hnk : n = k := by have := HTC.out; omega
          by_cases hfull : r + k = 64
          · have hmod : (((N : Int) + (k : Int)) % 64 == 0) = true := by have := HNR.out; simp; omega
            obtain ⟨v', hv'⟩ : ∃ v', procW v (loadW buf2) = v' := ⟨_, rfl⟩
            have hHS9 := HSO.out.full (c := c) (by rw [HML.out, HCL.out, HNR.out]; omega)
            rw [HML.out, HNR.out, HB2.out, hv'] at hHS9
            have HS9 := Lib.hid hHS9
            have HVE := Lib.hid hv'
            clear hHS9 hv'
            go_wp2_with fail
            obtain ⟨W2, hW2⟩ : ∃ W2, Wc.setCell ⟨b, 72, none⟩ (.int .i64 ((N : Int) + (k : Int))) = W2 := ⟨_, rfl⟩
            have hh2 := HH3.out
            have hc2 := HC3.out
            have hv2 := HV3.out
            rw [hW2] at hh2 hc2 hv2 ⊢
            have HH2 := Lib.hid hh2
            have HC2 := Lib.hid hc2
            have HV2 := Lib.hid hv2
            have hka := HK.out.chg hc2 (fun e => hb e.symm)
            have HKAT := Lib.hid hka
            have hszb : (Tryd.prog.info? 123).map (·.size) = some (bvs buf2).length := by
              have : (Tryd.prog.info? 123).map (·.size) = some 64 := by kernel_rfl
              rw [this, bvs_length, HBL2.out]
            have HSZB := Lib.hid hszb
            clear hW2 hh2 hc2 hv2 hlc2 hfr2 hmod hka hszb HH3 HC3 HV3
            refine wp_region_noPanic ?_
            refine wp_region_G [13] (fun w' => Below W2.heap.size W2 w') (by kernel_rfl) ?_
            have hS0 : (fun w' => Below W2.heap.size W2 w') W2.drew := (Below.refl _ _).drew
            refine wpAnyG_take (i := 0) (v := ?v1) rfl (by kernel_rfl) (by kernel_rfl) (by kernel_rfl) (by kernel_rfl) (fun _ _ _ h => h) (yieldsIf_run rfl (fun w' hw' => ?y1)) hS0 ?_
            case y1 => first | (go_simp; rfl) | (go_simp; done) | rfl
            simp only [Act.put, List.setIfInBounds_toArray, List.set_cons_zero, List.set_cons_succ]
            refine wpAnyG_take (i := 1) (v := ?v2) rfl (by kernel_rfl) (by kernel_rfl) (by kernel_rfl) (by kernel_rfl) (fun _ _ _ h => h) (yieldsIf_run rfl (fun w' hw' => ?y2)) hS0 ?_
            case y2 => first | (go_simp; rfl) | (go_simp; done) | rfl
            simp only [Act.put, List.setIfInBounds_toArray, List.set_cons_zero, List.set_cons_succ]
            refine wpAnyG_take (i := 2) (v := ?v3) rfl (by kernel_rfl) (by kernel_rfl) (by kernel_rfl) (by kernel_rfl) (fun _ _ _ h => h) (yieldsIf_run rfl (fun w' hw' => ?y3)) hS0 ?_
            case y3 => first | (go_simp; rfl) | (go_simp; done) | rfl
            simp only [Act.put, List.setIfInBounds_toArray, List.set_cons_zero, List.set_cons_succ]
            refine wpAnyG_take (i := 3) (v := ?v4) rfl (by kernel_rfl) (by kernel_rfl) (by kernel_rfl) (by kernel_rfl) (fun _ _ _ h => h) (yieldsIf_run rfl (fun w' hw' => ?y4)) hS0 ?_
            case y4 => first | (go_simp; rfl) | (go_simp; done) | rfl
            simp only [Act.put, List.setIfInBounds_toArray, List.set_cons_zero, List.set_cons_succ]
            refine wpAnyG_take (i := 4) (v := ?v5) rfl (by kernel_rfl) (by kernel_rfl) (by kernel_rfl) (by kernel_rfl) (fun _ _ _ h => h) (yieldsIf_run rfl (fun w' hw' => ?y5)) hS0 ?_
            case y5 => (obtain ⟨e0, e1, e2, e3, e4, e5, e6, e7⟩ := (HH2.out.kept (hw'.block _ HH2.out.lt)).state; clear hw'; first | (go_simp; rfl) | (go_simp; done))
            simp only [Act.put, List.setIfInBounds_toArray, List.set_cons_zero, List.set_cons_succ]
            refine wpAnyG_take (i := 5) (v := ?v6) rfl (by kernel_rfl) (by kernel_rfl) (by kernel_rfl) (by kernel_rfl) (fun _ _ _ h => h) (yieldsIf_run rfl (fun w' hw' => ?y6)) hS0 ?_
            case y6 => first | (go_simp; rfl) | (go_simp; done) | rfl
            simp only [Act.put, List.setIfInBounds_toArray, List.set_cons_zero, List.set_cons_succ]
            refine wpAnyG_take (i := 6) (v := ?v7) rfl (by kernel_rfl) (by kernel_rfl) (by kernel_rfl) (by kernel_rfl) (fun _ _ _ h => h) (yieldsIf_run rfl (fun w' hw' => ?y7)) hS0 ?_
            case y7 => first | (go_simp; rfl) | (go_simp; done) | rfl
            simp only [Act.put, List.setIfInBounds_toArray, List.set_cons_zero, List.set_cons_succ]
            refine wpAnyG_take (i := 7) (v := ?v8) rfl (by kernel_rfl) (by kernel_rfl) (by kernel_rfl) (by kernel_rfl) (fun _ _ _ h => h) (yieldsIf_run rfl (fun w' hw' => ?y8)) hS0 ?_
            case y8 => first | (go_simp; rfl) | (go_simp; done) | rfl
            simp only [Act.put, List.setIfInBounds_toArray, List.set_cons_zero, List.set_cons_succ]
            refine wpAnyG_take (i := 8) (v := .agg (bvs buf2).toArray) rfl (by kernel_rfl) (by kernel_rfl) (by kernel_rfl) (by kernel_rfl) (fun _ _ _ h => h) (yieldsIf_run rfl (fun w' hw' => ?y9)) hS0 ?_
            case y9 => exact run_load_op 123 (.tmp 55) b 8 (bvs buf2) _ rfl rfl ((HH2.out.kept (hw'.block _ HH2.out.lt)).range) Tryd.underlying123 rfl HSZB.out
            simp only [Act.put, List.setIfInBounds_toArray, List.set_cons_zero, List.set_cons_succ]
            refine wpAnyG_do (i := 9) (by kernel_rfl) rfl rfl (fun K hK => ?_)
            go_simp
            refine (load_any buf2 HBL2.out W2.drew).mono ?_
            rintro e w3 ⟨rfl, hb3⟩
            have k3 : Below W2.heap.size W2 w3 := (Below.refl _ W2).drew.trans hb3
            refine hK _ _ k3 ?_
            clear hK K
            try simp only [Act.put, List.setIfInBounds_toArray, List.set_cons_zero, List.set_cons_succ]
            refine wpAnyG_do (i := 10) (by kernel_rfl) rfl rfl (fun K hK => ?_)
            go_simp
            have hpr : Calls Tryd.prog 67 #[Value.agg #[.int .u32 (wN v.a), .int .u32 (wN v.b), .int .u32 (wN v.c), .int .u32 (wN v.d), .int .u32 (wN v.e), .int .u32 (wN v.f), .int .u32 (wN v.g), .int .u32 (wN v.i)], .agg (wvs (loadW buf2)).toArray] w3 (fun e w' => e = .returned (.agg #[.int .u32 (wN (procW v (loadW buf2)).a), .int .u32 (wN (procW v (loadW buf2)).b), .int .u32 (wN (procW v (loadW buf2)).c), .int .u32 (wN (procW v (loadW buf2)).d), .int .u32 (wN (procW v (loadW buf2)).e), .int .u32 (wN (procW v (loadW buf2)).f), .int .u32 (wN (procW v (loadW buf2)).g), .int .u32 (wN (procW v (loadW buf2)).i)]) ∧ Below w3.heap.size w3 w') := process_any v (loadW buf2) (ldAt_length _ _) w3 (HKAT.out.below k3 HKAT.out.size)
            refine hpr.mono ?_
            rintro e w4 ⟨rfl, hb4⟩
            have k4 : Below W2.heap.size W2 w4 := k3.trans (hb4.mono k3.size)
            refine hK _ _ k4 ?_
            clear hK K
            try simp only [Act.put, List.setIfInBounds_toArray, List.set_cons_zero, List.set_cons_succ]
            refine wpAnyG_pure (i := 11) (v := ?v10) rfl (by kernel_rfl) (by kernel_rfl) (by kernel_rfl) (by kernel_rfl) (fun _ _ _ h => h) (yieldsIf_run rfl (fun w' hw' => ?y10)) (fun _ => k4) ?_
            case y10 => first | (go_simp; rfl) | (go_simp; done) | rfl
            simp only [Act.put, List.setIfInBounds_toArray, List.set_cons_zero, List.set_cons_succ]
            refine wpAnyG_pure (i := 12) (v := ?v11) rfl (by kernel_rfl) (by kernel_rfl) (by kernel_rfl) (by kernel_rfl) (fun _ _ _ h => h) (yieldsIf_run rfl (fun w' hw' => ?y11)) (fun _ => k4) ?_
            case y11 => first | (go_simp; rfl) | (go_simp; done) | rfl
            simp only [Act.put, List.setIfInBounds_toArray, List.set_cons_zero, List.set_cons_succ]
            refine wpAnyG_fin (i := 13) (by kernel_rfl) rfl rfl (by kernel_rfl) (fun K hK => ?_)
            have hh4 := HH2.out.kept (k4.block _ HH2.out.lt)
            have ef := hh4.frozen
            obtain ⟨e0, e1, e2, e3, e4, e5, e6, e7⟩ := hh4.state
            go_simp
            refine hK _ _ ?_
            clear hK K
            try simp only [Act.put, List.setIfInBounds_toArray, List.set_cons_zero, List.set_cons_succ]
            refine wpAnyG_done (by kernel_rfl) ?_ _
            refine NoPanic.normal ?_
            rw [HVE.out]
            have hh5 := hh4.setState v'
            have hg5 := grown_states w4 b (.int .u32 (wN v'.a)) (.int .u32 (wN v'.b)) (.int .u32 (wN v'.c)) (.int .u32 (wN v'.d)) (.int .u32 (wN v'.e)) (.int .u32 (wN v'.f)) (.int .u32 (wN v'.g)) (.int .u32 (wN v'.i))
            obtain ⟨W5, hW5⟩ : ∃ W5, (((((((w4.setCell ⟨b, 0, none⟩ (.int .u32 (wN v'.a))).setCell ⟨b, 1, none⟩ (.int .u32 (wN v'.b))).setCell ⟨b, 2, none⟩ (.int .u32 (wN v'.c))).setCell ⟨b, 3, none⟩ (.int .u32 (wN v'.d))).setCell ⟨b, 4, none⟩ (.int .u32 (wN v'.e))).setCell ⟨b, 5, none⟩ (.int .u32 (wN v'.f))).setCell ⟨b, 6, none⟩ (.int .u32 (wN v'.g))).setCell ⟨b, 7, none⟩ (.int .u32 (wN v'.i)) = W5 := ⟨_, rfl⟩
            rw [hW5] at hh5 hg5 ⊢
            have hc5 : Chg (fun j => j = b) W2 W5 := (Chg.of_below k4).trans (Chg.grown (F := fun j => j = b) hg5 (fun j e => .inl (Option.some.inj e).symm)) (fun _ h => .inl h)
            have hc9 := HC2.out.trans hc5 (fun _ h => .inl h)
            have HH9 := Lib.hid hh5
            have HC9 := Lib.hid hc9
            have HV9 := Lib.hid (HV2.out.kept hc5 (fun j h e => h e))
            clear hW5 hh5 hg5 hc5 hc9 hh4 ef e0 e1 e2 e3 e4 e5 e6 e7 k3 k4 hS0
            go_wp2_with fail
            go_roundw
            case rel => exact ⟨i + k, _, _, by have := HN'.out; omega, by rw [← Nat.add_assoc, HNE.out]; exact HH9.out, by rw [HTK.out]; exact HS9.out, by first | exact HV9.out | (have h9 := HV9.out; rw [show n - k = 0 by omega, show tc - k = 0 by omega] at h9; exact h9), HC9.out⟩
            case measure => simp; omega
          · have hmod : (((N : Int) + (k : Int)) % 64 == 0) = false := by have := HNR.out; simp; omega
            have hHS9 := HSO.out.part (c := c) (by rw [HML.out, HCL.out, HNR.out]; omega)
            rw [HML.out, HNR.out, HB2.out] at hHS9
            have HS9 := Lib.hid hHS9
            have HC9 := HC3
            clear hHS9
            go_wp2_with fail
            go_roundw
            case rel => exact ⟨i + k, _, _, by have := HN'.out; omega, by rw [← Nat.add_assoc, HNE.out]; exact HH3.out, by rw [HTK.out]; exact HS9.out, by first | exact HV3.out | (have h9 := HV3.out; rw [show n - k = 0 by omega, show tc - k = 0 by omega] at h9; exact h9), HC9.out⟩
            case measure => simp; omega
        · have hbt := HBT.out
          rw [if_neg hck] at hbt
          have HV3 := Lib.hid hbt
          clear hbt HBT
          by_cases hfull : r + k = 64
          · have hmod : (((N : Int) + (k : Int)) % 64 == 0) = true := by have := HNR.out; simp; omega
            obtain ⟨v', hv'⟩ : ∃ v', procW v (loadW buf2) = v' := ⟨_, rfl⟩
            have hHS9 := HSO.out.full (c := c) (by rw [HML.out, HCL.out, HNR.out]; omega)
            rw [HML.out, HNR.out, HB2.out, hv'] at hHS9
            have HS9 := Lib.hid hHS9
            have HVE := Lib.hid hv'
            clear hHS9 hv'
            go_wp2_with fail
            obtain ⟨W2, hW2⟩ : ∃ W2, Wc.setCell ⟨b, 72, none⟩ (.int .i64 ((N : Int) + (k : Int))) = W2 := ⟨_, rfl⟩
            have hh2 := HH3.out
            have hc2 := HC3.out
            have hv2 := HV3.out
            rw [hW2] at hh2 hc2 hv2 ⊢
            have HH2 := Lib.hid hh2
            have HC2 := Lib.hid hc2
            have HV2 := Lib.hid hv2
            have hka := HK.out.chg hc2 (fun e => hb e.symm)
            have HKAT := Lib.hid hka
            have hszb : (Tryd.prog.info? 123).map (·.size) = some (bvs buf2).length := by
              have : (Tryd.prog.info? 123).map (·.size) = some 64 := by kernel_rfl
              rw [this, bvs_length, HBL2.out]
            have HSZB := Lib.hid hszb
            clear hW2 hh2 hc2 hv2 hlc2 hfr2 hmod hka hszb HH3 HC3 HV3
            refine wp_region_noPanic ?_
            refine wp_region_G [13] (fun w' => Below W2.heap.size W2 w') (by kernel_rfl) ?_
            have hS0 : (fun w' => Below W2.heap.size W2 w') W2.drew := (Below.refl _ _).drew
            refine wpAnyG_take (i := 0) (v := ?v1) rfl (by kernel_rfl) (by kernel_rfl) (by kernel_rfl) (by kernel_rfl) (fun _ _ _ h => h) (yieldsIf_run rfl (fun w' hw' => ?y1)) hS0 ?_
            case y1 => first | (go_simp; rfl) | (go_simp; done) | rfl
            simp only [Act.put, List.setIfInBounds_toArray, List.set_cons_zero, List.set_cons_succ]
            refine wpAnyG_take (i := 1) (v := ?v2) rfl (by kernel_rfl) (by kernel_rfl) (by kernel_rfl) (by kernel_rfl) (fun _ _ _ h => h) (yieldsIf_run rfl (fun w' hw' => ?y2)) hS0 ?_
            case y2 => first | (go_simp; rfl) | (go_simp; done) | rfl
            simp only [Act.put, List.setIfInBounds_toArray, List.set_cons_zero, List.set_cons_succ]
            refine wpAnyG_take (i := 2) (v := ?v3) rfl (by kernel_rfl) (by kernel_rfl) (by kernel_rfl) (by kernel_rfl) (fun _ _ _ h => h) (yieldsIf_run rfl (fun w' hw' => ?y3)) hS0 ?_
            case y3 => first | (go_simp; rfl) | (go_simp; done) | rfl
            simp only [Act.put, List.setIfInBounds_toArray, List.set_cons_zero, List.set_cons_succ]
            refine wpAnyG_take (i := 3) (v := ?v4) rfl (by kernel_rfl) (by kernel_rfl) (by kernel_rfl) (by kernel_rfl) (fun _ _ _ h => h) (yieldsIf_run rfl (fun w' hw' => ?y4)) hS0 ?_
            case y4 => first | (go_simp; rfl) | (go_simp; done) | rfl
            simp only [Act.put, List.setIfInBounds_toArray, List.set_cons_zero, List.set_cons_succ]
            refine wpAnyG_take (i := 4) (v := ?v5) rfl (by kernel_rfl) (by kernel_rfl) (by kernel_rfl) (by kernel_rfl) (fun _ _ _ h => h) (yieldsIf_run rfl (fun w' hw' => ?y5)) hS0 ?_
            case y5 => (obtain ⟨e0, e1, e2, e3, e4, e5, e6, e7⟩ := (HH2.out.kept (hw'.block _ HH2.out.lt)).state; clear hw'; first | (go_simp; rfl) | (go_simp; done))
            simp only [Act.put, List.setIfInBounds_toArray, List.set_cons_zero, List.set_cons_succ]
            refine wpAnyG_take (i := 5) (v := ?v6) rfl (by kernel_rfl) (by kernel_rfl) (by kernel_rfl) (by kernel_rfl) (fun _ _ _ h => h) (yieldsIf_run rfl (fun w' hw' => ?y6)) hS0 ?_
            case y6 => first | (go_simp; rfl) | (go_simp; done) | rfl
            simp only [Act.put, List.setIfInBounds_toArray, List.set_cons_zero, List.set_cons_succ]
            refine wpAnyG_take (i := 6) (v := ?v7) rfl (by kernel_rfl) (by kernel_rfl) (by kernel_rfl) (by kernel_rfl) (fun _ _ _ h => h) (yieldsIf_run rfl (fun w' hw' => ?y7)) hS0 ?_
            case y7 => first | (go_simp; rfl) | (go_simp; done) | rfl
            simp only [Act.put, List.setIfInBounds_toArray, List.set_cons_zero, List.set_cons_succ]
            refine wpAnyG_take (i := 7) (v := ?v8) rfl (by kernel_rfl) (by kernel_rfl) (by kernel_rfl) (by kernel_rfl) (fun _ _ _ h => h) (yieldsIf_run rfl (fun w' hw' => ?y8)) hS0 ?_
            case y8 => first | (go_simp; rfl) | (go_simp; done) | rfl
            simp only [Act.put, List.setIfInBounds_toArray, List.set_cons_zero, List.set_cons_succ]
            refine wpAnyG_take (i := 8) (v := .agg (bvs buf2).toArray) rfl (by kernel_rfl) (by kernel_rfl) (by kernel_rfl) (by kernel_rfl) (fun _ _ _ h => h) (yieldsIf_run rfl (fun w' hw' => ?y9)) hS0 ?_
            case y9 => exact run_load_op 123 (.tmp 55) b 8 (bvs buf2) _ rfl rfl ((HH2.out.kept (hw'.block _ HH2.out.lt)).range) Tryd.underlying123 rfl HSZB.out
            simp only [Act.put, List.setIfInBounds_toArray, List.set_cons_zero, List.set_cons_succ]
            refine wpAnyG_do (i := 9) (by kernel_rfl) rfl rfl (fun K hK => ?_)
            go_simp
            refine (load_any buf2 HBL2.out W2.drew).mono ?_
            rintro e w3 ⟨rfl, hb3⟩
            have k3 : Below W2.heap.size W2 w3 := (Below.refl _ W2).drew.trans hb3
            refine hK _ _ k3 ?_
            clear hK K
            try simp only [Act.put, List.setIfInBounds_toArray, List.set_cons_zero, List.set_cons_succ]
            refine wpAnyG_do (i := 10) (by kernel_rfl) rfl rfl (fun K hK => ?_)
            go_simp
            have hpr : Calls Tryd.prog 67 #[Value.agg #[.int .u32 (wN v.a), .int .u32 (wN v.b), .int .u32 (wN v.c), .int .u32 (wN v.d), .int .u32 (wN v.e), .int .u32 (wN v.f), .int .u32 (wN v.g), .int .u32 (wN v.i)], .agg (wvs (loadW buf2)).toArray] w3 (fun e w' => e = .returned (.agg #[.int .u32 (wN (procW v (loadW buf2)).a), .int .u32 (wN (procW v (loadW buf2)).b), .int .u32 (wN (procW v (loadW buf2)).c), .int .u32 (wN (procW v (loadW buf2)).d), .int .u32 (wN (procW v (loadW buf2)).e), .int .u32 (wN (procW v (loadW buf2)).f), .int .u32 (wN (procW v (loadW buf2)).g), .int .u32 (wN (procW v (loadW buf2)).i)]) ∧ Below w3.heap.size w3 w') := process_any v (loadW buf2) (ldAt_length _ _) w3 (HKAT.out.below k3 HKAT.out.size)
            refine hpr.mono ?_
            rintro e w4 ⟨rfl, hb4⟩
            have k4 : Below W2.heap.size W2 w4 := k3.trans (hb4.mono k3.size)
            refine hK _ _ k4 ?_
            clear hK K
            try simp only [Act.put, List.setIfInBounds_toArray, List.set_cons_zero, List.set_cons_succ]
            refine wpAnyG_pure (i := 11) (v := ?v10) rfl (by kernel_rfl) (by kernel_rfl) (by kernel_rfl) (by kernel_rfl) (fun _ _ _ h => h) (yieldsIf_run rfl (fun w' hw' => ?y10)) (fun _ => k4) ?_
            case y10 => first | (go_simp; rfl) | (go_simp; done) | rfl
            simp only [Act.put, List.setIfInBounds_toArray, List.set_cons_zero, List.set_cons_succ]
            refine wpAnyG_pure (i := 12) (v := ?v11) rfl (by kernel_rfl) (by kernel_rfl) (by kernel_rfl) (by kernel_rfl) (fun _ _ _ h => h) (yieldsIf_run rfl (fun w' hw' => ?y11)) (fun _ => k4) ?_
            case y11 => first | (go_simp; rfl) | (go_simp; done) | rfl
            simp only [Act.put, List.setIfInBounds_toArray, List.set_cons_zero, List.set_cons_succ]
            refine wpAnyG_fin (i := 13) (by kernel_rfl) rfl rfl (by kernel_rfl) (fun K hK => ?_)
            have hh4 := HH2.out.kept (k4.block _ HH2.out.lt)
            have ef := hh4.frozen
            obtain ⟨e0, e1, e2, e3, e4, e5, e6, e7⟩ := hh4.state
            go_simp
            refine hK _ _ ?_
            clear hK K
            try simp only [Act.put, List.setIfInBounds_toArray, List.set_cons_zero, List.set_cons_succ]
            refine wpAnyG_done (by kernel_rfl) ?_ _
            refine NoPanic.normal ?_
            rw [HVE.out]
            have hh5 := hh4.setState v'
            have hg5 := grown_states w4 b (.int .u32 (wN v'.a)) (.int .u32 (wN v'.b)) (.int .u32 (wN v'.c)) (.int .u32 (wN v'.d)) (.int .u32 (wN v'.e)) (.int .u32 (wN v'.f)) (.int .u32 (wN v'.g)) (.int .u32 (wN v'.i))
            obtain ⟨W5, hW5⟩ : ∃ W5, (((((((w4.setCell ⟨b, 0, none⟩ (.int .u32 (wN v'.a))).setCell ⟨b, 1, none⟩ (.int .u32 (wN v'.b))).setCell ⟨b, 2, none⟩ (.int .u32 (wN v'.c))).setCell ⟨b, 3, none⟩ (.int .u32 (wN v'.d))).setCell ⟨b, 4, none⟩ (.int .u32 (wN v'.e))).setCell ⟨b, 5, none⟩ (.int .u32 (wN v'.f))).setCell ⟨b, 6, none⟩ (.int .u32 (wN v'.g))).setCell ⟨b, 7, none⟩ (.int .u32 (wN v'.i)) = W5 := ⟨_, rfl⟩
            rw [hW5] at hh5 hg5 ⊢
            have hc5 : Chg (fun j => j = b) W2 W5 := (Chg.of_below k4).trans (Chg.grown (F := fun j => j = b) hg5 (fun j e => .inl (Option.some.inj e).symm)) (fun _ h => .inl h)
            have hc9 := HC2.out.trans hc5 (fun _ h => .inl h)
            have HH9 := Lib.hid hh5
            have HC9 := Lib.hid hc9
            have HV9 := Lib.hid (HV2.out.kept hc5 (fun j h e => h e))
            clear hW5 hh5 hg5 hc5 hc9 hh4 ef e0 e1 e2 e3 e4 e5 e6 e7 k3 k4 hS0
            go_wp2_with fail
            go_roundw
            case rel => exact ⟨i + k, _, _, by have := HN'.out; omega, by rw [← Nat.add_assoc, HNE.out]; exact HH9.out, by rw [HTK.out]; exact HS9.out, by first | exact HV9.out | (have h9 := HV9.out; rw [show n - k = 0 by omega, show tc - k = 0 by omega] at h9; exact h9), HC9.out⟩
            case measure => simp; omega
          · have hmod : (((N : Int) + (k : Int)) % 64 == 0) = false := by have := HNR.out; simp; omega
            have hHS9 := HSO.out.part (c := c) (by rw [HML.out, HCL.out, HNR.out]; omega)
            rw [HML.out, HNR.out, HB2.out] at hHS9
            have HS9 := Lib.hid hHS9
            have HC9 := HC3
            clear hHS9
            go_wp2_with fail
            go_roundw
            case rel => exact ⟨i + k, _, _, by have := HN'.out; omega, by rw [← Nat.add_assoc, HNE.out]; exact HH3.out, by rw [HTK.out]; exact HS9.out, by first | exact HV3.out | (have h9 := HV3.out; rw [show n - k = 0 by omega, show tc - k = 0 by omega] at h9; exact h9), HC9.out⟩
            case measure => simp; omega
      · obtain rfl : i = l.length := by omega
        have hV2 : ∃ ta tc, u1 = Value.slice ta 0 tc := by
          obtain ⟨ta, tc, e, _⟩ := hV
          exact ⟨ta, tc, by rw [e]; simp⟩
        obtain ⟨ta, tc, rfl⟩ := hV2
        rw [List.take_length] at hS
        have HHe := Lib.hid hH
        have HSe := Lib.hid hS
        have HCe := Lib.hid hC
        clear hH hS hC hV hml
        go_wp2_with fail
        go_ret
        exact ⟨rfl, v, buf, by rw [List.length_append]; exact HHe.out, HSe.out, HCe.out⟩


  · have hm0 : ((M.length : Int) == 0) = false := by simpa using hM
    have HH0 := Lib.hid hH
    have HS0 := Lib.hid (hS hM)
    have HV0 := Lib.hid (show BytesAt w (fun g => g ≠ b) (.slice sa l.length sc) l from ⟨sa, sc, rfl, hsc, hsr⟩)
    have HC0 := Lib.hid (Chg.refl (fun k => k = b) w)
    have HK := Lib.hid hK
    clear hH hS hsr hK hst hfr
    go_enter Tryd.func64, Tryd.ntmps64
    go_wp2_with fail
    clear hlc hm0 hM
    go_loopw [1] (fun t wr => ∃ (i : Nat) (v : W8) (buf : List UInt8), i ≤ l.length ∧ HashAt wr b v buf (M.length + i) ∧ HS v buf (M ++ l.take i) ∧ BytesAt wr (fun g => g ≠ b) t (l.drop i) ∧ Chg (fun k => k = b) w wr)
      (fun t _ => match t with | .slice _ n _ => n | _ => 0)
    case atStart => exact ⟨0, _, buf0, Nat.zero_le _, HH0.out, by rw [List.take_zero, List.append_nil]; exact HS0.out, HV0.out, HC0.out⟩
    case round =>
      obtain ⟨i, v, buf, hi, hH, hS, hV, hC⟩ := hrel
      have hml : (M ++ l.take i).length = M.length + (l.take i).length := List.length_append
      rw [List.length_take, Nat.min_eq_left hi] at hml
      by_cases hlt : i < l.length
      · obtain ⟨ta, tc, rfl, htc, htr⟩ := hV
        obtain ⟨g, off, rfl, hgb, hgl, hrg⟩ := htr (by intro e; have := congrArg List.length e; simp at this; omega)
        obtain ⟨n, hn⟩ : ∃ n, (l.drop i).length = n := ⟨_, rfl⟩
        rw [hn] at htc ⊢
        obtain ⟨N, hN⟩ : ∃ N, M.length + i = N := ⟨_, rfl⟩
        rw [hN] at hH
        have hn' : n = l.length - i := by rw [← hn]; simp
        obtain ⟨r, hr⟩ : ∃ r, N % 64 = r := ⟨_, rfl⟩
        obtain ⟨k, hk⟩ : ∃ k, Nat.min n (64 - r) = k := ⟨_, rfl⟩
        have hr64 : r < 64 := by omega
        have hk0 : min n (64 - r) = k := hk
        have hk1 : 1 ≤ k := by omega
        have hkn : k ≤ n := by omega
        have hrk : r + k ≤ 64 := by omega
        clear hk0
        obtain ⟨c, hc⟩ : ∃ c, (l.drop i).take k = c := ⟨_, rfl⟩
        have hcl : c.length = k := by rw [← hc, List.length_take, hn]; omega
        obtain ⟨buf2, hb2⟩ : ∃ buf2, bufP buf r c = buf2 := ⟨_, rfl⟩
        have hbl2 : buf2.length = 64 := by rw [← hb2]; exact bufP_length hH.len (by omega)
        have htk : M ++ l.take (i + k) = M ++ l.take i ++ c := by rw [← hc, List.append_assoc, ← List.take_add]
        have hlc := hH.length
        have hm : (N : Int).tmod 64 = (r : Int) := by rw [Int.tmod_eq_emod_of_nonneg (by omega)]; omega
        have hsl := slice_from64 wr.drew b 8 r hr64
        have hpos : (0 : Int) < (n : Int) := by omega
        have HNE := Lib.hid hN
        have HNR := Lib.hid hr
        have HKE := Lib.hid hk
        have HCE := Lib.hid hc
        have HCL := Lib.hid hcl
        have HB2 := Lib.hid hb2
        have HBL2 := Lib.hid hbl2
        have HTK := Lib.hid htk
        have HN' := Lib.hid hn'
        have HNL := Lib.hid hn
        have HHR := Lib.hid hH
        have HSO := Lib.hid hS
        have HML : Hid ((M ++ l.take i).length = N) := Lib.hid (hml.trans hN)
        have HCR := Lib.hid hC
        have HRG := Lib.hid hrg
        have HGB := Lib.hid hgb
        have HGL := Lib.hid hgl
        have HTC := Lib.hid htc
        have hNb : N + k ≤ 1000000000000000 := by omega
        have hkb : (k : Int) ≤ (n : Int) := by omega
        have hnb : (n : Int) ≤ 9223372036854775807 := by omega
        clear hN hr hk hc hcl hb2 hbl2 htk hn' hn hH hS hml hC hrg hgb hgl htr
        go_wp2_with fail
        go_still_tail 10, (by kernel_rfl)
        obtain ⟨W1, hW1⟩ : ∃ W1 : World, { wr with drawn := wr.drawn + 1 } = W1 := ⟨_, rfl⟩
        have hq : ∀ j : Nat, W1.heap[j]? = wr.heap[j]? := fun j => by rw [← hW1]
        have hcw : Chg (fun j => j = b) wr W1 := by rw [← hW1]; exact ⟨rfl, rfl, rfl, Nat.le_refl _, fun _ _ _ => rfl⟩
        rw [hW1]
        clear hW1 hsl hm hlc
        have hh1 := HHR.out.kept (hq b)
        have hfit : 8 + r + (bvs c).length ≤ (hcells v buf N).toArray.size := by rw [List.size_toArray, hcells_length HHR.out.len, bvs_length, HCL.out]; omega
        have hsrc : ∀ j u, (bvs c)[j]? = some u → W1.cell? ((⟨g, off, none⟩ : Addr).add j) = some u := by
          intro j u hu
          have hadd : (⟨g, off, none⟩ : Addr).add j = ⟨g, off + j, none⟩ := by unfold Addr.add; split <;> simp_all
          rw [hadd, World.cell?_of_block (hq g)]
          refine HRG.out j u ?_
          rw [← HCE.out, bvs_getElem?, List.getElem?_take] at hu
          split at hu
          · rw [bvs_getElem?]; exact hu
          · cases hu
        refine wpList_copy_own rfl (.tmp 28) (.tmp 29) 22 22 rfl 5 Tryd.underlying22 sizeU8i b (8 + r) (64 - r) (64 - r) ⟨g, off, none⟩ n tc rfl rfl (hcells v buf N).toArray _ hh1.hb (bvs c) (by rw [bvs_length, HCL.out]; exact HKE.out.symm) hsrc hfit bvs_oneCell ?_
        have esp := hcells_splice v N HHR.out.len (c := c) (r := r) (by rw [HCL.out]; omega)
        have hh2 := hh1.splice (c := c) (r := r) (by rw [HCL.out]; omega)
        have hcs : Chg (fun j => j = b) W1 (W1.setRow b (hcells v (bufP buf r c) N).toArray) := Chg.setRow b _ rfl
        rw [esp]
        obtain ⟨Wc, hWc⟩ : ∃ Wc, W1.setRow b (hcells v (bufP buf r c) N).toArray = Wc := ⟨_, rfl⟩
        rw [hWc] at hh2 hcs ⊢
        rw [HB2.out] at hh2
        have hc2 := (HCR.out.trans (hcw.trans hcs (fun _ h => .inl h)) (fun _ h => .inl h))
        have hrg2 : Wc.rangeAt g off (bvs (l.drop i)) := fun j u hu => ((hcw.trans hcs (fun _ h => .inl h)).cell (p := ⟨g, off + j, none⟩) HGB.out (HRG.out j u hu))
        have hlc2 := hh2.length
        have hfr2 := hh2.frozen
        have hgl2 : g < Wc.heap.size := Nat.lt_of_lt_of_le HGL.out (hcw.trans hcs (fun _ h => .inl h)).size
        have hch3 := Chg.setCell (F := fun j => j = b) (a := ⟨b, 72, none⟩) Wc (.int .i64 ((N : Int) + (k : Int))) rfl
        have hh3 : HashAt (Wc.setCell ⟨b, 72, none⟩ (.int .i64 ((N : Int) + (k : Int)))) b v buf2 (N + k) := hh2.setLength (N + k)
        have hc3 := hc2.trans hch3 (fun _ h => .inl h)
        have hbt := (bytesAt_cut (F := fun j => j ≠ b) HGB.out hgl2 hrg2 HNL.out HTC.out hkn).kept hch3 (fun j h e => h e)
        rw [List.drop_drop] at hbt
        have HH1 := Lib.hid hh2
        have HH3 := Lib.hid hh3
        have HC3 := Lib.hid hc3
        have HBT := Lib.hid hbt
        rw [bvs_length, HCL.out]
        clear hWc esp hcs hcw hq hh1 hh2 hc2 hrg2 hgl2 hfit hsrc hch3 hh3 hc3 hbt
        by_cases hck : tc = k
        · have hbt := HBT.out
          rw [if_pos hck] at hbt
          have HV3 := Lib.hid hbt
          clear hbt HBT
          have hnk : n = k := by have := HTC.out; omega
          by_cases hfull : r + k = 64
          · have hmod : (((N : Int) + (k : Int)) % 64 == 0) = true := by have := HNR.out; simp; omega
            obtain ⟨v', hv'⟩ : ∃ v', procW v (loadW buf2) = v' := ⟨_, rfl⟩
            have hHS9 := HSO.out.full (c := c) (by rw [HML.out, HCL.out, HNR.out]; omega)
            rw [HML.out, HNR.out, HB2.out, hv'] at hHS9
            have HS9 := Lib.hid hHS9
            have HVE := Lib.hid hv'
            clear hHS9 hv'
            go_wp2_with fail
            obtain ⟨W2, hW2⟩ : ∃ W2, Wc.setCell ⟨b, 72, none⟩ (.int .i64 ((N : Int) + (k : Int))) = W2 := ⟨_, rfl⟩
            have hh2 := HH3.out
            have hc2 := HC3.out
            have hv2 := HV3.out
            rw [hW2] at hh2 hc2 hv2 ⊢
            have HH2 := Lib.hid hh2
            have HC2 := Lib.hid hc2
            have HV2 := Lib.hid hv2
            have hka := HK.out.chg hc2 (fun e => hb e.symm)
            have HKAT := Lib.hid hka
            have hszb : (Tryd.prog.info? 123).map (·.size) = some (bvs buf2).length := by
              have : (Tryd.prog.info? 123).map (·.size) = some 64 := by kernel_rfl
              rw [this, bvs_length, HBL2.out]
            have HSZB := Lib.hid hszb
            clear hW2 hh2 hc2 hv2 hlc2 hfr2 hmod hka hszb HH3 HC3 HV3
            refine wp_region_noPanic ?_
            refine wp_region_G [13] (fun w' => Below W2.heap.size W2 w') (by kernel_rfl) ?_
            have hS0 : (fun w' => Below W2.heap.size W2 w') W2.drew := (Below.refl _ _).drew
            refine wpAnyG_take (i := 0) (v := ?v12) rfl (by kernel_rfl) (by kernel_rfl) (by kernel_rfl) (by kernel_rfl) (fun _ _ _ h => h) (yieldsIf_run rfl (fun w' hw' => ?y12)) hS0 ?_
            case y12 => first | (go_simp; rfl) | (go_simp; done) | rfl
            simp only [Act.put, List.setIfInBounds_toArray, List.set_cons_zero, List.set_cons_succ]
            refine wpAnyG_take (i := 1) (v := ?v13) rfl (by kernel_rfl) (by kernel_rfl) (by kernel_rfl) (by kernel_rfl) (fun _ _ _ h => h) (yieldsIf_run rfl (fun w' hw' => ?y13)) hS0 ?_
            case y13 => first | (go_simp; rfl) | (go_simp; done) | rfl
            simp only [Act.put, List.setIfInBounds_toArray, List.set_cons_zero, List.set_cons_succ]
            refine wpAnyG_take (i := 2) (v := ?v14) rfl (by kernel_rfl) (by kernel_rfl) (by kernel_rfl) (by kernel_rfl) (fun _ _ _ h => h) (yieldsIf_run rfl (fun w' hw' => ?y14)) hS0 ?_
            case y14 => first | (go_simp; rfl) | (go_simp; done) | rfl
            simp only [Act.put, List.setIfInBounds_toArray, List.set_cons_zero, List.set_cons_succ]
            refine wpAnyG_take (i := 3) (v := ?v15) rfl (by kernel_rfl) (by kernel_rfl) (by kernel_rfl) (by kernel_rfl) (fun _ _ _ h => h) (yieldsIf_run rfl (fun w' hw' => ?y15)) hS0 ?_
            case y15 => first | (go_simp; rfl) | (go_simp; done) | rfl
            simp only [Act.put, List.setIfInBounds_toArray, List.set_cons_zero, List.set_cons_succ]
            refine wpAnyG_take (i := 4) (v := ?v16) rfl (by kernel_rfl) (by kernel_rfl) (by kernel_rfl) (by kernel_rfl) (fun _ _ _ h => h) (yieldsIf_run rfl (fun w' hw' => ?y16)) hS0 ?_
            case y16 => (obtain ⟨e0, e1, e2, e3, e4, e5, e6, e7⟩ := (HH2.out.kept (hw'.block _ HH2.out.lt)).state; clear hw'; first | (go_simp; rfl) | (go_simp; done))
            simp only [Act.put, List.setIfInBounds_toArray, List.set_cons_zero, List.set_cons_succ]
            refine wpAnyG_take (i := 5) (v := ?v17) rfl (by kernel_rfl) (by kernel_rfl) (by kernel_rfl) (by kernel_rfl) (fun _ _ _ h => h) (yieldsIf_run rfl (fun w' hw' => ?y17)) hS0 ?_
            case y17 => first | (go_simp; rfl) | (go_simp; done) | rfl
            simp only [Act.put, List.setIfInBounds_toArray, List.set_cons_zero, List.set_cons_succ]
            refine wpAnyG_take (i := 6) (v := ?v18) rfl (by kernel_rfl) (by kernel_rfl) (by kernel_rfl) (by kernel_rfl) (fun _ _ _ h => h) (yieldsIf_run rfl (fun w' hw' => ?y18)) hS0 ?_
            case y18 => first | (go_simp; rfl) | (go_simp; done) | rfl
            simp only [Act.put, List.setIfInBounds_toArray, List.set_cons_zero, List.set_cons_succ]
            refine wpAnyG_take (i := 7) (v := ?v19) rfl (by kernel_rfl) (by kernel_rfl) (by kernel_rfl) (by kernel_rfl) (fun _ _ _ h => h) (yieldsIf_run rfl (fun w' hw' => ?y19)) hS0 ?_
            case y19 => first | (go_simp; rfl) | (go_simp; done) | rfl
            simp only [Act.put, List.setIfInBounds_toArray, List.set_cons_zero, List.set_cons_succ]
            refine wpAnyG_take (i := 8) (v := .agg (bvs buf2).toArray) rfl (by kernel_rfl) (by kernel_rfl) (by kernel_rfl) (by kernel_rfl) (fun _ _ _ h => h) (yieldsIf_run rfl (fun w' hw' => ?y20)) hS0 ?_
            case y20 => exact run_load_op 123 (.tmp 55) b 8 (bvs buf2) _ rfl rfl ((HH2.out.kept (hw'.block _ HH2.out.lt)).range) Tryd.underlying123 rfl HSZB.out
            simp only [Act.put, List.setIfInBounds_toArray, List.set_cons_zero, List.set_cons_succ]
            refine wpAnyG_do (i := 9) (by kernel_rfl) rfl rfl (fun K hK => ?_)
            go_simp
            refine (load_any buf2 HBL2.out W2.drew).mono ?_
            rintro e w3 ⟨rfl, hb3⟩
            have k3 : Below W2.heap.size W2 w3 := (Below.refl _ W2).drew.trans hb3
            refine hK _ _ k3 ?_
            clear hK K
            try simp only [Act.put, List.setIfInBounds_toArray, List.set_cons_zero, List.set_cons_succ]
            refine wpAnyG_do (i := 10) (by kernel_rfl) rfl rfl (fun K hK => ?_)
            go_simp
            have hpr : Calls Tryd.prog 67 #[Value.agg #[.int .u32 (wN v.a), .int .u32 (wN v.b), .int .u32 (wN v.c), .int .u32 (wN v.d), .int .u32 (wN v.e), .int .u32 (wN v.f), .int .u32 (wN v.g), .int .u32 (wN v.i)], .agg (wvs (loadW buf2)).toArray] w3 (fun e w' => e = .returned (.agg #[.int .u32 (wN (procW v (loadW buf2)).a), .int .u32 (wN (procW v (loadW buf2)).b), .int .u32 (wN (procW v (loadW buf2)).c), .int .u32 (wN (procW v (loadW buf2)).d), .int .u32 (wN (procW v (loadW buf2)).e), .int .u32 (wN (procW v (loadW buf2)).f), .int .u32 (wN (procW v (loadW buf2)).g), .int .u32 (wN (procW v (loadW buf2)).i)]) ∧ Below w3.heap.size w3 w') := process_any v (loadW buf2) (ldAt_length _ _) w3 (HKAT.out.below k3 HKAT.out.size)
            refine hpr.mono ?_
            rintro e w4 ⟨rfl, hb4⟩
            have k4 : Below W2.heap.size W2 w4 := k3.trans (hb4.mono k3.size)
            refine hK _ _ k4 ?_
            clear hK K
            try simp only [Act.put, List.setIfInBounds_toArray, List.set_cons_zero, List.set_cons_succ]
            refine wpAnyG_pure (i := 11) (v := ?v21) rfl (by kernel_rfl) (by kernel_rfl) (by kernel_rfl) (by kernel_rfl) (fun _ _ _ h => h) (yieldsIf_run rfl (fun w' hw' => ?y21)) (fun _ => k4) ?_
            case y21 => first | (go_simp; rfl) | (go_simp; done) | rfl
            simp only [Act.put, List.setIfInBounds_toArray, List.set_cons_zero, List.set_cons_succ]
            refine wpAnyG_pure (i := 12) (v := ?v22) rfl (by kernel_rfl) (by kernel_rfl) (by kernel_rfl) (by kernel_rfl) (fun _ _ _ h => h) (yieldsIf_run rfl (fun w' hw' => ?y22)) (fun _ => k4) ?_
            case y22 => first | (go_simp; rfl) | (go_simp; done) | rfl
            simp only [Act.put, List.setIfInBounds_toArray, List.set_cons_zero, List.set_cons_succ]
            refine wpAnyG_fin (i := 13) (by kernel_rfl) rfl rfl (by kernel_rfl) (fun K hK => ?_)
            have hh4 := HH2.out.kept (k4.block _ HH2.out.lt)
            have ef := hh4.frozen
            obtain ⟨e0, e1, e2, e3, e4, e5, e6, e7⟩ := hh4.state
            go_simp
            refine hK _ _ ?_
            clear hK K
            try simp only [Act.put, List.setIfInBounds_toArray, List.set_cons_zero, List.set_cons_succ]
            refine wpAnyG_done (by kernel_rfl) ?_ _
            refine NoPanic.normal ?_
            rw [HVE.out]
            have hh5 := hh4.setState v'
            have hg5 := grown_states w4 b (.int .u32 (wN v'.a)) (.int .u32 (wN v'.b)) (.int .u32 (wN v'.c)) (.int .u32 (wN v'.d)) (.int .u32 (wN v'.e)) (.int .u32 (wN v'.f)) (.int .u32 (wN v'.g)) (.int .u32 (wN v'.i))
            obtain ⟨W5, hW5⟩ : ∃ W5, (((((((w4.setCell ⟨b, 0, none⟩ (.int .u32 (wN v'.a))).setCell ⟨b, 1, none⟩ (.int .u32 (wN v'.b))).setCell ⟨b, 2, none⟩ (.int .u32 (wN v'.c))).setCell ⟨b, 3, none⟩ (.int .u32 (wN v'.d))).setCell ⟨b, 4, none⟩ (.int .u32 (wN v'.e))).setCell ⟨b, 5, none⟩ (.int .u32 (wN v'.f))).setCell ⟨b, 6, none⟩ (.int .u32 (wN v'.g))).setCell ⟨b, 7, none⟩ (.int .u32 (wN v'.i)) = W5 := ⟨_, rfl⟩
            rw [hW5] at hh5 hg5 ⊢
            have hc5 : Chg (fun j => j = b) W2 W5 := (Chg.of_below k4).trans (Chg.grown (F := fun j => j = b) hg5 (fun j e => .inl (Option.some.inj e).symm)) (fun _ h => .inl h)
            have hc9 := HC2.out.trans hc5 (fun _ h => .inl h)
            have HH9 := Lib.hid hh5
            have HC9 := Lib.hid hc9
            have HV9 := Lib.hid (HV2.out.kept hc5 (fun j h e => h e))
            clear hW5 hh5 hg5 hc5 hc9 hh4 ef e0 e1 e2 e3 e4 e5 e6 e7 k3 k4 hS0
            go_wp2_with fail
            go_roundw
            case rel => exact ⟨i + k, _, _, by have := HN'.out; omega, by rw [← Nat.add_assoc, HNE.out]; exact HH9.out, by rw [HTK.out]; exact HS9.out, by first | exact HV9.out | (have h9 := HV9.out; rw [show n - k = 0 by omega, show tc - k = 0 by omega] at h9; exact h9), HC9.out⟩
            case measure => simp; omega
          · have hmod : (((N : Int) + (k : Int)) % 64 == 0) = false := by have := HNR.out; simp; omega
            have hHS9 := HSO.out.part (c := c) (by rw [HML.out, HCL.out, HNR.out]; omega)
            rw [HML.out, HNR.out, HB2.out] at hHS9
            have HS9 := Lib.hid hHS9
            have HC9 := HC3
            clear hHS9
            go_wp2_with fail
            go_roundw
            case rel => exact ⟨i + k, _, _, by have := HN'.out; omega, by rw [← Nat.add_assoc, HNE.out]; exact HH3.out, by rw [HTK.out]; exact HS9.out, by first | exact HV3.out | (have h9 := HV3.out; rw [show n - k = 0 by omega, show tc - k = 0 by omega] at h9; exact h9), HC9.out⟩
            case measure => simp; omega
        · have hbt := HBT.out
          rw [if_neg hck] at hbt
          have HV3 := Lib.hid hbt
          clear hbt HBT
          by_cases hfull : r + k = 64
          · have hmod : (((N : Int) + (k : Int)) % 64 == 0) = true := by have := HNR.out; simp; omega
            obtain ⟨v', hv'⟩ : ∃ v', procW v (loadW buf2) = v' := ⟨_, rfl⟩
            have hHS9 := HSO.out.full (c := c) (by rw [HML.out, HCL.out, HNR.out]; omega)
            rw [HML.out, HNR.out, HB2.out, hv'] at hHS9
            have HS9 := Lib.hid hHS9
            have HVE := Lib.hid hv'
            clear hHS9 hv'
            go_wp2_with fail
            obtain ⟨W2, hW2⟩ : ∃ W2, Wc.setCell ⟨b, 72, none⟩ (.int .i64 ((N : Int) + (k : Int))) = W2 := ⟨_, rfl⟩
            have hh2 := HH3.out
            have hc2 := HC3.out
            have hv2 := HV3.out
            rw [hW2] at hh2 hc2 hv2 ⊢
            have HH2 := Lib.hid hh2
            have HC2 := Lib.hid hc2
            have HV2 := Lib.hid hv2
            have hka := HK.out.chg hc2 (fun e => hb e.symm)
            have HKAT := Lib.hid hka
            have hszb : (Tryd.prog.info? 123).map (·.size) = some (bvs buf2).length := by
              have : (Tryd.prog.info? 123).map (·.size) = some 64 := by kernel_rfl
              rw [this, bvs_length, HBL2.out]
            have HSZB := Lib.hid hszb
            clear hW2 hh2 hc2 hv2 hlc2 hfr2 hmod hka hszb HH3 HC3 HV3
            refine wp_region_noPanic ?_
            refine wp_region_G [13] (fun w' => Below W2.heap.size W2 w') (by kernel_rfl) ?_
            have hS0 : (fun w' => Below W2.heap.size W2 w') W2.drew := (Below.refl _ _).drew
            refine wpAnyG_take (i := 0) (v := ?v12) rfl (by kernel_rfl) (by kernel_rfl) (by kernel_rfl) (by kernel_rfl) (fun _ _ _ h => h) (yieldsIf_run rfl (fun w' hw' => ?y12)) hS0 ?_
            case y12 => first | (go_simp; rfl) | (go_simp; done) | rfl
            simp only [Act.put, List.setIfInBounds_toArray, List.set_cons_zero, List.set_cons_succ]
            refine wpAnyG_take (i := 1) (v := ?v13) rfl (by kernel_rfl) (by kernel_rfl) (by kernel_rfl) (by kernel_rfl) (fun _ _ _ h => h) (yieldsIf_run rfl (fun w' hw' => ?y13)) hS0 ?_
            case y13 => first | (go_simp; rfl) | (go_simp; done) | rfl
            simp only [Act.put, List.setIfInBounds_toArray, List.set_cons_zero, List.set_cons_succ]
            refine wpAnyG_take (i := 2) (v := ?v14) rfl (by kernel_rfl) (by kernel_rfl) (by kernel_rfl) (by kernel_rfl) (fun _ _ _ h => h) (yieldsIf_run rfl (fun w' hw' => ?y14)) hS0 ?_
            case y14 => first | (go_simp; rfl) | (go_simp; done) | rfl
            simp only [Act.put, List.setIfInBounds_toArray, List.set_cons_zero, List.set_cons_succ]
            refine wpAnyG_take (i := 3) (v := ?v15) rfl (by kernel_rfl) (by kernel_rfl) (by kernel_rfl) (by kernel_rfl) (fun _ _ _ h => h) (yieldsIf_run rfl (fun w' hw' => ?y15)) hS0 ?_
            case y15 => first | (go_simp; rfl) | (go_simp; done) | rfl
            simp only [Act.put, List.setIfInBounds_toArray, List.set_cons_zero, List.set_cons_succ]
            refine wpAnyG_take (i := 4) (v := ?v16) rfl (by kernel_rfl) (by kernel_rfl) (by kernel_rfl) (by kernel_rfl) (fun _ _ _ h => h) (yieldsIf_run rfl (fun w' hw' => ?y16)) hS0 ?_
            case y16 => (obtain ⟨e0, e1, e2, e3, e4, e5, e6, e7⟩ := (HH2.out.kept (hw'.block _ HH2.out.lt)).state; clear hw'; first | (go_simp; rfl) | (go_simp; done))
            simp only [Act.put, List.setIfInBounds_toArray, List.set_cons_zero, List.set_cons_succ]
            refine wpAnyG_take (i := 5) (v := ?v17) rfl (by kernel_rfl) (by kernel_rfl) (by kernel_rfl) (by kernel_rfl) (fun _ _ _ h => h) (yieldsIf_run rfl (fun w' hw' => ?y17)) hS0 ?_
            case y17 => first | (go_simp; rfl) | (go_simp; done) | rfl
            simp only [Act.put, List.setIfInBounds_toArray, List.set_cons_zero, List.set_cons_succ]
            refine wpAnyG_take (i := 6) (v := ?v18) rfl (by kernel_rfl) (by kernel_rfl) (by kernel_rfl) (by kernel_rfl) (fun _ _ _ h => h) (yieldsIf_run rfl (fun w' hw' => ?y18)) hS0 ?_
            case y18 => first | (go_simp; rfl) | (go_simp; done) | rfl
            simp only [Act.put, List.setIfInBounds_toArray, List.set_cons_zero, List.set_cons_succ]
            refine wpAnyG_take (i := 7) (v := ?v19) rfl (by kernel_rfl) (by kernel_rfl) (by kernel_rfl) (by kernel_rfl) (fun _ _ _ h => h) (yieldsIf_run rfl (fun w' hw' => ?y19)) hS0 ?_
            case y19 => first | (go_simp; rfl) | (go_simp; done) | rfl
            simp only [Act.put, List.setIfInBounds_toArray, List.set_cons_zero, List.set_cons_succ]
            refine wpAnyG_take (i := 8) (v := .agg (bvs buf2).toArray) rfl (by kernel_rfl) (by kernel_rfl) (by kernel_rfl) (by kernel_rfl) (fun _ _ _ h => h) (yieldsIf_run rfl (fun w' hw' => ?y20)) hS0 ?_
            case y20 => exact run_load_op 123 (.tmp 55) b 8 (bvs buf2) _ rfl rfl ((HH2.out.kept (hw'.block _ HH2.out.lt)).range) Tryd.underlying123 rfl HSZB.out
            simp only [Act.put, List.setIfInBounds_toArray, List.set_cons_zero, List.set_cons_succ]
            refine wpAnyG_do (i := 9) (by kernel_rfl) rfl rfl (fun K hK => ?_)
            go_simp
            refine (load_any buf2 HBL2.out W2.drew).mono ?_
            rintro e w3 ⟨rfl, hb3⟩
            have k3 : Below W2.heap.size W2 w3 := (Below.refl _ W2).drew.trans hb3
            refine hK _ _ k3 ?_
            clear hK K
            try simp only [Act.put, List.setIfInBounds_toArray, List.set_cons_zero, List.set_cons_succ]
            refine wpAnyG_do (i := 10) (by kernel_rfl) rfl rfl (fun K hK => ?_)
            go_simp
            have hpr : Calls Tryd.prog 67 #[Value.agg #[.int .u32 (wN v.a), .int .u32 (wN v.b), .int .u32 (wN v.c), .int .u32 (wN v.d), .int .u32 (wN v.e), .int .u32 (wN v.f), .int .u32 (wN v.g), .int .u32 (wN v.i)], .agg (wvs (loadW buf2)).toArray] w3 (fun e w' => e = .returned (.agg #[.int .u32 (wN (procW v (loadW buf2)).a), .int .u32 (wN (procW v (loadW buf2)).b), .int .u32 (wN (procW v (loadW buf2)).c), .int .u32 (wN (procW v (loadW buf2)).d), .int .u32 (wN (procW v (loadW buf2)).e), .int .u32 (wN (procW v (loadW buf2)).f), .int .u32 (wN (procW v (loadW buf2)).g), .int .u32 (wN (procW v (loadW buf2)).i)]) ∧ Below w3.heap.size w3 w') := process_any v (loadW buf2) (ldAt_length _ _) w3 (HKAT.out.below k3 HKAT.out.size)
            refine hpr.mono ?_
            rintro e w4 ⟨rfl, hb4⟩
            have k4 : Below W2.heap.size W2 w4 := k3.trans (hb4.mono k3.size)
            refine hK _ _ k4 ?_
            clear hK K
            try simp only [Act.put, List.setIfInBounds_toArray, List.set_cons_zero, List.set_cons_succ]
            refine wpAnyG_pure (i := 11) (v := ?v21) rfl (by kernel_rfl) (by kernel_rfl) (by kernel_rfl) (by kernel_rfl) (fun _ _ _ h => h) (yieldsIf_run rfl (fun w' hw' => ?y21)) (fun _ => k4) ?_
            case y21 => first | (go_simp; rfl) | (go_simp; done) | rfl
            simp only [Act.put, List.setIfInBounds_toArray, List.set_cons_zero, List.set_cons_succ]
            refine wpAnyG_pure (i := 12) (v := ?v22) rfl (by kernel_rfl) (by kernel_rfl) (by kernel_rfl) (by kernel_rfl) (fun _ _ _ h => h) (yieldsIf_run rfl (fun w' hw' => ?y22)) (fun _ => k4) ?_
            case y22 => first | (go_simp; rfl) | (go_simp; done) | rfl
            simp only [Act.put, List.setIfInBounds_toArray, List.set_cons_zero, List.set_cons_succ]
            refine wpAnyG_fin (i := 13) (by kernel_rfl) rfl rfl (by kernel_rfl) (fun K hK => ?_)
            have hh4 := HH2.out.kept (k4.block _ HH2.out.lt)
            have ef := hh4.frozen
            obtain ⟨e0, e1, e2, e3, e4, e5, e6, e7⟩ := hh4.state
            go_simp
            refine hK _ _ ?_
            clear hK K
            try simp only [Act.put, List.setIfInBounds_toArray, List.set_cons_zero, List.set_cons_succ]
            refine wpAnyG_done (by kernel_rfl) ?_ _
            refine NoPanic.normal ?_
            rw [HVE.out]
            have hh5 := hh4.setState v'
            have hg5 := grown_states w4 b (.int .u32 (wN v'.a)) (.int .u32 (wN v'.b)) (.int .u32 (wN v'.c)) (.int .u32 (wN v'.d)) (.int .u32 (wN v'.e)) (.int .u32 (wN v'.f)) (.int .u32 (wN v'.g)) (.int .u32 (wN v'.i))
            obtain ⟨W5, hW5⟩ : ∃ W5, (((((((w4.setCell ⟨b, 0, none⟩ (.int .u32 (wN v'.a))).setCell ⟨b, 1, none⟩ (.int .u32 (wN v'.b))).setCell ⟨b, 2, none⟩ (.int .u32 (wN v'.c))).setCell ⟨b, 3, none⟩ (.int .u32 (wN v'.d))).setCell ⟨b, 4, none⟩ (.int .u32 (wN v'.e))).setCell ⟨b, 5, none⟩ (.int .u32 (wN v'.f))).setCell ⟨b, 6, none⟩ (.int .u32 (wN v'.g))).setCell ⟨b, 7, none⟩ (.int .u32 (wN v'.i)) = W5 := ⟨_, rfl⟩
            rw [hW5] at hh5 hg5 ⊢
            have hc5 : Chg (fun j => j = b) W2 W5 := (Chg.of_below k4).trans (Chg.grown (F := fun j => j = b) hg5 (fun j e => .inl (Option.some.inj e).symm)) (fun _ h => .inl h)
            have hc9 := HC2.out.trans hc5 (fun _ h => .inl h)
            have HH9 := Lib.hid hh5
            have HC9 := Lib.hid hc9
            have HV9 := Lib.hid (HV2.out.kept hc5 (fun j h e => h e))
            clear hW5 hh5 hg5 hc5 hc9 hh4 ef e0 e1 e2 e3 e4 e5 e6 e7 k3 k4 hS0
            go_wp2_with fail
            go_roundw
            case rel => exact ⟨i + k, _, _, by have := HN'.out; omega, by rw [← Nat.add_assoc, HNE.out]; exact HH9.out, by rw [HTK.out]; exact HS9.out, by first | exact HV9.out | (have h9 := HV9.out; rw [show n - k = 0 by omega, show tc - k = 0 by omega] at h9; exact h9), HC9.out⟩
            case measure => simp; omega
          · have hmod : (((N : Int) + (k : Int)) % 64 == 0) = false := by have := HNR.out; simp; omega
            have hHS9 := HSO.out.part (c := c) (by rw [HML.out, HCL.out, HNR.out]; omega)
            rw [HML.out, HNR.out, HB2.out] at hHS9
            have HS9 := Lib.hid hHS9
            have HC9 := HC3
            clear hHS9
            go_wp2_with fail
            go_roundw
            case rel => exact ⟨i + k, _, _, by have := HN'.out; omega, by rw [← Nat.add_assoc, HNE.out]; exact HH3.out, by rw [HTK.out]; exact HS9.out, by first | exact HV3.out | (have h9 := HV3.out; rw [show n - k = 0 by omega, show tc - k = 0 by omega] at h9; exact h9), HC9.out⟩
            case measure => simp; omega
      · obtain rfl : i = l.length := by omega
        have hV2 : ∃ ta tc, u1 = Value.slice ta 0 tc := by
          obtain ⟨ta, tc, e, _⟩ := hV
          exact ⟨ta, tc, by rw [e]; simp⟩
        obtain ⟨ta, tc, rfl⟩ := hV2
        rw [List.take_length] at hS
        have HHe := Lib.hid hH
        have HSe := Lib.hid hS
        have HCe := Lib.hid hC
        clear hH hS hC hV hml
        go_wp2_with fail
        go_ret
        exact ⟨rfl, v, buf, by rw [List.length_append]; exact HHe.out, HSe.out, HCe.out⟩


end Go.Proofs.YtloaenknhkfaeaaDoor
