/- Restart; Flush; 32-bit words as values: how Go's operators act on them. No program in sight; sha256: rotate, plus, round. -/
import Derived.Test.YtplclpileejemaaDoorJB2
import Derived.Test.YtplclpileejemaaDoorJB1
import Derived.Laws.BitsAllLaws
import Derived.Laws.Shifts
import Derived.Test.YtplclpileejemaaDoorProg
namespace Go.Proofs.YtplclpileejemaaDoor
open Go.RowKit
set_option linter.unusedVariables false
set_option linter.unusedSimpArgs false

/-- The durable contents when the first k pending writes have been applied by their choices. -/
def rdur (S : DS) (cs : List UInt8) : Nat → List (List UInt8)
  | 0 => S.dur
  | k + 1 => match S.pend[k]? with
    | some x => (rdur S cs k).set x.1 (fate ((rdur S cs k).getD x.1 zeros) x.2 (cs.getD k 0).toNat)
    | none => rdur S cs k
def DS.restart (S : DS) (cs : List UInt8) : DS × Int :=
  if S.down then ({ dur := rdur S cs S.pend.length, pend := [], ops := S.ops, limit := none, down := false }, 0) else (S, 10)

theorem rdur_length (S : DS) (cs : List UInt8) : ∀ k, (rdur S cs k).length = S.dur.length
  | 0 => rfl
  | k + 1 => by
    have := rdur_length S cs k
    unfold rdur
    cases S.pend[k]? with
    | none => exact this
    | some x => simpa using this
theorem rdur_256 {S : DS} (h : S.ok) (cs : List UInt8) : ∀ k, ∀ x ∈ rdur S cs k, x.length = 256
  | 0 => h.dur
  | k + 1 => by
    have ih := rdur_256 h cs k
    unfold rdur
    cases hp : S.pend[k]? with
    | none => exact ih
    | some y =>
      intro x hx
      have hy := h.pend y (List.mem_of_getElem? hp)
      rcases List.mem_or_eq_of_mem_set hx with h1 | h1
      · exact ih x h1
      · rw [h1]
        refine fate_length ?_ hy.2 _
        have hl := rdur_length S cs k
        have hlt : y.1 < (rdur S cs k).length := by omega
        have : (rdur S cs k).getD y.1 zeros = (rdur S cs k)[y.1] := by simp [hlt]
        rw [this]
        exact ih _ (List.getElem_mem _)

theorem run_lookup_op {P : Program} {w : World} {ρ : Operand → Value} {o : Oper} {m k v : Value} (t : TypeId) (x y : Operand) (ho : o.op = .lookup t x y false) (hx : ρ x = m) (hy : ρ y = k)
    (hr : (Instr.lookup t m k false).run P w = .ok v w) : (execOp ρ o).run P w = .ok (.value v) w := by
  unfold execOp
  simp only [ho, hx, hy, Sem.run_bind, hr, Result.andThen_ok]
  rfl

set_option maxRecDepth 100000 in
set_option maxHeartbeats 2000000 in
theorem Restart_down {w : World} {F G : Nat → Prop} {b : Nat} {S : DS} (v : Value) (cs : List UInt8) (h : DiskAt w F b S) (hv : BytesAt w G v cs) (hFG : ∀ k, F k → ¬ G k) (hd : S.down = true)
    (hlen : S.pend.length < 100000000000) (hcl : cs.length ≤ 9223372036854775807) :
    Calls Tryd.prog 32 #[.pointer (some ⟨b, 0, none⟩), v] w fun e w' => e = .returned (.int .i64 0) ∧
      DiskAt w' F b (S.restart cs).1 ∧ Chg F w w' := by
  obtain ⟨hok, m, pv, hx⟩ := h
  obtain ⟨c0, c1, c2, c3, c4, c5, c6, f⟩ := hx.cells
  rw [hd] at c6
  have hl : ∀ x ∈ S.pend, x.2.length = 256 := fun x h => (hok.pend x h).2
  have hP := pendAt_of hl hx.hp
  obtain ⟨a, cap, rfl, hcap, hr⟩ := hv
  obtain ⟨pa, pcap, hpv⟩ : ∃ a cap, pv = .slice a S.pend.length cap := by
    rcases hP with ⟨rfl, e⟩ | ⟨g, cap, rfl, _⟩
    · exact ⟨none, 0, by rw [e]; rfl⟩
    · exact ⟨_, _, rfl⟩
  subst hpv
  have HX := Lib.hid hx
  have HOK := Lib.hid hok
  have HL := Lib.hid hl
  have HP := Lib.hid hP
  have HR := Lib.hid hr
  have HD := Lib.hid hd
  clear hx hok hl hP hr hd
  go_enter Tryd.func32, Tryd.ntmps32
  have hmk := heap_alloc_new w (.cells #[.nilFunc, .nilFunc, .nilFunc] 97)
  have hs87 : (Tryd.prog.info? 97).map (·.size) = some 3 := by kernel_rfl
  have hsz : (#[Value.nilFunc, Value.nilFunc, Value.nilFunc] : Array Value).size = (#[Value.func (.func 50) #[] #[], .func (.func 51) #[] #[], .func (.func 52) #[] #[]] : Array Value).size := rfl
  have hone : (#[Value.func (.func 50) #[] #[], .func (.func 51) #[] #[], .func (.func 52) #[] #[]] : Array Value).all (·.oneCell') = true := by simp [Value.oneCell']
  have hs3 : (Tryd.prog.info? 97).map (·.size) = some (#[Value.func (.func 50) #[] #[], .func (.func 51) #[] #[], .func (.func 52) #[] #[]] : Array Value).size := hs87
  have H87 := Lib.hid hs3
  have HMK := Lib.hid hmk
  have HSZ3 := Lib.hid hsz
  have HONE := Lib.hid hone
  clear hs87 hmk hsz hone hs3
  obtain ⟨w1, hw1⟩ : ∃ w1, w.alloc (.cells #[.func (.func 50) #[] #[], .func (.func 51) #[] #[], .func (.func 52) #[] #[]] 97) = w1 := ⟨_, rfl⟩
  have hC1 : Chg F w w1 := hw1 ▸ Chg.alloc w _
  have hsz1 : w1.heap.size = w.heap.size + 1 := by rw [← hw1, World.size_alloc]
  have hfs : w1.heap[w.heap.size]? = some (.cells #[.func (.func 50) #[] #[], .func (.func 51) #[] #[], .func (.func 52) #[] #[]] 97 (0, 0)) := by rw [← hw1]; exact heap_alloc_new _ _
  have hx1 : DiskX w1 F b m (.slice pa S.pend.length pcap) S := HX.out.chg (G := fun _ => False) (hw1 ▸ Chg.alloc w _) (fun _ _ h => h)
  have d2 := hx1.cells.2.2.1
  have HFS := Lib.hid hfs
  have HX1 := Lib.hid hx1
  have HC1 := Lib.hid hC1
  have HS1 := Lib.hid hsz1
  have HW1 := Lib.hid hw1
  clear hfs hx1 hC1 hsz1 hw1
  go_wp2_with (first | (with_reducible refine wpList_store_row rfl 97 _ _ rfl w.heap.size #[.func (.func 50) #[] #[], .func (.func 51) #[] #[], .func (.func 52) #[] #[]] rfl rfl 97 #[.nilFunc, .nilFunc, .nilFunc] HMK.out H87.out HSZ3.out HONE.out ?_; rw [World.setRow_alloc_new, HW1.out]))
  clear HMK H87 HSZ3 HONE c0 c1 c2 c3 c4 c5 c6 f d2
  go_loopw [22] (fun i wr => ∃ k : Nat, k ≤ S.pend.length ∧ i = .int .i64 (k : Int) ∧ MapIs wr m S.dur.length zeros (fun i => (rdur S cs k).getD i zeros) ∧ Chg (fun i => i = m) w1 wr)
    (fun i _ => S.pend.length - (intOf i).toNat)
  case atStart => exact ⟨0, Nat.zero_le _, rfl, HX1.out.hm, Chg.refl _ _⟩
  case round =>
    obtain ⟨k, hk, rfl, hM, hC⟩ := hrel
    by_cases hlt : k < S.pend.length
    · have hP1 := pendAt_of HL.out HX1.out.hp
      rcases hP1 with ⟨_, e2⟩ | ⟨g, cap', e1, hg, hr⟩
      · rw [e2] at hlt; simp at hlt
      simp only [Value.slice.injEq] at e1
      obtain ⟨rfl, _, rfl⟩ := e1
      have hgm : g ≠ m := fun e => HX1.out.pm (by rw [e]; rfl)
      obtain ⟨x1, x2, hx⟩ : ∃ x1 x2, S.pend[k] = (x1, x2) := ⟨_, _, rfl⟩
      have hxm : (x1, x2) ∈ S.pend := hx ▸ List.getElem_mem hlt
      have hx1 : x1 < S.dur.length := (HOK.out.pend _ hxm).1
      have hx2 : x2.length = 256 := (HOK.out.pend _ hxm).2
      have hrq : wr.rangeAt g (k * 257) (wcells (x1, x2)) := fun j u hu => (World.cell?_of_block (hC.block g hg hgm)).trans (hr k hlt j u (by rw [hx]; exact hu))
      have hwl : (wcells (x1, x2)).length = 257 := wcells_length hx2
      have hsw : (Tryd.prog.info? 94).map (·.size) = some (wcells (x1, x2)).length := by rw [hwl]; exact sizeWrite
      have hsw2 : (Tryd.prog.info? 94).map (·.size) = some (wcells (x1, x2)).toArray.size := by rw [List.size_toArray]; exact hsw
      have hsw3 : (Tryd.zeroCells94).size = (wcells (x1, x2)).toArray.size := by rw [zc82, List.size_toArray, List.size_toArray, hwl]; exact wcells_length zeros_length
      have hnw := heap_alloc_new wr (.cells Tryd.zeroCells94 94)
      obtain ⟨W1, hW1⟩ : ∃ W1, wr.alloc (.cells (wcells (x1, x2)).toArray 94) = W1 := ⟨_, rfl⟩
      have hbr : b < wr.heap.size := Nat.lt_of_lt_of_le HX1.out.lt hC.size
      have hmr : m < wr.heap.size := hM.lt
      have hwr : w.heap.size < wr.heap.size := by have := HS1.out; have := hC.size; omega
      have hbk : ∀ i, i < wr.heap.size → W1.heap[i]? = wr.heap[i]? := fun i hi => by rw [← hW1]; exact Below.heap_alloc wr _ i hi
      have hW1s : W1.heap.size = wr.heap.size + 1 := by rw [← hW1, World.size_alloc]
      have hW1n : W1.heap[wr.heap.size]? = some (.cells (wcells (x1, x2)).toArray 94 (0, 0)) := by rw [← hW1]; exact heap_alloc_new _ _
      obtain ⟨p2, p4⟩ := mid_of_row (c := .int .i64 (x1 : Int)) (l := bvs x2) hW1n
      have hb1 : W1.heap[b]? = w1.heap[b]? := (hbk b hbr).trans (hC.block b HX1.out.lt (fun e => HX1.out.mb e.symm))
      obtain ⟨d0, p1, d2, d3, d4, d5, d6, df⟩ := cells_of (hb1.trans HX1.out.hb)
      have p5 : MapIs W1 m S.dur.length zeros (fun i => (rdur S cs k).getD i zeros) := hM.kept (hbk m hmr)
      have hfs1 : W1.heap[w.heap.size]? = _ := ((hbk _ hwr).trans (hC.block _ (by have := HS1.out; omega) (fun e => by have := HX.out.hm.lt; omega))).trans HFS.out
      have hwlt : w.heap.size < W1.heap.size := by omega
      obtain ⟨c, hc⟩ : ∃ c, c = (cs.getD k 0).toNat := ⟨_, rfl⟩
      have hc255 : c ≤ 255 := by rw [hc]; have := (cs.getD k 0).toNat_lt; omega
      obtain ⟨B0, hB0⟩ : ∃ B0, B0 = (rdur S cs k).getD x1 zeros := ⟨_, rfl⟩
      have hB0l : B0.length = 256 := by
        have hl := rdur_length S cs k
        have hlt' : x1 < (rdur S cs k).length := by omega
        have e3 : (rdur S cs k).getD x1 zeros = (rdur S cs k)[x1] := by simp [hlt']
        rw [hB0, e3]
        exact rdur_256 HOK.out cs k _ (List.getElem_mem _)
      obtain ⟨V, hV⟩ : ∃ V, V = fate B0 x2 c := ⟨_, rfl⟩
      have hVl : V.length = zeros.length := by rw [hV, zeros_length]; exact fate_length hB0l hx2 c
      have hch : ∃ r fr : Nat, r < 3 ∧ (c : Int).tmod 3 = (r : Int) ∧ W1.cell? ⟨w.heap.size, r, none⟩ = some (.func (.func fr) #[] #[]) ∧ (∀ args w, (callFunc fr args).run Tryd.prog w = .ok (.enter fr args) w) ∧
          ∀ w : World, Calls Tryd.prog fr #[cval B0, cval x2, .int .i64 (c : Int)] w fun e w' => e = .returned (cval V) ∧ Below w.heap.size w w' := by
        have hf3 : c % 3 = 0 ∨ c % 3 = 1 ∨ c % 3 = 2 := by omega
        rcases hf3 with h | h | h
        · exact ⟨0, 50, by omega, by rw [Int.tmod_eq_emod_of_nonneg (by omega)]; omega, by rw [cell_of_row W1 _ _ _ _ _ hfs1]; rfl, run_call_enter Tryd.func50 (by kernel_rfl) rfl, fun w => by
            have e4 : V = B0 := by rw [hV]; simp [fate, h]
            rw [e4]; exact fate0 B0 x2 hB0l _ w⟩
        · exact ⟨1, 51, by omega, by rw [Int.tmod_eq_emod_of_nonneg (by omega)]; omega, by rw [cell_of_row W1 _ _ _ _ _ hfs1]; rfl, run_call_enter Tryd.func51 (by kernel_rfl) rfl, fun w => by
            have e4 : V = x2 := by rw [hV]; simp [fate, h]
            rw [e4]; exact fate1 B0 x2 hx2 _ w⟩
        · exact ⟨2, 52, by omega, by rw [Int.tmod_eq_emod_of_nonneg (by omega)]; omega, by rw [cell_of_row W1 _ _ _ _ _ hfs1]; rfl, run_call_enter Tryd.func52 (by kernel_rfl) rfl, fun w => by
            have e4 : V = x2.take (c / 3 % 17 * 16) ++ B0.drop (c / 3 % 17 * 16) := by rw [hV]; unfold fate; rw [if_neg (by omega), if_neg (by omega)]
            rw [e4]; exact fate2 B0 x2 hB0l hx2 c hc255 w⟩
      obtain ⟨r, fr, hr3, hcr, p3, hcall, hfate⟩ := hch
      have hext : ∀ i, i < S.dur.length → (fun i => if i = x1 then V else (rdur S cs k).getD i zeros) i = (fun i => (rdur S cs (k + 1)).getD i zeros) i := by
        intro i hi
        have hl := rdur_length S cs k
        have e5 : rdur S cs (k + 1) = (rdur S cs k).set x1 V := by
          have e6 : S.pend[k]? = some (x1, x2) := by rw [List.getElem?_eq_getElem hlt, hx]
          rw [hV, hB0, hc]
          conv => lhs; unfold rdur
          simp only [e6]
        show (if i = x1 then V else (rdur S cs k).getD i zeros) = (rdur S cs (k + 1)).getD i zeros
        rw [e5]
        simp only [List.getD_eq_getElem?_getD, List.getElem?_set]
        by_cases hix : i = x1
        · subst hix
          simp [show i < (rdur S cs k).length by omega]
        · simp [hix, Ne.symm hix]
      have hcr2 : ∀ w2 w3, Below W1.drew.heap.size W1.drew w2 → w2.grownBy w3 (some m) → Chg (fun i => i = m) w1 w3 := fun w2 w3 hb2 hg3 =>
        ((hC.trans (hW1 ▸ Chg.alloc (F := fun i => i = m) wr _) (fun _ h => .inl h)).trans ((Chg.refl (fun i => i = m) W1).drew.trans (Chg.of_below hb2) (fun _ h => .inl h)) (fun _ h => .inl h)).trans (Chg.grown (F := fun i => i = m) hg3 (fun k e => .inl (Option.some.inj e).symm)) (fun _ h => .inl h)
      have hbl : b < W1.drew.heap.size ∧ wr.heap.size < W1.drew.heap.size ∧ w.heap.size < W1.drew.heap.size ∧ m < W1.drew.heap.size := ⟨by show b < W1.heap.size; omega, by show _ < W1.heap.size; omega, hwlt, by show m < W1.heap.size; omega⟩
      have hsz80 : (Tryd.prog.info? 92).map (·.size) = some (bvs x2).length := by have := sizeContents hx2; rw [List.size_toArray] at this; exact this
      have HRQ := Lib.hid hrq
      have HSW := Lib.hid hsw
      have HSW2 := Lib.hid hsw2
      have HSW3 := Lib.hid hsw3
      have HNW := Lib.hid hnw
      have HW2 := Lib.hid hW1
      have HXK := Lib.hid hx1
      have HBe := Lib.hid hB0
      have HSZ := Lib.hid hsz80
      have HFate := Lib.hid hfate
      have HEXT := Lib.hid hext
      have HCR := Lib.hid hcr2
      have HBL := Lib.hid hbl
      have HV := Lib.hid hVl
      have HP2 := Lib.hid p2
      have HP3 := Lib.hid p3
      have HM := Lib.hid hM
      have HC := Lib.hid hC
      have HCC := Lib.hid hc
      clear hc hrq hsw hsw2 hsw3 hnw hW1 hx1 hB0 hsz80 hfate hext hcr2 hbl hVl hM hC d0 d2 d3 d4 d5 d6 df hr hx hxm hbk hW1s hW1n hb1 hfs1 hV hB0l hgm hg hwl hx2
      clear hwlt hwr hbr hmr
      by_cases hkc : k < cs.length
      · obtain ⟨gb, ob, rfl, hGb, hgb, hrb⟩ := HR.out (by intro e; rw [e] at hkc; simp at hkc)
        have hby : W1.cell? ⟨gb, ob + k, none⟩ = some (.int .u8 (c : Int)) := by
          have h1 : w.cell? ⟨gb, ob + k, none⟩ = some (.int .u8 (c : Int)) := hrb k _ (by
            have e7 : cs.getD k 0 = cs[k] := by simp [hkc]
            rw [bvs_getElem?, List.getElem?_eq_getElem hkc, HCC.out, e7]; rfl)
          have h2 : w1.cell? ⟨gb, ob + k, none⟩ = _ := HC1.out.cell (p := ⟨gb, ob + k, none⟩) (fun hf => hFG gb hf hGb) h1
          have h3 : wr.cell? ⟨gb, ob + k, none⟩ = _ := HC.out.cell (p := ⟨gb, ob + k, none⟩) (fun e => hFG gb (by have e' : gb = m := e; rw [e']; exact HX.out.fm) hGb) h2
          rw [← HW2.out]
          exact (World.cell?_of_block (Below.heap_alloc wr _ gb (World.block_lt_of_cell? wr ⟨gb, ob + k, none⟩ h3))).trans h3
        clear hrb
        go_wp2_with (first | (with_reducible refine wpList_load_mid rfl 94 _ rfl g (k * 257) rfl (wcells (x1, x2)) _ HRQ.out Tryd.underlying94 rfl HSW.out ?_) | (with_reducible refine wpList_store_row rfl 94 _ _ rfl wr.heap.size (wcells (x1, x2)).toArray rfl rfl 94 Tryd.zeroCells94 HNW.out HSW2.out HSW3.out (oneCell_wcells _) ?_; rw [World.setRow_alloc_new, HW2.out]))
        refine wp_region_noPanic ?_
        refine wp_region_F 21 (fun w' => w'.cell? ⟨b, 1, none⟩ = some (.map (some m)) ∧ w'.cell? ⟨wr.heap.size, 0, none⟩ = some (.int .i64 (x1 : Int)) ∧ w'.cell? ⟨w.heap.size, r, none⟩ = some (.func (.func fr) #[] #[]) ∧ w'.rangeAt wr.heap.size 1 (bvs x2) ∧ MapIs w' m S.dur.length zeros (fun i => (rdur S cs k).getD i zeros)) (by kernel_rfl) ?_
        have hS0 : (fun w' => w'.cell? ⟨b, 1, none⟩ = some (.map (some m)) ∧ w'.cell? ⟨wr.heap.size, 0, none⟩ = some (.int .i64 (x1 : Int)) ∧ w'.cell? ⟨w.heap.size, r, none⟩ = some (.func (.func fr) #[] #[]) ∧ w'.rangeAt wr.heap.size 1 (bvs x2) ∧ MapIs w' m S.dur.length zeros (fun i => (rdur S cs k).getD i zeros)) W1.drew := ⟨p1, p2, p3, p4, p5.kept rfl⟩
        refine wpAnyF_take (i := 0) (fin := 21) (v := .pointer (some ⟨b, 0, none⟩)) rfl (by kernel_rfl) (by kernel_rfl) (by kernel_rfl) (by kernel_rfl) (fun _ _ _ h => h) (yieldsIf_run rfl (fun w' hw' => ?_)) hS0 ?_
        · rfl
        simp only [Act.put, List.setIfInBounds_toArray, List.set_cons_zero, List.set_cons_succ]
        refine wpAnyF_take (i := 1) (fin := 21) (v := .pointer (some ⟨b, 0, none⟩)) rfl (by kernel_rfl) (by kernel_rfl) (by kernel_rfl) (by kernel_rfl) (fun _ _ _ h => h) (yieldsIf_run rfl (fun w' hw' => ?_)) hS0 ?_
        · go_simp
        simp only [Act.put, List.setIfInBounds_toArray, List.set_cons_zero, List.set_cons_succ]
        refine wpAnyF_take (i := 2) (fin := 21) (v := .pointer (some ⟨b, 1, none⟩)) rfl (by kernel_rfl) (by kernel_rfl) (by kernel_rfl) (by kernel_rfl) (fun _ _ _ h => h) (yieldsIf_run rfl (fun w' hw' => ?_)) hS0 ?_
        · go_simp
        simp only [Act.put, List.setIfInBounds_toArray, List.set_cons_zero, List.set_cons_succ]
        refine wpAnyF_take (i := 3) (fin := 21) (v := .map (some m)) rfl (by kernel_rfl) (by kernel_rfl) (by kernel_rfl) (by kernel_rfl) (fun _ _ _ h => h) (yieldsIf_run rfl (fun w' hw' => ?_)) hS0 ?_
        · (have h4 := hw'.1; clear hw'; go_simp)
        simp only [Act.put, List.setIfInBounds_toArray, List.set_cons_zero, List.set_cons_succ]
        refine wpAnyF_take (i := 4) (fin := 21) (v := .pointer (some ⟨wr.heap.size, 0, none⟩)) rfl (by kernel_rfl) (by kernel_rfl) (by kernel_rfl) (by kernel_rfl) (fun _ _ _ h => h) (yieldsIf_run rfl (fun w' hw' => ?_)) hS0 ?_
        · go_simp
        simp only [Act.put, List.setIfInBounds_toArray, List.set_cons_zero, List.set_cons_succ]
        refine wpAnyF_take (i := 5) (fin := 21) (v := .int .i64 (x1 : Int)) rfl (by kernel_rfl) (by kernel_rfl) (by kernel_rfl) (by kernel_rfl) (fun _ _ _ h => h) (yieldsIf_run rfl (fun w' hw' => ?_)) hS0 ?_
        · (have h4 := hw'.2.1; clear hw'; go_simp)
        simp only [Act.put, List.setIfInBounds_toArray, List.set_cons_zero, List.set_cons_succ]
        refine wpAnyF_take (i := 6) (fin := 21) (v := .int .i64 (c : Int)) rfl (by kernel_rfl) (by kernel_rfl) (by kernel_rfl) (by kernel_rfl) (fun _ _ _ h => h) (yieldsIf_run rfl (fun w' hw' => ?_)) hS0 ?_
        · rfl
        simp only [Act.put, List.setIfInBounds_toArray, List.set_cons_zero, List.set_cons_succ]
        refine wpAnyF_take (i := 7) (fin := 21) (v := .int .i64 (r : Int)) rfl (by kernel_rfl) (by kernel_rfl) (by kernel_rfl) (by kernel_rfl) (fun _ _ _ h => h) (yieldsIf_run rfl (fun w' hw' => ?_)) hS0 ?_
        · go_simp
        simp only [Act.put, List.setIfInBounds_toArray, List.set_cons_zero, List.set_cons_succ]
        refine wpAnyF_take (i := 8) (fin := 21) (v := .pointer (some ⟨w.heap.size, r, none⟩)) rfl (by kernel_rfl) (by kernel_rfl) (by kernel_rfl) (by kernel_rfl) (fun _ _ _ h => h) (yieldsIf_run rfl (fun w' hw' => ?_)) hS0 ?_
        · (have h3 : ¬ (3 : Int) ≤ (r : Int) := (by omega); go_simp)
        simp only [Act.put, List.setIfInBounds_toArray, List.set_cons_zero, List.set_cons_succ]
        refine wpAnyF_take (i := 9) (fin := 21) (v := .func (.func fr) #[] #[]) rfl (by kernel_rfl) (by kernel_rfl) (by kernel_rfl) (by kernel_rfl) (fun _ _ _ h => h) (yieldsIf_run rfl (fun w' hw' => ?_)) hS0 ?_
        · (have h4 := hw'.2.2.1; clear hw'; go_simp)
        simp only [Act.put, List.setIfInBounds_toArray, List.set_cons_zero, List.set_cons_succ]
        refine wpAnyF_take (i := 10) (fin := 21) (v := .pointer (some ⟨b, 0, none⟩)) rfl (by kernel_rfl) (by kernel_rfl) (by kernel_rfl) (by kernel_rfl) (fun _ _ _ h => h) (yieldsIf_run rfl (fun w' hw' => ?_)) hS0 ?_
        · rfl
        simp only [Act.put, List.setIfInBounds_toArray, List.set_cons_zero, List.set_cons_succ]
        refine wpAnyF_take (i := 11) (fin := 21) (v := .pointer (some ⟨b, 0, none⟩)) rfl (by kernel_rfl) (by kernel_rfl) (by kernel_rfl) (by kernel_rfl) (fun _ _ _ h => h) (yieldsIf_run rfl (fun w' hw' => ?_)) hS0 ?_
        · go_simp
        simp only [Act.put, List.setIfInBounds_toArray, List.set_cons_zero, List.set_cons_succ]
        refine wpAnyF_take (i := 12) (fin := 21) (v := .pointer (some ⟨b, 1, none⟩)) rfl (by kernel_rfl) (by kernel_rfl) (by kernel_rfl) (by kernel_rfl) (fun _ _ _ h => h) (yieldsIf_run rfl (fun w' hw' => ?_)) hS0 ?_
        · go_simp
        simp only [Act.put, List.setIfInBounds_toArray, List.set_cons_zero, List.set_cons_succ]
        refine wpAnyF_take (i := 13) (fin := 21) (v := .map (some m)) rfl (by kernel_rfl) (by kernel_rfl) (by kernel_rfl) (by kernel_rfl) (fun _ _ _ h => h) (yieldsIf_run rfl (fun w' hw' => ?_)) hS0 ?_
        · (have h4 := hw'.1; clear hw'; go_simp)
        simp only [Act.put, List.setIfInBounds_toArray, List.set_cons_zero, List.set_cons_succ]
        refine wpAnyF_take (i := 14) (fin := 21) (v := .pointer (some ⟨wr.heap.size, 0, none⟩)) rfl (by kernel_rfl) (by kernel_rfl) (by kernel_rfl) (by kernel_rfl) (fun _ _ _ h => h) (yieldsIf_run rfl (fun w' hw' => ?_)) hS0 ?_
        · go_simp
        simp only [Act.put, List.setIfInBounds_toArray, List.set_cons_zero, List.set_cons_succ]
        refine wpAnyF_take (i := 15) (fin := 21) (v := .int .i64 (x1 : Int)) rfl (by kernel_rfl) (by kernel_rfl) (by kernel_rfl) (by kernel_rfl) (fun _ _ _ h => h) (yieldsIf_run rfl (fun w' hw' => ?_)) hS0 ?_
        · (have h4 := hw'.2.1; clear hw'; go_simp)
        simp only [Act.put, List.setIfInBounds_toArray, List.set_cons_zero, List.set_cons_succ]
        refine wpAnyF_take (i := 16) (fin := 21) (v := cval B0) rfl (by kernel_rfl) (by kernel_rfl) (by kernel_rfl) (by kernel_rfl) (fun _ _ _ h => h) (yieldsIf_run rfl (fun w' hw' => ?_)) hS0 ?_
        · exact run_lookup_op 70 (.tmp 49) (.tmp 51) rfl rfl rfl (by have := hw'.2.2.2.2.lookup Tryd.underlying70 Tryd.underlying3 zeroLookup HXK.out; rw [← HBe.out] at this; exact this)
        simp only [Act.put, List.setIfInBounds_toArray, List.set_cons_zero, List.set_cons_succ]
        refine wpAnyF_take (i := 17) (fin := 21) (v := .pointer (some ⟨wr.heap.size, 1, none⟩)) rfl (by kernel_rfl) (by kernel_rfl) (by kernel_rfl) (by kernel_rfl) (fun _ _ _ h => h) (yieldsIf_run rfl (fun w' hw' => ?_)) hS0 ?_
        · go_simp
        simp only [Act.put, List.setIfInBounds_toArray, List.set_cons_zero, List.set_cons_succ]
        refine wpAnyF_take (i := 18) (fin := 21) (v := .agg (bvs x2).toArray) rfl (by kernel_rfl) (by kernel_rfl) (by kernel_rfl) (by kernel_rfl) (fun _ _ _ h => h) (yieldsIf_run rfl (fun w' hw' => ?_)) hS0 ?_
        · exact run_load_op 92 (.tmp 53) wr.heap.size 1 (bvs x2) _ rfl rfl hw'.2.2.2.1 Tryd.underlying92 rfl HSZ.out
        simp only [Act.put, List.setIfInBounds_toArray, List.set_cons_zero, List.set_cons_succ]
        refine wpAnyF_take (i := 19) (fin := 21) (v := .int .i64 (c : Int)) rfl (by kernel_rfl) (by kernel_rfl) (by kernel_rfl) (by kernel_rfl) (fun _ _ _ h => h) (yieldsIf_run rfl (fun w' hw' => ?_)) hS0 ?_
        · rfl
        simp only [Act.put, List.setIfInBounds_toArray, List.set_cons_zero, List.set_cons_succ]
        refine wpAnyF_do (i := 20) (by kernel_rfl) rfl rfl (fun K hK => ?_)
        go_simp
        refine (HFate.out W1.drew).mono ?_
        rintro e w2 ⟨rfl, hb2⟩
        have q1 : w2.cell? ⟨b, 1, none⟩ = some (.map (some m)) := hb2.cell (p := ⟨b, 1, none⟩) HBL.out.1 |>.trans p1
        have q2 : w2.cell? ⟨wr.heap.size, 0, none⟩ = some (.int .i64 (x1 : Int)) := hb2.cell (p := ⟨wr.heap.size, 0, none⟩) HBL.out.2.1 |>.trans p2
        have q3 : w2.cell? ⟨w.heap.size, r, none⟩ = some (.func (.func fr) #[] #[]) := hb2.cell (p := ⟨w.heap.size, r, none⟩) HBL.out.2.2.1 |>.trans p3
        have q4 : w2.rangeAt wr.heap.size 1 (bvs x2) := fun j u hu => (hb2.cell (p := ⟨wr.heap.size, 1 + j, none⟩) HBL.out.2.1).trans (p4 j u hu)
        have q5 : MapIs w2 m S.dur.length zeros (fun i => (rdur S cs k).getD i zeros) := p5.kept (hb2.block m HBL.out.2.2.2)
        refine hK _ _ (fun _ => ⟨q1, q2, q3, q4, q5⟩) ?_
        clear hK K
        obtain ⟨w3, hrun3, hM3, hg3⟩ := q5.update Tryd.underlying70 Tryd.underlying3 HXK.out V HV.out
        refine wpAnyF_do (i := 21) (by kernel_rfl) rfl rfl (fun K hK => ?_)
        go_simp
        refine hK _ _ (fun h => absurd rfl h) ?_
        clear hK K
        refine wpAnyF_done (by kernel_rfl) ?_ _
        refine NoPanic.normal ?_
        go_wp2
        go_roundw
        case rel => exact ⟨k + 1, by omega, by go_num, hM3.ext HEXT.out, HCR.out w2 w3 hb2 hg3⟩
        case measure => simp [intOf]; omega
      · have hc0 : c = 0 := by
          rw [HCC.out]
          simp [List.getElem?_eq_none (Nat.le_of_not_lt hkc)]
        subst hc0
        obtain rfl : r = 0 := by simp at hcr; omega
        go_wp2_with (first | (with_reducible refine wpList_load_mid rfl 94 _ rfl g (k * 257) rfl (wcells (x1, x2)) _ HRQ.out Tryd.underlying94 rfl HSW.out ?_) | (with_reducible refine wpList_store_row rfl 94 _ _ rfl wr.heap.size (wcells (x1, x2)).toArray rfl rfl 94 Tryd.zeroCells94 HNW.out HSW2.out HSW3.out (oneCell_wcells _) ?_; rw [World.setRow_alloc_new, HW2.out]))
        refine wp_region_noPanic ?_
        refine wp_region_F 21 (fun w' => w'.cell? ⟨b, 1, none⟩ = some (.map (some m)) ∧ w'.cell? ⟨wr.heap.size, 0, none⟩ = some (.int .i64 (x1 : Int)) ∧ w'.cell? ⟨w.heap.size, 0, none⟩ = some (.func (.func fr) #[] #[]) ∧ w'.rangeAt wr.heap.size 1 (bvs x2) ∧ MapIs w' m S.dur.length zeros (fun i => (rdur S cs k).getD i zeros)) (by kernel_rfl) ?_
        have hS0 : (fun w' => w'.cell? ⟨b, 1, none⟩ = some (.map (some m)) ∧ w'.cell? ⟨wr.heap.size, 0, none⟩ = some (.int .i64 (x1 : Int)) ∧ w'.cell? ⟨w.heap.size, 0, none⟩ = some (.func (.func fr) #[] #[]) ∧ w'.rangeAt wr.heap.size 1 (bvs x2) ∧ MapIs w' m S.dur.length zeros (fun i => (rdur S cs k).getD i zeros)) W1.drew := ⟨p1, p2, p3, p4, p5.kept rfl⟩
        refine wpAnyF_take (i := 0) (fin := 21) (v := .pointer (some ⟨b, 0, none⟩)) rfl (by kernel_rfl) (by kernel_rfl) (by kernel_rfl) (by kernel_rfl) (fun _ _ _ h => h) (yieldsIf_run rfl (fun w' hw' => ?_)) hS0 ?_
        · rfl
        simp only [Act.put, List.setIfInBounds_toArray, List.set_cons_zero, List.set_cons_succ]
        refine wpAnyF_take (i := 1) (fin := 21) (v := .pointer (some ⟨b, 0, none⟩)) rfl (by kernel_rfl) (by kernel_rfl) (by kernel_rfl) (by kernel_rfl) (fun _ _ _ h => h) (yieldsIf_run rfl (fun w' hw' => ?_)) hS0 ?_
        · go_simp
        simp only [Act.put, List.setIfInBounds_toArray, List.set_cons_zero, List.set_cons_succ]
        refine wpAnyF_take (i := 2) (fin := 21) (v := .pointer (some ⟨b, 1, none⟩)) rfl (by kernel_rfl) (by kernel_rfl) (by kernel_rfl) (by kernel_rfl) (fun _ _ _ h => h) (yieldsIf_run rfl (fun w' hw' => ?_)) hS0 ?_
        · go_simp
        simp only [Act.put, List.setIfInBounds_toArray, List.set_cons_zero, List.set_cons_succ]
        refine wpAnyF_take (i := 3) (fin := 21) (v := .map (some m)) rfl (by kernel_rfl) (by kernel_rfl) (by kernel_rfl) (by kernel_rfl) (fun _ _ _ h => h) (yieldsIf_run rfl (fun w' hw' => ?_)) hS0 ?_
        · (have h4 := hw'.1; clear hw'; go_simp)
        simp only [Act.put, List.setIfInBounds_toArray, List.set_cons_zero, List.set_cons_succ]
        refine wpAnyF_take (i := 4) (fin := 21) (v := .pointer (some ⟨wr.heap.size, 0, none⟩)) rfl (by kernel_rfl) (by kernel_rfl) (by kernel_rfl) (by kernel_rfl) (fun _ _ _ h => h) (yieldsIf_run rfl (fun w' hw' => ?_)) hS0 ?_
        · go_simp
        simp only [Act.put, List.setIfInBounds_toArray, List.set_cons_zero, List.set_cons_succ]
        refine wpAnyF_take (i := 5) (fin := 21) (v := .int .i64 (x1 : Int)) rfl (by kernel_rfl) (by kernel_rfl) (by kernel_rfl) (by kernel_rfl) (fun _ _ _ h => h) (yieldsIf_run rfl (fun w' hw' => ?_)) hS0 ?_
        · (have h4 := hw'.2.1; clear hw'; go_simp)
        simp only [Act.put, List.setIfInBounds_toArray, List.set_cons_zero, List.set_cons_succ]
        refine wpAnyF_take (i := 6) (fin := 21) (v := .int .i64 0) rfl (by kernel_rfl) (by kernel_rfl) (by kernel_rfl) (by kernel_rfl) (fun _ _ _ h => h) (yieldsIf_run rfl (fun w' hw' => ?_)) hS0 ?_
        · rfl
        simp only [Act.put, List.setIfInBounds_toArray, List.set_cons_zero, List.set_cons_succ]
        refine wpAnyF_take (i := 7) (fin := 21) (v := .int .i64 0) rfl (by kernel_rfl) (by kernel_rfl) (by kernel_rfl) (by kernel_rfl) (fun _ _ _ h => h) (yieldsIf_run rfl (fun w' hw' => ?_)) hS0 ?_
        · go_simp
        simp only [Act.put, List.setIfInBounds_toArray, List.set_cons_zero, List.set_cons_succ]
        refine wpAnyF_take (i := 8) (fin := 21) (v := .pointer (some ⟨w.heap.size, 0, none⟩)) rfl (by kernel_rfl) (by kernel_rfl) (by kernel_rfl) (by kernel_rfl) (fun _ _ _ h => h) (yieldsIf_run rfl (fun w' hw' => ?_)) hS0 ?_
        · go_simp
        simp only [Act.put, List.setIfInBounds_toArray, List.set_cons_zero, List.set_cons_succ]
        refine wpAnyF_take (i := 9) (fin := 21) (v := .func (.func fr) #[] #[]) rfl (by kernel_rfl) (by kernel_rfl) (by kernel_rfl) (by kernel_rfl) (fun _ _ _ h => h) (yieldsIf_run rfl (fun w' hw' => ?_)) hS0 ?_
        · (have h4 := hw'.2.2.1; clear hw'; go_simp)
        simp only [Act.put, List.setIfInBounds_toArray, List.set_cons_zero, List.set_cons_succ]
        refine wpAnyF_take (i := 10) (fin := 21) (v := .pointer (some ⟨b, 0, none⟩)) rfl (by kernel_rfl) (by kernel_rfl) (by kernel_rfl) (by kernel_rfl) (fun _ _ _ h => h) (yieldsIf_run rfl (fun w' hw' => ?_)) hS0 ?_
        · rfl
        simp only [Act.put, List.setIfInBounds_toArray, List.set_cons_zero, List.set_cons_succ]
        refine wpAnyF_take (i := 11) (fin := 21) (v := .pointer (some ⟨b, 0, none⟩)) rfl (by kernel_rfl) (by kernel_rfl) (by kernel_rfl) (by kernel_rfl) (fun _ _ _ h => h) (yieldsIf_run rfl (fun w' hw' => ?_)) hS0 ?_
        · go_simp
        simp only [Act.put, List.setIfInBounds_toArray, List.set_cons_zero, List.set_cons_succ]
        refine wpAnyF_take (i := 12) (fin := 21) (v := .pointer (some ⟨b, 1, none⟩)) rfl (by kernel_rfl) (by kernel_rfl) (by kernel_rfl) (by kernel_rfl) (fun _ _ _ h => h) (yieldsIf_run rfl (fun w' hw' => ?_)) hS0 ?_
        · go_simp
        simp only [Act.put, List.setIfInBounds_toArray, List.set_cons_zero, List.set_cons_succ]
        refine wpAnyF_take (i := 13) (fin := 21) (v := .map (some m)) rfl (by kernel_rfl) (by kernel_rfl) (by kernel_rfl) (by kernel_rfl) (fun _ _ _ h => h) (yieldsIf_run rfl (fun w' hw' => ?_)) hS0 ?_
        · (have h4 := hw'.1; clear hw'; go_simp)
        simp only [Act.put, List.setIfInBounds_toArray, List.set_cons_zero, List.set_cons_succ]
        refine wpAnyF_take (i := 14) (fin := 21) (v := .pointer (some ⟨wr.heap.size, 0, none⟩)) rfl (by kernel_rfl) (by kernel_rfl) (by kernel_rfl) (by kernel_rfl) (fun _ _ _ h => h) (yieldsIf_run rfl (fun w' hw' => ?_)) hS0 ?_
        · go_simp
        simp only [Act.put, List.setIfInBounds_toArray, List.set_cons_zero, List.set_cons_succ]
        refine wpAnyF_take (i := 15) (fin := 21) (v := .int .i64 (x1 : Int)) rfl (by kernel_rfl) (by kernel_rfl) (by kernel_rfl) (by kernel_rfl) (fun _ _ _ h => h) (yieldsIf_run rfl (fun w' hw' => ?_)) hS0 ?_
        · (have h4 := hw'.2.1; clear hw'; go_simp)
        simp only [Act.put, List.setIfInBounds_toArray, List.set_cons_zero, List.set_cons_succ]
        refine wpAnyF_take (i := 16) (fin := 21) (v := cval B0) rfl (by kernel_rfl) (by kernel_rfl) (by kernel_rfl) (by kernel_rfl) (fun _ _ _ h => h) (yieldsIf_run rfl (fun w' hw' => ?_)) hS0 ?_
        · exact run_lookup_op 70 (.tmp 49) (.tmp 51) rfl rfl rfl (by have := hw'.2.2.2.2.lookup Tryd.underlying70 Tryd.underlying3 zeroLookup HXK.out; rw [← HBe.out] at this; exact this)
        simp only [Act.put, List.setIfInBounds_toArray, List.set_cons_zero, List.set_cons_succ]
        refine wpAnyF_take (i := 17) (fin := 21) (v := .pointer (some ⟨wr.heap.size, 1, none⟩)) rfl (by kernel_rfl) (by kernel_rfl) (by kernel_rfl) (by kernel_rfl) (fun _ _ _ h => h) (yieldsIf_run rfl (fun w' hw' => ?_)) hS0 ?_
        · go_simp
        simp only [Act.put, List.setIfInBounds_toArray, List.set_cons_zero, List.set_cons_succ]
        refine wpAnyF_take (i := 18) (fin := 21) (v := .agg (bvs x2).toArray) rfl (by kernel_rfl) (by kernel_rfl) (by kernel_rfl) (by kernel_rfl) (fun _ _ _ h => h) (yieldsIf_run rfl (fun w' hw' => ?_)) hS0 ?_
        · exact run_load_op 92 (.tmp 53) wr.heap.size 1 (bvs x2) _ rfl rfl hw'.2.2.2.1 Tryd.underlying92 rfl HSZ.out
        simp only [Act.put, List.setIfInBounds_toArray, List.set_cons_zero, List.set_cons_succ]
        refine wpAnyF_take (i := 19) (fin := 21) (v := .int .i64 0) rfl (by kernel_rfl) (by kernel_rfl) (by kernel_rfl) (by kernel_rfl) (fun _ _ _ h => h) (yieldsIf_run rfl (fun w' hw' => ?_)) hS0 ?_
        · rfl
        simp only [Act.put, List.setIfInBounds_toArray, List.set_cons_zero, List.set_cons_succ]
        refine wpAnyF_do (i := 20) (by kernel_rfl) rfl rfl (fun K hK => ?_)
        go_simp
        refine (HFate.out W1.drew).mono ?_
        rintro e w2 ⟨rfl, hb2⟩
        have q1 : w2.cell? ⟨b, 1, none⟩ = some (.map (some m)) := hb2.cell (p := ⟨b, 1, none⟩) HBL.out.1 |>.trans p1
        have q2 : w2.cell? ⟨wr.heap.size, 0, none⟩ = some (.int .i64 (x1 : Int)) := hb2.cell (p := ⟨wr.heap.size, 0, none⟩) HBL.out.2.1 |>.trans p2
        have q3 : w2.cell? ⟨w.heap.size, 0, none⟩ = some (.func (.func fr) #[] #[]) := hb2.cell (p := ⟨w.heap.size, 0, none⟩) HBL.out.2.2.1 |>.trans p3
        have q4 : w2.rangeAt wr.heap.size 1 (bvs x2) := fun j u hu => (hb2.cell (p := ⟨wr.heap.size, 1 + j, none⟩) HBL.out.2.1).trans (p4 j u hu)
        have q5 : MapIs w2 m S.dur.length zeros (fun i => (rdur S cs k).getD i zeros) := p5.kept (hb2.block m HBL.out.2.2.2)
        refine hK _ _ (fun _ => ⟨q1, q2, q3, q4, q5⟩) ?_
        clear hK K
        obtain ⟨w3, hrun3, hM3, hg3⟩ := q5.update Tryd.underlying70 Tryd.underlying3 HXK.out V HV.out
        refine wpAnyF_do (i := 21) (by kernel_rfl) rfl rfl (fun K hK => ?_)
        go_simp
        refine hK _ _ (fun h => absurd rfl h) ?_
        clear hK K
        refine wpAnyF_done (by kernel_rfl) ?_ _
        refine NoPanic.normal ?_
        go_wp2
        go_roundw
        case rel => exact ⟨k + 1, by omega, by go_num, hM3.ext HEXT.out, HCR.out w2 w3 hb2 hg3⟩
        case measure => simp [intOf]; omega
    · obtain rfl : k = S.pend.length := by omega
      have hx2 : DiskX wr F b m (.slice pa S.pend.length pcap) { S with dur := rdur S cs S.pend.length } := by
        have hx1 := HX1.out
        have hbm : b ≠ m := fun e => hx1.mb e.symm
        refine ⟨hx1.fb, hx1.fm, hx1.fp, (hC.block b hx1.lt hbm).trans ?_, by rw [show ({ S with dur := rdur S cs S.pend.length } : DS).dur.length = S.dur.length from rdur_length S cs _]; exact hM, ?_⟩
        · rw [hx1.hb]; simp [dcells, rdur_length]
        · refine ⟨hx1.hp.1, ?_⟩
          rcases hx1.hp.2 with hn | ⟨g, cap, cur, e, hbg, hg, rest⟩
          · exact .inl hn
          · refine .inr ⟨g, cap, cur, e, hbg, (hC.block g (Array.getElem?_eq_some_iff.1 hg).1 (fun e2 => hx1.pm (by rw [e, ← e2]; rfl))).trans hg, rest⟩
      obtain ⟨d0, d1, d2, d3, d4, d5, d6, df⟩ := hx2.cells
      have HX2 := Lib.hid hx2
      have HM := Lib.hid hM
      have HC := Lib.hid hC
      clear hx2 hM hC
      go_wp2
      go_ret
      have hx1 := HX1.out
      have hx2 := HX2.out
      have hok := HOK.out
      have hgr : wr.grownBy ((((wr.setCell ⟨b, 2, none⟩ (.slice none 0 0)).setCell ⟨b, 4, none⟩ (.bool false)).setCell ⟨b, 5, none⟩ (.int .i64 0)).setCell ⟨b, 6, none⟩ (.bool false)) (some b) :=
        grownBy_trans (grownBy_trans (grownBy_trans (grownBy_setCell wr b 2 _) (grownBy_setCell _ b 4 _)) (grownBy_setCell _ b 5 _)) (grownBy_setCell _ b 6 _)
      have hre : (S.restart cs).1 = { dur := rdur S cs S.pend.length, pend := [], ops := S.ops, limit := none, down := false } := by simp [DS.restart, HD.out]
      refine ⟨rfl, ?_, ?_⟩
      · rw [hre]
        refine ⟨⟨rdur_256 hok cs _, by simp, by rw [rdur_length]; exact hok.most⟩, m, .slice none 0 0, hx1.fb, hx1.fm, by simp [Value.ownBlock], ?_, ?_, World.ownsRow_nil _ _ _ _⟩
        · rw [heap_setCell_same _ b 6 _ _ _ (heap_setCell_same _ b 5 _ _ _ (heap_setCell_same _ b 4 _ _ _ (heap_set7 2 _ hx2.hb)))]; simp [dcells]
        · exact hx2.hm.kept (hgr.block m hx2.hm.lt (by simp [hx1.mb]))
      · exact (HC1.out.trans (HC.out.mono (G := F) (fun k e => by rw [e]; exact hx1.fm)) (fun _ h => .inl h)).trans (Chg.grown (F := F) hgr (fun k e => .inl (by rw [← Option.some.inj e]; exact hx1.fb))) (fun _ h => .inl h)

theorem Restart_any {w : World} {F G : Nat → Prop} {b : Nat} {S : DS} (v : Value) (cs : List UInt8) (h : DiskAt w F b S) (hv : BytesAt w G v cs) (hFG : ∀ k, F k → ¬ G k)
    (hlen : S.pend.length < 100000000000) (hcl : cs.length ≤ 9223372036854775807) :
    Calls Tryd.prog 32 #[.pointer (some ⟨b, 0, none⟩), v] w fun e w' => e = .returned (.int .i64 (S.restart cs).2) ∧
      DiskAt w' F b (S.restart cs).1 ∧ Chg F w w' := by
  cases hd : S.down with
  | true =>
    refine (Restart_down v cs h hv hFG hd hlen hcl).mono ?_
    rintro e w' ⟨rfl, h1, h2⟩
    exact ⟨by simp [DS.restart, hd], h1, h2⟩
  | false =>
    have e1 : S.restart cs = (S, 10) := by simp [DS.restart, hd]
    rw [e1]
    have HH := Lib.hid h
    obtain ⟨hok, m, pv, hx⟩ := h
    obtain ⟨c0, c1, c2, c3, c4, c5, c6, f⟩ := hx.cells
    rw [hd] at c6
    clear hx hok e1 hd hv
    go_enter Tryd.func32, Tryd.ntmps32
    go_wp2
    go_ret
    exact ⟨rfl, HH.out, Chg.refl _ _⟩

end Go.Proofs.YtplclpileejemaaDoor

namespace Go.Proofs.YtplclpileejemaaDoor
open Go.RowKit
set_option linter.unusedVariables false
set_option linter.unusedSimpArgs false

/-- The durable contents when the first k pending writes have been applied whole. -/
def fdur (S : DS) (k : Nat) : List (List UInt8) := rdur S (List.replicate S.pend.length 1) k
def DS.flush (S : DS) : DS × Int :=
  if S.down then (S, 28) else if S.operate.2 then ({ S.operate.1 with dur := fdur S S.pend.length, pend := [] }, 0) else (S.operate.1, 28)

theorem fdur_succ (S : DS) (k : Nat) (hk : k < S.pend.length) : fdur S (k + 1) = (fdur S k).set S.pend[k].1 S.pend[k].2 := by
  unfold fdur
  conv => lhs; unfold rdur
  rw [List.getElem?_eq_getElem hk]
  simp [hk, fate]

theorem operate_rdur (S : DS) (cs : List UInt8) : ∀ k, rdur S.operate.1 cs k = rdur S cs k
  | 0 => (operate_pend S).2
  | k + 1 => by
    unfold rdur
    rw [operate_rdur S cs k, (operate_pend S).1]

set_option maxRecDepth 100000 in
set_option maxHeartbeats 2000000 in
theorem Flush_good {w : World} {F : Nat → Prop} {b : Nat} {S : DS} (h : DiskAt w F b S) (hd : S.down = false) (hop : S.operate.2 = true)
    (hlen : S.pend.length < 100000000000) (hops : S.ops < 1000000000000) (hlim : S.limit.getD 0 ≤ 9223372036854775807) :
    Calls Tryd.prog 49 #[.pointer (some ⟨b, 0, none⟩)] w fun e w' => e = .returned (.int .i64 0) ∧
      DiskAt w' F b { S.operate.1 with dur := fdur S S.pend.length, pend := [] } ∧ Chg F w w' := by
  have HH := Lib.hid h
  have HOK := Lib.hid h.ok
  obtain ⟨hok, m0, pv0, hx0⟩ := h
  obtain ⟨c0, c1, c2, c3, c4, c5, c6, f⟩ := hx0.cells
  rw [hd] at c6
  clear hx0 hok hd
  go_enter Tryd.func49, Tryd.ntmps49
  go_wp2_with fail
  refine (operate_any HH.out hops hlim).mono ?_
  rintro e w1 ⟨rfl, hD1, hC1⟩
  rw [hop]
  obtain ⟨hok1, m, pv, hx1⟩ := hD1
  have hpend := (operate_pend S).1
  have hdur := (operate_pend S).2
  have hP1 := pendAt_of (fun x h => (hok1.pend x h).2) hx1.hp
  rw [hpend] at hP1
  obtain ⟨pa, pcap, hpv⟩ : ∃ a cap, pv = .slice a S.pend.length cap := by
    rcases hP1 with ⟨rfl, e⟩ | ⟨g, cap, rfl, _⟩
    · exact ⟨none, 0, by rw [e]; rfl⟩
    · exact ⟨_, _, rfl⟩
  subst hpv
  clear c0 c1 c2 c3 c4 c5 c6 f
  have hM1 : MapIs w1 m S.dur.length zeros (fun i => (fdur S 0).getD i zeros) := by have := hx1.hm; rw [hdur] at this; exact this
  obtain ⟨d0, d1, d2, d3, d4, d5, d6, df⟩ := hx1.cells
  have HX1 := Lib.hid hx1
  have HOK1 := Lib.hid hok1
  have HC1 := Lib.hid hC1
  have HP1 := Lib.hid hP1
  have HM1 := Lib.hid hM1
  have HPE := Lib.hid hpend
  have HDU := Lib.hid hdur
  clear hx1 hok1 hC1 hP1 hM1 hpend hdur
  go_wp2
  clear d0 d1 d2 d3 d4 d5 d6 df
  go_loopw [21] (fun i wr => ∃ k : Nat, k ≤ S.pend.length ∧ i = .int .i64 (k : Int) ∧ MapIs wr m S.dur.length zeros (fun i => (fdur S k).getD i zeros) ∧ Chg (fun i => i = m) w1 wr)
    (fun i _ => S.pend.length - (intOf i).toNat)
  case atStart => exact ⟨0, Nat.zero_le _, rfl, HM1.out, Chg.refl _ _⟩
  case round =>
    obtain ⟨k, hk, rfl, hM, hC⟩ := hrel
    by_cases hlt : k < S.pend.length
    · have hP1 := HP1.out
      rcases hP1 with ⟨_, e2⟩ | ⟨g, cap', e1, hg, hr⟩
      · rw [e2] at hlt; simp at hlt
      simp only [Value.slice.injEq] at e1
      obtain ⟨rfl, _, rfl⟩ := e1
      have hgm : g ≠ m := fun e => HX1.out.pm (by rw [e]; rfl)
      obtain ⟨x1, x2, hx⟩ : ∃ x1 x2, S.pend[k] = (x1, x2) := ⟨_, _, rfl⟩
      have hxm : (x1, x2) ∈ S.pend := hx ▸ List.getElem_mem hlt
      have hx1 : x1 < S.dur.length := (HOK.out.pend _ hxm).1
      have hx2 : x2.length = 256 := (HOK.out.pend _ hxm).2
      have hrq : wr.rangeAt g (k * 257) (wcells (x1, x2)) := fun j u hu => (World.cell?_of_block (hC.block g hg hgm)).trans (hr k hlt j u (by rw [hx]; exact hu))
      have hwl : (wcells (x1, x2)).length = 257 := wcells_length hx2
      have hsw : (Tryd.prog.info? 94).map (·.size) = some (wcells (x1, x2)).length := by rw [hwl]; exact sizeWrite
      have hsw2 : (Tryd.prog.info? 94).map (·.size) = some (wcells (x1, x2)).toArray.size := by rw [List.size_toArray]; exact hsw
      have hsw3 : (Tryd.zeroCells94).size = (wcells (x1, x2)).toArray.size := by rw [zc82, List.size_toArray, List.size_toArray, hwl]; exact wcells_length zeros_length
      have hnw := heap_alloc_new wr (.cells Tryd.zeroCells94 94)
      obtain ⟨W1, hW1⟩ : ∃ W1, wr.alloc (.cells (wcells (x1, x2)).toArray 94) = W1 := ⟨_, rfl⟩
      have hbr : b < wr.heap.size := Nat.lt_of_lt_of_le HX1.out.lt hC.size
      have hmr : m < wr.heap.size := hM.lt
      have hbk : ∀ i, i < wr.heap.size → W1.heap[i]? = wr.heap[i]? := fun i hi => by rw [← hW1]; exact Below.heap_alloc wr _ i hi
      have hW1n : W1.heap[wr.heap.size]? = some (.cells (wcells (x1, x2)).toArray 94 (0, 0)) := by rw [← hW1]; exact heap_alloc_new _ _
      obtain ⟨p2, p4⟩ := mid_of_row (c := .int .i64 (x1 : Int)) (l := bvs x2) hW1n
      have hb1 : W1.heap[b]? = w1.heap[b]? := (hbk b hbr).trans (hC.block b HX1.out.lt (fun e => HX1.out.mb e.symm))
      obtain ⟨d0, p1, d2, d3, d4, d5, d6, df⟩ := cells_of (hb1.trans HX1.out.hb)
      have p5 : MapIs W1 m S.dur.length zeros (fun i => (fdur S k).getD i zeros) := hM.kept (hbk m hmr)
      have hVl : x2.length = zeros.length := by rw [hx2, zeros_length]
      have hext : ∀ i, i < S.dur.length → (fun i => if i = x1 then x2 else (fdur S k).getD i zeros) i = (fun i => (fdur S (k + 1)).getD i zeros) i := by
        intro i hi
        have hl : (fdur S k).length = S.dur.length := rdur_length S _ k
        have e5 : fdur S (k + 1) = (fdur S k).set x1 x2 := by rw [fdur_succ S k hlt, hx]
        show (if i = x1 then x2 else (fdur S k).getD i zeros) = (fdur S (k + 1)).getD i zeros
        rw [e5]
        simp only [List.getD_eq_getElem?_getD, List.getElem?_set]
        by_cases hix : i = x1
        · subst hix
          simp [show i < (fdur S k).length by omega]
        · simp [hix, Ne.symm hix]
      have hcr2 : ∀ w3, W1.drew.grownBy w3 (some m) → Chg (fun i => i = m) w1 w3 := fun w3 hg3 =>
        ((hC.trans (hW1 ▸ Chg.alloc (F := fun i => i = m) wr _) (fun _ h => .inl h)).trans ((Chg.refl (fun i => i = m) W1).drew) (fun _ h => .inl h)).trans (Chg.grown (F := fun i => i = m) hg3 (fun k e => .inl (Option.some.inj e).symm)) (fun _ h => .inl h)
      have hsz80 : (Tryd.prog.info? 92).map (·.size) = some (bvs x2).length := by have := sizeContents hx2; rw [List.size_toArray] at this; exact this
      have HRQ := Lib.hid hrq
      have HSW := Lib.hid hsw
      have HSW2 := Lib.hid hsw2
      have HSW3 := Lib.hid hsw3
      have HNW := Lib.hid hnw
      have HW2 := Lib.hid hW1
      have HXK := Lib.hid hx1
      have HSZ := Lib.hid hsz80
      have HEXT := Lib.hid hext
      have HCR := Lib.hid hcr2
      have HV := Lib.hid hVl
      have HP5 := Lib.hid p5
      clear hrq hsw hsw2 hsw3 hnw hW1 hx1 hsz80 hext hcr2 hVl hM hC d0 d2 d3 d4 d5 d6 df hr hx hxm hbk hW1n hb1 hgm hg hwl hx2 p5 hbr hmr
      go_wp2_with (first | (with_reducible refine wpList_load_mid rfl 94 _ rfl g (k * 257) rfl (wcells (x1, x2)) _ HRQ.out Tryd.underlying94 rfl HSW.out ?_) | (with_reducible refine wpList_store_row rfl 94 _ _ rfl wr.heap.size (wcells (x1, x2)).toArray rfl rfl 94 Tryd.zeroCells94 HNW.out HSW2.out HSW3.out (oneCell_wcells _) ?_; rw [World.setRow_alloc_new, HW2.out]))
      refine wp_region_noPanic ?_
      refine wp_region_F 8 (fun w' => w'.cell? ⟨b, 1, none⟩ = some (.map (some m)) ∧ w'.cell? ⟨wr.heap.size, 0, none⟩ = some (.int .i64 (x1 : Int)) ∧ w'.rangeAt wr.heap.size 1 (bvs x2)) (by kernel_rfl) ?_
      have hS0 : (fun w' => w'.cell? ⟨b, 1, none⟩ = some (.map (some m)) ∧ w'.cell? ⟨wr.heap.size, 0, none⟩ = some (.int .i64 (x1 : Int)) ∧ w'.rangeAt wr.heap.size 1 (bvs x2)) W1.drew := ⟨p1, p2, p4⟩
      refine wpAnyF_take (i := 0) (fin := 8) (v := .pointer (some ⟨b, 0, none⟩)) rfl (by kernel_rfl) (by kernel_rfl) (by kernel_rfl) (by kernel_rfl) (fun _ _ _ h => h) (yieldsIf_run rfl (fun w' hw' => ?_)) hS0 ?_
      · rfl
      simp only [Act.put, List.setIfInBounds_toArray, List.set_cons_zero, List.set_cons_succ]
      refine wpAnyF_take (i := 1) (fin := 8) (v := .pointer (some ⟨b, 0, none⟩)) rfl (by kernel_rfl) (by kernel_rfl) (by kernel_rfl) (by kernel_rfl) (fun _ _ _ h => h) (yieldsIf_run rfl (fun w' hw' => ?_)) hS0 ?_
      · go_simp
      simp only [Act.put, List.setIfInBounds_toArray, List.set_cons_zero, List.set_cons_succ]
      refine wpAnyF_take (i := 2) (fin := 8) (v := .pointer (some ⟨b, 1, none⟩)) rfl (by kernel_rfl) (by kernel_rfl) (by kernel_rfl) (by kernel_rfl) (fun _ _ _ h => h) (yieldsIf_run rfl (fun w' hw' => ?_)) hS0 ?_
      · go_simp
      simp only [Act.put, List.setIfInBounds_toArray, List.set_cons_zero, List.set_cons_succ]
      refine wpAnyF_take (i := 3) (fin := 8) (v := .map (some m)) rfl (by kernel_rfl) (by kernel_rfl) (by kernel_rfl) (by kernel_rfl) (fun _ _ _ h => h) (yieldsIf_run rfl (fun w' hw' => ?_)) hS0 ?_
      · (have h4 := hw'.1; clear hw'; go_simp)
      simp only [Act.put, List.setIfInBounds_toArray, List.set_cons_zero, List.set_cons_succ]
      refine wpAnyF_take (i := 4) (fin := 8) (v := .pointer (some ⟨wr.heap.size, 0, none⟩)) rfl (by kernel_rfl) (by kernel_rfl) (by kernel_rfl) (by kernel_rfl) (fun _ _ _ h => h) (yieldsIf_run rfl (fun w' hw' => ?_)) hS0 ?_
      · go_simp
      simp only [Act.put, List.setIfInBounds_toArray, List.set_cons_zero, List.set_cons_succ]
      refine wpAnyF_take (i := 5) (fin := 8) (v := .int .i64 (x1 : Int)) rfl (by kernel_rfl) (by kernel_rfl) (by kernel_rfl) (by kernel_rfl) (fun _ _ _ h => h) (yieldsIf_run rfl (fun w' hw' => ?_)) hS0 ?_
      · (have h4 := hw'.2.1; clear hw'; go_simp)
      simp only [Act.put, List.setIfInBounds_toArray, List.set_cons_zero, List.set_cons_succ]
      refine wpAnyF_take (i := 6) (fin := 8) (v := .pointer (some ⟨wr.heap.size, 1, none⟩)) rfl (by kernel_rfl) (by kernel_rfl) (by kernel_rfl) (by kernel_rfl) (fun _ _ _ h => h) (yieldsIf_run rfl (fun w' hw' => ?_)) hS0 ?_
      · go_simp
      simp only [Act.put, List.setIfInBounds_toArray, List.set_cons_zero, List.set_cons_succ]
      refine wpAnyF_take (i := 7) (fin := 8) (v := .agg (bvs x2).toArray) rfl (by kernel_rfl) (by kernel_rfl) (by kernel_rfl) (by kernel_rfl) (fun _ _ _ h => h) (yieldsIf_run rfl (fun w' hw' => ?_)) hS0 ?_
      · exact run_load_op 92 (.tmp 31) wr.heap.size 1 (bvs x2) _ rfl rfl hw'.2.2 Tryd.underlying92 rfl HSZ.out
      simp only [Act.put, List.setIfInBounds_toArray, List.set_cons_zero, List.set_cons_succ]
      obtain ⟨w3, hrun3, hM3, hg3⟩ := (HP5.out.kept (w' := W1.drew) rfl).update Tryd.underlying70 Tryd.underlying3 HXK.out x2 HV.out
      unfold cval at hrun3
      refine wpAnyF_do (i := 8) (by kernel_rfl) rfl rfl (fun K hK => ?_)
      go_simp
      refine hK _ _ (fun h => absurd rfl h) ?_
      clear hK K
      refine wpAnyF_done (by kernel_rfl) ?_ _
      refine NoPanic.normal ?_
      go_wp2
      go_roundw
      case rel => exact ⟨k + 1, by omega, by go_num, hM3.ext HEXT.out, HCR.out w3 hg3⟩
      case measure => simp [intOf]; omega
    · obtain rfl : k = S.pend.length := by omega
      have hx2 : DiskX wr F b m (.slice pa S.pend.length pcap) { S.operate.1 with dur := fdur S S.pend.length } := by
        have hx1 := HX1.out
        have hbm : b ≠ m := fun e => hx1.mb e.symm
        have hlE : (fdur S S.pend.length).length = S.dur.length := rdur_length S _ _
        refine ⟨hx1.fb, hx1.fm, hx1.fp, (hC.block b hx1.lt hbm).trans ?_, by rw [hlE]; exact hM, ?_⟩
        · rw [hx1.hb]; simp [dcells, hlE, HDU.out]
        · refine ⟨hx1.hp.1, ?_⟩
          rcases hx1.hp.2 with hn | ⟨g, cap, cur, e, hbg, hg, rest⟩
          · exact .inl hn
          · refine .inr ⟨g, cap, cur, e, hbg, (hC.block g (Array.getElem?_eq_some_iff.1 hg).1 (fun e2 => hx1.pm (by rw [e, ← e2]; rfl))).trans hg, rest⟩
      obtain ⟨d0, d1, d2, d3, d4, d5, d6, df⟩ := hx2.cells
      have HX2 := Lib.hid hx2
      have HM := Lib.hid hM
      have HC := Lib.hid hC
      clear hx2 hM hC
      go_wp2
      go_ret
      have hx1 := HX1.out
      have hx2 := HX2.out
      have hok := HOK.out
      have hgr : wr.grownBy (wr.setCell ⟨b, 2, none⟩ (.slice none 0 0)) (some b) := grownBy_setCell wr b 2 _
      have hlE : (fdur S S.pend.length).length = S.dur.length := rdur_length S _ _
      refine ⟨rfl, ?_, ?_⟩
      · refine ⟨⟨rdur_256 hok _ _, by simp, by rw [hlE]; exact hok.most⟩, m, .slice none 0 0, hx1.fb, hx1.fm, by simp [Value.ownBlock], ?_, ?_, World.ownsRow_nil _ _ _ _⟩
        · rw [heap_set7 2 _ hx2.hb]; simp [dcells]
        · exact hx2.hm.kept (hgr.block m hx2.hm.lt (by simp [hx1.mb]))
      · exact (HC1.out.trans (HC.out.mono (G := F) (fun k e => by rw [e]; exact hx1.fm)) (fun _ h => .inl h)).trans (Chg.grown (F := F) hgr (fun k e => .inl (by rw [← Option.some.inj e]; exact hx1.fb))) (fun _ h => .inl h)

set_option maxHeartbeats 1000000 in
theorem Flush_any {w : World} {F : Nat → Prop} {b : Nat} {S : DS} (h : DiskAt w F b S)
    (hlen : S.pend.length < 100000000000) (hops : S.ops < 1000000000000) (hlim : S.limit.getD 0 ≤ 9223372036854775807) :
    Calls Tryd.prog 49 #[.pointer (some ⟨b, 0, none⟩)] w fun e w' => e = .returned (.int .i64 S.flush.2) ∧ DiskAt w' F b S.flush.1 ∧ Chg F w w' := by
  cases hd : S.down with
  | true =>
    have e1 : S.flush = (S, 28) := by simp [DS.flush, hd]
    rw [e1]
    have HH := Lib.hid h
    obtain ⟨hok, m, pv, hx⟩ := h
    obtain ⟨c0, c1, c2, c3, c4, c5, c6, f⟩ := hx.cells
    rw [hd] at c6
    clear hx hok e1 hd
    go_enter Tryd.func49, Tryd.ntmps49
    go_wp2
    go_ret
    exact ⟨rfl, HH.out, Chg.refl _ _⟩
  | false =>
    cases hop : S.operate.2 with
    | true =>
      refine (Flush_good h hd hop hlen hops hlim).mono ?_
      rintro e w' ⟨rfl, h1, h2⟩
      have e1 : S.flush = ({ S.operate.1 with dur := fdur S S.pend.length, pend := [] }, 0) := by simp [DS.flush, hd, hop]
      rw [e1]
      exact ⟨rfl, h1, h2⟩
    | false =>
      have e1 : S.flush = (S.operate.1, 28) := by simp [DS.flush, hd, hop]
      rw [e1]
      have HH := Lib.hid h
      obtain ⟨hok, m, pv, hx⟩ := h
      obtain ⟨c0, c1, c2, c3, c4, c5, c6, f⟩ := hx.cells
      rw [hd] at c6
      clear hx hok e1 hd
      go_enter Tryd.func49, Tryd.ntmps49
      go_wp2_with fail
      refine (operate_any HH.out hops hlim).mono ?_
      rintro e w1 ⟨rfl, hD1, hC1⟩
      rw [hop]
      go_wp2
      go_ret
      exact ⟨rfl, hD1, hC1⟩

end Go.Proofs.YtplclpileejemaaDoor

namespace Go.Proofs.YtplclpileejemaaDoor
open Go.RowKit
set_option linter.unusedVariables false
set_option linter.unusedSimpArgs false

theorem u32_lt (a : UInt32) : a.toNat < 4294967296 := a.toNat_lt
theorem w_add (a b : UInt32) : IntKind.u32.wrap ((a.toNat : Int) + (b.toNat : Int)) = ((a + b).toNat : Int) := by
  rw [IntKind.wrap_u32', UInt32.toNat_add]; omega
theorem m_add (a b : UInt32) : ((a.toNat : Int) + (b.toNat : Int)) % 4294967296 = ((a + b).toNat : Int) := by rw [← IntKind.wrap_u32', w_add]
theorem m_shl (a : UInt32) (n : Nat) (h : n < 32) : ((a.toNat : Int) * 2 ^ n) % 4294967296 = ((a <<< (UInt32.ofNat n)).toNat : Int) := by
  rw [UInt32.toNat_shiftLeft, UInt32.toNat_ofNat', Nat.mod_eq_of_lt (show n < 2 ^ 32 by omega), Nat.mod_eq_of_lt h, Nat.shiftLeft_eq]
  have e : (2 : Int) ^ n = ((2 ^ n : Nat) : Int) := (Int.natCast_pow 2 n).symm
  rw [e, ← Int.natCast_mul]
  generalize a.toNat * 2 ^ n = k
  omega
theorem w_xor (a b : UInt32) : bits .xor .u32 (a.toNat : Int) (b.toNat : Int) = ((a ^^^ b).toNat : Int) := by
  rw [u32_xor_nat _ _ (u32_lt a) (u32_lt b), UInt32.toNat_xor]
theorem w_and (a b : UInt32) : bits .and .u32 (a.toNat : Int) (b.toNat : Int) = ((a &&& b).toNat : Int) := by
  rw [u32_and_nat _ _ (u32_lt a) (u32_lt b), UInt32.toNat_and]
theorem w_or (a b : UInt32) : bits .or .u32 (a.toNat : Int) (b.toNat : Int) = ((a ||| b).toNat : Int) := by
  rw [u32_or_nat _ _ (u32_lt a) (u32_lt b), UInt32.toNat_or]
theorem w_not (a : UInt32) : bits .xor .u32 4294967295 (a.toNat : Int) = ((~~~a).toNat : Int) := by
  have h := w_xor 4294967295 a
  have e : ((4294967295 : UInt32).toNat : Int) = 4294967295 := by decide
  rw [e] at h
  rw [h]
  have e2 : (4294967295 : UInt32) ^^^ a = ~~~a := by
    have : (4294967295 : UInt32) = -1 := by decide
    rw [this, UInt32.neg_one_xor]
  rw [e2]
theorem w_shl (a : UInt32) (n : Nat) (h : n < 32) : IntKind.u32.wrap ((a.toNat : Int) * 2 ^ n) = ((a <<< (UInt32.ofNat n)).toNat : Int) := by
  rw [IntKind.wrap_u32', UInt32.toNat_shiftLeft, UInt32.toNat_ofNat', Nat.mod_eq_of_lt (show n < 2 ^ 32 by omega), Nat.mod_eq_of_lt h, Nat.shiftLeft_eq]
  have e : (2 : Int) ^ n = ((2 ^ n : Nat) : Int) := (Int.natCast_pow 2 n).symm
  rw [e, ← Int.natCast_mul]
  generalize a.toNat * 2 ^ n = k
  omega
theorem w_shr (a : UInt32) (n : Nat) (h : n < 32) : (a.toNat : Int) / 2 ^ n = ((a >>> (UInt32.ofNat n)).toNat : Int) := by
  rw [UInt32.toNat_shiftRight, UInt32.toNat_ofNat', Nat.mod_eq_of_lt (show n < 2 ^ 32 by omega), Nat.mod_eq_of_lt h, Nat.shiftRight_eq_div_pow]
  push_cast
  rfl

theorem quiet_add_same {P : Program} {f : FuncId} {args : Array Value} {w : World} {a n : Nat} {v : Value}
    (h : Calls P f args (w.drewN (a + n)) fun e w' => e = .returned v ∧ w' = w.drewN (a + n)) :
    Calls P f args (w.drewN (a + n)) fun e w'' => e = .returned v ∧ ∃ m, w'' = w.drewN (a + m) :=
  h.mono fun _ _ ⟨he, hm⟩ => ⟨he, n, hm⟩

/-- A word as a number (a def of its own, so that no rule on toNat takes it apart). -/
def wN (x : UInt32) : Int := (x.toNat : Int)
theorem wN_nonneg (x : UInt32) : 0 ≤ wN x := by unfold wN; omega
theorem wN_lt (x : UInt32) : wN x < 4294967296 := by have := u32_lt x; unfold wN; omega
theorem n_add (a b : UInt32) : IntKind.u32.wrap (wN a + wN b) = wN (a + b) := w_add a b
theorem n_xor (a b : UInt32) : bits .xor .u32 (wN a) (wN b) = wN (a ^^^ b) := w_xor a b
theorem n_and (a b : UInt32) : bits .and .u32 (wN a) (wN b) = wN (a &&& b) := w_and a b
theorem n_or (a b : UInt32) : bits .or .u32 (wN a) (wN b) = wN (a ||| b) := w_or a b
theorem n_not (a : UInt32) : bits .xor .u32 IntKind.u32.max (wN a) = wN (~~~a) := w_not a
theorem n_not1 (a : UInt32) : Op.unary .xor (.int .u32 (wN a)) = (pure (.int .u32 (wN (~~~a))) : Sem Value) := by
  rw [← n_not]; rfl
theorem below_drewN {B : Nat} {w w' : World} (h : Below B w w') (n : Nat) : Below B w (w'.drewN n) := ⟨h.os, h.tape, h.output, h.size, h.block⟩
theorem n_shr (a : UInt32) (n : Nat) (h : n < 32) : wN a / 2 ^ n = wN (a >>> (UInt32.ofNat n)) := w_shr a n h
theorem n_shl (a : UInt32) (n : Nat) (h : n < 32) : (wN a * 2 ^ n) % 4294967296 = wN (a <<< (UInt32.ofNat n)) := m_shl a n h
theorem n_shift (a : UInt32) (yk : IntKind) (n : Nat) (h : n < 32) : Op.shift .shr .u32 (wN a) yk (n : Int) = (pure (.int .u32 (wN (a >>> (UInt32.ofNat n)))) : Sem Value) := by
  rw [shift_shr_any _ _ _ _ (by omega), ← n_shr a n h]
  have e : min (n : Int).toNat IntKind.u32.bits = n := by simp [IntKind.bits]; omega
  rw [e]
def wv (x : UInt32) : Value := .int .u32 (wN x)
def wvs (l : List UInt32) : List Value := l.map wv
@[simp] theorem wvs_length (l : List UInt32) : (wvs l).length = l.length := by simp [wvs]

/-- A word, rotated to the right. -/
def rotr (x : UInt32) (n : Nat) : UInt32 := (x <<< (UInt32.ofNat (32 - n))) ||| (x >>> (UInt32.ofNat n))
theorem rotr_int (x : UInt32) (n : Nat) (h1 : 0 < n) (h2 : n < 32) : bits .or .u32 (wN x * 2 ^ (32 - n) % 4294967296) (wN x / 2 ^ n) = wN (rotr x n) := by
  unfold wN
  rw [← IntKind.wrap_u32', w_shl x (32 - n) (by omega), w_shr x n h2, w_or]
  rfl
theorem rotr_int' (x : UInt32) (n : Nat) (h1 : 0 < n) (h2 : n < 32) : bits .or .u32 (wN x / 2 ^ n) (wN x * 2 ^ (32 - n) % 4294967296) = wN (rotr x n) := by
  unfold wN
  rw [← IntKind.wrap_u32', w_shl x (32 - n) (by omega), w_shr x n h2, w_or, UInt32.or_comm]
  rfl

/-! ### the functions of SHA-256 on words -/
structure W8 where
  a : UInt32
  b : UInt32
  c : UInt32
  d : UInt32
  e : UInt32
  f : UInt32
  g : UInt32
  i : UInt32
def W8.cells (v : W8) : List Value := [wv v.a, wv v.b, wv v.c, wv v.d, wv v.e, wv v.f, wv v.g, wv v.i]
def W8.val (v : W8) : Value := .agg v.cells.toArray
def W8.plus (x y : W8) : W8 := ⟨x.a + y.a, x.b + y.b, x.c + y.c, x.d + y.d, x.e + y.e, x.f + y.f, x.g + y.g, x.i + y.i⟩
def bs0 (x : UInt32) : UInt32 := rotr x 2 ^^^ rotr x 13 ^^^ rotr x 22
def bs1 (x : UInt32) : UInt32 := rotr x 6 ^^^ rotr x 11 ^^^ rotr x 25
def ss0 (x : UInt32) : UInt32 := rotr x 7 ^^^ rotr x 18 ^^^ (x >>> 3)
def ss1 (x : UInt32) : UInt32 := rotr x 17 ^^^ rotr x 19 ^^^ (x >>> 10)
def W8.t (v : W8) (k w : UInt32) : UInt32 := v.i + bs1 v.e + ((v.e &&& v.f) ^^^ (~~~v.e &&& v.g)) + k + w
def W8.u (v : W8) : UInt32 := bs0 v.a + ((v.a &&& v.b) ^^^ (v.a &&& v.c) ^^^ (v.b &&& v.c))
def W8.round (v : W8) (k w : UInt32) : W8 := ⟨v.t k w + v.u, v.a, v.b, v.c, v.d + v.t k w, v.e, v.f, v.g⟩

end Go.Proofs.YtplclpileejemaaDoor

namespace Go.Proofs.YtplclpileejemaaDoor
open Go.RowKit
set_option linter.unusedVariables false
set_option linter.unusedSimpArgs false

theorem rot_amount (n : Nat) (h1 : 0 < n) (h2 : n < 32) : bits .and .u64 (IntKind.u64.wrap (-(n : Int))) 31 = ((32 - n : Nat) : Int) := by
  have : ∀ n : Nat, n < 32 → 0 < n → bits .and .u64 (IntKind.u64.wrap (-(n : Int))) 31 = ((32 - n : Nat) : Int) := by decide
  exact this n h2 h1

set_option maxHeartbeats 1000000 in
theorem RotateLeft32_any (x : UInt32) (n : Nat) (h1 : 0 < n) (h2 : n < 32) (w : World) :
    Calls Tryd.prog 86 #[wv x, .int .i64 (-(n : Int))] w fun e w' => e = .returned (wv (rotr x n)) ∧ w = w' := by
  have hr := rot_amount n h1 h2
  unfold wv
  go_enter Tryd.func86, Tryd.ntmps86
  go_wp2
  go_ret
  refine ⟨?_, rfl⟩
  have e : 32 - (32 - n) = n := by omega
  rw [e]
  show Ending.returned (.int .u32 _) = _
  rw [rotr_int x n h1 h2]

set_option maxHeartbeats 1000000 in
theorem rotate_any (x : UInt32) (n : Nat) (h1 : 0 < n) (h2 : n < 32) (w : World) :
    Calls Tryd.prog 83 #[wv x, .int .i64 (n : Int)] w fun e w' => e = .returned (wv (rotr x n)) ∧ w = w' := by
  unfold wv
  go_enter Tryd.func83, Tryd.ntmps83
  go_wp2_with fail
  refine (RotateLeft32_any x n h1 h2 w).mono ?_
  rintro e w' ⟨rfl, rfl⟩
  unfold wv
  go_wp2_with fail
  go_ret
  exact ⟨rfl, rfl⟩

theorem rot_q (x : UInt32) (k : Int) (h1 : 0 < k) (h2 : k < 32) (w : World) :
    Calls Tryd.prog 83 #[.int .u32 (wN x), .int .i64 k] w fun e w' => e = .returned (.int .u32 (wN (rotr x k.toNat))) ∧ w' = w := by
  obtain ⟨n, rfl⟩ := Int.eq_ofNat_of_zero_le (show 0 ≤ k by omega)
  exact (rotate_any x n (by omega) (by omega) w).mono fun _ _ h => ⟨h.1, h.2.symm⟩

set_option maxRecDepth 100000 in
set_option maxHeartbeats 400000 in
theorem plus_any (x y : W8) (w : World) : Calls Tryd.prog 85 #[x.val, y.val] w fun e w' => e = .returned (x.plus y).val ∧ Below w.heap.size w w' := by
  have hadd := n_add
  unfold W8.val W8.cells wv
  go_enter Tryd.func85, Tryd.ntmps85
  go_wp2
  exact bodyPost_ret (v := .agg #[.int .u32 (wN (x.a + y.a)), .int .u32 (wN (x.b + y.b)), .int .u32 (wN (x.c + y.c)), .int .u32 (wN (x.d + y.d)), .int .u32 (wN (x.e + y.e)), .int .u32 (wN (x.f + y.f)), .int .u32 (wN (x.g + y.g)), .int .u32 (wN (x.i + y.i))])
    (by simp [results, Tryd.results85, go_sem]) rfl ⟨rfl, (((Below.refl _ w).alloc (Nat.le_refl _) _).alloc (by simp) _).alloc (by simp; omega) _⟩

theorem W8.size_cells (v : W8) : v.cells.toArray.size = 8 := rfl
theorem sizeWords : (Tryd.prog.info? 145).map (·.size) = some 8 := by kernel_rfl

set_option maxRecDepth 100000 in
set_option maxHeartbeats 1000000 in
theorem round_any (v : W8) (k x : UInt32) (w : World) : Calls Tryd.prog 84 #[v.val, wv k, wv x] w fun e w' => e = .returned (v.round k x).val ∧ Below w.heap.size w w' := by
  have hadd := n_add
  have hx := n_xor
  have ha := n_and
  have hn := n_not1
  unfold W8.val W8.cells wv
  go_enter Tryd.func84, Tryd.ntmps84
  go_wp2
  go_quiet ((go_at_call 83; (with_reducible exact Calls.quiet_of_same (rot_q _ _ (by decide) (by decide) _))))
  go_wp2
  go_quiet ((go_at_call 83; (with_reducible exact quiet_add_same (rot_q _ _ (by decide) (by decide) _))))
  go_wp2
  refine bodyPost_ret (v := (v.round k x).val) ?h1 rfl ?h2
  case h1 => simp [results, Tryd.results84, go_sem, W8.val, W8.cells, W8.round, W8.t, W8.u, bs0, bs1, wv]
  case h2 =>
    refine ⟨rfl, ?_⟩
    iterate 8 refine Below.setCell ?_ (by simp) _
    exact below_drewN (((Below.refl _ w).alloc (Nat.le_refl _) _).alloc (by simp) _) _

end Go.Proofs.YtplclpileejemaaDoor
