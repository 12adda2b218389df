/- One operation on the device and on the reference (Do). -/
import Derived.Test.YtkklbmnbjmicnaaRef12
import Derived.Test.YtkklbmnbjmicnaaRegion2
import Derived.Test.YtkklbmnbjmicnaaDisk10
import Derived.Test.YtkklbmnbjmicnaaDisk9
namespace Go.Proofs.Ytkklbmnbjmicnaa
open Go.RowKit Go.Shelf
set_option linter.unusedVariables false
set_option linter.unusedSimpArgs false

def opV (k s a : Int) (f t : UInt8) (cv : Value) : Value := .agg #[.int .i64 k, .int .i64 s, .int .i64 a, .int .u8 (f.toNat : Int), .int .u8 (t.toNat : Int), cv]
def DoPost (w : World) (F G : Nat → Prop) (b : Nat) (S' : DS) (e : Ending) (w' : World) : Prop :=
  ∃ v' F' G', e = .returned (.tuple #[v', .bool true]) ∧ DiskAt w' F' b S' ∧ RefAt w' G' S' v' ∧ (∀ k, F' k → ¬ G' k) ∧ (∀ k, F' k → F k ∨ w.heap.size ≤ k) ∧ (∀ k, G' k → G k ∨ w.heap.size ≤ k) ∧ Chg F w w'

theorem cells6 {w : World} {b : Nat} {a0 a1 a2 a3 a4 a5 : Value} {T : TypeId} (h : w.heap[b]? = some (.cells #[a0, a1, a2, a3, a4, a5] T (0, 0))) :
    w.cell? ⟨b, 0, none⟩ = some a0 ∧ w.cell? ⟨b, 1, none⟩ = some a1 ∧ w.cell? ⟨b, 2, none⟩ = some a2 ∧ w.cell? ⟨b, 3, none⟩ = some a3 ∧ w.cell? ⟨b, 4, none⟩ = some a4 ∧ w.cell? ⟨b, 5, none⟩ = some a5 ∧ ∀ i, w.frozen? ⟨b, i, none⟩ = false := by
  simp [World.cell?, World.frozen?, h]
theorem RefAt.form {w : World} {G : Nat → Prop} {S : DS} {v : Value} (h : RefAt w G S v) : ∃ a c a' c', v = refV S (.slice a S.dur.length c) (.slice a' S.pend.length c') := by
  obtain ⟨dv, wv, rfl, hd, hw⟩ := h
  obtain ⟨a, c, rfl⟩ := hd.len
  obtain ⟨a', c', rfl⟩ := hw.len
  exact ⟨a, c, a', c', rfl⟩

theorem RefAt.ofS {w : World} {G : Nat → Prop} {S S' : DS} {dv wv : Value} {x : Int} {y : Bool} {z : Int} (h : RefAt w G S (.agg #[dv, wv, .int .i64 x, .bool y, .int .i64 z])) (hd : S'.dur = S.dur) (hp : S'.pend = S.pend) : RefAt w G S' (refV S' dv wv) := by
  obtain ⟨dv', wv', e, h1, h2⟩ := h
  have e1 : dv = dv' ∧ wv = wv' := by simp [refV] at e; exact ⟨e.1, e.2.1⟩
  obtain ⟨rfl, rfl⟩ := e1
  exact ⟨dv, wv, rfl, by rw [hd]; exact h1, by rw [hp]; exact h2⟩

/-- The first k of bytes that lie in a block of their own. -/
theorem bytes_cut {w : World} {F : Nat → Prop} {g k : Nat} {T : TypeId} {l : List UInt8} (h : w.heap[g]? = some (.cells (bvs l).toArray T (0, 0))) (hF : F g) (hk : k ≤ l.length) : BytesAt w F (.slice (some ⟨g, 0, none⟩) k l.length) (l.take k) := by
  have e : (l.take k).length = k := by simp; omega
  refine ⟨some ⟨g, 0, none⟩, l.length, by rw [e], by omega, fun _ => ⟨g, 0, rfl, hF, (Array.getElem?_eq_some_iff.1 h).1, fun j u hu => ?_⟩⟩
  rw [cell_of_row w _ _ _ _ _ h]
  rw [bvs_getElem?, List.getElem?_take] at hu
  split at hu
  · simpa [bvs_getElem?] using hu
  · cases hu

theorem Read_at {w : World} {F : Nat → Prop} {b : Nat} {S : DS} (s : Int) (h : DiskAt w F b S) (hlen : S.pend.length < 1000000000000) :
    Calls Try.prog 18 #[.pointer (some ⟨b, 0, none⟩), .int .i64 s] w fun e w' => ∃ v, e = .returned (.tuple #[v, .int .i64 (S.readE s)]) ∧ BytesAt w' (fun k => w.heap.size ≤ k) v (S.readB s) ∧ Below w.heap.size w w' := by
  refine (Read_any s h hlen).mono ?_
  rintro e w' ⟨v, he, hv, hb⟩
  refine ⟨v, he, ?_, hb⟩
  by_cases h0 : S.readB s = []
  · rw [if_pos h0] at hv
    rw [h0, hv]
    exact bytesAt_nil _ _
  · rw [if_neg h0] at hv
    exact hv.bytes

/-- The end of an operation: what was stored into the boxes at the front of the call touches neither device. -/
theorem do_end {w w2 w3 w5 : World} {F G F2 G3 : Nat → Prop} {b : Nat} {S' : DS} {v3 : Value} (hD : DiskAt w2 F2 b S') (hF2 : ∀ k, F2 k → (F k ∧ k < w.heap.size) ∨ (w.heap.size + 3 ≤ k ∧ k < w2.heap.size)) (hC : Chg F w w2)
    (hR : RefAt w3 G3 S' v3) (hG3 : ∀ k, G3 k → (G k ∧ k < w.heap.size) ∨ w2.heap.size ≤ k) (hb : Below w2.heap.size w2 w3) (h5 : Chg (fun k => k = w.heap.size ∨ k = w.heap.size + 1 + 1) w3 w5) (hs : w.heap.size + 3 ≤ w2.heap.size) (hFG : ∀ k, F k → ¬ G k) :
    ∀ e, e = .returned (.tuple #[v3, .bool true]) → DoPost w F G b S' e w5 := by
  rintro e rfl
  refine ⟨v3, F2, G3, rfl, (hD.below hb).chg h5 (fun k h e => ?_), hR.kept h5 (fun k h e => ?_), fun k h h' => ?_, fun k h => ?_, fun k h => ?_, ?_⟩
  · have := hF2 k h; omega
  · have := hG3 k h; omega
  · have h1 := hF2 k h
    have h2 := hG3 k h'
    rcases h1 with h1 | h1
    · rcases h2 with h2 | h2
      · exact hFG k h1.1 h2.1
      · omega
    · omega
  · have := hF2 k h
    rcases this with h1 | h1
    · exact .inl h1.1
    · exact .inr (by omega)
  · have := hG3 k h
    rcases this with h1 | h1
    · exact .inl h1.1
    · exact .inr (by omega)
  · exact (hC.trans (Chg.of_below hb (F := fun _ => False)) (fun _ h => h.elim)).trans h5 (fun i h => .inr (by omega))

set_option maxRecDepth 100000 in
set_option maxHeartbeats 2000000 in
theorem do_flush {w : World} {F G C : Nat → Prop} {b : Nat} {S : DS} {v cv : Value} (s a : Int) (f t : UInt8) (cs : List UInt8) (h : DiskAt w F b S) (hr : RefAt w G S v) (hcv : BytesAt w C cv cs) (hFG : ∀ k, F k → ¬ G k) (hFC : ∀ k, F k → ¬ C k)
    (hlen : S.pend.length < 1000000) (hops : S.ops < 1000000) (hlim : S.limit.getD 0 ≤ 9223372036854775807) (hcl : cs.length ≤ 9223372036854775807) :
    Calls Try.prog 31 #[.pointer (some ⟨b, 0, none⟩), v, opV 1 s a f t cv] w (DoPost w F G b S.flush.1) := by
  have hok := h.ok
  have HDB := Lib.hid h.bound
  have HRB := Lib.hid hr.bound
  have HOK := Lib.hid hok
  have HFG := Lib.hid hFG
  have HFC := Lib.hid hFC
  have HCV := Lib.hid hcv
  obtain ⟨dv, wv, rfl, hdu, hw⟩ := hr
  obtain ⟨ad, capd, rfl⟩ := hdu.len
  obtain ⟨aw, capw, rfl⟩ := hw.len
  obtain ⟨ca, cc, rfl, _⟩ := hcv
  clear hdu hw hok hFG hFC h
  unfold opV
  unfold refV at HRB ⊢
  have h3 := heap3 w (.cells #[.slice ad S.dur.length capd, .slice aw S.pend.length capw, .int .i64 (limI S), .bool S.down, .int .i64 (S.ops : Int)] 45) (.cells #[.int .i64 1, .int .i64 s, .int .i64 a, .int .u8 (f.toNat : Int), .int .u8 (t.toNat : Int), .slice ca cs.length cc] 61) (.cells #[.slice none 0 0, .slice none 0 0, .int .i64 0, .bool false, .int .i64 0] 45)
  have hb3 := below3 w (.cells #[.slice ad S.dur.length capd, .slice aw S.pend.length capw, .int .i64 (limI S), .bool S.down, .int .i64 (S.ops : Int)] 45) (.cells #[.int .i64 1, .int .i64 s, .int .i64 a, .int .u8 (f.toNat : Int), .int .u8 (t.toNat : Int), .slice ca cs.length cc] 61) (.cells #[.slice none 0 0, .slice none 0 0, .int .i64 0, .bool false, .int .i64 0] 45)
  obtain ⟨w1, hw1⟩ : ∃ w1, ((w.alloc (.cells #[.slice ad S.dur.length capd, .slice aw S.pend.length capw, .int .i64 (limI S), .bool S.down, .int .i64 (S.ops : Int)] 45)).alloc (.cells #[.int .i64 1, .int .i64 s, .int .i64 a, .int .u8 (f.toNat : Int), .int .u8 (t.toNat : Int), .slice ca cs.length cc] 61)).alloc (.cells #[.slice none 0 0, .slice none 0 0, .int .i64 0, .bool false, .int .i64 0] 45) = w1 := ⟨_, rfl⟩
  have hs1 : w1.heap.size = w.heap.size + 3 := by rw [← hw1, World.size_alloc, World.size_alloc, World.size_alloc]
  rw [hw1] at h3 hb3
  obtain ⟨n1, n2, n3⟩ := h3
  obtain ⟨c0, c1, c2, c3, c4, cf⟩ := cells5 n1
  obtain ⟨o0, o1, o2, o3, o4, o5, of⟩ := cells6 n2
  have hD1 := HDB.out.below hb3
  have hR1 := HRB.out.below hb3
  have HB1 := Lib.hid hb3
  have HS1 := Lib.hid hs1
  have HN1 := Lib.hid n1
  have HN2 := Lib.hid n2
  have HN3 := Lib.hid n3
  have HD1 := Lib.hid hD1
  have HR1 := Lib.hid hR1
  clear hb3 hs1 n1 n2 n3 hD1 hR1
  go_enter Try.func31, Try.ntmps31
  go_wp2_with fail
  refine (Flush_any HD1.out (by omega) (by omega) hlim).mono ?_
  rintro e w2 ⟨rfl, hD2, hC2⟩
  have hcd : Chg (fun k => F k ∧ k < w.heap.size) w1 w2 := hC2
  have hs1 := HS1.out
  have n1 : w2.heap[w.heap.size]? = _ := (hcd.block _ (by omega) (by omega)).trans HN1.out
  have n2 : w2.heap[w.heap.size + 1]? = _ := (hcd.block _ (by omega) (by omega)).trans HN2.out
  have n3 : w2.heap[w.heap.size + 1 + 1]? = _ := (hcd.block _ (by omega) (by omega)).trans HN3.out
  have hR2 := HR1.out.kept hcd (fun k hg hf => HFG.out k hf.1 hg.1)
  have hcw : Chg F w w2 := (Chg.of_below HB1.out).trans (hcd.mono (fun k h => h.1)) (fun _ h => .inl h)
  have hsz := hcd.size
  have HN1' := Lib.hid n1
  have HN2' := Lib.hid n2
  have HN3' := Lib.hid n3
  have HR2 := Lib.hid hR2
  have HCW := Lib.hid hcw
  have HSZ := Lib.hid hsz
  have HCD := Lib.hid hcd
  clear c0 c1 c2 c3 c4 cf o0 o1 o2 o3 o4 o5 of
  obtain ⟨c0, c1, c2, c3, c4, cf⟩ := cells5 n1
  obtain ⟨o0, o1, o2, o3, o4, o5, of⟩ := cells6 n2
  clear n1 n2 n3 hR2 hcw hsz hcd hs1 hw1
  have HD2 := Lib.hid hD2
  have hF2 : ∀ k, (F k ∧ k < w.heap.size) → (F k ∧ k < w.heap.size) ∨ (w.heap.size + 3 ≤ k ∧ k < w2.heap.size) := fun k h => .inl h
  have HF2 := Lib.hid hF2
  clear hF2 hD2 hC2
  go_wp2_with fail
  refine (ref_flush HR2.out HOK.out (by omega) (by omega) hlim).mono ?_
  rintro e w3 ⟨v3, rfl, hR3, hb3⟩
  obtain ⟨ad3, cd3, aw3, cw3, rfl⟩ := hR3.form
  unfold refV
  have hs1 := HS1.out
  have hsz := HSZ.out
  have n1 : w3.heap[w.heap.size]? = _ := (hb3.block _ (by omega)).trans HN1'.out
  have n3 : w3.heap[w.heap.size + 1 + 1]? = _ := (hb3.block _ (by omega)).trans HN3'.out
  obtain ⟨w4, hw4⟩ : ∃ w4, put5 w3 w.heap.size (.slice ad3 (S.flush.1).dur.length cd3) (.slice aw3 (S.flush.1).pend.length cw3) (.int .i64 (limI (S.flush.1))) (.bool (S.flush.1).down) (.int .i64 ((S.flush.1).ops : Int)) = w4 := ⟨_, rfl⟩
  have n41 := put5_heap n1 (.slice ad3 (S.flush.1).dur.length cd3) (.slice aw3 (S.flush.1).pend.length cw3) (.int .i64 (limI (S.flush.1))) (.bool (S.flush.1).down) (.int .i64 ((S.flush.1).ops : Int))
  have hc4 := put5_chg w3 w.heap.size (.slice ad3 (S.flush.1).dur.length cd3) (.slice aw3 (S.flush.1).pend.length cw3) (.int .i64 (limI (S.flush.1))) (.bool (S.flush.1).down) (.int .i64 ((S.flush.1).ops : Int))
  rw [hw4] at n41 hc4
  have n43 : w4.heap[w.heap.size + 1 + 1]? = _ := (hc4.block _ (Array.getElem?_eq_some_iff.1 n3).1 (by omega)).trans n3
  obtain ⟨w5, hw5⟩ : ∃ w5, put5 w4 (w.heap.size + 1 + 1) (.slice ad3 (S.flush.1).dur.length cd3) (.slice aw3 (S.flush.1).pend.length cw3) (.int .i64 (limI (S.flush.1))) (.bool (S.flush.1).down) (.int .i64 ((S.flush.1).ops : Int)) = w5 := ⟨_, rfl⟩
  have n51 := put5_heap n43 (.slice ad3 (S.flush.1).dur.length cd3) (.slice aw3 (S.flush.1).pend.length cw3) (.int .i64 (limI (S.flush.1))) (.bool (S.flush.1).down) (.int .i64 ((S.flush.1).ops : Int))
  have hc5 := put5_chg w4 (w.heap.size + 1 + 1) (.slice ad3 (S.flush.1).dur.length cd3) (.slice aw3 (S.flush.1).pend.length cw3) (.int .i64 (limI (S.flush.1))) (.bool (S.flush.1).down) (.int .i64 ((S.flush.1).ops : Int))
  rw [hw5] at n51 hc5
  have hfin := do_end HD2.out HF2.out HCW.out hR3 (fun k h => h.elim (fun h => .inl h) .inr) hb3 ((hc4.mono (fun k (h : k = w.heap.size) => (Or.inl h : k = w.heap.size ∨ k = w.heap.size + 1 + 1))).trans (hc5.mono (G := fun k => k = w.heap.size ∨ k = w.heap.size + 1 + 1) (fun k h => .inr h)) (fun k h => .inl h)) (by omega) HFG.out
  have HFIN := Lib.hid hfin
  have HN51 := Lib.hid n51
  have HW5 := Lib.hid hw5
  clear c0 c1 c2 c3 c4 cf o0 o1 o2 o3 o4 o5 of
  obtain ⟨c0, c1, c2, c3, c4, cf⟩ := cells5 n1
  obtain ⟨x0, x1, x2, x3, x4, xf⟩ := cells5 n41
  obtain ⟨z0, z1, z2, z3, z4, zf⟩ := cells5 n43
  unfold put5 at hw4
  clear hs1 hsz n1 n3 n41 hc4 n43 n51 hc5 hfin hw5 hR3 hb3
  go_wp2_with fail
  have hw5 := HW5.out
  unfold put5 at hw5
  rw [hw5]
  exact bodyPost_ret (results_cell_tmp_row (g := w.heap.size + 1 + 1) rfl _ _ _ _ _ _ rfl HN51.out Try.underlying45 rfl infoD) rfl (HFIN.out _ rfl)

set_option maxRecDepth 100000 in
set_option maxHeartbeats 2000000 in
theorem do_restart {w : World} {F G C : Nat → Prop} {b : Nat} {S : DS} {v cv : Value} (s a : Int) (f t : UInt8) (cs : List UInt8) (h : DiskAt w F b S) (hr : RefAt w G S v) (hcv : BytesAt w C cv cs) (hFG : ∀ k, F k → ¬ G k) (hFC : ∀ k, F k → ¬ C k)
    (hlen : S.pend.length < 1000000) (hops : S.ops < 1000000) (hlim : S.limit.getD 0 ≤ 9223372036854775807) (hcl : cs.length ≤ 9223372036854775807) :
    Calls Try.prog 31 #[.pointer (some ⟨b, 0, none⟩), v, opV 4 s a f t cv] w (DoPost w F G b (S.restart cs).1) := by
  have hok := h.ok
  have HDB := Lib.hid h.bound
  have HRB := Lib.hid hr.bound
  have HOK := Lib.hid hok
  have HFG := Lib.hid hFG
  have HFC := Lib.hid hFC
  have HCV := Lib.hid hcv
  obtain ⟨dv, wv, rfl, hdu, hw⟩ := hr
  obtain ⟨ad, capd, rfl⟩ := hdu.len
  obtain ⟨aw, capw, rfl⟩ := hw.len
  obtain ⟨ca, cc, rfl, _⟩ := hcv
  clear hdu hw hok hFG hFC h
  unfold opV
  unfold refV at HRB ⊢
  have h3 := heap3 w (.cells #[.slice ad S.dur.length capd, .slice aw S.pend.length capw, .int .i64 (limI S), .bool S.down, .int .i64 (S.ops : Int)] 45) (.cells #[.int .i64 4, .int .i64 s, .int .i64 a, .int .u8 (f.toNat : Int), .int .u8 (t.toNat : Int), .slice ca cs.length cc] 61) (.cells #[.slice none 0 0, .slice none 0 0, .int .i64 0, .bool false, .int .i64 0] 45)
  have hb3 := below3 w (.cells #[.slice ad S.dur.length capd, .slice aw S.pend.length capw, .int .i64 (limI S), .bool S.down, .int .i64 (S.ops : Int)] 45) (.cells #[.int .i64 4, .int .i64 s, .int .i64 a, .int .u8 (f.toNat : Int), .int .u8 (t.toNat : Int), .slice ca cs.length cc] 61) (.cells #[.slice none 0 0, .slice none 0 0, .int .i64 0, .bool false, .int .i64 0] 45)
  obtain ⟨w1, hw1⟩ : ∃ w1, ((w.alloc (.cells #[.slice ad S.dur.length capd, .slice aw S.pend.length capw, .int .i64 (limI S), .bool S.down, .int .i64 (S.ops : Int)] 45)).alloc (.cells #[.int .i64 4, .int .i64 s, .int .i64 a, .int .u8 (f.toNat : Int), .int .u8 (t.toNat : Int), .slice ca cs.length cc] 61)).alloc (.cells #[.slice none 0 0, .slice none 0 0, .int .i64 0, .bool false, .int .i64 0] 45) = w1 := ⟨_, rfl⟩
  have hs1 : w1.heap.size = w.heap.size + 3 := by rw [← hw1, World.size_alloc, World.size_alloc, World.size_alloc]
  rw [hw1] at h3 hb3
  obtain ⟨n1, n2, n3⟩ := h3
  obtain ⟨c0, c1, c2, c3, c4, cf⟩ := cells5 n1
  obtain ⟨o0, o1, o2, o3, o4, o5, of⟩ := cells6 n2
  have hD1 := HDB.out.below hb3
  have hR1 := HRB.out.below hb3
  have HB1 := Lib.hid hb3
  have HS1 := Lib.hid hs1
  have HN1 := Lib.hid n1
  have HN2 := Lib.hid n2
  have HN3 := Lib.hid n3
  have HD1 := Lib.hid hD1
  have HR1 := Lib.hid hR1
  clear hb3 hs1 n1 n2 n3 hD1 hR1
  have hcv1 := HCV.out.kept (F := C) (G := fun _ => False) (Chg.of_below HB1.out) (fun _ _ h => h)
  have HCV1 := Lib.hid hcv1
  clear hcv1
  go_enter Try.func31, Try.ntmps31
  go_wp2_with fail
  refine (Restart_any _ cs HD1.out HCV1.out (fun k h => HFC.out k h.1) (by omega) hcl).mono ?_
  rintro e w2 ⟨rfl, hD2, hC2⟩
  have hcd : Chg (fun k => F k ∧ k < w.heap.size) w1 w2 := hC2
  have hs1 := HS1.out
  have n1 : w2.heap[w.heap.size]? = _ := (hcd.block _ (by omega) (by omega)).trans HN1.out
  have n2 : w2.heap[w.heap.size + 1]? = _ := (hcd.block _ (by omega) (by omega)).trans HN2.out
  have n3 : w2.heap[w.heap.size + 1 + 1]? = _ := (hcd.block _ (by omega) (by omega)).trans HN3.out
  have hR2 := HR1.out.kept hcd (fun k hg hf => HFG.out k hf.1 hg.1)
  have hcw : Chg F w w2 := (Chg.of_below HB1.out).trans (hcd.mono (fun k h => h.1)) (fun _ h => .inl h)
  have hsz := hcd.size
  have HN1' := Lib.hid n1
  have HN2' := Lib.hid n2
  have HN3' := Lib.hid n3
  have HR2 := Lib.hid hR2
  have HCW := Lib.hid hcw
  have HSZ := Lib.hid hsz
  have HCD := Lib.hid hcd
  clear c0 c1 c2 c3 c4 cf o0 o1 o2 o3 o4 o5 of
  obtain ⟨c0, c1, c2, c3, c4, cf⟩ := cells5 n1
  obtain ⟨o0, o1, o2, o3, o4, o5, of⟩ := cells6 n2
  clear n1 n2 n3 hR2 hcw hsz hcd hs1 hw1
  have HD2 := Lib.hid hD2
  have hF2 : ∀ k, (F k ∧ k < w.heap.size) → (F k ∧ k < w.heap.size) ∨ (w.heap.size + 3 ≤ k ∧ k < w2.heap.size) := fun k h => .inl h
  have HF2 := Lib.hid hF2
  clear hF2 hD2 hC2
  have hcv2 := HCV1.out.kept HCD.out (fun k hc hf => HFC.out k hf.1 hc)
  have HCV2 := Lib.hid hcv2
  clear hcv2
  go_wp2_with fail
  refine (ref_restart cs HR2.out HCV2.out HOK.out (by omega) hcl).mono ?_
  rintro e w3 ⟨v3, rfl, hR3, hb3⟩
  obtain ⟨ad3, cd3, aw3, cw3, rfl⟩ := hR3.form
  unfold refV
  have hs1 := HS1.out
  have hsz := HSZ.out
  have n1 : w3.heap[w.heap.size]? = _ := (hb3.block _ (by omega)).trans HN1'.out
  have n3 : w3.heap[w.heap.size + 1 + 1]? = _ := (hb3.block _ (by omega)).trans HN3'.out
  obtain ⟨w4, hw4⟩ : ∃ w4, put5 w3 w.heap.size (.slice ad3 ((S.restart cs).1).dur.length cd3) (.slice aw3 ((S.restart cs).1).pend.length cw3) (.int .i64 (limI ((S.restart cs).1))) (.bool ((S.restart cs).1).down) (.int .i64 (((S.restart cs).1).ops : Int)) = w4 := ⟨_, rfl⟩
  have n41 := put5_heap n1 (.slice ad3 ((S.restart cs).1).dur.length cd3) (.slice aw3 ((S.restart cs).1).pend.length cw3) (.int .i64 (limI ((S.restart cs).1))) (.bool ((S.restart cs).1).down) (.int .i64 (((S.restart cs).1).ops : Int))
  have hc4 := put5_chg w3 w.heap.size (.slice ad3 ((S.restart cs).1).dur.length cd3) (.slice aw3 ((S.restart cs).1).pend.length cw3) (.int .i64 (limI ((S.restart cs).1))) (.bool ((S.restart cs).1).down) (.int .i64 (((S.restart cs).1).ops : Int))
  rw [hw4] at n41 hc4
  have n43 : w4.heap[w.heap.size + 1 + 1]? = _ := (hc4.block _ (Array.getElem?_eq_some_iff.1 n3).1 (by omega)).trans n3
  obtain ⟨w5, hw5⟩ : ∃ w5, put5 w4 (w.heap.size + 1 + 1) (.slice ad3 ((S.restart cs).1).dur.length cd3) (.slice aw3 ((S.restart cs).1).pend.length cw3) (.int .i64 (limI ((S.restart cs).1))) (.bool ((S.restart cs).1).down) (.int .i64 (((S.restart cs).1).ops : Int)) = w5 := ⟨_, rfl⟩
  have n51 := put5_heap n43 (.slice ad3 ((S.restart cs).1).dur.length cd3) (.slice aw3 ((S.restart cs).1).pend.length cw3) (.int .i64 (limI ((S.restart cs).1))) (.bool ((S.restart cs).1).down) (.int .i64 (((S.restart cs).1).ops : Int))
  have hc5 := put5_chg w4 (w.heap.size + 1 + 1) (.slice ad3 ((S.restart cs).1).dur.length cd3) (.slice aw3 ((S.restart cs).1).pend.length cw3) (.int .i64 (limI ((S.restart cs).1))) (.bool ((S.restart cs).1).down) (.int .i64 (((S.restart cs).1).ops : Int))
  rw [hw5] at n51 hc5
  have hfin := do_end HD2.out HF2.out HCW.out hR3 (fun k h => h.elim (fun h => .inl h) .inr) hb3 ((hc4.mono (fun k (h : k = w.heap.size) => (Or.inl h : k = w.heap.size ∨ k = w.heap.size + 1 + 1))).trans (hc5.mono (G := fun k => k = w.heap.size ∨ k = w.heap.size + 1 + 1) (fun k h => .inr h)) (fun k h => .inl h)) (by omega) HFG.out
  have HFIN := Lib.hid hfin
  have HN51 := Lib.hid n51
  have HW5 := Lib.hid hw5
  clear c0 c1 c2 c3 c4 cf o0 o1 o2 o3 o4 o5 of
  obtain ⟨c0, c1, c2, c3, c4, cf⟩ := cells5 n1
  obtain ⟨x0, x1, x2, x3, x4, xf⟩ := cells5 n41
  obtain ⟨z0, z1, z2, z3, z4, zf⟩ := cells5 n43
  unfold put5 at hw4
  clear hs1 hsz n1 n3 n41 hc4 n43 n51 hc5 hfin hw5 hR3 hb3
  go_wp2_with fail
  have hw5 := HW5.out
  unfold put5 at hw5
  rw [hw5]
  exact bodyPost_ret (results_cell_tmp_row (g := w.heap.size + 1 + 1) rfl _ _ _ _ _ _ rfl HN51.out Try.underlying45 rfl infoD) rfl (HFIN.out _ rfl)

set_option maxRecDepth 100000 in
set_option maxHeartbeats 2000000 in
theorem do_damage {w : World} {F G C : Nat → Prop} {b : Nat} {S : DS} {v cv : Value} (s a : Int) (f t : UInt8) (cs : List UInt8) (h : DiskAt w F b S) (hr : RefAt w G S v) (hcv : BytesAt w C cv cs) (hFG : ∀ k, F k → ¬ G k) (hFC : ∀ k, F k → ¬ C k)
    (hlen : S.pend.length < 1000000) (hops : S.ops < 1000000) (hlim : S.limit.getD 0 ≤ 9223372036854775807) (hcl : cs.length ≤ 9223372036854775807) :
    Calls Try.prog 31 #[.pointer (some ⟨b, 0, none⟩), v, opV 6 s a f t cv] w (DoPost w F G b (S.damage s a f).1) := by
  have hok := h.ok
  have HDB := Lib.hid h.bound
  have HRB := Lib.hid hr.bound
  have HOK := Lib.hid hok
  have HFG := Lib.hid hFG
  have HFC := Lib.hid hFC
  have HCV := Lib.hid hcv
  obtain ⟨dv, wv, rfl, hdu, hw⟩ := hr
  obtain ⟨ad, capd, rfl⟩ := hdu.len
  obtain ⟨aw, capw, rfl⟩ := hw.len
  obtain ⟨ca, cc, rfl, _⟩ := hcv
  clear hdu hw hok hFG hFC h
  unfold opV
  unfold refV at HRB ⊢
  have h3 := heap3 w (.cells #[.slice ad S.dur.length capd, .slice aw S.pend.length capw, .int .i64 (limI S), .bool S.down, .int .i64 (S.ops : Int)] 45) (.cells #[.int .i64 6, .int .i64 s, .int .i64 a, .int .u8 (f.toNat : Int), .int .u8 (t.toNat : Int), .slice ca cs.length cc] 61) (.cells #[.slice none 0 0, .slice none 0 0, .int .i64 0, .bool false, .int .i64 0] 45)
  have hb3 := below3 w (.cells #[.slice ad S.dur.length capd, .slice aw S.pend.length capw, .int .i64 (limI S), .bool S.down, .int .i64 (S.ops : Int)] 45) (.cells #[.int .i64 6, .int .i64 s, .int .i64 a, .int .u8 (f.toNat : Int), .int .u8 (t.toNat : Int), .slice ca cs.length cc] 61) (.cells #[.slice none 0 0, .slice none 0 0, .int .i64 0, .bool false, .int .i64 0] 45)
  obtain ⟨w1, hw1⟩ : ∃ w1, ((w.alloc (.cells #[.slice ad S.dur.length capd, .slice aw S.pend.length capw, .int .i64 (limI S), .bool S.down, .int .i64 (S.ops : Int)] 45)).alloc (.cells #[.int .i64 6, .int .i64 s, .int .i64 a, .int .u8 (f.toNat : Int), .int .u8 (t.toNat : Int), .slice ca cs.length cc] 61)).alloc (.cells #[.slice none 0 0, .slice none 0 0, .int .i64 0, .bool false, .int .i64 0] 45) = w1 := ⟨_, rfl⟩
  have hs1 : w1.heap.size = w.heap.size + 3 := by rw [← hw1, World.size_alloc, World.size_alloc, World.size_alloc]
  rw [hw1] at h3 hb3
  obtain ⟨n1, n2, n3⟩ := h3
  obtain ⟨c0, c1, c2, c3, c4, cf⟩ := cells5 n1
  obtain ⟨o0, o1, o2, o3, o4, o5, of⟩ := cells6 n2
  have hD1 := HDB.out.below hb3
  have hR1 := HRB.out.below hb3
  have HB1 := Lib.hid hb3
  have HS1 := Lib.hid hs1
  have HN1 := Lib.hid n1
  have HN2 := Lib.hid n2
  have HN3 := Lib.hid n3
  have HD1 := Lib.hid hD1
  have HR1 := Lib.hid hR1
  clear hb3 hs1 n1 n2 n3 hD1 hR1
  go_enter Try.func31, Try.ntmps31
  go_wp2_with fail
  refine (Damage_any s a f HD1.out (by omega)).mono ?_
  rintro e w2 ⟨rfl, hD2, hC2⟩
  have hcd : Chg (fun k => F k ∧ k < w.heap.size) w1 w2 := hC2
  have hs1 := HS1.out
  have n1 : w2.heap[w.heap.size]? = _ := (hcd.block _ (by omega) (by omega)).trans HN1.out
  have n2 : w2.heap[w.heap.size + 1]? = _ := (hcd.block _ (by omega) (by omega)).trans HN2.out
  have n3 : w2.heap[w.heap.size + 1 + 1]? = _ := (hcd.block _ (by omega) (by omega)).trans HN3.out
  have hR2 := HR1.out.kept hcd (fun k hg hf => HFG.out k hf.1 hg.1)
  have hcw : Chg F w w2 := (Chg.of_below HB1.out).trans (hcd.mono (fun k h => h.1)) (fun _ h => .inl h)
  have hsz := hcd.size
  have HN1' := Lib.hid n1
  have HN2' := Lib.hid n2
  have HN3' := Lib.hid n3
  have HR2 := Lib.hid hR2
  have HCW := Lib.hid hcw
  have HSZ := Lib.hid hsz
  have HCD := Lib.hid hcd
  clear c0 c1 c2 c3 c4 cf o0 o1 o2 o3 o4 o5 of
  obtain ⟨c0, c1, c2, c3, c4, cf⟩ := cells5 n1
  obtain ⟨o0, o1, o2, o3, o4, o5, of⟩ := cells6 n2
  clear n1 n2 n3 hR2 hcw hsz hcd hs1 hw1
  have HD2 := Lib.hid hD2
  have hF2 : ∀ k, (F k ∧ k < w.heap.size) → (F k ∧ k < w.heap.size) ∨ (w.heap.size + 3 ≤ k ∧ k < w2.heap.size) := fun k h => .inl h
  have HF2 := Lib.hid hF2
  clear hF2 hD2 hC2
  go_wp2_with fail
  refine (ref_damage s a f HR2.out HOK.out (by omega)).mono ?_
  rintro e w3 ⟨v3, rfl, hR3, hb3⟩
  obtain ⟨ad3, cd3, aw3, cw3, rfl⟩ := hR3.form
  unfold refV
  have hs1 := HS1.out
  have hsz := HSZ.out
  have n1 : w3.heap[w.heap.size]? = _ := (hb3.block _ (by omega)).trans HN1'.out
  have n3 : w3.heap[w.heap.size + 1 + 1]? = _ := (hb3.block _ (by omega)).trans HN3'.out
  obtain ⟨w4, hw4⟩ : ∃ w4, put5 w3 w.heap.size (.slice ad3 ((S.damage s a f).1).dur.length cd3) (.slice aw3 ((S.damage s a f).1).pend.length cw3) (.int .i64 (limI ((S.damage s a f).1))) (.bool ((S.damage s a f).1).down) (.int .i64 (((S.damage s a f).1).ops : Int)) = w4 := ⟨_, rfl⟩
  have n41 := put5_heap n1 (.slice ad3 ((S.damage s a f).1).dur.length cd3) (.slice aw3 ((S.damage s a f).1).pend.length cw3) (.int .i64 (limI ((S.damage s a f).1))) (.bool ((S.damage s a f).1).down) (.int .i64 (((S.damage s a f).1).ops : Int))
  have hc4 := put5_chg w3 w.heap.size (.slice ad3 ((S.damage s a f).1).dur.length cd3) (.slice aw3 ((S.damage s a f).1).pend.length cw3) (.int .i64 (limI ((S.damage s a f).1))) (.bool ((S.damage s a f).1).down) (.int .i64 (((S.damage s a f).1).ops : Int))
  rw [hw4] at n41 hc4
  have n43 : w4.heap[w.heap.size + 1 + 1]? = _ := (hc4.block _ (Array.getElem?_eq_some_iff.1 n3).1 (by omega)).trans n3
  obtain ⟨w5, hw5⟩ : ∃ w5, put5 w4 (w.heap.size + 1 + 1) (.slice ad3 ((S.damage s a f).1).dur.length cd3) (.slice aw3 ((S.damage s a f).1).pend.length cw3) (.int .i64 (limI ((S.damage s a f).1))) (.bool ((S.damage s a f).1).down) (.int .i64 (((S.damage s a f).1).ops : Int)) = w5 := ⟨_, rfl⟩
  have n51 := put5_heap n43 (.slice ad3 ((S.damage s a f).1).dur.length cd3) (.slice aw3 ((S.damage s a f).1).pend.length cw3) (.int .i64 (limI ((S.damage s a f).1))) (.bool ((S.damage s a f).1).down) (.int .i64 (((S.damage s a f).1).ops : Int))
  have hc5 := put5_chg w4 (w.heap.size + 1 + 1) (.slice ad3 ((S.damage s a f).1).dur.length cd3) (.slice aw3 ((S.damage s a f).1).pend.length cw3) (.int .i64 (limI ((S.damage s a f).1))) (.bool ((S.damage s a f).1).down) (.int .i64 (((S.damage s a f).1).ops : Int))
  rw [hw5] at n51 hc5
  have hfin := do_end HD2.out HF2.out HCW.out hR3 (fun k h => h.elim (fun h => .inl h) .inr) hb3 ((hc4.mono (fun k (h : k = w.heap.size) => (Or.inl h : k = w.heap.size ∨ k = w.heap.size + 1 + 1))).trans (hc5.mono (G := fun k => k = w.heap.size ∨ k = w.heap.size + 1 + 1) (fun k h => .inr h)) (fun k h => .inl h)) (by omega) HFG.out
  have HFIN := Lib.hid hfin
  have HN51 := Lib.hid n51
  have HW5 := Lib.hid hw5
  clear c0 c1 c2 c3 c4 cf o0 o1 o2 o3 o4 o5 of
  obtain ⟨c0, c1, c2, c3, c4, cf⟩ := cells5 n1
  obtain ⟨x0, x1, x2, x3, x4, xf⟩ := cells5 n41
  obtain ⟨z0, z1, z2, z3, z4, zf⟩ := cells5 n43
  unfold put5 at hw4
  clear hs1 hsz n1 n3 n41 hc4 n43 n51 hc5 hfin hw5 hR3 hb3
  go_wp2_with fail
  have hw5 := HW5.out
  unfold put5 at hw5
  rw [hw5]
  exact bodyPost_ret (results_cell_tmp_row (g := w.heap.size + 1 + 1) rfl _ _ _ _ _ _ rfl HN51.out Try.underlying45 rfl infoD) rfl (HFIN.out _ rfl)

set_option maxRecDepth 100000 in
set_option maxHeartbeats 2000000 in
theorem do_fail {w : World} {F G C : Nat → Prop} {b : Nat} {S : DS} {v cv : Value} (s a : Int) (f t : UInt8) (cs : List UInt8) (h : DiskAt w F b S) (hr : RefAt w G S v) (hcv : BytesAt w C cv cs) (hFG : ∀ k, F k → ¬ G k) (hFC : ∀ k, F k → ¬ C k)
    (hlen : S.pend.length < 1000000) (hops : S.ops < 1000000) (hlim : S.limit.getD 0 ≤ 9223372036854775807) (hcl : cs.length ≤ 9223372036854775807) :
    Calls Try.prog 31 #[.pointer (some ⟨b, 0, none⟩), v, opV 3 s a f t cv] w (DoPost w F G b { S with down := true }) := by
  have hok := h.ok
  have HDB := Lib.hid h.bound
  have HRB := Lib.hid hr.bound
  have HOK := Lib.hid hok
  have HFG := Lib.hid hFG
  have HFC := Lib.hid hFC
  have HCV := Lib.hid hcv
  obtain ⟨dv, wv, rfl, hdu, hw⟩ := hr
  obtain ⟨ad, capd, rfl⟩ := hdu.len
  obtain ⟨aw, capw, rfl⟩ := hw.len
  obtain ⟨ca, cc, rfl, _⟩ := hcv
  clear hdu hw hok hFG hFC h
  unfold opV
  unfold refV at HRB ⊢
  have h3 := heap3 w (.cells #[.slice ad S.dur.length capd, .slice aw S.pend.length capw, .int .i64 (limI S), .bool S.down, .int .i64 (S.ops : Int)] 45) (.cells #[.int .i64 3, .int .i64 s, .int .i64 a, .int .u8 (f.toNat : Int), .int .u8 (t.toNat : Int), .slice ca cs.length cc] 61) (.cells #[.slice none 0 0, .slice none 0 0, .int .i64 0, .bool false, .int .i64 0] 45)
  have hb3 := below3 w (.cells #[.slice ad S.dur.length capd, .slice aw S.pend.length capw, .int .i64 (limI S), .bool S.down, .int .i64 (S.ops : Int)] 45) (.cells #[.int .i64 3, .int .i64 s, .int .i64 a, .int .u8 (f.toNat : Int), .int .u8 (t.toNat : Int), .slice ca cs.length cc] 61) (.cells #[.slice none 0 0, .slice none 0 0, .int .i64 0, .bool false, .int .i64 0] 45)
  obtain ⟨w1, hw1⟩ : ∃ w1, ((w.alloc (.cells #[.slice ad S.dur.length capd, .slice aw S.pend.length capw, .int .i64 (limI S), .bool S.down, .int .i64 (S.ops : Int)] 45)).alloc (.cells #[.int .i64 3, .int .i64 s, .int .i64 a, .int .u8 (f.toNat : Int), .int .u8 (t.toNat : Int), .slice ca cs.length cc] 61)).alloc (.cells #[.slice none 0 0, .slice none 0 0, .int .i64 0, .bool false, .int .i64 0] 45) = w1 := ⟨_, rfl⟩
  have hs1 : w1.heap.size = w.heap.size + 3 := by rw [← hw1, World.size_alloc, World.size_alloc, World.size_alloc]
  rw [hw1] at h3 hb3
  obtain ⟨n1, n2, n3⟩ := h3
  obtain ⟨c0, c1, c2, c3, c4, cf⟩ := cells5 n1
  obtain ⟨o0, o1, o2, o3, o4, o5, of⟩ := cells6 n2
  have hD1 := HDB.out.below hb3
  have hR1 := HRB.out.below hb3
  have HB1 := Lib.hid hb3
  have HS1 := Lib.hid hs1
  have HN1 := Lib.hid n1
  have HN2 := Lib.hid n2
  have HN3 := Lib.hid n3
  have HD1 := Lib.hid hD1
  have HR1 := Lib.hid hR1
  clear hb3 hs1 n1 n2 n3 hD1 hR1
  go_enter Try.func31, Try.ntmps31
  go_wp2_with fail
  refine (Fail_any HD1.out).mono ?_
  rintro e w2 ⟨rfl, hD2, hC2⟩
  have hcd : Chg (fun k => F k ∧ k < w.heap.size) w1 w2 := hC2
  have hs1 := HS1.out
  have n1 : w2.heap[w.heap.size]? = _ := (hcd.block _ (by omega) (by omega)).trans HN1.out
  have n2 : w2.heap[w.heap.size + 1]? = _ := (hcd.block _ (by omega) (by omega)).trans HN2.out
  have n3 : w2.heap[w.heap.size + 1 + 1]? = _ := (hcd.block _ (by omega) (by omega)).trans HN3.out
  have hR2 := HR1.out.kept hcd (fun k hg hf => HFG.out k hf.1 hg.1)
  have hcw : Chg F w w2 := (Chg.of_below HB1.out).trans (hcd.mono (fun k h => h.1)) (fun _ h => .inl h)
  have hsz := hcd.size
  have HN1' := Lib.hid n1
  have HN2' := Lib.hid n2
  have HN3' := Lib.hid n3
  have HR2 := Lib.hid hR2
  have HCW := Lib.hid hcw
  have HSZ := Lib.hid hsz
  have HCD := Lib.hid hcd
  clear c0 c1 c2 c3 c4 cf o0 o1 o2 o3 o4 o5 of
  obtain ⟨c0, c1, c2, c3, c4, cf⟩ := cells5 n1
  obtain ⟨o0, o1, o2, o3, o4, o5, of⟩ := cells6 n2
  clear n1 n2 n3 hR2 hcw hsz hcd hs1 hw1
  have HD2 := Lib.hid hD2
  have hF2 : ∀ k, (F k ∧ k < w.heap.size) → (F k ∧ k < w.heap.size) ∨ (w.heap.size + 3 ≤ k ∧ k < w2.heap.size) := fun k h => .inl h
  have HF2 := Lib.hid hF2
  clear hF2 hD2 hC2
  have hs1 := HS1.out
  have hsz := HSZ.out
  obtain ⟨w4, hw4⟩ : ∃ w4, w2.setCell ⟨w.heap.size, 3, none⟩ (.bool true) = w4 := ⟨_, rfl⟩
  have n41 : w4.heap[w.heap.size]? = some (.cells #[.slice ad S.dur.length capd, .slice aw S.pend.length capw, .int .i64 (limI S), .bool true, .int .i64 (S.ops : Int)] 45 (0, 0)) := by rw [← hw4, heap_setCell_same _ _ _ _ _ _ HN1'.out]; rfl
  have hc4 : Chg (fun k => k = w.heap.size ∨ k = w.heap.size + 1 + 1) w2 w4 := hw4 ▸ Chg.setCell (F := fun k => k = w.heap.size ∨ k = w.heap.size + 1 + 1) w2 _ (.inl rfl)
  have n43 : w4.heap[w.heap.size + 1 + 1]? = some (.cells #[.slice none 0 0, .slice none 0 0, .int .i64 0, .bool false, .int .i64 0] 45 (0, 0)) := by
    rw [← hw4]; exact (heap_setCell_other w2 ⟨w.heap.size, 3, none⟩ _ _ (by show w.heap.size + 1 + 1 ≠ w.heap.size; omega)).trans HN3'.out
  obtain ⟨w5, hw5⟩ : ∃ w5, put5 w4 (w.heap.size + 1 + 1) (.slice ad S.dur.length capd) (.slice aw S.pend.length capw) (.int .i64 (limI S)) (.bool true) (.int .i64 (S.ops : Int)) = w5 := ⟨_, rfl⟩
  have n51 := put5_heap n43 (.slice ad S.dur.length capd) (.slice aw S.pend.length capw) (.int .i64 (limI S)) (.bool true) (.int .i64 (S.ops : Int))
  have hc5 := put5_chg w4 (w.heap.size + 1 + 1) (.slice ad S.dur.length capd) (.slice aw S.pend.length capw) (.int .i64 (limI S)) (.bool true) (.int .i64 (S.ops : Int))
  rw [hw5] at n51 hc5
  have hR2 := HR2.out.ofS (S' := { S with down := true }) rfl rfl
  have hfin := do_end HD2.out HF2.out HCW.out hR2 (fun k h => .inl h) (Below.refl _ w2) (hc4.trans (hc5.mono (G := fun k => k = w.heap.size ∨ k = w.heap.size + 1 + 1) (fun k h => .inr h)) (fun k h => .inl h)) (by omega) HFG.out
  have HFIN := Lib.hid hfin
  have HN51 := Lib.hid n51
  have HW5 := Lib.hid hw5
  obtain ⟨x0, x1, x2, x3, x4, xf⟩ := cells5 n41
  obtain ⟨z0, z1, z2, z3, z4, zf⟩ := cells5 n43
  clear hs1 hsz n41 hc4 n43 n51 hc5 hfin hw5 hR2
  go_wp2_with fail
  have hw5 := HW5.out
  unfold put5 at hw5
  rw [hw5]
  exact bodyPost_ret (results_cell_tmp_row (g := w.heap.size + 1 + 1) rfl _ _ _ _ _ _ rfl HN51.out Try.underlying45 rfl infoD) rfl (HFIN.out _ rfl)

set_option maxRecDepth 100000 in
set_option maxHeartbeats 2000000 in
theorem do_limit {w : World} {F G C : Nat → Prop} {b : Nat} {S : DS} {v cv : Value} (s a : Int) (f t : UInt8) (cs : List UInt8) (h : DiskAt w F b S) (hr : RefAt w G S v) (hcv : BytesAt w C cv cs) (hFG : ∀ k, F k → ¬ G k) (hFC : ∀ k, F k → ¬ C k)
    (hlen : S.pend.length < 1000000) (hops : S.ops < 1000000) (hlim : S.limit.getD 0 ≤ 9223372036854775807) (hcl : cs.length ≤ 9223372036854775807) :
    Calls Try.prog 31 #[.pointer (some ⟨b, 0, none⟩), v, opV 5 s a f t cv] w (DoPost w F G b (S.setLimit a)) := by
  have hok := h.ok
  have HDB := Lib.hid h.bound
  have HRB := Lib.hid hr.bound
  have HOK := Lib.hid hok
  have HFG := Lib.hid hFG
  have HFC := Lib.hid hFC
  have HCV := Lib.hid hcv
  obtain ⟨dv, wv, rfl, hdu, hw⟩ := hr
  obtain ⟨ad, capd, rfl⟩ := hdu.len
  obtain ⟨aw, capw, rfl⟩ := hw.len
  obtain ⟨ca, cc, rfl, _⟩ := hcv
  clear hdu hw hok hFG hFC h
  unfold opV
  unfold refV at HRB ⊢
  have h3 := heap3 w (.cells #[.slice ad S.dur.length capd, .slice aw S.pend.length capw, .int .i64 (limI S), .bool S.down, .int .i64 (S.ops : Int)] 45) (.cells #[.int .i64 5, .int .i64 s, .int .i64 a, .int .u8 (f.toNat : Int), .int .u8 (t.toNat : Int), .slice ca cs.length cc] 61) (.cells #[.slice none 0 0, .slice none 0 0, .int .i64 0, .bool false, .int .i64 0] 45)
  have hb3 := below3 w (.cells #[.slice ad S.dur.length capd, .slice aw S.pend.length capw, .int .i64 (limI S), .bool S.down, .int .i64 (S.ops : Int)] 45) (.cells #[.int .i64 5, .int .i64 s, .int .i64 a, .int .u8 (f.toNat : Int), .int .u8 (t.toNat : Int), .slice ca cs.length cc] 61) (.cells #[.slice none 0 0, .slice none 0 0, .int .i64 0, .bool false, .int .i64 0] 45)
  obtain ⟨w1, hw1⟩ : ∃ w1, ((w.alloc (.cells #[.slice ad S.dur.length capd, .slice aw S.pend.length capw, .int .i64 (limI S), .bool S.down, .int .i64 (S.ops : Int)] 45)).alloc (.cells #[.int .i64 5, .int .i64 s, .int .i64 a, .int .u8 (f.toNat : Int), .int .u8 (t.toNat : Int), .slice ca cs.length cc] 61)).alloc (.cells #[.slice none 0 0, .slice none 0 0, .int .i64 0, .bool false, .int .i64 0] 45) = w1 := ⟨_, rfl⟩
  have hs1 : w1.heap.size = w.heap.size + 3 := by rw [← hw1, World.size_alloc, World.size_alloc, World.size_alloc]
  rw [hw1] at h3 hb3
  obtain ⟨n1, n2, n3⟩ := h3
  obtain ⟨c0, c1, c2, c3, c4, cf⟩ := cells5 n1
  obtain ⟨o0, o1, o2, o3, o4, o5, of⟩ := cells6 n2
  have hD1 := HDB.out.below hb3
  have hR1 := HRB.out.below hb3
  have HB1 := Lib.hid hb3
  have HS1 := Lib.hid hs1
  have HN1 := Lib.hid n1
  have HN2 := Lib.hid n2
  have HN3 := Lib.hid n3
  have HD1 := Lib.hid hD1
  have HR1 := Lib.hid hR1
  clear hb3 hs1 n1 n2 n3 hD1 hR1
  have hmx : max a (-1) = limI (S.setLimit a) := by
    unfold limI DS.setLimit
    by_cases h : 0 ≤ a
    · rw [if_pos h]; simp; omega
    · rw [if_neg h]; simp; omega
  go_enter Try.func31, Try.ntmps31
  go_wp2_with fail
  refine (SetLimit_any a HD1.out).mono ?_
  rintro e w2 ⟨rfl, hD2, hC2⟩
  have hcd : Chg (fun k => F k ∧ k < w.heap.size) w1 w2 := hC2
  have hs1 := HS1.out
  have n1 : w2.heap[w.heap.size]? = _ := (hcd.block _ (by omega) (by omega)).trans HN1.out
  have n2 : w2.heap[w.heap.size + 1]? = _ := (hcd.block _ (by omega) (by omega)).trans HN2.out
  have n3 : w2.heap[w.heap.size + 1 + 1]? = _ := (hcd.block _ (by omega) (by omega)).trans HN3.out
  have hR2 := HR1.out.kept hcd (fun k hg hf => HFG.out k hf.1 hg.1)
  have hcw : Chg F w w2 := (Chg.of_below HB1.out).trans (hcd.mono (fun k h => h.1)) (fun _ h => .inl h)
  have hsz := hcd.size
  have HN1' := Lib.hid n1
  have HN2' := Lib.hid n2
  have HN3' := Lib.hid n3
  have HR2 := Lib.hid hR2
  have HCW := Lib.hid hcw
  have HSZ := Lib.hid hsz
  have HCD := Lib.hid hcd
  clear c0 c1 c2 c3 c4 cf o0 o1 o2 o3 o4 o5 of
  obtain ⟨c0, c1, c2, c3, c4, cf⟩ := cells5 n1
  obtain ⟨o0, o1, o2, o3, o4, o5, of⟩ := cells6 n2
  clear n1 n2 n3 hR2 hcw hsz hcd hs1 hw1
  have HD2 := Lib.hid hD2
  have hF2 : ∀ k, (F k ∧ k < w.heap.size) → (F k ∧ k < w.heap.size) ∨ (w.heap.size + 3 ≤ k ∧ k < w2.heap.size) := fun k h => .inl h
  have HF2 := Lib.hid hF2
  clear hF2 hD2 hC2
  have hs1 := HS1.out
  have hsz := HSZ.out
  obtain ⟨w4, hw4⟩ : ∃ w4, w2.setCell ⟨w.heap.size, 2, none⟩ (.int .i64 (limI (S.setLimit a))) = w4 := ⟨_, rfl⟩
  have n41 : w4.heap[w.heap.size]? = some (.cells #[.slice ad S.dur.length capd, .slice aw S.pend.length capw, .int .i64 (limI (S.setLimit a)), .bool S.down, .int .i64 (S.ops : Int)] 45 (0, 0)) := by rw [← hw4, heap_setCell_same _ _ _ _ _ _ HN1'.out]; rfl
  have hc4 : Chg (fun k => k = w.heap.size ∨ k = w.heap.size + 1 + 1) w2 w4 := hw4 ▸ Chg.setCell (F := fun k => k = w.heap.size ∨ k = w.heap.size + 1 + 1) w2 _ (.inl rfl)
  have n43 : w4.heap[w.heap.size + 1 + 1]? = some (.cells #[.slice none 0 0, .slice none 0 0, .int .i64 0, .bool false, .int .i64 0] 45 (0, 0)) := by
    rw [← hw4]; exact (heap_setCell_other w2 ⟨w.heap.size, 2, none⟩ _ _ (by show w.heap.size + 1 + 1 ≠ w.heap.size; omega)).trans HN3'.out
  obtain ⟨w5, hw5⟩ : ∃ w5, put5 w4 (w.heap.size + 1 + 1) (.slice ad S.dur.length capd) (.slice aw S.pend.length capw) (.int .i64 (limI (S.setLimit a))) (.bool S.down) (.int .i64 (S.ops : Int)) = w5 := ⟨_, rfl⟩
  have n51 := put5_heap n43 (.slice ad S.dur.length capd) (.slice aw S.pend.length capw) (.int .i64 (limI (S.setLimit a))) (.bool S.down) (.int .i64 (S.ops : Int))
  have hc5 := put5_chg w4 (w.heap.size + 1 + 1) (.slice ad S.dur.length capd) (.slice aw S.pend.length capw) (.int .i64 (limI (S.setLimit a))) (.bool S.down) (.int .i64 (S.ops : Int))
  rw [hw5] at n51 hc5
  have hR2 := HR2.out.ofS (S' := (S.setLimit a)) rfl rfl
  have hfin := do_end HD2.out HF2.out HCW.out hR2 (fun k h => .inl h) (Below.refl _ w2) (hc4.trans (hc5.mono (G := fun k => k = w.heap.size ∨ k = w.heap.size + 1 + 1) (fun k h => .inr h)) (fun k h => .inl h)) (by omega) HFG.out
  have HFIN := Lib.hid hfin
  have HN51 := Lib.hid n51
  have HW5 := Lib.hid hw5
  obtain ⟨x0, x1, x2, x3, x4, xf⟩ := cells5 n41
  obtain ⟨z0, z1, z2, z3, z4, zf⟩ := cells5 n43
  clear hs1 hsz n41 hc4 n43 n51 hc5 hfin hw5 hR2
  go_wp2_with fail
  have hw5 := HW5.out
  unfold put5 at hw5
  rw [hw5]
  exact bodyPost_ret (results_cell_tmp_row (g := w.heap.size + 1 + 1) rfl _ _ _ _ _ _ rfl HN51.out Try.underlying45 rfl infoD) rfl (HFIN.out _ rfl)

set_option maxRecDepth 100000 in
set_option maxHeartbeats 2000000 in
theorem do_write {w : World} {F G C : Nat → Prop} {b : Nat} {S : DS} {v cv : Value} (s a : Int) (f t : UInt8) (cs : List UInt8) (h : DiskAt w F b S) (hr : RefAt w G S v) (hcv : BytesAt w C cv cs) (hFG : ∀ k, F k → ¬ G k) (hFC : ∀ k, F k → ¬ C k)
    (hlen : S.pend.length < 1000000) (hops : S.ops < 1000000) (hlim : S.limit.getD 0 ≤ 9223372036854775807) (hcl : cs.length ≤ 9223372036854775807) :
    Calls Try.prog 31 #[.pointer (some ⟨b, 0, none⟩), v, opV 0 s a f t cv] w (DoPost w F G b (S.write s (bytesOf f t)).1) := by
  have hok := h.ok
  have HDB := Lib.hid h.bound
  have HRB := Lib.hid hr.bound
  have HOK := Lib.hid hok
  have HFG := Lib.hid hFG
  have HFC := Lib.hid hFC
  have HCV := Lib.hid hcv
  obtain ⟨dv, wv, rfl, hdu, hw⟩ := hr
  obtain ⟨ad, capd, rfl⟩ := hdu.len
  obtain ⟨aw, capw, rfl⟩ := hw.len
  obtain ⟨ca, cc, rfl, _⟩ := hcv
  clear hdu hw hok hFG hFC h
  unfold opV
  unfold refV at HRB ⊢
  have h3 := heap3 w (.cells #[.slice ad S.dur.length capd, .slice aw S.pend.length capw, .int .i64 (limI S), .bool S.down, .int .i64 (S.ops : Int)] 45) (.cells #[.int .i64 0, .int .i64 s, .int .i64 a, .int .u8 (f.toNat : Int), .int .u8 (t.toNat : Int), .slice ca cs.length cc] 61) (.cells #[.slice none 0 0, .slice none 0 0, .int .i64 0, .bool false, .int .i64 0] 45)
  have hb3 := below3 w (.cells #[.slice ad S.dur.length capd, .slice aw S.pend.length capw, .int .i64 (limI S), .bool S.down, .int .i64 (S.ops : Int)] 45) (.cells #[.int .i64 0, .int .i64 s, .int .i64 a, .int .u8 (f.toNat : Int), .int .u8 (t.toNat : Int), .slice ca cs.length cc] 61) (.cells #[.slice none 0 0, .slice none 0 0, .int .i64 0, .bool false, .int .i64 0] 45)
  obtain ⟨w1, hw1⟩ : ∃ w1, ((w.alloc (.cells #[.slice ad S.dur.length capd, .slice aw S.pend.length capw, .int .i64 (limI S), .bool S.down, .int .i64 (S.ops : Int)] 45)).alloc (.cells #[.int .i64 0, .int .i64 s, .int .i64 a, .int .u8 (f.toNat : Int), .int .u8 (t.toNat : Int), .slice ca cs.length cc] 61)).alloc (.cells #[.slice none 0 0, .slice none 0 0, .int .i64 0, .bool false, .int .i64 0] 45) = w1 := ⟨_, rfl⟩
  have hs1 : w1.heap.size = w.heap.size + 3 := by rw [← hw1, World.size_alloc, World.size_alloc, World.size_alloc]
  rw [hw1] at h3 hb3
  obtain ⟨n1, n2, n3⟩ := h3
  obtain ⟨c0, c1, c2, c3, c4, cf⟩ := cells5 n1
  obtain ⟨o0, o1, o2, o3, o4, o5, of⟩ := cells6 n2
  have hD1 := HDB.out.below hb3
  have hR1 := HRB.out.below hb3
  have HB1 := Lib.hid hb3
  have HS1 := Lib.hid hs1
  have HN1 := Lib.hid n1
  have HN2 := Lib.hid n2
  have HN3 := Lib.hid n3
  have HD1 := Lib.hid hD1
  have HR1 := Lib.hid hR1
  clear hb3 hs1 n1 n2 n3 hD1 hR1
  go_enter Try.func31, Try.ntmps31
  go_wp2_with fail
  refine wp_region_noPanic ?_
  refine wp_region_F 9 (fun w' => w'.heap[w.heap.size + 1]? = some (.cells #[.int .i64 0, .int .i64 s, .int .i64 a, .int .u8 (f.toNat : Int), .int .u8 (t.toNat : Int), .slice ca cs.length cc] 61 (0, 0))) (by kernel_rfl) ?_
  have hS0 : (fun w' => w'.heap[w.heap.size + 1]? = some (.cells #[.int .i64 0, .int .i64 s, .int .i64 a, .int .u8 (f.toNat : Int), .int .u8 (t.toNat : Int), .slice ca cs.length cc] 61 (0, 0))) w1.drew := HN2.out
  refine wpAnyF_take (i := 0) (fin := 9) (v := ?v1) rfl (by kernel_rfl) (by kernel_rfl) (by kernel_rfl) (by kernel_rfl) (fun _ _ _ h => h) (yieldsIf_run rfl (fun w' hw' => ?y1)) hS0 ?_
  case y1 => first | (go_simp; rfl) | (go_simp; done) | rfl
  simp only [Act.put, List.setIfInBounds_toArray, List.set_cons_zero, List.set_cons_succ]
  refine wpAnyF_take (i := 1) (fin := 9) (v := ?v2) rfl (by kernel_rfl) (by kernel_rfl) (by kernel_rfl) (by kernel_rfl) (fun _ _ _ h => h) (yieldsIf_run rfl (fun w' hw' => ?y2)) hS0 ?_
  case y2 => first | (go_simp; rfl) | (go_simp; done) | rfl
  simp only [Act.put, List.setIfInBounds_toArray, List.set_cons_zero, List.set_cons_succ]
  refine wpAnyF_take (i := 2) (fin := 9) (v := ?v3) rfl (by kernel_rfl) (by kernel_rfl) (by kernel_rfl) (by kernel_rfl) (fun _ _ _ h => h) (yieldsIf_run rfl (fun w' hw' => ?y3)) hS0 ?_
  case y3 => (obtain ⟨h0, h1, h2, h3, h4, h5, _⟩ := cells6 hw'; clear hw'; first | (go_simp; rfl) | (go_simp; done))
  simp only [Act.put, List.setIfInBounds_toArray, List.set_cons_zero, List.set_cons_succ]
  refine wpAnyF_take (i := 3) (fin := 9) (v := ?v4) rfl (by kernel_rfl) (by kernel_rfl) (by kernel_rfl) (by kernel_rfl) (fun _ _ _ h => h) (yieldsIf_run rfl (fun w' hw' => ?y4)) hS0 ?_
  case y4 => first | (go_simp; rfl) | (go_simp; done) | rfl
  simp only [Act.put, List.setIfInBounds_toArray, List.set_cons_zero, List.set_cons_succ]
  refine wpAnyF_take (i := 4) (fin := 9) (v := ?v5) rfl (by kernel_rfl) (by kernel_rfl) (by kernel_rfl) (by kernel_rfl) (fun _ _ _ h => h) (yieldsIf_run rfl (fun w' hw' => ?y5)) hS0 ?_
  case y5 => (obtain ⟨h0, h1, h2, h3, h4, h5, _⟩ := cells6 hw'; clear hw'; first | (go_simp; rfl) | (go_simp; done))
  simp only [Act.put, List.setIfInBounds_toArray, List.set_cons_zero, List.set_cons_succ]
  refine wpAnyF_take (i := 5) (fin := 9) (v := ?v6) rfl (by kernel_rfl) (by kernel_rfl) (by kernel_rfl) (by kernel_rfl) (fun _ _ _ h => h) (yieldsIf_run rfl (fun w' hw' => ?y6)) hS0 ?_
  case y6 => first | (go_simp; rfl) | (go_simp; done) | rfl
  simp only [Act.put, List.setIfInBounds_toArray, List.set_cons_zero, List.set_cons_succ]
  refine wpAnyF_take (i := 6) (fin := 9) (v := ?v7) rfl (by kernel_rfl) (by kernel_rfl) (by kernel_rfl) (by kernel_rfl) (fun _ _ _ h => h) (yieldsIf_run rfl (fun w' hw' => ?y7)) hS0 ?_
  case y7 => (obtain ⟨h0, h1, h2, h3, h4, h5, _⟩ := cells6 hw'; clear hw'; first | (go_simp; rfl) | (go_simp; done))
  simp only [Act.put, List.setIfInBounds_toArray, List.set_cons_zero, List.set_cons_succ]
  refine wpAnyF_do (i := 7) (by kernel_rfl) rfl rfl (fun K hK => ?_)
  go_simp
  refine (Bytes_any f t w1.drew).mono ?_
  rintro e wB ⟨vB, rfl, hown, hbB⟩
  have hbB' : Below w1.heap.size w1 wB := (Below.refl _ w1).drew.trans hbB
  obtain ⟨gB, TB, rfl, hgB, hhB⟩ := hown
  have hby : BytesAt wB (fun k => w1.heap.size ≤ k) (.slice (some ⟨gB, 0, none⟩) (bytesOf f t).length (bytesOf f t).length) (bytesOf f t) := OwnBytes.bytes ⟨gB, TB, rfl, hgB, hhB⟩
  have hDB := HD1.out.below hbB'
  have q2 : wB.heap[w.heap.size + 1]? = _ := (hbB'.block _ (by have := HS1.out; omega)).trans HN2.out
  have HBY := Lib.hid hby
  have HDB2 := Lib.hid hDB
  have HBB := Lib.hid hbB'
  have Q2 := Lib.hid q2
  clear hby hDB hbB' q2 hgB hhB hbB
  refine hK _ _ (fun _ => Q2.out) ?_
  clear hK K
  try simp only [Act.put, List.setIfInBounds_toArray, List.set_cons_zero, List.set_cons_succ]
  refine wpAnyF_do (i := 8) (by kernel_rfl) rfl rfl (fun K hK => ?_)
  go_simp
  refine (Write_any s _ (bytesOf f t) HDB2.out HBY.out (fun k h1 h2 => by have := HS1.out; have := h1.2; omega) (by omega) (by omega) hlim (by rw [bytesOf_length]; decide)).mono ?_
  rintro e w2 ⟨rfl, hD2, hC2⟩
  have q3 : w2.heap[w.heap.size + 1]? = _ := (hC2.block _ (Array.getElem?_eq_some_iff.1 Q2.out).1 (by omega)).trans Q2.out
  have Q3 := Lib.hid q3
  clear q3
  refine hK _ _ (fun _ => Q3.out) ?_
  clear hK K
  try simp only [Act.put, List.setIfInBounds_toArray, List.set_cons_zero, List.set_cons_succ]
  refine wpAnyF_do (i := 9) (by kernel_rfl) rfl rfl (fun K hK => ?_)
  go_simp
  refine hK _ _ (fun h => absurd rfl h) ?_
  clear hK K
  refine wpAnyF_done (by kernel_rfl) ?_ _
  refine NoPanic.normal ?_
  have hcd : Chg (fun k => F k ∧ k < w.heap.size) w1 w2 := (Chg.of_below HBB.out).trans hC2 (fun _ h => .inl h)
  have hs1 := HS1.out
  have n1 : w2.heap[w.heap.size]? = _ := (hcd.block _ (by omega) (by omega)).trans HN1.out
  have n2 : w2.heap[w.heap.size + 1]? = _ := (hcd.block _ (by omega) (by omega)).trans HN2.out
  have n3 : w2.heap[w.heap.size + 1 + 1]? = _ := (hcd.block _ (by omega) (by omega)).trans HN3.out
  have hR2 := HR1.out.kept hcd (fun k hg hf => HFG.out k hf.1 hg.1)
  have hcw : Chg F w w2 := (Chg.of_below HB1.out).trans (hcd.mono (fun k h => h.1)) (fun _ h => .inl h)
  have hsz := hcd.size
  have HN1' := Lib.hid n1
  have HN2' := Lib.hid n2
  have HN3' := Lib.hid n3
  have HR2 := Lib.hid hR2
  have HCW := Lib.hid hcw
  have HSZ := Lib.hid hsz
  have HCD := Lib.hid hcd
  clear c0 c1 c2 c3 c4 cf o0 o1 o2 o3 o4 o5 of
  obtain ⟨c0, c1, c2, c3, c4, cf⟩ := cells5 n1
  obtain ⟨o0, o1, o2, o3, o4, o5, of⟩ := cells6 n2
  clear n1 n2 n3 hR2 hcw hsz hcd hs1 hw1
  have hD2b := hD2.bound
  have hF2 : ∀ k, (((F k ∧ k < w.heap.size) ∨ wB.heap.size ≤ k) ∧ k < w2.heap.size) → (F k ∧ k < w.heap.size) ∨ (w.heap.size + 3 ≤ k ∧ k < w2.heap.size) := fun k h => by
    have h1 := HBB.out.size
    have h2 := HS1.out
    rcases h.1 with h3 | h3
    · exact .inl h3
    · exact .inr ⟨by omega, h.2⟩
  have HD2 := Lib.hid hD2b
  have HF2 := Lib.hid hF2
  clear hF2 hD2 hD2b hC2 hS0
  go_wp2_with fail
  refine wp_region_noPanic ?_
  refine wp_region_G [12, 13] (fun w' => w'.heap[w.heap.size]? = some (.cells #[.slice ad S.dur.length capd, .slice aw S.pend.length capw, .int .i64 (limI S), .bool S.down, .int .i64 (S.ops : Int)] 45 (0, 0)) ∧ w'.heap[w.heap.size + 1]? = some (.cells #[.int .i64 0, .int .i64 s, .int .i64 a, .int .u8 (f.toNat : Int), .int .u8 (t.toNat : Int), .slice ca cs.length cc] 61 (0, 0))) (by kernel_rfl) ?_
  have hS0 : (fun w' => w'.heap[w.heap.size]? = some (.cells #[.slice ad S.dur.length capd, .slice aw S.pend.length capw, .int .i64 (limI S), .bool S.down, .int .i64 (S.ops : Int)] 45 (0, 0)) ∧ w'.heap[w.heap.size + 1]? = some (.cells #[.int .i64 0, .int .i64 s, .int .i64 a, .int .u8 (f.toNat : Int), .int .u8 (t.toNat : Int), .slice ca cs.length cc] 61 (0, 0))) w2.drew := ⟨HN1'.out, HN2'.out⟩
  refine wpAnyG_take (i := 0) (v := ?v8) rfl (by kernel_rfl) (by kernel_rfl) (by kernel_rfl) (by kernel_rfl) (fun _ _ _ h => h) (yieldsIf_run rfl (fun w' hw' => ?y8)) hS0 ?_
  case y8 => (obtain ⟨g0, g1, g2, g3, g4, _⟩ := cells5 hw'.1; clear hw'; first | (go_simp; rfl) | (go_simp; done))
  simp only [Act.put, List.setIfInBounds_toArray, List.set_cons_zero, List.set_cons_succ]
  refine wpAnyG_take (i := 1) (v := ?v9) rfl (by kernel_rfl) (by kernel_rfl) (by kernel_rfl) (by kernel_rfl) (fun _ _ _ h => h) (yieldsIf_run rfl (fun w' hw' => ?y9)) hS0 ?_
  case y9 => first | (go_simp; rfl) | (go_simp; done) | rfl
  simp only [Act.put, List.setIfInBounds_toArray, List.set_cons_zero, List.set_cons_succ]
  refine wpAnyG_take (i := 2) (v := ?v10) rfl (by kernel_rfl) (by kernel_rfl) (by kernel_rfl) (by kernel_rfl) (fun _ _ _ h => h) (yieldsIf_run rfl (fun w' hw' => ?y10)) hS0 ?_
  case y10 => (obtain ⟨h0, h1, h2, h3, h4, h5, _⟩ := cells6 hw'.2; clear hw'; first | (go_simp; rfl) | (go_simp; done))
  simp only [Act.put, List.setIfInBounds_toArray, List.set_cons_zero, List.set_cons_succ]
  refine wpAnyG_take (i := 3) (v := ?v11) rfl (by kernel_rfl) (by kernel_rfl) (by kernel_rfl) (by kernel_rfl) (fun _ _ _ h => h) (yieldsIf_run rfl (fun w' hw' => ?y11)) hS0 ?_
  case y11 => first | (go_simp; rfl) | (go_simp; done) | rfl
  simp only [Act.put, List.setIfInBounds_toArray, List.set_cons_zero, List.set_cons_succ]
  refine wpAnyG_take (i := 4) (v := ?v12) rfl (by kernel_rfl) (by kernel_rfl) (by kernel_rfl) (by kernel_rfl) (fun _ _ _ h => h) (yieldsIf_run rfl (fun w' hw' => ?y12)) hS0 ?_
  case y12 => (obtain ⟨h0, h1, h2, h3, h4, h5, _⟩ := cells6 hw'.2; clear hw'; first | (go_simp; rfl) | (go_simp; done))
  simp only [Act.put, List.setIfInBounds_toArray, List.set_cons_zero, List.set_cons_succ]
  refine wpAnyG_take (i := 5) (v := ?v13) rfl (by kernel_rfl) (by kernel_rfl) (by kernel_rfl) (by kernel_rfl) (fun _ _ _ h => h) (yieldsIf_run rfl (fun w' hw' => ?y13)) hS0 ?_
  case y13 => first | (go_simp; rfl) | (go_simp; done) | rfl
  simp only [Act.put, List.setIfInBounds_toArray, List.set_cons_zero, List.set_cons_succ]
  refine wpAnyG_take (i := 6) (v := ?v14) rfl (by kernel_rfl) (by kernel_rfl) (by kernel_rfl) (by kernel_rfl) (fun _ _ _ h => h) (yieldsIf_run rfl (fun w' hw' => ?y14)) hS0 ?_
  case y14 => (obtain ⟨h0, h1, h2, h3, h4, h5, _⟩ := cells6 hw'.2; clear hw'; first | (go_simp; rfl) | (go_simp; done))
  simp only [Act.put, List.setIfInBounds_toArray, List.set_cons_zero, List.set_cons_succ]
  refine wpAnyG_do (i := 7) (by kernel_rfl) rfl rfl (fun K hK => ?_)
  go_simp
  refine (Bytes_any f t w2.drew).mono ?_
  rintro e wC ⟨vB, rfl, hown, hbB⟩
  have hbB' : Below w2.heap.size w2 wC := (Below.refl _ w2).drew.trans hbB
  obtain ⟨gB, TB, rfl, hgB, hhB⟩ := hown
  have hby : BytesAt wC (fun k => w2.heap.size ≤ k) (.slice (some ⟨gB, 0, none⟩) (bytesOf f t).length (bytesOf f t).length) (bytesOf f t) := OwnBytes.bytes ⟨gB, TB, rfl, hgB, hhB⟩
  have hRC := HR2.out.below hbB'
  have q1 : wC.heap[w.heap.size]? = _ := (hbB'.block _ (by have := HS1.out; have := HSZ.out; omega)).trans HN1'.out
  have q2 : wC.heap[w.heap.size + 1]? = _ := (hbB'.block _ (by have := HS1.out; have := HSZ.out; omega)).trans HN2'.out
  have HBY2 := Lib.hid hby
  have HRC := Lib.hid hRC
  have HBC := Lib.hid hbB'
  have K1 := Lib.hid q1
  have K2 := Lib.hid q2
  clear hby hRC hbB' q1 q2 hgB hhB hbB
  refine hK _ _ ⟨K1.out, K2.out⟩ ?_
  clear hK K
  try simp only [Act.put, List.setIfInBounds_toArray, List.set_cons_zero, List.set_cons_succ]
  refine wpAnyG_do (i := 8) (by kernel_rfl) rfl rfl (fun K hK => ?_)
  go_simp
  refine (ref_write s (bytesOf f t) HRC.out HBY2.out HOK.out (by omega) (by omega) hlim).mono ?_
  rintro e w3 ⟨v3, rfl, hR30, hb30⟩
  have hb3 : Below w2.heap.size w2 w3 := HBC.out.trans (hb30.mono HBC.out.size)
  have hR3 := hR30.mono (G' := fun k => (G k ∧ k < w.heap.size) ∨ w2.heap.size ≤ k) (fun k h => h.imp id (fun h => Nat.le_trans HBC.out.size h))
  have q1 : w3.heap[w.heap.size]? = _ := (hb3.block _ (by have := HS1.out; have := HSZ.out; omega)).trans HN1'.out
  have q2 : w3.heap[w.heap.size + 1]? = _ := (hb3.block _ (by have := HS1.out; have := HSZ.out; omega)).trans HN2'.out
  have K3 := Lib.hid q1
  have K4 := Lib.hid q2
  clear q1 q2 hR30 hb30 hS0
  obtain ⟨ad3, cd3, aw3, cw3, rfl⟩ := hR3.form
  unfold refV
  have hs1 := HS1.out
  have hsz := HSZ.out
  have n1 : w3.heap[w.heap.size]? = _ := (hb3.block _ (by omega)).trans HN1'.out
  have n3 : w3.heap[w.heap.size + 1 + 1]? = _ := (hb3.block _ (by omega)).trans HN3'.out
  obtain ⟨w4, hw4⟩ : ∃ w4, put5 w3 w.heap.size (.slice ad3 ((S.write s (bytesOf f t)).1).dur.length cd3) (.slice aw3 ((S.write s (bytesOf f t)).1).pend.length cw3) (.int .i64 (limI ((S.write s (bytesOf f t)).1))) (.bool ((S.write s (bytesOf f t)).1).down) (.int .i64 (((S.write s (bytesOf f t)).1).ops : Int)) = w4 := ⟨_, rfl⟩
  have n41 := put5_heap n1 (.slice ad3 ((S.write s (bytesOf f t)).1).dur.length cd3) (.slice aw3 ((S.write s (bytesOf f t)).1).pend.length cw3) (.int .i64 (limI ((S.write s (bytesOf f t)).1))) (.bool ((S.write s (bytesOf f t)).1).down) (.int .i64 (((S.write s (bytesOf f t)).1).ops : Int))
  have hc4 := put5_chg w3 w.heap.size (.slice ad3 ((S.write s (bytesOf f t)).1).dur.length cd3) (.slice aw3 ((S.write s (bytesOf f t)).1).pend.length cw3) (.int .i64 (limI ((S.write s (bytesOf f t)).1))) (.bool ((S.write s (bytesOf f t)).1).down) (.int .i64 (((S.write s (bytesOf f t)).1).ops : Int))
  rw [hw4] at n41 hc4
  have n43 : w4.heap[w.heap.size + 1 + 1]? = _ := (hc4.block _ (Array.getElem?_eq_some_iff.1 n3).1 (by omega)).trans n3
  obtain ⟨w5, hw5⟩ : ∃ w5, put5 w4 (w.heap.size + 1 + 1) (.slice ad3 ((S.write s (bytesOf f t)).1).dur.length cd3) (.slice aw3 ((S.write s (bytesOf f t)).1).pend.length cw3) (.int .i64 (limI ((S.write s (bytesOf f t)).1))) (.bool ((S.write s (bytesOf f t)).1).down) (.int .i64 (((S.write s (bytesOf f t)).1).ops : Int)) = w5 := ⟨_, rfl⟩
  have n51 := put5_heap n43 (.slice ad3 ((S.write s (bytesOf f t)).1).dur.length cd3) (.slice aw3 ((S.write s (bytesOf f t)).1).pend.length cw3) (.int .i64 (limI ((S.write s (bytesOf f t)).1))) (.bool ((S.write s (bytesOf f t)).1).down) (.int .i64 (((S.write s (bytesOf f t)).1).ops : Int))
  have hc5 := put5_chg w4 (w.heap.size + 1 + 1) (.slice ad3 ((S.write s (bytesOf f t)).1).dur.length cd3) (.slice aw3 ((S.write s (bytesOf f t)).1).pend.length cw3) (.int .i64 (limI ((S.write s (bytesOf f t)).1))) (.bool ((S.write s (bytesOf f t)).1).down) (.int .i64 (((S.write s (bytesOf f t)).1).ops : Int))
  rw [hw5] at n51 hc5
  have hfin := do_end HD2.out HF2.out HCW.out hR3 (fun k h => h.elim (fun h => .inl h) .inr) hb3 ((hc4.mono (fun k (h : k = w.heap.size) => (Or.inl h : k = w.heap.size ∨ k = w.heap.size + 1 + 1))).trans (hc5.mono (G := fun k => k = w.heap.size ∨ k = w.heap.size + 1 + 1) (fun k h => .inr h)) (fun k h => .inl h)) (by omega) HFG.out
  have HFIN := Lib.hid hfin
  have HN51 := Lib.hid n51
  have HW5 := Lib.hid hw5
  clear c0 c1 c2 c3 c4 cf o0 o1 o2 o3 o4 o5 of
  obtain ⟨c0, c1, c2, c3, c4, cf⟩ := cells5 n1
  obtain ⟨x0, x1, x2, x3, x4, xf⟩ := cells5 n41
  obtain ⟨z0, z1, z2, z3, z4, zf⟩ := cells5 n43
  unfold put5 at hw4
  clear hs1 hsz n1 n3 n41 hc4 n43 n51 hc5 hfin hw5 hR3 hb3
  refine hK _ _ ⟨K3.out, K4.out⟩ ?_
  clear hK K
  try simp only [Act.put, List.setIfInBounds_toArray, List.set_cons_zero, List.set_cons_succ]
  refine wpAnyG_take (i := 9) (v := ?v15) rfl (by kernel_rfl) (by kernel_rfl) (by kernel_rfl) (by kernel_rfl) (fun _ _ _ h => h) (yieldsIf_run rfl (fun w' hw' => ?y15)) ⟨K3.out, K4.out⟩ ?_
  case y15 => first | (go_simp; rfl) | (go_simp; done) | rfl
  simp only [Act.put, List.setIfInBounds_toArray, List.set_cons_zero, List.set_cons_succ]
  refine wpAnyG_take (i := 10) (v := ?v16) rfl (by kernel_rfl) (by kernel_rfl) (by kernel_rfl) (by kernel_rfl) (fun _ _ _ h => h) (yieldsIf_run rfl (fun w' hw' => ?y16)) ⟨K3.out, K4.out⟩ ?_
  case y16 => first | (go_simp; rfl) | (go_simp; done) | rfl
  simp only [Act.put, List.setIfInBounds_toArray, List.set_cons_zero, List.set_cons_succ]
  refine wpAnyG_pure (i := 11) (v := ?v17) rfl (by kernel_rfl) (by kernel_rfl) (by kernel_rfl) (by kernel_rfl) (fun _ _ _ h => h) (yieldsIf_run rfl (fun w' hw' => ?y17)) (fun _ => ⟨K3.out, K4.out⟩) ?_
  case y17 => first | (go_simp; rfl) | (go_simp; done) | rfl
  simp only [Act.put, List.setIfInBounds_toArray, List.set_cons_zero, List.set_cons_succ]
  refine wpAnyG_fin (i := 12) (by kernel_rfl) rfl rfl (by kernel_rfl) (fun K hK => ?_)
  go_simp
  refine hK _ _ ?_
  clear hK K
  try simp only [Act.put, List.setIfInBounds_toArray, List.set_cons_zero, List.set_cons_succ]
  refine wpAnyG_fin (i := 13) (by kernel_rfl) rfl rfl (by kernel_rfl) (fun K hK => ?_)
  go_simp
  refine hK _ _ ?_
  clear hK K
  try simp only [Act.put, List.setIfInBounds_toArray, List.set_cons_zero, List.set_cons_succ]
  refine wpAnyG_done (by kernel_rfl) ?_ _
  refine NoPanic.normal ?_
  go_wp2_with fail
  have hw5 := HW5.out
  unfold put5 at hw5
  rw [hw5]
  exact bodyPost_ret (results_cell_tmp_row (g := w.heap.size + 1 + 1) rfl _ _ _ _ _ _ rfl HN51.out Try.underlying45 rfl infoD) rfl (HFIN.out _ rfl)
set_option maxRecDepth 100000 in
set_option maxHeartbeats 2000000 in
theorem do_write7 {w : World} {F G C : Nat → Prop} {b : Nat} {S : DS} {v cv : Value} (s a : Int) (f t : UInt8) (cs : List UInt8) (h : DiskAt w F b S) (hr : RefAt w G S v) (hcv : BytesAt w C cv cs) (hFG : ∀ k, F k → ¬ G k) (hFC : ∀ k, F k → ¬ C k)
    (hlen : S.pend.length < 1000000) (hops : S.ops < 1000000) (hlim : S.limit.getD 0 ≤ 9223372036854775807) (hcl : cs.length ≤ 9223372036854775807) :
    Calls Try.prog 31 #[.pointer (some ⟨b, 0, none⟩), v, opV 7 s a f t cv] w (DoPost w F G b (S.write s ((bytesOf f t).take f.toNat)).1) := by
  have hok := h.ok
  have HDB := Lib.hid h.bound
  have HRB := Lib.hid hr.bound
  have HOK := Lib.hid hok
  have HFG := Lib.hid hFG
  have HFC := Lib.hid hFC
  have HCV := Lib.hid hcv
  obtain ⟨dv, wv, rfl, hdu, hw⟩ := hr
  obtain ⟨ad, capd, rfl⟩ := hdu.len
  obtain ⟨aw, capw, rfl⟩ := hw.len
  obtain ⟨ca, cc, rfl, _⟩ := hcv
  clear hdu hw hok hFG hFC h
  unfold opV
  unfold refV at HRB ⊢
  have h3 := heap3 w (.cells #[.slice ad S.dur.length capd, .slice aw S.pend.length capw, .int .i64 (limI S), .bool S.down, .int .i64 (S.ops : Int)] 45) (.cells #[.int .i64 7, .int .i64 s, .int .i64 a, .int .u8 (f.toNat : Int), .int .u8 (t.toNat : Int), .slice ca cs.length cc] 61) (.cells #[.slice none 0 0, .slice none 0 0, .int .i64 0, .bool false, .int .i64 0] 45)
  have hb3 := below3 w (.cells #[.slice ad S.dur.length capd, .slice aw S.pend.length capw, .int .i64 (limI S), .bool S.down, .int .i64 (S.ops : Int)] 45) (.cells #[.int .i64 7, .int .i64 s, .int .i64 a, .int .u8 (f.toNat : Int), .int .u8 (t.toNat : Int), .slice ca cs.length cc] 61) (.cells #[.slice none 0 0, .slice none 0 0, .int .i64 0, .bool false, .int .i64 0] 45)
  obtain ⟨w1, hw1⟩ : ∃ w1, ((w.alloc (.cells #[.slice ad S.dur.length capd, .slice aw S.pend.length capw, .int .i64 (limI S), .bool S.down, .int .i64 (S.ops : Int)] 45)).alloc (.cells #[.int .i64 7, .int .i64 s, .int .i64 a, .int .u8 (f.toNat : Int), .int .u8 (t.toNat : Int), .slice ca cs.length cc] 61)).alloc (.cells #[.slice none 0 0, .slice none 0 0, .int .i64 0, .bool false, .int .i64 0] 45) = w1 := ⟨_, rfl⟩
  have hs1 : w1.heap.size = w.heap.size + 3 := by rw [← hw1, World.size_alloc, World.size_alloc, World.size_alloc]
  rw [hw1] at h3 hb3
  obtain ⟨n1, n2, n3⟩ := h3
  obtain ⟨c0, c1, c2, c3, c4, cf⟩ := cells5 n1
  obtain ⟨o0, o1, o2, o3, o4, o5, of⟩ := cells6 n2
  have hD1 := HDB.out.below hb3
  have hR1 := HRB.out.below hb3
  have HB1 := Lib.hid hb3
  have HS1 := Lib.hid hs1
  have HN1 := Lib.hid n1
  have HN2 := Lib.hid n2
  have HN3 := Lib.hid n3
  have HD1 := Lib.hid hD1
  have HR1 := Lib.hid hR1
  clear hb3 hs1 n1 n2 n3 hD1 hR1
  have hf1 : (f.toNat : Int) < 256 := by have := f.toNat_lt; omega
  have hf2 : (f.toNat : Int) ≤ 256 := by omega
  have hf0 : 0 ≤ (f.toNat : Int) := by omega
  have hwr : IntKind.i64.wrap (f.toNat : Int) = (f.toNat : Int) := IntWalk.i64_in _ (by omega)
  go_enter Try.func31, Try.ntmps31
  go_wp2_with fail
  refine wp_region_noPanic ?_
  refine wp_region_F 9 (fun w' => w'.heap[w.heap.size + 1]? = some (.cells #[.int .i64 7, .int .i64 s, .int .i64 a, .int .u8 (f.toNat : Int), .int .u8 (t.toNat : Int), .slice ca cs.length cc] 61 (0, 0))) (by kernel_rfl) ?_
  have hS0 : (fun w' => w'.heap[w.heap.size + 1]? = some (.cells #[.int .i64 7, .int .i64 s, .int .i64 a, .int .u8 (f.toNat : Int), .int .u8 (t.toNat : Int), .slice ca cs.length cc] 61 (0, 0))) w1.drew := HN2.out
  refine wpAnyF_take (i := 0) (fin := 9) (v := ?v18) rfl (by kernel_rfl) (by kernel_rfl) (by kernel_rfl) (by kernel_rfl) (fun _ _ _ h => h) (yieldsIf_run rfl (fun w' hw' => ?y18)) hS0 ?_
  case y18 => first | (go_simp; rfl) | (go_simp; done) | rfl
  simp only [Act.put, List.setIfInBounds_toArray, List.set_cons_zero, List.set_cons_succ]
  refine wpAnyF_take (i := 1) (fin := 9) (v := ?v19) rfl (by kernel_rfl) (by kernel_rfl) (by kernel_rfl) (by kernel_rfl) (fun _ _ _ h => h) (yieldsIf_run rfl (fun w' hw' => ?y19)) hS0 ?_
  case y19 => (obtain ⟨h0, h1, h2, h3, h4, h5, _⟩ := cells6 hw'; clear hw'; first | (go_simp; rfl) | (go_simp; done))
  simp only [Act.put, List.setIfInBounds_toArray, List.set_cons_zero, List.set_cons_succ]
  refine wpAnyF_take (i := 2) (fin := 9) (v := ?v20) rfl (by kernel_rfl) (by kernel_rfl) (by kernel_rfl) (by kernel_rfl) (fun _ _ _ h => h) (yieldsIf_run rfl (fun w' hw' => ?y20)) hS0 ?_
  case y20 => first | (go_simp; rfl) | (go_simp; done) | rfl
  simp only [Act.put, List.setIfInBounds_toArray, List.set_cons_zero, List.set_cons_succ]
  refine wpAnyF_take (i := 3) (fin := 9) (v := ?v21) rfl (by kernel_rfl) (by kernel_rfl) (by kernel_rfl) (by kernel_rfl) (fun _ _ _ h => h) (yieldsIf_run rfl (fun w' hw' => ?y21)) hS0 ?_
  case y21 => (obtain ⟨h0, h1, h2, h3, h4, h5, _⟩ := cells6 hw'; clear hw'; first | (go_simp; rfl) | (go_simp; done))
  simp only [Act.put, List.setIfInBounds_toArray, List.set_cons_zero, List.set_cons_succ]
  refine wpAnyF_take (i := 5) (fin := 9) (v := ?v22) rfl (by kernel_rfl) (by kernel_rfl) (by kernel_rfl) (by kernel_rfl) (fun _ _ _ h => h) (yieldsIf_run rfl (fun w' hw' => ?y22)) hS0 ?_
  case y22 => first | (go_simp; rfl) | (go_simp; done) | rfl
  simp only [Act.put, List.setIfInBounds_toArray, List.set_cons_zero, List.set_cons_succ]
  refine wpAnyF_take (i := 6) (fin := 9) (v := ?v23) rfl (by kernel_rfl) (by kernel_rfl) (by kernel_rfl) (by kernel_rfl) (fun _ _ _ h => h) (yieldsIf_run rfl (fun w' hw' => ?y23)) hS0 ?_
  case y23 => (obtain ⟨h0, h1, h2, h3, h4, h5, _⟩ := cells6 hw'; clear hw'; first | (go_simp; rfl) | (go_simp; done))
  simp only [Act.put, List.setIfInBounds_toArray, List.set_cons_zero, List.set_cons_succ]
  refine wpAnyF_take (i := 7) (fin := 9) (v := ?v24) rfl (by kernel_rfl) (by kernel_rfl) (by kernel_rfl) (by kernel_rfl) (fun _ _ _ h => h) (yieldsIf_run rfl (fun w' hw' => ?y24)) hS0 ?_
  case y24 => first | (go_simp; rfl) | (go_simp; done) | rfl
  simp only [Act.put, List.setIfInBounds_toArray, List.set_cons_zero, List.set_cons_succ]
  refine wpAnyF_do (i := 4) (by kernel_rfl) rfl rfl (fun K hK => ?_)
  go_simp
  refine (Bytes_any f t w1.drew).mono ?_
  rintro e wB ⟨vB, rfl, hown, hbB⟩
  have hbB' : Below w1.heap.size w1 wB := (Below.refl _ w1).drew.trans hbB
  obtain ⟨gB, TB, rfl, hgB, hhB⟩ := hown
  have hby : BytesAt wB (fun k => w1.heap.size ≤ k) (.slice (some ⟨gB, 0, none⟩) f.toNat (bytesOf f t).length) ((bytesOf f t).take f.toNat) := bytes_cut (k := f.toNat) hhB hgB (by rw [bytesOf_length]; have := f.toNat_lt; omega)
  rw [bytesOf_length] at hby ⊢
  have q1 : wB.heap[w.heap.size]? = _ := (hbB'.block _ (by have := HS1.out; omega)).trans HN1.out
  have q2 : wB.heap[w.heap.size + 1]? = _ := (hbB'.block _ (by have := HS1.out; omega)).trans HN2.out
  have q3 : wB.heap[w.heap.size + 2]? = _ := (hbB'.block _ (by have := HS1.out; omega)).trans HN3.out
  have HBY := Lib.hid hby
  have HBB := Lib.hid hbB'
  have K1 := Lib.hid q1
  have K2 := Lib.hid q2
  have K3 := Lib.hid q3
  clear hby hbB' q1 q2 q3 hgB hhB hbB
  refine hK _ _ (fun _ => K2.out) ?_
  clear hK K
  try simp only [Act.put, List.setIfInBounds_toArray, List.set_cons_zero, List.set_cons_succ]
  refine wpAnyF_do (i := 8) (by kernel_rfl) rfl rfl (fun K hK => ?_)
  go_simp
  refine hK _ _ (fun _ => K2.out) ?_
  clear hK K
  try simp only [Act.put, List.setIfInBounds_toArray, List.set_cons_zero, List.set_cons_succ]
  refine wpAnyF_do (i := 9) (by kernel_rfl) rfl rfl (fun K hK => ?_)
  go_simp
  refine hK _ _ (fun h => absurd rfl h) ?_
  clear hK K
  refine wpAnyF_done (by kernel_rfl) ?_ _
  refine NoPanic.normal ?_
  clear c0 c1 c2 c3 c4 cf o0 o1 o2 o3 o4 o5 of hS0
  obtain ⟨o0, o1, o2, o3, o4, o5, of⟩ := cells6 K2.out
  obtain ⟨c0, c1, c2, c3, c4, cf⟩ := cells5 K1.out
  have hDB := HD1.out.below HBB.out
  have HDB2 := Lib.hid hDB
  clear hDB hw1
  go_wp2_with fail
  refine (Write_any s _ ((bytesOf f t).take f.toNat) HDB2.out HBY.out (fun k h1 h2 => by have := HS1.out; have := h1.2; omega) (by omega) (by omega) hlim (by rw [List.length_take, bytesOf_length]; omega)).mono ?_
  rintro e w2 ⟨rfl, hD2, hC2⟩
  have hw1 := trivial
  have hcd : Chg (fun k => F k ∧ k < w.heap.size) w1 w2 := (Chg.of_below HBB.out).trans hC2 (fun _ h => .inl h)
  have hs1 := HS1.out
  have n1 : w2.heap[w.heap.size]? = _ := (hcd.block _ (by omega) (by omega)).trans HN1.out
  have n2 : w2.heap[w.heap.size + 1]? = _ := (hcd.block _ (by omega) (by omega)).trans HN2.out
  have n3 : w2.heap[w.heap.size + 1 + 1]? = _ := (hcd.block _ (by omega) (by omega)).trans HN3.out
  have hR2 := HR1.out.kept hcd (fun k hg hf => HFG.out k hf.1 hg.1)
  have hcw : Chg F w w2 := (Chg.of_below HB1.out).trans (hcd.mono (fun k h => h.1)) (fun _ h => .inl h)
  have hsz := hcd.size
  have HN1' := Lib.hid n1
  have HN2' := Lib.hid n2
  have HN3' := Lib.hid n3
  have HR2 := Lib.hid hR2
  have HCW := Lib.hid hcw
  have HSZ := Lib.hid hsz
  have HCD := Lib.hid hcd
  clear c0 c1 c2 c3 c4 cf o0 o1 o2 o3 o4 o5 of
  obtain ⟨c0, c1, c2, c3, c4, cf⟩ := cells5 n1
  obtain ⟨o0, o1, o2, o3, o4, o5, of⟩ := cells6 n2
  clear n1 n2 n3 hR2 hcw hsz hcd hs1 hw1
  have hD2b := hD2.bound
  have hF2 : ∀ k, (((F k ∧ k < w.heap.size) ∨ wB.heap.size ≤ k) ∧ k < w2.heap.size) → (F k ∧ k < w.heap.size) ∨ (w.heap.size + 3 ≤ k ∧ k < w2.heap.size) := fun k h => by
    have h1 := HBB.out.size
    have h2 := HS1.out
    rcases h.1 with h3 | h3
    · exact .inl h3
    · exact .inr ⟨by omega, h.2⟩
  have hby2 := HBY.out.kept hC2 (fun k hk hf => by have := HS1.out; omega)
  have HBY2 := Lib.hid hby2
  have HD2 := Lib.hid hD2b
  have HF2 := Lib.hid hF2
  clear hF2 hD2 hD2b hC2 hby2
  go_wp2_with fail
  refine (ref_write s ((bytesOf f t).take f.toNat) HR2.out HBY2.out HOK.out (by omega) (by omega) hlim).mono ?_
  rintro e w3 ⟨v3, rfl, hR3, hb3⟩
  obtain ⟨ad3, cd3, aw3, cw3, rfl⟩ := hR3.form
  unfold refV
  have hs1 := HS1.out
  have hsz := HSZ.out
  have n1 : w3.heap[w.heap.size]? = _ := (hb3.block _ (by omega)).trans HN1'.out
  have n3 : w3.heap[w.heap.size + 1 + 1]? = _ := (hb3.block _ (by omega)).trans HN3'.out
  obtain ⟨w4, hw4⟩ : ∃ w4, put5 w3 w.heap.size (.slice ad3 ((S.write s ((bytesOf f t).take f.toNat)).1).dur.length cd3) (.slice aw3 ((S.write s ((bytesOf f t).take f.toNat)).1).pend.length cw3) (.int .i64 (limI ((S.write s ((bytesOf f t).take f.toNat)).1))) (.bool ((S.write s ((bytesOf f t).take f.toNat)).1).down) (.int .i64 (((S.write s ((bytesOf f t).take f.toNat)).1).ops : Int)) = w4 := ⟨_, rfl⟩
  have n41 := put5_heap n1 (.slice ad3 ((S.write s ((bytesOf f t).take f.toNat)).1).dur.length cd3) (.slice aw3 ((S.write s ((bytesOf f t).take f.toNat)).1).pend.length cw3) (.int .i64 (limI ((S.write s ((bytesOf f t).take f.toNat)).1))) (.bool ((S.write s ((bytesOf f t).take f.toNat)).1).down) (.int .i64 (((S.write s ((bytesOf f t).take f.toNat)).1).ops : Int))
  have hc4 := put5_chg w3 w.heap.size (.slice ad3 ((S.write s ((bytesOf f t).take f.toNat)).1).dur.length cd3) (.slice aw3 ((S.write s ((bytesOf f t).take f.toNat)).1).pend.length cw3) (.int .i64 (limI ((S.write s ((bytesOf f t).take f.toNat)).1))) (.bool ((S.write s ((bytesOf f t).take f.toNat)).1).down) (.int .i64 (((S.write s ((bytesOf f t).take f.toNat)).1).ops : Int))
  rw [hw4] at n41 hc4
  have n43 : w4.heap[w.heap.size + 1 + 1]? = _ := (hc4.block _ (Array.getElem?_eq_some_iff.1 n3).1 (by omega)).trans n3
  obtain ⟨w5, hw5⟩ : ∃ w5, put5 w4 (w.heap.size + 1 + 1) (.slice ad3 ((S.write s ((bytesOf f t).take f.toNat)).1).dur.length cd3) (.slice aw3 ((S.write s ((bytesOf f t).take f.toNat)).1).pend.length cw3) (.int .i64 (limI ((S.write s ((bytesOf f t).take f.toNat)).1))) (.bool ((S.write s ((bytesOf f t).take f.toNat)).1).down) (.int .i64 (((S.write s ((bytesOf f t).take f.toNat)).1).ops : Int)) = w5 := ⟨_, rfl⟩
  have n51 := put5_heap n43 (.slice ad3 ((S.write s ((bytesOf f t).take f.toNat)).1).dur.length cd3) (.slice aw3 ((S.write s ((bytesOf f t).take f.toNat)).1).pend.length cw3) (.int .i64 (limI ((S.write s ((bytesOf f t).take f.toNat)).1))) (.bool ((S.write s ((bytesOf f t).take f.toNat)).1).down) (.int .i64 (((S.write s ((bytesOf f t).take f.toNat)).1).ops : Int))
  have hc5 := put5_chg w4 (w.heap.size + 1 + 1) (.slice ad3 ((S.write s ((bytesOf f t).take f.toNat)).1).dur.length cd3) (.slice aw3 ((S.write s ((bytesOf f t).take f.toNat)).1).pend.length cw3) (.int .i64 (limI ((S.write s ((bytesOf f t).take f.toNat)).1))) (.bool ((S.write s ((bytesOf f t).take f.toNat)).1).down) (.int .i64 (((S.write s ((bytesOf f t).take f.toNat)).1).ops : Int))
  rw [hw5] at n51 hc5
  have hfin := do_end HD2.out HF2.out HCW.out hR3 (fun k h => h.elim (fun h => .inl h) .inr) hb3 ((hc4.mono (fun k (h : k = w.heap.size) => (Or.inl h : k = w.heap.size ∨ k = w.heap.size + 1 + 1))).trans (hc5.mono (G := fun k => k = w.heap.size ∨ k = w.heap.size + 1 + 1) (fun k h => .inr h)) (fun k h => .inl h)) (by omega) HFG.out
  have HFIN := Lib.hid hfin
  have HN51 := Lib.hid n51
  have HW5 := Lib.hid hw5
  clear c0 c1 c2 c3 c4 cf o0 o1 o2 o3 o4 o5 of
  obtain ⟨c0, c1, c2, c3, c4, cf⟩ := cells5 n1
  obtain ⟨x0, x1, x2, x3, x4, xf⟩ := cells5 n41
  obtain ⟨z0, z1, z2, z3, z4, zf⟩ := cells5 n43
  unfold put5 at hw4
  clear hs1 hsz n1 n3 n41 hc4 n43 n51 hc5 hfin hw5 hR3 hb3
  go_wp2_with fail
  have hw5 := HW5.out
  unfold put5 at hw5
  rw [hw5]
  exact bodyPost_ret (results_cell_tmp_row (g := w.heap.size + 1 + 1) rfl _ _ _ _ _ _ rfl HN51.out Try.underlying45 rfl infoD) rfl (HFIN.out _ rfl)

set_option maxRecDepth 100000 in
set_option maxHeartbeats 2000000 in
theorem do_read {w : World} {F G C : Nat → Prop} {b : Nat} {S : DS} {v cv : Value} (s a : Int) (f t : UInt8) (cs : List UInt8) (h : DiskAt w F b S) (hr : RefAt w G S v) (hcv : BytesAt w C cv cs) (hFG : ∀ k, F k → ¬ G k) (hFC : ∀ k, F k → ¬ C k)
    (hlen : S.pend.length < 1000000) (hops : S.ops < 1000000) (hlim : S.limit.getD 0 ≤ 9223372036854775807) (hcl : cs.length ≤ 9223372036854775807) :
    Calls Try.prog 31 #[.pointer (some ⟨b, 0, none⟩), v, opV 2 s a f t cv] w (DoPost w F G b S) := by
  have hok := h.ok
  have HDB := Lib.hid h.bound
  have HRB := Lib.hid hr.bound
  have HOK := Lib.hid hok
  have HFG := Lib.hid hFG
  have HFC := Lib.hid hFC
  have HCV := Lib.hid hcv
  obtain ⟨dv, wv, rfl, hdu, hw⟩ := hr
  obtain ⟨ad, capd, rfl⟩ := hdu.len
  obtain ⟨aw, capw, rfl⟩ := hw.len
  obtain ⟨ca, cc, rfl, _⟩ := hcv
  clear hdu hw hok hFG hFC h
  unfold opV
  unfold refV at HRB ⊢
  have h3 := heap3 w (.cells #[.slice ad S.dur.length capd, .slice aw S.pend.length capw, .int .i64 (limI S), .bool S.down, .int .i64 (S.ops : Int)] 45) (.cells #[.int .i64 2, .int .i64 s, .int .i64 a, .int .u8 (f.toNat : Int), .int .u8 (t.toNat : Int), .slice ca cs.length cc] 61) (.cells #[.slice none 0 0, .slice none 0 0, .int .i64 0, .bool false, .int .i64 0] 45)
  have hb3 := below3 w (.cells #[.slice ad S.dur.length capd, .slice aw S.pend.length capw, .int .i64 (limI S), .bool S.down, .int .i64 (S.ops : Int)] 45) (.cells #[.int .i64 2, .int .i64 s, .int .i64 a, .int .u8 (f.toNat : Int), .int .u8 (t.toNat : Int), .slice ca cs.length cc] 61) (.cells #[.slice none 0 0, .slice none 0 0, .int .i64 0, .bool false, .int .i64 0] 45)
  obtain ⟨w1, hw1⟩ : ∃ w1, ((w.alloc (.cells #[.slice ad S.dur.length capd, .slice aw S.pend.length capw, .int .i64 (limI S), .bool S.down, .int .i64 (S.ops : Int)] 45)).alloc (.cells #[.int .i64 2, .int .i64 s, .int .i64 a, .int .u8 (f.toNat : Int), .int .u8 (t.toNat : Int), .slice ca cs.length cc] 61)).alloc (.cells #[.slice none 0 0, .slice none 0 0, .int .i64 0, .bool false, .int .i64 0] 45) = w1 := ⟨_, rfl⟩
  have hs1 : w1.heap.size = w.heap.size + 3 := by rw [← hw1, World.size_alloc, World.size_alloc, World.size_alloc]
  rw [hw1] at h3 hb3
  obtain ⟨n1, n2, n3⟩ := h3
  obtain ⟨c0, c1, c2, c3, c4, cf⟩ := cells5 n1
  obtain ⟨o0, o1, o2, o3, o4, o5, of⟩ := cells6 n2
  have hD1 := HDB.out.below hb3
  have hR1 := HRB.out.below hb3
  have HB1 := Lib.hid hb3
  have HS1 := Lib.hid hs1
  have HN1 := Lib.hid n1
  have HN2 := Lib.hid n2
  have HN3 := Lib.hid n3
  have HD1 := Lib.hid hD1
  have HR1 := Lib.hid hR1
  clear hb3 hs1 n1 n2 n3 hD1 hR1
  go_enter Try.func31, Try.ntmps31
  go_wp2_with fail
  refine (Read_at s HD1.out (by omega)).mono ?_
  rintro e w2 ⟨v2, rfl, hby, hb2⟩
  have hcd : Chg (fun k => F k ∧ k < w.heap.size) w1 w2 := Chg.of_below hb2
  have hs1 := HS1.out
  have n1 : w2.heap[w.heap.size]? = _ := (hcd.block _ (by omega) (by omega)).trans HN1.out
  have n2 : w2.heap[w.heap.size + 1]? = _ := (hcd.block _ (by omega) (by omega)).trans HN2.out
  have n3 : w2.heap[w.heap.size + 1 + 1]? = _ := (hcd.block _ (by omega) (by omega)).trans HN3.out
  have hR2 := HR1.out.kept hcd (fun k hg hf => HFG.out k hf.1 hg.1)
  have hcw : Chg F w w2 := (Chg.of_below HB1.out).trans (hcd.mono (fun k h => h.1)) (fun _ h => .inl h)
  have hsz := hcd.size
  have HN1' := Lib.hid n1
  have HN2' := Lib.hid n2
  have HN3' := Lib.hid n3
  have HR2 := Lib.hid hR2
  have HCW := Lib.hid hcw
  have HSZ := Lib.hid hsz
  have HCD := Lib.hid hcd
  clear c0 c1 c2 c3 c4 cf o0 o1 o2 o3 o4 o5 of
  obtain ⟨c0, c1, c2, c3, c4, cf⟩ := cells5 n1
  obtain ⟨o0, o1, o2, o3, o4, o5, of⟩ := cells6 n2
  clear n1 n2 n3 hR2 hcw hsz hcd hs1 hw1
  have HBY := Lib.hid hby
  have HB2 := Lib.hid hb2
  obtain ⟨ra, rc, rfl, _⟩ := hby
  clear hb2
  go_wp2_with fail
  refine (ref_read s HR2.out HOK.out (by omega)).mono ?_
  rintro e w3 ⟨v3, rfl, hby3, hb3⟩
  have hs1 := HBY.out.str
  have hb23 : Below w1.heap.size w1 w3 := HB2.out.trans (hb3.mono HB2.out.size)
  have hst1 := (HBY.out.kept (F := fun k => w1.heap.size ≤ k) (G := fun _ => False) (Chg.of_below hb3) (fun _ _ h => h)).str
  have hst2 := hby3.str
  obtain ⟨rb, rd, rfl, _⟩ := hby3
  have hz := HS1.out
  have n1 : w3.heap[w.heap.size]? = _ := (hb23.block _ (by omega)).trans HN1.out
  have n3 : w3.heap[w.heap.size + 1 + 1]? = some (.cells #[.slice none 0 0, .slice none 0 0, .int .i64 0, .bool false, .int .i64 0] 45 (0, 0)) := (hb23.block _ (by omega)).trans HN3.out
  have hD3 := HD1.out.below hb23
  have hR3 := HR1.out.below hb23
  have hcw := (Chg.of_below (F := F) HB1.out).trans (Chg.of_below (F := fun _ => False) hb23) (fun _ h => h.elim)
  obtain ⟨w5, hw5⟩ : ∃ w5, put5 w3 (w.heap.size + 1 + 1) (.slice ad S.dur.length capd) (.slice aw S.pend.length capw) (.int .i64 (limI S)) (.bool S.down) (.int .i64 (S.ops : Int)) = w5 := ⟨_, rfl⟩
  have n51 := put5_heap n3 (.slice ad S.dur.length capd) (.slice aw S.pend.length capw) (.int .i64 (limI S)) (.bool S.down) (.int .i64 (S.ops : Int))
  have hc5 := put5_chg w3 (w.heap.size + 1 + 1) (.slice ad S.dur.length capd) (.slice aw S.pend.length capw) (.int .i64 (limI S)) (.bool S.down) (.int .i64 (S.ops : Int))
  rw [hw5] at n51 hc5
  have hsz3 := hb23.size
  have hfin := do_end hD3 (fun k h => .inl h) hcw hR3 (fun k h => .inl h) (Below.refl _ w3) (hc5.mono (G := fun k => k = w.heap.size ∨ k = w.heap.size + 1 + 1) (fun k h => .inr h)) (by omega) HFG.out
  have HFIN := Lib.hid hfin
  have HN51 := Lib.hid n51
  have HW5 := Lib.hid hw5
  clear c0 c1 c2 c3 c4 cf o0 o1 o2 o3 o4 o5 of
  obtain ⟨c0, c1, c2, c3, c4, cf⟩ := cells5 n1
  obtain ⟨z0, z1, z2, z3, z4, zf⟩ := cells5 n3
  clear hs1 hb23 hz n1 n3 hD3 hR3 hcw n51 hc5 hfin hw5 hsz3 hb3
  go_wp2_with fail
  have hw5 := HW5.out
  unfold put5 at hw5
  rw [hw5]
  exact bodyPost_ret (results_cell_tmp_row (g := w.heap.size + 1 + 1) rfl _ _ _ _ _ _ rfl HN51.out Try.underlying45 rfl infoD) rfl (HFIN.out _ rfl)

set_option maxRecDepth 100000 in
set_option maxHeartbeats 2000000 in
theorem do_other {w : World} {F G C : Nat → Prop} {b : Nat} {S : DS} {v cv : Value} (kd : Int) (s a : Int) (f t : UInt8) (cs : List UInt8) (h : DiskAt w F b S) (hr : RefAt w G S v) (hcv : BytesAt w C cv cs) (hFG : ∀ k, F k → ¬ G k) (hFC : ∀ k, F k → ¬ C k)
    (hlen : S.pend.length < 1000000) (hops : S.ops < 1000000) (hlim : S.limit.getD 0 ≤ 9223372036854775807) (hcl : cs.length ≤ 9223372036854775807) (hk : kd < 0 ∨ 7 < kd) :
    Calls Try.prog 31 #[.pointer (some ⟨b, 0, none⟩), v, opV kd s a f t cv] w (DoPost w F G b S) := by
  have hok := h.ok
  have HDB := Lib.hid h.bound
  have HRB := Lib.hid hr.bound
  have HOK := Lib.hid hok
  have HFG := Lib.hid hFG
  have HFC := Lib.hid hFC
  have HCV := Lib.hid hcv
  obtain ⟨dv, wv, rfl, hdu, hw⟩ := hr
  obtain ⟨ad, capd, rfl⟩ := hdu.len
  obtain ⟨aw, capw, rfl⟩ := hw.len
  obtain ⟨ca, cc, rfl, _⟩ := hcv
  clear hdu hw hok hFG hFC h
  unfold opV
  unfold refV at HRB ⊢
  have h3 := heap3 w (.cells #[.slice ad S.dur.length capd, .slice aw S.pend.length capw, .int .i64 (limI S), .bool S.down, .int .i64 (S.ops : Int)] 45) (.cells #[.int .i64 kd, .int .i64 s, .int .i64 a, .int .u8 (f.toNat : Int), .int .u8 (t.toNat : Int), .slice ca cs.length cc] 61) (.cells #[.slice none 0 0, .slice none 0 0, .int .i64 0, .bool false, .int .i64 0] 45)
  have hb3 := below3 w (.cells #[.slice ad S.dur.length capd, .slice aw S.pend.length capw, .int .i64 (limI S), .bool S.down, .int .i64 (S.ops : Int)] 45) (.cells #[.int .i64 kd, .int .i64 s, .int .i64 a, .int .u8 (f.toNat : Int), .int .u8 (t.toNat : Int), .slice ca cs.length cc] 61) (.cells #[.slice none 0 0, .slice none 0 0, .int .i64 0, .bool false, .int .i64 0] 45)
  obtain ⟨w1, hw1⟩ : ∃ w1, ((w.alloc (.cells #[.slice ad S.dur.length capd, .slice aw S.pend.length capw, .int .i64 (limI S), .bool S.down, .int .i64 (S.ops : Int)] 45)).alloc (.cells #[.int .i64 kd, .int .i64 s, .int .i64 a, .int .u8 (f.toNat : Int), .int .u8 (t.toNat : Int), .slice ca cs.length cc] 61)).alloc (.cells #[.slice none 0 0, .slice none 0 0, .int .i64 0, .bool false, .int .i64 0] 45) = w1 := ⟨_, rfl⟩
  have hs1 : w1.heap.size = w.heap.size + 3 := by rw [← hw1, World.size_alloc, World.size_alloc, World.size_alloc]
  rw [hw1] at h3 hb3
  obtain ⟨n1, n2, n3⟩ := h3
  obtain ⟨c0, c1, c2, c3, c4, cf⟩ := cells5 n1
  obtain ⟨o0, o1, o2, o3, o4, o5, of⟩ := cells6 n2
  have hD1 := HDB.out.below hb3
  have hR1 := HRB.out.below hb3
  have HB1 := Lib.hid hb3
  have HS1 := Lib.hid hs1
  have HN1 := Lib.hid n1
  have HN2 := Lib.hid n2
  have HN3 := Lib.hid n3
  have HD1 := Lib.hid hD1
  have HR1 := Lib.hid hR1
  clear hb3 hs1 n1 n2 n3 hD1 hR1
  have hk0 : (kd == 0) = false := by simp; omega
  have hk1 : (kd == 1) = false := by simp; omega
  have hk2 : (kd == 2) = false := by simp; omega
  have hk3 : (kd == 3) = false := by simp; omega
  have hk4 : (kd == 4) = false := by simp; omega
  have hk5 : (kd == 5) = false := by simp; omega
  have hk6 : (kd == 6) = false := by simp; omega
  have hk7 : (kd == 7) = false := by simp; omega
  have hz := HS1.out
  have hD3 := HD1.out
  have hR3 := HR1.out
  have hcw := (Chg.of_below (F := F) HB1.out)
  obtain ⟨w5, hw5⟩ : ∃ w5, put5 w1 (w.heap.size + 1 + 1) (.slice ad S.dur.length capd) (.slice aw S.pend.length capw) (.int .i64 (limI S)) (.bool S.down) (.int .i64 (S.ops : Int)) = w5 := ⟨_, rfl⟩
  have n51 := put5_heap HN3.out (.slice ad S.dur.length capd) (.slice aw S.pend.length capw) (.int .i64 (limI S)) (.bool S.down) (.int .i64 (S.ops : Int))
  have hc5 := put5_chg w1 (w.heap.size + 1 + 1) (.slice ad S.dur.length capd) (.slice aw S.pend.length capw) (.int .i64 (limI S)) (.bool S.down) (.int .i64 (S.ops : Int))
  have n51' : w5.heap[w.heap.size + 1 + 1]? = some (.cells #[.slice ad S.dur.length capd, .slice aw S.pend.length capw, .int .i64 (limI S), .bool S.down, .int .i64 (S.ops : Int)] 45 (0, 0)) := hw5 ▸ n51
  rw [hw5] at hc5
  have hfin := do_end hD3 (fun k h => .inl h) hcw hR3 (fun k h => .inl h) (Below.refl _ w1) (hc5.mono (G := fun k => k = w.heap.size ∨ k = w.heap.size + 1 + 1) (fun k h => .inr h)) (by omega) HFG.out
  have HFIN := Lib.hid hfin
  have HN51 := Lib.hid n51'
  have HW5 := Lib.hid hw5
  obtain ⟨z0, z1, z2, z3, z4, zf⟩ : w1.cell? ⟨w.heap.size + 1 + 1, 0, none⟩ = _ ∧ w1.cell? ⟨w.heap.size + 1 + 1, 1, none⟩ = _ ∧ w1.cell? ⟨w.heap.size + 1 + 1, 2, none⟩ = _ ∧ w1.cell? ⟨w.heap.size + 1 + 1, 3, none⟩ = _ ∧ w1.cell? ⟨w.heap.size + 1 + 1, 4, none⟩ = _ ∧ ∀ i, w1.frozen? ⟨w.heap.size + 1 + 1, i, none⟩ = false := cells5 HN3.out
  clear hz hD3 hR3 hcw n51 n51' hc5 hfin hw5 hk
  go_enter Try.func31, Try.ntmps31
  go_wp2_with fail
  have hw5 := HW5.out
  unfold put5 at hw5
  rw [hw5]
  exact bodyPost_ret (results_cell_tmp_row (g := w.heap.size + 1 + 1) rfl _ _ _ _ _ _ rfl HN51.out Try.underlying45 rfl infoD) rfl (HFIN.out _ rfl)

end Go.Proofs.Ytkklbmnbjmicnaa
