/- Do, whichever the operation; run. -/
import Derived.Test.YtkklbmnbjmicnaaDo1
namespace Go.Proofs.Ytkklbmnbjmicnaa
open Go.RowKit Go.Shelf
set_option linter.unusedVariables false
set_option linter.unusedSimpArgs false

structure OpD where
  kind : Int
  s : Int
  a : Int
  f : UInt8
  t : UInt8
  cs : List UInt8

def DS.doOp (S : DS) (o : OpD) : DS :=
  if o.kind = 0 then (S.write o.s (bytesOf o.f o.t)).1 else if o.kind = 1 then S.flush.1 else if o.kind = 2 then S else if o.kind = 3 then { S with down := true } else if o.kind = 4 then (S.restart o.cs).1
  else if o.kind = 5 then S.setLimit o.a else if o.kind = 6 then (S.damage o.s o.a o.f).1 else if o.kind = 7 then (S.write o.s ((bytesOf o.f o.t).take o.f.toNat)).1 else S

theorem Do_any {w : World} {F G C : Nat → Prop} {b : Nat} {S : DS} {v cv : Value} (o : OpD) (h : DiskAt w F b S) (hr : RefAt w G S v) (hcv : BytesAt w C cv o.cs) (hFG : ∀ k, F k → ¬ G k) (hFC : ∀ k, F k → ¬ C k)
    (hlen : S.pend.length < 1000000) (hops : S.ops < 1000000) (hlim : S.limit.getD 0 ≤ 9223372036854775807) (hcl : o.cs.length ≤ 9223372036854775807) :
    Calls Try.prog 31 #[.pointer (some ⟨b, 0, none⟩), v, .agg #[.int .i64 o.kind, .int .i64 o.s, .int .i64 o.a, .int .u8 (o.f.toNat : Int), .int .u8 (o.t.toNat : Int), cv]] w (DoPost w F G b (S.doOp o)) := by
  obtain ⟨kd, s, a, f, t, cs⟩ := o
  simp only at hcv hcl ⊢
  unfold DS.doOp
  simp only
  by_cases h0 : kd = 0
  · subst h0; exact do_write s a f t cs h hr hcv hFG hFC hlen hops hlim hcl
  rw [if_neg h0]
  by_cases h1 : kd = 1
  · subst h1; exact do_flush s a f t cs h hr hcv hFG hFC hlen hops hlim hcl
  rw [if_neg h1]
  by_cases h2 : kd = 2
  · subst h2; exact do_read s a f t cs h hr hcv hFG hFC hlen hops hlim hcl
  rw [if_neg h2]
  by_cases h3 : kd = 3
  · subst h3; exact do_fail s a f t cs h hr hcv hFG hFC hlen hops hlim hcl
  rw [if_neg h3]
  by_cases h4 : kd = 4
  · subst h4; exact do_restart s a f t cs h hr hcv hFG hFC hlen hops hlim hcl
  rw [if_neg h4]
  by_cases h5 : kd = 5
  · subst h5; exact do_limit s a f t cs h hr hcv hFG hFC hlen hops hlim hcl
  rw [if_neg h5]
  by_cases h6 : kd = 6
  · subst h6; exact do_damage s a f t cs h hr hcv hFG hFC hlen hops hlim hcl
  rw [if_neg h6]
  by_cases h7 : kd = 7
  · subst h7; exact do_write7 s a f t cs h hr hcv hFG hFC hlen hops hlim hcl
  rw [if_neg h7]
  exact do_other kd s a f t cs h hr hcv hFG hFC hlen hops hlim hcl (by omega)

/-- What is bounded by the number of operations so far. -/
structure Bnd (k : Nat) (S : DS) : Prop where
  pend : S.pend.length ≤ k
  ops : S.ops ≤ k
  limit : S.limit.getD 0 ≤ 9223372036854775807
theorem Bnd.more {k k' : Nat} {S : DS} (h : Bnd k S) (hk : k ≤ k') : Bnd k' S := ⟨Nat.le_trans h.pend hk, Nat.le_trans h.ops hk, h.limit⟩
theorem Bnd.operate {k : Nat} {S : DS} (h : Bnd k S) : Bnd (k + 1) S.operate.1 := by
  have hp := (operate_pend S).1
  have hl := h.limit
  refine ⟨by rw [hp]; exact Nat.le_succ_of_le h.pend, ?_, ?_⟩
  · have := h.ops
    unfold DS.operate
    cases S.limit with
    | none => simp; omega
    | some m => cases m <;> simp <;> omega
  · unfold DS.operate
    cases hm : S.limit with
    | none => simp [hm]
    | some m => rw [hm] at hl; cases m <;> simp at hl ⊢ <;> omega
theorem Bnd.write {k : Nat} {S : DS} (h : Bnd k S) (s : Int) (l : List UInt8) : Bnd (k + 1) (S.write s l).1 := by
  unfold DS.write
  have ho := h.operate
  split
  · exact h.more (Nat.le_succ _)
  · split
    · split
      · split
        · exact ⟨by have := (operate_pend S).1; rw [List.length_append, this]; have := h.pend; simp; omega, ho.ops, ho.limit⟩
        · exact ho
      · exact h.more (Nat.le_succ _)
    · exact h.more (Nat.le_succ _)
theorem Bnd.flush {k : Nat} {S : DS} (h : Bnd k S) : Bnd (k + 1) S.flush.1 := by
  unfold DS.flush
  have ho := h.operate
  split
  · exact h.more (Nat.le_succ _)
  · split
    · exact ⟨Nat.zero_le _, ho.ops, ho.limit⟩
    · exact ho
theorem Bnd.doOp {k : Nat} {S : DS} (h : Bnd k S) (o : OpD) (ha : o.a ≤ 9223372036854775807) : Bnd (k + 1) (S.doOp o) := by
  have h1 := h.more (Nat.le_succ k)
  unfold DS.doOp
  split
  · exact h.write _ _
  split
  · exact h.flush
  split
  · exact h1
  split
  · exact ⟨h1.pend, h1.ops, h1.limit⟩
  split
  · unfold DS.restart
    split
    · exact ⟨Nat.zero_le _, h1.ops, by simp⟩
    · exact h1
  split
  · refine ⟨h1.pend, h1.ops, ?_⟩
    unfold DS.setLimit
    split <;> simp
    omega
  split
  · unfold DS.damage
    split
    · split
      · exact ⟨by simpa using h1.pend, h1.ops, h1.limit⟩
      · exact h1
    · exact h1
  split
  · exact h.write _ _
  · exact h1

def runDS (n : Nat) (l : List OpD) : DS := l.foldl DS.doOp (newDS n)
theorem runDS_succ (n : Nat) (l : List OpD) (k : Nat) (hk : k < l.length) : runDS n (l.take (k + 1)) = (runDS n (l.take k)).doOp l[k] := by
  unfold runDS
  rw [List.take_add_one, List.getElem?_eq_getElem hk, List.foldl_append]
  rfl
theorem runDS_bnd (n : Nat) (l : List OpD) (ha : ∀ o ∈ l, o.a ≤ 9223372036854775807) : ∀ k, k ≤ l.length → Bnd k (runDS n (l.take k))
  | 0, _ => ⟨by simp [runDS, newDS], by simp [runDS, newDS], by simp [runDS, newDS]⟩
  | k + 1, hk => by
    rw [runDS_succ n l k (by omega)]
    exact (runDS_bnd n l ha k (by omega)).doOp _ (ha _ (List.getElem_mem _))

/-- The slice value v holds the operations l. -/
def OpsAt (w : World) (C : Nat → Prop) (v : Value) (l : List OpD) : Prop :=
  ∃ a cap, v = .slice a l.length cap ∧ l.length ≤ cap ∧ (l ≠ [] → ∃ g off, a = some ⟨g, off, none⟩ ∧ C g ∧ g < w.heap.size ∧
    ∀ i (hi : i < l.length), ∃ cv, w.rangeAt g (off + i * 6) [.int .i64 l[i].kind, .int .i64 l[i].s, .int .i64 l[i].a, .int .u8 (l[i].f.toNat : Int), .int .u8 (l[i].t.toNat : Int), cv] ∧ BytesAt w C cv l[i].cs)

theorem range6 {w : World} {g o : Nat} {a0 a1 a2 a3 a4 a5 : Value} (h : w.rangeAt g o [a0, a1, a2, a3, a4, a5]) :
    w.cell? ⟨g, o, none⟩ = some a0 ∧ w.cell? ⟨g, o + 1, none⟩ = some a1 ∧ w.cell? ⟨g, o + 2, none⟩ = some a2 ∧ w.cell? ⟨g, o + 3, none⟩ = some a3 ∧ w.cell? ⟨g, o + 4, none⟩ = some a4 ∧ w.cell? ⟨g, o + 5, none⟩ = some a5 :=
  ⟨h 0 _ rfl, h 1 _ rfl, h 2 _ rfl, h 3 _ rfl, h 4 _ rfl, h 5 _ rfl⟩

theorem results_tct {P : Program} {fn : Func} {s p u : Tmp} {ty : TypeId} (h : fn.results = #[.tmp s, .cell p ty, .tmp u]) (tmps : Array Value) (w : World) (g : Nat) (t : TypeId) (cs : Array Value) (fr : Nat × Nat) {d : TypeDesc}
    (hp : tmps.getD p undef = .pointer (some ⟨g, 0, none⟩)) (hg : w.heap[g]? = some (.cells cs t fr)) (hu : P.underlying ty = some d) (hd : (match d with | .struct _ | .array _ _ => true | _ => false) = true) (hi : (P.info? ty).map (·.size) = some cs.size) :
    (results fn tmps).run P w = .ok (.tuple #[tmps.getD s undef, .agg cs, tmps.getD u undef]) w := by
  have hp' : tmps[p]?.getD undef = .pointer (some ⟨g, 0, none⟩) := by simpa using hp
  simp only [results, h]
  simp [Sem.run_bind, Result.andThen, hp', asAddr, run_loadVar_row w g t ty cs fr d hg hu hd hi]

set_option maxRecDepth 100000 in
set_option maxHeartbeats 2000000 in
theorem run_any {C : Nat → Prop} (n : Nat) (l : List OpD) (lv : Value) (w : World) (h1 : 1 ≤ n) (h2 : n ≤ 4096) (h : OpsAt w C lv l) (hl : l.length ≤ 40) (hC : ∀ k, C k → k < w.heap.size) (ha : ∀ o ∈ l, o.a ≤ 9223372036854775807) (hcl : ∀ o ∈ l, o.cs.length ≤ 9223372036854775807) :
    Calls Try.prog 24 #[.int .i64 (n : Int), lv] w fun e w' => ∃ b v F G, e = .returned (.tuple #[.pointer (some ⟨b, 0, none⟩), v, .bool true]) ∧ DiskAt w' F b (runDS n l) ∧ RefAt w' G (runDS n l) v ∧
      (∀ k, F k → ¬ G k) ∧ (∀ k, F k → w.heap.size ≤ k) ∧ (∀ k, G k → w.heap.size ≤ k) ∧ Below w.heap.size w w' := by
  obtain ⟨la, lc, rfl, hlc, hops⟩ := h
  have HOPS0 := Lib.hid hops
  have HC := Lib.hid hC
  have HA := Lib.hid ha
  have HCL := Lib.hid hcl
  clear hops hC ha hcl
  obtain ⟨w0, hw0⟩ : ∃ w0, w.alloc (.cells #[.slice none 0 0, .slice none 0 0, .int .i64 0, .bool false, .int .i64 0] 45) = w0 := ⟨_, rfl⟩
  have n0 : w0.heap[w.heap.size]? = some (.cells #[.slice none 0 0, .slice none 0 0, .int .i64 0, .bool false, .int .i64 0] 45 (0, 0)) := by rw [← hw0]; exact heap_alloc_new w _
  have hb0 : Below w.heap.size w w0 := hw0 ▸ (Below.refl _ _).alloc (Nat.le_refl _) _
  have hs0 : w0.heap.size = w.heap.size + 1 := by rw [← hw0, World.size_alloc]
  have N0 := Lib.hid n0
  have HB0 := Lib.hid hb0
  have HS0 := Lib.hid hs0
  clear n0 hb0 hs0
  go_enter Try.func24, Try.ntmps24
  go_wp2_with fail
  refine (New_good n w0 h1 h2).mono ?_
  rintro e w1 ⟨rfl, hD1, hb1⟩
  have hs1 := hD1.bound
  go_wp2_with fail
  refine (refNew_any n w1 h1 h2).mono ?_
  rintro e w2 ⟨v2, rfl, hO2, hb2⟩
  have hR2 := hO2.at
  obtain ⟨da, dc, wa, wcap, rfl⟩ := hR2.form
  unfold refV
  have hb02 : Below w0.heap.size w0 w2 := hb1.trans (hb2.mono hb1.size)
  have n2 : w2.heap[w.heap.size]? = _ := (hb02.block _ (by have := HS0.out; omega)).trans N0.out
  obtain ⟨w3, hw3⟩ : ∃ w3, put5 w2 w.heap.size (.slice da (newDS n).dur.length dc) (.slice wa (newDS n).pend.length wcap) (.int .i64 (limI (newDS n))) (.bool (newDS n).down) (.int .i64 ((newDS n).ops : Int)) = w3 := ⟨_, rfl⟩
  have n3 := put5_heap n2 (.slice da (newDS n).dur.length dc) (.slice wa (newDS n).pend.length wcap) (.int .i64 (limI (newDS n))) (.bool (newDS n).down) (.int .i64 ((newDS n).ops : Int))
  have hc3 := put5_chg w2 w.heap.size (.slice da (newDS n).dur.length dc) (.slice wa (newDS n).pend.length wcap) (.int .i64 (limI (newDS n))) (.bool (newDS n).down) (.int .i64 ((newDS n).ops : Int))
  rw [hw3] at n3 hc3
  have hz1 := hb1.size
  have hz2 := hb2.size
  have hz0 := HS0.out
  have hD3 : DiskAt w3 (fun k => w0.heap.size ≤ k ∧ k < w1.heap.size) (w0.heap.size + 1) (runDS n (l.take 0)) := (hs1.below hb2).chg hc3 (fun k h e => by omega)
  have hR3 : RefAt w3 (fun k => w1.heap.size ≤ k) (runDS n (l.take 0)) (refV (runDS n (l.take 0)) (.slice da (newDS n).dur.length dc) (.slice wa (newDS n).pend.length wcap)) := hR2.kept hc3 (fun k h e => by omega)
  have hB3 : Below w.heap.size w w3 := (HB0.out.trans (hb02.mono (by omega))).trans (hc3.below (fun k e => by omega) (by omega))
  obtain ⟨c0, c1, c2, c3, c4, cf⟩ := cells5 n2
  have HN3 := Lib.hid n3
  have HD3 := Lib.hid hD3
  have HR3 := Lib.hid hR3
  have HB3 := Lib.hid hB3
  have hbn : w.heap.size + 1 ≤ w0.heap.size := by omega
  have HBN := Lib.hid hbn
  have HZ1 := Lib.hid hz1
  unfold put5 at hw3
  clear hw0 hD1 hs1 hb1 hO2 hR2 hb02 n2 n3 hc3 hz1 hz2 hz0 hD3 hR3 hB3 hbn hb2
  go_wp2_with fail
  clear hw3 c0 c1 c2 c3 c4 cf
  go_loopw [4, 9] (fun dp i wr => ∃ (k : Nat) (F G : Nat → Prop) (da wa : Option Addr) (dc wcap : Nat), k ≤ l.length ∧ dp = .pointer (some ⟨w0.heap.size + 1, 0, none⟩) ∧ i = .int .i64 (k : Int) ∧ wr.heap[w.heap.size]? = some (.cells #[.slice da (runDS n (l.take k)).dur.length dc, .slice wa (runDS n (l.take k)).pend.length wcap, .int .i64 (limI (runDS n (l.take k))), .bool (runDS n (l.take k)).down, .int .i64 ((runDS n (l.take k)).ops : Int)] 45 (0, 0)) ∧
      DiskAt wr F (w0.heap.size + 1) (runDS n (l.take k)) ∧ RefAt wr G (runDS n (l.take k)) (refV (runDS n (l.take k)) (.slice da (runDS n (l.take k)).dur.length dc) (.slice wa (runDS n (l.take k)).pend.length wcap)) ∧
      (∀ k, F k → ¬ G k) ∧ (∀ k, F k → w.heap.size < k) ∧ (∀ k, G k → w.heap.size < k) ∧ Below w.heap.size w wr)
    (fun _ i _ => l.length - (intOf i).toNat)
  case atStart => exact ⟨0, _, _, da, wa, dc, wcap, Nat.zero_le _, rfl, rfl, HN3.out, HD3.out, HR3.out, fun k h h' => by omega, fun k h => by have := HBN.out; omega, fun k h => by have := HBN.out; have := HZ1.out; omega, HB3.out⟩
  case round =>
    clear HN3 HD3 HR3 HB3
    obtain ⟨k, F, G, da, wa, dc, wcap, hk, rfl, rfl, hn, hD, hR, hFG, hF, hG, hB⟩ := hrel
    have HN := Lib.hid hn
    have HD := Lib.hid hD
    have HR := Lib.hid hR
    have HFG := Lib.hid hFG
    have HF := Lib.hid hF
    have HG := Lib.hid hG
    have HB := Lib.hid hB
    clear hn hD hR hFG hF hG hB
    by_cases hlt : k < l.length
    · obtain ⟨g, off, rfl, hCg, hgl, hat⟩ := HOPS0.out (by intro e; rw [e] at hlt; simp at hlt)
      obtain ⟨cv, hra, hby⟩ := hat k hlt
      obtain ⟨o, ho⟩ : ∃ o, l[k] = o := ⟨_, rfl⟩
      rw [ho] at hra hby
      have hra' : wr.rangeAt g (off + k * 6) [.int .i64 o.kind, .int .i64 o.s, .int .i64 o.a, .int .u8 (o.f.toNat : Int), .int .u8 (o.t.toNat : Int), cv] := fun j u hu => (HB.out.cell (p := ⟨g, off + k * 6 + j, none⟩) hgl).trans (hra j u hu)
      have hby' := hby.kept (F := C) (G := fun k => w.heap.size ≤ k) (w' := wr) ⟨HB.out.os, HB.out.tape, HB.out.output, HB.out.size, fun i hi hf => HB.out.block i (by omega)⟩ (fun k hc h => by have := HC.out k hc; omega)
      have HO := Lib.hid ho
      have HOPS := Lib.hid hra'
      have HBY := Lib.hid hby'
      have HGL := Lib.hid hgl
      clear hat hra hra' hby hby' ho hCg hgl
      go_wp2_with fail
      refine wp_region_noPanic ?_
      refine wp_region_G [10, 11] (fun w' => w'.heap[w.heap.size]? = some (.cells #[.slice da (runDS n (l.take k)).dur.length dc, .slice wa (runDS n (l.take k)).pend.length wcap, .int .i64 (limI (runDS n (l.take k))), .bool (runDS n (l.take k)).down, .int .i64 ((runDS n (l.take k)).ops : Int)] 45 (0, 0)) ∧ w'.rangeAt g (off + k * 6) [.int .i64 o.kind, .int .i64 o.s, .int .i64 o.a, .int .u8 (o.f.toNat : Int), .int .u8 (o.t.toNat : Int), cv]) (by kernel_rfl) ?_
      have hS0 : (fun w' => w'.heap[w.heap.size]? = some (.cells #[.slice da (runDS n (l.take k)).dur.length dc, .slice wa (runDS n (l.take k)).pend.length wcap, .int .i64 (limI (runDS n (l.take k))), .bool (runDS n (l.take k)).down, .int .i64 ((runDS n (l.take k)).ops : Int)] 45 (0, 0)) ∧ w'.rangeAt g (off + k * 6) [.int .i64 o.kind, .int .i64 o.s, .int .i64 o.a, .int .u8 (o.f.toNat : Int), .int .u8 (o.t.toNat : Int), cv]) wr.drew := ⟨HN.out, HOPS.out⟩
      refine wpAnyG_take (i := 0) (v := ?v1) rfl (by kernel_rfl) (by kernel_rfl) (by kernel_rfl) (by kernel_rfl) (fun _ _ _ h => h) (yieldsIf_run rfl (fun w' hw' => ?y1)) hS0 ?_
      case y1 => first | (go_simp; rfl) | (go_simp; done) | rfl
      simp only [Act.put, List.setIfInBounds_toArray, List.set_cons_zero, List.set_cons_succ]
      refine wpAnyG_take (i := 1) (v := ?v2) rfl (by kernel_rfl) (by kernel_rfl) (by kernel_rfl) (by kernel_rfl) (fun _ _ _ h => h) (yieldsIf_run rfl (fun w' hw' => ?y2)) hS0 ?_
      case y2 => (obtain ⟨g0, g1, g2, g3, g4, _⟩ := cells5 hw'.1; clear hw'; first | (go_simp; rfl) | (go_simp; done))
      simp only [Act.put, List.setIfInBounds_toArray, List.set_cons_zero, List.set_cons_succ]
      refine wpAnyG_take (i := 2) (v := ?v3) rfl (by kernel_rfl) (by kernel_rfl) (by kernel_rfl) (by kernel_rfl) (fun _ _ _ h => h) (yieldsIf_run rfl (fun w' hw' => ?y3)) hS0 ?_
      case y3 => first | (go_simp; rfl) | (go_simp; done) | rfl
      simp only [Act.put, List.setIfInBounds_toArray, List.set_cons_zero, List.set_cons_succ]
      refine wpAnyG_take (i := 3) (v := ?v4) rfl (by kernel_rfl) (by kernel_rfl) (by kernel_rfl) (by kernel_rfl) (fun _ _ _ h => h) (yieldsIf_run rfl (fun w' hw' => ?y4)) hS0 ?_
      case y4 => first | (go_simp; rfl) | (go_simp; done) | rfl
      simp only [Act.put, List.setIfInBounds_toArray, List.set_cons_zero, List.set_cons_succ]
      refine wpAnyG_take (i := 4) (v := ?v5) rfl (by kernel_rfl) (by kernel_rfl) (by kernel_rfl) (by kernel_rfl) (fun _ _ _ h => h) (yieldsIf_run rfl (fun w' hw' => ?y5)) hS0 ?_
      case y5 => first | (go_simp; rfl) | (go_simp; done) | rfl
      simp only [Act.put, List.setIfInBounds_toArray, List.set_cons_zero, List.set_cons_succ]
      refine wpAnyG_take (i := 5) (v := ?v6) rfl (by kernel_rfl) (by kernel_rfl) (by kernel_rfl) (by kernel_rfl) (fun _ _ _ h => h) (yieldsIf_run rfl (fun w' hw' => ?y6)) hS0 ?_
      case y6 => (obtain ⟨h0, h1, h2, h3, h4, h5⟩ := range6 hw'.2; clear hw'; first | (go_simp; rfl) | (go_simp; done))
      simp only [Act.put, List.setIfInBounds_toArray, List.set_cons_zero, List.set_cons_succ]
      refine wpAnyG_do (i := 6) (by kernel_rfl) rfl rfl (fun K hK => ?_)
      go_simp
      have hbd := runDS_bnd n l HA.out k hk
      refine (Do_any o (HD.out.chg (G := fun _ => False) ((Chg.refl _ wr).drew) (fun _ _ h => h)) (HR.out.kept (F := fun _ => False) ((Chg.refl _ wr).drew) (fun _ _ h => h)) (HBY.out.kept (G := fun _ => False) ((Chg.refl _ wr).drew) (fun _ _ h => h)) HFG.out (fun k h hc => by have := HF.out k h; have := HC.out k hc; omega) (by have := hbd.pend; omega) (by have := hbd.ops; omega) hbd.limit (HCL.out o (by rw [← HO.out]; exact List.getElem_mem _))).mono ?_
      rintro e w5 ⟨v5, F5, G5, rfl, hD5, hR5, hFG5, hF5, hG5, hC5⟩
      have hst := runDS_succ n l k hlt
      rw [HO.out] at hst
      rw [← hst] at hD5 hR5
      obtain ⟨da5, dc5, wa5, wc5, rfl⟩ := hR5.form
      have hC5' : Chg F wr w5 := ((Chg.refl F wr).drew).trans hC5 (fun _ h => .inl h)
      have n5 : w5.heap[w.heap.size]? = _ := (hC5'.block _ (Array.getElem?_eq_some_iff.1 HN.out).1 (fun h => by have := HF.out _ h; omega)).trans HN.out
      have r5 : w5.rangeAt g (off + k * 6) [.int .i64 o.kind, .int .i64 o.s, .int .i64 o.a, .int .u8 (o.f.toNat : Int), .int .u8 (o.t.toNat : Int), cv] := fun j u hu => hC5'.cell (p := ⟨g, off + k * 6 + j, none⟩) (fun h => by have h1 : w.heap.size < g := HF.out _ h; have := HGL.out; omega) (HOPS.out j u hu)
      have HN5 := Lib.hid n5
      have HR5' := Lib.hid r5
      have hlt5 : w.heap.size < w5.heap.size := Nat.lt_of_lt_of_le (Array.getElem?_eq_some_iff.1 HN.out).1 hC5'.size
      have hF5' : ∀ k, F5 k → w.heap.size < k := fun k h => (hF5 k h).elim (HF.out k) (fun h => Nat.lt_of_lt_of_le (Array.getElem?_eq_some_iff.1 HN.out).1 h)
      have hG5' : ∀ k, G5 k → w.heap.size < k := fun k h => (hG5 k h).elim (HG.out k) (fun h => Nat.lt_of_lt_of_le (Array.getElem?_eq_some_iff.1 HN.out).1 h)
      have hB5 : Below w.heap.size w w5 := HB.out.trans (hC5'.below (fun k h => Nat.le_of_lt (HF.out k h)) HB.out.size)
      obtain ⟨w6, hw6⟩ : ∃ w6, put5 w5 w.heap.size (.slice da5 (runDS n (l.take (k + 1))).dur.length dc5) (.slice wa5 (runDS n (l.take (k + 1))).pend.length wc5) (.int .i64 (limI (runDS n (l.take (k + 1))))) (.bool (runDS n (l.take (k + 1))).down) (.int .i64 ((runDS n (l.take (k + 1))).ops : Int)) = w6 := ⟨_, rfl⟩
      have n6 := put5_heap n5 (.slice da5 (runDS n (l.take (k + 1))).dur.length dc5) (.slice wa5 (runDS n (l.take (k + 1))).pend.length wc5) (.int .i64 (limI (runDS n (l.take (k + 1))))) (.bool (runDS n (l.take (k + 1))).down) (.int .i64 ((runDS n (l.take (k + 1))).ops : Int))
      have hc6 := put5_chg w5 w.heap.size (.slice da5 (runDS n (l.take (k + 1))).dur.length dc5) (.slice wa5 (runDS n (l.take (k + 1))).pend.length wc5) (.int .i64 (limI (runDS n (l.take (k + 1))))) (.bool (runDS n (l.take (k + 1))).down) (.int .i64 ((runDS n (l.take (k + 1))).ops : Int))
      rw [hw6] at n6 hc6
      have hD6 := hD5.chg hc6 (fun k h e => by have := hF5' k h; omega)
      have hR6 := hR5.kept hc6 (fun k h e => by have := hG5' k h; omega)
      have hB6 := hB5.trans (hc6.below (fun k e => by omega) hB5.size)
      have HN6 := Lib.hid n6
      have HD6 := Lib.hid hD6
      have HR6 := Lib.hid hR6
      have HB6 := Lib.hid hB6
      have HFG6 := Lib.hid hFG5
      have HF6 := Lib.hid hF5'
      have HG6 := Lib.hid hG5'
      obtain ⟨c0, c1, c2, c3, c4, cf⟩ := cells5 n5
      unfold put5 at hw6
      unfold refV
      clear hD5 hR5 hFG5 hF5 hG5 hC5 hC5' n5 r5 hlt5 hF5' hG5' hB5 n6 hc6 hD6 hR6 hB6 hst hbd
      refine hK _ _ ⟨HN5.out, HR5'.out⟩ ?_
      clear hK K
      try simp only [Act.put, List.setIfInBounds_toArray, List.set_cons_zero, List.set_cons_succ]
      refine wpAnyG_take (i := 7) (v := ?v7) rfl (by kernel_rfl) (by kernel_rfl) (by kernel_rfl) (by kernel_rfl) (fun _ _ _ h => h) (yieldsIf_run rfl (fun w' hw' => ?y7)) ⟨HN5.out, HR5'.out⟩ ?_
      case y7 => first | (go_simp; rfl) | (go_simp; done) | rfl
      simp only [Act.put, List.setIfInBounds_toArray, List.set_cons_zero, List.set_cons_succ]
      refine wpAnyG_take (i := 8) (v := ?v8) rfl (by kernel_rfl) (by kernel_rfl) (by kernel_rfl) (by kernel_rfl) (fun _ _ _ h => h) (yieldsIf_run rfl (fun w' hw' => ?y8)) ⟨HN5.out, HR5'.out⟩ ?_
      case y8 => first | (go_simp; rfl) | (go_simp; done) | rfl
      simp only [Act.put, List.setIfInBounds_toArray, List.set_cons_zero, List.set_cons_succ]
      refine wpAnyG_pure (i := 9) (v := ?v9) rfl (by kernel_rfl) (by kernel_rfl) (by kernel_rfl) (by kernel_rfl) (fun _ _ _ h => h) (yieldsIf_run rfl (fun w' hw' => ?y9)) (fun _ => ⟨HN5.out, HR5'.out⟩) ?_
      case y9 => first | (go_simp; rfl) | (go_simp; done) | rfl
      simp only [Act.put, List.setIfInBounds_toArray, List.set_cons_zero, List.set_cons_succ]
      refine wpAnyG_fin (i := 10) (by kernel_rfl) rfl rfl (by kernel_rfl) (fun K hK => ?_)
      go_simp
      refine hK _ _ ?_
      clear hK K
      try simp only [Act.put, List.setIfInBounds_toArray, List.set_cons_zero, List.set_cons_succ]
      refine wpAnyG_fin (i := 11) (by kernel_rfl) rfl rfl (by kernel_rfl) (fun K hK => ?_)
      go_simp
      refine hK _ _ ?_
      clear hK K
      try simp only [Act.put, List.setIfInBounds_toArray, List.set_cons_zero, List.set_cons_succ]
      refine wpAnyG_done (by kernel_rfl) ?_ _
      refine NoPanic.normal ?_
      clear hw6 c0 c1 c2 c3 c4 cf hS0
      go_wp2_with fail
      go_roundw
      case rel => exact ⟨k + 1, F5, G5, da5, wa5, dc5, wc5, by omega, rfl, by go_num, HN6.out, HD6.out, HR6.out, HFG6.out, HF6.out, HG6.out, HB6.out⟩
      case measure => simp [intOf]; omega
    · obtain rfl : k = l.length := by omega
      have hN := HN.out
      have hD := HD.out
      have hR := HR.out
      rw [List.take_length] at hN hD hR
      obtain ⟨c0, c1, c2, c3, c4, cf⟩ := cells5 hN
      obtain ⟨wf, hwf⟩ : ∃ wf, (put5 wr w.heap.size (.slice da (runDS n l).dur.length dc) (.slice wa (runDS n l).pend.length wcap) (.int .i64 (limI (runDS n l))) (.bool (runDS n l).down) (.int .i64 ((runDS n l).ops : Int))).drew = wf := ⟨_, rfl⟩
      have n6 := put5_heap hN (.slice da (runDS n l).dur.length dc) (.slice wa (runDS n l).pend.length wcap) (.int .i64 (limI (runDS n l))) (.bool (runDS n l).down) (.int .i64 ((runDS n l).ops : Int))
      have hc6 := (put5_chg wr w.heap.size (.slice da (runDS n l).dur.length dc) (.slice wa (runDS n l).pend.length wcap) (.int .i64 (limI (runDS n l))) (.bool (runDS n l).down) (.int .i64 ((runDS n l).ops : Int))).drew
      rw [hwf] at hc6
      have n6' : wf.heap[w.heap.size]? = _ := (by rw [← hwf]; rfl : wf.heap[w.heap.size]? = (put5 wr w.heap.size (.slice da (runDS n l).dur.length dc) (.slice wa (runDS n l).pend.length wcap) (.int .i64 (limI (runDS n l))) (.bool (runDS n l).down) (.int .i64 ((runDS n l).ops : Int))).heap[w.heap.size]?).trans n6
      have hD6 := hD.chg hc6 (fun k h e => by have := HF.out k h; omega)
      have hR6 := hR.kept hc6 (fun k h e => by have := HG.out k h; omega)
      have hB6 := HB.out.trans (hc6.below (fun k e => by omega) HB.out.size)
      have HN6 := Lib.hid n6'
      have HD6 := Lib.hid hD6
      have HR6 := Lib.hid hR6
      have HB6 := Lib.hid hB6
      have HWF := Lib.hid hwf
      clear hwf n6 hc6 n6' hD6 hR6 hB6 hN hD hR
      go_wp2_with fail
      go_region
      have hwf := HWF.out
      unfold put5 at hwf
      rw [hwf]
      clear hwf c0 c1 c2 c3 c4 cf
      go_wp2_with fail
      exact bodyPost_ret (results_tct (g := w.heap.size) rfl _ _ _ _ _ rfl HN6.out Try.underlying45 rfl infoD) rfl ⟨_, _, F, G, rfl, HD6.out, HR6.out, HFG.out, fun k h => Nat.le_of_lt (HF.out k h), fun k h => Nat.le_of_lt (HG.out k h), HB6.out⟩

end Go.Proofs.Ytkklbmnbjmicnaa
