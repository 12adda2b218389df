/- (*Disk).Read, (*Disk).Write. -/
import Derived.Test.YtkklbmnbjmicnaaDisk3
import Derived.Test.YtkklbmnbjmicnaaRegion
import Derived.Deep.RegionHeld3
import Derived.Deep.AppendLies
import Derived.Great.FillDense
import Derived.Great.BuildSlice
namespace Go.Proofs.Ytkklbmnbjmicnaa
open Go.RowKit
set_option linter.unusedVariables false
set_option linter.unusedSimpArgs false

def DS.readE (S : DS) (s : Int) : Int := if S.down then 28 else if S.has s then 0 else 8
def DS.readB (S : DS) (s : Int) : List UInt8 := if S.down then [] else if S.has s then S.visible s.toNat else []

set_option maxHeartbeats 1000000 in
theorem Read_any {w : World} {F : Nat → Prop} {b : Nat} {S : DS} (s : Int) (h : DiskAt w F b S) (hlen : S.pend.length < 1000000000000) :
    Calls Try.prog 18 #[.pointer (some ⟨b, 0, none⟩), .int .i64 s] w fun e w' => ∃ v, e = .returned (.tuple #[v, .int .i64 (S.readE s)]) ∧
      (if S.readB s = [] then v = .slice none 0 0 else OwnBytes w' (fun k => w.heap.size ≤ k) v (S.readB s)) ∧ Below w.heap.size w w' := by
  have h0 := h
  obtain ⟨hok, m, pv, hx⟩ := h
  obtain ⟨c0, c1, c2, c3, c4, c5, c6, f⟩ := hx.cells
  have HH := Lib.hid h0
  have HOK := Lib.hid hok
  clear hx h0 hok
  cases hd : S.down with
  | true =>
    have e1 : S.readE s = 28 := by simp [DS.readE, hd]
    have e2 : S.readB s = [] := by simp [DS.readB, hd]
    rw [hd] at c6
    simp only [e1, e2, if_true]
    clear hd e1 e2
    go_enter Try.func18, Try.ntmps18
    go_wp2
    go_ret2
    exact ⟨_, rfl, rfl, Below.refl _ _⟩
  | false =>
    rw [hd] at c6
    cases hh : S.has s with
    | false =>
      have e1 : S.readE s = 8 := by simp [DS.readE, hd, hh]
      have e2 : S.readB s = [] := by simp [DS.readB, hd, hh]
      simp only [e1, e2, if_true]
      clear hd e1 e2
      go_enter Try.func18, Try.ntmps18
      go_wp2_with (go_at_call 38; refine (has_any s HH.out).mono ?_; rintro e w' ⟨rfl, rfl⟩)
      go_ret2
      exact ⟨_, rfl, rfl, Below.refl _ _⟩
    | true =>
      have hh' : 0 ≤ s ∧ s < (S.dur.length : Int) := by simpa [DS.has] using hh
      obtain ⟨k, rfl⟩ := Int.eq_ofNat_of_zero_le hh'.1
      have hk : k < S.dur.length := by omega
      have hv := visible_length HOK.out hk
      have e1 : S.readE k = 0 := by simp [DS.readE, hd, hh]
      have e2 : S.readB k = S.visible k := by simp [DS.readB, hd, hh]
      obtain ⟨V, hV⟩ : ∃ V, V = S.visible k := ⟨_, rfl⟩
      rw [← hV] at hv e2
      have hne : ¬ V = [] := by intro e; rw [e] at hv; simp at hv
      simp only [e1, e2, if_neg hne]
      have EV := Lib.hid hV
      have E256 := Lib.hid hv
      clear hd e1 e2 hne hh' hV hv
      go_enter Try.func18, Try.ntmps18
      go_wp2_with (first | (go_at_call 38; refine (has_any (k : Int) HH.out).mono ?_; rintro e w' ⟨rfl, rfl⟩) | fail)
      refine (visible_any k HH.out hk hlen).mono ?_
      rintro e w1 ⟨rfl, hb⟩
      rw [← EV.out]
      have hn := heap_alloc_new w1 (.cells Try.zeroCells80 80)
      go_wp2_with (first | (with_reducible refine wpList_store_row rfl 80 _ _ rfl w1.heap.size (bvs V).toArray rfl rfl 80 Try.zeroCells80 hn (sizeContents E256.out) (by rw [zc80]; simp [E256.out, zeros_length]) (oneCell_bvs _) ?_))
      go_ret2
      rw [World.setRow_alloc_new]
      refine ⟨_, rfl, ⟨w1.heap.size, _, ?_, hb.size, heap_alloc_new _ _⟩, hb.alloc hb.size _⟩
      rw [E256.out]
      rfl

/-! ### Write -/
theorem built_write (parts : List (Nat × Value)) : Try.prog.built 82 parts = Instr.fill (fun i => (#[(0, 1), (1, 256)] : Array (Nat × Nat))[i]?) (wcells (0, zeros)).toArray parts := by kernel_rfl

theorem fill_write (Z : Array Value) (hz : Z.size = 257) (s : Nat) (l : List UInt8) (hl : l.length = 256) :
    Instr.fill (fun i => (#[(0, 1), (1, 256)] : Array (Nat × Nat))[i]?) Z [(0, .int .i64 (s : Int)), (1, cval l)] = some (wcells (s, l)).toArray := by
  obtain ⟨c1, hc1⟩ : ∃ c1, (Value.int .i64 (s : Int)).cells.zipIdx.foldl (fun cs (x : Value × Nat) => cs.setIfInBounds (0 + x.2) x.1) Z = c1 := ⟨_, rfl⟩
  have h1 : c1 = Z.setIfInBounds 0 (.int .i64 (s : Int)) := by rw [← hc1]; simp [Value.cells]
  have h1s : c1.size = 257 := by rw [h1]; simp [hz]
  obtain ⟨c2, hc2⟩ : ∃ c2, (cval l).cells.zipIdx.foldl (fun cs (x : Value × Nat) => cs.setIfInBounds (1 + x.2) x.1) c1 = c2 := ⟨_, rfl⟩
  have h2 := Great.foldl_set 1 (bvs l) 0 c1
  have hc2' : ((bvs l).zipIdx 0).foldl (fun cs (x : Value × Nat) => cs.setIfInBounds (1 + x.2) x.1) c1 = c2 := by
    rw [← hc2, ← Array.foldl_toList]
    simp [cval, Value.cells, Array.toList_zipIdx]
  rw [hc2', h1s] at h2
  have e : Instr.fill (fun i => (#[(0, 1), (1, 256)] : Array (Nat × Nat))[i]?) Z [(0, .int .i64 (s : Int)), (1, cval l)] = some c2 := by
    have hs1 : (Value.int .i64 (s : Int)).cells.size = 1 := rfl
    have hs2 : (cval l).cells.size = 256 := by simp [cval, Value.cells, hl]
    have g0 : (#[(0, 1), (1, 256)] : Array (Nat × Nat))[0]? = some (0, 1) := rfl
    have g1 : (#[(0, 1), (1, 256)] : Array (Nat × Nat))[1]? = some (1, 256) := rfl
    unfold Instr.fill
    simp only [g0, hs1, hz, hc1]
    rw [if_neg (by simp)]
    unfold Instr.fill
    simp only [g1, hs2, h1s, hc2]
    rw [if_neg (by simp)]
    rfl
  rw [e]
  congr 1
  apply Array.ext_getElem?
  intro k
  rw [h2.2 k]
  simp only [bvs_length, hl]
  cases k with
  | zero => rw [if_neg (by omega), h1]; simp [wcells, hz]
  | succ k =>
    by_cases hk : k < 256
    · rw [if_pos (by omega)]
      simp [wcells]
    · rw [if_neg (by omega)]
      rw [Array.getElem?_eq_none (by omega), Array.getElem?_eq_none (by simp [wcells, hl]; omega)]

theorem fold_write (s : Nat) (l : List UInt8) (hl : l.length = 256) :
    List.foldl (fun cs (x : Value × Nat) => cs.setIfInBounds (1 + x.2) x.1) (Try.zeroCells82.setIfInBounds 0 (.int .i64 (s : Int))) (bvs l).zipIdx = (wcells (s, l)).toArray := by
  have hz : Try.zeroCells82.size = 257 := by rw [zc82, List.size_toArray]; exact wcells_length zeros_length
  have h2 := Great.foldl_set 1 (bvs l) 0 (Try.zeroCells82.setIfInBounds 0 (.int .i64 (s : Int)))
  generalize Try.zeroCells82 = Z at hz h2 ⊢
  rw [Array.size_setIfInBounds, hz] at h2
  apply Array.ext_getElem?
  intro k
  rw [h2.2 k]
  simp only [bvs_length, hl]
  cases k with
  | zero => rw [if_neg (by omega)]; simp [wcells, hz]
  | succ k =>
    by_cases hk : k < 256
    · rw [if_pos (by omega)]
      simp [wcells]
    · rw [if_neg (by omega)]
      rw [Array.getElem?_eq_none (by rw [Array.size_setIfInBounds]; omega), Array.getElem?_eq_none (by simp [wcells, hl]; omega)]

theorem run_build_write (s : Nat) (l : List UInt8) (hl : l.length = 256) (w : World) :
    (Instr.build 82 #[(0, .int .i64 (s : Int)), (1, cval l)]).run Try.prog w = .ok (.agg (wcells (s, l)).toArray) w :=
  run_build w _ _ _ (by rw [built_write]; exact fill_write _ (by rw [List.size_toArray]; exact wcells_length zeros_length) s l hl)

theorem infoWriteB : (Try.prog.info? 82).map (fun i => (i.zero, i.size, i.bytes)) = some (some (.agg (wcells (0, zeros)).toArray), 257, 264) := by kernel_rfl

theorem run_slice_one {i0 : TypeInfo} (Z : Array Value) (hZ : Try.prog.info? 82 = some i0) (hz0 : i0.zero = some (.agg Z)) (hz1 : i0.size = 257) (c : Array Value) (hc : c.size = 257) (w : World) :
    (Instr.buildSlice 76 1 #[(0, .agg c)]).run Try.prog w = .ok (.slice (some ⟨w.heap.size, 0, none⟩) 1 1) (w.alloc (.cells c 82)) := by
  have hf := Great.fill_whole (s := 257) (by decide) [.agg c] ((Array.range (1 * i0.size)).map (Z[· % Z.size]!)) (by
      intro v hv
      simp only [List.mem_singleton] at hv
      subst hv
      simp [Value.cells, hc]) (by simp [hz1])
  refine Go.run_buildSlice w _ 82 1 _ _ i0 _ Try.underlying76 hZ hz0 (by rw [hz1]; decide) (by rw [hz1]; decide) ?_
  rw [hz1] at hf ⊢
  simpa [Value.cells] using hf

theorem run_slice_write (x : Nat × List UInt8) (hx : x.2.length = 256) (w : World) :
    (Instr.buildSlice 76 1 #[(0, .agg (wcells x).toArray)]).run Try.prog w = .ok (.slice (some ⟨w.heap.size, 0, none⟩) 1 1) (w.alloc (.cells (wcells x).toArray 82)) := by
  obtain ⟨i0, hi, hz0, hz1, hz2⟩ := info_parts infoWriteB
  exact run_slice_one _ hi hz0 hz1 _ (by rw [List.size_toArray]; exact wcells_length hx) w

theorem run_arrayAt (a : Option Addr) (n cap : Nat) (hn : n = 256) (w : World) : (Instr.arrayAt 80 (.slice a n cap)).run Try.prog w = .ok (.pointer a) w := by
  subst hn
  simp [Instr.arrayAt, run_underlying Try.underlying80]

theorem run_load_op {P : Program} {w : World} {ρ : Operand → Value} {o : Oper} (ty : TypeId) (x : Operand) (b off : Nat) (cs : List Value) (d : TypeDesc) (ho : o.op = .load ty x) (hx : ρ x = .pointer (some ⟨b, off, none⟩)) (hc : w.rangeAt b off cs)
    (hu : P.underlying ty = some d) (hd : d.isRow = true) (hi : (P.info? ty).map (·.size) = some cs.length) : (execOp ρ o).run P w = .ok (.value (.agg cs.toArray)) w := by
  unfold execOp
  simp only [ho, hx, Instr.loadAt, Instr.sureAddr, Sem.run_bind, Sem.run_pure, Result.andThen_ok, run_loadVar_mid w b off ty cs d hc hu hd hi]

def DS.write (S : DS) (s : Int) (l : List UInt8) : DS × Int :=
  if S.down then (S, 28) else if S.has s then (if l.length = 256 then (if S.operate.2 then ({ S.operate.1 with pend := S.operate.1.pend ++ [(s.toNat, l)] }, 0) else (S.operate.1, 28)) else (S, 2)) else (S, 8)

theorem operate_pend (S : DS) : S.operate.1.pend = S.pend ∧ S.operate.1.dur = S.dur := by
  unfold DS.operate
  cases S.limit with
  | none => exact ⟨rfl, rfl⟩
  | some k => cases k <;> exact ⟨rfl, rfl⟩

theorem prow_append (l : List (Nat × List UInt8)) (x : Nat × List UInt8) : prow (l ++ [x]) = prow l ++ wcells x := by simp [prow]

theorem run_slice_op (ρ : Operand → Value) (y : Operand) (dst : Option Tmp) (ty : TypeId) (pos : String) (after : Array Edge) (guard : Option (Nat × Bool)) (w : World) (h : ρ y = .agg (ρ y).cells) (hc : (ρ y).cells.size = 257) :
    (execOp ρ { dst, op := .buildSlice 76 1 #[(0, y)], type := ty, pos, after, guard }).run Try.prog w = .ok (.value (.slice (some ⟨w.heap.size, 0, none⟩) 1 1)) (w.alloc (.cells (ρ y).cells 82)) := by
  obtain ⟨i0, hi, hz0, hz1, hz2⟩ := info_parts infoWriteB
  have := run_slice_one _ hi hz0 hz1 (ρ y).cells hc w
  rw [← h] at this
  unfold execOp
  simp only [List.map_toArray, List.map_cons, List.map_nil, Sem.run_bind, this, Result.andThen_ok]
  rfl
theorem agg_cells (c : Array Value) : (Value.agg c).cells = c := rfl
theorem wp_slice_op (y : Operand) (dst : Option Tmp) (ty : TypeId) (pos : String) (after : Array Edge) (guard : Option (Nat × Bool)) (a : Act) (w : World) (K : Act → World → Prop) (Q : Exit → Act → World → Prop)
    (h : a.eval y = .agg (a.eval y).cells) (hc : (a.eval y).cells.size = 257) :
    Oper.wp Try.prog { dst, op := .buildSlice 76 1 #[(0, y)], type := ty, pos, after, guard } a w K Q = K (a.put dst (.slice (some ⟨w.heap.size, 0, none⟩) 1 1)) (w.alloc (.cells (a.eval y).cells 82)) := by
  unfold Oper.wp
  rw [run_slice_op a.eval y dst ty pos after guard w h hc]
  rfl
theorem wp_slice_c (c : Array Value) {y : Operand} {dst : Option Tmp} {ty : TypeId} {pos : String} {after : Array Edge} {guard : Option (Nat × Bool)} {a : Act} {w : World} {K : Act → World → Prop} {Q : Exit → Act → World → Prop}
    (h : a.eval y = .agg c) (hc : c.size = 257) (hK : K (a.put dst (.slice (some ⟨w.heap.size, 0, none⟩) 1 1)) (w.alloc (.cells c 82))) :
    Oper.wp Try.prog { dst, op := .buildSlice 76 1 #[(0, y)], type := ty, pos, after, guard } a w K Q := by
  rw [wp_slice_op _ _ _ _ _ _ _ _ _ _ (by rw [h]; rfl) (by rw [h]; exact hc), h]
  exact hK

theorem grownBy_of_drew {w w' : World} {row : Option Nat} (h : w.drew.grownBy w' row) : w.grownBy w' row := ⟨h.os, h.tape, h.output, h.size, h.block⟩

theorem operate_ok {S : DS} (h : S.ok) : S.operate.1.ok := by
  have := operate_pend S
  exact ⟨by rw [this.2]; exact h.dur, by rw [this.1, this.2]; exact h.pend, by rw [this.2]; exact h.most⟩

/-- Behind an append to the pending writes and the store of the new slice. -/
theorem DiskX.pushed {w1 w2 : World} {F : Nat → Prop} {b m : Nat} {pv : Value} {S : DS} (h : DiskX w1 F b m pv S) {g n cap B : Nat} {s : Nat} {l : List UInt8} (hn : n = S.pend.length + 1)
    (hown : w2.ownsRow 0 82 257 (.slice (some ⟨g, 0, none⟩) n cap) n (prow S.pend ++ wcells (s, l))) (hg : w1.grownBy w2 pv.ownBlock)
    (hat : pv.ownBlock = some g ∨ g = w1.heap.size + 1) (hB : B ≤ w1.heap.size) :
    DiskX (w2.setCell ⟨b, 2, none⟩ (.slice (some ⟨g, 0, none⟩) n cap)) (fun k => F k ∨ B ≤ k) b m (.slice (some ⟨g, 0, none⟩) n cap) { S with pend := S.pend ++ [(s, l)] } := by
  have hbl := h.lt
  have hgb : g ≠ b := by
    rcases hat with h1 | h1
    · intro e; exact h.pb (by rw [h1, e])
    · omega
  have hb2 : w2.heap[b]? = w1.heap[b]? := hg.block b hbl (Ne.symm h.pb)
  have hm2 : w2.heap[m]? = w1.heap[m]? := hg.block m h.hm.lt (Ne.symm h.pm)
  have hs := grownBy_setCell w2 b 2 (.slice (some ⟨g, 0, none⟩) n cap)
  refine ⟨.inl h.fb, .inl h.fm, ?_, ?_, ?_, ?_⟩
  · intro k hk
    simp only [Value.ownBlock, Option.some.injEq] at hk
    subst hk
    rcases hat with h1 | h1
    · exact .inl (h.fp g h1)
    · exact .inr (by omega)
  · rw [heap_set7 2 _ (hb2.trans h.hb)]; simp [dcells]
  · exact h.hm.kept ((hs.block m (Nat.lt_of_lt_of_le h.hm.lt hg.size) (by simp [h.mb])).trans hm2)
  · have e1 : (S.pend ++ [(s, l)]).length = n := by simp [hn]
    have e2 : prow (S.pend ++ [(s, l)]) = prow S.pend ++ wcells (s, l) := prow_append _ _
    show World.ownsRow _ 0 82 257 _ (S.pend ++ [(s, l)]).length (prow (S.pend ++ [(s, l)]))
    rw [e1, e2]
    exact hown.kept hs (.inr (by simpa [Value.ownBlock] using hgb))

set_option maxRecDepth 100000 in
set_option maxHeartbeats 2000000 in
theorem Write_good {w : World} {F G : Nat → Prop} {b : Nat} {S : DS} (s : Nat) (v : Value) (l : List UInt8) (h : DiskAt w F b S) (hv : BytesAt w G v l) (hFG : ∀ k, F k → ¬ G k)
    (hd : S.down = false) (hs : s < S.dur.length) (hl : l.length = 256) (hop : S.operate.2 = true)
    (hlen : S.pend.length < 100000000000) (hops : S.ops < 1000000000000) (hlim : S.limit.getD 0 ≤ 9223372036854775807) :
    Calls Try.prog 21 #[.pointer (some ⟨b, 0, none⟩), .int .i64 (s : Int), v] w fun e w' => e = .returned (.int .i64 0) ∧
      DiskAt w' (fun k => F k ∨ w.heap.size ≤ k) b { S.operate.1 with pend := S.operate.1.pend ++ [(s, l)] } ∧ Chg F w w' := by
  have h0 := h
  obtain ⟨hok, m, pv, hx⟩ := h
  obtain ⟨c0, c1, c2, c3, c4, c5, c6, f⟩ := hx.cells
  rw [hd] at c6
  obtain ⟨a, cap, rfl, hcap, hr⟩ := hv
  obtain ⟨gb, ob, rfl, hGb, hgb, hr⟩ := hr (by intro e; rw [e] at hl; simp at hl)
  have HH := Lib.hid h0
  have HOK := Lib.hid hok
  have hhas : S.has s = true := by simp [DS.has]; omega
  clear hx h0 hok
  rw [hl]
  have hne : ((256 : Nat) : Int) = 256 := rfl
  clear hd
  go_enter Try.func21, Try.ntmps21
  go_wp2_with (first | (go_at_call 38; refine (has_any (s : Int) HH.out).mono ?_; rintro e w' ⟨rfl, rfl⟩) | fail)
  refine (operate_any HH.out hops hlim).mono ?_
  rintro e w1 ⟨rfl, hD1, hC1⟩
  rw [hop]
  obtain ⟨hok1, m1, pv1, hx1⟩ := hD1
  have d2 := hx1.cells.2.2.1
  have df := hx1.cells.2.2.2.2.2.2.2 2
  have hr1 : w1.rangeAt gb ob (bvs l) := fun j u hu => hC1.cell (p := ⟨gb, ob + j, none⟩) (fun hf => hFG gb hf hGb) (hr j u hu)
  have hgb1 : gb < w1.heap.size := Nat.lt_of_lt_of_le hgb hC1.size
  have hsz := sizeContents hl
  rw [List.size_toArray] at hsz
  have hfo := fold_write s l hl
  have hwl : (wcells (s, l)).length = 257 := wcells_length hl
  have hap := fun W => run_arrayAt (some ⟨gb, ob, none⟩) 256 cap rfl W
  have hu80 := Try.underlying80
  have hoc : ∀ v ∈ bvs l, v.oneCell' = true := bvs_oneCell
  obtain ⟨i0, hi0, hz0, hz1, hz2⟩ := info_parts infoWriteB
  have hbl1 := hx1.lt
  have hown := hx1.hp
  have hpb := hx1.pb
  have hpg : pv1.ownBlock ≠ some gb := fun e => hFG gb (hx1.fp gb e) hGb
  rw [(operate_pend S).1] at hown
  have HX1 := Lib.hid hx1
  have HOK1 := Lib.hid hok1
  have HO := Lib.hid hown
  have HR := Lib.hid hr
  clear hx1 hok1 hr c0 c1 c2 c3 c4 c5 c6 f hown
  go_wp2_with fail
  refine wp_region_noPanic ?_
  refine wp_region_F 14 (fun w' => w'.cell? ⟨b, 2, none⟩ = some pv1 ∧ w'.rangeAt gb ob (bvs l)) (by kernel_rfl) ?_
  have hS0 : (fun w' : World => w'.cell? ⟨b, 2, none⟩ = some pv1 ∧ w'.rangeAt gb ob (bvs l)) w1.drew := ⟨d2, hr1⟩
  refine wpAnyF_take (i := 0) (fin := 14) (v := .pointer (some ⟨b, 0, none⟩)) rfl (by kernel_rfl) (by kernel_rfl) (by kernel_rfl) (by kernel_rfl) (fun _ _ _ h => h) (yieldsIf_run rfl (fun w' hw' => ?_)) hS0 ?_
  · rfl
  simp only [Act.put, List.setIfInBounds_toArray, List.set_cons_zero, List.set_cons_succ]
  refine wpAnyF_take (i := 1) (fin := 14) (v := .pointer (some ⟨b, 0, none⟩)) rfl (by kernel_rfl) (by kernel_rfl) (by kernel_rfl) (by kernel_rfl) (fun _ _ _ h => h) (yieldsIf_run rfl (fun w' hw' => ?_)) hS0 ?_
  · rfl
  simp only [Act.put, List.setIfInBounds_toArray, List.set_cons_zero, List.set_cons_succ]
  refine wpAnyF_take (i := 2) (fin := 14) (v := .pointer (some ⟨b, 0, none⟩)) rfl (by kernel_rfl) (by kernel_rfl) (by kernel_rfl) (by kernel_rfl) (fun _ _ _ h => h) (yieldsIf_run rfl (fun w' hw' => ?_)) hS0 ?_
  · go_simp
  simp only [Act.put, List.setIfInBounds_toArray, List.set_cons_zero, List.set_cons_succ]
  refine wpAnyF_take (i := 3) (fin := 14) (v := .pointer (some ⟨b, 2, none⟩)) rfl (by kernel_rfl) (by kernel_rfl) (by kernel_rfl) (by kernel_rfl) (fun _ _ _ h => h) (yieldsIf_run rfl (fun w' hw' => ?_)) hS0 ?_
  · go_simp
  simp only [Act.put, List.setIfInBounds_toArray, List.set_cons_zero, List.set_cons_succ]
  refine wpAnyF_take (i := 4) (fin := 14) (v := pv1) rfl (by kernel_rfl) (by kernel_rfl) (by kernel_rfl) (by kernel_rfl) (fun _ _ _ h => h) (yieldsIf_run rfl (fun w' hw' => ?_)) hS0 ?_
  · (have h4 := hw'.1; clear hw'; go_simp)
  simp only [Act.put, List.setIfInBounds_toArray, List.set_cons_zero, List.set_cons_succ]
  refine wpAnyF_take (i := 5) (fin := 14) (v := .int .i64 (s : Int)) rfl (by kernel_rfl) (by kernel_rfl) (by kernel_rfl) (by kernel_rfl) (fun _ _ _ h => h) (yieldsIf_run rfl (fun w' hw' => ?_)) hS0 ?_
  · rfl
  simp only [Act.put, List.setIfInBounds_toArray, List.set_cons_zero, List.set_cons_succ]
  refine wpAnyF_take (i := 6) (fin := 14) (v := .slice (some ⟨gb, ob, none⟩) 256 cap) rfl (by kernel_rfl) (by kernel_rfl) (by kernel_rfl) (by kernel_rfl) (fun _ _ _ h => h) (yieldsIf_run rfl (fun w' hw' => ?_)) hS0 ?_
  · rfl
  simp only [Act.put, List.setIfInBounds_toArray, List.set_cons_zero, List.set_cons_succ]
  refine wpAnyF_take (i := 7) (fin := 14) (v := .pointer (some ⟨gb, ob, none⟩)) rfl (by kernel_rfl) (by kernel_rfl) (by kernel_rfl) (by kernel_rfl) (fun _ _ _ h => h) (yieldsIf_run rfl (fun w' hw' => ?_)) hS0 ?_
  · go_simp
  simp only [Act.put, List.setIfInBounds_toArray, List.set_cons_zero, List.set_cons_succ]
  refine wpAnyF_take (i := 8) (fin := 14) (v := .agg (bvs l).toArray) rfl (by kernel_rfl) (by kernel_rfl) (by kernel_rfl) (by kernel_rfl) (fun _ _ _ h => h) (yieldsIf_run rfl (fun w' hw' => ?_)) hS0 ?_
  · exact run_load_op 80 (.tmp 35) gb ob (bvs l) _ rfl rfl hw'.2 hu80 rfl hsz
  simp only [Act.put, List.setIfInBounds_toArray, List.set_cons_zero, List.set_cons_succ]
  refine wpAnyF_take (i := 9) (fin := 14) (v := .agg (wcells (s, l)).toArray) rfl (by kernel_rfl) (by kernel_rfl) (by kernel_rfl) (by kernel_rfl) (fun _ _ _ h => h) (yieldsIf_run rfl (fun w' hw' => ?_)) hS0 ?_
  · go_simp
  simp only [Act.put, List.setIfInBounds_toArray, List.set_cons_zero, List.set_cons_succ]
  refine wpAnyF_do (i := 10) (by kernel_rfl) rfl rfl (fun K hK => ?_)
  refine wp_slice_c (wcells (s, l)).toArray rfl (by rw [List.size_toArray]; exact hwl) ?_
  refine hK _ _ (fun _ => ⟨(World.cell?_of_block (w := w1) (Below.heap_alloc w1 _ b hbl1)).trans d2, fun j u hu => (World.cell?_of_block (w := w1) (Below.heap_alloc w1 _ gb hgb1)).trans (hr1 j u hu)⟩) ?_
  clear hK K
  simp only [Act.put, List.setIfInBounds_toArray, List.set_cons_zero, List.set_cons_succ]
  refine wpAnyF_do (i := 11) (by kernel_rfl) rfl rfl (fun K hK => ?_)
  refine wp_append_lies _ (.tmp 32) (.tmp 38) 76 rfl 0 82 i0 _ 257 264 Try.underlying76 hi0 hz0 hz1 hz2 (by rw [agg_cells, List.size_toArray]; exact wcells_length zeros_length) (by decide) pv1 S.pend.length (prow S.pend) rfl ((HO.out.drew).alloc _)
    ⟨w1.drew.heap.size, 0, none⟩ 1 1 (wcells (s, l)) rfl (by rw [hwl]) (World.news_of_block (cs := (wcells (s, l)).toArray) (t := 82) (fr := (0, 0)) (heap_alloc_new w1.drew _)) (fun u hu => (Array.all_eq_true_iff_forall_mem.1 (oneCell_wcells (s, l))) u (by simpa using hu))
    (by decide) (by unfold maxLen; omega) (by omega) (Nat.zero_le _) (w1.heap.size + 1) (by rw [World.size_alloc]; rfl) (fun gg cap2 w2 hown2 hgrow hat hlt => ?_)
  have hg0 : w1.grownBy w2 pv1.ownBlock := grownBy_of_drew ((World.grownBy_alloc w1.drew _ _).trans hgrow)
  have hb2 : w2.heap[b]? = w1.heap[b]? := hg0.block b hbl1 (Ne.symm hpb)
  have hb3 : w2.heap[gb]? = w1.heap[gb]? := hg0.block gb hgb1 (Ne.symm hpg)
  refine hK _ _ (fun _ => ⟨(World.cell?_of_block (w := w1) hb2).trans d2, fun j u hu => (World.cell?_of_block (w := w1) hb3).trans (hr1 j u hu)⟩) ?_
  clear hK K
  have e2 : w2.cell? ⟨b, 2, none⟩ = some pv1 := (World.cell?_of_block (w := w1) hb2).trans d2
  have ef : w2.frozen? ⟨b, 2, none⟩ = false := (World.frozen?_of_block (w := w1) hb2).trans df
  have er : w2.rangeAt gb ob (bvs l) := fun j u hu => (World.cell?_of_block (w := w1) hb3).trans (hr1 j u hu)
  simp only [Act.put, List.setIfInBounds_toArray, List.set_cons_zero, List.set_cons_succ]
  refine wpAnyF_do (i := 12) (by kernel_rfl) rfl rfl (fun K hK => ?_)
  go_simp
  refine hK _ _ (fun _ => ⟨e2, er⟩) ?_
  clear hK K
  refine wpAnyF_do (i := 13) (by kernel_rfl) rfl rfl (fun K hK => ?_)
  go_simp
  refine hK _ _ (fun _ => ⟨e2, er⟩) ?_
  clear hK K
  refine wpAnyF_do (i := 14) (by kernel_rfl) rfl rfl (fun K hK => ?_)
  go_simp
  refine hK _ _ (fun h => absurd rfl h) ?_
  clear hK K
  refine wpAnyF_done (by kernel_rfl) ?_ _
  refine NoPanic.normal ?_
  go_wp2
  go_ret
  have hx1 := HX1.out
  have hok1 := HOK1.out
  have hx3 := hx1.pushed (B := w.heap.size) (s := s) (l := l) (n := S.pend.length + 1) (by rw [(operate_pend S).1]) (by rw [(operate_pend S).1]; exact hown2) hg0 hat hC1.size
  refine ⟨rfl, ⟨⟨hok1.dur, ?_, hok1.most⟩, m1, _, hx3⟩, ?_⟩
  · intro x hx
    rcases List.mem_append.1 hx with hx | hx
    · exact hok1.pend x hx
    · simp only [List.mem_singleton] at hx
      subst hx
      exact ⟨by show s < S.operate.1.dur.length; rw [(operate_pend S).2]; exact hs, hl⟩
  · refine (hC1.trans (Chg.grown (F := F) hg0 (fun k e => .inl (hx1.fp k e))) (fun _ h => .inl h)).trans (Chg.setCell (F := F) _ _ hx1.fb) (fun _ h => .inl h)

end Go.Proofs.Ytkklbmnbjmicnaa
