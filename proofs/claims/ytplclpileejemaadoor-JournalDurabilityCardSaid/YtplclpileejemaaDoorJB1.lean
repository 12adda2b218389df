/- Generic notions for the proofs of this seat: bytes as values, what a call changes, maps from int to byte arrays. No program in sight; Generic notions for every seat: byte slices, owned rows, what is kept. No program in sight; Generic notions that name the program's types: byte slices as strings, appending bytes; A region that draws its order, in which one operation (the last store) waits for all others: what holds of the world need not hold behind that one. No program in sight. After the kit's 'wpAnyH'; Small notions for walks that only make memory; Lists whose elements take k cells each: in memory, of a row of their own, one list behind another. No function in sight; A slice literal of one element of more cells than one; the append behind it; Steps of a walk that no program is in sight of; Steps: cells are stored and made. -/
import Derived.WalkKit
import Derived.WalkSpells
import Derived.WalkLawsBesides
import Derived.Deep.MidRow
import Derived.StillTailTactics
import Derived.Deep.QuietTactic
import Derived.BigQuiet
import Derived.BigRegion
import Derived.MapKept
import Derived.Lib.Hide
import Derived.RangeFuncNested
import Derived.Deep.WholeRow
import Derived.Laws.CopyOwn
import Derived.Test.YtplclpileejemaaDoorProg
import Derived.Laws.IdiomStrings
import Derived.Laws.BytesArg
import Derived.Deep.AppendLies
import Derived.Laws.AppendOwnNone
import Derived.OrdersHeld
import Derived.Deep.RegionHeld
import Derived.Deep.Draws
import Derived.Maps.AppendAt
import Derived.Great.BuildSlice
import Derived.Laws.MakeOwn
import Derived.Laws.Tables
import Derived.Laws.Rows
namespace Go.Proofs.YtplclpileejemaaDoor
open Go.RowKit
set_option linter.unusedVariables false
set_option linter.unusedSimpArgs false

/-! ### bytes -/
def bv (x : UInt8) : Value := .int .u8 (x.toNat : Int)
def bvs (l : List UInt8) : List Value := l.map bv
def cval (l : List UInt8) : Value := .agg (bvs l).toArray
@[simp] theorem bvs_length (l : List UInt8) : (bvs l).length = l.length := by simp [bvs]
theorem bvs_append (a b : List UInt8) : bvs (a ++ b) = bvs a ++ bvs b := by simp [bvs]
theorem bv_inj {x y : UInt8} (h : bv x = bv y) : x = y := by
  simp [bv] at h
  exact UInt8.toNat_inj.1 (by omega)
theorem bvs_inj {a b : List UInt8} (h : bvs a = bvs b) : a = b := by
  induction a generalizing b with
  | nil => cases b <;> simp_all [bvs]
  | cons x a ih =>
    cases b with
    | nil => simp [bvs] at h
    | cons y b =>
      simp only [bvs, List.map_cons, List.cons.injEq] at h
      rw [bv_inj h.1, ih h.2]
theorem bvs_oneCell {l : List UInt8} : ∀ v ∈ bvs l, v.oneCell' = true := by
  intro v hv
  obtain ⟨x, _, rfl⟩ := List.mem_map.1 hv
  rfl
theorem bvs_getElem? (l : List UInt8) (i : Nat) : (bvs l)[i]? = l[i]?.map bv := by simp [bvs]

/-! ### what a call changes: nothing but new blocks and the blocks of F -/
structure Chg (F : Nat → Prop) (w w' : World) : Prop where
  os : w'.os = w.os
  tape : w'.tape = w.tape
  output : w'.output = w.output
  size : w.heap.size ≤ w'.heap.size
  block : ∀ k, k < w.heap.size → ¬ F k → w'.heap[k]? = w.heap[k]?

section
variable {F G : Nat → Prop} {w w' w1 w2 w3 : World}
theorem Chg.refl (F : Nat → Prop) (w : World) : Chg F w w := ⟨rfl, rfl, rfl, Nat.le_refl _, fun _ _ _ => rfl⟩
theorem Chg.of_below (h : Below w.heap.size w w') : Chg F w w' := ⟨h.os, h.tape, h.output, h.size, fun k hk _ => h.block k hk⟩
theorem Chg.below (h : Chg F w w') {B : Nat} (hF : ∀ k, F k → B ≤ k) (hB : B ≤ w.heap.size) : Below B w w' :=
  ⟨h.os, h.tape, h.output, h.size, fun k hk => h.block k (by omega) (fun hf => by have := hF k hf; omega)⟩
theorem Chg.mono (h : Chg F w w') (hFG : ∀ k, F k → G k) : Chg G w w' := ⟨h.os, h.tape, h.output, h.size, fun k hk hg => h.block k hk (fun hf => hg (hFG k hf))⟩
theorem Chg.trans (h : Chg F w1 w2) (k : Chg G w2 w3) (hG : ∀ i, G i → F i ∨ w1.heap.size ≤ i) : Chg F w1 w3 :=
  ⟨k.os.trans h.os, k.tape.trans h.tape, k.output.trans h.output, Nat.le_trans h.size k.size, fun i hi hf =>
    (k.block i (Nat.lt_of_lt_of_le hi h.size) (fun hg => by rcases hG i hg with h1 | h1; exact hf h1; omega)).trans (h.block i hi hf)⟩
theorem Chg.grown {row : Option Nat} (hg : w.grownBy w' row) (hr : ∀ k, row = some k → F k ∨ w.heap.size ≤ k) : Chg F w w' :=
  ⟨hg.os, hg.tape, hg.output, hg.size, fun k hk hf => hg.block k hk (fun e => by rcases hr k e.symm with h1 | h1; exact hf h1; omega)⟩
theorem Chg.setCell (w : World) {a : Addr} (v : Value) (h : F a.block) : Chg F w (w.setCell a v) :=
  ⟨rfl, rfl, rfl, by simp [World.setCell], fun k _ hf => heap_setCell_other w a k v (fun e => hf (e ▸ h))⟩
theorem Chg.alloc (w : World) (o : Obj) : Chg F w (w.alloc o) := ⟨rfl, rfl, rfl, by simp, fun _ hk _ => Below.heap_alloc w o _ hk⟩
theorem Chg.drew (h : Chg F w w') : Chg F w w'.drew := ⟨h.os, h.tape, h.output, h.size, h.block⟩
theorem Chg.cell (h : Chg F w w') {p : Addr} {v : Value} (hf : ¬ F p.block) (hc : w.cell? p = some v) : w'.cell? p = some v :=
  (World.cell?_of_block (h.block p.block (World.block_lt_of_cell? w p hc) hf)).trans hc
end

/-! ### maps from int to byte arrays -/
def entOf (e : MapEntry) : Value × Value := (e.key, e.val)
def pairV (p : Nat × List UInt8) : Value × Value := (.int .i64 (p.1 : Int), cval p.2)

/-- The entries of a map as plain pairs. -/
structure Ents (es : Array MapEntry) (L : List (Nat × List UInt8)) : Prop where
  eq : es.toList.map entOf = L.map pairV
  nodup : (L.map (·.1)).Nodup

theorem findNow_ents (k : Nat) : ∀ (l : List MapEntry) (L : List (Nat × List UInt8)) (i : Nat), l.map entOf = L.map pairV →
    Instr.findNow (.int .i64) (.int .i64 (k : Int)) l i = some ((L.findIdx? (fun p => p.1 == k)).bind fun j => (L[j]?).map fun p => (i + j, cval p.2))
  | [], [], i, _ => by simp [Instr.findNow]
  | [], _ :: _, _, h => by simp at h
  | _ :: _, [], _, h => by simp at h
  | e :: l, p :: L, i, h => by
    simp only [List.map_cons, List.cons.injEq] at h
    obtain ⟨h1, h2⟩ := h
    have hk : e.key = .int .i64 (p.1 : Int) := congrArg Prod.fst h1
    have hv : e.val = cval p.2 := congrArg Prod.snd h1
    have ih := findNow_ents k l L (i + 1) h2
    unfold Instr.findNow
    rw [hk]
    simp only [Instr.sameNow, if_true]
    by_cases hp : p.1 = k
    · have hb : ((k : Int) == (p.1 : Int)) = true := by simp [hp]
      rw [hb]
      simp [List.findIdx?_cons, hp, hv]
    · have hb : ((k : Int) == (p.1 : Int)) = false := by simp; omega
      rw [hb]
      simp only [ih]
      have hb2 : (p.1 == k) = false := by simpa using hp
      rw [List.findIdx?_cons]
      simp only [hb2, if_false, Bool.false_eq_true]
      cases hq : List.findIdx? (fun p => p.1 == k) L with
      | none => simp
      | some j => simp; rw [show i + 1 + j = i + (j + 1) by omega]

def assoc (L : List (Nat × List UInt8)) (k : Nat) : Option (List UInt8) := (L.find? (fun p => p.1 == k)).map (·.2)

theorem find_findIdx {α : Type} (f : α → Bool) : ∀ L : List α, L.find? f = (L.findIdx? f).bind fun j => L[j]?
  | [] => rfl
  | p :: L => by
    rw [List.find?_cons, List.findIdx?_cons]
    cases h : f p with
    | true => simp
    | false =>
      simp only [find_findIdx f L, Bool.false_eq_true, if_false]
      cases List.findIdx? f L <;> simp

def putL (L : List (Nat × List UInt8)) (k : Nat) (v : List UInt8) : List (Nat × List UInt8) :=
  match L.findIdx? (fun p => p.1 == k) with
  | some j => L.set j (k, v)
  | none => L ++ [(k, v)]

section
variable {P : Program} {w : World}

theorem isKey_i64 (k : Int) : MapKept.IsKey (.int .i64) (.int .i64 k) := by simp [MapKept.IsKey]

theorem run_lookup_ents {t kt et : TypeId} (ht : P.underlying t = some (.map kt et)) (hk : P.underlying kt = some (.int .i64)) {z : Value} (hz : ∀ w, (zeroValue et).run P w = .ok z w)
    {m : Nat} {es : Array MapEntry} {clock : Nat} (hm : w.heap[m]? = some (.map es clock)) {L : List (Nat × List UInt8)} (hL : Ents es L) (k : Nat) :
    (Instr.lookup t (.map (some m)) (.int .i64 (k : Int)) false).run P w = .ok ((assoc L k).elim z cval) w := by
  have hf := findNow_ents k es.toList L 0 hL.eq
  have hg : (getObj m).run P w = .ok (.map es clock) w := by simp [getObj, Sem.run, hm]
  have hck := fun em => MapKept.run_checkKey (w := w) hk (isKey_i64 k) em 9999
  have hfk := MapKept.run_findKey (w := w) hk hf
  simp only [Instr.lookup, Sem.run_bind, run_underlying ht, Result.andThen_ok, hg, hck, hfk, Sem.run_pure]
  unfold assoc
  rw [find_findIdx]
  cases hq : List.findIdx? (fun p => p.1 == k) L with
  | none => simp [hz, Sem.run_bind]
  | some j =>
    cases hj : L[j]? with
    | none => simp [hz, hj, Sem.run_bind]
    | some p => simp [hj]

theorem lookup_nil_map {t kt et : TypeId} (ht : P.underlying t = some (.map kt et)) (hk : P.underlying kt = some (.int .i64)) {z : Value} (hz : ∀ w, (zeroValue et).run P w = .ok z w) (k : Int) :
    (Instr.lookup t (.map none) (.int .i64 k) false).run P w = .ok z w := by
  have hck := fun em => MapKept.run_checkKey (w := w) hk (isKey_i64 k) em 9999
  have hfk := MapKept.run_findKey (w := w) (l := []) hk (d := .int .i64) (k := .int .i64 k) (a := none) rfl
  simp [Instr.lookup, Sem.run_bind, run_underlying ht, hck, hfk, hz]

def Stamped (es : Array MapEntry) (clock : Nat) : Prop := (∀ e ∈ es.toList, e.born < clock) ∧ (es.toList.map (·.born)).Nodup
theorem stamped_empty : Stamped #[] 0 := ⟨by simp, by simp⟩
theorem stamped_push {es : Array MapEntry} {clock : Nat} (h : Stamped es clock) (k v : Value) : Stamped (es.push { key := k, val := v, born := clock }) (clock + 1) := by
  refine ⟨fun e he => ?_, ?_⟩
  · rw [Array.toList_push, List.mem_append] at he
    rcases he with he | he
    · exact Nat.lt_succ_of_lt (h.1 e he)
    · obtain rfl := List.mem_singleton.1 he
      exact Nat.lt_succ_self _
  · rw [Array.toList_push, List.map_append, List.nodup_append]
    refine ⟨h.2, by simp, ?_⟩
    intro a ha b hb e
    obtain ⟨x, hx, rfl⟩ := List.mem_map.1 ha
    simp at hb
    have := h.1 x hx
    omega
theorem stamped_modify {es : Array MapEntry} {clock : Nat} (h : Stamped es clock) (j : Nat) (k v : Value) : Stamped (es.modify j fun e => { e with key := k, val := v }) clock := by
  have e : (es.modify j fun e => { e with key := k, val := v }).toList.map (·.born) = es.toList.map (·.born) := by
    apply List.ext_getElem?
    intro i
    simp only [List.getElem?_map, Array.getElem?_toList, Array.getElem?_modify]
    by_cases hij : j = i
    · subst hij
      cases es[j]? <;> simp
    · simp [hij]
  refine ⟨fun x hx => ?_, by rw [e]; exact h.2⟩
  have hb : x.born ∈ (es.modify j fun e => { e with key := k, val := v }).toList.map (·.born) := List.mem_map_of_mem hx
  rw [e] at hb
  obtain ⟨y, hy, hyb⟩ := List.mem_map.1 hb
  rw [← hyb]
  exact h.1 y hy

theorem ents_put {es : Array MapEntry} {L : List (Nat × List UInt8)} (hL : Ents es L) (k : Nat) (v : List UInt8) (clock : Nat) (hst : Stamped es clock) :
    ∃ es' clock', Ents es' (putL L k v) ∧ Stamped es' clock' ∧
      (∀ {P : Program} {w : World} {t kt et : TypeId} {m : Nat}, P.underlying t = some (.map kt et) → P.underlying kt = some (.int .i64) → w.heap[m]? = some (.map es clock) →
        (Instr.mapUpdate t (.map (some m)) (.int .i64 (k : Int)) (cval v)).run P w = .ok () { w with heap := w.heap.setIfInBounds m (.map es' clock') }) := by
  have hf := findNow_ents k es.toList L 0 hL.eq
  have hlen : es.size = L.length := by have := congrArg List.length hL.eq; simpa using this
  cases hq : List.findIdx? (fun p => p.1 == k) L with
  | none =>
    refine ⟨es.push { key := .int .i64 (k : Int), val := cval v, born := clock }, clock + 1, ⟨?_, ?_⟩, stamped_push hst _ _, ?_⟩
    · simp [putL, hq, hL.eq, entOf, pairV]
    · simp only [putL, hq, List.map_append, List.map_cons, List.map_nil]
      rw [List.nodup_append]
      refine ⟨hL.nodup, by simp, ?_⟩
      intro a ha b hb
      simp at hb
      subst hb
      intro e
      subst e
      obtain ⟨p, hp, hpk⟩ := List.mem_map.1 ha
      have := List.findIdx?_eq_none_iff.1 hq p hp
      simp [hpk] at this
    · intro P w t kt et m ht hk hm
      have hg : (getObj m).run P w = .ok (.map es clock) w := by simp [getObj, Sem.run, hm]
      have hck := fun em => MapKept.run_checkKey (w := w) hk (isKey_i64 k) em 9999
      rw [hq] at hf
      have hfk := MapKept.run_findKey (w := w) hk hf
      simp only [Instr.mapUpdate, Sem.run_bind, run_underlying ht, Result.andThen_ok, hg, hck, hfk, Option.bind_none]
      simp [setObj, Sem.run, hm]
  | some j =>
    obtain ⟨hj, hpj, _⟩ := List.findIdx?_eq_some_iff_getElem.1 hq
    have hje : j < es.size := by omega
    have hpk : L[j].1 = k := by simpa using hpj
    have hent : entOf es[j] = pairV L[j] := by
      have h1 : (es.toList.map entOf)[j]? = (L.map pairV)[j]? := by rw [hL.eq]
      simpa [hje, hj] using h1
    have hkey : es[j].key = .int .i64 (k : Int) := by have := congrArg Prod.fst hent; simpa [entOf, pairV, hpk] using this
    refine ⟨es.modify j fun e => { e with key := .int .i64 (k : Int), val := cval v }, clock, ⟨?_, ?_⟩, stamped_modify hst j _ _, ?_⟩
    · simp only [putL, hq]
      apply List.ext_getElem?
      intro i
      have h1 : (es.toList.map entOf)[i]? = (L.map pairV)[i]? := by rw [hL.eq]
      simp only [List.getElem?_map, Array.getElem?_toList, Array.getElem?_modify, List.getElem?_set] at h1 ⊢
      by_cases hij : j = i
      · subst hij
        simp [hje, hj, entOf, pairV]
      · simp [hij, h1]
    · simp only [putL, hq]
      have : (L.set j (k, v)).map (·.1) = L.map (·.1) := by
        apply List.ext_getElem?
        intro i
        simp only [List.getElem?_map, List.getElem?_set]
        by_cases hij : j = i
        · subst hij
          simp [hj, hpk]
        · simp [hij]
      rw [this]
      exact hL.nodup
    · intro P w t kt et m ht hk hm
      have hg : (getObj m).run P w = .ok (.map es clock) w := by simp [getObj, Sem.run, hm]
      have hck := fun em => MapKept.run_checkKey (w := w) hk (isKey_i64 k) em 9999
      rw [hq] at hf
      have hfk := MapKept.run_findKey (w := w) hk hf
      simp only [Option.bind_some, List.getElem?_eq_getElem hj, Option.map_some, Nat.zero_add] at hfk
      have hsty := MapKept.run_keyThatStays (P := P) (w := w) (d := .int .i64) (isKey_i64 k)
      have hkk : ((es[j]?).map (·.key)).getD (.int .i64 (k : Int)) = .int .i64 (k : Int) := by simp [hje, hkey]
      simp only [Instr.mapUpdate, Sem.run_bind, run_underlying ht, Result.andThen_ok, hg, hck, hfk, hkk, hsty]
      simp [setObj, Sem.run, hm]

theorem assoc_put (L : List (Nat × List UInt8)) (k i : Nat) (v : List UInt8) : assoc (putL L k v) i = if i = k then some v else assoc L i := by
  unfold assoc putL
  cases hq : List.findIdx? (fun p => p.1 == k) L with
  | none =>
    have hn := List.findIdx?_eq_none_iff.1 hq
    rw [List.find?_append]
    by_cases hik : i = k
    · subst hik
      have : List.find? (fun p => p.1 == i) L = none := List.find?_eq_none.2 (fun p hp => by simp [hn p hp])
      simp [this]
    · have : ((k == i) = false) := by simp; omega
      simp [hik, List.find?_cons, this]
  | some j =>
    obtain ⟨hj, hpj, hfirst⟩ := List.findIdx?_eq_some_iff_getElem.1 hq
    have hpk : L[j].1 = k := by simpa using hpj
    rw [find_findIdx, find_findIdx]
    by_cases hik : i = k
    · subst hik
      have : List.findIdx? (fun p => p.1 == i) (L.set j (i, v)) = some j := by
        rw [List.findIdx?_eq_some_iff_getElem]
        refine ⟨by simpa using hj, by simp, ?_⟩
        intro i' hi'
        have := hfirst i' hi'
        rw [List.getElem_set_ne (by omega)]
        exact this
      simp [this, hj]
    · have hpi : ∀ p : Nat × List UInt8, p.1 = k → (p.1 == i) = false := by intro p hp; simp; omega
      have : List.findIdx? (fun p => p.1 == i) (L.set j (k, v)) = List.findIdx? (fun p => p.1 == i) L := by
        have hmap : (L.set j (k, v)).map (·.1) = L.map (·.1) := by
          apply List.ext_getElem?
          intro i
          simp only [List.getElem?_map, List.getElem?_set]
          by_cases hij : j = i
          · subst hij
            simp [hj, hpk]
          · simp [hij]
        have e1 : ∀ M : List (Nat × List UInt8), List.findIdx? (fun p => p.1 == i) M = List.findIdx? (fun x => x == i) (M.map (·.1)) := by
          intro M
          rw [List.findIdx?_map]
          rfl
        rw [e1, e1, hmap]
      rw [this]
      cases hr : List.findIdx? (fun p => p.1 == i) L with
      | none => simp [hik]
      | some r =>
        obtain ⟨hr1, hr2, _⟩ := List.findIdx?_eq_some_iff_getElem.1 hr
        have hrj : j ≠ r := by
          intro e
          subst e
          have := hpi L[j] hpk
          rw [this] at hr2
          cases hr2
        simp [hik, List.getElem?_set_ne hrj]

theorem putL_keys {L : List (Nat × List UInt8)} {k : Nat} {v : List UInt8} {p : Nat × List UInt8} (h : p ∈ putL L k v) : p = (k, v) ∨ p ∈ L := by
  unfold putL at h
  cases hq : List.findIdx? (fun p => p.1 == k) L with
  | none => rw [hq] at h; simp at h; exact h.symm
  | some j => rw [hq] at h; exact (List.mem_or_eq_of_mem_set h).symm
end

/-- Block m is a map of the keys below n, in which key i reads as dur i (the zero bytes where there is no entry). -/
structure MapIs (w : World) (m n : Nat) (z : List UInt8) (dur : Nat → List UInt8) : Prop where
  ex : ∃ es clock L, w.heap[m]? = some (.map es clock) ∧ Ents es L ∧ (∀ p ∈ L, p.1 < n ∧ p.2.length = z.length) ∧ (∀ i, i < n → (assoc L i).getD z = dur i) ∧ Stamped es clock

theorem MapIs.lt {w : World} {m n : Nat} {z : List UInt8} {dur : Nat → List UInt8} (h : MapIs w m n z dur) : m < w.heap.size := by
  obtain ⟨es, clock, L, hm, _⟩ := h.ex
  exact (Array.getElem?_eq_some_iff.1 hm).1

theorem MapIs.kept {w w' : World} {m n : Nat} {z : List UInt8} {dur : Nat → List UInt8} (h : MapIs w m n z dur) (hb : w'.heap[m]? = w.heap[m]?) : MapIs w' m n z dur := by
  obtain ⟨es, clock, L, hm, r⟩ := h.ex
  exact ⟨es, clock, L, hb.trans hm, r⟩

theorem MapIs.ext {w : World} {m n : Nat} {z : List UInt8} {dur dur' : Nat → List UInt8} (h : MapIs w m n z dur) (he : ∀ i, i < n → dur i = dur' i) : MapIs w m n z dur' := by
  obtain ⟨es, clock, L, hm, h1, h2, h3, h4⟩ := h.ex
  exact ⟨es, clock, L, hm, h1, h2, fun i hi => (h3 i hi).trans (he i hi), h4⟩

theorem MapIs.lookup {P : Program} {w : World} {m n : Nat} {z : List UInt8} {dur : Nat → List UInt8} (h : MapIs w m n z dur) {t kt et : TypeId} (ht : P.underlying t = some (.map kt et)) (hk : P.underlying kt = some (.int .i64))
    (hz : ∀ w, (zeroValue et).run P w = .ok (cval z) w) {k : Nat} (hkn : k < n) :
    (Instr.lookup t (.map (some m)) (.int .i64 (k : Int)) false).run P w = .ok (cval (dur k)) w := by
  obtain ⟨es, clock, L, hm, h1, h2, h3, h4⟩ := h.ex
  rw [run_lookup_ents ht hk hz hm h1, ← h3 k hkn]
  cases assoc L k <;> rfl

theorem MapIs.update {P : Program} {w : World} {m n : Nat} {z : List UInt8} {dur : Nat → List UInt8} (h : MapIs w m n z dur) {t kt et : TypeId} (ht : P.underlying t = some (.map kt et)) (hk : P.underlying kt = some (.int .i64))
    {k : Nat} (hkn : k < n) (v : List UInt8) (hv : v.length = z.length) :
    ∃ w', (Instr.mapUpdate t (.map (some m)) (.int .i64 (k : Int)) (cval v)).run P w = .ok () w' ∧ MapIs w' m n z (fun i => if i = k then v else dur i) ∧ w.grownBy w' (some m) := by
  obtain ⟨es, clock, L, hm, h1, h2, h3, h4⟩ := h.ex
  obtain ⟨es', clock', hE, hS, hrun⟩ := ents_put h1 k v clock h4
  have hmlt := h.lt
  refine ⟨_, hrun ht hk hm, ⟨es', clock', putL L k v, by simp [hmlt], hE, ?_, ?_, hS⟩, ⟨rfl, rfl, rfl, by simp, ?_⟩⟩
  · intro p hp
    rcases putL_keys hp with rfl | hp
    · exact ⟨hkn, hv⟩
    · exact h2 p hp
  · intro i hi
    rw [assoc_put]
    by_cases hik : i = k
    · simp [hik]
    · simp [hik, h3 i hi]
  · intro i hi hne
    simp only [Array.getElem?_setIfInBounds]
    rw [if_neg (fun e => hne (by rw [e]))]

end Go.Proofs.YtplclpileejemaaDoor

namespace Go.Proofs.YtplclpileejemaaDoor
open Go.RowKit
set_option linter.unusedVariables false
set_option linter.unusedSimpArgs false

theorem grownBy_setCell (w : World) (b i : Nat) (v : Value) : w.grownBy (w.setCell ⟨b, i, none⟩ v) (some b) :=
  ⟨rfl, rfl, rfl, by simp [World.setCell], fun _ _ hk => heap_setCell_other w _ _ v (fun e => hk (by rw [e]))⟩
theorem grownBy_trans {w w1 w2 : World} {row : Option Nat} (h : w.grownBy w1 row) (k : w1.grownBy w2 row) : w.grownBy w2 row :=
  ⟨k.os.trans h.os, k.tape.trans h.tape, k.output.trans h.output, Nat.le_trans h.size k.size, fun i hi hr => (k.block i (Nat.lt_of_lt_of_le hi h.size) hr).trans (h.block i hi hr)⟩
/-- The slice value v holds the bytes l in a block of its own, which is in F. -/
def OwnBytes (w : World) (F : Nat → Prop) (v : Value) (l : List UInt8) : Prop :=
  ∃ g T, v = .slice (some ⟨g, 0, none⟩) l.length l.length ∧ F g ∧ w.heap[g]? = some (.cells (bvs l).toArray T (0, 0))
/-- The slice value v reads as the bytes l; where there are any, they lie in a block of F. -/
def BytesAt (w : World) (F : Nat → Prop) (v : Value) (l : List UInt8) : Prop :=
  ∃ a cap, v = .slice a l.length cap ∧ l.length ≤ cap ∧ (l ≠ [] → ∃ g off, a = some ⟨g, off, none⟩ ∧ F g ∧ g < w.heap.size ∧ w.rangeAt g off (bvs l))
theorem OwnBytes.bytes {w : World} {F : Nat → Prop} {v : Value} {l : List UInt8} (h : OwnBytes w F v l) : BytesAt w F v l := by
  obtain ⟨g, T, rfl, hF, hg⟩ := h
  refine ⟨_, _, rfl, Nat.le_refl _, fun _ => ⟨g, 0, rfl, hF, (Array.getElem?_eq_some_iff.1 hg).1, fun j u hu => ?_⟩⟩
  rw [cell_of_row w _ _ _ _ _ hg]
  simpa using hu
theorem OwnBytes.kept {w w' : World} {F G : Nat → Prop} {v : Value} {l : List UInt8} (h : OwnBytes w F v l) (hc : Chg G w w') (hd : ∀ k, F k → ¬ G k) : OwnBytes w' F v l := by
  obtain ⟨g, T, rfl, hF, hg⟩ := h
  exact ⟨g, T, rfl, hF, (hc.block g (Array.getElem?_eq_some_iff.1 hg).1 (hd g hF)).trans hg⟩
theorem BytesAt.kept {w w' : World} {F G : Nat → Prop} {v : Value} {l : List UInt8} (h : BytesAt w F v l) (hc : Chg G w w') (hd : ∀ k, F k → ¬ G k) : BytesAt w' F v l := by
  obtain ⟨a, cap, rfl, hcap, hr⟩ := h
  refine ⟨a, cap, rfl, hcap, fun hl => ?_⟩
  obtain ⟨g, off, rfl, hF, hg, hr⟩ := hr hl
  exact ⟨g, off, rfl, hF, Nat.lt_of_lt_of_le hg hc.size, fun j u hu => hc.cell (p := ⟨g, off + j, none⟩) (hd g hF) (hr j u hu)⟩
theorem BytesAt.mono {w : World} {F G : Nat → Prop} {v : Value} {l : List UInt8} (h : BytesAt w F v l) (hFG : ∀ k, F k → G k) : BytesAt w G v l := by
  obtain ⟨a, cap, rfl, hcap, hr⟩ := h
  refine ⟨a, cap, rfl, hcap, fun hl => ?_⟩
  obtain ⟨g, off, rfl, hF, hg, hr⟩ := hr hl
  exact ⟨g, off, rfl, hFG g hF, hg, hr⟩
theorem bytesAt_nil (w : World) (F : Nat → Prop) : BytesAt w F (.slice none 0 0) [] := ⟨none, 0, rfl, Nat.le_refl _, fun h => absurd rfl h⟩
theorem BytesAt.mono' {w : World} {F G : Nat → Prop} {v : Value} {l : List UInt8} (h : BytesAt w F v l) (hFG : ∀ k, k < w.heap.size → F k → G k) : BytesAt w G v l := by
  obtain ⟨a, cap, rfl, hcap, hr⟩ := h
  refine ⟨a, cap, rfl, hcap, fun hl => ?_⟩
  obtain ⟨g, off, rfl, hF, hg, hr⟩ := hr hl
  exact ⟨g, off, rfl, hFG g hg hF, hg, hr⟩
theorem ownsRow_lt {w : World} {B n s : Nat} {T : TypeId} {v : Value} {xs : List Value} (h : w.ownsRow B T s v n xs) : ∀ g, v.ownBlock = some g → B ≤ g ∧ g < w.heap.size := by
  intro g hg
  rcases h.2 with ⟨rfl, _⟩ | ⟨g', cap, cur, rfl, hb, hh, _⟩
  · cases hg
  · obtain rfl : g' = g := by simpa [Value.ownBlock] using hg
    exact ⟨hb, (Array.getElem?_eq_some_iff.1 hh).1⟩
theorem ownsRow_chg {w w' : World} {G : Nat → Prop} {B n s : Nat} {T : TypeId} {v : Value} {xs : List Value} (h : w.ownsRow B T s v n xs) (hc : Chg G w w') (hd : ∀ k, B ≤ k → k < w.heap.size → ¬ G k) : w'.ownsRow B T s v n xs := by
  refine ⟨h.1, ?_⟩
  rcases h.2 with hn | ⟨g, cap, cur, e, hbg, hg, rest⟩
  · exact .inl hn
  · have hlt := (Array.getElem?_eq_some_iff.1 hg).1
    exact .inr ⟨g, cap, cur, e, hbg, (hc.block g hlt (hd g hbg hlt)).trans hg, rest⟩
/-- What is read of a row: element i at s cells an element. -/
theorem ownsRow_at {w : World} {B n s : Nat} {T : TypeId} {v : Value} {xs : List Value} (h : w.ownsRow B T s v n xs) (hn : 0 < n) :
    ∃ g cap, v = .slice (some ⟨g, 0, none⟩) n cap ∧ g < w.heap.size ∧ v.ownBlock = some g ∧ ∀ j u, xs[j]? = some u → w.cell? ⟨g, j, none⟩ = some u := by
  rcases h.2 with ⟨rfl, h0⟩ | ⟨g, cap, cur, rfl, _, hg, _, _, _, ht⟩
  · omega
  · refine ⟨g, cap, rfl, (Array.getElem?_eq_some_iff.1 hg).1, rfl, fun j u hu => ?_⟩
    rw [cell_of_row w g _ cur _ _ hg]
    rw [← ht, List.getElem?_take] at hu
    split at hu
    · simpa using hu
    · cases hu
theorem ownsRow_chg' {w w' : World} {G : Nat → Prop} {B n s : Nat} {T : TypeId} {v : Value} {xs : List Value} (h : w.ownsRow B T s v n xs) (hc : Chg G w w') (hd : ∀ k, v.ownBlock = some k → ¬ G k) : w'.ownsRow B T s v n xs := by
  refine ⟨h.1, ?_⟩
  rcases h.2 with hn | ⟨g, cap, cur, e, hbg, hg, rest⟩
  · exact .inl hn
  · exact .inr ⟨g, cap, cur, e, hbg, (hc.block g (Array.getElem?_eq_some_iff.1 hg).1 (hd g (by rw [e]; rfl))).trans hg, rest⟩
theorem ownsRow_base {w : World} {B B' n s : Nat} {T : TypeId} {v : Value} {xs : List Value} (h : w.ownsRow B T s v n xs) (hB : B' ≤ B) : w.ownsRow B' T s v n xs := by
  refine ⟨h.1, ?_⟩
  rcases h.2 with h | ⟨g, cap, cur, e, hb, rest⟩
  · exact .inl h
  · exact .inr ⟨g, cap, cur, e, Nat.le_trans hB hb, rest⟩
theorem oneCell_bvs (l : List UInt8) : (bvs l).toArray.all (·.oneCell') = true := all_oneCell_toArray bvs_oneCell
theorem run_call_enter {P : Program} {f : FuncId} {fn : Func} {c : Code} (hf : P.funcs[f]? = some fn) (hname : (fn.name == "runtime.NumGoroutine") = false) (hb : fn.body = some c) (args : Array Value) (w : World) :
    (callFunc f args).run P w = .ok (.enter f args) w := by
  have h1 : fn.name ≠ "runtime.NumGoroutine" := by simpa using hname
  simp [callFunc, hf, h1, hb]
theorem mid_of_row {w : World} {g : Nat} {c : Value} {l : List Value} {T : TypeId} (h : w.heap[g]? = some (.cells (c :: l).toArray T (0, 0))) : w.cell? ⟨g, 0, none⟩ = some c ∧ w.rangeAt g 1 l := by
  refine ⟨by rw [cell_of_row w _ _ _ _ _ h]; rfl, fun j v hv => ?_⟩
  rw [cell_of_row w _ _ _ _ _ h]
  simp only [List.getElem?_toArray, Nat.add_comm 1 j, List.getElem?_cons_succ]
  exact hv
/-- Every block of cells at or beyond n lies as it lay. -/
def CellsKept (n : Nat) (A B : World) : Prop := A.heap.size ≤ B.heap.size ∧ ∀ k cs t fr, n ≤ k → A.heap[k]? = some (.cells cs t fr) → B.heap[k]? = some (.cells cs t fr)
theorem CellsKept.refl (n : Nat) (A : World) : CellsKept n A A := ⟨Nat.le_refl _, fun _ _ _ _ _ h => h⟩
theorem CellsKept.trans {n : Nat} {A B C : World} (h : CellsKept n A B) (h' : CellsKept n B C) : CellsKept n A C :=
  ⟨Nat.le_trans h.1 h'.1, fun k cs t fr hk hc => h'.2 k cs t fr hk (h.2 k cs t fr hk hc)⟩
theorem CellsKept.putObj {n : Nat} (W : World) (l : Nat) (o o' : Obj) (h : W.heap[l]? = some o) (ho : o.isCells = false) : CellsKept n W (W.putObj l o') := by
  refine ⟨by simp [World.putObj], fun k cs t fr _ hk => ?_⟩
  refine (World.putObj_heap_other (fun e => ?_)).trans hk
  subst e
  rw [h] at hk
  cases hk
  cases ho
theorem CellsKept.row {n B k s : Nat} {T : TypeId} {v : Value} {xs : List Value} {w w' : World} (h : w.ownsRow B T s v k xs) (hc : CellsKept n w w') (hB : n ≤ B) : w'.ownsRow B T s v k xs := by
  refine ⟨h.1, ?_⟩
  rcases h.2 with hn | ⟨g, cap, cur, e, hbg, hg, rest⟩
  · exact .inl hn
  · exact .inr ⟨g, cap, cur, e, hbg, hc.2 g _ _ _ (Nat.le_trans hB hbg) hg, rest⟩
theorem ownsRow_form {B k s : Nat} {T : TypeId} {v : Value} {xs : List Value} {w : World} (h : w.ownsRow B T s v k xs) : ∃ a cap, v = .slice a k cap := by
  rcases h.2 with ⟨rfl, rfl⟩ | ⟨g, cap, cur, rfl, _⟩
  · exact ⟨none, 0, rfl⟩
  · exact ⟨_, _, rfl⟩
theorem grownBy_below {W W' : World} (h : Below W.heap.size W W') : W.grownBy W' none := ⟨h.os, h.tape, h.output, h.size, fun k hk _ => h.block k hk⟩
theorem heap3 (w : World) (A B C : Obj) : (((w.alloc A).alloc B).alloc C).heap[w.heap.size]? = some A ∧ (((w.alloc A).alloc B).alloc C).heap[w.heap.size + 1]? = some B ∧ (((w.alloc A).alloc B).alloc C).heap[w.heap.size + 2]? = some C := by
  have h1 : (w.alloc A).heap.size = w.heap.size + 1 := by simp
  have h2 : ((w.alloc A).alloc B).heap.size = w.heap.size + 2 := by simp
  refine ⟨?_, ?_, ?_⟩
  · rw [Below.heap_alloc _ _ _ (by omega), Below.heap_alloc _ _ _ (by omega), heap_alloc_new]
  · rw [Below.heap_alloc _ _ _ (by omega), ← h1, heap_alloc_new]
  · rw [← h2, heap_alloc_new]
theorem run_load_op {P : Program} {w : World} {ρ : Operand → Value} {o : Oper} (ty : TypeId) (x : Operand) (b off : Nat) (cs : List Value) (d : TypeDesc) (ho : o.op = .load ty x) (hx : ρ x = .pointer (some ⟨b, off, none⟩)) (hc : w.rangeAt b off cs)
    (hu : P.underlying ty = some d) (hd : d.isRow = true) (hi : (P.info? ty).map (·.size) = some cs.length) : (execOp ρ o).run P w = .ok (.value (.agg cs.toArray)) w := by
  unfold execOp
  simp only [ho, hx, Instr.loadAt, Instr.sureAddr, Sem.run_bind, Sem.run_pure, Result.andThen_ok, run_loadVar_mid w b off ty cs d hc hu hd hi]

end Go.Proofs.YtplclpileejemaaDoor

namespace Go.Proofs.YtplclpileejemaaDoor
open Go.RowKit
set_option linter.unusedVariables false
set_option linter.unusedSimpArgs false

theorem infoByte : (Tryd.prog.info? 5).map (fun i => (i.zero, i.size, i.bytes)) = some (some (.int .u8 0), 1, 1) := by kernel_rfl
theorem BytesAt.str {w : World} {F : Nat → Prop} {v : Value} {l : List UInt8} (h : BytesAt w F v l) : (convert 36 9 v).run Tryd.prog w = .ok (.string ⟨l.toArray⟩) w := by
  obtain ⟨a, cap, rfl, hcap, hr⟩ := h
  cases a with
  | none =>
    have hl : l = [] := by
      by_cases hl : l = []
      · exact hl
      · obtain ⟨g, off, e, _⟩ := hr hl
        cases e
    subst hl
    exact run_convert_bytes_nil w 36 5 Tryd.underlying36 Tryd.underlying5 _ _ 9 Tryd.underlying9
  | some ad =>
    refine run_convert_bytes_back w 36 9 5 ad cap l Tryd.underlying36 Tryd.underlying5 Tryd.underlying9 ?_
    intro j hj
    obtain ⟨g, off, e, _, _, hc⟩ := hr (by intro e; rw [e] at hj; simp at hj)
    cases e
    have hadd : (⟨g, off, none⟩ : Addr).add j = ⟨g, off + j, none⟩ := by unfold Addr.add; split <;> simp_all
    rw [hadd]
    exact hc j _ (by rw [bvs_getElem?, List.getElem?_eq_getElem hj]; rfl)
theorem ownsRow_bytes {w : World} {B n : Nat} {T : TypeId} {v : Value} {l : List UInt8} (h : w.ownsRow B T 1 v n (bvs l)) (hn : l.length = n) : BytesAt w (fun k => B ≤ k) v l := by
  rcases h.2 with ⟨rfl, h0⟩ | ⟨g, cap, cur, rfl, hbg, hg, hc, _, hs, ht⟩
  · have : l = [] := List.eq_nil_of_length_eq_zero (by omega)
    subst this
    exact bytesAt_nil _ _
  · subst hn
    refine ⟨_, _, rfl, hc, fun _ => ⟨g, 0, rfl, hbg, (Array.getElem?_eq_some_iff.1 hg).1, fun j u hu => ?_⟩⟩
    rw [cell_of_row w g _ cur _ _ hg, Nat.zero_add]
    rw [Nat.mul_one] at ht
    rw [← ht, List.getElem?_take] at hu
    split at hu
    · simpa using hu
    · cases hu

section
variable {ops : Array Oper} {rest : List Oper} {o : Oper} {a : Act} {Q : Exit → Act → World → Prop}
/-- One more byte for a row of bytes. -/
theorem wpList_appByte {w : World} (hgd : o.guard = none) (s x : Operand) (ho : o.op = .call { callee := .builtin .append, args := #[s, x], argTypes := #[36, 36] })
    {B n : Nat} {v : Value} {b : UInt8} {xs : List UInt8} (hs : a.eval s = v) (hown : w.ownsRow B 5 1 v n (bvs xs)) (g : Nat) (hx : a.eval x = .slice (some ⟨g, 0, none⟩) 1 1) (hg : w.heap[g]? = some (.cells #[bv b] 5 (0, 0)))
    (hn : n < 1000000000) (hB : B ≤ w.heap.size)
    (h : ∀ g' cap' w', g' < w'.heap.size → w'.ownsRow B 5 1 (.slice (some ⟨g', 0, none⟩) (n + 1) cap') (n + 1) (bvs (xs ++ [b])) → w.grownBy w' v.ownBlock → (v.ownBlock = some g' ∨ g' = w.heap.size) → wpList Tryd.prog ops Q rest (a.put o.dst (.slice (some ⟨g', 0, none⟩) (n + 1) cap')) w') :
    wpList Tryd.prog ops Q (o :: rest) a w := by
  refine wpList_plain hgd fun _ hK => ?_
  obtain ⟨i0, hi, hz0, hz1, hz2⟩ := info_parts infoByte
  refine wp_append_lies _ s x 36 ho B 5 i0 _ 1 1 Tryd.underlying36 hi hz0 hz1 hz2 rfl (by decide) v n (bvs xs) hs hown
    ⟨g, 0, none⟩ 1 1 [bv b] hx rfl (World.news_of_block (cs := #[bv b]) (t := 5) (fr := (0, 0)) hg) (fun y hy => by obtain rfl := List.mem_singleton.1 hy; rfl) (by decide) (by unfold maxLen; omega) (by omega) hB _ rfl ?_
  intro g' cap' w' hown hgrow hat hlt
  refine hK _ _ (h g' cap' w' hlt ?_ hgrow hat)
  rw [bvs_append]
  exact hown

/-- Bytes behind a row of bytes. -/
theorem wpList_appBytes {w : World} (hgd : o.guard = none) (s x : Operand) (ho : o.op = .call { callee := .builtin .append, args := #[s, x], argTypes := #[36, 36] })
    {B n : Nat} {v xv : Value} {F : Nat → Prop} {xs ys : List UInt8} (hs : a.eval s = v) (hown : w.ownsRow B 5 1 v n (bvs xs)) (hx : a.eval x = xv) (hb : BytesAt w F xv ys) (hnil : ∀ k c, xv = .slice none k c → c = 0)
    (hn : n + ys.length < 1000000000000) (hB : B ≤ w.heap.size)
    (h : ∀ a' cap' w', w'.ownsRow B 5 1 (.slice a' (n + ys.length) cap') (n + ys.length) (bvs (xs ++ ys)) → w.grownBy w' v.ownBlock → wpList Tryd.prog ops Q rest (a.put o.dst (.slice a' (n + ys.length) cap')) w') :
    wpList Tryd.prog ops Q (o :: rest) a w := by
  obtain ⟨i0, hi, hz0, hz1, hz2⟩ := info_parts infoByte
  obtain ⟨xa, xc, rfl, hxc, hxr⟩ := hb
  cases xa with
  | none =>
    have hc0 := hnil _ _ rfl
    subst hc0
    have hy : ys = [] := List.eq_nil_of_length_eq_zero (by omega)
    subst hy
    obtain ⟨va, vc, rfl⟩ := ownsRow_form hown
    refine wpList_append_own_none hgd s x 36 ho B 5 i0 1 Tryd.underlying36 hi _ n (bvs xs) hs hown hx ?_
    have := h va vc w (by simpa using hown) ⟨rfl, rfl, rfl, Nat.le_refl _, fun _ _ _ => rfl⟩
    simpa using this
  | some ad =>
    refine wpList_append_own w hgd s x 36 ho B 5 i0 _ 1 1 Tryd.underlying36 hi hz0 hz1 hz2 rfl (by decide) v n (bvs xs) hs hown ad ys.length xc (bvs ys) hx (by simp) ?_ bvs_oneCell (by unfold maxLen; omega) (by omega) hB ?_
    · intro j u hu
      obtain ⟨g, off, e, _, _, hr⟩ := hxr (by intro e; rw [e] at hu; simp [bvs] at hu)
      cases e
      have hadd : (⟨g, off, none⟩ : Addr).add j = ⟨g, off + j, none⟩ := by unfold Addr.add; split <;> simp_all
      rw [hadd]
      exact hr j u hu
    · intro v' w' hown' hg _
      rw [← bvs_append] at hown'
      obtain ⟨a', cap', rfl⟩ := ownsRow_form hown'
      exact h a' cap' w' hown' hg
end

end Go.Proofs.YtplclpileejemaaDoor

namespace Go.Proofs.YtplclpileejemaaDoor
open Go
set_option linter.unusedVariables false
set_option linter.unusedSimpArgs false

section
variable {P : Program} {ops : Array Oper} {Q : Exit → Act → World → Prop} {md : Region.Mode} {S : World → Prop} {fin : Nat}

/-- Whatever order is picked from here on; 'S' holds behind every operation but 'fin'. -/
def wpAnyF (P : Program) (md : Region.Mode) (ops : Array Oper) (Q : Exit → Act → World → Prop) (S : World → Prop) (fin : Nat) : Nat → Array Bool → Act → World → Prop
  | 0, listed, a, w => Region.ready md ops listed = [] ∧ Q .normal a w
  | fuel + 1, listed, a, w =>
    (Region.ready md ops listed = [] → Q .normal a w) ∧
    ∀ i ∈ Region.ready md ops listed, wpOp P ops Q i (fun a' w' => (i ≠ fin → S w') ∧ wpAnyF P md ops Q S fin fuel (listed.setIfInBounds i true) a' w') a w

theorem wpAny_of_F : ∀ (fuel : Nat) (listed : Array Bool) (a : Act) (w : World), wpAnyF P md ops Q S fin fuel listed a w → wpAny P md ops Q fuel listed a w
  | 0, _, _, _, h => h
  | fuel + 1, _, _, _, h => ⟨h.1, fun i hi => wpOp_mono (fun a' w' h' => wpAny_of_F fuel _ a' w' h'.2) (h.2 i hi)⟩

/-- 'fin' waits for 'i'. -/
def lastB (md : Region.Mode) (ops : Array Oper) (fin i : Nat) : Bool :=
  match ops[fin]? with | some o => o.after.any fun e => Region.binds md e && e.on == i | none => false

theorem lastB_spec {i : Nat} (h : lastB md ops fin i = true) {o : Oper} (ho : ops[fin]? = some o) : ∃ e ∈ o.after, Region.binds md e = true ∧ e.on = i := by
  unfold lastB at h
  simp only [ho] at h
  obtain ⟨e, he, hb⟩ := Array.any_eq_true'.1 h
  simp only [Bool.and_eq_true, beq_iff_eq] at hb
  exact ⟨e, he, hb.1, hb.2⟩

theorem wpAnyF_first {i : Nat} {oi : Oper} {v : Value} (hi : ops[i]? = some oi) (hsel : ∀ (j : Nat) (o : Oper) cs b, ops[j]? = some o → o.op ≠ .select cs b)
    (hQ : ∀ c a w, Q (.panic c) (a.put oi.dst v) w → Q (.panic c) a w) (hfin : lastB md ops fin i = true) :
    ∀ (fuel : Nat) (listed : Array Bool) (a : Act) (w : World),
      (∀ j oj, ops[j]? = some oj → j ≠ i → listed.getD j true = false → (∀ e ∈ oj.after, Region.binds md e = true → e.on ≠ i) → oi.apart ops oj = true) →
      i ∈ Region.ready md ops listed → YieldsIf P ops S oi v a → S w →
      wpAnyF P md ops Q S fin fuel (listed.setIfInBounds i true) (a.put oi.dst v) w → wpAnyF P md ops Q S fin (fuel + 1) listed a w := by
  intro fuel
  induction fuel with
  | zero =>
    intro listed a w _ hr hy hS H
    refine ⟨fun h => (by rw [h] at hr; cases hr), fun j hj => ?_⟩
    by_cases hji : j = i
    · subst hji; exact hy.wpOp hi hS ⟨fun _ => hS, H⟩
    · have := ready_mono hj hji
      rw [H.1] at this
      cases this
  | succ fuel ih =>
    intro listed a w hfree hr hy hS H
    refine ⟨fun h => (by rw [h] at hr; cases hr), fun j hj => ?_⟩
    by_cases hji : j = i
    · subst hji; exact hy.wpOp hi hS ⟨fun _ => hS, H⟩
    · have h1 := H.2 j (ready_mono hj hji)
      obtain ⟨hjun, oj, hoj, hall⟩ := mem_ready.1 hj
      have hnot : ∀ e ∈ oj.after, Region.binds md e = true → e.on ≠ i := fun e he hb heq => by
        have h1 := hall e he hb
        have h0 := (mem_ready.1 hr).1
        rw [heq] at h1
        rcases Nat.lt_or_ge i listed.size with h' | h'
        · simp [h'] at h0 h1; rw [h0] at h1; cases h1
        · simp [Array.getElem?_eq_none h'] at h1
      have hjf : j ≠ fin := fun e => by
        subst e
        obtain ⟨e', he', hb', hon⟩ := lastB_spec hfin hoj
        exact hnot e' he' hb' hon
      have h2 := wpOp_putIf hoj (hfree j oj hoj hji hjun hnot) (fun cs b => hsel i oi cs b hi) (fun cs b => hsel j oj cs b hoj) hQ hy h1
      have hfree' : ∀ k ok, ops[k]? = some ok → k ≠ i → (listed.setIfInBounds j true).getD k true = false →
          (∀ e ∈ ok.after, Region.binds md e = true → e.on ≠ i) → oi.apart ops ok = true := fun k ok hk hki hun hno => by
        refine hfree k ok hk hki ?_ hno
        by_cases hjk : j = k
        · subst hjk; exact hjun
        · rw [getD_set_ne true hjk] at hun; exact hun
      refine wpOp_mono (fun a' w' h3 => ⟨h3.2.1, ih (listed.setIfInBounds j true) a' w' hfree' (ready_mono hr (Ne.symm hji)) h3.1 (h3.2.1 hjf) ?_⟩) h2
      rw [Array.setIfInBounds_comm _ _ hji]
      exact h3.2.2

theorem wpAnyF_take {i : Nat} {oi : Oper} {v : Value} {fuel : Nat} {listed : Array Bool} {a : Act} {w : World} (hi' : ops.toList[i]? = some oi)
    (hs : Region.noSelect ops = true) (hf : Region.free md ops listed i = true) (hr : (Region.ready md ops listed).contains i = true) (hfin : lastB md ops fin i = true)
    (hQ : ∀ c a w, Q (.panic c) (a.put oi.dst v) w → Q (.panic c) a w) (hy : YieldsIf P ops S oi v a) (hS : S w)
    (h : wpAnyF P md ops Q S fin fuel (listed.setIfInBounds i true) (a.put oi.dst v) w) : wpAnyF P md ops Q S fin (fuel + 1) listed a w :=
  have hi : ops[i]? = some oi := by simpa using hi'
  wpAnyF_first hi (Region.noSelect_spec hs) hQ hfin fuel listed a w (Region.free_spec hi hf) (by simpa using hr) hy hS h

/-- One alone may come up. -/
theorem wpAnyF_only {i : Nat} {fuel : Nat} {listed : Array Bool} {a : Act} {w : World} (hr : Region.ready md ops listed = [i])
    (h : wpOp P ops Q i (fun a' w' => (i ≠ fin → S w') ∧ wpAnyF P md ops Q S fin fuel (listed.setIfInBounds i true) a' w') a w) : wpAnyF P md ops Q S fin (fuel + 1) listed a w :=
  ⟨fun h0 => absurd (hr ▸ h0) (by simp), fun j hj => by rw [hr] at hj; obtain rfl : j = i := by simpa using hj
                                                        exact h⟩

/-- .. an operation without a guard: by its own run. -/
theorem wpAnyF_do {i : Nat} {oi : Oper} {fuel : Nat} {listed : Array Bool} {a : Act} {w : World} (hr : Region.ready md ops listed = [i]) (hi' : ops.toList[i]? = some oi) (hg : oi.guard = none)
    (h : ∀ K : Act → World → Prop, (∀ a' w', (i ≠ fin → S w') → wpAnyF P md ops Q S fin fuel (listed.setIfInBounds i true) a' w' → K a' w') → oi.wp P a w K Q) : wpAnyF P md ops Q S fin (fuel + 1) listed a w := by
  have hi : ops[i]? = some oi := by simpa using hi'
  refine wpAnyF_only hr ?_
  unfold wpOp
  simp only [hi]
  rw [if_pos (by simp [Region.wanted, hg])]
  exact .inl (h _ (fun a' w' h1 h2 => ⟨h1, h2⟩))

theorem wpAnyF_done {listed : Array Bool} {a : Act} {w : World} (hr : Region.ready md ops listed = []) (h : Q .normal a w) :
    ∀ fuel, wpAnyF P md ops Q S fin fuel listed a w
  | 0 => ⟨hr, h⟩
  | _ + 1 => ⟨fun _ => h, by rw [hr]; simp⟩

theorem wp_region_F {id : Nat} {a : Act} {w : World} (fin : Nat) (S : World → Prop) (hm : P.follows .mixedOrders = true)
    (h : wpAnyF P .any ops Q S fin ops.size (Array.replicate ops.size false) a w.drew) : (Code.region id ops true).wp P Q a w :=
  wp_region_any hm (wpAny_of_F _ _ _ _ h)

/-- An operation that yields in every world that meets S, by its run. -/
theorem yieldsIf_run {o : Oper} {v : Value} {a : Act} (hg : o.guard = none) (h : ∀ w, S w → (execOp a.eval o).run P w = .ok (.value v) w) : YieldsIf P ops S o v a :=
  .inl ⟨by simp [Region.wanted, hg], h⟩
end

end Go.Proofs.YtplclpileejemaaDoor

namespace Go.Proofs.YtplclpileejemaaDoor
open Go.RowKit
set_option linter.unusedVariables false
set_option linter.unusedSimpArgs false

theorem own_none (w : World) (B : Nat) (T : TypeId) : w.ownsRow B T 1 (.slice none 0 0) 0 [] := ⟨by decide, .inl ⟨rfl, rfl⟩⟩
theorem own_one {w : World} {B : Nat} (hB : B ≤ w.heap.size) (T : TypeId) (v : Value) : (w.alloc (.cells #[v] T)).ownsRow B T 1 (.slice (some ⟨w.heap.size, 0, none⟩) 1 1) 1 [v] :=
  ⟨rfl, .inr ⟨w.heap.size, 1, #[v], rfl, hB, heap_alloc_new _ _, Nat.le_refl _, by decide, rfl, rfl⟩⟩
theorem own_zero {w : World} {B : Nat} (hB : B ≤ w.heap.size) (T : TypeId) : (w.alloc (.cells #[] T)).ownsRow B T 1 (.slice (some ⟨w.heap.size, 0, none⟩) 0 0) 0 [] :=
  ⟨by decide, .inr ⟨w.heap.size, 0, #[], rfl, hB, heap_alloc_new _ _, by decide, by decide, by decide, rfl⟩⟩
theorem own_nilcap {w : World} {B k n s c : Nat} {T : TypeId} {xs : List Value} (h : w.ownsRow B T s (.slice none k c) n xs) : c = 0 := by
  rcases h.2 with ⟨e, _⟩ | ⟨g, cap, cur, e, _⟩
  · cases e; rfl
  · cases e
theorem own_kept {w w' : World} {B n s : Nat} {T : TypeId} {v : Value} {xs : List Value} (h : w.ownsRow B T s v n xs) (hb : Below w.heap.size w w') : w'.ownsRow B T s v n xs :=
  ownsRow_chg (G := fun _ => False) h (Chg.of_below hb) (fun _ _ _ h => h)
theorem BytesAt.below {w w' : World} {F : Nat → Prop} {v : Value} {l : List UInt8} (h : BytesAt w F v l) (hb : Below w.heap.size w w') : BytesAt w' F v l := h.kept (G := fun _ => False) (Chg.of_below hb) (fun _ _ h => h)
theorem BytesAt.form {w : World} {F : Nat → Prop} {v : Value} {l : List UInt8} (h : BytesAt w F v l) : ∃ a cap, v = .slice a l.length cap := by obtain ⟨a, c, e, _⟩ := h; exact ⟨a, c, e⟩
/-- Every byte slice that exists: no matter where. -/
abbrev BytesIn (w : World) (v : Value) (l : List UInt8) : Prop := BytesAt w (fun _ => True) v l
theorem BytesAt.any {w : World} {F : Nat → Prop} {v : Value} {l : List UInt8} (h : BytesAt w F v l) : BytesIn w v l := h.mono (fun _ _ => trivial)
theorem own_bytes {w : World} {B n : Nat} {T : TypeId} {v : Value} {l : List UInt8} (h : w.ownsRow B T 1 v n (bvs l)) : BytesAt w (fun k => B ≤ k) v l := ownsRow_bytes h (by simpa using h.1)
/-- One byte of it. -/
theorem BytesAt.get {w : World} {F : Nat → Prop} {l : List UInt8} {a : Option Addr} {n cap i : Nat} (h : BytesAt w F (.slice a n cap) l) (hi : i < l.length) : ∃ g off, a = some ⟨g, off, none⟩ ∧ w.cell? ⟨g, off + i, none⟩ = some (.int .u8 (l[i].toNat : Int)) := by
  obtain ⟨a', cap', e, hc, hr⟩ := h
  cases e
  obtain ⟨g, off, rfl, _, _, hr⟩ := hr (by intro e; rw [e] at hi; simp at hi)
  exact ⟨g, off, rfl, hr i _ (by rw [bvs_getElem?, List.getElem?_eq_getElem hi]; rfl)⟩
/-- A part of it. -/
theorem BytesAt.part {w : World} {F : Nat → Prop} {l : List UInt8} {g off cap : Nat} (h : BytesAt w F (.slice (some ⟨g, off, none⟩) l.length cap) l) (i n c : Nat) (hn : i + n ≤ l.length) (hc : n ≤ c) :
    BytesAt w F (.slice (some ⟨g, off + i, none⟩) n c) ((l.drop i).take n) := by
  obtain ⟨a', cap', e, hc', hr⟩ := h
  cases e
  have hl : ((l.drop i).take n).length = n := by simp; omega
  refine ⟨some ⟨g, off + i, none⟩, c, by rw [hl], by rw [hl]; exact hc, fun hne => ?_⟩
  obtain ⟨g', off', e', hF, hg, hr⟩ := hr (by intro e; rw [e] at hne; simp at hne)
  cases e'
  refine ⟨g, off + i, rfl, hF, hg, fun j u hu => ?_⟩
  rw [Nat.add_assoc]
  refine hr (i + j) u ?_
  rw [bvs_getElem?, List.getElem?_take] at hu
  split at hu
  · rw [bvs_getElem?, ← List.getElem?_drop]; exact hu
  · cases hu
theorem below_drewN2 (w : World) (n B : Nat) : Below B w (w.drewN n) := ⟨rfl, rfl, rfl, Nat.le_refl _, fun _ _ => rfl⟩
theorem BytesAt.drewN {w : World} {F : Nat → Prop} {v : Value} {l : List UInt8} (h : BytesAt w F v l) (n : Nat) : BytesAt (w.drewN n) F v l := h.below (below_drewN2 w n _)
theorem BytesAt.here {w : World} {F : Nat → Prop} {v : Value} {l : List UInt8} (h : BytesAt w F v l) : BytesAt w (fun k => k < w.heap.size) v l := h.mono' (fun _ hk _ => hk)
theorem bytesAt_empty (w : World) (F : Nat → Prop) (a : Option Addr) (c : Nat) : BytesAt w F (.slice a 0 c) [] := ⟨a, c, rfl, Nat.zero_le _, fun h => absurd rfl h⟩
theorem BytesAt.addr {w : World} {F : Nat → Prop} {l : List UInt8} {a : Option Addr} {n cap : Nat} (h : BytesAt w F (.slice a n cap) l) (hl : l ≠ []) : ∃ g off, a = some ⟨g, off, none⟩ := by
  obtain ⟨a', c', e, _, hr⟩ := h
  cases e
  obtain ⟨g, off, e, _⟩ := hr hl
  exact ⟨g, off, e⟩
theorem BytesAt.len {w : World} {F : Nat → Prop} {l : List UInt8} {a : Option Addr} {n cap : Nat} (h : BytesAt w F (.slice a n cap) l) : n = l.length ∧ n ≤ cap := by
  obtain ⟨a', c', e, hc, _⟩ := h
  cases e
  exact ⟨rfl, hc⟩
/-- Into l at i. -/
def spliceL (l : List UInt8) (i : Nat) (c : List UInt8) : List UInt8 := l.take i ++ c ++ l.drop (i + c.length)
theorem spliceL_length (l : List UInt8) (i : Nat) (c : List UInt8) (h : i + c.length ≤ l.length) : (spliceL l i c).length = l.length := by simp [spliceL]; omega
theorem setRow_chg {F : Nat → Prop} {w : World} (g : Nat) (cs : Array Value) (h : F g) : Chg F w (w.setRow g cs) := ⟨rfl, rfl, rfl, by simp [World.setRow], fun k _ hf => setRow_other w g k cs (fun e => hf (e ▸ h))⟩
theorem sizeU8b : (Tryd.prog.info? 5).map (·.size) = some 1 := by kernel_rfl
/-- Bytes copied into a block of bytes. -/
theorem wpList_copyBytes {ops : Array Oper} {rest : List Oper} {o : Oper} {a : Act} {w : World} {Q : Exit → Act → World → Prop} (hgd : o.guard = none) (d s : Operand)
    (ho : o.op = .call { callee := .builtin .copy, args := #[d, s], argTypes := #[36, 36] }) {g off dLen dCap : Nat} {cur : List UInt8} {T : TypeId} {sv : Value} {F : Nat → Prop} {l : List UInt8}
    (hd : a.eval d = .slice (some ⟨g, off, none⟩) dLen dCap) (hs : a.eval s = sv) (hb : BytesAt w F sv l) (hg : w.heap[g]? = some (.cells (bvs cur).toArray T (0, 0))) (hfit : off + min l.length dLen ≤ cur.length)
    (h : ∀ w', w'.heap[g]? = some (.cells (bvs (spliceL cur off (l.take dLen))).toArray T (0, 0)) → Chg (fun k => k = g) w w' → wpList Tryd.prog ops Q rest (a.put o.dst (.int .i64 ((l.take dLen).length : Int))) w') :
    wpList Tryd.prog ops Q (o :: rest) a w := by
  obtain ⟨sa, sc, rfl, hsc, hr⟩ := hb
  have hl : (bvs (l.take dLen)).length = Nat.min l.length dLen := by simp [Nat.min_comm]
  by_cases h0 : l.take dLen = []
  · have hz : Nat.min l.length dLen = 0 := by rw [← hl, h0]; rfl
    refine wpList_copy_nothing hgd d s 36 36 ho 5 Tryd.underlying36 sizeU8b _ _ dLen dCap l.length sc hd hs hz ?_
    have h2 := h w (by rw [h0]; simpa [spliceL] using hg) (Chg.refl _ _)
    rw [h0] at h2
    exact h2
  · have hne : l ≠ [] := fun e => h0 (by rw [e]; simp)
    obtain ⟨g2, off2, rfl, _, _, hr⟩ := hr hne
    refine wpList_copy_own hgd d s 36 36 ho 5 Tryd.underlying36 sizeU8b g off dLen dCap ⟨g2, off2, none⟩ l.length sc hd hs (bvs cur).toArray T hg (bvs (l.take dLen)) hl ?_ ?_ bvs_oneCell ?_
    · intro j v hv
      have hadd : (⟨g2, off2, none⟩ : Addr).add j = ⟨g2, off2 + j, none⟩ := by unfold Addr.add; split <;> simp_all
      rw [hadd]
      refine hr j v ?_
      rw [bvs_getElem?, List.getElem?_take] at hv
      split at hv
      · rw [bvs_getElem?]; exact hv
      · cases hv
    · rw [hl, List.size_toArray, bvs_length]; exact hfit
    · have ea : ((bvs cur).toArray.toList.take off ++ (bvs (l.take dLen) ++ (bvs cur).toArray.toList.drop (off + (bvs (l.take dLen)).length))).toArray = (bvs (spliceL cur off (l.take dLen))).toArray := by
        rw [bvs_length]
        simp [bvs, spliceL, List.map_take, List.map_drop]
      have h2 := h (w.setRow g (bvs (spliceL cur off (l.take dLen))).toArray) (setRow_heap _ _ _ _ _ _ hg) (setRow_chg g _ rfl)
      rw [ea, bvs_length]
      exact h2
end Go.Proofs.YtplclpileejemaaDoor

namespace Go.Proofs.YtplclpileejemaaDoor
open Go.RowKit
set_option linter.unusedVariables false
set_option linter.unusedSimpArgs false

/-- What an element type looks like. -/
structure ElemTy (P : Program) (sT T : TypeId) (α : Type) where
  enc : α → List Value
  k : Nat
  hu : P.underlying sT = some (.slice T)
  hi : ∃ z bytes, (P.info? T).map (fun i => (i.zero, i.size, i.bytes)) = some (some z, k, bytes) ∧ z.cells.size = k ∧ bytes ≤ 100000
  hk : 0 < k
  len : ∀ x, (enc x).length = k
  one : ∀ x, ∀ v ∈ enc x, v.oneCell' = true

section
variable {P : Program} {sT T : TypeId} {α : Type} (E : ElemTy P sT T α) {w w' : World} {B : Nat} {v : Value} {L M : List α}

theorem flat_length (L : List α) : (L.flatMap E.enc).length = L.length * E.k := by
  induction L with
  | nil => simp
  | cons x L ih => rw [List.flatMap_cons, List.length_append, ih, E.len, List.length_cons, Nat.add_mul, Nat.one_mul, Nat.add_comm]
theorem flat_get {L : List α} {i : Nat} (hi : i < L.length) {j : Nat} (hj : j < E.k) : (L.flatMap E.enc)[i * E.k + j]? = (E.enc L[i])[j]? := by
  induction L generalizing i with
  | nil => simp at hi
  | cons x L ih =>
    rw [List.flatMap_cons]
    cases i with
    | zero =>
      rw [Nat.zero_mul, Nat.zero_add, List.getElem?_append_left (by rw [E.len]; exact hj)]
      rfl
    | succ i =>
      have e : (i + 1) * E.k + j = E.k + (i * E.k + j) := by rw [Nat.add_mul, Nat.one_mul]; omega
      rw [e, List.getElem?_append_right (by rw [E.len]; omega), E.len, Nat.add_sub_cancel_left]
      exact ih (by simpa using hi)
theorem flat_one (L : List α) : ∀ v ∈ L.flatMap E.enc, v.oneCell' = true := by
  intro v hv
  obtain ⟨x, _, hx⟩ := List.mem_flatMap.1 hv
  exact E.one x v hx
theorem flat_take (L : List α) (n : Nat) : (L.take n).flatMap E.enc = (L.flatMap E.enc).take (n * E.k) := by
  induction L generalizing n with
  | nil => simp
  | cons x L ih =>
    cases n with
    | zero => simp
    | succ n =>
      rw [List.take_succ_cons, List.flatMap_cons, List.flatMap_cons, ih, List.take_append, E.len, List.take_of_length_le (l := E.enc x) (by rw [E.len, Nat.add_mul]; omega)]
      congr 2
      rw [Nat.add_mul]
      omega

/-- The slice value v is a row of its own, from block B on, of the list L. -/
def OwnL (w : World) (B : Nat) (v : Value) (L : List α) : Prop := w.ownsRow B T E.k v L.length (L.flatMap E.enc)
/-- The slice value v reads as the list L. -/
structure ListAt (w : World) (v : Value) (L : List α) : Prop where
  ex : ∃ a cap, v = .slice a L.length cap ∧ L.length ≤ cap ∧ cap ≤ maxLen ∧ (a = none → cap = 0) ∧ (L ≠ [] → ∃ g off, a = some ⟨g, off, none⟩ ∧ g < w.heap.size ∧ ∀ i (h : i < L.length), w.rangeAt g (off + i * E.k) (E.enc L[i]))
variable {E}
theorem OwnL.form (h : OwnL E w B v L) : ∃ a cap, v = .slice a L.length cap := ownsRow_form h
theorem OwnL.below (h : OwnL E w B v L) (hb : Below w.heap.size w w') : OwnL E w' B v L := own_kept h hb
theorem OwnL.base (h : OwnL E w B v L) {B' : Nat} (hB : B' ≤ B) : OwnL E w B' v L := ownsRow_base h hB
theorem OwnL.chg {F : Nat → Prop} (h : OwnL E w B v L) (hc : Chg F w w') (hd : ∀ k, v.ownBlock = some k → ¬ F k) : OwnL E w' B v L := ownsRow_chg' h hc hd
theorem OwnL.lt (h : OwnL E w B v L) {k : Nat} (hk : v.ownBlock = some k) : B ≤ k ∧ k < w.heap.size := ownsRow_lt h k hk
theorem ownL_nil (E : ElemTy P sT T α) (w : World) (B : Nat) : OwnL E w B (.slice none 0 0) [] := ⟨by simp, .inl ⟨rfl, rfl⟩⟩
theorem ownL_zero (E : ElemTy P sT T α) {B : Nat} (hB : B ≤ w.heap.size) : OwnL E (w.alloc (.cells #[] T)) B (.slice (some ⟨w.heap.size, 0, none⟩) 0 0) [] :=
  ⟨by simp, .inr ⟨w.heap.size, 0, #[], rfl, hB, heap_alloc_new _ _, Nat.le_refl _, by unfold maxLen; omega, by simp, by simp⟩⟩
theorem ListAt.form (h : ListAt E w v L) : ∃ a cap, v = .slice a L.length cap := by obtain ⟨a, c, e, _⟩ := h.ex; exact ⟨a, c, e⟩
theorem ListAt.len {a : Option Addr} {n c : Nat} (h : ListAt E w (.slice a n c) L) : n = L.length ∧ n ≤ c ∧ c ≤ maxLen ∧ (a = none → c = 0) := by
  obtain ⟨a', c', e, h1, h2, h3, _⟩ := h.ex
  cases e
  exact ⟨rfl, h1, h2, h3⟩
theorem listAt_nil (E : ElemTy P sT T α) (w : World) : ListAt E w (.slice none 0 0) [] := ⟨none, 0, rfl, Nat.le_refl _, Nat.zero_le _, fun _ => rfl, fun h => absurd rfl h⟩
theorem OwnL.at_ (h : OwnL E w B v L) : ListAt E w v L := by
  obtain ⟨a, cap, rfl⟩ := h.form
  have hh : w.ownsRow B T E.k (.slice a L.length cap) L.length (L.flatMap E.enc) := h
  rcases hh.2 with ⟨e, h0⟩ | ⟨g, cap', cur, e, _, hg, hc, hm, hs, ht⟩
  · simp only [Value.slice.injEq] at e
    obtain ⟨rfl, _, rfl⟩ := e
    exact ⟨none, 0, rfl, by omega, Nat.zero_le _, fun _ => rfl, fun hne => absurd (List.eq_nil_of_length_eq_zero h0) hne⟩
  · simp only [Value.slice.injEq] at e
    obtain ⟨rfl, _, rfl⟩ := e
    refine ⟨_, cap, rfl, hc, hm, (fun e => by cases e), fun _ => ⟨g, 0, rfl, (Array.getElem?_eq_some_iff.1 hg).1, fun i hi j u hu => ?_⟩⟩
    have hj : j < E.k := by have := (List.getElem?_eq_some_iff.1 hu).1; rw [E.len] at this; exact this
    rw [cell_of_row w g _ cur _ _ hg, Nat.zero_add]
    have h2 := flat_get E hi hj
    have hlt : i * E.k + j < L.length * E.k := by
      calc i * E.k + j < i * E.k + E.k := by omega
        _ = (i + 1) * E.k := by rw [Nat.add_mul, Nat.one_mul]
        _ ≤ L.length * E.k := Nat.mul_le_mul_right _ hi
    rw [← ht, List.getElem?_take, if_pos hlt, hu] at h2
    simpa using h2
theorem ListAt.below (h : ListAt E w v L) (hb : Below w.heap.size w w') : ListAt E w' v L := by
  obtain ⟨a, c, e, h1, h2, h3, h4⟩ := h.ex
  refine ⟨a, c, e, h1, h2, h3, fun hne => ?_⟩
  obtain ⟨g, off, e, hg, hr⟩ := h4 hne
  exact ⟨g, off, e, Nat.lt_of_lt_of_le hg hb.size, fun i hi j u hu => (hb.cell (p := ⟨g, off + i * E.k + j, none⟩) hg).trans (hr i hi j u hu)⟩
/-- Where an element lies. -/
theorem ListAt.get {a : Option Addr} {n c : Nat} (h : ListAt E w (.slice a n c) L) {i : Nat} (hi : i < L.length) : ∃ g off, a = some ⟨g, off, none⟩ ∧ g < w.heap.size ∧ w.rangeAt g (off + i * E.k) (E.enc L[i]) := by
  obtain ⟨a', c', e, _, _, _, h4⟩ := h.ex
  cases e
  obtain ⟨g, off, e, hg, hr⟩ := h4 (fun e => by rw [e] at hi; simp at hi)
  exact ⟨g, off, e, hg, hr i hi⟩
/-- The first k of them. -/
theorem ListAt.take {a : Option Addr} {n c k : Nat} (h : ListAt E w (.slice a n c) L) (hk : k ≤ n) : ListAt E w (.slice a k c) (L.take k) := by
  obtain ⟨a', c', e, h1, h2, h3, h4⟩ := h.ex
  cases e
  have hl : (L.take k).length = k := by rw [List.length_take]; omega
  refine ⟨a, c, by rw [hl], by omega, h2, h3, fun hne => ?_⟩
  obtain ⟨g, off, e, hg, hr⟩ := h4 (fun e => hne (by rw [e, List.take_nil]))
  refine ⟨g, off, e, hg, fun i hi => ?_⟩
  rw [hl] at hi
  rw [List.getElem_take]
  exact hr i (by omega)
/-- What is behind the first k of them. -/
theorem ListAt.drop {g off n c k : Nat} (h : ListAt E w (.slice (some ⟨g, off, none⟩) n c) L) (hk : k ≤ n) : ListAt E w (.slice (some ⟨g, off + k * E.k, none⟩) (n - k) (c - k)) (L.drop k) := by
  obtain ⟨a', c', e, h1, h2, h3, h4⟩ := h.ex
  cases e
  refine ⟨_, _, by rw [List.length_drop], by rw [List.length_drop]; omega, by omega, (fun e => by cases e), fun hne => ?_⟩
  obtain ⟨g', off', e, hg, hr⟩ := h4 (fun e => hne (by rw [e, List.drop_nil]))
  cases e
  refine ⟨g, _, rfl, hg, fun i hi => ?_⟩
  rw [List.length_drop] at hi
  rw [List.getElem_drop]
  have := hr (k + i) (by omega)
  rwa [Nat.add_mul, ← Nat.add_assoc] at this
/-- A block made out of one element. -/
theorem listAt_one (E : ElemTy P sT T α) (w : World) (x : α) : ListAt E (w.alloc (.cells (E.enc x).toArray T)) (.slice (some ⟨w.heap.size, 0, none⟩) 1 1) [x] := by
  refine ⟨_, 1, rfl, Nat.le_refl _, by unfold maxLen; omega, (fun e => by cases e), fun _ => ⟨w.heap.size, 0, rfl, by simp, fun i hi j u hu => ?_⟩⟩
  obtain rfl : i = 0 := by simpa using hi
  rw [cell_of_row _ _ _ _ _ _ (heap_alloc_new w (.cells (E.enc x).toArray T))]
  simpa using hu
theorem one_below (E : ElemTy P sT T α) (w : World) (x : α) : Below w.heap.size w (w.alloc (.cells (E.enc x).toArray T)) := (Below.refl _ _).alloc (Nat.le_refl _) _

/-- append(s, t...), as a run. -/
theorem run_appL (E : ElemTy P sT T α) {ty : TypeId} {xv : Value} (hown : OwnL E w B v L) (hM : ListAt E w xv M) (hn : L.length + M.length < 1000000000) (hB : B ≤ w.heap.size) :
    ∃ a' cap' w', (Builtin.append_ #[sT, sT] ty #[v, xv]).run P w = .ok (.slice a' (L.length + M.length) cap') w' ∧ OwnL E w' B (.slice a' (L.length + M.length) cap') (L ++ M) ∧ w.grownBy w' v.ownBlock ∧
      (∀ k, (Value.slice a' (L.length + M.length) cap').ownBlock = some k → v.ownBlock = some k ∨ w.heap.size ≤ k) := by
  obtain ⟨z, bytes, hinfo, hz, hb⟩ := E.hi
  obtain ⟨i0, hi, hz0, hz1, hz2⟩ := info_parts hinfo
  obtain ⟨a, c, rfl, h1, h2, h3, h4⟩ := hM.ex
  cases a with
  | none =>
    obtain rfl := h3 rfl
    have hM0 : M.length = 0 := by omega
    have hM1 : M = [] := List.eq_nil_of_length_eq_zero hM0
    subst hM1
    obtain ⟨va, vc, rfl⟩ := hown.form
    have hrun := run_append_owned_none (P := P) (w := w) B sT ty T i0 E.k E.hu hi _ L.length _ hown
    exact ⟨va, vc, w, by simpa using hrun, by simpa using hown, ⟨rfl, rfl, rfl, Nat.le_refl _, fun _ _ _ => rfl⟩, fun k hk => .inl (by simpa using hk)⟩
  | some ad =>
    have hcells : ∀ j u, (M.flatMap E.enc)[j]? = some u → w.cell? (ad.add j) = some u := by
      intro j u hj
      have hjl : j < M.length * E.k := by have := (List.getElem?_eq_some_iff.1 hj).1; rw [flat_length] at this; exact this
      have hk := E.hk
      have hne : M ≠ [] := fun e => by rw [e] at hjl; simp at hjl
      obtain ⟨g, off, e, hg, hr⟩ := h4 hne
      cases e
      rw [Addr.add_mid]
      have hi : j / E.k < M.length := Nat.div_lt_of_lt_mul (by rw [Nat.mul_comm]; exact hjl)
      have hjj : j % E.k < E.k := Nat.mod_lt _ hk
      have hdm : j / E.k * E.k + j % E.k = j := by rw [Nat.mul_comm]; exact Nat.div_add_mod j E.k
      have h5 := flat_get E hi hjj
      rw [hdm, hj] at h5
      have h6 := hr (j / E.k) hi (j % E.k) u h5.symm
      rwa [Nat.add_assoc, hdm] at h6
    have hbb : (L.length + M.length) * bytes ≤ 140737488355328 := Nat.le_trans (Nat.mul_le_mul (show _ ≤ 1000000000 by omega) hb) (by decide)
    obtain ⟨v1, w1, hrun, hown', hg1, _, h5⟩ := run_append_own_at (P := P) w B sT ty T i0 z E.k bytes E.hu hi hz0 hz1 hz2 hz E.hk v L.length _ hown ad M.length c (M.flatMap E.enc) (flat_length E M) hcells (flat_one E M) (by unfold maxLen; omega) hbb hB
    have hblk : ∀ k, v1.ownBlock = some k → v.ownBlock = some k ∨ w.heap.size ≤ k := by
      intro k hk
      rcases h5 with h5 | h5
      · exact .inl (h5 ▸ hk)
      · rw [h5] at hk; cases hk; exact .inr (Nat.le_refl _)
    obtain ⟨a', cap', rfl⟩ := ownsRow_form hown'
    refine ⟨a', cap', w1, hrun, ?_, hg1, hblk⟩
    show w1.ownsRow B T E.k _ (L ++ M).length ((L ++ M).flatMap E.enc)
    rw [List.length_append, List.flatMap_append]
    exact hown'
theorem OwnL.grown_below (h : OwnL E w B v L) (hg : w.grownBy w' v.ownBlock) (hB : B ≤ w.heap.size) : Below B w w' := (Below.refl _ _).grown hg hB (fun j hj => (h.lt hj).1)
theorem OwnL.grown_chg (hg : w.grownBy w' v.ownBlock) : Chg (fun k => v.ownBlock = some k) w w' := Chg.grown hg (fun k hk => .inl hk)
/-- append(s, t...), as an operation. -/
theorem wp_appL {o : Oper} {a : Act} {Q : Exit → Act → World → Prop} {K : Act → World → Prop} (E : ElemTy P sT T α) (s x : Operand) (ho : o.op = .call { callee := .builtin .append, args := #[s, x], argTypes := #[sT, sT] })
    {xv : Value} (hs : a.eval s = v) (hown : OwnL E w B v L) (hx : a.eval x = xv) (hM : ListAt E w xv M) {n m : Nat} (hL : L.length = n) (hm : M.length = m) (hn : n + m < 1000000000) (hB : B ≤ w.heap.size)
    (h : ∀ a' cap' w', OwnL E w' B (.slice a' (n + m) cap') (L ++ M) → w.grownBy w' v.ownBlock → (∀ k, (Value.slice a' (n + m) cap').ownBlock = some k → v.ownBlock = some k ∨ w.heap.size ≤ k) → K (a.put o.dst (.slice a' (n + m) cap')) w') : o.wp P a w K Q := by
  subst hL
  subst hm
  obtain ⟨a', cap', w', hrun, h1, h2, h3⟩ := run_appL E (ty := o.type) hown hM hn hB
  unfold Oper.wp execOp
  simp only [ho, resolve, invoke, builtin, Sem.run_bind, Sem.run_pure, Result.andThen_ok, List.map_toArray, List.map_cons, List.map_nil, hs, hx, hrun]
  exact h a' cap' w' h1 h2 h3
theorem wpList_appL {ops : Array Oper} {rest : List Oper} {o : Oper} {a : Act} {Q : Exit → Act → World → Prop} (E : ElemTy P sT T α) (hgd : o.guard = none) (s x : Operand) (ho : o.op = .call { callee := .builtin .append, args := #[s, x], argTypes := #[sT, sT] })
    {xv : Value} (hs : a.eval s = v) (hown : OwnL E w B v L) (hx : a.eval x = xv) (hM : ListAt E w xv M) {n m : Nat} (hL : L.length = n) (hm : M.length = m) (hn : n + m < 1000000000) (hB : B ≤ w.heap.size)
    (h : ∀ a' cap' w', OwnL E w' B (.slice a' (n + m) cap') (L ++ M) → w.grownBy w' v.ownBlock → (∀ k, (Value.slice a' (n + m) cap').ownBlock = some k → v.ownBlock = some k ∨ w.heap.size ≤ k) → wpList P ops Q rest (a.put o.dst (.slice a' (n + m) cap')) w') : wpList P ops Q (o :: rest) a w :=
  wpList_plain hgd fun _ hK => wp_appL E s x ho hs hown hx hM hL hm hn hB fun a' cap' w' h1 h2 h3 => hK _ _ (h a' cap' w' h1 h2 h3)
end

end Go.Proofs.YtplclpileejemaaDoor

namespace Go.Proofs.YtplclpileejemaaDoor
open Go.RowKit
set_option linter.unusedVariables false
set_option linter.unusedSimpArgs false

theorem wpList_lit1 {P : Program} {ops : Array Oper} {rest : List Oper} {o : Oper} {a : Act} {w : World} {Q : Exit → Act → World → Prop} (hg : o.guard = none) (s e : TypeId) (y : Operand) (ho : o.op = .buildSlice s 1 #[(0, y)])
    (c : Array Value) (hy : a.eval y = .agg c) {we : World} (hwe : w.alloc (.cells c e) = we)
    (hu : P.underlying s = some (.slice e)) (hsz : (P.info? e).map (·.size) = some c.size) (hz : ((P.info? e).bind (·.zero)).isSome = true) (hpos : 0 < c.size) (hsmall : c.size ≤ 2 ^ 24)
    (h : wpList P ops Q rest (a.put o.dst (.slice (some ⟨w.heap.size, 0, none⟩) 1 1)) we) : wpList P ops Q (o :: rest) a w := by
  cases hie : P.info? e with
  | none => simp [hie] at hsz
  | some ie =>
    simp only [hie, Option.map_some, Option.some.injEq, Option.bind_some] at hsz hz
    obtain ⟨z, hzz⟩ := Option.isSome_iff_exists.1 hz
    have hf := Great.fill_whole (s := ie.size) (by rw [hsz]; exact hpos) [.agg c] ((Array.range (1 * ie.size)).map (z.cells[· % z.cells.size]!)) (by
      intro v hv
      simp only [List.mem_singleton] at hv
      subst hv
      exact hsz.symm) (by simp)
    refine wpList_buildSlice hg s e 1 _ ho c ie z hu hie hzz (by omega) (by omega) ?_ (hwe ▸ h)
    rw [show (Array.map (fun x : Nat × Operand => match x with | (i, x) => (i, a.eval x)) #[(0, y)]).toList = [(0, Value.agg c)] from by simp [hy]]
    simpa [Value.cells] using hf

/-- make([]T, 0, c): a row of its own, empty. -/
theorem run_mkL {P : Program} {sT T : TypeId} {α : Type} (E : ElemTy P sT T α) (w : World) {B : Nat} (c : Nat) (hc : c ≤ 1000000000) (hB : B ≤ w.heap.size) :
    ∃ w', (Instr.makeSlice sT (.int .i64 0) (.int .i64 (c : Int))).run P w = .ok (.slice (some ⟨w.heap.size, 0, none⟩) 0 c) w' ∧ OwnL E w' B (.slice (some ⟨w.heap.size, 0, none⟩) 0 c) [] ∧ Below w.heap.size w w' := by
  obtain ⟨z, bytes, hinfo, hz, hb⟩ := E.hi
  obtain ⟨i0, hi, hz0, hz1, hz2⟩ := info_parts hinfo
  have h1 : i0.bytes * c ≤ 100000 * 1000000000 := Nat.mul_le_mul (by omega) hc
  obtain ⟨w', hr, ho, hg⟩ := run_make_own (P := P) w B sT T i0 z E.k E.hu hi hz0 hz1 .i64 .i64 c (by omega) (by unfold maxLen; omega) hB
  exact ⟨w', hr, ho, (Below.refl _ _).grown hg (Nat.le_refl _) (fun k h => by cases h)⟩

end Go.Proofs.YtplclpileejemaaDoor

namespace Go.Proofs.YtplclpileejemaaDoor
open Go.RowKit
set_option linter.unusedVariables false
set_option linter.unusedSimpArgs false

section
variable {P : Program} {sT T : TypeId} {α : Type} (E : ElemTy P sT T α)
/-- []T{x, y, ..}: a block of the elements side by side. -/
theorem run_lits (M : List α) (h0 : 0 < M.length) (h1 : M.length * E.k ≤ 2 ^ 24) (w : World) :
    (Instr.buildSlice sT M.length ((M.map fun x => Value.agg (E.enc x).toArray).zipIdx.map fun x => (x.2, x.1)).toArray).run P w = .ok (.slice (some ⟨w.heap.size, 0, none⟩) M.length M.length) (w.alloc (.cells (M.flatMap E.enc).toArray T)) := by
  obtain ⟨z, bytes, hinfo, hz, hb⟩ := E.hi
  obtain ⟨i0, hi, hz0, hz1, hz2⟩ := info_parts hinfo
  have hf := Great.fill_whole (s := E.k) E.hk (M.map fun x => Value.agg (E.enc x).toArray) ((Array.range (M.length * i0.size)).map (z.cells[· % z.cells.size]!)) (by
    intro v hv
    obtain ⟨x, _, rfl⟩ := List.mem_map.1 hv
    show (E.enc x).toArray.size = E.k
    rw [List.size_toArray, E.len]) (by rw [List.length_map, Array.size_map, Array.size_range, hz1])
  have he : ((M.map fun x => Value.agg (E.enc x).toArray).flatMap fun v => v.cells.toList) = M.flatMap E.enc := by
    rw [List.flatMap_map]
    rfl
  rw [he] at hf
  have hp := E.hk
  have hpos : 0 < M.length * E.k := Nat.mul_pos h0 hp
  exact run_buildSlice w sT T M.length _ _ i0 z E.hu hi hz0 (by rw [hz1]; omega) (by rw [hz1]; omega) (by rw [hz1] at hf ⊢; exact hf)
theorem list_of_block {w : World} {b : Nat} {M : List α} (h : w.heap[b]? = some (.cells (M.flatMap E.enc).toArray T (0, 0))) (hm : M.length ≤ maxLen) : ListAt E w (.slice (some ⟨b, 0, none⟩) M.length M.length) M := by
  refine ⟨_, _, rfl, Nat.le_refl _, hm, (fun e => by cases e), fun _ => ⟨b, 0, rfl, (Array.getElem?_eq_some_iff.1 h).1, fun i hi j u hu => ?_⟩⟩
  rw [cell_of_row _ _ _ _ _ _ h]
  have hj : j < E.k := by have := (List.getElem?_eq_some_iff.1 hu).1; rw [E.len] at this; exact this
  have := flat_get E hi hj
  rw [Nat.zero_add]
  rw [hu] at this
  simpa using this
end
theorem all_oneCell_cells {P : Program} {sT T : TypeId} {α : Type} (E : ElemTy P sT T α) (x : α) : (E.enc x).toArray.all (·.oneCell') = true := all_oneCell_toArray (E.one x)
section
variable {P : Program} {sT T : TypeId} {α : Type} {ops : Array Oper} {rest : List Oper} {o : Oper} {a : Act} {w : World} {Q : Exit → Act → World → Prop}
theorem wpList_runI (hg : o.guard = none) (dst : Option Tmp) (hdst : o.dst = dst) (v : Value) (w' : World) (hrun : (execOp a.eval o).run P w = .ok (.value v) w') (h : wpList P ops Q rest (a.put dst v) w') : wpList P ops Q (o :: rest) a w := by
  subst hdst
  refine wpList_plain hg fun K hK => ?_
  unfold Oper.wp
  rw [hrun, Oper.upon_value]
  exact hK _ _ h
theorem exec_build {ρ : Operand → Value} {t : TypeId} {parts : Array (Nat × Operand)} (ho : o.op = .build t parts) {ps : Array (Nat × Value)} (hps : (parts.map fun (i, x) => (i, ρ x)) = ps) {v : Value} {w' : World}
    (h : (Instr.build t ps).run P w = .ok v w') : (execOp ρ o).run P w = .ok (.value v) w' := by
  unfold execOp
  simp only [ho, hps, Sem.run_bind, h, Result.andThen_ok]
  rfl
theorem exec_buildSlice {ρ : Operand → Value} {t : TypeId} {n : Nat} {parts : Array (Nat × Operand)} (ho : o.op = .buildSlice t n parts) {ps : Array (Nat × Value)} (hps : (parts.map fun (i, x) => (i, ρ x)) = ps) {v : Value} {w' : World}
    (h : (Instr.buildSlice t n ps).run P w = .ok v w') : (execOp ρ o).run P w = .ok (.value v) w' := by
  unfold execOp
  simp only [ho, hps, Sem.run_bind, h, Result.andThen_ok]
  rfl
/-- A build whose value is known. -/
theorem wpList_buildV (hg : o.guard = none) (dst : Option Tmp) (hdst : o.dst = dst) (t : TypeId) (parts : Array (Nat × Operand)) (ho : o.op = .build t parts) (ps : List (Nat × Value)) (hps : (parts.toList.map fun (i, x) => (i, a.eval x)) = ps) (v : Value)
    (hrun : (Instr.build t ps.toArray).run P w = .ok v w) (h : wpList P ops Q rest (a.put dst v) w) : wpList P ops Q (o :: rest) a w :=
  wpList_runI hg dst hdst v w (exec_build ho (by rw [← hps, ← List.map_toArray]) hrun) h
/-- A slice literal: a new block. -/
theorem wpList_litsV (E : ElemTy P sT T α) (hg : o.guard = none) (dst : Option Tmp) (hdst : o.dst = dst) (n : Nat) (parts : Array (Nat × Operand)) (ho : o.op = .buildSlice sT n parts) (M : List α) (hn : M.length = n)
    (hps : (parts.toList.map fun (i, x) => (i, a.eval x)) = (M.map fun x => Value.agg (E.enc x).toArray).zipIdx.map fun x => (x.2, x.1)) (h0 : 0 < n) (h1 : n * E.k ≤ 2 ^ 24)
    (h : ∀ w', w'.heap[w.heap.size]? = some (.cells (M.flatMap E.enc).toArray T (0, 0)) → Below w.heap.size w w' → w'.heap.size = w.heap.size + 1 → wpList P ops Q rest (a.put dst (.slice (some ⟨w.heap.size, 0, none⟩) n n)) w') : wpList P ops Q (o :: rest) a w := by
  subst hn
  have hp : (parts.map fun (i, x) => (i, a.eval x)) = ((M.map fun x => Value.agg (E.enc x).toArray).zipIdx.map fun x => (x.2, x.1)).toArray := by rw [← hps, ← List.map_toArray]
  have hr := exec_buildSlice (w := w) ho hp (run_lits E M h0 h1 w)
  have hk : (w.alloc (.cells (M.flatMap E.enc).toArray T)).heap[w.heap.size]? = some (.cells (M.flatMap E.enc).toArray T (0, 0)) := heap_alloc_new _ _
  exact wpList_runI hg dst hdst _ _ hr (h _ hk ((Below.refl _ _).alloc (Nat.le_refl _) _) (by simp))
/-- A new variable: a block of zero cells. -/
theorem wpList_newV (hg : o.guard = none) (dst : Option Tmp) (hdst : o.dst = dst) (t : TypeId) (ho : o.op = .alloc t) (zs : Array Value) (sz : Nat) (hi : (P.info? t).map (fun i => (i.zero, i.size)) = some (some (.agg zs), sz))
    (h : ∀ w', w'.heap[w.heap.size]? = some (.cells zs t (0, 0)) → Below w.heap.size w w' → w'.heap.size = w.heap.size + 1 → wpList P ops Q rest (a.put dst (.pointer (some ⟨w.heap.size, 0, none⟩))) w') : wpList P ops Q (o :: rest) a w := by
  refine wpList_runI hg dst hdst _ (w.alloc (.cells zs t)) ?_ (h _ (heap_alloc_new _ _) ((Below.refl _ _).alloc (Nat.le_refl _) _) (by simp))
  cases hq : P.info? t with
  | none => simp [hq] at hi
  | some i =>
    simp only [hq, Option.map_some, Option.some.injEq, Prod.mk.injEq] at hi
    unfold execOp
    simp [ho, Instr.alloc, zeroValue, typeInfo, hq, hi.1, newVar, newRow, newObj, go_sem, Value.cells]
    rfl
/-- A store of a whole row. -/
theorem wpList_putV (hgd : o.guard = none) (hdst : o.dst = none) (ty : TypeId) (x y : Operand) (ho : o.op = .store ty x y)
    (g : Nat) (cells : Array Value) (hx : a.eval x = .pointer (some ⟨g, 0, none⟩)) (hy : a.eval y = .agg cells)
    (t : TypeId) (old : Array Value) (hg : w.heap[g]? = some (.cells old t (0, 0))) (hi : (P.info? ty).map (·.size) = some cells.size)
    (hold : old.size = cells.size) (h1 : cells.all (·.oneCell') = true)
    (h : ∀ w', w'.heap[g]? = some (.cells cells t (0, 0)) → Chg (fun k => k = g) w w' → w'.heap.size = w.heap.size → wpList P ops Q rest a w') : wpList P ops Q (o :: rest) a w := by
  refine wpList_store_row hgd ty x y ho g cells hx hy t old hg hi hold h1 ?_
  rw [hdst]
  exact h _ (setRow_heap _ _ _ _ _ _ hg) ⟨rfl, rfl, rfl, by simp [World.setRow], fun k _ hk => setRow_other _ _ _ _ hk⟩ (by simp [World.setRow])
end
theorem wpList_met {P : Program} {ops : Array Oper} {Q : Exit → Act → World → Prop} {rest : List Oper} {a : Act} {w : World} {dst : Option Tmp} {op : Op} {ty : TypeId} {pos : String} {after : Array Edge} {g : Nat × Bool}
    (hw : Region.wanted ⟨dst, op, ty, pos, after, some g⟩ (yielded ops a.tmps) = true) (h : wpList P ops Q (⟨dst, op, ty, pos, after, none⟩ :: rest) a w) : wpList P ops Q (⟨dst, op, ty, pos, after, some g⟩ :: rest) a w := by
  have h2 : Region.wanted ⟨dst, op, ty, pos, after, none⟩ (yielded ops a.tmps) = true := rfl
  unfold wpList at h ⊢
  rw [if_pos hw]
  rw [if_pos h2] at h
  exact h
theorem wpList_loadV {P : Program} {ops : Array Oper} {rest : List Oper} {o : Oper} {a : Act} {w : World} {Q : Exit → Act → World → Prop} (hgd : o.guard = none) (dst : Option Tmp) (hdst : o.dst = dst) (ty : TypeId) (x : Operand) (ho : o.op = .load ty x)
    (g : Nat) (hx : a.eval x = .pointer (some ⟨g, 0, none⟩)) (t : TypeId) (cs : Array Value) (fr : Nat × Nat) (d : TypeDesc) (hg : w.heap[g]? = some (.cells cs t fr))
    (hu : P.underlying ty = some d) (hd : (match d with | .struct _ | .array _ _ => true | _ => false) = true) (hi : (P.info? ty).map (·.size) = some cs.size)
    (h : wpList P ops Q rest (a.put dst (.agg cs)) w) : wpList P ops Q (o :: rest) a w := by
  subst hdst
  exact wpList_load_row hgd ty x ho g hx t cs fr d hg hu hd hi h
def Stop (p : Prop) : Prop := p
theorem Stop.on {p : Prop} (h : Stop p) : p := h
theorem Stop.go {p : Prop} (h : p) : Stop p := h
theorem le_max4 {n : Nat} (h : n ≤ 4) : n ≤ maxLen := Nat.le_trans h (by unfold maxLen; omega)
theorem run_lit0 {P : Program} {sT T : TypeId} {α : Type} (E : ElemTy P sT T α) (w : World) : (Instr.buildSlice sT 0 #[]).run P w = .ok (.slice (some ⟨w.heap.size, 0, none⟩) 0 0) (w.alloc (.cells #[] T)) := by
  obtain ⟨z, bytes, hinfo, hz, hb⟩ := E.hi
  obtain ⟨i0, hi, hz0, hz1, hz2⟩ := info_parts hinfo
  have hr : Array.range 0 = #[] := rfl
  simp [Instr.buildSlice, run_underlying E.hu, sizeOf, typeInfo, zeroValue, hi, hz0, Go.newRow, hr, Instr.fill]
theorem wpList_lit0 {P : Program} {sT T : TypeId} {α : Type} {ops : Array Oper} {rest : List Oper} {o : Oper} {a : Act} {w : World} {Q : Exit → Act → World → Prop} (E : ElemTy P sT T α) (hg : o.guard = none) (dst : Option Tmp) (hdst : o.dst = dst) (ho : o.op = .buildSlice sT 0 #[])
    (h : ∀ w', OwnL E w' w.heap.size (.slice (some ⟨w.heap.size, 0, none⟩) 0 0) [] → Below w.heap.size w w' → wpList P ops Q rest (a.put dst (.slice (some ⟨w.heap.size, 0, none⟩) 0 0)) w') : wpList P ops Q (o :: rest) a w :=
  wpList_runI hg dst hdst _ _ (exec_buildSlice ho (ps := #[]) (by simp) (run_lit0 E w)) (h _ (ownL_zero E (Nat.le_refl _)) ((Below.refl _ _).alloc (Nat.le_refl _) _))
theorem cut_region {P : Program} {Q : Exit → Act → World → Prop} {id : Nat} {ops : Array Oper} {b : Bool} {a : Act} {w : World} (T : Act → Act → World → Prop)
    (h1 : (Code.region id ops b).wp P (fun e a' w' => e = .normal ∧ T a a' w') a w) (h2 : ∀ a' w', T a a' w' → Q .normal a' w') : (Code.region id ops b).wp P Q a w :=
  Code.wp_mono (fun e a' w' h => by obtain ⟨rfl, h⟩ := h; exact h2 _ _ h) h1
theorem list_block1 {P : Program} {sT T : TypeId} {α : Type} (E : ElemTy P sT T α) {w : World} {b : Nat} {x : α} (h : w.heap[b]? = some (.cells (E.enc x).toArray T (0, 0))) : ListAt E w (.slice (some ⟨b, 0, none⟩) 1 1) [x] :=
  list_of_block E (M := [x]) (by simpa using h) (le_max4 (by simp))
theorem op_neq {P : Program} {w : World} {ρ : Operand → Value} {o : Oper} {xs ys : Array Value} {b : Bool} (t : TypeId) (x y : Operand) (u : TypeId) (ho : o.op = .binOp .neq t x y u) (hx : ρ x = .agg xs) (hy : ρ y = .agg ys) (hg : P.eqGuardType P.depth t = false)
    (h : (binOp .neq t (.agg xs) (.agg ys)).run P w = .ok (.bool b) w) : (execOp ρ o).run P w = .ok (.value (.bool b)) w := by
  unfold execOp
  simp only [ho, hx, hy, Sem.run_bind, run_eqGuard_agg w .neq t x y xs ys hg, h, Result.andThen_ok]
  rfl
theorem op_eql {P : Program} {w : World} {ρ : Operand → Value} {o : Oper} {xs ys : Array Value} {b : Bool} (t : TypeId) (x y : Operand) (u : TypeId) (ho : o.op = .binOp .eql t x y u) (hx : ρ x = .agg xs) (hy : ρ y = .agg ys) (hg : P.eqGuardType P.depth t = false)
    (h : (binOp .eql t (.agg xs) (.agg ys)).run P w = .ok (.bool b) w) : (execOp ρ o).run P w = .ok (.value (.bool b)) w := by
  unfold execOp
  simp only [ho, hx, hy, Sem.run_bind, run_eqGuard_agg w .eql t x y xs ys hg, h, Result.andThen_ok]
  rfl
theorem wp_lit1 {P : Program} {o : Oper} {a : Act} {w : World} {K : Act → World → Prop} {Q : Exit → Act → World → Prop} (s e : TypeId) (y : Operand) (ho : o.op = .buildSlice s 1 #[(0, y)])
    (c : Array Value) (hy : a.eval y = .agg c)
    (hu : P.underlying s = some (.slice e)) (hsz : (P.info? e).map (·.size) = some c.size) (hz : ((P.info? e).bind (·.zero)).isSome = true) (hpos : 0 < c.size) (hsmall : c.size ≤ 2 ^ 24)
    (h : K (a.put o.dst (.slice (some ⟨w.heap.size, 0, none⟩) 1 1)) (w.alloc (.cells c e))) : o.wp P a w K Q := by
  cases hie : P.info? e with
  | none => simp [hie] at hsz
  | some ie =>
    simp only [hie, Option.map_some, Option.some.injEq, Option.bind_some] at hsz hz
    obtain ⟨z, hzz⟩ := Option.isSome_iff_exists.1 hz
    have hf := Great.fill_whole (s := ie.size) (by rw [hsz]; exact hpos) [.agg c] ((Array.range (1 * ie.size)).map (z.cells[· % z.cells.size]!)) (by
      intro v hv
      simp only [List.mem_singleton] at hv
      subst hv
      exact hsz.symm) (by simp)
    refine wp_buildSlice s e 1 _ ho c ie z hu hie hzz (by omega) (by omega) ?_ h
    rw [show (Array.map (fun x : Nat × Operand => match x with | (i, x) => (i, a.eval x)) #[(0, y)]).toList = [(0, Value.agg c)] from by simp [hy]]
    simpa [Value.cells] using hf
end Go.Proofs.YtplclpileejemaaDoor

namespace Go.Proofs.YtplclpileejemaaDoor
open Go.RowKit
set_option linter.unusedVariables false
set_option linter.unusedSimpArgs false

variable {P : Program} {ops : Array Oper} {rest : List Oper} {o : Oper} {a : Act} {w : World} {K : Act → World → Prop} {Q : Exit → Act → World → Prop}
theorem run_storeC {g i : Nat} {cs : Array Value} {T ty : TypeId} {v : Value} (hg : w.heap[g]? = some (.cells cs T (0, 0))) (hi : i < cs.size) (hv : v.oneCell' = true) (hsz : (P.info? ty).map (·.size) = some 1) : (Instr.storeAt ty (.pointer (some ⟨g, i, none⟩)) v).run P w = .ok () (w.setCell ⟨g, i, none⟩ v) := by
  have hc : w.cell? ⟨g, i, none⟩ = some cs[i] := by rw [cell_of_row _ _ _ _ _ _ hg, Array.getElem?_eq_getElem hi]
  have hf := frozen_of_row w g i cs T hg
  cases hq : P.info? ty with
  | none => simp [hq] at hsz
  | some t =>
    simp only [hq, Option.map_some, Option.some.injEq] at hsz
    cases v <;> simp_all [Value.oneCell', Instr.storeAt, Instr.sureAddr, storeVar, sizeOf, typeInfo, program, store, storeCells, Sem.run, Value.cells, Addr.add]
theorem wpList_putC {P : Program} {ops : Array Oper} {rest : List Oper} {o : Oper} {a : Act} {w : World} {Q : Exit → Act → World → Prop} (hgd : o.guard = none) (hdst : o.dst = none) (ty : TypeId) (x y : Operand) (ho : o.op = .store ty x y)
    (g i : Nat) (v : Value) (hx : a.eval x = .pointer (some ⟨g, i, none⟩)) (hy : a.eval y = v) {T : TypeId} {cs : Array Value} (hg : w.heap[g]? = some (.cells cs T (0, 0))) (hi : i < cs.size) (hv : v.oneCell' = true) (hsz : (P.info? ty).map (·.size) = some 1)
    (h : ∀ w', w'.heap[g]? = some (.cells (cs.setIfInBounds i v) T (0, 0)) → Chg (fun k => k = g) w w' → w'.heap.size = w.heap.size → wpList P ops Q rest a w') : wpList P ops Q (o :: rest) a w := by
  refine wpList_plain hgd fun K hK => ?_
  unfold Oper.wp execOp
  simp only [ho, hx, hy, Sem.run_bind, run_storeC hg hi hv hsz, Result.andThen_ok, Sem.run_pure, Oper.upon_skip, hdst]
  exact hK _ _ (h _ (heap_setCell_same _ _ _ _ _ _ hg) (Chg.setCell _ _ rfl) (by simp [World.setCell]))
theorem wpList_newC (hg : o.guard = none) (dst : Option Tmp) (hdst : o.dst = dst) (t : TypeId) (ho : o.op = .alloc t) (z : Value) (hz : z.cells = #[z]) (hi : (Tryd.prog.info? t).map (fun i => i.zero) = some (some z))
    (h : ∀ w', w'.heap[w.heap.size]? = some (.cells #[z] t (0, 0)) → Below w.heap.size w w' → w'.heap.size = w.heap.size + 1 → wpList Tryd.prog ops Q rest (a.put dst (.pointer (some ⟨w.heap.size, 0, none⟩))) w') : wpList Tryd.prog ops Q (o :: rest) a w := by
  refine wpList_runI hg dst hdst _ (w.alloc (.cells #[z] t)) ?_ (h _ (heap_alloc_new _ _) ((Below.refl _ _).alloc (Nat.le_refl _) _) (by simp))
  cases hq : Tryd.prog.info? t with
  | none => simp [hq] at hi
  | some i =>
    simp only [hq, Option.map_some, Option.some.injEq] at hi
    have h1 : (newVar t z).run Tryd.prog w = .ok ⟨w.heap.size, 0, none⟩ (w.alloc (.cells #[z] t)) := by
      unfold newVar
      rw [hz]
      rfl
    unfold execOp
    simp [ho, Instr.alloc, zeroValue, typeInfo, program, Sem.run, hq, hi, h1]
theorem wp_putC {P : Program} {o : Oper} {a : Act} {w : World} {K : Act → World → Prop} {Q : Exit → Act → World → Prop} (hdst : o.dst = none) (ty : TypeId) (x y : Operand) (ho : o.op = .store ty x y)
    (g i : Nat) (v : Value) (hx : a.eval x = .pointer (some ⟨g, i, none⟩)) (hy : a.eval y = v) {T : TypeId} {cs : Array Value} (hg : w.heap[g]? = some (.cells cs T (0, 0))) (hi : i < cs.size) (hv : v.oneCell' = true) (hsz : (P.info? ty).map (·.size) = some 1)
    (h : ∀ w', w'.heap[g]? = some (.cells (cs.setIfInBounds i v) T (0, 0)) → Chg (fun k => k = g) w w' → w'.heap.size = w.heap.size → K a w') : o.wp P a w K Q := by
  unfold Oper.wp execOp
  simp only [ho, hx, hy, Sem.run_bind, run_storeC hg hi hv hsz, Result.andThen_ok, Sem.run_pure, Oper.upon_skip, hdst]
  exact h _ (heap_setCell_same _ _ _ _ _ _ hg) (Chg.setCell _ _ rfl) (by simp [World.setCell])
theorem wp_newV (dst : Option Tmp) (hdst : o.dst = dst) (t : TypeId) (ho : o.op = .alloc t) (zs : Array Value) (sz : Nat) (hi : (P.info? t).map (fun i => (i.zero, i.size)) = some (some (.agg zs), sz))
    (h : ∀ w', w'.heap[w.heap.size]? = some (.cells zs t (0, 0)) → Below w.heap.size w w' → w'.heap.size = w.heap.size + 1 → K (a.put dst (.pointer (some ⟨w.heap.size, 0, none⟩))) w') : o.wp P a w K Q := by
  have hrun : (execOp a.eval o).run P w = .ok (.value (.pointer (some ⟨w.heap.size, 0, none⟩))) (w.alloc (.cells zs t)) := by
    cases hq : P.info? t with
    | none => simp [hq] at hi
    | some i =>
      simp only [hq, Option.map_some, Option.some.injEq, Prod.mk.injEq] at hi
      unfold execOp
      simp [ho, Instr.alloc, zeroValue, typeInfo, hq, hi.1, newVar, newRow, newObj, go_sem, Value.cells]
      rfl
  unfold Oper.wp
  rw [hrun, Oper.upon_value, hdst]
  exact h _ (heap_alloc_new _ _) ((Below.refl _ _).alloc (Nat.le_refl _) _) (by simp)
theorem wp_putV (hdst : o.dst = none) (ty : TypeId) (x y : Operand) (ho : o.op = .store ty x y)
    (g : Nat) (cells : Array Value) (hx : a.eval x = .pointer (some ⟨g, 0, none⟩)) (hy : a.eval y = .agg cells)
    (t : TypeId) (old : Array Value) (hg : w.heap[g]? = some (.cells old t (0, 0))) (hi : (P.info? ty).map (·.size) = some cells.size)
    (hold : old.size = cells.size) (h1 : cells.all (·.oneCell') = true)
    (h : ∀ w', w'.heap[g]? = some (.cells cells t (0, 0)) → Chg (fun k => k = g) w w' → w'.heap.size = w.heap.size → K a w') : o.wp P a w K Q := by
  refine wp_store_row ty x y ho g cells hx hy t old hg hi hold h1 ?_
  rw [hdst]
  exact h _ (setRow_heap _ _ _ _ _ _ hg) ⟨rfl, rfl, rfl, by simp [World.setRow], fun k _ hk => setRow_other _ _ _ _ hk⟩ (by simp [World.setRow])
end Go.Proofs.YtplclpileejemaaDoor
