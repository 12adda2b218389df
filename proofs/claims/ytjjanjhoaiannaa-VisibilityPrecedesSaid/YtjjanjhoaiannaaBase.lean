/- Generic notions for the proofs of this seat: bytes as values, what a call changes, maps from int to byte arrays. No program in sight. -/
import Derived.WalkKit
import Derived.WalkSpells
import Derived.WalkLawsBesides
import Derived.Deep.MidRow
import Derived.StillTailTactics
import Derived.Deep.QuietTactic
import Derived.BigQuiet
import Derived.BigRegion
import Derived.MapKept
import Derived.Lib.Hide
namespace Go.Proofs.Ytjjanjhoaiannaa
open Go.RowKit
set_option linter.unusedVariables false
set_option linter.unusedSimpArgs false

/-! ### bytes -/
def bv (x : UInt8) : Value := .int .u8 (x.toNat : Int)
def bvs (l : List UInt8) : List Value := l.map bv
def cval (l : List UInt8) : Value := .agg (bvs l).toArray
@[simp] theorem bvs_length (l : List UInt8) : (bvs l).length = l.length := by simp [bvs]
theorem bvs_append (a b : List UInt8) : bvs (a ++ b) = bvs a ++ bvs b := by simp [bvs]
theorem bv_inj {x y : UInt8} (h : bv x = bv y) : x = y := by
  simp [bv] at h
  exact UInt8.toNat_inj.1 (by omega)
theorem bvs_inj {a b : List UInt8} (h : bvs a = bvs b) : a = b := by
  induction a generalizing b with
  | nil => cases b <;> simp_all [bvs]
  | cons x a ih =>
    cases b with
    | nil => simp [bvs] at h
    | cons y b =>
      simp only [bvs, List.map_cons, List.cons.injEq] at h
      rw [bv_inj h.1, ih h.2]
theorem bvs_oneCell {l : List UInt8} : ∀ v ∈ bvs l, v.oneCell' = true := by
  intro v hv
  obtain ⟨x, _, rfl⟩ := List.mem_map.1 hv
  rfl
theorem bvs_getElem? (l : List UInt8) (i : Nat) : (bvs l)[i]? = l[i]?.map bv := by simp [bvs]

/-! ### what a call changes: nothing but new blocks and the blocks of F -/
structure Chg (F : Nat → Prop) (w w' : World) : Prop where
  os : w'.os = w.os
  tape : w'.tape = w.tape
  output : w'.output = w.output
  size : w.heap.size ≤ w'.heap.size
  block : ∀ k, k < w.heap.size → ¬ F k → w'.heap[k]? = w.heap[k]?

section
variable {F G : Nat → Prop} {w w' w1 w2 w3 : World}
theorem Chg.refl (F : Nat → Prop) (w : World) : Chg F w w := ⟨rfl, rfl, rfl, Nat.le_refl _, fun _ _ _ => rfl⟩
theorem Chg.of_below (h : Below w.heap.size w w') : Chg F w w' := ⟨h.os, h.tape, h.output, h.size, fun k hk _ => h.block k hk⟩
theorem Chg.below (h : Chg F w w') {B : Nat} (hF : ∀ k, F k → B ≤ k) (hB : B ≤ w.heap.size) : Below B w w' :=
  ⟨h.os, h.tape, h.output, h.size, fun k hk => h.block k (by omega) (fun hf => by have := hF k hf; omega)⟩
theorem Chg.mono (h : Chg F w w') (hFG : ∀ k, F k → G k) : Chg G w w' := ⟨h.os, h.tape, h.output, h.size, fun k hk hg => h.block k hk (fun hf => hg (hFG k hf))⟩
theorem Chg.trans (h : Chg F w1 w2) (k : Chg G w2 w3) (hG : ∀ i, G i → F i ∨ w1.heap.size ≤ i) : Chg F w1 w3 :=
  ⟨k.os.trans h.os, k.tape.trans h.tape, k.output.trans h.output, Nat.le_trans h.size k.size, fun i hi hf =>
    (k.block i (Nat.lt_of_lt_of_le hi h.size) (fun hg => by rcases hG i hg with h1 | h1; exact hf h1; omega)).trans (h.block i hi hf)⟩
theorem Chg.grown {row : Option Nat} (hg : w.grownBy w' row) (hr : ∀ k, row = some k → F k ∨ w.heap.size ≤ k) : Chg F w w' :=
  ⟨hg.os, hg.tape, hg.output, hg.size, fun k hk hf => hg.block k hk (fun e => by rcases hr k e.symm with h1 | h1; exact hf h1; omega)⟩
theorem Chg.setCell (w : World) {a : Addr} (v : Value) (h : F a.block) : Chg F w (w.setCell a v) :=
  ⟨rfl, rfl, rfl, by simp [World.setCell], fun k _ hf => heap_setCell_other w a k v (fun e => hf (e ▸ h))⟩
theorem Chg.alloc (w : World) (o : Obj) : Chg F w (w.alloc o) := ⟨rfl, rfl, rfl, by simp, fun _ hk _ => Below.heap_alloc w o _ hk⟩
theorem Chg.drew (h : Chg F w w') : Chg F w w'.drew := ⟨h.os, h.tape, h.output, h.size, h.block⟩
theorem Chg.cell (h : Chg F w w') {p : Addr} {v : Value} (hf : ¬ F p.block) (hc : w.cell? p = some v) : w'.cell? p = some v :=
  (World.cell?_of_block (h.block p.block (World.block_lt_of_cell? w p hc) hf)).trans hc
end

/-! ### maps from int to byte arrays -/
def entOf (e : MapEntry) : Value × Value := (e.key, e.val)
def pairV (p : Nat × List UInt8) : Value × Value := (.int .i64 (p.1 : Int), cval p.2)

/-- The entries of a map as plain pairs. -/
structure Ents (es : Array MapEntry) (L : List (Nat × List UInt8)) : Prop where
  eq : es.toList.map entOf = L.map pairV
  nodup : (L.map (·.1)).Nodup

theorem findNow_ents (k : Nat) : ∀ (l : List MapEntry) (L : List (Nat × List UInt8)) (i : Nat), l.map entOf = L.map pairV →
    Instr.findNow (.int .i64) (.int .i64 (k : Int)) l i = some ((L.findIdx? (fun p => p.1 == k)).bind fun j => (L[j]?).map fun p => (i + j, cval p.2))
  | [], [], i, _ => by simp [Instr.findNow]
  | [], _ :: _, _, h => by simp at h
  | _ :: _, [], _, h => by simp at h
  | e :: l, p :: L, i, h => by
    simp only [List.map_cons, List.cons.injEq] at h
    obtain ⟨h1, h2⟩ := h
    have hk : e.key = .int .i64 (p.1 : Int) := congrArg Prod.fst h1
    have hv : e.val = cval p.2 := congrArg Prod.snd h1
    have ih := findNow_ents k l L (i + 1) h2
    unfold Instr.findNow
    rw [hk]
    simp only [Instr.sameNow, if_true]
    by_cases hp : p.1 = k
    · have hb : ((k : Int) == (p.1 : Int)) = true := by simp [hp]
      rw [hb]
      simp [List.findIdx?_cons, hp, hv]
    · have hb : ((k : Int) == (p.1 : Int)) = false := by simp; omega
      rw [hb]
      simp only [ih]
      have hb2 : (p.1 == k) = false := by simpa using hp
      rw [List.findIdx?_cons]
      simp only [hb2, if_false, Bool.false_eq_true]
      cases hq : List.findIdx? (fun p => p.1 == k) L with
      | none => simp
      | some j => simp; rw [show i + 1 + j = i + (j + 1) by omega]

def assoc (L : List (Nat × List UInt8)) (k : Nat) : Option (List UInt8) := (L.find? (fun p => p.1 == k)).map (·.2)

theorem find_findIdx {α : Type} (f : α → Bool) : ∀ L : List α, L.find? f = (L.findIdx? f).bind fun j => L[j]?
  | [] => rfl
  | p :: L => by
    rw [List.find?_cons, List.findIdx?_cons]
    cases h : f p with
    | true => simp
    | false =>
      simp only [find_findIdx f L, Bool.false_eq_true, if_false]
      cases List.findIdx? f L <;> simp

def putL (L : List (Nat × List UInt8)) (k : Nat) (v : List UInt8) : List (Nat × List UInt8) :=
  match L.findIdx? (fun p => p.1 == k) with
  | some j => L.set j (k, v)
  | none => L ++ [(k, v)]

section
variable {P : Program} {w : World}

theorem isKey_i64 (k : Int) : MapKept.IsKey (.int .i64) (.int .i64 k) := by simp [MapKept.IsKey]

theorem run_lookup_ents {t kt et : TypeId} (ht : P.underlying t = some (.map kt et)) (hk : P.underlying kt = some (.int .i64)) {z : Value} (hz : ∀ w, (zeroValue et).run P w = .ok z w)
    {m : Nat} {es : Array MapEntry} {clock : Nat} (hm : w.heap[m]? = some (.map es clock)) {L : List (Nat × List UInt8)} (hL : Ents es L) (k : Nat) :
    (Instr.lookup t (.map (some m)) (.int .i64 (k : Int)) false).run P w = .ok ((assoc L k).elim z cval) w := by
  have hf := findNow_ents k es.toList L 0 hL.eq
  have hg : (getObj m).run P w = .ok (.map es clock) w := by simp [getObj, Sem.run, hm]
  have hck := fun em => MapKept.run_checkKey (w := w) hk (isKey_i64 k) em 9999
  have hfk := MapKept.run_findKey (w := w) hk hf
  simp only [Instr.lookup, Sem.run_bind, run_underlying ht, Result.andThen_ok, hg, hck, hfk, Sem.run_pure]
  unfold assoc
  rw [find_findIdx]
  cases hq : List.findIdx? (fun p => p.1 == k) L with
  | none => simp [hz, Sem.run_bind]
  | some j =>
    cases hj : L[j]? with
    | none => simp [hz, hj, Sem.run_bind]
    | some p => simp [hj]

theorem lookup_nil_map {t kt et : TypeId} (ht : P.underlying t = some (.map kt et)) (hk : P.underlying kt = some (.int .i64)) {z : Value} (hz : ∀ w, (zeroValue et).run P w = .ok z w) (k : Int) :
    (Instr.lookup t (.map none) (.int .i64 k) false).run P w = .ok z w := by
  have hck := fun em => MapKept.run_checkKey (w := w) hk (isKey_i64 k) em 9999
  have hfk := MapKept.run_findKey (w := w) (l := []) hk (d := .int .i64) (k := .int .i64 k) (a := none) rfl
  simp [Instr.lookup, Sem.run_bind, run_underlying ht, hck, hfk, hz]

def Stamped (es : Array MapEntry) (clock : Nat) : Prop := (∀ e ∈ es.toList, e.born < clock) ∧ (es.toList.map (·.born)).Nodup
theorem stamped_empty : Stamped #[] 0 := ⟨by simp, by simp⟩
theorem stamped_push {es : Array MapEntry} {clock : Nat} (h : Stamped es clock) (k v : Value) : Stamped (es.push { key := k, val := v, born := clock }) (clock + 1) := by
  refine ⟨fun e he => ?_, ?_⟩
  · rw [Array.toList_push, List.mem_append] at he
    rcases he with he | he
    · exact Nat.lt_succ_of_lt (h.1 e he)
    · obtain rfl := List.mem_singleton.1 he
      exact Nat.lt_succ_self _
  · rw [Array.toList_push, List.map_append, List.nodup_append]
    refine ⟨h.2, by simp, ?_⟩
    intro a ha b hb e
    obtain ⟨x, hx, rfl⟩ := List.mem_map.1 ha
    simp at hb
    have := h.1 x hx
    omega
theorem stamped_modify {es : Array MapEntry} {clock : Nat} (h : Stamped es clock) (j : Nat) (k v : Value) : Stamped (es.modify j fun e => { e with key := k, val := v }) clock := by
  have e : (es.modify j fun e => { e with key := k, val := v }).toList.map (·.born) = es.toList.map (·.born) := by
    apply List.ext_getElem?
    intro i
    simp only [List.getElem?_map, Array.getElem?_toList, Array.getElem?_modify]
    by_cases hij : j = i
    · subst hij
      cases es[j]? <;> simp
    · simp [hij]
  refine ⟨fun x hx => ?_, by rw [e]; exact h.2⟩
  have hb : x.born ∈ (es.modify j fun e => { e with key := k, val := v }).toList.map (·.born) := List.mem_map_of_mem hx
  rw [e] at hb
  obtain ⟨y, hy, hyb⟩ := List.mem_map.1 hb
  rw [← hyb]
  exact h.1 y hy

theorem ents_put {es : Array MapEntry} {L : List (Nat × List UInt8)} (hL : Ents es L) (k : Nat) (v : List UInt8) (clock : Nat) (hst : Stamped es clock) :
    ∃ es' clock', Ents es' (putL L k v) ∧ Stamped es' clock' ∧
      (∀ {P : Program} {w : World} {t kt et : TypeId} {m : Nat}, P.underlying t = some (.map kt et) → P.underlying kt = some (.int .i64) → w.heap[m]? = some (.map es clock) →
        (Instr.mapUpdate t (.map (some m)) (.int .i64 (k : Int)) (cval v)).run P w = .ok () { w with heap := w.heap.setIfInBounds m (.map es' clock') }) := by
  have hf := findNow_ents k es.toList L 0 hL.eq
  have hlen : es.size = L.length := by have := congrArg List.length hL.eq; simpa using this
  cases hq : List.findIdx? (fun p => p.1 == k) L with
  | none =>
    refine ⟨es.push { key := .int .i64 (k : Int), val := cval v, born := clock }, clock + 1, ⟨?_, ?_⟩, stamped_push hst _ _, ?_⟩
    · simp [putL, hq, hL.eq, entOf, pairV]
    · simp only [putL, hq, List.map_append, List.map_cons, List.map_nil]
      rw [List.nodup_append]
      refine ⟨hL.nodup, by simp, ?_⟩
      intro a ha b hb
      simp at hb
      subst hb
      intro e
      subst e
      obtain ⟨p, hp, hpk⟩ := List.mem_map.1 ha
      have := List.findIdx?_eq_none_iff.1 hq p hp
      simp [hpk] at this
    · intro P w t kt et m ht hk hm
      have hg : (getObj m).run P w = .ok (.map es clock) w := by simp [getObj, Sem.run, hm]
      have hck := fun em => MapKept.run_checkKey (w := w) hk (isKey_i64 k) em 9999
      rw [hq] at hf
      have hfk := MapKept.run_findKey (w := w) hk hf
      simp only [Instr.mapUpdate, Sem.run_bind, run_underlying ht, Result.andThen_ok, hg, hck, hfk, Option.bind_none]
      simp [setObj, Sem.run, hm]
  | some j =>
    obtain ⟨hj, hpj, _⟩ := List.findIdx?_eq_some_iff_getElem.1 hq
    have hje : j < es.size := by omega
    have hpk : L[j].1 = k := by simpa using hpj
    have hent : entOf es[j] = pairV L[j] := by
      have h1 : (es.toList.map entOf)[j]? = (L.map pairV)[j]? := by rw [hL.eq]
      simpa [hje, hj] using h1
    have hkey : es[j].key = .int .i64 (k : Int) := by have := congrArg Prod.fst hent; simpa [entOf, pairV, hpk] using this
    refine ⟨es.modify j fun e => { e with key := .int .i64 (k : Int), val := cval v }, clock, ⟨?_, ?_⟩, stamped_modify hst j _ _, ?_⟩
    · simp only [putL, hq]
      apply List.ext_getElem?
      intro i
      have h1 : (es.toList.map entOf)[i]? = (L.map pairV)[i]? := by rw [hL.eq]
      simp only [List.getElem?_map, Array.getElem?_toList, Array.getElem?_modify, List.getElem?_set] at h1 ⊢
      by_cases hij : j = i
      · subst hij
        simp [hje, hj, entOf, pairV]
      · simp [hij, h1]
    · simp only [putL, hq]
      have : (L.set j (k, v)).map (·.1) = L.map (·.1) := by
        apply List.ext_getElem?
        intro i
        simp only [List.getElem?_map, List.getElem?_set]
        by_cases hij : j = i
        · subst hij
          simp [hj, hpk]
        · simp [hij]
      rw [this]
      exact hL.nodup
    · intro P w t kt et m ht hk hm
      have hg : (getObj m).run P w = .ok (.map es clock) w := by simp [getObj, Sem.run, hm]
      have hck := fun em => MapKept.run_checkKey (w := w) hk (isKey_i64 k) em 9999
      rw [hq] at hf
      have hfk := MapKept.run_findKey (w := w) hk hf
      simp only [Option.bind_some, List.getElem?_eq_getElem hj, Option.map_some, Nat.zero_add] at hfk
      have hsty := MapKept.run_keyThatStays (P := P) (w := w) (d := .int .i64) (isKey_i64 k)
      have hkk : ((es[j]?).map (·.key)).getD (.int .i64 (k : Int)) = .int .i64 (k : Int) := by simp [hje, hkey]
      simp only [Instr.mapUpdate, Sem.run_bind, run_underlying ht, Result.andThen_ok, hg, hck, hfk, hkk, hsty]
      simp [setObj, Sem.run, hm]

theorem assoc_put (L : List (Nat × List UInt8)) (k i : Nat) (v : List UInt8) : assoc (putL L k v) i = if i = k then some v else assoc L i := by
  unfold assoc putL
  cases hq : List.findIdx? (fun p => p.1 == k) L with
  | none =>
    have hn := List.findIdx?_eq_none_iff.1 hq
    rw [List.find?_append]
    by_cases hik : i = k
    · subst hik
      have : List.find? (fun p => p.1 == i) L = none := List.find?_eq_none.2 (fun p hp => by simp [hn p hp])
      simp [this]
    · have : ((k == i) = false) := by simp; omega
      simp [hik, List.find?_cons, this]
  | some j =>
    obtain ⟨hj, hpj, hfirst⟩ := List.findIdx?_eq_some_iff_getElem.1 hq
    have hpk : L[j].1 = k := by simpa using hpj
    rw [find_findIdx, find_findIdx]
    by_cases hik : i = k
    · subst hik
      have : List.findIdx? (fun p => p.1 == i) (L.set j (i, v)) = some j := by
        rw [List.findIdx?_eq_some_iff_getElem]
        refine ⟨by simpa using hj, by simp, ?_⟩
        intro i' hi'
        have := hfirst i' hi'
        rw [List.getElem_set_ne (by omega)]
        exact this
      simp [this, hj]
    · have hpi : ∀ p : Nat × List UInt8, p.1 = k → (p.1 == i) = false := by intro p hp; simp; omega
      have : List.findIdx? (fun p => p.1 == i) (L.set j (k, v)) = List.findIdx? (fun p => p.1 == i) L := by
        have hmap : (L.set j (k, v)).map (·.1) = L.map (·.1) := by
          apply List.ext_getElem?
          intro i
          simp only [List.getElem?_map, List.getElem?_set]
          by_cases hij : j = i
          · subst hij
            simp [hj, hpk]
          · simp [hij]
        have e1 : ∀ M : List (Nat × List UInt8), List.findIdx? (fun p => p.1 == i) M = List.findIdx? (fun x => x == i) (M.map (·.1)) := by
          intro M
          rw [List.findIdx?_map]
          rfl
        rw [e1, e1, hmap]
      rw [this]
      cases hr : List.findIdx? (fun p => p.1 == i) L with
      | none => simp [hik]
      | some r =>
        obtain ⟨hr1, hr2, _⟩ := List.findIdx?_eq_some_iff_getElem.1 hr
        have hrj : j ≠ r := by
          intro e
          subst e
          have := hpi L[j] hpk
          rw [this] at hr2
          cases hr2
        simp [hik, List.getElem?_set_ne hrj]

theorem putL_keys {L : List (Nat × List UInt8)} {k : Nat} {v : List UInt8} {p : Nat × List UInt8} (h : p ∈ putL L k v) : p = (k, v) ∨ p ∈ L := by
  unfold putL at h
  cases hq : List.findIdx? (fun p => p.1 == k) L with
  | none => rw [hq] at h; simp at h; exact h.symm
  | some j => rw [hq] at h; exact (List.mem_or_eq_of_mem_set h).symm
end

/-- Block m is a map of the keys below n, in which key i reads as dur i (the zero bytes where there is no entry). -/
structure MapIs (w : World) (m n : Nat) (z : List UInt8) (dur : Nat → List UInt8) : Prop where
  ex : ∃ es clock L, w.heap[m]? = some (.map es clock) ∧ Ents es L ∧ (∀ p ∈ L, p.1 < n ∧ p.2.length = z.length) ∧ (∀ i, i < n → (assoc L i).getD z = dur i) ∧ Stamped es clock

theorem MapIs.lt {w : World} {m n : Nat} {z : List UInt8} {dur : Nat → List UInt8} (h : MapIs w m n z dur) : m < w.heap.size := by
  obtain ⟨es, clock, L, hm, _⟩ := h.ex
  exact (Array.getElem?_eq_some_iff.1 hm).1

theorem MapIs.kept {w w' : World} {m n : Nat} {z : List UInt8} {dur : Nat → List UInt8} (h : MapIs w m n z dur) (hb : w'.heap[m]? = w.heap[m]?) : MapIs w' m n z dur := by
  obtain ⟨es, clock, L, hm, r⟩ := h.ex
  exact ⟨es, clock, L, hb.trans hm, r⟩

theorem MapIs.ext {w : World} {m n : Nat} {z : List UInt8} {dur dur' : Nat → List UInt8} (h : MapIs w m n z dur) (he : ∀ i, i < n → dur i = dur' i) : MapIs w m n z dur' := by
  obtain ⟨es, clock, L, hm, h1, h2, h3, h4⟩ := h.ex
  exact ⟨es, clock, L, hm, h1, h2, fun i hi => (h3 i hi).trans (he i hi), h4⟩

theorem MapIs.lookup {P : Program} {w : World} {m n : Nat} {z : List UInt8} {dur : Nat → List UInt8} (h : MapIs w m n z dur) {t kt et : TypeId} (ht : P.underlying t = some (.map kt et)) (hk : P.underlying kt = some (.int .i64))
    (hz : ∀ w, (zeroValue et).run P w = .ok (cval z) w) {k : Nat} (hkn : k < n) :
    (Instr.lookup t (.map (some m)) (.int .i64 (k : Int)) false).run P w = .ok (cval (dur k)) w := by
  obtain ⟨es, clock, L, hm, h1, h2, h3, h4⟩ := h.ex
  rw [run_lookup_ents ht hk hz hm h1, ← h3 k hkn]
  cases assoc L k <;> rfl

theorem MapIs.update {P : Program} {w : World} {m n : Nat} {z : List UInt8} {dur : Nat → List UInt8} (h : MapIs w m n z dur) {t kt et : TypeId} (ht : P.underlying t = some (.map kt et)) (hk : P.underlying kt = some (.int .i64))
    {k : Nat} (hkn : k < n) (v : List UInt8) (hv : v.length = z.length) :
    ∃ w', (Instr.mapUpdate t (.map (some m)) (.int .i64 (k : Int)) (cval v)).run P w = .ok () w' ∧ MapIs w' m n z (fun i => if i = k then v else dur i) ∧ w.grownBy w' (some m) := by
  obtain ⟨es, clock, L, hm, h1, h2, h3, h4⟩ := h.ex
  obtain ⟨es', clock', hE, hS, hrun⟩ := ents_put h1 k v clock h4
  have hmlt := h.lt
  refine ⟨_, hrun ht hk hm, ⟨es', clock', putL L k v, by simp [hmlt], hE, ?_, ?_, hS⟩, ⟨rfl, rfl, rfl, by simp, ?_⟩⟩
  · intro p hp
    rcases putL_keys hp with rfl | hp
    · exact ⟨hkn, hv⟩
    · exact h2 p hp
  · intro i hi
    rw [assoc_put]
    by_cases hik : i = k
    · simp [hik]
    · simp [hik, h3 i hi]
  · intro i hi hne
    simp only [Array.getElem?_setIfInBounds]
    rw [if_neg (fun e => hne (by rw [e]))]

end Go.Proofs.Ytjjanjhoaiannaa
