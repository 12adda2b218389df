/- Maps by their keys: what a map's block reads as, a look, an update, a deletion. No program in sight. -/
import Derived.Test.YtplclpileejemaaDoorJB1
import Derived.Maps.Keyed
import Derived.DeepKeys3
namespace Go.Proofs.YtplclpileejemaaDoor
open Go.RowKit Go.Maps
set_option linter.unusedVariables false
set_option linter.unusedSimpArgs false

/-- How keys of a map's key type are written. -/
structure KeyEnc (P : Program) (kt : TypeId) (κ : Type) where
  kv : κ → Value
  K : Keyed P kt
  inj : ∀ {a b : κ}, kv a = kv b → a = b
  lit : ∀ a, ∃ l, keyOf P kt (kv a) = some l

section
variable {P : Program} {kt : TypeId} {κ : Type}
theorem ents_hall (E : KeyEnc P kt κ) {es : List MapEntry} {L : List (κ × Value)} (h : es.map entOf = L.map (fun p => (E.kv p.1, p.2))) : ∀ e ∈ es, ∃ l, keyOf P kt e.key = some l := by
  intro e he
  have : entOf e ∈ L.map (fun p => (E.kv p.1, p.2)) := h ▸ List.mem_map_of_mem he
  obtain ⟨p, _, hp⟩ := List.mem_map.1 this
  have hk : e.key = E.kv p.1 := (congrArg Prod.fst hp).symm
  rw [hk]
  exact E.lit p.1
theorem ents_at (E : KeyEnc P kt κ) {es : List MapEntry} {L : List (κ × Value)} (h : es.map entOf = L.map (fun p => (E.kv p.1, p.2))) {j : Nat} {e : MapEntry} (he : es[j]? = some e) : ∃ p, L[j]? = some p ∧ e.key = E.kv p.1 ∧ e.val = p.2 := by
  have h1 : (es.map entOf)[j]? = (L.map (fun p => (E.kv p.1, p.2)))[j]? := by rw [h]
  rw [List.getElem?_map, List.getElem?_map, he] at h1
  cases hp : L[j]? with
  | none => rw [hp] at h1; cases h1
  | some p =>
    rw [hp] at h1
    simp only [Option.map_some, Option.some.injEq] at h1
    exact ⟨p, rfl, congrArg Prod.fst h1, congrArg Prod.snd h1⟩
theorem ents_no (E : KeyEnc P kt κ) {es : List MapEntry} {L : List (κ × Value)} (h : es.map entOf = L.map (fun p => (E.kv p.1, p.2))) {k : κ} (hne : ∀ e ∈ es, e.key ≠ E.kv k) : ∀ p ∈ L, p.1 ≠ k := by
  intro p hp e
  obtain ⟨j, hj⟩ := List.mem_iff_getElem?.1 hp
  have h1 : (es.map entOf)[j]? = (L.map (fun p => (E.kv p.1, p.2)))[j]? := by rw [h]
  rw [List.getElem?_map, List.getElem?_map, hj] at h1
  cases he : es[j]? with
  | none => rw [he] at h1; cases h1
  | some x =>
    rw [he] at h1
    simp only [Option.map_some, Option.some.injEq] at h1
    refine hne x (List.mem_of_getElem? he) ?_
    rw [← e]
    exact congrArg Prod.fst h1

end

section
variable {P : Program} {kt et t : TypeId} {κ : Type} [DecidableEq κ] {E : KeyEnc P kt κ} {w w' : World} {b : Nat} {f : κ → Option Value}

def lk (L : List (κ × Value)) (k : κ) : Option Value := (L.find? (fun p => p.1 == k)).map (·.2)
theorem lk_none {L : List (κ × Value)} {k : κ} (h : ∀ p ∈ L, p.1 ≠ k) : lk L k = none := by
  unfold lk
  rw [List.find?_eq_none.2 (fun p hp => by simpa using h p hp)]
  rfl
theorem lk_at {L : List (κ × Value)} (hn : (L.map (·.1)).Nodup) {j : Nat} {p : κ × Value} (h : L[j]? = some p) : lk L p.1 = some p.2 := by
  unfold lk
  induction L generalizing j with
  | nil => simp at h
  | cons q L ih =>
    rw [List.map_cons, List.nodup_cons] at hn
    cases j with
    | zero =>
      simp at h
      subst h
      simp
    | succ j =>
      simp at h
      have hm : p ∈ L := List.mem_of_getElem? h
      have hne : (q.1 == p.1) = false := by
        simp
        intro e
        exact hn.1 (e ▸ List.mem_map_of_mem hm)
      rw [List.find?_cons, hne]
      exact ih hn.2 h
theorem lk_set {L : List (κ × Value)} (hn : (L.map (·.1)).Nodup) {j : Nat} {p : κ × Value} (h : L[j]? = some p) (v : Value) (x : κ) : lk (L.set j (p.1, v)) x = if x = p.1 then some v else lk L x := by
  induction L generalizing j with
  | nil => simp at h
  | cons q L ih =>
    rw [List.map_cons, List.nodup_cons] at hn
    cases j with
    | zero =>
      simp at h
      subst h
      unfold lk
      rw [List.set_cons_zero, List.find?_cons, List.find?_cons]
      by_cases hx : x = q.1
      · subst hx; simp
      · have : (q.1 == x) = false := by simpa using fun e => hx e.symm
        simp only [this, if_neg hx]
    | succ j =>
      simp at h
      have hm : p ∈ L := List.mem_of_getElem? h
      have hq : q.1 ≠ p.1 := fun e => hn.1 (e ▸ List.mem_map_of_mem hm)
      have := ih hn.2 h
      unfold lk at this ⊢
      rw [List.set_cons_succ, List.find?_cons, List.find?_cons]
      by_cases hx : q.1 = x
      · have hb : (q.1 == x) = true := by simpa using hx
        have hxp : ¬ x = p.1 := fun e => hq (hx.trans e)
        simp only [hb, if_neg hxp]
      · have hb : (q.1 == x) = false := by simpa using hx
        simp only [hb]
        exact this
theorem lk_snoc {L : List (κ × Value)} {k : κ} (h : ∀ p ∈ L, p.1 ≠ k) (v : Value) (x : κ) : lk (L ++ [(k, v)]) x = if x = k then some v else lk L x := by
  unfold lk
  rw [List.find?_append]
  by_cases hx : x = k
  · subst hx
    rw [List.find?_eq_none.2 (fun p hp => by simpa using h p hp)]
    simp
  · have hb : (k == x) = false := by simpa using fun e => hx e.symm
    rw [if_neg hx, List.find?_cons, hb]
    simp
theorem lk_erase {L : List (κ × Value)} (hn : (L.map (·.1)).Nodup) {j : Nat} {p : κ × Value} (h : L[j]? = some p) (x : κ) : lk (L.eraseIdx j) x = if x = p.1 then none else lk L x := by
  induction L generalizing j with
  | nil => simp at h
  | cons q L ih =>
    rw [List.map_cons, List.nodup_cons] at hn
    cases j with
    | zero =>
      simp at h
      subst h
      rw [List.eraseIdx_cons_zero]
      by_cases hx : x = q.1
      · subst hx
        rw [if_pos rfl]
        exact lk_none fun p hp e => hn.1 (e ▸ List.mem_map_of_mem hp)
      · have : (q.1 == x) = false := by simpa using fun e => hx e.symm
        unfold lk
        rw [if_neg hx, List.find?_cons, this]
    | succ j =>
      simp at h
      have hm : p ∈ L := List.mem_of_getElem? h
      have hq : q.1 ≠ p.1 := fun e => hn.1 (e ▸ List.mem_map_of_mem hm)
      have := ih hn.2 h
      unfold lk at this ⊢
      rw [List.eraseIdx_cons_succ, List.find?_cons, List.find?_cons]
      by_cases hx : q.1 = x
      · have hb : (q.1 == x) = true := by simpa using hx
        have hxp : ¬ x = p.1 := fun e => hq (hx.trans e)
        simp only [hb, if_neg hxp]
      · have hb : (q.1 == x) = false := by simpa using hx
        simp only [hb]
        exact this

/-- Block b is a map that reads as f. -/
structure KMap (E : KeyEnc P kt κ) (w : World) (b : Nat) (f : κ → Option Value) : Prop where
  ex : ∃ es clock L, w.heap[b]? = some (.map es clock) ∧ es.toList.map entOf = L.map (fun p => (E.kv p.1, p.2)) ∧ (L.map (·.1)).Nodup ∧ ∀ k, lk L k = f k
theorem KMap.lt (h : KMap E w b f) : b < w.heap.size := by
  obtain ⟨es, c, L, h1, _⟩ := h.ex
  exact (Array.getElem?_eq_some_iff.1 h1).1
theorem KMap.kept (h : KMap E w b f) (hb : w'.heap[b]? = w.heap[b]?) : KMap E w' b f := by
  obtain ⟨es, c, L, h1, r⟩ := h.ex
  exact ⟨es, c, L, hb.trans h1, r⟩
theorem KMap.below (h : KMap E w b f) (hb : Below w.heap.size w w') : KMap E w' b f := h.kept (hb.block b h.lt)
theorem KMap.chg {F : Nat → Prop} (h : KMap E w b f) (hc : Chg F w w') (hf : ¬ F b) : KMap E w' b f := h.kept (hc.block b h.lt hf)
theorem KMap.new (w : World) : KMap E (w.alloc (.map #[] 0)) w.heap.size (fun _ => none) := ⟨#[], 0, [], heap_alloc_new _ _, rfl, by simp, fun _ => rfl⟩
theorem KMap.ext {g : κ → Option Value} (h : KMap E w b f) (hg : ∀ k, f k = g k) : KMap E w b g := by
  obtain ⟨es, c, L, h1, h2, h3, h4⟩ := h.ex
  exact ⟨es, c, L, h1, h2, h3, fun k => (h4 k).trans (hg k)⟩

theorem KMap.look (h : KMap E w b f) (ht : P.underlying t = some (.map kt et)) {z : Value} (hz : ∀ w, (zeroValue et).run P w = .ok z w) (k : κ) (c : Bool) :
    (Instr.lookup t (.map (some b)) (E.kv k) c).run P w = .ok (if c then .tuple #[(f k).getD z, .bool (f k).isSome] else (f k).getD z) w := by
  obtain ⟨es, clock, L, hb, h1, h2, h3⟩ := h.ex
  obtain ⟨l, hl⟩ := E.lit k
  rcases E.K.find w hl es.toList (ents_hall E h1) with ⟨h4, h5⟩ | ⟨j, e, h4, h5, h6⟩
  · have hf : f k = none := by rw [← h3]; exact lk_none (ents_no E h1 h5)
    simp [Instr.lookup, run_underlying ht, MapKept.run_getObj_map hb, E.K.check w _ hl, h4, hz, Result.andThen, hf]
  · obtain ⟨p, hp, hk, hv⟩ := ents_at E h1 h5
    have hpk : p.1 = k := E.inj (hk.symm.trans h6)
    have hf : f k = some e.val := by rw [← h3, ← hpk, hv]; exact lk_at h2 hp
    simp [Instr.lookup, run_underlying ht, MapKept.run_getObj_map hb, E.K.check w _ hl, h4, Result.andThen, hf]

def setObjW (w : World) (b : Nat) (o : Obj) : World := { w with heap := w.heap.setIfInBounds b o }
theorem setObjW_chg (w : World) (b : Nat) (o : Obj) : Chg (fun j => j = b) w (setObjW w b o) :=
  ⟨rfl, rfl, rfl, by simp [setObjW], fun k _ hk => by simp only [setObjW]; rw [Array.getElem?_setIfInBounds_ne (fun e => hk e.symm)]⟩
theorem setObjW_at {w : World} {b : Nat} (h : b < w.heap.size) (o : Obj) : (setObjW w b o).heap[b]? = some o := by simp [setObjW, h]
theorem KMap.upd (h : KMap E w b f) (ht : P.underlying t = some (.map kt et)) (k : κ) (v : Value) :
    ∃ w', (Instr.mapUpdate t (.map (some b)) (E.kv k) v).run P w = .ok () w' ∧ KMap E w' b (fun x => if x = k then some v else f x) ∧ Chg (fun j => j = b) w w' := by
  obtain ⟨es, clock, L, hb, h1, h2, h3⟩ := h.ex
  obtain ⟨l, hl⟩ := E.lit k
  have hlen : es.size = L.length := by have := congrArg List.length h1; simpa using this
  rcases E.K.find w hl es.toList (ents_hall E h1) with ⟨h4, h5⟩ | ⟨j, e, h4, h5, h6⟩
  · have hno := ents_no E h1 h5
    refine ⟨setObjW w b (.map (es.push ⟨E.kv k, v, clock⟩) (clock + 1)), ?_, ⟨_, _, L ++ [(k, v)], setObjW_at h.lt _, ?_, ?_, fun x => ?_⟩, setObjW_chg _ _ _⟩
    · simp [Instr.mapUpdate, run_underlying ht, MapKept.run_getObj_map hb, E.K.check w false hl, h4, MapKept.run_setObj_map _ hb, Result.andThen, setObjW]
    · simp [h1, entOf]
    · rw [List.map_append, List.nodup_append]
      refine ⟨h2, by simp, fun a ha b' hb' e => ?_⟩
      obtain ⟨p, hp, rfl⟩ := List.mem_map.1 ha
      simp at hb'
      exact hno p hp (e.trans hb')
    · rw [lk_snoc hno, h3]
  · obtain ⟨p, hp, hk, hv⟩ := ents_at E h1 h5
    have hpk : p.1 = k := E.inj (hk.symm.trans h6)
    have hj : es[j]? = some e := by simpa using h5
    have hjl : j < es.size := (Array.getElem?_eq_some_iff.1 hj).1
    refine ⟨setObjW w b (.map (es.modify j fun e' => { e' with key := E.kv k, val := v }) clock), ?_, ⟨_, _, L.set j (p.1, v), setObjW_at h.lt _, ?_, ?_, fun x => ?_⟩, setObjW_chg _ _ _⟩
    · simp [Instr.mapUpdate, run_underlying ht, MapKept.run_getObj_map hb, E.K.check w false hl, h4, hj, h6, E.K.stays w hl, MapKept.run_setObj_map _ hb, Result.andThen, setObjW]
    · apply List.ext_getElem?
      intro i
      have h7 : (es.toList.map entOf)[i]? = (L.map (fun p => (E.kv p.1, p.2)))[i]? := by rw [h1]
      simp only [List.getElem?_map, Array.getElem?_toList, Array.getElem?_modify, List.getElem?_set] at h7 ⊢
      by_cases hij : j = i
      · subst hij
        simp [hj, entOf, hpk, ← hlen, hjl]
      · simp [hij, h7]
    · have hm : (L.set j (p.1, v)).map (·.1) = L.map (·.1) := by
        apply List.ext_getElem?
        intro i
        simp only [List.getElem?_map, List.getElem?_set]
        by_cases hij : j = i
        · subst hij
          rw [if_pos rfl, if_pos (by omega), hp]
          rfl
        · rw [if_neg hij]
      rw [hm]
      exact h2
    · rw [lk_set h2 hp, h3, hpk]
theorem KMap.del (h : KMap E w b f) (ht : P.underlying t = some (.map kt et)) (ty : TypeId) (k : κ) :
    ∃ w', (Builtin.delete_ #[t, kt] ty #[.map (some b), E.kv k]).run P w = .ok (.tuple #[]) w' ∧ KMap E w' b (fun x => if x = k then none else f x) ∧ Chg (fun j => j = b) w w' := by
  obtain ⟨es, clock, L, hb, h1, h2, h3⟩ := h.ex
  obtain ⟨l, hl⟩ := E.lit k
  rcases E.K.find w hl es.toList (ents_hall E h1) with ⟨h4, h5⟩ | ⟨j, e, h4, h5, h6⟩
  · have hno := ents_no E h1 h5
    refine ⟨setObjW w b (.map es clock), ?_, ⟨_, _, L, setObjW_at h.lt _, h1, h2, fun x => ?_⟩, setObjW_chg _ _ _⟩
    · simp [Builtin.delete_, run_underlying ht, MapKept.run_getObj_map hb, E.K.check w _ hl, h4, MapKept.run_setObj_map _ hb, Result.andThen, setObjW]
    · by_cases hx : x = k
      · subst hx; rw [if_pos rfl]; exact lk_none hno
      · rw [if_neg hx]; exact h3 x
  · obtain ⟨p, hp, hk, hv⟩ := ents_at E h1 h5
    have hpk : p.1 = k := E.inj (hk.symm.trans h6)
    have hjl : j < es.size := by have := (List.getElem?_eq_some_iff.1 h5).1; simpa using this
    have hsub : (es.eraseIdxIfInBounds j).toList = es.toList.eraseIdx j := by
      unfold Array.eraseIdxIfInBounds
      rw [dif_pos hjl]
      simp
    have her : ∀ {α β : Type} (g : α → β) (l : List α) (i : Nat), (l.eraseIdx i).map g = (l.map g).eraseIdx i := fun g l i => by
      induction l generalizing i with
      | nil => simp
      | cons x l ih => cases i <;> simp [ih]
    refine ⟨setObjW w b (.map (es.eraseIdxIfInBounds j) clock), ?_, ⟨_, _, L.eraseIdx j, setObjW_at h.lt _, ?_, ?_, fun x => ?_⟩, setObjW_chg _ _ _⟩
    · simp [Builtin.delete_, run_underlying ht, MapKept.run_getObj_map hb, E.K.check w _ hl, h4, MapKept.run_setObj_map _ hb, Result.andThen, setObjW]
    · rw [hsub, her, h1, her]
    · rw [her]
      exact h2.sublist (List.eraseIdx_sublist _ _)
    · rw [lk_erase h2 hp, h3, hpk]
end

end Go.Proofs.YtplclpileejemaaDoor
