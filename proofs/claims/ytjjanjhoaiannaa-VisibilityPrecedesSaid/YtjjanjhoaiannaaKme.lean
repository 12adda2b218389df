/- m[k] = append(m[k], ..): an entry of a map, found or made, and its new value. -/
import Derived.Test.YtjjanjhoaiannaaTs2
namespace Go.Proofs.Ytjjanjhoaiannaa
open Go.RowKit Go.Maps
set_option linter.unusedVariables false
set_option linter.unusedSimpArgs false

section
variable {P : Program} {kt et t : TypeId} {κ : Type} [DecidableEq κ] {E : KeyEnc P kt κ} {w w' : World} {b : Nat} {f : κ → Option Value}
/-- A map that reads as f, its entries stamped. -/
structure KMapS (E : KeyEnc P kt κ) (w : World) (b : Nat) (f : κ → Option Value) : Prop where
  ex : ∃ es clock L, w.heap[b]? = some (.map es clock) ∧ es.toList.map entOf = L.map (fun p => (E.kv p.1, p.2)) ∧ (L.map (·.1)).Nodup ∧ (∀ k, lk L k = f k) ∧ Stamped es clock
theorem KMapS.kmap (h : KMapS E w b f) : KMap E w b f := by
  obtain ⟨es, c, L, h1, h2, h3, h4, _⟩ := h.ex
  exact ⟨es, c, L, h1, h2, h3, h4⟩
theorem KMapS.lt (h : KMapS E w b f) : b < w.heap.size := h.kmap.lt
theorem KMapS.kept (h : KMapS E w b f) (hb : w'.heap[b]? = w.heap[b]?) : KMapS E w' b f := by
  obtain ⟨es, c, L, h1, r⟩ := h.ex
  exact ⟨es, c, L, hb.trans h1, r⟩
theorem KMapS.below (h : KMapS E w b f) (hb : Below w.heap.size w w') : KMapS E w' b f := h.kept (hb.block b h.lt)
theorem KMapS.chg {F : Nat → Prop} (h : KMapS E w b f) (hc : Chg F w w') (hf : ¬ F b) : KMapS E w' b f := h.kept (hc.block b h.lt hf)
theorem KMapS.new (w : World) : KMapS E (w.alloc (.map #[] 0)) w.heap.size (fun _ => none) := ⟨#[], 0, [], heap_alloc_new _ _, rfl, by simp, fun _ => rfl, stamped_empty⟩
theorem KMapS.ext {g : κ → Option Value} (h : KMapS E w b f) (hg : ∀ k, f k = g k) : KMapS E w b g := by
  obtain ⟨es, c, L, h1, h2, h3, h4, h5⟩ := h.ex
  exact ⟨es, c, L, h1, h2, h3, fun k => (h4 k).trans (hg k), h5⟩
/-- The entry of k stands there with the stamp st. -/
structure EntAt (E : KeyEnc P kt κ) (w : World) (b : Nat) (f : κ → Option Value) (k : κ) (st : Nat) : Prop where
  ex : ∃ (es : Array MapEntry) (clock : Nat) (L : List (κ × Value)) (j : Nat) (e : MapEntry), w.heap[b]? = some (.map es clock) ∧ es.toList.map entOf = L.map (fun p => (E.kv p.1, p.2)) ∧ (L.map (·.1)).Nodup ∧ (∀ x, x ≠ k → lk L x = f x) ∧ Stamped es clock ∧ es[j]? = some e ∧ e.key = E.kv k ∧ e.born = st
theorem EntAt.lt {k : κ} {st : Nat} (h : EntAt E w b f k st) : b < w.heap.size := by
  obtain ⟨es, c, L, j, e, h1, _⟩ := h.ex
  exact (Array.getElem?_eq_some_iff.1 h1).1
theorem EntAt.kept {k : κ} {st : Nat} (h : EntAt E w b f k st) (hb : w'.heap[b]? = w.heap[b]?) : EntAt E w' b f k st := by
  obtain ⟨es, c, L, j, e, h1, r⟩ := h.ex
  exact ⟨es, c, L, j, e, hb.trans h1, r⟩
theorem KMapS.entry (h : KMapS E w b f) (ht : P.underlying t = some (.map kt et)) {z : Value} (hz : ∀ w, (zeroValue et).run P w = .ok z w) (k : κ) :
    ∃ w' st, (Instr.mapEntry t (.map (some b)) (E.kv k)).run P w = .ok (.tuple #[(f k).getD z, .int .i64 (st : Nat)]) w' ∧ EntAt E w' b f k st ∧ Chg (fun j => j = b) w w' ∧ w'.heap.size = w.heap.size := by
  obtain ⟨es, clock, L, hb, h1, h2, h3, hs⟩ := h.ex
  obtain ⟨l, hl⟩ := E.lit k
  have key : ∀ o : Obj, (setObjW w b o).heap.size = w.heap.size := fun o => by simp [setObjW]
  rcases E.K.find w hl es.toList (ents_hall E h1) with ⟨h4, h5⟩ | ⟨j, e, h4, h5, h6⟩
  · have hno := ents_no E h1 h5
    have hf : f k = none := by rw [← h3]; exact lk_none hno
    refine ⟨setObjW w b (.map (es.push ⟨E.kv k, z, clock⟩) (clock + 1)), clock, ?_, ⟨_, _, L ++ [(k, z)], es.size, ⟨E.kv k, z, clock⟩, setObjW_at h.lt _, ?_, ?_, fun x hx => ?_, stamped_push hs _ _, by simp, rfl, rfl⟩, setObjW_chg _ _ _, key _⟩
    · rw [hf]
      simp [Instr.mapEntry, run_underlying ht, MapKept.run_getObj_map hb, E.K.check w false hl, h4, hz, MapKept.run_setObj_map _ hb, Result.andThen, setObjW, goInt]
    · simp [h1, entOf]
    · rw [List.map_append, List.nodup_append]
      refine ⟨h2, by simp, fun a ha b' hb' e => ?_⟩
      obtain ⟨p, hp, rfl⟩ := List.mem_map.1 ha
      simp at hb'
      exact hno p hp (e.trans hb')
    · rw [lk_snoc hno, if_neg hx, h3]
  · obtain ⟨p, hp, hk, hv⟩ := ents_at E h1 h5
    have hpk : p.1 = k := E.inj (hk.symm.trans h6)
    have hj : es[j]? = some e := by simpa using h5
    have hjl : j < es.size := (Array.getElem?_eq_some_iff.1 hj).1
    have hf : f k = some e.val := by rw [← h3, ← hpk, hv]; exact lk_at h2 hp
    refine ⟨setObjW w b (.map (es.modify j fun e' => { e' with key := E.kv k, val := e.val }) clock), e.born, ?_, ⟨_, _, L, j, ⟨E.kv k, e.val, e.born⟩, setObjW_at h.lt _, ?_, h2, fun x hx => h3 x, stamped_modify hs _ _ _, ?_, rfl, rfl⟩, setObjW_chg _ _ _, key _⟩
    · have e1 : es.modify j (fun e' => { e' with key := E.kv k, val := e.val }) = es.modify j fun e' => { e' with key := E.kv k } := by
        apply Array.ext_getElem?
        intro i
        simp only [Array.getElem?_modify]
        by_cases hij : j = i
        · subst hij; simp [hj]
        · simp [hij]
      rw [hf, e1]
      simp [Instr.mapEntry, run_underlying ht, MapKept.run_getObj_map hb, E.K.check w false hl, h4, hj, h6, E.K.stays w hl, MapKept.run_setObj_map _ hb, Result.andThen, setObjW, goInt]
    · apply List.ext_getElem?
      intro i
      have h7 : (es.toList.map entOf)[i]? = (L.map (fun p => (E.kv p.1, p.2)))[i]? := by rw [h1]
      simp only [List.getElem?_map, Array.getElem?_toList, Array.getElem?_modify] at h7 ⊢
      by_cases hij : j = i
      · subst hij
        rw [hj] at h7
        simp only [if_true, hj, Option.map_some] at h7 ⊢
        rw [← h7, Option.some.injEq]
        simp [entOf, h6]
      · simpa [hij] using h7
    · rw [Array.getElem?_modify, if_pos rfl, hj]
      rfl
theorem EntAt.store {k : κ} {st : Nat} (h : EntAt E w b f k st) (v : Value) :
    ∃ w', (Instr.entryStore t (.map (some b)) (.int .i64 (st : Nat)) v).run P w = .ok () w' ∧ KMapS E w' b (fun x => if x = k then some v else f x) ∧ Chg (fun j => j = b) w w' ∧ w'.heap.size = w.heap.size := by
  obtain ⟨es, clock, L, j, e, hb, h1, h2, h3, hs, hj, hk, hst⟩ := h.ex
  have key : ∀ o : Obj, (setObjW w b o).heap.size = w.heap.size := fun o => by simp [setObjW]
  have hlen : es.size = L.length := by have := congrArg List.length h1; simpa using this
  have hjl : j < es.size := (Array.getElem?_eq_some_iff.1 hj).1
  have hfi : es.findIdx? (fun e' => (e'.born : Int) == (st : Int)) = some j := by
    rw [Array.findIdx?_eq_some_iff_getElem]
    have hej : es[j] = e := (Array.getElem?_eq_some_iff.1 hj).2
    refine ⟨hjl, by rw [hej, hst]; simp, fun i hi hc => ?_⟩
    have hn := hs.2
    rw [List.nodup_iff_pairwise_ne, List.pairwise_map, List.pairwise_iff_getElem] at hn
    have := hn i j (by simpa using Nat.lt_trans hi hjl) (by simpa using hjl) hi
    simp only [Array.getElem_toList] at this
    rw [hej, hst] at this
    have hc2 : ((es[i].born : Nat) : Int) = (st : Int) := by simpa using hc
    omega
  obtain ⟨p, hp, hkk, hv⟩ := ents_at E h1 (show es.toList[j]? = some e by simpa using hj)
  have hpk : p.1 = k := E.inj (hkk.symm.trans hk)
  refine ⟨setObjW w b (.map (es.modify j fun e' => { e' with val := v }) clock), ?_, ⟨_, _, L.set j (p.1, v), setObjW_at h.lt _, ?_, ?_, fun x => ?_, ?_⟩, setObjW_chg _ _ _, key _⟩
  · simp [Instr.entryStore, MapKept.run_getObj_map hb, asInt, asIntOf, hfi, MapKept.run_setObj_map _ hb, Result.andThen, setObjW]
  · apply List.ext_getElem?
    intro i
    have h7 : (es.toList.map entOf)[i]? = (L.map (fun p => (E.kv p.1, p.2)))[i]? := by rw [h1]
    simp only [List.getElem?_map, Array.getElem?_toList, Array.getElem?_modify, List.getElem?_set] at h7 ⊢
    by_cases hij : j = i
    · subst hij
      simp [hj, entOf, hkk, ← hlen, hjl]
      rw [(Array.getElem?_eq_some_iff.1 hj).2]
      exact hkk
    · simp [hij, h7]
  · have hm : (L.set j (p.1, v)).map (·.1) = L.map (·.1) := by
      apply List.ext_getElem?
      intro i
      simp only [List.getElem?_map, List.getElem?_set]
      by_cases hij : j = i
      · subst hij
        rw [if_pos rfl, if_pos (by omega), hp]
        rfl
      · rw [if_neg hij]
    rw [hm]
    exact h2
  · rw [lk_set h2 hp, hpk]
    by_cases hx : x = k
    · rw [if_pos hx, if_pos hx]
    · rw [if_neg hx, if_neg hx, h3 x hx]
  · have e : es.modify j (fun e' => { e' with val := v }) = es.modify j fun e' => { e' with key := E.kv k, val := v } := by
      apply Array.ext_getElem?
      intro i
      simp only [Array.getElem?_modify]
      by_cases hij : j = i
      · subst hij; simp [hj, hk]
      · simp [hij]
    rw [e]
    exact stamped_modify hs _ _ _
end
section
variable {ops : Array Oper} {rest : List Oper} {o : Oper} {a : Act} {w : World} {Q : Exit → Act → World → Prop} {kt et : TypeId} {κ : Type} [DecidableEq κ] {E : KeyEnc Try.prog kt κ} {b : Nat} {f : κ → Option Value}
theorem wpList_entryV (hm : KMapS E w b f) (hg : o.guard = none) (dst : Option Tmp) (hdst : o.dst = dst) (t : TypeId) (hu : Try.prog.underlying t = some (.map kt et)) {z : Value} (hz : ∀ w, (zeroValue et).run Try.prog w = .ok z w) (m k : Operand) (ho : o.op = .mapEntry t m k) (hmm : a.eval m = .map (some b)) (x : κ) (hk : a.eval k = E.kv x)
    (h : ∀ w' st, EntAt E w' b f x st → Chg (fun j => j = b) w w' → w'.heap.size = w.heap.size → wpList Try.prog ops Q rest (a.put dst (.tuple #[(f x).getD z, .int .i64 ((st : Nat) : Int)])) w') : wpList Try.prog ops Q (o :: rest) a w := by
  obtain ⟨w', st, h1, h2, h3, h4⟩ := hm.entry hu hz x
  refine wpList_runI hg dst hdst _ w' ?_ (h w' st h2 h3 h4)
  unfold execOp
  simp only [ho, hmm, hk, Sem.run_bind, h1, Result.andThen_ok]
  rfl
theorem wpList_entryStV {x : κ} {st : Nat} (hm : EntAt E w b f x st) (hg : o.guard = none) (hdst : o.dst = none) (t : TypeId) (m k v : Operand) (ho : o.op = .entryStore t m k v) (hmm : a.eval m = .map (some b)) (hk : a.eval k = .int .i64 ((st : Nat) : Int)) (y : Value) (hv : a.eval v = y)
    (h : ∀ w', KMapS E w' b (fun z => if z = x then some y else f z) → Chg (fun j => j = b) w w' → w'.heap.size = w.heap.size → wpList Try.prog ops Q rest a w') : wpList Try.prog ops Q (o :: rest) a w := by
  obtain ⟨w', h1, h2, h3, h4⟩ := hm.store (t := t) y
  refine wpList_plain hg fun K hK => ?_
  unfold Oper.wp execOp
  simp only [ho, hmm, hk, hv, Sem.run_bind, h1, Result.andThen_ok, Sem.run_pure, Oper.upon_skip, hdst]
  exact hK _ _ (h w' h2 h3 h4)
end
end Go.Proofs.Ytjjanjhoaiannaa
