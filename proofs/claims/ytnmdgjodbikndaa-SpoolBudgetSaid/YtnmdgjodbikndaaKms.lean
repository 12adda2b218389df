/- A map whose entries, in the order in which they were put, are a list. -/
import Derived.Test.YtnmdgjodbikndaaKmap
import Derived.Test.YtnmdgjodbikndaaMr
namespace Go.Proofs.Ytnmdgjodbikndaa
open Go.RowKit
set_option linter.unusedVariables false
set_option linter.unusedSimpArgs false

theorem stamped_eraseI {es : Array MapEntry} {clock : Nat} (h : Stamped es clock) (j : Nat) (hj : j < es.size) : Stamped (es.eraseIdxIfInBounds j) clock := by
  have hsub : (es.eraseIdxIfInBounds j).toList = es.toList.eraseIdx j := by
    unfold Array.eraseIdxIfInBounds
    rw [dif_pos hj]
    simp
  have her : ∀ {α β : Type} (g : α → β) (l : List α) (i : Nat), (l.eraseIdx i).map g = (l.map g).eraseIdx i := fun g l i => by
    induction l generalizing i with
    | nil => simp
    | cons x l ih => cases i <;> simp [ih]
  refine ⟨fun e he => h.1 e ?_, ?_⟩
  · rw [hsub] at he
    exact (List.eraseIdx_sublist _ _).mem he
  · rw [hsub, her]
    exact h.2.sublist (List.eraseIdx_sublist _ _)
section
variable {P : Program} {kt et t : TypeId} {κ : Type} {E : KeyEnc P kt κ} {w w' : World} {b : Nat} {L : List (κ × Value)}
structure KMS (E : KeyEnc P kt κ) (w : World) (b : Nat) (L : List (κ × Value)) : Prop where
  ex : ∃ es clock, w.heap[b]? = some (.map es clock) ∧ es.toList.map entOf = L.map (fun p => (E.kv p.1, p.2)) ∧ (L.map (·.1)).Nodup ∧ Stamped es clock
theorem KMS.nodup (h : KMS E w b L) : (L.map (·.1)).Nodup := by obtain ⟨_, _, _, _, h, _⟩ := h.ex; exact h
theorem KMS.kmap [DecidableEq κ] (h : KMS E w b L) : KMap E w b (lk L) := by
  obtain ⟨es, c, h1, h2, h3, _⟩ := h.ex
  exact ⟨es, c, L, h1, h2, h3, fun _ => rfl⟩
theorem KMS.lt (h : KMS E w b L) : b < w.heap.size := by
  obtain ⟨es, c, h1, _⟩ := h.ex
  exact (Array.getElem?_eq_some_iff.1 h1).1
theorem KMS.kept (h : KMS E w b L) (hb : w'.heap[b]? = w.heap[b]?) : KMS E w' b L := by
  obtain ⟨es, c, h1, r⟩ := h.ex
  exact ⟨es, c, hb.trans h1, r⟩
theorem KMS.below (h : KMS E w b L) (hb : Below w.heap.size w w') : KMS E w' b L := h.kept (hb.block b h.lt)
theorem KMS.chg {F : Nat → Prop} (h : KMS E w b L) (hc : Chg F w w') (hf : ¬ F b) : KMS E w' b L := h.kept (hc.block b h.lt hf)
theorem KMS.new (w : World) : KMS E (w.alloc (.map #[] 0)) w.heap.size [] := ⟨#[], 0, heap_alloc_new _ _, rfl, by simp, stamped_empty⟩
theorem KMS.size (h : KMS E w b L) : ∃ es clock, w.heap[b]? = some (.map es clock) ∧ es.size = L.length := by
  obtain ⟨es, c, h1, h2, _⟩ := h.ex
  exact ⟨es, c, h1, by have := congrArg List.length h2; simpa using this⟩
/-- A key that is not there is put behind. -/
theorem KMS.put (h : KMS E w b L) (ht : P.underlying t = some (.map kt et)) (k : κ) (v : Value) (hk : k ∉ L.map (·.1)) :
    ∃ w', (Instr.mapUpdate t (.map (some b)) (E.kv k) v).run P w = .ok () w' ∧ KMS E w' b (L ++ [(k, v)]) ∧ Chg (fun j => j = b) w w' := by
  obtain ⟨es, clock, hb, h1, h2, hs⟩ := h.ex
  obtain ⟨l, hl⟩ := E.lit k
  rcases E.K.find w hl es.toList (ents_hall E h1) with ⟨h4, h5⟩ | ⟨j, e, h4, h5, h6⟩
  · refine ⟨setObjW w b (.map (es.push ⟨E.kv k, v, clock⟩) (clock + 1)), ?_, ⟨_, _, setObjW_at h.lt _, ?_, ?_, stamped_push hs _ _⟩, setObjW_chg _ _ _⟩
    · simp [Instr.mapUpdate, run_underlying ht, MapKept.run_getObj_map hb, E.K.check w false hl, h4, MapKept.run_setObj_map _ hb, Result.andThen, setObjW]
    · simp [h1, entOf]
    · rw [List.map_append, List.nodup_append]
      refine ⟨h2, by simp, fun a ha b' hb' e => ?_⟩
      simp at hb'
      exact hk (hb' ▸ e ▸ ha)
  · obtain ⟨p, hp, hkk, hv⟩ := ents_at E h1 h5
    have hpk : p.1 = k := E.inj (hkk.symm.trans h6)
    exact absurd (List.mem_map.2 ⟨p, List.mem_of_getElem? hp, hpk⟩) hk
/-- The entry at a place is taken away. -/
theorem KMS.del (h : KMS E w b L) (ht : P.underlying t = some (.map kt et)) (ty : TypeId) (k : κ) {j : Nat} {p : κ × Value} (hj : L[j]? = some p) (hp : p.1 = k) :
    ∃ w', (Builtin.delete_ #[t, kt] ty #[.map (some b), E.kv k]).run P w = .ok (.tuple #[]) w' ∧ KMS E w' b (L.eraseIdx j) ∧ Chg (fun j => j = b) w w' := by
  obtain ⟨es, clock, hb, h1, h2, hs⟩ := h.ex
  obtain ⟨l, hl⟩ := E.lit k
  rcases E.K.find w hl es.toList (ents_hall E h1) with ⟨h4, h5⟩ | ⟨i, e, h4, h5, h6⟩
  · exact absurd hp (ents_no E h1 h5 p (List.mem_of_getElem? hj))
  · obtain ⟨q, hq, hkk, hv⟩ := ents_at E h1 h5
    have hqk : q.1 = k := E.inj (hkk.symm.trans h6)
    obtain rfl : i = j := by
      have e1 : (L.map (·.1))[i]? = some k := by rw [List.getElem?_map, hq, Option.map_some, hqk]
      have e2 : (L.map (·.1))[j]? = some k := by rw [List.getElem?_map, hj, Option.map_some, hp]
      obtain ⟨hi, e3⟩ := List.getElem?_eq_some_iff.1 e1
      obtain ⟨hj', e4⟩ := List.getElem?_eq_some_iff.1 e2
      exact (List.getElem_inj h2).1 (e3.trans e4.symm)
    have hjl : i < es.size := by have := (List.getElem?_eq_some_iff.1 h5).1; simpa using this
    have hsub : (es.eraseIdxIfInBounds i).toList = es.toList.eraseIdx i := by
      unfold Array.eraseIdxIfInBounds
      rw [dif_pos hjl]
      simp
    have her : ∀ {α β : Type} (g : α → β) (l : List α) (i : Nat), (l.eraseIdx i).map g = (l.map g).eraseIdx i := fun g l i => by
      induction l generalizing i with
      | nil => simp
      | cons x l ih => cases i <;> simp [ih]
    refine ⟨setObjW w b (.map (es.eraseIdxIfInBounds i) clock), ?_, ⟨_, _, setObjW_at h.lt _, ?_, ?_, stamped_eraseI hs i hjl⟩, setObjW_chg _ _ _⟩
    · simp [Builtin.delete_, run_underlying ht, MapKept.run_getObj_map hb, E.K.check w _ hl, h4, MapKept.run_setObj_map _ hb, Result.andThen, setObjW]
    · rw [hsub, her, h1, her]
    · rw [her]
      exact h2.sublist (List.eraseIdx_sublist _ _)
end
end Go.Proofs.Ytnmdgjodbikndaa
