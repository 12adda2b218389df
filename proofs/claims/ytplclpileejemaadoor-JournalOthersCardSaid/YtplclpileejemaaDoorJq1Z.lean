/- Steps of a session without a limit, plainly; what an open of its device finds. -/
import Derived.Test.YtplclpileejemaaDoorJ31Z
namespace Go.Proofs.YtplclpileejemaaDoor
open Go.RowKit
set_option linter.unusedVariables false
set_option linter.unusedSimpArgs false

theorem Ok.up {S : DS} {R : JR} {J : JD} {t : Nat} (h : Ok S R J t) : Ok S R J (t + 1) := ⟨h.ji, h.lim, by have := h.gen; omega, by have := h.nx; omega, h.room.less (by omega)⟩
/-- A step without a limit. -/
theorem Ok.step {S : DS} {R : JR} {J : JD} {t : Nat} (h : Ok S R J t) (ht : t ≤ 1000) (hm : S.dur.length ≤ 4096) (o : JOp) :
    Ok (stepJ S R J o).1 R (stepJ S R J o).2.1 (t + 1) ∧ (stepJ S R J o).1.dur.length = S.dur.length ∧
    ((o.kind % 3 = 0 ∧ (stepJ S R J o).2.2 = 0 ∧ (stepJ S R J o).2.1.ents = J.ents ++ [lawB o.n o.b] ∧ (stepJ S R J o).2.1.first = J.first) ∨
     (¬ (o.kind % 3 = 0 ∧ (stepJ S R J o).2.2 = 0) ∧ ∃ k, k ≤ J.ents.length ∧ (stepJ S R J o).2.1.ents = J.ents.drop k ∧ (stepJ S R J o).2.1.first = J.first + k)) := by
  unfold stepJ
  by_cases h0 : o.kind % 3 = 0
  · rw [if_pos h0]
    rcases h.app (b := lawB o.n o.b) ht (by rw [lawB_length]; omega) with ⟨h1, _⟩ | ⟨S', h1, h2, h3, _⟩
    · rw [h1]
      exact ⟨h.up, rfl, .inr ⟨fun h9 => by have h8 : (9 : Int) = 0 := h9.2; omega, 0, Nat.zero_le _, rfl, rfl⟩⟩
    · rw [h1]
      exact ⟨h2, h3, .inl ⟨h0, rfl, rfl, rfl⟩⟩
  · rw [if_neg h0]
    by_cases h1 : o.kind % 3 = 1
    · rw [if_pos h1]
      obtain ⟨S', k1, k2, k3⟩ := h.syn ht
      rw [k1]
      exact ⟨k2, k3, .inr ⟨fun h9 => h0 h9.1, 0, Nat.zero_le _, rfl, rfl⟩⟩
    · rw [if_neg h1]
      rcases h.trn ht hm ((J.first : Int) + ((o.n % 12 : Nat) : Int) - 2) with ⟨k1, _⟩ | ⟨k1, _⟩ | ⟨S', k, _, _, kn, k1, k2, k3⟩
      · rw [k1]; exact ⟨h.up, rfl, .inr ⟨fun h9 => h0 h9.1, 0, Nat.zero_le _, rfl, rfl⟩⟩
      · rw [k1]; exact ⟨h.up, rfl, .inr ⟨fun h9 => h0 h9.1, 0, Nat.zero_le _, rfl, rfl⟩⟩
      · rw [k1]; exact ⟨k2, k3, .inr ⟨fun h9 => h0 h9.1, k, kn, rfl, rfl⟩⟩
/-- Each entry is noted. -/
def AllOk (f : Nat → Option (List UInt8)) (J : JD) : Prop := ∀ k (h : k < J.ents.length), f (J.first + k) = some J.ents[k]
theorem AllOk.add {f : Nat → Option (List UInt8)} {J J' : JD} {l : List UInt8} (h : AllOk f J) (he : J'.ents = J.ents ++ [l]) (hf : J'.first = J.first) : AllOk (fun x => if x = J.next then some l else f x) J' := fun k hk => by
  obtain ⟨g, u, fi, E, sy, fa⟩ := J'
  simp only at he hf hk ⊢
  subst he hf
  unfold JD.next
  rw [List.length_append, List.length_singleton] at hk
  by_cases e : k = J.ents.length
  · subst e
    rw [if_pos rfl]
    simp
  · rw [if_neg (by omega), List.getElem_append_left (by omega)]
    exact h k (by omega)
theorem AllOk.cut {f : Nat → Option (List UInt8)} {J J' : JD} {k : Nat} (h : AllOk f J) (he : J'.ents = J.ents.drop k) (hf : J'.first = J.first + k) : AllOk f J' := fun i hi => by
  obtain ⟨g, u, fi, E, sy, fa⟩ := J'
  simp only at he hf hi ⊢
  subst he hf
  rw [List.length_drop] at hi
  rw [List.getElem_drop, Nat.add_assoc]
  exact h (k + i) (by omega)
/-- What an open of a journal's device finds. -/
theorem Ok.open {S : DS} {R : JR} {J : JD} {t : Nat} (h : Ok S R J t) (ht : t ≤ 1000) (hm : S.dur.length ≤ 4096) : currL S R = some ⟨J.gen, J.first, J.ents⟩ ∧ JLim (nextG (1 - J.gen % 2) (secL S R.at_ R.cnt)) J.first J.ents.length J.ents ∧ sizeE J.ents ≤ 5000 ∧ Roomy S 10000 ∧ S.down = false ∧ (moveJ S R (1 - J.gen % 2) J.first J.ents).2.1 = 0 ∧ R.at_ + R.cnt ≤ S.dur.length := by
  obtain ⟨c, hc⟩ := h.ji
  have h1 := h.gen
  have h2 := h.nx
  have hm0 := hc.mov (k := 0) (Nat.zero_le _) (by omega) (by omega)
  rw [Nat.add_zero, List.drop_zero] at hm0
  have hn := h.num hm ht
  exact ⟨hc.curr, hm0.lim, hn.sz, hn.room, hc.down, (moveJ_nolim hm0 h.lim hc.down).1, hc.rng⟩
end Go.Proofs.YtplclpileejemaaDoor
