/- The reference's device (bulletinref22.D) in memory, over the same abstract state: is, counted, Visible, Read. -/
import Derived.Test.YtkklbmnbjmicnaaDisk12
namespace Go.Proofs.Ytkklbmnbjmicnaa
open Go.RowKit
set_option linter.unusedVariables false
set_option linter.unusedSimpArgs false

def limI (S : DS) : Int := match S.limit with | none => -1 | some k => (k : Int)
def refV (S : DS) (dv wv : Value) : Value := .agg #[dv, wv, .int .i64 (limI S), .bool S.down, .int .i64 (S.ops : Int)]

/-- The slice value dv holds slices of bytes: the sectors. -/
def DurAt (w : World) (G : Nat → Prop) (dv : Value) (dur : List (List UInt8)) : Prop :=
  ∃ D : List (List UInt8 × Value), D.map (·.1) = dur ∧ w.ownsRow 0 30 1 dv dur.length (D.map (·.2)) ∧ (∀ g, dv.ownBlock = some g → G g) ∧ ∀ x ∈ D, BytesAt w G x.2 x.1
/-- The slice value wv holds writes of the reference. -/
def WrAt (w : World) (G : Nat → Prop) (wv : Value) (l : List (Nat × List UInt8)) : Prop :=
  ∃ L : List (Nat × List UInt8 × Value), L.map (fun x => (x.1, x.2.1)) = l ∧ w.ownsRow 0 90 2 wv l.length (lrow L) ∧ (∀ g, wv.ownBlock = some g → G g) ∧ ∀ x ∈ L, BytesAt w G x.2.2 x.2.1
/-- v is the reference's device in state S; all its blocks are in G. -/
def RefAt (w : World) (G : Nat → Prop) (S : DS) (v : Value) : Prop := ∃ dv wv, v = refV S dv wv ∧ DurAt w G dv S.dur ∧ WrAt w G wv S.pend

theorem DurAt.len {w : World} {G : Nat → Prop} {dv : Value} {dur : List (List UInt8)} (h : DurAt w G dv dur) : ∃ a cap, dv = .slice a dur.length cap := by
  obtain ⟨L, hL, hr, _⟩ := h
  rcases hr.2 with ⟨rfl, h0⟩ | ⟨g, cap, cur, rfl, _⟩
  · exact ⟨none, 0, by rw [h0]⟩
  · exact ⟨_, _, rfl⟩
theorem WrAt.len {w : World} {G : Nat → Prop} {wv : Value} {l : List (Nat × List UInt8)} (h : WrAt w G wv l) : ∃ a cap, wv = .slice a l.length cap := by
  obtain ⟨L, hL, hr, _⟩ := h
  rcases hr.2 with ⟨rfl, h0⟩ | ⟨g, cap, cur, rfl, _⟩
  · exact ⟨none, 0, by rw [h0]⟩
  · exact ⟨_, _, rfl⟩

/-- What is read of a row: element i at s cells an element. -/
theorem ownsRow_at {w : World} {B n s : Nat} {T : TypeId} {v : Value} {xs : List Value} (h : w.ownsRow B T s v n xs) (hn : 0 < n) :
    ∃ g cap, v = .slice (some ⟨g, 0, none⟩) n cap ∧ g < w.heap.size ∧ v.ownBlock = some g ∧ ∀ j u, xs[j]? = some u → w.cell? ⟨g, j, none⟩ = some u := by
  rcases h.2 with ⟨rfl, h0⟩ | ⟨g, cap, cur, rfl, _, hg, _, _, _, ht⟩
  · omega
  · refine ⟨g, cap, rfl, (Array.getElem?_eq_some_iff.1 hg).1, rfl, fun j u hu => ?_⟩
    rw [cell_of_row w g _ cur _ _ hg]
    rw [← ht, List.getElem?_take] at hu
    split at hu
    · simpa using hu
    · cases hu

theorem DurAt.at {w : World} {G : Nat → Prop} {dv : Value} {dur : List (List UInt8)} (h : DurAt w G dv dur) (i : Nat) (hi : i < dur.length) :
    ∃ g cap v, dv = .slice (some ⟨g, 0, none⟩) dur.length cap ∧ g < w.heap.size ∧ G g ∧ w.cell? ⟨g, i, none⟩ = some v ∧ BytesAt w G v dur[i] := by
  obtain ⟨D, hD, hr, hG, hb⟩ := h
  obtain ⟨g, cap, e, hg, hob, hc⟩ := ownsRow_at hr (by omega)
  have hl : D.length = dur.length := by rw [← hD, List.length_map]
  have hiD : i < D.length := by omega
  refine ⟨g, cap, D[i].2, e, hg, hG g hob, hc i _ (by simp [hiD]), ?_⟩
  have := hb D[i] (List.getElem_mem hiD)
  have e2 : dur[i] = D[i].1 := by simp [← hD]
  rw [e2]
  exact this

theorem lrow_at (L : List (Nat × List UInt8 × Value)) (i : Nat) (hi : i < L.length) : (lrow L)[i * 2]? = some (.int .i64 (L[i].1 : Int)) ∧ (lrow L)[i * 2 + 1]? = some L[i].2.2 := by
  induction L generalizing i with
  | nil => simp at hi
  | cons x L ih =>
    cases i with
    | zero => exact ⟨rfl, rfl⟩
    | succ i =>
      have := ih i (by simpa using hi)
      rw [show (i + 1) * 2 = i * 2 + 1 + 1 by omega]
      exact this

theorem WrAt.at {w : World} {G : Nat → Prop} {wv : Value} {l : List (Nat × List UInt8)} (h : WrAt w G wv l) (i : Nat) (hi : i < l.length) :
    ∃ g cap v, wv = .slice (some ⟨g, 0, none⟩) l.length cap ∧ g < w.heap.size ∧ G g ∧ w.cell? ⟨g, i * 2, none⟩ = some (.int .i64 (l[i].1 : Int)) ∧ w.cell? ⟨g, i * 2 + 1, none⟩ = some v ∧ BytesAt w G v l[i].2 := by
  obtain ⟨L, hL, hr, hG, hb⟩ := h
  obtain ⟨g, cap, e, hg, hob, hc⟩ := ownsRow_at hr (by omega)
  have hl : L.length = l.length := by rw [← hL, List.length_map]
  have hiL : i < L.length := by omega
  have hx := lrow_at L i hiL
  have e2 : l[i] = (L[i].1, L[i].2.1) := by simp [← hL]
  refine ⟨g, cap, L[i].2.2, e, hg, hG g hob, ?_, hc _ _ hx.2, ?_⟩
  · rw [e2]; exact hc _ _ hx.1
  · rw [e2]; exact hb L[i] (List.getElem_mem hiL)

theorem DurAt.kept {w w' : World} {F G : Nat → Prop} {dv : Value} {dur : List (List UInt8)} (h : DurAt w G dv dur) (hc : Chg F w w') (hd : ∀ k, G k → ¬ F k) : DurAt w' G dv dur := by
  obtain ⟨D, hD, hr, hG, hb⟩ := h
  refine ⟨D, hD, ?_, hG, fun x hx => (hb x hx).kept hc hd⟩
  refine ⟨hr.1, ?_⟩
  rcases hr.2 with hn | ⟨g, cap, cur, e, hbg, hg, rest⟩
  · exact .inl hn
  · exact .inr ⟨g, cap, cur, e, hbg, (hc.block g (Array.getElem?_eq_some_iff.1 hg).1 (hd g (hG g (by rw [e]; rfl)))).trans hg, rest⟩
theorem WrAt.kept {w w' : World} {F G : Nat → Prop} {wv : Value} {l : List (Nat × List UInt8)} (h : WrAt w G wv l) (hc : Chg F w w') (hd : ∀ k, G k → ¬ F k) : WrAt w' G wv l := by
  obtain ⟨D, hD, hr, hG, hb⟩ := h
  refine ⟨D, hD, ?_, hG, fun x hx => (hb x hx).kept hc hd⟩
  refine ⟨hr.1, ?_⟩
  rcases hr.2 with hn | ⟨g, cap, cur, e, hbg, hg, rest⟩
  · exact .inl hn
  · exact .inr ⟨g, cap, cur, e, hbg, (hc.block g (Array.getElem?_eq_some_iff.1 hg).1 (hd g (hG g (by rw [e]; rfl)))).trans hg, rest⟩
theorem RefAt.kept {w w' : World} {F G : Nat → Prop} {S : DS} {v : Value} (h : RefAt w G S v) (hc : Chg F w w') (hd : ∀ k, G k → ¬ F k) : RefAt w' G S v := by
  obtain ⟨dv, wv, rfl, h1, h2⟩ := h
  exact ⟨dv, wv, rfl, h1.kept hc hd, h2.kept hc hd⟩
theorem RefAt.below {w w' : World} {G : Nat → Prop} {S : DS} {v : Value} (h : RefAt w G S v) (hb : Below w.heap.size w w') : RefAt w' G S v := h.kept (F := fun _ => False) (Chg.of_below hb) (fun _ _ h => h)
/-- Its blocks lie in the heap. -/
theorem RefAt.bound {w : World} {G : Nat → Prop} {S : DS} {v : Value} (h : RefAt w G S v) : RefAt w (fun k => G k ∧ k < w.heap.size) S v := by
  obtain ⟨dv, wv, rfl, ⟨D, hD, hr, hG, hb⟩, ⟨L, hL, hr', hG', hb'⟩⟩ := h
  exact ⟨dv, wv, rfl, ⟨D, hD, hr, fun g e => ⟨hG g e, (ownsRow_lt hr g e).2⟩, fun x hx => (hb x hx).mono' (fun k hk h => ⟨h, hk⟩)⟩, ⟨L, hL, hr', fun g e => ⟨hG' g e, (ownsRow_lt hr' g e).2⟩, fun x hx => (hb' x hx).mono' (fun k hk h => ⟨h, hk⟩)⟩⟩
theorem RefAt.mono {w : World} {G G' : Nat → Prop} {S : DS} {v : Value} (h : RefAt w G S v) (hGG : ∀ k, G k → G' k) : RefAt w G' S v := by
  obtain ⟨dv, wv, rfl, ⟨D, hD, hr, hG, hb⟩, ⟨L, hL, hr', hG', hb'⟩⟩ := h
  exact ⟨dv, wv, rfl, ⟨D, hD, hr, fun g e => hGG g (hG g e), fun x hx => (hb x hx).mono hGG⟩, ⟨L, hL, hr', fun g e => hGG g (hG' g e), fun x hx => (hb' x hx).mono hGG⟩⟩

set_option maxHeartbeats 1000000 in
theorem ref_is {w : World} {G : Nat → Prop} {S : DS} {v : Value} (s : Int) (h : RefAt w G S v) :
    Calls Try.prog 59 #[v, .int .i64 s] w fun e w' => e = .returned (.bool (S.has s)) ∧ Below w.heap.size w w' := by
  obtain ⟨dv, wv, rfl, hd, hw⟩ := h
  obtain ⟨a, cap, rfl⟩ := hd.len
  obtain ⟨a', cap', rfl⟩ := hw.len
  clear hd hw
  unfold refV
  by_cases h0 : 0 ≤ s
  · by_cases h1 : s < (S.dur.length : Int)
    · have e : S.has s = true := by simp [DS.has, h0, h1]
      rw [e]
      clear e
      go_enter Try.func59, Try.ntmps59
      go_wp2
      go_ret
      exact ⟨rfl, (Below.refl _ _).alloc (Nat.le_refl _) _⟩
    · have e : S.has s = false := by simp [DS.has, h0, h1]
      rw [e]
      clear e
      go_enter Try.func59, Try.ntmps59
      go_wp2
      go_ret
      exact ⟨rfl, (Below.refl _ _).alloc (Nat.le_refl _) _⟩
  · have e : S.has s = false := by simp [DS.has, h0]
    rw [e]
    clear e
    go_enter Try.func59, Try.ntmps59
    go_wp2
    go_ret
    exact ⟨rfl, (Below.refl _ _).alloc (Nat.le_refl _) _⟩

end Go.Proofs.Ytkklbmnbjmicnaa
