/- Two journals on one device, in memory. -/
import Derived.Test.YtplclpileejemaaDoorJp10Z
namespace Go.Proofs.YtplclpileejemaaDoor
open Go.RowKit
set_option linter.unusedVariables false
set_option linter.unusedSimpArgs false

/-- A device in new memory, apart from a set of blocks. -/
theorem DiskAt.da {w W : World} {F X : Nat → Prop} {b : Nat} {S : DS} (hb : Below w.heap.size w W) (h : DiskAt W F b S) (hF : ∀ k, F k → k < W.heap.size → w.heap.size ≤ k ∧ ¬ X k) : DA w W X b S :=
  ⟨hb, _, h.bound, fun k hk => ⟨(hF k hk.1 hk.2).1, hk.2, (hF k hk.1 hk.2).2⟩⟩
theorem DA.keep {w W W' : World} {X H : Nat → Prop} {b : Nat} {S : DS} (h : DA w W X b S) (hc : Chg H W W') (hH : ∀ k, H k → X k ∧ w.heap.size ≤ k) : DA w W' X b S := by
  obtain ⟨F, h1, h2⟩ := h.st
  exact ⟨h.below.trans (hc.below (fun k hk => (hH k hk).2) h.below.size), F, h1.chg hc (fun k hk e => (h2 k hk).2.2 (hH k e).1), fun k hk => ⟨(h2 k hk).1, Nat.lt_of_lt_of_le (h2 k hk).2.1 hc.size, (h2 k hk).2.2⟩⟩
theorem Write_da {w W : World} {X : Nat → Prop} {b : Nat} {S : DS} (h : DA w W X b S) (hX : ∀ k, X k → k < W.heap.size) (s : Int) {v : Value} {l : List UInt8} {D : Nat → Prop} (hv : BytesN W D v l) (hD : ∀ k, D k → X k) (hr : Roomy S 1) (hl : l.length ≤ 1000) :
    Calls Tryd.prog 24 #[.pointer (some ⟨b, 0, none⟩), .int .i64 s, v] W fun e W' => e = .returned (.int .i64 (S.write s l).2) ∧ DA w W' X b (S.write s l).1 ∧ Chg (fun k => ¬ X k) W W' := by
  obtain ⟨F, h1, h2⟩ := h.st
  have r1 := hr.ops
  have r2 := hr.pend
  refine (Write_any s v l h1 hv.at_ (fun k hk hd => (h2 k hk).2.2 (hD k hd)) (by omega) (by omega) hr.lim (by omega)).mono ?_
  rintro e W' ⟨rfl, k1, k2⟩
  refine ⟨rfl, k1.da (h.below.trans (k2.below (fun k hk => (h2 k hk).1) h.below.size)) (fun k hk _ => ?_), k2.mono (fun k hk => (h2 k hk).2.2)⟩
  rcases hk with hk | hk
  · exact ⟨(h2 k hk).1, (h2 k hk).2.2⟩
  · exact ⟨Nat.le_trans h.below.size hk, fun hx => by have := hX k hx; omega⟩
theorem Format_da {w W : World} {X : Nat → Prop} {b : Nat} {S : DS} (h : DA w W X b S) (hX : ∀ k, X k → k < W.heap.size) (hK : KAt w) (a c : Nat) (hc8 : 8 ≤ c) (hr : a + c ≤ S.dur.length) (hd : S.down = false) (hlim : JLim (nextG 0 (secL S a c)) 0 0 []) (hroom : Roomy S 2) {S1 : DS} (hz1 : (moveJ S ⟨a, c⟩ 0 0 []).1 = S1) (hz2 : (moveJ S ⟨a, c⟩ 0 0 []).2.1 = 0) :
    Calls Tryd.prog 12 #[.pointer (some ⟨b, 0, none⟩), .int .i64 (a : Int), .int .i64 (c : Int)] W fun e W' => e = .returned (.int .i64 0) ∧ DA w W' X b S1 ∧ Chg (fun k => ¬ X k) W W' := by
  obtain ⟨F, h1, h2⟩ := h.st
  refine (JFormat_z h1 (KAt.below hK h.below hK.size) (fun e => by have h3 := (h2 _ e).1; have h4 := hK.size; omega) a c hc8 hr hd hlim hroom hz1 hz2).mono ?_
  rintro e W' ⟨rfl, k1, k2⟩
  refine ⟨rfl, k1.da (h.below.trans (k2.below (fun k hk => (h2 k hk).1) h.below.size)) (fun k hk _ => ?_), k2.mono (fun k hk => (h2 k hk).2.2)⟩
  rcases hk with hk | hk
  · exact ⟨(h2 k hk).1, (h2 k hk).2.2⟩
  · exact ⟨Nat.le_trans h.below.size hk, fun hx => by have := hX k hx; omega⟩
theorem Read_da {w W : World} {X : Nat → Prop} {b : Nat} {S : DS} (h : DA w W X b S) (s : Nat) (hs : s < S.dur.length) (hd : S.down = false) (hr : Roomy S 0) {l : List UInt8} (hl : S.visible s = l) (hne : l ≠ []) :
    Calls Tryd.prog 25 #[.pointer (some ⟨b, 0, none⟩), .int .i64 (s : Int)] W fun e W' => ∃ a c, e = .returned (.tuple #[.slice a l.length c, .int .i64 0]) ∧ BytesN W' (fun k => W.heap.size ≤ k) (.slice a l.length c) l ∧ Below W.heap.size W W' := by
  obtain ⟨F, h1, h2⟩ := h.st
  have r2 := hr.pend
  have hh : S.has (s : Int) = true := by simp [DS.has]; omega
  refine (Read_any s h1 (by omega)).mono ?_
  rintro e W' ⟨v, rfl, k1, k2⟩
  have e1 : S.readE s = 0 := by unfold DS.readE; rw [if_neg (by rw [hd]; simp), if_pos hh]
  have e2 : S.readB s = l := by unfold DS.readB; rw [if_neg (by rw [hd]; simp), if_pos hh, Int.toNat_natCast, hl]
  rw [e2, if_neg hne] at k1
  obtain ⟨g, ty, rfl, k3⟩ := k1
  rw [e1]
  exact ⟨_, _, rfl, OwnBytes.n ⟨g, ty, rfl, k3⟩, k2⟩
/-- What a journal holds besides its device. -/
theorem JAll.part {w W : World} {U X : Nat → Prop} {b g : Nat} {S : DS} {R : JR} {J : JD} (h : JAll w W U b g S R J) (hX : ∀ k, U k → ¬ X k) :
    ∃ G ev, JBlk W g b R J ev ∧ EntsAt W G ev J.ents ∧ ¬ G g ∧ (∀ k, G k ∨ k = g → w.heap.size ≤ k ∧ k < W.heap.size ∧ ¬ X k) ∧ DA w W (fun k => X k ∨ G k ∨ k = g) b S := by
  obtain ⟨F, G, h1, h2, h3⟩ := h.st
  obtain ⟨ev, h4, h5⟩ := h1.mem
  refine ⟨G, ev, h4, h5, h1.gG, fun k hk => ?_, h.below, F, h1.dev, fun k hk => ⟨h.lo k (h2 k hk), h1.fl k hk, fun hx => ?_⟩⟩
  · rcases hk with hk | rfl
    · exact ⟨h.lo k (h3 k hk), h1.gl k hk, hX k (h3 k hk)⟩
    · exact ⟨h.lo _ h.ug, h4.lt, hX _ h.ug⟩
  · rcases hx with hx | hx | rfl
    · exact hX k (h2 k hk) hx
    · exact h1.fG k hx hk
    · exact h1.fg hk
/-- Two journals on one device, apart from the blocks of X. -/
structure JTwo (w W : World) (X : Nat → Prop) (b g h : Nat) (S : DS) (R R2 : JR) (J J2 : JD) : Prop where
  ex : ∃ U G ev, JAll w W U b g S R J ∧ (∀ k, U k → k < W.heap.size ∧ ¬ X k) ∧ JBlk W h b R2 J2 ev ∧ EntsAt W G ev J2.ents ∧ ¬ G h ∧ (∀ k, G k ∨ k = h → ¬ U k ∧ w.heap.size ≤ k ∧ k < W.heap.size ∧ ¬ X k)
  xl : ∀ k, X k → k < W.heap.size
section
variable {w W W' : World} {X : Nat → Prop} {b g h : Nat} {S : DS} {R R2 : JR} {J J2 : JD}
theorem JTwo.below (x : JTwo w W X b g h S R R2 J J2) : Below w.heap.size w W := by obtain ⟨U, G, ev, h1, _⟩ := x.ex; exact h1.below
theorem JTwo.step (x : JTwo w W X b g h S R R2 J J2) (hb : Below W.heap.size W W') : JTwo w W' X b g h S R R2 J J2 := by
  obtain ⟨U, G, ev, h1, h2, h3, h4, h5, h6⟩ := x.ex
  exact ⟨⟨U, G, ev, h1.step hb, fun k hk => ⟨Nat.lt_of_lt_of_le (h2 k hk).1 hb.size, (h2 k hk).2⟩, h3.below hb, h4.chg (Chg.of_below hb) (fun _ _ _ h => h), h5, fun k hk => ⟨(h6 k hk).1, (h6 k hk).2.1, Nat.lt_of_lt_of_le (h6 k hk).2.2.1 hb.size, (h6 k hk).2.2.2⟩⟩, fun k hk => Nat.lt_of_lt_of_le (x.xl k hk) hb.size⟩
theorem JTwo.swap (x : JTwo w W X b g h S R R2 J J2) : JTwo w W X b h g S R2 R J2 J := by
  obtain ⟨U, G, ev, h1, h2, h3, h4, h5, h6⟩ := x.ex
  obtain ⟨F, G1, j1, j2, j3⟩ := h1.st
  obtain ⟨ev1, j4, j5⟩ := j1.mem
  have hg : ¬ G g := fun e => (h6 g (.inl e)).1 h1.ug
  have hne : g ≠ h := fun e => (h6 h (.inr rfl)).1 (e ▸ h1.ug)
  refine ⟨⟨fun k => F k ∨ G k ∨ k = h, G1, ev1, ⟨h1.below, ⟨F, G, ⟨j1.dev, ⟨ev, h3, h4⟩, fun e => (h6 h (.inr rfl)).1 (j2 h e), h5, fun k hk e => (h6 k (.inl hk)).1 (j2 k e), j1.fl, fun k hk => (h6 k (.inl hk)).2.2.1⟩, fun k hk => .inl hk, fun k hk => .inr (.inl hk)⟩, .inr (.inr rfl), fun k hk => ?_⟩, fun k hk => ?_, j4, j5, j1.gG, fun k hk => ?_⟩, x.xl⟩
  · rcases hk with hk | hk
    · exact h1.lo k (j2 k hk)
    · exact (h6 k hk).2.1
  · rcases hk with hk | hk
    · exact h2 k (j2 k hk)
    · exact (h6 k hk).2.2
  · rcases hk with hk | rfl
    · refine ⟨fun e => ?_, h1.lo k (j3 k hk), j1.gl k hk, (h2 k (j3 k hk)).2⟩
      rcases e with e | e
      · exact j1.fG k hk e
      · exact (h6 k e).1 (j3 k hk)
    · refine ⟨fun e => ?_, h1.lo _ h1.ug, j4.lt, (h2 _ h1.ug).2⟩
      rcases e with e | e | e
      · exact j1.fg e
      · exact hg e
      · exact hne e
/-- The second journal was opened beside the first one. -/
theorem JTwo.made {V : World} {U U2 : Nat → Prop} {S0 : DS} (h1 : JAll w V U b h S0 R2 J2) {G : Nat → Prop} {ev : Value} (k1 : JBlk V h b R2 J2 ev) (k2 : EntsAt V G ev J2.ents) (k3 : ¬ G h) (k4 : ∀ k, G k ∨ k = h → w.heap.size ≤ k ∧ k < V.heap.size ∧ ¬ X k) (hx : ∀ k, X k → k < V.heap.size)
    (h2 : JAll w W U2 b g S R J) (h3 : ∀ k, U2 k → k < W.heap.size ∧ ¬ (X k ∨ G k ∨ k = h)) (hc : Chg (fun k => ¬ (X k ∨ G k ∨ k = h)) V W) : JTwo w W X b g h S R R2 J J2 :=
  ⟨⟨U2, G, ev, h2, fun k hk => ⟨(h3 k hk).1, fun e => (h3 k hk).2 (.inl e)⟩, k1.chg hc (fun e => e (.inr (.inr rfl))), k2.chg hc (fun k _ hg e => e (.inr (.inl hg))), k3, fun k hk => ⟨fun e => (h3 k e).2 (.inr hk), (k4 k hk).1, Nat.lt_of_lt_of_le (k4 k hk).2.1 hc.size, (k4 k hk).2.2⟩⟩, fun k hk => Nat.lt_of_lt_of_le (hx k hk) hc.size⟩
theorem JTwo.da (x : JTwo w W X b g h S R R2 J J2) : DA w W (fun k => X k ∨ k = g ∨ k = h) b S := by
  obtain ⟨U, G, ev, h1, h2, h3, h4, h5, h6⟩ := x.ex
  refine h1.da (fun k hk => ?_)
  rcases hk with hk | rfl | rfl
  · exact .inl (fun e => (h2 k e).2 hk)
  · exact .inr rfl
  · exact .inl (h6 _ (.inr rfl)).1
theorem JTwo.blk (x : JTwo w W X b g h S R R2 J J2) : ∃ (va : Option Addr) (vc : Nat), JBlk W g b R J (.slice va J.ents.length vc) := by obtain ⟨U, G, ev, h1, _⟩ := x.ex; exact h1.blk
theorem JTwo.act (x : JTwo w W X b g h S R R2 J J2) (hK : KAt w) (hn : Num S R J) (o : JOp) (hkd : o.kind < 256) (hon : o.n < 65536) {S' : DS} {J' : JD} {er : Int} (hz : stepJ S R J o = (S', J', er)) :
    Calls Tryd.prog 23 #[.pointer (some ⟨g, 0, none⟩), .agg o.cells.toArray] W fun e W' => e = .returned (.int .i64 er) ∧ JTwo w W' X b g h S' R R2 J' J2 ∧ Chg (fun k => ¬ X k) W W' := by
  obtain ⟨U, G, ev, h1, h2, h3, h4, h5, h6⟩ := x.ex
  refine (step_any h1 (fun k hk => (h2 k hk).1) hK hn o hkd hon).mono ?_
  rintro e W' ⟨rfl, k1, k2⟩
  rw [hz] at k1 ⊢
  refine ⟨rfl, ⟨⟨_, G, ev, k1.tight, fun k hk => ⟨hk.2, fun e => hk.1.elim (fun e2 => (h2 k e2).2 e) (fun e2 => by have := x.xl k e; omega)⟩, h3.chg k2 (fun e => (h6 h (.inr rfl)).1 e), h4.chg k2 (fun k _ hg e => (h6 k (.inl hg)).1 e), h5, fun k hk => ⟨fun e => ?_, (h6 k hk).2.1, Nat.lt_of_lt_of_le (h6 k hk).2.2.1 k2.size, (h6 k hk).2.2.2⟩⟩, fun k hk => Nat.lt_of_lt_of_le (x.xl k hk) k2.size⟩, k2.mono (fun k hk => (h2 k hk).2)⟩
  rcases e.1 with e | e
  · exact (h6 k hk).1 e
  · have := (h6 k hk).2.2.1; omega
end
end Go.Proofs.YtplclpileejemaaDoor
