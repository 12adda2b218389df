/- A device whose journal is closed: Fail, SetLimit, Restart, Open; deleting in a map; what an open behind a failure brings. -/
import Derived.Test.YtplclpileejemaaDoorJ33Z
namespace Go.Proofs.YtplclpileejemaaDoor
open Go.RowKit
set_option linter.unusedVariables false
set_option linter.unusedSimpArgs false

theorem SMap.del {w : World} {m : Nat} {f : Nat → Option (List UInt8)} (h : SMap w m f) (n : Nat) (hn : n < 4611686018427387904) :
    ∃ w', (Builtin.delete_ #[45, 3] 0 #[.map (some m), .int .i64 (n : Int)]).run Tryd.prog w = .ok (.tuple #[]) w' ∧ SMap w' m (fun x => if x = n then none else f x) ∧ Chg (fun j => j = m) w w' := by
  obtain ⟨w', h1, h2, h3⟩ := h.km.del Tryd.underlying45 0 (keyN n hn)
  refine ⟨w', h1, ⟨h2.ext fun k => ?_⟩, h3⟩
  by_cases hk : k = keyN n hn
  · subst hk
    have e : (keyN n hn).1 = (n : Int) := rfl
    simp [e]
  · rw [if_neg hk]
    by_cases h0 : 0 ≤ k.1
    · have hne : k.1.toNat ≠ n := fun e => hk (Subtype.ext (by show k.1 = (n : Int); omega))
      simp [h0, hne]
    · simp [h0]

/-- A device in memory newer than w, apart from the blocks of X. -/
structure DA (w W : World) (X : Nat → Prop) (b : Nat) (S : DS) : Prop where
  below : Below w.heap.size w W
  st : ∃ F, DiskAt W F b S ∧ ∀ k, F k → w.heap.size ≤ k ∧ k < W.heap.size ∧ ¬ X k
section
variable {w W0 W W' : World} {X Y : Nat → Prop} {b : Nat} {S : DS}
theorem DA.step (h : DA w W X b S) (hb : Below W.heap.size W W') : DA w W' X b S := by
  obtain ⟨F, h1, h2⟩ := h.st
  exact ⟨h.below.trans (hb.mono h.below.size), F, h1.below hb, fun k hk => ⟨(h2 k hk).1, Nat.lt_of_lt_of_le (h2 k hk).2.1 hb.size, (h2 k hk).2.2⟩⟩
theorem DA.less (h : DA w W X b S) (hY : ∀ k, Y k → X k ∨ W.heap.size ≤ k) : DA w W Y b S := by
  obtain ⟨F, h1, h2⟩ := h.st
  exact ⟨h.below, F, h1, fun k hk => ⟨(h2 k hk).1, (h2 k hk).2.1, fun hy => (hY k hy).elim (h2 k hk).2.2 (fun h3 => by have := (h2 k hk).2.1; omega)⟩⟩
theorem DA.most (h : DA w W X b S) : S.dur.length ≤ 4096 := by obtain ⟨F, h1, _⟩ := h.st; exact h1.ok.most
theorem JAll.da {U : Nat → Prop} {g : Nat} {R : JR} {J : JD} (h : JAll w W U b g S R J) (hX : ∀ k, X k → ¬ U k ∨ k = g) : DA w W X b S := by
  obtain ⟨F, G, h1, h2, h3⟩ := h.st
  refine ⟨h.below, F, h1.dev, fun k hk => ⟨h.lo k (h2 k hk), h1.fl k hk, fun hx => (hX k hx).elim (fun h4 => h4 (h2 k hk)) (fun h4 => h1.fg (h4 ▸ hk))⟩⟩
theorem Fail_da (h : DA w W X b S) : Calls Tryd.prog 27 #[.pointer (some ⟨b, 0, none⟩)] W fun e W' => e = .returned (.tuple #[]) ∧ DA w W' X b { S with down := true } ∧ Chg (fun k => ¬ X k) W W' := by
  obtain ⟨F, h1, h2⟩ := h.st
  refine (Fail_any h1).mono ?_
  rintro e W' ⟨rfl, k1, k2⟩
  exact ⟨rfl, ⟨h.below.trans (k2.below (fun k hk => (h2 k hk).1) h.below.size), F, k1, fun k hk => ⟨(h2 k hk).1, Nat.lt_of_lt_of_le (h2 k hk).2.1 k2.size, (h2 k hk).2.2⟩⟩, k2.mono (fun k hk => (h2 k hk).2.2)⟩
theorem SetLimit_da (h : DA w W X b S) (n : Int) : Calls Tryd.prog 34 #[.pointer (some ⟨b, 0, none⟩), .int .i64 n] W fun e W' => e = .returned (.tuple #[]) ∧ DA w W' X b (S.setLimit n) ∧ Chg (fun k => ¬ X k) W W' := by
  obtain ⟨F, h1, h2⟩ := h.st
  refine (SetLimit_any n h1).mono ?_
  rintro e W' ⟨rfl, k1, k2⟩
  exact ⟨rfl, ⟨h.below.trans (k2.below (fun k hk => (h2 k hk).1) h.below.size), F, k1, fun k hk => ⟨(h2 k hk).1, Nat.lt_of_lt_of_le (h2 k hk).2.1 k2.size, (h2 k hk).2.2⟩⟩, k2.mono (fun k hk => (h2 k hk).2.2)⟩
theorem Restart_da (h : DA w W0 X b S) (hb : Below W0.heap.size W0 W) {v : Value} {cs : List UInt8} (hv : BytesN W (fun k => W0.heap.size ≤ k) v cs) (hd : S.down = true) (hr : Roomy S 0) (hl : cs.length ≤ 1000) :
    Calls Tryd.prog 32 #[.pointer (some ⟨b, 0, none⟩), v] W fun e W' => e = .returned (.int .i64 0) ∧ DA w W' X b (S.restart cs).1 ∧ Chg (fun k => ¬ X k) W0 W' := by
  obtain ⟨F, h1, h2⟩ := h.st
  have hp := hr.pend
  refine (Restart_down v cs (h1.below hb) hv.at_ (fun k hk hg => by have := (h2 k hk).2.1; omega) hd (by omega) (by omega)).mono ?_
  rintro e W' ⟨rfl, k1, k2⟩
  have hbw : Below w.heap.size w W := h.below.trans (hb.mono h.below.size)
  refine ⟨rfl, ⟨hbw.trans (k2.below (fun k hk => (h2 k hk).1) hbw.size), F, k1, fun k hk => ⟨(h2 k hk).1, Nat.lt_of_lt_of_le (h2 k hk).2.1 (Nat.le_trans hb.size k2.size), (h2 k hk).2.2⟩⟩, ?_⟩
  exact (Chg.of_below hb).trans (k2.mono (G := fun k => ¬ X k) (fun k hk => (h2 k hk).2.2)) (fun i hi => .inl hi)
/-- An open of a closed device. -/
theorem Open_da (h : DA w W X b S) (hX : ∀ k, X k → k < W.heap.size) (hK : KAt w) (a c : Nat) (hc8 : 8 ≤ c) (hr : a + c ≤ S.dur.length) (hd : S.down = false) (x : ArD) (hx : currL S ⟨a, c⟩ = some x) (hlim : JLim (nextG (1 - x.gen % 2) (secL S a c)) x.first x.ents.length x.ents) (hN : sizeE x.ents ≤ 100000) (hroom : Roomy S (sizeE x.ents + 1)) {S2 : DS} {er : Int} {J2 : JD} (hz : moveJ S ⟨a, c⟩ (1 - x.gen % 2) x.first x.ents = (S2, er, J2)) :
    Calls Tryd.prog 14 #[.pointer (some ⟨b, 0, none⟩), .int .i64 (a : Int), .int .i64 (c : Int)] W fun e W' => DA w W' X b S2 ∧ Chg (fun k => ¬ X k) W W' ∧ (er ≠ 0 → e = .returned (openNo er)) ∧
      (er = 0 → ∃ g N U la lc, e = .returned (.tuple #[.pointer (some ⟨g, 0, none⟩), .slice la J2.ents.length lc, .int .i64 0]) ∧ JAll w W' U b g S2 ⟨a, c⟩ J2 ∧ (∀ k, U k → k < W'.heap.size ∧ ¬ X k) ∧ NumsAt W' N (.slice la J2.ents.length lc) J2.first J2.ents ∧ ∀ k, N k → W.heap.size ≤ k ∧ k < W'.heap.size ∧ ¬ U k) := by
  obtain ⟨F, h1, h2⟩ := h.st
  refine (JOpen_any h1 (KAt.below hK h.below hK.size) (fun e => by have h3 := (h2 _ e).1; have h4 := hK.size; omega) a c hc8 hr hd x hx hlim hN hroom).mono ?_
  intro e W' hp
  rw [hz] at hp
  have hp2 := hp
  obtain ⟨F', p1, p2, p3, p4, _⟩ := hp
  have hbw : Below w.heap.size w W' := h.below.trans (p3.below (fun k hk => (h2 k hk).1) h.below.size)
  refine ⟨⟨hbw, F', p1, fun k hk => ⟨?_, (p2 k hk).2, ?_⟩⟩, p3.mono (fun k hk => (h2 k hk).2.2), p4, fun h0 => ?_⟩
  · exact (p2 k hk).1.elim (fun h3 => (h2 k h3).1) (fun h3 => Nat.le_trans h.below.size h3)
  · exact fun hx => (p2 k hk).1.elim (fun h3 => (h2 k h3).2.2 hx) (fun h3 => by have := hX k hx; omega)
  · obtain ⟨g, N, lv, rfl, k1, k2, k3, k4⟩ := open_all h.below (fun k hk => hk) (fun k hk => (h2 k hk).1) hp2 h0
    obtain ⟨la, lc, rfl⟩ := k2.form
    have h0' : er = 0 := h0
    subst h0'
    refine ⟨g, N, _, la, lc, rfl, k1, fun k hk => ?_, k2, fun k hk => ⟨(k3 k hk).1, (k3 k hk).2, fun hu => ?_⟩⟩
    · rcases hk with hk | hk
      · exact ⟨Nat.lt_of_lt_of_le (h2 k hk).2.1 p3.size, (h2 k hk).2.2⟩
      · exact ⟨hk.2.1, fun hx => by have := hX k hx; omega⟩
    · rcases hu with hu | hu
      · have := (h2 k hu).2.1; have := (k3 k hk).1; omega
      · exact hu.2.2 hk
end
/-- An open behind a failure, without a limit. -/
theorem Mov.ok {S : DS} {R : JR} {M t : Nat} {y : ArD} (h : Mov S R y.gen (fun x => x = y) M y.first y.ents) (hl : S.limit = none) (hd : S.down = false) (hroom : Roomy S (1000000000 - 10000 * t + 1 + sizeE y.ents)) (hM : M + 1 ≤ t) (hn : y.first + y.ents.length ≤ t) :
    ∃ S2 J2, moveJ S R (1 - y.gen % 2) y.first y.ents = (S2, 0, J2) ∧ Ok S2 R J2 t ∧ J2.first = y.first ∧ J2.ents = y.ents ∧ J2.synced = y.first + y.ents.length ∧ S2.dur.length = S.dur.length := by
  obtain ⟨e0, e1⟩ := moveJ_nolim h hl hd
  obtain ⟨m1, m2, m3, m4, m5, m6, m7⟩ := moveJ_ok h e0
  have hrm := moveJ_room h.lim hroom
  have hg := next_le (w := 1 - y.gen % 2) (by omega) h.gens
  obtain ⟨z, hz⟩ : ∃ z, moveJ S R (1 - y.gen % 2) y.first y.ents = z := ⟨_, rfl⟩
  rw [hz] at e0 e1 m1 m2 m3 m4 m5 m6 hrm ⊢
  obtain ⟨S2, er, J2⟩ := z
  simp only at e0 e1 m1 m2 m3 m4 m5 m6 hrm
  subst e0
  refine ⟨S2, J2, rfl, ⟨⟨_, m1⟩, e1, by omega, ?_, hrm⟩, m3, m4, m5, m6⟩
  unfold JD.next
  rw [m3, m4]
  exact hn
theorem AllE.own (f : Nat) (E : List (List UInt8)) : AllE (fun x => E[x - f]?) f E := fun i hi => by
  simp only
  rw [Nat.add_sub_cancel_left, List.getElem?_eq_getElem hi]
/-- A failure and the next open, without limits. -/
theorem Ok.crash {S : DS} {R : JR} {J : JD} {t : Nat} {fm : Nat → Option (List UInt8)} (h : Ok S R J t) (ht : t ≤ 100) (hm : S.dur.length ≤ 4096) (ha : AllE fm J.first J.ents) {cs : List UInt8} (hcs : ∀ i, (cs.getD i 0).toNat % 3 ≠ 2) {S1 : DS} (hS1 : (DS.restart { S with down := true } cs).1 = S1) :
    ∃ (y : ArD) (S3 : DS) (J3 : JD), currL S1 R = some y ∧ JLim (nextG (1 - y.gen % 2) (secL S1 R.at_ R.cnt)) y.first y.ents.length y.ents ∧ sizeE y.ents ≤ 5000 ∧ Roomy S1 (sizeE y.ents + 1) ∧ S1.down = false ∧ S1.dur.length = S.dur.length ∧
      moveJ S1 R (1 - y.gen % 2) y.first y.ents = (S3, 0, J3) ∧ Ok S3 R J3 (t + 10) ∧ J3.first = J.first ∧ AllE fm J3.first J3.ents ∧ J3.synced = J3.first + J3.ents.length ∧ J.synced ≤ J3.first + J3.ents.length ∧ S3.dur.length = S.dur.length := by
  obtain ⟨c, hc⟩ := h.ji
  have hrng := hc.rng
  have hfnd := (h.live.found ha).same (S' := { S with down := true }) ⟨rfl, rfl⟩
  have hroom : Roomy { S with down := true } (1000000000 - 10000 * t) := ⟨h.room.ops, h.room.pend, h.room.lim⟩
  obtain ⟨r1, r2, r3, r4, r5, r6⟩ := restart_cand (S := { S with down := true }) rfl hcs
  rw [hS1] at r2 r3 r4 r5 r6
  have hhalf : R.half ≤ R.cnt := by unfold JR.half; omega
  obtain ⟨y, q, k1, k2, k3, k4, k5⟩ := hfnd.back rfl hcs hrng (by omega) (fun f E hq => hq.bounds (by omega)) hroom (S2 := S1) (by rw [hS1]) (by rw [hS1]) (by rw [hS1]) (by rw [hS1]) (by rw [r4]; simp)
  have hsz := q.size
  obtain ⟨S3, J3, m1, m2, m3, m4, m5, m6⟩ := k1.ok r4 k4 (t := t + 10) (k3.less (by omega)) (by omega) (by have := q.n; omega)
  have hqf : y.first = J.first := by have := q.fs; omega
  refine ⟨y, S3, J3, k2, k1.lim, by omega, k3.less (by omega), k4, k5, m1, m2, m3.trans hqf, ?_, by rw [m3, m4]; exact m5, by rw [m3, m4]; exact q.sy, m6.trans k5⟩
  rw [m3, m4]
  exact q.all
end Go.Proofs.YtplclpileejemaaDoor
