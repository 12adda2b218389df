/- Journals behind failures, plainly: what any choice of sectors shows. -/
import Derived.Test.YtplclpileejemaaDoorJ31Z
namespace Go.Proofs.YtplclpileejemaaDoor
set_option linter.unusedVariables false
set_option linter.unusedSimpArgs false

/-- Whatever became of each sector: something is found, and it is good. -/
structure Found (S : DS) (R : JR) (M : Nat) (Q : Nat → List (List UInt8) → Prop) : Prop where
  any : ∀ T, Choice S R T → ∃ y, currF T R = some y ∧ Q y.first y.ents
  gens : GensLe S R M
section
variable {S S' : DS} {R : JR} {M : Nat} {Q Q' : Nat → List (List UInt8) → Prop}
theorem Found.mono (h : Found S R M Q) (hQ : ∀ f E, Q f E → Q' f E) {M' : Nat} (hM : M ≤ M') : Found S R M' Q' :=
  ⟨fun T hT => by obtain ⟨y, e, hq⟩ := h.any T hT; exact ⟨y, e, hQ _ _ hq⟩, fun s hs x hx h0 => by have := h.gens s hs x hx h0; omega⟩
theorem Found.same (h : Found S R M Q) (hs : Same S S') : Found S' R M Q :=
  ⟨fun T hT => h.any T (fun s hr => hs.cand (hT s hr)), fun s hr x hx h0 => h.gens s hr x (hs.cand hx) h0⟩
theorem JW.found {g f c d : Nat} {E : List (List UInt8)} (h : JW S R g f c E d) : Found S R g (fun f' E' => f' = f ∧ ∃ k, d ≤ k ∧ k ≤ E.length ∧ E' = E.take k) :=
  ⟨fun T hT => by obtain ⟨y, h1, h2, k, k1, k2, rfl⟩ := h.base.curr hT; exact ⟨_, h1, rfl, k, k1, k2, rfl⟩, h.gens⟩
theorem Mov.found {g f : Nat} {P : ArD → Prop} {E : List (List UInt8)} (h : Mov S R g P M f E) (hP : ∀ y, P y → Q y.first y.ents) (hQ : Q f E) : Found (moveJ S R (1 - g % 2) f E).1 R (M + 2) Q := by
  obtain ⟨h1, h2, _⟩ := moveJ_any h
  refine ⟨fun T hT => ?_, h2⟩
  obtain ⟨y, e, hy⟩ := h1 T hT
  refine ⟨y, e, ?_⟩
  rcases hy with ⟨_, hp⟩ | rfl
  · exact hP y hp
  · exact hQ
theorem Found.restart (h : Found S R M Q) (hd : S.down = true) {cs : List UInt8} (hcs : ∀ i, (cs.getD i 0).toNat % 3 ≠ 2) (hr : R.at_ + R.cnt ≤ S.dur.length) : Found (S.restart cs).1 R M Q := by
  obtain ⟨_, r2, _, _, _, r6⟩ := restart_cand hd hcs
  have hc : ∀ s, inR R s → ∀ x, Cand (S.restart cs).1 s x → Cand S s x := fun s hs x hx => by
    rw [cand_none r2 hx]; exact r6 s (by have := hs.2; omega)
  exact ⟨fun T hT => h.any T (fun s hs => hc s hs _ (hT s hs)), fun s hs x hx => h.gens s hs x (hc s hs x hx)⟩
/-- The power is back: what an open of the device finds. -/
theorem Found.back (h : Found S R M Q) (hd : S.down = true) {cs : List UInt8} (hcs : ∀ i, (cs.getD i 0).toNat % 3 ≠ 2) (hr : R.at_ + R.cnt ≤ S.dur.length) (hM : M + 2 ≤ 2147483647)
    (hQ : ∀ f E, Q f E → f + E.length ≤ 2147483647 ∧ shortE E ∧ sizeE E ≤ R.half) {m : Nat} (hroom : Roomy S m) {S2 : DS} (e1 : S2.pend = (S.restart cs).1.pend) (e2 : S2.dur = (S.restart cs).1.dur) (e3 : S2.ops = (S.restart cs).1.ops) (e4 : S2.down = (S.restart cs).1.down) (e5 : S2.limit.getD 0 ≤ 9223372036854775807) :
    ∃ y, Q y.first y.ents ∧ Mov S2 R y.gen (fun x => x = y) M y.first y.ents ∧ currL S2 R = some y ∧ Roomy S2 m ∧ S2.down = false ∧ S2.dur.length = S.dur.length := by
  obtain ⟨r1, r2, r3, r4, r5, r6⟩ := restart_cand hd hcs
  have hf := (h.restart hd hcs hr).same (S' := S2) ⟨e1, e2⟩
  obtain ⟨y, e, hq⟩ := hf.any S2.visible (choice_visible S2 R)
  obtain ⟨q1, q2, q3⟩ := hQ _ _ hq
  have hl : S2.dur.length = S.dur.length := by rw [e2, r5]
  have hops : (S.restart cs).1.ops = S.ops := by unfold DS.restart; rw [if_pos hd]
  refine ⟨y, hq, ⟨JBase.rest (e1.trans r2) e, hf.gens, hM, q1, q2, q3, by rw [hl]; exact hr⟩, by rw [currL_F]; exact e, ⟨?_, ?_, e5⟩, e4.trans r3, hl⟩
  · rw [e3, hops]; exact hroom.ops
  · rw [e1, r2]; have := hroom.pend; show 0 + m ≤ _; omega
end

/-- A session with or without a limit. -/
structure Live (S : DS) (R : JR) (J : JD) (t : Nat) : Prop where
  ji : ∃ c, JI S R J c
  gen : J.gen ≤ t + 1
  nx : J.next ≤ t
  room : Roomy S (1000000000 - 10000 * t)
theorem Ok.live {S : DS} {R : JR} {J : JD} {t : Nat} (h : Ok S R J t) : Live S R J t := ⟨h.ji, h.gen, h.nx, h.room⟩
theorem Live.num {S : DS} {R : JR} {J : JD} {t : Nat} (h : Live S R J t) (hm : S.dur.length ≤ 4096) (ht : t ≤ 1000) : Num S R J := by
  obtain ⟨c, hc⟩ := h.ji
  have h1 := h.gen
  have h2 := h.nx
  unfold JD.next at h2
  exact hc.num hm (by omega) (by omega) (h.room.less (by omega))
theorem Live.up {S : DS} {R : JR} {J : JD} {t : Nat} (h : Live S R J t) : Live S R J (t + 1) := ⟨h.ji, by have := h.gen; omega, by have := h.nx; omega, h.room.less (by omega)⟩
theorem Live.limit {S S' : DS} {R : JR} {J : JD} {t : Nat} (h : Live S R J t) (e1 : S'.pend = S.pend) (e2 : S'.dur = S.dur) (e3 : S'.ops = S.ops) (e4 : S'.down = S.down) (e5 : S'.limit.getD 0 ≤ 9223372036854775807) : Live S' R J t := by
  obtain ⟨c, hc⟩ := h.ji
  have hs : Same S S' := ⟨e1, e2⟩
  exact ⟨⟨c, hc.w.same hs, hc.sy, hc.used, fun i hi => by rw [hs.visible]; exact hc.vis i hi, hc.failed, e4.trans hc.down, by rw [e2]; exact hc.rng, hc.short⟩, h.gen, h.nx, by rw [e3]; exact h.room.ops, by rw [e1]; exact h.room.pend, e5⟩
/-- The entries are noted. -/
def AllE (fm : Nat → Option (List UInt8)) (f : Nat) (E : List (List UInt8)) : Prop := ∀ i (h : i < E.length), fm (f + i) = some E[i]
theorem AllE.take {fm : Nat → Option (List UInt8)} {f k : Nat} {E : List (List UInt8)} (h : AllE fm f E) : AllE fm f (E.take k) := fun i hi => by
  rw [List.length_take] at hi
  rw [List.getElem_take]
  exact h i (by omega)
theorem AllE.drop {fm : Nat → Option (List UInt8)} {f k : Nat} {E : List (List UInt8)} (h : AllE fm f E) : AllE fm (f + k) (E.drop k) := fun i hi => by
  rw [List.length_drop] at hi
  rw [List.getElem_drop, Nat.add_assoc]
  exact h (k + i) (by omega)
theorem AllE.upd {fm : Nat → Option (List UInt8)} {f n : Nat} {E : List (List UInt8)} {l : Option (List UInt8)} (h : AllE fm f E) (hn : f + E.length ≤ n) : AllE (fun x => if x = n then l else fm x) f E := fun i hi => by
  simp only
  rw [if_neg (by omega)]
  exact h i hi
theorem AllE.snoc {fm : Nat → Option (List UInt8)} {f : Nat} {E : List (List UInt8)} {l : List UInt8} (h : AllE fm f E) : AllE (fun x => if x = f + E.length then some l else fm x) f (E ++ [l]) := fun i hi => by
  rw [List.length_append, List.length_singleton] at hi
  by_cases e : i = E.length
  · subst e
    simp
  · simp only
    rw [if_neg (by omega), List.getElem_append_left (by omega)]
    exact h i (by omega)
/-- What may be found behind a failure. -/
structure GoodE (R : JR) (fs : Int → Prop) (sy : Nat) (fm : Nat → Option (List UInt8)) (n : Nat) (f : Nat) (E : List (List UInt8)) : Prop where
  fs : fs (f : Int)
  sy : sy ≤ f + E.length
  all : AllE fm f E
  n : f + E.length ≤ n
  short : shortE E
  size : sizeE E ≤ R.half
theorem shortE.take {E : List (List UInt8)} (h : shortE E) (k : Nat) : shortE (E.take k) := fun b hb => h b (List.mem_of_mem_take hb)
theorem shortE.drop {E : List (List UInt8)} (h : shortE E) (k : Nat) : shortE (E.drop k) := fun b hb => h b (List.mem_of_mem_drop hb)
theorem JW.good {S : DS} {R : JR} {g f c d n : Nat} {E : List (List UInt8)} {fm : Nat → Option (List UInt8)} {fs : Int → Prop} {sy : Nat} (h : JW S R g f c E d) (hf : fs (f : Int)) (hs : sy ≤ f + d) (ha : AllE fm f E) (hn : f + E.length ≤ n) (hsh : shortE E) : Found S R g (GoodE R fs sy fm n) := by
  refine h.found.mono ?_ (Nat.le_refl _)
  rintro _ _ ⟨rfl, k, k1, k2, rfl⟩
  have h1 := h.fit
  rw [seqJ_size h.lim] at h1
  exact ⟨hf, by rw [List.length_take]; omega, ha.take, by rw [List.length_take]; omega, hsh.take k, Nat.le_trans (sizeE_take _ _) h1⟩
theorem GoodE.bounds {R : JR} {fs : Int → Prop} {sy n f : Nat} {fm : Nat → Option (List UInt8)} {E : List (List UInt8)} (h : GoodE R fs sy fm n f E) (hn : n ≤ 2147483647) : f + E.length ≤ 2147483647 ∧ shortE E ∧ sizeE E ≤ R.half := ⟨Nat.le_trans h.n hn, h.short, h.size⟩
theorem Live.found {S : DS} {R : JR} {J : JD} {t : Nat} {fm : Nat → Option (List UInt8)} (h : Live S R J t) (ha : AllE fm J.first J.ents) : Found S R (t + 4) (GoodE R (fun x => x = (J.first : Int)) J.synced fm (t + 1)) := by
  obtain ⟨c, hc⟩ := h.ji
  have h1 := h.gen
  have h2 := h.nx
  have h3 := hc.sy
  unfold JD.next at h2
  exact (hc.w.good (n := t + 1) (sy := J.synced) (fs := fun x => x = (J.first : Int)) rfl (by omega) ha (by omega) hc.short).mono (fun _ _ h => h) (by omega)
/-- The map behind a step that has begun. -/
def noted (fm : Nat → Option (List UInt8)) (J : JD) (o : JOp) : Nat → Option (List UInt8) := if o.kind % 3 = 0 then (fun x => if x = J.next then some (lawB o.n o.b) else fm x) else fm
theorem noted_all {fm : Nat → Option (List UInt8)} {J : JD} {o : JOp} (h : AllE fm J.first J.ents) : AllE (noted fm J o) J.first J.ents := by
  unfold noted
  by_cases h0 : o.kind % 3 = 0
  · rw [if_pos h0]; exact h.upd (Nat.le_refl _)
  · rw [if_neg h0]; exact h
/-- Where a truncation starts. -/
def cutO (J : JD) (o : JOp) : Int := if o.kind % 3 = 2 then (J.first : Int) + ((o.n % 12 : Nat) : Int) - 2 else J.first
/-- A step with a limit: done, refused, or cut short. -/
theorem Live.step {S : DS} {R : JR} {J : JD} {t : Nat} {fm : Nat → Option (List UInt8)} (h : Live S R J t) (ht : t ≤ 1000) (hm : S.dur.length ≤ 4096) (o : JOp) (ha : AllE fm J.first J.ents) :
    (stepJ S R J o).1.dur.length = S.dur.length ∧
    ((Live (stepJ S R J o).1 R (stepJ S R J o).2.1 (t + 1) ∧ AllE (noted fm J o) (stepJ S R J o).2.1.first (stepJ S R J o).2.1.ents ∧ ((stepJ S R J o).2.2 ≠ 0 → (stepJ S R J o).2.1 = J)) ∨
     ((stepJ S R J o).2.2 ≠ 0 ∧ (stepJ S R J o).2.1 = { J with failed := 28 } ∧ (stepJ S R J o).1.down = true ∧ Roomy (stepJ S R J o).1 (1000000000 - 10000 * (t + 1)) ∧
      Found (stepJ S R J o).1 R (t + 4) (GoodE R (fun x => x = (J.first : Int) ∨ x = cutO J o) J.synced (noted fm J o) (t + 1)))) := by
  obtain ⟨c, hc⟩ := h.ji
  have hg := h.gen
  have hnx := h.nx
  have hsy := hc.sy
  have hdn := hc.w.dn
  have hlo : (lawB o.n o.b).length ≤ 100000 := by rw [lawB_length]; omega
  have hnum := h.num hm ht
  have hsz5 := hnum.sz
  have hno := noted_all (o := o) ha
  unfold stepJ
  by_cases h0 : o.kind % 3 = 0
  · rw [if_pos h0]
    have hroom : Roomy (appJ S R J (lawB o.n o.b)).1 (1000000000 - 10000 * (t + 1)) := appJ_room (h.room.less (by omega))
    have hen : noted fm J o = (fun x => if x = J.next then some (lawB o.n o.b) else fm x) := by unfold noted; rw [if_pos h0]
    have hall : AllE (noted fm J o) J.first (J.ents ++ [lawB o.n o.b]) := by rw [hen]; exact ha.snoc
    rcases appJ_any hc hlo (by omega) with ⟨h1, _⟩ | ⟨⟨S', h1, h2, h3⟩, _⟩ | ⟨S', h1, h2, h3, h4⟩
    · rw [h1]
      exact ⟨rfl, .inl ⟨h.up, hno, fun _ => rfl⟩⟩
    · rw [h1] at hroom ⊢
      refine ⟨h3, .inl ⟨⟨⟨c, h2⟩, by show J.gen ≤ _; omega, ?_, hroom⟩, hall, fun e => absurd rfl e⟩⟩
      unfold JD.next at hnx ⊢
      show J.first + (J.ents ++ [lawB o.n o.b]).length ≤ _
      rw [List.length_append, List.length_singleton]
      omega
    · rw [h1] at hroom ⊢
      refine ⟨h4, .inr ⟨by show (28 : Int) ≠ 0; decide, rfl, h3, hroom, ?_⟩⟩
      unfold JD.next at hnx
      refine (h2.good (n := t + 1) (.inl rfl) (by omega) hall (by rw [List.length_append, List.length_singleton]; omega) ?_).mono (fun _ _ h => h) (by omega)
      intro b hb
      rcases List.mem_append.1 hb with h5 | h5
      · exact hc.short b h5
      · obtain rfl := List.mem_singleton.1 h5
        exact hlo
  · rw [if_neg h0]
    by_cases h1 : o.kind % 3 = 1
    · rw [if_pos h1]
      have hroom : Roomy (synJ S J).1 (1000000000 - 10000 * (t + 1)) := synJ_room (h.room.less (by omega))
      rcases synJ_any hc with ⟨S', k1, k2, k3⟩ | ⟨S', k1, k2, k3, k4⟩
      · rw [k1] at hroom ⊢
        exact ⟨k3, .inl ⟨⟨⟨c, k2⟩, by show J.gen ≤ _; omega, by show J.next ≤ _; omega, hroom⟩, hno, fun e => absurd rfl e⟩⟩
      · rw [k1] at hroom ⊢
        refine ⟨k4, .inr ⟨by show (28 : Int) ≠ 0; decide, rfl, k3, hroom, ?_⟩⟩
        unfold JD.next at hnx
        exact (k2.good (n := t + 1) (.inl rfl) (by omega) hno (by omega) hc.short).mono (fun _ _ h => h) (by omega)
    · rw [if_neg h1]
      have h2 : o.kind % 3 = 2 := by omega
      have hcut : cutO J o = (J.first : Int) + ((o.n % 12 : Nat) : Int) - 2 := by unfold cutO; rw [if_pos h2]
      obtain ⟨x, hx⟩ : ∃ x, (J.first : Int) + ((o.n % 12 : Nat) : Int) - 2 = x := ⟨_, rfl⟩
      rw [hx] at hcut ⊢
      have hroom : Roomy (trnJ S R J x).1 (1000000000 - 10000 * (t + 1)) := trnJ_room hc (by omega) (by omega) (h.room.less (by omega))
      unfold trnJ at hroom ⊢
      rw [if_neg (by rw [hc.failed]; simp)] at hroom ⊢
      by_cases h3 : x < J.first ∨ (J.next : Int) < x
      · rw [if_pos h3]
        exact ⟨rfl, .inl ⟨h.up, hno, fun _ => rfl⟩⟩
      · rw [if_neg h3] at hroom ⊢
        by_cases h4 : x = J.first
        · rw [if_pos h4]
          exact ⟨rfl, .inl ⟨h.up, hno, fun e => absurd rfl e⟩⟩
        · rw [if_neg h4] at hroom ⊢
          unfold JD.next at h3
          obtain ⟨k, rfl⟩ : ∃ k : Nat, x = ((J.first + k : Nat) : Int) := ⟨x.toNat - J.first, by omega⟩
          have hk0 : 0 < k := by omega
          have hkn : k ≤ J.ents.length := by omega
          rw [Int.toNat_natCast, Nat.add_sub_cancel_left] at hroom ⊢
          have hmv := hc.mov hkn (by omega) (by omega)
          by_cases e0 : (moveJ S R (1 - J.gen % 2) (J.first + k) (J.ents.drop k)).2.1 = 0
          · rw [if_pos e0] at hroom ⊢
            obtain ⟨m1, m2, m3, m4, m5, m6, m7⟩ := moveJ_ok hmv e0
            have hnx2 := next_eq hc
            rw [hnx2] at m2
            refine ⟨m6, .inl ⟨⟨⟨_, m1⟩, by show (moveJ S R (1 - J.gen % 2) (J.first + k) (J.ents.drop k)).2.2.gen ≤ _; omega, ?_, hroom⟩, ?_, fun e => absurd rfl e⟩⟩
            · show JD.next (moveJ S R (1 - J.gen % 2) (J.first + k) (J.ents.drop k)).2.2 ≤ _
              unfold JD.next at hnx ⊢
              rw [m3, m4, List.length_drop]
              omega
            · show AllE _ (moveJ S R (1 - J.gen % 2) (J.first + k) (J.ents.drop k)).2.2.first (moveJ S R (1 - J.gen % 2) (J.first + k) (J.ents.drop k)).2.2.ents
              rw [m3, m4]
              exact hno.drop
          · rw [if_neg e0] at hroom ⊢
            obtain ⟨f1, f2⟩ := moveJ_fail hmv e0
            refine ⟨(moveJ_any hmv).2.2, .inr ⟨e0, ?_, f2, hroom, ?_⟩⟩
            · show ({ J with failed := _ } : JD) = _
              rw [if_pos f1]
            · have h1 := hc.fit
              unfold JD.next at hnx
              refine (hmv.found (Q := GoodE R (fun x => x = (J.first : Int) ∨ x = cutO J o) J.synced (noted fm J o) (t + 1)) ?_ ?_).mono (fun _ _ h => h) (by omega)
              · rintro _ ⟨j, j1, j2, rfl⟩
                exact ⟨.inl rfl, by show J.synced ≤ J.first + (J.ents.take j).length; rw [List.length_take]; omega, hno.take, by show J.first + (J.ents.take j).length ≤ _; rw [List.length_take]; omega, hc.short.take j, Nat.le_trans (sizeE_take _ _) h1⟩
              · exact ⟨.inr hcut.symm, by rw [List.length_drop]; omega, hno.drop, by rw [List.length_drop]; omega, hc.short.drop k, Nat.le_trans (sizeE_drop _ _) h1⟩
/-- What an open behind a failure brings. -/
theorem Mov.good {S : DS} {R : JR} {M : Nat} {y : ArD} (h : Mov S R y.gen (fun x => x = y) M y.first y.ents) : 
    JLim (nextG (1 - y.gen % 2) (secL S R.at_ R.cnt)) y.first y.ents.length y.ents ∧ Found (moveJ S R (1 - y.gen % 2) y.first y.ents).1 R (M + 2) (fun f E => f = y.first ∧ E = y.ents) :=
  ⟨h.lim, h.found (fun _ e => by rw [e]; exact ⟨rfl, rfl⟩) ⟨rfl, rfl⟩⟩
end Go.Proofs.YtplclpileejemaaDoor
