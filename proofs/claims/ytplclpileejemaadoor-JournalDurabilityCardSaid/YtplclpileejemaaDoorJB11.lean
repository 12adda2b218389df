/- An area is loaded; The current area. -/
import Derived.Test.YtplclpileejemaaDoorJB10
namespace Go.Proofs.YtplclpileejemaaDoor
open Go.RowKit
set_option linter.unusedVariables false
set_option linter.unusedSimpArgs false

/-- A state as a value. -/
def stC (g f : Int) (v : Value) (u : Int) : Array Value := #[.int .i64 g, .int .i64 f, v, .int .i64 u]
def LoadPost (w : World) (o : Option ArD) (e : Ending) (w' : World) : Prop :=
  ∃ (c : Bool) (g f : Int) (v : Value) (L : List (List UInt8)), e = .returned (.tuple #[.agg (stC g f v 0), .bool c, .int .i64 0]) ∧ EntsAt w' (fun k => w.heap.size ≤ k) v L ∧ Below w.heap.size w w' ∧ (match o with | none => c = false | some x => c = true ∧ g = (x.gen : Int) ∧ f = (x.first : Int) ∧ L = x.ents)
theorem LoadPost.no {w w' : World} {o : Option ArD} (h : o = none) (hb : Below w.heap.size w w') : LoadPost w o (.returned (.tuple #[.agg #[.int .i64 0, .int .i64 0, .slice none 0 0, .int .i64 0], .bool false, .int .i64 0])) w' := by
  subst h
  exact ⟨false, 0, 0, _, [], rfl, entsAt_nil _ _, hb, rfl⟩
theorem OwnRecs.getF {T : TypeId} {w : World} {B : Nat} {L : List RecD} {a : Option Addr} {n cap : Nat} (h : OwnRecs T w B (.slice a n cap) L) {i : Nat} (hi : i < L.length) : ∃ g x c, a = some ⟨g, 0, none⟩ ∧ g < w.heap.size ∧ w.cell? ⟨g, i * 4, none⟩ = some (.int .i64 L[i].kind) ∧ w.cell? ⟨g, i * 4 + 1, none⟩ = some (.int .i64 L[i].gen) ∧
    w.cell? ⟨g, i * 4 + 2, none⟩ = some (.int .i64 L[i].num) ∧ w.cell? ⟨g, i * 4 + 3, none⟩ = some (.slice x L[i].load.length c) ∧ w.ownsRow B 5 1 (.slice x L[i].load.length c) L[i].load.length (bvs L[i].load) := by
  obtain ⟨ps, h0, h1, h2⟩ := h.ex
  obtain ⟨u, h3, h4⟩ := h2 i hi
  obtain ⟨x, c, rfl⟩ := ownsRow_form h4
  obtain ⟨g, cap', e, hgl, _, hr⟩ := ownsRow_at h1 (by omega)
  cases e
  have hp : ps[i]'(by omega) = .slice x L[i].load.length c := by
    have := List.getElem?_eq_getElem (l := ps) (i := i) (by omega)
    rw [h3] at this
    simpa using this.symm
  have key : ∀ j u, j < 4 → (recC L[i] (.slice x L[i].load.length c))[j]? = some u → w.cell? ⟨g, i * 4 + j, none⟩ = some u := fun j u hj hu => hr _ _ (by rw [flatR_get L ps i j hi h0 hj, hp]; exact hu)
  exact ⟨g, x, c, rfl, hgl, key 0 _ (by omega) rfl, key 1 _ (by omega) rfl, key 2 _ (by omega) rfl, key 3 _ (by omega) rfl, h4⟩
theorem num_cases (o : Option (Nat × Nat)) : ∃ (f c : Nat) (ok : Bool), numV o = .tuple #[.int .i64 (f : Int), .int .i64 (c : Int), .bool ok] ∧ (ok = true → o = some (f, c)) ∧ (ok = false → o = none) := by
  cases o with
  | none => exact ⟨0, 0, false, rfl, (fun h => by cases h), fun _ => rfl⟩
  | some x => exact ⟨x.1, x.2, true, rfl, fun _ => rfl, (fun h => by cases h)⟩
theorem body_stop {t : List RecD} {i : Nat} (h1 : ∀ j (h : j < t.length), j < i → t[j].kind = 2) (h2 : ∀ h : i < t.length, t[i].kind ≠ 2) : bodyL t = (t.take i).map (·.load) := by
  unfold bodyL
  congr 1
  induction t generalizing i with
  | nil => simp
  | cons r t ih =>
    cases i with
    | zero =>
      have := h2 (by simp)
      simp only [List.getElem_cons_zero] at this
      rw [List.takeWhile_cons, decide_eq_false this]
      rfl
    | succ i =>
      have h3 := h1 0 (by simp) (by omega)
      simp only [List.getElem_cons_zero] at h3
      rw [List.takeWhile_cons, decide_eq_true h3, List.take_succ_cons]
      simp only [if_true]
      congr 1
      exact ih (fun j h hj => h1 (j + 1) (by simp; omega) (by omega)) (fun h => h2 (by simp; omega))
/-- Payloads of scanned records are short. -/
theorem joinGo_len (l : List (List UInt8)) (f : PartD) : ∀ k i acc, (joinGo l f i k acc).1.load.length ≤ acc.length + 224 * k
  | 0, _, _ => Nat.le_refl _
  | k + 1, i, acc => by
    rw [joinGo]
    cases hb : l[i]? with
    | none => exact Nat.zero_le _
    | some b =>
      simp only
      by_cases h1 : decE b ≠ 0
      · rw [if_pos h1]; exact Nat.zero_le _
      · rw [if_neg h1]
        by_cases h2 : samePl f (decP b) i = true
        · rw [if_pos h2]
          have h3 := joinGo_len l f k (i + 1) (acc ++ (decP b).bytes)
          have h4 := decE_ok (Classical.not_not.1 h1)
          have h5 := h4.2.2.2.1.len
          rw [← h4.2.2.2.2] at h5
          rw [List.length_append] at h3
          omega
        · rw [if_neg h2]; exact Nat.zero_le _
theorem join_len (l : List (List UInt8)) : (joinL l).1.load.length ≤ 131264 := by
  cases l with
  | nil => exact Nat.zero_le _
  | cons b l =>
    rw [joinL]
    by_cases h1 : decE b ≠ 0
    · rw [if_pos h1]; exact Nat.zero_le _
    · rw [if_neg h1]
      by_cases h2 : (decP b).idx ≠ 0
      · rw [if_pos h2]; exact Nat.zero_le _
      · rw [if_neg h2]
        have h3 := joinGo_len (b :: l) (decP b) ((decP b).cnt.toNat - 1) 1 (decP b).bytes
        have h4 := decE_ok (Classical.not_not.1 h1)
        have h5 := h4.2.2.2.1
        rw [← h4.2.2.2.2] at h5
        have h6 := h5.len
        have h7 := h5.c1
        have h8 := h5.c0
        omega
theorem scanGo_len (g n : Int) (l : List (List UInt8)) : ∀ k a out, (∀ r ∈ out, r.load.length ≤ 131264) → (∀ r ∈ (scanGo g n l k a out).1, r.load.length ≤ 131264) ∧ (scanGo g n l k a out).1.length ≤ out.length + k
  | 0, _, _, h => ⟨h, Nat.le_refl _⟩
  | k + 1, a, out, h => by
    rw [scanGo]
    by_cases h1 : l.length ≤ a
    · rw [if_pos h1]; exact ⟨h, Nat.le_add_right _ _⟩
    · rw [if_neg h1]
      by_cases h2 : (joinL (l.drop a)).2.2 ≠ 0
      · rw [if_pos h2]; exact ⟨h, Nat.le_add_right _ _⟩
      · rw [if_neg h2]
        by_cases h3 : (joinL (l.drop a)).1.gen = g ∧ (joinL (l.drop a)).1.num = n + out.length
        · rw [if_pos h3]
          have h4 := scanGo_len g n l k (a + (joinL (l.drop a)).2.1) (out ++ [(joinL (l.drop a)).1]) (fun r hr => by
            rcases List.mem_append.1 hr with hr | hr
            · exact h r hr
            · rw [List.mem_singleton.1 hr]; exact join_len _)
          refine ⟨h4.1, ?_⟩
          have h5 := h4.2
          rw [List.length_append, List.length_singleton] at h5
          omega
        · rw [if_neg h3]; exact ⟨h, Nat.le_add_right _ _⟩
theorem scan_len (g n : Int) (l : List (List UInt8)) : (∀ r ∈ (scanL g n l).1, r.load.length ≤ 131264) ∧ (scanL g n l).1.length ≤ l.length := by
  unfold scanL
  by_cases h : fineB 0 g n = false
  · rw [if_pos h]; exact ⟨(fun r hr => by cases hr), Nat.zero_le _⟩
  · rw [if_neg h]
    have h1 := scanGo_len g n l l.length 0 [] (fun r hr => by cases hr)
    exact ⟨h1.1, by simpa using h1.2⟩
theorem ents_apart {w : World} {F G : Nat → Prop} {v u : Value} {L : List (List UInt8)} {l : List UInt8} {B n : Nat} (h : EntsAt w F v L) (h4 : w.ownsRow B 5 1 u n (bvs l)) (hb : BytesN w G u l) (hGF : ∀ k, k < w.heap.size → G k → F k) : BytesN w (fun k => F k ∧ v.ownBlock ≠ some k) u l := by
  obtain ⟨vs, h1, h2, h3⟩ := h.ex
  refine ⟨?_, hb.nil⟩
  obtain ⟨a, cap, e, h5, h6⟩ := hb.at_
  refine ⟨a, cap, e, h5, fun hne => ?_⟩
  obtain ⟨g, off, e2, h7, h8, h9⟩ := h6 hne
  refine ⟨g, off, e2, ⟨hGF g h8 h7, fun e3 => ?_⟩, h8, h9⟩
  have he : u.ownBlock = some g ∨ u.ownBlock = none := by
    rcases h4.2 with ⟨rfl, _⟩ | ⟨g', cap', cur, rfl, _⟩
    · exact .inr rfl
    · simp only [Value.slice.injEq] at e
      obtain ⟨e5, -, -⟩ := e
      rw [e2] at e5
      simp only [Option.some.injEq, Addr.mk.injEq] at e5
      exact .inl (by rw [← e5.1]; rfl)
  rcases own_ne2 h1 h4 (by decide) with h10 | h10
  · rcases h4.2 with ⟨rfl, _⟩ | ⟨g', cap', cur, rfl, _⟩
    · rw [Value.slice.injEq] at e
      rw [e2] at e
      cases e.1
    · cases h10
  · rcases he with he | he
    · exact h10 (by rw [he, e3])
    · rcases h4.2 with ⟨rfl, _⟩ | ⟨g', cap', cur, rfl, _⟩
      · rw [Value.slice.injEq, e2] at e
        cases e.1
      · cases he
/-- What a load hands back. -/
def finA (ok : Bool) (q nf nc : Nat) (t : List RecD) : Option ArD := if ok = true ∧ nc ≤ (bodyL t).length then some ⟨q, nf, bodyL t⟩ else none
theorem LoadPost.fin {w V : World} {A : Option ArD} {q nf nc : Nat} {ok c : Bool} {t : List RecD} {v : Value} (hA : A = finA ok q nf nc t) (hE : EntsAt V (fun k => w.heap.size ≤ k) v (bodyL t)) (hb : Below w.heap.size w V) (hc : c = (ok && decide (nc ≤ (bodyL t).length))) :
    LoadPost w A (.returned (.tuple #[.agg (stC q nf v 0), .bool c, .int .i64 0])) V := by
  refine ⟨c, q, nf, v, bodyL t, rfl, hE, hb, ?_⟩
  by_cases h : ok = true ∧ nc ≤ (bodyL t).length
  · rw [hA, finA, if_pos h]; exact ⟨by rw [hc, h.1, decide_eq_true h.2]; rfl, rfl, rfl, rfl⟩
  · rw [hA, finA, if_neg h]
    show c = false
    rw [hc]
    cases ok with
    | false => rfl
    | true => rw [decide_eq_false (fun h1 => h ⟨rfl, h1⟩)]; rfl
set_option maxRecDepth 100000 in
set_option maxHeartbeats 2000000 in
theorem Jload_any {w : World} {F : Nat → Prop} {b : Nat} {S : DS} (h : DiskAt w F b S) (hK : KAt w) (a c which : Nat) (hc8 : 8 ≤ c) (hwh : which ≤ 1) (hd : S.down = false) (hr : a + c ≤ S.dur.length) (hlen : S.pend.length < 1000000000) :
    Calls Tryd.prog 58 #[stV b (a : Int) (c : Int), .int .i64 (which : Int)] w (LoadPost w (areaL (secL S (a + which * (c / 2)) (c / 2)) which)) := by
  have hM : S.dur.length ≤ 4096 := h.ok.most
  obtain ⟨hh, hhe⟩ : ∃ hh, c / 2 = hh := ⟨_, rfl⟩
  have hwm : which * hh ≤ hh := by
    rcases (show which = 0 ∨ which = 1 by omega) with rfl | rfl <;> omega
  have hrd := fun (w1 : World) (hb : Below w.heap.size w w1) => Jread_any (h.below hb) a (which * hh) hh (c : Int) hd (by omega) hlen
  have hsz := fun (w1 : World) => Jsize_any (w := w1) b (a : Int) c (by omega)
  rw [hhe] at hsz ⊢
  have hh4 : 4 ≤ hh := by omega
  have hhm : hh ≤ 4096 := by omega
  have HR := Lib.hid hrd
  have HSZ := Lib.hid hsz
  obtain ⟨L, hL⟩ : ∃ L, secL S (a + which * hh) hh = L := ⟨_, rfl⟩
  have HLL := Lib.hid (show L.length = hh by rw [← hL, secL_length])
  rw [hL] at HR ⊢
  obtain ⟨w0, hw0⟩ : ∃ w0, w.alloc (.cells #[.pointer (some ⟨b, 0, none⟩), .int .i64 (a : Int), .int .i64 (c : Int)] 75) = w0 := ⟨_, rfl⟩
  have hb0 : Below w.heap.size w w0 := hw0 ▸ (Below.refl _ _).alloc (Nat.le_refl _) _
  have hs0 : w0.heap.size = w.heap.size + 1 := by rw [← hw0]; simp
  have hx0 : w0.heap[w.heap.size]? = some (.cells #[.pointer (some ⟨b, 0, none⟩), .int .i64 (a : Int), .int .i64 (c : Int)] 75 (0, 0)) := by rw [← hw0]; exact heap_alloc_new _ _
  obtain ⟨w1, hw1⟩ : ∃ w1, w0.alloc (.cells #[.int .i64 0, .int .i64 0, .slice none 0 0, .int .i64 0] 77) = w1 := ⟨_, rfl⟩
  have hb1 : Below w0.heap.size w0 w1 := hw1 ▸ (Below.refl _ _).alloc (Nat.le_refl _) _
  have hx1 : w1.heap[w0.heap.size]? = some (.cells #[.int .i64 0, .int .i64 0, .slice none 0 0, .int .i64 0] 77 (0, 0)) := by rw [← hw1]; exact heap_alloc_new _ _
  have hs1 : w1.heap.size = w0.heap.size + 1 := by rw [← hw1]; simp
  have hx0 := (hb1.block _ (by omega)).trans hx0
  obtain ⟨B, hB⟩ : ∃ B, w.heap.size = B := ⟨_, rfl⟩
  rw [hB] at hx0
  rw [show w0.heap.size = B + 1 by omega] at hx1
  have HK := Lib.hid hK
  have HB1 := Lib.hid (hb0.trans (hb1.mono hb0.size))
  have HW0 := Lib.hid hw0
  have HW1 := Lib.hid hw1
  have HX0 := Lib.hid hx0
  have HX1 := Lib.hid hx1
  have HB := Lib.hid hB
  have HS1 := Lib.hid (show w1.heap.size = B + 2 by omega)
  have HNC := Lib.hid (show ∀ w', Below w1.heap.size w1 w' → w'.cell? ⟨B, 0, none⟩ = some (.pointer (some ⟨b, 0, none⟩)) ∧ w'.cell? ⟨B, 1, none⟩ = some (.int .i64 (a : Int)) ∧ w'.cell? ⟨B, 2, none⟩ = some (.int .i64 (c : Int)) from fun w' hw' => by
    have h1 := (hw'.block _ (Array.getElem?_eq_some_iff.1 hx0).1).trans hx0
    refine ⟨?_, ?_, ?_⟩ <;> rw [cell_of_row _ _ _ _ _ _ h1] <;> rfl)
  obtain ⟨A, hA⟩ : ∃ A, areaL L which = A := ⟨_, rfl⟩
  rw [hA]
  have HA := Lib.hid hA
  have hmul : (which : Int) * (hh : Int) = ((which * hh : Nat) : Int) := by rw [Int.natCast_mul]
  obtain ⟨wm, hwmE⟩ : ∃ wm, which * hh = wm := ⟨_, rfl⟩
  rw [hwmE] at hwm hmul HR
  have hwrap : IntKind.i64.wrap (wm : Int) = (wm : Int) := IntWalk.i64_in _ (by omega)
  unfold stV at HR HSZ ⊢
  clear h hd hr hM hrd hL hw0 hb0 hs0 hx0 hw1 hb1 hx1 hs1 hK hB hA hhe hsz hwmE
  go_enter Tryd.func58, Tryd.ntmps58
  go_wp2_with fail
  rw [HW0.out, HW1.out, HB.out]
  refine wp_region_noPanic ?_
  refine wp_region_H (Below w1.heap.size w1) (by kernel_rfl) ?_
  have hS0 : (Below w1.heap.size w1) w1.drew := (Below.refl _ _).drew
  obtain ⟨wd, hwd⟩ : ∃ wd, w1.drew = wd := ⟨_, rfl⟩
  rw [hwd] at hS0 ⊢
  clear hwd
  refine wpAnyH_takeI (i := 0) (v := ?v1) rfl (by kernel_rfl) (by kernel_rfl) (by kernel_rfl) (fun _ _ _ h => h) (yieldsIf_run rfl (fun w' hw' => ?y1)) hS0 ?_
  case y1 => (obtain ⟨h1, h2, h3⟩ := HNC.out w' hw'; clear hw'; first | (go_simp; rfl) | (go_simp; done))
  simp only [Act.put, List.setIfInBounds_toArray, List.set_cons_zero, List.set_cons_succ]
  refine wpAnyH_takeI (i := 1) (v := ?v2) rfl (by kernel_rfl) (by kernel_rfl) (by kernel_rfl) (fun _ _ _ h => h) (yieldsIf_run rfl (fun w' hw' => ?y2)) hS0 ?_
  case y2 => first | (go_simp; rfl) | (go_simp; done) | rfl
  simp only [Act.put, List.setIfInBounds_toArray, List.set_cons_zero, List.set_cons_succ]
  refine wpAnyH_takeI (i := 2) (v := ?v3) rfl (by kernel_rfl) (by kernel_rfl) (by kernel_rfl) (fun _ _ _ h => h) (yieldsIf_run rfl (fun w' hw' => ?y3)) hS0 ?_
  case y3 => (obtain ⟨h1, h2, h3⟩ := HNC.out w' hw'; clear hw'; first | (go_simp; rfl) | (go_simp; done))
  simp only [Act.put, List.setIfInBounds_toArray, List.set_cons_zero, List.set_cons_succ]
  refine wpAnyH_takeI (i := 5) (v := ?v4) rfl (by kernel_rfl) (by kernel_rfl) (by kernel_rfl) (fun _ _ _ h => h) (yieldsIf_run rfl (fun w' hw' => ?y4)) hS0 ?_
  case y4 => (obtain ⟨h1, h2, h3⟩ := HNC.out w' hw'; clear hw'; first | (go_simp; rfl) | (go_simp; done))
  simp only [Act.put, List.setIfInBounds_toArray, List.set_cons_zero, List.set_cons_succ]
  refine wpAnyH_do (i := 3) (by kernel_rfl) rfl rfl (fun K hK => ?_)
  go_simp
  go_at_call 42
  refine (HSZ.out _).mono ?_
  rintro e V3 ⟨rfl, hb9⟩
  have hsV3 := hS0.trans (hb9.mono hS0.size)
  clear hb9
  refine hK _ _ (hsV3) ?_
  clear hK K
  try simp only [Act.put, List.setIfInBounds_toArray, List.set_cons_zero, List.set_cons_succ]
  refine wpAnyH_takeI (i := 4) (v := .int .i64 (wm : Int)) rfl (by kernel_rfl) (by kernel_rfl) (by kernel_rfl) (fun _ _ _ h => h) (yieldsIf_run rfl (fun w' hw' => ?y5)) hsV3 ?_
  case y5 => first | (go_simp; rfl) | (go_simp; done) | rfl
  simp only [Act.put, List.setIfInBounds_toArray, List.set_cons_zero, List.set_cons_succ]
  refine wpAnyH_do (i := 6) (by kernel_rfl) rfl rfl (fun K hK => ?_)
  go_simp
  go_at_call 42
  refine (HSZ.out _).mono ?_
  rintro e V6 ⟨rfl, hb9⟩
  have hsV6 := hsV3.trans (hb9.mono hsV3.size)
  clear hb9
  refine hK _ _ (hsV6) ?_
  clear hK K
  try simp only [Act.put, List.setIfInBounds_toArray, List.set_cons_zero, List.set_cons_succ]
  refine wpAnyH_do (i := 7) (by kernel_rfl) rfl rfl (fun K hK => ?_)
  go_simp
  go_at_call 55
  refine (HR.out _ (HB1.out.trans (hsV6.mono HB1.out.size))).mono ?_
  rintro e V9 ⟨v, rfl, hv, hb9⟩
  obtain ⟨va, vc, rfl⟩ := hv.form
  rw [HLL.out] at hv ⊢
  have HVX := Lib.hid (hv.weak (G := fun k => w1.heap.size ≤ k) (fun k _ h1 => Nat.le_trans hsV6.size h1))
  have hsV9 := hsV6.trans (hb9.mono hsV6.size)
  clear hb9 hv
  refine hK _ _ (hsV9) ?_
  clear hK K
  try simp only [Act.put, List.setIfInBounds_toArray, List.set_cons_zero, List.set_cons_succ]
  refine wpAnyH_takeI (i := 8) (v := ?v6) rfl (by kernel_rfl) (by kernel_rfl) (by kernel_rfl) (fun _ _ _ h => h) (yieldsIf_run rfl (fun w' hw' => ?y6)) hsV9 ?_
  case y6 => first | (go_simp; rfl) | (go_simp; done) | rfl
  simp only [Act.put, List.setIfInBounds_toArray, List.set_cons_zero, List.set_cons_succ]
  refine wpAnyH_takeI (i := 9) (v := ?v7) rfl (by kernel_rfl) (by kernel_rfl) (by kernel_rfl) (fun _ _ _ h => h) (yieldsIf_run rfl (fun w' hw' => ?y7)) hsV9 ?_
  case y7 => first | (go_simp; rfl) | (go_simp; done) | rfl
  simp only [Act.put, List.setIfInBounds_toArray, List.set_cons_zero, List.set_cons_succ]
  refine wpAnyH_takeI (i := 10) (v := ?v8) rfl (by kernel_rfl) (by kernel_rfl) (by kernel_rfl) (fun _ _ _ h => h) (yieldsIf_run rfl (fun w' hw' => ?y8)) hsV9 ?_
  case y8 => first | (go_simp; rfl) | (go_simp; done) | rfl
  simp only [Act.put, List.setIfInBounds_toArray, List.set_cons_zero, List.set_cons_succ]
  refine wpAnyH_takeI (i := 11) (v := ?v9) rfl (by kernel_rfl) (by kernel_rfl) (by kernel_rfl) (fun _ _ _ h => h) (yieldsIf_run rfl (fun w' hw' => ?y9)) hsV9 ?_
  case y9 => first | (go_simp; rfl) | (go_simp; done) | rfl
  simp only [Act.put, List.setIfInBounds_toArray, List.set_cons_zero, List.set_cons_succ]
  refine wpAnyH_takeI (i := 12) (v := ?v10) rfl (by kernel_rfl) (by kernel_rfl) (by kernel_rfl) (fun _ _ _ h => h) (yieldsIf_run rfl (fun w' hw' => ?y10)) hsV9 ?_
  case y10 => first | (go_simp; rfl) | (go_simp; done) | rfl
  simp only [Act.put, List.setIfInBounds_toArray, List.set_cons_zero, List.set_cons_succ]
  refine wpAnyH_done (by kernel_rfl) ?_ _
  refine NoPanic.normal ?_
  have HBV := Lib.hid hsV9
  have hL0 : 0 < L.length := by rw [HLL.out]; omega
  obtain ⟨gv, x, xc, e9, _, hcell, hbx⟩ := HVX.out.get hL0
  subst e9
  obtain ⟨X, hX⟩ : ∃ X, L[0] = X := ⟨_, rfl⟩
  have HHD := Lib.hid (show L.headD [] = X by
    cases L with
    | nil => simp at hL0
    | cons b T => exact hX)
  rw [hX] at hcell hbx
  obtain ⟨nx, hnx⟩ : ∃ nx, X.length = nx := ⟨_, rfl⟩
  rw [hnx] at hcell hbx
  have HBX := Lib.hid hbx
  have HBW := Lib.hid (HB1.out.trans (HBV.out.mono HB1.out.size))
  have HKW := Lib.hid (KAt.below HK.out HBW.out HK.out.size)
  clear hX hnx hbx hS0 hsV3 hsV6 hsV9
  have hhI : (0 : Int) < (hh : Int) := by omega
  go_wp2_with fail
  refine (DecodePart_any X _ HBX.out.at_ HKW.out).mono ?_
  rintro e U1 ⟨pa, pc, rfl, _, hb⟩
  obtain ⟨p, hp⟩ : ∃ p, decP X = p := ⟨_, rfl⟩
  obtain ⟨de, hde⟩ : ∃ de, decE X = de := ⟨_, rfl⟩
  have HAR := Lib.hid (show areaL L which = if de ≠ 0 ∨ p.gen.toNat % 2 ≠ which then none else areaM p.gen.toNat (scanL p.gen 0 L).1 by unfold areaL; rw [HHD.out, hp, hde])
  have HPG := Lib.hid (show de = 0 → 0 ≤ p.gen ∧ p.gen ≤ 2147483647 from fun h0 => by
    have h2 := decE_ok (hde.trans h0)
    have h3 := h2.2.2.2.1
    rw [← h2.2.2.2.2, hp] at h3
    exact ⟨h3.g0, h3.g1⟩)
  rw [hp, hde]
  unfold partVs
  obtain ⟨pg, hpg⟩ : ∃ pg, p.gen = pg := ⟨_, rfl⟩
  rw [hpg] at HAR HPG ⊢
  obtain ⟨p0, hp0⟩ : ∃ p0, p.kind = p0 := ⟨_, rfl⟩
  obtain ⟨p2, hp2⟩ : ∃ p2, p.num = p2 := ⟨_, rfl⟩
  obtain ⟨p3, hp3⟩ : ∃ p3, p.idx = p3 := ⟨_, rfl⟩
  obtain ⟨p4, hp4⟩ : ∃ p4, p.cnt = p4 := ⟨_, rfl⟩
  obtain ⟨p5, hp5⟩ : ∃ p5, p.bytes.length = p5 := ⟨_, rfl⟩
  rw [hp0, hp2, hp3, hp4, hp5]
  obtain ⟨U2, hU2⟩ : ∃ U2, U1.alloc (.cells #[.int .i64 p0, .int .i64 pg, .int .i64 p2, .int .i64 p3, .int .i64 p4, .slice pa p5 pc] 101) = U2 := ⟨_, rfl⟩
  have hb2 : Below U1.heap.size U1 U2 := hU2 ▸ (Below.refl _ _).alloc (Nat.le_refl _) _
  have hxp : U2.heap[U1.heap.size]? = some (.cells #[.int .i64 p0, .int .i64 pg, .int .i64 p2, .int .i64 p3, .int .i64 p4, .slice pa p5 pc] 101 (0, 0)) := by rw [← hU2]; exact heap_alloc_new _ _
  have HBU := Lib.hid ((HBV.out.trans (hb.mono HBV.out.size)).trans (hb2.mono (Nat.le_trans HBV.out.size hb.size)))
  have HVU := Lib.hid ((HVX.out.below hb).below hb2)
  have HS12 := Lib.hid hb2.size
  have HBP := Lib.hid (show B + 2 ≤ U1.heap.size by have h1 := HBV.out.size; have h2 := HS1.out; have h3 := hb.size; omega)
  have HXP := Lib.hid hxp
  have HX1U := Lib.hid ((HBU.out.block _ (by have := HS1.out; omega)).trans HX1.out)
  clear hb hp hde hpg hp0 hp2 hp3 hp4 hp5 hb2 hcell hxp
  by_cases h0 : de = 0
  case neg =>
    have hd : (de != 0) = true := by simpa using h0
    have HNO := Lib.hid (show A = none by rw [← HA.out, HAR.out, if_pos (.inl h0)])
    clear h0
    go_wp2_with (refine wpList_putV rfl rfl 77 (.tmp 4) (.tmp 50) rfl _ #[.int .i64 0, .int .i64 0, .slice none 0 0, .int .i64 0] rfl rfl 77 _ HX1U.out (by kernel_rfl) rfl (by kernel_rfl) ?_; refine Stop.on ?_)
    refine Stop.go ?_
    try simp only [Act.put, List.setIfInBounds_toArray, List.set_cons_zero, List.set_cons_succ]
    intro V8 x8 c8 s8
    try simp only [Act.put, List.setIfInBounds_toArray, List.set_cons_zero, List.set_cons_succ]
    have HBZ := Lib.hid ((HB1.out.trans (HBU.out.mono HB1.out.size)).trans (c8.below (B := w.heap.size) (fun k e => by have := HB.out; omega) ((HB1.out.trans (HBU.out.mono HB1.out.size)).size)))
    have hx8 := x8
    have k0 : V8.cell? ⟨B + 1, 0, none⟩ = some (.int .i64 0) := by rw [cell_of_row _ _ _ _ _ _ hx8]; rfl
    have k1 : V8.cell? ⟨B + 1, 1, none⟩ = some (.int .i64 0) := by rw [cell_of_row _ _ _ _ _ _ hx8]; rfl
    have k2 : V8.cell? ⟨B + 1, 2, none⟩ = some (.slice none 0 0) := by rw [cell_of_row _ _ _ _ _ _ hx8]; rfl
    have k3 : V8.cell? ⟨B + 1, 3, none⟩ = some (.int .i64 0) := by rw [cell_of_row _ _ _ _ _ _ hx8]; rfl
    clear x8 c8 s8 hx8
    go_wp2_with fail
    exact bodyPost_ret (v := .tuple #[.agg #[.int .i64 0, .int .i64 0, .slice none 0 0, .int .i64 0], .bool false, .int .i64 0]) (by simp [results, Tryd.results58, go_sem, k0, k1, k2, k3]) rfl (LoadPost.no HNO.out HBZ.out)
  subst h0
  obtain ⟨hq0, hq1⟩ := HPG.out rfl
  obtain ⟨q, rfl⟩ : ∃ q : Nat, pg = (q : Int) := ⟨pg.toNat, by omega⟩
  rw [Int.toNat_natCast] at HAR
  have hcg0 : U2.cell? ⟨U1.heap.size, 1, none⟩ = some (.int .i64 (q : Int)) := by rw [cell_of_row _ _ _ _ _ _ HXP.out]; rfl
  by_cases hpar : q % 2 = which
  case neg =>
    have hd : ((q : Int) % 2 != (which : Int)) = true := by simp; omega
    have HNO := Lib.hid (show A = none by rw [← HA.out, HAR.out, if_pos (.inr hpar)])
    go_wp2_with (refine wpList_putV rfl rfl 77 (.tmp 4) (.tmp 50) rfl _ #[.int .i64 0, .int .i64 0, .slice none 0 0, .int .i64 0] rfl rfl 77 _ HX1U.out (by kernel_rfl) rfl (by kernel_rfl) ?_; refine Stop.on ?_)
    refine Stop.go ?_
    try simp only [Act.put, List.setIfInBounds_toArray, List.set_cons_zero, List.set_cons_succ]
    intro V8 x8 c8 s8
    try simp only [Act.put, List.setIfInBounds_toArray, List.set_cons_zero, List.set_cons_succ]
    have HBZ := Lib.hid ((HB1.out.trans (HBU.out.mono HB1.out.size)).trans (c8.below (B := w.heap.size) (fun k e => by have := HB.out; omega) ((HB1.out.trans (HBU.out.mono HB1.out.size)).size)))
    have hx8 := x8
    have k0 : V8.cell? ⟨B + 1, 0, none⟩ = some (.int .i64 0) := by rw [cell_of_row _ _ _ _ _ _ hx8]; rfl
    have k1 : V8.cell? ⟨B + 1, 1, none⟩ = some (.int .i64 0) := by rw [cell_of_row _ _ _ _ _ _ hx8]; rfl
    have k2 : V8.cell? ⟨B + 1, 2, none⟩ = some (.slice none 0 0) := by rw [cell_of_row _ _ _ _ _ _ hx8]; rfl
    have k3 : V8.cell? ⟨B + 1, 3, none⟩ = some (.int .i64 0) := by rw [cell_of_row _ _ _ _ _ _ hx8]; rfl
    clear x8 c8 s8 hx8
    go_wp2_with fail
    exact bodyPost_ret (v := .tuple #[.agg #[.int .i64 0, .int .i64 0, .slice none 0 0, .int .i64 0], .bool false, .int .i64 0]) (by simp [results, Tryd.results58, go_sem, k0, k1, k2, k3]) rfl (LoadPost.no HNO.out HBZ.out)
  have hd : ((q : Int) % 2 != (which : Int)) = false := by simp; omega
  have HBWU := Lib.hid (HB1.out.trans (HBU.out.mono HB1.out.size))
  have HKU := Lib.hid (KAt.below HK.out HBWU.out HK.out.size)
  have HAR := Lib.hid (show A = areaM q (scanL (q : Int) 0 L).1 by rw [← HA.out, HAR.out, if_neg (fun h => h.elim (fun h => h rfl) (fun h => h hpar))])
  clear hpar
  go_wp2_with fail
  refine (Scan_any (q : Int) 0 L _ HVU.out.secs (by rw [HLL.out]; omega) HKU.out).mono ?_
  rintro e U3 ⟨rv, rfl, hrs, hb⟩
  have HSL := scan_len (q : Int) 0 L
  obtain ⟨rs, hrsE⟩ : ∃ rs, (scanL (q : Int) 0 L).1 = rs := ⟨_, rfl⟩
  obtain ⟨s1, hs1⟩ : ∃ s1, (scanL (q : Int) 0 L).2.1 = s1 := ⟨_, rfl⟩
  obtain ⟨s2, hs2⟩ : ∃ s2, (scanL (q : Int) 0 L).2.2 = s2 := ⟨_, rfl⟩
  rw [hrsE] at hrs HAR HSL
  rw [hs1, hs2]
  obtain ⟨ra, rc, rfl⟩ := hrs.form
  obtain ⟨m, hm⟩ : ∃ m, rs.length = m := ⟨_, rfl⟩
  rw [hm] at hrs ⊢
  have HRS := Lib.hid hrs
  have HM := Lib.hid hm
  have hmb : m ≤ hh := by rw [← hm, ← HLL.out]; exact HSL.2
  have HSL := Lib.hid HSL.1
  have HB3 := Lib.hid (HBWU.out.trans (hb.mono HBWU.out.size))
  have HX13 := Lib.hid ((hb.block _ (Array.getElem?_eq_some_iff.1 HX1U.out).1).trans HX1U.out)
  have hxp3 := (hb.block _ (Array.getElem?_eq_some_iff.1 HXP.out).1).trans HXP.out
  have HXP3 := Lib.hid hxp3
  have hq3 : U3.cell? ⟨U1.heap.size, 1, none⟩ = some (.int .i64 (q : Int)) := by rw [cell_of_row _ _ _ _ _ _ hxp3]; rfl
  have HSU := Lib.hid hb.size
  clear hrs hm hb hrsE hs1 hs2 hxp3 hcg0
  by_cases hm0 : m = 0
  case pos =>
    subst hm0
    have HNO := Lib.hid (show A = none by rw [HAR.out, List.eq_nil_of_length_eq_zero HM.out]; rfl)
    go_wp2_with (refine wpList_putV rfl rfl 77 (.tmp 4) (.tmp 69) rfl _ #[.int .i64 0, .int .i64 0, .slice none 0 0, .int .i64 0] rfl rfl 77 _ HX13.out (by kernel_rfl) rfl (by kernel_rfl) ?_; refine Stop.on ?_)
    refine Stop.go ?_
    try simp only [Act.put, List.setIfInBounds_toArray, List.set_cons_zero, List.set_cons_succ]
    intro V8 x8 c8 s8
    try simp only [Act.put, List.setIfInBounds_toArray, List.set_cons_zero, List.set_cons_succ]
    have HBZ := Lib.hid (HB3.out.trans (c8.below (B := w.heap.size) (fun k e => by have := HB.out; omega) (HB3.out.size)))
    have hx8 := x8
    have k0 : V8.cell? ⟨B + 1, 0, none⟩ = some (.int .i64 0) := by rw [cell_of_row _ _ _ _ _ _ hx8]; rfl
    have k1 : V8.cell? ⟨B + 1, 1, none⟩ = some (.int .i64 0) := by rw [cell_of_row _ _ _ _ _ _ hx8]; rfl
    have k2 : V8.cell? ⟨B + 1, 2, none⟩ = some (.slice none 0 0) := by rw [cell_of_row _ _ _ _ _ _ hx8]; rfl
    have k3 : V8.cell? ⟨B + 1, 3, none⟩ = some (.int .i64 0) := by rw [cell_of_row _ _ _ _ _ _ hx8]; rfl
    clear x8 c8 s8 hx8
    go_wp2_with fail
    exact bodyPost_ret (v := .tuple #[.agg #[.int .i64 0, .int .i64 0, .slice none 0 0, .int .i64 0], .bool false, .int .i64 0]) (by simp [results, Tryd.results58, go_sem, k0, k1, k2, k3]) rfl (LoadPost.no HNO.out HBZ.out)
  obtain ⟨h, t, rfl⟩ : ∃ h t, rs = h :: t := by
    cases rs with
    | nil => exact absurd HM.out.symm hm0
    | cons h t => exact ⟨h, t, rfl⟩
  have hm1 : ((m : Int) == 0) = false := by simp [hm0]
  obtain ⟨gr, x0, xc0, e9, hgr, k0, _, _, k3, hbl⟩ := HRS.out.getF (i := 0) (by simp)
  subst e9
  simp only [List.getElem_cons_zero, Nat.zero_mul, Nat.zero_add] at k0 k3 hbl
  have hmI : (0 : Int) < (m : Int) := by omega
  obtain ⟨hk, hhk⟩ : ∃ hk, h.kind = hk := ⟨_, rfl⟩
  rw [hhk] at k0
  by_cases hk1 : hk = 1
  case neg =>
    have hd2 : (hk != 1) = true := by simpa using hk1
    have HNO := Lib.hid (show A = none by rw [HAR.out]; exact if_pos (by rw [hhk]; exact hk1))
    clear hk1 hhk hbl
    go_wp2_with (refine wpList_putV rfl rfl 77 (.tmp 4) (.tmp 69) rfl _ #[.int .i64 0, .int .i64 0, .slice none 0 0, .int .i64 0] rfl rfl 77 _ HX13.out (by kernel_rfl) rfl (by kernel_rfl) ?_; refine Stop.on ?_)
    refine Stop.go ?_
    try simp only [Act.put, List.setIfInBounds_toArray, List.set_cons_zero, List.set_cons_succ]
    intro V8 x8 c8 s8
    try simp only [Act.put, List.setIfInBounds_toArray, List.set_cons_zero, List.set_cons_succ]
    have HBZ := Lib.hid (HB3.out.trans (c8.below (B := w.heap.size) (fun k e => by have := HB.out; omega) (HB3.out.size)))
    have hx8 := x8
    have k0 : V8.cell? ⟨B + 1, 0, none⟩ = some (.int .i64 0) := by rw [cell_of_row _ _ _ _ _ _ hx8]; rfl
    have k1 : V8.cell? ⟨B + 1, 1, none⟩ = some (.int .i64 0) := by rw [cell_of_row _ _ _ _ _ _ hx8]; rfl
    have k2 : V8.cell? ⟨B + 1, 2, none⟩ = some (.slice none 0 0) := by rw [cell_of_row _ _ _ _ _ _ hx8]; rfl
    have k3 : V8.cell? ⟨B + 1, 3, none⟩ = some (.int .i64 0) := by rw [cell_of_row _ _ _ _ _ _ hx8]; rfl
    clear x8 c8 s8 hx8
    go_wp2_with fail
    exact bodyPost_ret (v := .tuple #[.agg #[.int .i64 0, .int .i64 0, .slice none 0 0, .int .i64 0], .bool false, .int .i64 0]) (by simp [results, Tryd.results58, go_sem, k0, k1, k2, k3]) rfl (LoadPost.no HNO.out HBZ.out)
  subst hk1
  have HBL := Lib.hid hbl
  have HHK := Lib.hid hhk
  obtain ⟨hl, hhl⟩ : ∃ hl, h.load.length = hl := ⟨_, rfl⟩
  have HHL := Lib.hid (show h.load.length < 1000000000 from Nat.lt_of_le_of_lt (HSL.out h (List.mem_cons_self ..)) (by omega))
  rw [hhl] at k3 hbl
  have HBL := Lib.hid (own_bytesN (hhl ▸ hbl))
  rw [hhl] at HBL
  have HHK := Lib.hid hhk
  clear hbl hhk hhl
  go_wp2_with fail
  refine (headNumbers_any _ h.load HBL.out.at_ HHL.out).mono ?_
  rintro e U4 ⟨rfl, hb⟩
  obtain ⟨nf, nc, ok, hnv, hn1, hn2⟩ := num_cases (numL h.load)
  rw [hnv]
  have HAR := Lib.hid (show A = finA ok q nf nc t by
    unfold finA
    rw [HAR.out, areaM, if_neg (fun h0 => h0 HHK.out)]
    cases ok with
    | true => rw [hn1 rfl]; by_cases h5 : nc ≤ (bodyL t).length <;> simp [h5]
    | false => rw [hn2 rfl]; simp)
  have hq4 : U4.cell? ⟨U1.heap.size, 1, none⟩ = some (.int .i64 (q : Int)) := by rw [cell_of_row _ _ _ _ _ _ ((hb.block _ (Array.getElem?_eq_some_iff.1 HXP3.out).1).trans HXP3.out)]; rfl
  have HB4 := Lib.hid (HB3.out.trans (hb.mono HB3.out.size))
  have HX14 := Lib.hid ((hb.block _ (Array.getElem?_eq_some_iff.1 HX13.out).1).trans HX13.out)
  have HU34 := Lib.hid hb
  have HX1S := Lib.hid (Array.getElem?_eq_some_iff.1 HX13.out).1
  obtain ⟨k, rfl⟩ : ∃ k, m = k + 1 := ⟨m - 1, by omega⟩
  have HTK := Lib.hid (show t.length = k by have h1 := HM.out; simp at h1; exact h1)
  have HRC := Lib.hid (show k + 1 ≤ rc by
    obtain ⟨ps, _, h1, _⟩ := HRS.out.ex
    rcases h1.2 with ⟨e, h0⟩ | ⟨g, cap', cur, e, _, _, hc, _⟩
    · cases e
    · simp only [Value.slice.injEq] at e
      obtain ⟨-, -, rfl⟩ := e
      have h9 := HM.out
      omega)
  clear hb hnv hn1 hn2 hq3 k0 k3
  go_wp2_with (refine wpList_putV rfl rfl 77 (.tmp 16) (.tmp 82) rfl _ #[.int .i64 (q : Int), .int .i64 (nf : Int), .slice none 0 0, .int .i64 0] rfl rfl 77 _ (heap_alloc_new _ _) (by kernel_rfl) rfl (by kernel_rfl) ?_; refine Stop.on ?_)
  refine Stop.go ?_
  try simp only [Act.put, List.setIfInBounds_toArray, List.set_cons_zero, List.set_cons_succ]
  intro W0 xW cW sW
  try simp only [Act.put, List.setIfInBounds_toArray, List.set_cons_zero, List.set_cons_succ]
  obtain ⟨x, hx⟩ : ∃ x, U4.heap.size = x := ⟨_, rfl⟩
  rw [hx] at xW cW ⊢
  have hba : Below U4.heap.size U4 (U4.alloc (.cells #[.int .i64 0, .int .i64 0, .slice none 0 0, .int .i64 0] 77)) := (Below.refl _ _).alloc (Nat.le_refl _) _
  have HBW0 := Lib.hid (hba.trans (cW.below (fun k e => by rw [e, hx]; exact Nat.le_refl _) hba.size))
  have HSW0 := Lib.hid (show W0.heap.size = x + 1 by rw [sW, ← hx]; simp)
  have HX := Lib.hid hx
  have HXW := Lib.hid xW
  clear hba xW cW sW hx
  go_upto_region 12 with (fail)
  go_cut [84, 85, 86] from 83 (fun sv nv iv wc => ∃ (so sc : Nat), sv = .slice (some ⟨gr, so, none⟩) k sc ∧ nv = .int .i64 (k : Int) ∧ iv = .int .i64 0 ∧ Hid (0 < k → so = 4) ∧ W0 = wc)
  case first =>
    by_cases hrc : rc = 1
    · subst hrc
      have hk0 := HRC.out
      obtain rfl : k = 0 := by omega
      go_wp2_with fail
      go_meet
      case rel => exact ⟨_, _, rfl, rfl, rfl, Lib.hid (fun h => absurd h (by omega)), rfl⟩
    · go_wp2_with fail
      go_meet
      case rel => exact ⟨_, _, rfl, rfl, rfl, Lib.hid (fun _ => rfl), rfl⟩
  case rest =>
    obtain ⟨so, sc, rfl, rfl, rfl, HSO, e0⟩ := hcut
    subst e0
    have HXL := Lib.hid (show U3.heap.size ≤ x by rw [← HX.out]; exact HU34.out.size)
    have HBB := Lib.hid (HB4.out.trans (HBW0.out.mono HB4.out.size))
    have HX1W := Lib.hid ((HBW0.out.block _ (Array.getElem?_eq_some_iff.1 HX14.out).1).trans HX14.out)
    have HER0 := Lib.hid (entsAt_nil W0 (fun j => U2.heap.size ≤ j ∧ j ≠ x))
    have HOB0 := Lib.hid (show ∀ g, (Value.slice none 0 0).ownBlock = some g → x < g from fun g e => by cases e)
    have HKR0 := Lib.hid (show ∀ j (h : j < t.length), j < 0 → t[j].kind = 2 from fun j _ h => absurd h (by omega))
    have HCR0 := Lib.hid (Chg.refl (fun j => x ≤ j) W0)
    clear hq4
    go_wp2_with fail
    go_loopw [86] (fun iv wr => ∃ (i : Nat) (va : Option Addr) (vc : Nat), i ≤ k ∧ iv = .int .i64 (i : Int) ∧ Hid (wr.heap[x]? = some (.cells #[.int .i64 (q : Int), .int .i64 (nf : Int), .slice va i vc, .int .i64 0] 77 (0, 0))) ∧ Hid (EntsAt wr (fun j => U2.heap.size ≤ j ∧ j ≠ x) (.slice va i vc) ((t.take i).map (·.load))) ∧ Hid (∀ g, (Value.slice va i vc).ownBlock = some g → x < g) ∧ Hid (∀ j (h : j < t.length), j < i → t[j].kind = 2) ∧ Hid (Chg (fun j => x ≤ j) W0 wr)) (fun iv _ => k - (intOf iv).toNat)
    case atStart => exact ⟨0, none, 0, Nat.zero_le _, rfl, HXW, HER0, HOB0, HKR0, HCR0⟩
    case round =>
      obtain ⟨i, va, vc, hi, rfl, HXR, HER, HOB, HKR, HCR⟩ := hrel
      obtain ⟨W1, rfl⟩ : ∃ W1, W1 = wr := ⟨_, rfl⟩
      clear HXW HER0 HOB0 HKR0 HCR0
      by_cases hlt : i < k
      case neg =>
        obtain rfl : k = i := by omega
        have HBT := Lib.hid (body_stop (t := t) HKR.out (fun h => absurd h (by have := HTK.out; omega)))
        go_wp2_with fail
        have HXB := Lib.hid ((HCR.out.block (B + 1) (by have h1 := HX1S.out; have h2 := HXL.out; have h3 := HSW0.out; omega) (by have h1 := HX1S.out; have h2 := HXL.out; omega)).trans HX1W.out)
        have HBZ := Lib.hid (HBB.out.trans (HCR.out.below (B := w.heap.size) (fun j e => by have h1 := HX1S.out; have h2 := HXL.out; have h3 := HB.out; omega) HBB.out.size))
        have HLC := Lib.hid (show ∀ w', Chg (fun j => j = B + 1) W1 w' → w'.cell? ⟨x, 0, none⟩ = some (.int .i64 (q : Int)) ∧ w'.cell? ⟨x, 1, none⟩ = some (.int .i64 (nf : Int)) ∧ w'.cell? ⟨x, 2, none⟩ = some (.slice va k vc) ∧ w'.cell? ⟨x, 3, none⟩ = some (.int .i64 0) from fun w' hw' => by
          have h1 := (hw'.block x (Array.getElem?_eq_some_iff.1 HXR.out).1 (by have h1 := HX1S.out; have h2 := HXL.out; omega)).trans HXR.out
          refine ⟨?_, ?_, ?_, ?_⟩ <;> rw [cell_of_row _ _ _ _ _ _ h1] <;> rfl)
        cases ok
        · skip
          refine wp_region_noPanic ?_
          refine wp_region_H (Chg (fun j => j = B + 1) W1) (by kernel_rfl) ?_
          have hS0 : (Chg (fun j => j = B + 1) W1) W1.drew := Chg.of_below ((Below.refl _ _).drew)
          obtain ⟨wd, hwd⟩ : ∃ wd, W1.drew = wd := ⟨_, rfl⟩
          rw [hwd] at hS0 ⊢
          have hd0 : Below W1.heap.size W1 wd := hwd ▸ (Below.refl _ _).drew
          clear hwd
          refine wpAnyH_takeI (i := 0) (v := ?v11) rfl (by kernel_rfl) (by kernel_rfl) (by kernel_rfl) (fun _ _ _ h => h) (yieldsIf_run rfl (fun w' hw' => ?y11)) hS0 ?_
          case y11 => (obtain ⟨h1, h2, h3, h4⟩ := HLC.out w' hw'; clear hw'; first | (go_simp; rfl) | (go_simp; done))
          simp only [Act.put, List.setIfInBounds_toArray, List.set_cons_zero, List.set_cons_succ]
          refine wpAnyH_takeI (i := 1) (v := ?v12) rfl (by kernel_rfl) (by kernel_rfl) (by kernel_rfl) (fun _ _ _ h => h) (yieldsIf_run rfl (fun w' hw' => ?y12)) hS0 ?_
          case y12 => first | (go_simp; rfl) | (go_simp; done) | rfl
          simp only [Act.put, List.setIfInBounds_toArray, List.set_cons_zero, List.set_cons_succ]
          refine wpAnyH_takeI (i := 2) (v := ?v13) rfl (by kernel_rfl) (by kernel_rfl) (by kernel_rfl) (fun _ _ _ h => h) (yieldsIf_run rfl (fun w' hw' => ?y13)) hS0 ?_
          case y13 => first | (go_simp; rfl) | (go_simp; done) | rfl
          simp only [Act.put, List.setIfInBounds_toArray, List.set_cons_zero, List.set_cons_succ]
          refine wpAnyH_takeI (i := 3) (v := undef) rfl (by kernel_rfl) (by kernel_rfl) (by kernel_rfl) (fun _ _ _ h => h) (yieldsIf_skip rfl) hS0 ?_
          simp only [Act.put, List.setIfInBounds_toArray, List.set_cons_zero, List.set_cons_succ]
          refine wpAnyH_takeI (i := 4) (v := undef) rfl (by kernel_rfl) (by kernel_rfl) (by kernel_rfl) (fun _ _ _ h => h) (yieldsIf_skip rfl) hS0 ?_
          simp only [Act.put, List.setIfInBounds_toArray, List.set_cons_zero, List.set_cons_succ]
          refine wpAnyH_takeI (i := 5) (v := undef) rfl (by kernel_rfl) (by kernel_rfl) (by kernel_rfl) (fun _ _ _ h => h) (yieldsIf_skip rfl) hS0 ?_
          simp only [Act.put, List.setIfInBounds_toArray, List.set_cons_zero, List.set_cons_succ]
          refine wpAnyH_takeI (i := 6) (v := undef) rfl (by kernel_rfl) (by kernel_rfl) (by kernel_rfl) (fun _ _ _ h => h) (yieldsIf_skip rfl) hS0 ?_
          simp only [Act.put, List.setIfInBounds_toArray, List.set_cons_zero, List.set_cons_succ]
          refine wpAnyH_takeI (i := 7) (v := undef) rfl (by kernel_rfl) (by kernel_rfl) (by kernel_rfl) (fun _ _ _ h => h) (yieldsIf_skip rfl) hS0 ?_
          simp only [Act.put, List.setIfInBounds_toArray, List.set_cons_zero, List.set_cons_succ]
          refine wpAnyH_takeI (i := 8) (v := ?v14) rfl (by kernel_rfl) (by kernel_rfl) (by kernel_rfl) (fun _ _ _ h => h) (yieldsIf_run rfl (fun w' hw' => ?y14)) hS0 ?_
          case y14 => first | (go_simp; rfl) | (go_simp; done) | rfl
          simp only [Act.put, List.setIfInBounds_toArray, List.set_cons_zero, List.set_cons_succ]
          refine wpAnyH_do (i := 9) (by kernel_rfl) rfl rfl (fun K hK => ?_)
          refine wp_putV rfl 77 (.tmp 4) (.tmp 101) rfl _ #[.int .i64 (q : Int), .int .i64 (nf : Int), .slice va k vc, .int .i64 0] rfl rfl 77 _ ((hd0.block _ (Array.getElem?_eq_some_iff.1 HXB.out).1).trans HXB.out) (by kernel_rfl) rfl (by kernel_rfl) ?_
          intro V8 x8 c8 s8
          have hS8 : Chg (fun j => j = B + 1) W1 V8 := hS0.trans c8 (fun j e => .inl e)
          refine hK _ _ (hS8) ?_
          clear hK K
          try simp only [Act.put, List.setIfInBounds_toArray, List.set_cons_zero, List.set_cons_succ]
          have hS0 := hS8
          refine wpAnyH_takeI (i := 10) (v := ?v15) rfl (by kernel_rfl) (by kernel_rfl) (by kernel_rfl) (fun _ _ _ h => h) (yieldsIf_run rfl (fun w' hw' => ?y15)) hS0 ?_
          case y15 => first | (go_simp; rfl) | (go_simp; done) | rfl
          simp only [Act.put, List.setIfInBounds_toArray, List.set_cons_zero, List.set_cons_succ]
          refine wpAnyH_takeI (i := 11) (v := ?v16) rfl (by kernel_rfl) (by kernel_rfl) (by kernel_rfl) (fun _ _ _ h => h) (yieldsIf_run rfl (fun w' hw' => ?y16)) hS0 ?_
          case y16 => first | (go_simp; rfl) | (go_simp; done) | rfl
          simp only [Act.put, List.setIfInBounds_toArray, List.set_cons_zero, List.set_cons_succ]
          refine wpAnyH_done (by kernel_rfl) ?_ _
          refine NoPanic.normal ?_
          have k0 : V8.cell? ⟨B + 1, 0, none⟩ = some (.int .i64 (q : Int)) := by rw [cell_of_row _ _ _ _ _ _ x8]; rfl
          have k1 : V8.cell? ⟨B + 1, 1, none⟩ = some (.int .i64 (nf : Int)) := by rw [cell_of_row _ _ _ _ _ _ x8]; rfl
          have k2 : V8.cell? ⟨B + 1, 2, none⟩ = some (.slice va k vc) := by rw [cell_of_row _ _ _ _ _ _ x8]; rfl
          have k3 : V8.cell? ⟨B + 1, 3, none⟩ = some (.int .i64 0) := by rw [cell_of_row _ _ _ _ _ _ x8]; rfl
          have HEZ := Lib.hid (show EntsAt V8 (fun k => w.heap.size ≤ k) (.slice va k vc) (bodyL t) by
            rw [HBT.out]
            exact (HER.out.chg hS8 (fun j _ h1 e => by have h2 := HBP.out; have h3 := HS12.out; omega)).weak (fun j _ h1 => by have h2 := HBP.out; have h3 := HS12.out; have h4 := HB.out; omega))
          have HLB := Lib.hid (show (bodyL t).length = k by rw [HBT.out, List.length_map, List.length_take]; have h1 := HTK.out; omega)
          have HBV8 := Lib.hid (HBZ.out.trans (hS8.below (B := w.heap.size) (fun j e => by have h3 := HB.out; omega) HBZ.out.size))
          clear x8 c8 s8 hS8 hd0 hS0
          go_wp2_with fail
          exact bodyPost_ret (v := .tuple #[.agg (stC q nf (.slice va k vc) 0), .bool false, .int .i64 0]) (by simp [results, Tryd.results58, go_sem, k0, k1, k2, k3, stC]) rfl (LoadPost.fin (ok := false) (nc := nc) (t := t) HAR.out HEZ.out HBV8.out (by rfl))
        · skip
          refine wp_region_noPanic ?_
          refine wp_region_H (Chg (fun j => j = B + 1) W1) (by kernel_rfl) ?_
          have hS0 : (Chg (fun j => j = B + 1) W1) W1.drew := Chg.of_below ((Below.refl _ _).drew)
          obtain ⟨wd, hwd⟩ : ∃ wd, W1.drew = wd := ⟨_, rfl⟩
          rw [hwd] at hS0 ⊢
          have hd0 : Below W1.heap.size W1 wd := hwd ▸ (Below.refl _ _).drew
          clear hwd
          refine wpAnyH_takeI (i := 0) (v := ?v17) rfl (by kernel_rfl) (by kernel_rfl) (by kernel_rfl) (fun _ _ _ h => h) (yieldsIf_run rfl (fun w' hw' => ?y17)) hS0 ?_
          case y17 => (obtain ⟨h1, h2, h3, h4⟩ := HLC.out w' hw'; clear hw'; first | (go_simp; rfl) | (go_simp; done))
          simp only [Act.put, List.setIfInBounds_toArray, List.set_cons_zero, List.set_cons_succ]
          refine wpAnyH_takeI (i := 1) (v := ?v18) rfl (by kernel_rfl) (by kernel_rfl) (by kernel_rfl) (fun _ _ _ h => h) (yieldsIf_run rfl (fun w' hw' => ?y18)) hS0 ?_
          case y18 => first | (go_simp; rfl) | (go_simp; done) | rfl
          simp only [Act.put, List.setIfInBounds_toArray, List.set_cons_zero, List.set_cons_succ]
          refine wpAnyH_takeI (i := 2) (v := ?v19) rfl (by kernel_rfl) (by kernel_rfl) (by kernel_rfl) (fun _ _ _ h => h) (yieldsIf_run rfl (fun w' hw' => ?y19)) hS0 ?_
          case y19 => first | (go_simp; rfl) | (go_simp; done) | rfl
          simp only [Act.put, List.setIfInBounds_toArray, List.set_cons_zero, List.set_cons_succ]
          refine wpAnyH_takeI (i := 3) (v := ?v20) rfl (by kernel_rfl) (by kernel_rfl) (by kernel_rfl) (fun _ _ _ h => h) (yieldsIf_want rfl (fun w' hw' => ?y20)) hS0 ?_
          case y20 => first | (go_simp; rfl) | (go_simp; done) | rfl
          simp only [Act.put, List.setIfInBounds_toArray, List.set_cons_zero, List.set_cons_succ]
          refine wpAnyH_takeI (i := 4) (v := ?v21) rfl (by kernel_rfl) (by kernel_rfl) (by kernel_rfl) (fun _ _ _ h => h) (yieldsIf_want rfl (fun w' hw' => ?y21)) hS0 ?_
          case y21 => (obtain ⟨h1, h2, h3, h4⟩ := HLC.out w' hw'; clear hw'; first | (go_simp; rfl) | (go_simp; done))
          simp only [Act.put, List.setIfInBounds_toArray, List.set_cons_zero, List.set_cons_succ]
          refine wpAnyH_takeI (i := 5) (v := ?v22) rfl (by kernel_rfl) (by kernel_rfl) (by kernel_rfl) (fun _ _ _ h => h) (yieldsIf_want rfl (fun w' hw' => ?y22)) hS0 ?_
          case y22 => first | (go_simp; rfl) | (go_simp; done) | rfl
          simp only [Act.put, List.setIfInBounds_toArray, List.set_cons_zero, List.set_cons_succ]
          refine wpAnyH_takeI (i := 6) (v := ?v23) rfl (by kernel_rfl) (by kernel_rfl) (by kernel_rfl) (fun _ _ _ h => h) (yieldsIf_want rfl (fun w' hw' => ?y23)) hS0 ?_
          case y23 => first | (go_simp; rfl) | (go_simp; done) | rfl
          simp only [Act.put, List.setIfInBounds_toArray, List.set_cons_zero, List.set_cons_succ]
          refine wpAnyH_takeI (i := 7) (v := ?v24) rfl (by kernel_rfl) (by kernel_rfl) (by kernel_rfl) (fun _ _ _ h => h) (yieldsIf_want rfl (fun w' hw' => ?y24)) hS0 ?_
          case y24 => first | (go_simp; rfl) | (go_simp; done) | rfl
          simp only [Act.put, List.setIfInBounds_toArray, List.set_cons_zero, List.set_cons_succ]
          refine wpAnyH_takeI (i := 8) (v := ?v25) rfl (by kernel_rfl) (by kernel_rfl) (by kernel_rfl) (fun _ _ _ h => h) (yieldsIf_run rfl (fun w' hw' => ?y25)) hS0 ?_
          case y25 => first | (go_simp; rfl) | (go_simp; done) | rfl
          simp only [Act.put, List.setIfInBounds_toArray, List.set_cons_zero, List.set_cons_succ]
          refine wpAnyH_do (i := 9) (by kernel_rfl) rfl rfl (fun K hK => ?_)
          refine wp_putV rfl 77 (.tmp 4) (.tmp 101) rfl _ #[.int .i64 (q : Int), .int .i64 (nf : Int), .slice va k vc, .int .i64 0] rfl rfl 77 _ ((hd0.block _ (Array.getElem?_eq_some_iff.1 HXB.out).1).trans HXB.out) (by kernel_rfl) rfl (by kernel_rfl) ?_
          intro V8 x8 c8 s8
          have hS8 : Chg (fun j => j = B + 1) W1 V8 := hS0.trans c8 (fun j e => .inl e)
          refine hK _ _ (hS8) ?_
          clear hK K
          try simp only [Act.put, List.setIfInBounds_toArray, List.set_cons_zero, List.set_cons_succ]
          have hS0 := hS8
          refine wpAnyH_takeI (i := 10) (v := ?v26) rfl (by kernel_rfl) (by kernel_rfl) (by kernel_rfl) (fun _ _ _ h => h) (yieldsIf_run rfl (fun w' hw' => ?y26)) hS0 ?_
          case y26 => first | (go_simp; rfl) | (go_simp; done) | rfl
          simp only [Act.put, List.setIfInBounds_toArray, List.set_cons_zero, List.set_cons_succ]
          refine wpAnyH_takeI (i := 11) (v := ?v27) rfl (by kernel_rfl) (by kernel_rfl) (by kernel_rfl) (fun _ _ _ h => h) (yieldsIf_run rfl (fun w' hw' => ?y27)) hS0 ?_
          case y27 => first | (go_simp; rfl) | (go_simp; done) | rfl
          simp only [Act.put, List.setIfInBounds_toArray, List.set_cons_zero, List.set_cons_succ]
          refine wpAnyH_done (by kernel_rfl) ?_ _
          refine NoPanic.normal ?_
          have k0 : V8.cell? ⟨B + 1, 0, none⟩ = some (.int .i64 (q : Int)) := by rw [cell_of_row _ _ _ _ _ _ x8]; rfl
          have k1 : V8.cell? ⟨B + 1, 1, none⟩ = some (.int .i64 (nf : Int)) := by rw [cell_of_row _ _ _ _ _ _ x8]; rfl
          have k2 : V8.cell? ⟨B + 1, 2, none⟩ = some (.slice va k vc) := by rw [cell_of_row _ _ _ _ _ _ x8]; rfl
          have k3 : V8.cell? ⟨B + 1, 3, none⟩ = some (.int .i64 0) := by rw [cell_of_row _ _ _ _ _ _ x8]; rfl
          have HEZ := Lib.hid (show EntsAt V8 (fun k => w.heap.size ≤ k) (.slice va k vc) (bodyL t) by
            rw [HBT.out]
            exact (HER.out.chg hS8 (fun j _ h1 e => by have h2 := HBP.out; have h3 := HS12.out; omega)).weak (fun j _ h1 => by have h2 := HBP.out; have h3 := HS12.out; have h4 := HB.out; omega))
          have HLB := Lib.hid (show (bodyL t).length = k by rw [HBT.out, List.length_map, List.length_take]; have h1 := HTK.out; omega)
          have HBV8 := Lib.hid (HBZ.out.trans (hS8.below (B := w.heap.size) (fun j e => by have h3 := HB.out; omega) HBZ.out.size))
          clear x8 c8 s8 hS8 hd0 hS0
          go_wp2_with fail
          exact bodyPost_ret (v := .tuple #[.agg (stC q nf (.slice va k vc) 0), .bool (decide ((nc : Int) ≤ (k : Int))), .int .i64 0]) (by simp [results, Tryd.results58, go_sem, k0, k1, k2, k3, stC]) rfl (LoadPost.fin (ok := true) (nc := nc) (t := t) HAR.out HEZ.out HBV8.out (by rw [HLB.out]; by_cases h9 : nc ≤ k <;> simp [h9]))
      have hiI : (i : Int) < (k : Int) := by omega
      obtain rfl : so = 4 := HSO.out (by omega)
      have hit : i < t.length := by rw [HTK.out]; exact hlt
      obtain ⟨gr9, x1, xc1, e9, _, r0, r1, r2, r3, hl1⟩ := HRS.out.getF (i := i + 1) (by simp; exact hit)
      cases e9
      simp only [List.getElem_cons_succ] at r0 r1 r2 r3 hl1
      obtain ⟨R, hR⟩ : ∃ R, t[i] = R := ⟨_, rfl⟩
      rw [hR] at r0 r1 r2 r3 hl1
      have HRI := Lib.hid hR
      have hblk : W1.heap[gr]? = U3.heap[gr]? := (HCR.out.block gr (by have h1 := HXL.out; have h2 := HSW0.out; omega) (by have h1 := HXL.out; omega)).trans ((HBW0.out.block gr (by have h1 := HXL.out; have h2 := HX.out; omega)).trans (HU34.out.block gr hgr))
      have hcl : ∀ o u, U3.cell? ⟨gr, o, none⟩ = some u → W1.cell? ⟨gr, o, none⟩ = some u := fun o u h1 => by
        rw [← h1]
        simp only [World.cell?, hblk]
      have hld := hl1
      have HHU := Lib.hid (show W1.ownsRow U2.heap.size 5 1 (.slice x1 R.load.length xc1) R.load.length (bvs R.load) from ownsRow_chg' (own_kept (own_kept hl1 HU34.out) HBW0.out) HCR.out (fun g hg e => by
        have h1 := (ownsRow_lt hl1 g hg).2
        have h2 := HXL.out
        omega))
      have HLU := Lib.hid (show BytesN W1 (fun j => U2.heap.size ≤ j ∧ j < x) (.slice x1 R.load.length xc1) R.load from by
        have h1 := ((own_bytesN hl1).weak (G := fun j => U2.heap.size ≤ j ∧ j < x) (fun j h1 h2 => ⟨h2, Nat.lt_of_lt_of_le h1 HXL.out⟩))
        exact (((h1.below HU34.out).below HBW0.out).chg HCR.out (fun j _ h2 e => by omega)))
      obtain ⟨kd, hkd⟩ : ∃ kd, R.kind = kd := ⟨_, rfl⟩
      obtain ⟨gd, hgd⟩ : ∃ gd, R.gen = gd := ⟨_, rfl⟩
      obtain ⟨nd, hnd⟩ : ∃ nd, R.num = nd := ⟨_, rfl⟩
      obtain ⟨ld, hld⟩ : ∃ ld, R.load.length = ld := ⟨_, rfl⟩
      have y0 : W1.cell? ⟨gr, 4 + i * 4, none⟩ = some (.int .i64 kd) := by rw [← hkd, show 4 + i * 4 = (i + 1) * 4 by omega]; exact hcl _ _ r0
      have y1 : W1.cell? ⟨gr, 4 + i * 4 + 1, none⟩ = some (.int .i64 gd) := by rw [← hgd, show 4 + i * 4 = (i + 1) * 4 by omega]; exact hcl _ _ r1
      have y2 : W1.cell? ⟨gr, 4 + i * 4 + 2, none⟩ = some (.int .i64 nd) := by rw [← hnd, show 4 + i * 4 = (i + 1) * 4 by omega]; exact hcl _ _ r2
      have y3 : W1.cell? ⟨gr, 4 + i * 4 + 3, none⟩ = some (.slice x1 ld xc1) := by rw [← hld, show 4 + i * 4 = (i + 1) * 4 by omega]; exact hcl _ _ r3
      rw [hld] at HHU HLU
      have HKD := Lib.hid hkd
      obtain ⟨W2, hW2⟩ : ∃ W2, W1.alloc (.cells #[.int .i64 kd, .int .i64 gd, .int .i64 nd, .slice x1 ld xc1] 88) = W2 := ⟨_, rfl⟩
      have hb2 : Below W1.heap.size W1 W2 := hW2 ▸ (Below.refl _ _).alloc (Nat.le_refl _) _
      have hxr : W2.heap[W1.heap.size]? = some (.cells #[.int .i64 kd, .int .i64 gd, .int .i64 nd, .slice x1 ld xc1] 88 (0, 0)) := by rw [← hW2]; exact heap_alloc_new _ _
      have z0 : W2.cell? ⟨W1.heap.size, 0, none⟩ = some (.int .i64 kd) := by rw [cell_of_row _ _ _ _ _ _ hxr]; rfl
      have z3 : W2.cell? ⟨W1.heap.size, 3, none⟩ = some (.slice x1 ld xc1) := by rw [cell_of_row _ _ _ _ _ _ hxr]; rfl
      have hxx := (hb2.block x (Array.getElem?_eq_some_iff.1 HXR.out).1).trans HXR.out
      have zx : W2.cell? ⟨x, 2, none⟩ = some (.slice va i vc) := by rw [cell_of_row _ _ _ _ _ _ hxx]; rfl
      have HX2 := Lib.hid hxx
      have HE2 := Lib.hid (HER.out.below hb2)
      have HLU2 := Lib.hid (HLU.out.below hb2)
      have HHU2 := Lib.hid (own_kept HHU.out hb2)
      have HC2 := Lib.hid (HCR.out.trans (Chg.of_below (F := fun j => x ≤ j) hb2) (fun j e => .inl e))
      have HSZ2 := Lib.hid hb2.size
      have HS2X := Lib.hid (show x < W1.heap.size from (Array.getElem?_eq_some_iff.1 HXR.out).1)
      clear hl1 hblk hcl r0 r1 r2 r3 hR hkd hgd hnd hld hb2 hxr hxx HHU HLU
      by_cases hk2 : kd = 2
      case neg =>
        have hd3 : (kd != 2) = true := by simpa using hk2
        have HBT := Lib.hid (body_stop (t := t) (i := i) HKR.out (fun h => by
          have h1 := HRI.out
          rw [h1, HKD.out]
          exact hk2))
        clear hk2
        go_wp2_with fail
        have HXB := Lib.hid ((HC2.out.block (B + 1) (by have h1 := HX1S.out; have h2 := HXL.out; have h3 := HSW0.out; omega) (by have h1 := HX1S.out; have h2 := HXL.out; omega)).trans HX1W.out)
        have HBZ := Lib.hid (HBB.out.trans (HC2.out.below (B := w.heap.size) (fun j e => by have h1 := HX1S.out; have h2 := HXL.out; have h3 := HB.out; omega) HBB.out.size))
        have HLC := Lib.hid (show ∀ w', Chg (fun j => j = B + 1) W2 w' → w'.cell? ⟨x, 0, none⟩ = some (.int .i64 (q : Int)) ∧ w'.cell? ⟨x, 1, none⟩ = some (.int .i64 (nf : Int)) ∧ w'.cell? ⟨x, 2, none⟩ = some (.slice va i vc) ∧ w'.cell? ⟨x, 3, none⟩ = some (.int .i64 0) from fun w' hw' => by
          have h1 := (hw'.block x (Array.getElem?_eq_some_iff.1 HX2.out).1 (by have h1 := HX1S.out; have h2 := HXL.out; omega)).trans HX2.out
          refine ⟨?_, ?_, ?_, ?_⟩ <;> rw [cell_of_row _ _ _ _ _ _ h1] <;> rfl)
        cases ok
        · skip
          refine wp_region_noPanic ?_
          refine wp_region_H (Chg (fun j => j = B + 1) W2) (by kernel_rfl) ?_
          have hS0 : (Chg (fun j => j = B + 1) W2) W2.drew := Chg.of_below ((Below.refl _ _).drew)
          obtain ⟨wd, hwd⟩ : ∃ wd, W2.drew = wd := ⟨_, rfl⟩
          rw [hwd] at hS0 ⊢
          have hd0 : Below W2.heap.size W2 wd := hwd ▸ (Below.refl _ _).drew
          clear hwd
          refine wpAnyH_takeI (i := 0) (v := ?v28) rfl (by kernel_rfl) (by kernel_rfl) (by kernel_rfl) (fun _ _ _ h => h) (yieldsIf_run rfl (fun w' hw' => ?y28)) hS0 ?_
          case y28 => (obtain ⟨h1, h2, h3, h4⟩ := HLC.out w' hw'; clear hw'; first | (go_simp; rfl) | (go_simp; done))
          simp only [Act.put, List.setIfInBounds_toArray, List.set_cons_zero, List.set_cons_succ]
          refine wpAnyH_takeI (i := 1) (v := ?v29) rfl (by kernel_rfl) (by kernel_rfl) (by kernel_rfl) (fun _ _ _ h => h) (yieldsIf_run rfl (fun w' hw' => ?y29)) hS0 ?_
          case y29 => first | (go_simp; rfl) | (go_simp; done) | rfl
          simp only [Act.put, List.setIfInBounds_toArray, List.set_cons_zero, List.set_cons_succ]
          refine wpAnyH_takeI (i := 2) (v := ?v30) rfl (by kernel_rfl) (by kernel_rfl) (by kernel_rfl) (fun _ _ _ h => h) (yieldsIf_run rfl (fun w' hw' => ?y30)) hS0 ?_
          case y30 => first | (go_simp; rfl) | (go_simp; done) | rfl
          simp only [Act.put, List.setIfInBounds_toArray, List.set_cons_zero, List.set_cons_succ]
          refine wpAnyH_takeI (i := 3) (v := undef) rfl (by kernel_rfl) (by kernel_rfl) (by kernel_rfl) (fun _ _ _ h => h) (yieldsIf_skip rfl) hS0 ?_
          simp only [Act.put, List.setIfInBounds_toArray, List.set_cons_zero, List.set_cons_succ]
          refine wpAnyH_takeI (i := 4) (v := undef) rfl (by kernel_rfl) (by kernel_rfl) (by kernel_rfl) (fun _ _ _ h => h) (yieldsIf_skip rfl) hS0 ?_
          simp only [Act.put, List.setIfInBounds_toArray, List.set_cons_zero, List.set_cons_succ]
          refine wpAnyH_takeI (i := 5) (v := undef) rfl (by kernel_rfl) (by kernel_rfl) (by kernel_rfl) (fun _ _ _ h => h) (yieldsIf_skip rfl) hS0 ?_
          simp only [Act.put, List.setIfInBounds_toArray, List.set_cons_zero, List.set_cons_succ]
          refine wpAnyH_takeI (i := 6) (v := undef) rfl (by kernel_rfl) (by kernel_rfl) (by kernel_rfl) (fun _ _ _ h => h) (yieldsIf_skip rfl) hS0 ?_
          simp only [Act.put, List.setIfInBounds_toArray, List.set_cons_zero, List.set_cons_succ]
          refine wpAnyH_takeI (i := 7) (v := undef) rfl (by kernel_rfl) (by kernel_rfl) (by kernel_rfl) (fun _ _ _ h => h) (yieldsIf_skip rfl) hS0 ?_
          simp only [Act.put, List.setIfInBounds_toArray, List.set_cons_zero, List.set_cons_succ]
          refine wpAnyH_takeI (i := 8) (v := ?v31) rfl (by kernel_rfl) (by kernel_rfl) (by kernel_rfl) (fun _ _ _ h => h) (yieldsIf_run rfl (fun w' hw' => ?y31)) hS0 ?_
          case y31 => first | (go_simp; rfl) | (go_simp; done) | rfl
          simp only [Act.put, List.setIfInBounds_toArray, List.set_cons_zero, List.set_cons_succ]
          refine wpAnyH_do (i := 9) (by kernel_rfl) rfl rfl (fun K hK => ?_)
          refine wp_putV rfl 77 (.tmp 4) (.tmp 101) rfl _ #[.int .i64 (q : Int), .int .i64 (nf : Int), .slice va i vc, .int .i64 0] rfl rfl 77 _ ((hd0.block _ (Array.getElem?_eq_some_iff.1 HXB.out).1).trans HXB.out) (by kernel_rfl) rfl (by kernel_rfl) ?_
          intro V8 x8 c8 s8
          have hS8 : Chg (fun j => j = B + 1) W2 V8 := hS0.trans c8 (fun j e => .inl e)
          refine hK _ _ (hS8) ?_
          clear hK K
          try simp only [Act.put, List.setIfInBounds_toArray, List.set_cons_zero, List.set_cons_succ]
          have hS0 := hS8
          refine wpAnyH_takeI (i := 10) (v := ?v32) rfl (by kernel_rfl) (by kernel_rfl) (by kernel_rfl) (fun _ _ _ h => h) (yieldsIf_run rfl (fun w' hw' => ?y32)) hS0 ?_
          case y32 => first | (go_simp; rfl) | (go_simp; done) | rfl
          simp only [Act.put, List.setIfInBounds_toArray, List.set_cons_zero, List.set_cons_succ]
          refine wpAnyH_takeI (i := 11) (v := ?v33) rfl (by kernel_rfl) (by kernel_rfl) (by kernel_rfl) (fun _ _ _ h => h) (yieldsIf_run rfl (fun w' hw' => ?y33)) hS0 ?_
          case y33 => first | (go_simp; rfl) | (go_simp; done) | rfl
          simp only [Act.put, List.setIfInBounds_toArray, List.set_cons_zero, List.set_cons_succ]
          refine wpAnyH_done (by kernel_rfl) ?_ _
          refine NoPanic.normal ?_
          have k0 : V8.cell? ⟨B + 1, 0, none⟩ = some (.int .i64 (q : Int)) := by rw [cell_of_row _ _ _ _ _ _ x8]; rfl
          have k1 : V8.cell? ⟨B + 1, 1, none⟩ = some (.int .i64 (nf : Int)) := by rw [cell_of_row _ _ _ _ _ _ x8]; rfl
          have k2 : V8.cell? ⟨B + 1, 2, none⟩ = some (.slice va i vc) := by rw [cell_of_row _ _ _ _ _ _ x8]; rfl
          have k3 : V8.cell? ⟨B + 1, 3, none⟩ = some (.int .i64 0) := by rw [cell_of_row _ _ _ _ _ _ x8]; rfl
          have HEZ := Lib.hid (show EntsAt V8 (fun k => w.heap.size ≤ k) (.slice va i vc) (bodyL t) by
            rw [HBT.out]
            exact (HE2.out.chg hS8 (fun j _ h1 e => by have h2 := HBP.out; have h3 := HS12.out; omega)).weak (fun j _ h1 => by have h2 := HBP.out; have h3 := HS12.out; have h4 := HB.out; omega))
          have HLB := Lib.hid (show (bodyL t).length = i by rw [HBT.out, List.length_map, List.length_take]; have h1 := HTK.out; omega)
          have HBV8 := Lib.hid (HBZ.out.trans (hS8.below (B := w.heap.size) (fun j e => by have h3 := HB.out; omega) HBZ.out.size))
          clear x8 c8 s8 hS8 hd0 hS0
          go_wp2_with fail
          exact bodyPost_ret (v := .tuple #[.agg (stC q nf (.slice va i vc) 0), .bool false, .int .i64 0]) (by simp [results, Tryd.results58, go_sem, k0, k1, k2, k3, stC]) rfl (LoadPost.fin (ok := false) (nc := nc) (t := t) HAR.out HEZ.out HBV8.out (by rfl))
        · skip
          refine wp_region_noPanic ?_
          refine wp_region_H (Chg (fun j => j = B + 1) W2) (by kernel_rfl) ?_
          have hS0 : (Chg (fun j => j = B + 1) W2) W2.drew := Chg.of_below ((Below.refl _ _).drew)
          obtain ⟨wd, hwd⟩ : ∃ wd, W2.drew = wd := ⟨_, rfl⟩
          rw [hwd] at hS0 ⊢
          have hd0 : Below W2.heap.size W2 wd := hwd ▸ (Below.refl _ _).drew
          clear hwd
          refine wpAnyH_takeI (i := 0) (v := ?v34) rfl (by kernel_rfl) (by kernel_rfl) (by kernel_rfl) (fun _ _ _ h => h) (yieldsIf_run rfl (fun w' hw' => ?y34)) hS0 ?_
          case y34 => (obtain ⟨h1, h2, h3, h4⟩ := HLC.out w' hw'; clear hw'; first | (go_simp; rfl) | (go_simp; done))
          simp only [Act.put, List.setIfInBounds_toArray, List.set_cons_zero, List.set_cons_succ]
          refine wpAnyH_takeI (i := 1) (v := ?v35) rfl (by kernel_rfl) (by kernel_rfl) (by kernel_rfl) (fun _ _ _ h => h) (yieldsIf_run rfl (fun w' hw' => ?y35)) hS0 ?_
          case y35 => first | (go_simp; rfl) | (go_simp; done) | rfl
          simp only [Act.put, List.setIfInBounds_toArray, List.set_cons_zero, List.set_cons_succ]
          refine wpAnyH_takeI (i := 2) (v := ?v36) rfl (by kernel_rfl) (by kernel_rfl) (by kernel_rfl) (fun _ _ _ h => h) (yieldsIf_run rfl (fun w' hw' => ?y36)) hS0 ?_
          case y36 => first | (go_simp; rfl) | (go_simp; done) | rfl
          simp only [Act.put, List.setIfInBounds_toArray, List.set_cons_zero, List.set_cons_succ]
          refine wpAnyH_takeI (i := 3) (v := ?v37) rfl (by kernel_rfl) (by kernel_rfl) (by kernel_rfl) (fun _ _ _ h => h) (yieldsIf_want rfl (fun w' hw' => ?y37)) hS0 ?_
          case y37 => first | (go_simp; rfl) | (go_simp; done) | rfl
          simp only [Act.put, List.setIfInBounds_toArray, List.set_cons_zero, List.set_cons_succ]
          refine wpAnyH_takeI (i := 4) (v := ?v38) rfl (by kernel_rfl) (by kernel_rfl) (by kernel_rfl) (fun _ _ _ h => h) (yieldsIf_want rfl (fun w' hw' => ?y38)) hS0 ?_
          case y38 => (obtain ⟨h1, h2, h3, h4⟩ := HLC.out w' hw'; clear hw'; first | (go_simp; rfl) | (go_simp; done))
          simp only [Act.put, List.setIfInBounds_toArray, List.set_cons_zero, List.set_cons_succ]
          refine wpAnyH_takeI (i := 5) (v := ?v39) rfl (by kernel_rfl) (by kernel_rfl) (by kernel_rfl) (fun _ _ _ h => h) (yieldsIf_want rfl (fun w' hw' => ?y39)) hS0 ?_
          case y39 => first | (go_simp; rfl) | (go_simp; done) | rfl
          simp only [Act.put, List.setIfInBounds_toArray, List.set_cons_zero, List.set_cons_succ]
          refine wpAnyH_takeI (i := 6) (v := ?v40) rfl (by kernel_rfl) (by kernel_rfl) (by kernel_rfl) (fun _ _ _ h => h) (yieldsIf_want rfl (fun w' hw' => ?y40)) hS0 ?_
          case y40 => first | (go_simp; rfl) | (go_simp; done) | rfl
          simp only [Act.put, List.setIfInBounds_toArray, List.set_cons_zero, List.set_cons_succ]
          refine wpAnyH_takeI (i := 7) (v := ?v41) rfl (by kernel_rfl) (by kernel_rfl) (by kernel_rfl) (fun _ _ _ h => h) (yieldsIf_want rfl (fun w' hw' => ?y41)) hS0 ?_
          case y41 => first | (go_simp; rfl) | (go_simp; done) | rfl
          simp only [Act.put, List.setIfInBounds_toArray, List.set_cons_zero, List.set_cons_succ]
          refine wpAnyH_takeI (i := 8) (v := ?v42) rfl (by kernel_rfl) (by kernel_rfl) (by kernel_rfl) (fun _ _ _ h => h) (yieldsIf_run rfl (fun w' hw' => ?y42)) hS0 ?_
          case y42 => first | (go_simp; rfl) | (go_simp; done) | rfl
          simp only [Act.put, List.setIfInBounds_toArray, List.set_cons_zero, List.set_cons_succ]
          refine wpAnyH_do (i := 9) (by kernel_rfl) rfl rfl (fun K hK => ?_)
          refine wp_putV rfl 77 (.tmp 4) (.tmp 101) rfl _ #[.int .i64 (q : Int), .int .i64 (nf : Int), .slice va i vc, .int .i64 0] rfl rfl 77 _ ((hd0.block _ (Array.getElem?_eq_some_iff.1 HXB.out).1).trans HXB.out) (by kernel_rfl) rfl (by kernel_rfl) ?_
          intro V8 x8 c8 s8
          have hS8 : Chg (fun j => j = B + 1) W2 V8 := hS0.trans c8 (fun j e => .inl e)
          refine hK _ _ (hS8) ?_
          clear hK K
          try simp only [Act.put, List.setIfInBounds_toArray, List.set_cons_zero, List.set_cons_succ]
          have hS0 := hS8
          refine wpAnyH_takeI (i := 10) (v := ?v43) rfl (by kernel_rfl) (by kernel_rfl) (by kernel_rfl) (fun _ _ _ h => h) (yieldsIf_run rfl (fun w' hw' => ?y43)) hS0 ?_
          case y43 => first | (go_simp; rfl) | (go_simp; done) | rfl
          simp only [Act.put, List.setIfInBounds_toArray, List.set_cons_zero, List.set_cons_succ]
          refine wpAnyH_takeI (i := 11) (v := ?v44) rfl (by kernel_rfl) (by kernel_rfl) (by kernel_rfl) (fun _ _ _ h => h) (yieldsIf_run rfl (fun w' hw' => ?y44)) hS0 ?_
          case y44 => first | (go_simp; rfl) | (go_simp; done) | rfl
          simp only [Act.put, List.setIfInBounds_toArray, List.set_cons_zero, List.set_cons_succ]
          refine wpAnyH_done (by kernel_rfl) ?_ _
          refine NoPanic.normal ?_
          have k0 : V8.cell? ⟨B + 1, 0, none⟩ = some (.int .i64 (q : Int)) := by rw [cell_of_row _ _ _ _ _ _ x8]; rfl
          have k1 : V8.cell? ⟨B + 1, 1, none⟩ = some (.int .i64 (nf : Int)) := by rw [cell_of_row _ _ _ _ _ _ x8]; rfl
          have k2 : V8.cell? ⟨B + 1, 2, none⟩ = some (.slice va i vc) := by rw [cell_of_row _ _ _ _ _ _ x8]; rfl
          have k3 : V8.cell? ⟨B + 1, 3, none⟩ = some (.int .i64 0) := by rw [cell_of_row _ _ _ _ _ _ x8]; rfl
          have HEZ := Lib.hid (show EntsAt V8 (fun k => w.heap.size ≤ k) (.slice va i vc) (bodyL t) by
            rw [HBT.out]
            exact (HE2.out.chg hS8 (fun j _ h1 e => by have h2 := HBP.out; have h3 := HS12.out; omega)).weak (fun j _ h1 => by have h2 := HBP.out; have h3 := HS12.out; have h4 := HB.out; omega))
          have HLB := Lib.hid (show (bodyL t).length = i by rw [HBT.out, List.length_map, List.length_take]; have h1 := HTK.out; omega)
          have HBV8 := Lib.hid (HBZ.out.trans (hS8.below (B := w.heap.size) (fun j e => by have h3 := HB.out; omega) HBZ.out.size))
          clear x8 c8 s8 hS8 hd0 hS0
          go_wp2_with fail
          exact bodyPost_ret (v := .tuple #[.agg (stC q nf (.slice va i vc) 0), .bool (decide ((nc : Int) ≤ (i : Int))), .int .i64 0]) (by simp [results, Tryd.results58, go_sem, k0, k1, k2, k3, stC]) rfl (LoadPost.fin (ok := true) (nc := nc) (t := t) HAR.out HEZ.out HBV8.out (by rw [HLB.out]; by_cases h9 : nc ≤ i <;> simp [h9]))
      subst hk2
      have HU9 := Lib.hid (ents_apart HE2.out HHU2.out HLU2.out (fun j _ h1 => ⟨h1.1, by omega⟩))
      obtain ⟨E, hE⟩ : ∃ E, (t.take i).map (·.load) = E := ⟨_, rfl⟩
      have HTS := Lib.hid (show E ++ [R.load] = (t.take (i + 1)).map (·.load) by
        rw [← hE, List.take_add_one, List.getElem?_eq_getElem hit, HRI.out]
        simp)
      have HLN := Lib.hid (show E.length = i by rw [← hE, List.length_map, List.length_take]; omega)
      have HE2 : Hid (EntsAt W2 (fun j => U2.heap.size ≤ j ∧ j ≠ x) (.slice va i vc) E) := Lib.hid (hE ▸ HE2.out)
      obtain ⟨E2, hE2⟩ : ∃ E2, E ++ [R.load] = E2 := ⟨_, rfl⟩
      have HTE := Lib.hid (HTS.out.symm.trans hE2)
      have HE2N := Lib.hid hE2
      clear hE hE2
      go_wp2_with (at_builtin; refine wpList_appEntB rfl (.tmp 94) (.tmp 97) rfl rfl HE2.out HU9.out rfl HLN.out (by omega) ?_; refine Stop.on ?_)
      refine Stop.go ?_
      try simp only [Act.put, List.setIfInBounds_toArray, List.set_cons_zero, List.set_cons_succ]
      intro a5 c5 W3 he3 hc3 ho3
      try simp only [Act.put, List.setIfInBounds_toArray, List.set_cons_zero, List.set_cons_succ]
      have HOB3 := Lib.hid (show ∀ g, (Value.slice a5 (i + 1) c5).ownBlock = some g → x < g from fun g hg => (ho3 g hg).elim (HOB.out g) (fun h1 => by have := HSZ2.out; have := HS2X.out; omega))
      have HC3 := Lib.hid (HC2.out.trans (hc3.mono (G := fun j => x ≤ j) (fun j e => Nat.le_of_lt (HOB.out j e))) (fun j e => .inl e))
      rw [HE2N.out] at he3
      have HE3 := Lib.hid (he3.weak (G := fun j => U2.heap.size ≤ j ∧ j ≠ x) (fun j _ h1 => h1.elim id (fun h2 => by have h3 := HSZ2.out; have h4 := HS2X.out; have h5 := HXL.out; have h6 := HSU.out; exact ⟨by omega, by omega⟩)))
      have HX3 := Lib.hid ((hc3.block x (Array.getElem?_eq_some_iff.1 HX2.out).1 (fun e => by have := HOB.out x e; omega)).trans HX2.out)
      have HKS := Lib.hid (show ∀ j (h : j < t.length), j < i + 1 → t[j].kind = 2 from fun j h h1 => by
        by_cases h2 : j < i
        · exact HKR.out j h h2
        · obtain rfl : j = i := by omega
          rw [HRI.out]; exact HKD.out)
      clear he3 hc3 ho3 z0 z3 zx y0 y1 y2 y3 hW2 HE2 HX2 HC2
      go_wp2_with (refine wpList_putC rfl rfl 56 (.tmp 99) (.tmp 98) rfl x 2 (.slice a5 (i + 1) c5) rfl rfl HX3.out (by show 2 < 4; decide) rfl (by kernel_rfl) ?_; refine Stop.on ?_)
      refine Stop.go ?_
      try simp only [Act.put, List.setIfInBounds_toArray, List.set_cons_zero, List.set_cons_succ]
      intro W4 x4 c4 s4
      try simp only [Act.put, List.setIfInBounds_toArray, List.set_cons_zero, List.set_cons_succ]
      have HX4 := Lib.hid (show W4.heap[x]? = some (.cells #[.int .i64 (q : Int), .int .i64 (nf : Int), .slice a5 (i + 1) c5, .int .i64 0] 77 (0, 0)) from x4)
      have HE4 := Lib.hid (show EntsAt W4 (fun j => U2.heap.size ≤ j ∧ j ≠ x) (.slice a5 (i + 1) c5) ((t.take (i + 1)).map (·.load)) by rw [HTE.out]; exact HE3.out.chg c4 (fun j _ h1 e => h1.2 e))
      have HC4 := Lib.hid (HC3.out.trans (c4.mono (G := fun j => x ≤ j) (fun j e => Nat.le_of_eq e.symm)) (fun j e => .inl e))
      clear x4 c4 s4
      go_wp2_with fail
      go_roundw
      case rel => exact ⟨i + 1, a5, c5, by omega, by go_num, HX4, HE4, HOB3, HKS, HC4⟩
      case measure => simp [intOf] <;> omega
end Go.Proofs.YtplclpileejemaaDoor

namespace Go.Proofs.YtplclpileejemaaDoor
open Go.RowKit
set_option linter.unusedVariables false
set_option linter.unusedSimpArgs false

/-- A state's parts, and what they say of an area. -/
structure StD where
  g : Int
  f : Int
  v : Value
  L : List (List UInt8)
def StD.zero : StD := ⟨0, 0, .slice none 0 0, []⟩
def StD.cells (s : StD) : Array Value := stC s.g s.f s.v 0
def StD.is (s : StD) (x : ArD) : Prop := s.g = (x.gen : Int) ∧ s.f = (x.first : Int) ∧ s.L = x.ents
/-- Which of the areas seen so far is the best. -/
def selI (A0 A1 : Option ArD) : Nat → Option Nat
  | 0 => none
  | 1 => A0.map fun _ => 0
  | _ + 2 => match A0, A1 with
    | none, none => none
    | some _, none => some 0
    | none, some _ => some 1
    | some x, some y => if x.gen < y.gen then some 1 else some 0
theorem curr_sel (A0 A1 : Option ArD) : (match A0, A1 with | none, none => none | some x, none => some x | none, some y => some y | some x, some y => if x.gen < y.gen then some y else some x) = (match selI A0 A1 2 with | none => none | some 0 => A0 | some _ => A1) := by
  cases A0 <;> cases A1 <;> simp only [selI]
  split <;> rfl
theorem areaL_parity {l : List (List UInt8)} {k : Nat} {x : ArD} (h : areaL l k = some x) : x.gen % 2 = k := by
  unfold areaL at h
  by_cases h1 : decE (l.headD []) ≠ 0 ∨ (decP (l.headD [])).gen.toNat % 2 ≠ k
  · rw [if_pos h1] at h; cases h
  · rw [if_neg h1] at h
    have h2 : (decP (l.headD [])).gen.toNat % 2 = k := Decidable.not_not.1 (fun h3 => h1 (.inr h3))
    generalize (decP (l.headD [])).gen.toNat = g at h h2
    cases hs : (scanL (decP (l.headD [])).gen 0 l).1 with
    | nil => rw [hs] at h; cases h
    | cons r t =>
      rw [hs, areaM] at h
      by_cases h3 : r.kind ≠ 1
      · rw [if_pos h3] at h; cases h
      · rw [if_neg h3] at h
        cases hn : numL r.load with
        | none => rw [hn] at h; cases h
        | some p =>
          obtain ⟨a, b⟩ := p
          rw [hn] at h
          simp only at h
          by_cases h4 : b ≤ (bodyL t).length
          · rw [if_pos h4] at h
            cases h
            exact h2
          · rw [if_neg h4] at h; cases h
/-- Some cells of a block are written anew. -/
def setA (cs : Array Value) : Nat → List Value → Array Value
  | _, [] => cs
  | o, y :: ys => setA (cs.setIfInBounds o y) (o + 1) ys
theorem setCells_blk (g : Nat) (T : TypeId) : ∀ (ys : List Value) (o : Nat) (cs : Array Value) (w : World), w.heap[g]? = some (.cells cs T (0, 0)) →
    (w.setCells g o ys).heap[g]? = some (.cells (setA cs o ys) T (0, 0)) ∧ Chg (fun k => k = g) w (w.setCells g o ys) ∧ (w.setCells g o ys).heap.size = w.heap.size
  | [], _, _, w, h => ⟨h, Chg.refl _ _, rfl⟩
  | y :: ys, o, cs, w, h => by
    obtain ⟨h1, h2, h3⟩ := setCells_blk g T ys (o + 1) (cs.setIfInBounds o y) (w.setCell ⟨g, o, none⟩ y) (heap_setCell_same _ _ _ _ _ _ h)
    exact ⟨h1, (Chg.setCell (F := fun k => k = g) w y rfl).trans h2 (fun j e => .inl e), h3.trans (by simp [World.setCell])⟩
theorem wpList_putM {P : Program} {ops : Array Oper} {rest : List Oper} {o : Oper} {a : Act} {w : World} {Q : Exit → Act → World → Prop} (hgd : o.guard = none) (hdst : o.dst = none) (ty : TypeId) (x y : Operand) (ho : o.op = .store ty x y)
    (g i : Nat) (cells : Array Value) (hx : a.eval x = .pointer (some ⟨g, i, none⟩)) (hy : a.eval y = .agg cells) {T : TypeId} {cs : Array Value} (hg : w.heap[g]? = some (.cells cs T (0, 0))) (hn : i + cells.size ≤ cs.size)
    (hi : (P.info? ty).map (·.size) = some cells.size) (h1 : cells.all (·.oneCell') = true)
    (h : ∀ w', w'.heap[g]? = some (.cells (setA cs i cells.toList) T (0, 0)) → Chg (fun k => k = g) w w' → w'.heap.size = w.heap.size → wpList P ops Q rest a w') : wpList P ops Q (o :: rest) a w := by
  refine wpList_store_mid hgd ty x y ho g i cells hx hy (fun j hj => ⟨?_, frozen_of_row _ _ _ _ _ hg⟩) hi h1 ?_
  · rw [cell_of_row _ _ _ _ _ _ hg, Array.getElem?_eq_getElem (by omega)]
    rfl
  rw [hdst]
  obtain ⟨k1, k2, k3⟩ := setCells_blk g T cells.toList i cs w hg
  exact h _ k1 k2 k3
end Go.Proofs.YtplclpileejemaaDoor
