/- The stable sort, plainly: the insertion sort of tagged entries; what is sorted by arrival and tag is the stable order; The stable sort: up to forty entries. -/
import Derived.Test.YtnmdgjodbikndaaSt6
namespace Go.Proofs.Ytnmdgjodbikndaa
open Go.RowKit Go.Sort
set_option linter.unusedVariables false
set_option linter.unusedSimpArgs false

theorem swoT : SWO (ltOf cfT) where
  irrefl x := by
    rw [Bool.eq_false_iff]; intro h
    have := (cfT_neg x x).1 (of_decide_eq_true h)
    omega
  trans x y z h1 h2 := by
    have a := (cfT_neg x y).1 (of_decide_eq_true h1)
    have b := (cfT_neg y z).1 (of_decide_eq_true h2)
    exact decide_eq_true ((cfT_neg x z).2 (by omega))
  ntrans x y z h1 h2 := by
    have a : ¬ x.1.arr < y.1.arr := fun h => (Bool.eq_false_iff.1 h1) (decide_eq_true ((cfT_neg x y).2 h))
    have b : ¬ y.1.arr < z.1.arr := fun h => (Bool.eq_false_iff.1 h2) (decide_eq_true ((cfT_neg y z).2 h))
    rw [Bool.eq_false_iff]; intro h
    have := (cfT_neg x z).1 (of_decide_eq_true h)
    omega
theorem lt_iff (x y : TA) : ltOf cfT x y = true ↔ x.1.arr < y.1.arr := by
  unfold ltOf
  rw [decide_eq_true_eq]
  exact cfT_neg x y
theorem insSrt_in (a i : Nat) : ∀ (j : Nat) (d : Array TA), a ≤ j → j ≤ i → i + 1 ≤ d.size → (∀ p q, a ≤ p → p < q → q ≤ i → p ≠ j → q ≠ j → TT d[p]! d[q]!) → (∀ q, j < q → q ≤ i → TT d[j]! d[q]!) → (∀ p, a ≤ p → p < j → d[p]!.2 < d[j]!.2) →
    PermIn a (i + 1) d (insInner (ltOf cfT) a j d) ∧ Srt (insInner (ltOf cfT) a j d) a (i + 1)
  | 0, d, haj, hji, hb, A, R, T => by
    unfold insInner
    refine ⟨permIn_refl _ _ _, fun p q h1 h2 h3 => ?_⟩
    by_cases hp : p = 0
    · subst hp; exact R q h2 (by omega)
    · exact A p q h1 h2 (by omega) hp (by omega)
  | j + 1, d, haj, hji, hb, A, R, T => by
    unfold insInner
    split
    · rename_i hc
      simp only [Bool.and_eq_true, decide_eq_true_eq] at hc
      have hl := (lt_iff _ _).1 hc.2
      have g := swp_get d (show j + 1 < d.size by omega) (show j < d.size by omega)
      have ih := insSrt_in a i j (swp d (j + 1) j) (by omega) (by omega) (by rw [swp_size]; exact hb) (fun p q h1 h2 h3 h4 h5 => by
          rw [g, g, if_neg h5, if_neg h4]
          by_cases e1 : q = j + 1
          · rw [if_pos e1, if_neg (by omega)]
            exact A p j h1 (by omega) (by omega) (by omega) (by omega)
          · rw [if_neg e1]
            by_cases e2 : p = j + 1
            · rw [if_pos e2]
              exact A j q (by omega) (by omega) h3 (by omega) e1
            · rw [if_neg e2]
              exact A p q h1 h2 h3 e2 e1) (fun q h1 h2 => by
          rw [g, g, if_pos rfl]
          by_cases e1 : q = j + 1
          · subst e1
            rw [if_neg (by omega), if_pos rfl]
            exact .inl hl
          · rw [if_neg (by omega), if_neg e1]
            exact R q (by omega) h2) (fun p h1 h2 => by
          rw [g, g, if_pos rfl, if_neg (by omega), if_neg (by omega)]
          exact T p h1 (by omega))
      exact ⟨permIn_trans _ _ _ a (i + 1) (swp_permIn d a (i + 1) (j + 1) j haj (by omega) (by omega) (by omega) hb) ih.1, ih.2⟩
    · rename_i hc
      simp only [Bool.and_eq_true, decide_eq_true_eq, not_and] at hc
      refine ⟨permIn_refl _ _ _, ?_⟩
      have hs : ∀ p, a ≤ p → p < j + 1 → TT d[p]! d[j + 1]! := by
        intro p h1 h2
        have h3 : ¬ d[j + 1]!.1.arr < d[j]!.1.arr := fun h => hc (by omega) ((lt_iff _ _).2 h)
        by_cases e : p = j
        · subst e; exact TT.of_le (by omega) (T p h1 h2)
        · have := (A p j h1 (by omega) (by omega) (by omega) (by omega)).le
          exact TT.of_le (by omega) (T p h1 h2)
      intro p q h1 h2 h3
      by_cases e1 : q = j + 1
      · subst e1; exact hs p h1 h2
      · by_cases e2 : p = j + 1
        · subst e2; exact R q h2 (by omega)
        · exact A p q h1 h2 (by omega) e2 e1
theorem insSrt_out (a b : Nat) : ∀ (n i : Nat) (d : Array TA), b - i = n → a < i → i ≤ b → b ≤ d.size → Srt d a i → (∀ p q, a ≤ p → p < q → i ≤ q → q < b → d[p]!.2 < d[q]!.2) → Srt (insOuter (ltOf cfT) a b i d) a b
  | 0, i, d, hn, _, hib, _, hs, _ => by
    obtain rfl : i = b := by omega
    rw [insOuter, if_neg (by omega)]
    exact hs
  | n + 1, i, d, hn, hai, hib, hb, hs, ht => by
    have hlt : i < b := by omega
    rw [insOuter, if_pos hlt]
    have h1 := insSrt_in a i i d (by omega) (Nat.le_refl _) (by omega) (fun p q hap hpq hqi _ hq => hs p q hap hpq (by omega)) (fun q h1 h2 => by omega) (fun p h1 h2 => ht p i h1 h2 (Nat.le_refl _) hlt)
    have hz := h1.1.1
    refine insSrt_out a b n (i + 1) _ (by omega) (by omega) (by omega) (by omega) h1.2 (fun p q h2 h3 h4 h5 => ?_)
    rw [h1.1.2.1 q (.inr h4)]
    by_cases e : i + 1 ≤ p
    · rw [h1.1.2.1 p (.inr e)]
      exact ht p q h2 h3 (by omega) h5
    · exact permIn_all d _ a (i + 1) (fun x => x.2 < d[q]!.2) (by omega) h1.1 (fun k h6 h7 => ht k q h6 (by omega) (by omega) h5) p h2 (by omega)
theorem insSrt (d : Array TA) (a b : Nat) (hab : a ≤ b) (hb : b ≤ d.size) (ht : ∀ p q, a ≤ p → p < q → q < b → d[p]!.2 < d[q]!.2) : Srt (insertionSort (ltOf cfT) d a b) a b := by
  unfold insertionSort
  by_cases h : a = b
  · subst h
    rw [insOuter, if_neg (by omega)]
    exact srt_empty (Nat.le_refl _)
  · exact insSrt_out a b (b - (a + 1)) (a + 1) d rfl (by omega) (by omega) hb (fun i j h1 h2 h3 => by omega) (fun p q h1 h2 _ h3 => ht p q h1 h2 h3)
/-- d holds the entries of M with their places as tags, sorted. -/
theorem stab_of_srt (M : List ArtD) (d0 d : Array TA) (h0 : d0.toList = M.zipIdx) (hp : PermIn 0 d.size d0 d) (hs : Srt d 0 d.size) : d.toList.map (·.1) = stab M := by
  have hz := hp.1
  have hpm : d.toList.Perm M.zipIdx := by
    have h := hp.2.2
    have e1 : d.extract 0 d.size = d := Array.extract_size
    have e2 : d0.extract 0 d.size = d0 := by rw [hz]; exact Array.extract_size
    rw [e1, e2] at h
    rw [← h0]
    exact h
  have hpw : d.toList.Pairwise TT := by
    rw [List.pairwise_iff_getElem]
    intro i j hi hj hij
    have := hs i j (Nat.zero_le _) hij (by simpa using hj)
    simpa [getElem!_pos d i (by simpa using hi), getElem!_pos d j (by simpa using hj)] using this
  unfold stab
  rw [← List.mergeSort_zipIdx]
  congr 1
  have hq : (M.zipIdx.mergeSort (List.zipIdxLE fun a b => decide (a.arr ≤ b.arr))).Pairwise (fun a b => List.zipIdxLE (fun a b => decide (a.arr ≤ b.arr)) a b = true) := List.pairwise_mergeSort (fun a b c => by
    unfold List.zipIdxLE
    simp only [decide_eq_true_eq]
    repeat' split
    all_goals simp_all
    all_goals omega) (fun a b => by
    unfold List.zipIdxLE
    simp only [decide_eq_true_eq, Bool.or_eq_true]
    repeat' split
    all_goals simp_all
    all_goals omega) _
  refine List.Perm.eq_of_pairwise (le := fun a b => List.zipIdxLE (fun a b => decide (a.arr ≤ b.arr)) a b = true) ?_ (hpw.imp fun {a b} h => ?_) hq (hpm.trans (List.mergeSort_perm _ _).symm)
  · intro a b ha hb h1 h2
    have ha' := hpm.mem_iff.1 ha
    have hb' := (List.mergeSort_perm _ _).mem_iff.1 hb
    have e : a.2 = b.2 := by
      unfold List.zipIdxLE at h1 h2
      simp only [decide_eq_true_eq] at h1 h2
      split at h1 <;> split at h2 <;> simp_all <;> omega
    rw [List.mem_zipIdx_iff_getElem?] at ha' hb'
    rw [e, hb'] at ha'
    exact Prod.ext (Option.some.inj ha').symm e
  · unfold TT at h
    unfold List.zipIdxLE
    simp only [decide_eq_true_eq]
    repeat' split
    all_goals simp_all
    all_goals omega
end Go.Proofs.Ytnmdgjodbikndaa

namespace Go.Proofs.Ytnmdgjodbikndaa
open Go.RowKit Go.Sort Go.Shelf
set_option linter.unusedVariables false
set_option linter.unusedSimpArgs false

def Inc (d : Array TA) (a b : Nat) : Prop := ∀ p q, a ≤ p → p < q → q < b → d[p]!.2 < d[q]!.2
theorem insT {w0 w : World} {blk off cap : Nat} {d0 d : Array TA} (R : RowK encT 34 w0 blk off d0) (hs : d0.size = d.size) (S : SWK encT 34 w0 blk off d w) (a b : Nat) (x y : Int) (hx : (a : Int) = x) (hy : (b : Int) = y) (hab : a ≤ b) (hb : b ≤ d.size) (hsz : d.size < 1000000000) (N : Nat) (hN : d.size = N) (ht : Inc d a b) :
    Calls Try.prog 66 #[.slice (some ⟨blk, off, none⟩) N cap, .int .i64 x, .int .i64 y, (.func (.func 40) #[] #[])] w fun e w' => e = .returned (.tuple #[]) ∧ ∃ d', SWK encT 34 w0 blk off d' w' ∧ Srt d' a b ∧ PermIn a b d d' := by
  subst hx hy hN
  have eg : ∀ args w, (callFunc 40 args).run Try.prog w = .ok (.enter 40 args) w := enters_of Try.func40 (by kernel_rfl) rfl
  have hcmp : CmpLays Try.prog 40 #[] encT 34 cfT blk off d0.size w0 := fun n os dk _ x y => oldCmp x.1 y.1 _
  refine (AnyQ.insertionSortCmpFunc_w (P := Try.prog) { Try.sortEnt with } 34 isAggEnt sizeOfEnt encT cfT 40 #[] blk off cap a b d0 d w0 w eg hcmp R hs S swoT hab hb (by omega)).mono ?_
  rintro e w' ⟨rfl, hS⟩
  exact ⟨rfl, _, hS, insSrt d a b hab hb ht, (insertionSort_holds swoT d a b hab hb).1⟩
theorem symT {w0 w : World} {blk off cap : Nat} {d0 d : Array TA} (R : RowK encT 34 w0 blk off d0) (hs : d0.size = d.size) (S : SWK encT 34 w0 blk off d w) (a m b : Nat) (x y z : Int) (hx : (a : Int) = x) (hy : (m : Int) = y) (hz : (b : Int) = z) (ham : a < m) (hmb : m < b) (hb : b ≤ d.size) (hsz : d.size < 1000000000) (hp : Pre d a m b) (N : Nat) (hN : d.size = N) :
    Calls Try.prog 67 #[.slice (some ⟨blk, off, none⟩) N cap, .int .i64 x, .int .i64 y, .int .i64 z, (.func (.func 40) #[] #[])] w fun e w' => e = .returned (.tuple #[]) ∧ ∃ d', SWK encT 34 w0 blk off d' w' ∧ Srt d' a b ∧ PermIn a b d d' := by
  subst hx hy hz hN
  exact (symOk (b - a)).ok R hs S a m b ham hmb hb hsz hp (Nat.le_refl _)
theorem Inc.keep {d d' : Array TA} {a m b : Nat} (h : Inc d a b) (p : PermIn a m d d') (ham : a ≤ m) : Inc d' m b := fun i j h1 h2 h3 => by
  rw [p.2.1 i (.inr h1), p.2.1 j (.inr (by omega))]
  exact h i j (by omega) h2 h3
theorem Inc.pre {d d1 d2 : Array TA} {a m b : Nat} (h : Inc d a b) (p1 : PermIn a m d d1) (p2 : PermIn m b d1 d2) (s1 : Srt d1 a m) (s2 : Srt d2 m b) (hm : m ≤ b) (hb : b ≤ d.size) : Pre d2 a m b := by
  have hz := p1.1
  refine ⟨fun i j h1 h2 h3 => ?_, s2, fun i j h1 h2 h3 h4 => ?_⟩
  · rw [p2.2.1 i (.inl (by omega)), p2.2.1 j (.inl (by omega))]
    exact s1 i j h1 h2 h3
  · rw [p2.2.1 i (.inl (by omega))]
    refine permIn_all d1 d2 m b (fun x => d1[i]!.2 < x.2) (by omega) p2 (fun k h5 h6 => ?_) j h3 h4
    rw [p1.2.1 k (.inr h5)]
    exact permIn_all d d1 a m (fun x => x.2 < d[k]!.2) (by omega) p1 (fun l h7 h8 => h l k h7 (by omega) h6) i h1 h2
theorem Pre.same {d d' : Array TA} {a m b : Nat} (h : Pre d a m b) (e : ∀ k : Nat, d'[k]! = d[k]!) : Pre d' a m b := by
  obtain ⟨h1, h2, h3⟩ := h
  exact ⟨fun i j a1 a2 a3 => by rw [e, e]; exact h1 i j a1 a2 a3, fun i j a1 a2 a3 => by rw [e, e]; exact h2 i j a1 a2 a3, fun i j a1 a2 a3 a4 => by rw [e, e]; exact h3 i j a1 a2 a3 a4⟩
set_option maxRecDepth 1000000 in
set_option maxHeartbeats 2000000 in
theorem stable_any {w0 w : World} {blk off cap : Nat} {d0 d : Array TA} (R : RowK encT 34 w0 blk off d0) (hs : d0.size = d.size) (S : SWK encT 34 w0 blk off d w) (hsz : d.size ≤ 40) (ht : Inc d 0 d.size) :
    Calls Try.prog 61 #[.slice (some ⟨blk, off, none⟩) d.size cap, .int .i64 (d.size : Int), (.func (.func 40) #[] #[])] w fun e w' => e = .returned (.tuple #[]) ∧ ∃ d', SWK encT 34 w0 blk off d' w' ∧ Srt d' 0 d.size ∧ PermIn 0 d.size d d' := by
  obtain ⟨N, hN⟩ : ∃ N, d.size = N := ⟨_, rfl⟩
  have dz : d.size = N := hN
  rw [hN] at hs hsz ht ⊢
  have S0 := Lib.hid S
  have HT := Lib.hid ht
  clear S ht hN
  go_enter Try.func61, Try.ntmps61
  have h60 : ¬ (60 : Int) ≤ (N : Int) := by omega
  have h80 : ¬ (80 : Int) ≤ (N : Int) := by omega
  have h61 : ¬ (60 : Int) < (N : Int) := by omega
  have h41 : ¬ (40 : Int) < (N : Int) := by omega
  rcases Nat.lt_or_ge N 20 with hc | hc
  · have h20 : ¬ (20 : Int) ≤ (N : Int) := by omega
    have h21 : ¬ (20 : Int) < (N : Int) := by omega
    go_wp2_with fail
    refine wp_loop_rounds 1 ?_
    rw [rounds_succ]
    go_wp2_with fail
    refine (insT R (by have := dz; omega) S0.out 0 N 0 (N : Int) (by omega) (by omega) (by omega) (by have := dz; omega) (by omega) N (by have := dz; omega) HT.out).mono ?_
    rintro e1 w1 ⟨rfl, d1, s1, r1, p1⟩
    have S1 := Lib.hid s1
    have d1z : d1.size = N := by have := p1.1; have := dz; omega
    have R1 := Lib.hid r1
    have P1 := Lib.hid p1
    clear s1 r1 p1
    go_wp2_with fail
    refine wp_loop_rounds 1 ?_
    rw [rounds_succ]
    go_wp2_with fail
    go_end0
    exact ⟨rfl, d1, S1.out, R1.out, P1.out⟩
  rcases Nat.eq_or_lt_of_le hc with hc2 | hc2
  · have h20 : (20 : Int) ≤ (N : Int) := by omega
    have h21 : ¬ (20 : Int) < (N : Int) := by omega
    have h40 : ¬ (40 : Int) ≤ (N : Int) := by omega
    have HC2 := Lib.hid hc2
    clear hc2
    go_wp2_with fail
    refine wp_loop_rounds 2 ?_
    rw [rounds_succ]
    go_wp2_with fail
    refine (insT R (by have := dz; omega) S0.out 0 20 0 20 (by omega) (by omega) (by omega) (by have := dz; omega) (by omega) N (by have := dz; omega) (fun p q a1 a2 a3 => HT.out p q a1 a2 (by omega))).mono ?_
    rintro e1 w1 ⟨rfl, d1, s1, r1, p1⟩
    have S1 := Lib.hid s1
    have d1z : d1.size = N := by have := p1.1; have := dz; omega
    have R1 := Lib.hid r1
    have P1 := Lib.hid p1
    clear s1 r1 p1
    go_wp2_with fail
    rw [rounds_succ]
    go_wp2_with fail
    refine (insT R (by have := d1z; omega) S1.out 20 N 20 (N : Int) (by omega) (by omega) (by omega) (by have := d1z; omega) (by omega) N (by have := d1z; omega) (fun p q a1 a2 a3 => by omega)).mono ?_
    rintro e2 w2 ⟨rfl, d2, s2, r2, p2⟩
    have S2 := Lib.hid s2
    have d2z : d2.size = N := by have := p2.1; have := d1z; omega
    have R2 := Lib.hid r2
    have P2 := Lib.hid p2
    clear s2 r2 p2
    go_wp2_with fail
    refine wp_loop_rounds 1 ?_
    rw [rounds_succ]
    go_wp2_with fail
    go_end0
    refine ⟨rfl, d2, S2.out, ?_, ?_⟩
    · rw [← HC2.out]
      exact fun i j a1 a2 a3 => by rw [P2.out.2.1 i (.inl (by omega)), P2.out.2.1 j (.inl (by omega))]; exact R1.out i j a1 a2 a3
    · exact permIn_trans _ _ _ _ _ (permIn_mono _ _ _ _ 0 N (Nat.le_refl _) (by omega) (by omega) P1.out) (permIn_mono _ _ _ _ 0 N (by omega) (Nat.le_refl _) (by omega) P2.out)
  rcases Nat.lt_or_ge N 40 with hc3 | hc3
  · have h20 : (20 : Int) ≤ (N : Int) := by omega
    have h21 : (20 : Int) < (N : Int) := by omega
    have h40 : ¬ (40 : Int) ≤ (N : Int) := by omega
    go_wp2_with fail
    refine wp_loop_rounds 2 ?_
    rw [rounds_succ]
    go_wp2_with fail
    refine (insT R (by have := dz; omega) S0.out 0 20 0 20 (by omega) (by omega) (by omega) (by have := dz; omega) (by omega) N (by have := dz; omega) (fun p q a1 a2 a3 => HT.out p q a1 a2 (by omega))).mono ?_
    rintro e1 w1 ⟨rfl, d1, s1, r1, p1⟩
    have S1 := Lib.hid s1
    have d1z : d1.size = N := by have := p1.1; have := dz; omega
    have R1 := Lib.hid r1
    have P1 := Lib.hid p1
    clear s1 r1 p1
    go_wp2_with fail
    rw [rounds_succ]
    go_wp2_with fail
    refine (insT R (by have := d1z; omega) S1.out 20 N 20 (N : Int) (by omega) (by omega) (by omega) (by have := d1z; omega) (by omega) N (by have := d1z; omega) (Inc.keep HT.out P1.out (by omega))).mono ?_
    rintro e2 w2 ⟨rfl, d2, s2, r2, p2⟩
    have S2 := Lib.hid s2
    have d2z : d2.size = N := by have := p2.1; have := d1z; omega
    have R2 := Lib.hid r2
    have P2 := Lib.hid p2
    clear s2 r2 p2
    go_wp2_with fail
    refine wp_loop_rounds 2 ?_
    rw [rounds_succ]
    go_wp2_with fail
    refine wp_loop_rounds 1 ?_
    rw [rounds_succ]
    go_wp2_with fail
    refine (symT R (by omega) S2.out 0 20 N 0 20 (N : Int) rfl rfl rfl (by omega) (by omega) (by omega) (by omega) (Inc.pre HT.out P1.out P2.out R1.out R2.out (by omega) (by omega)) N d2z).mono ?_
    rintro e3 w3 ⟨rfl, d3, s3, r3, p3⟩
    have S3 := Lib.hid s3
    have R3 := Lib.hid r3
    have P3 := Lib.hid p3
    clear s3 r3 p3
    go_wp2_with fail
    rw [rounds_succ]
    go_wp2_with fail
    go_end0
    exact ⟨rfl, d3, S3.out, R3.out, permIn_trans _ _ _ _ _ (permIn_trans _ _ _ _ _ (permIn_mono _ _ _ _ 0 N (Nat.le_refl _) (by omega) (by omega) P1.out) (permIn_mono _ _ _ _ 0 N (by omega) (Nat.le_refl _) (by omega) P2.out)) P3.out⟩
  · have h20 : (20 : Int) ≤ (N : Int) := by omega
    have h21 : (20 : Int) < (N : Int) := by omega
    have h40 : (40 : Int) ≤ (N : Int) := by omega
    have HN4 := Lib.hid (show N = 40 by omega)
    go_wp2_with fail
    refine wp_loop_rounds 3 ?_
    rw [rounds_succ]
    go_wp2_with fail
    refine (insT R (by have := dz; omega) S0.out 0 20 0 20 (by omega) (by omega) (by omega) (by have := dz; omega) (by omega) N (by have := dz; omega) (fun p q a1 a2 a3 => HT.out p q a1 a2 (by omega))).mono ?_
    rintro e1 w1 ⟨rfl, d1, s1, r1, p1⟩
    have S1 := Lib.hid s1
    have d1z : d1.size = N := by have := p1.1; have := dz; omega
    have R1 := Lib.hid r1
    have P1 := Lib.hid p1
    clear s1 r1 p1
    go_wp2_with fail
    rw [rounds_succ]
    go_wp2_with fail
    refine (insT R (by have := d1z; omega) S1.out 20 40 20 40 (by omega) (by omega) (by omega) (by have := d1z; omega) (by omega) N (by have := d1z; omega) (fun p q a1 a2 a3 => Inc.keep HT.out P1.out (by omega) p q a1 a2 (by omega))).mono ?_
    rintro e2 w2 ⟨rfl, d2, s2, r2, p2⟩
    have S2 := Lib.hid s2
    have d2z : d2.size = N := by have := p2.1; have := d1z; omega
    have R2 := Lib.hid r2
    have P2 := Lib.hid p2
    clear s2 r2 p2
    go_wp2_with fail
    rw [rounds_succ]
    go_wp2_with fail
    refine (insT R (by have := d2z; omega) S2.out 40 N 40 (N : Int) (by omega) (by omega) (by omega) (by have := d2z; omega) (by omega) N (by have := d2z; omega) (fun p q a1 a2 a3 => by omega)).mono ?_
    rintro e3 w3 ⟨rfl, d3, s3, r3, p3⟩
    have S3 := Lib.hid s3
    have d3z : d3.size = N := by have := p3.1; have := d2z; omega
    have R3 := Lib.hid r3
    have P3 := Lib.hid p3
    clear s3 r3 p3
    go_wp2_with fail
    refine wp_loop_rounds 2 ?_
    rw [rounds_succ]
    go_wp2_with fail
    refine wp_loop_rounds 2 ?_
    rw [rounds_succ]
    go_wp2_with fail
    refine (symT R (by omega) S3.out 0 20 40 0 20 40 rfl rfl rfl (by omega) (by omega) (by omega) (by omega) ((Inc.pre (fun p q a1 a2 a3 => HT.out p q a1 a2 (by omega)) P1.out P2.out R1.out R2.out (by omega) (by omega)).same (fun k => P3.out.2.1 k (by omega))) N d3z).mono ?_
    rintro e4 w4 ⟨rfl, d4, s4, r4, p4⟩
    have S4 := Lib.hid s4
    have R4 := Lib.hid r4
    have P4 := Lib.hid p4
    clear s4 r4 p4
    go_wp2_with fail
    rw [rounds_succ]
    go_wp2_with fail
    rw [rounds_succ]
    go_wp2_with fail
    go_end0
    refine ⟨rfl, d4, S4.out, by rw [HN4.out]; exact R4.out, ?_⟩
    refine permIn_trans _ _ _ _ _ (permIn_trans _ _ _ _ _ (permIn_trans _ _ _ _ _ (permIn_mono _ _ _ _ 0 N (Nat.le_refl _) (by omega) (by omega) P1.out) (permIn_mono _ _ _ _ 0 N (by omega) (by omega) (by omega) P2.out)) (permIn_mono _ _ _ _ 0 N (by omega) (by omega) (by omega) P3.out)) (permIn_mono _ _ _ _ 0 N (by omega) (by omega) (by omega) P4.out)
/-- Tagged entries as elements of slices. -/
def entT : ElemTy Try.prog 82 44 TA where
  enc := encT
  k := 34
  hu := Try.underlying82
  hi := ⟨.agg (entC zA).toArray, 48, by kernel_rfl, by kernel_rfl, by decide⟩
  hk := by decide
  len := encT_len
  one := fun x => entC_one x.1
theorem flat_tags (M : List TA) : M.flatMap encT = (M.map (·.1)).flatMap entC := by
  rw [List.flatMap_map]
  rfl
set_option maxRecDepth 1000000 in
set_option maxHeartbeats 2000000 in
theorem stableOk_forty : StableOk 40 := by
  intro w B v M h hB hl
  match M, hl with
  | [], hl => exact stableOk_one w B v [] h hB (by simp)
  | x :: M', hl =>
    obtain ⟨M, hM⟩ : ∃ M, x :: M' = M := ⟨_, rfl⟩
    rw [hM] at h hl ⊢
    have hne : M ≠ [] := by rw [← hM]; exact List.cons_ne_nil _ _
    clear hM
    have hh : w.ownsRow B 44 34 v M.length (M.flatMap entE.enc) := h
    rcases hh.2 with ⟨_, h0⟩ | ⟨g, cap, cur, rfl, hgB, hg, hc, hm, hsz, ht⟩
    · exact absurd (List.eq_nil_of_length_eq_zero h0) hne
    obtain ⟨Z, hZ⟩ : ∃ Z, M.zipIdx = Z := ⟨_, rfl⟩
    have hZl : Z.length = M.length := by rw [← hZ]; simp
    have hZm : Z.map (·.1) = M := by rw [← hZ]; simp
    have htZ : cur.toList.take (Z.length * entT.k) = Z.flatMap entT.enc := by
      rw [hZl]
      exact ht.trans (by show _ = Z.flatMap encT; rw [flat_tags, hZm]; rfl)
    have hH := holdsK_of entT Z hg htZ
    have R : RowK encT 34 w g 0 Z.toArray := ⟨encT_len, fun x => entC_one x.1, hH, (Array.getElem?_eq_some_iff.1 hg).1⟩
    have hinc : Inc Z.toArray 0 Z.toArray.size := by
      intro p q _ h2 h3
      have h3' : q < Z.length := by simpa using h3
      rw [getElem!_pos Z.toArray p (by simp; omega), getElem!_pos Z.toArray q h3]
      simp only [List.getElem_toArray]
      subst hZ
      simp only [List.getElem_zipIdx]
      omega
    have hcon := stable_any (cap := cap) R rfl (SWK.start hH) (by rw [List.size_toArray]; omega) hinc
    rw [show Z.toArray.size = M.length by rw [List.size_toArray]; exact hZl] at hcon
    have HC := Lib.hid hcon
    clear hcon
    obtain ⟨n, hn⟩ : ∃ n, M.length = n := ⟨_, rfl⟩
    have HP := Lib.hid (show ∀ (w' : World) (d' : Array TA), SWK encT 34 w g 0 d' w' → Srt d' 0 M.length → PermIn 0 M.length Z.toArray d' → OwnL entE w' B (.slice (some ⟨g, 0, none⟩) M.length cap) (stab M) ∧ Below B w w' by
      intro w' d' ⟨n, os, hw⟩ hs hp
      have hz : d'.size = M.length := hp.1.trans (by rw [List.size_toArray]; exact hZl)
      have hst := stab_of_srt M Z.toArray d' (by rw [← hZ]) (by rw [hz]; exact hp) (by rw [hz]; exact hs)
      have hlen : (stab M).length = M.length := by rw [← hst]; simp [hz]
      have hfl : flatK encT 34 d' = flatK entE.enc 34 (stab M).toArray := by
        apply Array.ext'
        have e1 := flatK_list entT d'.toList
        have e2 := flatK_list entE (stab M)
        rw [Array.toArray_toList] at e1
        exact e1.trans ((flat_tags _).trans (by rw [hst]; exact e2.symm))
      have hww : w' = sortWorldK entE.enc entE.k w g 0 n (stab M).toArray os := by
        rw [hw]
        unfold sortWorldK putRowK
        rw [hfl]
        rfl
      rw [hww]
      exact own_sorted entE M (stab M) hlen hgB hg hc hm hsz)
    rw [hn] at HC HP ⊢
    clear hh h hm hsz ht htZ hH R hinc hZ hZl hZm hc hg
    go_enter Try.func42, Try.ntmps42
    go_wp2_with fail
    refine HC.out.mono ?_
    rintro e w1 ⟨rfl, d', s1, s2, s3⟩
    have HE := Lib.hid (HP.out w1 d' s1 s2 s3)
    clear s1 s2 s3
    go_wp2_with fail
    go_end0
    exact ⟨rfl, HE.out⟩
end Go.Proofs.Ytnmdgjodbikndaa
