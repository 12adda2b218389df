/- Records: Check, both sides. -/
import Derived.Test.YtloaenknhkfaeaaDoorRec1
namespace Go.Proofs.YtloaenknhkfaeaaDoor
open Go.RowKit
set_option linter.unusedVariables false
set_option linter.unusedSimpArgs false

theorem bcell {W w1 : World} (hb : Below W.heap.size W w1) : (∀ b o, b < W.heap.size → w1.cell? ⟨b, o, none⟩ = W.cell? ⟨b, o, none⟩) ∧ (∀ b o, b < W.heap.size → w1.frozen? ⟨b, o, none⟩ = W.frozen? ⟨b, o, none⟩) :=
  ⟨fun b o h => hb.cell (p := ⟨b, o, none⟩) h, fun b o h => hb.frozen (p := ⟨b, o, none⟩) h⟩
theorem cell_two {w w1 w2 : World} {A B : Obj} (h1 : Below (w.alloc A).heap.size (w.alloc A) w1) (h2 : Below (w1.alloc B).heap.size (w1.alloc B) w2) {j : Nat} {v : Value} (h : (w.alloc A).cell? ⟨w.heap.size, j, none⟩ = some v) :
    w2.cell? ⟨w.heap.size, j, none⟩ = some v := by
  have c1 := (Chg.of_below (F := fun _ => False) h1).cell (fun h => h) h
  have c2 := (Chg.alloc (F := fun _ => False) w1 B).cell (fun h => h) c1
  exact (Chg.of_below (F := fun _ => False) h2).cell (fun h => h) c2
theorem chk_below {w w1 w2 : World} {a b : Obj} (h1 : Below (w.alloc a).heap.size (w.alloc a) w1) (h2 : Below (w1.alloc b).heap.size (w1.alloc b) w2) : Below w.heap.size w w2 := by
  have s1 := h1.size
  rw [World.size_alloc] at s1 h1
  rw [World.size_alloc] at h2
  exact (((Below.refl _ _).alloc (Nat.le_refl _) _).trans ((h1.mono (by omega)))).trans (((Below.refl _ _).alloc (by omega) _).trans (h2.mono (by omega)))

set_option maxRecDepth 100000 in
set_option maxHeartbeats 2000000 in
theorem rcheck_any (k g n i c : Int) (a : Option Addr) (len cap : Nat) (w : World) :
    Calls Tryd.prog 20 #[.agg #[.int .i64 k, .int .i64 g, .int .i64 n, .int .i64 i, .int .i64 c, .slice a len cap]] w fun e w' => e = .returned (.int .i64 (chkE k g n i c len)) ∧ Below w.heap.size w w' := by
  by_cases h1 : fineB k g n = true
  · skip
    by_cases h2 : 1 ≤ c
    · skip
      by_cases h3 : c ≤ 586
      · skip
        by_cases h4 : 0 ≤ i
        · skip
          by_cases h5 : i < c
          · skip
            by_cases h6 : 224 < len
            · skip
              have hb : chkE k g n i c len = 5 := by
                unfold chkE rangeB
                have q1 : (fineB k g n && decide (1 ≤ c) && decide (c ≤ 586) && decide (0 ≤ i) && decide (i < c)) = true := by simp [h1, h2, h3, h4, h5]
                rw [q1, if_neg (by simp)]
                rw [if_pos h6]
              rw [hb]
              clear hb
              go_enter Tryd.func20, Tryd.ntmps20
              go_wp2_with (go_at_call 50; refine (fine_any _ _ _ _).mono ?_; rintro e w1 ⟨rfl, rfl⟩)
              go_ret
              exact ⟨rfl, (Below.refl _ w).alloc (Nat.le_refl _) _⟩
            · have h6' : len ≤ 224 := by omega
              by_cases h7 : i = c - 1
              · have h7b : (i == c - 1) = true := by simpa using h7
                by_cases h8 : 1 < c
                · by_cases h9 : len = 0
                  · have h9b : ((len : Int) == 0) = true := by simpa using h9
                    have hb : chkE k g n i c len = 4 := by
                      unfold chkE rangeB
                      have q1 : (fineB k g n && decide (1 ≤ c) && decide (c ≤ 586) && decide (0 ≤ i) && decide (i < c)) = true := by simp [h1, h2, h3, h4, h5]
                      rw [q1, if_neg (by simp)]
                      rw [if_neg (by omega), if_pos h7, if_pos ⟨h8, h9⟩]
                    rw [hb]
                    clear hb
                    have H7 := Lib.hid h7
                    clear h7 h9
                    go_enter Tryd.func20, Tryd.ntmps20
                    go_wp2_with (go_at_call 50; refine (fine_any _ _ _ _).mono ?_; rintro e w1 ⟨rfl, rfl⟩)
                    go_ret
                    exact ⟨rfl, (Below.refl _ w).alloc (Nat.le_refl _) _⟩
                  · have h9b : ((len : Int) == 0) = false := by simpa using h9
                    by_cases h10 : 131072 < i * 224 + len
                    · have h10' : 131072 < 224 * i + len := by omega
                      have hb : chkE k g n i c len = 5 := by
                        unfold chkE rangeB
                        have q1 : (fineB k g n && decide (1 ≤ c) && decide (c ≤ 586) && decide (0 ≤ i) && decide (i < c)) = true := by simp [h1, h2, h3, h4, h5]
                        rw [q1, if_neg (by simp)]
                        rw [if_neg (by omega), if_pos h7, if_neg (by omega), if_pos h10]
                      rw [hb]
                      clear hb
                      have H7 := Lib.hid h7
                      clear h7 h9
                      go_enter Tryd.func20, Tryd.ntmps20
                      go_wp2_with (go_at_call 50; refine (fine_any _ _ _ _).mono ?_; rintro e w1 ⟨rfl, rfl⟩)
                      go_ret
                      exact ⟨rfl, (Below.refl _ w).alloc (Nat.le_refl _) _⟩
                    · have h10' : i * 224 + len ≤ 131072 := by omega
                      have h10'' : 224 * i + len ≤ 131072 := by omega
                      have hb : chkE k g n i c len = 0 := by
                        unfold chkE rangeB
                        have q1 : (fineB k g n && decide (1 ≤ c) && decide (c ≤ 586) && decide (0 ≤ i) && decide (i < c)) = true := by simp [h1, h2, h3, h4, h5]
                        rw [q1, if_neg (by simp)]
                        rw [if_neg (by omega), if_pos h7, if_neg (by omega), if_neg h10]
                      rw [hb]
                      clear hb
                      have H7 := Lib.hid h7
                      clear h7 h9
                      go_enter Tryd.func20, Tryd.ntmps20
                      go_wp2_with (go_at_call 50; refine (fine_any _ _ _ _).mono ?_; rintro e w1 ⟨rfl, rfl⟩)
                      go_ret
                      exact ⟨rfl, (Below.refl _ w).alloc (Nat.le_refl _) _⟩
                · have h8' : c ≤ 1 := by omega
                  by_cases h10 : 131072 < i * 224 + len
                  · exfalso
                    omega
                  · have h10' : i * 224 + len ≤ 131072 := by omega
                    have h10'' : 224 * i + len ≤ 131072 := by omega
                    have hb : chkE k g n i c len = 0 := by
                      unfold chkE rangeB
                      have q1 : (fineB k g n && decide (1 ≤ c) && decide (c ≤ 586) && decide (0 ≤ i) && decide (i < c)) = true := by simp [h1, h2, h3, h4, h5]
                      rw [q1, if_neg (by simp)]
                      rw [if_neg (by omega), if_pos h7, if_neg (by omega), if_neg h10]
                    rw [hb]
                    clear hb
                    have H7 := Lib.hid h7
                    clear h7
                    go_enter Tryd.func20, Tryd.ntmps20
                    go_wp2_with (go_at_call 50; refine (fine_any _ _ _ _).mono ?_; rintro e w1 ⟨rfl, rfl⟩)
                    go_ret
                    exact ⟨rfl, (Below.refl _ w).alloc (Nat.le_refl _) _⟩
              · have h7b : (i == c - 1) = false := by simpa using h7
                by_cases h8 : len < 224
                · skip
                  have hb : chkE k g n i c len = 4 := by
                    unfold chkE rangeB
                    have q1 : (fineB k g n && decide (1 ≤ c) && decide (c ≤ 586) && decide (0 ≤ i) && decide (i < c)) = true := by simp [h1, h2, h3, h4, h5]
                    rw [q1, if_neg (by simp)]
                    rw [if_neg (by omega), if_neg h7, if_pos h8]
                  rw [hb]
                  clear hb
                  have H7 := Lib.hid h7
                  clear h7
                  go_enter Tryd.func20, Tryd.ntmps20
                  go_wp2_with (go_at_call 50; refine (fine_any _ _ _ _).mono ?_; rintro e w1 ⟨rfl, rfl⟩)
                  go_ret
                  exact ⟨rfl, (Below.refl _ w).alloc (Nat.le_refl _) _⟩
                · have h8' : 224 ≤ len := by omega
                  have hb : chkE k g n i c len = 0 := by
                    unfold chkE rangeB
                    have q1 : (fineB k g n && decide (1 ≤ c) && decide (c ≤ 586) && decide (0 ≤ i) && decide (i < c)) = true := by simp [h1, h2, h3, h4, h5]
                    rw [q1, if_neg (by simp)]
                    rw [if_neg (by omega), if_neg h7, if_neg h8]
                  rw [hb]
                  clear hb
                  have H7 := Lib.hid h7
                  clear h7
                  go_enter Tryd.func20, Tryd.ntmps20
                  go_wp2_with (go_at_call 50; refine (fine_any _ _ _ _).mono ?_; rintro e w1 ⟨rfl, rfl⟩)
                  go_ret
                  exact ⟨rfl, (Below.refl _ w).alloc (Nat.le_refl _) _⟩
          · skip
            have h5' : c ≤ i := by omega
            have hb : chkE k g n i c len = 2 := by
              unfold chkE rangeB
              simp [h1, h2, h3, h4, h5]
            rw [hb]
            clear hb
            go_enter Tryd.func20, Tryd.ntmps20
            go_wp2_with (go_at_call 50; refine (fine_any _ _ _ _).mono ?_; rintro e w1 ⟨rfl, rfl⟩)
            go_ret
            exact ⟨rfl, (Below.refl _ w).alloc (Nat.le_refl _) _⟩
        · skip
          have h4' : i < 0 := by omega
          have hb : chkE k g n i c len = 2 := by
            unfold chkE rangeB
            simp [h1, h2, h3, h4]
          rw [hb]
          clear hb
          go_enter Tryd.func20, Tryd.ntmps20
          go_wp2_with (go_at_call 50; refine (fine_any _ _ _ _).mono ?_; rintro e w1 ⟨rfl, rfl⟩)
          go_ret
          exact ⟨rfl, (Below.refl _ w).alloc (Nat.le_refl _) _⟩
      · skip
        have h3' : 586 < c := by omega
        have hb : chkE k g n i c len = 2 := by
          unfold chkE rangeB
          simp [h1, h2, h3]
        rw [hb]
        clear hb
        go_enter Tryd.func20, Tryd.ntmps20
        go_wp2_with (go_at_call 50; refine (fine_any _ _ _ _).mono ?_; rintro e w1 ⟨rfl, rfl⟩)
        go_ret
        exact ⟨rfl, (Below.refl _ w).alloc (Nat.le_refl _) _⟩
    · skip
      have h2' : c < 1 := by omega
      have hb : chkE k g n i c len = 2 := by
        unfold chkE rangeB
        simp [h1, h2]
      rw [hb]
      clear hb
      go_enter Tryd.func20, Tryd.ntmps20
      go_wp2_with (go_at_call 50; refine (fine_any _ _ _ _).mono ?_; rintro e w1 ⟨rfl, rfl⟩)
      go_ret
      exact ⟨rfl, (Below.refl _ w).alloc (Nat.le_refl _) _⟩
  · skip
    have h1' : fineB k g n = false := by simpa using h1
    have hb : chkE k g n i c len = 2 := by
      unfold chkE rangeB
      simp [h1']
    rw [hb]
    clear hb
    go_enter Tryd.func20, Tryd.ntmps20
    go_wp2_with (go_at_call 50; refine (fine_any _ _ _ _).mono ?_; rintro e w1 ⟨rfl, rfl⟩)
    go_ret
    exact ⟨rfl, (Below.refl _ w).alloc (Nat.le_refl _) _⟩

set_option maxRecDepth 100000 in
set_option maxHeartbeats 2000000 in
theorem check_any (k g n i c : Int) (a : Option Addr) (len cap : Nat) (w : World) :
    Calls Tryd.prog 19 #[.agg #[.int .i64 k, .int .i64 g, .int .i64 n, .int .i64 i, .int .i64 c, .slice a len cap]] w fun e w' => e = .returned (.int .i64 (chkE k g n i c len)) ∧ Below w.heap.size w w' := by
  by_cases h1 : fineB k g n = true
  · skip
    by_cases h2 : 1 ≤ c
    · skip
      by_cases h3 : c ≤ 586
      · skip
        by_cases h4 : 0 ≤ i
        · skip
          by_cases h5 : i < c
          · skip
            by_cases h6 : 224 < len
            · skip
              have hb : chkE k g n i c len = 5 := by
                unfold chkE rangeB
                have q1 : (fineB k g n && decide (1 ≤ c) && decide (c ≤ 586) && decide (0 ≤ i) && decide (i < c)) = true := by simp [h1, h2, h3, h4, h5]
                rw [q1, if_neg (by simp)]
                rw [if_pos h6]
              rw [hb]
              clear hb
              go_enter Tryd.func19, Tryd.ntmps19
              go_wp2_with (first | (go_at_call 48; refine (place_any _ _ _ _ _ _ _ _ _).mono ?_; rintro e w1 ⟨rfl, hb1⟩; obtain ⟨hc1, hf1⟩ := bcell hb1; have hz1 := hb1.size; rw [World.size_alloc] at hz1) | (go_at_call 49; refine (valid_any _ _ _ _).mono ?_; rintro e w2 ⟨rfl, hb2⟩; obtain ⟨hc2, hf2⟩ := bcell hb2; have hx2 := cell_two hb1 hb2 (j := 5) (v := .slice a len cap) (by rw [cell_of_row _ _ _ _ _ _ (heap_alloc_new _ _)]; rfl)))
              go_ret
              exact ⟨rfl, chk_below hb1 hb2⟩
            · have h6' : len ≤ 224 := by omega
              by_cases h7 : i = c - 1
              · have h7b : (i == c - 1) = true := by simpa using h7
                by_cases h8 : 1 < c
                · by_cases h9 : len = 0
                  · have h9b : ((len : Int) == 0) = true := by simpa using h9
                    have hb : chkE k g n i c len = 4 := by
                      unfold chkE rangeB
                      have q1 : (fineB k g n && decide (1 ≤ c) && decide (c ≤ 586) && decide (0 ≤ i) && decide (i < c)) = true := by simp [h1, h2, h3, h4, h5]
                      rw [q1, if_neg (by simp)]
                      rw [if_neg (by omega), if_pos h7, if_pos ⟨h8, h9⟩]
                    rw [hb]
                    clear hb
                    have H7 := Lib.hid h7
                    clear h7 h9
                    go_enter Tryd.func19, Tryd.ntmps19
                    go_wp2_with (first | (go_at_call 48; refine (place_any _ _ _ _ _ _ _ _ _).mono ?_; rintro e w1 ⟨rfl, hb1⟩; obtain ⟨hc1, hf1⟩ := bcell hb1; have hz1 := hb1.size; rw [World.size_alloc] at hz1) | (go_at_call 49; refine (valid_any _ _ _ _).mono ?_; rintro e w2 ⟨rfl, hb2⟩; obtain ⟨hc2, hf2⟩ := bcell hb2; have hx2 := cell_two hb1 hb2 (j := 5) (v := .slice a len cap) (by rw [cell_of_row _ _ _ _ _ _ (heap_alloc_new _ _)]; rfl)))
                    go_ret
                    exact ⟨rfl, chk_below hb1 hb2⟩
                  · have h9b : ((len : Int) == 0) = false := by simpa using h9
                    by_cases h10 : 131072 < i * 224 + len
                    · have h10' : 131072 < 224 * i + len := by omega
                      have hb : chkE k g n i c len = 5 := by
                        unfold chkE rangeB
                        have q1 : (fineB k g n && decide (1 ≤ c) && decide (c ≤ 586) && decide (0 ≤ i) && decide (i < c)) = true := by simp [h1, h2, h3, h4, h5]
                        rw [q1, if_neg (by simp)]
                        rw [if_neg (by omega), if_pos h7, if_neg (by omega), if_pos h10]
                      rw [hb]
                      clear hb
                      have H7 := Lib.hid h7
                      clear h7 h9
                      go_enter Tryd.func19, Tryd.ntmps19
                      go_wp2_with (first | (go_at_call 48; refine (place_any _ _ _ _ _ _ _ _ _).mono ?_; rintro e w1 ⟨rfl, hb1⟩; obtain ⟨hc1, hf1⟩ := bcell hb1; have hz1 := hb1.size; rw [World.size_alloc] at hz1) | (go_at_call 49; refine (valid_any _ _ _ _).mono ?_; rintro e w2 ⟨rfl, hb2⟩; obtain ⟨hc2, hf2⟩ := bcell hb2; have hx2 := cell_two hb1 hb2 (j := 5) (v := .slice a len cap) (by rw [cell_of_row _ _ _ _ _ _ (heap_alloc_new _ _)]; rfl)))
                      go_ret
                      exact ⟨rfl, chk_below hb1 hb2⟩
                    · have h10' : i * 224 + len ≤ 131072 := by omega
                      have h10'' : 224 * i + len ≤ 131072 := by omega
                      have hb : chkE k g n i c len = 0 := by
                        unfold chkE rangeB
                        have q1 : (fineB k g n && decide (1 ≤ c) && decide (c ≤ 586) && decide (0 ≤ i) && decide (i < c)) = true := by simp [h1, h2, h3, h4, h5]
                        rw [q1, if_neg (by simp)]
                        rw [if_neg (by omega), if_pos h7, if_neg (by omega), if_neg h10]
                      rw [hb]
                      clear hb
                      have H7 := Lib.hid h7
                      clear h7 h9
                      go_enter Tryd.func19, Tryd.ntmps19
                      go_wp2_with (first | (go_at_call 48; refine (place_any _ _ _ _ _ _ _ _ _).mono ?_; rintro e w1 ⟨rfl, hb1⟩; obtain ⟨hc1, hf1⟩ := bcell hb1; have hz1 := hb1.size; rw [World.size_alloc] at hz1) | (go_at_call 49; refine (valid_any _ _ _ _).mono ?_; rintro e w2 ⟨rfl, hb2⟩; obtain ⟨hc2, hf2⟩ := bcell hb2; have hx2 := cell_two hb1 hb2 (j := 5) (v := .slice a len cap) (by rw [cell_of_row _ _ _ _ _ _ (heap_alloc_new _ _)]; rfl)))
                      go_ret
                      exact ⟨rfl, chk_below hb1 hb2⟩
                · have h8' : c ≤ 1 := by omega
                  by_cases h10 : 131072 < i * 224 + len
                  · exfalso
                    omega
                  · have h10' : i * 224 + len ≤ 131072 := by omega
                    have h10'' : 224 * i + len ≤ 131072 := by omega
                    have hb : chkE k g n i c len = 0 := by
                      unfold chkE rangeB
                      have q1 : (fineB k g n && decide (1 ≤ c) && decide (c ≤ 586) && decide (0 ≤ i) && decide (i < c)) = true := by simp [h1, h2, h3, h4, h5]
                      rw [q1, if_neg (by simp)]
                      rw [if_neg (by omega), if_pos h7, if_neg (by omega), if_neg h10]
                    rw [hb]
                    clear hb
                    have H7 := Lib.hid h7
                    clear h7
                    go_enter Tryd.func19, Tryd.ntmps19
                    go_wp2_with (first | (go_at_call 48; refine (place_any _ _ _ _ _ _ _ _ _).mono ?_; rintro e w1 ⟨rfl, hb1⟩; obtain ⟨hc1, hf1⟩ := bcell hb1; have hz1 := hb1.size; rw [World.size_alloc] at hz1) | (go_at_call 49; refine (valid_any _ _ _ _).mono ?_; rintro e w2 ⟨rfl, hb2⟩; obtain ⟨hc2, hf2⟩ := bcell hb2; have hx2 := cell_two hb1 hb2 (j := 5) (v := .slice a len cap) (by rw [cell_of_row _ _ _ _ _ _ (heap_alloc_new _ _)]; rfl)))
                    go_ret
                    exact ⟨rfl, chk_below hb1 hb2⟩
              · have h7b : (i == c - 1) = false := by simpa using h7
                by_cases h8 : len < 224
                · skip
                  have hb : chkE k g n i c len = 4 := by
                    unfold chkE rangeB
                    have q1 : (fineB k g n && decide (1 ≤ c) && decide (c ≤ 586) && decide (0 ≤ i) && decide (i < c)) = true := by simp [h1, h2, h3, h4, h5]
                    rw [q1, if_neg (by simp)]
                    rw [if_neg (by omega), if_neg h7, if_pos h8]
                  rw [hb]
                  clear hb
                  have H7 := Lib.hid h7
                  clear h7
                  go_enter Tryd.func19, Tryd.ntmps19
                  go_wp2_with (first | (go_at_call 48; refine (place_any _ _ _ _ _ _ _ _ _).mono ?_; rintro e w1 ⟨rfl, hb1⟩; obtain ⟨hc1, hf1⟩ := bcell hb1; have hz1 := hb1.size; rw [World.size_alloc] at hz1) | (go_at_call 49; refine (valid_any _ _ _ _).mono ?_; rintro e w2 ⟨rfl, hb2⟩; obtain ⟨hc2, hf2⟩ := bcell hb2; have hx2 := cell_two hb1 hb2 (j := 5) (v := .slice a len cap) (by rw [cell_of_row _ _ _ _ _ _ (heap_alloc_new _ _)]; rfl)))
                  go_ret
                  exact ⟨rfl, chk_below hb1 hb2⟩
                · have h8' : 224 ≤ len := by omega
                  have hb : chkE k g n i c len = 0 := by
                    unfold chkE rangeB
                    have q1 : (fineB k g n && decide (1 ≤ c) && decide (c ≤ 586) && decide (0 ≤ i) && decide (i < c)) = true := by simp [h1, h2, h3, h4, h5]
                    rw [q1, if_neg (by simp)]
                    rw [if_neg (by omega), if_neg h7, if_neg h8]
                  rw [hb]
                  clear hb
                  have H7 := Lib.hid h7
                  clear h7
                  go_enter Tryd.func19, Tryd.ntmps19
                  go_wp2_with (first | (go_at_call 48; refine (place_any _ _ _ _ _ _ _ _ _).mono ?_; rintro e w1 ⟨rfl, hb1⟩; obtain ⟨hc1, hf1⟩ := bcell hb1; have hz1 := hb1.size; rw [World.size_alloc] at hz1) | (go_at_call 49; refine (valid_any _ _ _ _).mono ?_; rintro e w2 ⟨rfl, hb2⟩; obtain ⟨hc2, hf2⟩ := bcell hb2; have hx2 := cell_two hb1 hb2 (j := 5) (v := .slice a len cap) (by rw [cell_of_row _ _ _ _ _ _ (heap_alloc_new _ _)]; rfl)))
                  go_ret
                  exact ⟨rfl, chk_below hb1 hb2⟩
          · skip
            have h5' : c ≤ i := by omega
            have hb : chkE k g n i c len = 2 := by
              unfold chkE rangeB
              simp [h1, h2, h3, h4, h5]
            rw [hb]
            clear hb
            go_enter Tryd.func19, Tryd.ntmps19
            go_wp2_with (first | (go_at_call 48; refine (place_any _ _ _ _ _ _ _ _ _).mono ?_; rintro e w1 ⟨rfl, hb1⟩; obtain ⟨hc1, hf1⟩ := bcell hb1; have hz1 := hb1.size; rw [World.size_alloc] at hz1) | (go_at_call 49; refine (valid_any _ _ _ _).mono ?_; rintro e w2 ⟨rfl, hb2⟩; obtain ⟨hc2, hf2⟩ := bcell hb2; have hx2 := cell_two hb1 hb2 (j := 5) (v := .slice a len cap) (by rw [cell_of_row _ _ _ _ _ _ (heap_alloc_new _ _)]; rfl)))
            go_ret
            exact ⟨rfl, chk_below hb1 hb2⟩
        · skip
          have h4' : i < 0 := by omega
          have hb : chkE k g n i c len = 2 := by
            unfold chkE rangeB
            simp [h1, h2, h3, h4]
          rw [hb]
          clear hb
          go_enter Tryd.func19, Tryd.ntmps19
          go_wp2_with (first | (go_at_call 48; refine (place_any _ _ _ _ _ _ _ _ _).mono ?_; rintro e w1 ⟨rfl, hb1⟩; obtain ⟨hc1, hf1⟩ := bcell hb1; have hz1 := hb1.size; rw [World.size_alloc] at hz1) | (go_at_call 49; refine (valid_any _ _ _ _).mono ?_; rintro e w2 ⟨rfl, hb2⟩; obtain ⟨hc2, hf2⟩ := bcell hb2; have hx2 := cell_two hb1 hb2 (j := 5) (v := .slice a len cap) (by rw [cell_of_row _ _ _ _ _ _ (heap_alloc_new _ _)]; rfl)))
          go_ret
          exact ⟨rfl, chk_below hb1 hb2⟩
      · skip
        have h3' : 586 < c := by omega
        have hb : chkE k g n i c len = 2 := by
          unfold chkE rangeB
          simp [h1, h2, h3]
        rw [hb]
        clear hb
        go_enter Tryd.func19, Tryd.ntmps19
        go_wp2_with (first | (go_at_call 48; refine (place_any _ _ _ _ _ _ _ _ _).mono ?_; rintro e w1 ⟨rfl, hb1⟩; obtain ⟨hc1, hf1⟩ := bcell hb1; have hz1 := hb1.size; rw [World.size_alloc] at hz1) | (go_at_call 49; refine (valid_any _ _ _ _).mono ?_; rintro e w2 ⟨rfl, hb2⟩; obtain ⟨hc2, hf2⟩ := bcell hb2; have hx2 := cell_two hb1 hb2 (j := 5) (v := .slice a len cap) (by rw [cell_of_row _ _ _ _ _ _ (heap_alloc_new _ _)]; rfl)))
        go_ret
        exact ⟨rfl, chk_below hb1 hb2⟩
    · skip
      have h2' : c < 1 := by omega
      have hb : chkE k g n i c len = 2 := by
        unfold chkE rangeB
        simp [h1, h2]
      rw [hb]
      clear hb
      go_enter Tryd.func19, Tryd.ntmps19
      go_wp2_with (first | (go_at_call 48; refine (place_any _ _ _ _ _ _ _ _ _).mono ?_; rintro e w1 ⟨rfl, hb1⟩; obtain ⟨hc1, hf1⟩ := bcell hb1; have hz1 := hb1.size; rw [World.size_alloc] at hz1) | (go_at_call 49; refine (valid_any _ _ _ _).mono ?_; rintro e w2 ⟨rfl, hb2⟩; obtain ⟨hc2, hf2⟩ := bcell hb2; have hx2 := cell_two hb1 hb2 (j := 5) (v := .slice a len cap) (by rw [cell_of_row _ _ _ _ _ _ (heap_alloc_new _ _)]; rfl)))
      go_ret
      exact ⟨rfl, chk_below hb1 hb2⟩
  · skip
    have h1' : fineB k g n = false := by simpa using h1
    have hb : chkE k g n i c len = 2 := by
      unfold chkE rangeB
      simp [h1']
    rw [hb]
    clear hb
    go_enter Tryd.func19, Tryd.ntmps19
    go_wp2_with (first | (go_at_call 48; refine (place_any _ _ _ _ _ _ _ _ _).mono ?_; rintro e w1 ⟨rfl, hb1⟩; obtain ⟨hc1, hf1⟩ := bcell hb1; have hz1 := hb1.size; rw [World.size_alloc] at hz1) | (go_at_call 49; refine (valid_any _ _ _ _).mono ?_; rintro e w2 ⟨rfl, hb2⟩; obtain ⟨hc2, hf2⟩ := bcell hb2; have hx2 := cell_two hb1 hb2 (j := 5) (v := .slice a len cap) (by rw [cell_of_row _ _ _ _ _ _ (heap_alloc_new _ _)]; rfl)))
    go_ret
    exact ⟨rfl, chk_below hb1 hb2⟩

end Go.Proofs.YtloaenknhkfaeaaDoor
