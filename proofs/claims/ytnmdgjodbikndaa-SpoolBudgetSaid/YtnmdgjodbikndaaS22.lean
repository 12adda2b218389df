/- The law Operations: all results, errors and articles agree with the reference. -/
import Derived.Test.YtnmdgjodbikndaaSt8
namespace Go.Proofs.Ytnmdgjodbikndaa
open Go.RowKit
set_option linter.unusedVariables false
set_option linter.unusedSimpArgs false

theorem small_len {L : List OpD} (h : smallB L = true) : L.length ≤ 40 := by
  unfold smallB at h
  simp only [Bool.and_eq_true, decide_eq_true_eq] at h
  exact h.2
set_option maxRecDepth 100000 in
set_option maxHeartbeats 2000000 in
theorem Operations_law {w : World} (n : Int) (v : Value) (L : List OpD) (hv : ListAt opE w v L) :
    Calls Try.prog 5 #[.int .i64 n, v] w fun e w' => e = .returned (.bool true) ∧ Below w.heap.size w w' := by
  obtain ⟨r, hr⟩ : ∃ r, smallB L = r := ⟨_, rfl⟩
  have HSM := Lib.hid (show ∀ w', Below w.heap.size w w' → Calls Try.prog 16 #[v] w' fun e w'' => e = .returned (.bool r) ∧ Below w'.heap.size w' w'' from fun w' hb => by
    have h := small_any v L (hv.below hb)
    rw [hr] at h
    exact h)
  have HRUN := Lib.hid (show r = true → ∀ w', Below w.heap.size w w' → Calls Try.prog 23 #[.int .i64 n, v] w' (RunPost w' n L) from fun h w' hb => run_any stableOk_forty n v L (hv.below hb) (small_len (hr.trans h)) (by decide))
  have HLEN := Lib.hid (show r = true → L.length ≤ 40 from fun h => small_len (hr.trans h))
  obtain ⟨va, vc, rfl⟩ := hv.form
  obtain ⟨N, hN⟩ : ∃ N, L.length = N := ⟨_, rfl⟩
  rw [hN] at HSM HRUN ⊢
  clear hr hv
  go_enter Try.func5, Try.ntmps5
  go_wp2_with fail
  refine known_any.mono ?_
  rintro e w1 ⟨rfl, hb⟩
  have HB1 := Lib.hid (hb)
  clear hb
  go_wp2_with fail
  refine (HSM.out w1 HB1.out).mono ?_
  rintro e w2 ⟨rfl, hb⟩
  have HB2 := Lib.hid (HB1.out.trans (hb.mono HB1.out.size))
  clear hb
  cases r
  case false =>
    go_wp2_with fail
    refine known_any.mono ?_
    rintro e w3 ⟨rfl, hb⟩
    have HB3 := Lib.hid (HB2.out.trans (hb.mono HB2.out.size))
    clear hb
    go_wp2_with fail
    exact bodyPost_ret (v := .bool true) (by simp [results, Try.results5, go_sem]) rfl ⟨rfl, HB3.out⟩
  case true =>
    go_wp2_with fail
    refine (HRUN.out trivial w2 HB2.out).mono ?_
    rintro e w3 ⟨hb, ⟨h1, h2, b, m, v', rfl, hb1, hm1, hs, hl⟩ | ⟨_, rfl⟩⟩
    · have HB3 := Lib.hid (HB2.out.trans (hb.mono HB2.out.size))
      have hro := run_ok L ⟨n, 0, []⟩ (ok_new h1 h2)
      obtain ⟨S, hS⟩ : ∃ S, runS ⟨n, 0, []⟩ L = S := ⟨_, rfl⟩
      rw [hS] at hs hl hro
      have HS := Lib.hid hs
      have HVW := Lib.hid (show ∀ w', Below w3.heap.size w3 w' → Calls Try.prog 24 #[.pointer (some ⟨b, 0, none⟩), .agg #[.int .i64 n, v']] w' fun e w'' => e = .returned (.bool true) ∧ Below w'.heap.size w' w'' from fun w' hw' => by
        have h := view_any (hs.below hw') hro.1 (by have := hro.2.2.2; have h1 := hro.2.2.2; have h2 := HLEN.out trivial; simp only [List.length_nil, Nat.zero_add] at h1; omega) v' (hl.below hw')
        rw [hro.2.1] at h
        exact h)
      obtain ⟨pa, pc, rfl⟩ := hl.form
      obtain ⟨M, hM⟩ : ∃ M, S.ref.length = M := ⟨_, rfl⟩
      rw [hM] at HVW ⊢
      clear hb hs hl hro hS hM
      go_wp2_with (refine wpList_newV rfl (some 6) rfl 50 rfl #[.int .i64 0, .slice none 0 0] 2 (by kernel_rfl) ?_; refine Stop.on ?_)
      refine Stop.go ?_
      try simp only [Act.put, List.setIfInBounds_toArray, List.set_cons_zero, List.set_cons_succ]
      intro wi xi bi si
      try simp only [Act.put, List.setIfInBounds_toArray, List.set_cons_zero, List.set_cons_succ]
      go_wp2_with (refine wpList_putV rfl rfl 50 (.tmp 6) (.tmp 21) rfl _ #[.int .i64 n, .slice pa M pc] rfl rfl 50 _ xi sizeS rfl oneS ?_; refine Stop.on ?_)
      refine Stop.go ?_
      try simp only [Act.put, List.setIfInBounds_toArray, List.set_cons_zero, List.set_cons_succ]
      intro wm xm cm sm
      try simp only [Act.put, List.setIfInBounds_toArray, List.set_cons_zero, List.set_cons_succ]
      have HXM := Lib.hid xm
      have HBM := Lib.hid (show Below w3.heap.size w3 wm from bi.trans (cm.below (B := w3.heap.size) (fun k e => by omega) (by omega)))
      clear xi bi si xm cm sm
      go_wp2_with (refine wpList_met rfl ?_; refine wpList_loadV rfl (some 29) rfl 50 (.tmp 6) rfl w3.heap.size rfl 50 #[.int .i64 n, .slice pa M pc] (0, 0) _ HXM.out Try.underlying50 rfl sizeS ?_; refine Stop.on ?_)
      refine Stop.go ?_
      try simp only [Act.put, List.setIfInBounds_toArray, List.set_cons_zero, List.set_cons_succ]
      go_wp2_with fail
      refine (HVW.out wm HBM.out).mono ?_
      rintro e w5 ⟨rfl, hb⟩
      have HB5 := Lib.hid (HB3.out.trans ((HBM.out.trans (hb.mono HBM.out.size)).mono HB3.out.size))
      clear hb
      go_wp2_with fail
      exact bodyPost_ret (v := .bool true) (by simp [results, Try.results5, go_sem]) rfl ⟨rfl, HB5.out⟩
    · have HB3 := Lib.hid (HB2.out.trans (hb.mono HB2.out.size))
      clear hb
      go_wp2_with (refine wpList_newV rfl (some 6) rfl 50 rfl #[.int .i64 0, .slice none 0 0] 2 (by kernel_rfl) ?_; refine Stop.on ?_)
      refine Stop.go ?_
      try simp only [Act.put, List.setIfInBounds_toArray, List.set_cons_zero, List.set_cons_succ]
      intro wi xi bi si
      try simp only [Act.put, List.setIfInBounds_toArray, List.set_cons_zero, List.set_cons_succ]
      go_wp2_with (refine wpList_putV rfl rfl 50 (.tmp 6) (.tmp 21) rfl _ #[.int .i64 0, .slice none 0 0] rfl rfl 50 _ xi sizeS rfl oneS ?_; refine Stop.on ?_)
      refine Stop.go ?_
      try simp only [Act.put, List.setIfInBounds_toArray, List.set_cons_zero, List.set_cons_succ]
      intro wm xm cm sm
      try simp only [Act.put, List.setIfInBounds_toArray, List.set_cons_zero, List.set_cons_succ]
      have HBM := Lib.hid (HB3.out.trans ((bi.trans (cm.below (B := w3.heap.size) (fun k e => by omega) (by omega))).mono HB3.out.size))
      clear xi bi si xm cm sm
      go_wp2_with fail
      exact bodyPost_ret (v := .bool true) (by simp [results, Try.results5, go_sem]) rfl ⟨rfl, HBM.out⟩
end Go.Proofs.Ytnmdgjodbikndaa
