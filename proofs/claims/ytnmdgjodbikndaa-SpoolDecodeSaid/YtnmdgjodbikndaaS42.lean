/- The laws Decode and Encode. -/
import Derived.Test.YtnmdgjodbikndaaS38
import Derived.Test.YtnmdgjodbikndaaS41
import Derived.Test.YtnmdgjodbikndaaSArgs
namespace Go.Proofs.Ytnmdgjodbikndaa
open Go.RowKit
set_option linter.unusedVariables false
set_option linter.unusedSimpArgs false

theorem trod_lb {H : Type} {enc : TypeId × Value → H} {w : World} {base : Nat} {sp : Nat → Bool} {held : Bool} {fuel : Nat} {v : Value} {x : DataW H × List MemPlace}
    (h : DataW.trod enc Try.prog w base sp held fuel 22 [v] = some x) : ∃ L : List UInt8, ListAt byE w v L := by
  obtain ⟨L, hL, _⟩ := trod_list byE cellsOf_u8' (fun _ => True) (fun fu cs x hl hx => (by
    match cs, hl with
    | [c], _ =>
      obtain ⟨b, rfl⟩ := trod_u8 hx
      exact ⟨b, rfl, trivial⟩)) h
  exact ⟨L, hL⟩
theorem dinv_all {b : List UInt8} (he : decE b = 0) : 16 ≤ b.length ∧ (1 ≤ rdV (b.take 8) ∧ rdV (b.take 8) ≤ 1073741824) ∧ DInv b (decC b) b.length (decR b).sp := by
  by_cases h8 : 8 ≤ b.length
  case neg => rw [decE_start (dec0_short (by omega)) (by decide)] at he; cases he
  by_cases hb : 1 ≤ rdV (b.take 8) ∧ rdV (b.take 8) ≤ 1073741824
  case neg => rw [decE_start (dec0_bad h8 hb) (by decide)] at he; cases he
  by_cases h16 : 16 ≤ b.length
  case neg => rw [decE_start (dec0_short2 h8 hb (by omega)) (by decide)] at he; cases he
  have hall : ∀ i, i ≤ decC b → ∃ at_ sp, DInv b i at_ sp := by
    intro i
    induction i with
    | zero => exact fun _ => ⟨_, _, dinv_zero h16 hb⟩
    | succ i ih =>
      intro hi
      obtain ⟨at_, sp, hd⟩ := ih (by omega)
      have h0 : (decStep ⟨sp, ⟨b.drop at_, 0⟩⟩).s.e = 0 := by
        by_cases h : (decStep ⟨sp, ⟨b.drop at_, 0⟩⟩).s.e = 0
        · exact h
        · have := dinv_err hd (by omega) rfl h
          rw [he] at this
          exact absurd this.symm h
      exact ⟨_, _, dinv_next hd (stepOk_of h0)⟩
  obtain ⟨at_, sp, hd⟩ := hall _ (Nat.le_refl _)
  have hend := dinv_end hd rfl
  rw [he] at hend
  have hat : at_ = b.length := by
    have h1 := hd.at1
    by_cases h2 : at_ < b.length
    · rw [if_pos h2] at hend; cases hend.2
    · omega
  subst hat
  rw [hend.1]
  exact ⟨h16, hb, hd⟩
theorem enc_dec_all {b : List UInt8} (he : decE b = 0) : encS (decR b).sp.budget.toNat (decR b).sp.ref = b := by
  obtain ⟨h1, h2, h3⟩ := dinv_all he
  exact enc_dec h1 h3 h2
theorem len_dec {b : List UInt8} (he : decE b = 0) : 48 * (decR b).sp.list.length ≤ b.length := by
  obtain ⟨_, _, h3⟩ := dinv_all he
  rw [h3.len]
  exact h3.at2
set_option maxRecDepth 100000 in
set_option maxHeartbeats 2000000 in
theorem Decode_law {w : World} (v : Value) (b : List UInt8) (hv : ListAt byE w v b) :
    Calls Try.prog 9 #[v] w fun e w' => e = .returned (.bool true) ∧ Below w.heap.size w w' := by
  obtain ⟨va, vc, rfl⟩ := hv.form
  obtain ⟨N, hN⟩ : ∃ N, b.length = N := ⟨_, rfl⟩
  rw [hN] at hv ⊢
  have HV := Lib.hid hv
  have HN := Lib.hid hN
  clear hv hN
  go_enter Try.func9, Try.ntmps9
  go_wp2_with fail
  refine known_any.mono ?_
  rintro e w1 ⟨rfl, hb⟩
  have HB1 := Lib.hid (hb)
  clear hb
  by_cases hlong : 3000 < N
  · have hlI : (3000 : Int) < (N : Int) := by omega
    go_wp2_with fail
    refine known_any.mono ?_
    rintro e w2 ⟨rfl, hb⟩
    have HB2 := Lib.hid (HB1.out.trans (hb.mono HB1.out.size))
    clear hb
    go_wp2_with fail
    exact bodyPost_ret (v := .bool true) (by simp [results, Try.results9, go_sem]) rfl ⟨rfl, HB2.out⟩
  have hlI : ¬ (3000 : Int) < (N : Int) := by omega
  have HNL := Lib.hid (show N ≤ 3000 by omega)
  clear hlong
  go_wp2_with fail
  refine (Decode_any _ b (HV.out.below HB1.out) (by have := HN.out; have := HNL.out; omega)).mono ?_
  rintro e w2 ⟨hb2, hdec⟩
  have HB2 := Lib.hid (HB1.out.trans (hb2.mono HB1.out.size))
  clear hb2
  rcases hdec with ⟨he, p, m, rfl, hp, hm, hsp, hok, hll⟩ | ⟨he, rfl⟩
  case inr =>
    obtain ⟨c, hc⟩ : ∃ c, decE b = c := ⟨_, rfl⟩
    rw [hc] at he ⊢
    have HC := Lib.hid hc
    clear hc
    go_wp2_with fail
    refine (rDecode_any _ b (HV.out.below HB2.out) (by have := HN.out; have := HNL.out; omega)).mono ?_
    rintro e w3 ⟨hb3, ⟨he2, _⟩ | ⟨_, rfl⟩⟩
    · exact absurd (HC.out.symm.trans he2) he
    rw [HC.out]
    have HB3 := Lib.hid (HB2.out.trans (hb3.mono HB2.out.size))
    have hcn : (c != 0) = true := by simpa using he
    have hcc : (c != c) = false := by simp
    clear hb3
    go_wp2_with (refine wpList_newV rfl (some 5) rfl 50 rfl #[.int .i64 0, .slice none 0 0] 2 (by kernel_rfl) ?_; refine Stop.on ?_)
    refine Stop.go ?_
    try simp only [Act.put, List.setIfInBounds_toArray, List.set_cons_zero, List.set_cons_succ]
    intro wi xi bi si
    try simp only [Act.put, List.setIfInBounds_toArray, List.set_cons_zero, List.set_cons_succ]
    go_wp2_with (refine wpList_putV rfl rfl 50 (.tmp 5) (.tmp 23) rfl _ #[.int .i64 0, .slice none 0 0] rfl rfl 50 _ xi sizeS rfl oneS ?_; refine Stop.on ?_)
    refine Stop.go ?_
    try simp only [Act.put, List.setIfInBounds_toArray, List.set_cons_zero, List.set_cons_succ]
    intro wm xm cm sm
    try simp only [Act.put, List.setIfInBounds_toArray, List.set_cons_zero, List.set_cons_succ]
    have HBM := Lib.hid (HB3.out.trans ((bi.trans (cm.below (B := w3.heap.size) (fun k e => by omega) (by omega))).mono HB3.out.size))
    clear xi bi si xm cm sm
    go_wp2_with fail
    refine wp_region_noPanic ?_
    refine wp_region_H (Below wm.heap.size wm) (by kernel_rfl) ?_
    have hS0 : (Below wm.heap.size wm) wm.drew := (Below.refl _ _).drew
    obtain ⟨wd, hwd⟩ : ∃ wd, wm.drew = wd := ⟨_, rfl⟩
    rw [hwd] at hS0 ⊢
    clear hwd
    refine wpAnyH_takeI (i := 0) (v := ?v13) rfl (by kernel_rfl) (by kernel_rfl) (by kernel_rfl) (fun _ _ _ h => h) (yieldsIf_run rfl (fun w' hw' => ?y13)) hS0 ?_
    case y13 => first | (go_simp; rfl) | (go_simp; done) | rfl
    simp only [Act.put, List.setIfInBounds_toArray, List.set_cons_zero, List.set_cons_succ]
    refine wpAnyH_takeI (i := 1) (v := ?v14) rfl (by kernel_rfl) (by kernel_rfl) (by kernel_rfl) (fun _ _ _ h => h) (yieldsIf_run rfl (fun w' hw' => ?y14)) hS0 ?_
    case y14 => first | (go_simp; rfl) | (go_simp; done) | rfl
    simp only [Act.put, List.setIfInBounds_toArray, List.set_cons_zero, List.set_cons_succ]
    refine wpAnyH_takeI (i := 2) (v := ?v15) rfl (by kernel_rfl) (by kernel_rfl) (by kernel_rfl) (fun _ _ _ h => h) (yieldsIf_run rfl (fun w' hw' => ?y15)) hS0 ?_
    case y15 => first | (go_simp; rfl) | (go_simp; done) | rfl
    simp only [Act.put, List.setIfInBounds_toArray, List.set_cons_zero, List.set_cons_succ]
    refine wpAnyH_takeI (i := 3) (v := undef) rfl (by kernel_rfl) (by kernel_rfl) (by kernel_rfl) (fun _ _ _ h => h) (yieldsIf_skip rfl) hS0 ?_
    simp only [Act.put, List.setIfInBounds_toArray, List.set_cons_zero, List.set_cons_succ]
    refine wpAnyH_takeI (i := 4) (v := undef) rfl (by kernel_rfl) (by kernel_rfl) (by kernel_rfl) (fun _ _ _ h => h) (yieldsIf_skip rfl) hS0 ?_
    simp only [Act.put, List.setIfInBounds_toArray, List.set_cons_zero, List.set_cons_succ]
    refine wpAnyH_takeI (i := 5) (v := undef) rfl (by kernel_rfl) (by kernel_rfl) (by kernel_rfl) (fun _ _ _ h => h) (yieldsIf_skip rfl) hS0 ?_
    simp only [Act.put, List.setIfInBounds_toArray, List.set_cons_zero, List.set_cons_succ]
    refine wpAnyH_takeI (i := 6) (v := undef) rfl (by kernel_rfl) (by kernel_rfl) (by kernel_rfl) (fun _ _ _ h => h) (yieldsIf_skip rfl) hS0 ?_
    simp only [Act.put, List.setIfInBounds_toArray, List.set_cons_zero, List.set_cons_succ]
    refine wpAnyH_takeI (i := 7) (v := undef) rfl (by kernel_rfl) (by kernel_rfl) (by kernel_rfl) (fun _ _ _ h => h) (yieldsIf_skip rfl) hS0 ?_
    simp only [Act.put, List.setIfInBounds_toArray, List.set_cons_zero, List.set_cons_succ]
    refine wpAnyH_takeI (i := 10) (v := undef) rfl (by kernel_rfl) (by kernel_rfl) (by kernel_rfl) (fun _ _ _ h => h) (yieldsIf_skip rfl) hS0 ?_
    simp only [Act.put, List.setIfInBounds_toArray, List.set_cons_zero, List.set_cons_succ]
    refine wpAnyH_takeI (i := 11) (v := undef) rfl (by kernel_rfl) (by kernel_rfl) (by kernel_rfl) (fun _ _ _ h => h) (yieldsIf_skip rfl) hS0 ?_
    simp only [Act.put, List.setIfInBounds_toArray, List.set_cons_zero, List.set_cons_succ]
    refine wpAnyH_takeI (i := 8) (v := undef) rfl (by kernel_rfl) (by kernel_rfl) (by kernel_rfl) (fun _ _ _ h => h) (yieldsIf_skip rfl) hS0 ?_
    simp only [Act.put, List.setIfInBounds_toArray, List.set_cons_zero, List.set_cons_succ]
    refine wpAnyH_takeI (i := 9) (v := undef) rfl (by kernel_rfl) (by kernel_rfl) (by kernel_rfl) (fun _ _ _ h => h) (yieldsIf_skip rfl) hS0 ?_
    simp only [Act.put, List.setIfInBounds_toArray, List.set_cons_zero, List.set_cons_succ]
    refine wpAnyH_takeI (i := 12) (v := undef) rfl (by kernel_rfl) (by kernel_rfl) (by kernel_rfl) (fun _ _ _ h => h) (yieldsIf_skip rfl) hS0 ?_
    simp only [Act.put, List.setIfInBounds_toArray, List.set_cons_zero, List.set_cons_succ]
    refine wpAnyH_takeI (i := 13) (v := undef) rfl (by kernel_rfl) (by kernel_rfl) (by kernel_rfl) (fun _ _ _ h => h) (yieldsIf_skip rfl) hS0 ?_
    simp only [Act.put, List.setIfInBounds_toArray, List.set_cons_zero, List.set_cons_succ]
    refine wpAnyH_takeI (i := 14) (v := ?v16) rfl (by kernel_rfl) (by kernel_rfl) (by kernel_rfl) (fun _ _ _ h => h) (yieldsIf_run rfl (fun w' hw' => ?y16)) hS0 ?_
    case y16 => first | (go_simp; rfl) | (go_simp; done) | rfl
    simp only [Act.put, List.setIfInBounds_toArray, List.set_cons_zero, List.set_cons_succ]
    refine wpAnyH_takeI (i := 15) (v := ?v17) rfl (by kernel_rfl) (by kernel_rfl) (by kernel_rfl) (fun _ _ _ h => h) (yieldsIf_run rfl (fun w' hw' => ?y17)) hS0 ?_
    case y17 => first | (go_simp; rfl) | (go_simp; done) | rfl
    simp only [Act.put, List.setIfInBounds_toArray, List.set_cons_zero, List.set_cons_succ]
    refine wpAnyH_done (by kernel_rfl) ?_ _
    refine NoPanic.normal ?_
    go_wp2_with fail
    exact bodyPost_ret (v := .bool true) (by simp [results, Try.results9, go_sem]) rfl ⟨rfl, HBM.out.trans (hS0.mono HBM.out.size)⟩
  case inl =>
    have HE := Lib.hid he
    have HSP := Lib.hid hsp
    have HOK := Lib.hid hok
    have HLL := Lib.hid hll
    clear he hsp hok hll
    go_wp2_with fail
    refine (rDecode_any _ b (HV.out.below HB2.out) (by have := HN.out; have := HNL.out; omega)).mono ?_
    rintro e w3 ⟨hb3, ⟨_, v', rfl, hl⟩ | ⟨he2, _⟩⟩
    case inr => exact absurd HE.out he2
    have HB3 := Lib.hid (HB2.out.trans (hb3.mono HB2.out.size))
    have HSP3 := Lib.hid (HSP.out.below hb3)
    obtain ⟨sp, hsp⟩ : ∃ sp, (decR b).sp = sp := ⟨_, rfl⟩
    rw [hsp] at HSP3 HOK HLL hl ⊢
    obtain ⟨Bu, hBu⟩ : ∃ Bu, sp.budget = Bu := ⟨_, rfl⟩
    rw [hBu]
    have HBU := Lib.hid hBu
    have henc := enc_dec_all HE.out
    rw [hsp] at henc
    have HEC := Lib.hid henc
    have hl48 := len_dec HE.out
    rw [hsp] at hl48
    have HL48 := Lib.hid hl48
    clear hl48
    obtain ⟨pa, pc, rfl⟩ := hl.form
    obtain ⟨M, hM⟩ : ∃ M, sp.ref.length = M := ⟨_, rfl⟩
    rw [hM] at hl ⊢
    have HL := Lib.hid hl
    clear hb3 HSP hsp hBu henc hl hM
    go_wp2_with (refine wpList_newV rfl (some 5) rfl 50 rfl #[.int .i64 0, .slice none 0 0] 2 (by kernel_rfl) ?_; refine Stop.on ?_)
    refine Stop.go ?_
    try simp only [Act.put, List.setIfInBounds_toArray, List.set_cons_zero, List.set_cons_succ]
    intro wi xi bi si
    try simp only [Act.put, List.setIfInBounds_toArray, List.set_cons_zero, List.set_cons_succ]
    go_wp2_with (refine wpList_putV rfl rfl 50 (.tmp 5) (.tmp 23) rfl _ #[.int .i64 Bu, .slice pa M pc] rfl rfl 50 _ xi sizeS rfl oneS ?_; refine Stop.on ?_)
    refine Stop.go ?_
    try simp only [Act.put, List.setIfInBounds_toArray, List.set_cons_zero, List.set_cons_succ]
    intro wm xm cm sm
    try simp only [Act.put, List.setIfInBounds_toArray, List.set_cons_zero, List.set_cons_succ]
    have hbm : Below w3.heap.size w3 wm := bi.trans (cm.below (B := w3.heap.size) (fun k e => by omega) (by omega))
    obtain ⟨A5, hA5⟩ : ∃ A5, w3.heap.size = A5 := ⟨_, rfl⟩
    rw [hA5] at xm ⊢
    have HBM := Lib.hid (HB3.out.trans (hbm.mono HB3.out.size))
    have HXR := Lib.hid (show ∀ w', Below wm.heap.size wm w' → w'.rangeAt A5 0 [.int .i64 Bu, .slice pa M pc] from fun w' hw' => range_block ((hw'.block _ (Array.getElem?_eq_some_iff.1 xm).1).trans xm))
    have HVW := Lib.hid (show ∀ w', Below wm.heap.size wm w' → Calls Try.prog 24 #[.pointer (some ⟨p, 0, none⟩), .agg #[.int .i64 Bu, .slice pa M pc]] w' fun e w'' => e = .returned (.bool true) ∧ Below w'.heap.size w' w'' from fun w' hw' => by
      have hbb := hbm.trans (hw'.mono hbm.size)
      have h := view_any (HSP3.out.below hbb) HOK.out (by have := HLL.out; have := HN.out; have := HNL.out; omega) _ (HL.out.below hbb)
      rw [HBU.out] at h
      exact h)
    have hel : (encS sp.budget.toNat sp.ref).length = N := by rw [HEC.out, HN.out]
    have HEN := Lib.hid (show ∀ w', Below wm.heap.size wm w' → Calls Try.prog 33 #[.pointer (some ⟨p, 0, none⟩)] w' fun e w'' => ∃ a c, e = .returned (.slice a N c) ∧ OwnL byE w'' w'.heap.size (.slice a N c) b ∧ Below w'.heap.size w' w'' from fun w' hw' => by
      have hbb := hbm.trans (hw'.mono hbm.size)
      have h := Encode_any (HSP3.out.below hbb) HOK.out (by have h1 := HL48.out; have h2 := HNL.out; have h3 := HN.out; omega)
      rw [hel, HEC.out] at h
      exact h)
    obtain ⟨tb, htb⟩ : ∃ tb : ByteArray, (⟨b.toArray⟩ : ByteArray) = tb := ⟨_, rfl⟩
    have HLE := Lib.hid htb
    have HS11 := Lib.hid (show ∀ w', Below wm.heap.size wm w' → (convert 22 9 (.slice va N vc)).run Try.prog w' = .ok (.string tb) w' from fun w' hw' => by
      have h := (bytesAt_of (HV.out.below (HBM.out.trans (hw'.mono HBM.out.size)))).str
      rw [htb] at h
      exact h)
    clear xi bi si xm cm sm hbm hel htb hA5
    go_wp2_with fail
    refine wp_region_noPanic ?_
    refine wp_region_H (Below wm.heap.size wm) (by kernel_rfl) ?_
    have hS0 : (Below wm.heap.size wm) wm.drew := (Below.refl _ _).drew
    obtain ⟨wd, hwd⟩ : ∃ wd, wm.drew = wd := ⟨_, rfl⟩
    rw [hwd] at hS0 ⊢
    clear hwd
    refine wpAnyH_takeI (i := 0) (v := ?v1) rfl (by kernel_rfl) (by kernel_rfl) (by kernel_rfl) (fun _ _ _ h => h) (yieldsIf_run rfl (fun w' hw' => ?y1)) hS0 ?_
    case y1 => first | (go_simp; rfl) | (go_simp; done) | rfl
    simp only [Act.put, List.setIfInBounds_toArray, List.set_cons_zero, List.set_cons_succ]
    refine wpAnyH_takeI (i := 1) (v := ?v2) rfl (by kernel_rfl) (by kernel_rfl) (by kernel_rfl) (fun _ _ _ h => h) (yieldsIf_run rfl (fun w' hw' => ?y2)) hS0 ?_
    case y2 => first | (go_simp; rfl) | (go_simp; done) | rfl
    simp only [Act.put, List.setIfInBounds_toArray, List.set_cons_zero, List.set_cons_succ]
    refine wpAnyH_takeI (i := 2) (v := ?v3) rfl (by kernel_rfl) (by kernel_rfl) (by kernel_rfl) (fun _ _ _ h => h) (yieldsIf_run rfl (fun w' hw' => ?y3)) hS0 ?_
    case y3 => first | (go_simp; rfl) | (go_simp; done) | rfl
    simp only [Act.put, List.setIfInBounds_toArray, List.set_cons_zero, List.set_cons_succ]
    refine wpAnyH_takeI (i := 3) (v := ?v4) rfl (by kernel_rfl) (by kernel_rfl) (by kernel_rfl) (fun _ _ _ h => h) (yieldsIf_want rfl (fun w' hw' => ?y4)) hS0 ?_
    case y4 => first | (go_simp; rfl) | (go_simp; done) | rfl
    simp only [Act.put, List.setIfInBounds_toArray, List.set_cons_zero, List.set_cons_succ]
    refine wpAnyH_takeI (i := 4) (v := .agg ([.int .i64 Bu, .slice pa M pc]).toArray) rfl (by kernel_rfl) (by kernel_rfl) (by kernel_rfl) (fun _ _ _ h => h) (yieldsIf_load_mid rfl 50 (.tmp 5) rfl A5 0 rfl ([.int .i64 Bu, .slice pa M pc]) _ (fun w' hw' => HXR.out w' hw') Try.underlying50 rfl sizeSL) hS0 ?_
    simp only [Act.put, List.setIfInBounds_toArray, List.set_cons_zero, List.set_cons_succ]
    refine wpAnyH_want (i := 5) (by kernel_rfl) rfl rfl (fun K hK => ?_)
    go_simp
    go_at_call 24
    refine (HVW.out _ hS0).mono ?_
    rintro e wv ⟨rfl, hbwv⟩
    have hSwv := hS0.trans (hbwv.mono hS0.size)
    refine hK _ _ (hSwv) ?_
    clear hK K
    try simp only [Act.put, List.setIfInBounds_toArray, List.set_cons_zero, List.set_cons_succ]
    refine wpAnyH_takeI (i := 6) (v := ?v5) rfl (by kernel_rfl) (by kernel_rfl) (by kernel_rfl) (fun _ _ _ h => h) (yieldsIf_want rfl (fun w' hw' => ?y5)) hSwv ?_
    case y5 => first | (go_simp; rfl) | (go_simp; done) | rfl
    simp only [Act.put, List.setIfInBounds_toArray, List.set_cons_zero, List.set_cons_succ]
    refine wpAnyH_takeI (i := 7) (v := ?v6) rfl (by kernel_rfl) (by kernel_rfl) (by kernel_rfl) (fun _ _ _ h => h) (yieldsIf_want rfl (fun w' hw' => ?y6)) hSwv ?_
    case y6 => first | (go_simp; rfl) | (go_simp; done) | rfl
    simp only [Act.put, List.setIfInBounds_toArray, List.set_cons_zero, List.set_cons_succ]
    refine wpAnyH_takeI (i := 10) (v := ?v7) rfl (by kernel_rfl) (by kernel_rfl) (by kernel_rfl) (fun _ _ _ h => h) (yieldsIf_want rfl (fun w' hw' => ?y7)) hSwv ?_
    case y7 => first | (go_simp; rfl) | (go_simp; done) | rfl
    simp only [Act.put, List.setIfInBounds_toArray, List.set_cons_zero, List.set_cons_succ]
    refine wpAnyH_takeI (i := 11) (v := .string tb) rfl (by kernel_rfl) (by kernel_rfl) (by kernel_rfl) (fun _ _ _ h => h) (yieldsIf_want rfl (fun w' hw' => ?y8)) hSwv ?_
    case y8 => (have hs11 := HS11.out w' hw'; clear hw'; first | (go_simp; rfl) | (go_simp; done))
    simp only [Act.put, List.setIfInBounds_toArray, List.set_cons_zero, List.set_cons_succ]
    refine wpAnyH_want (i := 8) (by kernel_rfl) rfl rfl (fun K hK => ?_)
    go_simp
    go_at_call 33
    refine (HEN.out _ hSwv).mono ?_
    rintro e wx ⟨ea, ec, rfl, hoe, hbwx⟩
    have hSwx := hSwv.trans (hbwx.mono hSwv.size)
    have hs9 := (bytesAt_of hoe.at_).str
    rw [HLE.out] at hs9
    refine hK _ _ (hSwx) ?_
    clear hK K
    try simp only [Act.put, List.setIfInBounds_toArray, List.set_cons_zero, List.set_cons_succ]
    refine wpAnyH_want (i := 9) (by kernel_rfl) rfl rfl (fun K hK => ?_)
    go_simp
    refine hK _ _ (hSwx) ?_
    clear hK K
    try simp only [Act.put, List.setIfInBounds_toArray, List.set_cons_zero, List.set_cons_succ]
    refine wpAnyH_takeI (i := 12) (v := ?v9) rfl (by kernel_rfl) (by kernel_rfl) (by kernel_rfl) (fun _ _ _ h => h) (yieldsIf_want rfl (fun w' hw' => ?y9)) hSwx ?_
    case y9 => first | (go_simp; rfl) | (go_simp; done) | rfl
    simp only [Act.put, List.setIfInBounds_toArray, List.set_cons_zero, List.set_cons_succ]
    refine wpAnyH_takeI (i := 13) (v := ?v10) rfl (by kernel_rfl) (by kernel_rfl) (by kernel_rfl) (fun _ _ _ h => h) (yieldsIf_want rfl (fun w' hw' => ?y10)) hSwx ?_
    case y10 => first | (go_simp; rfl) | (go_simp; done) | rfl
    simp only [Act.put, List.setIfInBounds_toArray, List.set_cons_zero, List.set_cons_succ]
    refine wpAnyH_takeI (i := 14) (v := ?v11) rfl (by kernel_rfl) (by kernel_rfl) (by kernel_rfl) (fun _ _ _ h => h) (yieldsIf_run rfl (fun w' hw' => ?y11)) hSwx ?_
    case y11 => first | (go_simp; rfl) | (go_simp; done) | rfl
    simp only [Act.put, List.setIfInBounds_toArray, List.set_cons_zero, List.set_cons_succ]
    refine wpAnyH_takeI (i := 15) (v := ?v12) rfl (by kernel_rfl) (by kernel_rfl) (by kernel_rfl) (fun _ _ _ h => h) (yieldsIf_run rfl (fun w' hw' => ?y12)) hSwx ?_
    case y12 => first | (go_simp; rfl) | (go_simp; done) | rfl
    simp only [Act.put, List.setIfInBounds_toArray, List.set_cons_zero, List.set_cons_succ]
    refine wpAnyH_done (by kernel_rfl) ?_ _
    refine NoPanic.normal ?_
    go_wp2_with fail
    exact bodyPost_ret (v := .bool true) (by simp [results, Try.results9, go_sem]) rfl ⟨rfl, HBM.out.trans (hSwx.mono HBM.out.size)⟩
theorem fm_eq : ∀ (L : List ArtD), (L.flatMap (fun x => encA (toR x))).length = 48 * L.length + (L.map (·.text.size)).sum
  | [] => rfl
  | x :: L => by
    have h3 : (toR x).text.size = x.text.size := rfl
    rw [List.flatMap_cons, List.length_append, encA_length, h3, fm_eq L, List.length_cons, List.map_cons, List.sum_cons]
    omega
theorem step_idz {S : SpD} (o : OpD) (h : ∀ a ∈ S.list, a.id ≠ z32) : ∀ a ∈ (stepS S o).list, a.id ≠ z32 := by
  unfold stepS
  split
  · unfold putS
    split
    · rename_i hc
      intro a ha
      rcases List.mem_append.1 ha with ha | ha
      · exact h a ha
      · obtain rfl := List.mem_singleton.1 ha
        intro e
        unfold putC at hc
        rw [if_pos (.inl e)] at hc
        cases hc
    · exact h
  · split
    · intro a ha
      refine h a ?_
      unfold rmS at ha
      split at ha
      · exact List.mem_of_mem_eraseP ha
      · exact ha
    · exact h
theorem run_idz : ∀ (l : List OpD) (S : SpD), (∀ a ∈ S.list, a.id ≠ z32) → ∀ a ∈ (runS S l).list, a.id ≠ z32
  | [], _, h => h
  | o :: l, S, h => run_idz l (stepS S o) (step_idz o h)
set_option maxRecDepth 100000 in
set_option maxHeartbeats 2000000 in
theorem Encode_law {w : World} (budget : Int) (hb0 : 0 ≤ budget ∧ budget ≤ 255) (v : Value) (L : List OpD) (hv : ListAt opE w v L) :
    Calls Try.prog 11 #[.int .u8 budget, v] w fun e w' => e = .returned (.bool true) ∧ Below w.heap.size w w' := by
  obtain ⟨r, hr⟩ : ∃ r, smallB L = r := ⟨_, rfl⟩
  have HSM := Lib.hid (show ∀ w', Below w.heap.size w w' → Calls Try.prog 16 #[v] w' fun e w'' => e = .returned (.bool r) ∧ Below w'.heap.size w' w'' from fun w' hb => by
    have h := small_any v L (hv.below hb)
    rw [hr] at h
    exact h)
  have HRUN := Lib.hid (show r = true → ∀ w', Below w.heap.size w w' → Calls Try.prog 23 #[.int .i64 (1 + budget), v] w' (RunPost w' (1 + budget) L) from fun h w' hb => run_any stableOk_forty (1 + budget) v L (hv.below hb) (small_len (hr.trans h)) (by decide))
  have HLEN := Lib.hid (show r = true → L.length ≤ 40 from fun h => small_len (hr.trans h))
  obtain ⟨va, vc, rfl⟩ := hv.form
  obtain ⟨N, hN⟩ : ∃ N, L.length = N := ⟨_, rfl⟩
  rw [hN] at HSM HRUN ⊢
  obtain ⟨hlo, hhi⟩ := hb0
  clear hr hv
  go_enter Try.func11, Try.ntmps11
  go_wp2_with fail
  refine known_any.mono ?_
  rintro e w1 ⟨rfl, hb⟩
  have HB1 := Lib.hid (hb)
  clear hb
  go_wp2_with fail
  refine (HSM.out w1 HB1.out).mono ?_
  rintro e w2 ⟨rfl, hb⟩
  have HB2 := Lib.hid (HB1.out.trans (hb.mono HB1.out.size))
  clear hb
  cases r
  case false =>
    go_wp2_with fail
    refine known_any.mono ?_
    rintro e w3 ⟨rfl, hb⟩
    have HB3 := Lib.hid (HB2.out.trans (hb.mono HB2.out.size))
    clear hb
    go_wp2_with fail
    exact bodyPost_ret (v := .bool true) (by simp [results, Try.results11, go_sem]) rfl ⟨rfl, HB3.out⟩
  case true =>
    go_wp2_with fail
    refine (HRUN.out trivial w2 HB2.out).mono ?_
    rintro e w3 ⟨hb, ⟨h1, h2, b, m, v', rfl, hb1, hm1, hs, hl⟩ | ⟨h, _⟩⟩
    case inr => exact absurd ⟨by omega, by omega⟩ h
    obtain ⟨n, hn⟩ : ∃ n, 1 + budget = n := ⟨_, rfl⟩
    rw [hn] at h1 h2 hs hl ⊢
    have HB3 := Lib.hid (HB2.out.trans (hb.mono HB2.out.size))
    have hro := run_ok L ⟨n, 0, []⟩ (ok_new h1 h2)
    have hiz := run_idz L ⟨n, 0, []⟩ (fun a ha => by cases ha)
    obtain ⟨S, hS⟩ : ∃ S, runS ⟨n, 0, []⟩ L = S := ⟨_, rfl⟩
    rw [hS] at hs hl hro hiz
    have hlen : S.list.length ≤ 40 := by have h1 := hro.2.2.2; have h2 := HLEN.out trivial; simp only [List.length_nil, Nat.zero_add] at h1; omega
    have HS := Lib.hid hs
    have HRO := Lib.hid hro
    have HIZ := Lib.hid hiz
    have HLN := Lib.hid hlen
    have HND := Lib.hid (show (S.list.map (·.id)).Nodup from by
      have h := hs.hm.nodup
      unfold SpD.kl at h
      rw [List.map_map] at h
      exact h)
    obtain ⟨pa, pc, rfl⟩ := hl.form
    obtain ⟨M, hM⟩ : ∃ M, S.ref.length = M := ⟨_, rfl⟩
    rw [hM] at hl ⊢
    have HL := Lib.hid hl
    have HN := Lib.hid hn
    clear hb hs hl hro hiz hlen hS hM hn
    go_wp2_with (refine wpList_newV rfl (some 6) rfl 50 rfl #[.int .i64 0, .slice none 0 0] 2 (by kernel_rfl) ?_; refine Stop.on ?_)
    refine Stop.go ?_
    try simp only [Act.put, List.setIfInBounds_toArray, List.set_cons_zero, List.set_cons_succ]
    intro wi xi bi si
    try simp only [Act.put, List.setIfInBounds_toArray, List.set_cons_zero, List.set_cons_succ]
    go_wp2_with (refine wpList_putV rfl rfl 50 (.tmp 6) (.tmp 26) rfl _ #[.int .i64 n, .slice pa M pc] rfl rfl 50 _ xi sizeS rfl oneS ?_; refine Stop.on ?_)
    refine Stop.go ?_
    try simp only [Act.put, List.setIfInBounds_toArray, List.set_cons_zero, List.set_cons_succ]
    intro wm xm cm sm
    try simp only [Act.put, List.setIfInBounds_toArray, List.set_cons_zero, List.set_cons_succ]
    have hbm : Below w3.heap.size w3 wm := bi.trans (cm.below (B := w3.heap.size) (fun k e => by omega) (by omega))
    obtain ⟨A6, hA6⟩ : ∃ A6, w3.heap.size = A6 := ⟨_, rfl⟩
    rw [hA6] at xm ⊢
    have HBM := Lib.hid (HB3.out.trans (hbm.mono HB3.out.size))
    have HXM := Lib.hid xm
    have HSM2 := Lib.hid (HS.out.below hbm)
    have HLM := Lib.hid (HL.out.below hbm)
    have henc := Encode_any (HS.out.below hbm) HRO.out.1 (by have := HLN.out; omega)
    obtain ⟨b0, hb0⟩ : ∃ b0, encS S.budget.toNat S.ref = b0 := ⟨_, rfl⟩
    rw [hb0] at henc
    obtain ⟨T, hT⟩ : ∃ T, b0.length = T := ⟨_, rfl⟩
    rw [hT] at henc
    have HENC := Lib.hid henc
    have hall := dec_enc_all HRO.out.1 HIZ.out HND.out (by have := HLN.out; omega)
    have hfl : b0.length < 3000 := by
      have h1 := eQ_all (S := S)
      have h2 := fm_eq S.list
      have h3 : (((S.list.map (·.text.size)).sum : Nat) : Int) ≤ S.budget := HRO.out.1.sz
      have h4 : S.budget = n := HRO.out.2.1
      have h5 := HN.out
      rw [hb0] at h1
      rw [← h1]
      unfold eQ
      rw [List.length_append, List.length_append, be8_length, be8_length]
      have := HLN.out
      omega
    rw [hb0] at hall
    have HALL := Lib.hid hall
    have HFL := Lib.hid hfl
    have HT := Lib.hid hT
    have HB0 := Lib.hid hb0
    clear xi bi si xm cm sm henc hall hfl hT hb0 hbm hA6
    go_wp2_with fail
    refine HENC.out.mono ?_
    rintro e w4 ⟨ea, ec, rfl, ho, hb4⟩
    have HO := Lib.hid ho.at_
    have HB4 := Lib.hid hb4
    clear ho hb4
    go_wp2_with fail
    refine (Decode_any _ b0 HO.out (by have h1 := HFL.out; omega)).mono ?_
    rintro e wt ⟨hb5, ⟨_, p, q, rfl, hp, hq, hsp, hok, hll⟩ | ⟨he, _⟩⟩
    case inr => exact absurd HALL.out.1 he
    have hbt := HB4.out.trans (hb5.mono HB4.out.size)
    obtain ⟨sp, hspe⟩ : ∃ sp, (decR b0).sp = sp := ⟨_, rfl⟩
    rw [hspe] at hsp hok hll
    have hal := HALL.out
    rw [hspe] at hal
    have hnb : S.budget = n := HRO.out.2.1
    have HBT := Lib.hid (HBM.out.trans (hbt.mono HBM.out.size))
    have HXR := Lib.hid (show ∀ w', Below wt.heap.size wt w' → w'.rangeAt A6 0 [.int .i64 n, .slice pa M pc] from fun w' hw' => by
      have hx := ((hbt.trans (hw'.mono hbt.size)).block _ (Array.getElem?_eq_some_iff.1 HXM.out).1).trans HXM.out
      exact range_block hx)
    have hspl : sp.list.length ≤ 40 := by
      have h1 := congrArg List.length hal.2.1
      rw [ref_length, ref_length] at h1
      have := HLN.out
      omega
    have HVW := Lib.hid (show ∀ w', Below wt.heap.size wt w' → Calls Try.prog 24 #[.pointer (some ⟨p, 0, none⟩), .agg #[.int .i64 n, .slice pa M pc]] w' fun e w'' => e = .returned (.bool true) ∧ Below w'.heap.size w' w'' from fun w' hw' => by
      have h := view_any (hsp.below hw') hok (by omega) _ (by rw [hal.2.1]; exact HLM.out.below (hbt.trans (hw'.mono hbt.size)))
      rw [hal.2.2, hnb] at h
      exact h)
    have HEQ := Lib.hid (show ∀ w', Below wt.heap.size wt w' → Calls Try.prog 29 #[.pointer (some ⟨p, 0, none⟩), .pointer (some ⟨b, 0, none⟩)] w' fun e w'' => e = .returned (.bool true) ∧ Below w'.heap.size w' w'' from fun w' hw' => by
      have h := Equal_any (hsp.below hw') (HSM2.out.below (hbt.trans (hw'.mono hbt.size))) hok HRO.out.1 (by omega) (by have := HLN.out; omega)
      rw [decide_eq_true ⟨hal.2.2, hal.2.1⟩] at h
      exact h)
    have HRE := Lib.hid (show ∀ w', Below wt.heap.size wt w' → Calls Try.prog 35 #[.agg #[.int .i64 n, .slice pa M pc]] w' fun e w'' => ∃ a c, e = .returned (.slice a T c) ∧ OwnL byE w'' w'.heap.size (.slice a T c) b0 ∧ Below w'.heap.size w' w'' from fun w' hw' => by
      have hn0 : ((n.toNat : Nat) : Int) = n := by omega
      have h := rEncode_any n.toNat (.slice pa M pc) S.ref (HLM.out.below (hbt.trans (hw'.mono hbt.size))) (by omega) (by rw [ref_length]; have := HLN.out; omega) (fun a ha => by
        obtain ⟨y, hy, rfl⟩ := List.mem_map.1 ha
        have h1 := HRO.out.1.ar y hy
        exact ⟨h1.1, by show y.arr < _; omega⟩) (by rw [← hnb, HB0.out]; have := HFL.out; omega)
      rw [hn0, ← hnb, HB0.out, HT.out, hnb] at h
      exact h)
    obtain ⟨tb, htb⟩ : ∃ tb : ByteArray, (⟨b0.toArray⟩ : ByteArray) = tb := ⟨_, rfl⟩
    have HTB := Lib.hid htb
    have HS1 := Lib.hid (show ∀ w', Below wt.heap.size wt w' → (convert 22 9 (.slice ea T ec)).run Try.prog w' = .ok (.string tb) w' from fun w' hw' => by
      have h := (bytesAt_of (HO.out.below (hb5.trans (hw'.mono hb5.size)))).str
      rw [htb] at h
      exact h)
    clear hb5 hsp hok hll hbt hspe hal hnb hspl htb h1 h2
    go_wp2_with fail
    refine wp_region_noPanic ?_
    refine wp_region_H (Below wt.heap.size wt) (by kernel_rfl) ?_
    have hS0 : (Below wt.heap.size wt) wt.drew := (Below.refl _ _).drew
    obtain ⟨wd, hwd⟩ : ∃ wd, wt.drew = wd := ⟨_, rfl⟩
    rw [hwd] at hS0 ⊢
    clear hwd
    refine wpAnyH_takeI (i := 0) (v := ?v18) rfl (by kernel_rfl) (by kernel_rfl) (by kernel_rfl) (fun _ _ _ h => h) (yieldsIf_run rfl (fun w' hw' => ?y18)) hS0 ?_
    case y18 => first | (go_simp; rfl) | (go_simp; done) | rfl
    simp only [Act.put, List.setIfInBounds_toArray, List.set_cons_zero, List.set_cons_succ]
    refine wpAnyH_takeI (i := 1) (v := .string tb) rfl (by kernel_rfl) (by kernel_rfl) (by kernel_rfl) (fun _ _ _ h => h) (yieldsIf_run rfl (fun w' hw' => ?y19)) hS0 ?_
    case y19 => (have hs1 := HS1.out w' hw'; clear hw'; first | (go_simp; rfl) | (go_simp; done))
    simp only [Act.put, List.setIfInBounds_toArray, List.set_cons_zero, List.set_cons_succ]
    refine wpAnyH_takeI (i := 2) (v := .agg ([.int .i64 n, .slice pa M pc]).toArray) rfl (by kernel_rfl) (by kernel_rfl) (by kernel_rfl) (fun _ _ _ h => h) (yieldsIf_load_mid rfl 50 (.tmp 6) rfl A6 0 rfl ([.int .i64 n, .slice pa M pc]) _ (fun w' hw' => HXR.out w' hw') Try.underlying50 rfl sizeSL) hS0 ?_
    simp only [Act.put, List.setIfInBounds_toArray, List.set_cons_zero, List.set_cons_succ]
    refine wpAnyH_do (i := 3) (by kernel_rfl) rfl rfl (fun K hK => ?_)
    go_simp
    go_at_call 35
    refine (HRE.out _ hS0).mono ?_
    rintro e wx ⟨ea, ec, rfl, hoe, hbwx⟩
    have hSwx := hS0.trans (hbwx.mono hS0.size)
    have hs9 := (bytesAt_of hoe.at_).str
    rw [HTB.out] at hs9
    refine hK _ _ (hSwx) ?_
    clear hK K
    try simp only [Act.put, List.setIfInBounds_toArray, List.set_cons_zero, List.set_cons_succ]
    refine wpAnyH_do (i := 4) (by kernel_rfl) rfl rfl (fun K hK => ?_)
    go_simp
    refine hK _ _ (hSwx) ?_
    clear hK K
    try simp only [Act.put, List.setIfInBounds_toArray, List.set_cons_zero, List.set_cons_succ]
    refine wpAnyH_takeI (i := 5) (v := ?v20) rfl (by kernel_rfl) (by kernel_rfl) (by kernel_rfl) (fun _ _ _ h => h) (yieldsIf_run rfl (fun w' hw' => ?y20)) hSwx ?_
    case y20 => first | (go_simp; rfl) | (go_simp; done) | rfl
    simp only [Act.put, List.setIfInBounds_toArray, List.set_cons_zero, List.set_cons_succ]
    refine wpAnyH_takeI (i := 6) (v := ?v21) rfl (by kernel_rfl) (by kernel_rfl) (by kernel_rfl) (fun _ _ _ h => h) (yieldsIf_run rfl (fun w' hw' => ?y21)) hSwx ?_
    case y21 => first | (go_simp; rfl) | (go_simp; done) | rfl
    simp only [Act.put, List.setIfInBounds_toArray, List.set_cons_zero, List.set_cons_succ]
    refine wpAnyH_takeI (i := 7) (v := ?v22) rfl (by kernel_rfl) (by kernel_rfl) (by kernel_rfl) (fun _ _ _ h => h) (yieldsIf_want rfl (fun w' hw' => ?y22)) hSwx ?_
    case y22 => first | (go_simp; rfl) | (go_simp; done) | rfl
    simp only [Act.put, List.setIfInBounds_toArray, List.set_cons_zero, List.set_cons_succ]
    refine wpAnyH_takeI (i := 8) (v := ?v23) rfl (by kernel_rfl) (by kernel_rfl) (by kernel_rfl) (fun _ _ _ h => h) (yieldsIf_want rfl (fun w' hw' => ?y23)) hSwx ?_
    case y23 => first | (go_simp; rfl) | (go_simp; done) | rfl
    simp only [Act.put, List.setIfInBounds_toArray, List.set_cons_zero, List.set_cons_succ]
    refine wpAnyH_takeI (i := 9) (v := ?v24) rfl (by kernel_rfl) (by kernel_rfl) (by kernel_rfl) (fun _ _ _ h => h) (yieldsIf_run rfl (fun w' hw' => ?y24)) hSwx ?_
    case y24 => first | (go_simp; rfl) | (go_simp; done) | rfl
    simp only [Act.put, List.setIfInBounds_toArray, List.set_cons_zero, List.set_cons_succ]
    refine wpAnyH_takeI (i := 10) (v := ?v25) rfl (by kernel_rfl) (by kernel_rfl) (by kernel_rfl) (fun _ _ _ h => h) (yieldsIf_run rfl (fun w' hw' => ?y25)) hSwx ?_
    case y25 => first | (go_simp; rfl) | (go_simp; done) | rfl
    simp only [Act.put, List.setIfInBounds_toArray, List.set_cons_zero, List.set_cons_succ]
    refine wpAnyH_takeI (i := 11) (v := ?v26) rfl (by kernel_rfl) (by kernel_rfl) (by kernel_rfl) (fun _ _ _ h => h) (yieldsIf_want rfl (fun w' hw' => ?y26)) hSwx ?_
    case y26 => first | (go_simp; rfl) | (go_simp; done) | rfl
    simp only [Act.put, List.setIfInBounds_toArray, List.set_cons_zero, List.set_cons_succ]
    refine wpAnyH_takeI (i := 12) (v := ?v27) rfl (by kernel_rfl) (by kernel_rfl) (by kernel_rfl) (fun _ _ _ h => h) (yieldsIf_want rfl (fun w' hw' => ?y27)) hSwx ?_
    case y27 => first | (go_simp; rfl) | (go_simp; done) | rfl
    simp only [Act.put, List.setIfInBounds_toArray, List.set_cons_zero, List.set_cons_succ]
    refine wpAnyH_want (i := 13) (by kernel_rfl) rfl rfl (fun K hK => ?_)
    go_simp
    go_at_call 29
    refine (HEQ.out _ hSwx).mono ?_
    rintro e wq ⟨rfl, hbwq⟩
    have hSwq := hSwx.trans (hbwq.mono hSwx.size)
    refine hK _ _ (hSwq) ?_
    clear hK K
    try simp only [Act.put, List.setIfInBounds_toArray, List.set_cons_zero, List.set_cons_succ]
    refine wpAnyH_takeI (i := 14) (v := ?v28) rfl (by kernel_rfl) (by kernel_rfl) (by kernel_rfl) (fun _ _ _ h => h) (yieldsIf_run rfl (fun w' hw' => ?y28)) hSwq ?_
    case y28 => first | (go_simp; rfl) | (go_simp; done) | rfl
    simp only [Act.put, List.setIfInBounds_toArray, List.set_cons_zero, List.set_cons_succ]
    refine wpAnyH_takeI (i := 15) (v := ?v29) rfl (by kernel_rfl) (by kernel_rfl) (by kernel_rfl) (fun _ _ _ h => h) (yieldsIf_run rfl (fun w' hw' => ?y29)) hSwq ?_
    case y29 => first | (go_simp; rfl) | (go_simp; done) | rfl
    simp only [Act.put, List.setIfInBounds_toArray, List.set_cons_zero, List.set_cons_succ]
    refine wpAnyH_takeI (i := 16) (v := ?v30) rfl (by kernel_rfl) (by kernel_rfl) (by kernel_rfl) (fun _ _ _ h => h) (yieldsIf_want rfl (fun w' hw' => ?y30)) hSwq ?_
    case y30 => first | (go_simp; rfl) | (go_simp; done) | rfl
    simp only [Act.put, List.setIfInBounds_toArray, List.set_cons_zero, List.set_cons_succ]
    refine wpAnyH_takeI (i := 17) (v := .agg ([.int .i64 n, .slice pa M pc]).toArray) rfl (by kernel_rfl) (by kernel_rfl) (by kernel_rfl) (fun _ _ _ h => h) (yieldsIf_load_mid rfl 50 (.tmp 6) rfl A6 0 rfl ([.int .i64 n, .slice pa M pc]) _ (fun w' hw' => HXR.out w' hw') Try.underlying50 rfl sizeSL) hSwq ?_
    simp only [Act.put, List.setIfInBounds_toArray, List.set_cons_zero, List.set_cons_succ]
    refine wpAnyH_want (i := 18) (by kernel_rfl) rfl rfl (fun K hK => ?_)
    go_simp
    go_at_call 24
    refine (HVW.out _ hSwq).mono ?_
    rintro e wv ⟨rfl, hbwv⟩
    have hSwv := hSwq.trans (hbwv.mono hSwq.size)
    refine hK _ _ (hSwv) ?_
    clear hK K
    try simp only [Act.put, List.setIfInBounds_toArray, List.set_cons_zero, List.set_cons_succ]
    refine wpAnyH_takeI (i := 19) (v := ?v31) rfl (by kernel_rfl) (by kernel_rfl) (by kernel_rfl) (fun _ _ _ h => h) (yieldsIf_run rfl (fun w' hw' => ?y31)) hSwv ?_
    case y31 => first | (go_simp; rfl) | (go_simp; done) | rfl
    simp only [Act.put, List.setIfInBounds_toArray, List.set_cons_zero, List.set_cons_succ]
    refine wpAnyH_takeI (i := 20) (v := ?v32) rfl (by kernel_rfl) (by kernel_rfl) (by kernel_rfl) (fun _ _ _ h => h) (yieldsIf_run rfl (fun w' hw' => ?y32)) hSwv ?_
    case y32 => first | (go_simp; rfl) | (go_simp; done) | rfl
    simp only [Act.put, List.setIfInBounds_toArray, List.set_cons_zero, List.set_cons_succ]
    refine wpAnyH_done (by kernel_rfl) ?_ _
    refine NoPanic.normal ?_
    go_wp2_with fail
    exact bodyPost_ret (v := .bool true) (by simp [results, Try.results11, go_sem]) rfl ⟨rfl, HBT.out.trans (hSwv.mono HBT.out.size)⟩
end Go.Proofs.Ytnmdgjodbikndaa
