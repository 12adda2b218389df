/- The model's check says what Check says. -/
import Derived.Test.YthfinofmbnfijaaTh15
namespace Go.Proofs.Ythfinofmbnfijaa
open Go.Shelf Go.RowKit Go.Lib Go.Sort
set_option linter.unusedVariables false
set_option linter.unusedSimpArgs false

def hdP : List Nat → Int
  | [] => -1
  | q :: _ => (q : Int)
/-- The path is the chain of parents. -/
def ChainP (L : List NodeV) : List Nat → Prop
  | [] => True
  | q :: Q => (L[q]?).map (·.parent) = some (hdP Q) ∧ hdP Q < (q : Int) ∧ ChainP L Q
theorem chain_pop {L : List NodeV} (p : Int) : ∀ {P : List Nat}, ChainP L P → ChainP L (popL p P)
  | [], _ => trivial
  | q :: Q, h => by
    rw [popL_cons]
    split
    · exact h
    · exact chain_pop p h.2.2
theorem hd_pop {p : Int} : ∀ {P : List Nat}, popL p P ≠ [] → hdP (popL p P) = p
  | [], h => absurd rfl h
  | q :: Q, h => by
    rw [popL_cons] at h ⊢
    by_cases e : (q : Int) = p
    · rw [if_pos e]; exact e
    · rw [if_neg e] at h ⊢
      exact hd_pop h
theorem pop_neg : ∀ (P : List Nat), popL (-1) P = []
  | [] => rfl
  | q :: Q => by
    rw [popL_cons, if_neg (by omega)]
    exact pop_neg Q
set_option maxRecDepth 100000 in
set_option maxHeartbeats 2000000 in
theorem check_any {w : World} (v : Value) (L : List NodeV) (hv : ListAt nodeE w v L) (hl : L.length < 1000000) : Calls Try.prog 21 #[v] w fun e w' => e = .returned (.int .i64 (checkP L)) ∧ Below w.heap.size w w' := by
  obtain ⟨va, vc, rfl⟩ := hv.form
  obtain ⟨N, hN⟩ : ∃ N, L.length = N := ⟨_, rfl⟩
  obtain ⟨R, hR⟩ : ∃ R, checkP L = R := ⟨_, rfl⟩
  rw [hN] at hv hl ⊢
  rw [hR]
  have HV := Lib.hid hv
  have HN := Lib.hid hN
  have HR0 := Lib.hid (show chkGo L (N - 0) 0 [] = R by rw [← hR]; unfold checkP; rw [hN]; rfl)
  have HI0 := Lib.hid (show ChkInv L 0 [] from ⟨fun j _ h => absurd h (Nat.not_lt_zero j), fun j h => by cases h⟩)
  have HB0 := Lib.hid (Below.refl w.heap.size w)
  clear hv hN hR
  go_enter Try.func21, Try.ntmps21
  go_wp2_with fail
  go_loopw [3] (fun iv wr => ∃ (i : Nat) (P : List Nat), i ≤ N ∧ iv = .int .i64 (i : Int) ∧ Hid (chkGo L (N - i) i P = R) ∧ Hid (ChainP L P) ∧ Hid (hdP P = (i : Int) - 1) ∧ Hid (ChkInv L i P) ∧ Hid (Below w.heap.size w wr)) (fun iv _ => N - (intOf iv).toNat)
  case atStart => exact ⟨0, [], Nat.zero_le _, rfl, HR0, Lib.hid trivial, Lib.hid rfl, HI0, HB0⟩
  case round =>
    obtain ⟨i, P, hi, rfl, HRI, HCH, HHD, HI, HB⟩ := hrel
    obtain ⟨W0, rfl⟩ : ∃ W0, W0 = wr := ⟨_, rfl⟩
    clear HR0 HI0 HB0
    by_cases hlt : i < N
    case neg =>
      obtain rfl : i = N := by omega
      have h1 := HRI.out
      rw [Nat.sub_self] at h1
      have h2 : (0 : Int) = R := h1
      subst h2
      go_wp2_with fail
      exact bodyPost_ret (v := .int .i64 0) (by simp [results, Try.results21, go_sem]) rfl ⟨rfl, HB.out⟩
    have hiL : i < L.length := by rw [HN.out]; exact hlt
    obtain ⟨g, off, eva, hg, hrr⟩ := (HV.out.below HB.out).get hiL
    subst eva
    obtain ⟨n, hn⟩ : ∃ n, L[i] = n := ⟨_, rfl⟩
    rw [hn] at hrr
    have HRR := Lib.hid (show W0.rangeAt g (off + i * 35) n.cells from hrr)
    have HNI := Lib.hid hn
    have hstep := HRI.out
    rw [show N - i = (N - (i + 1)) + 1 by omega] at hstep
    unfold chkGo at hstep
    rw [List.getElem?_eq_getElem hiL, hn] at hstep
    dsimp only at hstep
    have HST := Lib.hid hstep
    clear hrr hn hg hstep HRI
    refine hide_postT ?_
    intro Q3 HQ3
    go_wp2_with (with_reducible refine wpList_load_mid rfl 37 (.tmp 15) rfl g (off + i * 35) rfl n.cells _ HRR.out Try.underlying37 rfl (sizeNode n) ?_; refine Stop.on ?_)
    refine Stop.go ?_
    try simp only [Act.put, List.setIfInBounds_toArray, List.set_cons_zero, List.set_cons_succ]
    go_wp2_with (refine wpList_newV rfl (some 4) rfl 37 rfl (NodeV.cells ⟨z32, 0, 0, 0⟩).toArray 35 (by kernel_rfl) ?_; refine Stop.on ?_)
    refine Stop.go ?_
    try simp only [Act.put, List.setIfInBounds_toArray, List.set_cons_zero, List.set_cons_succ]
    intro wn xn bi sn
    try simp only [Act.put, List.setIfInBounds_toArray, List.set_cons_zero, List.set_cons_succ]
    refine wpList_putV rfl rfl 37 (.tmp 4) (.tmp 16) rfl _ (n.cells).toArray rfl rfl 37 _ xn (sizeNodeA n) (zsNode n) (oneNode n) ?_
    intro W2 xi ci si
    try simp only [Act.put, List.setIfInBounds_toArray, List.set_cons_zero, List.set_cons_succ]
    clear xn
    have hb2 : Below W0.heap.size W0 W2 := bi.trans (ci.below (B := W0.heap.size) (fun k e => by omega) bi.size)
    obtain ⟨B6, hB6⟩ : ∃ B6, W0.heap.size = B6 := ⟨_, rfl⟩
    have HX := Lib.hid (show ∀ w', Below W2.heap.size W2 w' → w'.cell? ⟨B6, 32, none⟩ = some (.int .i64 n.row) ∧ w'.cell? ⟨B6, 33, none⟩ = some (.int .i64 n.parent) ∧ w'.cell? ⟨B6, 34, none⟩ = some (.int .i64 n.depth) ∧ w'.rangeAt B6 0 (bvs n.id.1) from fun w' hw' => by
      rw [hB6] at xi
      have h1 := range_block ((hw'.block _ (Array.getElem?_eq_some_iff.1 xi).1).trans xi)
      have h2 := node_mid h1
      simp only [Nat.zero_add] at h2
      exact ⟨h2.1, h2.2.1, h2.2.2, node_id h1⟩)
    have HB2 := Lib.hid (HB.out.trans (hb2.mono HB.out.size))
    rw [hB6]
    obtain ⟨e1, e2, e3, _⟩ := HX.out W2 (Below.refl _ _)
    obtain ⟨pr, hpr⟩ : ∃ pr, n.parent = pr := ⟨_, rfl⟩
    obtain ⟨rw0, hrw⟩ : ∃ r, n.row = r := ⟨_, rfl⟩
    obtain ⟨dp, hdp⟩ : ∃ d, n.depth = d := ⟨_, rfl⟩
    have hst := HST.out
    rw [hpr, hrw, hdp] at hst
    rw [hrw] at e1
    rw [hpr] at e2
    rw [hdp] at e3
    have HPR := Lib.hid hpr
    have HDP := Lib.hid hdp
    clear xi bi ci si sn hb2 hB6 hpr hrw hdp HST
    by_cases hbad : rw0 < -1 ∨ pr < -1 ∨ (i : Int) ≤ pr
    case pos =>
      rw [if_pos hbad] at hst
      subst hst
      rcases Decidable.em (rw0 < -1) with h1 | h1
      · go_wp2_with fail
        rw [HQ3.out]
        try simp only [Exit.inBlock, Exit.then]
        exact bodyPost_ret (v := .int .i64 2) (by simp [results, Try.results21, go_sem]) rfl ⟨rfl, HB2.out⟩
      · rcases Decidable.em (pr < -1) with h2 | h2
        · have h1' : decide (rw0 < -1) = false := decide_eq_false h1
          go_wp2_with fail
          rw [HQ3.out]
          try simp only [Exit.inBlock, Exit.then]
          exact bodyPost_ret (v := .int .i64 2) (by simp [results, Try.results21, go_sem]) rfl ⟨rfl, HB2.out⟩
        · have h3 : (i : Int) ≤ pr := by omega
          go_wp2_with fail
          rw [HQ3.out]
          try simp only [Exit.inBlock, Exit.then]
          exact bodyPost_ret (v := .int .i64 2) (by simp [results, Try.results21, go_sem]) rfl ⟨rfl, HB2.out⟩
    rw [if_neg hbad] at hst
    have HST := Lib.hid hst
    have hr1 : ¬ rw0 < -1 := fun h => hbad (.inl h)
    have hp1 : ¬ pr < -1 := fun h => hbad (.inr (.inl h))
    have hp2 : ¬ (i : Int) ≤ pr := fun h => hbad (.inr (.inr h))
    clear hst hbad
    by_cases hp0 : pr = -1
    case pos =>
      subst hp0
      have HST3 := Lib.hid (show (if dp ≠ 0 then (10 : Int) else _) = R by
        have h1 := HST.out
        rw [if_neg (fun h => h.1 rfl), show depOf L (-1) = 0 from if_pos rfl] at h1
        exact h1)
      have HHP := Lib.hid (show hdP (popL (-1) P) = -1 by rw [pop_neg]; rfl)
      have HDEP := Lib.hid (show (0 : Int) ≤ 0 ∧ (0 : Int) ≤ (i : Int) by omega)
      have HBS := Lib.hid (Below.refl W2.heap.size W2)
      go_wp2_with fail
      refine wp_region_seq 24 (by kernel_rfl) (by kernel_rfl) ?_
      simp only [List.take_succ_cons, List.take_zero, List.drop_succ_cons, List.drop_zero]
      obtain ⟨wd, hwd⟩ : ∃ wd, W2.drew = wd := ⟨_, rfl⟩
      have hd_wd : Below W2.heap.size W2 wd ∧ wd.heap.size = W2.heap.size := hwd ▸ ⟨(Below.refl _ _).drew, rfl⟩
      rw [hwd]
      clear hwd
      have HBd := Lib.hid (HBS.out.trans (hd_wd.1.mono HBS.out.size))
      clear hd_wd
      have HBE := Lib.hid (HB2.out.trans (HBd.out.mono HB2.out.size))
      obtain ⟨e1, e2, e3, e4⟩ := HX.out wd HBd.out
      rw [HPR.out] at e2
      rw [HDP.out] at e3
      have HRI := Lib.hid e4
      clear e1 e4
      by_cases hdd : dp = 0
      case neg =>
        have hst := HST3.out
        rw [if_pos hdd] at hst
        subst hst
        have hdb : (dp != 0) = true := by simp [hdd]
        go_wp2_with fail
        refine HeadPost.mk ?_
        go_wp2_with fail
        rw [HQ3.out]
        try simp only [Exit.inBlock, Exit.then]
        exact bodyPost_ret (v := .int .i64 10) (by simp [results, Try.results21, go_sem]) rfl ⟨rfl, HBE.out⟩
      have hst := HST3.out
      rw [if_neg (fun h => h hdd)] at hst
      have hdb : (dp != 0) = false := by simp [hdd]
      have HDD := Lib.hid hdd
      have HST4 := Lib.hid hst
      clear hst hdd
      go_wp2_with fail
      refine HeadPost.mk ?_
      go_wp2_with fail
      have HK0 := Lib.hid (Below.refl wd.heap.size wd)
      go_loopw [6] (fun kv wr => ∃ k : Nat, k ≤ i ∧ kv = .int .i64 (k : Int) ∧ Hid (∀ m ∈ L.take k, m.id ≠ n.id) ∧ Hid (Below wd.heap.size wd wr)) (fun kv _ => i - (intOf kv).toNat)
      case atStart => exact ⟨0, Nat.zero_le _, rfl, Lib.hid (fun m hm => by cases hm), HK0⟩
      case round =>
        obtain ⟨k, hk, rfl, HNO, HBK⟩ := hrel
        obtain ⟨W6, rfl⟩ : ∃ W6, W6 = wr := ⟨_, rfl⟩
        clear HK0
        have HB6 := Lib.hid (HBE.out.trans (HBK.out.mono HBE.out.size))
        by_cases hki : k < i
        case neg =>
          obtain rfl : k = i := by omega
          have HR8 := Lib.hid (show chkGo L (N - (k + 1)) (k + 1) (k :: popL (-1 : Int) P) = R by
            have h1 := HST4.out
            rw [if_neg (by
              rw [List.any_eq_true]
              rintro ⟨m, hm, e⟩
              exact HNO.out m hm (of_decide_eq_true e))] at h1
            exact h1)
          have HCH2 := Lib.hid (show ChainP L (k :: popL (-1 : Int) P) from ⟨by rw [List.getElem?_eq_getElem hiL, HNI.out, HHP.out]; show some n.parent = some (-1 : Int); rw [HPR.out], by rw [HHP.out]; omega, chain_pop (-1 : Int) HCH.out⟩)
          have HHD2 := Lib.hid (show hdP (k :: popL (-1 : Int) P) = ((k + 1 : Nat) : Int) - 1 by show (k : Int) = _; omega)
          have HI8 := Lib.hid (show ChkInv L (k + 1) (k :: popL (-1 : Int) P) from ⟨fun j hj hji => by
            by_cases h : j = k
            · subst h
              have h2 := HDEP.out
              rw [HNI.out, HDP.out, HDD.out]
              exact h2
            · exact HI.out.1 j hj (by omega), fun j hj => by
            rcases List.mem_cons.1 hj with rfl | h
            · omega
            · have := HI.out.2 j (popL_sub _ P j h)
              omega⟩)
          go_wp2_with fail
          rw [HQ3.out]
          change _ ∧ _
          go_roundw
          case rel => exact ⟨k + 1, k :: popL (-1 : Int) P, by omega, by go_num, HR8, HCH2, HHD2, HI8, HB6⟩
          case measure => simp [intOf] <;> omega
        have hkL : k < L.length := by omega
        have hkI : (k : Int) < (i : Int) := by omega
        have hkN : (k : Int) < (N : Int) := by omega
        obtain ⟨g3, off3, eva3, hg3, hrk⟩ := (HV.out.below HB6.out).get hkL
        cases eva3
        obtain ⟨m, hm⟩ : ∃ m, L[k] = m := ⟨_, rfl⟩
        rw [hm] at hrk
        have HMK := Lib.hid hm
        have HMR := Lib.hid (show ∀ w', Below W6.heap.size W6 w' → w'.rangeAt g (off + k * 35) (bvs m.id.1) from fun w' hw' => node_id (range_below hrk hg3 hw'))
        clear hrk hg3 hm
        go_wp2_with fail
        refine wp_region_seq 7 (by kernel_rfl) (by kernel_rfl) ?_
        simp only [List.take_succ_cons, List.take_zero, List.drop_succ_cons, List.drop_zero]
        obtain ⟨we, hwd⟩ : ∃ we, W6.drew = we := ⟨_, rfl⟩
        have hd_we : Below W6.heap.size W6 we ∧ we.heap.size = W6.heap.size := hwd ▸ ⟨(Below.refl _ _).drew, rfl⟩
        rw [hwd]
        clear hwd
        have HMe := Lib.hid (HMR.out we hd_we.1)
        have HBKe := Lib.hid (HBK.out.trans (hd_we.1.mono HBK.out.size))
        have HXe := Lib.hid (HX.out we (HBd.out.trans (HBKe.out.mono HBd.out.size))).2.2.2
        have HBF := Lib.hid (HBE.out.trans (HBKe.out.mono HBE.out.size))
        clear hd_we
        go_wp2_with (with_reducible refine wpList_load_mid rfl 35 (.tmp 84) rfl g (off + k * 35) rfl (bvs m.id.1) _ HMe.out Try.underlying35 rfl (sizeId m.id) ?_; refine Stop.on ?_)
        refine Stop.go ?_
        try simp only [Act.put, List.setIfInBounds_toArray, List.set_cons_zero, List.set_cons_succ]
        go_wp2_with (with_reducible refine wpList_load_mid rfl 35 (.tmp 86) rfl B6 0 rfl (bvs n.id.1) _ HXe.out Try.underlying35 rfl (sizeId n.id) ?_; refine Stop.on ?_)
        refine Stop.go ?_
        try simp only [Act.put, List.setIfInBounds_toArray, List.set_cons_zero, List.set_cons_succ]
        refine HeadPost.mk ?_
        refine wpList_runI rfl (some 88) rfl (.bool (decide (m.id = n.id))) _ (op_eql 35 (.tmp 85) (.tmp 87) 35 rfl rfl rfl guard_Id (eql_Id m.id n.id _)) ?_
        try simp only [Act.put, List.setIfInBounds_toArray, List.set_cons_zero, List.set_cons_succ]
        by_cases hxy : m.id = n.id
        case pos =>
          rw [decide_eq_true hxy]
          have hst := HST4.out
          rw [if_pos (List.any_eq_true.2 ⟨m, List.mem_take_iff_getElem.2 ⟨k, by omega, HMK.out⟩, decide_eq_true hxy⟩)] at hst
          subst hst
          clear hxy
          go_wp2_with fail
          rw [HQ3.out]
          try simp only [Exit.inBlock, Exit.then]
          exact bodyPost_ret (v := .int .i64 7) (by simp [results, Try.results21, go_sem]) rfl ⟨rfl, HBF.out⟩
        case neg =>
          rw [decide_eq_false hxy]
          have HNO2 := Lib.hid (show ∀ m' ∈ L.take (k + 1), m'.id ≠ n.id by
            intro m' hm'
            rw [List.take_succ_eq_append_getElem hkL, List.mem_append, List.mem_singleton, HMK.out] at hm'
            rcases hm' with h | rfl
            · exact HNO.out m' h
            · exact hxy)
          clear hxy
          go_wp2_with fail
          go_roundw
          case rel => exact ⟨k + 1, by omega, by go_num, HNO2, HBKe⟩
          case measure => simp [intOf] <;> omega
    case neg =>
      obtain ⟨pn, hpn⟩ : ∃ pn : Nat, (pn : Int) = pr := ⟨pr.toNat, by omega⟩
      subst hpn
      have hpi : pn < i := by omega
      have hpL : pn < L.length := by rw [HN.out]; omega
      have hpN : (pn : Int) < (N : Int) := by omega
      have hpnI : (0 : Int) ≤ (pn : Int) := by omega
      have hprI : (pn : Int) < (i : Int) := by omega
      have hst0 := HST.out
      obtain ⟨dd, hdd0⟩ : ∃ dd, L[pn].depth = dd := ⟨_, rfl⟩
      have hdb0 := HI.out.1 pn hpL hpi
      rw [hdd0] at hdb0
      obtain ⟨hdl, hdu⟩ := hdb0
      rw [show depOf L (pn : Int) = dd + 1 by unfold depOf; rw [if_neg hp0, Int.toNat_natCast, List.getElem?_eq_getElem hpL, Option.map_some, Option.getD_some, hdd0]] at hst0
      have HST2 := Lib.hid hst0
      have HDEP := Lib.hid (show (0 : Int) ≤ dd + 1 ∧ dd + 1 ≤ (i : Int) by omega)
      clear hst0
      go_wp2_with fail
      have HBW0 := Lib.hid (Below.refl W2.heap.size W2)
      go_loopw [5] (fun kv wr => ∃ Q : List Nat, kv = .int .i64 (hdP Q) ∧ Hid (popL (pn : Int) Q = popL (pn : Int) P) ∧ Hid (ChainP L Q) ∧ Hid (∀ j ∈ Q, j < i) ∧ Hid (Below W2.heap.size W2 wr)) (fun kv _ => (intOf kv + 1).toNat)
      case atStart => exact ⟨P, by rw [HHD.out], Lib.hid rfl, HCH, Lib.hid HI.out.2, HBW0⟩
      case round =>
        obtain ⟨Q, rfl, HQP, HQC, HQI, HBQ⟩ := hrel
        obtain ⟨W3, rfl⟩ : ∃ W3, W3 = wr := ⟨_, rfl⟩
        clear HBW0
        have HB3 := Lib.hid (HB2.out.trans (HBQ.out.mono HB2.out.size))
        obtain ⟨e1, e2, e3, e4⟩ := HX.out W3 HBQ.out
        rw [HPR.out] at e2
        rw [HDP.out] at e3
        clear e1 e4
        cases Q with
        | nil =>
          have hst := HST2.out
          have hpe : popL (pn : Int) P = [] := by rw [← HQP.out]; rfl
          rw [if_pos ⟨hp0, hpe⟩] at hst
          subst hst
          clear hpe
          rw [show hdP [] = -1 from rfl]
          go_wp2_with fail
          rw [HQ3.out]
          try simp only [Exit.inBlock, Exit.then]
          exact bodyPost_ret (v := .int .i64 30) (by simp [results, Try.results21, go_sem]) rfl ⟨rfl, HB3.out⟩
        | cons q Q =>
          rw [show hdP (q :: Q) = (q : Int) from rfl]
          have hqe := HQP.out
          rw [popL_cons] at hqe
          have hqi : q < i := HQI.out q (List.mem_cons_self ..)
          have hq0 : (0 : Int) ≤ (q : Int) := by omega
          have hqN : (q : Int) < (N : Int) := by omega
          have hqL : q < L.length := by omega
          by_cases hqp : q = pn
          case pos =>
            subst hqp
            rw [if_pos rfl] at hqe
            have hne : popL (q : Int) P ≠ [] := by rw [← hqe]; exact List.cons_ne_nil _ _
            have HST3 := Lib.hid (show (if dp ≠ dd + 1 then (10 : Int) else _) = R by
              have h1 := HST2.out
              rw [if_neg (fun h => hne h.2)] at h1
              exact h1)
            have HHP := Lib.hid (hd_pop hne)
            clear hne hqe
            go_wp2_with fail
            refine wp_region_seq 24 (by kernel_rfl) (by kernel_rfl) ?_
            simp only [List.take_succ_cons, List.take_zero, List.drop_succ_cons, List.drop_zero]
            obtain ⟨wd, hwd⟩ : ∃ wd, W3.drew = wd := ⟨_, rfl⟩
            have hd_wd : Below W3.heap.size W3 wd ∧ wd.heap.size = W3.heap.size := hwd ▸ ⟨(Below.refl _ _).drew, rfl⟩
            rw [hwd]
            clear hwd
            have HBd := Lib.hid (HBQ.out.trans (hd_wd.1.mono HBQ.out.size))
            clear hd_wd
            have HBE := Lib.hid (HB2.out.trans (HBd.out.mono HB2.out.size))
            obtain ⟨e1, e2, e3, e4⟩ := HX.out wd HBd.out
            rw [HPR.out] at e2
            rw [HDP.out] at e3
            have HRI := Lib.hid e4
            clear e1 e4
            obtain ⟨g2, off2, eva2, _, hrp⟩ := (HV.out.below HBE.out).get hpL
            cases eva2
            have hdc := (node_mid (show wd.rangeAt g (off + q * 35) L[q].cells from hrp)).2.2
            rw [hdd0] at hdc
            clear hrp
            by_cases hdd : dp = dd + 1
            case neg =>
              have hst := HST3.out
              rw [if_pos hdd] at hst
              subst hst
              have hdb : (dp != dd + 1) = true := by simp [hdd]
              go_wp2_with fail
              refine HeadPost.mk ?_
              go_wp2_with fail
              rw [HQ3.out]
              try simp only [Exit.inBlock, Exit.then]
              exact bodyPost_ret (v := .int .i64 10) (by simp [results, Try.results21, go_sem]) rfl ⟨rfl, HBE.out⟩
            have hst := HST3.out
            rw [if_neg (fun h => h hdd)] at hst
            have hdb : (dp != dd + 1) = false := by simp [hdd]
            have HDD := Lib.hid hdd
            have HST4 := Lib.hid hst
            clear hst hdd
            go_wp2_with fail
            refine HeadPost.mk ?_
            go_wp2_with fail
            have HK0 := Lib.hid (Below.refl wd.heap.size wd)
            go_loopw [6] (fun kv wr => ∃ k : Nat, k ≤ i ∧ kv = .int .i64 (k : Int) ∧ Hid (∀ m ∈ L.take k, m.id ≠ n.id) ∧ Hid (Below wd.heap.size wd wr)) (fun kv _ => i - (intOf kv).toNat)
            case atStart => exact ⟨0, Nat.zero_le _, rfl, Lib.hid (fun m hm => by cases hm), HK0⟩
            case round =>
              obtain ⟨k, hk, rfl, HNO, HBK⟩ := hrel
              obtain ⟨W6, rfl⟩ : ∃ W6, W6 = wr := ⟨_, rfl⟩
              clear HK0
              have HB6 := Lib.hid (HBE.out.trans (HBK.out.mono HBE.out.size))
              by_cases hki : k < i
              case neg =>
                obtain rfl : k = i := by omega
                have HR8 := Lib.hid (show chkGo L (N - (k + 1)) (k + 1) (k :: popL (q : Int) P) = R by
                  have h1 := HST4.out
                  rw [if_neg (by
                    rw [List.any_eq_true]
                    rintro ⟨m, hm, e⟩
                    exact HNO.out m hm (of_decide_eq_true e))] at h1
                  exact h1)
                have HCH2 := Lib.hid (show ChainP L (k :: popL (q : Int) P) from ⟨by rw [List.getElem?_eq_getElem hiL, HNI.out, HHP.out]; show some n.parent = some (q : Int); rw [HPR.out], by rw [HHP.out]; omega, chain_pop (q : Int) HCH.out⟩)
                have HHD2 := Lib.hid (show hdP (k :: popL (q : Int) P) = ((k + 1 : Nat) : Int) - 1 by show (k : Int) = _; omega)
                have HI8 := Lib.hid (show ChkInv L (k + 1) (k :: popL (q : Int) P) from ⟨fun j hj hji => by
                  by_cases h : j = k
                  · subst h
                    have h2 := HDEP.out
                    rw [HNI.out, HDP.out, HDD.out]
                    exact h2
                  · exact HI.out.1 j hj (by omega), fun j hj => by
                  rcases List.mem_cons.1 hj with rfl | h
                  · omega
                  · have := HI.out.2 j (popL_sub _ P j h)
                    omega⟩)
                go_wp2_with fail
                rw [HQ3.out]
                change _ ∧ _
                go_roundw
                case rel => exact ⟨k + 1, k :: popL (q : Int) P, by omega, by go_num, HR8, HCH2, HHD2, HI8, HB6⟩
                case measure => simp [intOf] <;> omega
              have hkL : k < L.length := by omega
              have hkI : (k : Int) < (i : Int) := by omega
              have hkN : (k : Int) < (N : Int) := by omega
              obtain ⟨g3, off3, eva3, hg3, hrk⟩ := (HV.out.below HB6.out).get hkL
              cases eva3
              obtain ⟨m, hm⟩ : ∃ m, L[k] = m := ⟨_, rfl⟩
              rw [hm] at hrk
              have HMK := Lib.hid hm
              have HMR := Lib.hid (show ∀ w', Below W6.heap.size W6 w' → w'.rangeAt g (off + k * 35) (bvs m.id.1) from fun w' hw' => node_id (range_below hrk hg3 hw'))
              clear hrk hg3 hm
              go_wp2_with fail
              refine wp_region_seq 7 (by kernel_rfl) (by kernel_rfl) ?_
              simp only [List.take_succ_cons, List.take_zero, List.drop_succ_cons, List.drop_zero]
              obtain ⟨we, hwd⟩ : ∃ we, W6.drew = we := ⟨_, rfl⟩
              have hd_we : Below W6.heap.size W6 we ∧ we.heap.size = W6.heap.size := hwd ▸ ⟨(Below.refl _ _).drew, rfl⟩
              rw [hwd]
              clear hwd
              have HMe := Lib.hid (HMR.out we hd_we.1)
              have HBKe := Lib.hid (HBK.out.trans (hd_we.1.mono HBK.out.size))
              have HXe := Lib.hid (HX.out we (HBd.out.trans (HBKe.out.mono HBd.out.size))).2.2.2
              have HBF := Lib.hid (HBE.out.trans (HBKe.out.mono HBE.out.size))
              clear hd_we
              go_wp2_with (with_reducible refine wpList_load_mid rfl 35 (.tmp 84) rfl g (off + k * 35) rfl (bvs m.id.1) _ HMe.out Try.underlying35 rfl (sizeId m.id) ?_; refine Stop.on ?_)
              refine Stop.go ?_
              try simp only [Act.put, List.setIfInBounds_toArray, List.set_cons_zero, List.set_cons_succ]
              go_wp2_with (with_reducible refine wpList_load_mid rfl 35 (.tmp 86) rfl B6 0 rfl (bvs n.id.1) _ HXe.out Try.underlying35 rfl (sizeId n.id) ?_; refine Stop.on ?_)
              refine Stop.go ?_
              try simp only [Act.put, List.setIfInBounds_toArray, List.set_cons_zero, List.set_cons_succ]
              refine HeadPost.mk ?_
              refine wpList_runI rfl (some 88) rfl (.bool (decide (m.id = n.id))) _ (op_eql 35 (.tmp 85) (.tmp 87) 35 rfl rfl rfl guard_Id (eql_Id m.id n.id _)) ?_
              try simp only [Act.put, List.setIfInBounds_toArray, List.set_cons_zero, List.set_cons_succ]
              by_cases hxy : m.id = n.id
              case pos =>
                rw [decide_eq_true hxy]
                have hst := HST4.out
                rw [if_pos (List.any_eq_true.2 ⟨m, List.mem_take_iff_getElem.2 ⟨k, by omega, HMK.out⟩, decide_eq_true hxy⟩)] at hst
                subst hst
                clear hxy
                go_wp2_with fail
                rw [HQ3.out]
                try simp only [Exit.inBlock, Exit.then]
                exact bodyPost_ret (v := .int .i64 7) (by simp [results, Try.results21, go_sem]) rfl ⟨rfl, HBF.out⟩
              case neg =>
                rw [decide_eq_false hxy]
                have HNO2 := Lib.hid (show ∀ m' ∈ L.take (k + 1), m'.id ≠ n.id by
                  intro m' hm'
                  rw [List.take_succ_eq_append_getElem hkL, List.mem_append, List.mem_singleton, HMK.out] at hm'
                  rcases hm' with h | rfl
                  · exact HNO.out m' h
                  · exact hxy)
                clear hxy
                go_wp2_with fail
                go_roundw
                case rel => exact ⟨k + 1, by omega, by go_num, HNO2, HBKe⟩
                case measure => simp [intOf] <;> omega
          have hqb : ((q : Int) != (pn : Int)) = true := by simp; omega
          have hqpI : ¬ ((q : Int) = (pn : Int)) := by omega
          rw [if_neg hqpI] at hqe
          have HQE := Lib.hid hqe
          obtain ⟨hc1, hc2, hc3⟩ := HQC.out
          rw [List.getElem?_eq_getElem hqL] at hc1
          have hc4 : L[q].parent = hdP Q := Option.some.inj hc1
          obtain ⟨g2, off2, eva2, _, hrp⟩ := (HV.out.below HB3.out).get hqL
          cases eva2
          have hdc := (node_mid (show W3.rangeAt g (off + q * 35) L[q].cells from hrp)).2.1
          rw [hc4] at hdc
          have HC3 := Lib.hid hc3
          have HQI2 := Lib.hid (show ∀ j ∈ Q, j < i from fun j hj => HQI.out j (List.mem_cons_of_mem _ hj))
          clear hrp hc1 hc3 hc4 hqe
          go_wp2_with fail
          go_roundw
          case rel => exact ⟨Q, rfl, HQE, HC3, HQI2, HBQ⟩
          case measure =>
            have h9 : -1 ≤ hdP Q := by cases Q with | nil => exact Int.le_refl _ | cons a b => show -1 ≤ (a : Int); omega
            simp [intOf] <;> omega
end Go.Proofs.Ythfinofmbnfijaa
