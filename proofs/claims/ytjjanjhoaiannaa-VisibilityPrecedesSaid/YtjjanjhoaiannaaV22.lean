/- The law Precedes. -/
import Derived.Test.YtjjanjhoaiannaaV20
namespace Go.Proofs.Ytjjanjhoaiannaa
open Go.Shelf Go.RowKit Go.Lib Go.Sort Go.ChangeShapes Go.Maps
set_option linter.unusedVariables false
set_option linter.unusedSimpArgs false

/-- The lines of an identity that are not missing, among the first k: none, or one alone. -/
def AtI (A : List LinV) (x : IdB) (k : Nat) (at_ : Int) (n : Nat) : Prop := (n = 0 ∧ at_ = -1 ∧ ∀ j (h : j < A.length), j < k → ¬ (A[j].id = x ∧ A[j].mis = false)) ∨ (n = 1 ∧ ∃ (p : Nat) (h : p < A.length), p < k ∧ at_ = (p : Int) ∧ A[p].id = x ∧ A[p].mis = false)
theorem AtI.no {A : List LinV} {x : IdB} {k n : Nat} {at_ : Int} (h : AtI A x k at_ n) (hk : k < A.length) (hn : ¬ (A[k].id = x ∧ A[k].mis = false)) : AtI A x (k + 1) at_ n := by
  rcases h with ⟨h1, h2, h3⟩ | ⟨h1, p, hp, h2, h3⟩
  · refine .inl ⟨h1, h2, fun j hj hjk => ?_⟩
    by_cases e : j = k
    · subst e; exact hn
    · exact h3 j hj (by omega)
  · exact .inr ⟨h1, p, hp, by omega, h3⟩
theorem AtI.yes {A : List LinV} {x : IdB} {k n : Nat} {at_ : Int} (hA : (A.map (·.id)).Nodup) (h : AtI A x k at_ n) (hk : k < A.length) (h1 : A[k].id = x) (h2 : A[k].mis = false) : n = 0 ∧ AtI A x (k + 1) (k : Int) 1 := by
  rcases h with ⟨e1, e2, e3⟩ | ⟨e1, p, hp, e2, e3, e4, e5⟩
  · exact ⟨e1, .inr ⟨rfl, k, hk, by omega, rfl, h1, h2⟩⟩
  · exfalso
    rw [List.nodup_iff_pairwise_ne, List.pairwise_map, List.pairwise_iff_getElem] at hA
    exact hA p k hp hk e2 (by rw [e4, h1])
theorem lines_nodup {F : List NodeV} (h : (F.map (·.id)).Nodup) : ((F.map linN).map (·.id)).Nodup := by
  rw [List.map_map]
  exact h

set_option maxRecDepth 100000 in
set_option maxHeartbeats 2000000 in
theorem Precedes_law {w : World} (v u : Value) (L : List RowV) (G : List IdB) (now : Int) (hv : RowsAt w v L) (hu : ListAt idE w u G) :
    Calls Try.prog 8 #[v, u, .int .i64 now] w (fun e w' => e = .returned (.bool true) ∧ Below w.heap.size w w') := by
  obtain ⟨va, vc, rfl⟩ := hv.l.form
  obtain ⟨ua, uc, rfl⟩ := hu.form
  obtain ⟨N, hN⟩ : ∃ N, L.length = N := ⟨_, rfl⟩
  have hlm : L.length ≤ 9223372036854775807 := by
    obtain ⟨a, c, e, h1, h2, _⟩ := hv.l.ex
    unfold maxLen at h2
    omega
  have HLM := Lib.hid hlm
  rw [hN] at hv ⊢
  have HV := Lib.hid hv
  have HU := Lib.hid hu
  have HN := Lib.hid hN
  clear hv hu hN hlm
  go_enter Try.func8, Try.ntmps8
  go_wp2_with fail
  refine vknown_any.mono ?_
  rintro e wa ⟨rfl, hba⟩
  have HBA := Lib.hid hba
  clear hba
  go_wp2_with fail
  refine (few_any _ _ L G (HN.out.symm ▸ HV.out.below HBA.out) (HU.out.below HBA.out) HLM.out).mono ?_
  rintro e wb ⟨rfl, hbb⟩
  have HBB := Lib.hid (HBA.out.trans (hbb.mono HBA.out.size))
  clear hbb
  obtain ⟨bf, hbf⟩ : ∃ bf, fewB L G = bf := ⟨_, rfl⟩
  rw [hbf]
  have HFEW := Lib.hid hbf
  clear hbf
  cases bf with
  | false =>
    go_wp2_with fail
    refine vknown_any.mono ?_
    rintro e wz ⟨rfl, hbz⟩
    have HBZ := Lib.hid hbz
    clear hbz
    go_wp2_with fail
    exact bodyPost_ret (v := .bool true) (by simp [results, Try.results8, go_sem]) rfl ⟨rfl, (HBB.out).trans (HBZ.out.mono (HBB.out).size)⟩
  | true =>
  obtain ⟨hf1, hf2, hf3⟩ := few_iff.1 HFEW.out
  have HF1 := Lib.hid hf1
  have HF2 := Lib.hid hf2
  have HF3 := Lib.hid hf3
  have HLN := Lib.hid (show L.length < 1000000000 by omega)
  have HGN := Lib.hid (show G.length < 1000000000 by omega)
  clear hf1 hf2 hf3
  go_wp2_with fail
  refine (check_any _ L (HN.out.symm ▸ HV.out.below HBB.out) HLN.out).mono ?_
  rintro e wc ⟨rfl, hbc⟩
  have HBC := Lib.hid ((HBB.out).trans (hbc.mono (HBB.out).size))
  clear hbc
  obtain ⟨ck, hck⟩ : ∃ ck, chkL L = ck := ⟨_, rfl⟩
  rw [hck]
  have HCHK := Lib.hid hck
  clear hck
  rcases Decidable.em (¬ ck = 0) with hc0 | hc0
  · have hcb : (ck == 0) = false := by simpa using hc0
    have hcb2 : (ck != 0) = true := by simp [bne, hcb]
    go_wp2_with fail
    refine vknown_any.mono ?_
    rintro e wz ⟨rfl, hbz⟩
    have HBZ := Lib.hid hbz
    clear hbz
    go_wp2_with fail
    exact bodyPost_ret (v := .bool true) (by simp [results, Try.results8, go_sem]) rfl ⟨rfl, (HBC.out).trans (HBZ.out.mono (HBC.out).size)⟩
  obtain rfl : ck = 0 := Decidable.of_not_not hc0
  clear hc0
  obtain ⟨hlen, hdt, hrf, hnd⟩ := chk_zero HCHK.out
  have HDT := Lib.hid hdt
  have HRF := Lib.hid hrf
  have HND := Lib.hid hnd
  clear hlen hdt hrf hnd
  have hN30 : N ≤ 30 := by have := HF2.out; have := HN.out; omega
  have HL4 := Lib.hid (show L.length ≤ 4096 by have := HF2.out; omega)
  have HEX : ∃ d : Bool, d = true ↔ Dated L := by
    by_cases h : Dated L
    · exact ⟨true, fun _ => h, fun _ => rfl⟩
    · exact ⟨false, ⟨fun h1 => Bool.noConfusion h1, fun h1 => absurd h1 h⟩⟩
  obtain ⟨dd, hdd⟩ := HEX
  have HDD := Lib.hid (show dd = true ↔ Dated L from hdd)
  obtain ⟨S, hS⟩ : ∃ S, L.filter (shB L G now) = S := ⟨_, rfl⟩
  have HS := Lib.hid hS
  have HSN := Lib.hid (show (S.map (·.id)).Nodup by rw [← hS]; exact filter_nodup _ HND.out)
  have hsl : S.length ≤ 30 := by rw [← hS]; exact Nat.le_trans (List.length_filter_le _ _) HF2.out
  clear hdd hS
  go_wp2_with fail
  refine (Listing_yes _ _ L G now (HN.out.symm ▸ HV.out.below HBC.out) (HU.out.below HBC.out) HL4.out HGN.out HCHK.out).mono ?_
  rintro e W3 ⟨xv, c, rfl, hc, hox, hb⟩
  rw [HS.out] at hc hox
  have hgood := good HSN.out hc
  have hFl := forest_few HSN.out hc
  obtain ⟨F, hF⟩ : ∃ F, forestV S c = F := ⟨_, rfl⟩
  rw [hF] at hox hgood hFl
  obtain ⟨A, hA⟩ : ∃ A, F.map linN = A := ⟨_, rfl⟩
  rw [hA] at hox
  obtain ⟨xa, xc, rfl⟩ := hox.form
  obtain ⟨n, hn⟩ : ∃ n, A.length = n := ⟨_, rfl⟩
  have hnF : F.length = n := by rw [← hn, ← hA, List.length_map]
  have hn60 : n ≤ 60 := by omega
  rw [hn] at hox ⊢
  have HFN := Lib.hid hnF
  have HAN := Lib.hid hn
  have HX := Lib.hid hox.at_
  have HC := Lib.hid hc
  have HG := Lib.hid hgood
  have HAF := Lib.hid (show ∀ k (h : k < A.length) (h' : k < F.length), A[k].id = F[k].id ∧ A[k].mis = (F[k].row == -1) from fun k h h' => by
    subst hA
    rw [List.getElem_map]
    exact ⟨rfl, rfl⟩)
  have HAD := Lib.hid (show (A.map (·.id)).Nodup by rw [← hA]; exact lines_nodup hgood.nodup)
  have HB3 := Lib.hid (HBC.out.trans (hb.mono HBC.out.size))
  have hzz : ((0 : Int) != 0) = false := by decide
  clear hc hox hb hgood hFl hF hA hn hnF
  go_wp2_with fail
  refine (shown_any _ _ L G now (HN.out.symm ▸ HV.out.below HB3.out) (HU.out.below HB3.out) HL4.out HGN.out HND.out HDT.out HRF.out).mono ?_
  rintro e W8 ⟨mh, rfl, hmh, hb8⟩
  obtain ⟨ma, mc, rfl⟩ := hmh.form
  have HMH := Lib.hid hmh.at_
  have HX8 := Lib.hid (HX.out.below hb8)
  have HB8 := Lib.hid (HB3.out.trans (hb8.mono HB3.out.size))
  have HV8 := Lib.hid (HV.out.below HB8.out)
  obtain ⟨T, hT⟩ : ∃ T, L.map (shB L G now) = T := ⟨_, rfl⟩
  rw [hT] at HMH ⊢
  have HTL := Lib.hid (show T.length = N by rw [← hT, List.length_map, HN.out])
  have HTA := Lib.hid (show ∀ i (h : i < L.length) (h' : i < T.length), T[i] = shB L G now L[i] from fun i h h' => by subst hT; rw [List.getElem_map])
  have HX0 := Lib.hid (Below.refl W8.heap.size W8)
  clear hmh hb8 hT hzz
  rw [HTL.out] at HMH ⊢
  go_wp2_with fail
  go_loopw [10] (fun iv wr => ∃ i : Nat, i ≤ N ∧ iv = .int .i64 (i : Int) ∧ Hid (Below W8.heap.size W8 wr)) (fun iv _ => N - (intOf iv).toNat)
  case atStart => exact ⟨0, Nat.zero_le _, rfl, HX0⟩
  case round =>
    obtain ⟨i, hi, rfl, HB⟩ := hrel
    obtain ⟨W0, rfl⟩ : ∃ W0, W0 = wr := ⟨_, rfl⟩
    clear HX0
    by_cases hlt : i < N
    case neg =>
      obtain rfl : N = i := by omega
      have HBZ := Lib.hid (HB8.out.trans (HB.out.mono HB8.out.size))
      go_wp2_with fail
      exact bodyPost_ret (v := .bool true) (by simp [results, Try.results8, go_sem]) rfl ⟨rfl, HBZ.out⟩
    refine hide_postT ?_
    intro Q2 HQ2
    have hiI : (i : Int) < (N : Int) := by omega
    have hiL : i < L.length := by rw [HN.out]; exact hlt
    have hiT : i < T.length := by rw [HTL.out]; exact hlt
    obtain ⟨R, hR⟩ : ∃ R, L[i] = R := ⟨_, rfl⟩
    have hmem : R ∈ L := by rw [← hR]; exact List.getElem_mem hiL
    obtain ⟨gm, om, e9, hmc⟩ := mark_at HMH.out hiT
    subst e9
    have hTR := HTA.out i hiL hiT
    rw [hTR, hR] at hmc
    obtain ⟨b, hb⟩ : ∃ b, shB L G now R = b := ⟨_, rfl⟩
    rw [hb] at hmc
    obtain ⟨g, off, n9, c9, e9, hr, hrl⟩ := row_at HV8.out hiL
    cases e9
    rw [hR] at hr hrl
    obtain ⟨ra, rc, hre⟩ := hrl.form
    obtain ⟨K, hK⟩ : ∃ K, R.refs.length = K := ⟨_, rfl⟩
    have hK20 : K ≤ 20 := by rw [← hK]; exact HRF.out R hmem
    rw [hre, hK] at hrl
    have HRL := Lib.hid hrl
    have HK := Lib.hid hK
    have HMEM := Lib.hid hmem
    have HBB := Lib.hid hb
    obtain ⟨x, hx⟩ : ∃ x, R.id = x := ⟨_, rfl⟩
    have HXE := Lib.hid hx
    have HCX := Lib.hid (show ∀ w', Below W8.heap.size W8 w' → w'.rangeAt g (off + i * 83) (bvs x.1) ∧ w'.cell? ⟨g, off + i * 83 + 50, none⟩ = some (.slice ra K rc) ∧ w'.cell? ⟨gm, om + i, none⟩ = some (.bool b) from fun w' hw' => by
      have h1 := range_below hr (World.block_lt_of_cell? _ _ (row_mid hr).1) hw'
      obtain ⟨_, _, m3⟩ := row_mid h1
      rw [hre, hK] at m3
      have h2 := row_id h1
      rw [hx] at h2
      exact ⟨h2, m3, hmc w' hw'⟩)
    clear hmc hTR hb hr hrl hre hK hmem hx hR
    have HA0 := Lib.hid (show AtI A x 0 (-1) 0 from .inl ⟨rfl, rfl, fun j _ h => absurd h (Nat.not_lt_zero j)⟩)
    have HBV := HB
    go_wp2_with fail
    go_loopw [11, 12, 13] (fun av cv kv wr => ∃ (k m : Nat) (az : Int), k ≤ n ∧ m ≤ 1 ∧ kv = .int .i64 (k : Int) ∧ cv = .int .i64 (m : Int) ∧ av = .int .i64 az ∧ Hid (AtI A x k az m) ∧ Hid (Below W8.heap.size W8 wr)) (fun _ _ kv _ => n - (intOf kv).toNat)
    case atStart => exact ⟨0, 0, -1, Nat.zero_le _, by omega, rfl, rfl, rfl, HA0, HBV⟩
    case round =>
      obtain ⟨k, m, az, hk, hm, rfl, rfl, rfl, HAT, HB1⟩ := hrel
      obtain ⟨W1, rfl⟩ : ∃ W1, W1 = wr := ⟨_, rfl⟩
      clear HA0 HBV
      by_cases hkl : k < n
      case neg =>
        obtain rfl : n = k := by omega
        obtain ⟨hc1, hc2, hc3⟩ := HCX.out W1 HB1.out
        have HLI := Lib.hid (listed (p := shB L G now) HND.out HS.out HG.out HMEM.out)
        cases b with
        | false =>
          obtain ⟨rfl, rfl⟩ : m = 0 ∧ az = -1 := by
            rcases HAT.out with ⟨h1, h2, _⟩ | ⟨_, p, hp, _, _, h4, h5⟩
            · exact ⟨h1, h2⟩
            · exfalso
              have hpF : p < F.length := by rw [HFN.out, ← HAN.out]; exact hp
              obtain ⟨e1, e2⟩ := HAF.out p hp hpF
              have h6 := HLI.out.2 ⟨p, hpF, by rw [← e1, h4, HXE.out], by rw [← e2, h5]⟩
              rw [HBB.out] at h6
              cases h6
          have hm1 : ((-1 : Int) + 1) = 0 := by decide
          go_wp2_with fail
          have HBE := HB1
          go_loopw [15] (fun kv wr => kv = .int .i64 0 ∧ Hid (Below W8.heap.size W8 wr)) (fun _ _ => 0)
          case atStart => exact ⟨rfl, HBE⟩
          case round =>
            obtain ⟨rfl, HBL⟩ := hrel
            obtain ⟨W2, rfl⟩ : ∃ W2, W2 = wr := ⟨_, rfl⟩
            clear HBE
            go_wp2_with fail
            rw [HQ2.out]
            change _ ∧ _
            go_roundw
            case rel => exact ⟨i + 1, by omega, by go_num, HBL⟩
            case measure => simp [intOf] <;> omega
        | true =>
          obtain ⟨rfl, p, hp, rfl, hid⟩ : m = 1 ∧ ∃ (p : Nat) (h : p < A.length), az = (p : Int) ∧ A[p].id = x := by
            rcases HAT.out with ⟨_, _, h3⟩ | ⟨h1, p, hp, _, h2, h4, h5⟩
            · exfalso
              obtain ⟨j, hj, e1, e2⟩ := HLI.out.1 HBB.out
              have hjA : j < A.length := by rw [HAN.out, ← HFN.out]; exact hj
              obtain ⟨e3, e4⟩ := HAF.out j hjA hj
              exact h3 j hjA (by rw [← HAN.out]; exact hjA) ⟨by rw [e3, e1, HXE.out], by rw [e4, e2]⟩
            · exact ⟨h1, p, hp, h2, h4⟩
          have hpn : p < n := by rw [← HAN.out]; exact hp
          have hpF : p < F.length := by rw [HFN.out]; exact hpn
          have HFP := Lib.hid (show F[p].id = R.id by rw [← (HAF.out p hp hpF).1, hid, HXE.out])
          have HRS := Lib.hid (show R ∈ S by rw [← HS.out]; exact List.mem_filter.2 ⟨HMEM.out, HBB.out⟩)
          clear hid
          by_cases hK0 : K = 0
          case pos =>
            subst hK0
            go_wp2_with fail
            have HBE := HB1
            go_loopw [15] (fun kv wr => kv = .int .i64 ((p : Int) + 1) ∧ Hid (Below W8.heap.size W8 wr)) (fun _ _ => 0)
            case atStart => exact ⟨by go_num, HBE⟩
            case round =>
              obtain ⟨rfl, HBL⟩ := hrel
              obtain ⟨W2, rfl⟩ : ∃ W2, W2 = wr := ⟨_, rfl⟩
              clear HBE
              go_wp2_with fail
              rw [HQ2.out]
              change _ ∧ _
              go_roundw
              case rel => exact ⟨i + 1, by omega, by go_num, HBL⟩
              case measure => simp [intOf] <;> omega
          have hKI : (0 : Int) < (K : Int) := by omega
          obtain ⟨km, hkm⟩ : ∃ km, K = km + 1 := ⟨K - 1, by omega⟩
          have hkR : km < R.refs.length := by rw [HK.out]; omega
          obtain ⟨q, hq⟩ : ∃ q, R.refs[km] = q := ⟨_, rfl⟩
          have HQL := Lib.hid (show R.refs.getLast? = some q by rw [List.getLast?_eq_getElem?, HK.out, hkm, Nat.add_sub_cancel, List.getElem?_eq_getElem hkR, hq])
          have hkmI : (K : Int) - 1 = (km : Int) := by omega
          have hkmK : (km : Int) < (K : Int) := by omega
          have hkm0 : (0 : Int) ≤ (km : Int) := by omega
          obtain ⟨gq, oq, e9, hgq, hrq⟩ := HRL.out.get hkR
          subst e9
          rw [hq] at hrq
          have HRQ := Lib.hid (show ∀ w', Below W8.heap.size W8 w' → w'.rangeAt gq (oq + km * 32) (bvs q.1) from fun w' hw' => range_below (show W8.rangeAt gq (oq + km * 32) (bvs q.1) from hrq) hgq hw')
          have HKM := Lib.hid hkm
          clear hrq hgq hq hK0 hkm hc1 hc2 hc3
          obtain ⟨_, hc2, hc3⟩ := HCX.out W1 HB1.out
          go_wp2_with fail
          have HBE := HB1
          go_loopw [15] (fun zv wr => ∃ z : Nat, p < z ∧ z ≤ n ∧ zv = .int .i64 (z : Int) ∧ Hid (Below W8.heap.size W8 wr)) (fun zv _ => n - (intOf zv).toNat)
          case atStart => exact ⟨p + 1, by omega, by omega, by go_num, HBE⟩
          case round =>
            obtain ⟨z, hpz, hz, rfl, HBL⟩ := hrel
            obtain ⟨W2, rfl⟩ : ∃ W2, W2 = wr := ⟨_, rfl⟩
            clear HBE hc2 hc3
            by_cases hzn : z < n
            case neg =>
              obtain rfl : n = z := by omega
              go_wp2_with fail
              rw [HQ2.out]
              change _ ∧ _
              go_roundw
              case rel => exact ⟨i + 1, by omega, by go_num, HBL⟩
              case measure => simp [intOf] <;> omega
            have hzI : (z : Int) < (n : Int) := by omega
            refine hide_postT ?_
            intro Q4 HQ4
            go_wp2_with fail
            refine (dated_any _ L (HN.out.symm ▸ HV8.out.below HBL.out) HL4.out HRF.out HND.out dd HDD.out).mono ?_
            rintro e W4 ⟨rfl, hb⟩
            have HB4 := Lib.hid (HBL.out.trans (hb.mono HBL.out.size))
            clear hb
            cases dd with
            | false =>
              go_wp2_with fail
              rw [HQ4.out]
              try simp only [Exit.inBlock, Exit.then]
              go_wp2_with fail
              rw [HQ2.out]
              change _ ∧ _
              go_roundw
              case rel => exact ⟨i + 1, by omega, by go_num, HB4⟩
              case measure => simp [intOf] <;> omega
            | true =>
              have hzA : z < A.length := by rw [HAN.out]; exact hzn
              have hzF : z < F.length := by rw [HFN.out]; exact hzn
              obtain ⟨gx, ox, e9, hgx, hrx⟩ := HX8.out.get hzA
              subst e9
              obtain ⟨ln, hln⟩ : ∃ ln, A[z] = ln := ⟨_, rfl⟩
              rw [hln] at hrx
              obtain ⟨y, hy⟩ : ∃ y, ln.id = y := ⟨_, rfl⟩
              have HNE := Lib.hid (show ¬ y = q from fun e => by
                have h1 := precedes HND.out (fun r hr => by
                  have h2 := HS.out
                  rw [← h2] at hr
                  exact (List.mem_filter.1 hr).1) HSN.out (HDD.out.1 rfl) HC.out HG.out HRS.out HQL.out hpF HFP.out z hzF hpz
                rw [← (HAF.out z hzA hzF).1, hln, hy, e] at h1
                exact h1 rfl)
              have HEQ := Lib.hid (show ∀ w, (binOp .eql 31 (.agg (bvs y.1).toArray) (.agg (bvs q.1).toArray)).run Try.prog w = .ok (.bool false) w from fun w => by
                refine (eql_Id y q w).trans ?_
                congr 2
                exact @decide_eq_false _ _ HNE.out)
              have HRR := Lib.hid (show ∀ w', Below W4.heap.size W4 w' → w'.rangeAt gx (ox + z * 34) (bvs y.1) ∧ w'.rangeAt gq (oq + km * 32) (bvs q.1) ∧ w'.cell? ⟨g, off + i * 83 + 50, none⟩ = some (.slice (some ⟨gq, oq, none⟩) K rc) from fun w' hw' => by
                have hbb := HB4.out.trans (hw'.mono HB4.out.size)
                have h1 := lin_cells (range_below (show W8.rangeAt gx (ox + z * 34) ln.cells from hrx) hgx hbb)
                rw [hy] at h1
                exact ⟨h1.1, HRQ.out w' hbb, (HCX.out w' hbb).2.1⟩)
              have hwk : IntKind.i64.wrap (km : Int) = (km : Int) := IntWalk.i64_in _ (by omega)
              clear hrx hgx hln hy
              go_wp2_with fail
              refine wp_region_noPanic ?_
              refine wp_region_H (Below W4.heap.size W4) (by kernel_rfl) ?_
              have hS0 : (Below W4.heap.size W4) W4.drew := (Below.refl _ _).drew
              obtain ⟨wd, hwd⟩ : ∃ wd, W4.drew = wd := ⟨_, rfl⟩
              rw [hwd] at hS0  ⊢
              clear hwd
              refine wpAnyH_takeI (i := 0) (v := ?v43) rfl (by kernel_rfl) (by kernel_rfl) (by kernel_rfl) (fun _ _ _ h => h) (yieldsIf_run rfl (fun w' hw' => ?y43)) hS0 ?_
              case y43 => first | (go_simp; rfl) | (go_simp; done) | rfl
              simp only [Act.put, List.setIfInBounds_toArray, List.set_cons_zero, List.set_cons_succ]
              refine wpAnyH_takeI (i := 1) (v := ?v44) rfl (by kernel_rfl) (by kernel_rfl) (by kernel_rfl) (fun _ _ _ h => h) (yieldsIf_run rfl (fun w' hw' => ?y44)) hS0 ?_
              case y44 => first | (go_simp; rfl) | (go_simp; done) | rfl
              simp only [Act.put, List.setIfInBounds_toArray, List.set_cons_zero, List.set_cons_succ]
              refine wpAnyH_takeI (i := 2) (v := ?v45) rfl (by kernel_rfl) (by kernel_rfl) (by kernel_rfl) (fun _ _ _ h => h) (yieldsIf_run rfl (fun w' hw' => ?y45)) hS0 ?_
              case y45 => first | (go_simp; rfl) | (go_simp; done) | rfl
              simp only [Act.put, List.setIfInBounds_toArray, List.set_cons_zero, List.set_cons_succ]
              refine wpAnyH_takeI (i := 3) (v := ?v46) rfl (by kernel_rfl) (by kernel_rfl) (by kernel_rfl) (fun _ _ _ h => h) (yieldsIf_run rfl (fun w' hw' => ?y46)) hS0 ?_
              case y46 => first | (go_simp; rfl) | (go_simp; done) | rfl
              simp only [Act.put, List.setIfInBounds_toArray, List.set_cons_zero, List.set_cons_succ]
              refine wpAnyH_takeI (i := 4) (v := .agg (bvs y.1).toArray) rfl (by kernel_rfl) (by kernel_rfl) (by kernel_rfl) (fun _ _ _ h => h) (yieldsIf_load_mid rfl 31 (.tmp 117) rfl gx (ox + z * 34) rfl (bvs y.1) _ (fun w' hw' => (HRR.out w' hw').1) Try.underlying31 rfl (sizeId y)) hS0 ?_
              simp only [Act.put, List.setIfInBounds_toArray, List.set_cons_zero, List.set_cons_succ]
              refine wpAnyH_takeI (i := 5) (v := ?v47) rfl (by kernel_rfl) (by kernel_rfl) (by kernel_rfl) (fun _ _ _ h => h) (yieldsIf_run rfl (fun w' hw' => ?y47)) hS0 ?_
              case y47 => first | (go_simp; rfl) | (go_simp; done) | rfl
              simp only [Act.put, List.setIfInBounds_toArray, List.set_cons_zero, List.set_cons_succ]
              refine wpAnyH_takeI (i := 6) (v := ?v48) rfl (by kernel_rfl) (by kernel_rfl) (by kernel_rfl) (fun _ _ _ h => h) (yieldsIf_run rfl (fun w' hw' => ?y48)) hS0 ?_
              case y48 => first | (go_simp; rfl) | (go_simp; done) | rfl
              simp only [Act.put, List.setIfInBounds_toArray, List.set_cons_zero, List.set_cons_succ]
              refine wpAnyH_takeI (i := 7) (v := ?v49) rfl (by kernel_rfl) (by kernel_rfl) (by kernel_rfl) (fun _ _ _ h => h) (yieldsIf_run rfl (fun w' hw' => ?y49)) hS0 ?_
              case y49 => first | (go_simp; rfl) | (go_simp; done) | rfl
              simp only [Act.put, List.setIfInBounds_toArray, List.set_cons_zero, List.set_cons_succ]
              refine wpAnyH_takeI (i := 8) (v := ?v50) rfl (by kernel_rfl) (by kernel_rfl) (by kernel_rfl) (fun _ _ _ h => h) (yieldsIf_run rfl (fun w' hw' => ?y50)) hS0 ?_
              case y50 => first | (go_simp; rfl) | (go_simp; done) | rfl
              simp only [Act.put, List.setIfInBounds_toArray, List.set_cons_zero, List.set_cons_succ]
              refine wpAnyH_takeI (i := 9) (v := ?v51) rfl (by kernel_rfl) (by kernel_rfl) (by kernel_rfl) (fun _ _ _ h => h) (yieldsIf_run rfl (fun w' hw' => ?y51)) hS0 ?_
              case y51 => (have h3 := (HRR.out w' hw').2.2; clear hw'; first | (go_simp; rfl) | (go_simp; done))
              simp only [Act.put, List.setIfInBounds_toArray, List.set_cons_zero, List.set_cons_succ]
              refine wpAnyH_takeI (i := 10) (v := ?v52) rfl (by kernel_rfl) (by kernel_rfl) (by kernel_rfl) (fun _ _ _ h => h) (yieldsIf_run rfl (fun w' hw' => ?y52)) hS0 ?_
              case y52 => first | (go_simp; rfl) | (go_simp; done) | rfl
              simp only [Act.put, List.setIfInBounds_toArray, List.set_cons_zero, List.set_cons_succ]
              refine wpAnyH_takeI (i := 11) (v := .int .i64 (km : Int)) rfl (by kernel_rfl) (by kernel_rfl) (by kernel_rfl) (fun _ _ _ h => h) (yieldsIf_run rfl (fun w' hw' => ?y53)) hS0 ?_
              case y53 => first | (go_simp; rfl) | (go_simp; done) | rfl
              simp only [Act.put, List.setIfInBounds_toArray, List.set_cons_zero, List.set_cons_succ]
              refine wpAnyH_takeI (i := 12) (v := ?v54) rfl (by kernel_rfl) (by kernel_rfl) (by kernel_rfl) (fun _ _ _ h => h) (yieldsIf_run rfl (fun w' hw' => ?y54)) hS0 ?_
              case y54 => first | (go_simp; rfl) | (go_simp; done) | rfl
              simp only [Act.put, List.setIfInBounds_toArray, List.set_cons_zero, List.set_cons_succ]
              refine wpAnyH_takeI (i := 13) (v := .agg (bvs q.1).toArray) rfl (by kernel_rfl) (by kernel_rfl) (by kernel_rfl) (fun _ _ _ h => h) (yieldsIf_load_mid rfl 31 (.tmp 126) rfl gq (oq + km * 32) rfl (bvs q.1) _ (fun w' hw' => (HRR.out w' hw').2.1) Try.underlying31 rfl (sizeId q)) hS0 ?_
              simp only [Act.put, List.setIfInBounds_toArray, List.set_cons_zero, List.set_cons_succ]
              refine wpAnyH_takeI (i := 14) (v := .bool false) rfl (by kernel_rfl) (by kernel_rfl) (by kernel_rfl) (fun _ _ _ h => h) (yieldsIf_run rfl (fun w' hw' => op_eql 31 (.tmp 118) (.tmp 127) 31 rfl rfl rfl guard_Id (HEQ.out _))) hS0 ?_
              simp only [Act.put, List.setIfInBounds_toArray, List.set_cons_zero, List.set_cons_succ]
              refine wpAnyH_done (by kernel_rfl) ?_ _
              refine NoPanic.normal ?_
              have HBN := Lib.hid (HB4.out.trans (hS0.mono HB4.out.size))
              go_wp2_with fail
              rw [HQ4.out]
              change _ ∧ _
              go_roundw
              case rel =>
                repeat apply Exists.intro
                refine ⟨?r9, ?f9⟩
                case f9 => rfl
                exact ⟨z + 1, by omega, by omega, by go_num, HBN⟩
              case measure => simp [intOf] <;> omega
      refine hide_postT ?_
      intro Q3 HQ3
      have hkI : (k : Int) < (n : Int) := by omega
      have hkA : k < A.length := by rw [HAN.out]; exact hkl
      obtain ⟨gx, ox, e9, hgx, hrx⟩ := HX8.out.get hkA
      subst e9
      obtain ⟨ln, hln⟩ : ∃ ln, A[k] = ln := ⟨_, rfl⟩
      rw [hln] at hrx
      obtain ⟨y, hy⟩ : ∃ y, ln.id = y := ⟨_, rfl⟩
      obtain ⟨bm, hbm⟩ : ∃ bm, ln.mis = bm := ⟨_, rfl⟩
      have HRR := Lib.hid (show ∀ w', Below W1.heap.size W1 w' → w'.rangeAt gx (ox + k * 34) (bvs y.1) ∧ w'.rangeAt g (off + i * 83) (bvs x.1) ∧ w'.cell? ⟨gx, ox + k * 34 + 33, none⟩ = some (.bool bm) from fun w' hw' => by
        have hbb := HB1.out.trans (hw'.mono HB1.out.size)
        have h1 := lin_cells (range_below (show W8.rangeAt gx (ox + k * 34) ln.cells from hrx) hgx hbb)
        rw [hy, hbm] at h1
        exact ⟨h1.1, (HCX.out w' hbb).1, h1.2.2⟩)
      have HYE := Lib.hid (show A[k].id = y by rw [hln, hy])
      have HME := Lib.hid (show A[k].mis = bm by rw [hln, hbm])
      clear hrx hgx hln hy hbm
      by_cases hyx : y = x
      case neg =>
        have HNE := Lib.hid hyx
        have HNX := Lib.hid (HAT.out.no hkA (fun h => hyx (by rw [← HYE.out]; exact h.1)))
        clear hyx
        go_wp2_with fail
        have HEQ := Lib.hid (show ∀ w, (binOp .eql 31 (.agg (bvs y.1).toArray) (.agg (bvs x.1).toArray)).run Try.prog w = .ok (.bool false) w from fun w => by
          refine (eql_Id y x w).trans ?_
          congr 2
          exact @decide_eq_false _ _ HNE.out)
        refine wp_region_noPanic ?_
        refine wp_region_H (Below W1.heap.size W1) (by kernel_rfl) ?_
        have hS0 : (Below W1.heap.size W1) W1.drew := (Below.refl _ _).drew
        obtain ⟨wd, hwd⟩ : ∃ wd, W1.drew = wd := ⟨_, rfl⟩
        rw [hwd] at hS0  ⊢
        clear hwd
        refine wpAnyH_takeI (i := 0) (v := ?v1) rfl (by kernel_rfl) (by kernel_rfl) (by kernel_rfl) (fun _ _ _ h => h) (yieldsIf_run rfl (fun w' hw' => ?y1)) hS0 ?_
        case y1 => first | (go_simp; rfl) | (go_simp; done) | rfl
        simp only [Act.put, List.setIfInBounds_toArray, List.set_cons_zero, List.set_cons_succ]
        refine wpAnyH_takeI (i := 1) (v := ?v2) rfl (by kernel_rfl) (by kernel_rfl) (by kernel_rfl) (fun _ _ _ h => h) (yieldsIf_run rfl (fun w' hw' => ?y2)) hS0 ?_
        case y2 => first | (go_simp; rfl) | (go_simp; done) | rfl
        simp only [Act.put, List.setIfInBounds_toArray, List.set_cons_zero, List.set_cons_succ]
        refine wpAnyH_takeI (i := 2) (v := ?v3) rfl (by kernel_rfl) (by kernel_rfl) (by kernel_rfl) (fun _ _ _ h => h) (yieldsIf_run rfl (fun w' hw' => ?y3)) hS0 ?_
        case y3 => first | (go_simp; rfl) | (go_simp; done) | rfl
        simp only [Act.put, List.setIfInBounds_toArray, List.set_cons_zero, List.set_cons_succ]
        refine wpAnyH_takeI (i := 3) (v := ?v4) rfl (by kernel_rfl) (by kernel_rfl) (by kernel_rfl) (fun _ _ _ h => h) (yieldsIf_run rfl (fun w' hw' => ?y4)) hS0 ?_
        case y4 => first | (go_simp; rfl) | (go_simp; done) | rfl
        simp only [Act.put, List.setIfInBounds_toArray, List.set_cons_zero, List.set_cons_succ]
        refine wpAnyH_takeI (i := 4) (v := .agg (bvs y.1).toArray) rfl (by kernel_rfl) (by kernel_rfl) (by kernel_rfl) (fun _ _ _ h => h) (yieldsIf_load_mid rfl 31 (.tmp 58) rfl gx (ox + k * 34) rfl (bvs y.1) _ (fun w' hw' => (HRR.out w' hw').1) Try.underlying31 rfl (sizeId y)) hS0 ?_
        simp only [Act.put, List.setIfInBounds_toArray, List.set_cons_zero, List.set_cons_succ]
        refine wpAnyH_takeI (i := 5) (v := ?v5) rfl (by kernel_rfl) (by kernel_rfl) (by kernel_rfl) (fun _ _ _ h => h) (yieldsIf_run rfl (fun w' hw' => ?y5)) hS0 ?_
        case y5 => first | (go_simp; rfl) | (go_simp; done) | rfl
        simp only [Act.put, List.setIfInBounds_toArray, List.set_cons_zero, List.set_cons_succ]
        refine wpAnyH_takeI (i := 6) (v := ?v6) rfl (by kernel_rfl) (by kernel_rfl) (by kernel_rfl) (fun _ _ _ h => h) (yieldsIf_run rfl (fun w' hw' => ?y6)) hS0 ?_
        case y6 => first | (go_simp; rfl) | (go_simp; done) | rfl
        simp only [Act.put, List.setIfInBounds_toArray, List.set_cons_zero, List.set_cons_succ]
        refine wpAnyH_takeI (i := 7) (v := ?v7) rfl (by kernel_rfl) (by kernel_rfl) (by kernel_rfl) (fun _ _ _ h => h) (yieldsIf_run rfl (fun w' hw' => ?y7)) hS0 ?_
        case y7 => first | (go_simp; rfl) | (go_simp; done) | rfl
        simp only [Act.put, List.setIfInBounds_toArray, List.set_cons_zero, List.set_cons_succ]
        refine wpAnyH_takeI (i := 8) (v := ?v8) rfl (by kernel_rfl) (by kernel_rfl) (by kernel_rfl) (fun _ _ _ h => h) (yieldsIf_run rfl (fun w' hw' => ?y8)) hS0 ?_
        case y8 => first | (go_simp; rfl) | (go_simp; done) | rfl
        simp only [Act.put, List.setIfInBounds_toArray, List.set_cons_zero, List.set_cons_succ]
        refine wpAnyH_takeI (i := 9) (v := .agg (bvs x.1).toArray) rfl (by kernel_rfl) (by kernel_rfl) (by kernel_rfl) (fun _ _ _ h => h) (yieldsIf_load_mid rfl 31 (.tmp 63) rfl g (off + i * 83) rfl (bvs x.1) _ (fun w' hw' => (HRR.out w' hw').2.1) Try.underlying31 rfl (sizeId x)) hS0 ?_
        simp only [Act.put, List.setIfInBounds_toArray, List.set_cons_zero, List.set_cons_succ]
        refine wpAnyH_takeI (i := 10) (v := .bool false) rfl (by kernel_rfl) (by kernel_rfl) (by kernel_rfl) (fun _ _ _ h => h) (yieldsIf_run rfl (fun w' hw' => op_eql 31 (.tmp 59) (.tmp 64) 31 rfl rfl rfl guard_Id (HEQ.out _))) hS0 ?_
        simp only [Act.put, List.setIfInBounds_toArray, List.set_cons_zero, List.set_cons_succ]
        refine wpAnyH_takeI (i := 11) (v := ?v9) rfl (by kernel_rfl) (by kernel_rfl) (by kernel_rfl) (fun _ _ _ h => h) (yieldsIf_run rfl (fun w' hw' => ?y9)) hS0 ?_
        case y9 => first | (go_simp; rfl) | (go_simp; done) | rfl
        simp only [Act.put, List.setIfInBounds_toArray, List.set_cons_zero, List.set_cons_succ]
        refine wpAnyH_takeI (i := 12) (v := undef) rfl (by kernel_rfl) (by kernel_rfl) (by kernel_rfl) (fun _ _ _ h => h) (yieldsIf_skip rfl) hS0 ?_
        simp only [Act.put, List.setIfInBounds_toArray, List.set_cons_zero, List.set_cons_succ]
        refine wpAnyH_takeI (i := 13) (v := undef) rfl (by kernel_rfl) (by kernel_rfl) (by kernel_rfl) (fun _ _ _ h => h) (yieldsIf_skip rfl) hS0 ?_
        simp only [Act.put, List.setIfInBounds_toArray, List.set_cons_zero, List.set_cons_succ]
        refine wpAnyH_takeI (i := 14) (v := undef) rfl (by kernel_rfl) (by kernel_rfl) (by kernel_rfl) (fun _ _ _ h => h) (yieldsIf_skip rfl) hS0 ?_
        simp only [Act.put, List.setIfInBounds_toArray, List.set_cons_zero, List.set_cons_succ]
        refine wpAnyH_takeI (i := 15) (v := undef) rfl (by kernel_rfl) (by kernel_rfl) (by kernel_rfl) (fun _ _ _ h => h) (yieldsIf_skip rfl) hS0 ?_
        simp only [Act.put, List.setIfInBounds_toArray, List.set_cons_zero, List.set_cons_succ]
        refine wpAnyH_takeI (i := 16) (v := undef) rfl (by kernel_rfl) (by kernel_rfl) (by kernel_rfl) (fun _ _ _ h => h) (yieldsIf_skip rfl) hS0 ?_
        simp only [Act.put, List.setIfInBounds_toArray, List.set_cons_zero, List.set_cons_succ]
        refine wpAnyH_takeI (i := 17) (v := undef) rfl (by kernel_rfl) (by kernel_rfl) (by kernel_rfl) (fun _ _ _ h => h) (yieldsIf_skip rfl) hS0 ?_
        simp only [Act.put, List.setIfInBounds_toArray, List.set_cons_zero, List.set_cons_succ]
        refine wpAnyH_takeI (i := 18) (v := ?v10) rfl (by kernel_rfl) (by kernel_rfl) (by kernel_rfl) (fun _ _ _ h => h) (yieldsIf_run rfl (fun w' hw' => ?y10)) hS0 ?_
        case y10 => first | (go_simp; rfl) | (go_simp; done) | rfl
        simp only [Act.put, List.setIfInBounds_toArray, List.set_cons_zero, List.set_cons_succ]
        refine wpAnyH_done (by kernel_rfl) ?_ _
        refine NoPanic.normal ?_
        have HBN := Lib.hid (HB1.out.trans (hS0.mono HB1.out.size))
        go_wp2_with fail
        rw [HQ3.out]
        change _ ∧ _
        go_roundw
        case rel => exact ⟨k + 1, m, az, by omega, by omega, by go_num, by first | rfl | go_num, by first | rfl | go_num, HNX, HBN⟩
        case measure => simp [intOf] <;> omega
      subst hyx
      have HEQ := Lib.hid (show ∀ w, (binOp .eql 31 (.agg (bvs y.1).toArray) (.agg (bvs y.1).toArray)).run Try.prog w = .ok (.bool true) w from fun w => by
        refine (eql_Id y y w).trans ?_
        congr 2
        exact @decide_eq_true _ _ rfl)
      cases bm with
      | true =>
        have HNX := Lib.hid (HAT.out.no hkA (fun h => by rw [HME.out] at h; cases h.2))
        go_wp2_with fail
        refine wp_region_noPanic ?_
        refine wp_region_H (Below W1.heap.size W1) (by kernel_rfl) ?_
        have hS0 : (Below W1.heap.size W1) W1.drew := (Below.refl _ _).drew
        obtain ⟨wd, hwd⟩ : ∃ wd, W1.drew = wd := ⟨_, rfl⟩
        rw [hwd] at hS0  ⊢
        clear hwd
        refine wpAnyH_takeI (i := 0) (v := ?v11) rfl (by kernel_rfl) (by kernel_rfl) (by kernel_rfl) (fun _ _ _ h => h) (yieldsIf_run rfl (fun w' hw' => ?y11)) hS0 ?_
        case y11 => first | (go_simp; rfl) | (go_simp; done) | rfl
        simp only [Act.put, List.setIfInBounds_toArray, List.set_cons_zero, List.set_cons_succ]
        refine wpAnyH_takeI (i := 1) (v := ?v12) rfl (by kernel_rfl) (by kernel_rfl) (by kernel_rfl) (fun _ _ _ h => h) (yieldsIf_run rfl (fun w' hw' => ?y12)) hS0 ?_
        case y12 => first | (go_simp; rfl) | (go_simp; done) | rfl
        simp only [Act.put, List.setIfInBounds_toArray, List.set_cons_zero, List.set_cons_succ]
        refine wpAnyH_takeI (i := 2) (v := ?v13) rfl (by kernel_rfl) (by kernel_rfl) (by kernel_rfl) (fun _ _ _ h => h) (yieldsIf_run rfl (fun w' hw' => ?y13)) hS0 ?_
        case y13 => first | (go_simp; rfl) | (go_simp; done) | rfl
        simp only [Act.put, List.setIfInBounds_toArray, List.set_cons_zero, List.set_cons_succ]
        refine wpAnyH_takeI (i := 3) (v := ?v14) rfl (by kernel_rfl) (by kernel_rfl) (by kernel_rfl) (fun _ _ _ h => h) (yieldsIf_run rfl (fun w' hw' => ?y14)) hS0 ?_
        case y14 => first | (go_simp; rfl) | (go_simp; done) | rfl
        simp only [Act.put, List.setIfInBounds_toArray, List.set_cons_zero, List.set_cons_succ]
        refine wpAnyH_takeI (i := 4) (v := .agg (bvs y.1).toArray) rfl (by kernel_rfl) (by kernel_rfl) (by kernel_rfl) (fun _ _ _ h => h) (yieldsIf_load_mid rfl 31 (.tmp 58) rfl gx (ox + k * 34) rfl (bvs y.1) _ (fun w' hw' => (HRR.out w' hw').1) Try.underlying31 rfl (sizeId y)) hS0 ?_
        simp only [Act.put, List.setIfInBounds_toArray, List.set_cons_zero, List.set_cons_succ]
        refine wpAnyH_takeI (i := 5) (v := ?v15) rfl (by kernel_rfl) (by kernel_rfl) (by kernel_rfl) (fun _ _ _ h => h) (yieldsIf_run rfl (fun w' hw' => ?y15)) hS0 ?_
        case y15 => first | (go_simp; rfl) | (go_simp; done) | rfl
        simp only [Act.put, List.setIfInBounds_toArray, List.set_cons_zero, List.set_cons_succ]
        refine wpAnyH_takeI (i := 6) (v := ?v16) rfl (by kernel_rfl) (by kernel_rfl) (by kernel_rfl) (fun _ _ _ h => h) (yieldsIf_run rfl (fun w' hw' => ?y16)) hS0 ?_
        case y16 => first | (go_simp; rfl) | (go_simp; done) | rfl
        simp only [Act.put, List.setIfInBounds_toArray, List.set_cons_zero, List.set_cons_succ]
        refine wpAnyH_takeI (i := 7) (v := ?v17) rfl (by kernel_rfl) (by kernel_rfl) (by kernel_rfl) (fun _ _ _ h => h) (yieldsIf_run rfl (fun w' hw' => ?y17)) hS0 ?_
        case y17 => first | (go_simp; rfl) | (go_simp; done) | rfl
        simp only [Act.put, List.setIfInBounds_toArray, List.set_cons_zero, List.set_cons_succ]
        refine wpAnyH_takeI (i := 8) (v := ?v18) rfl (by kernel_rfl) (by kernel_rfl) (by kernel_rfl) (fun _ _ _ h => h) (yieldsIf_run rfl (fun w' hw' => ?y18)) hS0 ?_
        case y18 => first | (go_simp; rfl) | (go_simp; done) | rfl
        simp only [Act.put, List.setIfInBounds_toArray, List.set_cons_zero, List.set_cons_succ]
        refine wpAnyH_takeI (i := 9) (v := .agg (bvs y.1).toArray) rfl (by kernel_rfl) (by kernel_rfl) (by kernel_rfl) (fun _ _ _ h => h) (yieldsIf_load_mid rfl 31 (.tmp 63) rfl g (off + i * 83) rfl (bvs y.1) _ (fun w' hw' => (HRR.out w' hw').2.1) Try.underlying31 rfl (sizeId y)) hS0 ?_
        simp only [Act.put, List.setIfInBounds_toArray, List.set_cons_zero, List.set_cons_succ]
        refine wpAnyH_takeI (i := 10) (v := .bool true) rfl (by kernel_rfl) (by kernel_rfl) (by kernel_rfl) (fun _ _ _ h => h) (yieldsIf_run rfl (fun w' hw' => op_eql 31 (.tmp 59) (.tmp 64) 31 rfl rfl rfl guard_Id (HEQ.out _))) hS0 ?_
        simp only [Act.put, List.setIfInBounds_toArray, List.set_cons_zero, List.set_cons_succ]
        refine wpAnyH_takeI (i := 11) (v := ?v19) rfl (by kernel_rfl) (by kernel_rfl) (by kernel_rfl) (fun _ _ _ h => h) (yieldsIf_run rfl (fun w' hw' => ?y19)) hS0 ?_
        case y19 => first | (go_simp; rfl) | (go_simp; done) | rfl
        simp only [Act.put, List.setIfInBounds_toArray, List.set_cons_zero, List.set_cons_succ]
        refine wpAnyH_takeI (i := 12) (v := ?v20) rfl (by kernel_rfl) (by kernel_rfl) (by kernel_rfl) (fun _ _ _ h => h) (yieldsIf_want rfl (fun w' hw' => ?y20)) hS0 ?_
        case y20 => first | (go_simp; rfl) | (go_simp; done) | rfl
        simp only [Act.put, List.setIfInBounds_toArray, List.set_cons_zero, List.set_cons_succ]
        refine wpAnyH_takeI (i := 13) (v := ?v21) rfl (by kernel_rfl) (by kernel_rfl) (by kernel_rfl) (fun _ _ _ h => h) (yieldsIf_want rfl (fun w' hw' => ?y21)) hS0 ?_
        case y21 => first | (go_simp; rfl) | (go_simp; done) | rfl
        simp only [Act.put, List.setIfInBounds_toArray, List.set_cons_zero, List.set_cons_succ]
        refine wpAnyH_takeI (i := 14) (v := ?v22) rfl (by kernel_rfl) (by kernel_rfl) (by kernel_rfl) (fun _ _ _ h => h) (yieldsIf_want rfl (fun w' hw' => ?y22)) hS0 ?_
        case y22 => first | (go_simp; rfl) | (go_simp; done) | rfl
        simp only [Act.put, List.setIfInBounds_toArray, List.set_cons_zero, List.set_cons_succ]
        refine wpAnyH_takeI (i := 15) (v := ?v23) rfl (by kernel_rfl) (by kernel_rfl) (by kernel_rfl) (fun _ _ _ h => h) (yieldsIf_want rfl (fun w' hw' => ?y23)) hS0 ?_
        case y23 => first | (go_simp; rfl) | (go_simp; done) | rfl
        simp only [Act.put, List.setIfInBounds_toArray, List.set_cons_zero, List.set_cons_succ]
        refine wpAnyH_takeI (i := 16) (v := ?v24) rfl (by kernel_rfl) (by kernel_rfl) (by kernel_rfl) (fun _ _ _ h => h) (yieldsIf_want rfl (fun w' hw' => ?y24)) hS0 ?_
        case y24 => (have h3 := (HRR.out w' hw').2.2; clear hw'; first | (go_simp; rfl) | (go_simp; done))
        simp only [Act.put, List.setIfInBounds_toArray, List.set_cons_zero, List.set_cons_succ]
        refine wpAnyH_takeI (i := 17) (v := ?v25) rfl (by kernel_rfl) (by kernel_rfl) (by kernel_rfl) (fun _ _ _ h => h) (yieldsIf_want rfl (fun w' hw' => ?y25)) hS0 ?_
        case y25 => first | (go_simp; rfl) | (go_simp; done) | rfl
        simp only [Act.put, List.setIfInBounds_toArray, List.set_cons_zero, List.set_cons_succ]
        refine wpAnyH_takeI (i := 18) (v := ?v26) rfl (by kernel_rfl) (by kernel_rfl) (by kernel_rfl) (fun _ _ _ h => h) (yieldsIf_run rfl (fun w' hw' => ?y26)) hS0 ?_
        case y26 => first | (go_simp; rfl) | (go_simp; done) | rfl
        simp only [Act.put, List.setIfInBounds_toArray, List.set_cons_zero, List.set_cons_succ]
        refine wpAnyH_done (by kernel_rfl) ?_ _
        refine NoPanic.normal ?_
        have HBN := Lib.hid (HB1.out.trans (hS0.mono HB1.out.size))
        go_wp2_with fail
        rw [HQ3.out]
        change _ ∧ _
        go_roundw
        case rel => exact ⟨k + 1, m, az, by omega, by omega, by go_num, by first | rfl | go_num, by first | rfl | go_num, HNX, HBN⟩
        case measure => simp [intOf] <;> omega
      | false =>
        obtain ⟨hm0, hnx⟩ := HAT.out.yes HAD.out hkA HYE.out HME.out
        subst hm0
        have HNX := Lib.hid hnx
        clear hnx
        go_wp2_with fail
        refine wp_region_noPanic ?_
        refine wp_region_H (Below W1.heap.size W1) (by kernel_rfl) ?_
        have hS0 : (Below W1.heap.size W1) W1.drew := (Below.refl _ _).drew
        obtain ⟨wd, hwd⟩ : ∃ wd, W1.drew = wd := ⟨_, rfl⟩
        rw [hwd] at hS0  ⊢
        clear hwd
        refine wpAnyH_takeI (i := 0) (v := ?v27) rfl (by kernel_rfl) (by kernel_rfl) (by kernel_rfl) (fun _ _ _ h => h) (yieldsIf_run rfl (fun w' hw' => ?y27)) hS0 ?_
        case y27 => first | (go_simp; rfl) | (go_simp; done) | rfl
        simp only [Act.put, List.setIfInBounds_toArray, List.set_cons_zero, List.set_cons_succ]
        refine wpAnyH_takeI (i := 1) (v := ?v28) rfl (by kernel_rfl) (by kernel_rfl) (by kernel_rfl) (fun _ _ _ h => h) (yieldsIf_run rfl (fun w' hw' => ?y28)) hS0 ?_
        case y28 => first | (go_simp; rfl) | (go_simp; done) | rfl
        simp only [Act.put, List.setIfInBounds_toArray, List.set_cons_zero, List.set_cons_succ]
        refine wpAnyH_takeI (i := 2) (v := ?v29) rfl (by kernel_rfl) (by kernel_rfl) (by kernel_rfl) (fun _ _ _ h => h) (yieldsIf_run rfl (fun w' hw' => ?y29)) hS0 ?_
        case y29 => first | (go_simp; rfl) | (go_simp; done) | rfl
        simp only [Act.put, List.setIfInBounds_toArray, List.set_cons_zero, List.set_cons_succ]
        refine wpAnyH_takeI (i := 3) (v := ?v30) rfl (by kernel_rfl) (by kernel_rfl) (by kernel_rfl) (fun _ _ _ h => h) (yieldsIf_run rfl (fun w' hw' => ?y30)) hS0 ?_
        case y30 => first | (go_simp; rfl) | (go_simp; done) | rfl
        simp only [Act.put, List.setIfInBounds_toArray, List.set_cons_zero, List.set_cons_succ]
        refine wpAnyH_takeI (i := 4) (v := .agg (bvs y.1).toArray) rfl (by kernel_rfl) (by kernel_rfl) (by kernel_rfl) (fun _ _ _ h => h) (yieldsIf_load_mid rfl 31 (.tmp 58) rfl gx (ox + k * 34) rfl (bvs y.1) _ (fun w' hw' => (HRR.out w' hw').1) Try.underlying31 rfl (sizeId y)) hS0 ?_
        simp only [Act.put, List.setIfInBounds_toArray, List.set_cons_zero, List.set_cons_succ]
        refine wpAnyH_takeI (i := 5) (v := ?v31) rfl (by kernel_rfl) (by kernel_rfl) (by kernel_rfl) (fun _ _ _ h => h) (yieldsIf_run rfl (fun w' hw' => ?y31)) hS0 ?_
        case y31 => first | (go_simp; rfl) | (go_simp; done) | rfl
        simp only [Act.put, List.setIfInBounds_toArray, List.set_cons_zero, List.set_cons_succ]
        refine wpAnyH_takeI (i := 6) (v := ?v32) rfl (by kernel_rfl) (by kernel_rfl) (by kernel_rfl) (fun _ _ _ h => h) (yieldsIf_run rfl (fun w' hw' => ?y32)) hS0 ?_
        case y32 => first | (go_simp; rfl) | (go_simp; done) | rfl
        simp only [Act.put, List.setIfInBounds_toArray, List.set_cons_zero, List.set_cons_succ]
        refine wpAnyH_takeI (i := 7) (v := ?v33) rfl (by kernel_rfl) (by kernel_rfl) (by kernel_rfl) (fun _ _ _ h => h) (yieldsIf_run rfl (fun w' hw' => ?y33)) hS0 ?_
        case y33 => first | (go_simp; rfl) | (go_simp; done) | rfl
        simp only [Act.put, List.setIfInBounds_toArray, List.set_cons_zero, List.set_cons_succ]
        refine wpAnyH_takeI (i := 8) (v := ?v34) rfl (by kernel_rfl) (by kernel_rfl) (by kernel_rfl) (fun _ _ _ h => h) (yieldsIf_run rfl (fun w' hw' => ?y34)) hS0 ?_
        case y34 => first | (go_simp; rfl) | (go_simp; done) | rfl
        simp only [Act.put, List.setIfInBounds_toArray, List.set_cons_zero, List.set_cons_succ]
        refine wpAnyH_takeI (i := 9) (v := .agg (bvs y.1).toArray) rfl (by kernel_rfl) (by kernel_rfl) (by kernel_rfl) (fun _ _ _ h => h) (yieldsIf_load_mid rfl 31 (.tmp 63) rfl g (off + i * 83) rfl (bvs y.1) _ (fun w' hw' => (HRR.out w' hw').2.1) Try.underlying31 rfl (sizeId y)) hS0 ?_
        simp only [Act.put, List.setIfInBounds_toArray, List.set_cons_zero, List.set_cons_succ]
        refine wpAnyH_takeI (i := 10) (v := .bool true) rfl (by kernel_rfl) (by kernel_rfl) (by kernel_rfl) (fun _ _ _ h => h) (yieldsIf_run rfl (fun w' hw' => op_eql 31 (.tmp 59) (.tmp 64) 31 rfl rfl rfl guard_Id (HEQ.out _))) hS0 ?_
        simp only [Act.put, List.setIfInBounds_toArray, List.set_cons_zero, List.set_cons_succ]
        refine wpAnyH_takeI (i := 11) (v := ?v35) rfl (by kernel_rfl) (by kernel_rfl) (by kernel_rfl) (fun _ _ _ h => h) (yieldsIf_run rfl (fun w' hw' => ?y35)) hS0 ?_
        case y35 => first | (go_simp; rfl) | (go_simp; done) | rfl
        simp only [Act.put, List.setIfInBounds_toArray, List.set_cons_zero, List.set_cons_succ]
        refine wpAnyH_takeI (i := 12) (v := ?v36) rfl (by kernel_rfl) (by kernel_rfl) (by kernel_rfl) (fun _ _ _ h => h) (yieldsIf_want rfl (fun w' hw' => ?y36)) hS0 ?_
        case y36 => first | (go_simp; rfl) | (go_simp; done) | rfl
        simp only [Act.put, List.setIfInBounds_toArray, List.set_cons_zero, List.set_cons_succ]
        refine wpAnyH_takeI (i := 13) (v := ?v37) rfl (by kernel_rfl) (by kernel_rfl) (by kernel_rfl) (fun _ _ _ h => h) (yieldsIf_want rfl (fun w' hw' => ?y37)) hS0 ?_
        case y37 => first | (go_simp; rfl) | (go_simp; done) | rfl
        simp only [Act.put, List.setIfInBounds_toArray, List.set_cons_zero, List.set_cons_succ]
        refine wpAnyH_takeI (i := 14) (v := ?v38) rfl (by kernel_rfl) (by kernel_rfl) (by kernel_rfl) (fun _ _ _ h => h) (yieldsIf_want rfl (fun w' hw' => ?y38)) hS0 ?_
        case y38 => first | (go_simp; rfl) | (go_simp; done) | rfl
        simp only [Act.put, List.setIfInBounds_toArray, List.set_cons_zero, List.set_cons_succ]
        refine wpAnyH_takeI (i := 15) (v := ?v39) rfl (by kernel_rfl) (by kernel_rfl) (by kernel_rfl) (fun _ _ _ h => h) (yieldsIf_want rfl (fun w' hw' => ?y39)) hS0 ?_
        case y39 => first | (go_simp; rfl) | (go_simp; done) | rfl
        simp only [Act.put, List.setIfInBounds_toArray, List.set_cons_zero, List.set_cons_succ]
        refine wpAnyH_takeI (i := 16) (v := ?v40) rfl (by kernel_rfl) (by kernel_rfl) (by kernel_rfl) (fun _ _ _ h => h) (yieldsIf_want rfl (fun w' hw' => ?y40)) hS0 ?_
        case y40 => (have h3 := (HRR.out w' hw').2.2; clear hw'; first | (go_simp; rfl) | (go_simp; done))
        simp only [Act.put, List.setIfInBounds_toArray, List.set_cons_zero, List.set_cons_succ]
        refine wpAnyH_takeI (i := 17) (v := ?v41) rfl (by kernel_rfl) (by kernel_rfl) (by kernel_rfl) (fun _ _ _ h => h) (yieldsIf_want rfl (fun w' hw' => ?y41)) hS0 ?_
        case y41 => first | (go_simp; rfl) | (go_simp; done) | rfl
        simp only [Act.put, List.setIfInBounds_toArray, List.set_cons_zero, List.set_cons_succ]
        refine wpAnyH_takeI (i := 18) (v := ?v42) rfl (by kernel_rfl) (by kernel_rfl) (by kernel_rfl) (fun _ _ _ h => h) (yieldsIf_run rfl (fun w' hw' => ?y42)) hS0 ?_
        case y42 => first | (go_simp; rfl) | (go_simp; done) | rfl
        simp only [Act.put, List.setIfInBounds_toArray, List.set_cons_zero, List.set_cons_succ]
        refine wpAnyH_done (by kernel_rfl) ?_ _
        refine NoPanic.normal ?_
        have HBN := Lib.hid (HB1.out.trans (hS0.mono HB1.out.size))
        go_wp2_with fail
        rw [HQ3.out]
        change _ ∧ _
        go_roundw
        case rel => exact ⟨k + 1, 1, (k : Int), by omega, by omega, by go_num, by first | rfl | go_num, by first | rfl | go_num, HNX, HBN⟩
        case measure => simp [intOf] <;> omega
end Go.Proofs.Ytjjanjhoaiannaa
