/- The reference: Oldest. -/
import Derived.Test.YtnmdgjodbikndaaSo2
namespace Go.Proofs.Ytnmdgjodbikndaa
open Go.RowKit
set_option linter.unusedVariables false
set_option linter.unusedSimpArgs false

def lenV : Value → Nat
  | .slice _ n _ => n
  | _ => 0
theorem rSize_app (A B : List RefA) : rSize (A ++ B) = rSize A + rSize B := by unfold rSize; rw [List.map_append, List.sum_append]
def ROldPost (w : World) (c : Int) (L : List IdB) (e : Ending) (w' : World) : Prop := ∃ v, e = .returned (.tuple #[v, .int .i64 c]) ∧ OwnL arE w' w.heap.size v L ∧ Below w.heap.size w w'
theorem wpList_stV {P : Program} {ops : Array Oper} {rest : List Oper} {o : Oper} {a : Act} {w : World} {Q : Exit → Act → World → Prop} (hg : o.guard = none) (ty : TypeId) (x y : Operand) (ho : o.op = .store ty x y)
    (h : ∀ K : Act → World → Prop, (∀ a w, wpList P ops Q rest a w → K a w) → o.wp P a w K Q) : wpList P ops Q (o :: rest) a w := wpList_plain hg h
set_option maxRecDepth 100000 in
set_option maxHeartbeats 2000000 in
theorem rOldest_any {w : World} (B : Int) (v : Value) (L : List RefA) (need : Int) (hv : ListAt refE w v L) (hB : 0 ≤ B ∧ B ≤ 1073741824) (hl : L.length < 10000) (ht : ∀ a ∈ L, a.text.size ≤ 65536) :
    Calls Try.prog 48 #[.agg #[.int .i64 B, v], .int .i64 need] w (ROldPost w (rOldC B need) (rOldL B L need)) := by
  obtain ⟨va, vc, rfl⟩ := hv.form
  obtain ⟨N, hN⟩ : ∃ N, L.length = N := ⟨_, rfl⟩
  obtain ⟨c, hc⟩ : ∃ c, rOldC B need = c := ⟨_, rfl⟩
  obtain ⟨R, hR⟩ : ∃ R, rOldL B L need = R := ⟨_, rfl⟩
  rw [hN] at hv hl ⊢
  rw [hc, hR]
  unfold rOldL at hR
  rw [hc] at hR
  unfold rOldC at hc
  obtain ⟨RZ, hRZ⟩ : ∃ RZ, rSize L = RZ := ⟨_, rfl⟩
  have hrz : RZ ≤ 65536 * N := by rw [← hRZ, ← hN]; exact rSize_le ht
  rw [hRZ] at hR
  obtain ⟨w1, hw1⟩ : ∃ w1, w.alloc (.cells #[.int .i64 B, .slice va N vc] 50) = w1 := ⟨_, rfl⟩
  have hx1 : w1.heap[w.heap.size]? = some (.cells #[.int .i64 B, .slice va N vc] 50 (0, 0)) := by rw [← hw1]; exact heap_alloc_new _ _
  have hb1 : Below w.heap.size w w1 := hw1 ▸ (Below.refl _ _).alloc (Nat.le_refl _) _
  have HFO := Lib.hid (show ∀ w', Below w1.heap.size w1 w' → w'.heap[w.heap.size]? = some (.cells #[.int .i64 B, .slice va N vc] 50 (0, 0)) ∧ w'.cell? ⟨w.heap.size, 0, none⟩ = some (.int .i64 B) ∧ w'.cell? ⟨w.heap.size, 1, none⟩ = some (.slice va N vc) from fun w' hw' => by
    have h := (hw'.block _ (Array.getElem?_eq_some_iff.1 hx1).1).trans hx1
    exact ⟨h, by rw [cell_of_row _ _ _ _ _ _ h]; rfl, by rw [cell_of_row _ _ _ _ _ _ h]; rfl⟩)
  have hcB := (HFO.out w1 (Below.refl _ _)).2.1
  have HLZ := Lib.hid (Array.getElem?_eq_some_iff.1 hx1).1
  have HV0 := Lib.hid hv
  have HV := Lib.hid (hv.below hb1)
  have HB1 := Lib.hid hb1
  have HN := Lib.hid hN
  have HCC := Lib.hid hc
  have HR := Lib.hid hR
  have HT := Lib.hid ht
  have HRZ := Lib.hid hRZ
  clear hx1 hb1 hv hN hc hR ht hRZ
  go_enter Try.func48, Try.ntmps48
  by_cases h1 : need < 0
  · obtain rfl : 2 = c := by rw [← HCC.out, if_pos h1]
    obtain rfl : [] = R := by rw [← HR.out, if_neg (by decide)]
    clear HCC HR
    go_wp2_with fail
    exact bodyPost_ret (v := .tuple #[.slice none 0 0, .int .i64 2]) (by simp [results, Try.results48, go_sem]) rfl ⟨_, rfl, ownL_nil _ _ _, HB1.out⟩
  by_cases h2 : B < need
  · obtain rfl : 9 = c := by rw [← HCC.out, if_neg h1, if_pos h2]
    obtain rfl : [] = R := by rw [← HR.out, if_neg (by decide)]
    clear HCC HR
    go_wp2_with fail
    exact bodyPost_ret (v := .tuple #[.slice none 0 0, .int .i64 9]) (by simp [results, Try.results48, go_sem]) rfl ⟨_, rfl, ownL_nil _ _ _, HB1.out⟩
  obtain rfl : 0 = c := by rw [← HCC.out, if_neg h1, if_neg h2]
  have HR := Lib.hid (show oldGoR need (B - (RZ : Int)) (stabR L) = R by rw [← HR.out, if_pos rfl])
  clear HCC
  have hwr : IntKind.i64.wrap (B - (RZ : Int)) = B - (RZ : Int) := IntWalk.i64_in _ (by omega)
  have hmk := make_marks N (by omega)
  obtain ⟨Z, hZ⟩ : ∃ Z, List.replicate N false = Z := ⟨_, rfl⟩
  obtain ⟨C0, hC0⟩ : ∃ C0, (Z.map Value.bool).toArray = C0 := ⟨_, rfl⟩
  rw [hZ, hC0] at hmk
  have HZ := Lib.hid hZ
  have HC0 := Lib.hid hC0
  clear hZ hC0
  go_wp2_with fail
  refine wp_region_noPanic ?_
  refine wp_region_H (Below w1.heap.size w1) (by kernel_rfl) ?_
  have hS0 : (Below w1.heap.size w1) w1.drew := (Below.refl _ _).drew
  obtain ⟨wd, hwd⟩ : ∃ wd, w1.drew = wd := ⟨_, rfl⟩
  rw [hwd] at hS0 ⊢
  clear hwd
  refine wpAnyH_takeI (i := 0) (v := ?v1) rfl (by kernel_rfl) (by kernel_rfl) (by kernel_rfl) (fun _ _ _ h => h) (yieldsIf_run rfl (fun w' hw' => ?y1)) hS0 ?_
  case y1 => first | (go_simp; rfl) | (go_simp; done) | rfl
  simp only [Act.put, List.setIfInBounds_toArray, List.set_cons_zero, List.set_cons_succ]
  refine wpAnyH_takeI (i := 1) (v := ?v2) rfl (by kernel_rfl) (by kernel_rfl) (by kernel_rfl) (fun _ _ _ h => h) (yieldsIf_run rfl (fun w' hw' => ?y2)) hS0 ?_
  case y2 => (have hc := (HFO.out w' hw').2; clear hw'; first | (go_simp; rfl) | (go_simp; done))
  simp only [Act.put, List.setIfInBounds_toArray, List.set_cons_zero, List.set_cons_succ]
  refine wpAnyH_takeI (i := 2) (v := .agg ([Value.int .i64 B, .slice va N vc]).toArray) rfl (by kernel_rfl) (by kernel_rfl) (by kernel_rfl) (fun _ _ _ h => h) (yieldsIf_load_mid rfl 50 (.tmp 2) rfl w.heap.size (0) rfl ([Value.int .i64 B, .slice va N vc]) _ (fun w' hw' => range_block (HFO.out w' hw').1) Try.underlying50 rfl sizeSL) hS0 ?_
  simp only [Act.put, List.setIfInBounds_toArray, List.set_cons_zero, List.set_cons_succ]
  refine wpAnyH_do (i := 3) (by kernel_rfl) rfl rfl (fun K hK => ?_)
  go_simp
  go_at_call 39
  refine (rBytes_any B _ L (HV.out.below hS0) (by rw [HN.out]; omega) HT.out).mono ?_
  rintro e wB ⟨rfl, hbwB⟩
  rw [HRZ.out]
  have hSwB := hS0.trans (hbwB.mono hS0.size)
  refine hK _ _ (hSwB) ?_
  clear hK K
  try simp only [Act.put, List.setIfInBounds_toArray, List.set_cons_zero, List.set_cons_succ]
  refine wpAnyH_takeI (i := 4) (v := .int .i64 (B - (RZ : Int))) rfl (by kernel_rfl) (by kernel_rfl) (by kernel_rfl) (fun _ _ _ h => h) (yieldsIf_run rfl (fun w' hw' => ?y3)) hSwB ?_
  case y3 => (have h99 := hwr; clear hw'; first | (go_simp; rfl) | (go_simp; done))
  simp only [Act.put, List.setIfInBounds_toArray, List.set_cons_zero, List.set_cons_succ]
  refine wpAnyH_takeI (i := 5) (v := ?v4) rfl (by kernel_rfl) (by kernel_rfl) (by kernel_rfl) (fun _ _ _ h => h) (yieldsIf_run rfl (fun w' hw' => ?y4)) hSwB ?_
  case y4 => first | (go_simp; rfl) | (go_simp; done) | rfl
  simp only [Act.put, List.setIfInBounds_toArray, List.set_cons_zero, List.set_cons_succ]
  refine wpAnyH_done (by kernel_rfl) ?_ _
  refine NoPanic.normal ?_
  have HSB := Lib.hid hSwB
  clear hSwB hcB hwr
  have hcl := (HFO.out _ HSB.out).2.2
  have hw1d : Below w.heap.size w wB := HB1.out.trans (HSB.out.mono HB1.out.size)
  have HBB := Lib.hid hw1d
  clear hw1d
  go_wp2_with fail
  clear hmk
  obtain ⟨w3, hw3⟩ : ∃ w3, wB.alloc (.cells C0 4) = w3 := ⟨_, rfl⟩
  have hx3 : w3.heap[wB.heap.size]? = some (.cells (Z.map Value.bool).toArray 4 (0, 0)) := by rw [← hw3, HC0.out]; exact heap_alloc_new _ _
  have hb3 : Below wB.heap.size wB w3 := hw3 ▸ (Below.refl _ _).alloc (Nat.le_refl _) _
  rw [hw3]
  clear hcl hw3
  obtain ⟨gb, hgb⟩ : ∃ gb, wB.heap.size = gb := ⟨_, rfl⟩
  rw [hgb] at hx3 hb3 ⊢
  have hgw : w.heap.size < gb := by rw [← hgb]; exact Nat.lt_of_lt_of_le HLZ.out HSB.out.size
  have hg3 : gb < w3.heap.size := (Array.getElem?_eq_some_iff.1 hx3).1
  have HG3 := Lib.hid (And.intro hgw hg3)
  have HX3 := Lib.hid hx3
  have HB3 := Lib.hid (HBB.out.trans (hb3.mono (by rw [← hgb]; exact HBB.out.size)))
  have HO := Lib.hid (show ∀ w', Chg (fun b => b = gb) w3 w' → w'.heap[w.heap.size]? = some (.cells #[.int .i64 B, .slice va N vc] 50 (0, 0)) ∧ w'.cell? ⟨w.heap.size, 1, none⟩ = some (.slice va N vc) ∧ ListAt refE w' (.slice va N vc) L ∧ Below w.heap.size w w' from fun w' hw' => by
    have h0 := (hb3.block _ (by rw [← hgb]; exact Nat.lt_of_lt_of_le HLZ.out HSB.out.size)).trans (HFO.out _ HSB.out).1
    have h := (hw'.block _ (by omega) (by omega)).trans h0
    refine ⟨h, by rw [cell_of_row _ _ _ _ _ _ h]; rfl, HV0.out.later (HV0.out.below HB3.out) hw' (by omega), ?_⟩
    exact HB3.out.trans (hw'.below (B := w.heap.size) (fun k e => by omega) HB3.out.size))
  clear hx3 hb3 hgw hg3 hgb HBB HSB HFO HB1 HV
  obtain ⟨σ, hσ⟩ := ord_ex L
  have HSG := Lib.hid hσ
  clear hσ
  obtain ⟨M, hM⟩ : ∃ M, stabR L = M := ⟨_, rfl⟩
  have hMl : M.length = N := by rw [← hM, (stabR_perm L).length_eq, HN.out]
  have hMz : rSize M = RZ := by rw [← hM, rSize_perm (stabR_perm L), HRZ.out]
  have hst : ∀ r k, σ[r]? = some k → ∀ hk : k < L.length, M.drop r = L[k] :: M.drop (r + 1) := fun r k h hk => by rw [← hM]; exact stab_at HSG.out h hk
  have HR := Lib.hid (show oldGoR need (B - (RZ : Int)) M = R by rw [← hM]; exact HR.out)
  have HML := Lib.hid hMl
  have HMZ := Lib.hid hMz
  have HST := Lib.hid hst
  clear hM hMl hMz hst HRZ
  obtain ⟨F0, hF0⟩ : ∃ F0, B - (RZ : Int) = F0 := ⟨_, rfl⟩
  rw [hF0] at HR ⊢
  have HF0 := Lib.hid hF0
  clear hF0
  go_loopw [6, 7] (fun ov fv wr => ∃ (r : Nat) (f : Int) (J : List IdB) (G : List Bool), r ≤ N ∧ fv = .int .i64 f ∧ OwnL arE wr w3.heap.size ov J ∧ J.length = r ∧ J ++ oldGoR need f (M.drop r) = R ∧ f = B - (rSize (M.drop r) : Int) ∧ wr.heap[gb]? = some (.cells (G.map Value.bool).toArray 4 (0, 0)) ∧ G.length = N ∧ Marks σ G N r ∧ Chg (fun b => b = gb) w3 wr) (fun ov _ _ => N - lenV ov)
  case atStart => exact ⟨0, F0, [], Z, Nat.zero_le _, rfl, ownL_nil _ _ _, rfl, by rw [List.nil_append, List.drop_zero]; exact HR.out, by rw [List.drop_zero, HMZ.out, HF0.out], HX3.out, by rw [← HZ.out, List.length_replicate], (fun i hi => by rw [← HZ.out]; simp [List.getD, List.getElem?_replicate, hi]), Chg.refl _ _⟩
  case round =>
    obtain ⟨r, f, J, G, hr, rfl, hJ, hJl, hG, hf, hx, hGl, hmk, hC⟩ := hrel
    obtain ⟨jp, jc, rfl⟩ := hJ.form
    rw [hJl] at hJ ⊢
    have HJ := Lib.hid hJ
    have HJL := Lib.hid hJl
    have HG := Lib.hid hG
    have HX := Lib.hid hx
    have HGL := Lib.hid hGl
    have HMK := Lib.hid hmk
    have HC := Lib.hid hC
    have HFE := Lib.hid hf
    clear hJ hJl hG hx hGl hmk hC
    have hfz : rSize (M.drop r) ≤ RZ := by rw [← HMZ.out, ← List.take_append_drop r M, rSize_app, List.take_append_drop]; omega
    have hfI : -700000000 ≤ f ∧ f ≤ 1073741824 := by omega
    by_cases hge : need ≤ f
    · have hgeI : ¬ f < need := by omega
      have hJR : J = R := by
        have h := HG.out
        have e : oldGoR need f (M.drop r) = [] := by
          cases M.drop r with
          | nil => rfl
          | cons a l => unfold oldGoR; rw [if_pos hge]
        rw [e, List.append_nil] at h
        exact h
      have HJR := Lib.hid hJR
      have HBZ := Lib.hid (HO.out _ HC.out).2.2.2
      clear hJR hfz hf
      go_wp2_with fail
      obtain rfl := HJR.out
      exact bodyPost_ret (v := .tuple #[.slice jp r jc, .int .i64 0]) (by simp [results, Try.results48, go_sem]) rfl ⟨_, rfl, HJ.out.base HB3.out.size, HBZ.out⟩
    have hltI : f < need := by omega
    have hrN : r < N := by
      rcases Nat.lt_or_ge r N with h | h
      · exact h
      · exfalso
        have e : M.drop r = [] := List.drop_of_length_le (by rw [HML.out]; exact h)
        rw [e] at hf
        have : rSize [] = 0 := rfl
        omega
    clear hfz hf
    go_wp2_with fail
    obtain ⟨wo, hwo⟩ : ∃ wo, wr = wo := ⟨_, rfl⟩
    rw [hwo] at HJ HX HC ⊢
    clear hwo
    go_loopw [9, 10] (fun bv iv wq => ∃ (i : Nat) (b : Option Nat), i ≤ N ∧ iv = .int .i64 (i : Int) ∧ bv = .int .i64 (bestV b) ∧ BestI L G i b ∧ Below wo.heap.size wo wq) (fun _ iv _ => N - (intOf iv).toNat)
    case atStart => exact ⟨0, none, Nat.zero_le _, rfl, rfl, fun j hj => by omega, Below.refl _ _⟩
    case round =>
      obtain ⟨i, b, hi, rfl, rfl, hb, hq⟩ := hrel
      have HQ := Lib.hid hq
      have HBI := Lib.hid hb
      clear hq hb
      have HCQ := Lib.hid (HC.out.trans (Chg.of_below (F := fun _ => False) HQ.out) (fun k h => h.elim))
      have hxq := (HQ.out.block _ (Array.getElem?_eq_some_iff.1 HX.out).1).trans HX.out
      have hcl := (HO.out _ HCQ.out).2.1
      by_cases hlt : i < N
      · have hiI : (i : Int) < (N : Int) := by omega
        have hiI0 : (0 : Int) ≤ (i : Int) := by omega
        have hwi : IntKind.i64.wrap ((i : Int) + 1) = (i : Int) + 1 := IntWalk.i64_in _ (by omega)
        have hcm := cell_mark hxq (i := i) (by rw [HGL.out]; exact hlt)
        obtain ⟨gm, hgm⟩ : ∃ gm, G.getD i true = gm := ⟨_, rfl⟩
        rw [hgm] at hcm
        cases gm with
        | true =>
          have HBN := Lib.hid (best_gone HBI.out hgm)
          clear hxq hgm
          go_wp2_with fail
          go_roundw
          case rel => exact ⟨i + 1, b, by omega, by go_num, rfl, HBN.out, HQ.out⟩
          case measure => simp [intOf]; omega
        | false =>
          have HGM := Lib.hid hgm
          clear hxq hgm
          cases b with
          | none =>
            have HBN := Lib.hid (best_first HBI.out HGM.out)
            have hb1 : (bestV none) = -1 := rfl
            rw [hb1]
            clear hb1
            go_wp2_with fail
            go_roundw
            case rel => exact ⟨i + 1, some i, by omega, by go_num, rfl, HBN.out, HQ.out⟩
            case measure => simp [intOf]; omega
          | some k =>
            have hb1 : (bestV (some k)) = (k : Int) := rfl
            rw [hb1]
            clear hb1
            have hk0 : ¬ (k : Int) < 0 := by omega
            have hkN : k < N := by have := HBI.out.1; omega
            go_wp2_with (refine wpList_met rfl ?_; refine wpList_loadV rfl (some 45) rfl 50 (.tmp 2) rfl _ rfl 50 #[.int .i64 B, .slice va N vc] (0, 0) _ (HO.out _ HCQ.out).1 Try.underlying50 rfl sizeS ?_; refine Stop.on ?_)
            refine Stop.go ?_
            try simp only [Act.put, List.setIfInBounds_toArray, List.set_cons_zero, List.set_cons_succ]
            go_wp2_with fail
            refine (rOlder_any B _ L i k (HO.out _ HCQ.out).2.2.1 (by rw [HN.out]; omega) (by rw [HN.out]; exact hlt) (by rw [HN.out]; exact hkN)).mono ?_
            rintro e wz ⟨rfl, hbz⟩
            have HBZ := Lib.hid (HQ.out.trans (hbz.mono HQ.out.size))
            clear hbz hcl hcm
            by_cases ho : oldB L i k
            · rw [decide_eq_true ho]
              have HBN := Lib.hid (best_older HBI.out HGM.out ho)
              clear ho
              go_wp2_with fail
              go_roundw
              case rel => exact ⟨i + 1, some i, by omega, by go_num, rfl, HBN.out, HBZ.out⟩
              case measure => simp [intOf]; omega
            · rw [decide_eq_false ho]
              have HBN := Lib.hid (best_keep HBI.out ho)
              clear ho
              go_wp2_with fail
              go_roundw
              case rel => exact ⟨i + 1, some k, by omega, by go_num, rfl, HBN.out, HBZ.out⟩
              case measure => simp [intOf]; omega
      · obtain rfl : N = i := by omega
        obtain ⟨k, rfl, hsk, hkN⟩ := best_end HSG.out HN.out hrN HMK.out HBI.out
        have hb1 : (bestV (some k)) = (k : Int) := rfl
        rw [hb1]
        clear hb1
        have hkL : k < L.length := by rw [HN.out]; exact hkN
        have hkI : (k : Int) < (N : Int) := by omega
        have hkI0 : (0 : Int) ≤ (k : Int) := by omega
        have hcm := cell_mark hxq (i := k) (by rw [HGL.out]; exact hkN)
        have hfrz := frozen_of_row _ gb k _ _ hxq
        have hdr := HST.out r k hsk hkL
        have HMN := Lib.hid (marks_next HGL.out HMK.out hsk)
        have HXQ := Lib.hid hxq
        clear hxq
        go_wp2_with (refine wpList_stV rfl _ _ _ rfl (fun K hK => ?_); go_simp; refine hK _ _ ?_; clear hK K; refine Stop.on ?_)
        refine Stop.go ?_
        try simp only [Act.put, List.setIfInBounds_toArray, List.set_cons_zero, List.set_cons_succ]
        obtain ⟨ws, hws⟩ : ∃ ws, World.setCell wr ⟨gb, k, none⟩ (.bool true) = ws := ⟨_, rfl⟩
        rw [hws]
        have hxs : ws.heap[gb]? = some (.cells ((G.set k true).map Value.bool).toArray 4 (0, 0)) := hws ▸ set_mark HXQ.out true
        have hcs : Chg (fun b => b = gb) wr ws := hws ▸ Chg.setCell wr (a := ⟨gb, k, none⟩) (.bool true) rfl
        have hC2 := HCQ.out.trans hcs (fun _ h => .inl h)
        have hJ2 := (HJ.out.below HQ.out).chg hcs (fun q hq e => by have := (HJ.out.lt hq).1; have := HG3.out; omega)
        obtain ⟨hbl, hcls, hls, hbs⟩ := HO.out _ hC2
        obtain ⟨g, off, rfl, hg, hri, htx, _⟩ := ref_at hls hkL
        have hta := HT.out _ (List.getElem_mem hkL)
        obtain ⟨a, ha⟩ : ∃ a, L[k] = a := ⟨_, rfl⟩
        rw [ha] at hdr hri htx hta
        have hGn : J ++ [a.id] ++ oldGoR need (f + (a.text.size : Int)) (M.drop (r + 1)) = R := by
          have h := HG.out
          rw [hdr] at h
          unfold oldGoR at h
          rw [if_neg (by omega)] at h
          rw [List.append_assoc]
          exact h
        have hfn : f + (a.text.size : Int) = B - (rSize (M.drop (r + 1)) : Int) := by
          have h := HFE.out
          have e : rSize (a :: M.drop (r + 1)) = a.text.size + rSize (M.drop (r + 1)) := by unfold rSize; rw [List.map_cons, List.sum_cons]
          rw [hdr, e] at h
          omega
        have hwf : IntKind.i64.wrap (f + (a.text.size : Int)) = f + (a.text.size : Int) := IntWalk.i64_in _ (by omega)
        have HXS := Lib.hid hxs
        have HC2 := Lib.hid hC2
        have HJ2 := Lib.hid hJ2
        have HRI := Lib.hid hri
        have HGN := Lib.hid hGn
        have HFN := Lib.hid hfn
        clear hxs hC2 hJ2 hbl hls hbs hri hGn hfn hcs hws hcm hfrz hcl hdr ha hsk hg
        go_wp2_with (with_reducible refine wpList_load_mid rfl 29 _ rfl g (off + k * 34) rfl (bvs a.id.1) _ HRI.out Try.underlying29 rfl (sizeArr a.id) ?_; refine Stop.on ?_)
        refine Stop.go ?_
        try simp only [Act.put, List.setIfInBounds_toArray, List.set_cons_zero, List.set_cons_succ]
        refine wpList_litsV arE rfl (some 71) rfl 1 #[(0, .tmp 70)] rfl [a.id] rfl rfl (by decide) (by decide) ?_
        intro we xe be se
        try simp only [Act.put, List.setIfInBounds_toArray, List.set_cons_zero, List.set_cons_succ]
        have hown := HJ2.out.below be
        have hle : w3.heap.size ≤ we.heap.size := by have := HC2.out.size; omega
        refine wpList_appL arE rfl (n := r) (m := 1) (.tmp 64) (.tmp 71) rfl rfl hown rfl (list_of_block arE xe (le_max4 (by simp))) HJL.out rfl (by omega) hle ?_
        intro a2 c2 wf ho2 hg2 hat
        try simp only [Act.put, List.setIfInBounds_toArray, List.set_cons_zero, List.set_cons_succ]
        have hbf := hown.grown_below hg2 hle
        have hce : Chg (fun b => b = gb) w3 we := HC2.out.trans (Chg.of_below (F := fun _ => False) be) (fun k h => h.elim)
        have hcf : Chg (fun b => b = gb) w3 wf := hce.trans (OwnL.grown_chg hg2) (fun q hq => .inr (hown.lt hq).1)
        have hxf : wf.heap[gb]? = some (.cells ((G.set k true).map Value.bool).toArray 4 (0, 0)) := ((OwnL.grown_chg hg2).block _ (by have := HG3.out; omega) (fun e => by have := (hown.lt e).1; have := HG3.out; omega)).trans ((be.block _ (by have := HG3.out; have := HC2.out.size; omega)).trans HXS.out)
        have HOF := Lib.hid ho2
        have HCF := Lib.hid hcf
        have HXF := Lib.hid hxf
        clear hbf hce hcf hxf hown hle ho2 hg2 hat xe be se
        go_wp2_with fail
        go_roundw
        case rel => exact ⟨r + 1, f + (a.text.size : Int), J ++ [a.id], G.set k true, by omega, by go_num, HOF.out, by rw [List.length_append, HJL.out]; rfl, HGN.out, HFN.out, HXF.out, by rw [List.length_set]; exact HGL.out, HMN.out, HCF.out⟩
        case measure => simp [lenV]; omega
end Go.Proofs.Ytnmdgjodbikndaa
