/- Visibility: the law's pick. -/
import Derived.Test.YtjjanjhoaiannaaV10
import Derived.Test.YtjjanjhoaiannaaVp3
import Derived.Test.YtjjanjhoaiannaaRegion6
namespace Go.Proofs.Ytjjanjhoaiannaa
open Go.RowKit Go.Lib Go.Sort
set_option linter.unusedVariables false
set_option linter.unusedSimpArgs false

theorem vwp_lit1 {P : Program} {o : Oper} {a : Act} {w : World} {K : Act → World → Prop} {Q : Exit → Act → World → Prop} (s e : TypeId) (y : Operand) (ho : o.op = .buildSlice s 1 #[(0, y)])
    (c : Array Value) (hy : a.eval y = .agg c)
    (hu : P.underlying s = some (.slice e)) (hsz : (P.info? e).map (·.size) = some c.size) (hz : ((P.info? e).bind (·.zero)).isSome = true) (hpos : 0 < c.size) (hsmall : c.size ≤ 2 ^ 24)
    (h : K (a.put o.dst (.slice (some ⟨w.heap.size, 0, none⟩) 1 1)) (w.alloc (.cells c e))) : o.wp P a w K Q := by
  cases hie : P.info? e with
  | none => simp [hie] at hsz
  | some ie =>
    simp only [hie, Option.map_some, Option.some.injEq, Option.bind_some] at hsz hz
    obtain ⟨z, hzz⟩ := Option.isSome_iff_exists.1 hz
    have hf := Great.fill_whole (s := ie.size) (by rw [hsz]; exact hpos) [.agg c] ((Array.range (1 * ie.size)).map (z.cells[· % z.cells.size]!)) (by
      intro v hv
      simp only [List.mem_singleton] at hv
      subst hv
      exact hsz.symm) (by simp)
    refine wp_buildSlice s e 1 _ ho c ie z hu hie hzz (by omega) (by omega) ?_ h
    rw [show (Array.map (fun x : Nat × Operand => match x with | (i, x) => (i, a.eval x)) #[(0, y)]).toList = [(0, Value.agg c)] from by simp [hy]]
    simpa [Value.cells] using hf
theorem cut_I (a : Option Addr) (n c m : Nat) (hm : m ≤ c) (hz : a = none → c = 0) (w : World) :
    (Instr.sliceAt 23 (.slice a n c) none (some (.int .i64 (m : Int))) none).run Try.prog w = .ok (.slice a m c) w := by
  cases a with
  | none =>
    obtain rfl := hz rfl
    obtain rfl : m = 0 := by omega
    have h0 : ∀ w, (Instr.sliceAt 23 (.slice none n 0) none (some (.int .i64 0)) none).run Try.prog w = .ok (.slice none 0 0) w := fun w => by go_simp
    exact h0 w
  | some ad =>
    have h1 : (m : Int) ≤ (c : Int) := by omega
    go_simp
theorem from_I {w0 : World} {a : Option Addr} {n c k : Nat} {L : List IdB} (h : ListAt idE w0 (.slice a n c) L) (hk : k ≤ n) :
    ∃ v, (∀ w, (Instr.sliceAt 23 (.slice a n c) (some (.int .i64 (k : Int))) none none).run Try.prog w = .ok v w) ∧ ListAt idE w0 v (L.drop k) := by
  obtain ⟨hn, hc, hm, hz⟩ := h.len
  cases a with
  | none =>
    obtain rfl := hz rfl
    obtain rfl : n = 0 := by omega
    obtain rfl : k = 0 := by omega
    refine ⟨.slice none 0 0, fun w => ?_, by simpa using h⟩
    have h0 : ∀ w, (Instr.sliceAt 23 (.slice none 0 0) (some (.int .i64 0)) none none).run Try.prog w = .ok (.slice none 0 0) w := fun w => by go_simp
    exact h0 w
  | some ad =>
    have h1 : (k : Int) ≤ (n : Int) := by omega
    have h2 : (n : Int) ≤ (c : Int) := by omega
    have hnil : ∀ (x : Addr) (cc : Nat), cc ≤ maxLen → ListAt idE w0 (.slice (some x) 0 cc) [] := fun x cc hcc => ⟨_, _, rfl, Nat.zero_le _, hcc, (fun e => by cases e), fun e => absurd rfl e⟩
    by_cases he : c = k
    · subst he
      obtain rfl : n = c := by omega
      refine ⟨.slice (some ad) 0 0, fun w => by clear hn h hnil hm hz; go_simp, ?_⟩
      rw [List.drop_of_length_le (by omega)]
      exact hnil _ _ (Nat.zero_le _)
    · refine ⟨.slice (some (ad.add (k * 32))) (n - k) (c - k), fun w => by clear hn h hnil hm hz; go_simp, ?_⟩
      by_cases hL : L = []
      · subst hL
        obtain rfl : n = 0 := hn
        rw [List.drop_nil, Nat.zero_sub]
        exact hnil _ _ (by omega)
      · obtain ⟨g, off, e, hg, hr⟩ := h.get (i := 0) (by cases L with | nil => exact absurd rfl hL | cons _ _ => exact Nat.succ_pos _)
        cases e
        have h3 := h.drop hk
        have e2 : (⟨g, off, none⟩ : Addr).add (k * 32) = ⟨g, off + k * 32, none⟩ := by unfold Addr.add; split <;> simp_all
        rw [e2]
        exact h3

theorem list_block {w : World} {b : Nat} {q : IdB} (h : w.heap[b]? = some (.cells (bvs q.1).toArray 31 (0, 0))) : ListAt idE w (.slice (some ⟨b, 0, none⟩) 1 1) [q] :=
  ⟨_, 1, rfl, Nat.le_refl _, by unfold maxLen; omega, (fun e => by cases e), fun _ => ⟨b, 0, rfl, (Array.getElem?_eq_some_iff.1 h).1, fun i hi => by
    obtain rfl : i = 0 := by simpa using hi
    rw [Nat.zero_mul]
    exact range_block h⟩⟩
def pickIds (L : List RowV) (M : List Bool) (val : Bool) : List IdB := ((L.zip M).filter (fun p => p.2 == val)).map (·.1.id)
theorem pick_next {L : List RowV} {M : List Bool} {val : Bool} {i : Nat} (h : i < L.length) (h2 : i < M.length) :
    pickIds (L.take (i + 1)) (M.take (i + 1)) val = pickIds (L.take i) (M.take i) val ++ (if M[i] = val then [L[i].id] else []) := by
  unfold pickIds
  rw [List.take_succ_eq_append_getElem h, List.take_succ_eq_append_getElem h2, List.zip_append (by rw [List.length_take, List.length_take]; omega), List.filter_append, List.map_append]
  congr 1
  by_cases e : M[i] = val <;> simp [e]
theorem pick_len (L : List RowV) (M : List Bool) (val : Bool) : (pickIds L M val).length ≤ L.length := by
  unfold pickIds
  rw [List.length_map]
  refine Nat.le_trans (List.length_filter_le _ _) ?_
  rw [List.length_zip]
  exact Nat.min_le_left _ _
set_option maxRecDepth 100000 in
set_option maxHeartbeats 2000000 in
theorem pick_any {w : World} (v u : Value) (L : List RowV) (M : List Bool) (val : Bool) (hv : RowsAt w v L) (hu : ListAt boolE w u M) (hm : M.length = L.length) (hl : L.length ≤ 4096) :
    Calls Try.prog 20 #[v, u, .bool val] w fun e w' => ∃ a, e = .returned a ∧ OwnL idE w' w.heap.size a (sortB (pickIds L M val)) ∧ Below w.heap.size w w' := by
  obtain ⟨va, vc, rfl⟩ := hv.l.form
  obtain ⟨ua, uc, rfl⟩ := hu.form
  obtain ⟨N, hN⟩ : ∃ N, L.length = N := ⟨_, rfl⟩
  rw [hN] at hv hm hl ⊢
  rw [hm] at hu ⊢
  have HV := Lib.hid hv
  have HU := Lib.hid hu
  have HN := Lib.hid hN
  have HM := Lib.hid hm
  clear hv hu hN hm
  go_enter Try.func20, Try.ntmps20
  go_wp2_with fail
  go_loopw [7, 8] (fun ov iv wr => ∃ i : Nat, i ≤ N ∧ iv = .int .i64 (i : Int) ∧ OwnL idE wr w.heap.size ov (sortB (pickIds (L.take i) (M.take i) val)) ∧ Below w.heap.size w wr) (fun _ iv _ => N - (intOf iv).toNat)
  case atStart => exact ⟨0, Nat.zero_le _, rfl, (by rw [List.take_zero, show pickIds [] (M.take 0) val = [] from rfl, show sortB [] = [] from by simp [sortB]]; exact ownL_nil _ _ _), Below.refl _ _⟩
  case round =>
    obtain ⟨i, hi, rfl, ho, hB⟩ := hrel
    obtain ⟨wo, hwo⟩ : ∃ wo, wo = wr := ⟨_, rfl⟩
    subst hwo
    obtain ⟨X, hX⟩ : ∃ X, pickIds (L.take i) (M.take i) val = X := ⟨_, rfl⟩
    rw [hX] at ho
    obtain ⟨O, hO⟩ : ∃ O, sortB X = O := ⟨_, rfl⟩
    rw [hO] at ho
    obtain ⟨oa, oc, rfl⟩ := ho.form
    obtain ⟨n, hn⟩ : ∃ n, O.length = n := ⟨_, rfl⟩
    rw [hn] at ho ⊢
    have hn4 : n ≤ 4096 := by
      rw [← hn, ← hO, (sortB_perm X).length_eq, ← hX]
      have h1 := pick_len (L.take i) (M.take i) val
      rw [List.length_take] at h1
      omega
    have HO := Lib.hid ho
    have HB := Lib.hid hB
    have HX := Lib.hid hX
    have HOS := Lib.hid hO
    have HNO := Lib.hid hn
    clear ho hB hX hO hn
    by_cases hlt : i < N
    · have hiI : (i : Int) < (N : Int) := by omega
      have hiI0 : (0 : Int) ≤ (i : Int) := by omega
      have hlt' : i < L.length := by rw [HN.out]; exact hlt
      have hlt2 : i < M.length := by rw [HM.out]; exact hlt
      obtain ⟨g, off, n9, c9, e9, hr, _⟩ := row_at (HV.out.below HB.out) hlt'
      cases e9
      obtain ⟨g2, off2, e8, hg2, hr2⟩ := (HU.out.below HB.out).get (i := i) hlt2
      subst e8
      have hcm : wo.cell? ⟨g2, off2 + i, none⟩ = some (.bool M[i]) := by
        have := hr2 0 _ rfl
        rw [show boolE.k = 1 from rfl, Nat.mul_one, Nat.add_zero] at this
        exact this
      have hpn := pick_next (val := val) hlt' hlt2
      rw [HX.out] at hpn
      obtain ⟨q, hq⟩ : ∃ q, L[i].id = q := ⟨_, rfl⟩
      obtain ⟨mi, hmi⟩ : ∃ mi, M[i] = mi := ⟨_, rfl⟩
      have hrq := row_id hr
      rw [hq] at hpn hrq
      rw [hmi] at hcm hpn
      have HRQ := Lib.hid hrq
      have HSQ := Lib.hid (sizeId q)
      clear hr hr2 hq hmi hrq
      by_cases hmv : mi = val
      · rw [if_pos hmv] at hpn
        have HPN := Lib.hid hpn
        have hmv1 : (mi == val) = true := by simpa using hmv
        have hmv2 : (mi != val) = false := by simpa using hmv
        clear hpn hmv
        go_wp2_with fail
        go_loopw [9] (fun kv wr => ∃ k : Nat, k ≤ n ∧ kv = .int .i64 (k : Int) ∧ (∀ x ∈ O.take k, ltOf cmpB x q = true) ∧ Below wo.heap.size wo wr) (fun kv _ => n - (intOf kv).toNat)
        case atStart => exact ⟨0, Nat.zero_le _, rfl, by simp, Below.refl _ _⟩
        case round =>
          obtain ⟨k, hk, rfl, hlo, hBi⟩ := hrel
          have HLO := Lib.hid hlo
          have HBI := Lib.hid hBi
          clear hlo hBi
          obtain ⟨hn9, hnc, hcm9, hnone⟩ := HO.out.at_.len
          by_cases hkn : k < n
          · have hkI : (k : Int) < (n : Int) := by omega
            have hkI0 : (0 : Int) ≤ (k : Int) := by omega
            have hkl : k < O.length := by rw [HNO.out]; exact hkn
            obtain ⟨og, oo, eo, _, hrp⟩ := (HO.out.at_.below HBI.out).get (i := k) hkl
            subst eo
            have hrp : wr.rangeAt og (oo + k * 32) (bvs O[k].1) := hrp
            have hrq2 := range_below HRQ.out (id_lt HRQ.out) HBI.out
            have htk : O.take (k + 1) = O.take k ++ [O[k]] := List.take_succ_eq_append_getElem hkl
            obtain ⟨p, hp⟩ : ∃ p, O[k] = p := ⟨_, rfl⟩
            rw [hp] at hrp htk
            have HRP := Lib.hid hrp
            have HRQ2 := Lib.hid hrq2
            have HTK := Lib.hid htk
            have HPE := Lib.hid hp
            have HSP := Lib.hid (sizeId p)
            clear hrp hrq2 htk hp hn9 hcm9
            go_wp2_with fail
            refine wp_region_noPanic ?_
            refine wp_region_H (Below wr.heap.size wr) (by kernel_rfl) ?_
            have hS0 : (Below wr.heap.size wr) wr.drew := (Below.refl _ _).drew
            obtain ⟨wd, hwd⟩ : ∃ wd, wr.drew = wd := ⟨_, rfl⟩
            rw [hwd] at hS0 ⊢
            clear hwd
            refine wpAnyH_takeI (i := 0) (v := ?v1) rfl (by kernel_rfl) (by kernel_rfl) (by kernel_rfl) (fun _ _ _ h => h) (yieldsIf_run rfl (fun w' hw' => ?y1)) hS0 ?_
            case y1 => first | (go_simp; rfl) | (go_simp; done) | rfl
            simp only [Act.put, List.setIfInBounds_toArray, List.set_cons_zero, List.set_cons_succ]
            refine wpAnyH_takeI (i := 1) (v := ?v2) rfl (by kernel_rfl) (by kernel_rfl) (by kernel_rfl) (fun _ _ _ h => h) (yieldsIf_run rfl (fun w' hw' => ?y2)) hS0 ?_
            case y2 => first | (go_simp; rfl) | (go_simp; done) | rfl
            simp only [Act.put, List.setIfInBounds_toArray, List.set_cons_zero, List.set_cons_succ]
            refine wpAnyH_takeI (i := 2) (v := ?v3) rfl (by kernel_rfl) (by kernel_rfl) (by kernel_rfl) (fun _ _ _ h => h) (yieldsIf_run rfl (fun w' hw' => ?y3)) hS0 ?_
            case y3 => first | (go_simp; rfl) | (go_simp; done) | rfl
            simp only [Act.put, List.setIfInBounds_toArray, List.set_cons_zero, List.set_cons_succ]
            refine wpAnyH_takeI (i := 3) (v := .bool true) rfl (by kernel_rfl) (by kernel_rfl) (by kernel_rfl) (fun _ _ _ h => h) (yieldsIf_run rfl (fun w' hw' => ?y4)) hS0 ?_
            case y4 => first | (go_simp; rfl) | (go_simp; done) | rfl
            simp only [Act.put, List.setIfInBounds_toArray, List.set_cons_zero, List.set_cons_succ]
            refine wpAnyH_takeI (i := 4) (v := ?v5) rfl (by kernel_rfl) (by kernel_rfl) (by kernel_rfl) (fun _ _ _ h => h) (yieldsIf_run rfl (fun w' hw' => ?y5)) hS0 ?_
            case y5 => first | (go_simp; rfl) | (go_simp; done) | rfl
            simp only [Act.put, List.setIfInBounds_toArray, List.set_cons_zero, List.set_cons_succ]
            refine wpAnyH_takeI (i := 5) (v := ?v6) rfl (by kernel_rfl) (by kernel_rfl) (by kernel_rfl) (fun _ _ _ h => h) (yieldsIf_want rfl (fun w' hw' => ?y6)) hS0 ?_
            case y6 => first | (go_simp; rfl) | (go_simp; done) | rfl
            simp only [Act.put, List.setIfInBounds_toArray, List.set_cons_zero, List.set_cons_succ]
            refine wpAnyH_takeI (i := 6) (v := ?v7) rfl (by kernel_rfl) (by kernel_rfl) (by kernel_rfl) (fun _ _ _ h => h) (yieldsIf_want rfl (fun w' hw' => ?y7)) hS0 ?_
            case y7 => first | (go_simp; rfl) | (go_simp; done) | rfl
            simp only [Act.put, List.setIfInBounds_toArray, List.set_cons_zero, List.set_cons_succ]
            refine wpAnyH_takeI (i := 7) (v := ?v8) rfl (by kernel_rfl) (by kernel_rfl) (by kernel_rfl) (fun _ _ _ h => h) (yieldsIf_want rfl (fun w' hw' => ?y8)) hS0 ?_
            case y8 => first | (go_simp; rfl) | (go_simp; done) | rfl
            simp only [Act.put, List.setIfInBounds_toArray, List.set_cons_zero, List.set_cons_succ]
            refine wpAnyH_takeI (i := 8) (v := .agg (bvs p.1).toArray) rfl (by kernel_rfl) (by kernel_rfl) (by kernel_rfl) (fun _ _ _ h => h) (yieldsIf_load_mid rfl 31 (.tmp 29) rfl og (oo + k * 32) rfl (bvs p.1) _ (fun w' hw' => range_below HRP.out (id_lt HRP.out) hw') Try.underlying31 rfl HSP.out) hS0 ?_
            simp only [Act.put, List.setIfInBounds_toArray, List.set_cons_zero, List.set_cons_succ]
            refine wpAnyH_takeI (i := 9) (v := ?v9) rfl (by kernel_rfl) (by kernel_rfl) (by kernel_rfl) (fun _ _ _ h => h) (yieldsIf_want rfl (fun w' hw' => ?y9)) hS0 ?_
            case y9 => first | (go_simp; rfl) | (go_simp; done) | rfl
            simp only [Act.put, List.setIfInBounds_toArray, List.set_cons_zero, List.set_cons_succ]
            refine wpAnyH_takeI (i := 10) (v := ?v10) rfl (by kernel_rfl) (by kernel_rfl) (by kernel_rfl) (fun _ _ _ h => h) (yieldsIf_want rfl (fun w' hw' => ?y10)) hS0 ?_
            case y10 => first | (go_simp; rfl) | (go_simp; done) | rfl
            simp only [Act.put, List.setIfInBounds_toArray, List.set_cons_zero, List.set_cons_succ]
            refine wpAnyH_takeI (i := 11) (v := ?v11) rfl (by kernel_rfl) (by kernel_rfl) (by kernel_rfl) (fun _ _ _ h => h) (yieldsIf_want rfl (fun w' hw' => ?y11)) hS0 ?_
            case y11 => first | (go_simp; rfl) | (go_simp; done) | rfl
            simp only [Act.put, List.setIfInBounds_toArray, List.set_cons_zero, List.set_cons_succ]
            refine wpAnyH_takeI (i := 12) (v := ?v12) rfl (by kernel_rfl) (by kernel_rfl) (by kernel_rfl) (fun _ _ _ h => h) (yieldsIf_want rfl (fun w' hw' => ?y12)) hS0 ?_
            case y12 => first | (go_simp; rfl) | (go_simp; done) | rfl
            simp only [Act.put, List.setIfInBounds_toArray, List.set_cons_zero, List.set_cons_succ]
            refine wpAnyH_takeI (i := 13) (v := .agg (bvs q.1).toArray) rfl (by kernel_rfl) (by kernel_rfl) (by kernel_rfl) (fun _ _ _ h => h) (yieldsIf_load_mid rfl 31 (.tmp 34) rfl g (off + i * 83) rfl (bvs q.1) _ (fun w' hw' => range_below HRQ2.out (id_lt HRQ2.out) hw') Try.underlying31 rfl HSQ.out) hS0 ?_
            simp only [Act.put, List.setIfInBounds_toArray, List.set_cons_zero, List.set_cons_succ]
            refine wpAnyH_want (i := 14) (by kernel_rfl) rfl rfl (fun K hK => ?_)
            go_simp
            go_at_call 31
            refine (before_any p q).mono ?_
            rintro e wq ⟨rfl, hbwq⟩
            have hSwq := hS0.trans (hbwq.mono hS0.size)
            refine hK _ _ (hSwq) ?_
            clear hK K
            try simp only [Act.put, List.setIfInBounds_toArray, List.set_cons_zero, List.set_cons_succ]
            refine wpAnyH_takeI (i := 15) (v := ?v13) rfl (by kernel_rfl) (by kernel_rfl) (by kernel_rfl) (fun _ _ _ h => h) (yieldsIf_run rfl (fun w' hw' => ?y13)) hSwq ?_
            case y13 => first | (go_simp; rfl) | (go_simp; done) | rfl
            simp only [Act.put, List.setIfInBounds_toArray, List.set_cons_zero, List.set_cons_succ]
            refine wpAnyH_done (by kernel_rfl) ?_ _
            refine NoPanic.normal ?_
            obtain ⟨bl, hbl⟩ : ∃ bl, ltOf cmpB p q = bl := ⟨_, rfl⟩
            rw [hbl]
            have HBL := Lib.hid hbl
            clear hbl
            cases bl with
            | true =>
              go_wp2_with fail
              go_roundw
              case rel => exact ⟨k + 1, by omega, by go_num, (by rw [HTK.out]; intro x hx; rcases List.mem_append.1 hx with h | h; exact HLO.out x h; rw [List.mem_singleton.1 h]; exact HBL.out), HBI.out.trans (hSwq.mono HBI.out.size)⟩
              case measure => simp [intOf]; omega
            | false =>
              have HBQ := Lib.hid (HBI.out.trans (hSwq.mono HBI.out.size))
              have hins := insert_sorted (a := q) (k := k) HOS.out.symm HLO.out (fun h => by rw [HPE.out]; exact HBL.out)
              clear hSwq hS0
              go_wp2_with fail
              have HBW := Lib.hid (HBQ.out : Below wo.heap.size wo wq)
              have hcut := cut_I (some ⟨og, oo, none⟩) n oc k (by omega) hnone
              obtain ⟨vd, hfrom, hld⟩ := from_I (HO.out.at_.below HBW.out) (show k ≤ n by omega)
              have HTK9 := Lib.hid ((HO.out.at_.below HBW.out).take (k := k) (by omega))
              have HLD9 := Lib.hid hld
              have HQW := Lib.hid (range_below HRQ.out (id_lt HRQ.out) HBW.out)
              have HINS := Lib.hid hins
              have HLT := Lib.hid (show (O.take k).length = k by rw [List.length_take, HNO.out]; omega)
              have HLDR := Lib.hid (show (O.drop k).length = n - k by rw [List.length_drop, HNO.out])
              have HSIA := Lib.hid (sizeIdA q)
              have HCS := Lib.hid (show (bvs q.1).toArray.size = 32 from by rw [List.size_toArray, bvs_length, q.2])
              clear hld hins hnone
              refine wp_region_noPanic ?_
              refine wp_region_H (Below wq.heap.size wq) (by kernel_rfl) ?_
              have hS0 : (Below wq.heap.size wq) wq.drew := (Below.refl _ _).drew
              obtain ⟨wd9, hwd⟩ : ∃ wd9, wq.drew = wd9 := ⟨_, rfl⟩
              rw [hwd] at hS0 ⊢
              clear hwd
              refine wpAnyH_takeI (i := 1) (v := ?v14) rfl (by kernel_rfl) (by kernel_rfl) (by kernel_rfl) (fun _ _ _ h => h) (yieldsIf_run rfl (fun w' hw' => ?y14)) hS0 ?_
              case y14 => first | (go_simp; rfl) | (go_simp; done) | rfl
              simp only [Act.put, List.setIfInBounds_toArray, List.set_cons_zero, List.set_cons_succ]
              refine wpAnyH_takeI (i := 2) (v := ?v15) rfl (by kernel_rfl) (by kernel_rfl) (by kernel_rfl) (fun _ _ _ h => h) (yieldsIf_run rfl (fun w' hw' => ?y15)) hS0 ?_
              case y15 => first | (go_simp; rfl) | (go_simp; done) | rfl
              simp only [Act.put, List.setIfInBounds_toArray, List.set_cons_zero, List.set_cons_succ]
              refine wpAnyH_takeI (i := 3) (v := .slice (some ⟨og, oo, none⟩) k oc) rfl (by kernel_rfl) (by kernel_rfl) (by kernel_rfl) (fun _ _ _ h => h) (yieldsIf_run rfl (fun w' hw' => ?y16)) hS0 ?_
              case y16 => first | (go_simp; rfl) | (go_simp; done) | rfl
              simp only [Act.put, List.setIfInBounds_toArray, List.set_cons_zero, List.set_cons_succ]
              refine wpAnyH_takeI (i := 5) (v := ?v17) rfl (by kernel_rfl) (by kernel_rfl) (by kernel_rfl) (fun _ _ _ h => h) (yieldsIf_run rfl (fun w' hw' => ?y17)) hS0 ?_
              case y17 => first | (go_simp; rfl) | (go_simp; done) | rfl
              simp only [Act.put, List.setIfInBounds_toArray, List.set_cons_zero, List.set_cons_succ]
              refine wpAnyH_takeI (i := 6) (v := ?v18) rfl (by kernel_rfl) (by kernel_rfl) (by kernel_rfl) (fun _ _ _ h => h) (yieldsIf_run rfl (fun w' hw' => ?y18)) hS0 ?_
              case y18 => first | (go_simp; rfl) | (go_simp; done) | rfl
              simp only [Act.put, List.setIfInBounds_toArray, List.set_cons_zero, List.set_cons_succ]
              refine wpAnyH_takeI (i := 7) (v := ?v19) rfl (by kernel_rfl) (by kernel_rfl) (by kernel_rfl) (fun _ _ _ h => h) (yieldsIf_run rfl (fun w' hw' => ?y19)) hS0 ?_
              case y19 => first | (go_simp; rfl) | (go_simp; done) | rfl
              simp only [Act.put, List.setIfInBounds_toArray, List.set_cons_zero, List.set_cons_succ]
              refine wpAnyH_takeI (i := 8) (v := ?v20) rfl (by kernel_rfl) (by kernel_rfl) (by kernel_rfl) (fun _ _ _ h => h) (yieldsIf_run rfl (fun w' hw' => ?y20)) hS0 ?_
              case y20 => first | (go_simp; rfl) | (go_simp; done) | rfl
              simp only [Act.put, List.setIfInBounds_toArray, List.set_cons_zero, List.set_cons_succ]
              refine wpAnyH_takeI (i := 9) (v := .agg (bvs q.1).toArray) rfl (by kernel_rfl) (by kernel_rfl) (by kernel_rfl) (fun _ _ _ h => h) (yieldsIf_load_mid rfl 31 (.tmp 48) rfl g (off + i * 83) rfl (bvs q.1) _ (fun w' hw' => range_below HQW.out (id_lt HQW.out) hw') Try.underlying31 rfl HSQ.out) hS0 ?_
              simp only [Act.put, List.setIfInBounds_toArray, List.set_cons_zero, List.set_cons_succ]
              refine wpAnyH_takeI (i := 12) (v := ?v21) rfl (by kernel_rfl) (by kernel_rfl) (by kernel_rfl) (fun _ _ _ h => h) (yieldsIf_run rfl (fun w' hw' => ?y21)) hS0 ?_
              case y21 => first | (go_simp; rfl) | (go_simp; done) | rfl
              simp only [Act.put, List.setIfInBounds_toArray, List.set_cons_zero, List.set_cons_succ]
              refine wpAnyH_takeI (i := 13) (v := ?v22) rfl (by kernel_rfl) (by kernel_rfl) (by kernel_rfl) (fun _ _ _ h => h) (yieldsIf_run rfl (fun w' hw' => ?y22)) hS0 ?_
              case y22 => first | (go_simp; rfl) | (go_simp; done) | rfl
              simp only [Act.put, List.setIfInBounds_toArray, List.set_cons_zero, List.set_cons_succ]
              refine wpAnyH_takeI (i := 14) (v := vd) rfl (by kernel_rfl) (by kernel_rfl) (by kernel_rfl) (fun _ _ _ h => h) (yieldsIf_run rfl (fun w' hw' => ?y23)) hS0 ?_
              case y23 => first | (go_simp; rfl) | (go_simp; done) | rfl
              simp only [Act.put, List.setIfInBounds_toArray, List.set_cons_zero, List.set_cons_succ]
              have hS := hS0
              clear hS0 hcut hfrom
              refine wpAnyH_two (i := 0) (j := 10) (by kernel_rfl) rfl rfl rfl rfl (fun K hK => ?_) (fun K hK => ?_)
              · go_simp
                obtain ⟨wd9n, hwn⟩ : ∃ wd9n, wd9.alloc (.cells #[] 31) = wd9n := ⟨_, rfl⟩
                have hb : Below wd9.heap.size wd9 wd9n := hwn ▸ (Below.refl _ _).alloc (Nat.le_refl _) _
                have hE : OwnL idE wd9n wq.heap.size (Value.slice (some ⟨wd9.heap.size, 0, none⟩) 0 0) [] := hwn ▸ ownL_zero idE hS.size
                rw [hwn]
                clear hwn
                replace hS := hS.trans (hb.mono hS.size)
                clear hb
                refine hK _ _ hS ?_
                clear hK K
                try simp only [Act.put, List.setIfInBounds_toArray, List.set_cons_zero, List.set_cons_succ]
                refine wpAnyH_two (i := 4) (j := 10) (by kernel_rfl) rfl rfl rfl rfl (fun K hK => ?_) (fun K hK => ?_)
                · refine wp_appL idE (.tmp 40) (.tmp 43) rfl rfl hE rfl (HTK9.out.below hS) (n := 0) (m := k) rfl HLT.out (by omega) hS.size ?_
                  intro a4 c4 wd9nn ho9 hgr hat
                  have hb := hE.grown_below hgr hS.size
                  rw [Nat.zero_add] at ho9 hat ⊢
                  rw [List.nil_append] at ho9
                  clear hE hgr hat
                  have hE := ho9
                  clear ho9
                  replace hS := hS.trans hb
                  clear hb
                  refine hK _ _ hS ?_
                  clear hK K
                  try simp only [Act.put, List.setIfInBounds_toArray, List.set_cons_zero, List.set_cons_succ]
                  refine wpAnyH_do (i := 10) (by kernel_rfl) rfl rfl (fun K hK => ?_)
                  refine vwp_lit1 23 31 (.tmp 49) rfl (bvs q.1).toArray rfl Try.underlying23 HSIA.out zOkId (by rw [HCS.out]; decide) (by rw [HCS.out]; decide) ?_
                  obtain ⟨wd9nnn, hwn⟩ : ∃ wd9nnn, wd9nn.alloc (.cells (bvs q.1).toArray 31) = wd9nnn := ⟨_, rfl⟩
                  have hb : Below wd9nn.heap.size wd9nn wd9nnn := hwn ▸ one_below idE wd9nn q
                  have hL : wd9nnn.heap[wd9nn.heap.size]? = some (.cells (bvs q.1).toArray 31 (0, 0)) := by rw [← hwn]; exact heap_alloc_new _ _
                  rw [hwn]
                  have hD0 : ∀ x, (Value.slice a4 k c4).ownBlock = some x → wd9nn.heap.size ≠ x := fun x hx e => by have h1 := (hE.lt hx).2; omega
                  replace hE := hE.below hb
                  obtain ⟨b10, hb10⟩ : ∃ b10, wd9nn.heap.size = b10 := ⟨_, rfl⟩
                  rw [hb10] at hL ⊢
                  have hD : ∀ x, (Value.slice a4 k c4).ownBlock = some x → b10 ≠ x := fun x hx => hb10 ▸ hD0 x hx
                  clear hD0
                  replace hS := hS.trans (hb.mono hS.size)
                  clear hb hwn hb10
                  refine hK _ _ hS ?_
                  clear hK K
                  try simp only [Act.put, List.setIfInBounds_toArray, List.set_cons_zero, List.set_cons_succ]
                  refine wpAnyH_do (i := 11) (by kernel_rfl) rfl rfl (fun K hK => ?_)
                  refine wp_appL idE (.tmp 44) (.tmp 50) rfl rfl hE rfl (list_block hL) (n := k) (m := 1) HLT.out rfl (by omega) hS.size ?_
                  intro a11 c11 wd9nnnn ho9 hgr hat
                  have hb := hE.grown_below hgr hS.size
                  clear hE hgr hat
                  have hE := ho9
                  clear ho9
                  replace hS := hS.trans hb
                  clear hb
                  clear hL hD
                  refine hK _ _ hS ?_
                  clear hK K
                  try simp only [Act.put, List.setIfInBounds_toArray, List.set_cons_zero, List.set_cons_succ]
                  refine wpAnyH_do (i := 15) (by kernel_rfl) rfl rfl (fun K hK => ?_)
                  refine wp_appL idE (.tmp 51) (.tmp 54) rfl rfl hE rfl (HLD9.out.below hS) (n := k + 1) (m := n - k) (by rw [List.length_append, HLT.out]; rfl) HLDR.out (by omega) hS.size ?_
                  intro a15 c15 wd9nnnnn ho9 hgr hat
                  have hb := hE.grown_below hgr hS.size
                  clear hE hgr hat
                  have hE := ho9
                  clear ho9
                  replace hS := hS.trans hb
                  clear hb
                  refine hK _ _ hS ?_
                  clear hK K
                  try simp only [Act.put, List.setIfInBounds_toArray, List.set_cons_zero, List.set_cons_succ]
                  refine wpAnyH_takeI (i := 16) (v := ?v24) rfl (by kernel_rfl) (by kernel_rfl) (by kernel_rfl) (fun _ _ _ h => h) (yieldsIf_run rfl (fun w' hw' => ?y24)) hS ?_
                  case y24 => first | (go_simp; rfl) | (go_simp; done) | rfl
                  simp only [Act.put, List.setIfInBounds_toArray, List.set_cons_zero, List.set_cons_succ]
                  refine wpAnyH_done (by kernel_rfl) ?_ _
                  refine NoPanic.normal ?_
                  have HEE := Lib.hid (hE.base (Nat.le_trans HB.out.size HBW.out.size))
                  have HSS := Lib.hid (HB.out.trans ((HBW.out.trans (hS.mono HBW.out.size)).mono HB.out.size))
                  clear hE hS
                  go_wp2_with fail
                  go_roundw
                  case rel => exact ⟨i + 1, by omega, by go_num, (by rw [HPN.out, ← HINS.out]; first | exact HEE.out | simpa using HEE.out), HSS.out⟩
                  case measure => simp [intOf]; omega
                · refine vwp_lit1 23 31 (.tmp 49) rfl (bvs q.1).toArray rfl Try.underlying23 HSIA.out zOkId (by rw [HCS.out]; decide) (by rw [HCS.out]; decide) ?_
                  obtain ⟨wd9nn, hwn⟩ : ∃ wd9nn, wd9n.alloc (.cells (bvs q.1).toArray 31) = wd9nn := ⟨_, rfl⟩
                  have hb : Below wd9n.heap.size wd9n wd9nn := hwn ▸ one_below idE wd9n q
                  have hL : wd9nn.heap[wd9n.heap.size]? = some (.cells (bvs q.1).toArray 31 (0, 0)) := by rw [← hwn]; exact heap_alloc_new _ _
                  rw [hwn]
                  have hD0 : ∀ x, (Value.slice (some ⟨wd9.heap.size, 0, none⟩) 0 0).ownBlock = some x → wd9n.heap.size ≠ x := fun x hx e => by have h1 := (hE.lt hx).2; omega
                  replace hE := hE.below hb
                  obtain ⟨b10, hb10⟩ : ∃ b10, wd9n.heap.size = b10 := ⟨_, rfl⟩
                  rw [hb10] at hL ⊢
                  have hD : ∀ x, (Value.slice (some ⟨wd9.heap.size, 0, none⟩) 0 0).ownBlock = some x → b10 ≠ x := fun x hx => hb10 ▸ hD0 x hx
                  clear hD0
                  replace hS := hS.trans (hb.mono hS.size)
                  clear hb hwn hb10
                  refine hK _ _ hS ?_
                  clear hK K
                  try simp only [Act.put, List.setIfInBounds_toArray, List.set_cons_zero, List.set_cons_succ]
                  refine wpAnyH_do (i := 4) (by kernel_rfl) rfl rfl (fun K hK => ?_)
                  refine wp_appL idE (.tmp 40) (.tmp 43) rfl rfl hE rfl (HTK9.out.below hS) (n := 0) (m := k) rfl HLT.out (by omega) hS.size ?_
                  intro a4 c4 wd9nnn ho9 hgr hat
                  have hb := hE.grown_below hgr hS.size
                  rw [Nat.zero_add] at ho9 hat ⊢
                  rw [List.nil_append] at ho9
                  have hlb := (Array.getElem?_eq_some_iff.1 hL).1
                  replace hL := (hgr.block b10 hlb (fun e => hD _ e.symm rfl)).trans hL
                  replace hD : ∀ x, (Value.slice a4 k c4).ownBlock = some x → b10 ≠ x := fun x hx e => (hat x hx).elim (fun h => hD x h e) (fun h => by omega)
                  clear hlb
                  clear hE hgr hat
                  have hE := ho9
                  clear ho9
                  replace hS := hS.trans hb
                  clear hb
                  refine hK _ _ hS ?_
                  clear hK K
                  try simp only [Act.put, List.setIfInBounds_toArray, List.set_cons_zero, List.set_cons_succ]
                  refine wpAnyH_do (i := 11) (by kernel_rfl) rfl rfl (fun K hK => ?_)
                  refine wp_appL idE (.tmp 44) (.tmp 50) rfl rfl hE rfl (list_block hL) (n := k) (m := 1) HLT.out rfl (by omega) hS.size ?_
                  intro a11 c11 wd9nnnn ho9 hgr hat
                  have hb := hE.grown_below hgr hS.size
                  clear hE hgr hat
                  have hE := ho9
                  clear ho9
                  replace hS := hS.trans hb
                  clear hb
                  clear hL hD
                  refine hK _ _ hS ?_
                  clear hK K
                  try simp only [Act.put, List.setIfInBounds_toArray, List.set_cons_zero, List.set_cons_succ]
                  refine wpAnyH_do (i := 15) (by kernel_rfl) rfl rfl (fun K hK => ?_)
                  refine wp_appL idE (.tmp 51) (.tmp 54) rfl rfl hE rfl (HLD9.out.below hS) (n := k + 1) (m := n - k) (by rw [List.length_append, HLT.out]; rfl) HLDR.out (by omega) hS.size ?_
                  intro a15 c15 wd9nnnnn ho9 hgr hat
                  have hb := hE.grown_below hgr hS.size
                  clear hE hgr hat
                  have hE := ho9
                  clear ho9
                  replace hS := hS.trans hb
                  clear hb
                  refine hK _ _ hS ?_
                  clear hK K
                  try simp only [Act.put, List.setIfInBounds_toArray, List.set_cons_zero, List.set_cons_succ]
                  refine wpAnyH_takeI (i := 16) (v := ?v25) rfl (by kernel_rfl) (by kernel_rfl) (by kernel_rfl) (fun _ _ _ h => h) (yieldsIf_run rfl (fun w' hw' => ?y25)) hS ?_
                  case y25 => first | (go_simp; rfl) | (go_simp; done) | rfl
                  simp only [Act.put, List.setIfInBounds_toArray, List.set_cons_zero, List.set_cons_succ]
                  refine wpAnyH_done (by kernel_rfl) ?_ _
                  refine NoPanic.normal ?_
                  have HEE := Lib.hid (hE.base (Nat.le_trans HB.out.size HBW.out.size))
                  have HSS := Lib.hid (HB.out.trans ((HBW.out.trans (hS.mono HBW.out.size)).mono HB.out.size))
                  clear hE hS
                  go_wp2_with fail
                  go_roundw
                  case rel => exact ⟨i + 1, by omega, by go_num, (by rw [HPN.out, ← HINS.out]; first | exact HEE.out | simpa using HEE.out), HSS.out⟩
                  case measure => simp [intOf]; omega
              · refine vwp_lit1 23 31 (.tmp 49) rfl (bvs q.1).toArray rfl Try.underlying23 HSIA.out zOkId (by rw [HCS.out]; decide) (by rw [HCS.out]; decide) ?_
                obtain ⟨wd9n, hwn⟩ : ∃ wd9n, wd9.alloc (.cells (bvs q.1).toArray 31) = wd9n := ⟨_, rfl⟩
                have hb : Below wd9.heap.size wd9 wd9n := hwn ▸ one_below idE wd9 q
                have hL : wd9n.heap[wd9.heap.size]? = some (.cells (bvs q.1).toArray 31 (0, 0)) := by rw [← hwn]; exact heap_alloc_new _ _
                rw [hwn]
                obtain ⟨b10, hb10⟩ : ∃ b10, wd9.heap.size = b10 := ⟨_, rfl⟩
                rw [hb10] at hL ⊢
                replace hS := hS.trans (hb.mono hS.size)
                clear hb hwn hb10
                refine hK _ _ hS ?_
                clear hK K
                try simp only [Act.put, List.setIfInBounds_toArray, List.set_cons_zero, List.set_cons_succ]
                refine wpAnyH_do (i := 0) (by kernel_rfl) rfl rfl (fun K hK => ?_)
                go_simp
                obtain ⟨wd9nn, hwn⟩ : ∃ wd9nn, wd9n.alloc (.cells #[] 31) = wd9nn := ⟨_, rfl⟩
                have hb : Below wd9n.heap.size wd9n wd9nn := hwn ▸ (Below.refl _ _).alloc (Nat.le_refl _) _
                have hE : OwnL idE wd9nn wq.heap.size (Value.slice (some ⟨wd9n.heap.size, 0, none⟩) 0 0) [] := hwn ▸ ownL_zero idE hS.size
                rw [hwn]
                clear hwn
                have hD : ∀ x, (Value.slice (some ⟨wd9n.heap.size, 0, none⟩) 0 0).ownBlock = some x → b10 ≠ x := fun x hx e => by have h1 := (Array.getElem?_eq_some_iff.1 hL).1; have e2 : wd9n.heap.size = x := Option.some.inj hx; omega
                replace hL := (hb.block _ (Array.getElem?_eq_some_iff.1 hL).1).trans hL
                replace hS := hS.trans (hb.mono hS.size)
                clear hb
                refine hK _ _ hS ?_
                clear hK K
                try simp only [Act.put, List.setIfInBounds_toArray, List.set_cons_zero, List.set_cons_succ]
                refine wpAnyH_do (i := 4) (by kernel_rfl) rfl rfl (fun K hK => ?_)
                refine wp_appL idE (.tmp 40) (.tmp 43) rfl rfl hE rfl (HTK9.out.below hS) (n := 0) (m := k) rfl HLT.out (by omega) hS.size ?_
                intro a4 c4 wd9nnn ho9 hgr hat
                have hb := hE.grown_below hgr hS.size
                rw [Nat.zero_add] at ho9 hat ⊢
                rw [List.nil_append] at ho9
                have hlb := (Array.getElem?_eq_some_iff.1 hL).1
                replace hL := (hgr.block b10 hlb (fun e => hD _ e.symm rfl)).trans hL
                replace hD : ∀ x, (Value.slice a4 k c4).ownBlock = some x → b10 ≠ x := fun x hx e => (hat x hx).elim (fun h => hD x h e) (fun h => by omega)
                clear hlb
                clear hE hgr hat
                have hE := ho9
                clear ho9
                replace hS := hS.trans hb
                clear hb
                refine hK _ _ hS ?_
                clear hK K
                try simp only [Act.put, List.setIfInBounds_toArray, List.set_cons_zero, List.set_cons_succ]
                refine wpAnyH_do (i := 11) (by kernel_rfl) rfl rfl (fun K hK => ?_)
                refine wp_appL idE (.tmp 44) (.tmp 50) rfl rfl hE rfl (list_block hL) (n := k) (m := 1) HLT.out rfl (by omega) hS.size ?_
                intro a11 c11 wd9nnnn ho9 hgr hat
                have hb := hE.grown_below hgr hS.size
                clear hE hgr hat
                have hE := ho9
                clear ho9
                replace hS := hS.trans hb
                clear hb
                clear hL hD
                refine hK _ _ hS ?_
                clear hK K
                try simp only [Act.put, List.setIfInBounds_toArray, List.set_cons_zero, List.set_cons_succ]
                refine wpAnyH_do (i := 15) (by kernel_rfl) rfl rfl (fun K hK => ?_)
                refine wp_appL idE (.tmp 51) (.tmp 54) rfl rfl hE rfl (HLD9.out.below hS) (n := k + 1) (m := n - k) (by rw [List.length_append, HLT.out]; rfl) HLDR.out (by omega) hS.size ?_
                intro a15 c15 wd9nnnnn ho9 hgr hat
                have hb := hE.grown_below hgr hS.size
                clear hE hgr hat
                have hE := ho9
                clear ho9
                replace hS := hS.trans hb
                clear hb
                refine hK _ _ hS ?_
                clear hK K
                try simp only [Act.put, List.setIfInBounds_toArray, List.set_cons_zero, List.set_cons_succ]
                refine wpAnyH_takeI (i := 16) (v := ?v26) rfl (by kernel_rfl) (by kernel_rfl) (by kernel_rfl) (fun _ _ _ h => h) (yieldsIf_run rfl (fun w' hw' => ?y26)) hS ?_
                case y26 => first | (go_simp; rfl) | (go_simp; done) | rfl
                simp only [Act.put, List.setIfInBounds_toArray, List.set_cons_zero, List.set_cons_succ]
                refine wpAnyH_done (by kernel_rfl) ?_ _
                refine NoPanic.normal ?_
                have HEE := Lib.hid (hE.base (Nat.le_trans HB.out.size HBW.out.size))
                have HSS := Lib.hid (HB.out.trans ((HBW.out.trans (hS.mono HBW.out.size)).mono HB.out.size))
                clear hE hS
                go_wp2_with fail
                go_roundw
                case rel => exact ⟨i + 1, by omega, by go_num, (by rw [HPN.out, ← HINS.out]; first | exact HEE.out | simpa using HEE.out), HSS.out⟩
                case measure => simp [intOf]; omega
          · have hins := insert_sorted (a := q) (k := k) HOS.out.symm HLO.out (fun h => by have := HNO.out; omega)
            obtain rfl : n = k := by omega
            clear hn9 hcm9
            go_wp2_with fail
            refine wp_region_noPanic ?_
            refine wp_region_H (Below wr.heap.size wr) (by kernel_rfl) ?_
            have hS0 : (Below wr.heap.size wr) wr.drew := (Below.refl _ _).drew
            obtain ⟨wd, hwd⟩ : ∃ wd, wr.drew = wd := ⟨_, rfl⟩
            rw [hwd] at hS0 ⊢
            clear hwd
            refine wpAnyH_takeI (i := 0) (v := ?v27) rfl (by kernel_rfl) (by kernel_rfl) (by kernel_rfl) (fun _ _ _ h => h) (yieldsIf_run rfl (fun w' hw' => ?y27)) hS0 ?_
            case y27 => first | (go_simp; rfl) | (go_simp; done) | rfl
            simp only [Act.put, List.setIfInBounds_toArray, List.set_cons_zero, List.set_cons_succ]
            refine wpAnyH_takeI (i := 1) (v := ?v28) rfl (by kernel_rfl) (by kernel_rfl) (by kernel_rfl) (fun _ _ _ h => h) (yieldsIf_run rfl (fun w' hw' => ?y28)) hS0 ?_
            case y28 => first | (go_simp; rfl) | (go_simp; done) | rfl
            simp only [Act.put, List.setIfInBounds_toArray, List.set_cons_zero, List.set_cons_succ]
            refine wpAnyH_takeI (i := 2) (v := ?v29) rfl (by kernel_rfl) (by kernel_rfl) (by kernel_rfl) (fun _ _ _ h => h) (yieldsIf_run rfl (fun w' hw' => ?y29)) hS0 ?_
            case y29 => first | (go_simp; rfl) | (go_simp; done) | rfl
            simp only [Act.put, List.setIfInBounds_toArray, List.set_cons_zero, List.set_cons_succ]
            refine wpAnyH_takeI (i := 3) (v := .bool false) rfl (by kernel_rfl) (by kernel_rfl) (by kernel_rfl) (fun _ _ _ h => h) (yieldsIf_run rfl (fun w' hw' => ?y30)) hS0 ?_
            case y30 => first | (go_simp; rfl) | (go_simp; done) | rfl
            simp only [Act.put, List.setIfInBounds_toArray, List.set_cons_zero, List.set_cons_succ]
            refine wpAnyH_takeI (i := 4) (v := ?v31) rfl (by kernel_rfl) (by kernel_rfl) (by kernel_rfl) (fun _ _ _ h => h) (yieldsIf_run rfl (fun w' hw' => ?y31)) hS0 ?_
            case y31 => first | (go_simp; rfl) | (go_simp; done) | rfl
            simp only [Act.put, List.setIfInBounds_toArray, List.set_cons_zero, List.set_cons_succ]
            refine wpAnyH_takeI (i := 5) (v := undef) rfl (by kernel_rfl) (by kernel_rfl) (by kernel_rfl) (fun _ _ _ h => h) (yieldsIf_skip rfl) hS0 ?_
            simp only [Act.put, List.setIfInBounds_toArray, List.set_cons_zero, List.set_cons_succ]
            refine wpAnyH_takeI (i := 6) (v := undef) rfl (by kernel_rfl) (by kernel_rfl) (by kernel_rfl) (fun _ _ _ h => h) (yieldsIf_skip rfl) hS0 ?_
            simp only [Act.put, List.setIfInBounds_toArray, List.set_cons_zero, List.set_cons_succ]
            refine wpAnyH_takeI (i := 7) (v := undef) rfl (by kernel_rfl) (by kernel_rfl) (by kernel_rfl) (fun _ _ _ h => h) (yieldsIf_skip rfl) hS0 ?_
            simp only [Act.put, List.setIfInBounds_toArray, List.set_cons_zero, List.set_cons_succ]
            refine wpAnyH_takeI (i := 8) (v := undef) rfl (by kernel_rfl) (by kernel_rfl) (by kernel_rfl) (fun _ _ _ h => h) (yieldsIf_skip rfl) hS0 ?_
            simp only [Act.put, List.setIfInBounds_toArray, List.set_cons_zero, List.set_cons_succ]
            refine wpAnyH_takeI (i := 9) (v := undef) rfl (by kernel_rfl) (by kernel_rfl) (by kernel_rfl) (fun _ _ _ h => h) (yieldsIf_skip rfl) hS0 ?_
            simp only [Act.put, List.setIfInBounds_toArray, List.set_cons_zero, List.set_cons_succ]
            refine wpAnyH_takeI (i := 10) (v := undef) rfl (by kernel_rfl) (by kernel_rfl) (by kernel_rfl) (fun _ _ _ h => h) (yieldsIf_skip rfl) hS0 ?_
            simp only [Act.put, List.setIfInBounds_toArray, List.set_cons_zero, List.set_cons_succ]
            refine wpAnyH_takeI (i := 11) (v := undef) rfl (by kernel_rfl) (by kernel_rfl) (by kernel_rfl) (fun _ _ _ h => h) (yieldsIf_skip rfl) hS0 ?_
            simp only [Act.put, List.setIfInBounds_toArray, List.set_cons_zero, List.set_cons_succ]
            refine wpAnyH_takeI (i := 12) (v := undef) rfl (by kernel_rfl) (by kernel_rfl) (by kernel_rfl) (fun _ _ _ h => h) (yieldsIf_skip rfl) hS0 ?_
            simp only [Act.put, List.setIfInBounds_toArray, List.set_cons_zero, List.set_cons_succ]
            refine wpAnyH_takeI (i := 13) (v := undef) rfl (by kernel_rfl) (by kernel_rfl) (by kernel_rfl) (fun _ _ _ h => h) (yieldsIf_skip rfl) hS0 ?_
            simp only [Act.put, List.setIfInBounds_toArray, List.set_cons_zero, List.set_cons_succ]
            refine wpAnyH_takeI (i := 14) (v := undef) rfl (by kernel_rfl) (by kernel_rfl) (by kernel_rfl) (fun _ _ _ h => h) (yieldsIf_skip rfl) hS0 ?_
            simp only [Act.put, List.setIfInBounds_toArray, List.set_cons_zero, List.set_cons_succ]
            refine wpAnyH_takeI (i := 15) (v := ?v32) rfl (by kernel_rfl) (by kernel_rfl) (by kernel_rfl) (fun _ _ _ h => h) (yieldsIf_run rfl (fun w' hw' => ?y32)) hS0 ?_
            case y32 => first | (go_simp; rfl) | (go_simp; done) | rfl
            simp only [Act.put, List.setIfInBounds_toArray, List.set_cons_zero, List.set_cons_succ]
            refine wpAnyH_done (by kernel_rfl) ?_ _
            refine NoPanic.normal ?_
            have hbwd := HBI.out.trans (hS0.mono HBI.out.size)
            clear hS0
            go_wp2_with fail
            have HBW := Lib.hid (hbwd : Below wo.heap.size wo wd)
            have hcut := cut_I oa n oc n (by omega) hnone
            obtain ⟨vd, hfrom, hld⟩ := from_I (HO.out.at_.below HBW.out) (show n ≤ n by omega)
            have HTK9 := Lib.hid ((HO.out.at_.below HBW.out).take (n := n) (by omega))
            have HLD9 := Lib.hid hld
            have HQW := Lib.hid (range_below HRQ.out (id_lt HRQ.out) HBW.out)
            have HINS := Lib.hid hins
            have HLT := Lib.hid (show (O.take n).length = n by rw [List.length_take, HNO.out]; omega)
            have HLDR := Lib.hid (show (O.drop n).length = n - n by rw [List.length_drop, HNO.out])
            have HSIA := Lib.hid (sizeIdA q)
            have HCS := Lib.hid (show (bvs q.1).toArray.size = 32 from by rw [List.size_toArray, bvs_length, q.2])
            clear hld hins hnone
            refine wp_region_noPanic ?_
            refine wp_region_H (Below wd.heap.size wd) (by kernel_rfl) ?_
            have hS0 : (Below wd.heap.size wd) wd.drew := (Below.refl _ _).drew
            obtain ⟨wd9, hwd⟩ : ∃ wd9, wd.drew = wd9 := ⟨_, rfl⟩
            rw [hwd] at hS0 ⊢
            clear hwd
            refine wpAnyH_takeI (i := 1) (v := ?v33) rfl (by kernel_rfl) (by kernel_rfl) (by kernel_rfl) (fun _ _ _ h => h) (yieldsIf_run rfl (fun w' hw' => ?y33)) hS0 ?_
            case y33 => first | (go_simp; rfl) | (go_simp; done) | rfl
            simp only [Act.put, List.setIfInBounds_toArray, List.set_cons_zero, List.set_cons_succ]
            refine wpAnyH_takeI (i := 2) (v := ?v34) rfl (by kernel_rfl) (by kernel_rfl) (by kernel_rfl) (fun _ _ _ h => h) (yieldsIf_run rfl (fun w' hw' => ?y34)) hS0 ?_
            case y34 => first | (go_simp; rfl) | (go_simp; done) | rfl
            simp only [Act.put, List.setIfInBounds_toArray, List.set_cons_zero, List.set_cons_succ]
            refine wpAnyH_takeI (i := 3) (v := .slice oa n oc) rfl (by kernel_rfl) (by kernel_rfl) (by kernel_rfl) (fun _ _ _ h => h) (yieldsIf_run rfl (fun w' hw' => ?y35)) hS0 ?_
            case y35 => first | (go_simp; rfl) | (go_simp; done) | rfl
            simp only [Act.put, List.setIfInBounds_toArray, List.set_cons_zero, List.set_cons_succ]
            refine wpAnyH_takeI (i := 5) (v := ?v36) rfl (by kernel_rfl) (by kernel_rfl) (by kernel_rfl) (fun _ _ _ h => h) (yieldsIf_run rfl (fun w' hw' => ?y36)) hS0 ?_
            case y36 => first | (go_simp; rfl) | (go_simp; done) | rfl
            simp only [Act.put, List.setIfInBounds_toArray, List.set_cons_zero, List.set_cons_succ]
            refine wpAnyH_takeI (i := 6) (v := ?v37) rfl (by kernel_rfl) (by kernel_rfl) (by kernel_rfl) (fun _ _ _ h => h) (yieldsIf_run rfl (fun w' hw' => ?y37)) hS0 ?_
            case y37 => first | (go_simp; rfl) | (go_simp; done) | rfl
            simp only [Act.put, List.setIfInBounds_toArray, List.set_cons_zero, List.set_cons_succ]
            refine wpAnyH_takeI (i := 7) (v := ?v38) rfl (by kernel_rfl) (by kernel_rfl) (by kernel_rfl) (fun _ _ _ h => h) (yieldsIf_run rfl (fun w' hw' => ?y38)) hS0 ?_
            case y38 => first | (go_simp; rfl) | (go_simp; done) | rfl
            simp only [Act.put, List.setIfInBounds_toArray, List.set_cons_zero, List.set_cons_succ]
            refine wpAnyH_takeI (i := 8) (v := ?v39) rfl (by kernel_rfl) (by kernel_rfl) (by kernel_rfl) (fun _ _ _ h => h) (yieldsIf_run rfl (fun w' hw' => ?y39)) hS0 ?_
            case y39 => first | (go_simp; rfl) | (go_simp; done) | rfl
            simp only [Act.put, List.setIfInBounds_toArray, List.set_cons_zero, List.set_cons_succ]
            refine wpAnyH_takeI (i := 9) (v := .agg (bvs q.1).toArray) rfl (by kernel_rfl) (by kernel_rfl) (by kernel_rfl) (fun _ _ _ h => h) (yieldsIf_load_mid rfl 31 (.tmp 48) rfl g (off + i * 83) rfl (bvs q.1) _ (fun w' hw' => range_below HQW.out (id_lt HQW.out) hw') Try.underlying31 rfl HSQ.out) hS0 ?_
            simp only [Act.put, List.setIfInBounds_toArray, List.set_cons_zero, List.set_cons_succ]
            refine wpAnyH_takeI (i := 12) (v := ?v40) rfl (by kernel_rfl) (by kernel_rfl) (by kernel_rfl) (fun _ _ _ h => h) (yieldsIf_run rfl (fun w' hw' => ?y40)) hS0 ?_
            case y40 => first | (go_simp; rfl) | (go_simp; done) | rfl
            simp only [Act.put, List.setIfInBounds_toArray, List.set_cons_zero, List.set_cons_succ]
            refine wpAnyH_takeI (i := 13) (v := ?v41) rfl (by kernel_rfl) (by kernel_rfl) (by kernel_rfl) (fun _ _ _ h => h) (yieldsIf_run rfl (fun w' hw' => ?y41)) hS0 ?_
            case y41 => first | (go_simp; rfl) | (go_simp; done) | rfl
            simp only [Act.put, List.setIfInBounds_toArray, List.set_cons_zero, List.set_cons_succ]
            refine wpAnyH_takeI (i := 14) (v := vd) rfl (by kernel_rfl) (by kernel_rfl) (by kernel_rfl) (fun _ _ _ h => h) (yieldsIf_run rfl (fun w' hw' => ?y42)) hS0 ?_
            case y42 => first | (go_simp; rfl) | (go_simp; done) | rfl
            simp only [Act.put, List.setIfInBounds_toArray, List.set_cons_zero, List.set_cons_succ]
            have hS := hS0
            clear hS0 hcut hfrom
            refine wpAnyH_two (i := 0) (j := 10) (by kernel_rfl) rfl rfl rfl rfl (fun K hK => ?_) (fun K hK => ?_)
            · go_simp
              obtain ⟨wd9n, hwn⟩ : ∃ wd9n, wd9.alloc (.cells #[] 31) = wd9n := ⟨_, rfl⟩
              have hb : Below wd9.heap.size wd9 wd9n := hwn ▸ (Below.refl _ _).alloc (Nat.le_refl _) _
              have hE : OwnL idE wd9n wd.heap.size (Value.slice (some ⟨wd9.heap.size, 0, none⟩) 0 0) [] := hwn ▸ ownL_zero idE hS.size
              rw [hwn]
              clear hwn
              replace hS := hS.trans (hb.mono hS.size)
              clear hb
              refine hK _ _ hS ?_
              clear hK K
              try simp only [Act.put, List.setIfInBounds_toArray, List.set_cons_zero, List.set_cons_succ]
              refine wpAnyH_two (i := 4) (j := 10) (by kernel_rfl) rfl rfl rfl rfl (fun K hK => ?_) (fun K hK => ?_)
              · refine wp_appL idE (.tmp 40) (.tmp 43) rfl rfl hE rfl (HTK9.out.below hS) (n := 0) (m := n) rfl HLT.out (by omega) hS.size ?_
                intro a4 c4 wd9nn ho9 hgr hat
                have hb := hE.grown_below hgr hS.size
                rw [Nat.zero_add] at ho9 hat ⊢
                rw [List.nil_append] at ho9
                clear hE hgr hat
                have hE := ho9
                clear ho9
                replace hS := hS.trans hb
                clear hb
                refine hK _ _ hS ?_
                clear hK K
                try simp only [Act.put, List.setIfInBounds_toArray, List.set_cons_zero, List.set_cons_succ]
                refine wpAnyH_do (i := 10) (by kernel_rfl) rfl rfl (fun K hK => ?_)
                refine vwp_lit1 23 31 (.tmp 49) rfl (bvs q.1).toArray rfl Try.underlying23 HSIA.out zOkId (by rw [HCS.out]; decide) (by rw [HCS.out]; decide) ?_
                obtain ⟨wd9nnn, hwn⟩ : ∃ wd9nnn, wd9nn.alloc (.cells (bvs q.1).toArray 31) = wd9nnn := ⟨_, rfl⟩
                have hb : Below wd9nn.heap.size wd9nn wd9nnn := hwn ▸ one_below idE wd9nn q
                have hL : wd9nnn.heap[wd9nn.heap.size]? = some (.cells (bvs q.1).toArray 31 (0, 0)) := by rw [← hwn]; exact heap_alloc_new _ _
                rw [hwn]
                have hD0 : ∀ x, (Value.slice a4 n c4).ownBlock = some x → wd9nn.heap.size ≠ x := fun x hx e => by have h1 := (hE.lt hx).2; omega
                replace hE := hE.below hb
                obtain ⟨b10, hb10⟩ : ∃ b10, wd9nn.heap.size = b10 := ⟨_, rfl⟩
                rw [hb10] at hL ⊢
                have hD : ∀ x, (Value.slice a4 n c4).ownBlock = some x → b10 ≠ x := fun x hx => hb10 ▸ hD0 x hx
                clear hD0
                replace hS := hS.trans (hb.mono hS.size)
                clear hb hwn hb10
                refine hK _ _ hS ?_
                clear hK K
                try simp only [Act.put, List.setIfInBounds_toArray, List.set_cons_zero, List.set_cons_succ]
                refine wpAnyH_do (i := 11) (by kernel_rfl) rfl rfl (fun K hK => ?_)
                refine wp_appL idE (.tmp 44) (.tmp 50) rfl rfl hE rfl (list_block hL) (n := n) (m := 1) HLT.out rfl (by omega) hS.size ?_
                intro a11 c11 wd9nnnn ho9 hgr hat
                have hb := hE.grown_below hgr hS.size
                clear hE hgr hat
                have hE := ho9
                clear ho9
                replace hS := hS.trans hb
                clear hb
                clear hL hD
                refine hK _ _ hS ?_
                clear hK K
                try simp only [Act.put, List.setIfInBounds_toArray, List.set_cons_zero, List.set_cons_succ]
                refine wpAnyH_do (i := 15) (by kernel_rfl) rfl rfl (fun K hK => ?_)
                refine wp_appL idE (.tmp 51) (.tmp 54) rfl rfl hE rfl (HLD9.out.below hS) (n := n + 1) (m := n - n) (by rw [List.length_append, HLT.out]; rfl) HLDR.out (by omega) hS.size ?_
                intro a15 c15 wd9nnnnn ho9 hgr hat
                have hb := hE.grown_below hgr hS.size
                clear hE hgr hat
                have hE := ho9
                clear ho9
                replace hS := hS.trans hb
                clear hb
                refine hK _ _ hS ?_
                clear hK K
                try simp only [Act.put, List.setIfInBounds_toArray, List.set_cons_zero, List.set_cons_succ]
                refine wpAnyH_takeI (i := 16) (v := ?v43) rfl (by kernel_rfl) (by kernel_rfl) (by kernel_rfl) (fun _ _ _ h => h) (yieldsIf_run rfl (fun w' hw' => ?y43)) hS ?_
                case y43 => first | (go_simp; rfl) | (go_simp; done) | rfl
                simp only [Act.put, List.setIfInBounds_toArray, List.set_cons_zero, List.set_cons_succ]
                refine wpAnyH_done (by kernel_rfl) ?_ _
                refine NoPanic.normal ?_
                have HEE := Lib.hid (hE.base (Nat.le_trans HB.out.size HBW.out.size))
                have HSS := Lib.hid (HB.out.trans ((HBW.out.trans (hS.mono HBW.out.size)).mono HB.out.size))
                clear hE hS
                go_wp2_with fail
                go_roundw
                case rel => exact ⟨i + 1, by omega, by go_num, (by rw [HPN.out, ← HINS.out]; first | exact HEE.out | simpa using HEE.out), HSS.out⟩
                case measure => simp [intOf]; omega
              · refine vwp_lit1 23 31 (.tmp 49) rfl (bvs q.1).toArray rfl Try.underlying23 HSIA.out zOkId (by rw [HCS.out]; decide) (by rw [HCS.out]; decide) ?_
                obtain ⟨wd9nn, hwn⟩ : ∃ wd9nn, wd9n.alloc (.cells (bvs q.1).toArray 31) = wd9nn := ⟨_, rfl⟩
                have hb : Below wd9n.heap.size wd9n wd9nn := hwn ▸ one_below idE wd9n q
                have hL : wd9nn.heap[wd9n.heap.size]? = some (.cells (bvs q.1).toArray 31 (0, 0)) := by rw [← hwn]; exact heap_alloc_new _ _
                rw [hwn]
                have hD0 : ∀ x, (Value.slice (some ⟨wd9.heap.size, 0, none⟩) 0 0).ownBlock = some x → wd9n.heap.size ≠ x := fun x hx e => by have h1 := (hE.lt hx).2; omega
                replace hE := hE.below hb
                obtain ⟨b10, hb10⟩ : ∃ b10, wd9n.heap.size = b10 := ⟨_, rfl⟩
                rw [hb10] at hL ⊢
                have hD : ∀ x, (Value.slice (some ⟨wd9.heap.size, 0, none⟩) 0 0).ownBlock = some x → b10 ≠ x := fun x hx => hb10 ▸ hD0 x hx
                clear hD0
                replace hS := hS.trans (hb.mono hS.size)
                clear hb hwn hb10
                refine hK _ _ hS ?_
                clear hK K
                try simp only [Act.put, List.setIfInBounds_toArray, List.set_cons_zero, List.set_cons_succ]
                refine wpAnyH_do (i := 4) (by kernel_rfl) rfl rfl (fun K hK => ?_)
                refine wp_appL idE (.tmp 40) (.tmp 43) rfl rfl hE rfl (HTK9.out.below hS) (n := 0) (m := n) rfl HLT.out (by omega) hS.size ?_
                intro a4 c4 wd9nnn ho9 hgr hat
                have hb := hE.grown_below hgr hS.size
                rw [Nat.zero_add] at ho9 hat ⊢
                rw [List.nil_append] at ho9
                have hlb := (Array.getElem?_eq_some_iff.1 hL).1
                replace hL := (hgr.block b10 hlb (fun e => hD _ e.symm rfl)).trans hL
                replace hD : ∀ x, (Value.slice a4 n c4).ownBlock = some x → b10 ≠ x := fun x hx e => (hat x hx).elim (fun h => hD x h e) (fun h => by omega)
                clear hlb
                clear hE hgr hat
                have hE := ho9
                clear ho9
                replace hS := hS.trans hb
                clear hb
                refine hK _ _ hS ?_
                clear hK K
                try simp only [Act.put, List.setIfInBounds_toArray, List.set_cons_zero, List.set_cons_succ]
                refine wpAnyH_do (i := 11) (by kernel_rfl) rfl rfl (fun K hK => ?_)
                refine wp_appL idE (.tmp 44) (.tmp 50) rfl rfl hE rfl (list_block hL) (n := n) (m := 1) HLT.out rfl (by omega) hS.size ?_
                intro a11 c11 wd9nnnn ho9 hgr hat
                have hb := hE.grown_below hgr hS.size
                clear hE hgr hat
                have hE := ho9
                clear ho9
                replace hS := hS.trans hb
                clear hb
                clear hL hD
                refine hK _ _ hS ?_
                clear hK K
                try simp only [Act.put, List.setIfInBounds_toArray, List.set_cons_zero, List.set_cons_succ]
                refine wpAnyH_do (i := 15) (by kernel_rfl) rfl rfl (fun K hK => ?_)
                refine wp_appL idE (.tmp 51) (.tmp 54) rfl rfl hE rfl (HLD9.out.below hS) (n := n + 1) (m := n - n) (by rw [List.length_append, HLT.out]; rfl) HLDR.out (by omega) hS.size ?_
                intro a15 c15 wd9nnnnn ho9 hgr hat
                have hb := hE.grown_below hgr hS.size
                clear hE hgr hat
                have hE := ho9
                clear ho9
                replace hS := hS.trans hb
                clear hb
                refine hK _ _ hS ?_
                clear hK K
                try simp only [Act.put, List.setIfInBounds_toArray, List.set_cons_zero, List.set_cons_succ]
                refine wpAnyH_takeI (i := 16) (v := ?v44) rfl (by kernel_rfl) (by kernel_rfl) (by kernel_rfl) (fun _ _ _ h => h) (yieldsIf_run rfl (fun w' hw' => ?y44)) hS ?_
                case y44 => first | (go_simp; rfl) | (go_simp; done) | rfl
                simp only [Act.put, List.setIfInBounds_toArray, List.set_cons_zero, List.set_cons_succ]
                refine wpAnyH_done (by kernel_rfl) ?_ _
                refine NoPanic.normal ?_
                have HEE := Lib.hid (hE.base (Nat.le_trans HB.out.size HBW.out.size))
                have HSS := Lib.hid (HB.out.trans ((HBW.out.trans (hS.mono HBW.out.size)).mono HB.out.size))
                clear hE hS
                go_wp2_with fail
                go_roundw
                case rel => exact ⟨i + 1, by omega, by go_num, (by rw [HPN.out, ← HINS.out]; first | exact HEE.out | simpa using HEE.out), HSS.out⟩
                case measure => simp [intOf]; omega
            · refine vwp_lit1 23 31 (.tmp 49) rfl (bvs q.1).toArray rfl Try.underlying23 HSIA.out zOkId (by rw [HCS.out]; decide) (by rw [HCS.out]; decide) ?_
              obtain ⟨wd9n, hwn⟩ : ∃ wd9n, wd9.alloc (.cells (bvs q.1).toArray 31) = wd9n := ⟨_, rfl⟩
              have hb : Below wd9.heap.size wd9 wd9n := hwn ▸ one_below idE wd9 q
              have hL : wd9n.heap[wd9.heap.size]? = some (.cells (bvs q.1).toArray 31 (0, 0)) := by rw [← hwn]; exact heap_alloc_new _ _
              rw [hwn]
              obtain ⟨b10, hb10⟩ : ∃ b10, wd9.heap.size = b10 := ⟨_, rfl⟩
              rw [hb10] at hL ⊢
              replace hS := hS.trans (hb.mono hS.size)
              clear hb hwn hb10
              refine hK _ _ hS ?_
              clear hK K
              try simp only [Act.put, List.setIfInBounds_toArray, List.set_cons_zero, List.set_cons_succ]
              refine wpAnyH_do (i := 0) (by kernel_rfl) rfl rfl (fun K hK => ?_)
              go_simp
              obtain ⟨wd9nn, hwn⟩ : ∃ wd9nn, wd9n.alloc (.cells #[] 31) = wd9nn := ⟨_, rfl⟩
              have hb : Below wd9n.heap.size wd9n wd9nn := hwn ▸ (Below.refl _ _).alloc (Nat.le_refl _) _
              have hE : OwnL idE wd9nn wd.heap.size (Value.slice (some ⟨wd9n.heap.size, 0, none⟩) 0 0) [] := hwn ▸ ownL_zero idE hS.size
              rw [hwn]
              clear hwn
              have hD : ∀ x, (Value.slice (some ⟨wd9n.heap.size, 0, none⟩) 0 0).ownBlock = some x → b10 ≠ x := fun x hx e => by have h1 := (Array.getElem?_eq_some_iff.1 hL).1; have e2 : wd9n.heap.size = x := Option.some.inj hx; omega
              replace hL := (hb.block _ (Array.getElem?_eq_some_iff.1 hL).1).trans hL
              replace hS := hS.trans (hb.mono hS.size)
              clear hb
              refine hK _ _ hS ?_
              clear hK K
              try simp only [Act.put, List.setIfInBounds_toArray, List.set_cons_zero, List.set_cons_succ]
              refine wpAnyH_do (i := 4) (by kernel_rfl) rfl rfl (fun K hK => ?_)
              refine wp_appL idE (.tmp 40) (.tmp 43) rfl rfl hE rfl (HTK9.out.below hS) (n := 0) (m := n) rfl HLT.out (by omega) hS.size ?_
              intro a4 c4 wd9nnn ho9 hgr hat
              have hb := hE.grown_below hgr hS.size
              rw [Nat.zero_add] at ho9 hat ⊢
              rw [List.nil_append] at ho9
              have hlb := (Array.getElem?_eq_some_iff.1 hL).1
              replace hL := (hgr.block b10 hlb (fun e => hD _ e.symm rfl)).trans hL
              replace hD : ∀ x, (Value.slice a4 n c4).ownBlock = some x → b10 ≠ x := fun x hx e => (hat x hx).elim (fun h => hD x h e) (fun h => by omega)
              clear hlb
              clear hE hgr hat
              have hE := ho9
              clear ho9
              replace hS := hS.trans hb
              clear hb
              refine hK _ _ hS ?_
              clear hK K
              try simp only [Act.put, List.setIfInBounds_toArray, List.set_cons_zero, List.set_cons_succ]
              refine wpAnyH_do (i := 11) (by kernel_rfl) rfl rfl (fun K hK => ?_)
              refine wp_appL idE (.tmp 44) (.tmp 50) rfl rfl hE rfl (list_block hL) (n := n) (m := 1) HLT.out rfl (by omega) hS.size ?_
              intro a11 c11 wd9nnnn ho9 hgr hat
              have hb := hE.grown_below hgr hS.size
              clear hE hgr hat
              have hE := ho9
              clear ho9
              replace hS := hS.trans hb
              clear hb
              clear hL hD
              refine hK _ _ hS ?_
              clear hK K
              try simp only [Act.put, List.setIfInBounds_toArray, List.set_cons_zero, List.set_cons_succ]
              refine wpAnyH_do (i := 15) (by kernel_rfl) rfl rfl (fun K hK => ?_)
              refine wp_appL idE (.tmp 51) (.tmp 54) rfl rfl hE rfl (HLD9.out.below hS) (n := n + 1) (m := n - n) (by rw [List.length_append, HLT.out]; rfl) HLDR.out (by omega) hS.size ?_
              intro a15 c15 wd9nnnnn ho9 hgr hat
              have hb := hE.grown_below hgr hS.size
              clear hE hgr hat
              have hE := ho9
              clear ho9
              replace hS := hS.trans hb
              clear hb
              refine hK _ _ hS ?_
              clear hK K
              try simp only [Act.put, List.setIfInBounds_toArray, List.set_cons_zero, List.set_cons_succ]
              refine wpAnyH_takeI (i := 16) (v := ?v45) rfl (by kernel_rfl) (by kernel_rfl) (by kernel_rfl) (fun _ _ _ h => h) (yieldsIf_run rfl (fun w' hw' => ?y45)) hS ?_
              case y45 => first | (go_simp; rfl) | (go_simp; done) | rfl
              simp only [Act.put, List.setIfInBounds_toArray, List.set_cons_zero, List.set_cons_succ]
              refine wpAnyH_done (by kernel_rfl) ?_ _
              refine NoPanic.normal ?_
              have HEE := Lib.hid (hE.base (Nat.le_trans HB.out.size HBW.out.size))
              have HSS := Lib.hid (HB.out.trans ((HBW.out.trans (hS.mono HBW.out.size)).mono HB.out.size))
              clear hE hS
              go_wp2_with fail
              go_roundw
              case rel => exact ⟨i + 1, by omega, by go_num, (by rw [HPN.out, ← HINS.out]; first | exact HEE.out | simpa using HEE.out), HSS.out⟩
              case measure => simp [intOf]; omega
      · rw [if_neg hmv, List.append_nil] at hpn
        have HPN := Lib.hid hpn
        have hmv1 : (mi == val) = false := by simpa using hmv
        have hmv2 : (mi != val) = true := by simpa using hmv
        clear hpn
        go_wp2_with fail
        go_roundw
        case rel => exact ⟨i + 1, by omega, by go_num, (by rw [HPN.out, HOS.out]; exact HO.out), HB.out⟩
        case measure => simp [intOf]; omega
    · obtain rfl : N = i := by omega
      have hfin : O = sortB (pickIds L M val) := by
        rw [← HOS.out, ← HX.out, List.take_of_length_le (by rw [HN.out]; omega), List.take_of_length_le (by rw [HM.out]; omega)]
      have HFIN := Lib.hid hfin
      clear hfin
      go_wp2_with fail
      exact bodyPost_ret (v := .slice oa n oc) (by simp [results, Try.results20, go_sem]) rfl ⟨_, rfl, HFIN.out ▸ HO.out, HB.out⟩

end Go.Proofs.Ytjjanjhoaiannaa
