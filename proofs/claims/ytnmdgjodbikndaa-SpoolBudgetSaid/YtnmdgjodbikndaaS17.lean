/- The relation of spool and reference; the law's sameIds and small. -/
import Derived.Test.YtnmdgjodbikndaaS16
import Derived.Test.YtnmdgjodbikndaaSArgs
namespace Go.Proofs.Ytnmdgjodbikndaa
open Go.RowKit
set_option linter.unusedVariables false
set_option linter.unusedSimpArgs false

def toR (a : ArtD) : RefA := ⟨a.id, a.text, a.arr⟩
def SpD.ref (S : SpD) : List RefA := S.list.map toR
theorem ref_length (S : SpD) : S.ref.length = S.list.length := List.length_map ..
theorem ref_find (S : SpD) (k : IdB) : rFind S.ref k = (S.find k).map toR := by
  unfold rFind SpD.ref SpD.find
  rw [List.find?_map]
  rfl
theorem ref_size (S : SpD) : rSize S.ref = S.size := by
  unfold rSize SpD.ref SpD.size
  rw [List.map_map]
  rfl
theorem fIx_some {S : SpD} {k : IdB} : 0 ≤ fIx S.ref k ↔ (S.find k).isSome = true := by
  have h := ref_find S k
  rcases fIx_find S.ref k with ⟨h1, h2⟩ | ⟨i, hi, h1, h2⟩
  · rw [h2] at h
    cases hf : S.find k with
    | none => rw [h1]; simp
    | some a => rw [hf] at h; cases h
  · rw [h2] at h
    cases hf : S.find k with
    | none => rw [hf] at h; cases h
    | some a => rw [h1]; simp
theorem ref_tx {S : SpD} (hok : S.Ok) : ∀ x ∈ S.ref, x.text.size ≤ 65536 := by
  intro x hx
  unfold SpD.ref at hx
  obtain ⟨a, ha, rfl⟩ := List.mem_map.1 hx
  exact (hok.tx a ha).2
theorem ref_putC (S : SpD) (a : RefA) : putRC S.budget S.ref a = putC S a.id a.text a.min := by
  unfold putRC putC
  rw [ref_size]
  have e1 : (0 ≤ fIx S.ref a.id) = ((S.find a.id).isSome = true) := propext fIx_some
  have e2 : (S.budget < (S.size : Int) + (a.text.size : Int)) = (S.budget - (S.size : Int) < (a.text.size : Int)) := propext (by omega)
  simp only [e1, e2]
theorem ref_putS (S : SpD) (a : RefA) : (if putRC S.budget S.ref a = 0 then S.ref ++ [a] else S.ref) = (putS S a.id a.text a.min).ref := by
  rw [ref_putC]
  unfold putS
  split
  · unfold SpD.ref SpD.add
    simp only [List.map_append, List.map_cons, List.map_nil]
    rfl
  · rfl
theorem putS_budget (S : SpD) (k : IdB) (t : ByteArray) (d : Int) : (putS S k t d).budget = S.budget := by unfold putS; split <;> rfl
theorem ref_rmC (S : SpD) (k : IdB) : rmC S.ref k = if (S.find k).isSome = true then 0 else 8 := by
  unfold rmC
  have := @fIx_some S k
  by_cases h : (S.find k).isSome = true
  · rw [if_pos h, if_neg (by have := this.2 h; omega)]
  · rw [if_neg h, if_pos (by have : ¬ 0 ≤ fIx S.ref k := fun e => h (this.1 e); omega)]
def rmS (S : SpD) (k : IdB) : SpD := if (S.find k).isSome = true then S.del k else S
theorem ref_rmL (S : SpD) (k : IdB) : rmL S.ref k = (rmS S k).ref := by
  have e : (S.del k).ref = rmL S.ref k := by
    unfold SpD.ref SpD.del rmL
    rw [List.eraseP_map]
    rfl
  unfold rmS
  split
  · exact e.symm
  · rename_i h
    have : ∀ x ∈ S.ref, ¬ (decide (x.id = k)) = true := fun x hx => by
      unfold SpD.ref at hx
      obtain ⟨a, ha, rfl⟩ := List.mem_map.1 hx
      have h0 : S.find k = none := by cases hf : S.find k with | none => rfl | some a => rw [hf] at h; exact absurd rfl h
      have := find_spec.2 h0 a ha
      simp only [decide_eq_true_eq]
      exact this
    unfold rmL
    exact List.eraseP_of_forall_not this
theorem ref_readC (S : SpD) (k : IdB) (f c : Int) : rReadC S.ref k f c = readC S k f c := by
  unfold rReadC readC
  rw [ref_find]
  cases S.find k with
  | none => rfl
  | some a => rfl
theorem ref_readT (S : SpD) (k : IdB) (f c : Int) : rReadT S.ref k f c = if readC S k f c = 0 then readT ((S.find k).getD zA).text f c else ⟨#[]⟩ := by
  unfold rReadT
  rw [ref_readC, ref_find]
  cases S.find k with
  | none => rfl
  | some a => rfl
theorem stab_ref (l : List ArtD) : stabR (l.map toR) = (stab l).map toR := by
  unfold stabR stab
  exact (List.map_mergeSort (f := toR) (r := fun a b => decide (a.arr ≤ b.arr)) (s := fun a b => decide (a.min ≤ b.min)) (fun a _ b _ => rfl)).symm
theorem oldGo_ref (need : Int) : ∀ (l : List ArtD) (f : Int), oldGoR need f (l.map toR) = oldGo need f l
  | [], _ => rfl
  | a :: l, f => by
    rw [List.map_cons]
    unfold oldGoR oldGo
    rw [oldGo_ref need l]
    rfl
theorem ref_oldC (S : SpD) (need : Int) : rOldC S.budget need = oldC S need := rfl
theorem ref_oldL (S : SpD) (need : Int) : rOldL S.budget S.ref need = oldL S need := by
  unfold rOldL oldL
  rw [ref_oldC, ref_size]
  unfold SpD.ref
  rw [stab_ref, oldGo_ref]
/-- What an operation does. -/
def stepS (S : SpD) (o : OpD) : SpD := if o.kind = 0 then putS S o.a.id o.a.text o.a.min else if o.kind = 1 then rmS S o.a.id else S
def runS (S : SpD) (l : List OpD) : SpD := l.foldl stepS S
theorem step_ok {S : SpD} (o : OpD) (h : S.Ok) : (stepS S o).Ok ∧ (stepS S o).budget = S.budget ∧ (stepS S o).next ≤ S.next + 1 ∧ (stepS S o).list.length ≤ S.list.length + 1 := by
  unfold stepS
  split
  · unfold putS
    split
    · rename_i hc
      exact ⟨Ok.add h hc, rfl, Int.le_refl _, by unfold SpD.add; simp⟩
    · exact ⟨h, rfl, by omega, by omega⟩
  · split
    · unfold rmS
      split
      · exact ⟨Ok.del h, rfl, by show S.next ≤ _; omega, Nat.le_succ_of_le (List.eraseP_sublist.length_le)⟩
      · exact ⟨h, rfl, by omega, by omega⟩
    · exact ⟨h, rfl, by omega, by omega⟩
theorem ListAt.kept_sp {w w' : World} {b m : Nat} {S : SpD} {v : Value} {L : List RefA} (hs : SpAt w b m S) (h : ListAt refE w v L) (hc : Chg (fun k => k = b ∨ k = m) w w') : ListAt refE w' v L := by
  obtain ⟨a, cap, e, h1, h2, h3, h4⟩ := h.ex
  refine ⟨a, cap, e, h1, h2, h3, fun hne => ?_⟩
  obtain ⟨g, off, e1, hg, hr⟩ := h4 hne
  have h0 : 0 < L.length := List.length_pos_iff.2 hne
  have hx : w.cell? ⟨g, off + 0 * 34 + 32, none⟩ = some (.string L[0].text) := hr 0 h0 32 _ (by
    show L[0].cells[32]? = _
    unfold RefA.cells
    rw [List.getElem?_append_right (by rw [bvs_length, L[0].id.2]; decide), bvs_length, L[0].id.2]
    rfl)
  have hgb : g ≠ b := by
    intro e
    subst e
    rw [cell_of_row _ _ _ _ _ _ hs.hb] at hx
    rw [Array.getElem?_eq_none (by simp)] at hx
    cases hx
  have hgm : g ≠ m := by
    intro e
    subst e
    obtain ⟨es, c, hm, _⟩ := hs.hm.ex
    unfold World.cell? at hx
    simp [hm] at hx
  refine ⟨g, off, e1, Nat.lt_of_lt_of_le hg hc.size, fun i hi j u hj => ?_⟩
  exact hc.cell (p := ⟨g, off + i * 34 + j, none⟩) (fun h => by rcases h with h | h; exact hgb h; exact hgm h) (hr i hi j u hj)
set_option maxRecDepth 100000 in
set_option maxHeartbeats 2000000 in
theorem sameIds_eq {w : World} (v u : Value) (L : List IdB) (hv : ListAt idE w v L) (hu : ListAt arE w u L) (hl : L.length < 1000000) :
    Calls Try.prog 49 #[v, u] w fun e w' => e = .returned (.bool true) ∧ Below w.heap.size w w' := by
  obtain ⟨va, vc, rfl⟩ := hv.form
  obtain ⟨ua, uc, rfl⟩ := hu.form
  obtain ⟨N, hN⟩ : ∃ N, L.length = N := ⟨_, rfl⟩
  rw [hN] at hv hu hl ⊢
  have HV := Lib.hid hv
  have HU := Lib.hid hu
  have HN := Lib.hid hN
  clear hv hu hN
  go_enter Try.func49, Try.ntmps49
  go_wp2_with fail
  go_loopw [5] (fun iv wr => ∃ i : Nat, i ≤ N ∧ iv = .int .i64 (i : Int) ∧ Below w.heap.size w wr) (fun iv _ => N - (intOf iv).toNat)
  case atStart => exact ⟨0, Nat.zero_le _, rfl, Below.refl _ _⟩
  case round =>
    obtain ⟨i, hi, rfl, hB⟩ := hrel
    have HB := Lib.hid hB
    clear hB
    by_cases hlt : i < N
    · have hiI : (i : Int) < (N : Int) := by omega
      have hiI0 : (0 : Int) ≤ (i : Int) := by omega
      have hlt' : i < L.length := by rw [HN.out]; exact hlt
      obtain ⟨g, off, rfl, hg, hr⟩ := (HV.out.below HB.out).get hlt'
      obtain ⟨g2, off2, rfl, hg2, hr2⟩ := (HU.out.below HB.out).get hlt'
      obtain ⟨a, ha⟩ : ∃ a, L[i] = a := ⟨_, rfl⟩
      rw [ha] at hr hr2
      have hr : wr.rangeAt g (off + i * 32) (bvs a.1) := hr
      have hr2 : wr.rangeAt g2 (off2 + i * 32) (bvs a.1) := hr2
      have HR := Lib.hid (show ∀ w', Below wr.heap.size wr w' → w'.rangeAt g (off + i * 32) (bvs a.1) ∧ w'.rangeAt g2 (off2 + i * 32) (bvs a.1) from fun w' hw' => ⟨fun j u hu => (hw'.cell (p := ⟨g, off + i * 32 + j, none⟩) hg).trans (hr j u hu), fun j u hu => (hw'.cell (p := ⟨g2, off2 + i * 32 + j, none⟩) hg2).trans (hr2 j u hu)⟩)
      have HEQ := Lib.hid (fun w' => (neq_Id a a w').trans (by rw [decide_eq_true rfl]))
      clear hr hr2 ha hg hg2
      go_wp2_with fail
      refine wp_region_noPanic ?_
      refine wp_region_H (Below wr.heap.size wr) (by kernel_rfl) ?_
      have hS0 : (Below wr.heap.size wr) wr.drew := (Below.refl _ _).drew
      obtain ⟨wd, hwd⟩ : ∃ wd, wr.drew = wd := ⟨_, rfl⟩
      rw [hwd] at hS0 ⊢
      clear hwd
      refine wpAnyH_takeI (i := 0) (v := ?v1) rfl (by kernel_rfl) (by kernel_rfl) (by kernel_rfl) (fun _ _ _ h => h) (yieldsIf_run rfl (fun w' hw' => ?y1)) hS0 ?_
      case y1 => first | (go_simp; rfl) | (go_simp; done) | rfl
      simp only [Act.put, List.setIfInBounds_toArray, List.set_cons_zero, List.set_cons_succ]
      refine wpAnyH_takeI (i := 1) (v := ?v2) rfl (by kernel_rfl) (by kernel_rfl) (by kernel_rfl) (fun _ _ _ h => h) (yieldsIf_run rfl (fun w' hw' => ?y2)) hS0 ?_
      case y2 => first | (go_simp; rfl) | (go_simp; done) | rfl
      simp only [Act.put, List.setIfInBounds_toArray, List.set_cons_zero, List.set_cons_succ]
      refine wpAnyH_takeI (i := 2) (v := ?v3) rfl (by kernel_rfl) (by kernel_rfl) (by kernel_rfl) (fun _ _ _ h => h) (yieldsIf_run rfl (fun w' hw' => ?y3)) hS0 ?_
      case y3 => first | (go_simp; rfl) | (go_simp; done) | rfl
      simp only [Act.put, List.setIfInBounds_toArray, List.set_cons_zero, List.set_cons_succ]
      refine wpAnyH_takeI (i := 3) (v := .agg (bvs a.1).toArray) rfl (by kernel_rfl) (by kernel_rfl) (by kernel_rfl) (fun _ _ _ h => h) (yieldsIf_load_mid rfl 30 (.tmp 19) rfl g (off + i * 32) rfl (bvs a.1) _ (fun w' hw' => (HR.out w' hw').1) Try.underlying30 rfl (sizeId a)) hS0 ?_
      simp only [Act.put, List.setIfInBounds_toArray, List.set_cons_zero, List.set_cons_succ]
      refine wpAnyH_takeI (i := 4) (v := ?v4) rfl (by kernel_rfl) (by kernel_rfl) (by kernel_rfl) (fun _ _ _ h => h) (yieldsIf_run rfl (fun w' hw' => ?y4)) hS0 ?_
      case y4 => first | (go_simp; rfl) | (go_simp; done) | rfl
      simp only [Act.put, List.setIfInBounds_toArray, List.set_cons_zero, List.set_cons_succ]
      refine wpAnyH_takeI (i := 5) (v := ?v5) rfl (by kernel_rfl) (by kernel_rfl) (by kernel_rfl) (fun _ _ _ h => h) (yieldsIf_run rfl (fun w' hw' => ?y5)) hS0 ?_
      case y5 => first | (go_simp; rfl) | (go_simp; done) | rfl
      simp only [Act.put, List.setIfInBounds_toArray, List.set_cons_zero, List.set_cons_succ]
      refine wpAnyH_takeI (i := 6) (v := ?v6) rfl (by kernel_rfl) (by kernel_rfl) (by kernel_rfl) (fun _ _ _ h => h) (yieldsIf_run rfl (fun w' hw' => ?y6)) hS0 ?_
      case y6 => first | (go_simp; rfl) | (go_simp; done) | rfl
      simp only [Act.put, List.setIfInBounds_toArray, List.set_cons_zero, List.set_cons_succ]
      refine wpAnyH_takeI (i := 7) (v := .agg (bvs a.1).toArray) rfl (by kernel_rfl) (by kernel_rfl) (by kernel_rfl) (fun _ _ _ h => h) (yieldsIf_load_mid rfl 29 (.tmp 23) rfl g2 (off2 + i * 32) rfl (bvs a.1) _ (fun w' hw' => (HR.out w' hw').2) Try.underlying29 rfl (sizeArr a)) hS0 ?_
      simp only [Act.put, List.setIfInBounds_toArray, List.set_cons_zero, List.set_cons_succ]
      refine wpAnyH_takeI (i := 8) (v := .bool false) rfl (by kernel_rfl) (by kernel_rfl) (by kernel_rfl) (fun _ _ _ h => h) (yieldsIf_run rfl (fun w' hw' => op_neq 30 (.tmp 20) (.tmp 24) 30 rfl rfl rfl guard_Id (HEQ.out w'))) hS0 ?_
      simp only [Act.put, List.setIfInBounds_toArray, List.set_cons_zero, List.set_cons_succ]
      refine wpAnyH_done (by kernel_rfl) ?_ _
      refine NoPanic.normal ?_
      go_wp2_with fail
      go_roundw
      case rel => exact ⟨i + 1, by omega, by go_num, HB.out.trans (hS0.mono HB.out.size)⟩
      case measure => simp [intOf]; omega
    · obtain rfl : N = i := by omega
      go_wp2_with fail
      exact bodyPost_ret (v := .bool true) (by simp [results, Try.results49, go_sem]) rfl ⟨rfl, HB.out⟩
def smallB (l : List OpD) : Bool := l.all (fun o => decide (o.a.text.size ≤ 200)) && decide (l.length ≤ 40)
theorem op_at {w : World} {L : List OpD} {n c : Nat} {a : Option Addr} (h : ListAt opE w (.slice a n c) L) {i : Nat} (hi : i < L.length) : ∃ g off, a = some ⟨g, off, none⟩ ∧ g < w.heap.size ∧ w.rangeAt g (off + i * 37) L[i].cells ∧ w.cell? ⟨g, off + i * 37 + 33, none⟩ = some (.string L[i].a.text) := by
  obtain ⟨g, off, e, hg, hr⟩ := h.get hi
  have hr : w.rangeAt g (off + i * 37) L[i].cells := hr
  refine ⟨g, off, e, hg, hr, hr 33 _ ?_⟩
  unfold OpD.cells RefA.cells
  rw [List.append_assoc]
  rw [List.getElem?_append_right (by simp)]
  rw [List.getElem?_append_right (by rw [bvs_length, L[i].a.id.2]; simp), bvs_length, L[i].a.id.2]
  rfl
set_option maxRecDepth 100000 in
set_option maxHeartbeats 2000000 in
theorem small_any {w : World} (v : Value) (L : List OpD) (hv : ListAt opE w v L) :
    Calls Try.prog 16 #[v] w fun e w' => e = .returned (.bool (smallB L)) ∧ Below w.heap.size w w' := by
  obtain ⟨va, vc, rfl⟩ := hv.form
  obtain ⟨N, hN⟩ : ∃ N, L.length = N := ⟨_, rfl⟩
  obtain ⟨r, hr⟩ : ∃ r, smallB L = r := ⟨_, rfl⟩
  have hm := hv.len
  rw [hN] at hv hm ⊢
  rw [hr]
  unfold smallB at hr
  rw [hN] at hr
  have hNm : N ≤ 9223372036854775807 := by have h := hm.2.1; have h2 := hm.2.2.1; unfold maxLen at h2; omega
  have HV := Lib.hid hv
  have HN := Lib.hid hN
  have HR := Lib.hid hr
  clear hv hN hr hm
  go_enter Try.func16, Try.ntmps16
  go_wp2_with fail
  go_loopw [3] (fun iv wr => ∃ i : Nat, i ≤ N ∧ iv = .int .i64 (i : Int) ∧ (∀ o ∈ L.take i, o.a.text.size ≤ 200) ∧ wr = w) (fun iv _ => N - (intOf iv).toNat)
  case atStart => exact ⟨0, Nat.zero_le _, rfl, by simp, rfl⟩
  case round =>
    obtain ⟨i, hi, rfl, hno, rfl⟩ := hrel
    have HNO := Lib.hid hno
    clear hno
    by_cases hlt : i < N
    · have hiI : (i : Int) < (N : Int) := by omega
      have hiI0 : (0 : Int) ≤ (i : Int) := by omega
      have hwi : IntKind.i64.wrap ((i : Int) + 1) = (i : Int) + 1 := IntWalk.i64_in _ (by omega)
      have hlt' : i < L.length := by rw [HN.out]; exact hlt
      obtain ⟨g, off, rfl, hg, _, htx⟩ := op_at HV.out hlt'
      obtain ⟨t, ht⟩ : ∃ t, L[i].a.text = t := ⟨_, rfl⟩
      rw [ht] at htx
      by_cases hb : 200 < t.size
      · have hbI : (200 : Int) < (t.size : Int) := by omega
        have hrf : false = r := by
          rw [← HR.out]
          have : L.all (fun o => decide (o.a.text.size ≤ 200)) = false := by
            rw [List.all_eq_false]
            exact ⟨L[i], List.getElem_mem hlt', by rw [ht]; simpa using hb⟩
          rw [this]
          rfl
        subst hrf
        go_wp2_with fail
        exact bodyPost_ret (v := .bool false) (by simp [results, Try.results16, go_sem]) rfl ⟨rfl, Below.refl _ _⟩
      · have hbI : ¬ (200 : Int) < (t.size : Int) := by omega
        have HNX := Lib.hid (show ∀ o ∈ L.take (i + 1), o.a.text.size ≤ 200 from by
          rw [List.take_succ_eq_append_getElem hlt']
          intro o ho
          rcases List.mem_append.1 ho with h | h
          · exact HNO.out o h
          · rw [List.mem_singleton.1 h, ht]; omega)
        go_wp2_with fail
        go_roundw
        case rel => exact ⟨i + 1, by omega, by go_num, HNX.out, by first | trivial | rfl⟩
        case measure => simp [intOf]; omega
    · obtain rfl : N = i := by omega
      have hall : L.all (fun o => decide (o.a.text.size ≤ 200)) = true := by
        rw [List.all_eq_true]
        have h := HNO.out
        rw [List.take_of_length_le (by rw [HN.out]; exact Nat.le_refl _)] at h
        exact fun o ho => decide_eq_true (h o ho)
      have hrr : decide (N ≤ 40) = r := by rw [← HR.out, hall]; rfl
      by_cases h40 : N ≤ 40
      · have hI : (N : Int) ≤ 40 := by omega
        obtain rfl : true = r := by rw [← hrr]; exact (decide_eq_true h40).symm
        clear hrr
        go_wp2_with fail
        exact bodyPost_ret (v := .bool true) (by simp [results, Try.results16, go_sem]) rfl ⟨rfl, Below.refl _ _⟩
      · have hI : ¬ (N : Int) ≤ 40 := by omega
        obtain rfl : false = r := by rw [← hrr]; exact (decide_eq_false h40).symm
        clear hrr
        go_wp2_with fail
        exact bodyPost_ret (v := .bool false) (by simp [results, Try.results16, go_sem]) rfl ⟨rfl, Below.refl _ _⟩
end Go.Proofs.Ytnmdgjodbikndaa
