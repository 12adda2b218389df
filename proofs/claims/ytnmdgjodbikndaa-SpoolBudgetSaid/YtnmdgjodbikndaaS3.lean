/- The spool: Put, Remove; The spool: Read. -/
import Derived.Test.YtnmdgjodbikndaaS1
import Derived.Test.YtnmdgjodbikndaaSteps
import Derived.Lib.BytesEntry
namespace Go.Proofs.Ytnmdgjodbikndaa
open Go.RowKit
set_option linter.unusedVariables false
set_option linter.unusedSimpArgs false

theorem ba_ne {t : ByteArray} (h : t.size ≠ 0) : t.toList.isEmpty = false := by
  cases t with
  | mk d =>
    rw [ByteArray.toList_mk, List.isEmpty_eq_false_iff]
    intro e
    exact h (by show d.size = 0; rw [← Array.length_toList, e]; rfl)
def putC (S : SpD) (k : IdB) (t : ByteArray) (d : Int) : Int :=
  if k = z32 ∨ t.size = 0 then 1 else if 65536 < t.size then 5 else if d < 0 ∨ 105190559 < d then 2 else if (S.find k).isSome = true then 7 else if S.budget - (S.size : Int) < (t.size : Int) then 9 else 0
def SpD.add (S : SpD) (k : IdB) (t : ByteArray) (d : Int) : SpD := ⟨S.budget, S.next + 1, S.list ++ [⟨k, t, d, S.next⟩]⟩
def putS (S : SpD) (k : IdB) (t : ByteArray) (d : Int) : SpD := if putC S k t d = 0 then S.add k t d else S
def PutPost (w : World) (b m : Nat) (S : SpD) (c : Int) (S' : SpD) (e : Ending) (w' : World) : Prop :=
  e = .returned (.int .i64 c) ∧ SpAt w' b m S' ∧ Chg (fun j => j = b ∨ j = m) w w'
theorem PutPost.same {w w' : World} {b m : Nat} {S : SpD} {c : Int} (h : SpAt w b m S) (hb : Below w.heap.size w w') : PutPost w b m S c S (.returned (.int .i64 c)) w' := ⟨rfl, h.below hb, (Chg.of_below hb)⟩
theorem zeroIdV (w : World) : (Instr.build 30 #[]).run Try.prog w = .ok (.agg (bvs z32.1).toArray) w := by kernel_rfl
theorem size_add (S : SpD) (k : IdB) (t : ByteArray) (d : Int) : (S.add k t d).size = S.size + t.size := by
  unfold SpD.add SpD.size
  simp
theorem Ok.add {S : SpD} {k : IdB} {t : ByteArray} {d : Int} (h : S.Ok) (hc : putC S k t d = 0) : (S.add k t d).Ok := by
  unfold putC at hc
  split at hc
  · cases hc
  rename_i h1
  split at hc
  · cases hc
  rename_i h2
  split at hc
  · cases hc
  rename_i h3
  split at hc
  · cases hc
  rename_i h4
  split at hc
  · cases hc
  rename_i h5
  refine ⟨h.b0, h.b1, ?_, by have := h.n0; show 0 ≤ S.next + 1; omega, ?_, ?_, ?_, ?_⟩
  · rw [size_add]; show ((S.size + t.size : Nat) : Int) ≤ S.budget; omega
  · refine List.pairwise_append.2 ⟨h.pl, List.pairwise_singleton _ _, fun a ha b hb => ?_⟩
    rw [List.mem_singleton.1 hb]
    exact h.pn a ha
  · intro a ha
    rcases List.mem_append.1 ha with ha | ha
    · have := h.pn a ha; show a.place < S.next + 1; omega
    · rw [List.mem_singleton.1 ha]; show S.next < S.next + 1; omega
  · intro a ha
    rcases List.mem_append.1 ha with ha | ha
    · exact h.tx a ha
    · rw [List.mem_singleton.1 ha]; show 1 ≤ t.size ∧ t.size ≤ 65536; omega
  · intro a ha
    rcases List.mem_append.1 ha with ha | ha
    · exact h.ar a ha
    · rw [List.mem_singleton.1 ha]; show 0 ≤ d ∧ d ≤ 105190559; omega
theorem kl_fresh {S : SpD} {k : IdB} (h : (S.find k).isSome = false) : k ∉ S.kl.map (·.1) := by
  have h0 : S.find k = none := by cases hf : S.find k with | none => rfl | some a => rw [hf] at h; cases h
  intro hk
  unfold SpD.kl at hk
  rw [List.map_map] at hk
  obtain ⟨a, ha, he⟩ := List.mem_map.1 hk
  exact find_spec.2 h0 a ha he
theorem setCell4 {w : World} {b m : Nat} {x y z x' y' z' : Int} (i : Nat) (v : Int) (h : w.heap[b]? = some (.cells #[.int .i64 x, .int .i64 y, .int .i64 z, .map (some m)] 78 (0, 0)))
    (he : (#[.int .i64 x, .int .i64 y, .int .i64 z, .map (some m)] : Array Value).setIfInBounds i (.int .i64 v) = #[.int .i64 x', .int .i64 y', .int .i64 z', .map (some m)]) :
    (w.setCell ⟨b, i, none⟩ (.int .i64 v)).heap[b]? = some (.cells #[.int .i64 x', .int .i64 y', .int .i64 z', .map (some m)] 78 (0, 0)) := by
  rw [heap_setCell_same _ _ _ _ _ _ h, he]

set_option maxRecDepth 100000 in
set_option maxHeartbeats 2000000 in
theorem Put_any {w : World} {b m : Nat} {S : SpD} (h : SpAt w b m S) (hok : S.Ok) (hn : S.next < 1000000000000) (k : IdB) (t : ByteArray) (d : Int) :
    Calls Try.prog 14 #[.pointer (some ⟨b, 0, none⟩), .agg (bvs k.1).toArray, .string t, .int .i64 d] w (PutPost w b m S (putC S k t d) (putS S k t d)) := by
  obtain ⟨w1, hw1⟩ : ∃ w1, w.alloc (.cells (bvs k.1).toArray 30) = w1 := ⟨_, rfl⟩
  have hb1 : Below w.heap.size w w1 := hw1 ▸ (Below.refl _ _).alloc (Nat.le_refl _) _
  have hx1 : w1.heap[w.heap.size]? = some (.cells (bvs k.1).toArray 30 (0, 0)) := by rw [← hw1]; exact heap_alloc_new _ _
  obtain ⟨c, hc⟩ : ∃ c, putC S k t d = c := ⟨_, rfl⟩
  obtain ⟨S', hS'⟩ : ∃ S', putS S k t d = S' := ⟨_, rfl⟩
  have hsame : c ≠ 0 → S' = S := fun e => by rw [← hS']; unfold putS; rw [hc, if_neg e]
  have hnew : c = 0 → S' = S.add k t d := fun e => by rw [← hS']; unfold putS; rw [hc, if_pos e]
  rw [hc, hS']
  have hc0 := hc
  unfold putC at hc
  have HB1 := Lib.hid hb1
  have HH := Lib.hid h
  have HOK := Lib.hid hok
  have HSM := Lib.hid hsame
  have HNW := Lib.hid hnew
  have HX := Lib.hid (range_block hx1)
  have HX1 := Lib.hid hx1
  have HSI := Lib.hid (sizeId k)
  have HPC := Lib.hid hc0
  clear hsame hnew h hok hS' hb1 hx1 hc0
  go_enter Try.func14, Try.ntmps14
  go_wp2_with (refine wpList_met rfl ?_; refine wpList_loadV rfl (some 13) rfl 30 (.tmp 5) rfl w.heap.size rfl 30 (bvs k.1).toArray (0, 0) _ HX1.out Try.underlying30 rfl (sizeIdA k) ?_; refine Stop.on ?_)
  refine Stop.go ?_
  try simp only [Act.put, List.setIfInBounds_toArray, List.set_cons_zero, List.set_cons_succ]
  refine wpList_met rfl ?_
  refine wpList_buildV rfl (some 14) rfl 30 #[] rfl [] rfl (.agg (bvs z32.1).toArray) (zeroIdV _) ?_
  try simp only [Act.put, List.setIfInBounds_toArray, List.set_cons_zero, List.set_cons_succ]
  refine wpList_met rfl ?_
  refine wpList_runI rfl (some 15) rfl (.bool (decide (k = z32))) _ (op_eql 30 (.tmp 13) (.tmp 14) 30 rfl rfl rfl guard_Id (eql_Id k z32 _)) ?_
  try simp only [Act.put, List.setIfInBounds_toArray, List.set_cons_zero, List.set_cons_succ]
  by_cases hk0 : k = z32
  · obtain rfl : 1 = c := by rw [← hc, if_pos (.inl hk0)]
    obtain rfl := HSM.out (by decide)
    rw [decide_eq_true hk0]
    go_wp2_with fail
    exact bodyPost_ret (v := .int .i64 1) (by simp [results, Try.results14, go_sem]) rfl (PutPost.same HH.out HB1.out)
  rw [decide_eq_false hk0]
  by_cases ht0 : t.size = 0
  · obtain rfl : 1 = c := by rw [← hc, if_pos (.inr ht0)]
    obtain rfl := HSM.out (by decide)
    have hte : t = ⟨#[]⟩ := ByteArray.ext (Array.eq_empty_of_size_eq_zero ht0)
    subst hte
    clear HNW HPC hc
    go_wp2_with fail
    exact bodyPost_ret (v := .int .i64 1) (by simp [results, Try.results14, go_sem]) rfl (PutPost.same HH.out HB1.out)
  have htb : t.toList.isEmpty = false := ba_ne ht0
  rw [if_neg (by rintro (h | h); exact hk0 h; exact ht0 h)] at hc
  by_cases ht1 : 65536 < t.size
  · obtain rfl : 5 = c := by rw [← hc, if_pos ht1]
    obtain rfl := HSM.out (by decide)
    have htI : (65536 : Int) < (t.size : Int) := by omega
    clear HNW HPC hc
    go_wp2_with fail
    exact bodyPost_ret (v := .int .i64 5) (by simp [results, Try.results14, go_sem]) rfl (PutPost.same HH.out HB1.out)
  have htI : ¬ (65536 : Int) < (t.size : Int) := by omega
  rw [if_neg ht1] at hc
  by_cases hd0 : d < 0
  · obtain rfl : 2 = c := by rw [← hc, if_pos (.inl hd0)]
    obtain rfl := HSM.out (by decide)
    clear HNW HPC hc
    go_wp2_with fail
    exact bodyPost_ret (v := .int .i64 2) (by simp [results, Try.results14, go_sem]) rfl (PutPost.same HH.out HB1.out)
  by_cases hd1 : 105190559 < d
  · obtain rfl : 2 = c := by rw [← hc, if_pos (.inr hd1)]
    obtain rfl := HSM.out (by decide)
    clear HNW HPC hc
    go_wp2_with fail
    exact bodyPost_ret (v := .int .i64 2) (by simp [results, Try.results14, go_sem]) rfl (PutPost.same HH.out HB1.out)
  rw [if_neg (by rintro (h | h); exact hd0 h; exact hd1 h)] at hc
  obtain ⟨is, his⟩ : ∃ is, (S.find k).isSome = is := ⟨_, rfl⟩
  rw [his] at hc
  have HIS := Lib.hid his
  have HCC := Lib.hid hc
  have HT0 := Lib.hid ht0
  have HT1 := Lib.hid ht1
  clear his hc ht0 ht1
  go_wp2_with (with_reducible refine wpList_load_mid rfl 30 _ rfl w.heap.size (0) rfl (bvs k.1) _ HX.out Try.underlying30 rfl HSI.out ?_)
  refine (Has_any (HH.out.below HB1.out) k).mono ?_
  rintro e w2 ⟨rfl, hb2⟩
  rw [HIS.out]
  have HB2 := Lib.hid (HB1.out.trans (hb2.mono HB1.out.size))
  have HX2 := Lib.hid ((hb2.block _ (Array.getElem?_eq_some_iff.1 HX1.out).1).trans HX1.out)
  clear hb2
  cases is with
  | true =>
    obtain rfl : 7 = c := by rw [← HCC.out, if_pos rfl]
    obtain rfl := HSM.out (by decide)
    clear HNW HPC HCC
    go_wp2_with fail
    exact bodyPost_ret (v := .int .i64 7) (by simp [results, Try.results14, go_sem]) rfl (PutPost.same HH.out HB2.out)
  | false =>
  go_wp2_with fail
  refine (Free_any (HH.out.below HB2.out) HOK.out).mono ?_
  rintro e wf ⟨rfl, hbf⟩
  have HBF := Lib.hid (HB2.out.trans (hbf.mono HB2.out.size))
  have HXF := Lib.hid ((hbf.block _ (Array.getElem?_eq_some_iff.1 HX2.out).1).trans HX2.out)
  clear hbf
  by_cases hfr : S.budget - (S.size : Int) < (t.size : Int)
  · obtain rfl : 9 = c := by rw [← HCC.out, if_neg (by decide), if_pos hfr]
    obtain rfl := HSM.out (by decide)
    clear HNW HPC HCC
    go_wp2_with fail
    exact bodyPost_ret (v := .int .i64 9) (by simp [results, Try.results14, go_sem]) rfl (PutPost.same HH.out HBF.out)
  obtain rfl : 0 = c := by rw [← HCC.out, if_neg (by decide), if_neg hfr]
  obtain rfl := HNW.out rfl
  clear HSM HNW
  have hAF := HH.out.below HBF.out
  obtain ⟨nx, hnx⟩ : ∃ nx, S.next = nx := ⟨_, rfl⟩
  obtain ⟨B, hB⟩ : ∃ B, S.budget = B := ⟨_, rfl⟩
  obtain ⟨N, hN⟩ : ∃ N : Int, (S.size : Int) = N := ⟨_, rfl⟩
  have hn0 := HOK.out.n0
  have hb0 := HOK.out.b0
  have hb1' := HOK.out.b1
  have hsz := HOK.out.sz
  have hN0 : 0 ≤ N := by omega
  rw [hnx] at hn hn0
  rw [hB, hN] at hfr ⊢
  rw [hB] at hb0 hb1'
  rw [hB, hN] at hsz
  have HHB := Lib.hid (show wf.heap[b]? = some (.cells #[.int .i64 B, .int .i64 N, .int .i64 nx, .map (some m)] 78 (0, 0)) by rw [← hB, ← hN, ← hnx]; exact hAF.hb)
  have HNE := Lib.hid hAF.ne
  have hwx : w.heap.size ≠ m := fun e => by have := HH.out.hm.lt; omega
  have hwb : w.heap.size ≠ b := fun e => by have := HH.out.lt; omega
  have HC := Lib.hid (show ∀ w', Chg (fun j => j = m) wf w' → w'.rangeAt w.heap.size 0 (bvs k.1) ∧ w'.cell? ⟨b, 3, none⟩ = some (.map (some m)) ∧ w'.cell? ⟨b, 2, none⟩ = some (.int .i64 nx) from fun w' hw' => by
    have hb' := (hw'.block b hAF.lt (fun e => HNE.out e.symm)).trans HHB.out
    refine ⟨range_block ((hw'.block _ (Array.getElem?_eq_some_iff.1 HXF.out).1 hwx).trans HXF.out), ?_, ?_⟩ <;> rw [cell_of_row _ _ _ _ _ _ hb'] <;> rfl)
  have HK := Lib.hid (show ∀ w', Chg (fun j => j = m) wf w' → w' = wf.drew → KMS idKey w' m S.kl from fun w' _ e => by rw [e]; exact hAF.hm.kept rfl)
  have HNK := Lib.hid (kl_fresh HIS.out)
  have HNX := Lib.hid hnx
  have HBB := Lib.hid hB
  have HNN := Lib.hid hN
  clear hAF hnx hB hN HCC
  go_wp2_with fail
  refine wp_region_noPanic ?_
  refine wp_region_H (Chg (fun j => j = m) wf) (by kernel_rfl) ?_
  have hS0 : (Chg (fun j => j = m) wf) wf.drew := ((Chg.refl _ _).drew)
  obtain ⟨wd, hwd⟩ : ∃ wd, wf.drew = wd := ⟨_, rfl⟩
  rw [hwd] at hS0 ⊢
  refine wpAnyH_takeI (i := 0) (v := ?v1) rfl (by kernel_rfl) (by kernel_rfl) (by kernel_rfl) (fun _ _ _ h => h) (yieldsIf_run rfl (fun w' hw' => ?y1)) hS0 ?_
  case y1 => first | (go_simp; rfl) | (go_simp; done) | rfl
  simp only [Act.put, List.setIfInBounds_toArray, List.set_cons_zero, List.set_cons_succ]
  refine wpAnyH_takeI (i := 1) (v := ?v2) rfl (by kernel_rfl) (by kernel_rfl) (by kernel_rfl) (fun _ _ _ h => h) (yieldsIf_run rfl (fun w' hw' => ?y2)) hS0 ?_
  case y2 => first | (go_simp; rfl) | (go_simp; done) | rfl
  simp only [Act.put, List.setIfInBounds_toArray, List.set_cons_zero, List.set_cons_succ]
  refine wpAnyH_takeI (i := 2) (v := ?v3) rfl (by kernel_rfl) (by kernel_rfl) (by kernel_rfl) (fun _ _ _ h => h) (yieldsIf_run rfl (fun w' hw' => ?y3)) hS0 ?_
  case y3 => first | (go_simp; rfl) | (go_simp; done) | rfl
  simp only [Act.put, List.setIfInBounds_toArray, List.set_cons_zero, List.set_cons_succ]
  refine wpAnyH_takeI (i := 3) (v := .map (some m)) rfl (by kernel_rfl) (by kernel_rfl) (by kernel_rfl) (fun _ _ _ h => h) (yieldsIf_run rfl (fun w' hw' => ?y4)) hS0 ?_
  case y4 => (have hc := (HC.out w' hw').2.1; clear hw'; first | (go_simp; rfl) | (go_simp; done))
  simp only [Act.put, List.setIfInBounds_toArray, List.set_cons_zero, List.set_cons_succ]
  refine wpAnyH_takeI (i := 4) (v := .agg (bvs k.1).toArray) rfl (by kernel_rfl) (by kernel_rfl) (by kernel_rfl) (fun _ _ _ h => h) (yieldsIf_load_mid rfl 30 (.tmp 5) rfl w.heap.size 0 rfl (bvs k.1) _ (fun w' hw' => (HC.out w' hw').1) Try.underlying30 rfl (sizeId k)) hS0 ?_
  simp only [Act.put, List.setIfInBounds_toArray, List.set_cons_zero, List.set_cons_succ]
  refine wpAnyH_takeI (i := 5) (v := ?v5) rfl (by kernel_rfl) (by kernel_rfl) (by kernel_rfl) (fun _ _ _ h => h) (yieldsIf_run rfl (fun w' hw' => ?y5)) hS0 ?_
  case y5 => first | (go_simp; rfl) | (go_simp; done) | rfl
  simp only [Act.put, List.setIfInBounds_toArray, List.set_cons_zero, List.set_cons_succ]
  refine wpAnyH_takeI (i := 6) (v := ?v6) rfl (by kernel_rfl) (by kernel_rfl) (by kernel_rfl) (fun _ _ _ h => h) (yieldsIf_run rfl (fun w' hw' => ?y6)) hS0 ?_
  case y6 => first | (go_simp; rfl) | (go_simp; done) | rfl
  simp only [Act.put, List.setIfInBounds_toArray, List.set_cons_zero, List.set_cons_succ]
  refine wpAnyH_takeI (i := 7) (v := ?v7) rfl (by kernel_rfl) (by kernel_rfl) (by kernel_rfl) (fun _ _ _ h => h) (yieldsIf_run rfl (fun w' hw' => ?y7)) hS0 ?_
  case y7 => first | (go_simp; rfl) | (go_simp; done) | rfl
  simp only [Act.put, List.setIfInBounds_toArray, List.set_cons_zero, List.set_cons_succ]
  refine wpAnyH_takeI (i := 8) (v := ?v8) rfl (by kernel_rfl) (by kernel_rfl) (by kernel_rfl) (fun _ _ _ h => h) (yieldsIf_run rfl (fun w' hw' => ?y8)) hS0 ?_
  case y8 => first | (go_simp; rfl) | (go_simp; done) | rfl
  simp only [Act.put, List.setIfInBounds_toArray, List.set_cons_zero, List.set_cons_succ]
  refine wpAnyH_takeI (i := 9) (v := ?v9) rfl (by kernel_rfl) (by kernel_rfl) (by kernel_rfl) (fun _ _ _ h => h) (yieldsIf_run rfl (fun w' hw' => ?y9)) hS0 ?_
  case y9 => first | (go_simp; rfl) | (go_simp; done) | rfl
  simp only [Act.put, List.setIfInBounds_toArray, List.set_cons_zero, List.set_cons_succ]
  refine wpAnyH_takeI (i := 10) (v := .int .i64 nx) rfl (by kernel_rfl) (by kernel_rfl) (by kernel_rfl) (fun _ _ _ h => h) (yieldsIf_run rfl (fun w' hw' => ?y10)) hS0 ?_
  case y10 => (have hc := (HC.out w' hw').2.2; clear hw'; first | (go_simp; rfl) | (go_simp; done))
  simp only [Act.put, List.setIfInBounds_toArray, List.set_cons_zero, List.set_cons_succ]
  refine wpAnyH_takeI (i := 11) (v := ?v11) rfl (by kernel_rfl) (by kernel_rfl) (by kernel_rfl) (fun _ _ _ h => h) (yieldsIf_run rfl (fun w' hw' => ?y11)) hS0 ?_
  case y11 => first | (go_simp; rfl) | (go_simp; done) | rfl
  simp only [Act.put, List.setIfInBounds_toArray, List.set_cons_zero, List.set_cons_succ]
  obtain ⟨wm, hrun, hkm, hcm⟩ := (HK.out wd hS0 hwd.symm).put (t := 76) Try.underlying76 k (artv ⟨k, t, d, nx⟩) HNK.out
  have hrun : (Instr.mapUpdate 76 (.map (some m)) (.agg (bvs k.1).toArray) (.agg #[.string t, .int .i64 d, .int .i64 nx])).run Try.prog wd = .ok () wm := hrun
  refine wpAnyH_do (i := 12) (by kernel_rfl) rfl rfl (fun K hK => ?_)
  go_simp
  have hS1 := hS0.trans hcm (fun i hi => .inl hi)
  refine hK _ _ hS1 ?_
  clear hK K hrun
  try simp only [Act.put, List.setIfInBounds_toArray, List.set_cons_zero, List.set_cons_succ]
  refine wpAnyH_done (by kernel_rfl) ?_ _
  refine NoPanic.normal ?_
  have hbm := (hS1.block b (by have := (Array.getElem?_eq_some_iff.1 HHB.out).1; exact this) (fun e => HNE.out e.symm)).trans HHB.out
  have hc2 : wm.cell? ⟨b, 2, none⟩ = some (.int .i64 nx) := by rw [cell_of_row _ _ _ _ _ _ hbm]; rfl
  have hc1 : wm.cell? ⟨b, 1, none⟩ = some (.int .i64 N) := by rw [cell_of_row _ _ _ _ _ _ hbm]; rfl
  have hfz2 : wm.frozen? ⟨b, 2, none⟩ = false := frozen_of_row _ _ _ _ _ hbm
  have hfz1 : wm.frozen? ⟨b, 1, none⟩ = false := frozen_of_row _ _ _ _ _ hbm
  have HKM := Lib.hid hkm
  have HS1 := Lib.hid hS1
  have HBM := Lib.hid hbm
  clear hkm hS1 hbm hcm hwd hS0
  go_wp2_with fail
  have f1 := setCell4 (x' := B) (y' := N) (z' := nx + 1) 2 (nx + 1) HBM.out rfl
  have f2 := setCell4 (x' := B) (y' := N + (t.size : Int)) (z' := nx + 1) 1 (N + (t.size : Int)) f1 rfl
  have hne : ¬ m = b := HNE.out
  have g2 := (HKM.out.chg (F := fun j => j = b) (Chg.setCell wm (a := ⟨b, 2, none⟩) (.int .i64 (nx + 1)) rfl) hne).chg (F := fun j => j = b) (Chg.setCell _ (a := ⟨b, 1, none⟩) (.int .i64 (N + (t.size : Int))) rfl) hne
  have hch : Chg (fun j => j = b ∨ j = m) w ((wm.setCell ⟨b, 2, none⟩ (.int .i64 (nx + 1))).setCell ⟨b, 1, none⟩ (.int .i64 (N + (t.size : Int)))) :=
    (((Chg.of_below HBF.out).trans (HS1.out.mono (fun _ e => .inr e)) (fun _ e => .inl e)).trans (Chg.setCell wm (a := ⟨b, 2, none⟩) (.int .i64 (nx + 1)) (.inl rfl)) (fun _ e => .inl e)).trans (Chg.setCell _ (a := ⟨b, 1, none⟩) (.int .i64 (N + (t.size : Int))) (.inl rfl)) (fun _ e => .inl e)
  have e1 : (S.add k t d).kl = S.kl ++ [(k, artv ⟨k, t, d, nx⟩)] := by rw [← HNX.out]; unfold SpD.kl SpD.add; simp
  have e2 : ((S.add k t d).size : Int) = N + (t.size : Int) := by rw [size_add, Int.natCast_add, HNN.out]
  refine bodyPost_ret (v := .int .i64 0) (by simp [results, Try.results14, go_sem]) rfl ⟨rfl, ⟨?_, ?_⟩, hch⟩
  · show (_ : Option Obj) = some (Obj.cells #[.int .i64 S.budget, .int .i64 ((S.add k t d).size : Int), .int .i64 (S.next + 1), .map (some m)] 78 (0, 0))
    rw [e2, HBB.out, HNX.out]
    exact f2
  · rw [e1]
    exact g2

def SpD.del (S : SpD) (k : IdB) : SpD := ⟨S.budget, S.next, S.list.eraseP (fun a => decide (a.id = k))⟩
theorem erase_at {S : SpD} {k : IdB} {a : ArtD} (h : S.find k = some a) : ∃ j, S.list[j]? = some a ∧ S.list.eraseP (fun a => decide (a.id = k)) = S.list.eraseIdx j := by
  unfold SpD.find at h
  rw [List.eraseP_eq_eraseIdx]
  cases hj : S.list.findIdx? (fun a => decide (a.id = k)) with
  | none =>
    rw [List.findIdx?_eq_none_iff] at hj
    rw [List.find?_eq_none.2 (fun x hx => by rw [hj x hx]; decide)] at h
    cases h
  | some j =>
    refine ⟨j, ?_, rfl⟩
    rw [List.find?_eq_some_iff_getElem] at h
    obtain ⟨h1, i, hi, h2, h3⟩ := h
    rw [List.findIdx?_eq_some_iff_getElem] at hj
    obtain ⟨h4, h5, h6⟩ := hj
    have hij : i = j := by
      rcases Nat.lt_trichotomy i j with hlt | he | hlt
      · have h7 := h6 i hlt
        rw [h2, h1] at h7
        exact absurd h7 (by decide)
      · exact he
      · have h7 := h3 j hlt
        rw [h5] at h7
        cases h7
    subst hij
    rw [List.getElem?_eq_getElem hi, h2]
theorem kl_del {S : SpD} {k : IdB} {j : Nat} (h : S.list.eraseP (fun a => decide (a.id = k)) = S.list.eraseIdx j) : (S.del k).kl = S.kl.eraseIdx j := by
  have her : ∀ {α β : Type} (g : α → β) (l : List α) (i : Nat), (l.eraseIdx i).map g = (l.map g).eraseIdx i := fun g l i => by
    induction l generalizing i with
    | nil => simp
    | cons x l ih => cases i <;> simp [ih]
  unfold SpD.kl SpD.del
  simp only
  rw [h, her]
theorem size_eraseIdx : ∀ (l : List ArtD) {j : Nat} {a : ArtD}, l[j]? = some a → ((l.eraseIdx j).map (·.text.size)).sum + a.text.size = (l.map (·.text.size)).sum
  | [], j, a, h => by cases h
  | x :: l, 0, a, h => by
    simp only [List.getElem?_cons_zero, Option.some.injEq] at h
    subst h
    simp [Nat.add_comm]
  | x :: l, j + 1, a, h => by
    rw [List.getElem?_cons_succ] at h
    have ih := size_eraseIdx l h
    simp only [List.eraseIdx_cons_succ, List.map_cons, List.sum_cons]
    omega
theorem size_del {S : SpD} {k : IdB} {a : ArtD} (h : S.find k = some a) : (S.del k).size + a.text.size = S.size := by
  obtain ⟨j, h1, h2⟩ := erase_at h
  unfold SpD.size SpD.del
  simp only
  rw [h2]
  exact size_eraseIdx _ h1
theorem Ok.del {S : SpD} {k : IdB} (h : S.Ok) : (S.del k).Ok := by
  have hs : (S.del k).list.Sublist S.list := List.eraseP_sublist
  refine ⟨h.b0, h.b1, ?_, h.n0, h.pl.sublist hs, fun a ha => h.pn a (hs.mem ha), fun a ha => h.tx a (hs.mem ha), fun a ha => h.ar a (hs.mem ha)⟩
  cases hf : S.find k with
  | some a =>
    have h1 := size_del hf
    have h2 := h.sz
    show ((S.del k).size : Int) ≤ S.budget
    omega
  | none =>
    have h1 := find_spec.2 hf
    have h2 : (S.del k).list = S.list := List.eraseP_of_forall_not (fun a ha => by simpa using h1 a ha)
    have h3 := h.sz
    show ((S.del k).size : Int) ≤ S.budget
    unfold SpD.size
    rw [h2]
    exact h3
set_option maxRecDepth 100000 in
set_option maxHeartbeats 2000000 in
theorem Remove_any {w : World} {b m : Nat} {S : SpD} (h : SpAt w b m S) (hok : S.Ok) (k : IdB) :
    Calls Try.prog 17 #[.pointer (some ⟨b, 0, none⟩), .agg (bvs k.1).toArray] w (PutPost w b m S (if (S.find k).isSome = true then 0 else 8) (if (S.find k).isSome = true then S.del k else S)) := by
  obtain ⟨w1, hw1⟩ : ∃ w1, w.alloc (.cells (bvs k.1).toArray 30) = w1 := ⟨_, rfl⟩
  have hb1 : Below w.heap.size w w1 := hw1 ▸ (Below.refl _ _).alloc (Nat.le_refl _) _
  have hx1 : w1.heap[w.heap.size]? = some (.cells (bvs k.1).toArray 30 (0, 0)) := by rw [← hw1]; exact heap_alloc_new _ _
  have hg := Get_any (h.below hb1) k
  have HB1 := Lib.hid hb1
  have HH := Lib.hid h
  have HX := Lib.hid (range_block hx1)
  have HX1 := Lib.hid hx1
  have HSI := Lib.hid (sizeId k)
  rcases hf : S.find k with _ | A
  · rw [hf] at hg
    rw [show (none : Option ArtD).isSome = false from rfl, if_neg (by decide)] at hg
    rw [show (none : Option ArtD).isSome = false from rfl, if_neg (by decide), if_neg (by decide)]
    obtain ⟨T0, hT0⟩ : ∃ T0, ((none : Option ArtD).getD zA).text = T0 := ⟨_, rfl⟩
    rw [hT0] at hg
    have HG := Lib.hid hg
    clear hg h hok hf hT0 hb1 hx1
    go_enter Try.func17, Try.ntmps17
    go_wp2_with (with_reducible refine wpList_load_mid rfl 30 _ rfl w.heap.size (0) rfl (bvs k.1) _ HX.out Try.underlying30 rfl HSI.out ?_)
    refine HG.out.mono ?_
    rintro e w2 ⟨rfl, hb2⟩
    have HB2 := Lib.hid (HB1.out.trans (hb2.mono HB1.out.size))
    clear hb2
    go_wp2_with fail
    exact bodyPost_ret (v := .int .i64 8) (by simp [results, Try.results17, go_sem]) rfl (PutPost.same HH.out HB2.out)
  · rw [hf] at hg
    rw [show (some A).isSome = true from rfl, if_pos rfl] at hg
    rw [show (some A).isSome = true from rfl, if_pos rfl, if_pos rfl]
    have hg : Calls Try.prog 19 #[.pointer (some ⟨b, 0, none⟩), .agg (bvs k.1).toArray] w1 fun e w' => e = .returned (.tuple #[.string A.text, .int .i64 0]) ∧ Below w1.heap.size w1 w' := hg
    obtain ⟨j, hj, hej⟩ := erase_at hf
    have hsz := size_del hf
    obtain ⟨B, hB⟩ : ∃ B, S.budget = B := ⟨_, rfl⟩
    obtain ⟨nx, hnx⟩ : ∃ nx, S.next = nx := ⟨_, rfl⟩
    obtain ⟨N, hN⟩ : ∃ N : Int, (S.size : Int) = N := ⟨_, rfl⟩
    obtain ⟨N', hN'⟩ : ∃ N' : Int, ((S.del k).size : Int) = N' := ⟨_, rfl⟩
    obtain ⟨tx, htx⟩ : ∃ tx, A.text = tx := ⟨_, rfl⟩
    rw [htx] at hg hsz
    have hN1 : N - (tx.size : Int) = N' := by omega
    have hN2 : 0 ≤ N' := by omega
    have hN3 : N ≤ 1073741824 := by have := hok.sz; have := hok.b1; omega
    have HG := Lib.hid hg
    have HJ := Lib.hid hj
    have HEJ := Lib.hid hej
    have HF := Lib.hid hf
    have HBB := Lib.hid hB
    have HNX := Lib.hid hnx
    have HNN := Lib.hid hN
    have HN' := Lib.hid hN'
    clear hg h hok hf hb1 hx1 hj hej hsz hB hnx hN hN' htx
    go_enter Try.func17, Try.ntmps17
    go_wp2_with (with_reducible refine wpList_load_mid rfl 30 _ rfl w.heap.size (0) rfl (bvs k.1) _ HX.out Try.underlying30 rfl HSI.out ?_)
    refine HG.out.mono ?_
    rintro e wf ⟨rfl, hbf⟩
    have HBF := Lib.hid (HB1.out.trans (hbf.mono HB1.out.size))
    have HXF := Lib.hid ((hbf.block _ (Array.getElem?_eq_some_iff.1 HX1.out).1).trans HX1.out)
    clear hbf
    have hAF := HH.out.below HBF.out
    have HHB := Lib.hid (show wf.heap[b]? = some (Obj.cells #[.int .i64 B, .int .i64 N, .int .i64 nx, .map (some m)] 78 (0, 0)) by rw [← HBB.out, ← HNN.out, ← HNX.out]; exact hAF.hb)
    have HNE := Lib.hid hAF.ne
    have hwx : w.heap.size ≠ m := fun e => by have := HH.out.hm.lt; omega
    have HC := Lib.hid (show ∀ w', Chg (fun j => j = m) wf w' → w'.rangeAt w.heap.size 0 (bvs k.1) ∧ w'.cell? ⟨b, 3, none⟩ = some (.map (some m)) from fun w' hw' => by
      have hb' := (hw'.block b hAF.lt (fun e => HNE.out e.symm)).trans HHB.out
      refine ⟨range_block ((hw'.block _ (Array.getElem?_eq_some_iff.1 HXF.out).1 hwx).trans HXF.out), ?_⟩
      rw [cell_of_row _ _ _ _ _ _ hb']
      rfl)
    have HK := Lib.hid hAF.hm
    clear hAF
    go_wp2_with fail
    refine wp_region_noPanic ?_
    refine wp_region_H (Chg (fun j => j = m) wf) (by kernel_rfl) ?_
    have hS0 : (Chg (fun j => j = m) wf) wf.drew := ((Chg.refl _ _).drew)
    obtain ⟨wd, hwd⟩ : ∃ wd, wf.drew = wd := ⟨_, rfl⟩
    rw [hwd] at hS0 ⊢
    have HKD := Lib.hid (HK.out.kept (w' := wd) (by rw [← hwd]; rfl))
    clear hwd
    refine wpAnyH_takeI (i := 0) (v := ?v12) rfl (by kernel_rfl) (by kernel_rfl) (by kernel_rfl) (fun _ _ _ h => h) (yieldsIf_run rfl (fun w' hw' => ?y12)) hS0 ?_
    case y12 => first | (go_simp; rfl) | (go_simp; done) | rfl
    simp only [Act.put, List.setIfInBounds_toArray, List.set_cons_zero, List.set_cons_succ]
    refine wpAnyH_takeI (i := 1) (v := ?v13) rfl (by kernel_rfl) (by kernel_rfl) (by kernel_rfl) (fun _ _ _ h => h) (yieldsIf_run rfl (fun w' hw' => ?y13)) hS0 ?_
    case y13 => first | (go_simp; rfl) | (go_simp; done) | rfl
    simp only [Act.put, List.setIfInBounds_toArray, List.set_cons_zero, List.set_cons_succ]
    refine wpAnyH_takeI (i := 2) (v := ?v14) rfl (by kernel_rfl) (by kernel_rfl) (by kernel_rfl) (fun _ _ _ h => h) (yieldsIf_run rfl (fun w' hw' => ?y14)) hS0 ?_
    case y14 => first | (go_simp; rfl) | (go_simp; done) | rfl
    simp only [Act.put, List.setIfInBounds_toArray, List.set_cons_zero, List.set_cons_succ]
    refine wpAnyH_takeI (i := 3) (v := .map (some m)) rfl (by kernel_rfl) (by kernel_rfl) (by kernel_rfl) (fun _ _ _ h => h) (yieldsIf_run rfl (fun w' hw' => ?y15)) hS0 ?_
    case y15 => (have hc := (HC.out w' hw').2; clear hw'; first | (go_simp; rfl) | (go_simp; done))
    simp only [Act.put, List.setIfInBounds_toArray, List.set_cons_zero, List.set_cons_succ]
    refine wpAnyH_takeI (i := 4) (v := .agg (bvs k.1).toArray) rfl (by kernel_rfl) (by kernel_rfl) (by kernel_rfl) (fun _ _ _ h => h) (yieldsIf_load_mid rfl 30 (.tmp 3) rfl w.heap.size 0 rfl (bvs k.1) _ (fun w' hw' => (HC.out w' hw').1) Try.underlying30 rfl (sizeId k)) hS0 ?_
    simp only [Act.put, List.setIfInBounds_toArray, List.set_cons_zero, List.set_cons_succ]
    obtain ⟨wm, hrun, hkm, hcm⟩ := HKD.out.del (t := 76) Try.underlying76 0 k (j := j) (p := (k, artv A)) (by unfold SpD.kl; rw [List.getElem?_map, HJ.out]; rw [← (find_spec.1 HF.out).2]; rfl) rfl
    have hrun : (Builtin.delete_ #[76, 30] 0 #[.map (some m), .agg (bvs k.1).toArray]).run Try.prog wd = .ok (.tuple #[]) wm := hrun
    refine wpAnyH_do (i := 5) (by kernel_rfl) rfl rfl (fun K hK => ?_)
    go_simp
    have hS1 := hS0.trans hcm (fun i hi => .inl hi)
    refine hK _ _ hS1 ?_
    clear hK K hrun
    try simp only [Act.put, List.setIfInBounds_toArray, List.set_cons_zero, List.set_cons_succ]
    refine wpAnyH_done (by kernel_rfl) ?_ _
    refine NoPanic.normal ?_
    have hbm := (hS1.block b (by have := (Array.getElem?_eq_some_iff.1 HHB.out).1; exact this) (fun e => HNE.out e.symm)).trans HHB.out
    have hc1 : wm.cell? ⟨b, 1, none⟩ = some (.int .i64 N) := by rw [cell_of_row _ _ _ _ _ _ hbm]; rfl
    have hfz1 : wm.frozen? ⟨b, 1, none⟩ = false := frozen_of_row _ _ _ _ _ hbm
    have HKM := Lib.hid hkm
    have HS1 := Lib.hid hS1
    have HBM := Lib.hid hbm
    clear hkm hS1 hbm hcm hS0
    go_wp2_with fail
    have f2 := setCell4 (x' := B) (y' := N') (z' := nx) 1 N' HBM.out rfl
    have hne : ¬ m = b := HNE.out
    have g2 := HKM.out.chg (F := fun j => j = b) (Chg.setCell wm (a := ⟨b, 1, none⟩) (.int .i64 N') rfl) hne
    have hch : Chg (fun j => j = b ∨ j = m) w (wm.setCell ⟨b, 1, none⟩ (.int .i64 N')) :=
      ((Chg.of_below HBF.out).trans (HS1.out.mono (fun _ e => .inr e)) (fun _ e => .inl e)).trans (Chg.setCell wm (a := ⟨b, 1, none⟩) (.int .i64 N') (.inl rfl)) (fun _ e => .inl e)
    refine bodyPost_ret (v := .int .i64 0) (by simp [results, Try.results17, go_sem]) rfl ⟨rfl, ⟨?_, ?_⟩, hch⟩
    · show (_ : Option Obj) = some (Obj.cells #[.int .i64 S.budget, .int .i64 ((S.del k).size : Int), .int .i64 S.next, .map (some m)] 78 (0, 0))
      rw [HN'.out, HBB.out, HNX.out]
      exact f2
    · rw [kl_del HEJ.out]
      exact g2
end Go.Proofs.Ytnmdgjodbikndaa

namespace Go.Proofs.Ytnmdgjodbikndaa
open Go.RowKit
set_option linter.unusedVariables false
set_option linter.unusedSimpArgs false

def readC (S : SpD) (k : IdB) (f c : Int) : Int := match S.find k with
  | none => 8
  | some a => if f < 0 ∨ (a.text.size : Int) < f ∨ c < 0 then 2 else 0
def readT (t : ByteArray) (f c : Int) : ByteArray := (t.extract f.toNat t.size).extract 0 (min c.toNat (t.size - f.toNat))
set_option maxRecDepth 100000 in
set_option maxHeartbeats 2000000 in
theorem Read_any {w : World} {b m : Nat} {S : SpD} (h : SpAt w b m S) (hok : S.Ok) (k : IdB) (f c : Int) :
    Calls Try.prog 15 #[.pointer (some ⟨b, 0, none⟩), .agg (bvs k.1).toArray, .int .i64 f, .int .i64 c] w fun e w' => e = .returned (.tuple #[.string (if readC S k f c = 0 then readT ((S.find k).getD zA).text f c else ⟨#[]⟩), .int .i64 (readC S k f c)]) ∧ Below w.heap.size w w' := by
  obtain ⟨w1, hw1⟩ : ∃ w1, w.alloc (.cells (bvs k.1).toArray 30) = w1 := ⟨_, rfl⟩
  have hb1 : Below w.heap.size w w1 := hw1 ▸ (Below.refl _ _).alloc (Nat.le_refl _) _
  have hx1 : w1.heap[w.heap.size]? = some (.cells (bvs k.1).toArray 30 (0, 0)) := by rw [← hw1]; exact heap_alloc_new _ _
  have hg := Get_any (h.below hb1) k
  have HB1 := Lib.hid hb1
  have HX := Lib.hid (range_block hx1)
  have HSI := Lib.hid (sizeId k)
  rcases hf : S.find k with _ | A
  · have hc : readC S k f c = 8 := by unfold readC; rw [hf]
    rw [hf] at hg
    rw [hc, if_neg (by decide)]
    rw [show (none : Option ArtD).isSome = false from rfl, if_neg (by decide)] at hg
    obtain ⟨T0, hT0⟩ : ∃ T0, ((none : Option ArtD).getD zA).text = T0 := ⟨_, rfl⟩
    rw [hT0] at hg
    have HG := Lib.hid hg
    clear hg h hok hf hc hT0 hb1 hx1
    go_enter Try.func15, Try.ntmps15
    go_wp2_with (with_reducible refine wpList_load_mid rfl 30 _ rfl w.heap.size (0) rfl (bvs k.1) _ HX.out Try.underlying30 rfl HSI.out ?_)
    refine HG.out.mono ?_
    rintro e w2 ⟨rfl, hb2⟩
    have HB2 := Lib.hid (HB1.out.trans (hb2.mono HB1.out.size))
    clear hb2
    go_wp2_with fail
    exact bodyPost_ret (v := .tuple #[.string ⟨#[]⟩, .int .i64 8]) (by simp [results, Try.results15, go_sem]) rfl ⟨rfl, HB2.out⟩
  · have hc : readC S k f c = if f < 0 ∨ (A.text.size : Int) < f ∨ c < 0 then 2 else 0 := by unfold readC; rw [hf]
    have htx := hok.tx A (find_spec.1 hf).1
    rw [hf] at hg
    rw [show ((some A).getD zA).text = A.text from rfl]
    rw [show (some A).isSome = true from rfl, if_pos rfl] at hg
    have hg : Calls Try.prog 19 #[.pointer (some ⟨b, 0, none⟩), .agg (bvs k.1).toArray] w1 fun e w' => e = .returned (.tuple #[.string A.text, .int .i64 0]) ∧ Below w1.heap.size w1 w' := hg
    obtain ⟨t, ht⟩ : ∃ t, A.text = t := ⟨_, rfl⟩
    obtain ⟨C, hC⟩ : ∃ C, readC S k f c = C := ⟨_, rfl⟩
    rw [hC] at hc ⊢
    rw [ht] at hg hc htx ⊢
    obtain ⟨T, hT⟩ : ∃ T, (if C = 0 then readT t f c else ⟨#[]⟩) = T := ⟨_, rfl⟩
    rw [hT]
    have HT := Lib.hid hT
    clear hT
    have HG := Lib.hid hg
    have HC := Lib.hid hc
    clear hg h hok hf hc hC hb1 hx1 ht
    have ht2 : t.size ≤ 65536 := htx.2
    clear htx
    go_enter Try.func15, Try.ntmps15
    go_wp2_with (with_reducible refine wpList_load_mid rfl 30 _ rfl w.heap.size (0) rfl (bvs k.1) _ HX.out Try.underlying30 rfl HSI.out ?_)
    refine HG.out.mono ?_
    rintro e w2 ⟨rfl, hb2⟩
    have HB2 := Lib.hid (HB1.out.trans (hb2.mono HB1.out.size))
    clear hb2
    by_cases h1 : f < 0
    · obtain rfl : 2 = C := by rw [HC.out, if_pos (.inl h1)]
      obtain rfl : ⟨#[]⟩ = T := by rw [← HT.out, if_neg (by decide)]
      clear HC HT
      go_wp2_with fail
      exact bodyPost_ret (v := .tuple #[.string ⟨#[]⟩, .int .i64 2]) (by simp [results, Try.results15, go_sem]) rfl ⟨rfl, HB2.out⟩
    by_cases h2 : (t.size : Int) < f
    · obtain rfl : 2 = C := by rw [HC.out, if_pos (.inr (.inl h2))]
      obtain rfl : ⟨#[]⟩ = T := by rw [← HT.out, if_neg (by decide)]
      clear HC HT
      go_wp2_with fail
      exact bodyPost_ret (v := .tuple #[.string ⟨#[]⟩, .int .i64 2]) (by simp [results, Try.results15, go_sem]) rfl ⟨rfl, HB2.out⟩
    by_cases h3 : c < 0
    · obtain rfl : 2 = C := by rw [HC.out, if_pos (.inr (.inr h3))]
      obtain rfl : ⟨#[]⟩ = T := by rw [← HT.out, if_neg (by decide)]
      clear HC HT
      go_wp2_with fail
      exact bodyPost_ret (v := .tuple #[.string ⟨#[]⟩, .int .i64 2]) (by simp [results, Try.results15, go_sem]) rfl ⟨rfl, HB2.out⟩
    obtain rfl : 0 = C := by rw [HC.out, if_neg (by rintro (h | h | h); exact h1 h; exact h2 h; exact h3 h)]
    clear HC
    have HT := Lib.hid (show readT t f c = T by rw [← HT.out, if_pos rfl])
    obtain ⟨fn, rfl⟩ := Int.eq_ofNat_of_zero_le (show 0 ≤ f by omega)
    obtain ⟨cn, rfl⟩ := Int.eq_ofNat_of_zero_le (show 0 ≤ c by omega)
    by_cases h4 : cn ≤ t.size - fn
    · have h4I : ¬ (((t.size - fn : Nat) : Int) < (cn : Int)) := by omega
      have h4J : (cn : Int) ≤ ((t.size - fn : Nat) : Int) := by omega
      have hTT : (t.extract fn t.size).extract 0 cn = T := by
        rw [← HT.out]
        unfold readT
        rw [Int.toNat_natCast, Int.toNat_natCast, Nat.min_eq_left h4]
      have HTT := Lib.hid hTT
      clear hTT
      go_wp2_with fail
      all_goals first | omega | exact bodyPost_ret (v := .tuple #[.string ((t.extract fn t.size).extract 0 cn), .int .i64 0]) (by simp [results, Try.results15, go_sem]) rfl ⟨by rw [HTT.out], HB2.out⟩
    · have h4I : (((t.size - fn : Nat) : Int) < (cn : Int)) := by omega
      have h4J : ¬ (cn : Int) ≤ ((t.size - fn : Nat) : Int) := by omega
      have hTT : (t.extract fn t.size).extract 0 (t.size - fn) = T := by
        rw [← HT.out]
        unfold readT
        rw [Int.toNat_natCast, Int.toNat_natCast, Nat.min_eq_right (by omega)]
      have HTT := Lib.hid hTT
      clear hTT
      go_wp2_with fail
      all_goals first | omega | exact bodyPost_ret (v := .tuple #[.string ((t.extract fn t.size).extract 0 (t.size - fn)), .int .i64 0]) (by simp [results, Try.results15, go_sem]) rfl ⟨by rw [HTT.out], HB2.out⟩
theorem Read_nil {w : World} (k : IdB) (f c : Int) : Calls Try.prog 15 #[.pointer none, .agg (bvs k.1).toArray, .int .i64 f, .int .i64 c] w fun e w' => e = .returned (.tuple #[.string ⟨#[]⟩, .int .i64 1]) ∧ Below w.heap.size w w' := by
  obtain ⟨w1, hw1⟩ : ∃ w1, w.alloc (.cells (bvs k.1).toArray 30) = w1 := ⟨_, rfl⟩
  have hb1 : Below w.heap.size w w1 := hw1 ▸ (Below.refl _ _).alloc (Nat.le_refl _) _
  have hx1 : w1.heap[w.heap.size]? = some (.cells (bvs k.1).toArray 30 (0, 0)) := by rw [← hw1]; exact heap_alloc_new _ _
  have HG := Lib.hid (Get_nil (w := w1) k)
  have HB1 := Lib.hid hb1
  have HX := Lib.hid (range_block hx1)
  have HSI := Lib.hid (sizeId k)
  clear hb1 hx1
  go_enter Try.func15, Try.ntmps15
  go_wp2_with (with_reducible refine wpList_load_mid rfl 30 _ rfl w.heap.size (0) rfl (bvs k.1) _ HX.out Try.underlying30 rfl HSI.out ?_)
  refine HG.out.mono ?_
  rintro e w2 ⟨rfl, hb2⟩
  have HB2 := Lib.hid (HB1.out.trans (hb2.mono HB1.out.size))
  clear hb2
  go_wp2_with fail
  exact bodyPost_ret (v := .tuple #[.string ⟨#[]⟩, .int .i64 1]) (by simp [results, Try.results15, go_sem]) rfl ⟨rfl, HB2.out⟩
end Go.Proofs.Ytnmdgjodbikndaa
