/- DiskNil. -/
import Derived.Test.YtkklbmnbjmicnaaNil1
namespace Go.Proofs.Ytkklbmnbjmicnaa
open Go.RowKit Go.Shelf
set_option linter.unusedVariables false
set_option linter.unusedSimpArgs false

def encNo (x : Empty) : Array Value := nomatch x

theorem nil_stops (g n₀ : Nat) (w : World) (hg : g < w.heap.size) (hc : w.cell? ⟨g, 0, none⟩ = some (.pointer none)) :
    SeqStopsK Fence.wide 3 Try.prog 55 #[.pointer (some ⟨g, 0, none⟩)] encNo (Below n₀) (fun ys => ys = []) (fun _ => False) 0 w := fun lp J Jx W hW _ _ hY h0 => by
  refine (callsIn_wide (n := 3)).2 ((sparse1_nil (w := W) (.func (.yield lp) #[] #[]) g ((hW.cell (p := ⟨g, 0, none⟩) hg).trans hc)).mono ?_)
  rintro e W' ⟨he, hw⟩
  exact ⟨he, .inl ⟨[], rfl, hw ▸ h0⟩⟩

def oneDS (l : List UInt8) : DS := { dur := List.replicate 2 zeros, pend := [(0, l)], ops := 1, limit := none, down := false }
theorem write_one (l : List UInt8) (h : l.length = 256) : (newDS 2).write 0 l = (oneDS l, 0) := by simp [DS.write, newDS, DS.has, DS.operate, h, oneDS]
theorem read_oneE (l : List UInt8) : (oneDS l).readE 0 = 0 := by simp [DS.readE, oneDS, DS.has]
theorem read_oneB (l : List UInt8) (h : l.length = 256) : (oneDS l).readB 0 = l := by simp [DS.readB, oneDS, DS.has, DS.visible, visP]

set_option maxRecDepth 100000 in
set_option maxHeartbeats 2000000 in
theorem DiskNil_any {w : World} (o : OpD) (cv : Value) (hcv : BytesAt w (fun k => k < w.heap.size) cv o.cs) :
    Calls Try.prog 11 #[.agg #[.int .i64 o.kind, .int .i64 o.s, .int .i64 o.a, .int .u8 (o.f.toNat : Int), .int .u8 (o.t.toNat : Int), cv]] w fun e w' => e = .returned (.bool true) ∧ Below w.heap.size w w' := by
  obtain ⟨ca, cc, rfl, _⟩ := hcv
  obtain ⟨w1, hw1⟩ : ∃ w1, w.alloc (.cells #[.int .i64 o.kind, .int .i64 o.s, .int .i64 o.a, .int .u8 (o.f.toNat : Int), .int .u8 (o.t.toNat : Int), .slice ca o.cs.length cc] 61) = w1 := ⟨_, rfl⟩
  have n1 : w1.heap[w.heap.size]? = some (.cells #[.int .i64 o.kind, .int .i64 o.s, .int .i64 o.a, .int .u8 (o.f.toNat : Int), .int .u8 (o.t.toNat : Int), .slice ca o.cs.length cc] 61 (0, 0)) := by rw [← hw1]; exact heap_alloc_new w _
  have hb1 : Below w.heap.size w w1 := hw1 ▸ (Below.refl _ _).alloc (Nat.le_refl _) _
  have hs1 : w1.heap.size = w.heap.size + 1 := by rw [← hw1, World.size_alloc]
  obtain ⟨w2, hw2⟩ : ∃ w2, w1.alloc (.cells #[.bool false] 4) = w2 := ⟨_, rfl⟩
  have n2 : w2.heap[w.heap.size + 1]? = some (.cells #[.bool false] 4 (0, 0)) := by rw [← hw2, ← hs1]; exact heap_alloc_new w1 _
  have hb12 : Below w1.heap.size w1 w2 := hw2 ▸ (Below.refl _ _).alloc (Nat.le_refl _) _
  have n1' : w2.heap[w.heap.size]? = _ := (hb12.block _ (by omega)).trans n1
  have hs2 : w2.heap.size = w.heap.size + 2 := by rw [← hw2, World.size_alloc, hs1]
  have hb2 : Below w.heap.size w w2 := hb1.trans (hb12.mono (by omega))
  have HN1 := Lib.hid n1'
  have HN2 := Lib.hid n2
  have HB2 := Lib.hid hb2
  have HS2 := Lib.hid hs2
  clear n1 n1' n2 hb1 hb12 hb2
  refine (callsIn_wide (n := 4)).1 ?_
  refine callsIn_of_wp_marks Try.func11 rfl trivial ?_ rfl
  simp only [Try.ntmps11, List.size_toArray, List.length_cons, List.length_nil, Nat.reduceAdd, Nat.reduceSub, Array.replicate_succ, Array.replicate_zero, List.push_toArray, List.append_toArray, List.nil_append, List.cons_append]
  refine wpIn_wide.2 ?_
  go_wp2_with (rw [hw1, hw2])
  clear hw1 hw2 hs1 hs2
  refine (known_any _).mono ?_
  rintro e w3 ⟨rfl, hb3⟩
  have n1 := (hb3.block w.heap.size (by have := HS2.out; omega)).trans HN1.out
  obtain ⟨o0, o1, o2, o3, o4, o5, of⟩ := cells6 n1
  go_wp2_with fail
  refine (SetLimit_none o.a).mono ?_
  rintro e w4 ⟨⟨_, rfl⟩, hb4⟩
  go_wp2_with fail
  refine (Fail_none).mono ?_
  rintro e w5 ⟨⟨_, rfl⟩, hb5⟩
  have hb35 : Below w3.heap.size w3 w5 := hb4.trans (hb5.mono hb4.size)
  clear o0 o1 o2 o3 o4 o5 of
  obtain ⟨o0, o1, o2, o3, o4, o5, of⟩ := cells6 ((hb35.block _ (Array.getElem?_eq_some_iff.1 n1).1).trans n1)
  go_wp2_with fail
  refine (Read_none o.s).mono ?_
  rintro e wp ⟨rfl, hb6⟩
  have hb2p : Below w2.heap.size w2 wp := (hb3.trans (hb35.mono hb3.size)).trans (hb6.mono (hb3.trans (hb35.mono hb3.size)).size)
  clear o0 o1 o2 o3 o4 o5 of n1 hb3 hb4 hb5 hb35 hb6
  have hnp := (hb2p.block w.heap.size (by have := HS2.out; omega)).trans HN1.out
  have hlp := (Array.getElem?_eq_some_iff.1 hnp).1
  have HN := Lib.hid hnp
  have HL := Lib.hid hlp
  have HB2P := Lib.hid hb2p
  clear hnp hlp hb2p
  go_wp2_with fail
  refine wp_region_noPanic ?_
  refine wp_region_G [] (fun w' => Below wp.heap.size wp w') (by kernel_rfl) ?_
  have hS0 : (fun w' => Below wp.heap.size wp w') wp.drew := (Below.refl _ _).drew
  refine wpAnyG_take (i := 0) (v := ?v1) rfl (by kernel_rfl) (by kernel_rfl) (by kernel_rfl) (by kernel_rfl) (fun _ _ _ h => h) (yieldsIf_run rfl (fun w' hw' => ?y1)) hS0 ?_
  case y1 => first | (go_simp; rfl) | (go_simp; done) | rfl
  simp only [Act.put, List.setIfInBounds_toArray, List.set_cons_zero, List.set_cons_succ]
  refine wpAnyG_take (i := 1) (v := ?v2) rfl (by kernel_rfl) (by kernel_rfl) (by kernel_rfl) (by kernel_rfl) (fun _ _ _ h => h) (yieldsIf_run rfl (fun w' hw' => ?y2)) hS0 ?_
  case y2 => first | (go_simp; rfl) | (go_simp; done) | rfl
  simp only [Act.put, List.setIfInBounds_toArray, List.set_cons_zero, List.set_cons_succ]
  refine wpAnyG_take (i := 2) (v := ?v3) rfl (by kernel_rfl) (by kernel_rfl) (by kernel_rfl) (by kernel_rfl) (fun _ _ _ h => h) (yieldsIf_run rfl (fun w' hw' => ?y3)) hS0 ?_
  case y3 => first | (go_simp; rfl) | (go_simp; done) | rfl
  simp only [Act.put, List.setIfInBounds_toArray, List.set_cons_zero, List.set_cons_succ]
  refine wpAnyG_take (i := 3) (v := ?v4) rfl (by kernel_rfl) (by kernel_rfl) (by kernel_rfl) (by kernel_rfl) (fun _ _ _ h => h) (yieldsIf_run rfl (fun w' hw' => ?y4)) hS0 ?_
  case y4 => first | (go_simp; rfl) | (go_simp; done) | rfl
  simp only [Act.put, List.setIfInBounds_toArray, List.set_cons_zero, List.set_cons_succ]
  refine wpAnyG_take (i := 4) (v := ?v5) rfl (by kernel_rfl) (by kernel_rfl) (by kernel_rfl) (by kernel_rfl) (fun _ _ _ h => h) (yieldsIf_want rfl (fun w' hw' => ?y5)) hS0 ?_
  case y5 => first | (go_simp; rfl) | (go_simp; done) | rfl
  simp only [Act.put, List.setIfInBounds_toArray, List.set_cons_zero, List.set_cons_succ]
  refine wpAnyG_take (i := 5) (v := ?v6) rfl (by kernel_rfl) (by kernel_rfl) (by kernel_rfl) (by kernel_rfl) (fun _ _ _ h => h) (yieldsIf_want rfl (fun w' hw' => ?y6)) hS0 ?_
  case y6 => first | (go_simp; rfl) | (go_simp; done) | rfl
  simp only [Act.put, List.setIfInBounds_toArray, List.set_cons_zero, List.set_cons_succ]
  refine wpAnyG_take (i := 6) (v := ?v7) rfl (by kernel_rfl) (by kernel_rfl) (by kernel_rfl) (by kernel_rfl) (fun _ _ _ h => h) (yieldsIf_run rfl (fun w' hw' => ?y7)) hS0 ?_
  case y7 => first | (go_simp; rfl) | (go_simp; done) | rfl
  simp only [Act.put, List.setIfInBounds_toArray, List.set_cons_zero, List.set_cons_succ]
  refine wpAnyG_take (i := 7) (v := ?v8) rfl (by kernel_rfl) (by kernel_rfl) (by kernel_rfl) (by kernel_rfl) (fun _ _ _ h => h) (yieldsIf_run rfl (fun w' hw' => ?y8)) hS0 ?_
  case y8 => first | (go_simp; rfl) | (go_simp; done) | rfl
  simp only [Act.put, List.setIfInBounds_toArray, List.set_cons_zero, List.set_cons_succ]
  refine wpAnyG_take (i := 8) (v := ?v9) rfl (by kernel_rfl) (by kernel_rfl) (by kernel_rfl) (by kernel_rfl) (fun _ _ _ h => h) (yieldsIf_want rfl (fun w' hw' => ?y9)) hS0 ?_
  case y9 => first | (go_simp; rfl) | (go_simp; done) | rfl
  simp only [Act.put, List.setIfInBounds_toArray, List.set_cons_zero, List.set_cons_succ]
  refine wpAnyG_take (i := 9) (v := ?v10) rfl (by kernel_rfl) (by kernel_rfl) (by kernel_rfl) (by kernel_rfl) (fun _ _ _ h => h) (yieldsIf_want rfl (fun w' hw' => ?y10)) hS0 ?_
  case y10 => first | (go_simp; rfl) | (go_simp; done) | rfl
  simp only [Act.put, List.setIfInBounds_toArray, List.set_cons_zero, List.set_cons_succ]
  refine wpAnyG_take (i := 10) (v := ?v11) rfl (by kernel_rfl) (by kernel_rfl) (by kernel_rfl) (by kernel_rfl) (fun _ _ _ h => h) (yieldsIf_want rfl (fun w' hw' => ?y11)) hS0 ?_
  case y11 => (obtain ⟨o0, o1, o2, o3, o4, o5, _⟩ := cells6 ((hw'.block _ HL.out).trans HN.out); clear hw'; first | (go_simp; rfl) | (go_simp; done))
  simp only [Act.put, List.setIfInBounds_toArray, List.set_cons_zero, List.set_cons_succ]
  refine wpAnyG_take (i := 11) (v := ?v12) rfl (by kernel_rfl) (by kernel_rfl) (by kernel_rfl) (by kernel_rfl) (fun _ _ _ h => h) (yieldsIf_want rfl (fun w' hw' => ?y12)) hS0 ?_
  case y12 => first | (go_simp; rfl) | (go_simp; done) | rfl
  simp only [Act.put, List.setIfInBounds_toArray, List.set_cons_zero, List.set_cons_succ]
  refine wpAnyG_take (i := 12) (v := ?v13) rfl (by kernel_rfl) (by kernel_rfl) (by kernel_rfl) (by kernel_rfl) (fun _ _ _ h => h) (yieldsIf_want rfl (fun w' hw' => ?y13)) hS0 ?_
  case y13 => (obtain ⟨o0, o1, o2, o3, o4, o5, _⟩ := cells6 ((hw'.block _ HL.out).trans HN.out); clear hw'; first | (go_simp; rfl) | (go_simp; done))
  simp only [Act.put, List.setIfInBounds_toArray, List.set_cons_zero, List.set_cons_succ]
  refine wpAnyG_take (i := 13) (v := ?v14) rfl (by kernel_rfl) (by kernel_rfl) (by kernel_rfl) (by kernel_rfl) (fun _ _ _ h => h) (yieldsIf_want rfl (fun w' hw' => ?y14)) hS0 ?_
  case y14 => first | (go_simp; rfl) | (go_simp; done) | rfl
  simp only [Act.put, List.setIfInBounds_toArray, List.set_cons_zero, List.set_cons_succ]
  refine wpAnyG_take (i := 14) (v := ?v15) rfl (by kernel_rfl) (by kernel_rfl) (by kernel_rfl) (by kernel_rfl) (fun _ _ _ h => h) (yieldsIf_want rfl (fun w' hw' => ?y15)) hS0 ?_
  case y15 => (obtain ⟨o0, o1, o2, o3, o4, o5, _⟩ := cells6 ((hw'.block _ HL.out).trans HN.out); clear hw'; first | (go_simp; rfl) | (go_simp; done))
  simp only [Act.put, List.setIfInBounds_toArray, List.set_cons_zero, List.set_cons_succ]
  refine wpAnyG_want (i := 15) (by kernel_rfl) rfl rfl (fun K hK => ?_)
  go_simp
  refine (Bytes_any o.f o.t _).mono ?_
  rintro e w15 ⟨v15, rfl, _, hx15⟩
  have k15 : Below wp.heap.size wp w15 := (Below.refl _ wp).drew.trans hx15
  refine hK _ _ k15 ?_
  clear hK K
  try simp only [Act.put, List.setIfInBounds_toArray, List.set_cons_zero, List.set_cons_succ]
  refine wpAnyG_want (i := 16) (by kernel_rfl) rfl rfl (fun K hK => ?_)
  go_simp
  refine (Write_none o.s v15).mono ?_
  rintro e w16 ⟨rfl, hx16⟩
  have k16 : Below wp.heap.size wp w16 := k15.trans (hx16.mono k15.size)
  refine hK _ _ k16 ?_
  clear hK K
  try simp only [Act.put, List.setIfInBounds_toArray, List.set_cons_zero, List.set_cons_succ]
  refine wpAnyG_take (i := 17) (v := ?v16) rfl (by kernel_rfl) (by kernel_rfl) (by kernel_rfl) (by kernel_rfl) (fun _ _ _ h => h) (yieldsIf_want rfl (fun w' hw' => ?y16)) k16 ?_
  case y16 => first | (go_simp; rfl) | (go_simp; done) | rfl
  simp only [Act.put, List.setIfInBounds_toArray, List.set_cons_zero, List.set_cons_succ]
  refine wpAnyG_take (i := 18) (v := ?v17) rfl (by kernel_rfl) (by kernel_rfl) (by kernel_rfl) (by kernel_rfl) (fun _ _ _ h => h) (yieldsIf_run rfl (fun w' hw' => ?y17)) k16 ?_
  case y17 => first | (go_simp; rfl) | (go_simp; done) | rfl
  simp only [Act.put, List.setIfInBounds_toArray, List.set_cons_zero, List.set_cons_succ]
  refine wpAnyG_take (i := 19) (v := ?v18) rfl (by kernel_rfl) (by kernel_rfl) (by kernel_rfl) (by kernel_rfl) (fun _ _ _ h => h) (yieldsIf_run rfl (fun w' hw' => ?y18)) k16 ?_
  case y18 => first | (go_simp; rfl) | (go_simp; done) | rfl
  simp only [Act.put, List.setIfInBounds_toArray, List.set_cons_zero, List.set_cons_succ]
  refine wpAnyG_take (i := 20) (v := ?v19) rfl (by kernel_rfl) (by kernel_rfl) (by kernel_rfl) (by kernel_rfl) (fun _ _ _ h => h) (yieldsIf_want rfl (fun w' hw' => ?y19)) k16 ?_
  case y19 => first | (go_simp; rfl) | (go_simp; done) | rfl
  simp only [Act.put, List.setIfInBounds_toArray, List.set_cons_zero, List.set_cons_succ]
  refine wpAnyG_want (i := 21) (by kernel_rfl) rfl rfl (fun K hK => ?_)
  go_simp
  refine (Flush_none).mono ?_
  rintro e w21 ⟨rfl, hx21⟩
  have k21 : Below wp.heap.size wp w21 := k16.trans (hx21.mono k16.size)
  refine hK _ _ k21 ?_
  clear hK K
  try simp only [Act.put, List.setIfInBounds_toArray, List.set_cons_zero, List.set_cons_succ]
  refine wpAnyG_take (i := 22) (v := ?v20) rfl (by kernel_rfl) (by kernel_rfl) (by kernel_rfl) (by kernel_rfl) (fun _ _ _ h => h) (yieldsIf_want rfl (fun w' hw' => ?y20)) k21 ?_
  case y20 => first | (go_simp; rfl) | (go_simp; done) | rfl
  simp only [Act.put, List.setIfInBounds_toArray, List.set_cons_zero, List.set_cons_succ]
  refine wpAnyG_take (i := 23) (v := ?v21) rfl (by kernel_rfl) (by kernel_rfl) (by kernel_rfl) (by kernel_rfl) (fun _ _ _ h => h) (yieldsIf_run rfl (fun w' hw' => ?y21)) k21 ?_
  case y21 => first | (go_simp; rfl) | (go_simp; done) | rfl
  simp only [Act.put, List.setIfInBounds_toArray, List.set_cons_zero, List.set_cons_succ]
  refine wpAnyG_take (i := 24) (v := ?v22) rfl (by kernel_rfl) (by kernel_rfl) (by kernel_rfl) (by kernel_rfl) (fun _ _ _ h => h) (yieldsIf_run rfl (fun w' hw' => ?y22)) k21 ?_
  case y22 => first | (go_simp; rfl) | (go_simp; done) | rfl
  simp only [Act.put, List.setIfInBounds_toArray, List.set_cons_zero, List.set_cons_succ]
  refine wpAnyG_take (i := 25) (v := ?v23) rfl (by kernel_rfl) (by kernel_rfl) (by kernel_rfl) (by kernel_rfl) (fun _ _ _ h => h) (yieldsIf_want rfl (fun w' hw' => ?y23)) k21 ?_
  case y23 => first | (go_simp; rfl) | (go_simp; done) | rfl
  simp only [Act.put, List.setIfInBounds_toArray, List.set_cons_zero, List.set_cons_succ]
  refine wpAnyG_take (i := 26) (v := ?v24) rfl (by kernel_rfl) (by kernel_rfl) (by kernel_rfl) (by kernel_rfl) (fun _ _ _ h => h) (yieldsIf_want rfl (fun w' hw' => ?y24)) k21 ?_
  case y24 => first | (go_simp; rfl) | (go_simp; done) | rfl
  simp only [Act.put, List.setIfInBounds_toArray, List.set_cons_zero, List.set_cons_succ]
  refine wpAnyG_take (i := 27) (v := ?v25) rfl (by kernel_rfl) (by kernel_rfl) (by kernel_rfl) (by kernel_rfl) (fun _ _ _ h => h) (yieldsIf_want rfl (fun w' hw' => ?y25)) k21 ?_
  case y25 => (obtain ⟨o0, o1, o2, o3, o4, o5, _⟩ := cells6 ((hw'.block _ HL.out).trans HN.out); clear hw'; first | (go_simp; rfl) | (go_simp; done))
  simp only [Act.put, List.setIfInBounds_toArray, List.set_cons_zero, List.set_cons_succ]
  refine wpAnyG_want (i := 28) (by kernel_rfl) rfl rfl (fun K hK => ?_)
  go_simp
  refine (Restart_none _).mono ?_
  rintro e w28 ⟨rfl, hx28⟩
  have k28 : Below wp.heap.size wp w28 := k21.trans (hx28.mono k21.size)
  refine hK _ _ k28 ?_
  clear hK K
  try simp only [Act.put, List.setIfInBounds_toArray, List.set_cons_zero, List.set_cons_succ]
  refine wpAnyG_take (i := 29) (v := ?v26) rfl (by kernel_rfl) (by kernel_rfl) (by kernel_rfl) (by kernel_rfl) (fun _ _ _ h => h) (yieldsIf_want rfl (fun w' hw' => ?y26)) k28 ?_
  case y26 => first | (go_simp; rfl) | (go_simp; done) | rfl
  simp only [Act.put, List.setIfInBounds_toArray, List.set_cons_zero, List.set_cons_succ]
  refine wpAnyG_take (i := 30) (v := ?v27) rfl (by kernel_rfl) (by kernel_rfl) (by kernel_rfl) (by kernel_rfl) (fun _ _ _ h => h) (yieldsIf_run rfl (fun w' hw' => ?y27)) k28 ?_
  case y27 => first | (go_simp; rfl) | (go_simp; done) | rfl
  simp only [Act.put, List.setIfInBounds_toArray, List.set_cons_zero, List.set_cons_succ]
  refine wpAnyG_take (i := 31) (v := ?v28) rfl (by kernel_rfl) (by kernel_rfl) (by kernel_rfl) (by kernel_rfl) (fun _ _ _ h => h) (yieldsIf_run rfl (fun w' hw' => ?y28)) k28 ?_
  case y28 => first | (go_simp; rfl) | (go_simp; done) | rfl
  simp only [Act.put, List.setIfInBounds_toArray, List.set_cons_zero, List.set_cons_succ]
  refine wpAnyG_take (i := 32) (v := ?v29) rfl (by kernel_rfl) (by kernel_rfl) (by kernel_rfl) (by kernel_rfl) (fun _ _ _ h => h) (yieldsIf_want rfl (fun w' hw' => ?y29)) k28 ?_
  case y29 => first | (go_simp; rfl) | (go_simp; done) | rfl
  simp only [Act.put, List.setIfInBounds_toArray, List.set_cons_zero, List.set_cons_succ]
  refine wpAnyG_take (i := 33) (v := ?v30) rfl (by kernel_rfl) (by kernel_rfl) (by kernel_rfl) (by kernel_rfl) (fun _ _ _ h => h) (yieldsIf_want rfl (fun w' hw' => ?y30)) k28 ?_
  case y30 => first | (go_simp; rfl) | (go_simp; done) | rfl
  simp only [Act.put, List.setIfInBounds_toArray, List.set_cons_zero, List.set_cons_succ]
  refine wpAnyG_take (i := 34) (v := ?v31) rfl (by kernel_rfl) (by kernel_rfl) (by kernel_rfl) (by kernel_rfl) (fun _ _ _ h => h) (yieldsIf_want rfl (fun w' hw' => ?y31)) k28 ?_
  case y31 => (obtain ⟨o0, o1, o2, o3, o4, o5, _⟩ := cells6 ((hw'.block _ HL.out).trans HN.out); clear hw'; first | (go_simp; rfl) | (go_simp; done))
  simp only [Act.put, List.setIfInBounds_toArray, List.set_cons_zero, List.set_cons_succ]
  refine wpAnyG_take (i := 35) (v := ?v32) rfl (by kernel_rfl) (by kernel_rfl) (by kernel_rfl) (by kernel_rfl) (fun _ _ _ h => h) (yieldsIf_want rfl (fun w' hw' => ?y32)) k28 ?_
  case y32 => first | (go_simp; rfl) | (go_simp; done) | rfl
  simp only [Act.put, List.setIfInBounds_toArray, List.set_cons_zero, List.set_cons_succ]
  refine wpAnyG_take (i := 36) (v := ?v33) rfl (by kernel_rfl) (by kernel_rfl) (by kernel_rfl) (by kernel_rfl) (fun _ _ _ h => h) (yieldsIf_want rfl (fun w' hw' => ?y33)) k28 ?_
  case y33 => (obtain ⟨o0, o1, o2, o3, o4, o5, _⟩ := cells6 ((hw'.block _ HL.out).trans HN.out); clear hw'; first | (go_simp; rfl) | (go_simp; done))
  simp only [Act.put, List.setIfInBounds_toArray, List.set_cons_zero, List.set_cons_succ]
  refine wpAnyG_take (i := 37) (v := ?v34) rfl (by kernel_rfl) (by kernel_rfl) (by kernel_rfl) (by kernel_rfl) (fun _ _ _ h => h) (yieldsIf_want rfl (fun w' hw' => ?y34)) k28 ?_
  case y34 => first | (go_simp; rfl) | (go_simp; done) | rfl
  simp only [Act.put, List.setIfInBounds_toArray, List.set_cons_zero, List.set_cons_succ]
  refine wpAnyG_take (i := 38) (v := ?v35) rfl (by kernel_rfl) (by kernel_rfl) (by kernel_rfl) (by kernel_rfl) (fun _ _ _ h => h) (yieldsIf_want rfl (fun w' hw' => ?y35)) k28 ?_
  case y35 => (obtain ⟨o0, o1, o2, o3, o4, o5, _⟩ := cells6 ((hw'.block _ HL.out).trans HN.out); clear hw'; first | (go_simp; rfl) | (go_simp; done))
  simp only [Act.put, List.setIfInBounds_toArray, List.set_cons_zero, List.set_cons_succ]
  refine wpAnyG_want (i := 39) (by kernel_rfl) rfl rfl (fun K hK => ?_)
  go_simp
  refine (Damage_none o.s o.a (o.f.toNat : Int)).mono ?_
  rintro e w39 ⟨rfl, hx39⟩
  have k39 : Below wp.heap.size wp w39 := k28.trans (hx39.mono k28.size)
  refine hK _ _ k39 ?_
  clear hK K
  try simp only [Act.put, List.setIfInBounds_toArray, List.set_cons_zero, List.set_cons_succ]
  refine wpAnyG_take (i := 40) (v := ?v36) rfl (by kernel_rfl) (by kernel_rfl) (by kernel_rfl) (by kernel_rfl) (fun _ _ _ h => h) (yieldsIf_want rfl (fun w' hw' => ?y36)) k39 ?_
  case y36 => first | (go_simp; rfl) | (go_simp; done) | rfl
  simp only [Act.put, List.setIfInBounds_toArray, List.set_cons_zero, List.set_cons_succ]
  refine wpAnyG_take (i := 41) (v := ?v37) rfl (by kernel_rfl) (by kernel_rfl) (by kernel_rfl) (by kernel_rfl) (fun _ _ _ h => h) (yieldsIf_run rfl (fun w' hw' => ?y37)) k39 ?_
  case y37 => first | (go_simp; rfl) | (go_simp; done) | rfl
  simp only [Act.put, List.setIfInBounds_toArray, List.set_cons_zero, List.set_cons_succ]
  refine wpAnyG_done (by kernel_rfl) ?_ _
  refine NoPanic.normal ?_

  clear hS0
  have HB7 := Lib.hid k39
  clear k15 k16 k21 k28 k39 hx15 hx16 hx21 hx28 hx39
  go_wp2_with fail
  refine (Sparse_nil).mono ?_
  rintro e w40 ⟨rfl, hw40⟩
  have c40 : w40.cell? ⟨w39.heap.size, 0, none⟩ = some (.pointer none) := by rw [hw40]; exact (Boxed.new _ _ _).cell
  have hb40 : Below w39.heap.size w39 w40 := hw40 ▸ (Below.refl _ _).alloc (Nat.le_refl _) _
  have hs40 : w39.heap.size < w40.heap.size := by rw [hw40, World.size_alloc]; omega
  clear hw40
  have hb2q : Below w2.heap.size w2 w40 := (HB2P.out.trans (HB7.out.mono HB2P.out.size)).trans (hb40.mono (HB2P.out.trans (HB7.out.mono HB2P.out.size)).size)
  have HB2Q := Lib.hid hb2q
  have HL7 := HL.out
  clear HN HL HB2P HB7 HL7 hb40 hb2q
  go_wp2_with fail
  refine (wpIn_wide (n := 4)).1 ?_
  refine wpIn_rangeFunc_ownH (α := Empty) rfl (by decide) (gf := 55) (lb := #[.pointer (some ⟨w39.heap.size, 0, none⟩)]) rfl trivial (enters_of Try.func55 (by kernel_rfl) rfl)
    (nil_stops w39.heap.size w40.heap.size w40 hs40 c40) belowK_t (belowK_b (Nat.le_refl _)) (Below.refl _ _) (fun x => nomatch x)
    (fun _ W => Below w40.heap.size w40 W) (fun _ _ _ => False) (ownFrom_below (Nat.le_refl _) (Nat.le_refl _)) (fun _ _ _ _ _ h => h.elim) (Below.refl _ _) (fun _ _ _ => True) (fun x => nomatch x) ?assign ?body ?done ?stop
  case assign => exact fun l pre x => nomatch x
  case body => exact fun l pre x => nomatch x
  case stop => exact fun D c pre W _ h => h.elim
  case done =>
  rintro D xs w41 hD rfl hb41 hK41
  have hb2r : Below w2.heap.size w2 w41 := HB2Q.out.trans (hb41.mono HB2Q.out.size)
  have hDl := (Array.getElem?_eq_some_iff.1 hK41).1
  have HK41 := Lib.hid hK41
  have HDL := Lib.hid hDl
  have HB2R := Lib.hid hb2r
  have n41 := (hb2r.block w.heap.size (by have := HS2.out; omega)).trans HN1.out
  have HN41 := Lib.hid n41
  have hge : w.heap.size + 2 ≤ w41.heap.size ∧ w.heap.size + 2 ≤ D := ⟨by have := hb2r.size; have := HS2.out; omega, by have := HB2Q.out.size; have := HS2.out; omega⟩
  have HGE := Lib.hid hge
  clear hK41 hDl hb2r n41 HB2Q hs40 c40 hb41 hD hge
  go_wp2_with fail
  have hnew : Calls Try.prog 13 #[.int .i64 2] w41 _ := New_good 2 w41 (by omega) (by omega)
  refine hnew.mono ?_
  rintro e w42 ⟨rfl, hD42, hb42⟩
  have HD42 := Lib.hid hD42.bound
  have n42 := (hb42.block w.heap.size (by have := HGE.out; omega)).trans HN41.out
  obtain ⟨o0, o1, o2, o3, o4, o5, of⟩ := cells6 n42
  have HN42 := Lib.hid n42
  have HB42 := Lib.hid hb42
  clear hD42 n42 hb42 hnew
  go_wp2_with fail
  refine (Bytes_any o.f o.t _).mono ?_
  rintro e w43 ⟨v43, rfl, hO43, hb43⟩
  obtain ⟨l, hl⟩ : ∃ l, bytesOf o.f o.t = l := ⟨_, rfl⟩
  have hl256 : l.length = 256 := by rw [← hl, bytesOf_length]
  rw [hl] at hO43
  have HLL := Lib.hid hl
  have HL256 := Lib.hid hl256
  obtain ⟨g, T, rfl, hg, hh⟩ := id hO43
  have hgl := (Array.getElem?_eq_some_iff.1 hh).1
  have HO43 := Lib.hid hO43
  have HB43 := Lib.hid hb43
  have HH := Lib.hid hh
  have HG := Lib.hid hg
  have HGL := Lib.hid hgl
  clear o0 o1 o2 o3 o4 o5 of hl hO43 hb43 hh hg hgl
  go_wp2_with fail
  have hby43 := HO43.out.bytes
  rw [HL256.out] at hby43
  have hwr : Calls Try.prog 21 #[.pointer (some ⟨w41.heap.size + 1, 0, none⟩), .int .i64 0, .slice (some ⟨g, 0, none⟩) 256 256] w43 _ := Write_any (F := fun k => w41.heap.size ≤ k ∧ k < w42.heap.size) 0 _ l (HD42.out.below HB43.out) hby43 (fun k h1 h2 => by have h3 : w42.heap.size ≤ k := h2; omega) (by simp [newDS]) (by simp [newDS]) (by simp [newDS]) (by omega)
  rw [write_one l HL256.out] at hwr
  refine hwr.mono ?_
  rintro e w44 ⟨rfl, hD44, hC44⟩
  have hD44' := hD44.bound
  have hl256 := HL256.out
  have hg42 : w42.heap.size ≤ g := HG.out
  have hgl := HGL.out
  have hz42 := HB42.out.size
  have hh44 : w44.heap[g]? = _ := (hC44.block _ hgl (by omega)).trans HH.out
  have hg3 : w44.cell? ⟨g, 3, none⟩ = some (.int .u8 ((l[3]'(by omega)).toNat : Int)) := by rw [cell_of_row w44 _ _ _ _ _ hh44]; simp [bvs, bv, hl256]
  have hf3 := frozen_of_row w44 g 3 _ _ hh44
  have hch : ∀ V, Chg (fun k => k = g) w44 (w44.setCell ⟨g, 3, none⟩ V) := fun V => Chg.setCell w44 V rfl
  have hsz : ∀ V, (w44.setCell ⟨g, 3, none⟩ V).heap.size = w44.heap.size := fun V => by simp [World.setCell]
  have hDa : ∀ V, DiskAt (w44.setCell ⟨g, 3, none⟩ V) _ _ _ := fun V => hD44'.chg (hch V) (fun k h1 h2 => by rcases h1.1 with h4 | h4 <;> omega)
  have hB44 : Below w41.heap.size w41 w44 := (HB42.out.trans (HB43.out.mono hz42)).trans (hC44.below (fun k h => h.1) (by have := HB43.out.size; omega))
  have hBa : ∀ V, Below w41.heap.size w41 (w44.setCell ⟨g, 3, none⟩ V) := fun V => hB44.trans ((hch V).below (fun k h => by omega) hB44.size)
  have hrd : ∀ V, Calls Try.prog 18 #[.pointer (some ⟨w41.heap.size + 1, 0, none⟩), .int .i64 0] (w44.setCell ⟨g, 3, none⟩ V) (fun e w' => ∃ v, e = .returned (.tuple #[v, .int .i64 0]) ∧ OwnBytes w' (fun k => w44.heap.size ≤ k) v l ∧ Below (w44.setCell ⟨g, 3, none⟩ V).heap.size (w44.setCell ⟨g, 3, none⟩ V) w') := fun V => by
    have h := Read_any 0 (hDa V) (by simp [oneDS])
    rw [read_oneE, read_oneB l hl256] at h
    refine h.mono ?_
    rintro e w' ⟨v, he, ho, hb⟩
    rw [if_neg (by intro e; rw [e] at hl256; simp at hl256), hsz] at ho
    exact ⟨v, he, ho, hb⟩
  have HD44 := Lib.hid hD44'
  have HDA := Lib.hid hDa
  have HBA := Lib.hid hBa
  have HRD := Lib.hid hrd
  have HSZ := Lib.hid hsz
  have hl3 : (3 : Int) < (l.length : Int) := by omega
  have hl3' : ¬ (l.length : Int) ≤ 3 := by omega
  have hl3n : 3 < l.length := by omega
  clear hD44 hD44' hC44 hh44 hch hsz hDa hB44 hBa hrd hwr
  go_wp2_with fail
  refine (HRD.out _).mono ?_
  rintro e w46 ⟨v46, rfl, hO46, hb46⟩
  have hD46 := (HDA.out _).below hb46
  have hB46 := (HBA.out _).trans (hb46.mono (HBA.out _).size)
  obtain ⟨g6, T6, rfl, hg6, hh6⟩ := hO46
  have hg6' : w44.heap.size ≤ g6 := hg6
  have hz44 : w41.heap.size ≤ w44.heap.size := by have := (HBA.out (.bool true)).size; rw [HSZ.out] at this; exact this
  have hg5 : w46.cell? ⟨g6, 5, none⟩ = some (.int .u8 ((l[5]'(by omega)).toNat : Int)) := by rw [cell_of_row w46 _ _ _ _ _ hh6]; simp [bvs, bv, hl256]
  have hf5 := frozen_of_row w46 g6 5 _ _ hh6
  have hch6 : ∀ V, Chg (fun k => k = g6) w46 (w46.setCell ⟨g6, 5, none⟩ V) := fun V => Chg.setCell w46 V rfl
  have hDc : ∀ V, DiskAt (w46.setCell ⟨g6, 5, none⟩ V) _ _ _ := fun V => hD46.chg (hch6 V) (fun k h1 h2 => by have := h1.2; omega)
  have hBc : ∀ V, Below w41.heap.size w41 (w46.setCell ⟨g6, 5, none⟩ V) := fun V => hB46.trans ((hch6 V).below (fun k h => by omega) hB46.size)
  have hrd : ∀ V, Calls Try.prog 18 #[.pointer (some ⟨w41.heap.size + 1, 0, none⟩), .int .i64 0] (w46.setCell ⟨g6, 5, none⟩ V) (fun e w' => ∃ v, e = .returned (.tuple #[v, .int .i64 0]) ∧ OwnBytes w' (fun k => True) v l ∧ Below (w46.setCell ⟨g6, 5, none⟩ V).heap.size (w46.setCell ⟨g6, 5, none⟩ V) w') := fun V => by
    have h := Read_any 0 (hDc V) (by simp [oneDS])
    rw [read_oneE, read_oneB l hl256] at h
    refine h.mono ?_
    rintro e w' ⟨v, he, ho, hb⟩
    rw [if_neg (by intro e; rw [e] at hl256; simp at hl256)] at ho
    obtain ⟨ga, Ta, e1, _, e2⟩ := ho
    exact ⟨v, he, ⟨ga, Ta, e1, trivial, e2⟩, hb⟩
  have HBC := Lib.hid hBc
  have HRD2 := Lib.hid hrd
  have hl5 : (5 : Int) < (l.length : Int) := by omega
  have hl5' : ¬ (l.length : Int) ≤ 5 := by omega
  have hl5n : 5 < l.length := by omega
  clear hD46 hB46 hh6 hch6 hDc hBc hrd hg6 hg6' hz44 hb46 hg3 hf3 hl3 hl3' hl3n
  go_wp2_with fail
  refine (HRD2.out _).mono ?_
  rintro e w48 ⟨v48, rfl, hO48, hb48⟩
  have hB48 := (HBC.out _).trans (hb48.mono (HBC.out _).size)
  have n48 : w48.heap[w.heap.size]? = _ := (hB48.block _ (by have := HGE.out; omega)).trans HN41.out
  have n48b : w48.heap[w.heap.size + 1]? = _ := ((hB48.block _ (by have := HGE.out; omega)).trans (HB2R.out.block _ (by have := HS2.out; omega))).trans HN2.out
  have k48 : w48.heap[D]? = _ := (hB48.block _ HDL.out).trans HK41.out
  have hl48 := (Array.getElem?_eq_some_iff.1 n48).1
  have hl48b := (Array.getElem?_eq_some_iff.1 n48b).1
  have hl48k := (Array.getElem?_eq_some_iff.1 k48).1
  have HN48 := Lib.hid n48
  have HN48b := Lib.hid n48b
  have HK48 := Lib.hid k48
  have HL48 := Lib.hid hl48
  have HL48b := Lib.hid hl48b
  have HL48k := Lib.hid hl48k
  have HO48 := Lib.hid hO48.bytes
  have hB0 : Below w.heap.size w w48 := (HB2.out.trans (HB2R.out.mono HB2.out.size)).trans (hB48.mono (HB2.out.trans (HB2R.out.mono HB2.out.size)).size)
  have HB48 := Lib.hid hB0
  clear hO48
  clear hb48 hB48 n48 n48b k48 hl48 hl48b hl48k hB0 hg5 hf5 hl5 hl5' hl5n
  go_wp2_with fail
  refine wp_region_noPanic ?_
  refine wp_region_G [51] (fun w' => Below w48.heap.size w48 w') (by kernel_rfl) ?_
  have hS0 : (fun w' => Below w48.heap.size w48 w') w48.drew := (Below.refl _ _).drew
  refine wpAnyG_take (i := 0) (v := ?v38) rfl (by kernel_rfl) (by kernel_rfl) (by kernel_rfl) (by kernel_rfl) (fun _ _ _ h => h) (yieldsIf_run rfl (fun w' hw' => ?y38)) hS0 ?_
  case y38 => first | (go_simp; rfl) | (go_simp; done) | rfl
  simp only [Act.put, List.setIfInBounds_toArray, List.set_cons_zero, List.set_cons_succ]
  refine wpAnyG_take (i := 1) (v := ?v39) rfl (by kernel_rfl) (by kernel_rfl) (by kernel_rfl) (by kernel_rfl) (fun _ _ _ h => h) (yieldsIf_run rfl (fun w' hw' => ?y39)) hS0 ?_
  case y39 => first | (go_simp; rfl) | (go_simp; done) | rfl
  simp only [Act.put, List.setIfInBounds_toArray, List.set_cons_zero, List.set_cons_succ]
  refine wpAnyG_take (i := 2) (v := ?v40) rfl (by kernel_rfl) (by kernel_rfl) (by kernel_rfl) (by kernel_rfl) (fun _ _ _ h => h) (yieldsIf_run rfl (fun w' hw' => ?y40)) hS0 ?_
  case y40 => first | (go_simp; rfl) | (go_simp; done) | rfl
  simp only [Act.put, List.setIfInBounds_toArray, List.set_cons_zero, List.set_cons_succ]
  refine wpAnyG_take (i := 3) (v := ?v41) rfl (by kernel_rfl) (by kernel_rfl) (by kernel_rfl) (by kernel_rfl) (fun _ _ _ h => h) (yieldsIf_want rfl (fun w' hw' => ?y41)) hS0 ?_
  case y41 => first | (go_simp; rfl) | (go_simp; done) | rfl
  simp only [Act.put, List.setIfInBounds_toArray, List.set_cons_zero, List.set_cons_succ]
  refine wpAnyG_take (i := 4) (v := ?v42) rfl (by kernel_rfl) (by kernel_rfl) (by kernel_rfl) (by kernel_rfl) (fun _ _ _ h => h) (yieldsIf_want rfl (fun w' hw' => ?y42)) hS0 ?_
  case y42 => first | (go_simp; rfl) | (go_simp; done) | rfl
  simp only [Act.put, List.setIfInBounds_toArray, List.set_cons_zero, List.set_cons_succ]
  refine wpAnyG_take (i := 5) (v := ?v43) rfl (by kernel_rfl) (by kernel_rfl) (by kernel_rfl) (by kernel_rfl) (fun _ _ _ h => h) (yieldsIf_run rfl (fun w' hw' => ?y43)) hS0 ?_
  case y43 => first | (go_simp; rfl) | (go_simp; done) | rfl
  simp only [Act.put, List.setIfInBounds_toArray, List.set_cons_zero, List.set_cons_succ]
  refine wpAnyG_take (i := 6) (v := ?v44) rfl (by kernel_rfl) (by kernel_rfl) (by kernel_rfl) (by kernel_rfl) (fun _ _ _ h => h) (yieldsIf_run rfl (fun w' hw' => ?y44)) hS0 ?_
  case y44 => first | (go_simp; rfl) | (go_simp; done) | rfl
  simp only [Act.put, List.setIfInBounds_toArray, List.set_cons_zero, List.set_cons_succ]
  refine wpAnyG_take (i := 7) (v := ?v45) rfl (by kernel_rfl) (by kernel_rfl) (by kernel_rfl) (by kernel_rfl) (fun _ _ _ h => h) (yieldsIf_want rfl (fun w' hw' => ?y45)) hS0 ?_
  case y45 => first | (go_simp; rfl) | (go_simp; done) | rfl
  simp only [Act.put, List.setIfInBounds_toArray, List.set_cons_zero, List.set_cons_succ]
  refine wpAnyG_take (i := 8) (v := ?v46) rfl (by kernel_rfl) (by kernel_rfl) (by kernel_rfl) (by kernel_rfl) (fun _ _ _ h => h) (yieldsIf_want rfl (fun w' hw' => ?y46)) hS0 ?_
  case y46 => first | (go_simp; rfl) | (go_simp; done) | rfl
  simp only [Act.put, List.setIfInBounds_toArray, List.set_cons_zero, List.set_cons_succ]
  refine wpAnyG_take (i := 9) (v := ?v47) rfl (by kernel_rfl) (by kernel_rfl) (by kernel_rfl) (by kernel_rfl) (fun _ _ _ h => h) (yieldsIf_run rfl (fun w' hw' => ?y47)) hS0 ?_
  case y47 => first | (go_simp; rfl) | (go_simp; done) | rfl
  simp only [Act.put, List.setIfInBounds_toArray, List.set_cons_zero, List.set_cons_succ]
  refine wpAnyG_take (i := 10) (v := ?v48) rfl (by kernel_rfl) (by kernel_rfl) (by kernel_rfl) (by kernel_rfl) (fun _ _ _ h => h) (yieldsIf_run rfl (fun w' hw' => ?y48)) hS0 ?_
  case y48 => first | (go_simp; rfl) | (go_simp; done) | rfl
  simp only [Act.put, List.setIfInBounds_toArray, List.set_cons_zero, List.set_cons_succ]
  refine wpAnyG_take (i := 11) (v := ?v49) rfl (by kernel_rfl) (by kernel_rfl) (by kernel_rfl) (by kernel_rfl) (fun _ _ _ h => h) (yieldsIf_want rfl (fun w' hw' => ?y49)) hS0 ?_
  case y49 => first | (go_simp; rfl) | (go_simp; done) | rfl
  simp only [Act.put, List.setIfInBounds_toArray, List.set_cons_zero, List.set_cons_succ]
  refine wpAnyG_take (i := 12) (v := ?v50) rfl (by kernel_rfl) (by kernel_rfl) (by kernel_rfl) (by kernel_rfl) (fun _ _ _ h => h) (yieldsIf_want rfl (fun w' hw' => ?y50)) hS0 ?_
  case y50 => (have h8 := (HO48.out.kept (G := fun _ => False) (Chg.of_below hw') (fun _ _ h => h)).str; clear hw'; first | (go_simp; rfl) | (go_simp; done))
  simp only [Act.put, List.setIfInBounds_toArray, List.set_cons_zero, List.set_cons_succ]
  refine wpAnyG_take (i := 13) (v := ?v51) rfl (by kernel_rfl) (by kernel_rfl) (by kernel_rfl) (by kernel_rfl) (fun _ _ _ h => h) (yieldsIf_want rfl (fun w' hw' => ?y51)) hS0 ?_
  case y51 => first | (go_simp; rfl) | (go_simp; done) | rfl
  simp only [Act.put, List.setIfInBounds_toArray, List.set_cons_zero, List.set_cons_succ]
  refine wpAnyG_take (i := 14) (v := ?v52) rfl (by kernel_rfl) (by kernel_rfl) (by kernel_rfl) (by kernel_rfl) (fun _ _ _ h => h) (yieldsIf_want rfl (fun w' hw' => ?y52)) hS0 ?_
  case y52 => (obtain ⟨o0, o1, o2, o3, o4, o5, _⟩ := cells6 ((hw'.block _ HL48.out).trans HN48.out); clear hw'; first | (go_simp; rfl) | (go_simp; done))
  simp only [Act.put, List.setIfInBounds_toArray, List.set_cons_zero, List.set_cons_succ]
  refine wpAnyG_take (i := 15) (v := ?v53) rfl (by kernel_rfl) (by kernel_rfl) (by kernel_rfl) (by kernel_rfl) (fun _ _ _ h => h) (yieldsIf_want rfl (fun w' hw' => ?y53)) hS0 ?_
  case y53 => first | (go_simp; rfl) | (go_simp; done) | rfl
  simp only [Act.put, List.setIfInBounds_toArray, List.set_cons_zero, List.set_cons_succ]
  refine wpAnyG_take (i := 16) (v := ?v54) rfl (by kernel_rfl) (by kernel_rfl) (by kernel_rfl) (by kernel_rfl) (fun _ _ _ h => h) (yieldsIf_want rfl (fun w' hw' => ?y54)) hS0 ?_
  case y54 => (obtain ⟨o0, o1, o2, o3, o4, o5, _⟩ := cells6 ((hw'.block _ HL48.out).trans HN48.out); clear hw'; first | (go_simp; rfl) | (go_simp; done))
  simp only [Act.put, List.setIfInBounds_toArray, List.set_cons_zero, List.set_cons_succ]
  refine wpAnyG_want (i := 17) (by kernel_rfl) rfl rfl (fun K hK => ?_)
  go_simp
  refine (Bytes_any o.f o.t _).mono ?_
  rintro e w57 ⟨v57, rfl, hO57, hx57⟩
  rw [HLL.out] at hO57
  have h57 := hO57.bytes.str
  clear hO57
  have k57 : Below w48.heap.size w48 w57 := (Below.refl _ w48).drew.trans hx57
  refine hK _ _ k57 ?_
  clear hK K
  try simp only [Act.put, List.setIfInBounds_toArray, List.set_cons_zero, List.set_cons_succ]
  refine wpAnyG_want (i := 18) (by kernel_rfl) rfl rfl (fun K hK => ?_)
  go_simp
  refine hK _ _ k57 ?_
  clear hK K
  try simp only [Act.put, List.setIfInBounds_toArray, List.set_cons_zero, List.set_cons_succ]
  clear h57 hS0
  refine wpAnyG_take (i := 19) (v := ?v55) rfl (by kernel_rfl) (by kernel_rfl) (by kernel_rfl) (by kernel_rfl) (fun _ _ _ h => h) (yieldsIf_want rfl (fun w' hw' => ?y55)) k57 ?_
  case y55 => first | (go_simp; rfl) | (go_simp; done) | rfl
  simp only [Act.put, List.setIfInBounds_toArray, List.set_cons_zero, List.set_cons_succ]
  refine wpAnyG_take (i := 20) (v := ?v56) rfl (by kernel_rfl) (by kernel_rfl) (by kernel_rfl) (by kernel_rfl) (fun _ _ _ h => h) (yieldsIf_run rfl (fun w' hw' => ?y56)) k57 ?_
  case y56 => first | (go_simp; rfl) | (go_simp; done) | rfl
  simp only [Act.put, List.setIfInBounds_toArray, List.set_cons_zero, List.set_cons_succ]
  refine wpAnyG_take (i := 21) (v := ?v57) rfl (by kernel_rfl) (by kernel_rfl) (by kernel_rfl) (by kernel_rfl) (fun _ _ _ h => h) (yieldsIf_run rfl (fun w' hw' => ?y57)) k57 ?_
  case y57 => first | (go_simp; rfl) | (go_simp; done) | rfl
  simp only [Act.put, List.setIfInBounds_toArray, List.set_cons_zero, List.set_cons_succ]
  refine wpAnyG_take (i := 22) (v := ?v58) rfl (by kernel_rfl) (by kernel_rfl) (by kernel_rfl) (by kernel_rfl) (fun _ _ _ h => h) (yieldsIf_want rfl (fun w' hw' => ?y58)) k57 ?_
  case y58 => first | (go_simp; rfl) | (go_simp; done) | rfl
  simp only [Act.put, List.setIfInBounds_toArray, List.set_cons_zero, List.set_cons_succ]
  refine wpAnyG_want (i := 23) (by kernel_rfl) rfl rfl (fun K hK => ?_)
  go_simp
  refine (Sectors_none).mono ?_
  rintro e w63 ⟨rfl, hx23⟩
  have k63 : Below w48.heap.size w48 w63 := k57.trans (hx23.mono k57.size)
  refine hK _ _ k63 ?_
  clear hK K
  try simp only [Act.put, List.setIfInBounds_toArray, List.set_cons_zero, List.set_cons_succ]
  refine wpAnyG_take (i := 24) (v := ?v59) rfl (by kernel_rfl) (by kernel_rfl) (by kernel_rfl) (by kernel_rfl) (fun _ _ _ h => h) (yieldsIf_want rfl (fun w' hw' => ?y59)) k63 ?_
  case y59 => first | (go_simp; rfl) | (go_simp; done) | rfl
  simp only [Act.put, List.setIfInBounds_toArray, List.set_cons_zero, List.set_cons_succ]
  refine wpAnyG_take (i := 25) (v := ?v60) rfl (by kernel_rfl) (by kernel_rfl) (by kernel_rfl) (by kernel_rfl) (fun _ _ _ h => h) (yieldsIf_run rfl (fun w' hw' => ?y60)) k63 ?_
  case y60 => first | (go_simp; rfl) | (go_simp; done) | rfl
  simp only [Act.put, List.setIfInBounds_toArray, List.set_cons_zero, List.set_cons_succ]
  refine wpAnyG_take (i := 26) (v := ?v61) rfl (by kernel_rfl) (by kernel_rfl) (by kernel_rfl) (by kernel_rfl) (fun _ _ _ h => h) (yieldsIf_run rfl (fun w' hw' => ?y61)) k63 ?_
  case y61 => first | (go_simp; rfl) | (go_simp; done) | rfl
  simp only [Act.put, List.setIfInBounds_toArray, List.set_cons_zero, List.set_cons_succ]
  refine wpAnyG_take (i := 27) (v := ?v62) rfl (by kernel_rfl) (by kernel_rfl) (by kernel_rfl) (by kernel_rfl) (fun _ _ _ h => h) (yieldsIf_want rfl (fun w' hw' => ?y62)) k63 ?_
  case y62 => first | (go_simp; rfl) | (go_simp; done) | rfl
  simp only [Act.put, List.setIfInBounds_toArray, List.set_cons_zero, List.set_cons_succ]
  refine wpAnyG_want (i := 28) (by kernel_rfl) rfl rfl (fun K hK => ?_)
  go_simp
  refine (Operations_none).mono ?_
  rintro e w68 ⟨rfl, hx28⟩
  have k68 : Below w48.heap.size w48 w68 := k63.trans (hx28.mono k63.size)
  refine hK _ _ k68 ?_
  clear hK K
  try simp only [Act.put, List.setIfInBounds_toArray, List.set_cons_zero, List.set_cons_succ]
  refine wpAnyG_take (i := 29) (v := ?v63) rfl (by kernel_rfl) (by kernel_rfl) (by kernel_rfl) (by kernel_rfl) (fun _ _ _ h => h) (yieldsIf_want rfl (fun w' hw' => ?y63)) k68 ?_
  case y63 => first | (go_simp; rfl) | (go_simp; done) | rfl
  simp only [Act.put, List.setIfInBounds_toArray, List.set_cons_zero, List.set_cons_succ]
  refine wpAnyG_take (i := 30) (v := ?v64) rfl (by kernel_rfl) (by kernel_rfl) (by kernel_rfl) (by kernel_rfl) (fun _ _ _ h => h) (yieldsIf_run rfl (fun w' hw' => ?y64)) k68 ?_
  case y64 => first | (go_simp; rfl) | (go_simp; done) | rfl
  simp only [Act.put, List.setIfInBounds_toArray, List.set_cons_zero, List.set_cons_succ]
  refine wpAnyG_take (i := 31) (v := ?v65) rfl (by kernel_rfl) (by kernel_rfl) (by kernel_rfl) (by kernel_rfl) (fun _ _ _ h => h) (yieldsIf_run rfl (fun w' hw' => ?y65)) k68 ?_
  case y65 => first | (go_simp; rfl) | (go_simp; done) | rfl
  simp only [Act.put, List.setIfInBounds_toArray, List.set_cons_zero, List.set_cons_succ]
  refine wpAnyG_take (i := 32) (v := ?v66) rfl (by kernel_rfl) (by kernel_rfl) (by kernel_rfl) (by kernel_rfl) (fun _ _ _ h => h) (yieldsIf_want rfl (fun w' hw' => ?y66)) k68 ?_
  case y66 => first | (go_simp; rfl) | (go_simp; done) | rfl
  simp only [Act.put, List.setIfInBounds_toArray, List.set_cons_zero, List.set_cons_succ]
  refine wpAnyG_want (i := 33) (by kernel_rfl) rfl rfl (fun K hK => ?_)
  go_simp
  refine (Pending_none).mono ?_
  rintro e w73 ⟨rfl, hx33⟩
  have k73 : Below w48.heap.size w48 w73 := k68.trans (hx33.mono k68.size)
  refine hK _ _ k73 ?_
  clear hK K
  try simp only [Act.put, List.setIfInBounds_toArray, List.set_cons_zero, List.set_cons_succ]
  refine wpAnyG_take (i := 34) (v := ?v67) rfl (by kernel_rfl) (by kernel_rfl) (by kernel_rfl) (by kernel_rfl) (fun _ _ _ h => h) (yieldsIf_want rfl (fun w' hw' => ?y67)) k73 ?_
  case y67 => first | (go_simp; rfl) | (go_simp; done) | rfl
  simp only [Act.put, List.setIfInBounds_toArray, List.set_cons_zero, List.set_cons_succ]
  refine wpAnyG_take (i := 35) (v := ?v68) rfl (by kernel_rfl) (by kernel_rfl) (by kernel_rfl) (by kernel_rfl) (fun _ _ _ h => h) (yieldsIf_want rfl (fun w' hw' => ?y68)) k73 ?_
  case y68 => first | (go_simp; rfl) | (go_simp; done) | rfl
  simp only [Act.put, List.setIfInBounds_toArray, List.set_cons_zero, List.set_cons_succ]
  refine wpAnyG_take (i := 36) (v := ?v69) rfl (by kernel_rfl) (by kernel_rfl) (by kernel_rfl) (by kernel_rfl) (fun _ _ _ h => h) (yieldsIf_run rfl (fun w' hw' => ?y69)) k73 ?_
  case y69 => first | (go_simp; rfl) | (go_simp; done) | rfl
  simp only [Act.put, List.setIfInBounds_toArray, List.set_cons_zero, List.set_cons_succ]
  refine wpAnyG_take (i := 37) (v := ?v70) rfl (by kernel_rfl) (by kernel_rfl) (by kernel_rfl) (by kernel_rfl) (fun _ _ _ h => h) (yieldsIf_run rfl (fun w' hw' => ?y70)) k73 ?_
  case y70 => first | (go_simp; rfl) | (go_simp; done) | rfl
  simp only [Act.put, List.setIfInBounds_toArray, List.set_cons_zero, List.set_cons_succ]
  refine wpAnyG_take (i := 38) (v := ?v71) rfl (by kernel_rfl) (by kernel_rfl) (by kernel_rfl) (by kernel_rfl) (fun _ _ _ h => h) (yieldsIf_want rfl (fun w' hw' => ?y71)) k73 ?_
  case y71 => first | (go_simp; rfl) | (go_simp; done) | rfl
  simp only [Act.put, List.setIfInBounds_toArray, List.set_cons_zero, List.set_cons_succ]
  refine wpAnyG_want (i := 39) (by kernel_rfl) rfl rfl (fun K hK => ?_)
  go_simp
  refine (Down_none).mono ?_
  rintro e w79 ⟨rfl, hx39⟩
  have k79 : Below w48.heap.size w48 w79 := k73.trans (hx39.mono k73.size)
  refine hK _ _ k79 ?_
  clear hK K
  try simp only [Act.put, List.setIfInBounds_toArray, List.set_cons_zero, List.set_cons_succ]
  refine wpAnyG_take (i := 40) (v := ?v72) rfl (by kernel_rfl) (by kernel_rfl) (by kernel_rfl) (by kernel_rfl) (fun _ _ _ h => h) (yieldsIf_want rfl (fun w' hw' => ?y72)) k79 ?_
  case y72 => first | (go_simp; rfl) | (go_simp; done) | rfl
  simp only [Act.put, List.setIfInBounds_toArray, List.set_cons_zero, List.set_cons_succ]
  refine wpAnyG_take (i := 41) (v := ?v73) rfl (by kernel_rfl) (by kernel_rfl) (by kernel_rfl) (by kernel_rfl) (fun _ _ _ h => h) (yieldsIf_run rfl (fun w' hw' => ?y73)) k79 ?_
  case y73 => first | (go_simp; rfl) | (go_simp; done) | rfl
  simp only [Act.put, List.setIfInBounds_toArray, List.set_cons_zero, List.set_cons_succ]
  refine wpAnyG_take (i := 42) (v := ?v74) rfl (by kernel_rfl) (by kernel_rfl) (by kernel_rfl) (by kernel_rfl) (fun _ _ _ h => h) (yieldsIf_run rfl (fun w' hw' => ?y74)) k79 ?_
  case y74 => first | (go_simp; rfl) | (go_simp; done) | rfl
  simp only [Act.put, List.setIfInBounds_toArray, List.set_cons_zero, List.set_cons_succ]
  refine wpAnyG_take (i := 43) (v := ?v75) rfl (by kernel_rfl) (by kernel_rfl) (by kernel_rfl) (by kernel_rfl) (fun _ _ _ h => h) (yieldsIf_want rfl (fun w' hw' => ?y75)) k79 ?_
  case y75 => first | (go_simp; rfl) | (go_simp; done) | rfl
  simp only [Act.put, List.setIfInBounds_toArray, List.set_cons_zero, List.set_cons_succ]
  refine wpAnyG_want (i := 44) (by kernel_rfl) rfl rfl (fun K hK => ?_)
  go_simp
  refine (Clone_none).mono ?_
  rintro e w84 ⟨rfl, hx44⟩
  have k84 : Below w48.heap.size w48 w84 := k79.trans (hx44.mono k79.size)
  refine hK _ _ k84 ?_
  clear hK K
  try simp only [Act.put, List.setIfInBounds_toArray, List.set_cons_zero, List.set_cons_succ]
  refine wpAnyG_take (i := 45) (v := ?v76) rfl (by kernel_rfl) (by kernel_rfl) (by kernel_rfl) (by kernel_rfl) (fun _ _ _ h => h) (yieldsIf_want rfl (fun w' hw' => ?y76)) k84 ?_
  case y76 => first | (go_simp; rfl) | (go_simp; done) | rfl
  simp only [Act.put, List.setIfInBounds_toArray, List.set_cons_zero, List.set_cons_succ]
  refine wpAnyG_take (i := 46) (v := ?v77) rfl (by kernel_rfl) (by kernel_rfl) (by kernel_rfl) (by kernel_rfl) (fun _ _ _ h => h) (yieldsIf_run rfl (fun w' hw' => ?y77)) k84 ?_
  case y77 => first | (go_simp; rfl) | (go_simp; done) | rfl
  simp only [Act.put, List.setIfInBounds_toArray, List.set_cons_zero, List.set_cons_succ]
  refine wpAnyG_take (i := 47) (v := ?v78) rfl (by kernel_rfl) (by kernel_rfl) (by kernel_rfl) (by kernel_rfl) (fun _ _ _ h => h) (yieldsIf_run rfl (fun w' hw' => ?y78)) k84 ?_
  case y78 => first | (go_simp; rfl) | (go_simp; done) | rfl
  simp only [Act.put, List.setIfInBounds_toArray, List.set_cons_zero, List.set_cons_succ]
  refine wpAnyG_take (i := 48) (v := ?v79) rfl (by kernel_rfl) (by kernel_rfl) (by kernel_rfl) (by kernel_rfl) (fun _ _ _ h => h) (yieldsIf_want rfl (fun w' hw' => ?y79)) k84 ?_
  case y79 => first | (go_simp; rfl) | (go_simp; done) | rfl
  simp only [Act.put, List.setIfInBounds_toArray, List.set_cons_zero, List.set_cons_succ]
  refine wpAnyG_want (i := 49) (by kernel_rfl) rfl rfl (fun K hK => ?_)
  go_simp
  refine (Equal_nil2).mono ?_
  rintro e w89 ⟨rfl, hx49⟩
  have k89 : Below w48.heap.size w48 w89 := k84.trans (hx49.mono k84.size)
  have n89 : w89.heap[w.heap.size + 1]? = _ := (k89.block _ HL48b.out).trans HN48b.out
  have d89 := frozen_of_row w89 _ 0 _ _ n89
  have e89 := cell_of_row w89 _ 0 _ _ _ n89
  refine hK _ _ k89 ?_
  clear hK K
  try simp only [Act.put, List.setIfInBounds_toArray, List.set_cons_zero, List.set_cons_succ]
  refine wpAnyG_take (i := 50) (v := ?v80) rfl (by kernel_rfl) (by kernel_rfl) (by kernel_rfl) (by kernel_rfl) (fun _ _ _ h => h) (yieldsIf_run rfl (fun w' hw' => ?y80)) k89 ?_
  case y80 => first | (go_simp; rfl) | (go_simp; done) | rfl
  simp only [Act.put, List.setIfInBounds_toArray, List.set_cons_zero, List.set_cons_succ]
  refine wpAnyG_fin (i := 51) (by kernel_rfl) rfl rfl (by kernel_rfl) (fun K hK => ?_)
  go_simp
  refine hK _ _ ?_
  clear hK K
  try simp only [Act.put, List.setIfInBounds_toArray, List.set_cons_zero, List.set_cons_succ]
  refine wpAnyG_done (by kernel_rfl) ?_ _
  refine NoPanic.normal ?_

  have hK := (k89.block _ HL48k.out).trans HK48.out
  obtain ⟨wz, hwz⟩ : ∃ wz, w89.setCell ⟨w.heap.size + 1, 0, none⟩ (.bool true) = wz := ⟨_, rfl⟩
  have hKz : wz.heap[D]? = some (.deferred (some [])) := by rw [← hwz]; exact (heap_setCell_other w89 ⟨w.heap.size + 1, 0, none⟩ _ _ (by show D ≠ w.heap.size + 1; have := HGE.out; omega)).trans hK
  have hRz : wz.heap[w.heap.size + 1]? = some (.cells #[.bool true] 4 (0, 0)) := by rw [← hwz]; exact heap_setCell_same _ _ _ _ _ _ n89
  have hBz : Below w.heap.size w wz := by rw [← hwz]; exact (HB48.out.trans (k89.mono HB48.out.size)).setCell (Nat.le_succ _) _
  try rw [hwz]
  clear hwz
  go_wp2_with fail
  refine ⟨by simp, .inl ⟨_, _, rfl, run_takeDeferred hKz, ?_⟩⟩
  have hcz : (wz.putObj D (.deferred none)).cell? ⟨w.heap.size + 1, 0, none⟩ = some (.bool true) := by
    have h9 : (wz.putObj D (.deferred none)).heap[w.heap.size + 1]? = _ := (World.putObj_heap_other (by have := HGE.out; omega)).trans hRz
    simp [World.cell?, h9]
  have hBf : Below w.heap.size w (wz.putObj D (.deferred none)) := hBz.trans (belowK_b (w := w) (Nat.le_refl _) wz D _ _ (by have := HGE.out; omega) hKz rfl rfl)
  refine ⟨_, ?_, rfl, hBf⟩
  simp only [results, show Try.f11.results = #[.cell 2 4] from rfl]
  go_simp


end Go.Proofs.Ytkklbmnbjmicnaa
