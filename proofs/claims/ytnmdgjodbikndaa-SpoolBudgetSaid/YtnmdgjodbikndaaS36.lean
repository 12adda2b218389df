/- The spool's reference: Encode. -/
import Derived.Test.YtnmdgjodbikndaaS35
import Derived.Test.YtnmdgjodbikndaaS34
import Derived.Test.YtnmdgjodbikndaaS30
import Derived.Lib.AppendStr
namespace Go.Proofs.Ytnmdgjodbikndaa
open Go.RowKit
set_option linter.unusedVariables false
set_option linter.unusedSimpArgs false

def encA (a : RefA) : List UInt8 := a.id.1 ++ be8 a.min.toNat ++ be8 a.text.size ++ a.text.data.toList
def encS (B : Nat) (L : List RefA) : List UInt8 := be8 B ++ be8 L.length ++ L.flatMap encA
def eP (B N : Nat) (L : List RefA) (i : Nat) : List UInt8 := be8 B ++ be8 N ++ (L.take i).flatMap encA
theorem eP_zero (B N : Nat) (L : List RefA) : eP B N L 0 = be8 B ++ be8 N := by unfold eP; rw [List.take_zero, List.flatMap_nil, List.append_nil]
theorem eP_succ (B N : Nat) {L : List RefA} {i : Nat} (hi : i < L.length) : eP B N L (i + 1) = eP B N L i ++ encA L[i] := by
  unfold eP
  rw [List.take_succ_eq_append_getElem hi, List.flatMap_append, List.flatMap_singleton]
  simp only [List.append_assoc]
theorem eP_all (B : Nat) (L : List RefA) : eP B L.length L L.length = encS B L := by unfold eP encS; rw [List.take_length]
theorem encA_length (a : RefA) : (encA a).length = 48 + a.text.size := by
  unfold encA
  simp only [List.length_append, be8_length, a.id.2, Array.length_toList]
  rfl
theorem eP_le (B N : Nat) (L : List RefA) : ∀ i, i ≤ L.length → (eP B N L i).length ≤ (eP B N L L.length).length := fun i hi => by
  unfold eP
  have h : (L.flatMap encA).length = ((L.take i).flatMap encA).length + ((L.drop i).flatMap encA).length := by
    rw [← List.length_append, ← List.flatMap_append, List.take_append_drop]
  simp only [List.length_append, List.take_length]
  omega
theorem grown_other {w w' : World} {B A : Nat} {v : Value} {L : List UInt8} {cs : Array Value} {T : TypeId} {fr : Nat × Nat} (ho : OwnL byE w B v L) (hg : w.grownBy w' v.ownBlock) (h : w.heap[A]? = some (.cells cs T fr)) (hT : T ≠ 5) : w'.heap[A]? = some (.cells cs T fr) := by
  refine (hg.block A (Array.getElem?_eq_some_iff.1 h).1 (fun e => ?_)).trans h
  rcases ho.2 with ⟨rfl, _⟩ | ⟨g, cap, cur, rfl, _, hgg, _⟩
  · cases e
  · simp only [Value.ownBlock, Option.some.injEq] at e
    subst e
    rw [h] at hgg
    cases hgg
    exact hT rfl
/-- The bytes of a text, as a slice. -/
theorem conv_bytes (w : World) (s : ByteArray) (hs : s.size ≤ maxLen) : ∃ c w', (convert 9 22 (.string s)).run Try.prog w = .ok (.slice (some ⟨w.heap.size, 0, none⟩) s.size c) w' ∧ ListAt byE w' (.slice (some ⟨w.heap.size, 0, none⟩) s.size c) s.data.toList ∧ Below w.heap.size w w' := by
  have h := run_bytes_of_string (P := Try.prog) w 9 22 5 s Try.underlying9 Try.underlying22 Try.underlying5
  obtain ⟨c, hc⟩ : ∃ c, grownCap w s.size 0 5 = c := ⟨_, rfl⟩
  have h1 : s.size ≤ c := hc ▸ grownCap_ge w _ _ _
  have h2 : c ≤ maxLen := hc ▸ grownCap_le_maxLen w _ _ _ hs
  rw [hc] at h
  refine ⟨c, _, h, ⟨_, c, rfl, ?_, h2, (fun e => by cases e), fun _ => ⟨w.heap.size, 0, rfl, by simp, ?_⟩⟩, (Below.refl _ _).drew.alloc (Nat.le_refl _) _⟩
  · show s.data.toList.length ≤ c
    rw [Array.length_toList]
    exact h1
  · intro i hi j u hj
    have hj0 : j = 0 := by
      have := (List.getElem?_eq_some_iff.1 hj).1
      have h3 : (byE.enc s.data.toList[i]).length = 1 := rfl
      omega
    subst hj0
    have hn : (w.drew.alloc (.cells (bytesRow s c) 5 ((bytesRow s c).size, (bytesRow s c).size + 1))).heap[w.heap.size]? = some _ := heap_alloc_new w.drew _
    rw [cell_of_row _ _ _ _ _ _ hn]
    have hi2 : i < s.data.size := by rw [Array.length_toList] at hi; exact hi
    have h4 : (bytesRow s c)[0 + i * 1 + 0]? = some (.int .u8 ((s.data[i]).toNat : Int)) := by
      unfold bytesRow
      rw [Array.getElem?_append_left (by rw [Array.size_map]; omega), Array.getElem?_map, show 0 + i * 1 + 0 = i by omega, Array.getElem?_eq_getElem hi2]
      rfl
    show (bytesRow s c)[0 + i * 1 + 0]? = some u
    rw [h4, ← hj]
    show some _ = [Value.int .u8 ((s.data.toList[i]).toNat : Int)][0]?
    rw [Array.getElem_toList]
    rfl
set_option maxRecDepth 100000 in
set_option maxHeartbeats 2000000 in
theorem rEncode_any {w : World} (B : Nat) (v : Value) (L : List RefA) (hv : ListAt refE w v L) (hB : B < 9223372036854775808) (hl : L.length < 1000000)
    (hm : ∀ a ∈ L, 0 ≤ a.min ∧ a.min < 9223372036854775808) (hT : (encS B L).length < 500000000) :
    Calls Try.prog 35 #[.agg #[.int .i64 (B : Int), v]] w (fun e w' => ∃ a c, e = .returned (.slice a (encS B L).length c) ∧ OwnL byE w' w.heap.size (.slice a (encS B L).length c) (encS B L) ∧ Below w.heap.size w w') := by
  obtain ⟨va, vc, rfl⟩ := hv.form
  obtain ⟨N, hN⟩ : ∃ N, L.length = N := ⟨_, rfl⟩
  have hAll := eP_all B L
  have hLe := eP_le B L.length L
  rw [hN] at hv hl hAll hLe ⊢
  obtain ⟨T, hTT⟩ : ∃ T, (encS B L).length = T := ⟨_, rfl⟩
  rw [hTT] at hT ⊢
  rw [hAll, hTT] at hLe
  obtain ⟨w1, hw1⟩ : ∃ w1, w.alloc (.cells #[.int .i64 (B : Int), .slice va N vc] 50) = w1 := ⟨_, rfl⟩
  have hx1 : w1.heap[w.heap.size]? = some (.cells #[.int .i64 (B : Int), .slice va N vc] 50 (0, 0)) := by rw [← hw1]; exact heap_alloc_new _ _
  have hb1 : Below w.heap.size w w1 := hw1 ▸ (Below.refl _ _).alloc (Nat.le_refl _) _
  have hc0 := cell_of_row w1 _ 0 _ _ _ hx1
  have hc1 := cell_of_row w1 _ 1 _ _ _ hx1
  simp only [List.getElem?_toArray, List.getElem?_cons_zero, List.getElem?_cons_succ] at hc0 hc1
  have HB1 := Lib.hid hb1
  have HV := Lib.hid (hv.below hb1)
  have HN := Lib.hid hN
  have HM := Lib.hid hm
  have HBB := Lib.hid hB
  have HNB := Lib.hid (show N < 9223372036854775808 by omega)
  have HNL := Lib.hid hl
  have HTL := Lib.hid hTT
  have HTT := Lib.hid hT
  have HALL := Lib.hid hAll
  have HLE := Lib.hid hLe
  have HO := Lib.hid (show ∀ w', Below w1.heap.size w1 w' → w'.cell? ⟨w.heap.size, 0, none⟩ = some (.int .i64 (B : Int)) ∧ w'.cell? ⟨w.heap.size, 1, none⟩ = some (.slice va N vc) from fun w' hw' =>
    ⟨(hw'.cell (p := ⟨w.heap.size, 0, none⟩) (World.block_lt_of_cell? _ _ hc0)).trans hc0, (hw'.cell (p := ⟨w.heap.size, 1, none⟩) (World.block_lt_of_cell? _ _ hc1)).trans hc1⟩)
  clear hx1 hb1 hc0 hc1 hv hN hm hB hl hTT hT hAll hLe
  go_enter Try.func35, Try.ntmps35
  go_wp2_with fail
  try rw [hw1]
  clear hw1
  refine wp_region_noPanic ?_
  refine wp_region_H (Below w1.heap.size w1) (by kernel_rfl) ?_
  have hS0 : (Below w1.heap.size w1) w1.drew := (Below.refl _ _).drew
  obtain ⟨wd, hwd⟩ : ∃ wd, w1.drew = wd := ⟨_, rfl⟩
  rw [hwd] at hS0 ⊢
  clear hwd
  refine wpAnyH_takeI (i := 0) (v := ?v1) rfl (by kernel_rfl) (by kernel_rfl) (by kernel_rfl) (fun _ _ _ h => h) (yieldsIf_run rfl (fun w' hw' => ?y1)) hS0 ?_
  case y1 => first | (go_simp; rfl) | (go_simp; done) | rfl
  simp only [Act.put, List.setIfInBounds_toArray, List.set_cons_zero, List.set_cons_succ]
  refine wpAnyH_takeI (i := 1) (v := ?v2) rfl (by kernel_rfl) (by kernel_rfl) (by kernel_rfl) (fun _ _ _ h => h) (yieldsIf_run rfl (fun w' hw' => ?y2)) hS0 ?_
  case y2 => (have hc := (HO.out w' hw').1; have hc2 := (HO.out w' hw').2; clear hw'; first | (go_simp; rfl) | (go_simp; done))
  simp only [Act.put, List.setIfInBounds_toArray, List.set_cons_zero, List.set_cons_succ]
  refine wpAnyH_takeI (i := 3) (v := ?v3) rfl (by kernel_rfl) (by kernel_rfl) (by kernel_rfl) (fun _ _ _ h => h) (yieldsIf_run rfl (fun w' hw' => ?y3)) hS0 ?_
  case y3 => first | (go_simp; rfl) | (go_simp; done) | rfl
  simp only [Act.put, List.setIfInBounds_toArray, List.set_cons_zero, List.set_cons_succ]
  refine wpAnyH_takeI (i := 4) (v := ?v4) rfl (by kernel_rfl) (by kernel_rfl) (by kernel_rfl) (fun _ _ _ h => h) (yieldsIf_run rfl (fun w' hw' => ?y4)) hS0 ?_
  case y4 => (have hc := (HO.out w' hw').1; have hc2 := (HO.out w' hw').2; clear hw'; first | (go_simp; rfl) | (go_simp; done))
  simp only [Act.put, List.setIfInBounds_toArray, List.set_cons_zero, List.set_cons_succ]
  refine wpAnyH_takeI (i := 5) (v := ?v5) rfl (by kernel_rfl) (by kernel_rfl) (by kernel_rfl) (fun _ _ _ h => h) (yieldsIf_run rfl (fun w' hw' => ?y5)) hS0 ?_
  case y5 => first | (go_simp; rfl) | (go_simp; done) | rfl
  simp only [Act.put, List.setIfInBounds_toArray, List.set_cons_zero, List.set_cons_succ]
  refine wpAnyH_do (i := 2) (by kernel_rfl) rfl rfl (fun K hK => ?_)
  go_simp
  go_at_call 57
  refine (rnumber_any B HBB.out).mono ?_
  rintro e wa ⟨na, nc, rfl, hoa, hbwa⟩
  have hSwa := hS0.trans (hbwa.mono hS0.size)
  refine hK _ _ (hSwa) ?_
  clear hK K
  try simp only [Act.put, List.setIfInBounds_toArray, List.set_cons_zero, List.set_cons_succ]
  refine wpAnyH_do (i := 6) (by kernel_rfl) rfl rfl (fun K hK => ?_)
  go_simp
  go_at_call 57
  refine (rnumber_any N HNB.out).mono ?_
  rintro e wb ⟨ma, mc, rfl, hob, hbwb⟩
  have hSwb := hSwa.trans (hbwb.mono hSwa.size)
  refine hK _ _ (hSwb) ?_
  clear hK K
  try simp only [Act.put, List.setIfInBounds_toArray, List.set_cons_zero, List.set_cons_succ]
  refine wpAnyH_do (i := 7) (by kernel_rfl) rfl rfl (fun K hK => ?_)
  have hoa2 := hoa.below hbwb
  have hz1 := hS0.size
  have hz2 := hSwa.size
  refine wp_appL byE (.tmp 9) (.tmp 13) rfl rfl hoa2 rfl hob.at_ (be8_length B) (be8_length N) (by decide) (by have := hbwb.size; have := hbwa.size; omega) (fun a2 c2 w2 ho2 hg2 hk2 => ?_)
  have hS7 : Below w1.heap.size w1 w2 := hSwb.trans ((hoa2.base (B' := w1.heap.size) (by omega)).grown_below hg2 (by have := hbwb.size; have := hbwa.size; omega))
  have HE := Lib.hid (show OwnL byE w2 w1.heap.size (.slice a2 16 c2) (eP B N L 0) ∧ Below w1.heap.size w1 w2 from ⟨by
    have h := ho2.base (B' := w1.heap.size) (by omega)
    rw [eP_zero]
    exact h, hS7⟩)
  clear hoa2 hz1 hz2 ho2 hg2 hk2 hoa hob
  refine hK _ _ (hS7) ?_
  clear hK K
  try simp only [Act.put, List.setIfInBounds_toArray, List.set_cons_zero, List.set_cons_succ]
  refine wpAnyH_takeI (i := 8) (v := ?v6) rfl (by kernel_rfl) (by kernel_rfl) (by kernel_rfl) (fun _ _ _ h => h) (yieldsIf_run rfl (fun w' hw' => ?y6)) hS7 ?_
  case y6 => first | (go_simp; rfl) | (go_simp; done) | rfl
  simp only [Act.put, List.setIfInBounds_toArray, List.set_cons_zero, List.set_cons_succ]
  refine wpAnyH_done (by kernel_rfl) ?_ _
  refine NoPanic.normal ?_
  go_wp2_with fail
  go_loopw [3, 4] (fun sv iv wr => ∃ (i n : Nat) (a' : Option Addr) (c' : Nat), i ≤ N ∧ iv = .int .i64 (i : Int) ∧ sv = .slice a' n c' ∧ Hid (n = (eP B N L i).length) ∧ Hid (OwnL byE wr w1.heap.size (.slice a' n c') (eP B N L i)) ∧ Hid (Below w1.heap.size w1 wr)) (fun _ iv _ => N - (intOf iv).toNat)
  case atStart => exact ⟨0, 16, a2, c2, Nat.zero_le _, rfl, rfl, Lib.hid (by rw [eP_zero, List.length_append, be8_length, be8_length]), Lib.hid HE.out.1, Lib.hid HE.out.2⟩
  case round =>
    obtain ⟨i, n, a', c', hi, rfl, rfl, HNE, HOW, HBW⟩ := hrel
    clear HE
    have hcl := (HO.out wr HBW.out).2
    have hNl := HNL.out
    by_cases hlt : i < N
    · have hiI : (i : Int) < (N : Int) := by omega
      have hiI0 : (0 : Int) ≤ (i : Int) := by omega
      have hlt' : i < L.length := by rw [HN.out]; exact hlt
      obtain ⟨g, off, rfl, hg, hr⟩ := (HV.out.below HBW.out).get hlt'
      have hsx := eP_succ B N hlt'
      have hmx := HM.out _ (List.getElem_mem hlt')
      have hle := HLE.out (i + 1) (by omega)
      obtain ⟨x, hx⟩ : ∃ x, L[i] = x := ⟨_, rfl⟩
      rw [hx] at hr hsx hmx
      obtain ⟨m0, hm0⟩ : ∃ m0 : Nat, x.min = (m0 : Int) := ⟨x.min.toNat, by omega⟩
      have HR := Lib.hid (show wr.rangeAt g (off + i * 34) x.cells from hr)
      have HSX := Lib.hid hsx
      have HM0 := Lib.hid hm0
      have HM1 := Lib.hid (show m0 < 9223372036854775808 by omega)
      have HTN := Lib.hid (show n + (48 + x.text.size) < 500000000 by
        have h1 := HTT.out
        have h2 := HNE.out
        rw [hsx, List.length_append, encA_length] at hle
        omega)
      clear hr hsx hmx hle hx hm0 hg hlt'
      go_wp2_with (refine wpList_load_mid rfl 37 _ rfl g (off + i * 34) rfl x.cells _ HR.out Try.underlying37 rfl sizeA ?_; refine Stop.on ?_)
      refine Stop.go ?_
      try simp only [Act.put, List.setIfInBounds_toArray, List.set_cons_zero, List.set_cons_succ]
      refine wpList_newV rfl (some 5) rfl 37 rfl zR.cells.toArray 34 (by kernel_rfl) ?_
      intro w2 x2 b2 s2
      try simp only [Act.put, List.setIfInBounds_toArray, List.set_cons_zero, List.set_cons_succ]
      refine wpList_putV rfl rfl 37 (.tmp 5) (.tmp 26) rfl _ x.cells.toArray rfl rfl 37 _ x2 sizeAA (by rw [List.size_toArray, List.size_toArray, RefA.cells_length, RefA.cells_length]) (all_oneCell_toArray (RefA.cells_one x)) ?_
      intro w3 x3 c3 s3
      try simp only [Act.put, List.setIfInBounds_toArray, List.set_cons_zero, List.set_cons_succ]
      obtain ⟨A5, hA5⟩ : ∃ A5, wr.heap.size = A5 := ⟨_, rfl⟩
      have hb3 : Below wr.heap.size wr w3 := b2.trans (c3.below (B := wr.heap.size) (fun k e => by omega) b2.size)
      have HOW3 := Lib.hid (HOW.out.below hb3)
      have HBW3 := Lib.hid (HBW.out.trans (hb3.mono HBW.out.size))
      rw [hA5] at x3 ⊢
      have HX3 := Lib.hid x3
      clear x2 b2 s2 x3 c3 s3 hb3 hA5 HOW HBW HR hcl
      go_wp2_with fail
      go_loopw [3, 6] (fun sv kv wr => ∃ (k : Nat) (a' : Option Addr) (c' : Nat), k ≤ 32 ∧ kv = .int .i64 (k : Int) ∧ sv = .slice a' (n + k) c' ∧ Hid (OwnL byE wr w1.heap.size (.slice a' (n + k) c') (eP B N L i ++ x.id.1.take k)) ∧ Hid (Below w1.heap.size w1 wr) ∧ Hid (wr.heap[A5]? = some (.cells x.cells.toArray 37 (0, 0)))) (fun _ kv _ => 32 - (intOf kv).toNat)
      case atStart => exact ⟨0, a', c', by omega, rfl, rfl, Lib.hid (by rw [List.take_zero, List.append_nil]; exact HOW3.out), Lib.hid HBW3.out, Lib.hid HX3.out⟩
      case round =>
        clear HOW3 HBW3 HX3
        obtain ⟨k, a', c', hk, rfl, rfl, HOW, HBW, HX⟩ := hrel
        by_cases hkt : k < 32
        · have hkI : (k : Int) < 32 := by omega
          have hkI0 : (0 : Int) ≤ (k : Int) := by omega
          have hkl : k < x.id.1.length := by rw [x.id.2]; exact hkt
          have htk : x.id.1.take (k + 1) = x.id.1.take k ++ [x.id.1[k]] := List.take_succ_eq_append_getElem hkl
          obtain ⟨y, hy⟩ : ∃ y, x.id.1[k] = y := ⟨_, rfl⟩
          have hck : wr.cell? ⟨A5, k, none⟩ = some (.int .u8 (y.toNat : Int)) := by
            have h := range_block HX.out k (.int .u8 (y.toNat : Int)) (by
              unfold RefA.cells
              rw [List.getElem?_append_left (by rw [bvs_length]; exact hkl)]
              unfold bvs
              rw [List.getElem?_map, List.getElem?_eq_getElem hkl, hy]
              rfl)
            rwa [Nat.zero_add] at h
          rw [hy] at htk
          have HTK := Lib.hid htk
          have HOA := Lib.hid (fun o => HOW.out.below ((Below.refl wr.heap.size wr).alloc (Nat.le_refl _) o))
          have HMA := Lib.hid (show ListAt byE (wr.alloc (.cells #[.int .u8 (y.toNat : Int)] 5)) (.slice (some ⟨wr.heap.size, 0, none⟩) 1 1) [y] from list_block1 byE (heap_alloc_new wr _))
          have HLN := Lib.hid (show (eP B N L i ++ x.id.1.take k).length = n + k by rw [List.length_append, ← HNE.out, List.length_take, x.id.2]; omega)
          clear htk hy hkl
          go_wp2_with (at_builtin; refine wpList_appL byE rfl (n := n + k) (m := 1) (.tmp 31) (.tmp 36) rfl rfl (HOA.out _) rfl HMA.out HLN.out rfl (by have := HTN.out; omega) (by have := HBW.out.size; rw [World.size_alloc]; omega) ?_; refine Stop.on ?_)
          refine Stop.go ?_
          try simp only [Act.put, List.setIfInBounds_toArray, List.set_cons_zero, List.set_cons_succ]
          intro a2 c2 w9 ho2 hg2 hk2
          try simp only [Act.put, List.setIfInBounds_toArray, List.set_cons_zero, List.set_cons_succ]
          have HE2 := Lib.hid (show OwnL byE w9 w1.heap.size (.slice a2 (n + (k + 1)) c2) (eP B N L i ++ x.id.1.take (k + 1)) ∧ Below w1.heap.size w1 w9 ∧ w9.heap[A5]? = some (.cells x.cells.toArray 37 (0, 0)) from ⟨by
              rw [HTK.out]
              first | exact ho2 | (rw [← List.append_assoc]; exact ho2), (HBW.out.alloc HBW.out.size _).trans ((HOA.out _).grown_below hg2 (by have := HBW.out.size; rw [World.size_alloc]; omega)), grown_other (HOA.out _) hg2 ((Below.heap_alloc _ _ _ (Array.getElem?_eq_some_iff.1 HX.out).1).trans HX.out) (by decide)⟩)
          clear ho2 hg2 hk2
          go_wp2_with fail
          go_roundw
          case rel => exact ⟨k + 1, a2, c2, by omega, by go_num, rfl, Lib.hid HE2.out.1, Lib.hid HE2.out.2.1, Lib.hid HE2.out.2.2⟩
          case measure => simp [intOf]; omega
        · obtain rfl : k = 32 := by omega
          have htk : x.id.1.take 32 = x.id.1 := List.take_of_length_le (by rw [x.id.2]; exact Nat.le_refl _)
          obtain ⟨L1, hL1⟩ : ∃ l, eP B N L i ++ x.id.1 = l := ⟨_, rfl⟩
          have HOW1 := Lib.hid (show OwnL byE wr w1.heap.size (.slice a' (n + 32) c') L1 from hL1 ▸ htk ▸ HOW.out)
          obtain ⟨t, ht⟩ : ∃ t, x.text = t := ⟨_, rfl⟩
          have hcf : ∀ W : World, W.heap[A5]? = some (.cells x.cells.toArray 37 (0, 0)) → W.cell? ⟨A5, 33, none⟩ = some (.int .i64 (m0 : Int)) ∧ W.cell? ⟨A5, 32, none⟩ = some (.string t) := fun W h => by
            have h33 := range_block h 33 (.int .i64 x.min) (by unfold RefA.cells; rw [List.getElem?_append_right (by rw [bvs_length, x.id.2]; decide), bvs_length, x.id.2]; rfl)
            have h32 := range_block h 32 (.string x.text) (by unfold RefA.cells; rw [List.getElem?_append_right (by rw [bvs_length, x.id.2]; decide), bvs_length, x.id.2]; rfl)
            rw [HM0.out] at h33
            rw [ht] at h32
            exact ⟨h33, h32⟩
          have HCF := Lib.hid hcf
          have HLI := Lib.hid (show L1.length = n + 32 by rw [← hL1, List.length_append, ← HNE.out, x.id.2])
          have HLL1 := Lib.hid hL1
          have HTE := Lib.hid ht
          rw [ht] at HTN
          obtain ⟨c33, c32⟩ := hcf wr HX.out
          clear htk hcf HOW ht hL1
          go_wp2_with fail
          refine (rnumber_any m0 HM1.out).mono ?_
          rintro e wa ⟨na, nc, rfl, hna, hba⟩
          have hwa := (hba.block _ (Array.getElem?_eq_some_iff.1 HX.out).1).trans HX.out
          have hoa := HOW1.out.below hba
          have HOAx := Lib.hid hoa
          have HNAx := Lib.hid (hna.at_)
          have HBAx := Lib.hid (HBW.out.trans (hba.mono HBW.out.size))
          have HWAx := Lib.hid hwa
          clear hoa hna hba hwa
          go_wp2_with (at_builtin; refine wpList_appL byE rfl (n := n + 32) (m := 8) (.tmp 38) (.tmp 41) rfl rfl HOAx.out rfl HNAx.out HLI.out (be8_length _) (by have := HTN.out; omega) (by have h1 := HBAx.out.size; omega) ?_; refine Stop.on ?_)
          refine Stop.go ?_
          try simp only [Act.put, List.setIfInBounds_toArray, List.set_cons_zero, List.set_cons_succ]
          intro ab cb wb ho2 hg2 hk2
          try simp only [Act.put, List.setIfInBounds_toArray, List.set_cons_zero, List.set_cons_succ]
          obtain ⟨Lb, hLb⟩ : ∃ l, L1 ++ be8 m0 = l := ⟨_, rfl⟩
          rw [hLb] at ho2
          have HLLb := Lib.hid hLb
          have HOWb := Lib.hid ho2
          have HBWb := Lib.hid (HBAx.out.trans (HOAx.out.grown_below hg2 (by have h1 := HBAx.out.size; omega)))
          have hx2 := grown_other HOAx.out hg2 HWAx.out (by decide)
          have HXb := Lib.hid hx2
          have HLNb := Lib.hid (show Lb.length = n + 32 + 8 by rw [← hLb, List.length_append, HLI.out, be8_length])
          clear hLb
          obtain ⟨d33, d32⟩ := HCF.out wb hx2
          clear ho2 hg2 hk2 hx2 HOAx HNAx HBAx HWAx
          go_wp2_with fail
          refine (rnumber_any t.size (by have := HTN.out; omega)).mono ?_
          rintro e wc ⟨na, nc, rfl, hna, hbc⟩
          have hwc := (hbc.block _ (Array.getElem?_eq_some_iff.1 HXb.out).1).trans HXb.out
          have hoa := HOWb.out.below hbc
          have HOAx := Lib.hid hoa
          have HNAx := Lib.hid (hna.at_)
          have HBAx := Lib.hid (HBWb.out.trans (hbc.mono HBWb.out.size))
          have HWAx := Lib.hid hwc
          clear hoa hna hbc hwc
          go_wp2_with (at_builtin; refine wpList_appL byE rfl (n := n + 32 + 8) (m := 8) (.tmp 43) (.tmp 47) rfl rfl HOAx.out rfl HNAx.out HLNb.out (be8_length _) (by have := HTN.out; omega) (by have h1 := HBAx.out.size; omega) ?_; refine Stop.on ?_)
          refine Stop.go ?_
          try simp only [Act.put, List.setIfInBounds_toArray, List.set_cons_zero, List.set_cons_succ]
          intro ad cd wd ho2 hg2 hk2
          try simp only [Act.put, List.setIfInBounds_toArray, List.set_cons_zero, List.set_cons_succ]
          obtain ⟨Ld, hLd⟩ : ∃ l, Lb ++ be8 t.size = l := ⟨_, rfl⟩
          rw [hLd] at ho2
          have HLLd := Lib.hid hLd
          have HOWd := Lib.hid ho2
          have HBWd := Lib.hid (HBAx.out.trans (HOAx.out.grown_below hg2 (by have h1 := HBAx.out.size; omega)))
          have hx2 := grown_other HOAx.out hg2 HWAx.out (by decide)
          have HXd := Lib.hid hx2
          have HLNd := Lib.hid (show Ld.length = n + 32 + 8 + 8 by rw [← hLd, List.length_append, HLNb.out, be8_length])
          clear hLd
          obtain ⟨d33, d32⟩ := HCF.out wd hx2
          clear ho2 hg2 hk2 hx2 HOAx HNAx HBAx HWAx
          obtain ⟨cv, wv, hconv, hlv, hbv⟩ := conv_bytes wd t (by have := HTN.out; unfold maxLen; omega)
          have HLV := Lib.hid hlv
          have HBV := Lib.hid hbv
          clear hlv hbv
          go_wp2_with (at_builtin; refine wpList_appL byE rfl (n := n + 32 + 8 + 8) (m := t.size) (.tmp 49) (.tmp 52) rfl rfl (HOWd.out.below HBV.out) rfl HLV.out HLNd.out (by rw [Array.length_toList]; rfl) (by have := HTN.out; omega) (by have h1 := HBWd.out.size; have h2 := HBV.out.size; omega) ?_; refine Stop.on ?_)
          refine Stop.go ?_
          try simp only [Act.put, List.setIfInBounds_toArray, List.set_cons_zero, List.set_cons_succ]
          intro a2 c2 w9 ho2 hg2 hk2
          try simp only [Act.put, List.setIfInBounds_toArray, List.set_cons_zero, List.set_cons_succ]
          have HE9 := Lib.hid (show OwnL byE w9 w1.heap.size (.slice a2 (n + 32 + 8 + 8 + t.size) c2) (eP B N L (i + 1)) ∧ Below w1.heap.size w1 w9 ∧ n + 32 + 8 + 8 + t.size = (eP B N L (i + 1)).length from ⟨by
              rw [HSX.out]
              unfold encA
              rw [HTE.out, HM0.out, Int.toNat_natCast, ← List.append_assoc, ← List.append_assoc, ← List.append_assoc, HLL1.out, HLLb.out, HLLd.out]
              exact ho2, (HBWd.out.trans (HBV.out.mono HBWd.out.size)).trans ((HOWd.out.below HBV.out).grown_below hg2 (by have h1 := HBWd.out.size; have h2 := HBV.out.size; omega)), by
              rw [HSX.out, List.length_append, encA_length, ← HNE.out, HTE.out]; omega⟩)
          clear ho2 hg2 hk2
          go_wp2_with fail
          go_roundw
          case rel =>
            iterate 43 apply Exists.intro
            refine And.intro ?_ rfl
            exact ⟨i + 1, n + 32 + 8 + 8 + t.size, a2, c2, by omega, by go_num, rfl, Lib.hid HE9.out.2.2, Lib.hid HE9.out.1, Lib.hid HE9.out.2.1⟩
          case measure => simp [intOf]; omega
    · obtain rfl : N = i := by omega
      have HE := Lib.hid (show n = T ∧ OwnL byE wr w.heap.size (.slice a' n c') (encS B L) ∧ Below w.heap.size w wr from ⟨by rw [HNE.out, HALL.out, HTL.out], by rw [← HALL.out]; exact HOW.out.base HB1.out.size, HB1.out.trans (HBW.out.mono HB1.out.size)⟩)
      go_wp2_with fail
      exact bodyPost_ret (v := .slice a' n c') (by simp [results, Try.results35, go_sem]) rfl ⟨a', c', by rw [HE.out.1], by have h := HE.out; rw [h.1] at h; exact h.2.1, HE.out.2.2⟩
end Go.Proofs.Ytnmdgjodbikndaa
