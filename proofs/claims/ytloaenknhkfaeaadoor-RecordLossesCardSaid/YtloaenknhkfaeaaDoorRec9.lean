/- Records: the reference's Seal. -/
import Derived.Test.YtloaenknhkfaeaaDoorRec8
import Derived.Test.YtloaenknhkfaeaaDoorSr5
namespace Go.Proofs.YtloaenknhkfaeaaDoor
open Go.RowKit
set_option linter.unusedVariables false
set_option linter.unusedSimpArgs false

abbrev Z32 : Array Value := #[.int .u8 0, .int .u8 0, .int .u8 0, .int .u8 0, .int .u8 0, .int .u8 0, .int .u8 0, .int .u8 0, .int .u8 0, .int .u8 0, .int .u8 0, .int .u8 0, .int .u8 0, .int .u8 0, .int .u8 0, .int .u8 0, .int .u8 0, .int .u8 0, .int .u8 0, .int .u8 0, .int .u8 0, .int .u8 0, .int .u8 0, .int .u8 0, .int .u8 0, .int .u8 0, .int .u8 0, .int .u8 0, .int .u8 0, .int .u8 0, .int .u8 0, .int .u8 0]
theorem d32Size (l : List UInt8) : (Tryd.prog.info? 92).map (·.size) = some (bvs (shaL l)).toArray.size := by
  have : (Tryd.prog.info? 92).map (·.size) = some 32 := by kernel_rfl
  rw [this, List.size_toArray, bvs_length, shaL_length]
theorem z32Size (l : List UInt8) : Z32.size = (bvs (shaL l)).toArray.size := by
  show 32 = _
  rw [List.size_toArray, bvs_length, shaL_length]
theorem slice_to32 (g : Nat) (w : World) : (Instr.sliceAt 92 (.pointer (some ⟨g, 0, none⟩)) none (some (.int .i64 16)) none).run Tryd.prog w = .ok (.slice (some ⟨g, 0, none⟩) 16 32) w := by
  simp [Instr.sliceAt, run_underlying Tryd.underlying92, Instr.sureAddr, Instr.sliceBounds, Instr.sliceBound, asIntOf, size_u8]
  rfl
theorem rSum_any {w : World} {F : Nat → Prop} (l : List UInt8) (v : Value) (hv : BytesN w F v l) (hlen : l.length < 100000000) :
    Calls Tryd.prog 56 #[v] w fun e w' => e = .returned (.agg (bvs (shaL l)).toArray) ∧ Below w.heap.size w w' := by
  refine (rsum_any l v hv hlen).mono fun e w' ⟨h1, h2⟩ => ⟨?_, h2⟩
  rw [h1, ref_sum]; rfl
theorem BytesAt.n {w : World} {F : Nat → Prop} {g off n c : Nat} {l : List UInt8} (h : BytesAt w F (.slice (some ⟨g, off, none⟩) n c) l) : BytesN w F (.slice (some ⟨g, off, none⟩) n c) l := ⟨h, fun k c e => by cases e⟩
theorem own_bytesN {w : World} {B n : Nat} {v : Value} {l : List UInt8} (h : w.ownsRow B 5 1 v n (bvs l)) : BytesN w (fun k => B ≤ k) v l := BytesN.of_own h (by simpa using h.1)
theorem own_addr {w : World} {B n s : Nat} {T : TypeId} {a : Option Addr} {k c : Nat} {xs : List Value} (h : w.ownsRow B T s (.slice a k c) n xs) (hn : 0 < n) : ∃ g, a = some ⟨g, 0, none⟩ ∧ k = n ∧ B ≤ g ∧ g < w.heap.size := by
  rcases h.2 with ⟨e, h0⟩ | ⟨g, cap, cur, e, hb, hg, _⟩
  · omega
  · cases e
    exact ⟨g, rfl, rfl, hb, (Array.getElem?_eq_some_iff.1 hg).1⟩

section
variable {ops : Array Oper} {rest : List Oper} {o : Oper} {a : Act} {Q : Exit → Act → World → Prop}
/-- Bytes behind a row of bytes, however many an argument may bring. -/
theorem wpList_appBytesBig {w : World} (hgd : o.guard = none) (s x : Operand) (ho : o.op = .call { callee := .builtin .append, args := #[s, x], argTypes := #[22, 22] })
    {B n : Nat} {v xv : Value} {F : Nat → Prop} {xs ys : List UInt8} (hs : a.eval s = v) (hown : w.ownsRow B 5 1 v n (bvs xs)) (hx : a.eval x = xv) (hb : BytesAt w F xv ys) (hnil : ∀ k c, xv = .slice none k c → c = 0)
    (hn : n + ys.length ≤ 140737488355328) (hB : B ≤ w.heap.size)
    (h : ∀ a' cap' w', w'.ownsRow B 5 1 (.slice a' (n + ys.length) cap') (n + ys.length) (bvs (xs ++ ys)) → w.grownBy w' v.ownBlock → wpList Tryd.prog ops Q rest (a.put o.dst (.slice a' (n + ys.length) cap')) w') :
    wpList Tryd.prog ops Q (o :: rest) a w := by
  obtain ⟨i0, hi, hz0, hz1, hz2⟩ := info_parts infoByte
  obtain ⟨xa, xc, rfl, hxc, hxr⟩ := hb
  cases xa with
  | none =>
    have hc0 := hnil _ _ rfl
    subst hc0
    have hy : ys = [] := List.eq_nil_of_length_eq_zero (by omega)
    subst hy
    obtain ⟨va, vc, rfl⟩ := ownsRow_form hown
    refine wpList_append_own_none hgd s x 22 ho B 5 i0 1 Tryd.underlying22 hi _ n (bvs xs) hs hown hx ?_
    have := h va vc w (by simpa using hown) ⟨rfl, rfl, rfl, Nat.le_refl _, fun _ _ _ => rfl⟩
    simpa using this
  | some ad =>
    refine wpList_append_own w hgd s x 22 ho B 5 i0 _ 1 1 Tryd.underlying22 hi hz0 hz1 hz2 rfl (by decide) v n (bvs xs) hs hown ad ys.length xc (bvs ys) hx (by simp) ?_ bvs_oneCell (by unfold maxLen; omega) (by omega) hB ?_
    · intro j u hu
      obtain ⟨g, off, e, _, _, hr⟩ := hxr (by intro e; rw [e] at hu; simp [bvs] at hu)
      cases e
      have hadd : (⟨g, off, none⟩ : Addr).add j = ⟨g, off + j, none⟩ := by unfold Addr.add; split <;> simp_all
      rw [hadd]
      exact hr j u hu
    · intro v' w' hown' hg _
      rw [← bvs_append] at hown'
      obtain ⟨a', cap', rfl⟩ := ownsRow_form hown'
      exact h a' cap' w' hown' hg
end

set_option maxRecDepth 100000 in
set_option maxHeartbeats 2000000 in
theorem Seal_any {w : World} {F : Nat → Prop} (l : List UInt8) (v : Value) (hv : BytesN w F v l) (hlen : l.length ≤ 140737488351232) :
    Calls Tryd.prog 55 #[v] w fun e w' => ∃ u, e = .returned u ∧ w'.ownsRow w.heap.size 5 1 u 256 (bvs (sealL l)) ∧ Below w.heap.size w w' := by
  obtain ⟨ba, bc, rfl⟩ := hv.at_.form
  obtain ⟨N, hN⟩ : ∃ N, l.length = N := ⟨_, rfl⟩
  have hba : Below w.heap.size w (w.alloc (.cells #[] 5)) := (Below.refl _ _).alloc (Nat.le_refl _) _
  have hbv := hv.below hba
  have ho := own_zero (w := w) (Nat.le_refl _) 5
  have hbs : w.heap.size ≤ (w.alloc (.cells #[] 5)).heap.size := hba.size
  rw [hN] at hlen hbv ⊢
  have HBA := Lib.hid hba
  have HBV := Lib.hid hbv
  have HO := Lib.hid ho
  have HBS := Lib.hid hbs
  have HN := Lib.hid hN
  clear hv hba hbv ho hbs hN
  go_enter Tryd.func55, Tryd.ntmps55
  go_wp2_with (at_builtin; refine wpList_appBytesBig (xs := []) rfl (.tmp 5) (.tmp 6) rfl rfl HO.out rfl HBV.out.at_ HBV.out.nil ?hn HBS.out ?_)
  case hn => have := HN.out; omega
  intro a' cap' w3 hO3 hg3
  try rw [HN.out] at hO3
  try rw [HN.out]
  have hB3 : Below w.heap.size w w3 := HBA.out.grown hg3 HBS.out (fun j hj => by cases hj; exact Nat.le_refl _)
  have HO3 := Lib.hid hO3
  have HB3 := Lib.hid hB3
  clear hO3 hg3 hB3
  go_wp2_with fail
  go_loopw [3] (fun pv wr => ∃ j : Nat, (0 < j → N + j ≤ 240) ∧ wr.ownsRow w.heap.size 5 1 pv (N + j) (bvs (l ++ List.replicate j 0)) ∧ Below w.heap.size w wr)
    (fun pv _ => match pv with | .slice _ n _ => 240 - n | _ => 0)
  case atStart => exact ⟨0, by omega, by rw [List.replicate_zero, List.append_nil]; exact HO3.out, HB3.out⟩
  case round =>
    obtain ⟨j, hj, hO, hB⟩ := hrel
    obtain ⟨pa, pc, rfl⟩ := ownsRow_form hO
    by_cases hlt : N + j < 240
    · have hgn := heap_alloc_new wr (.cells #[.int .u8 0] 5)
      have hba : Below wr.heap.size wr (wr.alloc (.cells #[.int .u8 0] 5)) := (Below.refl _ _).alloc (Nat.le_refl _) _
      have hgn2 : (wr.alloc (.cells #[.int .u8 0] 5)).heap[wr.heap.size]? = some (.cells #[bv 0] 5 (0, 0)) := by rw [hgn]; rfl
      have hO4 := own_kept hO hba
      have hbs : w.heap.size ≤ (wr.alloc (.cells #[.int .u8 0] 5)).heap.size := by have := hB.size; simp; omega
      have hB4 := hB.trans (hba.mono hB.size)
      have HGN := Lib.hid hgn2
      have HO4 := Lib.hid hO4
      have HB4 := Lib.hid hB4
      have HBS := Lib.hid hbs
      clear hgn hba hgn2 hO4 hB4 hbs hO hB
      go_wp2_with (at_builtin; refine wpList_appByte rfl (.tmp 11) (.tmp 12) rfl rfl HO4.out wr.heap.size rfl HGN.out (by omega) HBS.out ?_)
      intro g' cap' w5 hlt5 hown5 hgr5 hat5
      have hB5 : Below w.heap.size w w5 := HB4.out.grown hgr5 HBS.out (fun j hj => (ownsRow_lt HO4.out j hj).1)
      have HO5 := Lib.hid hown5
      have HB5 := Lib.hid hB5
      clear hown5 hgr5 hat5 hB5 HGN HO4 HB4 HBS
      go_wp2_with fail
      go_roundw
      case rel => exact ⟨j + 1, by omega, by rw [List.replicate_succ']; exact HO5.out, HB5.out⟩
      case measure => simp; omega
    · have hge : 240 ≤ N + j := by omega
      have hcapI : (240 : Int) ≤ (pc : Int) := by
        have h1 := (own_bytes hO).len
        omega
      have hc0 : ¬ pc = 0 := by omega
      have hpad : (l ++ List.replicate j 0).take 240 = padZ l := by
        unfold padZ
        rw [HN.out]
        by_cases h0 : j = 0
        · subst h0
          rw [List.replicate_zero, List.append_nil, Nat.sub_eq_zero_of_le (by omega), List.replicate_zero, List.append_nil]
        · have := hj (by omega)
          have e : 240 - N = j := by omega
          rw [e]
      obtain ⟨pg, rfl, _, hpg, hpl⟩ := own_addr hO (by omega)
      have hlen2 : (l ++ List.replicate j 0).length = N + j := by simp [HN.out]
      have hbp0 := own_bytes hO
      rw [← hlen2] at hbp0
      have hbp := hbp0.part 0 240 pc (by omega) (by omega)
      rw [List.drop_zero, Nat.add_zero, hpad] at hbp
      have hsum := rSum_any (padZ l) _ hbp.n (by rw [padZ_length]; omega)
      have HSUM := Lib.hid hsum
      have HBP := Lib.hid hbp
      have HB := Lib.hid hB
      clear hj hO hB hpad hlen2 hbp0 hbp hsum HO3 HB3 HBV HO HBS HBA
      go_wp2_with fail
      refine HSUM.out.mono ?_
      rintro e w6 ⟨rfl, hb6⟩
      obtain ⟨w7, hw7⟩ : ∃ w7, w6.alloc (.cells (bvs (shaL (padZ l))).toArray 92) = w7 := ⟨_, rfl⟩
      have hb7 : Below w6.heap.size w6 w7 := hw7 ▸ (Below.refl _ _).alloc (Nat.le_refl _) _
      have hq7 : w7.heap.size = w6.heap.size + 1 := by rw [← hw7]; simp
      have hm7 : w7.heap[w6.heap.size]? = some (.cells (bvs (shaL (padZ l))).toArray 92 (0, 0)) := by rw [← hw7]; exact heap_alloc_new _ _
      have hbd7 := (HB.out.trans (hb6.mono HB.out.size)).trans (hb7.mono (Nat.le_trans HB.out.size hb6.size))
      have hsz := d32Size (padZ l)
      have hzs := z32Size (padZ l)
      have hnw := heap_alloc_new w6 (.cells Z32 92)
      have hsl := fun w => slice_to32 w6.heap.size w
      obtain ⟨w8, hw8⟩ : ∃ w8, w7.alloc (.cells #[] 5) = w8 := ⟨_, rfl⟩
      have hb8 : Below w7.heap.size w7 w8 := hw8 ▸ (Below.refl _ _).alloc (Nat.le_refl _) _
      have ho8 := hw8 ▸ own_zero (w := w7) hbd7.size 5
      have hbs8 := block_bytes ((hb8.block _ (by omega)).trans hm7) 0 16 32 (by simp) (by omega)
      have eh : ((shaL (padZ l)).drop 0).take 16 = halfL (padZ l) := rfl
      rw [eh] at hbs8
      have hbd8 := hbd7.trans (hb8.mono hbd7.size)
      have hbp8 := ((HBP.out.here.below hb6).below hb7).below hb8
      have hq6 : wr.heap.size ≤ w6.heap.size := hb6.size
      have HQ6 := Lib.hid hq6
      have HSZ := Lib.hid hsz
      have HZS := Lib.hid hzs
      have HNW := Lib.hid hnw
      have HW7 := Lib.hid hw7
      have HW8 := Lib.hid hw8
      have HO8 := Lib.hid ho8
      have HBS8 := Lib.hid hbs8
      have HBD8 := Lib.hid hbd8
      have HBP8 := Lib.hid hbp8
      clear hq6 hb6 hw7 hb7 hq7 hm7 hbd7 hsz hzs hnw hw8 hb8 ho8 hbs8 eh hbd8 hbp8
      go_wp2_with (first | (with_reducible refine wpList_store_row rfl 92 _ _ rfl w6.heap.size (bvs (shaL (padZ l))).toArray rfl rfl 92 _ HNW.out HSZ.out HZS.out (oneCell_bvs _) ?_; rw [World.setRow_alloc_new, HW7.out]) | (at_builtin; rw [HW8.out]; refine wpList_appBytes (xs := []) rfl (.tmp 18) (.tmp 19) rfl rfl HO8.out rfl HBS8.out (fun k c e => by cases e) (by simp) HBD8.out.size ?_))
      intro a9 cap9 w9 hO9 hg9
      have hB9 : Below w.heap.size w w9 := HBD8.out.grown hg9 HBD8.out.size (fun j hj => (ownsRow_lt HO8.out j hj).1)
      have hq8 : w6.heap.size < w7.heap.size := by rw [← HW7.out]; simp
      have hq6 := HQ6.out
      have hbp9 : BytesAt w9 (fun k => k < w7.heap.size) (.slice (some ⟨pg, 0, none⟩) 240 pc) (padZ l) := by
        refine (HBP8.out.mono (G := fun k => k < w7.heap.size) (fun k (hk : k < wr.heap.size) => by omega)).kept (G := fun k => k = w7.heap.size) (Chg.grown hg9 (fun k hk => .inl (by cases hk; rfl))) (fun k hk h => by have : k < w7.heap.size := hk; have : k = w7.heap.size := h; omega)
      have hO9' : w9.ownsRow w.heap.size 5 1 (.slice a9 16 cap9) 16 (bvs (halfL (padZ l))) := by simpa using hO9
      have HO9 := Lib.hid (ownsRow_base hO9' (Nat.le_refl _))
      have HB9 := Lib.hid hB9
      have HBP9 := Lib.hid hbp9
      clear hO9 hO9' hg9 hB9 hbp9
      go_wp2_with (at_builtin; refine wpList_appBytes rfl (.tmp 20) (.tmp 21) rfl rfl HO9.out rfl HBP9.out (fun k c e => by cases e) (by rw [padZ_length]; omega) HB9.out.size ?_)
      intro a10 cap10 w10 hO10 hg10
      have hB10 : Below w.heap.size w w10 := HB9.out.grown hg10 HB9.out.size (fun j hj => (ownsRow_lt HO9.out j hj).1)
      rw [padZ_length] at hO10 ⊢
      have HO10 := Lib.hid hO10
      have HB10 := Lib.hid hB10
      clear hO10 hg10 hB10
      go_wp2_with fail
      go_ret
      exact ⟨_, rfl, HO10.out, HB10.out⟩

end Go.Proofs.YtloaenknhkfaeaaDoor
