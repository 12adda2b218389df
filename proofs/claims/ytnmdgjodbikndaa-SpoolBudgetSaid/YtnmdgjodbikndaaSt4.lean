/- The stable sort, plainly: index maps of exchanges and rotations; The stable sort: swapRange; The stable sort: rotate; The stable sort, plainly: what symMerge's steps do. -/
import Derived.Test.YtnmdgjodbikndaaS21
import Derived.Shelf.SlSortCmp.KitK
import Derived.Sort.WalkB2
import Derived.Sort.WalkB12
import Derived.Test.YtnmdgjodbikndaaRegion6
namespace Go.Proofs.Ytnmdgjodbikndaa
open Go.RowKit Go.Sort
set_option linter.unusedVariables false
set_option linter.unusedSimpArgs false

abbrev TA := ArtD × Nat
instance : Inhabited ArtD := ⟨zA⟩
def encT (x : TA) : List Value := entC x.1
def cfT (x y : TA) : Int := cmpA x.1 y.1
theorem encT_len (x : TA) : (encT x).length = 34 := entC_length x.1
/-- The places that an exchange of [a, a+n) with [b, b+n) reads. -/
def swI (a b n k : Nat) : Nat := if a ≤ k ∧ k < a + n then k - a + b else if b ≤ k ∧ k < b + n then k - b + a else k
/-- .. a rotation of [a, b) at m. -/
def rotI (a m b k : Nat) : Nat := if a ≤ k ∧ k < a + (b - m) then k + (m - a) else if a + (b - m) ≤ k ∧ k < b then k - (b - m) else k
/-- d' is d behind an index map. -/
def Via (f : Nat → Nat) (lo hi : Nat) (d d' : Array TA) : Prop := (∀ k, d'[k]! = d[f k]!) ∧ PermIn lo hi d d'
theorem Via.size {f : Nat → Nat} {lo hi : Nat} {d d' : Array TA} (h : Via f lo hi d d') : d'.size = d.size := h.2.1
theorem swp_at (d : Array TA) {i j : Nat} (hi : i < d.size) (hj : j < d.size) (hij : i ≠ j) (k : Nat) : (swp d i j)[k]! = d[if k = i then j else if k = j then i else k]! := by
  by_cases h1 : k = i
  · subst h1; rw [if_pos rfl, swp_left d _ _ hi hij]
  · by_cases h2 : k = j
    · subst h2; rw [if_neg h1, if_pos rfl, swp_right d _ _ hj]
    · rw [if_neg h1, if_neg h2, swp_other d _ _ _ h1 h2]
theorem via_swap_next {a b n i lo hi : Nat} {d d' : Array TA} (h : Via (swI a b i) lo hi d d') (hin : i < n) (hab : a + n ≤ b) (hlo : lo ≤ a) (hhi : b + n ≤ hi) (hs : hi ≤ d.size) : Via (swI a b (i + 1)) lo hi d (swp d' (a + i) (b + i)) := by
  have hsz := h.size
  refine ⟨fun k => ?_, permIn_trans _ _ _ _ _ h.2 (swp_permIn d' lo hi (a + i) (b + i) (by omega) (by omega) (by omega) (by omega) (by omega))⟩
  rw [swp_at d' (by omega) (by omega) (by omega), h.1]
  congr 1
  unfold swI
  repeat' split
  all_goals omega
theorem via_refl (lo hi : Nat) (d : Array TA) : Via (fun k => k) lo hi d d := ⟨fun _ => rfl, permIn_refl _ _ _⟩
theorem swI_zero (a b : Nat) : swI a b 0 = fun k => k := by
  funext k
  unfold swI
  repeat' split
  all_goals omega
theorem Via.trans {f g : Nat → Nat} {lo hi lo' hi' : Nat} {d d1 d2 : Array TA} (h1 : Via f lo hi d d1) (h2 : Via g lo' hi' d1 d2) (hlo : lo ≤ lo') (hhi : hi' ≤ hi) (hs : hi ≤ d.size) : Via (fun k => f (g k)) lo hi d d2 :=
  ⟨fun k => by rw [h2.1, h1.1], permIn_trans _ _ _ _ _ h1.2 (permIn_mono _ _ _ _ _ _ hlo hhi (by rw [h1.size]; exact hs) h2.2)⟩
theorem Via.congr {f g : Nat → Nat} {lo hi : Nat} {d d' : Array TA} (h : Via f lo hi d d') (e : ∀ k, f k = g k) : Via g lo hi d d' := ⟨fun k => by rw [h.1, e], h.2⟩
theorem Via.wide {f : Nat → Nat} {lo hi lo' hi' : Nat} {d d' : Array TA} (h : Via f lo hi d d') (h1 : lo' ≤ lo) (h2 : hi ≤ hi') (hs : hi' ≤ d.size) : Via f lo' hi' d d' := ⟨h.1, permIn_mono _ _ _ _ _ _ h1 h2 hs h.2⟩
/-- The step of a rotation: the left part is longer. -/
theorem rot_left {m i j k : Nat} (hi : i ≤ m) (h : j < i) : swI (m - i) m j (rotI (m - (i - j)) m (m + j) k) = rotI (m - i) m (m + j) k := by
  unfold rotI swI
  repeat' split
  all_goals omega
theorem rot_right {m i j k : Nat} (hi : i ≤ m) (h : i < j) : swI (m - i) (m + j - i) i (rotI (m - i) m (m + (j - i)) k) = rotI (m - i) m (m + j) k := by
  unfold rotI swI
  repeat' split
  all_goals omega
theorem rot_end {m i k : Nat} (hi : i ≤ m) : swI (m - i) m i k = rotI (m - i) m (m + i) k := by
  unfold rotI swI
  repeat' split
  all_goals omega
end Go.Proofs.Ytnmdgjodbikndaa

namespace Go.Proofs.Ytnmdgjodbikndaa
open Go.RowKit Go.Sort Go.Shelf
set_option linter.unusedVariables false
set_option linter.unusedSimpArgs false

variable {w0 W : World} {blk off : Nat} {d0 dk : Array TA}
theorem encT_size (x : TA) : (encT x).toArray.size = 34 := by rw [List.size_toArray]; exact encT_len x
theorem sizeEntT (x : TA) : (Try.prog.info? 44).map (·.size) = some (encT x).length := by rw [encT_len]; kernel_rfl
theorem sizeEntA' (x : TA) : (Try.prog.info? 44).map (·.size) = some (encT x).toArray.size := by rw [List.size_toArray]; exact sizeEntT x
theorem oneEnt (x : TA) : (encT x).toArray.all (·.oneCell') = true := all_oneCell_toArray (entC_one x.1)
theorem _root_.Go.Proofs.SWK.range {i : Nat} (h : SWK encT 34 w0 blk off dk W) (R : RowK encT 34 w0 blk off d0) (hs : dk.size = d0.size) (hi : i < dk.size) : W.rangeAt blk (off + i * 34) (encT dk[i]!) := fun j v hv => by
  have := HoldsK.cells (h.holds R.hblk R.hH hs) R.hk hi j v hv
  rwa [Addr.add_mid] at this
theorem _root_.Go.Proofs.SWK.there {i n : Nat} (h : SWK encT 34 w0 blk off dk W) (R : RowK encT 34 w0 blk off d0) (hs : dk.size = d0.size) (hi : i < dk.size) (hn : n = 34) : W.there blk (off + i * 34) n := fun j hj => by
  have := (h.holds R.hblk R.hH hs).cell hi (show j < 34 by omega)
  rw [this.1, this.2]
  exact ⟨rfl, rfl⟩
theorem _root_.Go.Proofs.SWK.there2 {i j n : Nat} {x : TA} (h : SWK encT 34 w0 blk off dk W) (R : RowK encT 34 w0 blk off d0) (hs : dk.size = d0.size) (hi : i < dk.size) (hj : j < dk.size) (hij : i ≠ j) (hn : n = 34) : (W.setCells blk (off + i * 34) (encT x).toArray.toList).there blk (off + j * 34) n := fun c hc => by
  have h0 := (h.holds R.hblk R.hH hs).cell hj (show c < 34 by omega)
  have hr := World.rangeAt_setCells_apart (h.range R hs hj) blk (off + i * 34) (encT x).toArray.toList (.inr (by
    have h1 : (encT x).toArray.toList.length = 34 := encT_len x
    have h2 : (encT dk[j]!).length = 34 := encT_len _
    rw [h1, h2]
    omega))
  have h3 := hr c (encT dk[j]!)[c]! (by rw [getElem!_pos _ c (by rw [encT_len]; omega)]; exact List.getElem?_eq_getElem _)
  rw [h3, World.frozen?_setCells, h0.2]
  exact ⟨rfl, rfl⟩
theorem _root_.Go.Proofs.SWK.swapT (h : SWK encT 34 w0 blk off dk W) (R : RowK encT 34 w0 blk off d0) (i j : Nat) (hi : i < dk.size) (hj : j < dk.size) :
    SWK encT 34 w0 blk off (swp dk i j) ((W.setCells blk (off + i * 34) (encT dk[j]!).toArray.toList).setCells blk (off + j * 34) (encT dk[i]!).toArray.toList) := h.swap R.hk R.hblk i j hi hj
theorem cmpT {w : World} (h : SWK encT 34 w0 blk off dk w) (x y : TA) : Calls Try.prog 40 #[.agg (encT x).toArray, .agg (encT y).toArray] w fun e w' => e = .returned (.int .i64 (cfT x y)) ∧ SWK encT 34 w0 blk off dk w' :=
  (oldCmp x.1 y.1 w).mono fun e w' hh => by
    obtain ⟨he, q, os, rfl⟩ := hh
    exact ⟨he, h.grown q os⟩

theorem mixedTry : Try.prog.follows .mixedOrders = true := by kernel_rfl
set_option maxRecDepth 1000000 in
set_option maxHeartbeats 2000000 in
theorem swapRange_any {w0 w : World} {blk off cap : Nat} {d0 d : Array TA} (R : RowK encT 34 w0 blk off d0) (hs : d0.size = d.size) (S : SWK encT 34 w0 blk off d w) (a b n hi : Nat) (hab : a + n ≤ b) (hb : b + n ≤ hi) (hhi : hi ≤ d.size) (hsz : d.size < 1000000000) (fv : Value) :
    Calls Try.prog 83 #[.slice (some ⟨blk, off, none⟩) d.size cap, .int .i64 (a : Int), .int .i64 (b : Int), .int .i64 (n : Int), fv] w fun e w' => e = .returned (.tuple #[]) ∧ ∃ d', SWK encT 34 w0 blk off d' w' ∧ Via (swI a b n) a hi d d' := by
  have mixed := mixedTry
  have aE := isAggEnt
  have zE := sizeOfEnt
  obtain ⟨N, hN⟩ : ∃ N, d.size = N := ⟨_, rfl⟩
  rw [hN] at hs hhi hsz ⊢
  have S0 := Lib.hid S
  clear S
  go_enter Try.func83, Try.ntmps83
  go_wp2_with fail
  go_loopw [10] (fun iv wr => ∃ (i : Nat) (dk : Array TA), i ≤ n ∧ iv = .int .i64 (i : Int) ∧ Hid (SWK encT 34 w0 blk off dk wr) ∧ Via (swI a b i) a hi d dk) (fun iv _ => n - (intOf iv).toNat)
  case atStart => exact ⟨0, d, Nat.zero_le _, rfl, S0, by rw [swI_zero]; exact via_refl _ _ _⟩
  case round =>
    clear S0
    obtain ⟨i, dk, hi', rfl, S1, hv⟩ := hrel
    have hds := hv.size
    rw [hN] at hds
    by_cases hlt : i < n
    · have hiI : (i : Int) < (n : Int) := by omega
      have HV := via_swap_next hv hlt hab (Nat.le_refl _) hb (by omega)
      obtain ⟨p, hp⟩ : ∃ p, a + i = p := ⟨_, rfl⟩
      obtain ⟨q, hq⟩ : ∃ q, b + i = q := ⟨_, rfl⟩
      rw [hp, hq] at HV
      have HV := Lib.hid HV
      have hw1 : IntKind.i64.wrap ((a : Int) + (i : Int)) = (p : Int) := (IntWalk.i64_in _ (by omega)).trans (by omega)
      have hw2 : IntKind.i64.wrap ((b : Int) + (i : Int)) = (q : Int) := (IntWalk.i64_in _ (by omega)).trans (by omega)
      clear hv
      have pI : (p : Int) < (N : Int) := by omega
      have qI : (q : Int) < (N : Int) := by omega
      have p0 : (0 : Int) ≤ (p : Int) := by omega
      have q0 : (0 : Int) ≤ (q : Int) := by omega
      go_wp2_with fail
      refine wp_region_noPanic ?_
      refine wp_region_G [21, 23] (SWK encT 34 w0 blk off dk) (by kernel_rfl) ?_
      have hS0 : (SWK encT 34 w0 blk off dk) wr.drew := S1.out.drew
      obtain ⟨wd, hwd⟩ : ∃ wd, wr.drew = wd := ⟨_, rfl⟩
      rw [hwd] at hS0 ⊢
      clear hwd
      refine wpAnyG_pure (i := 0) (v := ?v1) rfl (by kernel_rfl) (by kernel_rfl) (by kernel_rfl) (by kernel_rfl) (fun _ _ _ h => h) (yieldsIf_run rfl (fun w' hw' => ?y1)) (fun _ => hS0) ?_
      case y1 => first | (go_simp; rfl) | (go_simp; done) | rfl
      simp only [Act.put, List.setIfInBounds_toArray, List.set_cons_zero, List.set_cons_succ]
      refine wpAnyG_pure (i := 1) (v := ?v2) rfl (by kernel_rfl) (by kernel_rfl) (by kernel_rfl) (by kernel_rfl) (fun _ _ _ h => h) (yieldsIf_run rfl (fun w' hw' => ?y2)) (fun _ => hS0) ?_
      case y2 => first | (go_simp; rfl) | (go_simp; done) | rfl
      simp only [Act.put, List.setIfInBounds_toArray, List.set_cons_zero, List.set_cons_succ]
      refine wpAnyG_pure (i := 2) (v := ?v3) rfl (by kernel_rfl) (by kernel_rfl) (by kernel_rfl) (by kernel_rfl) (fun _ _ _ h => h) (yieldsIf_run rfl (fun w' hw' => ?y3)) (fun _ => hS0) ?_
      case y3 => first | (go_simp; rfl) | (go_simp; done) | rfl
      simp only [Act.put, List.setIfInBounds_toArray, List.set_cons_zero, List.set_cons_succ]
      refine wpAnyG_pure (i := 3) (v := ?v4) rfl (by kernel_rfl) (by kernel_rfl) (by kernel_rfl) (by kernel_rfl) (fun _ _ _ h => h) (yieldsIf_run rfl (fun w' hw' => ?y4)) (fun _ => hS0) ?_
      case y4 => first | (go_simp; rfl) | (go_simp; done) | rfl
      simp only [Act.put, List.setIfInBounds_toArray, List.set_cons_zero, List.set_cons_succ]
      refine wpAnyG_pure (i := 4) (v := ?v5) rfl (by kernel_rfl) (by kernel_rfl) (by kernel_rfl) (by kernel_rfl) (fun _ _ _ h => h) (yieldsIf_run rfl (fun w' hw' => ?y5)) (fun _ => hS0) ?_
      case y5 => first | (go_simp; rfl) | (go_simp; done) | rfl
      simp only [Act.put, List.setIfInBounds_toArray, List.set_cons_zero, List.set_cons_succ]
      refine wpAnyG_pure (i := 5) (v := ?v6) rfl (by kernel_rfl) (by kernel_rfl) (by kernel_rfl) (by kernel_rfl) (fun _ _ _ h => h) (yieldsIf_run rfl (fun w' hw' => ?y6)) (fun _ => hS0) ?_
      case y6 => first | (go_simp; rfl) | (go_simp; done) | rfl
      simp only [Act.put, List.setIfInBounds_toArray, List.set_cons_zero, List.set_cons_succ]
      refine wpAnyG_pure (i := 6) (v := ?v7) rfl (by kernel_rfl) (by kernel_rfl) (by kernel_rfl) (by kernel_rfl) (fun _ _ _ h => h) (yieldsIf_run rfl (fun w' hw' => ?y7)) (fun _ => hS0) ?_
      case y7 => first | (go_simp; rfl) | (go_simp; done) | rfl
      simp only [Act.put, List.setIfInBounds_toArray, List.set_cons_zero, List.set_cons_succ]
      refine wpAnyG_pure (i := 7) (v := ?v8) rfl (by kernel_rfl) (by kernel_rfl) (by kernel_rfl) (by kernel_rfl) (fun _ _ _ h => h) (yieldsIf_run rfl (fun w' hw' => ?y8)) (fun _ => hS0) ?_
      case y8 => first | (go_simp; rfl) | (go_simp; done) | rfl
      simp only [Act.put, List.setIfInBounds_toArray, List.set_cons_zero, List.set_cons_succ]
      refine wpAnyG_pure (i := 8) (v := ?v9) rfl (by kernel_rfl) (by kernel_rfl) (by kernel_rfl) (by kernel_rfl) (fun _ _ _ h => h) (yieldsIf_run rfl (fun w' hw' => ?y9)) (fun _ => hS0) ?_
      case y9 => first | (go_simp; rfl) | (go_simp; done) | rfl
      simp only [Act.put, List.setIfInBounds_toArray, List.set_cons_zero, List.set_cons_succ]
      refine wpAnyG_pure (i := 9) (v := ?v10) rfl (by kernel_rfl) (by kernel_rfl) (by kernel_rfl) (by kernel_rfl) (fun _ _ _ h => h) (yieldsIf_run rfl (fun w' hw' => ?y10)) (fun _ => hS0) ?_
      case y10 => first | (go_simp; rfl) | (go_simp; done) | rfl
      simp only [Act.put, List.setIfInBounds_toArray, List.set_cons_zero, List.set_cons_succ]
      refine wpAnyG_pure (i := 10) (v := ?v11) rfl (by kernel_rfl) (by kernel_rfl) (by kernel_rfl) (by kernel_rfl) (fun _ _ _ h => h) (yieldsIf_run rfl (fun w' hw' => ?y11)) (fun _ => hS0) ?_
      case y11 => first | (go_simp; rfl) | (go_simp; done) | rfl
      simp only [Act.put, List.setIfInBounds_toArray, List.set_cons_zero, List.set_cons_succ]
      refine wpAnyG_pure (i := 11) (v := ?v12) rfl (by kernel_rfl) (by kernel_rfl) (by kernel_rfl) (by kernel_rfl) (fun _ _ _ h => h) (yieldsIf_run rfl (fun w' hw' => ?y12)) (fun _ => hS0) ?_
      case y12 => first | (go_simp; rfl) | (go_simp; done) | rfl
      simp only [Act.put, List.setIfInBounds_toArray, List.set_cons_zero, List.set_cons_succ]
      refine wpAnyG_pure (i := 12) (v := ?v13) rfl (by kernel_rfl) (by kernel_rfl) (by kernel_rfl) (by kernel_rfl) (fun _ _ _ h => h) (yieldsIf_run rfl (fun w' hw' => ?y13)) (fun _ => hS0) ?_
      case y13 => first | (go_simp; rfl) | (go_simp; done) | rfl
      simp only [Act.put, List.setIfInBounds_toArray, List.set_cons_zero, List.set_cons_succ]
      refine wpAnyG_takeZ (i := 13) (v := .agg (encT dk[q]!).toArray) rfl (by kernel_rfl) (by kernel_rfl) (by kernel_rfl) (by kernel_rfl) (fun _ _ _ h => h) (yieldsIf_load_mid rfl 44 (.tmp 28) rfl blk (off + q * 34) rfl (encT dk[q]!) _ (fun w' hw' => hw'.range R (by omega) (by omega)) Try.underlying44 rfl (sizeEntT _)) hS0 ?_
      simp only [Act.put, List.setIfInBounds_toArray, List.set_cons_zero, List.set_cons_succ]
      refine wpAnyG_pure (i := 14) (v := ?v14) rfl (by kernel_rfl) (by kernel_rfl) (by kernel_rfl) (by kernel_rfl) (fun _ _ _ h => h) (yieldsIf_run rfl (fun w' hw' => ?y14)) (fun _ => hS0) ?_
      case y14 => first | (go_simp; rfl) | (go_simp; done) | rfl
      simp only [Act.put, List.setIfInBounds_toArray, List.set_cons_zero, List.set_cons_succ]
      refine wpAnyG_pure (i := 15) (v := ?v15) rfl (by kernel_rfl) (by kernel_rfl) (by kernel_rfl) (by kernel_rfl) (fun _ _ _ h => h) (yieldsIf_run rfl (fun w' hw' => ?y15)) (fun _ => hS0) ?_
      case y15 => first | (go_simp; rfl) | (go_simp; done) | rfl
      simp only [Act.put, List.setIfInBounds_toArray, List.set_cons_zero, List.set_cons_succ]
      refine wpAnyG_pure (i := 16) (v := ?v16) rfl (by kernel_rfl) (by kernel_rfl) (by kernel_rfl) (by kernel_rfl) (fun _ _ _ h => h) (yieldsIf_run rfl (fun w' hw' => ?y16)) (fun _ => hS0) ?_
      case y16 => first | (go_simp; rfl) | (go_simp; done) | rfl
      simp only [Act.put, List.setIfInBounds_toArray, List.set_cons_zero, List.set_cons_succ]
      refine wpAnyG_pure (i := 17) (v := ?v17) rfl (by kernel_rfl) (by kernel_rfl) (by kernel_rfl) (by kernel_rfl) (fun _ _ _ h => h) (yieldsIf_run rfl (fun w' hw' => ?y17)) (fun _ => hS0) ?_
      case y17 => first | (go_simp; rfl) | (go_simp; done) | rfl
      simp only [Act.put, List.setIfInBounds_toArray, List.set_cons_zero, List.set_cons_succ]
      refine wpAnyG_pure (i := 18) (v := ?v18) rfl (by kernel_rfl) (by kernel_rfl) (by kernel_rfl) (by kernel_rfl) (fun _ _ _ h => h) (yieldsIf_run rfl (fun w' hw' => ?y18)) (fun _ => hS0) ?_
      case y18 => first | (go_simp; rfl) | (go_simp; done) | rfl
      simp only [Act.put, List.setIfInBounds_toArray, List.set_cons_zero, List.set_cons_succ]
      refine wpAnyG_takeZ (i := 19) (v := .agg (encT dk[p]!).toArray) rfl (by kernel_rfl) (by kernel_rfl) (by kernel_rfl) (by kernel_rfl) (fun _ _ _ h => h) (yieldsIf_load_mid rfl 44 (.tmp 34) rfl blk (off + p * 34) rfl (encT dk[p]!) _ (fun w' hw' => hw'.range R (by omega) (by omega)) Try.underlying44 rfl (sizeEntT _)) hS0 ?_
      simp only [Act.put, List.setIfInBounds_toArray, List.set_cons_zero, List.set_cons_succ]
      refine wpAnyG_pure (i := 20) (v := ?v19) rfl (by kernel_rfl) (by kernel_rfl) (by kernel_rfl) (by kernel_rfl) (fun _ _ _ h => h) (yieldsIf_run rfl (fun w' hw' => ?y19)) (fun _ => hS0) ?_
      case y19 => first | (go_simp; rfl) | (go_simp; done) | rfl
      simp only [Act.put, List.setIfInBounds_toArray, List.set_cons_zero, List.set_cons_succ]
      refine wpAnyG_fin (i := 21) (by kernel_rfl) rfl rfl (by kernel_rfl) (fun K hK => ?_)
      refine wp_store_mid 44 (.tmp 36) (.tmp 29) rfl blk (off + p * 34) (encT dk[q]!).toArray rfl rfl (hS0.there R (by omega) (by omega) (encT_size _)) (sizeEntA' _) (oneEnt _) ?_
      refine hK _ _ ?_
      clear hK K
      try simp only [Act.put, List.setIfInBounds_toArray, List.set_cons_zero, List.set_cons_succ]
      refine wpAnyG_late (i := 22) (v := ?v20) rfl (by kernel_rfl) (by kernel_rfl) (by kernel_rfl) (by kernel_rfl) (by kernel_rfl) (fun _ _ _ h => h) (yieldsIf_run rfl (fun w' hw' => ?y20)) ?_
      case y20 => first | (go_simp; rfl) | (go_simp; done) | rfl
      simp only [Act.put, List.setIfInBounds_toArray, List.set_cons_zero, List.set_cons_succ]
      refine wpAnyG_fin (i := 23) (by kernel_rfl) rfl rfl (by kernel_rfl) (fun K hK => ?_)
      refine wp_store_mid 44 (.tmp 37) (.tmp 35) rfl blk (off + q * 34) (encT dk[p]!).toArray rfl rfl (hS0.there2 R (by omega) (by omega) (by omega) (by omega) (encT_size _)) (sizeEntA' _) (oneEnt _) ?_
      have hsw := hS0.swapT R p q (by omega) (by omega)
      obtain ⟨wz, hwz⟩ : ∃ wz, World.setCells (World.setCells wd blk (off + p * 34) (encT dk[q]!).toArray.toList) blk (off + q * 34) (encT dk[p]!).toArray.toList = wz := ⟨_, rfl⟩
      rw [hwz] at hsw ⊢
      clear hwz
      refine hK _ _ ?_
      clear hK K
      try simp only [Act.put, List.setIfInBounds_toArray, List.set_cons_zero, List.set_cons_succ]
      refine wpAnyG_done (by kernel_rfl) ?_ _
      refine NoPanic.normal ?_
      have S2 := Lib.hid hsw
      clear hS0 hsw
      clear S1 hp hq
      go_wp2_with fail
      go_roundw
      case rel => exact ⟨i + 1, _, by omega, by go_num, S2, HV.out⟩
      case measure => simp [intOf]; omega
    · obtain rfl : n = i := by omega
      go_wp2_with fail
      go_end0
      exact ⟨rfl, dk, S1.out, hv⟩
end Go.Proofs.Ytnmdgjodbikndaa

namespace Go.Proofs.Ytnmdgjodbikndaa
open Go.RowKit Go.Sort Go.Shelf
set_option linter.unusedVariables false
set_option linter.unusedSimpArgs false

set_option maxRecDepth 1000000 in
set_option maxHeartbeats 2000000 in
theorem rotate_any {w0 w : World} {blk off cap : Nat} {d0 d : Array TA} (R : RowK encT 34 w0 blk off d0) (hs : d0.size = d.size) (S : SWK encT 34 w0 blk off d w) (a m b : Nat) (ham : a < m) (hmb : m < b) (hb : b ≤ d.size) (hsz : d.size < 1000000000) (fv : Value) :
    Calls Try.prog 77 #[.slice (some ⟨blk, off, none⟩) d.size cap, .int .i64 (a : Int), .int .i64 (m : Int), .int .i64 (b : Int), fv] w fun e w' => e = .returned (.tuple #[]) ∧ ∃ d', SWK encT 34 w0 blk off d' w' ∧ Via (rotI a m b) a b d d' := by
  obtain ⟨N, hN⟩ : ∃ N, d.size = N := ⟨_, rfl⟩
  rw [hN] at hs hb hsz ⊢
  have S0 := Lib.hid S
  clear S
  have hw1 : IntKind.i64.wrap ((m : Int) - (a : Int)) = ((m - a : Nat) : Int) := (IntWalk.i64_in _ (by omega)).trans (by omega)
  have hw2 : IntKind.i64.wrap ((b : Int) - (m : Int)) = ((b - m : Nat) : Int) := (IntWalk.i64_in _ (by omega)).trans (by omega)
  go_enter Try.func77, Try.ntmps77
  go_wp2_with fail
  clear hw1 hw2
  go_loopw [10, 11] (fun iv jv wr => ∃ (i j : Nat) (dk : Array TA) (f : Nat → Nat), 0 < i ∧ 0 < j ∧ i + a ≤ m ∧ m + j ≤ b ∧ iv = .int .i64 (i : Int) ∧ jv = .int .i64 (j : Int) ∧ Hid (SWK encT 34 w0 blk off dk wr) ∧ Via f a b d dk ∧ Hid (∀ k, f (rotI (m - i) m (m + j) k) = rotI a m b k)) (fun iv jv _ => (intOf iv).toNat + (intOf jv).toNat)
  case atStart => exact ⟨m - a, b - m, d, fun k => k, by omega, by omega, by omega, by omega, by go_num, by go_num, S0, via_refl _ _ _, Lib.hid (fun k => by rw [show m - (m - a) = a by omega, show m + (b - m) = b by omega])⟩
  case round =>
    clear S0
    obtain ⟨i, j, dk, f, hi0, hj0, hia, hjb, rfl, rfl, S1, hv, HF⟩ := hrel
    have hds := hv.size
    rw [hN] at hds
    rcases Nat.lt_trichotomy j i with hlt | heq | hgt
    · have hI1 : ¬ (i : Int) = (j : Int) := by omega
      have hI2 : (j : Int) < (i : Int) := by omega
      have hw1 : IntKind.i64.wrap ((m : Int) - (i : Int)) = ((m - i : Nat) : Int) := (IntWalk.i64_in _ (by omega)).trans (by omega)
      have hw2 : IntKind.i64.wrap ((i : Int) - (j : Int)) = ((i - j : Nat) : Int) := (IntWalk.i64_in _ (by omega)).trans (by omega)
      have hcw := swapRange_any R (by omega) S1.out (m - i) (m) (j) (m + j) (cap := cap) (by omega) (by omega) (by omega) (by omega) fv
      rw [hds] at hcw
      have HCW := Lib.hid hcw
      clear hcw
      have HV := Lib.hid hv
      clear hv
      go_wp2_with fail
      refine HCW.out.mono ?_
      rintro e w2 ⟨rfl, d1, S2, hv1⟩
      have S2 := Lib.hid S2
      have HV2 := Lib.hid (HV.out.trans hv1 (by omega) (by omega) (by omega))
      clear hv1
      go_wp2_with fail
      go_roundw
      case rel => exact ⟨i - j, j, d1, _, by omega, by omega, by omega, by omega, by go_num, rfl, S2, HV2.out, Lib.hid (fun k => by rw [rot_left (by omega) hlt]; exact HF.out k)⟩
      case measure => simp [intOf]; omega
    · subst heq
      have hw1 : IntKind.i64.wrap ((m : Int) - (j : Int)) = ((m - j : Nat) : Int) := (IntWalk.i64_in _ (by omega)).trans (by omega)
      have hcw := swapRange_any R (by omega) S1.out (m - j) (m) (j) (m + j) (cap := cap) (by omega) (by omega) (by omega) (by omega) fv
      rw [hds] at hcw
      have HCW := Lib.hid hcw
      clear hcw
      have HV := Lib.hid hv
      clear hv
      go_wp2_with fail
      refine HCW.out.mono ?_
      rintro e w2 ⟨rfl, d1, S2, hv1⟩
      have S2 := Lib.hid S2
      have HV2 := Lib.hid ((HV.out.trans hv1 (by omega) (by omega) (by omega)).congr (g := rotI a m b) (fun k => by rw [rot_end (by omega)]; exact HF.out k))
      clear hv1
      go_wp2_with fail
      go_end0
      exact ⟨rfl, d1, S2.out, HV2.out⟩
    · have hI1 : ¬ (i : Int) = (j : Int) := by omega
      have hI2 : ¬ (j : Int) < (i : Int) := by omega
      have hw1 : IntKind.i64.wrap ((m : Int) - (i : Int)) = ((m - i : Nat) : Int) := (IntWalk.i64_in _ (by omega)).trans (by omega)
      have hw2 : IntKind.i64.wrap ((j : Int) - (i : Int)) = ((j - i : Nat) : Int) := (IntWalk.i64_in _ (by omega)).trans (by omega)
      have hw3 : IntKind.i64.wrap ((m : Int) + (j : Int)) = ((m + j : Nat) : Int) := (IntWalk.i64_in _ (by omega)).trans (by omega)
      have hw4 : IntKind.i64.wrap (((m + j : Nat) : Int) - (i : Int)) = ((m + j - i : Nat) : Int) := (IntWalk.i64_in _ (by omega)).trans (by omega)
      have hcw := swapRange_any R (by omega) S1.out (m - i) (m + j - i) (i) (m + j) (cap := cap) (by omega) (by omega) (by omega) (by omega) fv
      rw [hds] at hcw
      have HCW := Lib.hid hcw
      clear hcw
      have HV := Lib.hid hv
      clear hv
      obtain ⟨mj, hmj⟩ : ∃ mj, m + j = mj := ⟨_, rfl⟩
      obtain ⟨mji, hmji⟩ : ∃ mji, m + j - i = mji := ⟨_, rfl⟩
      rw [hmj] at hw3 hw4
      have HMJ := Lib.hid (And.intro hmj hmji)
      rw [hmj] at hmji
      rw [hmji] at hw4
      rw [hmj, hmji] at HCW
      clear hmj hmji
      go_wp2_with fail
      refine HCW.out.mono ?_
      rintro e w2 ⟨rfl, d1, S2, hv1⟩
      have S2 := Lib.hid S2
      have HV2 := Lib.hid (HV.out.trans hv1 (by omega) (by have := HMJ.out; omega) (by omega))
      clear hv1
      go_wp2_with fail
      go_roundw
      case rel => exact ⟨i, j - i, d1, _, by omega, by omega, by omega, by omega, rfl, by go_num, S2, HV2.out, Lib.hid (fun k => by
        have h1 := rot_right (m := m) (i := i) (j := j) (k := k) (by omega) hgt
        rw [HMJ.out.2] at h1
        rw [h1]
        exact HF.out k)⟩
      case measure => simp [intOf]; omega
end Go.Proofs.Ytnmdgjodbikndaa

namespace Go.Proofs.Ytnmdgjodbikndaa
open Go.RowKit Go.Sort
set_option linter.unusedVariables false
set_option linter.unusedSimpArgs false

/-- The strict order of tagged entries: by arrival, then by the tag. -/
def TT (x y : TA) : Prop := x.1.arr < y.1.arr ∨ x.1.arr = y.1.arr ∧ x.2 < y.2
def Srt (d : Array TA) (a b : Nat) : Prop := ∀ i j, a ≤ i → i < j → j < b → TT d[i]! d[j]!
def Tgs (d : Array TA) (a m b : Nat) : Prop := ∀ i j, a ≤ i → i < m → m ≤ j → j < b → d[i]!.2 < d[j]!.2
def Pre (d : Array TA) (a m b : Nat) : Prop := Srt d a m ∧ Srt d m b ∧ Tgs d a m b
theorem TT.trans {x y z : TA} (h1 : TT x y) (h2 : TT y z) : TT x z := by unfold TT at *; omega
theorem TT.le {x y : TA} (h : TT x y) : x.1.arr ≤ y.1.arr := by unfold TT at h; omega
theorem TT.of_lt {x y : TA} (h : x.1.arr < y.1.arr) : TT x y := .inl h
theorem TT.of_le {x y : TA} (h : x.1.arr ≤ y.1.arr) (ht : x.2 < y.2) : TT x y := by unfold TT; omega
theorem Srt.le {d : Array TA} {a b : Nat} (h : Srt d a b) {i j : Nat} (h1 : a ≤ i) (h2 : i ≤ j) (h3 : j < b) : d[i]!.1.arr ≤ d[j]!.1.arr := by
  rcases Nat.lt_or_ge i j with h4 | h4
  · exact (h i j h1 h4 h3).le
  · obtain rfl : i = j := by omega
    exact Int.le_refl _
theorem rotI_id {s m e : Nat} (h : s = m ∨ m = e) (hs : s ≤ m) (he : m ≤ e) : rotI s m e = fun k => k := by
  funext k
  unfold rotI
  repeat' split
  all_goals omega
theorem rotI_a {s m e k : Nat} (h : k < s ∨ e ≤ k) (hs : s ≤ m) (he : m ≤ e) : rotI s m e k = k := by unfold rotI; rw [if_neg (by omega), if_neg (by omega)]
theorem rotI_b {s m e k : Nat} (h1 : s ≤ k) (h2 : k < s + (e - m)) : rotI s m e k = k + (m - s) := by unfold rotI; rw [if_pos ⟨h1, h2⟩]
theorem rotI_c {s m e k : Nat} (h1 : s + (e - m) ≤ k) (h2 : k < e) : rotI s m e k = k - (e - m) := by unfold rotI; rw [if_neg (by omega), if_pos ⟨h1, h2⟩]
variable {d d2 d3 d4 : Array TA} {a m b s e i : Nat}
/-- Behind the rotation: both halves may be merged, and all of the left one comes before the right one. -/
theorem merge_rot (hp : Pre d a m b) (has : a ≤ s) (hsm : s ≤ m) (hme : m ≤ e) (heb : e ≤ b) (hv : ∀ k, d2[k]! = d[rotI s m e k]!)
    (B1 : s = a ∨ e = b ∨ ¬ d[e]!.1.arr < d[s - 1]!.1.arr) (B2 : s = m ∨ e = m ∨ d[e - 1]!.1.arr < d[s]!.1.arr) :
    Pre d2 a s (s + (e - m)) ∧ Pre d2 (s + (e - m)) e b ∧ ∀ i j, a ≤ i → i < s + (e - m) → s + (e - m) ≤ j → j < b → TT d2[i]! d2[j]! := by
  obtain ⟨h1, h2, h3⟩ := hp
  refine ⟨⟨?_, ?_, ?_⟩, ⟨?_, ?_, ?_⟩, ?_⟩
  · intro i j hi hij hj
    rw [hv, hv, rotI_a (by omega) hsm hme, rotI_a (by omega) hsm hme]
    exact h1 i j hi hij (by omega)
  · intro i j hi hij hj
    rw [hv, hv, rotI_b (by omega) (by omega), rotI_b (by omega) (by omega)]
    exact h2 _ _ (by omega) (by omega) (by omega)
  · intro i j hi hi2 hj hj2
    rw [hv, hv, rotI_a (by omega) hsm hme, rotI_b (by omega) (by omega)]
    exact h3 _ _ (by omega) (by omega) (by omega) (by omega)
  · intro i j hi hij hj
    rw [hv, hv, rotI_c (by omega) (by omega), rotI_c (by omega) (by omega)]
    exact h1 _ _ (by omega) (by omega) (by omega)
  · intro i j hi hij hj
    rw [hv, hv, rotI_a (by omega) hsm hme, rotI_a (by omega) hsm hme]
    exact h2 i j (by omega) hij (by omega)
  · intro i j hi hi2 hj hj2
    rw [hv, hv, rotI_c (by omega) (by omega), rotI_a (by omega) hsm hme]
    exact h3 _ _ (by omega) (by omega) (by omega) (by omega)
  · intro i j hi hi2 hj hj2
    rw [hv, hv]
    by_cases c1 : i < s
    · rw [rotI_a (by omega) hsm hme]
      by_cases c2 : j < e
      · rw [rotI_c (by omega) c2]
        exact h1 _ _ (by omega) (by omega) (by omega)
      · rw [rotI_a (by omega) hsm hme]
        have l1 := h1.le (i := i) (j := s - 1) hi (by omega) (by omega)
        have l2 := h2.le (i := e) (j := j) (by omega) (by omega) hj2
        exact TT.of_le (by omega) (h3 i j hi (by omega) (by omega) hj2)
    · rw [rotI_b (by omega) (by omega)]
      by_cases c2 : j < e
      · rw [rotI_c (by omega) c2]
        have l1 := h2.le (i := i + (m - s)) (j := e - 1) (by omega) (by omega) (by omega)
        have l2 := h1.le (i := s) (j := j - (e - m)) (by omega) (by omega) (by omega)
        exact TT.of_lt (by omega)
      · rw [rotI_a (by omega) hsm hme]
        exact h2 _ _ (by omega) (by omega) (by omega)
theorem ins_left (hp : Pre d a m b) (hm : m = a + 1) (h1 : m ≤ i) (h2 : i ≤ b) (hv : ∀ k, d2[k]! = d[rotI a m i k]!)
    (B1 : i = m ∨ d[i - 1]!.1.arr < d[a]!.1.arr) (B2 : i = b ∨ ¬ d[i]!.1.arr < d[a]!.1.arr) : Srt d2 a b := by
  obtain ⟨q1, q2, q3⟩ := hp
  intro x y hx hxy hy
  rw [hv, hv]
  by_cases c1 : x < a + (i - m)
  · rw [rotI_b hx c1]
    by_cases c2 : y < a + (i - m)
    · rw [rotI_b (by omega) c2]
      exact q2 _ _ (by omega) (by omega) (by omega)
    · by_cases c3 : y < i
      · rw [rotI_c (by omega) c3]
        have l1 := q2.le (i := x + (m - a)) (j := i - 1) (by omega) (by omega) (by omega)
        rw [show y - (i - m) = a by omega]
        exact TT.of_lt (by omega)
      · rw [rotI_a (by omega) (by omega) h1]
        exact q2 _ _ (by omega) (by omega) (by omega)
  · by_cases c3 : x < i
    · rw [rotI_c (by omega) c3, rotI_a (by omega) (by omega) h1, show x - (i - m) = a by omega]
      have l1 := q2.le (i := i) (j := y) (by omega) (by omega) hy
      exact TT.of_le (by omega) (q3 a y (by omega) (by omega) (by omega) hy)
    · rw [rotI_a (by omega) (by omega) h1, rotI_a (by omega) (by omega) h1]
      exact q2 _ _ (by omega) hxy hy
theorem ins_right (hp : Pre d a m b) (hm : b = m + 1) (h1 : a ≤ i) (h2 : i ≤ m) (hv : ∀ k, d2[k]! = d[rotI i m b k]!)
    (B1 : i = a ∨ ¬ d[m]!.1.arr < d[i - 1]!.1.arr) (B2 : i = m ∨ d[m]!.1.arr < d[i]!.1.arr) : Srt d2 a b := by
  obtain ⟨q1, q2, q3⟩ := hp
  intro x y hx hxy hy
  rw [hv, hv]
  by_cases c1 : x < i
  · rw [rotI_a (by omega) h2 (by omega)]
    by_cases c2 : y < i
    · rw [rotI_a (by omega) h2 (by omega)]
      exact q1 _ _ hx hxy (by omega)
    · by_cases c3 : y < i + (b - m)
      · rw [rotI_b (by omega) c3, show y + (m - i) = m by omega]
        have l1 := q1.le (i := x) (j := i - 1) hx (by omega) (by omega)
        exact TT.of_le (by omega) (q3 x m hx (by omega) (by omega) (by omega))
      · rw [rotI_c (by omega) (by omega)]
        exact q1 _ _ hx (by omega) (by omega)
  · by_cases c3 : x < i + (b - m)
    · rw [rotI_b (by omega) c3, rotI_c (by omega) (by omega), show x + (m - i) = m by omega]
      have l1 := q1.le (i := i) (j := y - (b - m)) (by omega) (by omega) (by omega)
      exact TT.of_lt (by omega)
    · rw [rotI_c (by omega) (by omega), rotI_c (by omega) (by omega)]
      exact q1 _ _ (by omega) (by omega) (by omega)
theorem insl_next {k lo hi : Nat} (h : Via (rotI a (a + 1) (k + 1)) lo hi d d2) (hlo : lo ≤ a) (hak : a ≤ k) (hk : k + 1 < hi) (hs : hi ≤ d.size) : Via (rotI a (a + 1) (k + 1 + 1)) lo hi d (swp d2 k (k + 1)) := by
  have hsz := h.size
  refine ⟨fun x => ?_, permIn_trans _ _ _ _ _ h.2 (swp_permIn d2 lo hi k (k + 1) (by omega) (by omega) (by omega) (by omega) (by omega))⟩
  rw [swp_at d2 (by omega) (by omega) (by omega), h.1]
  congr 1
  unfold rotI
  repeat' split
  all_goals omega
theorem insr_next {k lo hi : Nat} (h : Via (rotI (k + 1) m (m + 1)) lo hi d d2) (hlo : lo ≤ k) (hkm : k + 1 ≤ m) (hm : m < hi) (hs : hi ≤ d.size) : Via (rotI k m (m + 1)) lo hi d (swp d2 (k + 1) k) := by
  have hsz := h.size
  refine ⟨fun x => ?_, permIn_trans _ _ _ _ _ h.2 (swp_permIn d2 lo hi (k + 1) k (by omega) (by omega) (by omega) (by omega) (by omega))⟩
  rw [swp_at d2 (by omega) (by omega) (by omega), h.1]
  congr 1
  unfold rotI
  repeat' split
  all_goals omega
theorem srt_empty {a b : Nat} (h : b ≤ a) : Srt d a b := fun i j _ _ _ => by omega
/-- Both halves are done. -/
theorem merge_done {c : Nat} (hac : a ≤ c) (hcb : c ≤ b) (hb : b ≤ d2.size) (hx : ∀ i j, a ≤ i → i < c → c ≤ j → j < b → TT d2[i]! d2[j]!)
    (p3 : PermIn a c d2 d3) (s3 : Srt d3 a c) (p4 : PermIn c b d3 d4) (s4 : Srt d4 c b) : Srt d4 a b := by
  have hz3 := p3.1
  have hc3 : ∀ i, a ≤ i → i < c → ∀ j, c ≤ j → j < b → TT d3[i]! d3[j]! := by
    have h := permIn_all d2 d3 a c (fun x => ∀ j, c ≤ j → j < b → TT x d2[j]!) (by omega) p3 (fun i h1 h2 j h3 h4 => hx i j h1 h2 h3 h4)
    intro i h1 h2 j h3 h4
    rw [p3.2.1 j (.inr h3)]
    exact h i h1 h2 j h3 h4
  intro i j hi hij hj
  by_cases c1 : j < c
  · rw [p4.2.1 i (.inl (by omega)), p4.2.1 j (.inl c1)]
    exact s3 i j hi hij c1
  · by_cases c2 : c ≤ i
    · exact s4 i j c2 hij hj
    · rw [p4.2.1 i (.inl (by omega))]
      exact permIn_all d3 d4 c b (fun x => TT d3[i]! x) (by omega) p4 (fun j h3 h4 => hc3 i hi (by omega) j h3 h4) j (by omega) hj
theorem cfT_neg (x y : TA) : cfT x y < 0 ↔ x.1.arr < y.1.arr := by
  unfold cfT cmpA cmpI
  repeat' split
  all_goals omega
end Go.Proofs.Ytnmdgjodbikndaa
