/- DiskNew of the statements: true, whatever the number. -/
import Derived.Test.YtkklbmnbjmicnaaDisk8
import Derived.Laws.IdiomStrings
import Derived.Laws.BytesArg
namespace Go.Proofs.Ytkklbmnbjmicnaa
open Go.RowKit
set_option linter.unusedVariables false
set_option linter.unusedSimpArgs false

theorem BytesAt.str {w : World} {F : Nat → Prop} {v : Value} {l : List UInt8} (h : BytesAt w F v l) : (convert 30 9 v).run Try.prog w = .ok (.string ⟨l.toArray⟩) w := by
  obtain ⟨a, cap, rfl, hcap, hr⟩ := h
  cases a with
  | none =>
    have hl : l = [] := by
      by_cases hl : l = []
      · exact hl
      · obtain ⟨g, off, e, _⟩ := hr hl
        cases e
    subst hl
    exact run_convert_bytes_nil w 30 5 Try.underlying30 Try.underlying5 _ _ 9 Try.underlying9
  | some ad =>
    refine run_convert_bytes_back w 30 9 5 ad cap l Try.underlying30 Try.underlying5 Try.underlying9 ?_
    intro j hj
    obtain ⟨g, off, e, _, _, hc⟩ := hr (by intro e; rw [e] at hj; simp at hj)
    cases e
    have hadd : (⟨g, off, none⟩ : Addr).add j = ⟨g, off + j, none⟩ := by unfold Addr.add; split <;> simp_all
    rw [hadd]
    exact hc j _ (by rw [bvs_getElem?, List.getElem?_eq_getElem hj]; rfl)

set_option maxHeartbeats 400000 in
theorem Pending_nil {w : World} {F : Nat → Prop} {b : Nat} {S : DS} (h : DiskAt w F b S) (hp : S.pend = []) :
    Calls Try.prog 17 #[.pointer (some ⟨b, 0, none⟩)] w fun e w' => e = .returned (.slice none 0 0) ∧ w = w' := by
  obtain ⟨hok, m, pv, hx⟩ := h
  obtain ⟨c0, c1, c2, c3, c4, c5, c6, f⟩ := hx.cells
  have hpv : ∃ a cap, pv = .slice a 0 cap := by
    have := pendAt_of (fun x h => (hok.pend x h).2) hx.hp
    rcases this with ⟨rfl, _⟩ | ⟨g, cap, rfl, _⟩
    · exact ⟨none, 0, rfl⟩
    · rw [hp]; exact ⟨_, _, rfl⟩
  obtain ⟨a, cap, rfl⟩ := hpv
  clear hx hok
  go_enter Try.func17, Try.ntmps17
  go_wp2
  go_loopw [3, 13] (fun l i wr => l = .slice none 0 0 ∧ i = .int .i64 0 ∧ w = wr) (fun _ i _ => 0)
  case atStart => exact ⟨rfl, rfl, rfl⟩
  case round =>
    obtain ⟨rfl, rfl, rfl⟩ := hrel
    go_wp2
    go_ret
    exact ⟨rfl, rfl⟩

theorem newDS_readE (n : Nat) (s : Int) : (newDS n).readE s = if 0 ≤ s ∧ s < n then 0 else 8 := by
  simp [DS.readE, newDS, DS.has]
theorem newDS_readB (n : Nat) (k : Nat) (h : k < n) : (newDS n).readB k = zeros := by
  simp [DS.readB, newDS, DS.has, h, DS.visible, visP, List.getD]

theorem newDS_readB_no (n : Nat) : (newDS n).readB (n : Int) = [] := by simp [DS.readB, newDS, DS.has]
theorem Read_end {w : World} {F : Nat → Prop} {b n : Nat} (h : DiskAt w F b (newDS n)) :
    Calls Try.prog 18 #[.pointer (some ⟨b, 0, none⟩), .int .i64 (n : Int)] w fun e w' => e = .returned (.tuple #[.slice none 0 0, .int .i64 8]) ∧ Below w.heap.size w w' := by
  refine (Read_any (n : Int) h (by simp [newDS])).mono ?_
  have e1 : (newDS n).readE (n : Int) = 8 := by rw [newDS_readE]; simp
  rw [e1, newDS_readB_no]
  rintro e w' ⟨v, rfl, hv, hb⟩
  rw [if_pos rfl] at hv
  subst hv
  exact ⟨rfl, hb⟩
theorem Sectors_new {w : World} {F : Nat → Prop} {b n : Nat} (h : DiskAt w F b (newDS n)) :
    Calls Try.prog 14 #[.pointer (some ⟨b, 0, none⟩)] w fun e w' => e = .returned (.int .i64 (n : Int)) ∧ w = w' := by
  have := Sectors_any h
  rwa [show (newDS n).dur.length = n by simp [newDS]] at this
theorem Operations_new {w : World} {F : Nat → Prop} {b n : Nat} (h : DiskAt w F b (newDS n)) :
    Calls Try.prog 15 #[.pointer (some ⟨b, 0, none⟩)] w fun e w' => e = .returned (.int .i64 0) ∧ w = w' := Operations_any h
theorem Down_new {w : World} {F : Nat → Prop} {b n : Nat} (h : DiskAt w F b (newDS n)) :
    Calls Try.prog 16 #[.pointer (some ⟨b, 0, none⟩)] w fun e w' => e = .returned (.bool false) ∧ w = w' := Down_any h

set_option maxRecDepth 100000 in
set_option maxHeartbeats 2000000 in
theorem DiskNew_good (n : Nat) (w : World) (h1 : 1 ≤ n) (h2 : n ≤ 4096) :
    Calls Try.prog 3 #[.int .i64 (n : Int)] w fun e w' => e = .returned (.bool true) ∧ Below w.heap.size w w' := by
  have h1i : ¬ (n : Int) < 1 := by omega
  have h2i : ¬ (4096 < (n : Int)) := by omega
  have hmk := make256
  go_enter Try.func3, Try.ntmps3
  go_wp2_with (first
    | (go_at_call 12; refine (known_any w).mono ?_; rintro e w1 ⟨rfl, hB1⟩)
    | (go_at_call 13; refine (New_good n w1 h1 h2).mono ?_; rintro e w2 ⟨rfl, hD2, hB2⟩)
    | (go_at_call 14; refine (Sectors_new hD2).mono ?_; rintro e w3 ⟨rfl, rfl⟩)
    | (go_at_call 15; refine (Operations_new hD2).mono ?_; rintro e w3 ⟨rfl, rfl⟩)
    | (go_at_call 16; refine (Down_new hD2).mono ?_; rintro e w3 ⟨rfl, rfl⟩)
    | (go_at_call 17; refine (Pending_nil hD2 rfl).mono ?_; rintro e w3 ⟨rfl, rfl⟩))
  have HD2 := Lib.hid hD2
  clear hD2
  go_loopw [5] (fun i wr => ∃ k : Nat, k ≤ n ∧ i = .int .i64 (k : Int) ∧ DiskAt wr (fun k => w1.heap.size ≤ k ∧ k < w2.heap.size) (w1.heap.size + 1) (newDS n) ∧ Below w2.heap.size w2 wr)
    (fun i _ => n - (intOf i).toNat)
  case atStart => exact ⟨0, Nat.zero_le _, rfl, HD2.out.bound, Below.refl _ _⟩
  case round =>
    obtain ⟨k, hk, rfl, hD, hB⟩ := hrel
    have HD := Lib.hid hD
    clear hD
    by_cases hlt : k < n
    · by_cases hlt2 : k < 100
      · go_wp2_with (go_at_call 18; refine (Read_any (k : Int) HD.out (by simp [newDS])).mono ?_; rw [newDS_readE, newDS_readB n k hlt, if_pos ⟨by omega, by omega⟩]; rintro e w3 ⟨v, rfl, hv, hb3⟩; rw [if_neg (by decide)] at hv; obtain ⟨g, T, rfl, hg, hh⟩ := hv; rw [zeros_length])
        have hB3 : Below w2.heap.size w2 w3 := hB.trans (hb3.mono hB.size)
        have hD3 := HD.out.below hb3
        have hhW : w3.drew.heap[g]? = some (.cells (bvs zeros).toArray T (0, 0)) := hh
        have ho1 : OwnBytes w3.drew (fun _ => True) (.slice (some ⟨g, 0, none⟩) 256 256) zeros := ⟨g, T, by rw [zeros_length], trivial, hhW⟩
        have ho2 : OwnBytes (w3.alloc (.cells (bvs zeros).toArray 5)).drew (fun _ => True) (.slice (some ⟨g, 0, none⟩) 256 256) zeros :=
          ⟨g, T, by rw [zeros_length], trivial, (Below.heap_alloc w3.drew _ g (Array.getElem?_eq_some_iff.1 hhW).1).trans hhW⟩
        have ho3 : OwnBytes (w3.alloc (.cells (bvs zeros).toArray 5)).drew (fun _ => True) (.slice (some ⟨w3.heap.size, 0, none⟩) 256 256) zeros :=
          ⟨w3.heap.size, 5, by rw [zeros_length], trivial, heap_alloc_new _ _⟩
        have s1 := ho1.bytes.str
        have s2 := ho2.bytes.str
        have s3 := ho3.bytes.str
        have HBW := Lib.hid hB3
        have HDW := Lib.hid hD3
        obtain ⟨zs, hzs⟩ : ∃ zs, (bvs zeros).toArray = zs := ⟨_, rfl⟩
        rw [hzs] at s2 s3 hmk
        obtain ⟨str, hstr⟩ : ∃ str, (⟨zeros.toArray⟩ : ByteArray) = str := ⟨_, rfl⟩
        rw [hstr] at s1 s2 s3
        clear ho1 ho2 ho3 hhW hB3 hD3 hh hb3 hB
        go_region
        go_wp2
        go_roundw
        case rel => exact ⟨k + 1, by omega, by go_num, HDW.out.below ((Below.refl _ _).alloc (Nat.le_refl _) (.cells zs 5)).drew, (HBW.out.alloc HBW.out.size _).drew⟩
        case measure => simp [intOf]; omega
      · go_wp2_with (go_at_call 18; refine (Read_end HD.out).mono ?_; rintro e w3 ⟨rfl, hb3⟩)
        go_ret
        exact ⟨rfl, (hB1.trans (hB2.mono hB1.size)).trans ((hB.trans (hb3.mono hB.size)).mono (Nat.le_trans hB1.size hB2.size))⟩
    · obtain rfl : k = n := by omega
      go_wp2_with (go_at_call 18; refine (Read_end HD.out).mono ?_; rintro e w3 ⟨rfl, hb3⟩)
      go_ret
      exact ⟨rfl, (hB1.trans (hB2.mono hB1.size)).trans ((hB.trans (hb3.mono hB.size)).mono (Nat.le_trans hB1.size hB2.size))⟩

set_option maxHeartbeats 1000000 in
theorem DiskNew_bad (n : Int) (w : World) (h : n < 1 ∨ 4096 < n) :
    Calls Try.prog 3 #[.int .i64 n] w fun e w' => e = .returned (.bool true) ∧ Below w.heap.size w w' := by
  have h' : n < 1 ∨ (¬ n < 1 ∧ 4096 < n) := by omega
  rcases h' with h1 | ⟨h0, h1⟩
  all_goals
    go_enter Try.func3, Try.ntmps3
    go_wp2_with (first
      | (go_at_call 12; refine (known_any w).mono ?_; rintro e w1 ⟨rfl, hB1⟩)
      | (go_at_call 13; refine (New_bad n w1 h).mono ?_; rintro e w2 ⟨rfl, rfl⟩))
    go_ret
    exact ⟨rfl, hB1⟩

theorem DiskNew_any (n : Int) (w : World) : Calls Try.prog 3 #[.int .i64 n] w fun e w' => e = .returned (.bool true) ∧ Below w.heap.size w w' := by
  by_cases h : n < 1 ∨ 4096 < n
  · exact DiskNew_bad n w h
  · obtain ⟨k, rfl⟩ := Int.eq_ofNat_of_zero_le (show 0 ≤ n by omega)
    exact DiskNew_good k w (by omega) (by omega)

end Go.Proofs.Ytkklbmnbjmicnaa
