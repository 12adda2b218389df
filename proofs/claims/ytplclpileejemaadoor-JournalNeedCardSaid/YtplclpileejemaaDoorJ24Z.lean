/- The law JournalNeed. -/
import Derived.Test.YtplclpileejemaaDoorJB17
namespace Go.Proofs.YtplclpileejemaaDoor
open Go.RowKit
set_option linter.unusedVariables false
set_option linter.unusedSimpArgs false

set_option maxRecDepth 100000 in
set_option maxHeartbeats 2000000 in
theorem JournalNeed_any {w : World} (hK : KAt w) (n : Int) (hb : -9223372036854775808 ≤ n ∧ n ≤ 9223372036854775807) : Calls Tryd.prog 4 #[.int .i64 n] w fun e w' => e = .returned (.bool true) ∧ Below w.heap.size w w' := by
  have HKN := Lib.hid (known_any hK)
  clear hK
  obtain ⟨hb1, hb2⟩ := hb
  by_cases h : n < 0 ∨ 100000 < n
  · have HND := Lib.hid (fun w1 : World => JNeed_no (w := w1) n h)
    rcases h with h | h
    · go_enter Tryd.func4, Tryd.ntmps4
      go_wp2_with fail
      refine HKN.out.mono ?_
      rintro e W1 ⟨rfl, hb1⟩
      go_wp2_with fail
      refine (HND.out W1).mono ?_
      rintro e W2 ⟨rfl, hb2⟩
      have HB := Lib.hid (hb1.trans (hb2.mono hb1.size))
      go_wp2_with fail
      exact bodyPost_ret (v := .bool true) (by simp [results, Tryd.results4, go_sem]) rfl ⟨rfl, HB.out⟩
    · have h0 : ¬ n < 0 := by omega
      go_enter Tryd.func4, Tryd.ntmps4
      go_wp2_with fail
      refine HKN.out.mono ?_
      rintro e W1 ⟨rfl, hb1⟩
      go_wp2_with fail
      refine (HND.out W1).mono ?_
      rintro e W2 ⟨rfl, hb2⟩
      have HB := Lib.hid (hb1.trans (hb2.mono hb1.size))
      go_wp2_with fail
      exact bodyPost_ret (v := .bool true) (by simp [results, Tryd.results4, go_sem]) rfl ⟨rfl, HB.out⟩
  · obtain ⟨m, rfl⟩ : ∃ m : Nat, n = (m : Int) := ⟨n.toNat, by omega⟩
    have hm : m ≤ 100000 := by omega
    have h0 : ¬ (m : Int) < 0 := by omega
    have h1 : ¬ (100000 : Int) < (m : Int) := by omega
    have HND := Lib.hid (fun w1 : World => JNeed_ok (w := w1) m hm)
    obtain ⟨k, hk⟩ : ∃ k, needN m = k := ⟨_, rfl⟩
    rw [hk] at HND
    have hkE : (k : Int) = max 1 (((m : Int) + 223) / 224) := by rw [← hk]; unfold needN; omega
    have HKE := Lib.hid hkE
    clear hk hkE h
    go_enter Tryd.func4, Tryd.ntmps4
    go_wp2_with fail
    refine HKN.out.mono ?_
    rintro e W1 ⟨rfl, hb1⟩
    go_wp2_with fail
    refine (HND.out W1).mono ?_
    rintro e W2 ⟨rfl, hb2⟩
    have HB := Lib.hid (hb1.trans (hb2.mono hb1.size))
    go_wp2_with fail
    · have h9 := HKE.out
      have hv : ((k : Int) == ((m : Int) + 223) / 224) = true := by simp; omega
      exact bodyPost_ret (v := .bool ((k : Int) == ((m : Int) + 223) / 224)) (by simp [results, Tryd.results4, go_sem]) rfl ⟨by rw [hv], HB.out⟩
    · have h9 := HKE.out
      have hv : ((k : Int) == 1) = true := by simp; omega
      exact bodyPost_ret (v := .bool ((k : Int) == 1)) (by simp [results, Tryd.results4, go_sem]) rfl ⟨by rw [hv], HB.out⟩
end Go.Proofs.YtplclpileejemaaDoor
