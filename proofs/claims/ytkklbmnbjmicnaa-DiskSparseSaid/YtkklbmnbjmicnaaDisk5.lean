/- (*Disk).Write whole; Restart; Flush. -/
import Derived.Test.YtkklbmnbjmicnaaDisk4
namespace Go.Proofs.Ytkklbmnbjmicnaa
open Go.RowKit
set_option linter.unusedVariables false
set_option linter.unusedSimpArgs false

theorem DiskAt.wide {w : World} {F : Nat → Prop} {b : Nat} {S : DS} (h : DiskAt w F b S) (B : Nat) : DiskAt w (fun k => F k ∨ B ≤ k) b S := h.mono (fun _ h => .inl h)

set_option maxRecDepth 100000 in
set_option maxHeartbeats 1000000 in
theorem Write_any {w : World} {F G : Nat → Prop} {b : Nat} {S : DS} (s : Int) (v : Value) (l : List UInt8) (h : DiskAt w F b S) (hv : BytesAt w G v l) (hFG : ∀ k, F k → ¬ G k)
    (hlen : S.pend.length < 100000000000) (hops : S.ops < 1000000000000) (hlim : S.limit.getD 0 ≤ 9223372036854775807) (hll : l.length ≤ 1000000000000000) :
    Calls Try.prog 21 #[.pointer (some ⟨b, 0, none⟩), .int .i64 s, v] w fun e w' => e = .returned (.int .i64 (S.write s l).2) ∧
      DiskAt w' (fun k => F k ∨ w.heap.size ≤ k) b (S.write s l).1 ∧ Chg F w w' := by
  cases hd : S.down with
  | true =>
    have e1 : S.write s l = (S, 28) := by simp [DS.write, hd]
    rw [e1]
    have H0 := Lib.hid h
    obtain ⟨hok, m, pv, hx⟩ := h
    obtain ⟨c0, c1, c2, c3, c4, c5, c6, f⟩ := hx.cells
    rw [hd] at c6
    clear hx hok hd e1 hv hlim
    go_enter Try.func21, Try.ntmps21
    go_wp2
    go_ret
    exact ⟨rfl, H0.out.wide _, Chg.refl _ _⟩
  | false =>
    cases hh : S.has s with
    | false =>
      have e1 : S.write s l = (S, 8) := by simp [DS.write, hd, hh]
      rw [e1]
      have H0 := Lib.hid h
      obtain ⟨hok, m, pv, hx⟩ := h
      obtain ⟨c0, c1, c2, c3, c4, c5, c6, f⟩ := hx.cells
      rw [hd] at c6
      clear hx hok hd e1 hv hlim
      go_enter Try.func21, Try.ntmps21
      go_wp2_with (go_at_call 38; refine (has_any s H0.out).mono ?_; rintro e w' ⟨rfl, rfl⟩)
      go_ret
      exact ⟨rfl, H0.out.wide _, Chg.refl _ _⟩
    | true =>
      by_cases hl : l.length = 256
      · cases hop : S.operate.2 with
        | true =>
          have hh' : 0 ≤ s ∧ s < (S.dur.length : Int) := by simpa [DS.has] using hh
          obtain ⟨k, rfl⟩ := Int.eq_ofNat_of_zero_le hh'.1
          have e1 : S.write k l = ({ S.operate.1 with pend := S.operate.1.pend ++ [(k, l)] }, 0) := by simp [DS.write, hd, hh, hl, hop]
          rw [e1]
          exact Write_good k v l h hv hFG hd (by omega) hl hop hlen hops hlim
        | false =>
          have e1 : S.write s l = (S.operate.1, 28) := by simp [DS.write, hd, hh, hl, hop]
          rw [e1]
          have H0 := Lib.hid h
          obtain ⟨hok, m, pv, hx⟩ := h
          obtain ⟨c0, c1, c2, c3, c4, c5, c6, f⟩ := hx.cells
          rw [hd] at c6
          obtain ⟨a, cap, rfl, hcap, hr⟩ := hv
          rw [hl]
          have HL := Lib.hid hlim
          clear hx hok hd e1 hr hlim
          go_enter Try.func21, Try.ntmps21
          go_wp2_with (first | (go_at_call 38; refine (has_any s H0.out).mono ?_; rintro e w' ⟨rfl, rfl⟩) | fail)
          refine (operate_any H0.out hops HL.out).mono ?_
          rintro e w1 ⟨rfl, hD1, hC1⟩
          rw [hop]
          have HD1 := Lib.hid hD1
          clear hD1
          go_wp2
          go_ret
          exact ⟨rfl, HD1.out.wide _, hC1⟩
      · have e1 : S.write s l = (S, 2) := by simp [DS.write, hd, hh, hl]
        rw [e1]
        have H0 := Lib.hid h
        obtain ⟨hok, m, pv, hx⟩ := h
        obtain ⟨c0, c1, c2, c3, c4, c5, c6, f⟩ := hx.cells
        rw [hd] at c6
        obtain ⟨a, cap, rfl, hcap, hr⟩ := hv
        have hne : ((l.length : Int) == 256) = false := by simp; omega
        have hne2 : ((l.length : Int) != 256) = true := by simp; omega
        clear hx hok hd e1 hr hlim hl
        go_enter Try.func21, Try.ntmps21
        go_wp2_with (go_at_call 38; refine (has_any s H0.out).mono ?_; rintro e w' ⟨rfl, rfl⟩)
        go_ret
        exact ⟨rfl, H0.out.wide _, Chg.refl _ _⟩

end Go.Proofs.Ytkklbmnbjmicnaa
