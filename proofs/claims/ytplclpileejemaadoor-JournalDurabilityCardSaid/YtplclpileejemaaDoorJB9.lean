/- Records: lists of records in memory; Records: Scan and Salvage, both sides; Lists of byte slices that lie in given blocks: entries and sectors of a journal; The range of a journal: size, check, read; Sectors are read; The next generation of an area. -/
import Derived.Test.YtplclpileejemaaDoorJB8
import Derived.WalkMore
import Derived.Test.YtplclpileejemaaDoorJB1
import Derived.Test.YtplclpileejemaaDoorJB6
import Derived.Test.YtplclpileejemaaDoorJB2
import Derived.Laws.ResultCell
namespace Go.Proofs.YtplclpileejemaaDoor
open Go.RowKit
set_option linter.unusedVariables false
set_option linter.unusedSimpArgs false

def recC (r : RecD) (p : Value) : List Value := [.int .i64 r.kind, .int .i64 r.gen, .int .i64 r.num, p]
def flatR : List RecD → List Value → List Value
  | r :: L, p :: ps => recC r p ++ flatR L ps
  | _, _ => []
theorem flatR_length : ∀ (L : List RecD) (ps : List Value), ps.length = L.length → (flatR L ps).length = L.length * 4
  | [], [], _ => rfl
  | r :: L, p :: ps, h => by
    rw [flatR, List.length_append, flatR_length L ps (by simpa using h)]
    simp [recC]
    omega
theorem flatR_append : ∀ (L : List RecD) (ps : List Value) (r : RecD) (p : Value), ps.length = L.length → flatR (L ++ [r]) (ps ++ [p]) = flatR L ps ++ recC r p
  | [], [], r, p, _ => by simp [flatR]
  | r' :: L, p' :: ps, r, p, h => by
    simp only [List.cons_append, flatR]
    rw [flatR_append L ps r p (by simpa using h), List.append_assoc]
theorem flatR_get : ∀ (L : List RecD) (ps : List Value) (i j : Nat) (hi : i < L.length) (h : ps.length = L.length), j < 4 → (flatR L ps)[i * 4 + j]? = (recC L[i] (ps[i]'(by omega)))[j]?
  | r :: L, p :: ps, 0, j, _, _, hj => by
    rw [flatR, Nat.zero_mul, Nat.zero_add, List.getElem?_append_left (by simp [recC]; omega)]
    rfl
  | r :: L, p :: ps, i + 1, j, hi, h, hj => by
    have e : (i + 1) * 4 + j = (recC r p).length + (i * 4 + j) := by simp [recC]; omega
    rw [flatR, e, List.getElem?_append_right (by omega), Nat.add_sub_cancel_left, flatR_get L ps i j (by simpa using hi) (by simpa using h) hj]
    rfl

/-- The slice value v is a row of its own, of records with payloads of their own: the list L. -/
structure OwnRecs (T : TypeId) (w : World) (B : Nat) (v : Value) (L : List RecD) : Prop where
  ex : ∃ ps, ps.length = L.length ∧ w.ownsRow B T 4 v L.length (flatR L ps) ∧ ∀ i (h : i < L.length), ∃ u, ps[i]? = some u ∧ w.ownsRow B 5 1 u L[i].load.length (bvs L[i].load)
section
variable {T : TypeId} {w w' : World} {B : Nat} {v : Value} {L : List RecD}
theorem ownRecs_nil (T : TypeId) (w : World) (B : Nat) : OwnRecs T w B (.slice none 0 0) [] := ⟨[], rfl, ⟨rfl, .inl ⟨rfl, rfl⟩⟩, fun i hi => by simp at hi⟩
theorem OwnRecs.form (h : OwnRecs T w B v L) : ∃ a cap, v = .slice a L.length cap := by obtain ⟨ps, _, h, _⟩ := h.ex; exact ownsRow_form h
theorem OwnRecs.below (h : OwnRecs T w B v L) (hb : Below w.heap.size w w') : OwnRecs T w' B v L := by
  obtain ⟨ps, h0, h1, h2⟩ := h.ex
  refine ⟨ps, h0, own_kept h1 hb, fun i hi => ?_⟩
  obtain ⟨u, h3, h4⟩ := h2 i hi
  exact ⟨u, h3, own_kept h4 hb⟩
theorem OwnRecs.base (h : OwnRecs T w B v L) {B' : Nat} (hB : B' ≤ B) : OwnRecs T w B' v L := by
  obtain ⟨ps, h0, h1, h2⟩ := h.ex
  refine ⟨ps, h0, ownsRow_base h1 hB, fun i hi => ?_⟩
  obtain ⟨u, h3, h4⟩ := h2 i hi
  exact ⟨u, h3, ownsRow_base h4 hB⟩
/-- One record of it. -/
theorem OwnRecs.get {a : Option Addr} {n cap : Nat} (h : OwnRecs T w B (.slice a n cap) L) {i : Nat} (hi : i < L.length) : ∃ g x c, a = some ⟨g, 0, none⟩ ∧ w.cell? ⟨g, i * 4, none⟩ = some (.int .i64 L[i].kind) ∧ w.cell? ⟨g, i * 4 + 1, none⟩ = some (.int .i64 L[i].gen) ∧
    w.cell? ⟨g, i * 4 + 2, none⟩ = some (.int .i64 L[i].num) ∧ w.cell? ⟨g, i * 4 + 3, none⟩ = some (.slice x L[i].load.length c) ∧ BytesN w (fun _ => True) (.slice x L[i].load.length c) L[i].load := by
  obtain ⟨ps, h0, h1, h2⟩ := h.ex
  obtain ⟨u, h3, h4⟩ := h2 i hi
  obtain ⟨x, c, rfl⟩ := ownsRow_form h4
  obtain ⟨g, cap', e, _, _, hr⟩ := ownsRow_at h1 (by omega)
  cases e
  have hp : ps[i]'(by omega) = .slice x L[i].load.length c := by
    have := List.getElem?_eq_getElem (l := ps) (i := i) (by omega)
    rw [h3] at this
    simpa using this.symm
  have key : ∀ j u, j < 4 → (recC L[i] (.slice x L[i].load.length c))[j]? = some u → w.cell? ⟨g, i * 4 + j, none⟩ = some u := fun j u hj hu => hr _ _ (by rw [flatR_get L ps i j hi h0 hj, hp]; exact hu)
  exact ⟨g, x, c, rfl, key 0 _ (by omega) rfl, key 1 _ (by omega) rfl, key 2 _ (by omega) rfl, key 3 _ (by omega) rfl, (own_bytesN h4).any⟩
/-- One more record for a row of such. -/
theorem wp_appRec {sT : TypeId} {zz : Array Value} (hu : Tryd.prog.underlying sT = some (.slice T)) (hi : (Tryd.prog.info? T).map (fun i => (i.zero, i.size, i.bytes)) = some (some (.agg zz), 4, 48)) (hzz : zz.size = 4) (hT : T ≠ 5)
    {o : Oper} {a : Act} {Q : Exit → Act → World → Prop} {K : Act → World → Prop} (s x : Operand) (ho : o.op = .call { callee := .builtin .append, args := #[s, x], argTypes := #[sT, sT] })
    {r : RecD} {p : Value} (hs : a.eval s = v) (hown : OwnRecs T w B v L) (hp : w.ownsRow B 5 1 p r.load.length (bvs r.load)) {g : Nat} (hx : a.eval x = .slice (some ⟨g, 0, none⟩) 1 1) (hg : g = w.heap.size)
    {n : Nat} (hL : L.length = n) (hn : n < 1000000000) (hB : B ≤ w.heap.size)
    (h : ∀ a' cap' w', OwnRecs T w' B (.slice a' (n + 1) cap') (L ++ [r]) → Below B w w' → K (a.put o.dst (.slice a' (n + 1) cap')) w') :
    o.wp Tryd.prog a (w.alloc (.cells #[.int .i64 r.kind, .int .i64 r.gen, .int .i64 r.num, p] T)) K Q := by
  subst hL
  subst hg
  obtain ⟨i0, hi, hz0, hz1, hz2⟩ := info_parts hi
  have hba : Below w.heap.size w (w.alloc (.cells #[.int .i64 r.kind, .int .i64 r.gen, .int .i64 r.num, p] T)) := (Below.refl _ _).alloc (Nat.le_refl _) _
  obtain ⟨ps, h0, hr, he⟩ := hown.ex
  have hr1 := own_kept hr hba
  have hp1 := own_kept hp hba
  obtain ⟨ua, uc, hue⟩ := ownsRow_form hp
  refine wp_append_lies _ s x sT ho B T i0 _ 4 48 hu hi hz0 hz1 hz2 (by simp [Value.cells, hzz]) (by decide) v L.length (flatR L ps) hs hr1
    ⟨w.heap.size, 0, none⟩ 1 1 (recC r p) hx rfl (World.news_of_block (cs := #[.int .i64 r.kind, .int .i64 r.gen, .int .i64 r.num, p]) (t := T) (fr := (0, 0)) (heap_alloc_new _ _)) (fun y hy => by
      simp only [recC, List.mem_cons, List.not_mem_nil, or_false] at hy
      rcases hy with rfl | rfl | rfl | rfl <;> first | rfl | (rw [hue]; rfl)) (by decide) (by unfold maxLen; omega) (by omega) (by rw [World.size_alloc]; omega) _ rfl ?_
  intro g' cap' w' hown' hgrow hat hlt
  have hb' : Below B w w' := (hba.mono hB).trans (grown_below hr1 hgrow (by rw [World.size_alloc]; omega))
  have keep : ∀ y m (ys : List UInt8), (w.alloc (.cells #[.int .i64 r.kind, .int .i64 r.gen, .int .i64 r.num, p] T)).ownsRow B 5 1 y m (bvs ys) → w'.ownsRow B 5 1 y m (bvs ys) := fun y m ys hy => World.ownsRow.kept hy hgrow (own_ne2 hr1 hy hT)
  refine h _ cap' w' ⟨ps ++ [p], by simp [h0], by rw [List.length_append, flatR_append L ps r p h0]; exact hown', fun i hi => ?_⟩ hb'
  by_cases hlt : i < L.length
  · obtain ⟨y, h1, h2⟩ := he i hlt
    refine ⟨y, by rw [List.getElem?_append_left (by omega)]; exact h1, ?_⟩
    rw [List.getElem_append_left hlt]
    exact keep _ _ _ (own_kept h2 hba)
  · rw [List.length_append] at hi
    simp at hi
    obtain rfl : i = L.length := by omega
    refine ⟨p, by rw [List.getElem?_append_right (by omega), h0, Nat.sub_self]; rfl, ?_⟩
    simp only [List.getElem_append_right (Nat.le_refl _), Nat.sub_self, List.getElem_cons_zero]
    exact keep _ _ _ hp1
end
theorem infoRec : (Tryd.prog.info? 88).map (fun i => (i.zero, i.size, i.bytes)) = some (some (.agg #[.int .i64 0, .int .i64 0, .int .i64 0, .slice none 0 0]), 4, 48) := by kernel_rfl
theorem wpList_appRec {w : World} {B : Nat} {v : Value} {L : List RecD} {ops : Array Oper} {rest : List Oper} {o : Oper} {a : Act} {Q : Exit → Act → World → Prop} (hgd : o.guard = none) (s x : Operand) (ho : o.op = .call { callee := .builtin .append, args := #[s, x], argTypes := #[105, 105] })
    {r : RecD} {p : Value} (hs : a.eval s = v) (hown : OwnRecs 88 w B v L) (hp : w.ownsRow B 5 1 p r.load.length (bvs r.load)) {g : Nat} (hx : a.eval x = .slice (some ⟨g, 0, none⟩) 1 1) (hg : g = w.heap.size)
    {n : Nat} (hL : L.length = n) (hn : n < 1000000000) (hB : B ≤ w.heap.size)
    (h : ∀ a' cap' w', OwnRecs 88 w' B (.slice a' (n + 1) cap') (L ++ [r]) → Below B w w' → wpList Tryd.prog ops Q rest (a.put o.dst (.slice a' (n + 1) cap')) w') :
    wpList Tryd.prog ops Q (o :: rest) a (w.alloc (.cells #[.int .i64 r.kind, .int .i64 r.gen, .int .i64 r.num, p] 88)) :=
  wpList_plain hgd fun _ hK => wp_appRec Tryd.underlying105 infoRec rfl (by decide) s x ho hs hown hp hx hg hL hn hB fun a' cap' w' h1 h2 => hK _ _ (h a' cap' w' h1 h2)
end Go.Proofs.YtplclpileejemaaDoor

namespace Go.Proofs.YtplclpileejemaaDoor
open Go.RowKit
set_option linter.unusedVariables false
set_option linter.unusedSimpArgs false

theorem join_cnt {l : List (List UInt8)} (h : (joinL l).2.2 = 0) : (joinL l).2.1 ≤ 586 := by
  cases l with
  | nil => cases h
  | cons b l =>
    rw [joinL] at h ⊢
    by_cases h1 : decE b ≠ 0
    · rw [if_pos h1] at h; exact absurd h h1
    · rw [if_neg h1] at h ⊢
      by_cases h2 : (decP b).idx ≠ 0
      · rw [if_pos h2] at h; cases h
      · rw [if_neg h2] at h ⊢
        rw [joinGo_count _ _ _ _ _ h]
        have hk := decP_small (by simpa using h1 : decE b = 0)
        have := hk.2.2.2.2.2.2.2
        omega
/-- What both Scans return. -/
def ScanPost (T : TypeId) (w : World) (S : List RecD × Nat × Int) (e : Ending) (w' : World) : Prop :=
  ∃ v, e = .returned (.tuple #[v, .int .i64 (S.2.1 : Int), .int .i64 S.2.2]) ∧ OwnRecs T w' w.heap.size v S.1 ∧ Below w.heap.size w w'
theorem ScanPost.mk {T : TypeId} {w w' : World} {S : List RecD × Nat × Int} {out : List RecD} {m : Nat} {k : Int} {v : Value} (h : S = (out, m, k)) (ho : OwnRecs T w' w.heap.size v out) (hb : Below w.heap.size w w') :
    ScanPost T w S (.returned (.tuple #[v, .int .i64 (m : Int), .int .i64 k])) w' := by
  subst h
  exact ⟨v, rfl, ho, hb⟩
def SalPost (T : TypeId) (w : World) (out : List RecD) (e : Ending) (w' : World) : Prop := ∃ v, e = .returned v ∧ OwnRecs T w' w.heap.size v out ∧ Below w.heap.size w w'
theorem scanGo_end (g n : Int) (l : List (List UInt8)) (k a : Nat) (out : List RecD) (h : l.length ≤ a) : scanGo g n l k a out = (out, a, 0) := by
  cases k with
  | zero => rfl
  | succ k => rw [scanGo.eq_2, if_pos h]
theorem salGo_end (l : List (List UInt8)) (k a : Nat) (out : List RecD) (h : l.length ≤ a) : salGo l k a out = out := by
  cases k with
  | zero => rfl
  | succ k => rw [salGo.eq_2, if_pos h]

set_option maxRecDepth 100000 in
set_option maxHeartbeats 2000000 in
theorem Scan_bad {w : World} (g n : Int) (L : List (List UInt8)) (v : Value) (hf : fineB 0 g n = false) : Calls Tryd.prog 67 #[.int .i64 g, .int .i64 n, v] w (ScanPost 88 w (scanL g n L)) := by
  have hs : scanL g n L = ([], 0, 2) := by unfold scanL; rw [if_pos hf]
  have HS := Lib.hid hs
  clear hs
  obtain ⟨w0, hw0⟩ : ∃ w0, w.alloc (.cells #[.int .i64 0, .int .i64 g, .int .i64 n] 126) = w0 := ⟨_, rfl⟩
  have hb0 : Below w.heap.size w w0 := hw0 ▸ (Below.refl _ w).alloc (Nat.le_refl _) _
  have hval := valid_any 0 g n w0
  rw [hf] at hval
  have HVAL := Lib.hid hval
  have HW0 := Lib.hid hw0
  have HB0 := Lib.hid hb0
  clear hval hw0 hb0
  clear hf
  go_enter Tryd.func67, Tryd.ntmps67
  try go_wp2_with fail
  go_step3
  go_wp2_with fail
  rw [HW0.out]
  refine HVAL.out.mono ?_
  rintro e w1 ⟨rfl, hb1⟩
  have HBD := Lib.hid (HB0.out.trans (hb1.mono HB0.out.size))
  clear hb1
  go_wp2_with fail
  try rw [Exit.noGoto_ret]
  go_ret3
  exact ScanPost.mk HS.out (ownRecs_nil _ _ _) HBD.out

set_option maxRecDepth 100000 in
set_option maxHeartbeats 2000000 in
theorem Scan_any {w : World} (g n : Int) (L : List (List UInt8)) (v : Value) (hv : SecsAt w v L) (hM0 : L.length < 1000000) (hK : KAt w) : Calls Tryd.prog 67 #[.int .i64 g, .int .i64 n, v] w (ScanPost 88 w (scanL g n L)) := by
  by_cases hf0 : fineB 0 g n = false
  · exact Scan_bad g n L v hf0
  have hf : fineB 0 g n = true := by simpa using hf0
  have hs : scanL g n L = scanGo g n L L.length 0 [] := by unfold scanL; rw [if_neg hf0]
  have hgn : 0 ≤ n ∧ n ≤ 2147483647 := by
    simp only [fineB, Bool.and_eq_true, decide_eq_true_eq] at hf
    exact ⟨hf.1.2, hf.2⟩
  obtain ⟨hn0, hn1⟩ := hgn
  obtain ⟨va, cap, rfl⟩ := hv.form
  obtain ⟨M, hM⟩ : ∃ M, L.length = M := ⟨_, rfl⟩
  rw [hM] at hv hM0 hs ⊢
  have HS := Lib.hid hs
  have HM := Lib.hid hM
  have HV := Lib.hid hv
  have HK := Lib.hid hK
  obtain ⟨w0, hw0⟩ : ∃ w0, w.alloc (.cells #[.int .i64 0, .int .i64 g, .int .i64 n] 126) = w0 := ⟨_, rfl⟩
  have hb0 : Below w.heap.size w w0 := hw0 ▸ (Below.refl _ w).alloc (Nat.le_refl _) _
  have hval := valid_any 0 g n w0
  rw [hf] at hval
  have HVAL := Lib.hid hval
  have HW0 := Lib.hid hw0
  have HB0 := Lib.hid hb0
  clear hval hw0 hb0
  clear hs hM hv hf hf0 hK
  go_enter Tryd.func67, Tryd.ntmps67
  try go_wp2_with fail
  go_step3
  go_wp2_with fail
  rw [HW0.out]
  refine HVAL.out.mono ?_
  rintro e w1 ⟨rfl, hb1⟩
  have HBD := Lib.hid (HB0.out.trans (hb1.mono HB0.out.size))
  clear hb1
  go_wp2_with fail
  go_step3
  go_wp2_with fail
  go_loopw [6, 7, 8] (fun pv av ev wr => ∃ (i : Nat) (q : Nat) (out : List RecD) (k : Nat) (pa : Option Addr) (pc : Nat), ev = .int .i64 0 ∧ av = .int .i64 (i : Int) ∧ pv = .slice pa q pc ∧ out.length = q ∧ q ≤ i ∧ i ≤ M + 586 ∧ M ≤ i + k ∧ OwnRecs 88 wr w.heap.size pv out ∧
      scanL g n L = scanGo g n L k i out ∧ Below w.heap.size w wr) (fun _ av _ _ => M + 600 - (intOf av).toNat)
  case atStart => exact ⟨0, 0, [], M, none, 0, rfl, rfl, rfl, rfl, Nat.le_refl _, by omega, by omega, ownRecs_nil _ _ _, HS.out, HBD.out⟩
  case round =>
    obtain ⟨i, q, out, k, pa, pc, rfl, rfl, rfl, hq, hqi, hiM, hfu, hO, hJ, hB⟩ := hrel
    have HBW := hB
    have HQ := Lib.hid hq
    have HO := Lib.hid hO
    have HJ := Lib.hid hJ
    have HB := Lib.hid hB
    by_cases hlt : i < M
    · obtain ⟨k, rfl⟩ : ∃ k', k = k' + 1 := ⟨k - 1, by omega⟩
      have hvr := HV.out.below HBW
      obtain ⟨sg, so, x1, n1, c1, rfl, _, _⟩ := hvr.get (i := i) (by rw [HM.out]; exact hlt)
      have hcapM : M ≤ cap := by obtain ⟨a', cap', vs, e, h2, _⟩ := hvr.ex; cases e; rw [HM.out] at h2; exact h2
      have hck : ¬ cap = i := by omega
      have hdr := hvr.drop (i := i) (by rw [HM.out]; omega)
      obtain ⟨R, hR⟩ : ∃ R, joinL (L.drop i) = R := ⟨_, rfl⟩
      obtain ⟨r, cnt, why⟩ := R
      obtain ⟨m, hm⟩ : ∃ m, r.load.length = m := ⟨_, rfl⟩
      have hjoin : Calls Tryd.prog 74 #[.slice (some ⟨sg, so + i, none⟩) (M - i) (cap - i)] wr (fun e w' => ∃ a c, e = .returned (.tuple #[.agg #[.int .i64 r.kind, .int .i64 r.gen, .int .i64 r.num, .slice a m c], .int .i64 (cnt : Int), .int .i64 why]) ∧
          w'.ownsRow wr.heap.size 5 1 (.slice a m c) m (bvs r.load) ∧ Below wr.heap.size wr w') :=
        (Join_any (L.drop i) _ hdr (by rw [List.length_drop, HM.out]; omega) (HK.out.below HBW HK.out.size)).mono (fun e w' h => by
          obtain ⟨a, c, h1, h2, h3⟩ := h
          rw [hR] at h1 h2
          simp only [hm] at h1 h2
          exact ⟨a, c, h1, h2, h3⟩)
      have hcn : why = 0 → 1 ≤ cnt ∧ cnt ≤ 586 := fun h => by
        have h1 := join_pos (l := L.drop i) (by rw [hR]; exact h)
        have h2 := join_cnt (l := L.drop i) (by rw [hR]; exact h)
        rw [hR] at h1 h2
        exact ⟨h1, h2⟩
      have hj1 : why ≠ 0 → scanL g n L = (out, i, why) := fun h => by rw [hJ, scanGo.eq_2, if_neg (by rw [HM.out]; omega), hR]; simp only; rw [if_pos h]
      have hj2 : why = 0 → ¬ (r.gen = g ∧ r.num = n + (q : Int)) → scanL g n L = (out, i, 30) := fun h h2 => by rw [hJ, scanGo.eq_2, if_neg (by rw [HM.out]; omega), hR]; simp only; rw [if_neg (fun h3 => h3 h), hq, if_neg h2]
      have hj3 : why = 0 → (r.gen = g ∧ r.num = n + (q : Int)) → scanL g n L = scanGo g n L k (i + cnt) (out ++ [r]) := fun h h2 => by rw [hJ, scanGo.eq_2, if_neg (by rw [HM.out]; omega), hR]; simp only; rw [if_neg (fun h3 => h3 h), hq, if_pos h2]
      have HJOIN := Lib.hid hjoin
      have HCN := Lib.hid hcn
      have HJ1 := Lib.hid hj1
      have HJ2 := Lib.hid hj2
      have HJ3 := Lib.hid hj3
      have HMM := Lib.hid hm
      clear hvr hdr hR hm hjoin hcn hj1 hj2 hj3 hJ HBW hB hO hq
      go_wp2_with fail
      refine HJOIN.out.mono ?_
      rintro e w3 ⟨ra, rc, rfl, hP3, hb3⟩
      have hO3 := HO.out.below hb3
      have hB3 := HB.out.trans (hb3.mono HB.out.size)
      obtain ⟨w4, hw4⟩ : ∃ w4, w3.alloc (.cells #[.int .i64 r.kind, .int .i64 r.gen, .int .i64 r.num, .slice ra m rc] 88) = w4 := ⟨_, rfl⟩
      have hb4 : Below w3.heap.size w3 w4 := hw4 ▸ (Below.refl _ _).alloc (Nat.le_refl _) _
      have hO4 := hO3.below hb4
      have hP4 := ownsRow_base (own_kept hP3 hb4) HB.out.size
      have hB4 := hB3.trans (hb4.mono hB3.size)
      have hN4 : w4.heap[w3.heap.size]? = some (.cells #[.int .i64 r.kind, .int .i64 r.gen, .int .i64 r.num, .slice ra m rc] 88 (0, 0)) := by rw [← hw4]; exact heap_alloc_new _ _
      have hP4 : w4.ownsRow w.heap.size 5 1 (.slice ra m rc) r.load.length (bvs r.load) := by rw [HMM.out]; exact hP4
      have hg4 : w3.heap.size + 1 = w4.heap.size := by rw [← hw4]; simp
      have HG4 := Lib.hid hg4
      clear hg4
      have HO4 := Lib.hid hO4
      have HP4 := Lib.hid hP4
      have HB4 := Lib.hid hB4
      have HW4 := Lib.hid hw4
      have HN4 := Lib.hid hN4
      clear hP3 hb3 hO3 hB3 hb4 hO4 hP4 hB4 hw4 hN4
      by_cases hwhy : why = 0
      · subst hwhy
        obtain ⟨hcn1, hcn2⟩ := HCN.out (by simp)
        by_cases hgen : r.gen = g
        · have hgb : (r.gen != g) = false := by simp [hgen]
          by_cases hnum : r.num = n + (q : Int)
          · have hnb : (r.num != n + (q : Int)) = false := by simp [hnum]
            have hj3 := HJ3.out (by simp) ⟨hgen, hnum⟩
            have HJJ := Lib.hid hj3
            clear hj3 hgen hnum
            go_wp2_with (at_builtin; rw [HW4.out]; refine wpList_appRec rfl (.tmp 49) (.tmp 51) rfl rfl HO4.out HP4.out rfl HG4.out HQ.out (by omega) HB4.out.size ?_)
            intro a' cap' w5 ho5 hb5
            have HO5 := Lib.hid ho5
            have HB5 := Lib.hid (HB4.out.trans hb5)
            clear ho5 hb5
            go_wp2_with fail
            go_roundw
            case rel => exact ⟨i + cnt, q + 1, out ++ [r], k, a', cap', rfl, by go_num, rfl, by rw [List.length_append, HQ.out]; rfl, by omega, by omega, by omega, HO5.out, HJJ.out, HB5.out⟩
            case measure => simp [intOf]; omega
          · have hnb : (r.num != n + (q : Int)) = true := by simpa using hnum
            have hj2 := HJ2.out (by simp) (fun h => hnum h.2)
            have HJJ := Lib.hid hj2
            clear hj2 hnum hgen
            go_wp2_with fail
            rw [HW4.out]
            try rw [Exit.noGoto_ret]
            go_ret3
            exact ScanPost.mk HJJ.out HO4.out HB4.out
        · have hgb : (r.gen != g) = true := by simpa using hgen
          have hj2 := HJ2.out (by simp) (fun h => hgen h.1)
          have HJJ := Lib.hid hj2
          clear hj2 hgen
          go_wp2_with fail
          rw [HW4.out]
          try rw [Exit.noGoto_ret]
          go_ret3
          exact ScanPost.mk HJJ.out HO4.out HB4.out
      · have hwb : (why != 0) = true := by simpa using hwhy
        have hj1 := HJ1.out hwhy
        have HJJ := Lib.hid hj1
        clear hj1 hwhy
        go_wp2_with fail
        rw [HW4.out]
        try rw [Exit.noGoto_ret]
        go_ret3
        exact ScanPost.mk HJJ.out HO4.out HB4.out
    · have hres : scanL g n L = (out, i, 0) := by rw [hJ, scanGo_end _ _ _ _ _ _ (by rw [HM.out]; omega)]
      have HRES := Lib.hid hres
      clear hres hJ HBW hB hO hq
      go_wp2_with fail
      try rw [Exit.noGoto_ret]
      go_ret3
      exact ScanPost.mk HRES.out HO.out HB.out

end Go.Proofs.YtplclpileejemaaDoor

namespace Go.Proofs.YtplclpileejemaaDoor
open Go.RowKit
set_option linter.unusedVariables false
set_option linter.unusedSimpArgs false

theorem BytesAt.weak {w : World} {F G : Nat → Prop} {v : Value} {l : List UInt8} (h : BytesAt w F v l) (hFG : ∀ k, k < w.heap.size → F k → G k) : BytesAt w G v l := by
  obtain ⟨a, c, e, h1, h2⟩ := h
  exact ⟨a, c, e, h1, fun hne => by
    obtain ⟨g, off, e2, h3, h4, h5⟩ := h2 hne
    exact ⟨g, off, e2, hFG g h4 h3, h4, h5⟩⟩
theorem BytesN.weak {w : World} {F G : Nat → Prop} {v : Value} {l : List UInt8} (h : BytesN w F v l) (hFG : ∀ k, k < w.heap.size → F k → G k) : BytesN w G v l := ⟨h.at_.weak hFG, h.nil⟩
theorem BytesN.form {w : World} {F : Nat → Prop} {v : Value} {l : List UInt8} (h : BytesN w F v l) : ∃ a cap, v = .slice a l.length cap := h.at_.form
theorem BytesN.chg {w w' : World} {F G : Nat → Prop} {v : Value} {l : List UInt8} (h : BytesN w F v l) (hc : Chg G w w') (hd : ∀ k, k < w.heap.size → F k → ¬ G k) : BytesN w' F v l :=
  ((h.weak (G := fun k => F k ∧ k < w.heap.size) (fun k h1 h2 => ⟨h2, h1⟩)).kept hc (fun k h1 => hd k h1.2 h1.1)).weak (fun k _ h1 => h1.1)
theorem OwnBytes.n {w : World} {F : Nat → Prop} {v : Value} {l : List UInt8} (h : OwnBytes w F v l) : BytesN w F v l := ⟨h.bytes, fun k c e => by
  obtain ⟨g, T, e2, _⟩ := h
  rw [e] at e2
  cases e2⟩

/-- The slice value v is a row of its own, of slices that read as the lists L; all in blocks of F. -/
structure EntsAt (w : World) (F : Nat → Prop) (v : Value) (L : List (List UInt8)) : Prop where
  ex : ∃ vs, w.ownsRow 0 36 1 v L.length vs ∧ (∀ g, v.ownBlock = some g → F g) ∧ ∀ i (h : i < L.length), ∃ u, vs[i]? = some u ∧ BytesN w (fun k => F k ∧ v.ownBlock ≠ some k) u L[i]
section
variable {w w' : World} {F G : Nat → Prop} {v : Value} {L : List (List UInt8)}
theorem EntsAt.form (h : EntsAt w F v L) : ∃ a cap, v = .slice a L.length cap := by obtain ⟨vs, h, _⟩ := h.ex; exact ownsRow_form h
theorem entsAt_nil (w : World) (F : Nat → Prop) : EntsAt w F (.slice none 0 0) [] := ⟨[], own_none _ _ _, (fun g e => by cases e), fun i hi => by simp at hi⟩
theorem EntsAt.weak (h : EntsAt w F v L) (hFG : ∀ k, k < w.heap.size → F k → G k) : EntsAt w G v L := by
  obtain ⟨vs, h1, h2, h3⟩ := h.ex
  refine ⟨vs, h1, fun g hg => hFG g (ownsRow_lt h1 g hg).2 (h2 g hg), fun i hi => ?_⟩
  obtain ⟨u, h4, h5⟩ := h3 i hi
  exact ⟨u, h4, h5.weak fun k hk h6 => ⟨hFG k hk h6.1, h6.2⟩⟩
theorem EntsAt.chg (h : EntsAt w F v L) (hc : Chg G w w') (hd : ∀ k, k < w.heap.size → F k → ¬ G k) : EntsAt w' F v L := by
  obtain ⟨vs, h1, h2, h3⟩ := h.ex
  refine ⟨vs, ownsRow_chg' h1 hc (fun k hk => hd k (ownsRow_lt h1 k hk).2 (h2 k hk)), h2, fun i hi => ?_⟩
  obtain ⟨u, h4, h5⟩ := h3 i hi
  exact ⟨u, h4, h5.chg hc fun k hk h6 => hd k hk h6.1⟩
theorem EntsAt.below (h : EntsAt w F v L) (hb : Below w.heap.size w w') : EntsAt w' F v L := h.chg (G := fun _ => False) (Chg.of_below hb) (fun _ _ _ h => h)
theorem EntsAt.secs (h : EntsAt w F v L) : SecsAt w v L := by
  obtain ⟨vs, h1, h2, h3⟩ := h.ex
  obtain ⟨a, cap, rfl⟩ := ownsRow_form h1
  refine ⟨a, cap, vs, rfl, ?_, by have := h1.1; omega, fun hne => ?_, (fun k c e => by cases e; exact own_nilcap h1), fun i hi => ?_⟩
  · rcases h1.2 with ⟨e, h0⟩ | ⟨g, cap', cur, e, _, _, hc, _⟩
    · simp only [Value.slice.injEq] at e; omega
    · simp only [Value.slice.injEq] at e; obtain ⟨-, -, rfl⟩ := e; exact hc
  · have hpos : 0 < L.length := by cases L with | nil => exact absurd rfl hne | cons => simp
    obtain ⟨g, cap', e, hg, _, hr⟩ := ownsRow_at h1 hpos
    cases e
    exact ⟨g, 0, rfl, hg, fun j u hu => by rw [Nat.zero_add]; exact hr j u hu⟩
  · obtain ⟨u, h4, h5⟩ := h3 i hi
    exact ⟨u, h4, h5.weak fun _ _ _ => trivial⟩
theorem OwnSecs.ents {B : Nat} (h : OwnSecs w B v L) : EntsAt w (fun k => B ≤ k) v L := by
  obtain ⟨vs, h1, h2⟩ := h.ex
  refine ⟨vs, ownsRow_base h1 (Nat.zero_le _), fun g hg => (ownsRow_lt h1 g hg).1, fun i hi => ?_⟩
  obtain ⟨u, h3, h4⟩ := h2 i hi
  refine ⟨u, h3, ⟨?_, (own_bytesN h4).nil⟩⟩
  obtain ⟨a, cap, e, h5, h6⟩ := (own_bytesN h4).at_
  refine ⟨a, cap, e, h5, fun hne => ?_⟩
  obtain ⟨g, off, e2, h7, h8, h9⟩ := h6 hne
  refine ⟨g, off, e2, ⟨h7, fun e3 => ?_⟩, h8, h9⟩
  rcases own_ne2 h1 h4 (by decide) with h10 | h10
  · rw [e, e2] at h10; cases h10
  · exact h10 (by rw [e, e2, e3]; rfl)
/-- One of them. -/
theorem EntsAt.get {a : Option Addr} {n cap : Nat} (h : EntsAt w F (.slice a n cap) L) {i : Nat} (hi : i < L.length) : ∃ g x c, a = some ⟨g, 0, none⟩ ∧ g < w.heap.size ∧ w.cell? ⟨g, i, none⟩ = some (.slice x L[i].length c) ∧ BytesN w F (.slice x L[i].length c) L[i] := by
  obtain ⟨vs, h1, h2, h3⟩ := h.ex
  obtain ⟨u, h4, h5⟩ := h3 i hi
  obtain ⟨x, c, rfl⟩ := h5.form
  obtain ⟨g, cap', e, hg, _, hr⟩ := ownsRow_at h1 (by omega)
  cases e
  exact ⟨g, x, c, rfl, hg, hr i _ h4, h5.weak fun k _ h6 => h6.1⟩
/-- One more slice. -/
theorem wp_appEntB {o : Oper} {a : Act} {Q : Exit → Act → World → Prop} {K : Act → World → Prop} (s x : Operand) (ho : o.op = .call { callee := .builtin .append, args := #[s, x], argTypes := #[56, 56] })
    {u : Value} {l : List UInt8} (hs : a.eval s = v) (hown : EntsAt w F v L) (hu : BytesN w (fun k => F k ∧ v.ownBlock ≠ some k) u l) (hx : a.eval x = .slice (some ⟨w.heap.size, 0, none⟩) 1 1)
    {n : Nat} (hL : L.length = n) (hn : n < 1000000000)
    (h : ∀ a' cap' w', EntsAt w' (fun k => F k ∨ w.heap.size ≤ k) (.slice a' (n + 1) cap') (L ++ [l]) → Chg (fun k => v.ownBlock = some k) w w' → (∀ g, (Value.slice a' (n + 1) cap').ownBlock = some g → v.ownBlock = some g ∨ w.heap.size ≤ g) → K (a.put o.dst (.slice a' (n + 1) cap')) w') :
    o.wp Tryd.prog a (w.alloc (.cells #[u] 36)) K Q := by
  subst hL
  obtain ⟨i0, hi, hz0, hz1, hz2⟩ := info_parts infoSl
  have hba : Below w.heap.size w (w.alloc (.cells #[u] 36)) := (Below.refl _ _).alloc (Nat.le_refl _) _
  obtain ⟨vs, hr, hF, he⟩ := hown.ex
  have hr1 := own_kept hr hba
  have hu1 := hu.below hba
  obtain ⟨ua, uc, hue⟩ := hu.form
  refine wp_append_lies _ s x 56 ho 0 36 i0 _ 1 24 Tryd.underlying56 hi hz0 hz1 hz2 rfl (by decide) v L.length vs hs hr1
    ⟨w.heap.size, 0, none⟩ 1 1 [u] hx rfl (World.news_of_block (cs := #[u]) (t := 36) (fr := (0, 0)) (heap_alloc_new _ _)) (fun y hy => by obtain rfl := List.mem_singleton.1 hy; rw [hue]; rfl) (by decide) (by unfold maxLen; omega) (by omega) (Nat.zero_le _) _ rfl ?_
  intro g' cap' w' hown' hgrow hat hlt
  have hc1 : Chg (fun k => v.ownBlock = some k) (w.alloc (.cells #[u] 36)) w' := Chg.grown hgrow (fun k hk => .inl hk)
  have hc2 : Chg (fun k => v.ownBlock = some k) w w' := (Chg.of_below hba).trans hc1 (fun k hk => .inl hk)
  have hat' : v.ownBlock = some g' ∨ w.heap.size ≤ g' := hat.elim .inl (fun e => .inr (by rw [e, World.size_alloc]; omega))
  have hvl : vs.length = L.length := by have := hr.1; omega
  have keep : ∀ (y : Value) (ys : List UInt8), BytesN w (fun k => F k ∧ v.ownBlock ≠ some k) y ys → BytesN w' (fun k => (F k ∨ w.heap.size ≤ k) ∧ (Value.slice (some ⟨g', 0, none⟩) (L.length + 1) cap').ownBlock ≠ some k) y ys := fun y ys hy => by
    have h1 := (hy.weak (G := fun k => (F k ∧ v.ownBlock ≠ some k) ∧ k < w.heap.size) (fun k h1 h2 => ⟨h2, h1⟩)).chg hc2 (fun k _ h3 => h3.1.2)
    refine h1.weak fun k _ h2 => ⟨.inl h2.1.1, fun e => ?_⟩
    have e' : g' = k := Option.some.inj e
    subst e'
    rcases hat' with h3 | h3
    · exact h2.1.2 h3
    · have := h2.2; omega
  refine h _ cap' w' ⟨vs ++ [u], by rw [List.length_append]; exact hown', fun g hg => ?_, fun i hi => ?_⟩ hc2 (fun g hg => by obtain rfl : g' = g := Option.some.inj hg; exact hat')
  · obtain rfl : g' = g := Option.some.inj hg
    exact hat'.elim (fun h3 => .inl (hF _ h3)) .inr
  by_cases hlt : i < L.length
  · obtain ⟨y, h1, h2⟩ := he i hlt
    refine ⟨y, by rw [List.getElem?_append_left (by omega)]; exact h1, ?_⟩
    rw [List.getElem_append_left hlt]
    exact keep _ _ h2
  · rw [List.length_append] at hi
    simp at hi
    obtain rfl : i = L.length := by omega
    refine ⟨u, by rw [List.getElem?_append_right (by omega), hvl, Nat.sub_self]; rfl, ?_⟩
    simp only [List.getElem_append_right (Nat.le_refl _), Nat.sub_self, List.getElem_cons_zero]
    exact keep _ _ hu
theorem wp_appEnt {o : Oper} {a : Act} {Q : Exit → Act → World → Prop} {K : Act → World → Prop} (s x : Operand) (ho : o.op = .call { callee := .builtin .append, args := #[s, x], argTypes := #[56, 56] })
    {u : Value} {l : List UInt8} (hs : a.eval s = v) (hown : EntsAt w F v L) (hu : BytesN w (fun k => F k ∧ v.ownBlock ≠ some k) u l) (hx : a.eval x = .slice (some ⟨w.heap.size, 0, none⟩) 1 1)
    {n : Nat} (hL : L.length = n) (hn : n < 1000000000)
    (h : ∀ a' cap' w', EntsAt w' (fun k => F k ∨ w.heap.size ≤ k) (.slice a' (n + 1) cap') (L ++ [l]) → Chg (fun k => v.ownBlock = some k) w w' → K (a.put o.dst (.slice a' (n + 1) cap')) w') :
    o.wp Tryd.prog a (w.alloc (.cells #[u] 36)) K Q :=
  wp_appEntB s x ho hs hown hu hx hL hn fun a' cap' w' h1 h2 _ => h a' cap' w' h1 h2
theorem wpList_appEnt {ops : Array Oper} {rest : List Oper} {o : Oper} {a : Act} {Q : Exit → Act → World → Prop} (hgd : o.guard = none) (s x : Operand) (ho : o.op = .call { callee := .builtin .append, args := #[s, x], argTypes := #[56, 56] })
    {u : Value} {l : List UInt8} (hs : a.eval s = v) (hown : EntsAt w F v L) (hu : BytesN w (fun k => F k ∧ v.ownBlock ≠ some k) u l) (hx : a.eval x = .slice (some ⟨w.heap.size, 0, none⟩) 1 1)
    {n : Nat} (hL : L.length = n) (hn : n < 1000000000)
    (h : ∀ a' cap' w', EntsAt w' (fun k => F k ∨ w.heap.size ≤ k) (.slice a' (n + 1) cap') (L ++ [l]) → Chg (fun k => v.ownBlock = some k) w w' → wpList Tryd.prog ops Q rest (a.put o.dst (.slice a' (n + 1) cap')) w') :
    wpList Tryd.prog ops Q (o :: rest) a (w.alloc (.cells #[u] 36)) :=
  wpList_plain hgd fun _ hK => wp_appEnt s x ho hs hown hu hx hL hn fun a' cap' w' h1 h2 => hK _ _ (h a' cap' w' h1 h2)
theorem wpList_appEntB {ops : Array Oper} {rest : List Oper} {o : Oper} {a : Act} {Q : Exit → Act → World → Prop} (hgd : o.guard = none) (s x : Operand) (ho : o.op = .call { callee := .builtin .append, args := #[s, x], argTypes := #[56, 56] })
    {u : Value} {l : List UInt8} (hs : a.eval s = v) (hown : EntsAt w F v L) (hu : BytesN w (fun k => F k ∧ v.ownBlock ≠ some k) u l) (hx : a.eval x = .slice (some ⟨w.heap.size, 0, none⟩) 1 1)
    {n : Nat} (hL : L.length = n) (hn : n < 1000000000)
    (h : ∀ a' cap' w', EntsAt w' (fun k => F k ∨ w.heap.size ≤ k) (.slice a' (n + 1) cap') (L ++ [l]) → Chg (fun k => v.ownBlock = some k) w w' → (∀ g, (Value.slice a' (n + 1) cap').ownBlock = some g → v.ownBlock = some g ∨ w.heap.size ≤ g) → wpList Tryd.prog ops Q rest (a.put o.dst (.slice a' (n + 1) cap')) w') :
    wpList Tryd.prog ops Q (o :: rest) a (w.alloc (.cells #[u] 36)) :=
  wpList_plain hgd fun _ hK => wp_appEntB s x ho hs hown hu hx hL hn fun a' cap' w' h1 h2 h3 => hK _ _ (h a' cap' w' h1 h2 h3)
end
end Go.Proofs.YtplclpileejemaaDoor

namespace Go.Proofs.YtplclpileejemaaDoor
open Go.RowKit
set_option linter.unusedVariables false
set_option linter.unusedSimpArgs false

/-- The range of sectors as a value. -/
def stV (b : Nat) (a c : Int) : Value := .agg #[.pointer (some ⟨b, 0, none⟩), .int .i64 a, .int .i64 c]
theorem Jsize_any {w : World} (b : Nat) (a : Int) (c : Nat) (hc : c < 1000000000) : Calls Tryd.prog 42 #[stV b a (c : Int)] w fun e w' => e = .returned (.int .i64 ((c / 2 : Nat) : Int)) ∧ Below w.heap.size w w' := by
  unfold stV
  have HB := Lib.hid (show Below w.heap.size w (w.alloc (.cells #[.pointer (some ⟨b, 0, none⟩), .int .i64 a, .int .i64 (c : Int)] 75)) from (Below.refl _ _).alloc (Nat.le_refl _) _)
  go_enter Tryd.func42, Tryd.ntmps42
  go_wp2_with fail
  exact bodyPost_ret (v := .int .i64 ((c / 2 : Nat) : Int)) (by simp [results, Tryd.results42, go_sem]) rfl ⟨rfl, HB.out⟩
theorem Jcheck_nil {w : World} (a c : Int) : Calls Tryd.prog 35 #[.agg #[.pointer none, .int .i64 a, .int .i64 c]] w fun e w' => e = .returned (.int .i64 1) ∧ Below w.heap.size w w' := by
  have HB := Lib.hid (show Below w.heap.size w (w.alloc (.cells #[.pointer none, .int .i64 a, .int .i64 c] 75)) from (Below.refl _ _).alloc (Nat.le_refl _) _)
  go_enter Tryd.func35, Tryd.ntmps35
  go_wp2_with fail
  exact bodyPost_ret (v := .int .i64 1) (by simp [results, Tryd.results35, go_sem]) rfl ⟨rfl, HB.out⟩

set_option maxRecDepth 100000 in
set_option maxHeartbeats 2000000 in
theorem Jcheck_any {w : World} {F : Nat → Prop} {b : Nat} {S : DS} (h : DiskAt w F b S) (a c : Int) (ha : -9223372036854775808 ≤ a ∧ a ≤ 9223372036854775807) (hc : -9223372036854775808 ≤ c ∧ c ≤ 9223372036854775807) : Calls Tryd.prog 35 #[stV b a c] w fun e w' => e = .returned (.int .i64 (withinE S a c)) ∧ Below w.heap.size w w' := by
  unfold stV
  obtain ⟨w0, hw0⟩ : ∃ w0, w.alloc (.cells #[.pointer (some ⟨b, 0, none⟩), .int .i64 a, .int .i64 c] 75) = w0 := ⟨_, rfl⟩
  have hb0 : Below w.heap.size w w0 := hw0 ▸ (Below.refl _ _).alloc (Nat.le_refl _) _
  have hx0 : w0.heap[w.heap.size]? = some (.cells #[.pointer (some ⟨b, 0, none⟩), .int .i64 a, .int .i64 c] 75 (0, 0)) := by rw [← hw0]; exact heap_alloc_new _ _
  have HB := Lib.hid hb0
  have HD := Lib.hid (h.below hb0)
  have HC := Lib.hid (show ∀ w', Below w0.heap.size w0 w' → w'.cell? ⟨w.heap.size, 0, none⟩ = some (.pointer (some ⟨b, 0, none⟩)) ∧ w'.cell? ⟨w.heap.size, 1, none⟩ = some (.int .i64 a) ∧ w'.cell? ⟨w.heap.size, 2, none⟩ = some (.int .i64 c) from fun w' hw' => by
    have h1 := (hw'.block _ (Array.getElem?_eq_some_iff.1 hx0).1).trans hx0
    refine ⟨?_, ?_, ?_⟩ <;> rw [cell_of_row _ _ _ _ _ _ h1] <;> rfl)
  obtain ⟨b0, hbb⟩ : ∃ b0, w.heap.size = b0 := ⟨_, rfl⟩
  rw [hbb] at HC
  have HBB := Lib.hid hbb
  have HW := Lib.hid hw0
  have hml : S.dur.length ≤ 4096 := h.ok.most
  obtain ⟨M, hM⟩ : ∃ M, S.dur.length = M := ⟨_, rfl⟩
  have HSE := Lib.hid (show withinE S a c = (if a < 0 ∨ c < 8 ∨ (M : Int) - c < a then 2 else if S.down then 28 else 0) by unfold withinE; rw [hM])
  have HM := Lib.hid hM
  rw [hM] at hml
  obtain ⟨z, hz⟩ : ∃ z, withinE S a c = z := ⟨_, rfl⟩
  rw [hz] at HSE ⊢
  clear hw0 hb0 hx0 hbb h hM hz
  go_enter Tryd.func35, Tryd.ntmps35
  go_wp2_with fail
  rw [HBB.out, HW.out]
  obtain ⟨h0, _⟩ := HC.out w0 (Below.refl _ _)
  go_wp2_with fail
  clear h0
  by_cases h1 : a < 0
  · have hd : decide (a < 0) = true := decide_eq_true h1
    obtain rfl : z = 2 := by rw [HSE.out, if_pos (.inl h1)]
    refine wp_region_noPanic ?_
    refine wp_region_H (Below w0.heap.size w0) (by kernel_rfl) ?_
    have hS0 : (Below w0.heap.size w0) w0.drew := (Below.refl _ _).drew
    obtain ⟨wd, hwd⟩ : ∃ wd, w0.drew = wd := ⟨_, rfl⟩
    rw [hwd] at hS0 ⊢
    clear hwd
    refine wpAnyH_takeI (i := 0) (v := ?v1) rfl (by kernel_rfl) (by kernel_rfl) (by kernel_rfl) (fun _ _ _ h => h) (yieldsIf_run rfl (fun w' hw' => ?y1)) hS0 ?_
    case y1 => first | (go_simp; rfl) | (go_simp; done) | rfl
    simp only [Act.put, List.setIfInBounds_toArray, List.set_cons_zero, List.set_cons_succ]
    refine wpAnyH_takeI (i := 1) (v := ?v2) rfl (by kernel_rfl) (by kernel_rfl) (by kernel_rfl) (fun _ _ _ h => h) (yieldsIf_run rfl (fun w' hw' => ?y2)) hS0 ?_
    case y2 => (obtain ⟨h1, h2, h3⟩ := HC.out w' hw'; clear hw'; first | (go_simp; rfl) | (go_simp; done))
    simp only [Act.put, List.setIfInBounds_toArray, List.set_cons_zero, List.set_cons_succ]
    refine wpAnyH_takeI (i := 2) (v := ?v3) rfl (by kernel_rfl) (by kernel_rfl) (by kernel_rfl) (fun _ _ _ h => h) (yieldsIf_run rfl (fun w' hw' => ?y3)) hS0 ?_
    case y3 => first | (go_simp; rfl) | (go_simp; done) | rfl
    simp only [Act.put, List.setIfInBounds_toArray, List.set_cons_zero, List.set_cons_succ]
    refine wpAnyH_takeI (i := 3) (v := ?v4) rfl (by kernel_rfl) (by kernel_rfl) (by kernel_rfl) (fun _ _ _ h => h) (yieldsIf_run rfl (fun w' hw' => ?y4)) hS0 ?_
    case y4 => first | (go_simp; rfl) | (go_simp; done) | rfl
    simp only [Act.put, List.setIfInBounds_toArray, List.set_cons_zero, List.set_cons_succ]
    refine wpAnyH_takeI (i := 4) (v := undef) rfl (by kernel_rfl) (by kernel_rfl) (by kernel_rfl) (fun _ _ _ h => h) (yieldsIf_skip rfl) hS0 ?_
    simp only [Act.put, List.setIfInBounds_toArray, List.set_cons_zero, List.set_cons_succ]
    refine wpAnyH_takeI (i := 5) (v := undef) rfl (by kernel_rfl) (by kernel_rfl) (by kernel_rfl) (fun _ _ _ h => h) (yieldsIf_skip rfl) hS0 ?_
    simp only [Act.put, List.setIfInBounds_toArray, List.set_cons_zero, List.set_cons_succ]
    refine wpAnyH_takeI (i := 6) (v := undef) rfl (by kernel_rfl) (by kernel_rfl) (by kernel_rfl) (fun _ _ _ h => h) (yieldsIf_skip rfl) hS0 ?_
    simp only [Act.put, List.setIfInBounds_toArray, List.set_cons_zero, List.set_cons_succ]
    refine wpAnyH_takeI (i := 7) (v := ?v5) rfl (by kernel_rfl) (by kernel_rfl) (by kernel_rfl) (fun _ _ _ h => h) (yieldsIf_run rfl (fun w' hw' => ?y5)) hS0 ?_
    case y5 => first | (go_simp; rfl) | (go_simp; done) | rfl
    simp only [Act.put, List.setIfInBounds_toArray, List.set_cons_zero, List.set_cons_succ]
    refine wpAnyH_takeI (i := 8) (v := ?v6) rfl (by kernel_rfl) (by kernel_rfl) (by kernel_rfl) (fun _ _ _ h => h) (yieldsIf_run rfl (fun w' hw' => ?y6)) hS0 ?_
    case y6 => first | (go_simp; rfl) | (go_simp; done) | rfl
    simp only [Act.put, List.setIfInBounds_toArray, List.set_cons_zero, List.set_cons_succ]
    refine wpAnyH_takeI (i := 9) (v := undef) rfl (by kernel_rfl) (by kernel_rfl) (by kernel_rfl) (fun _ _ _ h => h) (yieldsIf_skip rfl) hS0 ?_
    simp only [Act.put, List.setIfInBounds_toArray, List.set_cons_zero, List.set_cons_succ]
    refine wpAnyH_takeI (i := 10) (v := undef) rfl (by kernel_rfl) (by kernel_rfl) (by kernel_rfl) (fun _ _ _ h => h) (yieldsIf_skip rfl) hS0 ?_
    simp only [Act.put, List.setIfInBounds_toArray, List.set_cons_zero, List.set_cons_succ]
    refine wpAnyH_takeI (i := 11) (v := undef) rfl (by kernel_rfl) (by kernel_rfl) (by kernel_rfl) (fun _ _ _ h => h) (yieldsIf_skip rfl) hS0 ?_
    simp only [Act.put, List.setIfInBounds_toArray, List.set_cons_zero, List.set_cons_succ]
    refine wpAnyH_takeI (i := 12) (v := undef) rfl (by kernel_rfl) (by kernel_rfl) (by kernel_rfl) (fun _ _ _ h => h) (yieldsIf_skip rfl) hS0 ?_
    simp only [Act.put, List.setIfInBounds_toArray, List.set_cons_zero, List.set_cons_succ]
    refine wpAnyH_takeI (i := 14) (v := undef) rfl (by kernel_rfl) (by kernel_rfl) (by kernel_rfl) (fun _ _ _ h => h) (yieldsIf_skip rfl) hS0 ?_
    simp only [Act.put, List.setIfInBounds_toArray, List.set_cons_zero, List.set_cons_succ]
    refine wpAnyH_takeI (i := 15) (v := undef) rfl (by kernel_rfl) (by kernel_rfl) (by kernel_rfl) (fun _ _ _ h => h) (yieldsIf_skip rfl) hS0 ?_
    simp only [Act.put, List.setIfInBounds_toArray, List.set_cons_zero, List.set_cons_succ]
    refine wpAnyH_takeI (i := 13) (v := undef) rfl (by kernel_rfl) (by kernel_rfl) (by kernel_rfl) (fun _ _ _ h => h) (yieldsIf_skip rfl) hS0 ?_
    simp only [Act.put, List.setIfInBounds_toArray, List.set_cons_zero, List.set_cons_succ]
    refine wpAnyH_takeI (i := 16) (v := undef) rfl (by kernel_rfl) (by kernel_rfl) (by kernel_rfl) (fun _ _ _ h => h) (yieldsIf_skip rfl) hS0 ?_
    simp only [Act.put, List.setIfInBounds_toArray, List.set_cons_zero, List.set_cons_succ]
    refine wpAnyH_takeI (i := 17) (v := undef) rfl (by kernel_rfl) (by kernel_rfl) (by kernel_rfl) (fun _ _ _ h => h) (yieldsIf_skip rfl) hS0 ?_
    simp only [Act.put, List.setIfInBounds_toArray, List.set_cons_zero, List.set_cons_succ]
    refine wpAnyH_takeI (i := 18) (v := ?v7) rfl (by kernel_rfl) (by kernel_rfl) (by kernel_rfl) (fun _ _ _ h => h) (yieldsIf_run rfl (fun w' hw' => ?y7)) hS0 ?_
    case y7 => first | (go_simp; rfl) | (go_simp; done) | rfl
    simp only [Act.put, List.setIfInBounds_toArray, List.set_cons_zero, List.set_cons_succ]
    refine wpAnyH_takeI (i := 19) (v := ?v8) rfl (by kernel_rfl) (by kernel_rfl) (by kernel_rfl) (fun _ _ _ h => h) (yieldsIf_run rfl (fun w' hw' => ?y8)) hS0 ?_
    case y8 => first | (go_simp; rfl) | (go_simp; done) | rfl
    simp only [Act.put, List.setIfInBounds_toArray, List.set_cons_zero, List.set_cons_succ]
    refine wpAnyH_done (by kernel_rfl) ?_ _
    refine NoPanic.normal ?_
    have HE := Lib.hid (HB.out.trans (hS0.mono HB.out.size))
    go_wp2_with fail
    exact bodyPost_ret (v := .int .i64 2) (by simp [results, Tryd.results35, go_sem]) rfl ⟨rfl, HE.out⟩
  have hd : decide (a < 0) = false := decide_eq_false h1
  by_cases h2 : c < 8
  · have hd2 : decide (c < 8) = true := decide_eq_true h2
    obtain rfl : z = 2 := by rw [HSE.out, if_pos (.inr (.inl h2))]
    refine wp_region_noPanic ?_
    refine wp_region_H (Below w0.heap.size w0) (by kernel_rfl) ?_
    have hS0 : (Below w0.heap.size w0) w0.drew := (Below.refl _ _).drew
    obtain ⟨wd, hwd⟩ : ∃ wd, w0.drew = wd := ⟨_, rfl⟩
    rw [hwd] at hS0 ⊢
    clear hwd
    refine wpAnyH_takeI (i := 0) (v := ?v9) rfl (by kernel_rfl) (by kernel_rfl) (by kernel_rfl) (fun _ _ _ h => h) (yieldsIf_run rfl (fun w' hw' => ?y9)) hS0 ?_
    case y9 => first | (go_simp; rfl) | (go_simp; done) | rfl
    simp only [Act.put, List.setIfInBounds_toArray, List.set_cons_zero, List.set_cons_succ]
    refine wpAnyH_takeI (i := 1) (v := ?v10) rfl (by kernel_rfl) (by kernel_rfl) (by kernel_rfl) (fun _ _ _ h => h) (yieldsIf_run rfl (fun w' hw' => ?y10)) hS0 ?_
    case y10 => (obtain ⟨h1, h2, h3⟩ := HC.out w' hw'; clear hw'; first | (go_simp; rfl) | (go_simp; done))
    simp only [Act.put, List.setIfInBounds_toArray, List.set_cons_zero, List.set_cons_succ]
    refine wpAnyH_takeI (i := 2) (v := ?v11) rfl (by kernel_rfl) (by kernel_rfl) (by kernel_rfl) (fun _ _ _ h => h) (yieldsIf_run rfl (fun w' hw' => ?y11)) hS0 ?_
    case y11 => first | (go_simp; rfl) | (go_simp; done) | rfl
    simp only [Act.put, List.setIfInBounds_toArray, List.set_cons_zero, List.set_cons_succ]
    refine wpAnyH_takeI (i := 3) (v := ?v12) rfl (by kernel_rfl) (by kernel_rfl) (by kernel_rfl) (fun _ _ _ h => h) (yieldsIf_run rfl (fun w' hw' => ?y12)) hS0 ?_
    case y12 => first | (go_simp; rfl) | (go_simp; done) | rfl
    simp only [Act.put, List.setIfInBounds_toArray, List.set_cons_zero, List.set_cons_succ]
    refine wpAnyH_takeI (i := 4) (v := ?v13) rfl (by kernel_rfl) (by kernel_rfl) (by kernel_rfl) (fun _ _ _ h => h) (yieldsIf_want rfl (fun w' hw' => ?y13)) hS0 ?_
    case y13 => first | (go_simp; rfl) | (go_simp; done) | rfl
    simp only [Act.put, List.setIfInBounds_toArray, List.set_cons_zero, List.set_cons_succ]
    refine wpAnyH_takeI (i := 5) (v := ?v14) rfl (by kernel_rfl) (by kernel_rfl) (by kernel_rfl) (fun _ _ _ h => h) (yieldsIf_want rfl (fun w' hw' => ?y14)) hS0 ?_
    case y14 => (obtain ⟨h1, h2, h3⟩ := HC.out w' hw'; clear hw'; first | (go_simp; rfl) | (go_simp; done))
    simp only [Act.put, List.setIfInBounds_toArray, List.set_cons_zero, List.set_cons_succ]
    refine wpAnyH_takeI (i := 6) (v := ?v15) rfl (by kernel_rfl) (by kernel_rfl) (by kernel_rfl) (fun _ _ _ h => h) (yieldsIf_want rfl (fun w' hw' => ?y15)) hS0 ?_
    case y15 => first | (go_simp; rfl) | (go_simp; done) | rfl
    simp only [Act.put, List.setIfInBounds_toArray, List.set_cons_zero, List.set_cons_succ]
    refine wpAnyH_takeI (i := 7) (v := ?v16) rfl (by kernel_rfl) (by kernel_rfl) (by kernel_rfl) (fun _ _ _ h => h) (yieldsIf_run rfl (fun w' hw' => ?y16)) hS0 ?_
    case y16 => first | (go_simp; rfl) | (go_simp; done) | rfl
    simp only [Act.put, List.setIfInBounds_toArray, List.set_cons_zero, List.set_cons_succ]
    refine wpAnyH_takeI (i := 8) (v := ?v17) rfl (by kernel_rfl) (by kernel_rfl) (by kernel_rfl) (fun _ _ _ h => h) (yieldsIf_run rfl (fun w' hw' => ?y17)) hS0 ?_
    case y17 => first | (go_simp; rfl) | (go_simp; done) | rfl
    simp only [Act.put, List.setIfInBounds_toArray, List.set_cons_zero, List.set_cons_succ]
    refine wpAnyH_takeI (i := 9) (v := undef) rfl (by kernel_rfl) (by kernel_rfl) (by kernel_rfl) (fun _ _ _ h => h) (yieldsIf_skip rfl) hS0 ?_
    simp only [Act.put, List.setIfInBounds_toArray, List.set_cons_zero, List.set_cons_succ]
    refine wpAnyH_takeI (i := 10) (v := undef) rfl (by kernel_rfl) (by kernel_rfl) (by kernel_rfl) (fun _ _ _ h => h) (yieldsIf_skip rfl) hS0 ?_
    simp only [Act.put, List.setIfInBounds_toArray, List.set_cons_zero, List.set_cons_succ]
    refine wpAnyH_takeI (i := 11) (v := undef) rfl (by kernel_rfl) (by kernel_rfl) (by kernel_rfl) (fun _ _ _ h => h) (yieldsIf_skip rfl) hS0 ?_
    simp only [Act.put, List.setIfInBounds_toArray, List.set_cons_zero, List.set_cons_succ]
    refine wpAnyH_takeI (i := 12) (v := undef) rfl (by kernel_rfl) (by kernel_rfl) (by kernel_rfl) (fun _ _ _ h => h) (yieldsIf_skip rfl) hS0 ?_
    simp only [Act.put, List.setIfInBounds_toArray, List.set_cons_zero, List.set_cons_succ]
    refine wpAnyH_takeI (i := 14) (v := undef) rfl (by kernel_rfl) (by kernel_rfl) (by kernel_rfl) (fun _ _ _ h => h) (yieldsIf_skip rfl) hS0 ?_
    simp only [Act.put, List.setIfInBounds_toArray, List.set_cons_zero, List.set_cons_succ]
    refine wpAnyH_takeI (i := 15) (v := undef) rfl (by kernel_rfl) (by kernel_rfl) (by kernel_rfl) (fun _ _ _ h => h) (yieldsIf_skip rfl) hS0 ?_
    simp only [Act.put, List.setIfInBounds_toArray, List.set_cons_zero, List.set_cons_succ]
    refine wpAnyH_takeI (i := 13) (v := undef) rfl (by kernel_rfl) (by kernel_rfl) (by kernel_rfl) (fun _ _ _ h => h) (yieldsIf_skip rfl) hS0 ?_
    simp only [Act.put, List.setIfInBounds_toArray, List.set_cons_zero, List.set_cons_succ]
    refine wpAnyH_takeI (i := 16) (v := undef) rfl (by kernel_rfl) (by kernel_rfl) (by kernel_rfl) (fun _ _ _ h => h) (yieldsIf_skip rfl) hS0 ?_
    simp only [Act.put, List.setIfInBounds_toArray, List.set_cons_zero, List.set_cons_succ]
    refine wpAnyH_takeI (i := 17) (v := undef) rfl (by kernel_rfl) (by kernel_rfl) (by kernel_rfl) (fun _ _ _ h => h) (yieldsIf_skip rfl) hS0 ?_
    simp only [Act.put, List.setIfInBounds_toArray, List.set_cons_zero, List.set_cons_succ]
    refine wpAnyH_takeI (i := 18) (v := ?v18) rfl (by kernel_rfl) (by kernel_rfl) (by kernel_rfl) (fun _ _ _ h => h) (yieldsIf_run rfl (fun w' hw' => ?y18)) hS0 ?_
    case y18 => first | (go_simp; rfl) | (go_simp; done) | rfl
    simp only [Act.put, List.setIfInBounds_toArray, List.set_cons_zero, List.set_cons_succ]
    refine wpAnyH_takeI (i := 19) (v := ?v19) rfl (by kernel_rfl) (by kernel_rfl) (by kernel_rfl) (fun _ _ _ h => h) (yieldsIf_run rfl (fun w' hw' => ?y19)) hS0 ?_
    case y19 => first | (go_simp; rfl) | (go_simp; done) | rfl
    simp only [Act.put, List.setIfInBounds_toArray, List.set_cons_zero, List.set_cons_succ]
    refine wpAnyH_done (by kernel_rfl) ?_ _
    refine NoPanic.normal ?_
    have HE := Lib.hid (HB.out.trans (hS0.mono HB.out.size))
    go_wp2_with fail
    exact bodyPost_ret (v := .int .i64 2) (by simp [results, Tryd.results35, go_sem]) rfl ⟨rfl, HE.out⟩
  have hd2 : decide (c < 8) = false := decide_eq_false h2
  have hwr : IntKind.i64.wrap ((M : Int) - c) = (M : Int) - c := IntWalk.i64_in _ (by omega)
  by_cases h3 : (M : Int) - c < a
  · have hd3 : decide ((M : Int) - c < a) = true := decide_eq_true h3
    obtain rfl : z = 2 := by rw [HSE.out, if_pos (.inr (.inr h3))]
    refine wp_region_noPanic ?_
    refine wp_region_H (Below w0.heap.size w0) (by kernel_rfl) ?_
    have hS0 : (Below w0.heap.size w0) w0.drew := (Below.refl _ _).drew
    obtain ⟨wd, hwd⟩ : ∃ wd, w0.drew = wd := ⟨_, rfl⟩
    rw [hwd] at hS0 ⊢
    clear hwd
    refine wpAnyH_takeI (i := 0) (v := ?v20) rfl (by kernel_rfl) (by kernel_rfl) (by kernel_rfl) (fun _ _ _ h => h) (yieldsIf_run rfl (fun w' hw' => ?y20)) hS0 ?_
    case y20 => first | (go_simp; rfl) | (go_simp; done) | rfl
    simp only [Act.put, List.setIfInBounds_toArray, List.set_cons_zero, List.set_cons_succ]
    refine wpAnyH_takeI (i := 1) (v := ?v21) rfl (by kernel_rfl) (by kernel_rfl) (by kernel_rfl) (fun _ _ _ h => h) (yieldsIf_run rfl (fun w' hw' => ?y21)) hS0 ?_
    case y21 => (obtain ⟨h1, h2, h3⟩ := HC.out w' hw'; clear hw'; first | (go_simp; rfl) | (go_simp; done))
    simp only [Act.put, List.setIfInBounds_toArray, List.set_cons_zero, List.set_cons_succ]
    refine wpAnyH_takeI (i := 2) (v := ?v22) rfl (by kernel_rfl) (by kernel_rfl) (by kernel_rfl) (fun _ _ _ h => h) (yieldsIf_run rfl (fun w' hw' => ?y22)) hS0 ?_
    case y22 => first | (go_simp; rfl) | (go_simp; done) | rfl
    simp only [Act.put, List.setIfInBounds_toArray, List.set_cons_zero, List.set_cons_succ]
    refine wpAnyH_takeI (i := 3) (v := ?v23) rfl (by kernel_rfl) (by kernel_rfl) (by kernel_rfl) (fun _ _ _ h => h) (yieldsIf_run rfl (fun w' hw' => ?y23)) hS0 ?_
    case y23 => first | (go_simp; rfl) | (go_simp; done) | rfl
    simp only [Act.put, List.setIfInBounds_toArray, List.set_cons_zero, List.set_cons_succ]
    refine wpAnyH_takeI (i := 4) (v := ?v24) rfl (by kernel_rfl) (by kernel_rfl) (by kernel_rfl) (fun _ _ _ h => h) (yieldsIf_want rfl (fun w' hw' => ?y24)) hS0 ?_
    case y24 => first | (go_simp; rfl) | (go_simp; done) | rfl
    simp only [Act.put, List.setIfInBounds_toArray, List.set_cons_zero, List.set_cons_succ]
    refine wpAnyH_takeI (i := 5) (v := ?v25) rfl (by kernel_rfl) (by kernel_rfl) (by kernel_rfl) (fun _ _ _ h => h) (yieldsIf_want rfl (fun w' hw' => ?y25)) hS0 ?_
    case y25 => (obtain ⟨h1, h2, h3⟩ := HC.out w' hw'; clear hw'; first | (go_simp; rfl) | (go_simp; done))
    simp only [Act.put, List.setIfInBounds_toArray, List.set_cons_zero, List.set_cons_succ]
    refine wpAnyH_takeI (i := 6) (v := ?v26) rfl (by kernel_rfl) (by kernel_rfl) (by kernel_rfl) (fun _ _ _ h => h) (yieldsIf_want rfl (fun w' hw' => ?y26)) hS0 ?_
    case y26 => first | (go_simp; rfl) | (go_simp; done) | rfl
    simp only [Act.put, List.setIfInBounds_toArray, List.set_cons_zero, List.set_cons_succ]
    refine wpAnyH_takeI (i := 7) (v := ?v27) rfl (by kernel_rfl) (by kernel_rfl) (by kernel_rfl) (fun _ _ _ h => h) (yieldsIf_run rfl (fun w' hw' => ?y27)) hS0 ?_
    case y27 => first | (go_simp; rfl) | (go_simp; done) | rfl
    simp only [Act.put, List.setIfInBounds_toArray, List.set_cons_zero, List.set_cons_succ]
    refine wpAnyH_takeI (i := 8) (v := ?v28) rfl (by kernel_rfl) (by kernel_rfl) (by kernel_rfl) (fun _ _ _ h => h) (yieldsIf_run rfl (fun w' hw' => ?y28)) hS0 ?_
    case y28 => first | (go_simp; rfl) | (go_simp; done) | rfl
    simp only [Act.put, List.setIfInBounds_toArray, List.set_cons_zero, List.set_cons_succ]
    refine wpAnyH_takeI (i := 9) (v := ?v29) rfl (by kernel_rfl) (by kernel_rfl) (by kernel_rfl) (fun _ _ _ h => h) (yieldsIf_want rfl (fun w' hw' => ?y29)) hS0 ?_
    case y29 => first | (go_simp; rfl) | (go_simp; done) | rfl
    simp only [Act.put, List.setIfInBounds_toArray, List.set_cons_zero, List.set_cons_succ]
    refine wpAnyH_takeI (i := 10) (v := ?v30) rfl (by kernel_rfl) (by kernel_rfl) (by kernel_rfl) (fun _ _ _ h => h) (yieldsIf_want rfl (fun w' hw' => ?y30)) hS0 ?_
    case y30 => (obtain ⟨h1, h2, h3⟩ := HC.out w' hw'; clear hw'; first | (go_simp; rfl) | (go_simp; done))
    simp only [Act.put, List.setIfInBounds_toArray, List.set_cons_zero, List.set_cons_succ]
    refine wpAnyH_takeI (i := 11) (v := ?v31) rfl (by kernel_rfl) (by kernel_rfl) (by kernel_rfl) (fun _ _ _ h => h) (yieldsIf_want rfl (fun w' hw' => ?y31)) hS0 ?_
    case y31 => first | (go_simp; rfl) | (go_simp; done) | rfl
    simp only [Act.put, List.setIfInBounds_toArray, List.set_cons_zero, List.set_cons_succ]
    refine wpAnyH_takeI (i := 12) (v := ?v32) rfl (by kernel_rfl) (by kernel_rfl) (by kernel_rfl) (fun _ _ _ h => h) (yieldsIf_want rfl (fun w' hw' => ?y32)) hS0 ?_
    case y32 => (obtain ⟨h1, h2, h3⟩ := HC.out w' hw'; clear hw'; first | (go_simp; rfl) | (go_simp; done))
    simp only [Act.put, List.setIfInBounds_toArray, List.set_cons_zero, List.set_cons_succ]
    refine wpAnyH_takeI (i := 14) (v := ?v33) rfl (by kernel_rfl) (by kernel_rfl) (by kernel_rfl) (fun _ _ _ h => h) (yieldsIf_want rfl (fun w' hw' => ?y33)) hS0 ?_
    case y33 => first | (go_simp; rfl) | (go_simp; done) | rfl
    simp only [Act.put, List.setIfInBounds_toArray, List.set_cons_zero, List.set_cons_succ]
    refine wpAnyH_takeI (i := 15) (v := ?v34) rfl (by kernel_rfl) (by kernel_rfl) (by kernel_rfl) (fun _ _ _ h => h) (yieldsIf_want rfl (fun w' hw' => ?y34)) hS0 ?_
    case y34 => (obtain ⟨h1, h2, h3⟩ := HC.out w' hw'; clear hw'; first | (go_simp; rfl) | (go_simp; done))
    simp only [Act.put, List.setIfInBounds_toArray, List.set_cons_zero, List.set_cons_succ]
    refine wpAnyH_want (i := 13) (by kernel_rfl) rfl rfl (fun K hK => ?_)
    go_simp
    go_at_call 53
    refine (Sectors_any (HD.out.below hS0)).mono ?_
    rintro e wk ⟨rfl, rfl⟩
    rw [HM.out]
    refine hK _ _ (hS0) ?_
    clear hK K
    try simp only [Act.put, List.setIfInBounds_toArray, List.set_cons_zero, List.set_cons_succ]
    refine wpAnyH_takeI (i := 16) (v := .int .i64 ((M : Int) - c)) rfl (by kernel_rfl) (by kernel_rfl) (by kernel_rfl) (fun _ _ _ h => h) (yieldsIf_want rfl (fun w' hw' => ?y35)) hS0 ?_
    case y35 => first | (go_simp; rfl) | (go_simp; done) | rfl
    simp only [Act.put, List.setIfInBounds_toArray, List.set_cons_zero, List.set_cons_succ]
    refine wpAnyH_takeI (i := 17) (v := ?v36) rfl (by kernel_rfl) (by kernel_rfl) (by kernel_rfl) (fun _ _ _ h => h) (yieldsIf_want rfl (fun w' hw' => ?y36)) hS0 ?_
    case y36 => first | (go_simp; rfl) | (go_simp; done) | rfl
    simp only [Act.put, List.setIfInBounds_toArray, List.set_cons_zero, List.set_cons_succ]
    refine wpAnyH_takeI (i := 18) (v := ?v37) rfl (by kernel_rfl) (by kernel_rfl) (by kernel_rfl) (fun _ _ _ h => h) (yieldsIf_run rfl (fun w' hw' => ?y37)) hS0 ?_
    case y37 => first | (go_simp; rfl) | (go_simp; done) | rfl
    simp only [Act.put, List.setIfInBounds_toArray, List.set_cons_zero, List.set_cons_succ]
    refine wpAnyH_takeI (i := 19) (v := ?v38) rfl (by kernel_rfl) (by kernel_rfl) (by kernel_rfl) (fun _ _ _ h => h) (yieldsIf_run rfl (fun w' hw' => ?y38)) hS0 ?_
    case y38 => first | (go_simp; rfl) | (go_simp; done) | rfl
    simp only [Act.put, List.setIfInBounds_toArray, List.set_cons_zero, List.set_cons_succ]
    refine wpAnyH_done (by kernel_rfl) ?_ _
    refine NoPanic.normal ?_
    have HE := Lib.hid (HB.out.trans (hS0.mono HB.out.size))
    go_wp2_with fail
    exact bodyPost_ret (v := .int .i64 2) (by simp [results, Tryd.results35, go_sem]) rfl ⟨rfl, HE.out⟩
  have hd3 : decide ((M : Int) - c < a) = false := decide_eq_false h3
  have HSE := Lib.hid (show z = if S.down then 28 else 0 by rw [HSE.out, if_neg (by omega)])
  refine wp_region_noPanic ?_
  refine wp_region_H (Below w0.heap.size w0) (by kernel_rfl) ?_
  have hS0 : (Below w0.heap.size w0) w0.drew := (Below.refl _ _).drew
  obtain ⟨wd, hwd⟩ : ∃ wd, w0.drew = wd := ⟨_, rfl⟩
  rw [hwd] at hS0 ⊢
  clear hwd
  refine wpAnyH_takeI (i := 0) (v := ?v39) rfl (by kernel_rfl) (by kernel_rfl) (by kernel_rfl) (fun _ _ _ h => h) (yieldsIf_run rfl (fun w' hw' => ?y39)) hS0 ?_
  case y39 => first | (go_simp; rfl) | (go_simp; done) | rfl
  simp only [Act.put, List.setIfInBounds_toArray, List.set_cons_zero, List.set_cons_succ]
  refine wpAnyH_takeI (i := 1) (v := ?v40) rfl (by kernel_rfl) (by kernel_rfl) (by kernel_rfl) (fun _ _ _ h => h) (yieldsIf_run rfl (fun w' hw' => ?y40)) hS0 ?_
  case y40 => (obtain ⟨h1, h2, h3⟩ := HC.out w' hw'; clear hw'; first | (go_simp; rfl) | (go_simp; done))
  simp only [Act.put, List.setIfInBounds_toArray, List.set_cons_zero, List.set_cons_succ]
  refine wpAnyH_takeI (i := 2) (v := ?v41) rfl (by kernel_rfl) (by kernel_rfl) (by kernel_rfl) (fun _ _ _ h => h) (yieldsIf_run rfl (fun w' hw' => ?y41)) hS0 ?_
  case y41 => first | (go_simp; rfl) | (go_simp; done) | rfl
  simp only [Act.put, List.setIfInBounds_toArray, List.set_cons_zero, List.set_cons_succ]
  refine wpAnyH_takeI (i := 3) (v := ?v42) rfl (by kernel_rfl) (by kernel_rfl) (by kernel_rfl) (fun _ _ _ h => h) (yieldsIf_run rfl (fun w' hw' => ?y42)) hS0 ?_
  case y42 => first | (go_simp; rfl) | (go_simp; done) | rfl
  simp only [Act.put, List.setIfInBounds_toArray, List.set_cons_zero, List.set_cons_succ]
  refine wpAnyH_takeI (i := 4) (v := ?v43) rfl (by kernel_rfl) (by kernel_rfl) (by kernel_rfl) (fun _ _ _ h => h) (yieldsIf_want rfl (fun w' hw' => ?y43)) hS0 ?_
  case y43 => first | (go_simp; rfl) | (go_simp; done) | rfl
  simp only [Act.put, List.setIfInBounds_toArray, List.set_cons_zero, List.set_cons_succ]
  refine wpAnyH_takeI (i := 5) (v := ?v44) rfl (by kernel_rfl) (by kernel_rfl) (by kernel_rfl) (fun _ _ _ h => h) (yieldsIf_want rfl (fun w' hw' => ?y44)) hS0 ?_
  case y44 => (obtain ⟨h1, h2, h3⟩ := HC.out w' hw'; clear hw'; first | (go_simp; rfl) | (go_simp; done))
  simp only [Act.put, List.setIfInBounds_toArray, List.set_cons_zero, List.set_cons_succ]
  refine wpAnyH_takeI (i := 6) (v := ?v45) rfl (by kernel_rfl) (by kernel_rfl) (by kernel_rfl) (fun _ _ _ h => h) (yieldsIf_want rfl (fun w' hw' => ?y45)) hS0 ?_
  case y45 => first | (go_simp; rfl) | (go_simp; done) | rfl
  simp only [Act.put, List.setIfInBounds_toArray, List.set_cons_zero, List.set_cons_succ]
  refine wpAnyH_takeI (i := 7) (v := ?v46) rfl (by kernel_rfl) (by kernel_rfl) (by kernel_rfl) (fun _ _ _ h => h) (yieldsIf_run rfl (fun w' hw' => ?y46)) hS0 ?_
  case y46 => first | (go_simp; rfl) | (go_simp; done) | rfl
  simp only [Act.put, List.setIfInBounds_toArray, List.set_cons_zero, List.set_cons_succ]
  refine wpAnyH_takeI (i := 8) (v := ?v47) rfl (by kernel_rfl) (by kernel_rfl) (by kernel_rfl) (fun _ _ _ h => h) (yieldsIf_run rfl (fun w' hw' => ?y47)) hS0 ?_
  case y47 => first | (go_simp; rfl) | (go_simp; done) | rfl
  simp only [Act.put, List.setIfInBounds_toArray, List.set_cons_zero, List.set_cons_succ]
  refine wpAnyH_takeI (i := 9) (v := ?v48) rfl (by kernel_rfl) (by kernel_rfl) (by kernel_rfl) (fun _ _ _ h => h) (yieldsIf_want rfl (fun w' hw' => ?y48)) hS0 ?_
  case y48 => first | (go_simp; rfl) | (go_simp; done) | rfl
  simp only [Act.put, List.setIfInBounds_toArray, List.set_cons_zero, List.set_cons_succ]
  refine wpAnyH_takeI (i := 10) (v := ?v49) rfl (by kernel_rfl) (by kernel_rfl) (by kernel_rfl) (fun _ _ _ h => h) (yieldsIf_want rfl (fun w' hw' => ?y49)) hS0 ?_
  case y49 => (obtain ⟨h1, h2, h3⟩ := HC.out w' hw'; clear hw'; first | (go_simp; rfl) | (go_simp; done))
  simp only [Act.put, List.setIfInBounds_toArray, List.set_cons_zero, List.set_cons_succ]
  refine wpAnyH_takeI (i := 11) (v := ?v50) rfl (by kernel_rfl) (by kernel_rfl) (by kernel_rfl) (fun _ _ _ h => h) (yieldsIf_want rfl (fun w' hw' => ?y50)) hS0 ?_
  case y50 => first | (go_simp; rfl) | (go_simp; done) | rfl
  simp only [Act.put, List.setIfInBounds_toArray, List.set_cons_zero, List.set_cons_succ]
  refine wpAnyH_takeI (i := 12) (v := ?v51) rfl (by kernel_rfl) (by kernel_rfl) (by kernel_rfl) (fun _ _ _ h => h) (yieldsIf_want rfl (fun w' hw' => ?y51)) hS0 ?_
  case y51 => (obtain ⟨h1, h2, h3⟩ := HC.out w' hw'; clear hw'; first | (go_simp; rfl) | (go_simp; done))
  simp only [Act.put, List.setIfInBounds_toArray, List.set_cons_zero, List.set_cons_succ]
  refine wpAnyH_takeI (i := 14) (v := ?v52) rfl (by kernel_rfl) (by kernel_rfl) (by kernel_rfl) (fun _ _ _ h => h) (yieldsIf_want rfl (fun w' hw' => ?y52)) hS0 ?_
  case y52 => first | (go_simp; rfl) | (go_simp; done) | rfl
  simp only [Act.put, List.setIfInBounds_toArray, List.set_cons_zero, List.set_cons_succ]
  refine wpAnyH_takeI (i := 15) (v := ?v53) rfl (by kernel_rfl) (by kernel_rfl) (by kernel_rfl) (fun _ _ _ h => h) (yieldsIf_want rfl (fun w' hw' => ?y53)) hS0 ?_
  case y53 => (obtain ⟨h1, h2, h3⟩ := HC.out w' hw'; clear hw'; first | (go_simp; rfl) | (go_simp; done))
  simp only [Act.put, List.setIfInBounds_toArray, List.set_cons_zero, List.set_cons_succ]
  refine wpAnyH_want (i := 13) (by kernel_rfl) rfl rfl (fun K hK => ?_)
  go_simp
  go_at_call 53
  refine (Sectors_any (HD.out.below hS0)).mono ?_
  rintro e wk ⟨rfl, rfl⟩
  rw [HM.out]
  refine hK _ _ (hS0) ?_
  clear hK K
  try simp only [Act.put, List.setIfInBounds_toArray, List.set_cons_zero, List.set_cons_succ]
  refine wpAnyH_takeI (i := 16) (v := .int .i64 ((M : Int) - c)) rfl (by kernel_rfl) (by kernel_rfl) (by kernel_rfl) (fun _ _ _ h => h) (yieldsIf_want rfl (fun w' hw' => ?y54)) hS0 ?_
  case y54 => first | (go_simp; rfl) | (go_simp; done) | rfl
  simp only [Act.put, List.setIfInBounds_toArray, List.set_cons_zero, List.set_cons_succ]
  refine wpAnyH_takeI (i := 17) (v := ?v55) rfl (by kernel_rfl) (by kernel_rfl) (by kernel_rfl) (fun _ _ _ h => h) (yieldsIf_want rfl (fun w' hw' => ?y55)) hS0 ?_
  case y55 => first | (go_simp; rfl) | (go_simp; done) | rfl
  simp only [Act.put, List.setIfInBounds_toArray, List.set_cons_zero, List.set_cons_succ]
  refine wpAnyH_takeI (i := 18) (v := ?v56) rfl (by kernel_rfl) (by kernel_rfl) (by kernel_rfl) (fun _ _ _ h => h) (yieldsIf_run rfl (fun w' hw' => ?y56)) hS0 ?_
  case y56 => first | (go_simp; rfl) | (go_simp; done) | rfl
  simp only [Act.put, List.setIfInBounds_toArray, List.set_cons_zero, List.set_cons_succ]
  refine wpAnyH_takeI (i := 19) (v := ?v57) rfl (by kernel_rfl) (by kernel_rfl) (by kernel_rfl) (fun _ _ _ h => h) (yieldsIf_run rfl (fun w' hw' => ?y57)) hS0 ?_
  case y57 => first | (go_simp; rfl) | (go_simp; done) | rfl
  simp only [Act.put, List.setIfInBounds_toArray, List.set_cons_zero, List.set_cons_succ]
  refine wpAnyH_done (by kernel_rfl) ?_ _
  refine NoPanic.normal ?_
  have HE := Lib.hid (HB.out.trans (hS0.mono HB.out.size))
  have HDN := Lib.hid (HD.out.below hS0)
  have hc0 := (HC.out _ hS0).1
  go_wp2_with fail
  refine (Down_any HDN.out).mono ?_
  rintro e wk ⟨rfl, rfl⟩
  cases hdn : S.down with
  | true =>
    obtain rfl : z = 28 := by rw [HSE.out, hdn]; rfl
    go_wp2_with fail
    exact bodyPost_ret (v := .int .i64 28) (by simp [results, Tryd.results35, go_sem]) rfl ⟨rfl, HE.out⟩
  | false =>
    obtain rfl : z = 0 := by rw [HSE.out, hdn]; rfl
    go_wp2_with fail
    exact bodyPost_ret (v := .int .i64 0) (by simp [results, Tryd.results35, go_sem]) rfl ⟨rfl, HE.out⟩
end Go.Proofs.YtplclpileejemaaDoor

namespace Go.Proofs.YtplclpileejemaaDoor
open Go.RowKit
set_option linter.unusedVariables false
set_option linter.unusedSimpArgs false

theorem readE_in {S : DS} {n : Nat} {s : Int} (hs : s = (n : Int)) (hd : S.down = false) (h : n < S.dur.length) : S.readE s = 0 ∧ S.readB s = S.visible n := by
  subst hs
  have h1 : S.has (n : Int) = true := decide_eq_true ⟨by omega, by omega⟩
  unfold DS.readE DS.readB
  rw [hd, h1]
  exact ⟨rfl, rfl⟩
theorem visible_ne {S : DS} (h : S.ok) {n : Nat} (hn : n < S.dur.length) : S.visible n ≠ [] := fun e => by
  have := visible_length h hn
  rw [e] at this
  cases this
/-- The length of the slice in a block's first cell. -/
def lenAt (w : World) (b : Nat) : Nat := match w.cell? ⟨b, 0, none⟩ with
  | some (.slice _ n _) => n
  | _ => 0
theorem ents_own {w : World} {F : Nat → Prop} {v : Value} {L : List (List UInt8)} (h : EntsAt w F v L) : ∀ k, v.ownBlock = some k → F k ∧ k < w.heap.size := fun k hk => by
  obtain ⟨vs, h1, h2, _⟩ := h.ex
  exact ⟨h2 k hk, (ownsRow_lt h1 k hk).2⟩
set_option maxRecDepth 100000 in
set_option maxHeartbeats 2000000 in
theorem rd1_any {w : World} {F : Nat → Prop} {b : Nat} {S : DS} (h : DiskAt w F b S) (a f i B0 b3 b4 b8 : Nat) (c : Int) (v : Value) (L : List (List UInt8)) (h3 : w.heap[b3]? = some (.cells #[.pointer (some ⟨b, 0, none⟩), .int .i64 (a : Int), .int .i64 c] 75 (0, 0))) (h4 : w.heap[b4]? = some (.cells #[.int .i64 (f : Int)] 3 (0, 0))) (h8 : w.heap[b8]? = some (.cells #[v] 56 (0, 0))) (hv : EntsAt w (fun k => B0 ≤ k) v L) (hL : L.length = i) (hb8 : b8 < B0) (hB0 : B0 ≤ w.heap.size) (hd : S.down = false) (hr : a + f + i < S.dur.length) (hlen : S.pend.length < 1000000000) :
    Calls Tryd.prog 61 #[.pointer (some ⟨b3, 0, none⟩), .pointer (some ⟨b4, 0, none⟩), .pointer (some ⟨b8, 0, none⟩)] w fun e w' => e = .returned (.int .i64 0) ∧ ∃ v', w'.heap[b8]? = some (.cells #[v'] 56 (0, 0)) ∧ EntsAt w' (fun k => B0 ≤ k) v' (L ++ [S.visible (a + f + i)]) ∧ Chg (fun k => k = b8 ∨ B0 ≤ k) w w' := by
  obtain ⟨va, vc, rfl⟩ := hv.form
  rw [hL] at hv h8
  have hM : S.dur.length ≤ 4096 := h.ok.most
  have c30 : w.cell? ⟨b3, 0, none⟩ = some (.pointer (some ⟨b, 0, none⟩)) := by rw [cell_of_row _ _ _ _ _ _ h3]; rfl
  have c31 : w.cell? ⟨b3, 1, none⟩ = some (.int .i64 (a : Int)) := by rw [cell_of_row _ _ _ _ _ _ h3]; rfl
  have c4 : w.cell? ⟨b4, 0, none⟩ = some (.int .i64 (f : Int)) := by rw [cell_of_row _ _ _ _ _ _ h4]; rfl
  have c8 : w.cell? ⟨b8, 0, none⟩ = some (.slice va i vc) := by rw [cell_of_row _ _ _ _ _ _ h8]; rfl
  obtain ⟨he, hb⟩ := readE_in (S := S) (n := a + f + i) (s := (a : Int) + (f : Int) + (i : Int)) (by omega) hd hr
  have HE := Lib.hid he
  have HRB := Lib.hid hb
  have HNE := Lib.hid (visible_ne h.ok hr)
  have HD := Lib.hid h
  have H8 := Lib.hid h8
  have HV := Lib.hid hv
  have HL := Lib.hid hL
  obtain ⟨X, hX⟩ : ∃ X, S.visible (a + f + i) = X := ⟨_, rfl⟩
  rw [hX] at HRB HNE ⊢
  have hai : a + f + i < 4096 := by omega
  clear h3 h4 h8 hv hL he hb h hX hd hr hM
  go_enter Tryd.func61, Tryd.ntmps61
  go_wp2_with fail
  refine (Read_any _ HD.out (by omega)).mono ?_
  rintro e w1 ⟨u, rfl, hu, hb1⟩
  rw [HE.out]
  rw [HRB.out, if_neg HNE.out] at hu
  obtain ⟨ua, uc, rfl⟩ := hu.n.form
  obtain ⟨NX, hNX⟩ : ∃ NX, X.length = NX := ⟨_, rfl⟩
  rw [hNX] at hu ⊢
  have HU := Lib.hid hu.n
  have HB1 := Lib.hid hb1
  have HV1 := Lib.hid (HV.out.below hb1)
  have h81 := (hb1.block _ (Array.getElem?_eq_some_iff.1 H8.out).1).trans H8.out
  have H81 := Lib.hid h81
  have hc8 : w1.cell? ⟨b8, 0, none⟩ = some (.slice va i vc) := by rw [cell_of_row _ _ _ _ _ _ h81]; rfl
  clear hu hNX hb1 h81 c30 c31 c4 c8
  go_wp2_with (at_builtin; refine wpList_appEnt rfl (.tmp 21) (.tmp 23) rfl rfl HV1.out (HU.out.weak (fun k h1 h2 => ⟨Nat.le_trans hB0 h2, fun e => by have h3 := (ents_own HV.out k e).2; omega⟩)) rfl HL.out (by omega) ?_; refine Stop.on ?_)
  refine Stop.go ?_
  try simp only [Act.put, List.setIfInBounds_toArray, List.set_cons_zero, List.set_cons_succ]
  intro a5 c5 w5 ho5 hc5
  try simp only [Act.put, List.setIfInBounds_toArray, List.set_cons_zero, List.set_cons_succ]
  have HO := Lib.hid (ho5.weak (G := fun k => B0 ≤ k) (fun k _ h1 => h1.elim id (fun h2 => by have := HB1.out.size; omega)))
  have HC := Lib.hid ((Chg.of_below (F := fun k => k = b8 ∨ B0 ≤ k) HB1.out).trans (hc5.mono (G := fun k => k = b8 ∨ B0 ≤ k) (fun k e => .inr (ents_own HV.out k e).1)) (fun k e => .inl e))
  have h85 := (hc5.block b8 (Array.getElem?_eq_some_iff.1 H81.out).1 (fun e => by have := (ents_own HV.out b8 e).1; omega)).trans H81.out
  have H85 := Lib.hid h85
  clear ho5 hc5 h85 hc8
  go_wp2_with (refine wpList_putC rfl rfl 56 (.tmp 2) (.tmp 24) rfl b8 0 (.slice a5 (i + 1) c5) rfl rfl H85.out (by show 0 < 1; decide) rfl (by kernel_rfl) ?_; refine Stop.on ?_)
  refine Stop.go ?_
  try simp only [Act.put, List.setIfInBounds_toArray, List.set_cons_zero, List.set_cons_succ]
  intro w6 x6 c6 s6
  try simp only [Act.put, List.setIfInBounds_toArray, List.set_cons_zero, List.set_cons_succ]
  have HX := Lib.hid (show w6.heap[b8]? = some (.cells #[.slice a5 (i + 1) c5] 56 (0, 0)) from x6)
  have HO6 := Lib.hid (HO.out.chg c6 (fun k _ h1 e => by omega))
  have HC6 := Lib.hid (HC.out.trans (c6.mono (G := fun k => k = b8 ∨ B0 ≤ k) (fun k e => .inl e)) (fun k e => .inl e))
  clear x6 c6 s6
  go_wp2_with fail
  exact bodyPost_ret (v := .int .i64 0) (by simp [results, Tryd.results61, go_sem]) rfl ⟨rfl, _, HX.out, HO6.out, HC6.out⟩
set_option maxRecDepth 100000 in
set_option maxHeartbeats 2000000 in
theorem Jread_any {w : World} {F : Nat → Prop} {b : Nat} {S : DS} (h : DiskAt w F b S) (a f k : Nat) (c : Int) (hd : S.down = false) (hr : a + f + k ≤ S.dur.length) (hlen : S.pend.length < 1000000000) :
    Calls Tryd.prog 55 #[stV b (a : Int) c, .int .i64 (f : Int), .int .i64 (k : Int)] w fun e w' => ∃ v, e = .returned (.tuple #[v, .int .i64 0]) ∧ EntsAt w' (fun k => w.heap.size ≤ k) v (secL S (a + f) k) ∧ Below w.heap.size w w' := by
  unfold stV
  have hM : S.dur.length ≤ 4096 := h.ok.most
  obtain ⟨w1, hw1⟩ : ∃ w1, w.alloc (.cells #[.pointer (some ⟨b, 0, none⟩), .int .i64 (a : Int), .int .i64 c] 75) = w1 := ⟨_, rfl⟩
  obtain ⟨w2, hw2⟩ : ∃ w2, w1.alloc (.cells #[.int .i64 (f : Int)] 3) = w2 := ⟨_, rfl⟩
  obtain ⟨w3, hw3⟩ : ∃ w3, w2.alloc (.cells #[.slice none 0 0] 56) = w3 := ⟨_, rfl⟩
  have hb1 : Below w.heap.size w w1 := hw1 ▸ (Below.refl _ _).alloc (Nat.le_refl _) _
  have hb2 : Below w1.heap.size w1 w2 := hw2 ▸ (Below.refl _ _).alloc (Nat.le_refl _) _
  have hb3 : Below w2.heap.size w2 w3 := hw3 ▸ (Below.refl _ _).alloc (Nat.le_refl _) _
  have s1 : w1.heap.size = w.heap.size + 1 := by rw [← hw1]; simp
  have s2 : w2.heap.size = w1.heap.size + 1 := by rw [← hw2]; simp
  have s3 : w3.heap.size = w2.heap.size + 1 := by rw [← hw3]; simp
  have x1 : w1.heap[w.heap.size]? = some (.cells #[.pointer (some ⟨b, 0, none⟩), .int .i64 (a : Int), .int .i64 c] 75 (0, 0)) := by rw [← hw1]; exact heap_alloc_new _ _
  have x2 : w2.heap[w1.heap.size]? = some (.cells #[.int .i64 (f : Int)] 3 (0, 0)) := by rw [← hw2]; exact heap_alloc_new _ _
  have x3 : w3.heap[w2.heap.size]? = some (.cells #[.slice none 0 0] 56 (0, 0)) := by rw [← hw3]; exact heap_alloc_new _ _
  have x1 := (hb3.block _ (by omega)).trans ((hb2.block _ (by omega)).trans x1)
  have x2 := (hb3.block _ (by omega)).trans x2
  have hbb := (hb1.trans (hb2.mono hb1.size)).trans (hb3.mono (by omega))
  have HB3 := Lib.hid hbb
  have HD := Lib.hid h
  have HW1 := Lib.hid hw1
  have HW2 := Lib.hid hw2
  have HW3 := Lib.hid hw3
  obtain ⟨B, hB⟩ : ∃ B, w.heap.size = B := ⟨_, rfl⟩
  rw [hB] at x1
  rw [show w1.heap.size = B + 1 by omega] at x2
  rw [show w2.heap.size = B + 1 + 1 by omega] at x3
  have HB := Lib.hid hB
  have HB9 := Lib.hid (show w3.heap.size = B + 3 by omega)
  have X1 := Lib.hid x1
  have X2 := Lib.hid x2
  have HDN := Lib.hid hd
  have HSL := Lib.hid (show ∀ i, secL S (a + f) (i + 1) = secL S (a + f) i ++ [S.visible (a + f + i)] from fun i => by unfold secL; rw [List.range_succ, List.map_append]; rfl)
  have HX3 := Lib.hid (show w3.heap[B + 1 + 1]? = some (.cells #[.slice none 0 0] 56 (0, 0)) from x3)
  have HV3 := Lib.hid (show EntsAt w3 (fun j => B + 3 ≤ j) (.slice none 0 0) (secL S (a + f) 0) from entsAt_nil _ _)
  have HC3 := Lib.hid (Chg.refl (fun j => j = B + 1 + 1 ∨ B + 3 ≤ j) w3)
  have hk : k ≤ 4096 := by omega
  have hmf : ∀ (fn : Fn) (first cap : Array Value) (w : World), (Instr.makeFunc fn first cap).run Tryd.prog w = .ok (.func fn first cap) w := fun _ _ _ _ => rfl
  clear h hd hw1 hw2 hw3 hb1 hb2 hb3 s1 s2 s3 x1 x2 x3 hbb hB hM
  go_enter Tryd.func55, Tryd.ntmps55
  go_wp2_with fail
  rw [HW1.out, HW2.out, HW3.out, HB.out]
  go_loopw [10] (fun ev wr => ∃ (i : Nat) (va : Option Addr) (vc : Nat), i ≤ k ∧ Hid (wr.heap[B + 1 + 1]? = some (.cells #[.slice va i vc] 56 (0, 0))) ∧ Hid (EntsAt wr (fun j => B + 3 ≤ j) (.slice va i vc) (secL S (a + f) i)) ∧ Hid (Chg (fun j => j = B + 1 + 1 ∨ B + 3 ≤ j) w3 wr)) (fun _ wr => k - lenAt wr (B + 1 + 1))
  case atStart => exact ⟨0, none, 0, Nat.zero_le _, HX3, HV3, HC3⟩
  case round =>
    obtain ⟨i, va, vc, hi, HX, HV, HC⟩ := hrel
    obtain ⟨W0, rfl⟩ : ∃ W0, W0 = wr := ⟨_, rfl⟩
    clear HX3 HV3 HC3
    have hc8 : W0.cell? ⟨B + 1 + 1, 0, none⟩ = some (.slice va i vc) := by rw [cell_of_row _ _ _ _ _ _ HX.out]; rfl
    have HLN := Lib.hid (show lenAt W0 (B + 1 + 1) = i by unfold lenAt; rw [hc8])
    have HBW := Lib.hid (HB3.out.trans (HC.out.below (B := w.heap.size) (fun j e => by have := HB.out; omega) HB3.out.size))
    by_cases hlt : i < k
    case neg =>
      obtain rfl : k = i := by omega
      go_wp2_with fail
      exact bodyPost_ret (v := .tuple #[.slice va k vc, .int .i64 0]) (by simp [results, Tryd.results55, go_sem]) rfl ⟨_, rfl, HV.out.weak (fun j _ h1 => by have := HB.out; omega), HBW.out⟩
    have hiI : (i : Int) < (k : Int) := by omega
    have h3 := (HC.out.block _ (by have := HB9.out; omega) (by omega)).trans X1.out
    have h4 := (HC.out.block _ (by have := HB9.out; omega) (by omega)).trans X2.out
    have hcl := rd1_any (HD.out.below HBW.out) a f i (B + 3) B (B + 1) (B + 1 + 1) c (.slice va i vc) (secL S (a + f) i) h3 h4 HX.out HV.out (secL_length _ _ _) (by omega) (by have h1 := HC.out.size; have h2 := HB9.out; omega) HDN.out (by omega) hlen
    have HCL := Lib.hid hcl
    clear h3 h4 hcl
    go_wp2_with fail
    refine HCL.out.mono ?_
    rintro e W1 ⟨rfl, v', hx', hv', hc'⟩
    obtain ⟨va', vc', rfl⟩ := hv'.form
    rw [List.length_append, secL_length, List.length_singleton] at hv' hx'
    have HXN := Lib.hid hx'
    have HVN := Lib.hid (show EntsAt W1 (fun j => B + 3 ≤ j) (.slice va' (i + 1) vc') (secL S (a + f) (i + 1)) by rw [HSL.out]; exact hv')
    have HCN := Lib.hid (HC.out.trans hc' (fun j e => .inl e))
    have HLN2 := Lib.hid (show lenAt W1 (B + 1 + 1) = i + 1 by unfold lenAt; rw [cell_of_row _ _ _ _ _ _ hx']; rfl)
    clear hx' hv' hc' hc8
    go_wp2_with fail
    go_roundw
    case rel => exact ⟨i + 1, va', vc', by omega, HXN, HVN, HCN⟩
    case measure =>
      have h1 := HLN.out
      have h2 := HLN2.out
      omega
end Go.Proofs.YtplclpileejemaaDoor

namespace Go.Proofs.YtplclpileejemaaDoor
open Go.RowKit
set_option linter.unusedVariables false
set_option linter.unusedSimpArgs false

theorem genS_le {which g : Nat} {b : List UInt8} (h : g ≤ 2147483649) : genS which g b ≤ 2147483649 := by
  unfold genS
  by_cases h1 : decE b = 0 ∧ (g : Int) ≤ (decP b).gen
  · rw [if_pos h1]
    have h2 := decE_ok h1.1
    have h3 := h2.2.2.2.1
    rw [← h2.2.2.2.2] at h3
    have h4 := h3.g1
    have h5 := h3.g0
    unfold upG
    split <;> omega
  · rw [if_neg h1]; exact h
theorem genF_le {which : Nat} : ∀ (L : List (List UInt8)) (g : Nat), g ≤ 2147483649 → L.foldl (genS which) g ≤ 2147483649
  | [], _, h => h
  | b :: L, _, h => genF_le L _ (genS_le h)
/-- What next returns. -/
def nextV (g : Nat) : Value := if 2147483647 < g then .tuple #[.int .i64 0, .int .i64 9] else .tuple #[.int .i64 (g : Int), .int .i64 0]
set_option maxRecDepth 100000 in
set_option maxHeartbeats 2000000 in
theorem Jnext_any {w : World} {F : Nat → Prop} {b : Nat} {S : DS} (h : DiskAt w F b S) (hK : KAt w) (a c which : Nat) (hwh : which ≤ 1) (hd : S.down = false) (hr : a + c ≤ S.dur.length) (hlen : S.pend.length < 1000000000) :
    Calls Tryd.prog 36 #[stV b (a : Int) (c : Int), .int .i64 (which : Int)] w fun e w' => e = .returned (nextV (nextG which (secL S a c))) ∧ Below w.heap.size w w' := by
  have hM : S.dur.length ≤ 4096 := h.ok.most
  have hrd := fun (w1 : World) (hb : Below w.heap.size w w1) => Jread_any (h.below hb) a 0 c (c : Int) hd (by omega) hlen
  rw [show a + 0 = a from rfl] at hrd
  have hc : c ≤ 4096 := by omega
  have HR := Lib.hid hrd
  obtain ⟨L, hL⟩ : ∃ L, secL S a c = L := ⟨_, rfl⟩
  have HLL := Lib.hid (show L.length = c by rw [← hL, secL_length])
  rw [hL] at HR ⊢
  obtain ⟨z, hz⟩ : ∃ z, nextG which L = z := ⟨_, rfl⟩
  rw [hz]
  have HZ := Lib.hid (show L.foldl (genS which) which = z from hz)
  obtain ⟨w0, hw0⟩ : ∃ w0, w.alloc (.cells #[.pointer (some ⟨b, 0, none⟩), .int .i64 (a : Int), .int .i64 (c : Int)] 75) = w0 := ⟨_, rfl⟩
  have hb0 : Below w.heap.size w w0 := hw0 ▸ (Below.refl _ _).alloc (Nat.le_refl _) _
  have hx0 : w0.heap[w.heap.size]? = some (.cells #[.pointer (some ⟨b, 0, none⟩), .int .i64 (a : Int), .int .i64 (c : Int)] 75 (0, 0)) := by rw [← hw0]; exact heap_alloc_new _ _
  have HK := Lib.hid hK
  have HB0 := Lib.hid hb0
  have HW0 := Lib.hid hw0
  unfold stV at HR ⊢
  clear h hd hr hM hrd hL hz hw0 hb0 hx0 hK
  go_enter Tryd.func36, Tryd.ntmps36
  go_wp2_with fail
  rw [HW0.out]
  refine (HR.out w0 HB0.out).mono ?_
  rintro e w1 ⟨v, rfl, hv, hb⟩
  obtain ⟨va, vc, rfl⟩ := hv.form
  rw [HLL.out] at hv ⊢
  have HB1 := Lib.hid (HB0.out.trans (hb.mono HB0.out.size))
  have HV := Lib.hid hv
  clear hb hv HR
  go_wp2_with fail
  have HX0 := Lib.hid (Below.refl w1.heap.size w1)
  have HG0 := Lib.hid (show (L.take 0).foldl (genS which) which = which from rfl)
  go_loopw [8, 26] (fun gv iv wr => ∃ (i g : Nat), i ≤ c ∧ g ≤ 2147483649 ∧ iv = .int .i64 (i : Int) ∧ gv = .int .i64 (g : Int) ∧ Hid ((L.take i).foldl (genS which) which = g) ∧ Hid (Below w1.heap.size w1 wr)) (fun _ iv _ => c - (intOf iv).toNat)
  case atStart => exact ⟨0, which, Nat.zero_le _, by omega, rfl, rfl, HG0, HX0⟩
  case round =>
    obtain ⟨i, g, hi, hg, rfl, rfl, HG, HB⟩ := hrel
    obtain ⟨W0, rfl⟩ : ∃ W0, W0 = wr := ⟨_, rfl⟩
    clear HG0 HX0
    by_cases hlt : i < c
    case neg =>
      obtain rfl : c = i := by omega
      obtain rfl : g = z := by
        have h1 := HG.out
        rw [List.take_of_length_le (by rw [HLL.out]; exact Nat.le_refl _)] at h1
        rw [← h1, HZ.out]
      have HBE := Lib.hid (HB1.out.trans (HB.out.mono HB1.out.size))
      by_cases hbig : 2147483647 < g
      · have hd : decide ((2147483647 : Int) < (g : Int)) = true := decide_eq_true (by omega)
        have HNV := Lib.hid (show nextV g = .tuple #[.int .i64 0, .int .i64 9] from if_pos hbig)
        go_wp2_with fail
        rw [HNV.out]
        exact bodyPost_ret (v := .tuple #[.int .i64 0, .int .i64 9]) (by simp [results, Tryd.results36, go_sem]) rfl ⟨rfl, HBE.out⟩
      · have hd : decide ((2147483647 : Int) < (g : Int)) = false := decide_eq_false (by omega)
        have HNV := Lib.hid (show nextV g = .tuple #[.int .i64 (g : Int), .int .i64 0] from if_neg hbig)
        go_wp2_with fail
        rw [HNV.out]
        exact bodyPost_ret (v := .tuple #[.int .i64 (g : Int), .int .i64 0]) (by simp [results, Tryd.results36, go_sem]) rfl ⟨rfl, HBE.out⟩
    have hiI : (i : Int) < (c : Int) := by omega
    have hiL : i < L.length := by rw [HLL.out]; exact hlt
    obtain ⟨gv, x, xc, e9, _, hcell, hbx⟩ := (HV.out.below HB.out).get hiL
    subst e9
    obtain ⟨B, hB⟩ : ∃ B, L[i] = B := ⟨_, rfl⟩
    rw [hB] at hcell hbx
    obtain ⟨n, hn⟩ : ∃ n, B.length = n := ⟨_, rfl⟩
    rw [hn] at hcell hbx
    have HBX := Lib.hid hbx
    have HBW := Lib.hid (HB1.out.trans (HB.out.mono HB1.out.size))
    have HKW := Lib.hid (KAt.below HK.out HBW.out HK.out.size)
    have HNX := Lib.hid (show (L.take (i + 1)).foldl (genS which) which = genS which g B by rw [List.take_succ_eq_append_getElem hiL, hB, List.foldl_append, HG.out]; rfl)
    clear hB hn hbx
    go_wp2_with fail
    refine (DecodePart_any B _ HBX.out.at_ HKW.out).mono ?_
    rintro e W1 ⟨pa, pc, rfl, _, hb⟩
    have HBN := Lib.hid (HB.out.trans (hb.mono HB.out.size))
    obtain ⟨p, hp⟩ : ∃ p, decP B = p := ⟨_, rfl⟩
    obtain ⟨de, hde⟩ : ∃ de, decE B = de := ⟨_, rfl⟩
    have HGS := Lib.hid (show genS which g B = (if de = 0 ∧ (g : Int) ≤ p.gen then upG which (p.gen.toNat + 1) else g) by unfold genS; rw [hp, hde])
    have HPG := Lib.hid (show de = 0 → 0 ≤ p.gen ∧ p.gen ≤ 2147483647 from fun h0 => by
      have h2 := decE_ok (hde.trans h0)
      have h3 := h2.2.2.2.1
      rw [← h2.2.2.2.2, hp] at h3
      exact ⟨h3.g0, h3.g1⟩)
    rw [hp, hde]
    unfold partVs
    obtain ⟨pg, hpg⟩ : ∃ pg, p.gen = pg := ⟨_, rfl⟩
    rw [hpg] at HGS HPG ⊢
    obtain ⟨p0, hp0⟩ : ∃ p0, p.kind = p0 := ⟨_, rfl⟩
    obtain ⟨p2, hp2⟩ : ∃ p2, p.num = p2 := ⟨_, rfl⟩
    obtain ⟨p3, hp3⟩ : ∃ p3, p.idx = p3 := ⟨_, rfl⟩
    obtain ⟨p4, hp4⟩ : ∃ p4, p.cnt = p4 := ⟨_, rfl⟩
    obtain ⟨p5, hp5⟩ : ∃ p5, p.bytes.length = p5 := ⟨_, rfl⟩
    rw [hp0, hp2, hp3, hp4, hp5]
    obtain ⟨W2, hW2⟩ : ∃ W2, W1.alloc (.cells #[.int .i64 p0, .int .i64 pg, .int .i64 p2, .int .i64 p3, .int .i64 p4, .slice pa p5 pc] 101) = W2 := ⟨_, rfl⟩
    have hb2 : Below W1.heap.size W1 W2 := hW2 ▸ (Below.refl _ _).alloc (Nat.le_refl _) _
    have HB2 := Lib.hid (HBN.out.trans (hb2.mono HBN.out.size))
    clear hb hp hde hpg hp0 hp2 hp3 hp4 hp5 hb2 hcell
    by_cases h0 : de = 0
    case neg =>
      have hd : (de == 0) = false := by simpa using h0
      have HGN := Lib.hid (show (L.take (i + 1)).foldl (genS which) which = g by rw [HNX.out, HGS.out, if_neg (fun h => h0 h.1)])
      have HWW := Lib.hid hW2
      clear h0 hW2
      go_wp2_with fail
      rw [HWW.out]
      go_roundw
      case rel => exact ⟨i + 1, g, by omega, hg, by go_num, rfl, HGN, HB2⟩
      case measure => simp [intOf] <;> omega
    subst h0
    obtain ⟨hp0, hp1⟩ := HPG.out rfl
    obtain ⟨q, rfl⟩ : ∃ q : Nat, pg = (q : Int) := ⟨pg.toNat, by omega⟩
    by_cases hge : g ≤ q
    case neg =>
      have hd : decide ((g : Int) ≤ (q : Int)) = false := decide_eq_false (by omega)
      have hd2 : decide (g ≤ q) = false := decide_eq_false hge
      have HGN := Lib.hid (show (L.take (i + 1)).foldl (genS which) which = g by rw [HNX.out, HGS.out, if_neg (fun h => by have := h.2; omega)])
      have HWW := Lib.hid hW2
      clear hW2
      go_wp2_with fail
      rw [HWW.out]
      go_roundw
      case rel => exact ⟨i + 1, g, by omega, hg, by go_num, rfl, HGN, HB2⟩
      case measure => simp [intOf] <;> omega
    have hd : decide ((g : Int) ≤ (q : Int)) = true := decide_eq_true (by omega)
    have hd2 : decide (g ≤ q) = true := decide_eq_true hge
    have HUP := Lib.hid (show (L.take (i + 1)).foldl (genS which) which = upG which (q + 1) by rw [HNX.out, HGS.out, if_pos ⟨rfl, by omega⟩, Int.toNat_natCast])
    have HWW := Lib.hid hW2
    clear hW2
    by_cases hm : (q + 1) % 2 = which
    · have hd3 : (((q : Int) + 1) % 2 != (which : Int)) = false := by simp; omega
      have hq : (q : Int) + 1 = ((q + 1 : Nat) : Int) := by omega
      have HGN := Lib.hid (show (L.take (i + 1)).foldl (genS which) which = q + 1 by rw [HUP.out]; unfold upG; rw [if_neg (fun h => h hm)])
      clear hq
      go_wp2_with fail
      rw [HWW.out]
      go_roundw
      case rel => exact ⟨i + 1, q + 1, by omega, by omega, by go_num, by go_num, HGN, HB2⟩
      case measure => simp [intOf] <;> omega
    · have hd3 : (((q : Int) + 1) % 2 != (which : Int)) = true := by simp; omega
      have HGN := Lib.hid (show (L.take (i + 1)).foldl (genS which) which = q + 1 + 1 by rw [HUP.out]; unfold upG; rw [if_pos hm])
      go_wp2_with fail
      rw [HWW.out]
      go_roundw
      case rel => exact ⟨i + 1, q + 1 + 1, by omega, by omega, by go_num, by go_num, HGN, HB2⟩
      case measure => simp [intOf] <;> omega
end Go.Proofs.YtplclpileejemaaDoor
