/- Short form (wip/zpack.py) of the texts Row Base Gen GenP Region GenR Elems Steps J0 Disk1 Disk2 Disk3 Disk4 Disk5. -/
import Derived.Test.YtplclpileejemaaGreatDoorProg
import Derived.WalkKit
import Derived.ProofKit
import Derived.OpenShut
import Derived.WalkSpells
import Derived.WalkLawsBesides
import Derived.Deep.MidRow
import Derived.StillTailTactics
import Derived.Deep.QuietTactic
import Derived.BigQuiet
import Derived.BigRegion
import Derived.MapKept
import Derived.Lib.Hide
import Derived.RangeFuncNested
import Derived.Deep.WholeRow
import Derived.Laws.CopyOwn
import Derived.Laws.IdiomStrings
import Derived.Laws.BytesArg
import Derived.Deep.AppendLies
import Derived.Laws.AppendOwnNone
import Derived.OrdersHeld
import Derived.Deep.RegionHeld
import Derived.Deep.Draws
import Derived.Maps.AppendAt
import Derived.Great.BuildSlice
import Derived.Laws.MakeOwn
import Derived.Laws.Tables
import Derived.Laws.Rows
import Derived.RangeFuncBound
import Derived.RangeFuncCalls
import Derived.RangeFuncLeaves
import Derived.RangeFuncBox
import Derived.Shelf.Abstract
import Derived.Shelf.RegionOpen
import Derived.OwnWalkIn
import Derived.TacticsInMore
import Derived.LoopNIn
import Derived.LoopIn
import Derived.Deep.RegionHeld3
import Derived.Great.FillDense
set_option linter.all false
set_option maxRecDepth 100000
set_option maxHeartbeats 8000000
namespace Go.Proofs.YtplclpileejemaaGreatDoor
open Go Go.RowKit
theorem Br {P:Program} {fn:Func} {R:Ending→World→Prop} {a:Act} {w:World} {v:Value} (hr:(results fn a.tmps).run P w=.ok v w) (hd:a.defers=[]) (hR:R (.returned v) w):bodyPost P fn R .ret a w:=bodyPost_ret hr hd hR
theorem Sz (w:World) (o:Obj):(w.alloc o).heap.size=w.heap.size+1:=World.size_alloc w o
abbrev Ca:=Calls Tryz.prog
theorem Sc (w:World) (g i:Nat) (cs:Array Value) (t:TypeId) (v:Value) (hg:w.heap[g]?=some (.cells cs t (0,0))):(w.setCell ⟨g,i,none⟩ v).heap[g]?=some (.cells (cs.setIfInBounds i v) t (0,0)):=heap_setCell_same w g i cs t v hg
theorem Nl {n m k:Nat} (h:n<m) (h':m≤k):n<k:=Nat.lt_of_lt_of_le h h'
theorem Nt {n m k:Nat} (h:n≤m) (h':m≤k):n≤k:=Nat.le_trans h h'
theorem Ip {c:Prop} [h:Decidable c] (hc:c) {α:Sort _} {t e:α}:(if c then t else e)=t:=if_pos hc
theorem In {c:Prop} [h:Decidable c] (hc:¬c) {α:Sort _} {t e:α}:(if c then t else e)=e:=if_neg hc
abbrev Zy:Array Value:=#[.int .u8 0,.int .u8 0,.int .u8 0,.int .u8 0,.int .u8 0,.int .u8 0,.int .u8 0,.int .u8 0,.int .u8 0,.int .u8 0,.int .u8 0,.int .u8 0,.int .u8 0,.int .u8 0,.int .u8 0,.int .u8 0,.int .u8 0,.int .u8 0,.int .u8 0,.int .u8 0,.int .u8 0,.int .u8 0,.int .u8 0,.int .u8 0,.int .u8 0,.int .u8 0,.int .u8 0,.int .u8 0,.int .u8 0,.int .u8 0,.int .u8 0,.int .u8 0]
abbrev Zw:Array Value:=#[.int .u32 0,.int .u32 0,.int .u32 0,.int .u32 0,.int .u32 0,.int .u32 0,.int .u32 0,.int .u32 0,.int .u32 0,.int .u32 0,.int .u32 0,.int .u32 0,.int .u32 0,.int .u32 0,.int .u32 0,.int .u32 0,.int .u32 0,.int .u32 0,.int .u32 0,.int .u32 0,.int .u32 0,.int .u32 0,.int .u32 0,.int .u32 0,.int .u32 0,.int .u32 0,.int .u32 0,.int .u32 0,.int .u32 0,.int .u32 0,.int .u32 0,.int .u32 0,.int .u32 0,.int .u32 0,.int .u32 0,.int .u32 0,.int .u32 0,.int .u32 0,.int .u32 0,.int .u32 0,.int .u32 0,.int .u32 0,.int .u32 0,.int .u32 0,.int .u32 0,.int .u32 0,.int .u32 0,.int .u32 0,.int .u32 0,.int .u32 0,.int .u32 0,.int .u32 0,.int .u32 0,.int .u32 0,.int .u32 0,.int .u32 0,.int .u32 0,.int .u32 0,.int .u32 0,.int .u32 0,.int .u32 0,.int .u32 0,.int .u32 0,.int .u32 0]
abbrev Zj:Array Value:=#[.int .i64 0,.int .i64 0,.int .i64 0,.int .i64 0,.int .i64 0,.slice none 0 0,.int .i64 0,.int .i64 0]
abbrev Zd:Array Value:=#[.slice none 0 0,.slice none 0 0,.int .i64 0,.bool false,.int .i64 0]
theorem P0 {a:Act} {d:Tmp} {v:Value}:a.put (some d) v={a with tmps:=a.tmps.setIfInBounds d v}:=rfl
theorem P4 {a:Act} {v:Value}:a.put none v=a:=rfl
theorem P1 {α:Type _} {l:List α} {i:Nat} {a:α}:l.toArray.setIfInBounds i a=(l.set i a).toArray:=List.setIfInBounds_toArray ..
theorem P2 {α:Type _} {x a:α} {l:List α}:List.set (x::l) 0 a=a::l:=List.set_cons_zero ..
theorem P3 {α:Type _} {x a:α} {l:List α} {n:Nat}:List.set (x::l) (n+1) a=x::l.set n a:=List.set_cons_succ ..
theorem Ax {α:Type _} {l:Array α} {i:Nat} {b:α} (h:l[i]?=some b):∃k:i<l.size,l[i]=b:=Array.getElem?_eq_some_iff.1 h
theorem Hd {p:Prop} (h:p):Hid p:=h
theorem cr {w:World} {g j:Nat} {cs:Array Value} {t:TypeId} {fr:Nat×Nat} (h:w.heap[g]?=some (.cells cs t fr)):w.cell? ⟨g,j,none⟩=cs[j]?:=cell_of_row w g j cs t fr h
theorem Rq {B:Nat} {w:World}:Below B w w:=Below.refl B w
theorem Lr {n:Nat}:n≤n:=Nat.le_refl n
theorem Hn {w:World} {o:Obj}:(w.alloc o).heap[w.heap.size]?=some o:=heap_alloc_new w o
theorem Np {P:Program} {id:Nat} {ops:Array Oper} {b:Bool} {Q:Exit→Act→World→Prop} {a:Act} {w:World} (h:(Code.region id ops b).wp P (NoPanic Q) a w):(Code.region id ops b).wp P Q a w:=wp_region_noPanic h
theorem Tq {a b c:World} (h:Below a.heap.size a b) (k:Below b.heap.size b c):Below a.heap.size a c:=h.trans (k.mono h.size)
theorem Bq {w w':World} {p:Nat} {o:Obj} (h:Below w.heap.size w w') (hx:w.heap[p]?=some o):w'.heap[p]?=some o:=(h.block p (Array.getElem?_eq_some_iff.1 hx).1).trans hx
theorem Lq {w w1:World} {o:Obj} (h:w.alloc o=w1):Below w.heap.size w w1:=h▸(Below.refl _ _).alloc (Nat.le_refl _) _
theorem Kq {K W:Act→World→Prop} {S:World→Prop} {a a':Act} {w:World} (hK:∀a' w',S w'→W a' w'→K a' w') (hS:S w) (h:W a' w) (ha:a=a':=by first| (simp only[Act.put,List.setIfInBounds_toArray,List.set_cons_zero,List.set_cons_succ];rfl)|rfl):K a w:=by
 subst ha;exact hK _ _ hS h
theorem Kr {K W:Act→World→Prop} {a a':Act} {w:World} (hK:∀a' w',W a' w'→K a' w') (h:W a' w) (ha:a=a':=by first| (simp only[Act.put,List.setIfInBounds_toArray,List.set_cons_zero,List.set_cons_succ];rfl)|rfl):K a w:=by
 subst ha;exact hK _ _ h
theorem Nq {w w1:World} {cs:Array Value} {t:TypeId} {q:Nat} (h:w.alloc (.cells cs t)=w1) (hq:w.heap.size=q):w1.heap[q]?=some (.cells cs t (0,0)):=by
 rw[←hq,←h];exact heap_alloc_new _ _
theorem Xq {α:Type _} (a:α):∃x,a=x:=⟨a,rfl⟩
theorem Cq {w:World} {g:Nat} {cs:Array Value} {t:TypeId} {fr:Nat×Nat} (h:w.heap[g]?=some (.cells cs t fr)) (j:Nat) {v:Value} (hv:cs[j]?=some v:=by rfl):w.cell? ⟨g,j,none⟩=some v:=(cell_of_row w g j cs t fr h).trans hv
theorem Cr5 {w:World} {g:Nat} {t:TypeId} {fr:Nat×Nat} {v0 v1 v2 v3 v4:Value} (h:w.heap[g]?=some (.cells #[v0,v1,v2,v3,v4] t fr)):w.cell? ⟨g,0,none⟩=some v0∧w.cell? ⟨g,1,none⟩=some v1∧w.cell? ⟨g,2,none⟩=some v2∧w.cell? ⟨g,3,none⟩=some v3∧w.cell? ⟨g,4,none⟩=some v4:=⟨Cq h 0,Cq h 1,Cq h 2,Cq h 3,Cq h 4⟩
theorem Cr8 {w:World} {g:Nat} {t:TypeId} {fr:Nat×Nat} {v0 v1 v2 v3 v4 v5 v6 v7:Value} (h:w.heap[g]?=some (.cells #[v0,v1,v2,v3,v4,v5,v6,v7] t fr)):w.cell? ⟨g,0,none⟩=some v0∧w.cell? ⟨g,1,none⟩=some v1∧w.cell? ⟨g,2,none⟩=some v2∧w.cell? ⟨g,3,none⟩=some v3∧w.cell? ⟨g,4,none⟩=some v4∧w.cell? ⟨g,5,none⟩=some v5∧w.cell? ⟨g,6,none⟩=some v6∧w.cell? ⟨g,7,none⟩=some v7:=⟨Cq h 0,Cq h 1,Cq h 2,Cq h 3,Cq h 4,Cq h 5,Cq h 6,Cq h 7⟩
theorem Dd {w wd:World} (h:w.drew=wd):Below w.heap.size w wd:=h▸(Below.refl _ _).drew
theorem Dq2 {p0 p1:Prop} (h0:p0) (h1:p1):p0∧p1:=⟨h0,h1⟩
theorem Dq3 {p0 p1 p2:Prop} (h0:p0) (h1:p1) (h2:p2):p0∧p1∧p2:=⟨h0,h1,h2⟩
theorem Dq4 {p0 p1 p2 p3:Prop} (h0:p0) (h1:p1) (h2:p2) (h3:p3):p0∧p1∧p2∧p3:=⟨h0,h1,h2,h3⟩
theorem Dq5 {p0 p1 p2 p3 p4:Prop} (h0:p0) (h1:p1) (h2:p2) (h3:p3) (h4:p4):p0∧p1∧p2∧p3∧p4:=⟨h0,h1,h2,h3,h4⟩
theorem Dq7 {p0 p1 p2 p3 p4 p5 p6:Prop} (h0:p0) (h1:p1) (h2:p2) (h3:p3) (h4:p4) (h5:p5) (h6:p6):p0∧p1∧p2∧p3∧p4∧p5∧p6:=⟨h0,h1,h2,h3,h4,h5,h6⟩
theorem Dq8 {p0 p1 p2 p3 p4 p5 p6 p7:Prop} (h0:p0) (h1:p1) (h2:p2) (h3:p3) (h4:p4) (h5:p5) (h6:p6) (h7:p7):p0∧p1∧p2∧p3∧p4∧p5∧p6∧p7:=⟨h0,h1,h2,h3,h4,h5,h6,h7⟩
theorem Dq10 {p0 p1 p2 p3 p4 p5 p6 p7 p8 p9:Prop} (h0:p0) (h1:p1) (h2:p2) (h3:p3) (h4:p4) (h5:p5) (h6:p6) (h7:p7) (h8:p8) (h9:p9):p0∧p1∧p2∧p3∧p4∧p5∧p6∧p7∧p8∧p9:=⟨h0,h1,h2,h3,h4,h5,h6,h7,h8,h9⟩
theorem Dq13 {p0 p1 p2 p3 p4 p5 p6 p7 p8 p9 p10 p11 p12:Prop} (h0:p0) (h1:p1) (h2:p2) (h3:p3) (h4:p4) (h5:p5) (h6:p6) (h7:p7) (h8:p8) (h9:p9) (h10:p10) (h11:p11) (h12:p12):p0∧p1∧p2∧p3∧p4∧p5∧p6∧p7∧p8∧p9∧p10∧p11∧p12:=⟨h0,h1,h2,h3,h4,h5,h6,h7,h8,h9,h10,h11,h12⟩
theorem Dq15 {p0 p1 p2 p3 p4 p5 p6 p7 p8 p9 p10 p11 p12 p13 p14:Prop} (h0:p0) (h1:p1) (h2:p2) (h3:p3) (h4:p4) (h5:p5) (h6:p6) (h7:p7) (h8:p8) (h9:p9) (h10:p10) (h11:p11) (h12:p12) (h13:p13) (h14:p14):p0∧p1∧p2∧p3∧p4∧p5∧p6∧p7∧p8∧p9∧p10∧p11∧p12∧p13∧p14:=⟨h0,h1,h2,h3,h4,h5,h6,h7,h8,h9,h10,h11,h12,h13,h14⟩
theorem Dq19 {p0 p1 p2 p3 p4 p5 p6 p7 p8 p9 p10 p11 p12 p13 p14 p15 p16 p17 p18:Prop} (h0:p0) (h1:p1) (h2:p2) (h3:p3) (h4:p4) (h5:p5) (h6:p6) (h7:p7) (h8:p8) (h9:p9) (h10:p10) (h11:p11) (h12:p12) (h13:p13) (h14:p14) (h15:p15) (h16:p16) (h17:p17) (h18:p18):p0∧p1∧p2∧p3∧p4∧p5∧p6∧p7∧p8∧p9∧p10∧p11∧p12∧p13∧p14∧p15∧p16∧p17∧p18:=⟨h0,h1,h2,h3,h4,h5,h6,h7,h8,h9,h10,h11,h12,h13,h14,h15,h16,h17,h18⟩
theorem Bv {P:Program} {fn:Func} {R:Ending→World→Prop} {a:Act} {w:World} (v:Value) (hR:R (.returned v) w) (hr:(results fn a.tmps).run P w=.ok v w:=by simp[go_sem]) (hd:a.defers=[]:=by rfl):bodyPost P fn R .ret a w:=bodyPost_ret hr hd hR
theorem Iw (x:Int) (h:-9223372036854775808≤x∧x<9223372036854775808:=by omega):IntKind.i64.wrap x=x:=IntWalk.i64_in x (by omega)
attribute [simp] results Tryz.results101 Tryz.results103 Tryz.results106 Tryz.results107 Tryz.results118 Tryz.results12 Tryz.results123 Tryz.results124 Tryz.results13 Tryz.results15 Tryz.results16 Tryz.results17 Tryz.results18 Tryz.results19 Tryz.results20 Tryz.results21 Tryz.results23 Tryz.results27 Tryz.results28 Tryz.results29 Tryz.results3 Tryz.results30 Tryz.results31 Tryz.results36 Tryz.results37 Tryz.results4 Tryz.results43 Tryz.results44 Tryz.results45 Tryz.results46 Tryz.results47 Tryz.results48 Tryz.results49 Tryz.results5 Tryz.results50 Tryz.results51 Tryz.results52 Tryz.results53 Tryz.results55 Tryz.results56 Tryz.results57 Tryz.results58 Tryz.results59 Tryz.results64 Tryz.results67 Tryz.results68 Tryz.results7 Tryz.results72 Tryz.results73 Tryz.results74 Tryz.results75 Tryz.results79 Tryz.results8 Tryz.results80 Tryz.results86 Tryz.results88 Tryz.results9 Tryz.results95 Tryz.results96
theorem Hd3 {p0 p1 p2:Prop} (h0:p0) (h1:p1) (h2:p2):Hid p0∧Hid p1∧Hid p2:=⟨h0,h1,h2⟩
theorem Hd4 {p0 p1 p2 p3:Prop} (h0:p0) (h1:p1) (h2:p2) (h3:p3):Hid p0∧Hid p1∧Hid p2∧Hid p3:=⟨h0,h1,h2,h3⟩
theorem Hd5 {p0 p1 p2 p3 p4:Prop} (h0:p0) (h1:p1) (h2:p2) (h3:p3) (h4:p4):Hid p0∧Hid p1∧Hid p2∧Hid p3∧Hid p4:=⟨h0,h1,h2,h3,h4⟩
theorem Hd6 {p0 p1 p2 p3 p4 p5:Prop} (h0:p0) (h1:p1) (h2:p2) (h3:p3) (h4:p4) (h5:p5):Hid p0∧Hid p1∧Hid p2∧Hid p3∧Hid p4∧Hid p5:=⟨h0,h1,h2,h3,h4,h5⟩
theorem Hd7 {p0 p1 p2 p3 p4 p5 p6:Prop} (h0:p0) (h1:p1) (h2:p2) (h3:p3) (h4:p4) (h5:p5) (h6:p6):Hid p0∧Hid p1∧Hid p2∧Hid p3∧Hid p4∧Hid p5∧Hid p6:=⟨h0,h1,h2,h3,h4,h5,h6⟩
theorem Hd8 {p0 p1 p2 p3 p4 p5 p6 p7:Prop} (h0:p0) (h1:p1) (h2:p2) (h3:p3) (h4:p4) (h5:p5) (h6:p6) (h7:p7):Hid p0∧Hid p1∧Hid p2∧Hid p3∧Hid p4∧Hid p5∧Hid p6∧Hid p7:=⟨h0,h1,h2,h3,h4,h5,h6,h7⟩
theorem Hd9 {p0 p1 p2 p3 p4 p5 p6 p7 p8:Prop} (h0:p0) (h1:p1) (h2:p2) (h3:p3) (h4:p4) (h5:p5) (h6:p6) (h7:p7) (h8:p8):Hid p0∧Hid p1∧Hid p2∧Hid p3∧Hid p4∧Hid p5∧Hid p6∧Hid p7∧Hid p8:=⟨h0,h1,h2,h3,h4,h5,h6,h7,h8⟩
theorem Hd10 {p0 p1 p2 p3 p4 p5 p6 p7 p8 p9:Prop} (h0:p0) (h1:p1) (h2:p2) (h3:p3) (h4:p4) (h5:p5) (h6:p6) (h7:p7) (h8:p8) (h9:p9):Hid p0∧Hid p1∧Hid p2∧Hid p3∧Hid p4∧Hid p5∧Hid p6∧Hid p7∧Hid p8∧Hid p9:=⟨h0,h1,h2,h3,h4,h5,h6,h7,h8,h9⟩
theorem Hd11 {p0 p1 p2 p3 p4 p5 p6 p7 p8 p9 p10:Prop} (h0:p0) (h1:p1) (h2:p2) (h3:p3) (h4:p4) (h5:p5) (h6:p6) (h7:p7) (h8:p8) (h9:p9) (h10:p10):Hid p0∧Hid p1∧Hid p2∧Hid p3∧Hid p4∧Hid p5∧Hid p6∧Hid p7∧Hid p8∧Hid p9∧Hid p10:=⟨h0,h1,h2,h3,h4,h5,h6,h7,h8,h9,h10⟩
theorem Hd12 {p0 p1 p2 p3 p4 p5 p6 p7 p8 p9 p10 p11:Prop} (h0:p0) (h1:p1) (h2:p2) (h3:p3) (h4:p4) (h5:p5) (h6:p6) (h7:p7) (h8:p8) (h9:p9) (h10:p10) (h11:p11):Hid p0∧Hid p1∧Hid p2∧Hid p3∧Hid p4∧Hid p5∧Hid p6∧Hid p7∧Hid p8∧Hid p9∧Hid p10∧Hid p11:=⟨h0,h1,h2,h3,h4,h5,h6,h7,h8,h9,h10,h11⟩
theorem Hd13 {p0 p1 p2 p3 p4 p5 p6 p7 p8 p9 p10 p11 p12:Prop} (h0:p0) (h1:p1) (h2:p2) (h3:p3) (h4:p4) (h5:p5) (h6:p6) (h7:p7) (h8:p8) (h9:p9) (h10:p10) (h11:p11) (h12:p12):Hid p0∧Hid p1∧Hid p2∧Hid p3∧Hid p4∧Hid p5∧Hid p6∧Hid p7∧Hid p8∧Hid p9∧Hid p10∧Hid p11∧Hid p12:=⟨h0,h1,h2,h3,h4,h5,h6,h7,h8,h9,h10,h11,h12⟩
theorem Hd14 {p0 p1 p2 p3 p4 p5 p6 p7 p8 p9 p10 p11 p12 p13:Prop} (h0:p0) (h1:p1) (h2:p2) (h3:p3) (h4:p4) (h5:p5) (h6:p6) (h7:p7) (h8:p8) (h9:p9) (h10:p10) (h11:p11) (h12:p12) (h13:p13):Hid p0∧Hid p1∧Hid p2∧Hid p3∧Hid p4∧Hid p5∧Hid p6∧Hid p7∧Hid p8∧Hid p9∧Hid p10∧Hid p11∧Hid p12∧Hid p13:=⟨h0,h1,h2,h3,h4,h5,h6,h7,h8,h9,h10,h11,h12,h13⟩
end Go.Proofs.YtplclpileejemaaGreatDoor
namespace Go.Proofs.YtplclpileejemaaGreatDoor
open Go.ChangeShapes Go.WideShapes Go.ChangeAt Go.RowKit
variable {P:Program}{W:World}
theorem own:ownKnob Tryz.prog.godebug=none:=by kernel_rfl
theorem Rp:laidOutB Tryz.prog=true:=by kernel_rfl
theorem K3 {H:Type}{enc:TypeId×Value→H} (hl:laidOutB P=true) {W W':World} (hb:Below W.heap.size W W') (ts:List TypeId):∀{vs:List Value} {ds:List (DataW H)} {ps:List MemPlace},
 ts.all (fun t=>P.readableRec t&&decide (t<P.types.size))=true→DataW.TrodAll enc P W 0 (fun _=>true) true ts vs ds ps→(∀x∈ps,x.block<W.heap.size)→
 DataW.TrodAll enc P W' 0 (fun b=>decide (b<W.heap.size)) true ts vs ds ps:=by
 induction ts with
 |nil=>
  intro vs ds ps _ h _;obtain⟨rfl,rfl,rfl⟩:=trodAll_nil h;exact trodAll_mk0
 |cons t ts ih=>
  intro vs ds ps ht h hlt;obtain⟨v0,vs0,d0,ds0,p0,q0,rfl,rfl,rfl,h0,r0⟩:=trodAll_cons h;simp only[List.all_cons,Bool.and_eq_true,decide_eq_true_eq]at ht;exact trodAll_cons_mk (Below.trod hl ht.1.1 ht.1.2 h0 hb (fun x hx=>hlt x (by simp[hx]))) (ih ht.2 r0 (fun x hx=>hlt x (by simp[hx])))
theorem Lw {H:Type}{enc:TypeId×Value→H}{f:Func}{s:ChangeSpec}{W':World}{args:Array Value}{ds:List (DataW H)}{before:List MemPlace} 
 (hp:f.params.toList.all (fun t=>Tryz.prog.readableRec t&&decide (t<Tryz.prog.types.size))=true) (hs:s.vars=[]) (hr:f.resultTypes=#[4])
 (hW:DataW.Whole enc Tryz.prog f.params.toList s.vars false W args.toList ds [] before) (hfn:s.fn H (ds++[])={results:=[.lit (.bool true)],args:=ds}) (hb:Below W.heap.size W W'):
 s.post enc Tryz.prog f false true false false W args (.bool true) W':=by
 have hW':=hW;obtain⟨p,q,hA,hV,hpq,hfz,hnd⟩:=hW;rw[hs]at hV;obtain⟨_,rfl⟩:=trodVars_none hV;have hpq':before=p:=by simpa using hpq
 subst hpq';have hlt:∀x∈before,x.block<W.heap.size:=fun x hx=>by simpa using hW'.lt x hx
 refine⟨ds,[],before,[],before,[],hW',?_,?_,?_,hb.frame _,fun h=>by cases h⟩
 ·rw[hfn,hr];exact trodAll_cons_mk (shut_bool Tryz.underlying4 _) trodAll_mk0
 ·rw[hfn];exact K3 Rp hb _ hp hA hlt
 ·rw[hfn,hs];rfl
end Go.Proofs.YtplclpileejemaaGreatDoor
namespace Go.Proofs.YtplclpileejemaaGreatDoor
open Go.RowKit
variable {l:List UInt8}{k m n:Nat}{w w':World}{P:Program}{F:Nat→Prop}
def bv (x:UInt8):Value:=.int .u8 (x.toNat:Int)
def bvs (l:List UInt8):List Value:=l.map bv
def BF (l:List UInt8):Value:=.agg (bvs l).toArray
@[simp] theorem Ap (l:List UInt8):(bvs l).length=l.length:=by simp[bvs]
theorem DK (a b:List UInt8):bvs (a++b)=bvs a++bvs b:=by simp[bvs]
theorem Bc :∀v∈bvs l,v.oneCell'=true:=by intro v hv;obtain⟨x,_,rfl⟩:=List.mem_map.1 hv;rfl
theorem AE (l:List UInt8) (i:Nat):(bvs l)[i]?=l[i]?.map bv:=by simp[bvs]
structure Chg (F:Nat→Prop) (w w':World):Prop where
 os:w'.os=w.os
 tape:w'.tape=w.tape
 output:w'.output=w.output
 size:w.heap.size≤w'.heap.size
 block:∀k,k<w.heap.size→¬F k→w'.heap[k]?=w.heap[k]?
section
variable {F G:Nat→Prop} {w w' w1 w2 w3:World}
theorem Chg.refl (F:Nat→Prop) (w:World):Chg F w w:=⟨rfl,rfl,rfl,Nat.le_refl _,fun _ _ _=>rfl⟩
theorem Cb (h:Below w.heap.size w w'):Chg F w w':=⟨h.os,h.tape,h.output,h.size,fun k hk _=>h.block k hk⟩
theorem Chg.below (h:Chg F w w') {B:Nat} (hF:∀k,F k→B≤k) (hB:B≤w.heap.size):Below B w w':=
 ⟨h.os,h.tape,h.output,h.size,fun k hk=>h.block k (by omega) (fun hf=>by have:=hF k hf;omega)⟩
theorem Chg.mono (h:Chg F w w') (hFG:∀k,F k→G k):Chg G w w':=⟨h.os,h.tape,h.output,h.size,fun k hk hg=>h.block k hk (fun hf=>hg (hFG k hf))⟩
theorem Chg.trans (h:Chg F w1 w2) (k:Chg G w2 w3) (hG:∀i,G i→F i∨w1.heap.size≤i):Chg F w1 w3:=
 ⟨k.os.trans h.os,k.tape.trans h.tape,k.output.trans h.output,Nt h.size k.size,fun i hi hf=>(k.block i (Nl hi h.size) (fun hg=>by rcases hG i hg with h1|h1;exact hf h1;omega)).trans (h.block i hi hf)⟩
theorem Chg.grown {row:Option Nat} (hg:w.grownBy w' row) (hr:∀k,row=some k→F k∨w.heap.size≤k):Chg F w w':=
 ⟨hg.os,hg.tape,hg.output,hg.size,fun k hk hf=>hg.block k hk (fun e=>by rcases hr k e.symm with h1|h1;exact hf h1;omega)⟩
theorem Chg.setCell (w:World) {a:Addr} (v:Value) (h:F a.block):Chg F w (w.setCell a v):=
 ⟨rfl,rfl,rfl,by simp[World.setCell],fun k _ hf=>heap_setCell_other w a k v (fun e=>hf (e▸h))⟩
theorem Chg.alloc (w:World) (o:Obj):Chg F w (w.alloc o):=⟨rfl,rfl,rfl,by simp,fun _ hk _=>Below.heap_alloc w o _ hk⟩
theorem Chg.drew (h:Chg F w w'):Chg F w w'.drew:=⟨h.os,h.tape,h.output,h.size,h.block⟩
theorem Chg.cell (h:Chg F w w') {p:Addr} {v:Value} (hf:¬F p.block) (hc:w.cell? p=some v):w'.cell? p=some v:=
 (World.cell?_of_block (h.block p.block (World.block_lt_of_cell? w p hc) hf)).trans hc
end
def FT (e:MapEntry):Value×Value:=(e.key,e.val)
def FU (p:Nat×List UInt8):Value×Value:=(.int .i64 (p.1:Int),BF p.2)
structure Ents (es:Array MapEntry) (L:List (Nat×List UInt8)):Prop where
 eq:es.toList.map FT=L.map FU
 nodup:(L.map (·.1)).Nodup
theorem FI (k:Nat):∀(l:List MapEntry) (L:List (Nat×List UInt8)) (i:Nat),l.map FT=L.map FU→
 Instr.findNow (.int .i64) (.int .i64 k) l i=some ((L.findIdx? (fun p=>p.1==k)).bind fun j=>(L[j]?).map fun p=>(i+j,BF p.2))
 | [],[],i,_=>by simp[Instr.findNow]
 | [],_::_,_,h=>by simp at h
 |_::_,[],_,h=>by simp at h
 |e::l,p::L,i,h=>by
  simp only[List.map_cons,List.cons.injEq]at h;obtain⟨h1,h2⟩:=h;have hk:e.key=.int .i64 (p.1:Int):=congrArg Prod.fst h1;have hv:e.val=BF p.2:=congrArg Prod.snd h1;have ih:=FI k l L (i+1) h2;unfold Instr.findNow;rw[hk];simp only[Instr.sameNow,if_true];by_cases hp:p.1=k
  ·have hb:((k:Int)==(p.1:Int))=true:=by simp[hp]
   rw[hb];simp[List.findIdx?_cons,hp,hv]
  ·have hb:((k:Int)==(p.1:Int))=false:=by simp;omega
   rw[hb];simp only[ih];have hb2:(p.1==k)=false:=by simpa using hp
   rw[List.findIdx?_cons];simp only[hb2,if_false,Bool.false_eq_true];cases hq:List.findIdx? (fun p=>p.1==k) L with
   |none=>simp
   |some j=>simp;rw[show i+1+j=i+(j+1) by omega]
def FV (L:List (Nat×List UInt8)) (k:Nat):Option (List UInt8):=(L.find? (fun p=>p.1==k)).map (·.2)
theorem Eo {α:Type} (f:α→Bool):∀L:List α,L.find? f=(L.findIdx? f).bind fun j=>L[j]?
 | []=>rfl
 |p::L=>by
  rw[List.find?_cons,List.findIdx?_cons];cases h:f p with
  |true=>simp
  |false=>
   simp only[Eo f L,Bool.false_eq_true,if_false];cases List.findIdx? f L<;>simp
def Gg (L:List (Nat×List UInt8)) (k:Nat) (v:List UInt8):List (Nat×List UInt8):=
 match L.findIdx? (fun p=>p.1==k)with
 |some j=>L.set j (k,v)
 |none=>L++[(k,v)]
section
variable {P:Program} {w:World}
theorem FW (k:Int):MapKept.IsKey (.int .i64) (.int .i64 k):=by simp[MapKept.IsKey]
theorem Jh {t kt et:TypeId} (ht:P.underlying t=some (.map kt et)) (hk:P.underlying kt=some (.int .i64)) {z:Value} (hz:∀w,(zeroValue et).run P w=.ok z w)
 {m:Nat} {es:Array MapEntry} {clock:Nat} (hm:w.heap[m]?=some (.map es clock)) {L:List (Nat×List UInt8)} (hL:Ents es L) (k:Nat):
 (Instr.lookup t (.map (some m)) (.int .i64 k) false).run P w=.ok ((FV L k).elim z BF) w:=by
 have hf:=FI k es.toList L 0 hL.eq;have hg:(getObj m).run P w=.ok (.map es clock) w:=by simp[getObj,Sem.run,hm]
 have hck:=fun em=>MapKept.run_checkKey (w:=w) hk (FW k) em 9999
 have hfk:=MapKept.run_findKey (w:=w) hk hf;simp only[Instr.lookup,Sem.run_bind,run_underlying ht,Result.andThen_ok,hg,hck,hfk,Sem.run_pure];unfold FV;rw[Eo];cases hq:List.findIdx? (fun p=>p.1==k) L with
 |none=>simp[hz,Sem.run_bind]
 |some j=>
  cases hj:L[j]? with
  |none=>simp[hz,hj,Sem.run_bind]
  |some p=>simp[hj]
def Eg (es:Array MapEntry) (clock:Nat):Prop:=(∀e∈es.toList,e.born<clock)∧(es.toList.map (·.born)).Nodup
theorem K4:Eg #[] 0:=⟨by simp,by simp⟩
theorem Lx {es:Array MapEntry}{clock:Nat} (h:Eg es clock) (k v:Value):Eg (es.push {key:=k,val:=v,born:=clock}) (clock+1):=by
 refine⟨fun e he=>?_,?_⟩
 ·rw[Array.toList_push,List.mem_append]at he;rcases he with he|he
  ·exact Nat.lt_succ_of_lt (h.1 e he)
  ·obtain rfl :=List.mem_singleton.1 he;exact Nat.lt_succ_self _
 ·rw[Array.toList_push,List.map_append,List.nodup_append];refine⟨h.2,by simp,?_⟩;intro a ha b hb e;obtain⟨x,hx,rfl⟩:=List.mem_map.1 ha;simp at hb;have:=h.1 x hx;omega
theorem Ka {es:Array MapEntry}{clock:Nat} (h:Eg es clock) (j:Nat) (k v:Value):Eg (es.modify j fun e=>{e with key:=k,val:=v}) clock:=by
 have e:(es.modify j fun e=>{e with key:=k,val:=v}).toList.map (·.born)=es.toList.map (·.born):=by
  apply List.ext_getElem?;intro i;simp only[List.getElem?_map,Array.getElem?_toList,Array.getElem?_modify];by_cases hij:j=i
  ·subst hij;cases es[j]?<;>simp
  ·simp[hij]
 refine⟨fun x hx=>?_,by rw[e];exact h.2⟩;have hb:x.born∈(es.modify j fun e=>{e with key:=k,val:=v}).toList.map (·.born):=List.mem_map_of_mem hx;rw[e]at hb;obtain⟨y,hy,hyb⟩:=List.mem_map.1 hb;rw[←hyb];exact h.1 y hy
theorem Qf {es:Array MapEntry}{L:List (Nat×List UInt8)} (hL:Ents es L) (k:Nat) (v:List UInt8) (clock:Nat) (hst:Eg es clock):
 ∃es' clock',Ents es' (Gg L k v)∧Eg es' clock'∧
  (∀{P:Program} {w:World} {t kt et:TypeId} {m:Nat},P.underlying t=some (.map kt et)→P.underlying kt=some (.int .i64)→w.heap[m]?=some (.map es clock)→
   (Instr.mapUpdate t (.map (some m)) (.int .i64 k) (BF v)).run P w=.ok () {w with heap:=w.heap.setIfInBounds m (.map es' clock')}):=by
 have hf:=FI k es.toList L 0 hL.eq;have hlen:es.size=L.length:=by have:=congrArg List.length hL.eq;simpa using this
 cases hq:List.findIdx? (fun p=>p.1==k) L with
 |none=>
  refine⟨es.push {key:=.int .i64 k,val:=BF v,born:=clock},clock+1,⟨?_,?_⟩,Lx hst _ _,?_⟩
  ·simp[Gg,hq,hL.eq,FT,FU]
  ·simp only[Gg,hq,List.map_append,List.map_cons,List.map_nil];rw[List.nodup_append];refine⟨hL.nodup,by simp,?_⟩;intro a ha b hb;simp at hb;subst hb;intro e;subst e;obtain⟨p,hp,hpk⟩:=List.mem_map.1 ha;have:=List.findIdx?_eq_none_iff.1 hq p hp;simp[hpk]at this
  ·intro P w t kt et m ht hk hm;have hg:(getObj m).run P w=.ok (.map es clock) w:=by simp[getObj,Sem.run,hm]
   have hck:=fun em=>MapKept.run_checkKey (w:=w) hk (FW k) em 9999
   rw[hq]at hf;have hfk:=MapKept.run_findKey (w:=w) hk hf;simp only[Instr.mapUpdate,Sem.run_bind,run_underlying ht,Result.andThen_ok,hg,hck,hfk,Option.bind_none];simp[setObj,Sem.run,hm]
 |some j=>
  obtain⟨hj,hpj,_⟩:=List.findIdx?_eq_some_iff_getElem.1 hq;have hje:j<es.size:=by omega
  have hpk:L[j].1=k:=by simpa using hpj
  have hent:FT es[j]=FU L[j]:=by
   have h1:(es.toList.map FT)[j]?=(L.map FU)[j]?:=by rw[hL.eq]
   simpa[hje,hj]using h1
  have hkey:es[j].key=.int .i64 k:=by have:=congrArg Prod.fst hent;simpa[FT,FU,hpk]using this
  refine⟨es.modify j fun e=>{e with key:=.int .i64 k,val:=BF v},clock,⟨?_,?_⟩,Ka hst j _ _,?_⟩
  ·simp only[Gg,hq];apply List.ext_getElem?;intro i;have h1:(es.toList.map FT)[i]?=(L.map FU)[i]?:=by rw[hL.eq]
   simp only[List.getElem?_map,Array.getElem?_toList,Array.getElem?_modify,List.getElem?_set]at h1⊢;by_cases hij:j=i
   ·subst hij;simp[hje,hj,FT,FU]
   ·simp[hij,h1]
  ·simp only[Gg,hq];have:(L.set j (k,v)).map (·.1)=L.map (·.1):=by
    apply List.ext_getElem?;intro i;simp only[List.getElem?_map,List.getElem?_set];by_cases hij:j=i
    ·subst hij;simp[hj,hpk]
    ·simp[hij]
   rw[this];exact hL.nodup
  ·intro P w t kt et m ht hk hm;have hg:(getObj m).run P w=.ok (.map es clock) w:=by simp[getObj,Sem.run,hm]
   have hck:=fun em=>MapKept.run_checkKey (w:=w) hk (FW k) em 9999
   rw[hq]at hf;have hfk:=MapKept.run_findKey (w:=w) hk hf;simp only[Option.bind_some,List.getElem?_eq_getElem hj,Option.map_some,Nat.zero_add]at hfk;have hsty:=MapKept.run_keyThatStays (P:=P) (w:=w) (d:=.int .i64) (FW k);have hkk:((es[j]?).map (·.key)).getD (.int .i64 k)=.int .i64 k:=by simp[hje,hkey]
   simp only[Instr.mapUpdate,Sem.run_bind,run_underlying ht,Result.andThen_ok,hg,hck,hfk,hkk,hsty];simp[setObj,Sem.run,hm]
theorem O3 (L:List (Nat×List UInt8)) (k i:Nat) (v:List UInt8):FV (Gg L k v) i=if i=k then some v else FV L i:=by
 unfold FV Gg;cases hq:List.findIdx? (fun p=>p.1==k) L with
 |none=>
  have hn:=List.findIdx?_eq_none_iff.1 hq;rw[List.find?_append];by_cases hik:i=k
  ·subst hik;have:List.find? (fun p=>p.1==i) L=none:=List.find?_eq_none.2 (fun p hp=>by simp[hn p hp]);simp[this]
  ·have:((k==i)=false):=by simp;omega
   simp[hik,List.find?_cons,this]
 |some j=>
  obtain⟨hj,hpj,hfirst⟩:=List.findIdx?_eq_some_iff_getElem.1 hq;have hpk:L[j].1=k:=by simpa using hpj
  rw[Eo,Eo];by_cases hik:i=k
  ·subst hik;have:List.findIdx? (fun p=>p.1==i) (L.set j (i,v))=some j:=by rw[List.findIdx?_eq_some_iff_getElem];refine⟨by simpa using hj,by simp,?_⟩;intro i' hi';have:=hfirst i' hi';rw[List.getElem_set_ne (by omega)];exact this
   simp[this,hj]
  ·have hpi:∀p:Nat×List UInt8,p.1=k→(p.1==i)=false:=by intro p hp;simp;omega
   have:List.findIdx? (fun p=>p.1==i) (L.set j (k,v))=List.findIdx? (fun p=>p.1==i) L:=by
    have hmap:(L.set j (k,v)).map (·.1)=L.map (·.1):=by
     apply List.ext_getElem?;intro i;simp only[List.getElem?_map,List.getElem?_set];by_cases hij:j=i
     ·subst hij;simp[hj,hpk]
     ·simp[hij]
    have e1:∀M:List (Nat×List UInt8),List.findIdx? (fun p=>p.1==i) M=List.findIdx? (fun x=>x==i) (M.map (·.1)):=by intro M;rw[List.findIdx?_map];rfl
    rw[e1,e1,hmap]
   rw[this];cases hr:List.findIdx? (fun p=>p.1==i) L with
   |none=>simp[hik]
   |some r=>
    obtain⟨hr1,hr2,_⟩:=List.findIdx?_eq_some_iff_getElem.1 hr;have hrj:j≠r:=by intro e;subst e;have:=hpi L[j] hpk;rw[this]at hr2;cases hr2
    simp[hik,List.getElem?_set_ne hrj]
theorem O4 {L:List (Nat×List UInt8)}{v:List UInt8}{p:Nat×List UInt8} (h:p∈Gg L k v):p=(k,v)∨p∈L:=by
 unfold Gg at h;cases hq:List.findIdx? (fun p=>p.1==k) L with
 |none=>rw[hq]at h;simp at h;exact h.symm
 |some j=>rw[hq]at h;exact(List.mem_or_eq_of_mem_set h).symm
end
structure MapIs (w:World) (m n:Nat) (z:List UInt8) (dur:Nat→List UInt8):Prop where
 ex:∃es clock L,w.heap[m]?=some (.map es clock)∧Ents es L∧(∀p∈L,p.1<n∧p.2.length=z.length)∧(∀i,i<n→(FV L i).getD z=dur i)∧Eg es clock
theorem MapIs.lt {z:List UInt8}{dur:Nat→List UInt8} (h:MapIs w m n z dur):m<w.heap.size:=by obtain⟨es,clock,L,hm,_⟩:=h.ex;exact(Ax hm).1
theorem MapIs.kept {z:List UInt8}{dur:Nat→List UInt8} (h:MapIs w m n z dur) (hb:w'.heap[m]?=w.heap[m]?):MapIs w' m n z dur:=by obtain⟨es,clock,L,hm,r⟩:=h.ex;exact⟨es,clock,L,hb.trans hm,r⟩
theorem MapIs.ext {z:List UInt8}{dur dur':Nat→List UInt8} (h:MapIs w m n z dur) (he:∀i,i<n→dur i=dur' i):MapIs w m n z dur':=by obtain⟨es,clock,L,hm,h1,h2,h3,h4⟩:=h.ex;exact⟨es,clock,L,hm,h1,h2,fun i hi=>(h3 i hi).trans (he i hi),h4⟩
theorem MapIs.lookup {z:List UInt8}{dur:Nat→List UInt8} (h:MapIs w m n z dur) {t kt et:TypeId} (ht:P.underlying t=some (.map kt et)) (hk:P.underlying kt=some (.int .i64))
 (hz:∀w,(zeroValue et).run P w=.ok (BF z) w) {k:Nat} (hkn:k<n):
 (Instr.lookup t (.map (some m)) (.int .i64 k) false).run P w=.ok (BF (dur k)) w:=by
 obtain⟨es,clock,L,hm,h1,h2,h3,h4⟩:=h.ex;rw[Jh ht hk hz hm h1,←h3 k hkn];cases FV L k<;>rfl
theorem MapIs.update {z:List UInt8}{dur:Nat→List UInt8} (h:MapIs w m n z dur) {t kt et:TypeId} (ht:P.underlying t=some (.map kt et)) (hk:P.underlying kt=some (.int .i64))
 {k:Nat} (hkn:k<n) (v:List UInt8) (hv:v.length=z.length):
 ∃w',(Instr.mapUpdate t (.map (some m)) (.int .i64 k) (BF v)).run P w=.ok () w'∧MapIs w' m n z (fun i=>if i=k then v else dur i)∧w.grownBy w' (some m):=by
 obtain⟨es,clock,L,hm,h1,h2,h3,h4⟩:=h.ex;obtain⟨es',clock',hE,hS,hrun⟩:=Qf h1 k v clock h4;have hmlt:=h.lt;refine⟨_,hrun ht hk hm,⟨es',clock',Gg L k v,by simp[hmlt],hE,?_,?_,hS⟩,⟨rfl,rfl,rfl,by simp,?_⟩⟩
 ·intro p hp;rcases O4 hp with rfl |hp
  ·exact⟨hkn,hv⟩
  ·exact h2 p hp
 ·intro i hi;rw[O3];by_cases hik:i=k
  ·simp[hik]
  ·simp[hik,h3 i hi]
 ·intro i hi hne;simp only[Array.getElem?_setIfInBounds];rw[In (fun e=>hne (by rw[e]))]
theorem Ck {p:Nat}{o:Obj} (c:Chg F w w') (h:w.heap[p]?=some o) (hp:¬F p:=by omega):w'.heap[p]?=some o:=(c.block p (Ax h).1 hp).trans h
variable {v:Value}{G:Nat→Prop}{B s g:Nat}{T:TypeId}{o:Oper}
theorem AS (w:World) (b i:Nat) (v:Value):w.grownBy (w.setCell ⟨b,i,none⟩ v) (some b):=
 ⟨rfl,rfl,rfl,by simp[World.setCell],fun _ _ hk=>heap_setCell_other w _ _ v (fun e=>hk (by rw[e]))⟩
theorem Bm {w1 w2:World}{row:Option Nat} (h:w.grownBy w1 row) (k:w1.grownBy w2 row):w.grownBy w2 row:=
 ⟨k.os.trans h.os,k.tape.trans h.tape,k.output.trans h.output,Nt h.size k.size,fun i hi hr=>(k.block i (Nl hi h.size) hr).trans (h.block i hi hr)⟩
def OwnBytes (w:World) (F:Nat→Prop) (v:Value) (l:List UInt8):Prop:=
 ∃g T,v=.slice (some ⟨g,0,none⟩) l.length l.length∧F g∧w.heap[g]?=some (.cells (bvs l).toArray T (0,0))
def BytesAt (w:World) (F:Nat→Prop) (v:Value) (l:List UInt8):Prop:=
 ∃a cap,v=.slice a l.length cap∧l.length≤cap∧(l≠[]→∃g off,a=some ⟨g,off,none⟩∧F g∧g<w.heap.size∧w.rangeAt g off (bvs l))
theorem OwnBytes.bytes (h:OwnBytes w F v l):BytesAt w F v l:=by obtain⟨g,T,rfl,hF,hg⟩:=h;refine⟨_,_,rfl,Nat.le_refl _,fun _=>⟨g,0,rfl,hF,(Ax hg).1,fun j u hu=>?_⟩⟩;rw[cell_of_row w _ _ _ _ _ hg];simpa using hu
theorem OwnBytes.kept (h:OwnBytes w F v l) (hc:Chg G w w') (hd:∀k,F k→¬G k):OwnBytes w' F v l:=by obtain⟨g,T,rfl,hF,hg⟩:=h;exact⟨g,T,rfl,hF,(hc.block g (Ax hg).1 (hd g hF)).trans hg⟩
theorem BytesAt.kept (h:BytesAt w F v l) (hc:Chg G w w') (hd:∀k,F k→¬G k):BytesAt w' F v l:=by obtain⟨a,cap,rfl,hcap,hr⟩:=h;refine⟨a,cap,rfl,hcap,fun hl=>?_⟩;obtain⟨g,off,rfl,hF,hg,hr⟩:=hr hl;exact⟨g,off,rfl,hF,Nl hg hc.size,fun j u hu=>hc.cell (p:=⟨g,off+j,none⟩) (hd g hF) (hr j u hu)⟩
theorem BytesAt.mono (h:BytesAt w F v l) (hFG:∀k,F k→G k):BytesAt w G v l:=by obtain⟨a,cap,rfl,hcap,hr⟩:=h;refine⟨a,cap,rfl,hcap,fun hl=>?_⟩;obtain⟨g,off,rfl,hF,hg,hr⟩:=hr hl;exact⟨g,off,rfl,hFG g hF,hg,hr⟩
theorem Gh (w:World) (F:Nat→Prop):BytesAt w F (.slice none 0 0) []:=⟨none,0,rfl,Nat.le_refl _,fun h=>absurd rfl h⟩
theorem BytesAt.mono' (h:BytesAt w F v l) (hFG:∀k,k<w.heap.size→F k→G k):BytesAt w G v l:=by obtain⟨a,cap,rfl,hcap,hr⟩:=h;refine⟨a,cap,rfl,hcap,fun hl=>?_⟩;obtain⟨g,off,rfl,hF,hg,hr⟩:=hr hl;exact⟨g,off,rfl,hFG g hg hF,hg,hr⟩
theorem Ab {xs:List Value} (h:w.ownsRow B T s v n xs):∀g,v.ownBlock=some g→B≤g∧g<w.heap.size:=by
 intro g hg;rcases h.2 with⟨rfl,_⟩| ⟨g',cap,cur,rfl,hb,hh,_⟩
 ·cases hg
 ·obtain rfl :g'=g:=by simpa[Value.ownBlock]using hg
  exact⟨hb,(Ax hh).1⟩
theorem AT {xs:List Value} (h:w.ownsRow B T s v n xs) (hc:Chg G w w') (hd:∀k,B≤k→k<w.heap.size→¬G k):w'.ownsRow B T s v n xs:=by
 refine⟨h.1,?_⟩;rcases h.2 with hn| ⟨g,cap,cur,e,hbg,hg,rest⟩
 ·exact .inl hn
 ·have hlt:=(Ax hg).1;exact .inr ⟨g,cap,cur,e,hbg,(hc.block g hlt (hd g hbg hlt)).trans hg,rest⟩
theorem AZ {xs:List Value} (h:w.ownsRow B T s v n xs) (hn:0<n):
 ∃g cap,v=.slice (some ⟨g,0,none⟩) n cap∧g<w.heap.size∧v.ownBlock=some g∧∀j u,xs[j]?=some u→w.cell? ⟨g,j,none⟩=some u:=by
 rcases h.2 with⟨rfl,h0⟩| ⟨g,cap,cur,rfl,_,hg,_,_,_,ht⟩
 ·omega
 ·refine⟨g,cap,rfl,(Ax hg).1,rfl,fun j u hu=>?_⟩;rw[cell_of_row w g _ cur _ _ hg];rw[←ht,List.getElem?_take]at hu;split at hu
  ·simpa using hu
  ·cases hu
theorem AJ {xs:List Value} (h:w.ownsRow B T s v n xs) (hc:Chg G w w') (hd:∀k,v.ownBlock=some k→¬G k):w'.ownsRow B T s v n xs:=by
 refine⟨h.1,?_⟩;rcases h.2 with hn| ⟨g,cap,cur,e,hbg,hg,rest⟩
 ·exact .inl hn
 ·exact .inr ⟨g,cap,cur,e,hbg,(hc.block g (Ax hg).1 (hd g (by rw[e];rfl))).trans hg,rest⟩
theorem Am {B':Nat}{xs:List Value} (h:w.ownsRow B T s v n xs) (hB:B'≤B):w.ownsRow B' T s v n xs:=by
 refine⟨h.1,?_⟩;rcases h.2 with h| ⟨g,cap,cur,e,hb,rest⟩
 ·exact .inl h
 ·exact .inr ⟨g,cap,cur,e,Nt hB hb,rest⟩
theorem Bb (l:List UInt8):(bvs l).toArray.all (·.oneCell')=true:=all_oneCell_toArray Bc
theorem EB {f:FuncId}{fn:Func}{c:Code} (hf:P.funcs[f]?=some fn) (hname:(fn.name== "runtime.NumGoroutine")=false) (hb:fn.body=some c) (args:Array Value) (w:World):
 (callFunc f args).run P w=.ok (.enter f args) w:=by
 have h1:fn.name≠ "runtime.NumGoroutine":=by simpa using hname
 simp[callFunc,hf,h1,hb]
theorem GM {c:Value}{l:List Value} (h:w.heap[g]?=some (.cells (c::l).toArray T (0,0))):w.cell? ⟨g,0,none⟩=some c∧w.rangeAt g 1 l:=by refine⟨by rw[cell_of_row w _ _ _ _ _ h];rfl,fun j v hv=>?_⟩;rw[cell_of_row w _ _ _ _ _ h];simp only[List.getElem?_toArray,Nat.add_comm 1 j,List.getElem?_cons_succ];exact hv
def CellsKept (n:Nat) (A B:World):Prop:=A.heap.size≤B.heap.size∧∀k cs t fr,n≤k→A.heap[k]?=some (.cells cs t fr)→B.heap[k]?=some (.cells cs t fr)
theorem CellsKept.refl (n:Nat) (A:World):CellsKept n A A:=⟨Nat.le_refl _,fun _ _ _ _ _ h=>h⟩
theorem CellsKept.trans {A B C:World} (h:CellsKept n A B) (h':CellsKept n B C):CellsKept n A C:=
 ⟨Nt h.1 h'.1,fun k cs t fr hk hc=>h'.2 k cs t fr hk (h.2 k cs t fr hk hc)⟩
theorem CellsKept.putObj (W:World) (l:Nat) (o o':Obj) (h:W.heap[l]?=some o) (ho:o.isCells=false):CellsKept n W (W.putObj l o'):=by refine⟨by simp[World.putObj],fun k cs t fr _ hk=>?_⟩;refine(World.putObj_heap_other (fun e=>?_)).trans hk;subst e;rw[h]at hk;cases hk;cases ho
theorem CellsKept.row {xs:List Value} (h:w.ownsRow B T s v k xs) (hc:CellsKept n w w') (hB:n≤B):w'.ownsRow B T s v k xs:=by
 refine⟨h.1,?_⟩;rcases h.2 with hn| ⟨g,cap,cur,e,hbg,hg,rest⟩
 ·exact .inl hn
 ·exact .inr ⟨g,cap,cur,e,hbg,hc.2 g _ _ _ (Nt hB hbg) hg,rest⟩
theorem Ag {xs:List Value} (h:w.ownsRow B T s v k xs):∃a cap,v=.slice a k cap:=by
 rcases h.2 with⟨rfl,rfl⟩| ⟨g,cap,cur,rfl,_⟩
 ·exact⟨none,0,rfl⟩
 ·exact⟨_,_,rfl⟩
theorem It (w:World) (A B C:Obj):(((w.alloc A).alloc B).alloc C).heap[w.heap.size]?=some A∧(((w.alloc A).alloc B).alloc C).heap[w.heap.size+1]?=some B∧(((w.alloc A).alloc B).alloc C).heap[w.heap.size+2]?=some C:=by
 have h1:(w.alloc A).heap.size=w.heap.size+1:=by simp
 have h2:((w.alloc A).alloc B).heap.size=w.heap.size+2:=by simp
 refine⟨?_,?_,?_⟩
 ·rw[Below.heap_alloc _ _ _ (by omega),Below.heap_alloc _ _ _ (by omega),heap_alloc_new]
 ·rw[Below.heap_alloc _ _ _ (by omega),←h1,heap_alloc_new]
 ·rw[←h2,heap_alloc_new]
theorem Cm {ρ:Operand→Value} (ty:TypeId) (x:Operand) (b off:Nat) (cs:List Value) (d:TypeDesc) (ho:o.op=.load ty x) (hx:ρ x=.pointer (some ⟨b,off,none⟩)) (hc:w.rangeAt b off cs)
 (hu:P.underlying ty=some d) (hd:d.isRow=true) (hi:(P.info? ty).map (·.size)=some cs.length):(execOp ρ o).run P w=.ok (.value (.agg cs.toArray)) w:=by
 unfold execOp;simp only[ho,hx,Instr.loadAt,Instr.sureAddr,Sem.run_bind,Sem.run_pure,Result.andThen_ok,run_loadVar_mid w b off ty cs d hc hu hd hi]
theorem CX:(Tryz.prog.info? 5).map (fun i=>(i.zero,i.size,i.bytes))=some (some (.int .u8 0),1,1):=by kernel_rfl
theorem BytesAt.str (h:BytesAt w F v l):(convert 30 9 v).run Tryz.prog w=.ok (.string ⟨l.toArray⟩) w:=by
 obtain⟨a,cap,rfl,hcap,hr⟩:=h;cases a with
 |none=>
  have hl:l=[]:=by
   by_cases hl:l=[]
   ·exact hl
   ·obtain⟨g,off,e,_⟩:=hr hl;cases e
  subst hl;exact run_convert_bytes_nil w 30 5 Tryz.underlying30 Tryz.underlying5 _ _ 9 Tryz.underlying9
 |some ad=>
  refine run_convert_bytes_back w 30 9 5 ad cap l Tryz.underlying30 Tryz.underlying5 Tryz.underlying9 ?_;intro j hj;obtain⟨g,off,e,_,_,hc⟩:=hr (by intro e;rw[e]at hj;simp at hj);cases e;have hadd:(⟨g,off,none⟩:Addr).add j=⟨g,off+j,none⟩:=by unfold Addr.add;split <;>simp_all
  rw[hadd];exact hc j _ (by rw[AE,List.getElem?_eq_getElem hj];rfl)
theorem Cy (h:w.ownsRow B T 1 v n (bvs l)) (hn:l.length=n):BytesAt w (fun k=>B≤k) v l:=by
 rcases h.2 with⟨rfl,h0⟩| ⟨g,cap,cur,rfl,hbg,hg,hc,_,hs,ht⟩
 ·have:l=[]:=List.eq_nil_of_length_eq_zero (by omega);subst this;exact Gh _ _
 ·subst hn;refine⟨_,_,rfl,hc,fun _=>⟨g,0,rfl,hbg,(Ax hg).1,fun j u hu=>?_⟩⟩;rw[cell_of_row w g _ cur _ _ hg,Nat.zero_add];rw[Nat.mul_one]at ht;rw[←ht,List.getElem?_take]at hu;split at hu
  ·simpa using hu
  ·cases hu
section
variable {ops:Array Oper} {rest:List Oper} {o:Oper} {a:Act} {Q:Exit→Act→World→Prop}
theorem B9 (hgd:o.guard=none) (s x:Operand) (ho:o.op=.call {callee:=.builtin .append,args:=#[s,x],argTypes:=#[30,30]})
 {B n:Nat} {v:Value} {b:UInt8} {xs:List UInt8} (hs:a.eval s=v) (hown:w.ownsRow B 5 1 v n (bvs xs)) (g:Nat) (hx:a.eval x=.slice (some ⟨g,0,none⟩) 1 1) (hg:w.heap[g]?=some (.cells #[bv b] 5 (0,0)))
 (hn:n<1000000000) (hB:B≤w.heap.size)
 (h:∀g' cap' w',g'<w'.heap.size→w'.ownsRow B 5 1 (.slice (some ⟨g',0,none⟩) (n+1) cap') (n+1) (bvs (xs++[b]))→w.grownBy w' v.ownBlock→(v.ownBlock=some g'∨g'=w.heap.size)→wpList Tryz.prog ops Q rest (a.put o.dst (.slice (some ⟨g',0,none⟩) (n+1) cap')) w'):
 wpList Tryz.prog ops Q (o::rest) a w:=by
 refine wpList_plain hgd fun _ hK=>?_
 obtain⟨i0,hi,hz0,hz1,hz2⟩:=info_parts CX;refine wp_append_lies _ s x 30 ho B 5 i0 _ 1 1 Tryz.underlying30 hi hz0 hz1 hz2 rfl (by decide) v n (bvs xs) hs hown
  ⟨g,0,none⟩ 1 1 [bv b] hx rfl (World.news_of_block (cs:=#[bv b]) (t:=5) (fr:=(0,0)) hg) (fun y hy=>by obtain rfl :=List.mem_singleton.1 hy;rfl) (by decide) (by unfold maxLen;omega) (by omega) hB _ rfl ?_
 intro g' cap' w' hown hgrow hat hlt;refine hK _ _ (h g' cap' w' hlt ?_ hgrow hat);rw[DK];exact hown
theorem BR (hgd:o.guard=none) (s x:Operand) (ho:o.op=.call {callee:=.builtin .append,args:=#[s,x],argTypes:=#[30,30]})
 {B n:Nat} {v xv:Value} {F:Nat→Prop} {xs ys:List UInt8} (hs:a.eval s=v) (hown:w.ownsRow B 5 1 v n (bvs xs)) (hx:a.eval x=xv) (hb:BytesAt w F xv ys) (hnil:∀k c,xv=.slice none k c→c=0)
 (hn:n+ys.length<1000000000000) (hB:B≤w.heap.size)
 (h:∀a' cap' w',w'.ownsRow B 5 1 (.slice a' (n+ys.length) cap') (n+ys.length) (bvs (xs++ys))→w.grownBy w' v.ownBlock→wpList Tryz.prog ops Q rest (a.put o.dst (.slice a' (n+ys.length) cap')) w'):
 wpList Tryz.prog ops Q (o::rest) a w:=by
 obtain⟨i0,hi,hz0,hz1,hz2⟩:=info_parts CX;obtain⟨xa,xc,rfl,hxc,hxr⟩:=hb;cases xa with
 |none=>
  have hc0:=hnil _ _ rfl;subst hc0;have hy:ys=[]:=List.eq_nil_of_length_eq_zero (by omega);subst hy;obtain⟨va,vc,rfl⟩:=Ag hown;refine wpList_append_own_none hgd s x 30 ho B 5 i0 1 Tryz.underlying30 hi _ n (bvs xs) hs hown hx ?_;have:=h va vc w (by simpa using hown) ⟨rfl,rfl,rfl,Nat.le_refl _,fun _ _ _=>rfl⟩;simpa using this
 |some ad=>
  refine wpList_append_own w hgd s x 30 ho B 5 i0 _ 1 1 Tryz.underlying30 hi hz0 hz1 hz2 rfl (by decide) v n (bvs xs) hs hown ad ys.length xc (bvs ys) hx (by simp) ?_ Bc (by unfold maxLen;omega) (by omega) hB ?_
  ·intro j u hu;obtain⟨g,off,e,_,_,hr⟩:=hxr (by intro e;rw[e]at hu;simp[bvs]at hu);cases e;have hadd:(⟨g,off,none⟩:Addr).add j=⟨g,off+j,none⟩:=by unfold Addr.add;split <;>simp_all
   rw[hadd];exact hr j u hu
  ·intro v' w' hown' hg _;rw[←DK]at hown';obtain⟨a',cap',rfl⟩:=Ag hown';exact h a' cap' w' hown' hg
end
end Go.Proofs.YtplclpileejemaaGreatDoor
namespace Go.Proofs.YtplclpileejemaaGreatDoor
open Go
variable {i fuel:Nat}{oi o:Oper}{v:Value}{listed:Array Bool}{a:Act}{w:World}{ops:Array Oper}
section
variable {P:Program} {ops:Array Oper} {Q:Exit→Act→World→Prop} {md:Region.Mode} {S:World→Prop} {fin:Nat}
def BD (P:Program) (md:Region.Mode) (ops:Array Oper) (Q:Exit→Act→World→Prop) (S:World→Prop) (fin:Nat):Nat→Array Bool→Act→World→Prop
 |0,listed,a,w=>Region.ready md ops listed=[]∧Q .normal a w
 |fuel+1,listed,a,w=>
  (Region.ready md ops listed=[]→Q .normal a w)∧
  ∀i∈Region.ready md ops listed,wpOp P ops Q i (fun a' w'=>(i≠fin→S w')∧BD P md ops Q S fin fuel (listed.setIfInBounds i true) a' w') a w
theorem Ji:∀(fuel:Nat) (listed:Array Bool) (a:Act) (w:World),BD P md ops Q S fin fuel listed a w→wpAny P md ops Q fuel listed a w
 |0,_,_,_,h=>h
 |fuel+1,_,_,_,h=>⟨h.1,fun i hi=>wpOp_mono (fun a' w' h'=>Ji fuel _ a' w' h'.2) (h.2 i hi)⟩
def FX (md:Region.Mode) (ops:Array Oper) (fin i:Nat):Bool:=
 match ops[fin]? with|some o=>o.after.any fun e=>Region.binds md e&&e.on==i|none=>false
theorem Jj (h:FX md ops fin i=true) {o:Oper} (ho:ops[fin]?=some o):∃e∈o.after,Region.binds md e=true∧e.on=i:=by unfold FX at h;simp only[ho]at h;obtain⟨e,he,hb⟩:=Array.any_eq_true'.1 h;simp only[Bool.and_eq_true,beq_iff_eq]at hb;exact⟨e,he,hb.1,hb.2⟩
theorem Ly (hi:ops[i]?=some oi) (hsel:∀(j:Nat) (o:Oper) cs b,ops[j]?=some o→o.op≠.select cs b)
 (hQ:∀c a w,Q (.panic c) (a.put oi.dst v) w→Q (.panic c) a w) (hfin:FX md ops fin i=true):
 ∀(fuel:Nat) (listed:Array Bool) (a:Act) (w:World),
  (∀j oj,ops[j]?=some oj→j≠i→listed.getD j true=false→(∀e∈oj.after,Region.binds md e=true→e.on≠i)→oi.apart ops oj=true)→
  i∈Region.ready md ops listed→YieldsIf P ops S oi v a→S w→
  BD P md ops Q S fin fuel (listed.setIfInBounds i true) (a.put oi.dst v) w→BD P md ops Q S fin (fuel+1) listed a w:=by
 intro fuel
 induction fuel with
 |zero=>
  intro listed a w _ hr hy hS H;refine⟨fun h=>(by rw[h]at hr;cases hr),fun j hj=>?_⟩;by_cases hji:j=i
  ·subst hji;exact hy.wpOp hi hS ⟨fun _=>hS,H⟩
  ·have:=ready_mono hj hji;rw[H.1]at this;cases this
 |succ fuel ih=>
  intro listed a w hfree hr hy hS H;refine⟨fun h=>(by rw[h]at hr;cases hr),fun j hj=>?_⟩;by_cases hji:j=i
  ·subst hji;exact hy.wpOp hi hS ⟨fun _=>hS,H⟩
  ·have h1:=H.2 j (ready_mono hj hji);obtain⟨hjun,oj,hoj,hall⟩:=mem_ready.1 hj;have hnot:∀e∈oj.after,Region.binds md e=true→e.on≠i:=fun e he hb heq=>by
    have h1:=hall e he hb;have h0:=(mem_ready.1 hr).1;rw[heq]at h1;rcases Nat.lt_or_ge i listed.size with h'|h'
    ·simp[h']at h0 h1;rw[h0]at h1;cases h1
    ·simp[Array.getElem?_eq_none h']at h1
   have hjf:j≠fin:=fun e=>by subst e;obtain⟨e',he',hb',hon⟩:=Jj hfin hoj;exact hnot e' he' hb' hon
   have h2:=wpOp_putIf hoj (hfree j oj hoj hji hjun hnot) (fun cs b=>hsel i oi cs b hi) (fun cs b=>hsel j oj cs b hoj) hQ hy h1;have hfree':∀k ok,ops[k]?=some ok→k≠i→(listed.setIfInBounds j true).getD k true=false→
    (∀e∈ok.after,Region.binds md e=true→e.on≠i)→oi.apart ops ok=true:=fun k ok hk hki hun hno=>by
    refine hfree k ok hk hki ?_ hno;by_cases hjk:j=k
    ·subst hjk;exact hjun
    ·rw[getD_set_ne true hjk]at hun;exact hun
   refine wpOp_mono (fun a' w' h3=>⟨h3.2.1,ih (listed.setIfInBounds j true) a' w' hfree' (ready_mono hr (Ne.symm hji)) h3.1 (h3.2.1 hjf) ?_⟩) h2;rw[Array.setIfInBounds_comm _ _ hji];exact h3.2.2
theorem IG (hi':ops.toList[i]?=some oi)
 (hs:Region.noSelect ops=true) (hf:Region.free md ops listed i=true) (hr:(Region.ready md ops listed).contains i=true) (hfin:FX md ops fin i=true)
 (hQ:∀c a w,Q (.panic c) (a.put oi.dst v) w→Q (.panic c) a w) (hy:YieldsIf P ops S oi v a) (hS:S w)
 (h:BD P md ops Q S fin fuel (listed.setIfInBounds i true) (a.put oi.dst v) w):BD P md ops Q S fin (fuel+1) listed a w:=
 have hi:ops[i]?=some oi:=by simpa using hi'
 Ly hi (Region.noSelect_spec hs) hQ hfin fuel listed a w (Region.free_spec hi hf) (by simpa using hr) hy hS h
theorem MI (hr:Region.ready md ops listed=[i])
 (h:wpOp P ops Q i (fun a' w'=>(i≠fin→S w')∧BD P md ops Q S fin fuel (listed.setIfInBounds i true) a' w') a w):BD P md ops Q S fin (fuel+1) listed a w:=
 ⟨fun h0=>absurd (hr▸h0) (by simp),fun j hj=>by rw[hr]at hj;rw[List.mem_singleton.1 hj];exact h⟩
theorem O5 (hr:Region.ready md ops listed=[i]) (hi':ops.toList[i]?=some oi) (hg:oi.guard=none)
 (h:∀K:Act→World→Prop,(∀a' w',(i≠fin→S w')→BD P md ops Q S fin fuel (listed.setIfInBounds i true) a' w'→K a' w')→oi.wp P a w K Q):BD P md ops Q S fin (fuel+1) listed a w:=by
 have hi:ops[i]?=some oi:=by simpa using hi'
 refine MI hr ?_;unfold wpOp;simp only[hi];rw[Ip (by simp[Region.wanted,hg])];exact .inl (h _ (fun a' w' h1 h2=>⟨h1,h2⟩))
theorem MJ (hr:Region.ready md ops listed=[]) (h:Q .normal a w):
 ∀fuel,BD P md ops Q S fin fuel listed a w
 |0=>⟨hr,h⟩
 |_+1=>⟨fun _=>h,by rw[hr];simp⟩
theorem AY {id:Nat} (fin:Nat) (S:World→Prop) (hm:P.follows .mixedOrders=true)
 (h:BD P .any ops Q S fin ops.size (Array.replicate ops.size false) a w.drew):(Code.region id ops true).wp P Q a w:=
 wp_region_any hm (Ji _ _ _ _ h)
theorem CL (hg:o.guard=none) (h:∀w,S w→(execOp a.eval o).run P w=.ok (.value v) w):YieldsIf P ops S o v a:=
 .inl ⟨by simp[Region.wanted,hg],h⟩
end
def ckR (md:Region.Mode) (ops:Array Oper) (listed:Array Bool) (i:Nat):Bool:=Region.noSelect ops&&Region.free md ops listed i&&(Region.ready md ops listed).contains i
theorem ckT {md:Region.Mode} (h:ckR md ops listed i=true):Region.noSelect ops=true∧Region.free md ops listed i=true∧(Region.ready md ops listed).contains i=true:=by simp only[ckR,Bool.and_eq_true]at h;exact⟨h.1.1,h.1.2,h.2⟩
section
variable {P:Program} {ops:Array Oper} {Q:Exit→Act→World→Prop} {md:Region.Mode} {S:World→Prop} {fin:Nat}
theorem tkF (i:Nat) {oi:Oper} {v:Value} {fuel:Nat} {listed:Array Bool} {a a':Act} {w:World} (hS:S w) (h:BD P md ops Q S fin fuel (listed.setIfInBounds i true) a' w) (hi':ops.toList[i]?=some oi:=by rfl) (hg:oi.guard=none:=by rfl) (hy:∀w',S w'→(execOp a.eval oi).run P w'=.ok (.value v) w':=by intro w' hw';first| (go_simp;rfl)| (go_simp;done)|rfl) (ha:a.put oi.dst v=a':=by first| (simp only[P0,P1,P2,P3,P4];rfl)|rfl) (hc:ckR md ops listed i=true:=by kernel_rfl) (hfin:FX md ops fin i=true:=by kernel_rfl) (hQ:∀c a w,Q (.panic c) (a.put oi.dst v) w→Q (.panic c) a w:=by exact fun _ _ _ h=>h):BD P md ops Q S fin (fuel+1) listed a w:=by subst ha;exact IG hi' (ckT hc).1 (ckT hc).2.1 (ckT hc).2.2 hfin hQ (CL hg hy) hS h
theorem Co (i:Nat) {oi:Oper} {v:Value} {fuel:Nat} {listed:Array Bool} {a a':Act} {w:World} {F:World→Prop} (hf:∀w',S w'→F w') (hS:S w) (h:BD P md ops Q S fin fuel (listed.setIfInBounds i true) a' w) (hi':ops.toList[i]?=some oi:=by rfl) (hg:oi.guard=none:=by rfl) (hy:∀w',F w'→(execOp a.eval oi).run P w'=.ok (.value v) w':=by intro w' hw';first| (go_simp;rfl)| (go_simp;done)) (ha:a.put oi.dst v=a':=by first| (simp only[P0,P1,P2,P3,P4];rfl)|rfl) (hc:ckR md ops listed i=true:=by kernel_rfl) (hfin:FX md ops fin i=true:=by kernel_rfl) (hQ:∀c a w,Q (.panic c) (a.put oi.dst v) w→Q (.panic c) a w:=by exact fun _ _ _ h=>h):BD P md ops Q S fin (fuel+1) listed a w:=by subst ha;exact IG hi' (ckT hc).1 (ckT hc).2.1 (ckT hc).2.2 hfin hQ (CL hg (fun w' h=>hy w' (hf w' h))) hS h
theorem dF (i:Nat) {oi:Oper} {fuel:Nat} {listed:Array Bool} {a:Act} {w:World} (h:∀K:Act→World→Prop,(∀a' w',(i≠fin→S w')→BD P md ops Q S fin fuel (listed.setIfInBounds i true) a' w'→K a' w')→oi.wp P a w K Q) (hi':ops.toList[i]?=some oi:=by rfl) (hg:oi.guard=none:=by rfl) (hr:Region.ready md ops listed=[i]:=by kernel_rfl):BD P md ops Q S fin (fuel+1) listed a w:=
 O5 hr hi' hg h
theorem eF (h:Q .normal a w) (hr:Region.ready md ops listed=[]:=by kernel_rfl):BD P md ops (NoPanic Q) S fin fuel listed a w:=MJ hr (NoPanic.normal h) _
end
end Go.Proofs.YtplclpileejemaaGreatDoor
namespace Go.Proofs.YtplclpileejemaaGreatDoor
open Go.RowKit
variable {w w':World}{B k n s i g:Nat}{T:TypeId}{v:Value}{F:Nat→Prop}{l:List UInt8}{ops:Array Oper}{o:Oper}{a:Act}{Q:Exit→Act→World→Prop}
theorem Dx (w:World) (B:Nat) (T:TypeId):w.ownsRow B T 1 (.slice none 0 0) 0 []:=⟨by decide,.inl ⟨rfl,rfl⟩⟩
theorem Rr (hB:B≤w.heap.size) (T:TypeId) (v:Value):(w.alloc (.cells #[v] T)).ownsRow B T 1 (.slice (some ⟨w.heap.size,0,none⟩) 1 1) 1 [v]:=
 ⟨rfl,.inr ⟨w.heap.size,1,#[v],rfl,hB,Hn,Nat.le_refl _,by decide,rfl,rfl⟩⟩
theorem Dy (hB:B≤w.heap.size) (T:TypeId):(w.alloc (.cells #[] T)).ownsRow B T 1 (.slice (some ⟨w.heap.size,0,none⟩) 0 0) 0 []:=
 ⟨by decide,.inr ⟨w.heap.size,0,#[],rfl,hB,Hn,by decide,by decide,by decide,rfl⟩⟩
theorem Fo {c:Nat}{xs:List Value} (h:w.ownsRow B T s (.slice none k c) n xs):c=0:=by
 rcases h.2 with⟨e,_⟩| ⟨g,cap,cur,e,_⟩
 ·cases e;rfl
 ·cases e
theorem An {xs:List Value} (h:w.ownsRow B T s v n xs) (hb:Below w.heap.size w w'):w'.ownsRow B T s v n xs:=
 AT (G:=fun _=>False) h (Cb hb) (fun _ _ _ h=>h)
theorem BytesAt.below (h:BytesAt w F v l) (hb:Below w.heap.size w w'):BytesAt w' F v l:=h.kept (G:=fun _=>False) (Cb hb) (fun _ _ h=>h)
theorem BytesAt.form (h:BytesAt w F v l):∃a cap,v=.slice a l.length cap:=by obtain⟨a,c,e,_⟩:=h;exact⟨a,c,e⟩
abbrev BytesIn (w:World) (v:Value) (l:List UInt8):Prop:=BytesAt w (fun _=>True) v l
theorem BytesAt.any (h:BytesAt w F v l):BytesIn w v l:=h.mono (fun _ _=>trivial)
theorem Dh (h:w.ownsRow B T 1 v n (bvs l)):BytesAt w (fun k=>B≤k) v l:=Cy h (by simpa using h.1)
theorem BytesAt.get {a:Option Addr}{cap:Nat} (h:BytesAt w F (.slice a n cap) l) (hi:i<l.length):∃g off,a=some ⟨g,off,none⟩∧w.cell? ⟨g,off+i,none⟩=some (.int .u8 (l[i].toNat:Int)):=by obtain⟨a',cap',e,hc,hr⟩:=h;cases e;obtain⟨g,off,rfl,_,_,hr⟩:=hr (by intro e;rw[e]at hi;simp at hi);exact⟨g,off,rfl,hr i _ (by rw[AE,List.getElem?_eq_getElem hi];rfl)⟩
theorem BytesAt.part {off cap:Nat} (h:BytesAt w F (.slice (some ⟨g,off,none⟩) l.length cap) l) (i n c:Nat) (hn:i+n≤l.length) (hc:n≤c):
 BytesAt w F (.slice (some ⟨g,off+i,none⟩) n c) ((l.drop i).take n):=by
 obtain⟨a',cap',e,hc',hr⟩:=h;cases e;have hl:((l.drop i).take n).length=n:=by simp;omega
 refine⟨some ⟨g,off+i,none⟩,c,by rw[hl],by rw[hl];exact hc,fun hne=>?_⟩;obtain⟨g',off',e',hF,hg,hr⟩:=hr (by intro e;rw[e]at hne;simp at hne);cases e';refine⟨g,off+i,rfl,hF,hg,fun j u hu=>?_⟩;rw[Nat.add_assoc];refine hr (i+j) u ?_;rw[AE,List.getElem?_take]at hu;split at hu
 ·rw[AE,←List.getElem?_drop];exact hu
 ·cases hu
theorem Dz (w:World) (n B:Nat):Below B w (w.drewN n):=⟨rfl,rfl,rfl,Nat.le_refl _,fun _ _=>rfl⟩
theorem BytesAt.drewN (h:BytesAt w F v l) (n:Nat):BytesAt (w.drewN n) F v l:=h.below (Dz w n _)
theorem BytesAt.here (h:BytesAt w F v l):BytesAt w (fun k=>k<w.heap.size) v l:=h.mono' (fun _ hk _=>hk)
theorem Dp (w:World) (F:Nat→Prop) (a:Option Addr) (c:Nat):BytesAt w F (.slice a 0 c) []:=⟨a,c,rfl,Nat.zero_le _,fun h=>absurd rfl h⟩
theorem BytesAt.addr {a:Option Addr}{cap:Nat} (h:BytesAt w F (.slice a n cap) l) (hl:l≠[]):∃g off,a=some ⟨g,off,none⟩:=by obtain⟨a',c',e,_,hr⟩:=h;cases e;obtain⟨g,off,e,_⟩:=hr hl;exact⟨g,off,e⟩
theorem BytesAt.len {a:Option Addr}{cap:Nat} (h:BytesAt w F (.slice a n cap) l):n=l.length∧n≤cap:=by obtain⟨a',c',e,hc,_⟩:=h;cases e;exact⟨rfl,hc⟩
def A5 (l:List UInt8) (i:Nat) (c:List UInt8):List UInt8:=l.take i++c++l.drop (i+c.length)
theorem EC (l:List UInt8) (i:Nat) (c:List UInt8) (h:i+c.length≤l.length):(A5 l i c).length=l.length:=by simp[A5];omega
theorem NS (g:Nat) (cs:Array Value) (h:F g):Chg F w (w.setRow g cs):=⟨rfl,rfl,rfl,by simp[World.setRow],fun k _ hf=>setRow_other w g k cs (fun e=>hf (e▸h))⟩
theorem Ny:(Tryz.prog.info? 5).map (·.size)=some 1:=by kernel_rfl
theorem Eb {rest:List Oper} (hgd:o.guard=none) (d s:Operand)
 (ho:o.op=.call {callee:=.builtin .copy,args:=#[d,s],argTypes:=#[30,30]}) {g off dLen dCap:Nat} {cur:List UInt8} {T:TypeId} {sv:Value} {F:Nat→Prop} {l:List UInt8}
 (hd:a.eval d=.slice (some ⟨g,off,none⟩) dLen dCap) (hs:a.eval s=sv) (hb:BytesAt w F sv l) (hg:w.heap[g]?=some (.cells (bvs cur).toArray T (0,0))) (hfit:off+min l.length dLen≤cur.length)
 (h:∀w',w'.heap[g]?=some (.cells (bvs (A5 cur off (l.take dLen))).toArray T (0,0))→Chg (fun k=>k=g) w w'→wpList Tryz.prog ops Q rest (a.put o.dst (.int .i64 ((l.take dLen).length:Int))) w'):
 wpList Tryz.prog ops Q (o::rest) a w:=by
 obtain⟨sa,sc,rfl,hsc,hr⟩:=hb;have hl:(bvs (l.take dLen)).length=Nat.min l.length dLen:=by simp[Nat.min_comm]
 by_cases h0:l.take dLen=[]
 ·have hz:Nat.min l.length dLen=0:=by rw[←hl,h0];rfl
  refine wpList_copy_nothing hgd d s 30 30 ho 5 Tryz.underlying30 Ny _ _ dLen dCap l.length sc hd hs hz ?_;have h2:=h w (by rw[h0];simpa[A5]using hg) (Chg.refl _ _);rw[h0]at h2;exact h2
 ·have hne:l≠[]:=fun e=>h0 (by rw[e];simp)
  obtain⟨g2,off2,rfl,_,_,hr⟩:=hr hne;refine wpList_copy_own hgd d s 30 30 ho 5 Tryz.underlying30 Ny g off dLen dCap ⟨g2,off2,none⟩ l.length sc hd hs (bvs cur).toArray T hg (bvs (l.take dLen)) hl ?_ ?_ Bc ?_
  ·intro j v hv;have hadd:(⟨g2,off2,none⟩:Addr).add j=⟨g2,off2+j,none⟩:=by unfold Addr.add;split <;>simp_all
   rw[hadd];refine hr j v ?_;rw[AE,List.getElem?_take]at hv;split at hv
   ·rw[AE];exact hv
   ·cases hv
  ·rw[hl,List.size_toArray,Ap];exact hfit
  ·have ea:((bvs cur).toArray.toList.take off++(bvs (l.take dLen)++(bvs cur).toArray.toList.drop (off+(bvs (l.take dLen)).length))).toArray=(bvs (A5 cur off (l.take dLen))).toArray:=by rw[Ap];simp[bvs,A5,List.map_take,List.map_drop]
   have h2:=h (w.setRow g (bvs (A5 cur off (l.take dLen))).toArray) (setRow_heap _ _ _ _ _ _ hg) (NS g _ rfl);rw[ea,Ap];exact h2
variable {K:Act→World→Prop}
structure ElemTy (P:Program) (sT T:TypeId) (α:Type) where
 enc:α→List Value
 k:Nat
 hu:P.underlying sT=some (.slice T)
 hi:∃z bytes,(P.info? T).map (fun i=>(i.zero,i.size,i.bytes))=some (some z,k,bytes)∧z.cells.size=k∧bytes≤100000
 hk:0<k
 len:∀x,(enc x).length=k
 one:∀x,∀v∈enc x,v.oneCell'=true
section
variable {P:Program} {sT T:TypeId} {α:Type} (E:ElemTy P sT T α) {w w':World} {B:Nat} {v:Value} {L M:List α}
theorem IH (L:List α):(L.flatMap E.enc).length=L.length*E.k:=by
 induction L with
 |nil=>simp
 |cons x L ih=>rw[List.flatMap_cons,List.length_append,ih,E.len,List.length_cons,Nat.add_mul,Nat.one_mul,Nat.add_comm]
theorem Lz {L:List α} (hi:i<L.length) {j:Nat} (hj:j<E.k):(L.flatMap E.enc)[i*E.k+j]?=(E.enc L[i])[j]?:=by
 induction L generalizing i with
 |nil=>simp at hi
 |cons x L ih=>
  rw[List.flatMap_cons];cases i with
  |zero=>
   rw[Nat.zero_mul,Nat.zero_add,List.getElem?_append_left (by rw[E.len];exact hj)];rfl
  |succ i=>
   have e:(i+1)*E.k+j=E.k+(i*E.k+j):=by rw[Nat.add_mul,Nat.one_mul];omega
   rw[e,List.getElem?_append_right (by rw[E.len];omega),E.len,Nat.add_sub_cancel_left];exact ih (by simpa using hi)
theorem Qg (L:List α):∀v∈L.flatMap E.enc,v.oneCell'=true:=by intro v hv;obtain⟨x,_,hx⟩:=List.mem_flatMap.1 hv;exact E.one x v hx
def OwnL (w:World) (B:Nat) (v:Value) (L:List α):Prop:=w.ownsRow B T E.k v L.length (L.flatMap E.enc)
structure ListAt (w:World) (v:Value) (L:List α):Prop where
 ex:∃a cap,v=.slice a L.length cap∧L.length≤cap∧cap≤maxLen∧(a=none→cap=0)∧(L≠[]→∃g off,a=some ⟨g,off,none⟩∧g<w.heap.size∧∀i (h:i<L.length),w.rangeAt g (off+i*E.k) (E.enc L[i]))
variable {E}
theorem OwnL.form (h:OwnL E w B v L):∃a cap,v=.slice a L.length cap:=Ag h
theorem OwnL.below (h:OwnL E w B v L) (hb:Below w.heap.size w w'):OwnL E w' B v L:=An h hb
theorem OwnL.base (h:OwnL E w B v L) {B':Nat} (hB:B'≤B):OwnL E w B' v L:=Am h hB
theorem OwnL.chg (h:OwnL E w B v L) (hc:Chg F w w') (hd:∀k,v.ownBlock=some k→¬F k):OwnL E w' B v L:=AJ h hc hd
theorem OwnL.lt (h:OwnL E w B v L) {k:Nat} (hk:v.ownBlock=some k):B≤k∧k<w.heap.size:=Ab h k hk
theorem LA (E:ElemTy P sT T α) (w:World) (B:Nat):OwnL E w B (.slice none 0 0) []:=⟨by simp,.inl ⟨rfl,rfl⟩⟩
theorem ListAt.form (h:ListAt E w v L):∃a cap,v=.slice a L.length cap:=by obtain⟨a,c,e,_⟩:=h.ex;exact⟨a,c,e⟩
theorem ListAt.len {a:Option Addr}{c:Nat} (h:ListAt E w (.slice a n c) L):n=L.length∧n≤c∧c≤maxLen∧(a=none→c=0):=by obtain⟨a',c',e,h1,h2,h3,_⟩:=h.ex;cases e;exact⟨rfl,h1,h2,h3⟩
theorem OwnL.at_ (h:OwnL E w B v L):ListAt E w v L:=by
 obtain⟨a,cap,rfl⟩:=h.form;have hh:w.ownsRow B T E.k (.slice a L.length cap) L.length (L.flatMap E.enc):=h;rcases hh.2 with⟨e,h0⟩| ⟨g,cap',cur,e,_,hg,hc,hm,hs,ht⟩
 ·simp only[Value.slice.injEq]at e;obtain⟨rfl,_,rfl⟩:=e;exact⟨none,0,rfl,by omega,Nat.zero_le _,fun _=>rfl,fun hne=>absurd (List.eq_nil_of_length_eq_zero h0) hne⟩
 ·simp only[Value.slice.injEq]at e;obtain⟨rfl,_,rfl⟩:=e;refine⟨_,cap,rfl,hc,hm,(fun e=>by cases e),fun _=>⟨g,0,rfl,(Ax hg).1,fun i hi j u hu=>?_⟩⟩;have hj:j<E.k:=by have:=(List.getElem?_eq_some_iff.1 hu).1;rw[E.len]at this;exact this
  rw[cell_of_row w g _ cur _ _ hg,Nat.zero_add];have h2:=Lz E hi hj;have hlt:i*E.k+j<L.length*E.k:=by
   calc i*E.k+j<i*E.k+E.k:=by omega
    _=(i+1)*E.k:=by rw[Nat.add_mul,Nat.one_mul]
    _≤L.length*E.k:=Nat.mul_le_mul_right _ hi
  rw[←ht,List.getElem?_take,Ip hlt,hu]at h2;simpa using h2
theorem ListAt.below (h:ListAt E w v L) (hb:Below w.heap.size w w'):ListAt E w' v L:=by obtain⟨a,c,e,h1,h2,h3,h4⟩:=h.ex;refine⟨a,c,e,h1,h2,h3,fun hne=>?_⟩;obtain⟨g,off,e,hg,hr⟩:=h4 hne;exact⟨g,off,e,Nl hg hb.size,fun i hi j u hu=>(hb.cell (p:=⟨g,off+i*E.k+j,none⟩) hg).trans (hr i hi j u hu)⟩
theorem ListAt.get {a:Option Addr}{c:Nat} (h:ListAt E w (.slice a n c) L) {i:Nat} (hi:i<L.length):∃g off,a=some ⟨g,off,none⟩∧g<w.heap.size∧w.rangeAt g (off+i*E.k) (E.enc L[i]):=by obtain⟨a',c',e,_,_,_,h4⟩:=h.ex;cases e;obtain⟨g,off,e,hg,hr⟩:=h4 (fun e=>by rw[e]at hi;simp at hi);exact⟨g,off,e,hg,hr i hi⟩
theorem ListAt.take {a:Option Addr}{c:Nat} (h:ListAt E w (.slice a n c) L) (hk:k≤n):ListAt E w (.slice a k c) (L.take k):=by
 obtain⟨a',c',e,h1,h2,h3,h4⟩:=h.ex;cases e;have hl:(L.take k).length=k:=by rw[List.length_take];omega
 refine⟨a,c,by rw[hl],by omega,h2,h3,fun hne=>?_⟩;obtain⟨g,off,e,hg,hr⟩:=h4 (fun e=>hne (by rw[e,List.take_nil]));refine⟨g,off,e,hg,fun i hi=>?_⟩;rw[hl]at hi;rw[List.getElem_take];exact hr i (by omega)
theorem ListAt.drop {off c:Nat} (h:ListAt E w (.slice (some ⟨g,off,none⟩) n c) L) (hk:k≤n):ListAt E w (.slice (some ⟨g,off+k*E.k,none⟩) (n-k) (c-k)) (L.drop k):=by obtain⟨a',c',e,h1,h2,h3,h4⟩:=h.ex;cases e;refine⟨_,_,by rw[List.length_drop],by rw[List.length_drop];omega,by omega,(fun e=>by cases e),fun hne=>?_⟩;obtain⟨g',off',e,hg,hr⟩:=h4 (fun e=>hne (by rw[e,List.drop_nil]));cases e;refine⟨g,_,rfl,hg,fun i hi=>?_⟩;rw[List.length_drop]at hi;rw[List.getElem_drop];have:=hr (k+i) (by omega);rwa [Nat.add_mul,←Nat.add_assoc]at this
theorem Qh (E:ElemTy P sT T α) {ty:TypeId} {xv:Value} (hown:OwnL E w B v L) (hM:ListAt E w xv M) (hn:L.length+M.length<1000000000) (hB:B≤w.heap.size):
 ∃a' cap' w',(Builtin.append_ #[sT,sT] ty #[v,xv]).run P w=.ok (.slice a' (L.length+M.length) cap') w'∧OwnL E w' B (.slice a' (L.length+M.length) cap') (L++M)∧w.grownBy w' v.ownBlock∧
  (∀k,(Value.slice a' (L.length+M.length) cap').ownBlock=some k→v.ownBlock=some k∨w.heap.size≤k):=by
 obtain⟨z,bytes,hinfo,hz,hb⟩:=E.hi;obtain⟨i0,hi,hz0,hz1,hz2⟩:=info_parts hinfo;obtain⟨a,c,rfl,h1,h2,h3,h4⟩:=hM.ex;cases a with
 |none=>
  obtain rfl :=h3 rfl;have hM0:M.length=0:=by omega
  have hM1:M=[]:=List.eq_nil_of_length_eq_zero hM0;subst hM1;obtain⟨va,vc,rfl⟩:=hown.form;have hrun:=run_append_owned_none (P:=P) (w:=w) B sT ty T i0 E.k E.hu hi _ L.length _ hown;exact⟨va,vc,w,by simpa using hrun,by simpa using hown,⟨rfl,rfl,rfl,Nat.le_refl _,fun _ _ _=>rfl⟩,fun k hk=>.inl (by simpa using hk)⟩
 |some ad=>
  have A7:∀j u,(M.flatMap E.enc)[j]?=some u→w.cell? (ad.add j)=some u:=by
   intro j u hj;have hjl:j<M.length*E.k:=by have:=(List.getElem?_eq_some_iff.1 hj).1;rw[IH]at this;exact this
   have hk:=E.hk;have hne:M≠[]:=fun e=>by rw[e]at hjl;simp at hjl
   obtain⟨g,off,e,hg,hr⟩:=h4 hne;cases e;rw[Addr.add_mid];have hi:j/E.k<M.length:=Nat.div_lt_of_lt_mul (by rw[Nat.mul_comm];exact hjl);have hjj:j%E.k<E.k:=Nat.mod_lt _ hk;have hdm:j/E.k*E.k+j%E.k=j:=by rw[Nat.mul_comm];exact Nat.div_add_mod j E.k
   have h5:=Lz E hi hjj;rw[hdm,hj]at h5;have h6:=hr (j/E.k) hi (j%E.k) u h5.symm;rwa [Nat.add_assoc,hdm]at h6
  have hbb:(L.length+M.length)*bytes≤140737488355328:=Nt (Nat.mul_le_mul (show _≤1000000000 by omega) hb) (by decide);obtain⟨v1,w1,hrun,hown',hg1,_,h5⟩:=run_append_own_at (P:=P) w B sT ty T i0 z E.k bytes E.hu hi hz0 hz1 hz2 hz E.hk v L.length _ hown ad M.length c (M.flatMap E.enc) (IH E M) A7 (Qg E M) (by unfold maxLen;omega) hbb hB;have hblk:∀k,v1.ownBlock=some k→v.ownBlock=some k∨w.heap.size≤k:=by
   intro k hk;rcases h5 with h5|h5
   ·exact .inl (h5▸hk)
   ·rw[h5]at hk;cases hk;exact .inr Lr
  obtain⟨a',cap',rfl⟩:=Ag hown';refine⟨a',cap',w1,hrun,?_,hg1,hblk⟩;show w1.ownsRow B T E.k _ (L++M).length ((L++M).flatMap E.enc);rw[List.length_append,List.flatMap_append];exact hown'
theorem OwnL.grown_below (h:OwnL E w B v L) (hg:w.grownBy w' v.ownBlock) (hB:B≤w.heap.size):Below B w w':=Rq.grown hg hB (fun j hj=>(h.lt hj).1)
theorem Rs (E:ElemTy P sT T α) (s x:Operand) (ho:o.op=.call {callee:=.builtin .append,args:=#[s,x],argTypes:=#[sT,sT]})
 {xv:Value} (hs:a.eval s=v) (hown:OwnL E w B v L) (hx:a.eval x=xv) (hM:ListAt E w xv M) {n m:Nat} (hL:L.length=n) (hm:M.length=m) (hn:n+m<1000000000) (hB:B≤w.heap.size)
 (h:∀a' cap' w',OwnL E w' B (.slice a' (n+m) cap') (L++M)→w.grownBy w' v.ownBlock→(∀k,(Value.slice a' (n+m) cap').ownBlock=some k→v.ownBlock=some k∨w.heap.size≤k)→K (a.put o.dst (.slice a' (n+m) cap')) w'):o.wp P a w K Q:=by
 subst hL hm;obtain⟨a',cap',w',hrun,h1,h2,h3⟩:=Qh E (ty:=o.type) hown hM hn hB;unfold Oper.wp execOp;simp only[ho,resolve,invoke,builtin,Sem.run_bind,Sem.run_pure,Result.andThen_ok,List.map_toArray,List.map_cons,List.map_nil,hs,hx,hrun];exact h a' cap' w' h1 h2 h3
theorem MK {rest:List Oper} (E:ElemTy P sT T α) (hgd:o.guard=none) (s x:Operand) (ho:o.op=.call {callee:=.builtin .append,args:=#[s,x],argTypes:=#[sT,sT]})
 {xv:Value} (hs:a.eval s=v) (hown:OwnL E w B v L) (hx:a.eval x=xv) (hM:ListAt E w xv M) {n m:Nat} (hL:L.length=n) (hm:M.length=m) (hn:n+m<1000000000) (hB:B≤w.heap.size)
 (h:∀a' cap' w',OwnL E w' B (.slice a' (n+m) cap') (L++M)→w.grownBy w' v.ownBlock→(∀k,(Value.slice a' (n+m) cap').ownBlock=some k→v.ownBlock=some k∨w.heap.size≤k)→wpList P ops Q rest (a.put o.dst (.slice a' (n+m) cap')) w'):wpList P ops Q (o::rest) a w:=
 wpList_plain hgd fun _ hK=>Rs E s x ho hs hown hx hM hL hm hn hB fun a' cap' w' h1 h2 h3=>hK _ _ (h a' cap' w' h1 h2 h3)
end
variable {P:Program}
section
variable {P:Program} {sT T:TypeId} {α:Type} (E:ElemTy P sT T α)
end
section
variable {P:Program} {sT T:TypeId} {α:Type} {ops:Array Oper} {rest:List Oper} {o:Oper} {a:Act} {w:World} {Q:Exit→Act→World→Prop}
theorem ML (hgd:o.guard=none) (hdst:o.dst=none) (ty:TypeId) (x y:Operand) (ho:o.op=.store ty x y)
 (g:Nat) (cells:Array Value) (hx:a.eval x=.pointer (some ⟨g,0,none⟩)) (hy:a.eval y=.agg cells)
 (t:TypeId) (old:Array Value) (hg:w.heap[g]?=some (.cells old t (0,0))) (hi:(P.info? ty).map (·.size)=some cells.size)
 (hold:old.size=cells.size) (h1:cells.all (·.oneCell')=true)
 (h:∀w',w'.heap[g]?=some (.cells cells t (0,0))→Chg (fun k=>k=g) w w'→w'.heap.size=w.heap.size→wpList P ops Q rest a w'):wpList P ops Q (o::rest) a w:=by
 refine wpList_store_row hgd ty x y ho g cells hx hy t old hg hi hold h1 ?_;rw[hdst];exact h _ (setRow_heap _ _ _ _ _ _ hg) ⟨rfl,rfl,rfl,by simp[World.setRow],fun k _ hk=>setRow_other _ _ _ _ hk⟩ (by simp[World.setRow])
end
def Stop (p:Prop):Prop:=p
theorem Stop.on {p:Prop} (h:Stop p):p:=h
theorem Stop.go {p:Prop} (h:p):Stop p:=h
theorem CC {id:Nat}{b:Bool} (T:Act→Act→World→Prop)
 (h1:(Code.region id ops b).wp P (fun e a' w'=>e=.normal∧T a a' w') a w) (h2:∀a' w',T a a' w'→Q .normal a' w'):(Code.region id ops b).wp P Q a w:=
 Code.wp_mono (fun e a' w' h=>by obtain⟨rfl,h⟩:=h;exact h2 _ _ h) h1
theorem Rt (s e:TypeId) (y:Operand) (ho:o.op=.buildSlice s 1 #[(0,y)])
 (c:Array Value) (hy:a.eval y=.agg c)
 (hu:P.underlying s=some (.slice e)) (hsz:(P.info? e).map (·.size)=some c.size) (hz:((P.info? e).bind (·.zero)).isSome=true) (hpos:0<c.size) (hsmall:c.size≤2^24)
 (h:K (a.put o.dst (.slice (some ⟨w.heap.size,0,none⟩) 1 1)) (w.alloc (.cells c e))):o.wp P a w K Q:=by
 cases hie:P.info? e with
 |none=>simp[hie]at hsz
 |some ie=>
  simp only[hie,Option.map_some,Option.some.injEq,Option.bind_some]at hsz hz;obtain⟨z,hzz⟩:=Option.isSome_iff_exists.1 hz;have hf:=Great.fill_whole (s:=ie.size) (by rw[hsz];exact hpos) [.agg c] ((Array.range (1*ie.size)).map (z.cells[·%z.cells.size]!)) (by intro v hv;simp only[List.mem_singleton]at hv;subst hv;exact hsz.symm) (by simp)
  refine wp_buildSlice s e 1 _ ho c ie z hu hie hzz (by omega) (by omega) ?_ h;rw[show(Array.map (fun x:Nat×Operand=>match x with| (i,x)=>(i,a.eval x)) #[(0,y)]).toList=[(0,Value.agg c)]from by simp[hy]];simpa[Value.cells]using hf
variable {P:Program} {ops:Array Oper} {rest:List Oper} {o:Oper} {a:Act} {w:World} {K:Act→World→Prop} {Q:Exit→Act→World→Prop}
theorem Jk {cs:Array Value}{ty:TypeId} (hg:w.heap[g]?=some (.cells cs T (0,0))) (hi:i<cs.size) (hv:v.oneCell'=true) (hsz:(P.info? ty).map (·.size)=some 1):(Instr.storeAt ty (.pointer (some ⟨g,i,none⟩)) v).run P w=.ok () (w.setCell ⟨g,i,none⟩ v):=by
 have hc:w.cell? ⟨g,i,none⟩=some cs[i]:=by rw[cr hg,Array.getElem?_eq_getElem hi]
 have hf:=frozen_of_row w g i cs T hg;cases hq:P.info? ty with
 |none=>simp[hq]at hsz
 |some t=>
  simp only[hq,Option.map_some,Option.some.injEq]at hsz;cases v<;>simp_all [Value.oneCell',Instr.storeAt,Instr.sureAddr,storeVar,sizeOf,typeInfo,program,store,storeCells,Sem.run,Value.cells,Addr.add]
theorem Az {rest:List Oper} (hgd:o.guard=none) (hdst:o.dst=none) (ty:TypeId) (x y:Operand) (ho:o.op=.store ty x y)
 (g i:Nat) (v:Value) (hx:a.eval x=.pointer (some ⟨g,i,none⟩)) (hy:a.eval y=v) {T:TypeId} {cs:Array Value} (hg:w.heap[g]?=some (.cells cs T (0,0))) (hi:i<cs.size) (hv:v.oneCell'=true) (hsz:(P.info? ty).map (·.size)=some 1)
 (h:∀w',w'.heap[g]?=some (.cells (cs.setIfInBounds i v) T (0,0))→Chg (fun k=>k=g) w w'→w'.heap.size=w.heap.size→wpList P ops Q rest a w'):wpList P ops Q (o::rest) a w:=by
 refine wpList_plain hgd fun K hK=>?_
 unfold Oper.wp execOp;simp only[ho,hx,hy,Sem.run_bind,Jk hg hi hv hsz,Result.andThen_ok,Sem.run_pure,Oper.upon_skip,hdst];exact hK _ _ (h _ (Sc _ _ _ _ _ _ hg) (Chg.setCell _ _ rfl) (by simp[World.setCell]))
theorem FB (hdst:o.dst=none) (ty:TypeId) (x y:Operand) (ho:o.op=.store ty x y)
 (g i:Nat) (v:Value) (hx:a.eval x=.pointer (some ⟨g,i,none⟩)) (hy:a.eval y=v) {T:TypeId} {cs:Array Value} (hg:w.heap[g]?=some (.cells cs T (0,0))) (hi:i<cs.size) (hv:v.oneCell'=true) (hsz:(P.info? ty).map (·.size)=some 1)
 (h:∀w',w'.heap[g]?=some (.cells (cs.setIfInBounds i v) T (0,0))→Chg (fun k=>k=g) w w'→w'.heap.size=w.heap.size→K a w'):o.wp P a w K Q:=by
 unfold Oper.wp execOp;simp only[ho,hx,hy,Sem.run_bind,Jk hg hi hv hsz,Result.andThen_ok,Sem.run_pure,Oper.upon_skip,hdst];exact h _ (Sc _ _ _ _ _ _ hg) (Chg.setCell _ _ rfl) (by simp[World.setCell])
theorem Nz (dst:Option Tmp) (hdst:o.dst=dst) (t:TypeId) (ho:o.op=.alloc t) (zs:Array Value) (sz:Nat) (hi:(P.info? t).map (fun i=>(i.zero,i.size))=some (some (.agg zs),sz))
 (h:∀w',w'.heap[w.heap.size]?=some (.cells zs t (0,0))→Below w.heap.size w w'→w'.heap.size=w.heap.size+1→K (a.put dst (.pointer (some ⟨w.heap.size,0,none⟩))) w'):o.wp P a w K Q:=by
 have hrun:(execOp a.eval o).run P w=.ok (.value (.pointer (some ⟨w.heap.size,0,none⟩))) (w.alloc (.cells zs t)):=by
  cases hq:P.info? t with
  |none=>simp[hq]at hi
  |some i=>
   simp only[hq,Option.map_some,Option.some.injEq,Prod.mk.injEq]at hi;unfold execOp;simp[ho,Instr.alloc,zeroValue,typeInfo,hq,hi.1,newVar,newRow,newObj,go_sem,Value.cells];rfl
 unfold Oper.wp;rw[hrun,Oper.upon_value,hdst];exact h _ (Hn) (Rq.alloc Lr _) (by simp)
theorem Ru (hdst:o.dst=none) (ty:TypeId) (x y:Operand) (ho:o.op=.store ty x y)
 (g:Nat) (cells:Array Value) (hx:a.eval x=.pointer (some ⟨g,0,none⟩)) (hy:a.eval y=.agg cells)
 (t:TypeId) (old:Array Value) (hg:w.heap[g]?=some (.cells old t (0,0))) (hi:(P.info? ty).map (·.size)=some cells.size)
 (hold:old.size=cells.size) (h1:cells.all (·.oneCell')=true)
 (h:∀w',w'.heap[g]?=some (.cells cells t (0,0))→Chg (fun k=>k=g) w w'→w'.heap.size=w.heap.size→K a w'):o.wp P a w K Q:=by
 refine wp_store_row ty x y ho g cells hx hy t old hg hi hold h1 ?_;rw[hdst];exact h _ (setRow_heap _ _ _ _ _ _ hg) ⟨rfl,rfl,rfl,by simp[World.setRow],fun k _ hk=>setRow_other _ _ _ _ hk⟩ (by simp[World.setRow])
theorem Pv {cells old:Array Value}{t:TypeId} (ty:TypeId) (x y:Tmp) (g:Nat) (hg:w.heap[g]?=some (.cells old t (0,0)))
 (h:∀w',w'.heap[g]?=some (.cells cells t (0,0))→Chg (fun k=>k=g) w w'→w'.heap.size=w.heap.size→K a w') (hdst:o.dst=none:=by rfl) (ho:o.op=.store ty (.tmp x) (.tmp y):=by rfl) (hx:a.eval (.tmp x)=.pointer (some ⟨g,0,none⟩):=by rfl) (hy:a.eval (.tmp y)=.agg cells:=by rfl)
 (hi:(P.info? ty).map (·.size)=some cells.size:=by kernel_rfl) (hold:old.size=cells.size:=by rfl) (h1:cells.all (·.oneCell')=true:=by kernel_rfl):o.wp P a w K Q:=
 Ru hdst ty (.tmp x) (.tmp y) ho g cells hx hy t old hg hi hold h1 h
theorem Pl {rest:List Oper}{cells old:Array Value}{t:TypeId} (ty:TypeId) (x y:Tmp) (g:Nat) (hg:w.heap[g]?=some (.cells old t (0,0)))
 (h:∀w',w'.heap[g]?=some (.cells cells t (0,0))→Chg (fun k=>k=g) w w'→w'.heap.size=w.heap.size→wpList P ops Q rest a w') (hgd:o.guard=none:=by rfl) (hdst:o.dst=none:=by rfl) (ho:o.op=.store ty (.tmp x) (.tmp y):=by rfl) (hx:a.eval (.tmp x)=.pointer (some ⟨g,0,none⟩):=by rfl) (hy:a.eval (.tmp y)=.agg cells:=by rfl)
 (hi:(P.info? ty).map (·.size)=some cells.size:=by kernel_rfl) (hold:old.size=cells.size:=by rfl) (h1:cells.all (·.oneCell')=true:=by kernel_rfl):wpList P ops Q (o::rest) a w:=
 ML hgd hdst ty (.tmp x) (.tmp y) ho g cells hx hy t old hg hi hold h1 h
variable {G:Nat→Prop}{b m:Nat}
def zeros:List UInt8:=List.replicate 256 0
theorem AW:zeros.length=256:=List.length_replicate
structure DS where
 dur:List (List UInt8)
 pend:List (Nat×List UInt8)
 ops:Nat
 limit:Option Nat
 down:Bool
structure DS.ok (S:DS):Prop where
 dur:∀x∈S.dur,x.length=256
 pend:∀x∈S.pend,x.1<S.dur.length∧x.2.length=256
 most:S.dur.length≤4096
def AC (x:Nat×List UInt8):List Value:=.int .i64 (x.1:Int)::bvs x.2
def Dv (l:List (Nat×List UInt8)):List Value:=l.flatMap AC
def Cr (S:DS) (m:Nat) (pv:Value):Array Value:=
 #[.int .i64 (S.dur.length:Int),.map (some m),pv,.int .i64 (S.ops:Int),.bool S.limit.isSome,.int .i64 ((S.limit.getD 0:Nat):Int),.bool S.down]
structure DiskX (w:World) (F:Nat→Prop) (b m:Nat) (pv:Value) (S:DS):Prop where
 fb:F b
 fm:F m
 fp:∀g,pv.ownBlock=some g→F g
 hb:w.heap[b]?=some (.cells (Cr S m pv) 78 (0,0))
 hm:MapIs w m S.dur.length zeros (fun i=>S.dur.getD i zeros)
 hp:w.ownsRow 0 80 257 pv S.pend.length (Dv S.pend)
structure DiskAt (w:World) (F:Nat→Prop) (b:Nat) (S:DS):Prop where
 ok:S.ok
 ex:∃m pv,DiskX w F b m pv S
section
variable {w w':World} {F:Nat→Prop} {b m:Nat} {pv:Value} {S S':DS}
theorem DiskX.lt (h:DiskX w F b m pv S):b<w.heap.size:=(Ax h.hb).1
theorem DiskX.mb (h:DiskX w F b m pv S):m≠b:=by intro e;obtain⟨es,clock,L,hm,_⟩:=h.hm.ex;rw[e,h.hb]at hm;cases hm
theorem DiskX.pb (h:DiskX w F b m pv S):pv.ownBlock≠some b:=by
 intro e;rcases h.hp.2 with⟨rfl,_⟩| ⟨g,cap,cur,rfl,_,hg,_⟩
 ·cases e
 ·simp[Value.ownBlock]at e;rw[e,h.hb]at hg;simp at hg
theorem DiskX.pm (h:DiskX w F b m pv S):pv.ownBlock≠some m:=by
 intro e;obtain⟨es,clock,L,hm,_⟩:=h.hm.ex;rcases h.hp.2 with⟨rfl,_⟩| ⟨g,cap,cur,rfl,_,hg,_⟩
 ·cases e
 ·simp[Value.ownBlock]at e;rw[e,hm]at hg;cases hg
theorem DiskX.step (h:DiskX w F b m pv S) (hg:w.grownBy w' (some b)) (hdur:S'.dur=S.dur) (hpend:S'.pend=S.pend)
 (hb:w'.heap[b]?=some (.cells (Cr S' m pv) 78 (0,0))):DiskX w' F b m pv S':=
 ⟨h.fb,h.fm,h.fp,hb,by rw[hdur];exact h.hm.kept (hg.block m h.hm.lt (by simp[h.mb])),by rw[hpend];exact h.hp.kept hg (.inr h.pb)⟩
theorem DiskX.chg (h:DiskX w F b m pv S) (hc:Chg G w w') (hd:∀k,F k→¬G k):DiskX w' F b m pv S:=by
 refine⟨h.fb,h.fm,h.fp,(hc.block b h.lt (hd b h.fb)).trans h.hb,h.hm.kept (hc.block m h.hm.lt (hd m h.fm)),?_⟩;refine⟨h.hp.1,?_⟩;rcases h.hp.2 with hn| ⟨g,cap,cur,rfl,hbg,hg,rest⟩
 ·exact .inl hn
 ·exact .inr ⟨g,cap,cur,rfl,hbg,(hc.block g (Ax hg).1 (hd g (h.fp g rfl))).trans hg,rest⟩
theorem DiskAt.chg (h:DiskAt w F b S) (hc:Chg G w w') (hd:∀k,F k→¬G k):DiskAt w' F b S:=by obtain⟨hok,m,pv,hx⟩:=h;exact⟨hok,m,pv,hx.chg hc hd⟩
theorem DiskAt.below (h:DiskAt w F b S) (hc:Below w.heap.size w w'):DiskAt w' F b S:=
 h.chg (G:=fun _=>False) (Cb hc) (fun _ _ h=>h)
theorem DiskAt.mono (h:DiskAt w F b S) (hFG:∀k,F k→G k):DiskAt w G b S:=by obtain⟨hok,m,pv,hx⟩:=h;exact⟨hok,m,pv,⟨hFG _ hx.fb,hFG _ hx.fm,fun g hg=>hFG _ (hx.fp g hg),hx.hb,hx.hm,hx.hp⟩⟩
theorem I1 {x0 x1 x2 x3 x4 x5 x6:Value} (h:w.heap[b]?=some (.cells #[x0,x1,x2,x3,x4,x5,x6] T (0,0))):
 w.cell? ⟨b,0,none⟩=some x0∧w.cell? ⟨b,1,none⟩=some x1∧w.cell? ⟨b,2,none⟩=some x2∧w.cell? ⟨b,3,none⟩=some x3∧w.cell? ⟨b,4,none⟩=some x4∧w.cell? ⟨b,5,none⟩=some x5∧
  w.cell? ⟨b,6,none⟩=some x6∧∀i,w.frozen? ⟨b,i,none⟩=false:=by
 simp[World.cell?,World.frozen?,h]
theorem DiskX.cells (h:DiskX w F b m pv S):
 w.cell? ⟨b,0,none⟩=some (.int .i64 (S.dur.length:Int))∧w.cell? ⟨b,1,none⟩=some (.map (some m))∧w.cell? ⟨b,2,none⟩=some pv∧w.cell? ⟨b,3,none⟩=some (.int .i64 (S.ops:Int))∧
  w.cell? ⟨b,4,none⟩=some (.bool S.limit.isSome)∧w.cell? ⟨b,5,none⟩=some (.int .i64 ((S.limit.getD 0:Nat):Int))∧
  w.cell? ⟨b,6,none⟩=some (.bool S.down)∧∀i,w.frozen? ⟨b,i,none⟩=false:=I1 h.hb
end
def DS.operate (S:DS):DS×Bool:=
 match S.limit with
 |some 0=>({S with down:=true},false)
 |some (k+1)=>({S with limit:=some k,ops:=S.ops+1},true)
 |none=>({S with ops:=S.ops+1},true)
def DS.has (S:DS) (s:Int):Bool:=decide (0≤s∧s<S.dur.length)
def A2 (n:Nat):DS:={dur:=List.replicate n zeros,pend:=[],ops:=0,limit:=none,down:=false}
theorem O6 (n:Int) (w:World) (h1:¬n<1) (h2:¬4096<n):
 Ca 14 #[.int .i64 n] w fun e w'=>e=.returned (.tuple #[.pointer (some ⟨w.heap.size+1,0,none⟩),.int .i64 0])∧
  w'=(w.alloc (.map #[] 0)).alloc (.cells #[.int .i64 n,.map (some w.heap.size),.slice none 0 0,.int .i64 0,.bool false,.int .i64 0,.bool false] 78):=by
 have hmm:=@run_makeMap Tryz.prog;go_enter Tryz.func14,Tryz.ntmps14;go_wp2;go_ret2;exact⟨rfl,rfl⟩
theorem Qi (n:Nat) (h2:n≤4096):(A2 n).ok:=
 ⟨fun x hx=>by rw[(List.mem_replicate.1 hx).2];exact AW,fun x hx=>by simp[A2]at hx,by simpa[A2]using h2⟩
theorem LB (n:Nat) (w:World) (h1:1≤n) (h2:n≤4096):
 Ca 14 #[.int .i64 n] w fun e w'=>e=.returned (.tuple #[.pointer (some ⟨w.heap.size+1,0,none⟩),.int .i64 0])∧
  DiskAt w' (fun k=>w.heap.size≤k) (w.heap.size+1) (A2 n)∧Below w.heap.size w w':=by
 refine(O6 n w (by omega) (by omega)).mono ?_;rintro e w' ⟨rfl,rfl⟩;refine⟨rfl,⟨Qi n h2,w.heap.size,.slice none 0 0,by simp,by simp,by simp[Value.ownBlock],?_,?_,World.ownsRow_nil _ _ _ _⟩,(Rq.alloc Lr _).alloc (by simp) _⟩
 ·rw[heap_alloc2_new];simp[Cr,A2]
 ·refine⟨#[],0,[],heap_alloc2_old _ _ _,⟨by simp,by simp⟩,by simp,?_,K4⟩;intro i hi;simp[A2]at hi;simp[A2,FV,List.getD,hi]
theorem II {S:DS} (h:DiskAt w F b S):
 Ca 71 #[.pointer (some ⟨b,0,none⟩)] w fun e w'=>e=.returned (.int .i64 (S.dur.length:Int))∧w=w':=by
 obtain⟨hok,m,pv,hx⟩:=h;obtain⟨c0,c1,c2,c3,c4,c5,c6,f⟩:=hx.cells;clear hx;go_enter Tryz.func71,Tryz.ntmps71;go_wp2;go_ret;exact⟨rfl,rfl⟩
theorem Kb {S:DS} (h:DiskAt w F b S):
 Ca 39 #[.pointer (some ⟨b,0,none⟩)] w fun e w'=>e=.returned (.int .i64 (S.ops:Int))∧w=w':=by
 obtain⟨hok,m,pv,hx⟩:=h;obtain⟨c0,c1,c2,c3,c4,c5,c6,f⟩:=hx.cells;clear hx;go_enter Tryz.func39,Tryz.ntmps39;go_wp2;go_ret;exact⟨rfl,rfl⟩
theorem LC {S:DS} (h:DiskAt w F b S):
 Ca 38 #[.pointer (some ⟨b,0,none⟩)] w fun e w'=>e=.returned (.bool S.down)∧w=w':=by
 obtain⟨hok,m,pv,hx⟩:=h;obtain⟨c0,c1,c2,c3,c4,c5,c6,f⟩:=hx.cells;clear hx;go_enter Tryz.func38,Tryz.ntmps38;go_wp2
 all_goals
  go_ret;exact⟨rfl,rfl⟩
theorem DL {S:DS} (s:Int) (h:DiskAt w F b S):
 Ca 33 #[.pointer (some ⟨b,0,none⟩),.int .i64 s] w fun e w'=>e=.returned (.bool (S.has s))∧w=w':=by
 obtain⟨hok,m,pv,hx⟩:=h;obtain⟨c0,c1,c2,c3,c4,c5,c6,f⟩:=hx.cells;clear hx;unfold DS.has;by_cases h1:0≤s
 ·by_cases h2:s<(S.dur.length:Int)
  ·go_enter Tryz.func33,Tryz.ntmps33;go_wp2;go_ret;exact⟨by simp[h1,h2],rfl⟩
  ·go_enter Tryz.func33,Tryz.ntmps33;go_wp2;go_ret;exact⟨by simp[h1,h2],rfl⟩
 ·have:decide (0≤s)=false:=by simpa using h1
  go_enter Tryz.func33,Tryz.ntmps33;go_wp2;go_ret;exact⟨by simp[h1],rfl⟩
theorem CR {S:DS}{pv:Value} (i:Nat) (v:Value) (h:w.heap[b]?=some (.cells (Cr S m pv) T (0,0))):
 (w.setCell ⟨b,i,none⟩ v).heap[b]?=some (.cells ((Cr S m pv).setIfInBounds i v) T (0,0)):=Sc w b i _ T v h
theorem EM {S:DS} (h:DiskAt w F b S) (hops:S.ops<1000000000000) (hlim:S.limit.getD 0≤9223372036854775807):
 Ca 83 #[.pointer (some ⟨b,0,none⟩)] w fun e w'=>e=.returned (.bool S.operate.2)∧DiskAt w' F b S.operate.1∧Chg F w w':=by
 obtain⟨hok,m,pv,hx⟩:=h;obtain⟨c0,c1,c2,c3,c4,c5,c6,f⟩:=hx.cells;have fb:=hx.fb;cases hl:S.limit with
 |none=>
  rw[hl]at c4 c5;simp only[Option.isSome_none,Option.getD_none]at c4 c5;obtain⟨HX,HL,HO⟩:=Hd3 hx hl hok;clear hx hl hok;go_enter Tryz.func83,Tryz.ntmps83;go_wp2;go_ret;have hx:=HX.out;have hl:=HL.out;refine⟨by simp[DS.operate,hl],⟨?_,m,pv,hx.step (AS w b 3 _) ?_ ?_ ?_⟩,Chg.setCell w _ fb⟩
  ·have:=HO.out;simp only[DS.operate,hl];exact⟨this.dur,this.pend,this.most⟩
  ·simp[DS.operate,hl]
  ·simp[DS.operate,hl]
  ·rw[CR 3 _ hx.hb];simp[Cr,DS.operate,hl]
 |some k=>
  rw[hl]at c4 c5;rw[hl]at hlim;simp only[Option.isSome_some,Option.getD_some]at c4 c5 hlim;obtain⟨HX,HL,HO⟩:=Hd3 hx hl hok;clear hx hl hok;cases k with
  |zero=>
   simp only[Int.natCast_zero,Int.cast_ofNat_Int]at c5;go_enter Tryz.func83,Tryz.ntmps83;go_wp2;go_ret;have hx:=HX.out;have hl:=HL.out;refine⟨by simp[DS.operate,hl],⟨?_,m,pv,hx.step (AS w b 6 _) ?_ ?_ ?_⟩,Chg.setCell w _ fb⟩
   ·have:=HO.out;simp only[DS.operate,hl];exact⟨this.dur,this.pend,this.most⟩
   ·simp[DS.operate,hl]
   ·simp[DS.operate,hl]
   ·rw[CR 6 _ hx.hb];simp[Cr,DS.operate,hl]
  |succ k=>
   obtain⟨x,hxe⟩:∃x:Int,x=((k+1:Nat):Int):=⟨_,rfl⟩;rw[←hxe]at c5;have hk0:(x==0)=false:=by simp;omega
   have hk1:1≤x:=by omega
   have hk2:x≤9223372036854775807:=by omega
   have HXE:=Hd hxe;clear hxe hlim;go_enter Tryz.func83,Tryz.ntmps83;go_wp2;go_ret;have hxe:=HXE.out;have hx:=HX.out;have hl:=HL.out;refine⟨by simp[DS.operate,hl],⟨?_,m,pv,hx.step (Bm (AS w b 5 _) (AS _ b 3 _)) ?_ ?_ ?_⟩,(Chg.setCell w _ fb).trans (Chg.setCell (F:=F) _ _ fb) (fun _ h=>.inl h)⟩
   ·have:=HO.out;simp only[DS.operate,hl];exact⟨this.dur,this.pend,this.most⟩
   ·simp[DS.operate,hl]
   ·simp[DS.operate,hl]
   ·rw[Sc _ b 3 _ _ _ (CR 5 _ hx.hb)];simp[Cr,DS.operate,hl];omega
variable {S:DS}
def R2 (first step:UInt8) (i:Nat):UInt8:=first +UInt8.ofNat i*step
def bytesOf (first step:UInt8):List UInt8:=(List.range 256).map (R2 first step)
theorem Rv:∀w,(Instr.makeSlice 30 (.int .i64 256) (.int .i64 256)).run Tryz.prog w=.ok (.slice (some ⟨w.heap.size,0,none⟩) 256 256) (w.alloc (.cells (bvs zeros).toArray 5)):=fun _=>by kernel_rfl
theorem Qj (h:DiskAt w F b S):
 Ca 24 #[.pointer (some ⟨b,0,none⟩)] w fun e w'=>e=.returned (.tuple #[])∧DiskAt w' F b {S with down:=true}∧Chg F w w':=by
 obtain⟨hok,m,pv,hx⟩:=h;obtain⟨c0,c1,c2,c3,c4,c5,c6,f⟩:=hx.cells;have fb:=hx.fb;have HX:=Hd hx;have HO:=Hd hok;clear hx hok;go_enter Tryz.func24,Tryz.ntmps24;go_wp2;go_end0;have hx:=HX.out;have hok:=HO.out;refine⟨rfl,⟨⟨hok.dur,hok.pend,hok.most⟩,m,pv,hx.step (AS w b 6 _) rfl rfl ?_⟩,Chg.setCell w _ fb⟩;rw[CR 6 _ hx.hb];simp[Cr]
def DS.setLimit (S:DS) (n:Int):DS:={S with limit:=if 0≤n then some n.toNat else none}
theorem LD (n:Int) (h:DiskAt w F b S):
 Ca 32 #[.pointer (some ⟨b,0,none⟩),.int .i64 n] w fun e w'=>e=.returned (.tuple #[])∧DiskAt w' F b (S.setLimit n)∧Chg F w w':=by
 obtain⟨hok,m,pv,hx⟩:=h;obtain⟨c0,c1,c2,c3,c4,c5,c6,f⟩:=hx.cells;have fb:=hx.fb;have HX:=Hd hx;have HO:=Hd hok;clear hx hok;by_cases hn:0≤n
 ·go_enter Tryz.func32,Tryz.ntmps32;go_wp2;go_end0;have hx:=HX.out;have hok:=HO.out;refine⟨rfl,⟨⟨hok.dur,hok.pend,hok.most⟩,m,pv,hx.step (Bm (AS w b 4 _) (AS _ b 5 _)) rfl rfl ?_⟩,(Chg.setCell w _ fb).trans (Chg.setCell (F:=F) _ _ fb) (fun _ h=>.inl h)⟩;rw[Sc _ b 5 _ _ _ (CR 4 _ hx.hb)];simp[Cr,DS.setLimit,hn];omega
 ·go_enter Tryz.func32,Tryz.ntmps32;go_wp2;go_end0;have hx:=HX.out;have hok:=HO.out;refine⟨rfl,⟨⟨hok.dur,hok.pend,hok.most⟩,m,pv,hx.step (Bm (AS w b 4 _) (AS _ b 5 _)) rfl rfl ?_⟩,(Chg.setCell w _ fb).trans (Chg.setCell (F:=F) _ _ fb) (fun _ h=>.inl h)⟩;have hn':¬0≤n:=by omega
  rw[Sc _ b 5 _ _ _ (CR 4 _ hx.hb)];simp[Cr,DS.setLimit,hn']
end Go.Proofs.YtplclpileejemaaGreatDoor
namespace Go.Proofs.YtplclpileejemaaGreatDoor
open Go.RowKit Go.Shelf
variable {n b:Nat}{P:Program}{w w':World}{ops:Array Oper}{o:Oper}{a:Act}{Q:Exit→Act→World→Prop}{S:DS}{l:List UInt8}{F:Nat→Prop}
attribute [local go_sem] Oper.semAt_some
theorem Hs {F:Fence}{rest:List Oper} 
 (hg:o.guard=none) (hab:∀f,o.about P w a.eval=some f→F.fn f) (hnd:∀c,o.op≠.defer c) {x:Next} {w':World} (hrun:(execOp a.eval o).run P w=.ok x w')
 (h:∀K:Act→World→Prop,(∀a w,wpListIn F n P ops Q rest a w→K a w)→o.uponIn F n P a K Q (.ok x w')):wpListIn F n P ops Q (o::rest) a w:=by
 refine wpListIn_plain hg fun K hK'=>?_
 unfold Oper.wpIn;refine⟨hab,?_⟩;rw[Oper.semAt_plain F _ _ hnd,hrun];exact h K hK'
theorem Fm {F:Fence}{rest:List Oper} 
 (hg:o.guard=none) (ty:TypeId) (x:Operand) (ho:o.op=.load ty x)
 (b off:Nat) (hx:a.eval x=.pointer (some ⟨b,off,none⟩)) (cs:List Value) (d:TypeDesc) (hc:w.rangeAt b off cs)
 (hu:P.underlying ty=some d) (hd:d.isRow=true) (hi:(P.info? ty).map (·.size)=some cs.length)
 (h:wpListIn F n P ops Q rest (a.put o.dst (.agg cs.toArray)) w):wpListIn F n P ops Q (o::rest) a w:=by
 refine Hs hg (by simp[Oper.about,ho]) (by rw[ho];intro c hc';cases hc') (x:=.value (.agg cs.toArray)) (w':=w) ?_ (fun K hK=>hK _ _ h);unfold execOp;simp only[ho,hx,Instr.loadAt,Instr.sureAddr,Sem.run_bind,Sem.run_pure,Result.andThen_ok,run_loadVar_mid w b off ty cs d hc hu hd hi]
theorem Bf {x:Nat×List UInt8} (h:x.2.length=256):(AC x).length=257:=by simp[AC,h]
theorem Rw {l:List (Nat×List UInt8)} (h:∀x∈l,x.2.length=256) {i:Nat} (hi:i<l.length) (j:Nat) (hj:j<257):(Dv l)[i*257+j]?=(AC l[i])[j]?:=by
 induction l generalizing i with
 |nil=>simp at hi
 |cons x l ih=>
  have hx:=Bf (h x (by simp));have hl:∀y∈l,y.2.length=256:=fun y hy=>h y (by simp[hy])
  simp only[Dv,List.flatMap_cons];cases i with
  |zero=>simp only[Nat.zero_mul,Nat.zero_add];rw[List.getElem?_append_left (by omega)];rfl
  |succ i=>
   rw[List.getElem?_append_right (by omega),hx];have:=ih hl (i:=i) (by simpa using hi);rw[show(i+1)*257+j-257=i*257+j by omega];exact this
def PendAt (w:World) (pv:Value) (l:List (Nat×List UInt8)):Prop:=
 (pv=.slice none 0 0∧l=[])∨∃g cap,pv=.slice (some ⟨g,0,none⟩) l.length cap∧g<w.heap.size∧∀i (h:i<l.length),w.rangeAt g (i*257) (AC l[i])
theorem DA {pv:Value}{l:List (Nat×List UInt8)} (hl:∀x∈l,x.2.length=256) (h:w.ownsRow 0 80 257 pv l.length (Dv l)):PendAt w pv l:=by
 rcases h.2 with⟨rfl,h0⟩| ⟨g,cap,cur,rfl,_,hg,_,_,hcs,ht⟩
 ·exact .inl ⟨rfl,List.eq_nil_of_length_eq_zero h0⟩
 ·refine .inr ⟨g,cap,rfl,(Ax hg).1,fun i hi j v hv=>?_⟩;have hj:j<257:=by rw[←Bf (hl _ (List.getElem_mem hi))];exact(List.getElem?_eq_some_iff.1 hv).1
  rw[cell_of_row w g _ cur _ _ hg,←Rw hl hi j hj,←ht,List.getElem?_take]at*;split at hv
  ·simpa using hv
  ·cases hv
theorem PendAt.below {pv:Value}{l:List (Nat×List UInt8)}{n₀:Nat} (h:PendAt w pv l) (hp:∀g,pv.ownBlock=some g→g<n₀) (hb:Below n₀ w w'):PendAt w' pv l:=by
 rcases h with h| ⟨g,cap,rfl,hg,hr⟩
 ·exact .inl h
 ·exact .inr ⟨g,cap,rfl,Nl hg hb.size,fun i hi j v hv=>(hb.cell (p:=⟨g,i*257+j,none⟩) (hp g rfl)).trans (hr i hi j v hv)⟩
abbrev PE:={x:Nat×Nat×List UInt8//x.2.2.length=256}
def Lp (x:PE):Array Value:=#[.int .i64 (x.1.1:Int),.agg (AC x.1.2).toArray]
def C2:(l:List (Nat×List UInt8))→(∀x∈l,x.2.length=256)→List PE
 |l,h=>(List.finRange l.length).map fun j=>⟨(l.length-1-j.1,l[l.length-1-j.1]'(by have:=j.2;omega)),h _ (List.getElem_mem _)⟩
theorem FJ (l:List (Nat×List UInt8)) (h):(C2 l h).length=l.length:=by simp[C2]
theorem LE (l:List (Nat×List UInt8)) (h) (k:Nat) (hk:k<l.length):
 (C2 l h)[k]?=some ⟨(l.length-1-k,l[l.length-1-k]'(by omega)),h _ (List.getElem_mem _)⟩:=by
 simp[C2,List.getElem?_map,hk]
theorem Jl (l:List (Nat×List UInt8)) (h):(C2 l h).map (fun x=>x.1.2)=l.reverse:=by
 apply List.ext_getElem?;intro i;by_cases hi:i<l.length
 ·rw[List.getElem?_map,LE l h i hi];simp[List.getElem?_reverse hi,show l.length-1-i<l.length by omega]
 ·rw[List.getElem?_eq_none (by simp[FJ];omega),List.getElem?_eq_none (by simp;omega)]
theorem E6:(Tryz.prog.info? 80).map (·.size)=some 257:=by kernel_rfl
theorem Qk (F:Fence) (n:Nat) (hF:F.fn 104) (hro:F.round=none) (hn:1≤n) (lp Bs n₀:Nat) (pv:Value) (l:List (Nat×List UInt8)) (hl:∀x∈l,x.2.length=256)
 (hlen:l.length<1000000000000) (hp:∀g,pv.ownBlock=some g→g<n₀) (J Jx:List PE→World→Prop)
 (hY:∀pre x W,J pre W→pre.length<l.length→YieldAt F (n-1) Tryz.prog lp (Lp x) W fun e W'=>(e=.returned (.bool true)∧J (pre++[x]) W'∧Below n₀ W W')∨(e=.returned (.bool false)∧Jx (pre++[x]) W'))
 (W:World) (hBs:Bs<n₀) (hc:W.cell? ⟨Bs,0,none⟩=some pv) (hP:PendAt W pv l) (h0:J [] W):
 CallsIn F n Tryz.prog 104 #[.func (.yield lp) #[] #[],.pointer (some ⟨Bs,0,none⟩)] W fun e W'=>(∃v,e=.returned v)∧
  ((∃ys,ys=C2 l hl∧J ys W')∨(∃pre,pre<+:C2 l hl∧Jx pre W')):=by
 refine callsIn_of_wp Tryz.func104 rfl hF ?_ hro;simp only[Tryz.ntmps104,List.size_toArray,List.length_cons,List.length_nil,Nat.reduceAdd,Nat.reduceSub,Array.replicate_succ,Array.replicate_zero,List.push_toArray,List.append_toArray,List.nil_append,List.cons_append];have hpv:∃a cap,pv=.slice a l.length cap:=by
  rcases hP with⟨rfl,rfl⟩| ⟨g,cap,rfl,_⟩
  ·exact⟨none,0,rfl⟩
  ·exact⟨_,_,rfl⟩
 obtain⟨a,cap,rfl⟩:=hpv
 gi_wp2
 gi_loopw [3] (fun i wr=>∃k:Nat,k≤l.length∧i=.int .i64 ((l.length:Int)-1-(k:Int))∧J ((C2 l hl).take k) wr∧Below n₀ W wr)
  (fun i _=>(intOf i+1).toNat)
 case atStart=>exact⟨0,Nat.zero_le _,by simp,by simpa using h0,Rq⟩
 case round=>
  obtain⟨k,hk,rfl,hJs,hnx⟩:=hrel;have hcx:wr.cell? ⟨Bs,0,none⟩=some (.slice a l.length cap):=(hnx.cell (p:=⟨Bs,0,none⟩) hBs).trans hc;by_cases hlt:k<l.length
  ·obtain⟨q,hq⟩:∃q:Nat,q=l.length-1-k:=⟨_,rfl⟩;have hql:q<l.length:=by omega
   have hzq:((l.length:Int)-1-(k:Int))=(q:Int):=by omega
   rw[hzq];have hPr:=hP.below hp hnx;rcases hPr with⟨e1,e2⟩| ⟨g,cap',e1,hg,hr⟩
   ·rw[e2]at hlt;simp at hlt
   ·simp only[Value.slice.injEq]at e1;obtain⟨rfl,_,rfl⟩:=e1;have hrq:=hr q hql;obtain⟨fn,tmps,assign,body,hy,hR⟩:=hY _ ⟨(q,l[q]),hl _ (List.getElem_mem _)⟩ wr hJs (by simp[FJ];omega);have hsz:(Tryz.prog.info? 80).map (·.size)=some (AC l[q]).length:=by rw[Bf (hl _ (List.getElem_mem _))];exact E6
    have hstep:(C2 l hl).take (k+1)=(C2 l hl).take k++[⟨(q,l[q]),hl _ (List.getElem_mem _)⟩]:=by rw[List.take_add_one,LE l hl k hlt];subst hq;rfl
    have HS:=Hd hstep;have HQ:=Hd hq;clear hr hq hzq hstep;dsimp only[Lp]at hy
    gi_wp2_with (first| (with_reducible refine Fm rfl 80 _ rfl g (q*257) rfl (AC l[q]) _ hrq Tryz.underlying80 rfl hsz ?_)|fail)
    refine hR.mono ?_;rintro e W3 (⟨rfl,hJ3,hk3⟩| ⟨rfl,hJx3⟩)
    ·gi_wp2
     go_roundw
     case rel=>exact⟨k+1,by omega,by have:=HQ.out;first| (go_num;done)| (congr 1;omega),by rw[HS.out];exact hJ3,hnx.trans hk3⟩
     case measure=>simp[intOf]
    ·gi_wp2
     refine Br (results_none rfl _ _ _) rfl ?_;exact⟨⟨_,rfl⟩,.inr ⟨_,by rw[←HS.out];exact List.take_prefix _ _,hJx3⟩⟩
  ·obtain rfl :k=l.length:=by omega
   have e1:((l.length:Int)-1-(l.length:Int))=-1:=by omega
   rw[e1];clear e1
   gi_wp2
   go_end0;exact⟨⟨_,rfl⟩,.inl ⟨_,rfl,by rw[List.take_of_length_le (by rw[FJ];exact Nat.le_refl _)]at hJs;exact hJs⟩⟩
theorem MM (F:Fence) (n:Nat) (hF:F.fn 87) (hro:F.round=none) (a:Option Addr) (len cap:Nat) (w:World):
 CallsIn F n Tryz.prog 87 #[.slice a len cap] w fun e w'=>e=.returned (.func (.func 104) #[] #[.pointer (some ⟨w.heap.size,0,none⟩)])∧w'=w.alloc (.cells #[.slice a len cap] 76):=by
 refine callsIn_of_wp Tryz.func87 rfl hF ?_ hro;simp only[Tryz.ntmps87,List.size_toArray,List.length_cons,List.length_nil,Nat.reduceAdd,Nat.reduceSub,Array.replicate_succ,Array.replicate_zero,List.push_toArray,List.append_toArray,List.nil_append,List.cons_append]
 gi_wp2
 go_ret;exact⟨rfl,rfl⟩
theorem NT (F:Fence) (n:Nat) (hF:F.fn 104) (hro:F.round=none) (hn:1≤n) (Bs n₀:Nat) (pv:Value) (l:List (Nat×List UInt8)) (hl:∀x∈l,x.2.length=256)
 (hlen:l.length<1000000000000) (w:World) (hBs:Bs<n₀) (hn₀:n₀≤w.heap.size) (hp:∀g,pv.ownBlock=some g→g<n₀) (hc:w.cell? ⟨Bs,0,none⟩=some pv) (hP:PendAt w pv l):
 SeqStopsK F n Tryz.prog 104 #[.pointer (some ⟨Bs,0,none⟩)] Lp (Below n₀) (fun ys=>ys=C2 l hl) (fun pre=>pre<+:C2 l hl) l.length w:=fun lp J Jx W hW _ _ hY h0=>
 Qk F n hF hro hn lp Bs n₀ pv l hl hlen hp J Jx hY W hBs ((hW.cell (p:=⟨Bs,0,none⟩) (Nl hBs hn₀)).trans hc) (hP.below hp (hW.mono hn₀)) h0
def CO (l:List (Nat×List UInt8)) (s:Nat):Option (List UInt8):=(l.reverse.find? (fun x=>x.1==s)).map (·.2)
def DS.visible (S:DS) (s:Nat):List UInt8:=(CO S.pend s).getD (S.dur.getD s zeros)
theorem BL (h:S.ok) {s:Nat} (hs:s<S.dur.length):(S.visible s).length=256:=by
 unfold DS.visible CO;cases hf:S.pend.reverse.find? (fun x=>x.1==s)with
 |none=>simp[hs];exact h.dur _ (List.getElem_mem _)
 |some x=>simp;exact(h.pend x (by simpa using List.mem_of_find?_eq_some hf)).2
theorem I2:Tryz.zeroCells74=(bvs zeros).toArray:=by kernel_rfl
theorem LF:Tryz.zeroCells80=(AC (0,zeros)).toArray:=by kernel_rfl
theorem LG:(Tryz.prog.info? 74).map (fun i=>(i.zero,i.size))=some (some (BF zeros),256):=by kernel_rfl
theorem E7 {F:Fence}{rest:List Oper} (hgd:o.guard=none) (ty:TypeId) (x y:Operand) (ho:o.op=.store ty x y)
 (g:Nat) (cells:Array Value) (hx:a.eval x=.pointer (some ⟨g,0,none⟩)) (hy:a.eval y=.agg cells)
 (t:TypeId) (old:Array Value) (hg:w.heap[g]?=some (.cells old t (0,0))) (hi:(P.info? ty).map (·.size)=some cells.size)
 (hold:old.size=cells.size) (h1:cells.all (·.oneCell')=true)
 (h:wpListIn F n P ops Q rest (a.put o.dst undef) (w.setRow g cells)):wpListIn F n P ops Q (o::rest) a w:=by
 refine Hs hgd (by simp[Oper.about,ho]) (by rw[ho];intro c hc';cases hc') (x:=.skip) (w':=w.setRow g cells) ?_ (fun K hK=>hK _ _ h);unfold execOp;simp only[ho,hx,hy,Instr.storeAt,Instr.sureAddr,Sem.run_bind,Sem.run_pure,Result.andThen_ok,run_storeVar_row w g t ty old cells hg hi hold h1]
theorem Kc {α:Type}{f:α→Bool}{ini L:List α}{last:α} (h:(ini++[last])<+:L) (h1:∀x∈ini,f x=false) (h2:f last=true):L.find? f=some last:=by obtain⟨t,rfl⟩:=h;rw[List.append_assoc,List.find?_append,List.find?_eq_none.2 (fun x hx=>by simp[h1 x hx])];simp[h2]
theorem LH {l:List (Nat×List UInt8)} (hl:∀x∈l,x.2.length=256) {s:Nat} {ini:List PE} {last:PE} (h:(ini++[last])<+:C2 l hl) (h1:∀x∈ini,x.1.2.1≠s) (h2:last.1.2.1=s):
 CO l s=some last.1.2.2:=by
 unfold CO;have e:=Kc (f:=fun x:PE=>x.1.2.1==s) h (fun x hx=>by simpa using h1 x hx) (by simpa using h2);rw[←Jl l hl,List.find?_map];show Option.map _ (Option.map _ (List.find? (fun x:PE=>x.1.2.1==s) (C2 l hl)))=_;rw[e];rfl
theorem O7 {l:List (Nat×List UInt8)} (hl:∀x∈l,x.2.length=256) {s:Nat} (h1:∀x∈C2 l hl,x.1.2.1≠s):CO l s=none:=by unfold CO;rw[←Jl l hl,List.find?_map];show Option.map _ (Option.map _ (List.find? (fun x:PE=>x.1.2.1==s) (C2 l hl)))=_;rw[List.find?_eq_none.2 (fun x hx=>by simpa using h1 x hx)];rfl
theorem Fp:∀w,(zeroValue 74).run Tryz.prog w=.ok (BF zeros) w:=fun w=>by rw[Tryz.zeroValue74,I2];rfl
theorem Bh (h:l.length=256):(Tryz.prog.info? 74).map (·.size)=some (bvs l).toArray.size:=by
 have:(bvs l).toArray.size=256:=by simp[h]
 rw[this];have h2:=LG;cases hq:Tryz.prog.info? 74 with
 |none=>rw[hq]at h2;cases h2
 |some i=>
  simp only[hq,Option.map_some,Option.some.injEq,Prod.mk.injEq]at h2⊢;exact h2.2
theorem NU {x:Nat×List UInt8} (h:x.2.length=256):(Tryz.prog.info? 80).map (·.size)=some (AC x).toArray.size:=by
 have:(AC x).toArray.size=257:=by simp[Bf h]
 rw[this];exact E6
theorem CK (x:Nat×List UInt8):(AC x).toArray.all (·.oneCell')=true:=by
 apply all_oneCell_toArray;intro v hv;rcases List.mem_cons.1 hv with rfl |hv
 ·rfl
 ·exact Bc v hv
def SE (w:World) (s:Nat) (pre:List PE) (W:World):Prop:=
 (Below w.heap.size w W∧w.heap.size+3≤W.heap.size)∧Boxed W w.heap.size 3 (.int .i64 s)∧W.heap[w.heap.size+1]?=some (.cells (bvs zeros).toArray 74 (0,0))∧∀x∈pre,x.1.2.1≠s
def SF (w:World) (s:Nat) (c:Code) (pre:List PE) (W:World):Prop:=
 c=.ret∧Below w.heap.size w W∧∃ini last,pre=ini++[last]∧(∀x∈ini,x.1.2.1≠s)∧last.1.2.1=s∧W.heap[w.heap.size+1]?=some (.cells (bvs last.1.2.2).toArray 74 (0,0))
def SG (w:World) (S:DS) (s b:Nat) (a:Option Addr) (cap:Nat) (x:PE) (a':Act) (W:World):Prop:=
 ∃Bx,w.heap.size+3≤Bx∧W.heap[Bx]?=some (.cells (AC x.1.2).toArray 80 (0,0))∧a'={tmps:=#[.pointer (some ⟨b,0,none⟩),.int .i64 s,undef,.pointer (some ⟨w.heap.size,0,none⟩),
  .pointer (some ⟨w.heap.size+1,0,none⟩),undef,.pointer (some ⟨Bx,0,none⟩),.pointer (some ⟨b,0,none⟩),.pointer (some ⟨b,0,none⟩),.pointer (some ⟨b,2,none⟩),.slice a S.pend.length cap,
  .func (.func 104) #[] #[.pointer (some ⟨w.heap.size+1+1,0,none⟩)],.int .i64 (x.1.1:Int),.agg (AC x.1.2).toArray,undef,undef,undef,undef,undef,undef,undef,undef,undef,undef,undef,undef],defers:=[]}
theorem MN (s:Nat) (h:DiskAt w F b S) (hs:s<S.dur.length) (hlen:S.pend.length<1000000000000):
 Ca 70 #[.pointer (some ⟨b,0,none⟩),.int .i64 s] w fun e w'=>e=.returned (BF (S.visible s))∧Below w.heap.size w w':=by
 obtain⟨hok,m,pv,hx⟩:=h;obtain⟨c0,c1,c2,c3,c4,c5,c6,f⟩:=hx.cells;have hl:∀x∈S.pend,x.2.length=256:=fun x h=>(hok.pend x h).2
 have hP:=DA hl hx.hp;have hpl:=hx.hp.lt;obtain⟨a,cap,hpv⟩:∃a cap,pv=.slice a S.pend.length cap:=by
  rcases hP with⟨rfl,e⟩| ⟨g,cap,rfl,_⟩
  ·exact⟨none,0,by rw[e];rfl⟩
  ·exact⟨_,_,rfl⟩
 subst hpv;refine(callsIn_wide (n:=4)).1 ?_;refine callsIn_of_wp_marks Tryz.func70 rfl trivial ?_ rfl;simp only[Tryz.ntmps70,List.size_toArray,List.length_cons,List.length_nil,Nat.reduceAdd,Nat.reduceSub,Array.replicate_succ,Array.replicate_zero,List.push_toArray,List.append_toArray,List.nil_append,List.cons_append];obtain⟨HX,HOK,HL,HPL⟩:=Hd4 hx hok hl hpl;have hbl:=hx.lt;clear hx hok hl hpl
 gi_wp2_with (first| (refine⟨trivial,?_⟩;gi_at_call 87;refine(MM Fence.wide 3 trivial rfl _ _ _ _).mono ?_;rintro e w' ⟨rfl,rfl⟩))
 have h3:=It w (.cells #[.int .i64 s] 3) (.cells Tryz.zeroCells74 74) (.cells #[.slice a S.pend.length cap] 76);obtain⟨W0,hW0⟩:=Xq (((w.alloc (.cells #[.int .i64 s] 3)).alloc (.cells Tryz.zeroCells74 74)).alloc (.cells #[.slice a S.pend.length cap] 76));have hsz0:W0.heap.size=w.heap.size+3:=by rw[←hW0];simp
 have hB0:Below w.heap.size w W0:=by rw[←hW0];exact(((Below.refl _ w).alloc Lr _).alloc (by simp) _).alloc (by simp;omega) _
 rw[hW0]at h3⊢;clear hW0;obtain⟨g0,g1,g2⟩:=h3;rw[I2]at g1;have hbp:∀g,(Value.slice a S.pend.length cap).ownBlock=some g→g<W0.heap.size:=fun g hg=>by have:=(HPL.out g hg).2;omega
 refine wpIn_rangeFunc_ownH (α:=PE) rfl (by decide) (gf:=104) (lb:=#[.pointer (some ⟨w.heap.size+1+1,0,none⟩)]) rfl trivial (enters_of Tryz.func104 (by kernel_rfl) rfl)
  (NT Fence.wide 3 trivial rfl (by decide) (w.heap.size+1+1) W0.heap.size _ S.pend HL.out hlen W0 (by omega) Lr hbp (cell_of_row W0 _ _ _ _ _ g2) (hP.below (n₀:=w.heap.size) (fun g hg=>(HPL.out g hg).2) hB0)) belowK_t (belowK_b Lr) Rq (fun _=>rfl)
  (SE w s) (SF w s) ?hI ?hIx ⟨⟨hB0,by omega⟩,g0,g1,by simp⟩ (SG w S s b a cap) ?hAx ?assign ?body ?done ?stop
 case hI=>rintro pre A B row ⟨⟨h1,h0⟩,h2,h3,h4⟩ hg hr;refine⟨⟨h1.grown hg h1.size (fun k e=>by have:=(hr k e).1;omega),Nt h0 hg.size⟩,h2.kept hg (fun e=>by have:=(hr _ e.symm).1;omega),?_,h4⟩;exact(hg.block _ (Ax h3).1 (fun e=>by have:=(hr _ e.symm).1;omega)).trans h3
 case hIx=>rintro c pre A B row ⟨h1,h2,ini,last,e1,e2,e3,h3⟩ hg hr;refine⟨h1,h2.grown hg h2.size (fun k e=>by have:=(hr k e).1;omega),ini,last,e1,e2,e3,?_⟩;exact(hg.block _ (Ax h3).1 (fun e=>by have:=(hr _ e.symm).1;omega)).trans h3
 case hAx=>rintro x a' _ A B row ⟨Bx,h1,h2,h3⟩ hg hr;refine⟨Bx,h1,?_,h3⟩;refine(hg.block _ (Ax h2).1 (fun e=>?_)).trans h2;obtain⟨_,o,ho,hoc⟩:=hr _ e.symm;rw[h2]at ho;cases ho;cases hoc
 case assign=>
  rintro l pre x W K hI hK;unfold Lp
  gi_wp2_with (first| (with_reducible refine E7 rfl 80 _ _ rfl W.heap.size (AC x.1.2).toArray rfl rfl 80 Tryz.zeroCells80 (heap_alloc_new W _) (NU x.2) (by rw[LF];simp[AC,x.2,AW]) (CK _) ?_))
  rw[World.setRow_alloc_new];obtain⟨⟨i1,i0⟩,i2,i3,i4⟩:=hI;refine hK _ _ ((KeepsOthers.alloc _ _).from _) ((Below.refl _ W).alloc (by omega) _) ⟨⟨i1.alloc i1.size _,by simp;omega⟩,i2.alloc _,(Below.heap_alloc _ _ _ (Ax i3).1).trans i3,i4⟩ ⟨W.heap.size,i0,Hn,rfl⟩
 case body=>
  rintro l pre x a' W hl ⟨r,hr⟩ ⟨⟨i1,i0⟩,i2,i3,i4⟩ ⟨Bx,hBx,bX,rfl⟩ hlt;have cx:W.cell? ⟨Bx,0,none⟩=some (.int .i64 (x.1.2.1:Int)):=by rw[cell_of_row W _ _ _ _ _ bX];rfl
  have cs:=i2.cell;by_cases hxs:x.1.2.1=s
  ·have ht:((x.1.2.1:Int)==(s:Int))=true:=by simp[hxs]
   have hrg:W.rangeAt Bx 1 (bvs x.1.2.2):=fun j v hv=>by rw[cell_of_row W _ _ _ _ _ bX];simp only[AC,List.getElem?_toArray,Nat.add_comm 1 j,List.getElem?_cons_succ];exact hv
   gi_wp2_with (first| (with_reducible refine Fm rfl 74 _ rfl Bx 1 rfl (bvs x.1.2.2) _ hrg Tryz.underlying74 rfl (by have:=Bh x.2;simpa using this) ?_)| (with_reducible refine E7 rfl 74 _ _ rfl (w.heap.size+1) (bvs x.1.2.2).toArray rfl rfl 74 (bvs zeros).toArray i3 (Bh x.2) (by simp[x.2,AW]) (Bb _) ?_))
   have hgr:W.grownBy (W.setRow (w.heap.size+1) (bvs x.1.2.2).toArray) (some (w.heap.size+1)):=⟨rfl,rfl,rfl,by simp,fun k _ hk=>setRow_other W _ k _ (fun e=>hk (by rw[e]))⟩;exact⟨KeepsFrom.of_grownBy hgr (fun j e=>by cases e;omega),rfl,i1.grown hgr i1.size (fun k e=>by cases e;omega),pre,x,rfl,i4,hxs,setRow_heap W _ _ _ _ _ i3⟩
  ·have ht:((x.1.2.1:Int)==(s:Int))=false:=by simp;omega
   gi_wp2
   exact⟨KeepsFrom.refl _ _,Rq,⟨i1,i0⟩,i2,i3,fun y hy=>(List.mem_append.1 hy).elim (i4 y) (fun e=>by simp at e;subst e;exact hxs)⟩
 case done=>
  rintro D ys W hD rfl ⟨⟨i1,i0⟩,i2,i3,i4⟩ hK;have hx:=HX.out;have hdb:W.cell? ⟨b,1,none⟩=some (.map (some m)):=(i1.cell (p:=⟨b,1,none⟩) hbl).trans c1;have hbx:=i2.cell;have hmap:MapIs W m S.dur.length zeros (fun i=>S.dur.getD i zeros):=hx.hm.kept (i1.block m hx.hm.lt);have hlk:(Instr.lookup 75 (.map (some m)) (.int .i64 s) false).run Tryz.prog W.drew=.ok (BF (S.dur.getD s zeros)) W.drew:=
   MapIs.lookup (hmap.kept (w':=W.drew) rfl) Tryz.underlying75 Tryz.underlying3 Fp hs
  have hvis:S.visible s=S.dur.getD s zeros:=by unfold DS.visible;rw[O7 HL.out i4];rfl
  have hv256:(S.dur.getD s zeros).length=256:=by rw[←hvis];exact BL HOK.out hs
  obtain⟨v,hv⟩:∃v,v=S.dur.getD s zeros:=⟨_,rfl⟩;rw[←hv]at hlk hvis hv256;clear hmap hv;obtain⟨HX2,HV,H256⟩:=Hd3 hx hvis hv256;clear hx hvis hv256
  gi_wp2
  refine wpIn_wide.2 ?_;go_still_tail 6,(by kernel_rfl);have e256:=H256.out;refine wpList_store_row rfl 74 _ _ rfl (w.heap.size+1) (bvs v).toArray rfl rfl 74 (bvs zeros).toArray i3 (Bh e256) (by simp only[List.size_toArray,Ap,e256,AW]) (Bb _) ?_;clear e256;go_wp2;obtain⟨Wz,hWz⟩:∃Wz:World,({W with drawn:=W.drawn+1}:World).setRow (w.heap.size+1) (bvs v).toArray=Wz:=⟨_,rfl⟩;have hKz:Wz.heap[D]?=some (.deferred (some [])):=by rw[←hWz,setRow_other _ _ _ _ (by omega)];exact hK
  have hRz:Wz.heap[w.heap.size+1]?=some (.cells (bvs v).toArray 74 (0,0)):=by rw[←hWz];exact setRow_heap _ _ _ _ _ _ i3
  have hBz:Below w.heap.size w Wz:=by rw[←hWz];exact below_setRow (w:={W with drawn:=W.drawn+1}) i1.drew (by omega) _
  rw[hWz];clear hWz
  gi_wp2
  refine⟨by simp,.inl ⟨_,_,rfl,run_takeDeferred hKz,?_⟩⟩;have hg':(Wz.putObj D (.deferred none)).heap[w.heap.size+1]?=some (.cells (bvs v).toArray 74 (0,0)):=(World.putObj_heap_other (by omega)).trans hRz;refine⟨_,results_cell_row (g:=w.heap.size+1) rfl _ _ _ _ _ _ rfl hg' Tryz.underlying74 rfl (Bh H256.out),?_,hBz.trans (belowK_b (w:=w) Lr Wz D _ _ (by omega) hKz rfl rfl)⟩;rw[HV.out];rfl
 case stop=>
  rintro D c pre W hD hpre ⟨rfl,i1,ini,last,e1,e2,e3,i3⟩ hK
  gi_wp2
  have hv:S.visible s=last.1.2.2:=by unfold DS.visible;rw[LH HL.out (e1▸hpre) e2 e3];rfl
  refine⟨by simp,.inl ⟨_,_,rfl,run_takeDeferred hK,?_⟩⟩;have hg':(W.putObj D (.deferred none)).heap[w.heap.size+1]?=some (.cells (bvs last.1.2.2).toArray 74 (0,0)):=(World.putObj_heap_other (by omega)).trans i3;refine⟨_,results_cell_row (g:=w.heap.size+1) rfl _ _ _ _ _ _ rfl hg' Tryz.underlying74 rfl (Bh last.2),?_,i1.trans (belowK_b (w:=w) Lr W D _ _ (by omega) hK rfl rfl)⟩;rw[hv];rfl
end Go.Proofs.YtplclpileejemaaGreatDoor
namespace Go.Proofs.YtplclpileejemaaGreatDoor
open Go.RowKit
variable {w w':World}{F G:Nat→Prop}{b m:Nat}{S:DS}
def DS.readE (S:DS) (s:Int):Int:=if S.down then 28 else if S.has s then 0 else 8
def DS.readB (S:DS) (s:Int):List UInt8:=if S.down then[]else if S.has s then S.visible s.toNat else[]
theorem LI (s:Int) (h:DiskAt w F b S) (hlen:S.pend.length<1000000000000):
 Ca 41 #[.pointer (some ⟨b,0,none⟩),.int .i64 s] w fun e w'=>∃v,e=.returned (.tuple #[v,.int .i64 (S.readE s)])∧
  (if S.readB s=[]then v=.slice none 0 0 else OwnBytes w' (fun k=>w.heap.size≤k) v (S.readB s))∧Below w.heap.size w w':=by
 have h0:=h;obtain⟨hok,m,pv,hx⟩:=h;obtain⟨c0,c1,c2,c3,c4,c5,c6,f⟩:=hx.cells;have HH:=Hd h0;have HOK:=Hd hok;clear hx h0 hok;cases hd:S.down with
 |true=>
  have e1:S.readE s=28:=by simp[DS.readE,hd]
  have e2:S.readB s=[]:=by simp[DS.readB,hd]
  rw[hd]at c6;simp only[e1,e2,if_true];clear hd e1 e2;go_enter Tryz.func41,Tryz.ntmps41;go_wp2;go_ret2;exact⟨_,rfl,rfl,Rq⟩
 |false=>
  rw[hd]at c6;cases hh:S.has s with
  |false=>
   have e1:S.readE s=8:=by simp[DS.readE,hd,hh]
   have e2:S.readB s=[]:=by simp[DS.readB,hd,hh]
   simp only[e1,e2,if_true];clear hd e1 e2;go_enter Tryz.func41,Tryz.ntmps41;go_wp2_with (go_at_call 33;refine(DL s HH.out).mono ?_;rintro e w' ⟨rfl,rfl⟩)
   go_ret2;exact⟨_,rfl,rfl,Rq⟩
  |true=>
   have hh':0≤s∧s<(S.dur.length:Int):=by simpa[DS.has]using hh
   obtain⟨k,rfl⟩:=Int.eq_ofNat_of_zero_le hh'.1;have hk:k<S.dur.length:=by omega
   have hv:=BL HOK.out hk;have e1:S.readE k=0:=by simp[DS.readE,hd,hh]
   have e2:S.readB k=S.visible k:=by simp[DS.readB,hd,hh]
   obtain⟨V,hV⟩:∃V,V=S.visible k:=⟨_,rfl⟩;rw[←hV]at hv e2;have hne:¬V=[]:=by intro e;rw[e]at hv;simp at hv
   simp only[e1,e2,In hne];have EV:=Hd hV;have E256:=Hd hv;clear hd e1 e2 hne hh' hV hv;go_enter Tryz.func41,Tryz.ntmps41;go_wp2_with (first| (go_at_call 33;refine(DL (k:Int) HH.out).mono ?_;rintro e w' ⟨rfl,rfl⟩)|fail)
   refine(MN k HH.out hk hlen).mono ?_;rintro e w1 ⟨rfl,hb⟩;rw[←EV.out];have hn:=heap_alloc_new w1 (.cells Tryz.zeroCells74 74);go_wp2_with (first| (with_reducible refine wpList_store_row rfl 74 _ _ rfl w1.heap.size (bvs V).toArray rfl rfl 74 Tryz.zeroCells74 hn (Bh E256.out) (by rw[I2];simp[E256.out,AW]) (Bb _) ?_))
   go_ret2;rw[World.setRow_alloc_new];refine⟨_,rfl,⟨w1.heap.size,_,?_,hb.size,Hn⟩,hb.alloc hb.size _⟩;rw[E256.out];rfl
theorem NV (s:Nat) (l:List UInt8) (hl:l.length=256):
 List.foldl (fun cs (x:Value×Nat)=>cs.setIfInBounds (1+x.2) x.1) (Tryz.zeroCells80.setIfInBounds 0 (.int .i64 s)) (bvs l).zipIdx=(AC (s,l)).toArray:=by
 have hz:Tryz.zeroCells80.size=257:=by rw[LF,List.size_toArray];exact Bf AW
 have h2:=Great.foldl_set 1 (bvs l) 0 (Tryz.zeroCells80.setIfInBounds 0 (.int .i64 s));generalize Tryz.zeroCells80=Z at hz h2⊢;rw[Array.size_setIfInBounds,hz]at h2;apply Array.ext_getElem?;intro k;rw[h2.2 k];simp only[Ap,hl];cases k with
 |zero=>rw[In (by omega)];simp[AC,hz]
 |succ k=>
  by_cases hk:k<256
  ·rw[Ip (by omega)];simp[AC]
  ·rw[In (by omega)];rw[Array.getElem?_eq_none (by rw[Array.size_setIfInBounds];omega),Array.getElem?_eq_none (by simp[AC,hl];omega)]
theorem Jm:(Tryz.prog.info? 80).map (fun i=>(i.zero,i.size,i.bytes))=some (some (.agg (AC (0,zeros)).toArray),257,264):=by kernel_rfl
theorem K5 {i0:TypeInfo} (Z:Array Value) (hZ:Tryz.prog.info? 80=some i0) (hz0:i0.zero=some (.agg Z)) (hz1:i0.size=257) (c:Array Value) (hc:c.size=257) (w:World):
 (Instr.buildSlice 76 1 #[(0,.agg c)]).run Tryz.prog w=.ok (.slice (some ⟨w.heap.size,0,none⟩) 1 1) (w.alloc (.cells c 80)):=by
 have hf:=Great.fill_whole (s:=257) (by decide) [.agg c] ((Array.range (1*i0.size)).map (Z[·%Z.size]!)) (by intro v hv;simp only[List.mem_singleton]at hv;subst hv;simp[Value.cells,hc]) (by simp[hz1])
 refine Go.run_buildSlice w _ 80 1 _ _ i0 _ Tryz.underlying76 hZ hz0 (by rw[hz1];decide) (by rw[hz1];decide) ?_;rw[hz1]at hf⊢;simpa[Value.cells]using hf
theorem MO (a:Option Addr) (n cap:Nat) (hn:n=256) (w:World):(Instr.arrayAt 74 (.slice a n cap)).run Tryz.prog w=.ok (.pointer a) w:=by subst hn;simp[Instr.arrayAt,run_underlying Tryz.underlying74]
def DS.write (S:DS) (s:Int) (l:List UInt8):DS×Int:=
 if S.down then(S,28)else if S.has s then(if l.length=256 then(if S.operate.2 then({S.operate.1 with pend:=S.operate.1.pend++[(s.toNat,l)]},0)else(S.operate.1,28))else(S,2))else(S,8)
theorem AN (S:DS):S.operate.1.pend=S.pend∧S.operate.1.dur=S.dur:=by
 unfold DS.operate;cases S.limit with
 |none=>exact⟨rfl,rfl⟩
 |some k=>cases k<;>exact⟨rfl,rfl⟩
theorem MP (l:List (Nat×List UInt8)) (x:Nat×List UInt8):Dv (l++[x])=Dv l++AC x:=by simp[Dv]
theorem LJ (ρ:Operand→Value) (y:Operand) (dst:Option Tmp) (ty:TypeId) (pos:String) (after:Array Edge) (guard:Option (Nat×Bool)) (w:World) (h:ρ y=.agg (ρ y).cells) (hc:(ρ y).cells.size=257):
 (execOp ρ {dst,op:=.buildSlice 76 1 #[(0,y)],type:=ty,pos,after,guard}).run Tryz.prog w=.ok (.value (.slice (some ⟨w.heap.size,0,none⟩) 1 1)) (w.alloc (.cells (ρ y).cells 80)):=by
 obtain⟨i0,hi,hz0,hz1,hz2⟩:=info_parts Jm;have:=K5 _ hi hz0 hz1 (ρ y).cells hc w;rw[←h]at this;unfold execOp;simp only[List.map_toArray,List.map_cons,List.map_nil,Sem.run_bind,this,Result.andThen_ok];rfl
theorem O8 (c:Array Value):(Value.agg c).cells=c:=rfl
theorem MQ (y:Operand) (dst:Option Tmp) (ty:TypeId) (pos:String) (after:Array Edge) (guard:Option (Nat×Bool)) (a:Act) (w:World) (K:Act→World→Prop) (Q:Exit→Act→World→Prop)
 (h:a.eval y=.agg (a.eval y).cells) (hc:(a.eval y).cells.size=257):
 Oper.wp Tryz.prog {dst,op:=.buildSlice 76 1 #[(0,y)],type:=ty,pos,after,guard} a w K Q=K (a.put dst (.slice (some ⟨w.heap.size,0,none⟩) 1 1)) (w.alloc (.cells (a.eval y).cells 80)):=by
 unfold Oper.wp;rw[LJ a.eval y dst ty pos after guard w h hc];rfl
theorem NW (c:Array Value) {y:Operand} {dst:Option Tmp} {ty:TypeId} {pos:String} {after:Array Edge} {guard:Option (Nat×Bool)} {a:Act} {w:World} {K:Act→World→Prop} {Q:Exit→Act→World→Prop}
 (h:a.eval y=.agg c) (hc:c.size=257) (hK:K (a.put dst (.slice (some ⟨w.heap.size,0,none⟩) 1 1)) (w.alloc (.cells c 80))):
 Oper.wp Tryz.prog {dst,op:=.buildSlice 76 1 #[(0,y)],type:=ty,pos,after,guard} a w K Q:=by
 rw[MQ _ _ _ _ _ _ _ _ _ _ (by rw[h];rfl) (by rw[h];exact hc),h];exact hK
theorem Jn {row:Option Nat} (h:w.drew.grownBy w' row):w.grownBy w' row:=⟨h.os,h.tape,h.output,h.size,h.block⟩
theorem Jo (h:S.ok):S.operate.1.ok:=by have:=AN S;exact⟨by rw[this.2];exact h.dur,by rw[this.1,this.2];exact h.pend,by rw[this.2];exact h.most⟩
theorem DiskX.pushed {w1 w2:World}{pv:Value} (h:DiskX w1 F b m pv S) {g n cap B:Nat} {s:Nat} {l:List UInt8} (hn:n=S.pend.length+1)
 (hown:w2.ownsRow 0 80 257 (.slice (some ⟨g,0,none⟩) n cap) n (Dv S.pend++AC (s,l))) (hg:w1.grownBy w2 pv.ownBlock)
 (hat:pv.ownBlock=some g∨g=w1.heap.size+1) (hB:B≤w1.heap.size):
 DiskX (w2.setCell ⟨b,2,none⟩ (.slice (some ⟨g,0,none⟩) n cap)) (fun k=>F k∨B≤k) b m (.slice (some ⟨g,0,none⟩) n cap) {S with pend:=S.pend++[(s,l)]}:=by
 have hbl:=h.lt;have hgb:g≠b:=by
  rcases hat with h1|h1
  ·intro e;exact h.pb (by rw[h1,e])
  ·omega
 have hb2:w2.heap[b]?=w1.heap[b]?:=hg.block b hbl (Ne.symm h.pb);have hm2:w2.heap[m]?=w1.heap[m]?:=hg.block m h.hm.lt (Ne.symm h.pm);have hs:=AS w2 b 2 (.slice (some ⟨g,0,none⟩) n cap);refine⟨.inl h.fb,.inl h.fm,?_,?_,?_,?_⟩
 ·intro k hk;simp only[Value.ownBlock,Option.some.injEq]at hk;subst hk;rcases hat with h1|h1
  ·exact .inl (h.fp g h1)
  ·exact .inr (by omega)
 ·rw[CR 2 _ (hb2.trans h.hb)];simp[Cr]
 ·exact h.hm.kept ((hs.block m (Nl h.hm.lt hg.size) (by simp[h.mb])).trans hm2)
 ·have e1:(S.pend++[(s,l)]).length=n:=by simp[hn]
  have e2:Dv (S.pend++[(s,l)])=Dv S.pend++AC (s,l):=MP _ _;show World.ownsRow _ 0 80 257 _ (S.pend++[(s,l)]).length (Dv (S.pend++[(s,l)]));rw[e1,e2];exact hown.kept hs (.inr (by simpa[Value.ownBlock]using hgb))
theorem NY (s:Nat) (v:Value) (l:List UInt8) (h:DiskAt w F b S) (hv:BytesAt w G v l) (hFG:∀k,F k→¬G k)
 (hd:S.down=false) (hs:s<S.dur.length) (hl:l.length=256) (hop:S.operate.2=true)
 (hlen:S.pend.length<100000000000) (hops:S.ops<1000000000000) (hlim:S.limit.getD 0≤9223372036854775807):
 Ca 78 #[.pointer (some ⟨b,0,none⟩),.int .i64 s,v] w fun e w'=>e=.returned (.int .i64 0)∧
  DiskAt w' (fun k=>F k∨w.heap.size≤k) b {S.operate.1 with pend:=S.operate.1.pend++[(s,l)]}∧Chg F w w':=by
 have h0:=h;obtain⟨hok,m,pv,hx⟩:=h;obtain⟨c0,c1,c2,c3,c4,c5,c6,f⟩:=hx.cells;rw[hd]at c6;obtain⟨a,cap,rfl,hcap,hr⟩:=hv;obtain⟨gb,ob,rfl,hGb,hgb,hr⟩:=hr (by intro e;rw[e]at hl;simp at hl);have HH:=Hd h0;have HOK:=Hd hok;have hhas:S.has s=true:=by simp[DS.has];omega
 clear hx h0 hok;rw[hl];have hne:((256:Nat):Int)=256:=rfl;clear hd;go_enter Tryz.func78,Tryz.ntmps78;go_wp2_with (first| (go_at_call 33;refine(DL (s:Int) HH.out).mono ?_;rintro e w' ⟨rfl,rfl⟩)|fail)
 refine(EM HH.out hops hlim).mono ?_;rintro e w1 ⟨rfl,hD1,hC1⟩;rw[hop];obtain⟨hok1,m1,pv1,hx1⟩:=hD1;have d2:=hx1.cells.2.2.1;have df:=hx1.cells.2.2.2.2.2.2.2 2;have hr1:w1.rangeAt gb ob (bvs l):=fun j u hu=>hC1.cell (p:=⟨gb,ob+j,none⟩) (fun hf=>hFG gb hf hGb) (hr j u hu)
 have hgb1:gb<w1.heap.size:=Nl hgb hC1.size;have hsz:=Bh hl;rw[List.size_toArray]at hsz;have hfo:=NV s l hl;have hwl:(AC (s,l)).length=257:=Bf hl;have hap:=fun W=>MO (some ⟨gb,ob,none⟩) 256 cap rfl W
 have hu80:=Tryz.underlying74;have hoc:∀v∈bvs l,v.oneCell'=true:=Bc;obtain⟨i0,hi0,hz0,hz1,hz2⟩:=info_parts Jm;have hbl1:=hx1.lt;have hown:=hx1.hp;have hpb:=hx1.pb;have hpg:pv1.ownBlock≠some gb:=fun e=>hFG gb (hx1.fp gb e) hGb
 rw[(AN S).1]at hown;obtain⟨HX1,HOK1,HO,HR⟩:=Hd4 hx1 hok1 hown hr;clear hx1 hok1 hr c0 c1 c2 c3 c4 c5 c6 f hown;go_wp2_with fail;refine Np ?_;refine AY 14 (fun w'=>w'.cell? ⟨b,2,none⟩=some pv1∧w'.rangeAt gb ob (bvs l)) (by kernel_rfl) ?_;have hS0:(fun w':World=>w'.cell? ⟨b,2,none⟩=some pv1∧w'.rangeAt gb ob (bvs l)) w1.drew:=⟨d2,hr1⟩;refine tkF 0 hS0 ?_ (v:=.pointer (some ⟨b,0,none⟩)) (hy:=fun w' hw'=>by rfl);refine tkF 1 hS0 ?_ (v:=.pointer (some ⟨b,0,none⟩)) (hy:=fun w' hw'=>by rfl);refine tkF 2 hS0 ?_ (v:=.pointer (some ⟨b,0,none⟩)) (hy:=fun w' hw'=>by go_simp);refine tkF 3 hS0 ?_ (v:=.pointer (some ⟨b,2,none⟩)) (hy:=fun w' hw'=>by go_simp);refine tkF 4 hS0 ?_ (v:=pv1) (hy:=fun w' hw'=>by(have h4:=hw'.1;clear hw';go_simp));refine tkF 5 hS0 ?_ (v:=.int .i64 s) (hy:=fun w' hw'=>by rfl);refine tkF 6 hS0 ?_ (v:=.slice (some ⟨gb,ob,none⟩) 256 cap) (hy:=fun w' hw'=>by rfl);refine tkF 7 hS0 ?_ (v:=.pointer (some ⟨gb,ob,none⟩)) (hy:=fun w' hw'=>by go_simp);refine tkF 8 hS0 ?_ (v:=.agg (bvs l).toArray) (hy:=fun w' hw'=>by exact Cm 74 (.tmp 35) gb ob (bvs l) _ rfl rfl hw'.2 hu80 rfl hsz);refine tkF 9 hS0 ?_ (v:=.agg (AC (s,l)).toArray) (hy:=fun w' hw'=>by go_simp);refine dF 10 fun K hK=>?_
 refine NW (AC (s,l)).toArray rfl (by rw[List.size_toArray];exact hwl) ?_;refine hK _ _ (fun _=>⟨(World.cell?_of_block (w:=w1) (Below.heap_alloc w1 _ b hbl1)).trans d2,fun j u hu=>(World.cell?_of_block (w:=w1) (Below.heap_alloc w1 _ gb hgb1)).trans (hr1 j u hu)⟩) ?_;simp only[P0,P1,P2,P3,P4];refine dF 11 fun K hK=>?_
 refine wp_append_lies _ (.tmp 32) (.tmp 38) 76 rfl 0 80 i0 _ 257 264 Tryz.underlying76 hi0 hz0 hz1 hz2 (by rw[O8,List.size_toArray];exact Bf AW) (by decide) pv1 S.pend.length (Dv S.pend) rfl ((HO.out.drew).alloc _)
  ⟨w1.drew.heap.size,0,none⟩ 1 1 (AC (s,l)) rfl (by rw[hwl]) (World.news_of_block (cs:=(AC (s,l)).toArray) (t:=80) (fr:=(0,0)) (heap_alloc_new w1.drew _)) (fun u hu=>(Array.all_eq_true_iff_forall_mem.1 (CK (s,l))) u (by simpa using hu))
  (by decide) (by unfold maxLen;omega) (by omega) (Nat.zero_le _) (w1.heap.size+1) (by rw[Sz];rfl) (fun gg cap2 w2 hown2 hgrow hat hlt=>?_)
 have hg0:w1.grownBy w2 pv1.ownBlock:=Jn ((World.grownBy_alloc w1.drew _ _).trans hgrow);have hb2:w2.heap[b]?=w1.heap[b]?:=hg0.block b hbl1 (Ne.symm hpb);have hb3:w2.heap[gb]?=w1.heap[gb]?:=hg0.block gb hgb1 (Ne.symm hpg);refine hK _ _ (fun _=>⟨(World.cell?_of_block (w:=w1) hb2).trans d2,fun j u hu=>(World.cell?_of_block (w:=w1) hb3).trans (hr1 j u hu)⟩) ?_;have e2:w2.cell? ⟨b,2,none⟩=some pv1:=(World.cell?_of_block (w:=w1) hb2).trans d2;have ef:w2.frozen? ⟨b,2,none⟩=false:=(World.frozen?_of_block (w:=w1) hb2).trans df;have er:w2.rangeAt gb ob (bvs l):=fun j u hu=>(World.cell?_of_block (w:=w1) hb3).trans (hr1 j u hu)
 simp only[P0,P1,P2,P3,P4];refine dF 12 fun K hK=>?_
 go_simp;refine hK _ _ (fun _=>⟨e2,er⟩) ?_;refine dF 13 fun K hK=>?_
 go_simp;refine hK _ _ (fun _=>⟨e2,er⟩) ?_;refine dF 14 fun K hK=>?_
 go_simp;refine hK _ _ (fun h=>absurd rfl h) ?_;refine eF ?_;go_wp2;go_ret;have hx1:=HX1.out;have hok1:=HOK1.out;have hx3:=hx1.pushed (B:=w.heap.size) (s:=s) (l:=l) (n:=S.pend.length+1) (by rw[(AN S).1]) (by rw[(AN S).1];exact hown2) hg0 hat hC1.size;refine⟨rfl,⟨⟨hok1.dur,?_,hok1.most⟩,m1,_,hx3⟩,?_⟩
 ·intro x hx;rcases List.mem_append.1 hx with hx|hx
  ·exact hok1.pend x hx
  ·simp only[List.mem_singleton]at hx;subst hx;exact⟨by show s<S.operate.1.dur.length;rw[(AN S).2];exact hs,hl⟩
 ·refine(hC1.trans (Chg.grown (F:=F) hg0 (fun k e=>.inl (hx1.fp k e))) (fun _ h=>.inl h)).trans (Chg.setCell (F:=F) _ _ hx1.fb) (fun _ h=>.inl h)
theorem DiskAt.wide (h:DiskAt w F b S) (B:Nat):DiskAt w (fun k=>F k∨B≤k) b S:=h.mono (fun _ h=>.inl h)
theorem O9 (s:Int) (v:Value) (l:List UInt8) (h:DiskAt w F b S) (hv:BytesAt w G v l) (hFG:∀k,F k→¬G k)
 (hlen:S.pend.length<100000000000) (hops:S.ops<1000000000000) (hlim:S.limit.getD 0≤9223372036854775807) (hll:l.length≤1000000000000000):
 Ca 78 #[.pointer (some ⟨b,0,none⟩),.int .i64 s,v] w fun e w'=>e=.returned (.int .i64 (S.write s l).2)∧
  DiskAt w' (fun k=>F k∨w.heap.size≤k) b (S.write s l).1∧Chg F w w':=by
 cases hd:S.down with
 |true=>
  have e1:S.write s l=(S,28):=by simp[DS.write,hd]
  rw[e1];have H0:=Hd h;obtain⟨hok,m,pv,hx⟩:=h;obtain⟨c0,c1,c2,c3,c4,c5,c6,f⟩:=hx.cells;rw[hd]at c6;clear hx hok hd e1 hv hlim;go_enter Tryz.func78,Tryz.ntmps78;go_wp2;go_ret;exact⟨rfl,H0.out.wide _,Chg.refl _ _⟩
 |false=>
  cases hh:S.has s with
  |false=>
   have e1:S.write s l=(S,8):=by simp[DS.write,hd,hh]
   rw[e1];have H0:=Hd h;obtain⟨hok,m,pv,hx⟩:=h;obtain⟨c0,c1,c2,c3,c4,c5,c6,f⟩:=hx.cells;rw[hd]at c6;clear hx hok hd e1 hv hlim;go_enter Tryz.func78,Tryz.ntmps78;go_wp2_with (go_at_call 33;refine(DL s H0.out).mono ?_;rintro e w' ⟨rfl,rfl⟩)
   go_ret;exact⟨rfl,H0.out.wide _,Chg.refl _ _⟩
  |true=>
   by_cases hl:l.length=256
   ·cases hop:S.operate.2 with
    |true=>
     have hh':0≤s∧s<(S.dur.length:Int):=by simpa[DS.has]using hh
     obtain⟨k,rfl⟩:=Int.eq_ofNat_of_zero_le hh'.1;have e1:S.write k l=({S.operate.1 with pend:=S.operate.1.pend++[(k,l)]},0):=by simp[DS.write,hd,hh,hl,hop]
     rw[e1];exact NY k v l h hv hFG hd (by omega) hl hop hlen hops hlim
    |false=>
     have e1:S.write s l=(S.operate.1,28):=by simp[DS.write,hd,hh,hl,hop]
     rw[e1];have H0:=Hd h;obtain⟨hok,m,pv,hx⟩:=h;obtain⟨c0,c1,c2,c3,c4,c5,c6,f⟩:=hx.cells;rw[hd]at c6;obtain⟨a,cap,rfl,hcap,hr⟩:=hv;rw[hl];have HL:=Hd hlim;clear hx hok hd e1 hr hlim;go_enter Tryz.func78,Tryz.ntmps78;go_wp2_with (first| (go_at_call 33;refine(DL s H0.out).mono ?_;rintro e w' ⟨rfl,rfl⟩)|fail)
     refine(EM H0.out hops HL.out).mono ?_;rintro e w1 ⟨rfl,hD1,hC1⟩;rw[hop];have HD1:=Hd hD1;clear hD1;go_wp2;go_ret;exact⟨rfl,HD1.out.wide _,hC1⟩
   ·have e1:S.write s l=(S,2):=by simp[DS.write,hd,hh,hl]
    rw[e1];have H0:=Hd h;obtain⟨hok,m,pv,hx⟩:=h;obtain⟨c0,c1,c2,c3,c4,c5,c6,f⟩:=hx.cells;rw[hd]at c6;obtain⟨a,cap,rfl,hcap,hr⟩:=hv;have hne:((l.length:Int)==256)=false:=by simp;omega
    have hne2:((l.length:Int)!=256)=true:=by simp;omega
    clear hx hok hd e1 hr hlim hl;go_enter Tryz.func78,Tryz.ntmps78;go_wp2_with (go_at_call 33;refine(DL s H0.out).mono ?_;rintro e w' ⟨rfl,rfl⟩)
    go_ret;exact⟨rfl,H0.out.wide _,Chg.refl _ _⟩
end Go.Proofs.YtplclpileejemaaGreatDoor
