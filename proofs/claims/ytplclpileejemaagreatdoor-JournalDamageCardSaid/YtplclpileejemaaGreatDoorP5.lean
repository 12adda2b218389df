/- Short form (wip/zpack.py) of the texts Rec10 Rec11 Rec12 Rec13 Rec14 Rec15. -/
import Derived.Test.YtplclpileejemaaGreatDoorP4
import Derived.DeepKeys
import Derived.ChangeSlices
import Derived.Laws.StructEq
set_option linter.all false
set_option maxRecDepth 100000
set_option maxHeartbeats 8000000
namespace Go.Proofs.YtplclpileejemaaGreatDoor
open Go.RowKit
variable {o:Oper}{a:Act}{Q:Exit→Act→World→Prop}{K:Act→World→Prop}{w:World}{F:Nat→Prop}
theorem Ej (s x:Operand) (ho:o.op=.call {callee:=.builtin .append,args:=#[s,x],argTypes:=#[30,30]})
 {B n m N:Nat} {v:Value} {F:Nat→Prop} {xs ys:List UInt8} {g off c:Nat} (hs:a.eval s=v) (hown:w.ownsRow B 5 1 v n (bvs xs)) (hx:a.eval x=.slice (some ⟨g,off,none⟩) m c)
 (hb:BytesAt w F (.slice (some ⟨g,off,none⟩) m c) ys) (hN:n+m=N) (h0:0<m) (hn:N<1000000000000) (hB:B≤w.heap.size)
 (h:∀a' cap' w',w'.ownsRow B 5 1 (.slice a' N cap') N (bvs (xs++ys))→w.grownBy w' v.ownBlock→K (a.put o.dst (.slice a' N cap')) w'):
 o.wp Tryz.prog a w K Q:=by
 subst hN;obtain⟨i0,hi,hz0,hz1,hz2⟩:=info_parts CX;obtain⟨rfl,_⟩:=hb.len;refine wp_append_lies _ s x 30 ho B 5 i0 _ 1 1 Tryz.underlying30 hi hz0 hz1 hz2 rfl (by decide) v n (bvs xs) hs hown
  ⟨g,off,none⟩ ys.length c (bvs ys) hx (by simp) ?_ Bc h0 (by unfold maxLen;omega) (by omega) hB _ rfl ?_
 ·obtain⟨xa,xc,e,_,hr⟩:=hb;intro j u hu;obtain⟨g',off',e',_,_,hr⟩:=hr (by intro e;rw[e]at hu;simp[bvs]at hu);cases e;cases e';have hadd:(⟨g,off,none⟩:Addr).add j=⟨g,off+j,none⟩:=by unfold Addr.add;split <;>simp_all
  rw[hadd];exact hr j u hu
 ·intro g' cap' w' hown' hgrow hat hlt;rw[←DK]at hown';exact h _ cap' w' hown' hgrow
theorem Oo (k g n i c:Nat) (l:List UInt8) (a:Option Addr) (len cap:Nat) (hv:BytesN w F (.slice a len cap) l) (hlen:l.length=len) (h4:len≤1000)
 (hk:k≤65535) (hg:g≤2147483647) (hn:n≤2147483647) (hi:i≤65535) (hc:c≤65535):
 Ca 102 #[.agg #[.int .i64 k,.int .i64 g,.int .i64 n,.int .i64 i,.int .i64 c,.slice a len cap]] w fun e w'=>
  ∃u,e=.returned u∧w'.ownsRow w.heap.size 5 1 u 256 (bvs (By ⟨k,g,n,i,c,l⟩))∧Below w.heap.size w w':=by
 obtain⟨w1,hw1⟩:=Xq (w.alloc (.cells #[.int .i64 k,.int .i64 g,.int .i64 n,.int .i64 i,.int .i64 c,.slice a len cap] 141));have hb1:=Lq hw1;have hs1:w1.heap.size=w.heap.size+1:=by rw[←hw1];simp
 have hx1:=Nq hw1 rfl;have hv1:=hv.below hb1;have hcell:∀w':World,Below w1.heap.size w1 w'→w'.cell? ⟨w.heap.size,0,none⟩=some (.int .i64 k)∧w'.cell? ⟨w.heap.size,1,none⟩=some (.int .i64 g)∧w'.cell? ⟨w.heap.size,2,none⟩=some (.int .i64 n)∧
  w'.cell? ⟨w.heap.size,3,none⟩=some (.int .i64 i)∧w'.cell? ⟨w.heap.size,4,none⟩=some (.int .i64 c)∧w'.cell? ⟨w.heap.size,5,none⟩=some (.slice a len cap):=by
  intro w' hb;have hh:=(hb.block w.heap.size (by omega)).trans hx1;refine⟨?_,?_,?_,?_,?_,?_⟩<;>(rw[cr hh];rfl)
 obtain⟨HW1,HB1,HS1,HV1,HCELL,HL⟩:=Hd6 hw1 hb1 hs1 hv1 hcell hlen;clear hv hw1 hb1 hs1 hx1 hv1 hcell hlen;go_enter Tryz.func102,Tryz.ntmps102;go_wp2_with fail;rw[HW1.out];refine Np ?_;refine AY 7 (Below w1.heap.size w1) (by kernel_rfl) ?_;have hS0:(Below w1.heap.size w1) w1.drew:=Rq.drew;refine tkF 0 hS0 ?_;refine Co 1 HCELL.out hS0 ?_;refine tkF 3 hS0 ?_;refine Co 4 HCELL.out hS0 ?_;refine dF 2 fun K hK=>?_
 go_simp;go_at_call 113;refine(DN g 4 (by omega) (by omega) _).mono ?_;rintro e x1 ⟨q1,rfl,hn1,hm1⟩;obtain⟨qa1,qc1,rfl⟩:=Ag hn1;obtain⟨qg1,rfl,_,_,_⟩:=Ed hn1 (by omega);have hS1:Below w1.heap.size w1 x1:=Tq hS0 hm1;refine Kq hK (fun _=>hS1) ?_;have ho1:=Am hn1 hS0.size;refine dF 5 fun K hK=>?_
 go_simp;go_at_call 113;refine(DN n 4 (by omega) (by omega) _).mono ?_;rintro e x2 ⟨q2,rfl,hn2,hm2⟩;obtain⟨qa2,qc2,rfl⟩:=Ag hn2;obtain⟨qg2,rfl,_,_,_⟩:=Ed hn2 (by omega);have hS2:Below w1.heap.size w1 x2:=Tq hS1 hm2;have ho2:=An ho1 hm2;refine Kq hK (fun _=>hS2) ?_;refine dF 6 fun K hK=>?_
 have hbq:=Dh hn2;refine Ej (n:=4) (m:=4) (N:=8) (.tmp 6) (.tmp 9) rfl rfl ho2 rfl hbq rfl (by omega) (by omega) hS2.size ?_;intro ra3 rc3 x3 ho3 hg3;clear hbq;have hS3:Below w1.heap.size w1 x3:=hS2.grown hg3 hS2.size (fun j hj=>(Ab ho2 j hj).1);refine Kq hK (fun _=>hS3) ?_;refine dF 7 fun K hK=>?_
 go_simp;refine hK _ _ (fun h=>absurd rfl h) ?_;refine eF ?_;have hoE:=ho3;have hSE:=hS3;have hoD:=An hoE (show Below x3.heap.size x3 x3.drew from Rq.drew);go_wp2_with fail;refine Np ?_;refine AY 9 (Below w1.heap.size w1) (by kernel_rfl) ?_;have hS0:(Below w1.heap.size w1) x3.drew:=hSE.drew;refine tkF 0 hS0 ?_;refine tkF 1 hS0 ?_;refine Co 2 HCELL.out hS0 ?_;refine tkF 5 hS0 ?_;refine Co 6 HCELL.out hS0 ?_;refine dF 3 fun K hK=>?_
 go_simp;go_at_call 113;refine(DN k 2 (by omega) (by omega) _).mono ?_;rintro e x4 ⟨q4,rfl,hn4,hm4⟩;obtain⟨qa4,qc4,rfl⟩:=Ag hn4;obtain⟨qg4,rfl,_,_,_⟩:=Ed hn4 (by omega);have hS20a:Below w1.heap.size w1 x4:=Tq hS0 hm4;have ho20a:=An hoD hm4;refine Kq hK (fun _=>hS20a) ?_;refine dF 4 fun K hK=>?_
 have hbq:=Dh hn4;refine Ej (n:=8) (m:=2) (N:=10) (.tmp 11) (.tmp 14) rfl rfl ho20a rfl hbq rfl (by omega) (by omega) hS20a.size ?_;intro ra5 rc5 x5 ho20b hg5;clear hbq;have hS20b:Below w1.heap.size w1 x5:=hS20a.grown hg5 hS20a.size (fun j hj=>(Ab ho20a j hj).1);refine Kq hK (fun _=>hS20b) ?_;refine dF 7 fun K hK=>?_
 go_simp;go_at_call 113;refine(DN i 2 (by omega) (by omega) _).mono ?_;rintro e x6 ⟨q6,rfl,hn6,hm6⟩;obtain⟨qa6,qc6,rfl⟩:=Ag hn6;obtain⟨qg6,rfl,_,_,_⟩:=Ed hn6 (by omega);have hS21a:Below w1.heap.size w1 x6:=Tq hS20b hm6;have ho21a:=An ho20b hm6;refine Kq hK (fun _=>hS21a) ?_;refine dF 8 fun K hK=>?_
 have hbq:=Dh hn6;refine Ej (n:=10) (m:=2) (N:=12) (.tmp 15) (.tmp 18) rfl rfl ho21a rfl hbq rfl (by omega) (by omega) hS21a.size ?_;intro ra7 rc7 x7 ho21b hg7;clear hbq;have hS21b:Below w1.heap.size w1 x7:=hS21a.grown hg7 hS21a.size (fun j hj=>(Ab ho21a j hj).1);refine Kq hK (fun _=>hS21b) ?_;refine dF 9 fun K hK=>?_
 go_simp;refine hK _ _ (fun h=>absurd rfl h) ?_;refine eF ?_;clear hoE hSE;have hoE:=ho21b;have hSE:=hS21b;have hoD:=An hoE (show Below x7.heap.size x7 x7.drew from Rq.drew);go_wp2_with fail;refine Np ?_;refine AY 10 (Below w1.heap.size w1) (by kernel_rfl) ?_;have hS0:(Below w1.heap.size w1) x7.drew:=hSE.drew;refine tkF 0 hS0 ?_;refine tkF 1 hS0 ?_;refine Co 2 HCELL.out hS0 ?_;refine tkF 5 hS0 ?_;refine Co 6 HCELL.out hS0 ?_;refine tkF 7 hS0 ?_;refine dF 3 fun K hK=>?_
 go_simp;go_at_call 113;refine(DN c 2 (by omega) (by omega) _).mono ?_;rintro e x8 ⟨q8,rfl,hn8,hm8⟩;obtain⟨qa8,qc8,rfl⟩:=Ag hn8;obtain⟨qg8,rfl,_,_,_⟩:=Ed hn8 (by omega);have hS30a:Below w1.heap.size w1 x8:=Tq hS0 hm8;have ho30a:=An hoD hm8;refine Kq hK (fun _=>hS30a) ?_;refine dF 4 fun K hK=>?_
 have hbq:=Dh hn8;refine Ej (n:=12) (m:=2) (N:=14) (.tmp 20) (.tmp 23) rfl rfl ho30a rfl hbq rfl (by omega) (by omega) hS30a.size ?_;intro ra9 rc9 x9 ho30b hg9;clear hbq;have hS30b:Below w1.heap.size w1 x9:=hS30a.grown hg9 hS30a.size (fun j hj=>(Ab ho30a j hj).1);refine Kq hK (fun _=>hS30b) ?_;refine dF 8 fun K hK=>?_
 go_simp;go_at_call 113;refine(DN len 2 (by omega) (by omega) _).mono ?_;rintro e x10 ⟨q10,rfl,hn10,hm10⟩;obtain⟨qa10,qc10,rfl⟩:=Ag hn10;obtain⟨qg10,rfl,_,_,_⟩:=Ed hn10 (by omega);have hS31a:Below w1.heap.size w1 x10:=Tq hS30b hm10;have ho31a:=An ho30b hm10;refine Kq hK (fun _=>hS31a) ?_;refine dF 9 fun K hK=>?_
 have hbq:=Dh hn10;refine Ej (n:=14) (m:=2) (N:=16) (.tmp 24) (.tmp 28) rfl rfl ho31a rfl hbq rfl (by omega) (by omega) hS31a.size ?_;intro ra11 rc11 x11 ho31b hg11;clear hbq;have hS31b:Below w1.heap.size w1 x11:=hS31a.grown hg11 hS31a.size (fun j hj=>(Ab ho31a j hj).1);refine Kq hK (fun _=>hS31b) ?_;refine dF 10 fun K hK=>?_
 go_simp;refine hK _ _ (fun h=>absurd rfl h) ?_;refine eF ?_;clear hoE hSE;have hoE:=ho31b;have hSE:=hS31b;have hh:x11.ownsRow w1.heap.size 5 1 (.slice ra11 16 rc11) 16 (bvs (CZ ⟨k,g,n,i,c,l⟩)):=by have h:=hoE;rw[←HL.out]at h;exact h
 obtain⟨z0,z1,z2,z3,z4,z5⟩:=HCELL.out _ hSE;have hvE:=HV1.out.below hSE;have hbE:=Tq HB1.out hSE;obtain⟨HH,HVE,HBE,HSE⟩:=Hd4 hh hvE hbE hSE;clear hoE hh hvE hbE hSE z0 z1 z2 z3 z4;go_wp2_with (at_builtin;refine BR rfl (.tmp 30) (.tmp 32) rfl rfl HH.out rfl HVE.out.at_ HVE.out.nil ?hn HSE.out.size ?_)
 case hn=>rw[HL.out];omega
 intro a8 cap8 w8 hO8 hg8;have hB8:Below w1.heap.size w1 w8:=HSE.out.grown hg8 HSE.out.size (fun j hj=>(Ab HH.out j hj).1);rw[HL.out]at hO8⊢;have hseal:=QB _ _ (Bk hO8) (by simp[HL.out];omega);have hB9:=Tq HB1.out hB8;have HSEAL:=Hd hseal;have HB9:=Hd hB9;clear hO8 hg8 hB8 hseal hB9;go_wp2_with fail;refine HSEAL.out.mono ?_;rintro e w9 ⟨u,rfl,hO9,hB9⟩;have HO9:=Hd (Am hO9 HB9.out.size);have HBB:=Hd (Tq HB9.out hB9);clear hO9 hB9;go_wp2_with fail;go_ret;exact⟨_,rfl,HO9.out,HBB.out⟩
variable {l:List UInt8}{i B n s b:Nat}{v:Value}{P:Program}{ops:Array Oper}
theorem Hz (p:PartD) (a:Option Addr) (len cap:Nat) (h:p.bytes.length=len) (w:World):Ca 100 #[.agg #[.int .i64 p.kind,.int .i64 p.gen,.int .i64 p.num,.int .i64 p.idx,.int .i64 p.cnt,.slice a len cap]] w fun e w'=>e=.returned (.int .i64 (B8 p))∧Below w.heap.size w w':=by subst h;exact Oh p.kind p.gen p.num p.idx p.cnt a p.bytes.length cap w
theorem RE {m:List UInt8} (hi:i<16) (h:(BI m)[i]?≠l[i]?):A3 m≠l.take 16:=by intro e;apply h;have:=congrArg (·[i]?) e;simp only[A3,List.getElem?_take]at this;rwa [Ip hi,Ip hi]at this
theorem RF {m:List UInt8} (h:∀j,j<16→(BI m)[j]?=l[j]?):A3 m=l.take 16:=by
 apply List.ext_getElem?;intro j;simp only[A3,List.getElem?_take];by_cases hj:j<16
 ·rw[Ip hj,Ip hj];exact h j hj
 ·rw[In hj,In hj]
theorem H6 (s x:Operand) (ho:o.op=.call {callee:=.builtin .append,args:=#[s,x],argTypes:=#[30,30]})
 {B n m:Nat} {v:Value} {F:Nat→Prop} {xs ys:List UInt8} {g off c:Nat} (hs:a.eval s=v) (hown:w.ownsRow B 5 1 v n (bvs xs)) (hx:a.eval x=.slice (some ⟨g,off,none⟩) m c)
 (hb:BytesAt w F (.slice (some ⟨g,off,none⟩) m c) ys) (hN:n+ys.length=n+m) (hn:n+m<1000000000000) (hB:B≤w.heap.size)
 (h:∀a' cap' w',w'.ownsRow B 5 1 (.slice a' (n+m) cap') (n+m) (bvs (xs++ys))→w.grownBy w' v.ownBlock→K (a.put o.dst (.slice a' (n+m) cap')) w'):
 o.wp Tryz.prog a w K Q:=by
 obtain⟨i0,hi,hz0,hz1,hz2⟩:=info_parts CX;obtain⟨rfl,_⟩:=hb.len;refine wp_append_own _ s x 30 ho B 5 i0 _ 1 1 Tryz.underlying30 hi hz0 hz1 hz2 rfl (by decide) v n (bvs xs) hs hown
  ⟨g,off,none⟩ ys.length c (bvs ys) hx (by simp) ?_ Bc (by unfold maxLen;omega) (by omega) hB ?_
 ·obtain⟨xa,xc,e,_,hr⟩:=hb;intro j u hu;obtain⟨g',off',e',_,_,hr⟩:=hr (by intro e;rw[e]at hu;simp[bvs]at hu);cases e;cases e';have hadd:(⟨g,off,none⟩:Addr).add j=⟨g,off+j,none⟩:=by unfold Addr.add;split <;>simp_all
  rw[hadd];exact hr j u hu
 ·intro v' w' hown' hgrow _;rw[←DK]at hown';obtain⟨a',cap',rfl⟩:=Ag hown';exact h a' cap' w' hown' hgrow
theorem Da {T1 T2:TypeId}{xs:List Value}{c:Array Value}{fr:Nat×Nat} (h:w.ownsRow B T1 s v n xs) (hb:w.heap[b]?=some (.cells c T2 fr)) (hne:T1≠T2):∀k,v.ownBlock=some k→k≠b:=by
 intro k hk e;subst e;rcases h.2 with⟨rfl,_⟩| ⟨g,cap,cur,rfl,_,hg,_⟩
 ·cases hk
 ·cases hk;rw[hg]at hb;cases hb;exact hne rfl
theorem D3 {S:World→Prop} (hg:o.guard=none) (h:∀w,S w→o.quietAt P a (fun x=>x=w) w v):YieldsC P ops S o v a:=
 ⟨by simp[Region.wanted,hg],h⟩
theorem M3 (l:List UInt8) (a:Option Addr) (n cap:Nat) (hl:l.length=n) (h:n≠256):
 Ca 80 #[.slice a n cap] w (DecPost w l):=by
 by_cases h1:n<256
 ·have hd:Al l=4:=by unfold Al;rw[Ip (by omega)]
  have HD:=Hd hd;clear hd hl h;go_enter Tryz.func80,Tryz.ntmps80;go_wp2_with fail;exact Bv (.tuple #[.agg #[.int .i64 0,.int .i64 0,.int .i64 0,.int .i64 0,.int .i64 0,.slice none 0 0],.int .i64 4]) (DecPost.no HD.out (by decide) (Rq.alloc Lr _))
 ·have h2:256<n:=by omega
  have hd:Al l=5:=by unfold Al;rw[In (by omega),Ip (by omega)]
  have HD:=Hd hd;have h1':256≤n:=by omega
  clear hd hl h h1;go_enter Tryz.func80,Tryz.ntmps80;go_wp2_with fail;exact Bv (.tuple #[.agg #[.int .i64 0,.int .i64 0,.int .i64 0,.int .i64 0,.int .i64 0,.slice none 0 0],.int .i64 5]) (DecPost.no HD.out (by decide) (Rq.alloc Lr _))
theorem L7 (l:List UInt8) (g off cap:Nat) {F:Nat→Prop} (hv:BytesAt w F (.slice (some ⟨g,off,none⟩) 256 cap) l) (hl:l.length=256):
 Ca 80 #[.slice (some ⟨g,off,none⟩) 256 cap] w (DecPost w l):=by
 obtain⟨-,hcap⟩:=hv.len;have hc16:¬cap=16:=by omega
 have hi16:(16:Int)≤(cap:Int):=by omega
 have hc20:¬cap=20:=by omega
 have hi20:(20:Int)≤(cap:Int):=by omega
 have hc24:¬cap=24:=by omega
 have hi24:(24:Int)≤(cap:Int):=by omega
 have hc26:¬cap=26:=by omega
 have hi26:(26:Int)≤(cap:Int):=by omega
 have hc28:¬cap=28:=by omega
 have hi28:(28:Int)≤(cap:Int):=by omega
 have hc30:¬cap=30:=by omega
 have hi30:(30:Int)≤(cap:Int):=by omega
 have hc32:¬cap=32:=by omega
 have hi32:(32:Int)≤(cap:Int):=by omega
 obtain⟨w1,hw1⟩:=Xq (w.alloc (.cells #[.int .i64 0,.int .i64 0,.int .i64 0,.int .i64 0,.int .i64 0,.slice none 0 0] 141));have hb1:Below w.heap.size w w1:=hw1▸(Below.refl _ w).alloc Lr _;have hs1:w1.heap.size=w.heap.size+1:=by rw[←hw1];simp
 have hR1:=Nq hw1 rfl;have hl1:=hv.here.below hb1;rw[←hl]at hl1;have hl2:=hl1.part 16 240 (cap-16) (by omega) (by omega);rw[List.take_of_length_le (by simp;omega)]at hl2;have hsum:=L6 (l.drop 16) _ hl2.n (by simp;omega);obtain⟨HSUM,HV,HL,HW1,HB1,HS1,HR1⟩:=Hd7 hsum hv hl hw1 hb1 hs1 hR1;clear hsum hv hl hw1 hb1 hs1 hR1 hl1 hl2;go_enter Tryz.func80,Tryz.ntmps80;go_wp2_with fail;rw[HW1.out];refine HSUM.out.mono ?_;rintro e w2 ⟨rfl,hb2⟩;obtain⟨w3,hw3⟩:=Xq (w2.alloc (.cells (bvs (BI (l.drop 16))).toArray 171));have hb3:=Lq hw3;have hs1:=HS1.out;have hq2:=hb2.size;have hR3:=(hb3.block w.heap.size (by omega)).trans ((hb2.block w.heap.size (by omega)).trans HR1.out);have hD3:=Nq hw3 rfl;have hnw:=heap_alloc_new w2 (.cells Z32 171);have hsz:=NE (l.drop 16);have hzs:=NF (l.drop 16);have hbd3:=(Tq HB1.out hb2).trans (hb3.mono (Nt HB1.out.size hb2.size));have hl3:=HV.out.here.below hbd3;obtain⟨HSZ,HZS,HNW,HW3,HR3,HD3,HBD,HL3⟩:=Hd8 hsz hzs hnw hw3 hR3 hD3 hbd3 hl3;have hq3:w.heap.size<w3.heap.size:=(Ax hR3).1;clear hb2 hw3 hb3 hs1 hq2 hR3 hD3 hnw hsz hzs hbd3 hl3;go_wp2_with (with_reducible refine wpList_store_row rfl 171 _ _ rfl w2.heap.size (bvs (BI (l.drop 16))).toArray rfl rfl 171 _ HNW.out HSZ.out HZS.out (Bb _) ?_;rw[World.setRow_alloc_new,HW3.out])
 clear HNW HSZ HZS HW3;go_loopw [5] (fun iv wr=>∃i:Nat,i≤16∧iv=.int .i64 i∧(∀j,j<i→(BI (l.drop 16))[j]?=l[j]?)∧Below w3.heap.size w3 wr) (fun iv _=>16-(intOf iv).toNat)
 case atStart=>exact⟨0,Nat.zero_le _,rfl,fun j hj=>by omega,Rq⟩
 case round=>
  obtain⟨i,hi,rfl,hj,hB⟩:=hrel;have HJ:=Hd hj;have HB:=Hd hB;have hRr:=(hB.block w.heap.size hq3).trans HR3.out;have HRr:=Hd hRr;clear hj hRr;by_cases hlt:i<16
  ·have hlr:=HL3.out.below hB;have hil:i<l.length:=by rw[HL.out];omega
   have his:i<(BI (l.drop 16)).length:=by simp;omega
   rw[←HL.out]at hlr;obtain⟨g',off',e,hcb⟩:=hlr.get hil;cases e;have hDr:=(hB.block w2.heap.size (Ax HD3.out).1).trans HD3.out;have hcd:wr.cell? ⟨w2.heap.size,i,none⟩=some (.int .u8 ((BI (l.drop 16))[i].toNat:Int)):=by rw[cr hDr,List.getElem?_toArray,AE,List.getElem?_eq_getElem his];rfl
   have hi256:(i:Int)<(256:Int):=by omega
   have hi32:(i:Int)<(32:Int):=by omega
   have hgX:(BI (l.drop 16))[i]?=some (BI (l.drop 16))[i]:=List.getElem?_eq_getElem his;have hgY:l[i]?=some l[i]:=List.getElem?_eq_getElem hil;by_cases hx:(BI (l.drop 16))[i]=l[i]
   ·rw[hx]at hcd hgX;have hne:((l[i].toNat:Int)!=(l[i].toNat:Int))=false:=by simp
    have hst:∀j,j<i+1→(BI (l.drop 16))[j]?=l[j]?:=fun j hj2=>by
     by_cases e:j=i
     ·subst e;rw[hgX,hgY]
     ·exact HJ.out j (by omega)
    have HST:=Hd hst;obtain⟨Y,hY⟩:=Xq (l[i].toNat);rw[hY]at hcd hcb hne;clear hst hgX hgY hx hDr hlr hB hY;go_wp2_with fail;go_quiet (fail);go_wp2_with fail;go_roundw
    case rel=>exact⟨i+1,by omega,by go_num,HST.out,HB.out.trans (Dz _ _ _)⟩
    case measure=>simp[intOf];omega
   ·have hne:(((BI (l.drop 16))[i].toNat:Int)!=(l[i].toNat:Int))=true:=by simp only[bne_iff_ne,ne_eq];intro e;exact hx (UInt8.toNat_inj.1 (by omega))
    have hdec:=LV HL.out (RE hlt (by rw[hgX,hgY];simpa using hx));have HDEC:=Hd hdec;obtain⟨Y,hY⟩:=Xq (l[i].toNat);obtain⟨X,hX⟩:=Xq ((BI (l.drop 16))[i].toNat);rw[hY]at hcb hne;rw[hX]at hcd hne;clear hgX hgY hx hDr hlr hB hY hX hdec;go_wp2_with fail;go_quiet (fail);have hBq:Below w.heap.size w (wr.drewN nq):=(Tq HBD.out HB.out).trans (Dz _ _ _);have HBQ:=Hd hBq;have hRq:(wr.drewN nq).heap[w.heap.size]?=some (.cells #[.int .i64 0,.int .i64 0,.int .i64 0,.int .i64 0,.int .i64 0,.slice none 0 0] 141 (0,0)):=HRr.out;have hrf:∀j:Nat,wr.frozen? ⟨w.heap.size,j,none⟩=false:=fun j=>frozen_of_row _ _ _ _ _ HRr.out
    have hy0:=Cq HRr.out 0;have hy1:=Cq HRr.out 1;have hy2:=Cq HRr.out 2;have hy3:=Cq HRr.out 3;have hy4:=Cq HRr.out 4;have hy5:=Cq HRr.out 5;clear hBq hRq;go_wp2_with fail;exact Bv (hr:=by simp[go_sem,hy0,hy1,hy2,hy3,hy4,hy5]) (.tuple #[.agg #[.int .i64 0,.int .i64 0,.int .i64 0,.int .i64 0,.int .i64 0,.slice none 0 0],.int .i64 22]) (DecPost.no HDEC.out (by decide) ((((((HBQ.out.setCell Lr _).setCell Lr _).setCell Lr _).setCell Lr _).setCell Lr _).setCell Lr _))
  ·obtain rfl :i=16:=by omega
   have hsum:=RF HJ.out;have hlr:=HL3.out.below hB;rw[←HL.out]at hlr;have hlv:=hlr.part 30 2 (cap-30) (by rw[HL.out];omega) (by omega);have hval:=KA hlv (by simp;omega);obtain⟨sz,hsz⟩:=Xq (Ae ((l.drop 30).take 2));rw[hsz]at hval;have hszq:szL l=sz:=hsz;have hszb:sz≤65535:=by have h1:=FE ((l.drop 30).take 2);have h2:((l.drop 30).take 2).length=2:=(List.length_take ..).trans (by rw[List.length_drop,HL.out];rfl);rw[hsz,h2]at h1;omega
   have hdE:Al l=(if szL l≤224∧BA (l.drop (32+szL l))=true∧B8 (Bn l)=0 then 0 else 3):=by unfold Al;rw[In (by rw[HL.out];omega),In (by rw[HL.out];omega),In (by rw[hsum];simp)]
   have hbdr:=Tq HBD.out hB;have hlrh:=HL3.out.below hB;obtain⟨HDE,HVAL,HSZQ,HBR,HLR⟩:=Hd5 hdE hval hszq hbdr hlrh;have hqr:w.heap.size<wr.heap.size:=(Ax HRr.out).1;clear hsum hlr hlv hval hsz hszq hdE hbdr hlrh hB HJ HD3 HR3 HBD HL3;go_wp2_with fail;refine HVAL.out.mono ?_;rintro e v' ⟨rfl,rfl⟩;by_cases h224:224<sz
   ·have h3:Al l=3:=by rw[HDE.out,In (by rw[HSZQ.out];omega)]
    have HD3:=Hd h3;have hrf:∀j:Nat,wr.frozen? ⟨w.heap.size,j,none⟩=false:=fun j=>frozen_of_row _ _ _ _ _ HRr.out
    clear h3;have hy0:=Cq HRr.out 0;have hy1:=Cq HRr.out 1;have hy2:=Cq HRr.out 2;have hy3:=Cq HRr.out 3;have hy4:=Cq HRr.out 4;have hy5:=Cq HRr.out 5;go_wp2_with fail;exact Bv (hr:=by simp[go_sem,hy0,hy1,hy2,hy3,hy4,hy5]) (.tuple #[.agg #[.int .i64 0,.int .i64 0,.int .i64 0,.int .i64 0,.int .i64 0,.slice none 0 0],.int .i64 3]) (DecPost.no HD3.out (by decide) ((((((HBR.out.setCell Lr _).setCell Lr _).setCell Lr _).setCell Lr _).setCell Lr _).setCell Lr _))
   ·have h224':sz≤224:=by omega
    have hw32:=Iw (32+(sz:Int));have hge32:(32:Int)≤32+(sz:Int):=by omega
    have htn:(32+(sz:Int)).toNat=32+sz:=by omega
    have hsb:32+sz-32=sz:=by omega
    have hi32s:(32:Int)+(sz:Int)≤(cap:Int):=by omega
    clear h224;have hsegl:(seg l 32 sz).length=sz:=GO _ _ _ (by rw[HL.out];omega);have hrb:(Bn l).bytes=seg l 32 sz:=by unfold Bn;rw[HSZQ.out]
    have HSEG:=Hd hsegl;have HRB:=Hd hrb;clear hsegl hrb;have hV:∀(lo n:Nat) (w':World),lo+n≤256→n≤4→Below wr.heap.size wr w'→Ca 99 #[.slice (some ⟨g,off+lo,none⟩) n (cap-lo)] w' (fun e w''=>e=.returned (.int .i64 (Ae (seg l lo n):Int))∧w''=w'):=by intro lo n w' h1 h2 hb;have hlx:=HLR.out.below hb;rw[←HL.out]at hlx;have hly:=hlx.part lo n (cap-lo) (by rw[HL.out];exact h1) (by omega);exact(KA hly (by rw[List.length_take];omega)).mono fun e w'' ⟨a,b⟩=>⟨a,b.symm⟩
    have HV2:=Hd hV;clear hV;go_wp2_with fail;refine Np ?_;refine AY 23 (Below wr.heap.size wr) (by kernel_rfl) ?_;have hS0:(Below wr.heap.size wr) wr.drew:=Rq.drew;obtain⟨wd,hwd⟩:=Xq (wr.drew);rw[hwd]at hS0⊢;clear hwd;refine tkF 0 hS0 ?_;refine tkF 1 hS0 ?_;refine tkF 3 hS0 ?_;refine tkF 4 hS0 ?_;refine tkF 6 hS0 ?_;refine tkF 7 hS0 ?_;refine tkF 9 hS0 ?_;refine tkF 10 hS0 ?_;refine tkF 12 hS0 ?_;refine tkF 13 hS0 ?_;refine tkF 16 hS0 ?_;refine tkF 17 hS0 ?_;refine tkF 18 hS0 ?_ (v:=(.int .i64 (32+(sz:Int))));refine tkF 19 hS0 ?_ (v:=(.slice (some ⟨g,off+32,none⟩) sz (cap-32)));refine DB (i:=2) (fin:=23) (v:=.int .i64 (Ae (seg l 16 4):Nat)) rfl (by kernel_rfl) (by kernel_rfl) (by kernel_rfl) (by kernel_rfl) (fun _ _ _ h=>h) (D3 rfl (fun w' hw'=>?yc2)) hS0 ?_
    case yc2=>
     have hcall:=HV2.out 16 4 w' (by omega) (by omega) hw';clear hw';unfold Oper.quietAt;go_simp
     try exact hcall
    simp only[P0,P1,P2,P3,P4];refine DB (i:=5) (fin:=23) (v:=.int .i64 (Ae (seg l 20 4):Nat)) rfl (by kernel_rfl) (by kernel_rfl) (by kernel_rfl) (by kernel_rfl) (fun _ _ _ h=>h) (D3 rfl (fun w' hw'=>?yc5)) hS0 ?_
    case yc5=>
     have hcall:=HV2.out 20 4 w' (by omega) (by omega) hw';clear hw';unfold Oper.quietAt;go_simp
     try exact hcall
    simp only[P0,P1,P2,P3,P4];refine DB (i:=8) (fin:=23) (v:=.int .i64 (Ae (seg l 24 2):Nat)) rfl (by kernel_rfl) (by kernel_rfl) (by kernel_rfl) (by kernel_rfl) (fun _ _ _ h=>h) (D3 rfl (fun w' hw'=>?yc8)) hS0 ?_
    case yc8=>
     have hcall:=HV2.out 24 2 w' (by omega) (by omega) hw';clear hw';unfold Oper.quietAt;go_simp
     try exact hcall
    simp only[P0,P1,P2,P3,P4];refine DB (i:=11) (fin:=23) (v:=.int .i64 (Ae (seg l 26 2):Nat)) rfl (by kernel_rfl) (by kernel_rfl) (by kernel_rfl) (by kernel_rfl) (fun _ _ _ h=>h) (D3 rfl (fun w' hw'=>?yc11)) hS0 ?_
    case yc11=>
     have hcall:=HV2.out 26 2 w' (by omega) (by omega) hw';clear hw';unfold Oper.quietAt;go_simp
     try exact hcall
    simp only[P0,P1,P2,P3,P4];refine DB (i:=14) (fin:=23) (v:=.int .i64 (Ae (seg l 28 2):Nat)) rfl (by kernel_rfl) (by kernel_rfl) (by kernel_rfl) (by kernel_rfl) (fun _ _ _ h=>h) (D3 rfl (fun w' hw'=>?yc14)) hS0 ?_
    case yc14=>
     have hcall:=HV2.out 28 2 w' (by omega) (by omega) hw';clear hw';unfold Oper.quietAt;go_simp
     try exact hcall
    simp only[P0,P1,P2,P3,P4];refine Jq (i:=15) (j:=22) (by kernel_rfl) rfl rfl rfl rfl (fun K hK=>?_) (fun K hK=>?_)
    ·skip
     go_simp;obtain⟨eqa,heqa⟩:=Xq (wd.alloc (.cells #[] 5));have hseqa:Below wr.heap.size wr eqa:=heqa▸hS0.alloc hS0.size _;have hoeqa:eqa.ownsRow wr.heap.size 5 1 (.slice (some ⟨wd.heap.size,0,none⟩) 0 0) 0 (bvs []):=heqa▸Dy hS0.size 5
     try rw[heqa]
     refine Kq hK (fun _=>hseqa) ?_;refine Jq (i:=20) (j:=22) (by kernel_rfl) rfl rfl rfl rfl (fun K hK=>?_) (fun K hK=>?_)
     ·skip
      have hlx:=HLR.out.below hseqa;rw[←HL.out]at hlx;have hly:BytesAt eqa (fun k=>k<w.heap.size) (.slice (some ⟨g,off+32,none⟩) sz (cap-32)) (seg l 32 sz):=hlx.part 32 sz (cap-32) (by rw[HL.out];omega) (by omega);refine H6 (.tmp 54) (.tmp 58) rfl rfl hoeqa rfl hly (by rw[HSEG.out]) (by omega) hseqa.size ?_;intro aaqaa acqaa aqaa hoaqaa hgaqaa;rw[List.nil_append]at hoaqaa;simp only[Nat.zero_add]at hoaqaa⊢;have hsaqaa:Below wr.heap.size wr aqaa:=hseqa.grown hgaqaa hseqa.size (fun j hj=>(Ab hoeqa j hj).1);clear hlx hly;refine Kq hK (fun _=>hsaqaa) ?_;refine tkF 21 hsaqaa ?_;refine dF 22 fun K hK=>?_
      go_simp;obtain⟨pqaad,hpqaad⟩:=Xq (aqaa.alloc (.cells #[.int .i64 0,.int .i64 0,.int .i64 0,.int .i64 0,.int .i64 0,.slice none 0 0] 141));have hspqaad:Below wr.heap.size wr pqaad:=hpqaad▸hsaqaa.alloc hsaqaa.size _;have hpbqaad:=Lq hpqaad;have hpnqaad:=Nq hpqaad rfl;have hplqaad:wr.heap.size≤aqaa.heap.size:=hsaqaa.size
      try rw[hpqaad]
      refine Kq hK (fun _=>hspqaad) ?_;have hTBqaad:=hpnqaad;have hTLqaad:=hplqaad;have hOOqaad:=An hoaqaa hpbqaad;have hNEqaad:=Da hOOqaad hTBqaad (by decide);refine dF 23 fun K hK=>?_
      have hzf:∀j:Nat,pqaad.frozen? ⟨aqaa.heap.size,j,none⟩=false:=fun j=>frozen_of_row _ _ _ _ _ hTBqaad
      have hzc0:=Cq hTBqaad 0;have hzc1:=Cq hTBqaad 1;have hzc2:=Cq hTBqaad 2;have hzc3:=Cq hTBqaad 3;have hzc4:=Cq hTBqaad 4;have hzc5:=Cq hTBqaad 5;have hTl:wr.heap.size≤aqaa.heap.size:=hTLqaad;have hTs:=(Ax hTBqaad).1;go_simp;obtain⟨zqaad,hzqaad⟩:=Xq (((((((pqaad.setCell ⟨aqaa.heap.size,0,none⟩ (.int .i64 (Ae (seg l 24 2):Nat))).setCell ⟨aqaa.heap.size,1,none⟩ (.int .i64 (Ae (seg l 16 4):Nat))).setCell ⟨aqaa.heap.size,2,none⟩ (.int .i64 (Ae (seg l 20 4):Nat))).setCell ⟨aqaa.heap.size,3,none⟩ (.int .i64 (Ae (seg l 26 2):Nat))).setCell ⟨aqaa.heap.size,4,none⟩ (.int .i64 (Ae (seg l 28 2):Nat))).setCell ⟨aqaa.heap.size,5,none⟩ (.slice aaqaa sz acqaa)));have hcz:Chg (fun k=>k=aqaa.heap.size) pqaad zqaad:=hzqaad▸EF _ _ _ _ _ _ _ _;have hszqaad:Below wr.heap.size wr zqaad:=hspqaad.trans (hcz.below (fun k h=>by have:k=aqaa.heap.size:=h;omega) hspqaad.size);have hTzqaad:zqaad.heap[aqaa.heap.size]?=some (.cells #[.int .i64 (Ae (seg l 24 2):Nat),.int .i64 (Ae (seg l 16 4):Nat),.int .i64 (Ae (seg l 20 4):Nat),.int .i64 (Ae (seg l 26 2):Nat),.int .i64 (Ae (seg l 28 2):Nat),.slice aaqaa sz acqaa] 141 (0,0)):=by rw[←hzqaad];exact Sc _ _ 5 _ _ _ (Sc _ _ 4 _ _ _ (Sc _ _ 3 _ _ _ (Sc _ _ 2 _ _ _ (Sc _ _ 1 _ _ _ (Sc _ _ 0 _ _ _ hTBqaad)))))
      have hozqaad:zqaad.ownsRow wr.heap.size 5 1 (.slice aaqaa sz acqaa) sz (bvs (seg l 32 sz)):=AJ hOOqaad hcz (fun k hk h=>by have:k=aqaa.heap.size:=h;exact hNEqaad k hk this)
      try rw[hzqaad]
      clear hzf hzc0 hzc1 hzc2 hzc3 hzc4 hzc5 hcz;refine hK _ _ (fun h=>absurd rfl h) ?_;refine eF ?_;have hTZ:=hTzqaad;have hbz:Below w.heap.size w zqaad:=Tq HBR.out hszqaad;have hRz:=(hszqaad.block w.heap.size hqr).trans HRr.out;have ht0:=Cq hTZ 0;have ht1:=Cq hTZ 1;have ht2:=Cq hTZ 2;have ht3:=Cq hTZ 3;have ht4:=Cq hTZ 4;have ht5:=Cq hTZ 5;obtain⟨HTZ,HRZ,HBZ,HOZ,HSZZ⟩:=Hd5 hTZ hRz hbz hozqaad hszqaad;clear hTZ hRz hbz hozqaad hszqaad hTzqaad hzqaad;have hchk:Ca 100 #[.agg #[.int .i64 (Ae (seg l 24 2):Nat),.int .i64 (Ae (seg l 16 4):Nat),.int .i64 (Ae (seg l 20 4):Nat),.int .i64 (Ae (seg l 26 2):Nat),.int .i64 (Ae (seg l 28 2):Nat),.slice aaqaa sz acqaa]] zqaad (fun e w'=>e=.returned (.int .i64 (B8 (Bn l)))∧Below zqaad.heap.size zqaad w'):=Hz (Bn l) aaqaa sz acqaa (by rw[HRB.out];exact HSEG.out) zqaad;have HCHK:=Hd hchk;clear hchk;go_wp2_with fail;refine HCHK.out.mono ?_;rintro e y ⟨rfl,hY⟩;have hTy:=Bq hY HTZ.out;have hRy:=Bq hY HRZ.out;have hby:=Tq HBZ.out hY;have hsy:=Tq HSZZ.out hY;have hly:=HLR.out.below hsy;have hoy:=An HOZ.out hY;have hrf:∀j:Nat,y.frozen? ⟨w.heap.size,j,none⟩=false:=fun j=>frozen_of_row _ _ _ _ _ hRy
      have hy0:=Cq hRy 0;have hy1:=Cq hRy 1;have hy2:=Cq hRy 2;have hy3:=Cq hRy 3;have hy4:=Cq hRy 4;have hy5:=Cq hRy 5;obtain⟨HTY,HBY,HLY,HOY⟩:=Hd4 hTy hby hly hoy;clear hY hTy hRy hby hsy hly hoy ht0 ht1 ht2 ht3 ht4 ht5;by_cases hk:B8 (Bn l)=0
      ·have hk2:(B8 (Bn l)!=0)=false:=by simp[hk]
       have HK:=Hd hk;clear hk;go_wp2_with fail;go_loop [8] (fun iv=>∃i:Nat,32+sz+i≤256∧iv=.int .i64 ((32:Int)+(sz:Int)+(i:Int))∧BA ((l.drop (32+sz)).take i)=true) (fun iv=>(256-intOf iv).toNat)
       case atStart=>exact⟨0,by omega,by simp,rfl⟩
       case round=>
        obtain⟨i,hi,rfl,hz⟩:=hrel;have HZ:=Hd hz;clear hz;have htn2:((32:Int)+(sz:Int)+(i:Int)).toNat=32+sz+i:=by omega
        have hge0:(0:Int)≤(32:Int)+(sz:Int)+(i:Int):=by omega
        by_cases hlt:32+sz+i<256
        ·have hltI:(32:Int)+(sz:Int)+(i:Int)<(256:Int):=by omega
         have hil:32+sz+i<l.length:=by rw[HL.out];exact hlt
         have hly:=HLY.out;rw[←HL.out]at hly;obtain⟨g',off',e,hcb⟩:=hly.get hil;cases e;have hdl:i<(l.drop (32+sz)).length:=by rw[List.length_drop];omega
         have hde:(l.drop (32+sz))[i]=l[32+sz+i]:=List.getElem_drop ..;by_cases hx:l[32+sz+i]=0
         ·have h0:l[32+sz+i].toNat=0:=by rw[hx];rfl
          rw[h0]at hcb;have hz2:BA ((l.drop (32+sz)).take (i+1))=true:=by rw[Fu _ i hdl,HZ.out,hde,hx];rfl
          have HZ2:=Hd hz2;clear hz2 h0 hx hde hdl hly;go_wp2_with fail;go_round
          case rel=>exact⟨i+1,by omega,by go_num,HZ2.out⟩
          case measure=>simp[intOf];omega
         ·have hz2:=Fv _ i hdl (by rw[hde];exact hx);have hn0:((l[32+sz+i].toNat:Int)!=0)=true:=by simp only[bne_iff_ne,ne_eq];intro e;exact hx (UInt8.toNat_inj.1 (by simpa using e))
          have h3:Al l=3:=by rw[HDE.out,In (fun h=>by rw[HSZQ.out,hz2]at h;exact absurd h.2.1 (by simp))]
          have HD3:=Hd h3;obtain⟨X,hX⟩:=Xq (l[32+sz+i].toNat);rw[hX]at hcb hn0;clear hz2 hx hde hdl hly h3 hX;go_wp2_with fail;exact Bv (hr:=by simp[go_sem,hy0,hy1,hy2,hy3,hy4,hy5]) (.tuple #[.agg #[.int .i64 0,.int .i64 0,.int .i64 0,.int .i64 0,.int .i64 0,.slice none 0 0],.int .i64 3]) (DecPost.no HD3.out (by decide) ((((((HBY.out.setCell Lr _).setCell Lr _).setCell Lr _).setCell Lr _).setCell Lr _).setCell Lr _))
        ·obtain rfl :i=256-(32+sz):=by omega
         have hltI:¬(32:Int)+(sz:Int)+((256-(32+sz):Nat):Int)<(256:Int):=by omega
         have hgeI:(256:Int)≤(32:Int)+(sz:Int)+((256-(32+sz):Nat):Int):=by omega
         have hz2:BA (l.drop (32+sz))=true:=by have:=HZ.out;rwa [List.take_of_length_le (by rw[List.length_drop,HL.out];exact Nat.le_refl _)]at this
         have hd0:Al l=0:=by rw[HDE.out,Ip ⟨by rw[HSZQ.out];omega,by rw[HSZQ.out];exact hz2,HK.out⟩]
         have HD0:=Hd hd0;have hty0:=HTY.out;have ht0:=Cq hty0 0;have ht1:=Cq hty0 1;have ht2:=Cq hty0 2;have ht3:=Cq hty0 3;have ht4:=Cq hty0 4;have ht5:=Cq hty0 5;clear hz2 hd0 hty0;obtain⟨I,hI⟩:=Xq ((32:Int)+(sz:Int)+((256-(32+sz):Nat):Int));rw[hI]at hltI hgeI⊢;clear hI htn2 hge0;go_wp2_with fail;refine Br (v:=.tuple #[.agg #[.int .i64 (Ae (seg l 24 2):Nat),.int .i64 (Ae (seg l 16 4):Nat),.int .i64 (Ae (seg l 20 4):Nat),.int .i64 (Ae (seg l 26 2):Nat),.int .i64 (Ae (seg l 28 2):Nat),.slice aaqaa sz acqaa],.int .i64 0]) (by simp[results,Tryz.results80,go_sem,hy0,hy1,hy2,hy3,hy4,hy5]) rfl ?_;refine DecPost.yes HD0.out (by rw[HRB.out];exact HSEG.out) ?_ ?_
         ·rw[HRB.out];refine Am (AT (G:=fun k=>k=w.heap.size) HOY.out (EF _ _ _ _ _ _ _ _) (fun k h1 _ h3=>by have:k=w.heap.size:=h3;omega)) (by omega)
         ·exact HBY.out.trans ((EF _ _ _ _ _ _ _ _).below (fun k h=>by have:k=w.heap.size:=h;omega) HBY.out.size)
      ·have hk2:(B8 (Bn l)!=0)=true:=by simpa using hk
       have hd3:Al l=3:=by rw[HDE.out,In (fun h=>hk h.2.2)]
       have HD3:=Hd hd3;clear hk hd3;go_wp2_with fail;exact Bv (hr:=by simp[go_sem,hy0,hy1,hy2,hy3,hy4,hy5]) (.tuple #[.agg #[.int .i64 0,.int .i64 0,.int .i64 0,.int .i64 0,.int .i64 0,.slice none 0 0],.int .i64 3]) (DecPost.no HD3.out (by decide) ((((((HBY.out.setCell Lr _).setCell Lr _).setCell Lr _).setCell Lr _).setCell Lr _).setCell Lr _))
     ·skip
      go_simp;obtain⟨pqab,hpqab⟩:=Xq (eqa.alloc (.cells #[.int .i64 0,.int .i64 0,.int .i64 0,.int .i64 0,.int .i64 0,.slice none 0 0] 141));have hspqab:Below wr.heap.size wr pqab:=hpqab▸hseqa.alloc hseqa.size _;have hpbqab:=Lq hpqab;have hpnqab:=Nq hpqab rfl;have hplqab:wr.heap.size≤eqa.heap.size:=hseqa.size
      try rw[hpqab]
      have hoqqab:=An hoeqa hpbqab;refine Kq hK (fun _=>hspqab) ?_;have hnEqabd:=Da hoqqab hpnqab (by decide);refine dF 20 fun K hK=>?_
      have hlx:=HLR.out.below hspqab;rw[←HL.out]at hlx;have hly:BytesAt pqab (fun k=>k<w.heap.size) (.slice (some ⟨g,off+32,none⟩) sz (cap-32)) (seg l 32 sz):=hlx.part 32 sz (cap-32) (by rw[HL.out];omega) (by omega);refine H6 (.tmp 54) (.tmp 58) rfl rfl hoqqab rfl hly (by rw[HSEG.out]) (by omega) hspqab.size ?_;intro aaqabd acqabd aqabd hoaqabd hgaqabd;rw[List.nil_append]at hoaqabd;simp only[Nat.zero_add]at hoaqabd⊢;have hsaqabd:Below wr.heap.size wr aqabd:=hspqab.grown hgaqabd hspqab.size (fun j hj=>(Ab hoqqab j hj).1);clear hlx hly;refine Kq hK (fun _=>hsaqabd) ?_;refine tkF 21 hsaqabd ?_;have hTBqabd:=(hgaqabd.block _ (Ax hpnqab).1 (fun e=>hnEqabd _ e.symm rfl)).trans hpnqab;have hTLqabd:=hplqab;have hOOqabd:=hoaqabd;have hNEqabd:=Da hoaqabd hTBqabd (by decide);refine dF 23 fun K hK=>?_
      have hzf:∀j:Nat,aqabd.frozen? ⟨eqa.heap.size,j,none⟩=false:=fun j=>frozen_of_row _ _ _ _ _ hTBqabd
      have hzc0:=Cq hTBqabd 0;have hzc1:=Cq hTBqabd 1;have hzc2:=Cq hTBqabd 2;have hzc3:=Cq hTBqabd 3;have hzc4:=Cq hTBqabd 4;have hzc5:=Cq hTBqabd 5;have hTl:wr.heap.size≤eqa.heap.size:=hTLqabd;have hTs:=(Ax hTBqabd).1;go_simp;obtain⟨zqabd,hzqabd⟩:=Xq (((((((aqabd.setCell ⟨eqa.heap.size,0,none⟩ (.int .i64 (Ae (seg l 24 2):Nat))).setCell ⟨eqa.heap.size,1,none⟩ (.int .i64 (Ae (seg l 16 4):Nat))).setCell ⟨eqa.heap.size,2,none⟩ (.int .i64 (Ae (seg l 20 4):Nat))).setCell ⟨eqa.heap.size,3,none⟩ (.int .i64 (Ae (seg l 26 2):Nat))).setCell ⟨eqa.heap.size,4,none⟩ (.int .i64 (Ae (seg l 28 2):Nat))).setCell ⟨eqa.heap.size,5,none⟩ (.slice aaqabd sz acqabd)));have hcz:Chg (fun k=>k=eqa.heap.size) aqabd zqabd:=hzqabd▸EF _ _ _ _ _ _ _ _;have hszqabd:Below wr.heap.size wr zqabd:=hsaqabd.trans (hcz.below (fun k h=>by have:k=eqa.heap.size:=h;omega) hsaqabd.size);have hTzqabd:zqabd.heap[eqa.heap.size]?=some (.cells #[.int .i64 (Ae (seg l 24 2):Nat),.int .i64 (Ae (seg l 16 4):Nat),.int .i64 (Ae (seg l 20 4):Nat),.int .i64 (Ae (seg l 26 2):Nat),.int .i64 (Ae (seg l 28 2):Nat),.slice aaqabd sz acqabd] 141 (0,0)):=by rw[←hzqabd];exact Sc _ _ 5 _ _ _ (Sc _ _ 4 _ _ _ (Sc _ _ 3 _ _ _ (Sc _ _ 2 _ _ _ (Sc _ _ 1 _ _ _ (Sc _ _ 0 _ _ _ hTBqabd)))))
      have hozqabd:zqabd.ownsRow wr.heap.size 5 1 (.slice aaqabd sz acqabd) sz (bvs (seg l 32 sz)):=AJ hOOqabd hcz (fun k hk h=>by have:k=eqa.heap.size:=h;exact hNEqabd k hk this)
      try rw[hzqabd]
      clear hzf hzc0 hzc1 hzc2 hzc3 hzc4 hzc5 hcz;refine hK _ _ (fun h=>absurd rfl h) ?_;refine eF ?_;have hTZ:=hTzqabd;have hbz:Below w.heap.size w zqabd:=Tq HBR.out hszqabd;have hRz:=(hszqabd.block w.heap.size hqr).trans HRr.out;have ht0:=Cq hTZ 0;have ht1:=Cq hTZ 1;have ht2:=Cq hTZ 2;have ht3:=Cq hTZ 3;have ht4:=Cq hTZ 4;have ht5:=Cq hTZ 5;obtain⟨HTZ,HRZ,HBZ,HOZ,HSZZ⟩:=Hd5 hTZ hRz hbz hozqabd hszqabd;clear hTZ hRz hbz hozqabd hszqabd hTzqabd hzqabd;have hchk:Ca 100 #[.agg #[.int .i64 (Ae (seg l 24 2):Nat),.int .i64 (Ae (seg l 16 4):Nat),.int .i64 (Ae (seg l 20 4):Nat),.int .i64 (Ae (seg l 26 2):Nat),.int .i64 (Ae (seg l 28 2):Nat),.slice aaqabd sz acqabd]] zqabd (fun e w'=>e=.returned (.int .i64 (B8 (Bn l)))∧Below zqabd.heap.size zqabd w'):=Hz (Bn l) aaqabd sz acqabd (by rw[HRB.out];exact HSEG.out) zqabd;have HCHK:=Hd hchk;clear hchk;go_wp2_with fail;refine HCHK.out.mono ?_;rintro e y ⟨rfl,hY⟩;have hTy:=Bq hY HTZ.out;have hRy:=Bq hY HRZ.out;have hby:=Tq HBZ.out hY;have hsy:=Tq HSZZ.out hY;have hly:=HLR.out.below hsy;have hoy:=An HOZ.out hY;have hrf:∀j:Nat,y.frozen? ⟨w.heap.size,j,none⟩=false:=fun j=>frozen_of_row _ _ _ _ _ hRy
      have hy0:=Cq hRy 0;have hy1:=Cq hRy 1;have hy2:=Cq hRy 2;have hy3:=Cq hRy 3;have hy4:=Cq hRy 4;have hy5:=Cq hRy 5;obtain⟨HTY,HBY,HLY,HOY⟩:=Hd4 hTy hby hly hoy;clear hY hTy hRy hby hsy hly hoy ht0 ht1 ht2 ht3 ht4 ht5;by_cases hk:B8 (Bn l)=0
      ·have hk2:(B8 (Bn l)!=0)=false:=by simp[hk]
       have HK:=Hd hk;clear hk;go_wp2_with fail;go_loop [8] (fun iv=>∃i:Nat,32+sz+i≤256∧iv=.int .i64 ((32:Int)+(sz:Int)+(i:Int))∧BA ((l.drop (32+sz)).take i)=true) (fun iv=>(256-intOf iv).toNat)
       case atStart=>exact⟨0,by omega,by simp,rfl⟩
       case round=>
        obtain⟨i,hi,rfl,hz⟩:=hrel;have HZ:=Hd hz;clear hz;have htn2:((32:Int)+(sz:Int)+(i:Int)).toNat=32+sz+i:=by omega
        have hge0:(0:Int)≤(32:Int)+(sz:Int)+(i:Int):=by omega
        by_cases hlt:32+sz+i<256
        ·have hltI:(32:Int)+(sz:Int)+(i:Int)<(256:Int):=by omega
         have hil:32+sz+i<l.length:=by rw[HL.out];exact hlt
         have hly:=HLY.out;rw[←HL.out]at hly;obtain⟨g',off',e,hcb⟩:=hly.get hil;cases e;have hdl:i<(l.drop (32+sz)).length:=by rw[List.length_drop];omega
         have hde:(l.drop (32+sz))[i]=l[32+sz+i]:=List.getElem_drop ..;by_cases hx:l[32+sz+i]=0
         ·have h0:l[32+sz+i].toNat=0:=by rw[hx];rfl
          rw[h0]at hcb;have hz2:BA ((l.drop (32+sz)).take (i+1))=true:=by rw[Fu _ i hdl,HZ.out,hde,hx];rfl
          have HZ2:=Hd hz2;clear hz2 h0 hx hde hdl hly;go_wp2_with fail;go_round
          case rel=>exact⟨i+1,by omega,by go_num,HZ2.out⟩
          case measure=>simp[intOf];omega
         ·have hz2:=Fv _ i hdl (by rw[hde];exact hx);have hn0:((l[32+sz+i].toNat:Int)!=0)=true:=by simp only[bne_iff_ne,ne_eq];intro e;exact hx (UInt8.toNat_inj.1 (by simpa using e))
          have h3:Al l=3:=by rw[HDE.out,In (fun h=>by rw[HSZQ.out,hz2]at h;exact absurd h.2.1 (by simp))]
          have HD3:=Hd h3;obtain⟨X,hX⟩:=Xq (l[32+sz+i].toNat);rw[hX]at hcb hn0;clear hz2 hx hde hdl hly h3 hX;go_wp2_with fail;exact Bv (hr:=by simp[go_sem,hy0,hy1,hy2,hy3,hy4,hy5]) (.tuple #[.agg #[.int .i64 0,.int .i64 0,.int .i64 0,.int .i64 0,.int .i64 0,.slice none 0 0],.int .i64 3]) (DecPost.no HD3.out (by decide) ((((((HBY.out.setCell Lr _).setCell Lr _).setCell Lr _).setCell Lr _).setCell Lr _).setCell Lr _))
        ·obtain rfl :i=256-(32+sz):=by omega
         have hltI:¬(32:Int)+(sz:Int)+((256-(32+sz):Nat):Int)<(256:Int):=by omega
         have hgeI:(256:Int)≤(32:Int)+(sz:Int)+((256-(32+sz):Nat):Int):=by omega
         have hz2:BA (l.drop (32+sz))=true:=by have:=HZ.out;rwa [List.take_of_length_le (by rw[List.length_drop,HL.out];exact Nat.le_refl _)]at this
         have hd0:Al l=0:=by rw[HDE.out,Ip ⟨by rw[HSZQ.out];omega,by rw[HSZQ.out];exact hz2,HK.out⟩]
         have HD0:=Hd hd0;have hty0:=HTY.out;have ht0:=Cq hty0 0;have ht1:=Cq hty0 1;have ht2:=Cq hty0 2;have ht3:=Cq hty0 3;have ht4:=Cq hty0 4;have ht5:=Cq hty0 5;clear hz2 hd0 hty0;obtain⟨I,hI⟩:=Xq ((32:Int)+(sz:Int)+((256-(32+sz):Nat):Int));rw[hI]at hltI hgeI⊢;clear hI htn2 hge0;go_wp2_with fail;refine Br (v:=.tuple #[.agg #[.int .i64 (Ae (seg l 24 2):Nat),.int .i64 (Ae (seg l 16 4):Nat),.int .i64 (Ae (seg l 20 4):Nat),.int .i64 (Ae (seg l 26 2):Nat),.int .i64 (Ae (seg l 28 2):Nat),.slice aaqabd sz acqabd],.int .i64 0]) (by simp[results,Tryz.results80,go_sem,hy0,hy1,hy2,hy3,hy4,hy5]) rfl ?_;refine DecPost.yes HD0.out (by rw[HRB.out];exact HSEG.out) ?_ ?_
         ·rw[HRB.out];refine Am (AT (G:=fun k=>k=w.heap.size) HOY.out (EF _ _ _ _ _ _ _ _) (fun k h1 _ h3=>by have:k=w.heap.size:=h3;omega)) (by omega)
         ·exact HBY.out.trans ((EF _ _ _ _ _ _ _ _).below (fun k h=>by have:k=w.heap.size:=h;omega) HBY.out.size)
      ·have hk2:(B8 (Bn l)!=0)=true:=by simpa using hk
       have hd3:Al l=3:=by rw[HDE.out,In (fun h=>hk h.2.2)]
       have HD3:=Hd hd3;clear hk hd3;go_wp2_with fail;exact Bv (hr:=by simp[go_sem,hy0,hy1,hy2,hy3,hy4,hy5]) (.tuple #[.agg #[.int .i64 0,.int .i64 0,.int .i64 0,.int .i64 0,.int .i64 0,.slice none 0 0],.int .i64 3]) (DecPost.no HD3.out (by decide) ((((((HBY.out.setCell Lr _).setCell Lr _).setCell Lr _).setCell Lr _).setCell Lr _).setCell Lr _))
    ·skip
     go_simp;obtain⟨pqb,hpqb⟩:=Xq (wd.alloc (.cells #[.int .i64 0,.int .i64 0,.int .i64 0,.int .i64 0,.int .i64 0,.slice none 0 0] 141));have hspqb:Below wr.heap.size wr pqb:=hpqb▸hS0.alloc hS0.size _;have hpbqb:=Lq hpqb;have hpnqb:=Nq hpqb rfl;have hplqb:wr.heap.size≤wd.heap.size:=hS0.size
     try rw[hpqb]
     refine Kq hK (fun _=>hspqb) ?_;refine dF 15 fun K hK=>?_
     go_simp;obtain⟨eqbc,heqbc⟩:=Xq (pqb.alloc (.cells #[] 5));have hseqbc:Below wr.heap.size wr eqbc:=heqbc▸hspqb.alloc hspqb.size _;have hoeqbc:eqbc.ownsRow wr.heap.size 5 1 (.slice (some ⟨pqb.heap.size,0,none⟩) 0 0) 0 (bvs []):=heqbc▸Dy hspqb.size 5
     try rw[heqbc]
     refine Kq hK (fun _=>hseqbc) ?_;have hpkqbc:=((show Below pqb.heap.size pqb eqbc from heqbc▸Rq.alloc Lr _).block _ (Ax hpnqb).1).trans hpnqb;have hnEqbcd:=Da hoeqbc hpkqbc (by decide);refine dF 20 fun K hK=>?_
     have hlx:=HLR.out.below hseqbc;rw[←HL.out]at hlx;have hly:BytesAt eqbc (fun k=>k<w.heap.size) (.slice (some ⟨g,off+32,none⟩) sz (cap-32)) (seg l 32 sz):=hlx.part 32 sz (cap-32) (by rw[HL.out];omega) (by omega);refine H6 (.tmp 54) (.tmp 58) rfl rfl hoeqbc rfl hly (by rw[HSEG.out]) (by omega) hseqbc.size ?_;intro aaqbcd acqbcd aqbcd hoaqbcd hgaqbcd;rw[List.nil_append]at hoaqbcd;simp only[Nat.zero_add]at hoaqbcd⊢;have hsaqbcd:Below wr.heap.size wr aqbcd:=hseqbc.grown hgaqbcd hseqbc.size (fun j hj=>(Ab hoeqbc j hj).1);clear hlx hly;refine Kq hK (fun _=>hsaqbcd) ?_;refine tkF 21 hsaqbcd ?_;have hTBqbcd:=(hgaqbcd.block _ (Ax hpkqbc).1 (fun e=>hnEqbcd _ e.symm rfl)).trans hpkqbc;have hTLqbcd:=hplqb;have hOOqbcd:=hoaqbcd;have hNEqbcd:=Da hoaqbcd hTBqbcd (by decide);refine dF 23 fun K hK=>?_
     have hzf:∀j:Nat,aqbcd.frozen? ⟨wd.heap.size,j,none⟩=false:=fun j=>frozen_of_row _ _ _ _ _ hTBqbcd
     have hzc0:=Cq hTBqbcd 0;have hzc1:=Cq hTBqbcd 1;have hzc2:=Cq hTBqbcd 2;have hzc3:=Cq hTBqbcd 3;have hzc4:=Cq hTBqbcd 4;have hzc5:=Cq hTBqbcd 5;have hTl:wr.heap.size≤wd.heap.size:=hTLqbcd;have hTs:=(Ax hTBqbcd).1;go_simp;obtain⟨zqbcd,hzqbcd⟩:=Xq (((((((aqbcd.setCell ⟨wd.heap.size,0,none⟩ (.int .i64 (Ae (seg l 24 2):Nat))).setCell ⟨wd.heap.size,1,none⟩ (.int .i64 (Ae (seg l 16 4):Nat))).setCell ⟨wd.heap.size,2,none⟩ (.int .i64 (Ae (seg l 20 4):Nat))).setCell ⟨wd.heap.size,3,none⟩ (.int .i64 (Ae (seg l 26 2):Nat))).setCell ⟨wd.heap.size,4,none⟩ (.int .i64 (Ae (seg l 28 2):Nat))).setCell ⟨wd.heap.size,5,none⟩ (.slice aaqbcd sz acqbcd)));have hcz:Chg (fun k=>k=wd.heap.size) aqbcd zqbcd:=hzqbcd▸EF _ _ _ _ _ _ _ _;have hszqbcd:Below wr.heap.size wr zqbcd:=hsaqbcd.trans (hcz.below (fun k h=>by have:k=wd.heap.size:=h;omega) hsaqbcd.size);have hTzqbcd:zqbcd.heap[wd.heap.size]?=some (.cells #[.int .i64 (Ae (seg l 24 2):Nat),.int .i64 (Ae (seg l 16 4):Nat),.int .i64 (Ae (seg l 20 4):Nat),.int .i64 (Ae (seg l 26 2):Nat),.int .i64 (Ae (seg l 28 2):Nat),.slice aaqbcd sz acqbcd] 141 (0,0)):=by rw[←hzqbcd];exact Sc _ _ 5 _ _ _ (Sc _ _ 4 _ _ _ (Sc _ _ 3 _ _ _ (Sc _ _ 2 _ _ _ (Sc _ _ 1 _ _ _ (Sc _ _ 0 _ _ _ hTBqbcd)))))
     have hozqbcd:zqbcd.ownsRow wr.heap.size 5 1 (.slice aaqbcd sz acqbcd) sz (bvs (seg l 32 sz)):=AJ hOOqbcd hcz (fun k hk h=>by have:k=wd.heap.size:=h;exact hNEqbcd k hk this)
     try rw[hzqbcd]
     clear hzf hzc0 hzc1 hzc2 hzc3 hzc4 hzc5 hcz;refine hK _ _ (fun h=>absurd rfl h) ?_;refine eF ?_;have hTZ:=hTzqbcd;have hbz:Below w.heap.size w zqbcd:=Tq HBR.out hszqbcd;have hRz:=(hszqbcd.block w.heap.size hqr).trans HRr.out;have ht0:=Cq hTZ 0;have ht1:=Cq hTZ 1;have ht2:=Cq hTZ 2;have ht3:=Cq hTZ 3;have ht4:=Cq hTZ 4;have ht5:=Cq hTZ 5;obtain⟨HTZ,HRZ,HBZ,HOZ,HSZZ⟩:=Hd5 hTZ hRz hbz hozqbcd hszqbcd;clear hTZ hRz hbz hozqbcd hszqbcd hTzqbcd hzqbcd;have hchk:Ca 100 #[.agg #[.int .i64 (Ae (seg l 24 2):Nat),.int .i64 (Ae (seg l 16 4):Nat),.int .i64 (Ae (seg l 20 4):Nat),.int .i64 (Ae (seg l 26 2):Nat),.int .i64 (Ae (seg l 28 2):Nat),.slice aaqbcd sz acqbcd]] zqbcd (fun e w'=>e=.returned (.int .i64 (B8 (Bn l)))∧Below zqbcd.heap.size zqbcd w'):=Hz (Bn l) aaqbcd sz acqbcd (by rw[HRB.out];exact HSEG.out) zqbcd;have HCHK:=Hd hchk;clear hchk;go_wp2_with fail;refine HCHK.out.mono ?_;rintro e y ⟨rfl,hY⟩;have hTy:=Bq hY HTZ.out;have hRy:=Bq hY HRZ.out;have hby:=Tq HBZ.out hY;have hsy:=Tq HSZZ.out hY;have hly:=HLR.out.below hsy;have hoy:=An HOZ.out hY;have hrf:∀j:Nat,y.frozen? ⟨w.heap.size,j,none⟩=false:=fun j=>frozen_of_row _ _ _ _ _ hRy
     have hy0:=Cq hRy 0;have hy1:=Cq hRy 1;have hy2:=Cq hRy 2;have hy3:=Cq hRy 3;have hy4:=Cq hRy 4;have hy5:=Cq hRy 5;obtain⟨HTY,HBY,HLY,HOY⟩:=Hd4 hTy hby hly hoy;clear hY hTy hRy hby hsy hly hoy ht0 ht1 ht2 ht3 ht4 ht5;by_cases hk:B8 (Bn l)=0
     ·have hk2:(B8 (Bn l)!=0)=false:=by simp[hk]
      have HK:=Hd hk;clear hk;go_wp2_with fail;go_loop [8] (fun iv=>∃i:Nat,32+sz+i≤256∧iv=.int .i64 ((32:Int)+(sz:Int)+(i:Int))∧BA ((l.drop (32+sz)).take i)=true) (fun iv=>(256-intOf iv).toNat)
      case atStart=>exact⟨0,by omega,by simp,rfl⟩
      case round=>
       obtain⟨i,hi,rfl,hz⟩:=hrel;have HZ:=Hd hz;clear hz;have htn2:((32:Int)+(sz:Int)+(i:Int)).toNat=32+sz+i:=by omega
       have hge0:(0:Int)≤(32:Int)+(sz:Int)+(i:Int):=by omega
       by_cases hlt:32+sz+i<256
       ·have hltI:(32:Int)+(sz:Int)+(i:Int)<(256:Int):=by omega
        have hil:32+sz+i<l.length:=by rw[HL.out];exact hlt
        have hly:=HLY.out;rw[←HL.out]at hly;obtain⟨g',off',e,hcb⟩:=hly.get hil;cases e;have hdl:i<(l.drop (32+sz)).length:=by rw[List.length_drop];omega
        have hde:(l.drop (32+sz))[i]=l[32+sz+i]:=List.getElem_drop ..;by_cases hx:l[32+sz+i]=0
        ·have h0:l[32+sz+i].toNat=0:=by rw[hx];rfl
         rw[h0]at hcb;have hz2:BA ((l.drop (32+sz)).take (i+1))=true:=by rw[Fu _ i hdl,HZ.out,hde,hx];rfl
         have HZ2:=Hd hz2;clear hz2 h0 hx hde hdl hly;go_wp2_with fail;go_round
         case rel=>exact⟨i+1,by omega,by go_num,HZ2.out⟩
         case measure=>simp[intOf];omega
        ·have hz2:=Fv _ i hdl (by rw[hde];exact hx);have hn0:((l[32+sz+i].toNat:Int)!=0)=true:=by simp only[bne_iff_ne,ne_eq];intro e;exact hx (UInt8.toNat_inj.1 (by simpa using e))
         have h3:Al l=3:=by rw[HDE.out,In (fun h=>by rw[HSZQ.out,hz2]at h;exact absurd h.2.1 (by simp))]
         have HD3:=Hd h3;obtain⟨X,hX⟩:=Xq (l[32+sz+i].toNat);rw[hX]at hcb hn0;clear hz2 hx hde hdl hly h3 hX;go_wp2_with fail;exact Bv (hr:=by simp[go_sem,hy0,hy1,hy2,hy3,hy4,hy5]) (.tuple #[.agg #[.int .i64 0,.int .i64 0,.int .i64 0,.int .i64 0,.int .i64 0,.slice none 0 0],.int .i64 3]) (DecPost.no HD3.out (by decide) ((((((HBY.out.setCell Lr _).setCell Lr _).setCell Lr _).setCell Lr _).setCell Lr _).setCell Lr _))
       ·obtain rfl :i=256-(32+sz):=by omega
        have hltI:¬(32:Int)+(sz:Int)+((256-(32+sz):Nat):Int)<(256:Int):=by omega
        have hgeI:(256:Int)≤(32:Int)+(sz:Int)+((256-(32+sz):Nat):Int):=by omega
        have hz2:BA (l.drop (32+sz))=true:=by have:=HZ.out;rwa [List.take_of_length_le (by rw[List.length_drop,HL.out];exact Nat.le_refl _)]at this
        have hd0:Al l=0:=by rw[HDE.out,Ip ⟨by rw[HSZQ.out];omega,by rw[HSZQ.out];exact hz2,HK.out⟩]
        have HD0:=Hd hd0;have hty0:=HTY.out;have ht0:=Cq hty0 0;have ht1:=Cq hty0 1;have ht2:=Cq hty0 2;have ht3:=Cq hty0 3;have ht4:=Cq hty0 4;have ht5:=Cq hty0 5;clear hz2 hd0 hty0;obtain⟨I,hI⟩:=Xq ((32:Int)+(sz:Int)+((256-(32+sz):Nat):Int));rw[hI]at hltI hgeI⊢;clear hI htn2 hge0;go_wp2_with fail;refine Br (v:=.tuple #[.agg #[.int .i64 (Ae (seg l 24 2):Nat),.int .i64 (Ae (seg l 16 4):Nat),.int .i64 (Ae (seg l 20 4):Nat),.int .i64 (Ae (seg l 26 2):Nat),.int .i64 (Ae (seg l 28 2):Nat),.slice aaqbcd sz acqbcd],.int .i64 0]) (by simp[results,Tryz.results80,go_sem,hy0,hy1,hy2,hy3,hy4,hy5]) rfl ?_;refine DecPost.yes HD0.out (by rw[HRB.out];exact HSEG.out) ?_ ?_
        ·rw[HRB.out];refine Am (AT (G:=fun k=>k=w.heap.size) HOY.out (EF _ _ _ _ _ _ _ _) (fun k h1 _ h3=>by have:k=w.heap.size:=h3;omega)) (by omega)
        ·exact HBY.out.trans ((EF _ _ _ _ _ _ _ _).below (fun k h=>by have:k=w.heap.size:=h;omega) HBY.out.size)
     ·have hk2:(B8 (Bn l)!=0)=true:=by simpa using hk
      have hd3:Al l=3:=by rw[HDE.out,In (fun h=>hk h.2.2)]
      have HD3:=Hd hd3;clear hk hd3;go_wp2_with fail;exact Bv (hr:=by simp[go_sem,hy0,hy1,hy2,hy3,hy4,hy5]) (.tuple #[.agg #[.int .i64 0,.int .i64 0,.int .i64 0,.int .i64 0,.int .i64 0,.slice none 0 0],.int .i64 3]) (DecPost.no HD3.out (by decide) ((((((HBY.out.setCell Lr _).setCell Lr _).setCell Lr _).setCell Lr _).setCell Lr _).setCell Lr _))
theorem EQ (l:List UInt8) (v:Value) (hv:BytesAt w F v l):Ca 80 #[v] w (DecPost w l):=by
 obtain⟨a,cap,rfl⟩:=hv.form;by_cases h:l.length=256
 ·obtain⟨g,off,rfl⟩:=hv.addr (fun e=>by rw[e]at h;simp at h);rw[h]at hv⊢;exact L7 l g off cap hv h
 ·exact M3 l a l.length cap rfl h
theorem DP (l:List UInt8) (v:Value) (hv:BytesAt w F v l) (hK:KAt w):Ca 73 #[v] w (DecPost w l):=by
 obtain⟨a,cap,rfl⟩:=hv.form;by_cases h:l.length=256
 ·obtain⟨g,off,rfl⟩:=hv.addr (fun e=>by rw[e]at h;simp at h);rw[h]at hv⊢;by_cases hs:A3 (l.drop 16)=l.take 16
  ·exact K8 l g off cap hv h hK hs
  ·exact Kg l g off cap hv h hK hs
 ·exact Kf l a l.length cap rfl h
variable {g:Nat}{w':World}{T:TypeId}
theorem L8:(Tryz.prog.info? 30).map (fun i=>(i.zero,i.size,i.bytes))=some (some (.slice none 0 0),1,24):=by kernel_rfl
structure OwnSecs (w:World) (B:Nat) (v:Value) (L:List (List UInt8)):Prop where
 ex:∃vs,w.ownsRow B 30 1 v L.length vs∧∀i (h:i<L.length),∃u,vs[i]?=some u∧w.ownsRow B 5 1 u L[i].length (bvs L[i])
structure SecsAt (w:World) (v:Value) (L:List (List UInt8)):Prop where
 ex:∃a cap vs,v=.slice a L.length cap∧L.length≤cap∧vs.length=L.length∧(L≠[]→∃g off,a=some ⟨g,off,none⟩∧g<w.heap.size∧w.rangeAt g off vs)∧
  (∀k c,v=.slice none k c→c=0)∧∀i (h:i<L.length),∃u,vs[i]?=some u∧BytesN w (fun _=>True) u L[i]
theorem BytesN.any (h:BytesN w F v l):BytesN w (fun _=>True) v l:=⟨h.at_.any,h.nil⟩
theorem IB {B2 n2 s2:Nat}{T1 T2:TypeId}{u:Value}{xs ys:List Value} (h:w.ownsRow B T1 s v n xs) (h2:w.ownsRow B2 T2 s2 u n2 ys) (hne:T1≠T2):u.ownBlock=none∨u.ownBlock≠v.ownBlock:=by
 rcases h2.2 with⟨rfl,_⟩| ⟨g,cap,cur,rfl,_,hg,_⟩
 ·exact .inl rfl
 ·exact .inr (fun e=>Da h hg hne g e.symm rfl)
section
variable {w w':World} {B:Nat} {v:Value} {L:List (List UInt8)}
theorem OwnSecs.form (h:OwnSecs w B v L):∃a cap,v=.slice a L.length cap:=by obtain⟨vs,h,_⟩:=h.ex;exact Ag h
theorem OwnSecs.below (h:OwnSecs w B v L) (hb:Below w.heap.size w w'):OwnSecs w' B v L:=by obtain⟨vs,h1,h2⟩:=h.ex;refine⟨vs,An h1 hb,fun i hi=>?_⟩;obtain⟨u,h3,h4⟩:=h2 i hi;exact⟨u,h3,An h4 hb⟩
theorem OwnSecs.base (h:OwnSecs w B v L) {B':Nat} (hB:B'≤B):OwnSecs w B' v L:=by obtain⟨vs,h1,h2⟩:=h.ex;refine⟨vs,Am h1 hB,fun i hi=>?_⟩;obtain⟨u,h3,h4⟩:=h2 i hi;exact⟨u,h3,Am h4 hB⟩
theorem Gp (w:World) (B:Nat):OwnSecs w B (.slice none 0 0) []:=⟨[],Dx _ _ _,fun i hi=>by simp at hi⟩
theorem OwnSecs.secs (h:OwnSecs w B v L):SecsAt w v L:=by
 obtain⟨vs,h1,h2⟩:=h.ex;obtain⟨a,cap,rfl⟩:=Ag h1;refine⟨a,cap,vs,rfl,?_,by have:=h1.1;omega,fun hne=>?_,(fun k c e=>by cases e;exact Fo h1),fun i hi=>?_⟩
 ·rcases h1.2 with⟨e,h0⟩| ⟨g,cap',cur,e,_,_,hc,_⟩
  ·simp only[Value.slice.injEq]at e;omega
  ·simp only[Value.slice.injEq]at e;obtain⟨-,-,rfl⟩:=e;exact hc
 ·have hpos:0<L.length:=by cases L with|nil=>exact absurd rfl hne|cons=>simp
  obtain⟨g,cap',e,hg,_,hr⟩:=AZ h1 hpos;cases e;exact⟨g,0,rfl,hg,fun j u hu=>by rw[Nat.zero_add];exact hr j u hu⟩
 ·obtain⟨u,h3,h4⟩:=h2 i hi;exact⟨u,h3,(Bk h4).any⟩
theorem SecsAt.below (h:SecsAt w v L) (hb:Below w.heap.size w w'):SecsAt w' v L:=by
 obtain⟨a,cap,vs,h1,h2,h3,h4,h5,h6⟩:=h.ex;refine⟨a,cap,vs,h1,h2,h3,fun hne=>?_,h5,fun i hi=>?_⟩
 ·obtain⟨g,off,e,hg,hr⟩:=h4 hne;exact⟨g,off,e,Nl hg hb.size,fun j u hu=>(Cb (F:=fun _=>False) hb).cell (fun h=>h) (hr j u hu)⟩
 ·obtain⟨u,h7,h8⟩:=h6 i hi;exact⟨u,h7,h8.below hb⟩
theorem SecsAt.form (h:SecsAt w v L):∃a cap,v=.slice a L.length cap:=by obtain⟨a,cap,vs,h,_⟩:=h.ex;exact⟨a,cap,h⟩
theorem SecsAt.get {a:Option Addr}{cap:Nat} (h:SecsAt w (.slice a n cap) L) {i:Nat} (hi:i<L.length):∃g off x n' c,a=some ⟨g,off,none⟩∧w.cell? ⟨g,off+i,none⟩=some (.slice x n' c)∧BytesN w (fun _=>True) (.slice x n' c) L[i]:=by obtain⟨a',cap',vs,e,h2,h3,h4,h5,h6⟩:=h.ex;cases e;obtain⟨g,off,rfl,hg,hr⟩:=h4 (by intro e;rw[e]at hi;simp at hi);obtain⟨u,h7,h8⟩:=h6 i hi;obtain⟨x,c,rfl⟩:=h8.at_.form;exact⟨g,off,x,_,c,rfl,hr i _ h7,h8⟩
theorem SecsAt.drop {off cap:Nat} (h:SecsAt w (.slice (some ⟨g,off,none⟩) n cap) L) {i:Nat} (hi:i≤L.length):SecsAt w (.slice (some ⟨g,off+i,none⟩) (n-i) (cap-i)) (L.drop i):=by
 obtain⟨a',cap',vs,e,h2,h3,h4,h5,h6⟩:=h.ex;cases e;refine⟨_,_,vs.drop i,by rw[List.length_drop],by rw[List.length_drop];omega,by rw[List.length_drop,List.length_drop,h3],fun hne=>?_,(fun k c e=>by cases e),fun j hj=>?_⟩
 ·obtain⟨g',off',e,hg,hr⟩:=h4 (by intro e;rw[e]at hne;simp at hne);cases e;refine⟨g,off+i,rfl,hg,fun j u hu=>?_⟩;rw[List.getElem?_drop]at hu;have:=hr (i+j) u hu;rwa [←Nat.add_assoc]at this
 ·rw[List.length_drop]at hj;obtain⟨u,h7,h8⟩:=h6 (i+j) (by omega);refine⟨u,by rw[List.getElem?_drop];exact h7,?_⟩;rw[List.getElem_drop];exact h8
theorem grown_below {xs:List Value} (h:w.ownsRow B T s v n xs) (hg:w.grownBy w' v.ownBlock) (hB:B≤w.heap.size):Below B w w':=
 Rq.grown hg hB (fun j hj=>(Ab h j hj).1)
theorem OwnSecs.len (h:OwnSecs w B v L) {a:Option Addr} {n c:Nat} (e:v=.slice a n c):n=L.length:=by obtain⟨vs,h1,_⟩:=h.ex;obtain⟨a',c',e'⟩:=Ag h1;rw[e]at e';cases e';rfl
theorem E8 (s x:Operand) (ho:o.op=.call {callee:=.builtin .append,args:=#[s,x],argTypes:=#[36,36]})
 {u:Value} {l:List UInt8} (hs:a.eval s=v) (hown:OwnSecs w B v L) (hu:w.ownsRow B 5 1 u l.length (bvs l)) (hx:a.eval x=.slice (some ⟨w.heap.size,0,none⟩) 1 1)
 {n:Nat} (hL:L.length=n) (hn:n<1000000000) (hB:B≤w.heap.size)
 (h:∀a' cap' w',OwnSecs w' B (.slice a' (n+1) cap') (L++[l])→Below B w w'→K (a.put o.dst (.slice a' (n+1) cap')) w'):
 o.wp Tryz.prog a (w.alloc (.cells #[u] 30)) K Q:=by
 subst hL;obtain⟨i0,hi,hz0,hz1,hz2⟩:=info_parts L8;have hba:Below w.heap.size w (w.alloc (.cells #[u] 30)):=Rq.alloc Lr _;obtain⟨vs,hr,he⟩:=hown.ex;have hr1:=An hr hba;have hu1:=An hu hba;obtain⟨ua,uc,hue⟩:=Ag hu;refine wp_append_lies _ s x 36 ho B 30 i0 _ 1 24 Tryz.underlying36 hi hz0 hz1 hz2 rfl (by decide) v L.length vs hs hr1
  ⟨w.heap.size,0,none⟩ 1 1 [u] hx rfl (World.news_of_block (cs:=#[u]) (t:=30) (fr:=(0,0)) (Hn)) (fun y hy=>by obtain rfl :=List.mem_singleton.1 hy;rw[hue];rfl) (by decide) (by unfold maxLen;omega) (by omega) (by rw[Sz];omega) _ rfl ?_
 intro g' cap' w' hown' hgrow hat hlt;have hb':Below B w w':=(hba.mono hB).trans (grown_below hr1 hgrow (by rw[Sz];omega));refine h _ cap' w' ⟨vs++[u],by rw[List.length_append];exact hown',fun i hi=>?_⟩ hb';have hvl:vs.length=L.length:=by have:=hr.1;omega
 have keep:∀y m (ys:List UInt8),(w.alloc (.cells #[u] 30)).ownsRow B 5 1 y m (bvs ys)→w'.ownsRow B 5 1 y m (bvs ys):=fun y m ys hy=>World.ownsRow.kept hy hgrow (IB hr1 hy (by decide))
 by_cases hlt:i<L.length
 ·obtain⟨y,h1,h2⟩:=he i hlt;refine⟨y,by rw[List.getElem?_append_left (by omega)];exact h1,?_⟩;rw[List.getElem_append_left hlt];exact keep _ _ _ (An h2 hba)
 ·rw[List.length_append]at hi;simp at hi;obtain rfl :i=L.length:=by omega
  refine⟨u,by rw[List.getElem?_append_right (by omega),hvl,Nat.sub_self];rfl,?_⟩;simp only[List.getElem_append_right Lr,Nat.sub_self,List.getElem_cons_zero];exact keep _ _ _ hu1
theorem D8 {rest:List Oper} (hgd:o.guard=none) (s x:Operand) (ho:o.op=.call {callee:=.builtin .append,args:=#[s,x],argTypes:=#[36,36]})
 {u:Value} {l:List UInt8} (hs:a.eval s=v) (hown:OwnSecs w B v L) (hu:w.ownsRow B 5 1 u l.length (bvs l)) (hx:a.eval x=.slice (some ⟨w.heap.size,0,none⟩) 1 1)
 {n:Nat} (hL:L.length=n) (hn:n<1000000000) (hB:B≤w.heap.size)
 (h:∀a' cap' w',OwnSecs w' B (.slice a' (n+1) cap') (L++[l])→Below B w w'→wpList Tryz.prog ops Q rest (a.put o.dst (.slice a' (n+1) cap')) w'):
 wpList Tryz.prog ops Q (o::rest) a (w.alloc (.cells #[u] 30)):=
 wpList_plain hgd fun _ hK=>E8 s x ho hs hown hu hx hL hn hB fun a' cap' w' h1 h2=>hK _ _ (h a' cap' w' h1 h2)
end
def SplitPost (w:World) (r:RecD) (e:Ending) (w':World):Prop:=
 ∃v,e=.returned (.tuple #[v,.int .i64 (As r)])∧OwnSecs w' w.heap.size v (Ac r)∧Below w.heap.size w w'
theorem SplitPost.no {r:RecD}{k:Int} (hk:As r=k) (h0:k≠0) (hb:Below w.heap.size w w'):SplitPost w r (.returned (.tuple #[.slice none 0 0,.int .i64 k])) w':=by
 subst hk;refine⟨_,rfl,?_,hb⟩;have:Ac r=[]:=by unfold Ac;rw[In h0]
 rw[this];exact Gp _ _
def EG (r:RecD) (i:Nat):List (List UInt8):=(List.range i).map fun i=>By (Bi r i)
@[simp] theorem Cg (r:RecD) (i:Nat):(EG r i).length=i:=by simp[EG]
theorem BO (r:RecD) (i:Nat):EG r (i+1)=EG r i++[By (Bi r i)]:=by simp[EG,List.range_succ]
theorem SplitPost.yes {w1:World}{r:RecD}{N:Nat} (hk:As r=0) (hN:Af r.load.length=N) (ho:OwnSecs w' w1.heap.size v (EG r N)) (hs:w.heap.size≤w1.heap.size) (hb:Below w.heap.size w w'):
 SplitPost w r (.returned (.tuple #[v,.int .i64 0])) w':=by
 subst hN;refine⟨v,by rw[hk],?_,hb⟩;have:Ac r=EG r (Af r.load.length):=by unfold Ac;rw[Ip hk];rfl
 rw[this];exact ho.base hs
theorem BytesAt.seg {off cap:Nat} (h:BytesAt w F (.slice (some ⟨g,off,none⟩) n cap) l) (lo k:Nat) {o m c:Nat} (ho:o=off+lo) (hm:m=min k (l.length-lo)) (hlo:lo≤l.length) (hc:c=cap-lo):
 BytesAt w F (.slice (some ⟨g,o,none⟩) m c) (seg l lo k):=by
 subst ho hc;obtain⟨rfl,hcap⟩:=h.len;have e:Go.Proofs.YtplclpileejemaaGreatDoor.seg l lo k=(l.drop lo).take m:=by
  unfold Go.Proofs.YtplclpileejemaaGreatDoor.seg;by_cases hk:k≤l.length-lo
  ·rw[hm,Nat.min_eq_left hk]
  ·rw[hm,Nat.min_eq_right (by omega),List.take_of_length_le (by simp;omega),List.take_of_length_le (by simp)]
 rw[e];exact h.part lo m (cap-lo) (by omega) (by omega)
theorem NG (l:List UInt8) (lo k:Nat):(seg l lo k).length=min k (l.length-lo):=by simp[seg]
theorem QC (k g n:Int) (l:List UInt8) (a:Option Addr) (len cap:Nat) (hv:BytesN w F (.slice a len cap) l) (hl:l.length=len) (hK:KAt w) (h:As ⟨k,g,n,l⟩=0):
 Ca 77 #[.agg #[.int .i64 k,.int .i64 g,.int .i64 n,.slice a len cap]] w (SplitPost w ⟨k,g,n,l⟩):=by
 obtain⟨hf,hle⟩:=Cs h;simp only at hf hle;have hnv:F0 (len:Int)=Af len:=by unfold F0;rw[In (by omega)];rfl
 have hne:FZ (len:Int)=0:=by unfold FZ;rw[In (by omega)]
 have hneed:=fun w=>I5 (len:Int) w
 rw[hnv,hne]at hneed;have hnb:=CQ (n:=len) (by omega);obtain⟨N,hN⟩:=Xq (Af len);rw[hN]at hneed hnb;obtain⟨w0,hw0⟩:=Xq ((w.alloc (.cells #[.int .i64 k,.int .i64 g,.int .i64 n,.slice a len cap] 111)).alloc (.cells #[.int .i64 k,.int .i64 g,.int .i64 n] 169));have hb0:Below w.heap.size w w0:=hw0▸((Below.refl _ w).alloc Lr _).alloc (by simp) _;have hx0:w0.heap[w.heap.size]?=some (.cells #[.int .i64 k,.int .i64 g,.int .i64 n,.slice a len cap] 111 (0,0)):=by rw[←hw0];exact(Below.heap_alloc _ _ _ (by simp)).trans (Hn)
 have hval:=BN k g n w0;rw[hf]at hval;obtain⟨HVAL,HNEED,HW0,HB0,HX0,HV,HK,HL,HE,HN⟩:=Hd10 hval hneed hw0 hb0 hx0 hv hK hl h hN;have hN1:=hnb.1;have hN2:=hnb.2;rw[hl]at hle;clear hf hneed hnv hne hnb hN hw0 hb0 hx0 hval hv hK hl h;go_enter Tryz.func77,Tryz.ntmps77;go_wp2_with fail;rw[HW0.out];refine HVAL.out.mono ?_;rintro e w1 ⟨rfl,hb1⟩;have hx1:=Bq hb1 HX0.out;have hbd:=Tq HB0.out hb1;have hc3:=Cq hx1 3;have HX1:=Hd hx1;have HBD:=Hd hbd;have hlt1:=(Ax hx1).1;clear hb1 hx1 hbd;go_wp2_with fail;refine(HNEED.out _).mono ?_;rintro e w' ⟨rfl,rfl⟩;go_wp2_with fail;go_loopw [7,32] (fun pv iv wr=>∃i:Nat,i≤N∧iv=.int .i64 i∧OwnSecs wr w1.heap.size pv (EG ⟨k,g,n,l⟩ i)∧Below w1.heap.size w1 wr) (fun _ iv _=>N-(intOf iv).toNat)
 case atStart=>exact⟨0,Nat.zero_le _,rfl,Gp _ _,Rq⟩
 case round=>
  obtain⟨i,hi,rfl,hO,hB⟩:=hrel;obtain⟨pa,pc,rfl⟩:=hO.form;rw[Cg]at hO⊢;have hxr:=(hB.block _ hlt1).trans HX1.out;have hr0:=Cq hxr 0;have hr1:=Cq hxr 1;have hr2:=Cq hxr 2;have hr3:=Cq hxr 3;have hbr:=Tq HBD.out hB;have hvr:=HV.out.below hbr;have hkr:=HK.out.below hbr HK.out.size;obtain⟨HVR,HKR,HO,HB⟩:=Hd4 hvr hkr hO hB;clear hxr hbr hkr hO hB hc3;by_cases hlt:i<N
  ·have hpo:=Ei HE.out (i:=i) (by show i<Af l.length;rw[HL.out,HN.out];exact hlt);have hpe:Bi ⟨k,g,n,l⟩ i=⟨k,g,n,(i:Int),(N:Int),seg l (224*i) 224⟩:=by unfold Bi;simp only;rw[HL.out,HN.out]
   have hchk:=hpo.chk;rw[hpe]at hchk;have HCHK:=Hd hchk;have HPE:=Hd hpe;clear hpo hchk hpe;by_cases h0:len=0
   ·subst h0;have hl0:l=[]:=List.eq_nil_of_length_eq_zero HL.out;have hN0:N=1:=by rw[←HN.out];rfl
    obtain rfl :i=0:=by omega
    have hsg:seg l (224*0) 224=[]:=by rw[hl0];rfl
    have hnil:a=none→cap=0:=fun e=>hvr.nil _ _ (by rw[e])
    have HSG:=Hd hsg;clear hl0 hN0 hsg hvr;by_cases hcap:cap=0
    ·subst hcap;clear hnil;go_wp2_with fail;refine(D6 ⟨k,g,n,((0:Nat):Int),(N:Int),seg l (224*0) 224⟩ _ _ _ (by rw[HSG.out];exact Dp _ (fun _=>True) _ _) (by rw[HSG.out];rfl) HKR.out HCHK.out).mono ?_;rintro e w3 ⟨u,rfl,hu,hb3⟩;obtain⟨ua,uc,rfl⟩:=Ag hu;have ho3:=HO.out.below hb3;have hu3:w3.ownsRow w1.heap.size 5 1 (.slice ua 256 uc) (By (Bi ⟨k,g,n,l⟩ 0)).length (bvs (By (Bi ⟨k,g,n,l⟩ 0))):=by rw[Bt,HPE.out];exact Am hu HB.out.size
     have hB3:=Tq HB.out hb3;obtain⟨HO3,HU3,HB3⟩:=Hd3 ho3 hu3 hB3;clear hu hb3 ho3 hu3 hB3;go_wp2_with (at_builtin;refine D8 rfl (.tmp 64) (.tmp 66) rfl rfl HO3.out HU3.out rfl (Cg _ _) (by omega) HB3.out.size ?_)
     intro a' cap' w4 ho4 hb4;have HO4:=Hd ho4;have HB4:=Hd (HB3.out.trans hb4);clear ho4 hb4;go_wp2_with fail;go_roundw
     case rel=>first|exact⟨0+1,by omega,by go_num,by rw[BO];exact HO4.out,HB4.out⟩| ((repeat apply Exists.intro);exact⟨⟨0+1,by omega,by go_num,by rw[BO];exact HO4.out,HB4.out⟩,rfl⟩)
     case measure=>simp[intOf];omega
    ·clear hnil;go_wp2_with fail;refine(D6 ⟨k,g,n,((0:Nat):Int),(N:Int),seg l (224*0) 224⟩ _ _ _ (by rw[HSG.out];exact Dp _ (fun _=>True) _ _) (by rw[HSG.out];rfl) HKR.out HCHK.out).mono ?_;rintro e w3 ⟨u,rfl,hu,hb3⟩;obtain⟨ua,uc,rfl⟩:=Ag hu;have ho3:=HO.out.below hb3;have hu3:w3.ownsRow w1.heap.size 5 1 (.slice ua 256 uc) (By (Bi ⟨k,g,n,l⟩ 0)).length (bvs (By (Bi ⟨k,g,n,l⟩ 0))):=by rw[Bt,HPE.out];exact Am hu HB.out.size
     have hB3:=Tq HB.out hb3;obtain⟨HO3,HU3,HB3⟩:=Hd3 ho3 hu3 hB3;clear hu hb3 ho3 hu3 hB3;go_wp2_with (at_builtin;refine D8 rfl (.tmp 64) (.tmp 66) rfl rfl HO3.out HU3.out rfl (Cg _ _) (by omega) HB3.out.size ?_)
     intro a' cap' w4 ho4 hb4;have HO4:=Hd ho4;have HB4:=Hd (HB3.out.trans hb4);clear ho4 hb4;go_wp2_with fail;go_roundw
     case rel=>first|exact⟨0+1,by omega,by go_num,by rw[BO];exact HO4.out,HB4.out⟩| ((repeat apply Exists.intro);exact⟨⟨0+1,by omega,by go_num,by rw[BO];exact HO4.out,HB4.out⟩,rfl⟩)
     case measure=>simp[intOf];omega
   ·have hlo:224*i<len:=by have:=HN.out;unfold Af at this;omega
    obtain⟨ag,ao,rfl⟩:=hvr.at_.addr (fun e=>h0 (by rw[←HL.out,e];rfl));have hcl:=hvr.at_.len.2;have hck:¬cap=i*224:=by omega
    have hck2:¬cap=224*i:=by omega
    by_cases hlast:(i+1)*224≤len
    ·have hI1:((i:Int)+1)*224≤(len:Int):=by omega
     clear hvr;go_wp2_with fail;refine(D6 ⟨k,g,n,((i:Nat):Int),(N:Int),seg l (224*i) 224⟩ _ _ _ (HVR.out.at_.seg (224*i) 224 (by omega) (by rw[HL.out];omega) (by rw[HL.out];omega) (by omega)) (by rw[NG,HL.out];omega) HKR.out HCHK.out).mono ?_;rintro e w3 ⟨u,rfl,hu,hb3⟩;obtain⟨ua,uc,rfl⟩:=Ag hu;have ho3:=HO.out.below hb3;have hu3:w3.ownsRow w1.heap.size 5 1 (.slice ua 256 uc) (By (Bi ⟨k,g,n,l⟩ i)).length (bvs (By (Bi ⟨k,g,n,l⟩ i))):=by rw[Bt,HPE.out];exact Am hu HB.out.size
     have hB3:=Tq HB.out hb3;obtain⟨HO3,HU3,HB3⟩:=Hd3 ho3 hu3 hB3;clear hu hb3 ho3 hu3 hB3;go_wp2_with (at_builtin;refine D8 rfl (.tmp 64) (.tmp 66) rfl rfl HO3.out HU3.out rfl (Cg _ _) (by omega) HB3.out.size ?_)
     intro a' cap' w4 ho4 hb4;have HO4:=Hd ho4;have HB4:=Hd (HB3.out.trans hb4);clear ho4 hb4;go_wp2_with fail;go_roundw
     case rel=>first|exact⟨i+1,by omega,by go_num,by rw[BO];exact HO4.out,HB4.out⟩| ((repeat apply Exists.intro);exact⟨⟨i+1,by omega,by go_num,by rw[BO];exact HO4.out,HB4.out⟩,rfl⟩)
     case measure=>simp[intOf];omega
    ·have hI1:(len:Int)<((i:Int)+1)*224:=by omega
     clear hvr;go_wp2_with fail;refine(D6 ⟨k,g,n,((i:Nat):Int),(N:Int),seg l (224*i) 224⟩ _ _ _ (HVR.out.at_.seg (224*i) 224 (by omega) (by rw[HL.out];omega) (by rw[HL.out];omega) (by omega)) (by rw[NG,HL.out];omega) HKR.out HCHK.out).mono ?_;rintro e w3 ⟨u,rfl,hu,hb3⟩;obtain⟨ua,uc,rfl⟩:=Ag hu;have ho3:=HO.out.below hb3;have hu3:w3.ownsRow w1.heap.size 5 1 (.slice ua 256 uc) (By (Bi ⟨k,g,n,l⟩ i)).length (bvs (By (Bi ⟨k,g,n,l⟩ i))):=by rw[Bt,HPE.out];exact Am hu HB.out.size
     have hB3:=Tq HB.out hb3;obtain⟨HO3,HU3,HB3⟩:=Hd3 ho3 hu3 hB3;clear hu hb3 ho3 hu3 hB3;go_wp2_with (at_builtin;refine D8 rfl (.tmp 64) (.tmp 66) rfl rfl HO3.out HU3.out rfl (Cg _ _) (by omega) HB3.out.size ?_)
     intro a' cap' w4 ho4 hb4;have HO4:=Hd ho4;have HB4:=Hd (HB3.out.trans hb4);clear ho4 hb4;go_wp2_with fail;go_roundw
     case rel=>first|exact⟨i+1,by omega,by go_num,by rw[BO];exact HO4.out,HB4.out⟩| ((repeat apply Exists.intro);exact⟨⟨i+1,by omega,by go_num,by rw[BO];exact HO4.out,HB4.out⟩,rfl⟩)
     case measure=>simp[intOf];omega
  ·obtain rfl :i=N:=by omega
   go_wp2_with fail;go_ret2;exact SplitPost.yes HE.out (by show Af l.length=_;rw[HL.out,HN.out]) HO.out HBD.out.size (Tq HBD.out HB.out)
theorem QD (k g n:Int) (l:List UInt8) (a:Option Addr) (len cap:Nat) (hl:l.length=len) (h:As ⟨k,g,n,l⟩≠0):
 Ca 77 #[.agg #[.int .i64 k,.int .i64 g,.int .i64 n,.slice a len cap]] w (SplitPost w ⟨k,g,n,l⟩):=by
 obtain⟨w0,hw0⟩:=Xq ((w.alloc (.cells #[.int .i64 k,.int .i64 g,.int .i64 n,.slice a len cap] 111)).alloc (.cells #[.int .i64 k,.int .i64 g,.int .i64 n] 169));have hb0:Below w.heap.size w w0:=hw0▸((Below.refl _ w).alloc Lr _).alloc (by simp) _;have hx0:w0.heap[w.heap.size]?=some (.cells #[.int .i64 k,.int .i64 g,.int .i64 n,.slice a len cap] 111 (0,0)):=by rw[←hw0];exact(Below.heap_alloc _ _ _ (by simp)).trans (Hn)
 have hval:=BN k g n w0;obtain⟨HW0,HB0,HX0⟩:=Hd3 hw0 hb0 hx0;by_cases hf:Aw k g n=false
 ·have h2:As ⟨k,g,n,l⟩=2:=by unfold As;rw[Ip hf]
  rw[hf]at hval;have HVAL:=Hd hval;have H2:=Hd h2;clear hval hw0 hb0 hx0 h2 hf hl h;go_enter Tryz.func77,Tryz.ntmps77;go_wp2_with fail;rw[HW0.out];refine HVAL.out.mono ?_;rintro e w1 ⟨rfl,hb1⟩;go_wp2_with fail;go_ret2;exact SplitPost.no H2.out (by decide) (Tq HB0.out hb1)
 ·have hf':Aw k g n=true:=by simpa using hf
  have hbig:131072<len:=by
   rcases Nat.lt_or_ge 131072 len with h1|h1
   ·exact h1
   ·exact absurd (by unfold As;rw[In hf,In (by simp only;omega)]) h
  have h5:As ⟨k,g,n,l⟩=5:=by unfold As;rw[In hf,Ip (by simp only;omega)]
  have hneed:=fun w=>I5 (len:Int) w
  have hnv:F0 (len:Int)=0:=by unfold F0;rw[Ip (by omega)]
  have hne:FZ (len:Int)=2:=by unfold FZ;rw[Ip (by omega)]
  rw[hnv,hne]at hneed;rw[hf']at hval;obtain⟨HVAL,HNEED,H5⟩:=Hd3 hval hneed h5;clear hval hw0 hb0 hx0 h5 hf hf' hl h hnv hne hneed hbig;go_enter Tryz.func77,Tryz.ntmps77;go_wp2_with fail;rw[HW0.out];refine HVAL.out.mono ?_;rintro e w1 ⟨rfl,hb1⟩;have hx1:=Bq hb1 HX0.out;have hc3:=Cq hx1 3;clear hx1;go_wp2_with fail;refine(HNEED.out _).mono ?_;rintro e w' ⟨rfl,rfl⟩;go_wp2_with fail;go_ret2;exact SplitPost.no H5.out (by decide) (Tq HB0.out hb1)
theorem Pu (r:RecD) (a:Option Addr) (len cap:Nat) (hv:BytesN w F (.slice a len cap) r.load) (hK:KAt w):
 Ca 77 #[.agg #[.int .i64 r.kind,.int .i64 r.gen,.int .i64 r.num,.slice a len cap]] w (SplitPost w r):=by
 obtain⟨rfl,_⟩:=hv.at_.len;by_cases h:As r=0
 ·exact QC r.kind r.gen r.num r.load a _ cap hv rfl hK h
 ·exact QD r.kind r.gen r.num r.load a _ cap rfl h
theorem ER (p:PartD) (hp:PartOk p) (a:Option Addr) (len cap:Nat) (hv:BytesN w F (.slice a len cap) p.bytes):
 Ca 102 #[.agg #[.int .i64 p.kind,.int .i64 p.gen,.int .i64 p.num,.int .i64 p.idx,.int .i64 p.cnt,.slice a len cap]] w fun e w'=>
  ∃u,e=.returned u∧w'.ownsRow w.heap.size 5 1 u 256 (bvs (By p))∧Below w.heap.size w w':=by
 obtain⟨k',g',n',i',c',l⟩:=p;obtain⟨a1,a2,a3,a4,a5,a6,a7,a8,a9,a10,a11,_,_⟩:=hp;simp only at*;obtain⟨k,rfl⟩:=Int.eq_ofNat_of_zero_le a1;obtain⟨g,rfl⟩:=Int.eq_ofNat_of_zero_le a3;obtain⟨n,rfl⟩:=Int.eq_ofNat_of_zero_le a5;obtain⟨i,rfl⟩:=Int.eq_ofNat_of_zero_le a9;obtain⟨c,rfl⟩:=Int.eq_ofNat_of_zero_le (by omega :(0:Int)≤c');obtain⟨rfl,_⟩:=hv.at_.len;exact Oo k g n i c l a _ cap hv rfl (by omega) (by omega) (by omega) (by omega) (by omega) (by omega)
theorem Pw (k g n:Int) (l:List UInt8) (a:Option Addr) (len cap:Nat) (hv:BytesN w F (.slice a len cap) l) (hl:l.length=len) (h:As ⟨k,g,n,l⟩=0):
 Ca 81 #[.agg #[.int .i64 k,.int .i64 g,.int .i64 n,.slice a len cap]] w (SplitPost w ⟨k,g,n,l⟩):=by
 obtain⟨hf,hle⟩:=Cs h;simp only at hf hle;have hneed:=fun w=>KB len (by omega) w
 have hnb:=CQ (n:=len) (by omega);obtain⟨N,hN⟩:=Xq (Af len);rw[hN]at hneed hnb;obtain⟨w1,hw1⟩:=Xq (w.alloc (.cells #[.int .i64 k,.int .i64 g,.int .i64 n,.slice a len cap] 146));have hb1:Below w.heap.size w w1:=hw1▸(Below.refl _ w).alloc Lr _;have hx1:=Nq hw1 rfl;have hval:=fun w=>BX k g n w
 rw[hf]at hval;have hcell:∀w':World,Below w1.heap.size w1 w'→w'.cell? ⟨w.heap.size,0,none⟩=some (.int .i64 k)∧w'.cell? ⟨w.heap.size,1,none⟩=some (.int .i64 g)∧w'.cell? ⟨w.heap.size,2,none⟩=some (.int .i64 n)∧
  w'.cell? ⟨w.heap.size,3,none⟩=some (.slice a len cap):=by
  intro w' hb;have hh:=(hb.block w.heap.size (Ax hx1).1).trans hx1;refine⟨?_,?_,?_,?_⟩<;>(rw[cr hh];rfl)
 have hlt1:=(Ax hx1).1;obtain⟨HVAL,HNEED,HW1,HBD,HCELL,HV,HL,HE,HN⟩:=Hd9 hval hneed hw1 hb1 hcell hv hl h hN;have hN1:=hnb.1;have hN2:=hnb.2;rw[hl]at hle;have hc3:=(hcell w1 Rq).2.2.2;clear hf hneed hnb hN hw1 hb1 hx1 hval hv hl h hcell;go_enter Tryz.func81,Tryz.ntmps81;go_wp2_with fail;rw[HW1.out];refine(HVAL.out _).mono ?_;rintro e w' ⟨rfl,rfl⟩;go_wp2_with fail;refine(HNEED.out _).mono ?_;rintro e w' ⟨rfl,rfl⟩;go_wp2_with fail;go_loopw [4,6] (fun pv iv wr=>∃i:Nat,i≤N∧iv=.int .i64 i∧OwnSecs wr w1.heap.size pv (EG ⟨k,g,n,l⟩ i)∧Below w1.heap.size w1 wr) (fun _ iv _=>N-(intOf iv).toNat)
 case atStart=>exact⟨0,Nat.zero_le _,rfl,Gp _ _,Rq⟩
 case round=>
  obtain⟨i,hi,rfl,hO,hB⟩:=hrel;obtain⟨pa,pc,rfl⟩:=hO.form;rw[Cg]at hO⊢;have hbr:=Tq HBD.out hB;have hvr:=HV.out.below hbr;obtain⟨HVR,HO,HB⟩:=Hd3 hvr hO hB;clear hbr hO hB hc3;by_cases hlt:i<N
  ·have hpo:=Ei HE.out (i:=i) (by show i<Af l.length;rw[HL.out,HN.out];exact hlt);have hpe:Bi ⟨k,g,n,l⟩ i=⟨k,g,n,(i:Int),(N:Int),seg l (224*i) 224⟩:=by unfold Bi;simp only;rw[HL.out,HN.out]
   have hpo2:=hpo;rw[hpe]at hpo2;have HPO:=Hd hpo2;have HPE:=Hd hpe;clear hpo hpo2 hpe;have hi586:(i:Int)<586:=by omega
   by_cases h0:len=0
   ·subst h0;have hl0:l=[]:=List.eq_nil_of_length_eq_zero HL.out;have hN0:N=1:=by rw[←HN.out];rfl
    obtain rfl :i=0:=by omega
    have hsg:seg l (224*0) 224=[]:=by rw[hl0];rfl
    have hnil:a=none→cap=0:=fun e=>hvr.nil _ _ (by rw[e])
    have HSG:=Hd hsg;have HNIL:=Hd hnil;have hwz:IntKind.i64.wrap 0=0:=by decide
    have hwz2:IntKind.i64.wrap 224=224:=by decide
    clear hl0 hN0 hsg hvr hnil;by_cases hcap:cap=0
    ·subst hcap;go_wp2_with fail;refine Np ?_;refine AY 25 (Below w1.heap.size w1) (by kernel_rfl) ?_;have hS0:(Below w1.heap.size w1) wr.drew:=HB.out.drew;obtain⟨wd,hwd⟩:=Xq (wr.drew);have hOD:OwnSecs wd w1.heap.size (.slice pa 0 pc) (EG ⟨k,g,n,l⟩ 0):=hwd▸HO.out.below (show Below wr.heap.size wr wr.drew from Rq.drew);have hVD:BytesN wd F _ l:=hwd▸HVR.out.below (show Below wr.heap.size wr wr.drew from Rq.drew);rw[hwd]at hS0⊢;clear hwd;refine tkF 0 hS0 ?_;refine tkF 1 hS0 ?_;refine Co 2 HCELL.out hS0 ?_;refine tkF 3 hS0 ?_;refine Co 4 HCELL.out hS0 ?_;refine tkF 5 hS0 ?_;refine Co 6 HCELL.out hS0 ?_;refine tkF 7 hS0 ?_;refine tkF 8 hS0 ?_;refine tkF 9 hS0 ?_;refine Co 10 HCELL.out hS0 ?_;refine tkF 11 hS0 ?_;refine tkF 12 hS0 ?_ (v:=(.int .i64 0));refine tkF 13 hS0 ?_;refine tkF 14 hS0 ?_ (v:=(.int .i64 0));refine tkF 15 hS0 ?_ (v:=(.int .i64 224));refine tkF 16 hS0 ?_;refine Co 17 HCELL.out hS0 ?_;refine tkF 18 hS0 ?_;refine tkF 19 hS0 ?_ (v:=(.int .i64 (0)));refine tkF 20 hS0 ?_ (v:=(.slice a 0 0));refine tkF 21 hS0 ?_;refine dF 22 fun K hK=>?_
     go_simp;go_at_call 102;refine(ER ⟨k,g,n,((0:Nat):Int),(N:Int),seg l (224*0) 224⟩ HPO.out _ _ _ (by rw[HSG.out];exact⟨Dp _ (fun _=>True) _ _,fun k c e=>by cases e;rfl⟩)).mono ?_;rintro e w3 ⟨u,rfl,hu,hb3⟩;obtain⟨ua,uc,rfl⟩:=Ag hu;have ho3:=hOD.below hb3;have hu3:w3.ownsRow w1.heap.size 5 1 (.slice ua 256 uc) (By (Bi ⟨k,g,n,l⟩ 0)).length (bvs (By (Bi ⟨k,g,n,l⟩ 0))):=by rw[Bt,HPE.out];exact Am hu hS0.size
     have hS1:=Tq hS0 hb3;refine Kq hK (fun _=>hS1) ?_;refine dF 23 fun K hK=>?_
     go_simp;have hS2:Below w1.heap.size w1 (w3.alloc (.cells #[.slice ua 256 uc] 30)):=hS1.alloc hS1.size _;refine Kq hK (fun _=>hS2) ?_;refine dF 24 fun K hK=>?_
     refine E8 (.tmp 28) (.tmp 51) rfl rfl ho3 hu3 rfl (Cg _ _) (by omega) hS1.size ?_;intro a' cap' w4 ho4 hb4;have hS3:=hS1.trans hb4;refine Kq hK (fun _=>hS3) ?_;refine dF 25 fun K hK=>?_
     go_simp;refine hK _ _ (fun h=>absurd rfl h) ?_;refine eF ?_;have HO4:=Hd ho4;have HB4:=Hd hS3;clear ho4 hb4 hS3 hS2 hS1 hS0 hu3 ho3 hu hb3 hOD hVD;go_wp2_with fail;go_roundw
     case rel=>first|exact⟨0+1,by omega,by go_num,by rw[BO];exact HO4.out,HB4.out⟩| ((repeat apply Exists.intro);exact⟨⟨0+1,by omega,by go_num,by rw[BO];exact HO4.out,HB4.out⟩,rfl⟩)
     case measure=>simp[intOf];omega
    ·obtain⟨aa,rfl⟩:∃aa,a=some aa:=by
      cases a with
      |none=>exact absurd (HNIL.out rfl) hcap
      |some aa=>exact⟨aa,rfl⟩
     go_wp2_with fail;refine Np ?_;refine AY 25 (Below w1.heap.size w1) (by kernel_rfl) ?_;have hS0:(Below w1.heap.size w1) wr.drew:=HB.out.drew;obtain⟨wd,hwd⟩:=Xq (wr.drew);have hOD:OwnSecs wd w1.heap.size (.slice pa 0 pc) (EG ⟨k,g,n,l⟩ 0):=hwd▸HO.out.below (show Below wr.heap.size wr wr.drew from Rq.drew);have hVD:BytesN wd F _ l:=hwd▸HVR.out.below (show Below wr.heap.size wr wr.drew from Rq.drew);rw[hwd]at hS0⊢;clear hwd;refine tkF 0 hS0 ?_;refine tkF 1 hS0 ?_;refine Co 2 HCELL.out hS0 ?_;refine tkF 3 hS0 ?_;refine Co 4 HCELL.out hS0 ?_;refine tkF 5 hS0 ?_;refine Co 6 HCELL.out hS0 ?_;refine tkF 7 hS0 ?_;refine tkF 8 hS0 ?_;refine tkF 9 hS0 ?_;refine Co 10 HCELL.out hS0 ?_;refine tkF 11 hS0 ?_;refine tkF 12 hS0 ?_ (v:=(.int .i64 0));refine tkF 13 hS0 ?_;refine tkF 14 hS0 ?_ (v:=(.int .i64 0));refine tkF 15 hS0 ?_ (v:=(.int .i64 224));refine tkF 16 hS0 ?_;refine Co 17 HCELL.out hS0 ?_;refine tkF 18 hS0 ?_;refine tkF 19 hS0 ?_ (v:=(.int .i64 (0)));refine tkF 20 hS0 ?_ (v:=(.slice (some aa) 0 cap));refine tkF 21 hS0 ?_;refine dF 22 fun K hK=>?_
     go_simp;go_at_call 102;refine(ER ⟨k,g,n,((0:Nat):Int),(N:Int),seg l (224*0) 224⟩ HPO.out _ _ _ (by rw[HSG.out];exact⟨Dp _ (fun _=>True) _ _,fun k c e=>by cases e⟩)).mono ?_;rintro e w3 ⟨u,rfl,hu,hb3⟩;obtain⟨ua,uc,rfl⟩:=Ag hu;have ho3:=hOD.below hb3;have hu3:w3.ownsRow w1.heap.size 5 1 (.slice ua 256 uc) (By (Bi ⟨k,g,n,l⟩ 0)).length (bvs (By (Bi ⟨k,g,n,l⟩ 0))):=by rw[Bt,HPE.out];exact Am hu hS0.size
     have hS1:=Tq hS0 hb3;refine Kq hK (fun _=>hS1) ?_;refine dF 23 fun K hK=>?_
     go_simp;have hS2:Below w1.heap.size w1 (w3.alloc (.cells #[.slice ua 256 uc] 30)):=hS1.alloc hS1.size _;refine Kq hK (fun _=>hS2) ?_;refine dF 24 fun K hK=>?_
     refine E8 (.tmp 28) (.tmp 51) rfl rfl ho3 hu3 rfl (Cg _ _) (by omega) hS1.size ?_;intro a' cap' w4 ho4 hb4;have hS3:=hS1.trans hb4;refine Kq hK (fun _=>hS3) ?_;refine dF 25 fun K hK=>?_
     go_simp;refine hK _ _ (fun h=>absurd rfl h) ?_;refine eF ?_;have HO4:=Hd ho4;have HB4:=Hd hS3;clear ho4 hb4 hS3 hS2 hS1 hS0 hu3 ho3 hu hb3 hOD hVD;go_wp2_with fail;go_roundw
     case rel=>first|exact⟨0+1,by omega,by go_num,by rw[BO];exact HO4.out,HB4.out⟩| ((repeat apply Exists.intro);exact⟨⟨0+1,by omega,by go_num,by rw[BO];exact HO4.out,HB4.out⟩,rfl⟩)
     case measure=>simp[intOf];omega
   ·have hlo:224*i<len:=by have:=HN.out;unfold Af at this;omega
    obtain⟨ag,ao,rfl⟩:=hvr.at_.addr (fun e=>h0 (by rw[←HL.out,e];rfl));have hcl:=hvr.at_.len.2;have hck:¬cap=i*224:=by omega
    have hck2:¬cap=224*i:=by omega
    have hw224:=Iw (224*(i:Int));have hw448:=Iw (224*(i:Int)+224);have hge0:(0:Int)≤224*(i:Int):=by omega
    have htn0:(224*(i:Int)).toNat=224*i:=by omega
    have hge1:224*(i:Int)≤224*(i:Int)+224:=by omega
    have htn1:(224*(i:Int)+224).toNat=224*i+224:=by omega
    have hleI:224*(i:Int)≤(len:Int):=by omega
    have hcapI:(len:Int)≤(cap:Int):=by omega
    by_cases hlast:224*i+224≤len
    ·have hI1:224*(i:Int)+224≤(len:Int):=by omega
     have hI2:224*(i:Int)+224≤(cap:Int):=by omega
     have hI4:¬((len:Int)<224*(i:Int)+224):=by omega
     have hmin:min (224*(i:Int)+224) (len:Int)=224*(i:Int)+224:=by omega
     clear hvr;go_wp2_with fail;refine Np ?_;refine AY 25 (Below w1.heap.size w1) (by kernel_rfl) ?_;have hS0:(Below w1.heap.size w1) wr.drew:=HB.out.drew;obtain⟨wd,hwd⟩:=Xq (wr.drew);have hOD:OwnSecs wd w1.heap.size (.slice pa i pc) (EG ⟨k,g,n,l⟩ i):=hwd▸HO.out.below (show Below wr.heap.size wr wr.drew from Rq.drew);have hVD:BytesN wd F _ l:=hwd▸HVR.out.below (show Below wr.heap.size wr wr.drew from Rq.drew);rw[hwd]at hS0⊢;clear hwd;refine tkF 0 hS0 ?_;refine tkF 1 hS0 ?_;refine Co 2 HCELL.out hS0 ?_;refine tkF 3 hS0 ?_;refine Co 4 HCELL.out hS0 ?_;refine tkF 5 hS0 ?_;refine Co 6 HCELL.out hS0 ?_;refine tkF 7 hS0 ?_;refine tkF 8 hS0 ?_;refine tkF 9 hS0 ?_;refine Co 10 HCELL.out hS0 ?_;refine tkF 11 hS0 ?_;refine tkF 12 hS0 ?_ (v:=(.int .i64 (224*(i:Int))));refine tkF 13 hS0 ?_;refine tkF 14 hS0 ?_ (v:=(.int .i64 (224*(i:Int))));refine tkF 15 hS0 ?_ (v:=(.int .i64 (224*(i:Int)+224)));refine tkF 16 hS0 ?_;refine Co 17 HCELL.out hS0 ?_;refine tkF 18 hS0 ?_;refine tkF 19 hS0 ?_ (v:=(.int .i64 (224*(i:Int)+224))) (hy:=fun w' hw'=>by first| (clear hw';go_simp;intro hlt0;omega)| (go_simp;rfl)| (go_simp;done)|rfl);refine tkF 20 hS0 ?_ (v:=(.slice (some ⟨ag,ao+224*i,none⟩) (224*i+224-224*i) (cap-224*i)));refine tkF 21 hS0 ?_;refine dF 22 fun K hK=>?_
     go_simp;go_at_call 102;refine(ER ⟨k,g,n,((i:Nat):Int),(N:Int),seg l (224*i) 224⟩ HPO.out _ _ _ ((hVD.at_.seg (224*i) 224 (by omega) (by rw[HL.out];omega) (by rw[HL.out];omega) (by omega)).n)).mono ?_;rintro e w3 ⟨u,rfl,hu,hb3⟩;obtain⟨ua,uc,rfl⟩:=Ag hu;have ho3:=hOD.below hb3;have hu3:w3.ownsRow w1.heap.size 5 1 (.slice ua 256 uc) (By (Bi ⟨k,g,n,l⟩ i)).length (bvs (By (Bi ⟨k,g,n,l⟩ i))):=by rw[Bt,HPE.out];exact Am hu hS0.size
     have hS1:=Tq hS0 hb3;refine Kq hK (fun _=>hS1) ?_;refine dF 23 fun K hK=>?_
     go_simp;have hS2:Below w1.heap.size w1 (w3.alloc (.cells #[.slice ua 256 uc] 30)):=hS1.alloc hS1.size _;refine Kq hK (fun _=>hS2) ?_;refine dF 24 fun K hK=>?_
     refine E8 (.tmp 28) (.tmp 51) rfl rfl ho3 hu3 rfl (Cg _ _) (by omega) hS1.size ?_;intro a' cap' w4 ho4 hb4;have hS3:=hS1.trans hb4;refine Kq hK (fun _=>hS3) ?_;refine dF 25 fun K hK=>?_
     go_simp;refine hK _ _ (fun h=>absurd rfl h) ?_;refine eF ?_;have HO4:=Hd ho4;have HB4:=Hd hS3;clear ho4 hb4 hS3 hS2 hS1 hS0 hu3 ho3 hu hb3 hOD hVD;go_wp2_with fail;go_roundw
     case rel=>first|exact⟨i+1,by omega,by go_num,by rw[BO];exact HO4.out,HB4.out⟩| ((repeat apply Exists.intro);exact⟨⟨i+1,by omega,by go_num,by rw[BO];exact HO4.out,HB4.out⟩,rfl⟩)
     case measure=>simp[intOf];omega
    ·have hI1:(len:Int)<224*(i:Int)+224:=by omega
     have hI2:¬(224*(i:Int)+224≤(len:Int)):=by omega
     have hI3:(len:Int)≤224*(i:Int)+224:=by omega
     clear hvr;go_wp2_with fail;refine Np ?_;refine AY 25 (Below w1.heap.size w1) (by kernel_rfl) ?_;have hS0:(Below w1.heap.size w1) wr.drew:=HB.out.drew;obtain⟨wd,hwd⟩:=Xq (wr.drew);have hOD:OwnSecs wd w1.heap.size (.slice pa i pc) (EG ⟨k,g,n,l⟩ i):=hwd▸HO.out.below (show Below wr.heap.size wr wr.drew from Rq.drew);have hVD:BytesN wd F _ l:=hwd▸HVR.out.below (show Below wr.heap.size wr wr.drew from Rq.drew);rw[hwd]at hS0⊢;clear hwd;refine tkF 0 hS0 ?_;refine tkF 1 hS0 ?_;refine Co 2 HCELL.out hS0 ?_;refine tkF 3 hS0 ?_;refine Co 4 HCELL.out hS0 ?_;refine tkF 5 hS0 ?_;refine Co 6 HCELL.out hS0 ?_;refine tkF 7 hS0 ?_;refine tkF 8 hS0 ?_;refine tkF 9 hS0 ?_;refine Co 10 HCELL.out hS0 ?_;refine tkF 11 hS0 ?_;refine tkF 12 hS0 ?_ (v:=(.int .i64 (224*(i:Int))));refine tkF 13 hS0 ?_;refine tkF 14 hS0 ?_ (v:=(.int .i64 (224*(i:Int))));refine tkF 15 hS0 ?_ (v:=(.int .i64 (224*(i:Int)+224)));refine tkF 16 hS0 ?_;refine Co 17 HCELL.out hS0 ?_;refine tkF 18 hS0 ?_;refine tkF 19 hS0 ?_ (v:=(.int .i64 ((len:Int))));refine tkF 20 hS0 ?_ (v:=(.slice (some ⟨ag,ao+224*i,none⟩) (len-224*i) (cap-224*i)));refine tkF 21 hS0 ?_;refine dF 22 fun K hK=>?_
     go_simp;go_at_call 102;refine(ER ⟨k,g,n,((i:Nat):Int),(N:Int),seg l (224*i) 224⟩ HPO.out _ _ _ ((hVD.at_.seg (224*i) 224 (by omega) (by rw[HL.out];omega) (by rw[HL.out];omega) (by omega)).n)).mono ?_;rintro e w3 ⟨u,rfl,hu,hb3⟩;obtain⟨ua,uc,rfl⟩:=Ag hu;have ho3:=hOD.below hb3;have hu3:w3.ownsRow w1.heap.size 5 1 (.slice ua 256 uc) (By (Bi ⟨k,g,n,l⟩ i)).length (bvs (By (Bi ⟨k,g,n,l⟩ i))):=by rw[Bt,HPE.out];exact Am hu hS0.size
     have hS1:=Tq hS0 hb3;refine Kq hK (fun _=>hS1) ?_;refine dF 23 fun K hK=>?_
     go_simp;have hS2:Below w1.heap.size w1 (w3.alloc (.cells #[.slice ua 256 uc] 30)):=hS1.alloc hS1.size _;refine Kq hK (fun _=>hS2) ?_;refine dF 24 fun K hK=>?_
     refine E8 (.tmp 28) (.tmp 51) rfl rfl ho3 hu3 rfl (Cg _ _) (by omega) hS1.size ?_;intro a' cap' w4 ho4 hb4;have hS3:=hS1.trans hb4;refine Kq hK (fun _=>hS3) ?_;refine dF 25 fun K hK=>?_
     go_simp;refine hK _ _ (fun h=>absurd rfl h) ?_;refine eF ?_;have HO4:=Hd ho4;have HB4:=Hd hS3;clear ho4 hb4 hS3 hS2 hS1 hS0 hu3 ho3 hu hb3 hOD hVD;go_wp2_with fail;go_roundw
     case rel=>first|exact⟨i+1,by omega,by go_num,by rw[BO];exact HO4.out,HB4.out⟩| ((repeat apply Exists.intro);exact⟨⟨i+1,by omega,by go_num,by rw[BO];exact HO4.out,HB4.out⟩,rfl⟩)
     case measure=>simp[intOf];omega
  ·obtain rfl :i=N:=by omega
   go_wp2_with fail;go_ret2;exact SplitPost.yes HE.out (by show Af l.length=_;rw[HL.out,HN.out]) HO.out HBD.out.size (Tq HBD.out HB.out)
theorem Px (k g n:Int) (l:List UInt8) (a:Option Addr) (len cap:Nat) (hl:l.length=len) (h:As ⟨k,g,n,l⟩≠0):
 Ca 81 #[.agg #[.int .i64 k,.int .i64 g,.int .i64 n,.slice a len cap]] w (SplitPost w ⟨k,g,n,l⟩):=by
 have hval:=fun w=>BX k g n w
 by_cases hf:Aw k g n=false
 ·have h2:As ⟨k,g,n,l⟩=2:=by unfold As;rw[Ip hf]
  rw[hf]at hval;have HVAL:=Hd hval;have H2:=Hd h2;clear hval h2 hf hl h;go_enter Tryz.func81,Tryz.ntmps81;go_wp2_with fail;refine(HVAL.out _).mono ?_;rintro e w' ⟨rfl,rfl⟩;go_wp2_with fail;go_ret2;exact SplitPost.no H2.out (by decide) (Rq.alloc Lr _)
 ·have hf':Aw k g n=true:=by simpa using hf
  have hbig:131072<len:=by
   rcases Nat.lt_or_ge 131072 len with h1|h1
   ·exact h1
   ·exact absurd (by unfold As;rw[In hf,In (by simp only;omega)]) h
  have h5:As ⟨k,g,n,l⟩=5:=by unfold As;rw[In hf,Ip (by simp only;omega)]
  rw[hf']at hval;have HVAL:=Hd hval;have H5:=Hd h5;clear hval h5 hf hf' hl h;go_enter Tryz.func81,Tryz.ntmps81;go_wp2_with fail;refine(HVAL.out _).mono ?_;rintro e w' ⟨rfl,rfl⟩;go_wp2_with fail;go_ret2;exact SplitPost.no H5.out (by decide) (Rq.alloc Lr _)
theorem Oq (r:RecD) (a:Option Addr) (len cap:Nat) (hv:BytesN w F (.slice a len cap) r.load):
 Ca 81 #[.agg #[.int .i64 r.kind,.int .i64 r.gen,.int .i64 r.num,.slice a len cap]] w (SplitPost w r):=by
 obtain⟨rfl,_⟩:=hv.at_.len;by_cases h:As r=0
 ·exact Pw r.kind r.gen r.num r.load a _ cap hv rfl h
 ·exact Px r.kind r.gen r.num r.load a _ cap rfl h
end Go.Proofs.YtplclpileejemaaGreatDoor
namespace Go.Proofs.YtplclpileejemaaGreatDoor
open Go.RowKit Go.ChangeShapes
variable {w w':World}{m:Nat}{l:List UInt8}
theorem KE:Tryz.prog.cellsOf 3=1:=by kernel_rfl
theorem Hj:Tryz.prog.cellsOf 169=3:=by kernel_rfl
theorem Hk:Tryz.prog.cellsOf 182=5:=by kernel_rfl
theorem E9 {n:Int} (h0:0≤n) (h1:n≤2147483647) (d:Nat):Tryz.prog.keyLits (d+1) 3 [.int .i64 n]=some [.int .i64 n]:=by
 have hw:(Lit.int .i64 n).wf=true:=by simp[Lit.wf,IntKind.min,IntKind.max,IntKind.signed,IntKind.bits];omega
 simp[Program.keyLits,Tryz.underlying3,hw]
def Bg (n:Int):Prop:=0≤n∧n≤2147483647
theorem K9 {k g n:Int} (hk:Bg k) (hg:Bg g) (hn:Bg n):Tryz.prog.keyLits 2 169 [.int .i64 k,.int .i64 g,.int .i64 n]=some [.int .i64 k,.int .i64 g,.int .i64 n]:=by unfold Program.keyLits;rw[Tryz.underlying169];have e0:([.int .i64 k,.int .i64 g,.int .i64 n]:List Value).length=3:=rfl;simp only[e0,Hj,true_and];simp only[List.mapM_cons,List.mapM_nil,KE,List.drop_zero,List.take_succ_cons,List.take_zero,List.drop_succ_cons,E9 hk.1 hk.2 0,E9 hg.1 hg.2 0,E9 hn.1 hn.2 0];simp
theorem Hl {k g n i c:Int} (hk:Bg k) (hg:Bg g) (hn:Bg n) (hi:Bg i) (hc:Bg c):
 Tryz.prog.keyLits 3 182 [.int .i64 k,.int .i64 g,.int .i64 n,.int .i64 i,.int .i64 c]=some [.int .i64 k,.int .i64 g,.int .i64 n,.int .i64 i,.int .i64 c]:=by
 unfold Program.keyLits;rw[Tryz.underlying182];have e0:([.int .i64 k,.int .i64 g,.int .i64 n,.int .i64 i,.int .i64 c]:List Value).length=5:=rfl;simp only[e0,Hk,true_and];simp only[List.mapM_cons,List.mapM_nil,KE,Hj,List.drop_zero,List.take_succ_cons,List.take_zero,List.drop_succ_cons,K9 hk hg hn,E9 hi.1 hi.2 1,E9 hc.1 hc.2 1];simp
theorem H9 (a b c d e:Value):(Value.agg #[a,b,c,d,e]).formed Tryz.prog 182=true:=by unfold Value.formed;rw[Tryz.underlying182];simp[Hk]
theorem La:Tryz.prog.keyTypeAt 5 182=true:=by kernel_rfl
theorem Or:EqAt Tryz.prog 10000 182:=by have:=run_equalIn_deep 9995 5 182 La;simpa only[Nat.reduceAdd]using this
theorem M4:Tryz.prog.eqGuardType Tryz.prog.depth 182=false:=by kernel_rfl
theorem Py {k g n i c k2 g2 n2 i2 c2:Int} (hk:Bg k) (hg:Bg g) (hn:Bg n) (hi:Bg i) (hc:Bg c) (hk2:Bg k2) (hg2:Bg g2) (hn2:Bg n2) (hi2:Bg i2) (hc2:Bg c2) (w:World):
 (binOp .neq 182 (.agg #[.int .i64 k2,.int .i64 g2,.int .i64 n2,.int .i64 i2,.int .i64 c2]) (.agg #[.int .i64 k,.int .i64 g,.int .i64 n,.int .i64 i,.int .i64 c])).run Tryz.prog w=
  .ok (.bool (!(k2==k&&g2==g&&n2==n&&i2==i&&c2==c))) w:=by
 rw[run_neq_struct (P:=Tryz.prog) w 182 _ _];obtain⟨r,h1,h2⟩:=Or w 3 3 _ _ _ _ (H9 _ _ _ _ _) (H9 _ _ _ _ _) (Hl hk2 hg2 hn2 hi2 hc2) (Hl hk hg hn hi hc);rw[h1];have e:r=(k2==k&&g2==g&&n2==n&&i2==i&&c2==c):=by
  rw[Bool.eq_iff_iff,h2];simp;constructor
  ·rintro⟨h1,h2,h3,h4,h5⟩;exact⟨⟨⟨⟨h1,h2⟩,h3⟩,h4⟩,h5⟩
  ·rintro⟨⟨⟨⟨h1,h2⟩,h3⟩,h4⟩,h5⟩;exact⟨h1,h2,h3,h4,h5⟩
 rw[e];rfl
def Sx (r:RecD) (v:Value):Array Value:=#[.int .i64 r.kind,.int .i64 r.gen,.int .i64 r.num,v]
def JoinPost (w:World) (L:List (List UInt8)) (e:Ending) (w':World):Prop:=
 ∃a c,e=.returned (.tuple #[.agg (Sx (Av L).1 (.slice a (Av L).1.load.length c)),.int .i64 ((Av L).2.1:Int),.int .i64 (Av L).2.2])∧
  w'.ownsRow w.heap.size 5 1 (.slice a (Av L).1.load.length c) (Av L).1.load.length (bvs (Av L).1.load)∧Below w.heap.size w w'
theorem JoinPost.no {L:List (List UInt8)}{k:Int} (hk:Av L=(.zero,0,k)) (hb:Below w.heap.size w w'):
 JoinPost w L (.returned (.tuple #[.agg #[.int .i64 0,.int .i64 0,.int .i64 0,.slice none 0 0],.int .i64 0,.int .i64 k])) w':=by
 refine⟨none,0,?_,?_,hb⟩
 ·rw[hk];rfl
 ·rw[hk];exact Dx _ _ _
theorem JoinPost.yes {L:List (List UInt8)}{k g n:Int}{acc:List UInt8}{a:Option Addr}{N c:Nat} (hk:Av L=(⟨k,g,n,acc⟩,m,0)) (hN:acc.length=N)
 (ho:w'.ownsRow w.heap.size 5 1 (.slice a N c) N (bvs acc)) (hb:Below w.heap.size w w'):
 JoinPost w L (.returned (.tuple #[.agg #[.int .i64 k,.int .i64 g,.int .i64 n,.slice a N c],.int .i64 m,.int .i64 0])) w':=by
 subst hN;refine⟨a,c,?_,?_,hb⟩
 ·rw[hk];rfl
 ·rw[hk];exact ho
theorem DecPost.parts {e:Ending} (h:DecPost w l e w'):∃a c,e=.returned (.tuple #[.agg #[.int .i64 (Ak l).kind,.int .i64 (Ak l).gen,.int .i64 (Ak l).num,.int .i64 (Ak l).idx,.int .i64 (Ak l).cnt,.slice a (Ak l).bytes.length c],.int .i64 (Al l)])∧
 w'.ownsRow w.heap.size 5 1 (.slice a (Ak l).bytes.length c) (Ak l).bytes.length (bvs (Ak l).bytes)∧Below w.heap.size w w':=h
theorem Es {b:List UInt8} (h:Al b=0):Bg (Ak b).kind∧Bg (Ak b).gen∧Bg (Ak b).num∧Bg (Ak b).idx∧Bg (Ak b).cnt∧(Ak b).bytes.length≤224∧1≤(Ak b).cnt∧(Ak b).cnt≤586:=by have hk:=Cj h;have hp:=hk.2.2.2.1;rw[hk.2.2.2.2];have:=hp.k0;have:=hp.k1;have:=hp.g0;have:=hp.g1;have:=hp.n0;have:=hp.n1;have:=hp.i0;have:=hp.i1;have:=hp.c0;have:=hp.c1;exact⟨⟨by omega,by omega⟩,⟨by omega,by omega⟩,⟨by omega,by omega⟩,⟨by omega,by omega⟩,⟨by omega,by omega⟩,hp.len,hp.c0,hp.c1⟩
end Go.Proofs.YtplclpileejemaaGreatDoor
