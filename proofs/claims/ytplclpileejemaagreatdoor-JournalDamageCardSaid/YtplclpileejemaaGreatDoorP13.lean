/- Short form (wip/zpack.py) of the texts Z9 Z10 Z11 Z17 Z19 J25 J29. -/
import Derived.Test.YtplclpileejemaaGreatDoorP12
set_option linter.all false
set_option maxRecDepth 100000
set_option maxHeartbeats 8000000
namespace Go.Proofs.YtplclpileejemaaGreatDoor
open Go.RowKit
variable {o:Oper}{a:Act}{Q:Exit→Act→World→Prop}{K:Act→World→Prop}{w w':World}{ops:Array Oper}{G F:Nat→Prop}{R:JR}{S:DS}{J:JD}{v jv:Value}{n:Nat}
theorem RX (s x:Operand) (ho:o.op=.call {callee:=.builtin .append,args:=#[s,x],argTypes:=#[30,30]})
 {B n m:Nat} {v xv:Value} {F:Nat→Prop} {xs ys:List UInt8} (hs:a.eval s=v) (hown:w.ownsRow B 5 1 v n (bvs xs)) (hx:a.eval x=xv)
 (hb:BytesN w F xv ys) (hm:ys.length=m) (hn:n+m<1000000000000) (hB:B≤w.heap.size)
 (h:∀a' cap' w',w'.ownsRow B 5 1 (.slice a' (n+m) cap') (n+m) (bvs (xs++ys))→w.grownBy w' v.ownBlock→K (a.put o.dst (.slice a' (n+m) cap')) w'):
 o.wp Tryz.prog a w K Q:=by
 subst hm;obtain⟨i0,hi,hz0,hz1,hz2⟩:=info_parts CX;obtain⟨hb,hnil⟩:=hb;obtain⟨xa,xc,rfl,hxc,hxr⟩:=hb;cases xa with
 |none=>
  have hc0:=hnil _ _ rfl;subst hc0;have hy:ys=[]:=List.eq_nil_of_length_eq_zero (by omega);subst hy;obtain⟨va,vc,rfl⟩:=Ag hown;have hrun:=run_append_owned_none (P:=Tryz.prog) (w:=w) B 30 o.type 5 i0 1 Tryz.underlying30 hi _ n (bvs xs) hown;have:=h va vc w (by simpa using hown) ⟨rfl,rfl,rfl,Nat.le_refl _,fun _ _ _=>rfl⟩;unfold Oper.wp execOp;simp only[ho,resolve,invoke,builtin,Sem.run_bind,Sem.run_pure,Result.andThen_ok,List.map_toArray,List.map_cons,List.map_nil,hs,hx];have hx0:Value.slice none ([]:List UInt8).length 0=.slice none 0 0:=rfl;rw[hx0,hrun];exact this
 |some ad=>
  refine wp_append_own _ s x 30 ho B 5 i0 _ 1 1 Tryz.underlying30 hi hz0 hz1 hz2 rfl (by decide) v n (bvs xs) hs hown ad ys.length xc (bvs ys) hx (by simp) ?_ Bc (by unfold maxLen;omega) (by omega) hB ?_
  ·intro j u hu;obtain⟨g,off,e,_,_,hr⟩:=hxr (by intro e;rw[e]at hu;simp[bvs]at hu);cases e;have hadd:(⟨g,off,none⟩:Addr).add j=⟨g,off+j,none⟩:=by unfold Addr.add;split <;>simp_all
   rw[hadd];exact hr j u hu
  ·intro v' w' hown' hg _;rw[←DK]at hown';obtain⟨a',cap',rfl⟩:=Ag hown';exact h a' cap' w' hown' hg
theorem Ns {rest:List Oper} (hgd:o.guard=none) (s x:Operand) (ho:o.op=.call {callee:=.builtin .append,args:=#[s,x],argTypes:=#[30,30]})
 {B n m:Nat} {v xv:Value} {F:Nat→Prop} {xs ys:List UInt8} (hs:a.eval s=v) (hown:w.ownsRow B 5 1 v n (bvs xs)) (hx:a.eval x=xv)
 (hb:BytesN w F xv ys) (hm:ys.length=m) (hn:n+m<1000000000000) (hB:B≤w.heap.size)
 (h:∀a' cap' w',w'.ownsRow B 5 1 (.slice a' (n+m) cap') (n+m) (bvs (xs++ys))→w.grownBy w' v.ownBlock→wpList Tryz.prog ops Q rest (a.put o.dst (.slice a' (n+m) cap')) w'):
 wpList Tryz.prog ops Q (o::rest) a w:=
 wpList_plain hgd fun _ hK=>RX s x ho hs hown hx hb hm hn hB fun a' cap' w' h1 h2=>hK _ _ (h a' cap' w' h1 h2)
def RAPost (w:World) (G F:Nat→Prop) (R:JR) (Z:DS×JD×Int×Nat) (e:Ending) (w':World):Prop:=
 ∃v' jv,e=.returned (.tuple #[v',jv,.int .i64 (Z.2.2.2:Int),.int .i64 Z.2.2.1])∧RefD w' (fun k=>G k∨w.heap.size≤k) Z.1 v'∧RefJ w' (fun k=>F k∨w.heap.size≤k) R Z.2.1 jv∧Below w.heap.size w w'
theorem RAPost.mk {er:Int}{nu:Nat}{nv:Int}{Z:DS×JD×Int×Nat} (hZ:Z=(S,J,er,nu)) (hv:nv=(nu:Int)) (h:RefD w' (fun k=>G k∨w.heap.size≤k) S v) (hj:RefJ w' (fun k=>F k∨w.heap.size≤k) R J jv) (hb:Below w.heap.size w w'):
 RAPost w G F R Z (.returned (.tuple #[v,jv,.int .i64 nv,.int .i64 er])) w':=by
 subst hZ hv;exact⟨v,jv,rfl,h,hj,hb⟩
theorem J8 {w4 V B:World}{q nu c:Nat}{a:Option Addr}{er nv:Int}{jc:Array Value}{Z:DS×JD×Int×Nat} (hq:w.heap.size=q) (h4:w4.heap.size=q+4) (hc:Chg (fun k=>k=q+2∨k=q+3) V B) (hZ:Z=(S,J,er,nu)) (hv:nv=(nu:Int)) (h:RefD V (fun k=>(G k∧k<q)∨w4.heap.size≤k) S v) (hb:Below w.heap.size w V) (hn:J.ents.length=n) (hE:SecsF V (fun k=>(F k∧k<q)∨w4.heap.size≤k) (.slice a n c) J.ents) (hj:Do R J (.slice a n c)=jc):RAPost w G F R Z (.returned (.tuple #[v,.agg jc,.int .i64 nv,.int .i64 er])) B:=
 RAPost.mk hZ hv (O0 hq h4 hc h) (Ro hq h4 hc hn hE hj) (O1 hq hc hb)
theorem Lm {B:Nat→Prop} (hD:RefD w G S v) (hJ:RefJ w F R J jv) {ba:Option Addr} {bc:Nat} {l:List UInt8} (hl:BytesN w B (.slice ba l.length bc) l) (hll:l.length≤1000000000)
 (hr:R.area (J.gen%2)+R.half≤4096) (hnb:J.first+J.ents.length<4611686018427387904) (hn1:J.ents.length≤1000000) (hg1:J.gen≤2147483647) (hu1:J.used≤1000000) (hroom:Roomy S 910100000):
 Ca 28 #[v,jv,.slice ba l.length bc] w (RAPost w G F R (appJ S R J l)):=by
 obtain⟨da,dn,dc,dd,dm,de,dl,db,dz,rfl⟩:=hD.form;obtain⟨ea,ec,rfl,hEJ⟩:=hJ.ex;unfold Do;obtain⟨at_,hat⟩:∃x,R.at_=x:=⟨_,rfl⟩;obtain⟨hh,hhh⟩:∃x,R.half=x:=⟨_,rfl⟩;obtain⟨g,hg⟩:∃x,J.gen=x:=⟨_,rfl⟩;obtain⟨u,hu⟩:∃x,J.used=x:=⟨_,rfl⟩;obtain⟨fi,hfi⟩:∃x,J.first=x:=⟨_,rfl⟩;obtain⟨n,hn⟩:∃x,J.ents.length=x:=⟨_,rfl⟩;obtain⟨sy,hsy⟩:∃x,J.synced=x:=⟨_,rfl⟩;obtain⟨fa,hfa⟩:∃x,J.failed=x:=⟨_,rfl⟩;obtain⟨Z,hZ⟩:=Xq (appJ S R J l);rw[hZ];have HZ:=Hd hZ;have HN:=Hd hn;obtain⟨ar,har⟩:=Xq (R.area (J.gen%2));have HAR:=Hd har;have hArI:(at_:Int)+(g:Int)%2*(hh:Int)=(ar:Int)∧(g:Int)%2*(hh:Int)≤4096∧0≤(g:Int)%2*(hh:Int):=by
  obtain⟨which,hwh⟩:=Xq (J.gen%2);have e:(g:Int)%2=(which:Int):=by omega
  rw[e];rw[hwh]at har hr;unfold JR.area at har hr;rw[hat,hhh]at har hr;rcases(show which=0∨which=1 by omega)with rfl |rfl <;>simp at har hr⊢<;>omega
 rw[har,hhh]at hr;have HNM:=Hd (show R.at_=at_∧R.half=hh∧J.gen=g∧J.used=u∧J.first=fi∧J.synced=sy∧J.failed=fa from⟨hat,hhh,hg,hu,hfi,hsy,hfa⟩);have HBL:=Hd hl;obtain⟨m,hm⟩:=Xq (l.length);have HM:=Hd hm;have HROOM:=Hd hroom;rw[hm]at hll;rw[hn]at hEJ hn1;rw[hfi,hn]at hnb;rw[hg]at hg1;rw[hu]at hu1;rw[hat,hhh,hg,hu,hfi,hn,hsy,hfa,hm];obtain⟨w1,hw1⟩:=Xq (w.alloc (.cells #[.slice da dn dc,.slice dd dm de,.int .i64 dl,.bool db,.int .i64 dz] 39));obtain⟨w2,hw2⟩:=Xq (w1.alloc (.cells #[.int .i64 at_,.int .i64 hh,.int .i64 g,.int .i64 u,.int .i64 fi,.slice ea n ec,.int .i64 sy,.int .i64 fa] 41));obtain⟨w3,hw3⟩:=Xq (w2.alloc (.cells #[.slice none 0 0,.slice none 0 0,.int .i64 0,.bool false,.int .i64 0] 39));obtain⟨w4,hw4⟩:=Xq (w3.alloc (.cells #[.int .i64 0,.int .i64 0,.int .i64 0,.int .i64 0,.int .i64 0,.slice none 0 0,.int .i64 0,.int .i64 0] 41));have hb1:=Lq hw1;have hb2:=Lq hw2;have hb3:=Lq hw3;have hb4:=Lq hw4;obtain⟨q,hq⟩:=Xq (w.heap.size);have hs1:w1.heap.size=q+1:=by rw[←hw1,Sz,hq]
 have hs2:w2.heap.size=q+2:=by rw[←hw2,Sz,hs1]
 have hs3:w3.heap.size=q+3:=by rw[←hw3,Sz,hs2]
 have hs4:w4.heap.size=q+4:=by rw[←hw4,Sz,hs3]
 have hxd:w4.heap[q]?=some (.cells #[.slice da dn dc,.slice dd dm de,.int .i64 dl,.bool db,.int .i64 dz] 39 (0,0)):=(hb4.block q (by omega)).trans ((hb3.block q (by omega)).trans ((hb2.block q (by omega)).trans (by rw[←hq,←hw1];exact Hn)));have hxj:w4.heap[q+1]?=some (.cells #[.int .i64 at_,.int .i64 hh,.int .i64 g,.int .i64 u,.int .i64 fi,.slice ea n ec,.int .i64 sy,.int .i64 fa] 41 (0,0)):=(hb4.block (q+1) (by omega)).trans ((hb3.block (q+1) (by omega)).trans (by rw[←hs1,←hw2];exact Hn));have hxe:w4.heap[q+2]?=some (.cells #[.slice none 0 0,.slice none 0 0,.int .i64 0,.bool false,.int .i64 0] 39 (0,0)):=(hb4.block (q+2) (by omega)).trans (by rw[←hs2,←hw3];exact Hn);have hxk:w4.heap[q+3]?=some (.cells #[.int .i64 0,.int .i64 0,.int .i64 0,.int .i64 0,.int .i64 0,.slice none 0 0,.int .i64 0,.int .i64 0] 41 (0,0)):=by rw[←hs3,←hw4];exact Hn
 have hbw:Below w.heap.size w w4:=hb1.trans ((hb2.mono hb1.size).trans ((hb3.mono (Nt hb1.size hb2.size)).trans (hb4.mono (Nt hb1.size (Nt hb2.size hb3.size)))));obtain⟨HW1,HW2,HW3,HW4,HQ,HS1,HS2,HS3,HS4,HB4,HXD,HXJ,HXE,HXK⟩:=Hd14 hw1 hw2 hw3 hw4 hq hs1 hs2 hs3 hs4 hbw hxd hxj hxe hxk;obtain⟨HRD,HEJ,HLW⟩:=Hd3 ((hD.bound.below hbw).mono (G':=fun k=>G k∧k<q) (fun k h=>⟨h.1,by rw[←hq];exact h.2⟩)) ((hEJ.bound.below hbw).weak (G:=fun k=>F k∧k<q) (fun k _ h=>⟨h.1,by rw[←hq];exact h.2⟩)) (show BytesN w4 (fun k=>k<q) (.slice ba m bc) l by have h1:=(hl.weak (G:=fun k=>k<q) (fun k h1 _=>by rw[←hq];exact h1)).below hbw;rwa [hm]at h1);clear hw1 hw2 hw3 hw4 hb1 hb2 hb3 hb4 hs1 hs2 hs3 hs4 hxd hxj hxe hxk hbw hq hD hJ hEJ hZ hat hhh hg hu hfi hn hsy hfa hroom hl hm har;obtain⟨k0,k1,k2,k3,k4⟩:=Cr5 (HXD.out);obtain⟨j0,j1,j2,j3,j4,j5,j6,j7⟩:=Cr8 (HXJ.out);go_enter Tryz.func28,Tryz.ntmps28;go_upto_region 1 with(fail)
 rw[HW1.out,HW2.out,HW3.out,HW4.out]
 try rw[HS3.out]
 try rw[HS2.out]
 try rw[HS1.out]
 try rw[HQ.out]
 have HRD9:=Hd (HRD.out.mono (G':=fun k=>(G k∧k<q)∨w4.heap.size≤k) (fun k h=>.inl h));have HEJ9:=Hd (HEJ.out.weak (G:=fun k=>(F k∧k<q)∨w4.heap.size≤k) (fun k _ h=>.inl h));by_cases hf0:fa=0
 case neg=>
  have hfd:(fa !=0)=true:=by simpa using hf0
  have HZB:=Hd (show Z=(S,J,fa,0) by rw[←HZ.out];unfold appJ;rw[HNM.out.2.2.2.2.2.2,Ip hf0]);clear hf0;have HCE:=Hd (Ee HXD.out HXJ.out);go_wp2_with fail;refine bH (fun k=>k=q+2∨k=q+3) ?_;intro wd hd0 hS0;refine AD 0 HCE.out hS0 ?_;refine AD 1 HCE.out hS0 ?_;refine tkH 2 hS0 ?_;refine AD 3 HCE.out hS0 ?_;refine dH 4 fun K hK=>?_
  refine Pv 39 6 15 (q+2) (Bq hd0 HXE.out) ?_;intro B1 Bx1 Bc1 Bs1;have hS0:=DW hS0 Bc1;refine Kq hK (hS0) ?_;refine dH 5 fun K hK=>?_
  refine Pv 41 7 16 (q+3) (ckS Bc1 hd0 HXK.out) ?_;intro B2 Bx2 Bc2 Bs2;have hS0:=DX hS0 Bc2;refine Kq hK (hS0) ?_;refine tkH 6 hS0 ?_;refine tkH 7 hS0 ?_;refine eH ?_;have hcb:=hS0;obtain⟨y0,y1,y2,y3,y4,z0,z1,z2,z3,z4,z5,z6,z7⟩:=Ef Bc2 Bx1 Bx2;clear Bx1 Bx2 Bc1 Bc2 Bs1 Bs2 hd0 hS0;go_wp2_with fail;exact Bv (hr:=by simp[go_sem,y0,y1,y2,y3,y4,z0,z1,z2,z3,z4,z5,z6,z7]) (.tuple #[.agg #[.slice da dn dc,.slice dd dm de,.int .i64 dl,.bool db,.int .i64 dz],.agg #[.int .i64 at_,.int .i64 hh,.int .i64 g,.int .i64 u,.int .i64 fi,.slice ea n ec,.int .i64 sy,.int .i64 fa],.int .i64 0,.int .i64 fa]) (J8 HQ.out HS4.out hcb HZB.out rfl HRD9.out HB4.out HN.out HEJ9.out (DI HNM.out))
 subst hf0;by_cases hlong:100000<m
 case pos=>
  have hlI:(100000:Int)<(m:Int):=by omega
  have HZB:=Hd (show Z=(S,J,5,0) by rw[←HZ.out];unfold appJ;rw[HNM.out.2.2.2.2.2.2,In (show¬((0:Int)≠0)from fun h=>h rfl),HM.out,Ip hlong]);have HCE:=Hd (Ee HXD.out HXJ.out);go_wp2_with fail;refine bH (fun k=>k=q+2∨k=q+3) ?_;intro wd hd0 hS0;refine AD 0 HCE.out hS0 ?_;refine AD 1 HCE.out hS0 ?_;refine dH 2 fun K hK=>?_
  refine Pv 39 6 22 (q+2) (Bq hd0 HXE.out) ?_;intro B1 Bx1 Bc1 Bs1;have hS0:=DW hS0 Bc1;refine Kq hK (hS0) ?_;refine dH 3 fun K hK=>?_
  refine Pv 41 7 23 (q+3) (ckS Bc1 hd0 HXK.out) ?_;intro B2 Bx2 Bc2 Bs2;have hS0:=DX hS0 Bc2;refine Kq hK (hS0) ?_;refine tkH 4 hS0 ?_;refine tkH 5 hS0 ?_;refine eH ?_;have hcb:=hS0;obtain⟨y0,y1,y2,y3,y4,z0,z1,z2,z3,z4,z5,z6,z7⟩:=Ef Bc2 Bx1 Bx2;clear Bx1 Bx2 Bc1 Bc2 Bs1 Bs2 hd0 hS0;go_wp2_with fail;exact Bv (hr:=by simp[go_sem,y0,y1,y2,y3,y4,z0,z1,z2,z3,z4,z5,z6,z7]) (.tuple #[.agg #[.slice da dn dc,.slice dd dm de,.int .i64 dl,.bool db,.int .i64 dz],.agg #[.int .i64 at_,.int .i64 hh,.int .i64 g,.int .i64 u,.int .i64 fi,.slice ea n ec,.int .i64 sy,.int .i64 0],.int .i64 0,.int .i64 5]) (J8 HQ.out HS4.out hcb HZB.out rfl HRD9.out HB4.out HN.out HEJ9.out (DI HNM.out))
 have hlI:¬(100000:Int)<(m:Int):=by omega
 obtain⟨ne,hne⟩:=Xq (Af m);have HNE:=Hd hne;have hnel:ne≤586:=by rw[←hne];unfold Af;omega
 have hne1:1≤ne:=by rw[←hne];unfold Af;omega
 have HCN:=Hd (show∀w',Below w4.heap.size w4 w'→w'.cell? ⟨q+1,1,none⟩=some (.int .i64 hh)∧w'.cell? ⟨q+1,3,none⟩=some (.int .i64 u)from fun w' hw'=>⟨(hw'.cell (p:=⟨q+1,1,none⟩) (Ax HXJ.out).1).trans j1,(hw'.cell (p:=⟨q+1,3,none⟩) (Ax HXJ.out).1).trans j3⟩);clear hne;go_wp2_with fail;refine bB ?_;intro wd hd0;have hS0:=hd0;refine tkH 0 hS0 ?_;refine tkH 1 hS0 ?_;refine tkH 3 hS0 ?_;refine AD 4 HCN.out hS0 ?_;refine tkH 5 hS0 ?_;refine AD 6 HCN.out hS0 ?_;refine tkH 7 hS0 ?_ (hy:=fun w' hw'=>by(have hwr:=Iw ((hh:Int)-(u:Int));clear hw';first| (go_simp;rfl)| (go_simp;done)));refine dH 2 fun K hK=>?_
 go_simp;go_at_call 63;refine(KB m (by omega) wd).mono ?_;rintro e Vn ⟨rfl,rfl⟩;rw[HNE.out];refine Kq hK (hS0) ?_;refine tkH 8 hS0 ?_;refine eH ?_;obtain⟨HXD,HXJ,HXE,HXK⟩:=Hd4 (Bq hd0 HXD.out) (Bq hd0 HXJ.out) (Bq hd0 HXE.out) (Bq hd0 HXK.out);obtain⟨U0,rfl⟩:∃U0,U0=wd:=⟨_,rfl⟩;obtain⟨HB9,HSZ9,HRDW,HEJW,HLWW⟩:=Hd5 (Tq HB4.out hd0) hd0.size (HRD.out.below hd0) (HEJ.out.below hd0) (HLW.out.below hd0);have HRD9:=Hd (HRDW.out.mono (G':=fun k=>(G k∧k<q)∨w4.heap.size≤k) (fun k h=>.inl h));have HEJ9:=Hd (HEJW.out.weak (G:=fun k=>(F k∧k<q)∨w4.heap.size≤k) (fun k _ h=>.inl h));clear k0 k1 k2 k3 k4 j0 j1 j2 j3 j4 j5 j6 j7 hd0 hS0 HRD HEJ HLW HCN HB4;obtain⟨k0,k1,k2,k3,k4⟩:=Cr5 (HXD.out);obtain⟨j0,j1,j2,j3,j4,j5,j6,j7⟩:=Cr8 (HXJ.out);by_cases hfull:hh-u<ne
 case pos=>
  have hcI:(hh:Int)-(u:Int)<(ne:Int):=by omega
  have hcId:decide ((hh:Int)-(u:Int)<(ne:Int))=true:=decide_eq_true hcI;have HZB:=Hd (show Z=(S,J,9,0) by rw[←HZ.out];unfold appJ;rw[HNM.out.2.2.2.2.2.2,In (show¬((0:Int)≠0)from fun h=>h rfl),HM.out,In (by omega),HNM.out.2.1,HNM.out.2.2.2.1,HNE.out,Ip hfull]);have HCE:=Hd (Ee HXD.out HXJ.out);go_wp2_with fail;refine bH (fun k=>k=q+2∨k=q+3) ?_;intro wd hd0 hS0;refine AD 0 HCE.out hS0 ?_;refine AD 1 HCE.out hS0 ?_;refine dH 2 fun K hK=>?_
  refine Pv 39 6 33 (q+2) (Bq hd0 HXE.out) ?_;intro B1 Bx1 Bc1 Bs1;have hS0:=DW hS0 Bc1;refine Kq hK (hS0) ?_;refine dH 3 fun K hK=>?_
  refine Pv 41 7 34 (q+3) (ckS Bc1 hd0 HXK.out) ?_;intro B2 Bx2 Bc2 Bs2;have hS0:=DX hS0 Bc2;refine Kq hK (hS0) ?_;refine tkH 4 hS0 ?_;refine tkH 5 hS0 ?_;refine eH ?_;have hcb:=hS0;obtain⟨y0,y1,y2,y3,y4,z0,z1,z2,z3,z4,z5,z6,z7⟩:=Ef Bc2 Bx1 Bx2;clear Bx1 Bx2 Bc1 Bc2 Bs1 Bs2 hd0 hS0;go_wp2_with fail;exact Bv (hr:=by simp[go_sem,y0,y1,y2,y3,y4,z0,z1,z2,z3,z4,z5,z6,z7]) (.tuple #[.agg #[.slice da dn dc,.slice dd dm de,.int .i64 dl,.bool db,.int .i64 dz],.agg #[.int .i64 at_,.int .i64 hh,.int .i64 g,.int .i64 u,.int .i64 fi,.slice ea n ec,.int .i64 sy,.int .i64 0],.int .i64 0,.int .i64 9]) (J8 HQ.out HS4.out hcb HZB.out rfl HRD9.out HB9.out HN.out HEJ9.out (DI HNM.out))
 have hcI:¬(hh:Int)-(u:Int)<(ne:Int):=by omega
 have hcId:decide ((hh:Int)-(u:Int)<(ne:Int))=false:=decide_eq_false hcI;have HR0:=Hd (show As (AI g (n+1) l)=0 from FH (by omega) (by omega) (by rw[HM.out];omega));obtain⟨X,hX⟩:=Xq (wrL S (ar+u) (Ac (AI g (n+1) l)));have HSL:=Hd (show(Ac (AI g (n+1) l)).length=ne by rw[AL HR0.out];show Af l.length=ne;rw[HM.out];exact HNE.out);have HZC:=Hd (show(if X.2=0 then(X.1,{J with ents:=J.ents++[l],used:=J.used+ne},0,J.next)else(X.1,{J with failed:=X.2},X.2,0))=Z by rw[←HZ.out];unfold appJ;rw[HNM.out.2.2.2.2.2.2,In (show¬((0:Int)≠0)from fun h=>h rfl),HM.out,In (show¬100000<m from hlong),HNM.out.2.1,HNM.out.2.2.2.1,HNE.out,In (show¬hh-u<ne from hfull),HAR.out,HNM.out.2.2.1,HN.out,hX])
 have HPUT:=Hd (fun(W:World) (hW:Below U0.heap.size U0 W)=>show Ca 64 #[.agg #[.slice da dn dc,.slice dd dm de,.int .i64 dl,.bool db,.int .i64 dz],.int .i64 ((ar:Int)+(u:Int)),.int .i64 2,.int .i64 g,.int .i64 ((n:Int)+1),.slice ba m bc] W (PutPost W (fun k=>G k∧k<q) X ne)from by have h:Ca 64 #[.agg #[.slice da dn dc,.slice dd dm de,.int .i64 dl,.bool db,.int .i64 dz],.int .i64 ((ar+u:Nat):Int),.int .i64 2,.int .i64 g,.int .i64 ((n+1:Nat):Int),.slice ba l.length bc] W (PutPost W (fun k=>G k∧k<q) (wrL S (ar+u) (Ac (AI g (n+1) l))) (Ac (AI g (n+1) l)).length):=G8 (HRDW.out.below hW) (ar+u) (AI g (n+1) l) HR0.out (by have h1:=HLWW.out.below hW;rw[←HM.out]at h1;exact h1) (by rw[HSL.out];omega) (by rw[HSL.out];exact HROOM.out.less (by omega));rw[HM.out,HSL.out,hX,Int.natCast_add ar u,show((n+1:Nat):Int)=(n:Int)+1 from Int.natCast_add n 1]at h;exact h)
 obtain⟨kk,hkk⟩:∃kk:Nat,(if X.2=0 then ne else 0)=kk:=⟨_,rfl⟩;have HK1:=Hd (show(if X.2=0 then(ne:Int)else 0)=(kk:Int) by rw[←hkk];split <;>rfl);have HKK:=Hd hkk;obtain⟨X1,X2⟩:=X;simp only at HK1 HPUT HZC HKK;have hwa:=Iw ((g:Int)%2*(hh:Int));have hwb:IntKind.i64.wrap ((at_:Int)+(g:Int)%2*(hh:Int))=(ar:Int):=by rw[hArI.1];exact IntWalk.i64_in _ (by omega)
 have hwc:=Iw ((ar:Int)+(u:Int));clear hX hkk;go_wp2_with fail;refine(HPUT.out U0 Rq).mono ?_;rintro e V1 ⟨v',rfl,hrd,hb1⟩;rw[HK1.out];obtain⟨fa,fn,fc,fd,fm,fe,fl,fb,fz,rfl⟩:=hrd.form;clear k0 k1 k2 k3 k4 j0 j1 j2 j3 j4 j5 j6 j7 hwa hwb hwc;go_wp2_with (refine Pl 39 3 57 q (Bq hb1 HXD.out) ?_;refine Stop.on ?_)
 refine Stop.go ?_
 try simp only[P0,P1,P2,P3,P4]
 intro V2 x2 c2 s2
 try simp only[P0,P1,P2,P3,P4]
 have hc2:Chg (fun k=>k=q) U0 V2:=(Cb (F:=fun k=>k=q) hb1).trans c2 (fun k e=>.inl e);obtain⟨HRD2,HXD2,HXJ2,HXE2,HXK2,HB2,HEJ2,HLW2,HSZ2⟩:=Hd9 ((hrd.kept c2 (fun k h e=>by have h5:=HS4.out;have h6:=HSZ9.out;rcases h with h|h<;>omega)).mono (G':=fun k=>(G k∧k<q)∨w4.heap.size≤k) (fun k h=>h.imp id (fun h=>Nt HSZ9.out h))) (show V2.heap[q]?=some (.cells #[.slice fa fn fc,.slice fd fm fe,.int .i64 fl,.bool fb,.int .i64 fz] 39 (0,0))from x2) (Ck hc2 HXJ.out) (Ck hc2 HXE.out) (Ck hc2 HXK.out) (HB9.out.trans (hc2.below (B:=w.heap.size) (fun k e=>by have:=HQ.out;omega) HB9.out.size)) (HEJW.out.chg hc2 (fun k _ h e=>by have:=h.2;omega)) (HLWW.out.chg hc2 (fun k _ h e=>by omega)) (show w4.heap.size≤V2.heap.size from Nt HSZ9.out hc2.size);clear hrd x2 c2 s2 hb1 hc2 HXD HXJ HXE HXK HRDW HEJW HLWW HEJ9 HRD9 HPUT HB9;obtain⟨j0,j1,j2,j3,j4,j5,j6,j7⟩:=Cr8 (HXJ2.out);by_cases her:X2=0
 case neg=>
  have hed:(X2 !=0)=true:=by simpa using her
  have HZB:=Hd (show Z=(X1,{J with failed:=X2},X2,0) by rw[←HZC.out,In her]);clear her;go_wp2_with (refine Az rfl rfl 3 (.tmp 63) (.tmp 62) rfl (q+1) 7 (.int .i64 X2) rfl rfl HXJ2.out (by show 7<8;decide) rfl (by kernel_rfl) ?_;refine Stop.on ?_)
  refine Stop.go ?_
  try simp only[P0,P1,P2,P3,P4]
  intro V3 x3 c3 s3
  try simp only[P0,P1,P2,P3,P4]
  obtain⟨HXD3,HXJ3,HXE3,HXK3,HB3,HRD3,HEJ3⟩:=Hd7 (Ck c3 HXD2.out) (show V3.heap[q+1]?=some (.cells #[.int .i64 at_,.int .i64 hh,.int .i64 g,.int .i64 u,.int .i64 fi,.slice ea n ec,.int .i64 sy,.int .i64 X2] 41 (0,0))from x3) (Ck c3 HXE2.out) (Ck c3 HXK2.out) (HB2.out.trans (c3.below (B:=w.heap.size) (fun k e=>by have:=HQ.out;omega) HB2.out.size)) (HRD2.out.kept c3 (fun k h e=>by have h5:=HS4.out;rcases h with h|h<;>omega)) ((HEJ2.out.chg c3 (fun k _ h e=>by have:=h.2;omega)).weak (G:=fun k=>(F k∧k<q)∨w4.heap.size≤k) (fun k _ h=>.inl h));clear x3 c3 s3 HXD2 HXJ2 HXE2 HXK2 HB2 HRD2 j0 j1 j2 j3 j4 j5 j6 j7;have HCE:=Hd (Ee HXD3.out HXJ3.out);go_wp2_with fail;refine bH (fun k=>k=q+2∨k=q+3) ?_;intro wd hd0 hS0;refine AD 0 HCE.out hS0 ?_;refine AD 1 HCE.out hS0 ?_;refine tkH 2 hS0 ?_;refine dH 3 fun K hK=>?_
  refine Pv 39 6 64 (q+2) (Bq hd0 HXE3.out) ?_;intro B1 Bx1 Bc1 Bs1;have hS0:=DW hS0 Bc1;refine Kq hK (hS0) ?_;refine dH 4 fun K hK=>?_
  refine Pv 41 7 65 (q+3) (ckS Bc1 hd0 HXK3.out) ?_;intro B2 Bx2 Bc2 Bs2;have hS0:=DX hS0 Bc2;refine Kq hK (hS0) ?_;refine tkH 5 hS0 ?_;refine tkH 6 hS0 ?_;refine eH ?_;have hcb:=hS0;obtain⟨y0,y1,y2,y3,y4,z0,z1,z2,z3,z4,z5,z6,z7⟩:=Ef Bc2 Bx1 Bx2;clear Bx1 Bx2 Bc1 Bc2 Bs1 Bs2 hd0 hS0;go_wp2_with fail;exact Bv (hr:=by simp[go_sem,y0,y1,y2,y3,y4,z0,z1,z2,z3,z4,z5,z6,z7]) (.tuple #[.agg #[.slice fa fn fc,.slice fd fm fe,.int .i64 fl,.bool fb,.int .i64 fz],.agg #[.int .i64 at_,.int .i64 hh,.int .i64 g,.int .i64 u,.int .i64 fi,.slice ea n ec,.int .i64 sy,.int .i64 X2],.int .i64 0,.int .i64 X2]) (J8 HQ.out HS4.out hcb HZB.out rfl HRD3.out HB3.out HN.out HEJ3.out (IE HNM.out))
 subst her;obtain rfl :ne=kk:=by have h1:=HKK.out;rwa [Ip rfl]at h1
 have HZB:=Hd (show Z=(X1,{J with ents:=J.ents++[l],used:=J.used+ne},0,J.next) by rw[←HZC.out,Ip rfl]);have hwu:IntKind.i64.wrap ((u:Int)+(ne:Int))=((u+ne:Nat):Int):=by rw[Int.natCast_add];exact IntWalk.i64_in _ (by omega)
 go_wp2_with (refine Az rfl rfl 3 (.tmp 71) (.tmp 70) rfl (q+1) 3 (.int .i64 ((u+ne:Nat):Int)) rfl rfl HXJ2.out (by show 3<8;decide) rfl (by kernel_rfl) ?_;refine Stop.on ?_)
 refine Stop.go ?_
 try simp only[P0,P1,P2,P3,P4]
 intro V3 x3 c3 s3
 try simp only[P0,P1,P2,P3,P4]
 obtain⟨HXD3,HXJ3,HXE3,HXK3,HB3,HRD3,HEJ3,HLW3,HSZ3⟩:=Hd9 (Ck c3 HXD2.out) (show V3.heap[q+1]?=some (.cells #[.int .i64 at_,.int .i64 hh,.int .i64 g,.int .i64 ((u+ne:Nat):Int),.int .i64 fi,.slice ea n ec,.int .i64 sy,.int .i64 0] 41 (0,0))from x3) (Ck c3 HXE2.out) (Ck c3 HXK2.out) (HB2.out.trans (c3.below (B:=w.heap.size) (fun k e=>by have:=HQ.out;omega) HB2.out.size)) (HRD2.out.kept c3 (fun k h e=>by have h5:=HS4.out;rcases h with h|h<;>omega)) (HEJ2.out.chg c3 (fun k _ h e=>by have:=h.2;omega)) (HLW2.out.chg c3 (fun k _ h e=>by omega)) (Nt HSZ2.out c3.size);clear x3 c3 s3 HXD2 HXJ2 HXE2 HXK2 HB2 HRD2 j0 j1 j2 j3 j4 j5 j6 j7 hwu;obtain⟨j0,j1,j2,j3,j4,j5,j6,j7⟩:=Cr8 (HXJ3.out);have HLQ:=Hd (show q+4≤V3.heap.size by have h1:=HSZ3.out;have h2:=HS4.out;omega);have hcell5:(V3.alloc (.cells #[] 30)).cell? ⟨q+1,5,none⟩=some (.slice ea n ec):=(((Below.refl V3.heap.size V3).alloc Lr _).cell (p:=⟨q+1,5,none⟩) (Ax HXJ3.out).1).trans j5;go_wp2_with (at_builtin;refine Ge rfl (.tmp 72) (.tmp 74) rfl rfl rfl HEJ3.out HN.out (by omega) ?_;refine Stop.on ?_)
 refine Stop.go ?_
 try simp only[P0,P1,P2,P3,P4]
 intro a1 c1 V4 he4 hb4 ho4
 try simp only[P0,P1,P2,P3,P4]
 obtain⟨HE4,HB34,HO4,HLW4⟩:=Hd4 he4 hb4 (fun k hk=>(⟨ho4 k hk,(DE he4 k hk).2⟩:V3.heap.size≤k∧k<V4.heap.size)) (HLW3.out.below (hb4.trans (Rq.alloc hb4.size (.cells #[] 5))));clear he4 hb4 ho4 hcell5;go_wp2_with (at_builtin;refine Ns rfl (.tmp 76) (.tmp 77) rfl (xs:=[]) rfl (Dy Lr _) rfl HLW4.out HM.out (by omega) (by rw[Sz];omega) ?_;refine Stop.on ?_)
 refine Stop.go ?_
 try simp only[P0,P1,P2,P3,P4]
 intro a2 c2 V5 ho5 hg5
 try simp only[P0,P1,P2,P3,P4]
 try rw[List.nil_append,Nat.zero_add]at ho5
 try rw[Nat.zero_add]
 have hb45:Below V4.heap.size V4 V5:=((Below.refl V4.heap.size V4).alloc Lr _).grown hg5 (by rw[Sz];omega) (fun k hk=>by have e:V4.heap.size=k:=Option.some.inj hk;omega);have HE5:=Hd (HE4.out.below hb45);have HU5:=Hd (show BytesN V5 (fun k=>((F k∧k<q)∨V3.heap.size≤k)∧(Value.slice a1 n c1).ownBlock≠some k) (.slice a2 m c2) l from by
  have h1:V5.ownsRow V4.heap.size 5 1 (.slice a2 m c2) l.length (bvs l):=by rw[HM.out];exact ho5
  exact(Bk h1).weak (fun k _ h2=>⟨.inr (Nt HB34.out.size h2),fun e=>by have h3:=(HO4.out k e).2;omega⟩))
 have HB35:=Hd (Tq HB34.out hb45);clear ho5 hg5 hb45 HE4 HLW4;go_wp2_with (at_builtin;refine Fj rfl (.tmp 75) (.tmp 79) rfl rfl HE5.out HU5.out rfl HN.out (by omega) ?_;refine Stop.on ?_)
 refine Stop.go ?_
 try simp only[P0,P1,P2,P3,P4]
 intro a3 c3 V6 he6 hc6
 try simp only[P0,P1,P2,P3,P4]
 have HE6:=Hd (he6.weak (G:=fun k=>(F k∧k<q)∨V3.heap.size≤k) (fun k _ h=>h.elim id (fun h=>.inr (Nt HB35.out.size h))));have hc36:Chg (fun k=>V3.heap.size≤k) V3 V6:=(Cb (F:=fun k=>V3.heap.size≤k) HB35.out).trans (hc6.mono (G:=fun k=>V3.heap.size≤k) (fun k e=>(HO4.out k e).1)) (fun k e=>.inl e);obtain⟨HXD6,HXJ6,HXE6,HXK6,HB6,HRD6⟩:=Hd6 ((hc36.block q (Ax HXD3.out).1 (by have:=HLQ.out;omega)).trans HXD3.out) ((hc36.block (q+1) (Ax HXJ3.out).1 (by have:=HLQ.out;omega)).trans HXJ3.out) ((hc36.block (q+2) (Ax HXE3.out).1 (by have:=HLQ.out;omega)).trans HXE3.out) ((hc36.block (q+3) (Ax HXK3.out).1 (by have:=HLQ.out;omega)).trans HXK3.out) (HB3.out.trans (hc36.below (B:=w.heap.size) (fun k e=>by have:=HLQ.out;have:=HQ.out;omega) HB3.out.size)) (HRD3.out.bound.kept hc36 (fun k h e=>by have:=h.2;omega));clear he6 hc6 hc36 HE5 HU5 HXD3 HXJ3 HXE3 HXK3 HB3 HRD3 HEJ3 HLW3 j0 j1 j2 j3 j4 j5 j6 j7;go_wp2_with (refine Az rfl rfl 36 (.tmp 81) (.tmp 80) rfl (q+1) 5 (.slice a3 (n+1) c3) rfl rfl HXJ6.out (by show 5<8;decide) rfl (by kernel_rfl) ?_;refine Stop.on ?_)
 refine Stop.go ?_
 try simp only[P0,P1,P2,P3,P4]
 intro V7 x7 c7 s7
 try simp only[P0,P1,P2,P3,P4]
 obtain⟨HXD7,HXJ7,HXE7,HXK7,HB7,HRD7,HEJ7,HNL⟩:=Hd8 (Ck c7 HXD6.out) (show V7.heap[q+1]?=some (.cells #[.int .i64 at_,.int .i64 hh,.int .i64 g,.int .i64 ((u+ne:Nat):Int),.int .i64 fi,.slice a3 (n+1) c3,.int .i64 sy,.int .i64 0] 41 (0,0))from x7) (Ck c7 HXE6.out) (Ck c7 HXK6.out) (HB6.out.trans (c7.below (B:=w.heap.size) (fun k e=>by have:=HQ.out;omega) HB6.out.size)) ((HRD6.out.kept c7 (fun k h e=>by have h5:=HS4.out;rcases h.1 with h|h<;>omega)).mono (G':=fun k=>(G k∧k<q)∨w4.heap.size≤k) (fun k h=>h.1)) ((HE6.out.secsF.chg c7 (fun k _ h e=>by have h5:=HLQ.out;rcases h with⟨h,h9⟩|h<;>omega)).weak (G:=fun k=>(F k∧k<q)∨w4.heap.size≤k) (fun k _ h=>h.imp id (fun h=>Nt HSZ3.out h))) (show(J.ents++[l]).length=n+1 by rw[List.length_append,HN.out];rfl);clear x7 c7 s7 HXD6 HXJ6 HXE6 HXK6 HB6 HRD6 HE6;have HCE:=Hd (Ee HXD7.out HXJ7.out);go_wp2_with fail;refine bH (fun k=>k=q+2∨k=q+3) ?_;intro wd hd0 hS0;refine AD 0 HCE.out hS0 ?_;refine AD 1 HCE.out hS0 ?_;refine tkH 2 hS0 ?_;refine AD 3 HCE.out hS0 ?_;refine tkH 4 hS0 ?_;refine AD 5 HCE.out hS0 ?_;refine tkH 6 hS0 ?_;refine tkH 7 hS0 ?_ (v:=.int .i64 ((fi:Int)+(n:Int)+1)) (hy:=fun w' hw'=>by(have hwr:IntKind.i64.wrap ((fi:Int)+((n:Int)+1))=(fi:Int)+(n:Int)+1:=(by rw[←Int.add_assoc];exact IntWalk.i64_in _ (by omega));clear hw';first| (go_simp;rfl)| (go_simp;done)));refine tkH 8 hS0 ?_ (v:=.int .i64 ((fi:Int)+(n:Int))) (hy:=fun w' hw'=>by(have hwr:=Iw ((fi:Int)+(n:Int));clear hw';first| (go_simp;rfl)| (go_simp;done)));refine dH 9 fun K hK=>?_
 refine Pv 39 6 82 (q+2) (Bq hd0 HXE7.out) ?_;intro B1 Bx1 Bc1 Bs1;have hS0:=DW hS0 Bc1;refine Kq hK (hS0) ?_;refine dH 10 fun K hK=>?_
 refine Pv 41 7 83 (q+3) (ckS Bc1 hd0 HXK7.out) ?_;intro B2 Bx2 Bc2 Bs2;have hS0:=DX hS0 Bc2;refine Kq hK (hS0) ?_;refine tkH 11 hS0 ?_;refine tkH 12 hS0 ?_;refine eH ?_;have hcb:=hS0;obtain⟨y0,y1,y2,y3,y4,z0,z1,z2,z3,z4,z5,z6,z7⟩:=Ef Bc2 Bx1 Bx2;clear Bx1 Bx2 Bc1 Bc2 Bs1 Bs2 hd0 hS0;go_wp2_with fail;exact Bv (hr:=by simp[go_sem,y0,y1,y2,y3,y4,z0,z1,z2,z3,z4,z5,z6,z7]) (.tuple #[.agg #[.slice fa fn fc,.slice fd fm fe,.int .i64 fl,.bool fb,.int .i64 fz],.agg #[.int .i64 at_,.int .i64 hh,.int .i64 g,.int .i64 ((u+ne:Nat):Int),.int .i64 fi,.slice a3 (n+1) c3,.int .i64 sy,.int .i64 0],.int .i64 ((fi:Int)+(n:Int)),.int .i64 0]) (J8 HQ.out HS4.out hcb HZB.out (by unfold JD.next;rw[HNM.out.2.2.2.2.1,HN.out,Int.natCast_add]) HRD7.out HB7.out HNL.out HEJ7.out (by obtain⟨e1,e2,e3,e4,e5,e6,e7⟩:=HNM.out;unfold Do;simp only[e1,e2,e3,e4,e5,e6,e7]))
end Go.Proofs.YtplclpileejemaaGreatDoor
namespace Go.Proofs.YtplclpileejemaaGreatDoor
open Go
variable {i fuel n k:Nat}{oi:Oper}{listed:Array Bool}{a:Act}{w:World}{F G:Nat→Prop}{S:DS}{R:JR}{J:JD}{v jv:Value}
section
variable {P:Program} {ops:Array Oper} {Q:Exit→Act→World→Prop} {md:Region.Mode} {S:World→Prop} {fin:List Nat}
theorem A4 {j:Nat}{oj:Oper} (hr:Region.ready md ops listed=[i,j]) (hi':ops.toList[i]?=some oi) (hj':ops.toList[j]?=some oj) (hg:oi.guard=none) (hg2:oj.guard=none)
 (h1:∀K:Act→World→Prop,(∀a' w',S w'→A6 P md ops Q S fin fuel (listed.setIfInBounds i true) a' w'→K a' w')→oi.wp P a w K Q)
 (h2:∀K:Act→World→Prop,(∀a' w',S w'→A6 P md ops Q S fin fuel (listed.setIfInBounds j true) a' w'→K a' w')→oj.wp P a w K Q):A6 P md ops Q S fin (fuel+1) listed a w:=by
 have hi:ops[i]?=some oi:=by simpa using hi'
 have hj:ops[j]?=some oj:=by simpa using hj'
 refine⟨fun h0=>absurd (hr▸h0) (by simp),fun x hx=>?_⟩;rw[hr]at hx;rcases List.mem_cons.1 hx with rfl |hx
 ·unfold wpOp;simp only[hi];rw[Ip (by simp[Region.wanted,hg])];exact .inl (h1 _ (fun a' w' h1 h2=>⟨fun _=>h1,h2⟩))
 ·obtain rfl :=List.mem_singleton.1 hx;unfold wpOp;simp only[hj];rw[Ip (by simp[Region.wanted,hg2])];exact .inl (h2 _ (fun a' w' h1 h2=>⟨fun _=>h1,h2⟩))
end
end Go.Proofs.YtplclpileejemaaGreatDoor
namespace Go.Proofs.YtplclpileejemaaGreatDoor
open Go.RowKit
variable {i fuel n k:Nat}{oi:Oper}{listed:Array Bool}{a:Act}{w:World}{F G:Nat→Prop}{S:DS}{R:JR}{J:JD}{v jv:Value}
theorem Nu (g off n c i:Nat) (hi:i≤n) (hc:n≤c) (w:World):
 (Instr.sliceAt 36 (.slice (some ⟨g,off,none⟩) n c) (some (.int .i64 i)) none none).run Tryz.prog w=.ok (.slice (some ⟨g,off+(if c=i then 0 else i),none⟩) (n-i) (c-i)) w:=by
 have h1:(i:Int)≤(n:Int):=by omega
 have h2:(n:Int)≤(c:Int):=by omega
 by_cases h:c=i
 ·subst h;obtain rfl :n=c:=by omega
  go_simp
 ·go_simp
theorem SecsF.from {L:List (List UInt8)}{a:Option Addr}{c:Nat} (h:SecsF w F (.slice a n c) L) (hk:k≤n) (h0:0<n):
 ∃(va:Option Addr) (vc:Nat),(∀w,(Instr.sliceAt 36 (.slice a n c) (some (.int .i64 k)) none none).run Tryz.prog w=.ok (.slice va (n-k) vc) w)∧∀w0,SecsF w0 F (.slice a n c) L→SecsF w0 F (.slice va (n-k) vc) (L.drop k):=by
 obtain⟨a',c',e,h1,_⟩:=h.form;have hn:L.length=n:=by cases e;rfl
 obtain⟨g,off,_,_,e2,_⟩:=h.get (i:=0) (by omega);subst e2;have hc:n≤c:=by cases e;omega
 refine⟨_,_,fun w=>Nu g off n c k hk hc w,fun w0 h9=>?_⟩;by_cases he:c=k
 ·have hd:L.drop k=[]:=List.drop_of_length_le (by omega);rw[hd];refine⟨_,_,[],by rw[show n-k=([]:List (List UInt8)).length by show n-k=0;omega],Nat.zero_le _,rfl,fun h=>absurd rfl h,(fun _ _ e=>by cases e),fun i hi=>by simp at hi⟩
 ·rw[In he];exact h9.drop hk rfl rfl
theorem J9 (hD:RefD w G S v) (hJ:RefJ w F R J jv) (t:Int) (ht:-4611686018427387904≤t∧t≤4611686018427387904)
 (hfit:J.failed=0→FitE R J.first J.ents∧J.first+J.ents.length≤4294967296∧R.at_+R.cnt≤S.dur.length∧S.dur.length≤100∧AA (1-J.gen%2) (Ah S R.at_ (2*R.half))=AA (1-J.gen%2) (Ah S R.at_ R.cnt)) (hnb:J.first+J.ents.length<4611686018427387904) (hn9:J.ents.length≤1000000) (hroom:Roomy S 910100000):
 Ca 31 #[v,jv,.int .i64 t] w (RSPost w G F R (trnJ S R J t)):=by
 obtain⟨da,dn,dc,dd,dm,de,dl,db,dz,rfl⟩:=hD.form;obtain⟨ea,ec,rfl,hEJ⟩:=hJ.ex;unfold Do;obtain⟨at_,hat⟩:∃x,R.at_=x:=⟨_,rfl⟩;obtain⟨hh,hhh⟩:∃x,R.half=x:=⟨_,rfl⟩;obtain⟨g,hg⟩:∃x,J.gen=x:=⟨_,rfl⟩;obtain⟨u,hu⟩:∃x,J.used=x:=⟨_,rfl⟩;obtain⟨fi,hfi⟩:∃x,J.first=x:=⟨_,rfl⟩;obtain⟨n,hn⟩:∃x,J.ents.length=x:=⟨_,rfl⟩;obtain⟨sy,hsy⟩:∃x,J.synced=x:=⟨_,rfl⟩;obtain⟨fa,hfa⟩:∃x,J.failed=x:=⟨_,rfl⟩;obtain⟨Z,hZ⟩:=Xq (trnJ S R J t);rw[hZ];obtain⟨HZ,HN,HNM,HROOM,HFIT,HOK⟩:=Hd6 hZ hn (show R.at_=at_∧R.half=hh∧J.gen=g∧J.used=u∧J.first=fi∧J.synced=sy∧J.failed=fa from⟨hat,hhh,hg,hu,hfi,hsy,hfa⟩) hroom hfit hD.ok;rw[hn]at hEJ hn9;rw[hfi,hn]at hnb;rw[hat,hhh,hg,hu,hfi,hn,hsy,hfa];obtain⟨w1,hw1⟩:=Xq (w.alloc (.cells #[.slice da dn dc,.slice dd dm de,.int .i64 dl,.bool db,.int .i64 dz] 39));obtain⟨w2,hw2⟩:=Xq (w1.alloc (.cells #[.int .i64 at_,.int .i64 hh,.int .i64 g,.int .i64 u,.int .i64 fi,.slice ea n ec,.int .i64 sy,.int .i64 fa] 41));obtain⟨w3,hw3⟩:=Xq (w2.alloc (.cells #[.slice none 0 0,.slice none 0 0,.int .i64 0,.bool false,.int .i64 0] 39));obtain⟨w4,hw4⟩:=Xq (w3.alloc (.cells #[.int .i64 0,.int .i64 0,.int .i64 0,.int .i64 0,.int .i64 0,.slice none 0 0,.int .i64 0,.int .i64 0] 41));have hb1:=Lq hw1;have hb2:=Lq hw2;have hb3:=Lq hw3;have hb4:=Lq hw4;obtain⟨q,hq⟩:=Xq (w.heap.size);have hs1:w1.heap.size=q+1:=by rw[←hw1,Sz,hq]
 have hs2:w2.heap.size=q+2:=by rw[←hw2,Sz,hs1]
 have hs3:w3.heap.size=q+3:=by rw[←hw3,Sz,hs2]
 have hs4:w4.heap.size=q+4:=by rw[←hw4,Sz,hs3]
 have hxd:w4.heap[q]?=some (.cells #[.slice da dn dc,.slice dd dm de,.int .i64 dl,.bool db,.int .i64 dz] 39 (0,0)):=(hb4.block q (by omega)).trans ((hb3.block q (by omega)).trans ((hb2.block q (by omega)).trans (by rw[←hq,←hw1];exact Hn)));have hxj:w4.heap[q+1]?=some (.cells #[.int .i64 at_,.int .i64 hh,.int .i64 g,.int .i64 u,.int .i64 fi,.slice ea n ec,.int .i64 sy,.int .i64 fa] 41 (0,0)):=(hb4.block (q+1) (by omega)).trans ((hb3.block (q+1) (by omega)).trans (by rw[←hs1,←hw2];exact Hn));have hxe:w4.heap[q+2]?=some (.cells #[.slice none 0 0,.slice none 0 0,.int .i64 0,.bool false,.int .i64 0] 39 (0,0)):=(hb4.block (q+2) (by omega)).trans (by rw[←hs2,←hw3];exact Hn);have hxk:w4.heap[q+3]?=some (.cells #[.int .i64 0,.int .i64 0,.int .i64 0,.int .i64 0,.int .i64 0,.slice none 0 0,.int .i64 0,.int .i64 0] 41 (0,0)):=by rw[←hs3,←hw4];exact Hn
 have hbw:Below w.heap.size w w4:=hb1.trans ((hb2.mono hb1.size).trans ((hb3.mono (Nt hb1.size hb2.size)).trans (hb4.mono (Nt hb1.size (Nt hb2.size hb3.size)))));obtain⟨HW1,HW2,HW3,HW4,HQ,HS1,HS2,HS3,HS4,HB4,HXD,HXJ,HXE,HXK⟩:=Hd14 hw1 hw2 hw3 hw4 hq hs1 hs2 hs3 hs4 hbw hxd hxj hxe hxk;have HRD:=Hd ((hD.bound.below hbw).mono (G':=fun k=>G k∧k<q) (fun k h=>⟨h.1,by rw[←hq];exact h.2⟩));have HEJ:=Hd ((hEJ.bound.below hbw).weak (G:=fun k=>F k∧k<q) (fun k _ h=>⟨h.1,by rw[←hq];exact h.2⟩));clear hw1 hw2 hw3 hw4 hb1 hb2 hb3 hb4 hs1 hs2 hs3 hs4 hxd hxj hxe hxk hbw hq hD hJ hEJ hZ hat hhh hg hu hfi hn hsy hfa hroom hfit;obtain⟨k0,k1,k2,k3,k4⟩:=Cr5 (HXD.out);obtain⟨j0,j1,j2,j3,j4,j5,j6,j7⟩:=Cr8 (HXJ.out);go_enter Tryz.func31,Tryz.ntmps31;go_upto_region 1 with(fail)
 rw[HW1.out,HW2.out,HW3.out,HW4.out]
 try rw[HS3.out]
 try rw[HS2.out]
 try rw[HS1.out]
 try rw[HQ.out]
 have HRD9:=Hd (HRD.out.mono (G':=fun k=>(G k∧k<q)∨w4.heap.size≤k) (fun k h=>.inl h));have HEJ9:=Hd (HEJ.out.weak (G:=fun k=>(F k∧k<q)∨w4.heap.size≤k) (fun k _ h=>.inl h));by_cases hf0:fa=0
 case neg=>
  have hfd:(fa !=0)=true:=by simpa using hf0
  have HZB:=Hd (show Z=(S,J,fa) by rw[←HZ.out];unfold trnJ;rw[HNM.out.2.2.2.2.2.2,Ip hf0]);clear hf0;have HCE:=Hd (Ee HXD.out HXJ.out);go_wp2_with fail;refine bH (fun k=>k=q+2∨k=q+3) ?_;intro wd hd0 hS0;refine AD 0 HCE.out hS0 ?_;refine AD 1 HCE.out hS0 ?_;refine tkH 2 hS0 ?_;refine AD 3 HCE.out hS0 ?_;refine dH 4 fun K hK=>?_
  refine Pv 39 6 14 (q+2) (Bq hd0 HXE.out) ?_;intro B1 Bx1 Bc1 Bs1;have hS0:=DW hS0 Bc1;refine Kq hK (hS0) ?_;refine dH 5 fun K hK=>?_
  refine Pv 41 7 15 (q+3) (ckS Bc1 hd0 HXK.out) ?_;intro B2 Bx2 Bc2 Bs2;have hS0:=DX hS0 Bc2;refine Kq hK (hS0) ?_;refine tkH 6 hS0 ?_;refine eH ?_;have hcb:=hS0;obtain⟨y0,y1,y2,y3,y4,z0,z1,z2,z3,z4,z5,z6,z7⟩:=Ef Bc2 Bx1 Bx2;clear Bx1 Bx2 Bc1 Bc2 Bs1 Bs2 hd0 hS0;go_wp2_with fail;exact Bv (hr:=by simp[go_sem,y0,y1,y2,y3,y4,z0,z1,z2,z3,z4,z5,z6,z7]) (.tuple #[.agg #[.slice da dn dc,.slice dd dm de,.int .i64 dl,.bool db,.int .i64 dz],.agg #[.int .i64 at_,.int .i64 hh,.int .i64 g,.int .i64 u,.int .i64 fi,.slice ea n ec,.int .i64 sy,.int .i64 fa],.int .i64 fa]) (FA HQ.out HS4.out hcb HZB.out HRD9.out HB4.out HN.out HEJ9.out (DI HNM.out))
 subst hf0;have hfx:=HFIT.out HNM.out.2.2.2.2.2.2;rw[HNM.out.2.2.1,HNM.out.1,HNM.out.2.1,HNM.out.2.2.2.2.1,HN.out]at hfx;have hwn:=Iw ((fi:Int)+(n:Int));have HZ1:=Hd (show Z=if t<(fi:Int)∨((fi+n:Nat):Int)<t then(S,J,2)else if t=(fi:Int)then(S,J,0)else
  if(moveJ S R (1-g%2) t.toNat (J.ents.drop (t.toNat-fi))).2.1=0 then((moveJ S R (1-g%2) t.toNat (J.ents.drop (t.toNat-fi))).1,(moveJ S R (1-g%2) t.toNat (J.ents.drop (t.toNat-fi))).2.2,0)
  else((moveJ S R (1-g%2) t.toNat (J.ents.drop (t.toNat-fi))).1,{J with failed:=if(moveJ S R (1-g%2) t.toNat (J.ents.drop (t.toNat-fi))).2.1=28 then 28 else 0},(moveJ S R (1-g%2) t.toNat (J.ents.drop (t.toNat-fi))).2.1) by
  rw[←HZ.out];unfold trnJ JD.next;rw[HNM.out.2.2.2.2.2.2,In (show¬((0:Int)≠0)from fun h=>h rfl),HNM.out.2.2.2.2.1,HN.out,HNM.out.2.2.1])
 by_cases hlo:t<(fi:Int)
 case pos=>
  have HZB:=Hd (show Z=(S,J,2) by rw[HZ1.out,Ip (.inl hlo)]);have HCE:=Hd (Ee HXD.out HXJ.out);go_wp2_with fail;refine bH (fun k=>k=q+2∨k=q+3) ?_;intro wd hd0 hS0;refine AD 0 HCE.out hS0 ?_;refine AD 1 HCE.out hS0 ?_;refine dH 2 fun K hK=>?_
  refine Pv 39 6 32 (q+2) (Bq hd0 HXE.out) ?_;intro B1 Bx1 Bc1 Bs1;have hS0:=DW hS0 Bc1;refine Kq hK (hS0) ?_;refine dH 3 fun K hK=>?_
  refine Pv 41 7 33 (q+3) (ckS Bc1 hd0 HXK.out) ?_;intro B2 Bx2 Bc2 Bs2;have hS0:=DX hS0 Bc2;refine Kq hK (hS0) ?_;refine tkH 4 hS0 ?_;refine eH ?_;have hcb:=hS0;obtain⟨y0,y1,y2,y3,y4,z0,z1,z2,z3,z4,z5,z6,z7⟩:=Ef Bc2 Bx1 Bx2;clear Bx1 Bx2 Bc1 Bc2 Bs1 Bs2 hd0 hS0;go_wp2_with fail;exact Bv (hr:=by simp[go_sem,y0,y1,y2,y3,y4,z0,z1,z2,z3,z4,z5,z6,z7]) (.tuple #[.agg #[.slice da dn dc,.slice dd dm de,.int .i64 dl,.bool db,.int .i64 dz],.agg #[.int .i64 at_,.int .i64 hh,.int .i64 g,.int .i64 u,.int .i64 fi,.slice ea n ec,.int .i64 sy,.int .i64 0],.int .i64 2]) (FA HQ.out HS4.out hcb HZB.out HRD9.out HB4.out HN.out HEJ9.out (DI HNM.out))
 by_cases hhi:(fi:Int)+(n:Int)<t
 case pos=>
  have HZB:=Hd (show Z=(S,J,2) by rw[HZ1.out,Ip (.inr (by omega))]);have HCE:=Hd (Ee HXD.out HXJ.out);go_wp2_with fail;refine bH (fun k=>k=q+2∨k=q+3) ?_;intro wd hd0 hS0;refine AD 0 HCE.out hS0 ?_;refine AD 1 HCE.out hS0 ?_;refine dH 2 fun K hK=>?_
  refine Pv 39 6 32 (q+2) (Bq hd0 HXE.out) ?_;intro B1 Bx1 Bc1 Bs1;have hS0:=DW hS0 Bc1;refine Kq hK (hS0) ?_;refine dH 3 fun K hK=>?_
  refine Pv 41 7 33 (q+3) (ckS Bc1 hd0 HXK.out) ?_;intro B2 Bx2 Bc2 Bs2;have hS0:=DX hS0 Bc2;refine Kq hK (hS0) ?_;refine tkH 4 hS0 ?_;refine eH ?_;have hcb:=hS0;obtain⟨y0,y1,y2,y3,y4,z0,z1,z2,z3,z4,z5,z6,z7⟩:=Ef Bc2 Bx1 Bx2;clear Bx1 Bx2 Bc1 Bc2 Bs1 Bs2 hd0 hS0;go_wp2_with fail;exact Bv (hr:=by simp[go_sem,y0,y1,y2,y3,y4,z0,z1,z2,z3,z4,z5,z6,z7]) (.tuple #[.agg #[.slice da dn dc,.slice dd dm de,.int .i64 dl,.bool db,.int .i64 dz],.agg #[.int .i64 at_,.int .i64 hh,.int .i64 g,.int .i64 u,.int .i64 fi,.slice ea n ec,.int .i64 sy,.int .i64 0],.int .i64 2]) (FA HQ.out HS4.out hcb HZB.out HRD9.out HB4.out HN.out HEJ9.out (DI HNM.out))
 by_cases heq:t=(fi:Int)
 case pos=>
  have HZB:=Hd (show Z=(S,J,0) by rw[HZ1.out,In (by omega),Ip heq]);subst heq;have HCE:=Hd (Ee HXD.out HXJ.out);go_wp2_with fail;refine bH (fun k=>k=q+2∨k=q+3) ?_;intro wd hd0 hS0;refine AD 0 HCE.out hS0 ?_;refine AD 1 HCE.out hS0 ?_;refine dH 2 fun K hK=>?_
  refine Pv 39 6 38 (q+2) (Bq hd0 HXE.out) ?_;intro B1 Bx1 Bc1 Bs1;have hS0:=DW hS0 Bc1;refine Kq hK (hS0) ?_;refine dH 3 fun K hK=>?_
  refine Pv 41 7 39 (q+3) (ckS Bc1 hd0 HXK.out) ?_;intro B2 Bx2 Bc2 Bs2;have hS0:=DX hS0 Bc2;refine Kq hK (hS0) ?_;refine tkH 4 hS0 ?_;refine eH ?_;have hcb:=hS0;obtain⟨y0,y1,y2,y3,y4,z0,z1,z2,z3,z4,z5,z6,z7⟩:=Ef Bc2 Bx1 Bx2;clear Bx1 Bx2 Bc1 Bc2 Bs1 Bs2 hd0 hS0;go_wp2_with fail;exact Bv (hr:=by simp[go_sem,y0,y1,y2,y3,y4,z0,z1,z2,z3,z4,z5,z6,z7]) (.tuple #[.agg #[.slice da dn dc,.slice dd dm de,.int .i64 dl,.bool db,.int .i64 dz],.agg #[.int .i64 at_,.int .i64 hh,.int .i64 g,.int .i64 u,.int .i64 fi,.slice ea n ec,.int .i64 sy,.int .i64 0],.int .i64 0]) (FA HQ.out HS4.out hcb HZB.out HRD9.out HB4.out HN.out HEJ9.out (DI HNM.out))
 have hteq:(t==(fi:Int))=false:=by simpa using heq
 obtain⟨k,rfl⟩:∃k:Nat,t=(fi:Int)+(k:Int):=⟨(t-(fi:Int)).toNat,by omega⟩;have hk0:0<k:=by omega
 have hkn:k≤n:=by omega
 obtain⟨M,hM⟩:=Xq (moveJ S R (1-g%2) (fi+k) (J.ents.drop k));have HZ2:=Hd (show Z=if M.2.1=0 then(M.1,M.2.2,0)else(M.1,{J with failed:=if M.2.1=28 then 28 else 0},M.2.1) by
  have e:((fi:Int)+(k:Int)).toNat=fi+k:=by omega
  rw[HZ1.out,In (by omega),In heq,e,Nat.add_sub_cancel_left,hM])
 obtain⟨va,vc,hsl,hsd⟩:=HEJ.out.from hkn (by omega);have hcn2:at_+2*hh≤S.dur.length:=by have h1:=hfx.2.2.1;have h2:=HNM.out.2.1;unfold JR.half at h2;omega
 have hlen:S.pend.length<100000000:=by have:=HROOM.out.pend;omega
 obtain⟨gn,hgn⟩:=Xq (AA (1-g%2) (Ah S at_ R.cnt));have hge:((1-g%2:Nat):Int)=(1:Int)-(g:Int)%2:=by omega
 have HNX:=Hd (fun(W:World) (hW:Below w4.heap.size w4 W)=>show Ca 59 #[.agg #[.slice da dn dc,.slice dd dm de,.int .i64 dl,.bool db,.int .i64 dz],.int .i64 at_,.int .i64 ((2:Int)*(hh:Int)),.int .i64 ((1:Int)-(g:Int)%2)] W fun e w'=>e=.returned (.int .i64 gn)∧Below W.heap.size W w' from by have h:=E4 (HRD.out.below hW).at_ HOK.out hlen at_ (2*hh) (1-g%2) (by omega) hcn2;rw[hge,hfx.2.2.2.2,hgn,Int.natCast_mul]at h;exact h)
 have HWR:=Hd (fun(W:World) (hW:Below w4.heap.size w4 W)=>show Ca 58 #[.agg #[.slice da dn dc,.slice dd dm de,.int .i64 dl,.bool db,.int .i64 dz],.int .i64 at_,.int .i64 hh,.int .i64 gn,.int .i64 ((fi:Int)+(k:Int)),.slice va (n-k) vc] W (RWPost W (fun k=>G k∧k<q) (fun k=>F k∧k<q) R M)from by
  have hf:FitE R (fi+k) (J.ents.drop k):=⟨by omega,Nt (DR _ _) hfx.1.size⟩;have hsz:=hf.size;have hsl:=BQ (J.ents.drop k);have hdl:(J.ents.drop k).length=n-k:=by rw[List.length_drop,HN.out]
  have hp:=CI (w:=1-g%2) (by omega) (Ah S at_ R.cnt);have hnl:=Ha (w:=1-g%2) (by omega) (Ah S at_ R.cnt);rw[hgn]at hp hnl;have hsq:=@Fe gn (fi+k) (J.ents.drop k);have ha:=CJ (R:=R) (h:=1-g%2) (by omega) (Nat.le_refl R.half);have hhR:R.half≤100:=by unfold JR.half;have:=hfx.2.2.1;have:=hfx.2.2.2.1;omega
  have hA:=hfx.2.2.1;have hB:=hfx.2.2.2.1;have hRa:=HNM.out.1;have h:=Ez (HRD.out.below hW) R (1-g%2) gn (fi+k) (by omega) hp.1 (E:=J.ents.drop k) (xa:=va) (xc:=vc) (by rw[hdl];exact hsd W (HEJ.out.below hW)) (hf.lim hhR) (by omega) hf.f (by omega) (by omega) ⟨by omega,by omega⟩ (HROOM.out.less (by omega));have e:wrJ S (R.area (1-g%2)) gn (fi+k) (J.ents.drop k)=M:=by rw[←hM,DH,HNM.out.1,hgn]
  rw[e,HNM.out.1,HNM.out.2.1,hdl,Int.natCast_add]at h;exact h)
 have HCE:=Hd (fun w' (hw':Below w4.heap.size w4 w')=>by have h1:=(Bq hw' HXD.out);have h2:=(Bq hw' HXJ.out);exact Dq10 (Cq h1 0) (Cq h1 1) (Cq h1 2) (Cq h1 3) (Cq h1 4) (Cq h2 0) (Cq h2 1) (Cq h2 2) (Cq h2 4) (Cq h2 5));obtain⟨M1,er,M2⟩:=M;simp only at HWR HZ2;have hhb:hh≤100:=by have h1:=hfx.2.2.1;have h2:=HNM.out.2.1;have h3:=hfx.2.2.2.1;unfold JR.half at h2;omega
 have hkI:(k:Int)≤(n:Int):=by omega
 clear hM hge hgn k0 k1 k2 k3 k4;go_upto_region 7 with(fail)
 refine CC (fun a0_ a' w'=>∃(q9:Nat) (fa:Option Addr) (fn fc:Nat) (fd:Option Addr) (fm fe:Nat) (fl:Int) (fb:Bool) (fz:Int) (a0 a1 a2 a3 a4:Int) (b5:Option Addr) (b6 b7:Nat) (a6 a7:Int) (v40 v41 v42 v43 v44 v45 v46 v47 v48 v49 v50 v51 v52 v53 v54 v55 v56 v57 v58 v59 v60 v61 v62 v63 v64 v65 v66 v67 v68:Value),a'=(((((((((((((((((((((((((((((((a0_.put (some 40) v40).put (some 41) v41).put (some 42) v42).put (some 43) v43).put (some 44) v44).put (some 45) v45).put (some 46) v46).put (some 47) v47).put (some 48) v48).put (some 49) v49).put (some 50) v50).put (some 51) v51).put (some 52) v52).put (some 53) v53).put (some 54) v54).put (some 55) v55).put (some 56) v56).put (some 57) v57).put (some 58) v58).put (some 59) v59).put (some 60) v60).put (some 61) v61).put (some 62) v62).put (some 63) v63).put (some 64) v64).put (some 65) v65).put (some 66) v66).put (some 67) v67).put (some 68) v68).put (some 9) (.pointer (some ⟨q9,0,none⟩))).put (some 10) (.int .i64 er))∧w4.heap.size≤q9∧w'.heap[q]?=some (.cells #[.slice fa fn fc,.slice fd fm fe,.int .i64 fl,.bool fb,.int .i64 fz] 39 (0,0))∧w'.heap[q9]?=some (.cells #[.int .i64 a0,.int .i64 a1,.int .i64 a2,.int .i64 a3,.int .i64 a4,.slice b5 b6 b7,.int .i64 a6,.int .i64 a7] 41 (0,0))∧Chg (fun x=>x=q) w4 w'∧RefD w' (fun k=>(G k∧k<q)∨w4.heap.size≤k) M1 (.agg #[.slice fa fn fc,.slice fd fm fe,.int .i64 fl,.bool fb,.int .i64 fz])∧(er=0→RefJ w' (fun k=>(F k∧k<q)∨w4.heap.size≤k) R M2 (.agg #[.int .i64 a0,.int .i64 a1,.int .i64 a2,.int .i64 a3,.int .i64 a4,.slice b5 b6 b7,.int .i64 a6,.int .i64 a7]))) ?_ ?_
 ·refine bG [30,31,32] ?_;intro wd hd0;have hS0:=hd0;try simp only[P0,P1,P2,P3,P4];refine BV 0 HCE.out hS0 ?_;refine tkP 1 hS0 ?_;refine BV 2 HCE.out hS0 ?_;refine tkP 3 hS0 ?_;refine BV 4 HCE.out hS0 ?_;refine BV 5 HCE.out hS0 ?_;refine tkP 6 hS0 ?_;refine BV 7 HCE.out hS0 ?_;refine tkP 8 hS0 ?_;refine BV 9 HCE.out hS0 ?_;refine tkP 10 hS0 ?_ (v:=.int .i64 ((2:Int)*(hh:Int))) (hy:=fun w' hw'=>by(have hwr:=Iw ((2:Int)*(hh:Int));first| (go_simp;rfl)| (go_simp;done)));refine tkP 11 hS0 ?_;refine BV 12 HCE.out hS0 ?_;refine tkP 13 hS0 ?_ (v:=.int .i64 ((g:Int)%2)) (hy:=fun w' hw'=>by(have htm:Int.tmod (g:Int) 2=(g:Int)%2:=Int.tmod_eq_emod_of_nonneg (by omega);first| (go_simp;rfl)| (go_simp;done)));refine tkP 14 hS0 ?_ (v:=.int .i64 ((1:Int)-(g:Int)%2)) (hy:=fun w' hw'=>by(have hwr:=Iw ((1:Int)-(g:Int)%2);first| (go_simp;rfl)| (go_simp;done)));refine tkP 16 hS0 ?_;refine tkP 17 hS0 ?_;refine BV 18 HCE.out hS0 ?_;refine tkP 19 hS0 ?_;refine tkP 20 hS0 ?_;refine BV 21 HCE.out hS0 ?_;refine tkP 22 hS0 ?_ (v:=.int .i64 k) (hy:=fun w' hw'=>by(have hsb:(fi:Int)+(k:Int)-(fi:Int)=(k:Int):=(by omega);have hwr:=Iw (k:Int);first| (go_simp;rfl)| (go_simp;done)));refine tkP 23 hS0 ?_ (v:=.slice va (n-k) vc) (hy:=fun w' hw'=>by(have h9:=hsl w';first| (go_simp;rfl)| (go_simp;done)));refine A4 (i:=15) (j:=29) (by kernel_rfl) rfl rfl rfl rfl (fun K hK=>?_) (fun K hK=>?_)
  ·go_simp;go_at_call 59;refine(HNX.out wd hS0).mono ?_;rintro e wda ⟨rfl,hb15⟩;have hS0a:=Tq hS0 hb15;refine Kq hK hS0a ?_;refine A4 (i:=24) (j:=29) (by kernel_rfl) rfl rfl rfl rfl (fun K hK=>?_) (fun K hK=>?_)
   ·go_simp;go_at_call 58;refine(HWR.out wda hS0a).mono ?_;rintro e wdaw ⟨v',jv,rfl,hrd,hb24,⟨a0,a1,a2,a3,a4,b5,b6,b7,a6,a7,rfl⟩,hrj⟩;obtain⟨fa,fn,fc,fd,fm,fe,fl,fb,fz,rfl⟩:=hrd.form;have hS0aw:=Tq hS0a hb24;refine Kq hK hS0aw ?_;refine tkP 25 hS0aw ?_;refine tkP 26 hS0aw ?_;refine tkP 27 hS0aw ?_;refine tkP 28 hS0aw ?_;refine dG 29 fun K hK=>?_
    go_simp;obtain⟨wdawn,hwn⟩:∃wn,wdaw.alloc (.cells #[.int .i64 0,.int .i64 0,.int .i64 0,.int .i64 0,.int .i64 0,.slice none 0 0,.int .i64 0,.int .i64 0] 41)=wn:=⟨_,rfl⟩;have hbn:=Lq hwn;have hx9:=Nq hwn rfl;have hz9:wdawn.heap.size=wdaw.heap.size+1:=by rw[←hwn,Sz]
    rw[hwn];obtain⟨q9,hq9⟩:=Xq (wdaw.heap.size);rw[hq9]at hx9 hz9⊢;have hS0awn:=Tq hS0aw hbn;have hge9:w4.heap.size≤q9:=by rw[←hq9];exact hS0aw.size
    refine Kq hK hS0awn ?_;refine dGf 30 fun K hK=>?_
    refine Pv 39 3 66 q (Bq hS0awn HXD.out) ?_;intro U1 x1 c1 s1;refine Kr hK ?_;refine dGf 31 fun K hK=>?_
    refine Pv 41 9 67 q9 ((c1.block q9 (Ax hx9).1 (by have h1:=HS4.out;omega)).trans hx9) ?_;intro U2 x2 c2 s2;refine Kr hK ?_;refine dGf 32 fun K hK=>?_
    go_simp;refine Kr hK ?_;refine eG ?_;have x1:=(c2.block q (Ax x1).1 (by have h1:=HS4.out;omega)).trans x1;have hcq:Chg (fun x=>x=q) w4 U2:=((Cb (F:=fun x=>x=q) hS0awn).trans c1 (fun x e=>.inl e)).trans c2 (fun x e=>.inr (by rw[e];exact hge9));have hc12:Chg (fun x=>x=q∨x=q9) wdawn U2:=(c1.mono (G:=fun x=>x=q∨x=q9) (fun x e=>.inl e)).trans (c2.mono (G:=fun x=>x=q∨x=q9) (fun x e=>.inr e)) (fun x e=>.inl e);have hcW:Chg (fun x=>x=q∨x=q9) wdaw U2:=(Cb (F:=fun x=>x=q∨x=q9) hbn).trans hc12 (fun x e=>.inl e);have esz:=hS0a.size;have es4:=HS4.out;have hrd2:=(hrd.bound.kept hcW (fun k h e=>by rcases h with⟨⟨h,h1⟩|h,h2⟩<;>rcases e with e|e<;>omega)).mono (G':=fun k=>(G k∧k<q)∨w4.heap.size≤k) (fun k h=>h.1.imp id (fun h=>Nt esz h));have hrj2:=fun h0=>((hrj h0).kept hcW (fun k h2 h e=>by rcases h with⟨h,h1⟩|h<;>rcases e with e|e<;>omega)).mono (G':=fun k=>(F k∧k<q)∨w4.heap.size≤k) (fun k _ h=>h.imp id (fun h=>Nt esz h))
    exact⟨rfl,q9,_,_,_,_,_,_,_,_,_,_,_,_,_,_,_,_,_,_,_,_,_,_,_,_,_,_,_,_,_,_,_,_,_,_,_,_,_,_,_,_,_,_,_,_,_,_,_,_,rfl,hge9,x1,x2,hcq,hrd2,hrj2⟩
   ·go_simp;obtain⟨wdan,hwn⟩:∃wn,wda.alloc (.cells #[.int .i64 0,.int .i64 0,.int .i64 0,.int .i64 0,.int .i64 0,.slice none 0 0,.int .i64 0,.int .i64 0] 41)=wn:=⟨_,rfl⟩;have hbn:=Lq hwn;have hx9:=Nq hwn rfl;have hz9:wdan.heap.size=wda.heap.size+1:=by rw[←hwn,Sz]
    rw[hwn];obtain⟨q9,hq9⟩:=Xq (wda.heap.size);rw[hq9]at hx9 hz9⊢;have hS0an:=Tq hS0a hbn;have hge9:w4.heap.size≤q9:=by rw[←hq9];exact hS0a.size
    refine Kq hK hS0an ?_;refine dG 24 fun K hK=>?_
    go_simp;go_at_call 58;refine(HWR.out wdan hS0an).mono ?_;rintro e wdanw ⟨v',jv,rfl,hrd,hb24,⟨a0,a1,a2,a3,a4,b5,b6,b7,a6,a7,rfl⟩,hrj⟩;obtain⟨fa,fn,fc,fd,fm,fe,fl,fb,fz,rfl⟩:=hrd.form;have hS0anw:=Tq hS0an hb24;have hx9:=Bq hb24 hx9;refine Kq hK hS0anw ?_;refine tkP 25 hS0anw ?_;refine tkP 26 hS0anw ?_;refine tkP 27 hS0anw ?_;refine tkP 28 hS0anw ?_;refine dGf 30 fun K hK=>?_
    refine Pv 39 3 66 q (Bq hS0anw HXD.out) ?_;intro U1 x1 c1 s1;refine Kr hK ?_;refine dGf 31 fun K hK=>?_
    refine Pv 41 9 67 q9 ((c1.block q9 (Ax hx9).1 (by have h1:=HS4.out;omega)).trans hx9) ?_;intro U2 x2 c2 s2;refine Kr hK ?_;refine dGf 32 fun K hK=>?_
    go_simp;refine Kr hK ?_;refine eG ?_;have x1:=(c2.block q (Ax x1).1 (by have h1:=HS4.out;omega)).trans x1;have hcq:Chg (fun x=>x=q) w4 U2:=((Cb (F:=fun x=>x=q) hS0anw).trans c1 (fun x e=>.inl e)).trans c2 (fun x e=>.inr (by rw[e];exact hge9));have hc12:Chg (fun x=>x=q∨x=q9) wdanw U2:=(c1.mono (G:=fun x=>x=q∨x=q9) (fun x e=>.inl e)).trans (c2.mono (G:=fun x=>x=q∨x=q9) (fun x e=>.inr e)) (fun x e=>.inl e);have hcW:=hc12;have esq:q9<wdan.heap.size:=by have e15:=hb15.size;omega
    have esz:=hS0an.size;have es4:=HS4.out;have hrd2:=(hrd.bound.kept hcW (fun k h e=>by rcases h with⟨⟨h,h1⟩|h,h2⟩<;>rcases e with e|e<;>omega)).mono (G':=fun k=>(G k∧k<q)∨w4.heap.size≤k) (fun k h=>h.1.imp id (fun h=>Nt esz h));have hrj2:=fun h0=>((hrj h0).kept hcW (fun k h2 h e=>by rcases h with⟨h,h1⟩|h<;>rcases e with e|e<;>omega)).mono (G':=fun k=>(F k∧k<q)∨w4.heap.size≤k) (fun k _ h=>h.imp id (fun h=>Nt esz h))
    exact⟨rfl,q9,_,_,_,_,_,_,_,_,_,_,_,_,_,_,_,_,_,_,_,_,_,_,_,_,_,_,_,_,_,_,_,_,_,_,_,_,_,_,_,_,_,_,_,_,_,_,_,_,rfl,hge9,x1,x2,hcq,hrd2,hrj2⟩
  ·go_simp;obtain⟨wdn,hwn⟩:∃wn,wd.alloc (.cells #[.int .i64 0,.int .i64 0,.int .i64 0,.int .i64 0,.int .i64 0,.slice none 0 0,.int .i64 0,.int .i64 0] 41)=wn:=⟨_,rfl⟩;have hbn:=Lq hwn;have hx9:=Nq hwn rfl;have hz9:wdn.heap.size=wd.heap.size+1:=by rw[←hwn,Sz]
   rw[hwn];obtain⟨q9,hq9⟩:=Xq (wd.heap.size);rw[hq9]at hx9 hz9⊢;have hS0n:=Tq hS0 hbn;have hge9:w4.heap.size≤q9:=by rw[←hq9];exact hS0.size
   refine Kq hK hS0n ?_;refine dG 15 fun K hK=>?_
   go_simp;go_at_call 59;refine(HNX.out wdn hS0n).mono ?_;rintro e wdna ⟨rfl,hb15⟩;have hS0na:=Tq hS0n hb15;have hx9:=Bq hb15 hx9;refine Kq hK hS0na ?_;refine dG 24 fun K hK=>?_
   go_simp;go_at_call 58;refine(HWR.out wdna hS0na).mono ?_;rintro e wdnaw ⟨v',jv,rfl,hrd,hb24,⟨a0,a1,a2,a3,a4,b5,b6,b7,a6,a7,rfl⟩,hrj⟩;obtain⟨fa,fn,fc,fd,fm,fe,fl,fb,fz,rfl⟩:=hrd.form;have hS0naw:=Tq hS0na hb24;have hx9:=Bq hb24 hx9;refine Kq hK hS0naw ?_;refine tkP 25 hS0naw ?_;refine tkP 26 hS0naw ?_;refine tkP 27 hS0naw ?_;refine tkP 28 hS0naw ?_;refine dGf 30 fun K hK=>?_
   refine Pv 39 3 66 q (Bq hS0naw HXD.out) ?_;intro U1 x1 c1 s1;refine Kr hK ?_;refine dGf 31 fun K hK=>?_
   refine Pv 41 9 67 q9 ((c1.block q9 (Ax hx9).1 (by have h1:=HS4.out;omega)).trans hx9) ?_;intro U2 x2 c2 s2;refine Kr hK ?_;refine dGf 32 fun K hK=>?_
   go_simp;refine Kr hK ?_;refine eG ?_;have x1:=(c2.block q (Ax x1).1 (by have h1:=HS4.out;omega)).trans x1;have hcq:Chg (fun x=>x=q) w4 U2:=((Cb (F:=fun x=>x=q) hS0naw).trans c1 (fun x e=>.inl e)).trans c2 (fun x e=>.inr (by rw[e];exact hge9));have hc12:Chg (fun x=>x=q∨x=q9) wdnaw U2:=(c1.mono (G:=fun x=>x=q∨x=q9) (fun x e=>.inl e)).trans (c2.mono (G:=fun x=>x=q∨x=q9) (fun x e=>.inr e)) (fun x e=>.inl e);have hcW:=hc12;have esq:q9<wdna.heap.size:=by have e15:=hb15.size;omega
   have esz:=hS0na.size;have es4:=HS4.out;have hrd2:=(hrd.bound.kept hcW (fun k h e=>by rcases h with⟨⟨h,h1⟩|h,h2⟩<;>rcases e with e|e<;>omega)).mono (G':=fun k=>(G k∧k<q)∨w4.heap.size≤k) (fun k h=>h.1.imp id (fun h=>Nt esz h));have hrj2:=fun h0=>((hrj h0).kept hcW (fun k h2 h e=>by rcases h with⟨h,h1⟩|h<;>rcases e with e|e<;>omega)).mono (G':=fun k=>(F k∧k<q)∨w4.heap.size≤k) (fun k _ h=>h.imp id (fun h=>Nt esz h))
   exact⟨rfl,q9,_,_,_,_,_,_,_,_,_,_,_,_,_,_,_,_,_,_,_,_,_,_,_,_,_,_,_,_,_,_,_,_,_,_,_,_,_,_,_,_,_,_,_,_,_,_,_,_,rfl,hge9,x1,x2,hcq,hrd2,hrj2⟩
 rintro a' V1 ⟨q9,fa,fn,fc,fd,fm,fe,fl,fb,fz,a0,a1,a2,a3,a4,b5,b6,b7,a6,a7,v40,v41,v42,v43,v44,v45,v46,v47,v48,v49,v50,v51,v52,v53,v54,v55,v56,v57,v58,v59,v60,v61,v62,v63,v64,v65,v66,v67,v68,rfl,hq9,hx6,hx9,hc1,hrd,hrj⟩
 try simp only[P0,P1,P2,P3,P4]
 have hs4':=HS4.out;obtain⟨HXD1,HX91,HXJ1,HXE1,HXK1,HB1,HEJ1,HRD1,HRJ1⟩:=Hd9 hx6 hx9 (Ck hc1 HXJ.out) (Ck hc1 HXE.out) (Ck hc1 HXK.out) (HB4.out.trans (hc1.below (B:=w.heap.size) (fun k e=>by have:=HQ.out;omega) HB4.out.size)) ((HEJ.out.chg hc1 (fun k _ h e=>by have:=h.2;omega)).weak (G:=fun k=>(F k∧k<q)∨w4.heap.size≤k) (fun k _ h=>.inl h)) hrd hrj;clear hx6 hx9 hc1 hrd hrj j0 j1 j2 j3 j4 j5 j6 j7 HXD HXJ HXE HXK HEJ HRD HRD9 HEJ9 HB4 HCE HNX HWR hsl hsd hteq;by_cases her:er=0
 case pos=>
  subst her;have HZB:=Hd (show Z=(M1,M2,0) by rw[HZ2.out,Ip rfl]);have HCE:=Hd (Ee HXD1.out HX91.out);go_wp2_with fail;refine bH (fun k=>k=q+2∨k=q+3) ?_;intro wd hd0 hS0;refine AD 0 HCE.out hS0 ?_;refine AD 1 HCE.out hS0 ?_;refine dH 2 fun K hK=>?_
  refine Pv 39 6 78 (q+2) (Bq hd0 HXE1.out) ?_;intro B1 Bx1 Bc1 Bs1;have hS0:=DW hS0 Bc1;refine Kq hK (hS0) ?_;refine dH 3 fun K hK=>?_
  refine Pv 41 7 79 (q+3) (ckS Bc1 hd0 HXK1.out) ?_;intro B2 Bx2 Bc2 Bs2;have hS0:=DX hS0 Bc2;refine Kq hK (hS0) ?_;refine tkH 4 hS0 ?_;refine eH ?_;have hcb:=hS0;obtain⟨HRE,HBE,HJE⟩:=Hd3 (O0 HQ.out HS4.out hcb HRD1.out) (O1 HQ.out hcb HB1.out) (((HRJ1.out (by first|rfl |trivial)).kept hcb (fun k _ h e=>by rcases h with⟨h,h9⟩|h<;>omega)).mono (G':=fun k=>F k∨w.heap.size≤k) (fun k _ h=>h.imp (fun h=>h.1) (fun h=>by have h6:=HQ.out;omega)));obtain⟨y0,y1,y2,y3,y4,z0,z1,z2,z3,z4,z5,z6,z7⟩:=Ef Bc2 Bx1 Bx2;clear Bx1 Bx2 Bc1 Bc2 Bs1 Bs2 hd0 hS0;go_wp2_with fail;exact Bv (hr:=by simp[go_sem,y0,y1,y2,y3,y4,z0,z1,z2,z3,z4,z5,z6,z7]) (.tuple #[.agg #[.slice fa fn fc,.slice fd fm fe,.int .i64 fl,.bool fb,.int .i64 fz],.agg #[.int .i64 a0,.int .i64 a1,.int .i64 a2,.int .i64 a3,.int .i64 a4,.slice b5 b6 b7,.int .i64 a6,.int .i64 a7],.int .i64 0]) (RSPost.mk HZB.out HRE.out HJE.out HBE.out)
 have hed:(er !=0)=true:=by simpa using her
 by_cases h28:er=28
 case pos=>
  subst h28;have HZB:=Hd (show Z=(M1,{J with failed:=28},28) by rw[HZ2.out,In her,Ip rfl]);go_wp2_with (refine Az rfl rfl 3 (.tmp 74) (.tmp 73) rfl (q+1) 7 (.int .i64 28) rfl rfl HXJ1.out (by show 7<8;decide) rfl (by kernel_rfl) ?_;refine Stop.on ?_)
  refine Stop.go ?_
  try simp only[P0,P1,P2,P3,P4]
  intro V3 x3 c3 s3
  try simp only[P0,P1,P2,P3,P4]
  obtain⟨HXD3,HXJ3,HXE3,HXK3,HB3,HRD3,HEJ3⟩:=Hd7 (Ck c3 HXD1.out) (show V3.heap[q+1]?=some (.cells #[.int .i64 at_,.int .i64 hh,.int .i64 g,.int .i64 u,.int .i64 fi,.slice ea n ec,.int .i64 sy,.int .i64 28] 41 (0,0))from x3) (Ck c3 HXE1.out) (Ck c3 HXK1.out) (HB1.out.trans (c3.below (B:=w.heap.size) (fun k e=>by have:=HQ.out;omega) HB1.out.size)) (HRD1.out.kept c3 (fun k h e=>by rcases h with h|h<;>omega)) (HEJ1.out.chg c3 (fun k _ h e=>by rcases h with⟨h,h9⟩|h<;>omega));clear x3 c3 s3;have HCE:=Hd (Ee HXD3.out HXJ3.out);go_wp2_with fail;refine bH (fun k=>k=q+2∨k=q+3) ?_;intro wd hd0 hS0;refine AD 0 HCE.out hS0 ?_;refine AD 1 HCE.out hS0 ?_;refine tkH 2 hS0 ?_;refine dH 3 fun K hK=>?_
  refine Pv 39 6 75 (q+2) (Bq hd0 HXE3.out) ?_;intro B1 Bx1 Bc1 Bs1;have hS0:=DW hS0 Bc1;refine Kq hK (hS0) ?_;refine dH 4 fun K hK=>?_
  refine Pv 41 7 76 (q+3) (ckS Bc1 hd0 HXK3.out) ?_;intro B2 Bx2 Bc2 Bs2;have hS0:=DX hS0 Bc2;refine Kq hK (hS0) ?_;refine tkH 5 hS0 ?_;refine eH ?_;have hcb:=hS0;obtain⟨y0,y1,y2,y3,y4,z0,z1,z2,z3,z4,z5,z6,z7⟩:=Ef Bc2 Bx1 Bx2;clear Bx1 Bx2 Bc1 Bc2 Bs1 Bs2 hd0 hS0;go_wp2_with fail;exact Bv (hr:=by simp[go_sem,y0,y1,y2,y3,y4,z0,z1,z2,z3,z4,z5,z6,z7]) (.tuple #[.agg #[.slice fa fn fc,.slice fd fm fe,.int .i64 fl,.bool fb,.int .i64 fz],.agg #[.int .i64 at_,.int .i64 hh,.int .i64 g,.int .i64 u,.int .i64 fi,.slice ea n ec,.int .i64 sy,.int .i64 28],.int .i64 28]) (FA HQ.out HS4.out hcb HZB.out HRD3.out HB3.out HN.out HEJ3.out (IE HNM.out))
 have h28d:(er==28)=false:=by simpa using h28
 have HZB:=Hd (show Z=(M1,{J with failed:=0},er) by rw[HZ2.out,In her,In h28]);have HCE:=Hd (Ee HXD1.out HXJ1.out);go_wp2_with fail;refine bH (fun k=>k=q+2∨k=q+3) ?_;intro wd hd0 hS0;refine AD 0 HCE.out hS0 ?_;refine AD 1 HCE.out hS0 ?_;refine tkH 2 hS0 ?_;refine dH 3 fun K hK=>?_
 refine Pv 39 6 75 (q+2) (Bq hd0 HXE1.out) ?_;intro B1 Bx1 Bc1 Bs1;have hS0:=DW hS0 Bc1;refine Kq hK (hS0) ?_;refine dH 4 fun K hK=>?_
 refine Pv 41 7 76 (q+3) (ckS Bc1 hd0 HXK1.out) ?_;intro B2 Bx2 Bc2 Bs2;have hS0:=DX hS0 Bc2;refine Kq hK (hS0) ?_;refine tkH 5 hS0 ?_;refine eH ?_;have hcb:=hS0;obtain⟨y0,y1,y2,y3,y4,z0,z1,z2,z3,z4,z5,z6,z7⟩:=Ef Bc2 Bx1 Bx2;clear Bx1 Bx2 Bc1 Bc2 Bs1 Bs2 hd0 hS0;go_wp2_with fail;exact Bv (hr:=by simp[go_sem,y0,y1,y2,y3,y4,z0,z1,z2,z3,z4,z5,z6,z7]) (.tuple #[.agg #[.slice fa fn fc,.slice fd fm fe,.int .i64 fl,.bool fb,.int .i64 fz],.agg #[.int .i64 at_,.int .i64 hh,.int .i64 g,.int .i64 u,.int .i64 fi,.slice ea n ec,.int .i64 sy,.int .i64 0],.int .i64 er]) (FA HQ.out HS4.out hcb HZB.out HRD1.out HB1.out HN.out HEJ1.out (IE HNM.out))
theorem Lo (hD:RefD w G S v) (R:JR) (h8:8≤R.cnt) (hr:R.at_+R.cnt≤S.dur.length) (hm:S.dur.length≤100) (hd:S.down=false) (hroom:Roomy S 910000100):
 Ca 23 #[v,.int .i64 (R.at_:Int),.int .i64 (R.cnt:Int)] w fun e w'=>∃v',e=.returned (.tuple #[v',.int .i64 (moveJ S R 0 0 []).2.1])∧RefD w' (fun k=>G k∨w.heap.size≤k) (moveJ S R 0 0 []).1 v'∧Below w.heap.size w w':=by
 obtain⟨da,dn,dc,dd,dm,de,dl,db,dz,rfl⟩:=hD.form;have hlen:S.pend.length<100000000:=by have:=hroom.pend;omega
 obtain⟨gn,hgn⟩:=Xq (AA 0 (Ah S R.at_ R.cnt));obtain⟨M,hM⟩:=Xq (moveJ S R 0 0 []);have hhalf:R.half=R.cnt/2:=rfl;have hhc:((R.half:Nat):Int)=(R.cnt:Int)/2:=by rw[hhalf];omega
 have HWI:=Hd (fun(W:World) (hW:Below w.heap.size w W)=>Fl (hD.at_.below hW) R.at_ R.cnt h8 hr (by omega));have HNX0:=Hd (fun(W:World) (hW:Below w.heap.size w W)=>E4 (hD.at_.below hW) hD.ok hlen R.at_ R.cnt 0 (by omega) hr);have HWR0:=Hd (fun(W:World) (hW:Below w.heap.size w W)=>show Ca 58 #[.agg #[.slice da dn dc,.slice dd dm de,.int .i64 dl,.bool db,.int .i64 dz],.int .i64 (R.at_:Int),.int .i64 ((R.cnt:Int)/2),.int .i64 gn,.int .i64 0,.slice none 0 0] W (RWPost W (fun k=>G k∧k<w.heap.size) (fun _=>False) R M)from by
  have hp:=CI (w:=0) (by omega) (Ah S R.at_ R.cnt);have hnl:=Ha (w:=0) (by omega) (Ah S R.at_ R.cnt);rw[hgn]at hp hnl;have hsq:=@Fe gn 0 [];have hsz:Aq []=1:=rfl;have ha:=CJ (R:=R) (h:=0) (n:=1) (by omega) (by unfold JR.half;omega);have h:=Ez (hD.bound.below hW) R 0 gn 0 (by omega) hp.1 (E:=[]) (xa:=none) (xc:=0) (P8 W (fun _=>False)) (Jd (Nat.zero_le _)).w.zero (by decide) (by omega) (by omega) (by omega) ⟨by omega,by unfold JR.half;omega⟩ (hroom.less (by omega));have e:wrJ S (R.area 0) gn 0 []=M:=by rw[←hM,DH,hgn]
  rw[e,hhc]at h;exact h)
 rw[hM];rw[hgn]at HNX0;rw[hd]at HWI;obtain⟨at_,hat⟩:∃x,R.at_=x:=⟨_,rfl⟩;obtain⟨cn,hcn⟩:∃x,R.cnt=x:=⟨_,rfl⟩;rw[hat,hcn]at HWI HNX0 HWR0;rw[hat,hcn];have hcn9:cn<1000000000:=by omega
 obtain⟨w1,hw1⟩:=Xq (w.alloc (.cells #[.slice da dn dc,.slice dd dm de,.int .i64 dl,.bool db,.int .i64 dz] 39));obtain⟨w2,hw2⟩:=Xq (w1.alloc (.cells #[.slice none 0 0,.slice none 0 0,.int .i64 0,.bool false,.int .i64 0] 39));have hb1:=Lq hw1;have hb2:=Lq hw2;obtain⟨q,hq⟩:=Xq (w.heap.size);have hs1:w1.heap.size=q+1:=by rw[←hw1,Sz,hq]
 have hs2:w2.heap.size=q+2:=by rw[←hw2,Sz,hs1]
 have hxd:w2.heap[q]?=some (.cells #[.slice da dn dc,.slice dd dm de,.int .i64 dl,.bool db,.int .i64 dz] 39 (0,0)):=(hb2.block q (by omega)).trans (by rw[←hq,←hw1];exact Hn);have hxe:w2.heap[q+1]?=some (.cells #[.slice none 0 0,.slice none 0 0,.int .i64 0,.bool false,.int .i64 0] 39 (0,0)):=by rw[←hs1,←hw2];exact Hn
 obtain⟨HW1,HW2,HQ,HS1,HS2,HB2,HXD2,HXE2⟩:=Hd8 hw1 hw2 hq hs1 hs2 (show Below w.heap.size w w2 from Tq hb1 hb2) hxd hxe;clear hw1 hw2 hb1 hb2 hs1 hs2 hxd hxe hq hM hgn hhalf hhc hat hcn hD hroom hlen hd;obtain⟨k0,k1,k2,k3,k4⟩:=Cr5 (HXD2.out);go_enter Tryz.func23,Tryz.ntmps23;go_upto_region 1 with(fail)
 rw[HW1.out,HW2.out]
 try rw[HS1.out]
 try rw[HQ.out]
 go_wp2_with fail;refine(HWI.out w2 HB2.out).mono ?_;rintro e w3 ⟨rfl,hb⟩;obtain⟨HB3,HS3,HXD,HXE⟩:=Hd4 (Tq HB2.out hb) (show q+2≤w3.heap.size by have h1:=hb.size;have h2:=HS2.out;omega) (Bq hb HXD2.out) (Bq hb HXE2.out);have HCE:=Hd (fun w' (hw':Below w3.heap.size w3 w')=>by have h1:=(Bq hw' HXD.out);exact Cr5 h1);have HNX:=Hd (fun(W:World) (hW:Below w3.heap.size w3 W)=>HNX0.out W (Tq HB3.out hW));have HWR:=Hd (fun(W:World) (hW:Below w3.heap.size w3 W)=>show Ca 58 #[.agg #[.slice da dn dc,.slice dd dm de,.int .i64 dl,.bool db,.int .i64 dz],.int .i64 at_,.int .i64 ((cn:Int)/2),.int .i64 gn,.int .i64 0,.slice none 0 0] W (RWPost W (fun k=>G k∧k<q) (fun _=>False) R M)from by have h:=HWR0.out W (Tq HB3.out hW);rw[HQ.out]at h;exact h)
 obtain⟨M1,er,M2⟩:=M;clear hb k0 k1 k2 k3 k4 HXD2 HXE2 HNX0 HWR0 HWI;go_upto_region 4 with(fail)
 refine CC (fun a0_ a' w'=>∃(q9:Nat) (fa:Option Addr) (fn fc:Nat) (fd:Option Addr) (fm fe:Nat) (fl:Int) (fb:Bool) (fz:Int) (v19 v20 v21 v22 v23 v24 v25 v26 v27 v28 v29 v30 v31:Value),a'=(((((((((((((((a0_.put (some 19) v19).put (some 20) v20).put (some 21) v21).put (some 22) v22).put (some 23) v23).put (some 24) v24).put (some 25) v25).put (some 26) v26).put (some 27) v27).put (some 28) v28).put (some 29) v29).put (some 30) v30).put (some 31) v31).put (some 9) (.pointer (some ⟨q9,0,none⟩))).put (some 10) (.int .i64 er))∧w'.heap[q]?=some (.cells #[.slice fa fn fc,.slice fd fm fe,.int .i64 fl,.bool fb,.int .i64 fz] 39 (0,0))∧Chg (fun x=>x=q) w3 w'∧RefD w' (fun k=>(G k∧k<q)∨w3.heap.size≤k) M1 (.agg #[.slice fa fn fc,.slice fd fm fe,.int .i64 fl,.bool fb,.int .i64 fz])) ?_ ?_
 ·refine bG [14,15,16] ?_;intro wd hd0;have hS0:=hd0;try simp only[P0,P1,P2,P3,P4];refine BV 0 HCE.out hS0 ?_;refine tkP 1 hS0 ?_;refine tkP 2 hS0 ?_;refine tkP 3 hS0 ?_ (v:=.int .i64 ((cn:Int)/2)) (hy:=fun w' hw'=>by(have htd:Int.tdiv (cn:Int) 2=(cn:Int)/2:=Int.tdiv_eq_ediv_of_nonneg (by omega);have hwr:=Iw ((cn:Int)/2);first| (go_simp;rfl)| (go_simp;done)));refine BV 4 HCE.out hS0 ?_;refine tkP 5 hS0 ?_;refine tkP 6 hS0 ?_;refine A4 (i:=7) (j:=13) (by kernel_rfl) rfl rfl rfl rfl (fun K hK=>?_) (fun K hK=>?_)
  ·go_simp;go_at_call 59;refine(HNX.out wd hS0).mono ?_;rintro e wda ⟨rfl,hb15⟩;have hS0a:=Tq hS0 hb15;refine Kq hK hS0a ?_;refine A4 (i:=8) (j:=13) (by kernel_rfl) rfl rfl rfl rfl (fun K hK=>?_) (fun K hK=>?_)
   ·go_simp;go_at_call 58;refine(HWR.out wda hS0a).mono ?_;rintro e wdaw ⟨v',jv,rfl,hrd,hb24,⟨a0,a1,a2,a3,a4,b5,b6,b7,a6,a7,rfl⟩,_⟩;obtain⟨fa,fn,fc,fd,fm,fe,fl,fb,fz,rfl⟩:=hrd.form;have hS0aw:=Tq hS0a hb24;refine Kq hK hS0aw ?_;refine tkP 9 hS0aw ?_;refine tkP 10 hS0aw ?_;refine tkP 11 hS0aw ?_;refine tkP 12 hS0aw ?_;refine dG 13 fun K hK=>?_
    go_simp;obtain⟨wdawn,hwn⟩:∃wn,wdaw.alloc (.cells #[.int .i64 0,.int .i64 0,.int .i64 0,.int .i64 0,.int .i64 0,.slice none 0 0,.int .i64 0,.int .i64 0] 41)=wn:=⟨_,rfl⟩;have hbn:=Lq hwn;have hx9:=Nq hwn rfl;have hz9:wdawn.heap.size=wdaw.heap.size+1:=by rw[←hwn,Sz]
    rw[hwn];obtain⟨q9,hq9⟩:=Xq (wdaw.heap.size);rw[hq9]at hx9 hz9⊢;have hS0awn:=Tq hS0aw hbn;have hge9:w3.heap.size≤q9:=by rw[←hq9];exact hS0aw.size
    refine Kq hK hS0awn ?_;refine dGf 14 fun K hK=>?_
    refine Pv 39 3 29 q (Bq hS0awn HXD.out) ?_;intro U1 x1 c1 s1;refine Kr hK ?_;refine dGf 15 fun K hK=>?_
    refine Pv 41 9 30 q9 ((c1.block q9 (Ax hx9).1 (by have h1:=HS3.out;omega)).trans hx9) ?_;intro U2 x2 c2 s2;refine Kr hK ?_;refine dGf 16 fun K hK=>?_
    go_simp;refine Kr hK ?_;refine eG ?_;have x1:=(c2.block q (Ax x1).1 (by have h1:=HS3.out;omega)).trans x1;have hcq:Chg (fun x=>x=q) w3 U2:=((Cb (F:=fun x=>x=q) hS0awn).trans c1 (fun x e=>.inl e)).trans c2 (fun x e=>.inr (by rw[e];exact hge9));have hc12:Chg (fun x=>x=q∨x=q9) wdawn U2:=(c1.mono (G:=fun x=>x=q∨x=q9) (fun x e=>.inl e)).trans (c2.mono (G:=fun x=>x=q∨x=q9) (fun x e=>.inr e)) (fun x e=>.inl e);have hcW:Chg (fun x=>x=q∨x=q9) wdaw U2:=(Cb (F:=fun x=>x=q∨x=q9) hbn).trans hc12 (fun x e=>.inl e);have esz:=hS0a.size;have es4:=HS3.out;have hrd2:=(hrd.bound.kept hcW (fun k h e=>by rcases h with⟨⟨h,h1⟩|h,h2⟩<;>rcases e with e|e<;>omega)).mono (G':=fun k=>(G k∧k<q)∨w3.heap.size≤k) (fun k h=>h.1.imp id (fun h=>Nt esz h));exact⟨rfl,q9,_,_,_,_,_,_,_,_,_,_,_,_,_,_,_,_,_,_,_,_,_,_,rfl,x1,hcq,hrd2⟩
   ·go_simp;obtain⟨wdan,hwn⟩:∃wn,wda.alloc (.cells #[.int .i64 0,.int .i64 0,.int .i64 0,.int .i64 0,.int .i64 0,.slice none 0 0,.int .i64 0,.int .i64 0] 41)=wn:=⟨_,rfl⟩;have hbn:=Lq hwn;have hx9:=Nq hwn rfl;have hz9:wdan.heap.size=wda.heap.size+1:=by rw[←hwn,Sz]
    rw[hwn];obtain⟨q9,hq9⟩:=Xq (wda.heap.size);rw[hq9]at hx9 hz9⊢;have hS0an:=Tq hS0a hbn;have hge9:w3.heap.size≤q9:=by rw[←hq9];exact hS0a.size
    refine Kq hK hS0an ?_;refine dG 8 fun K hK=>?_
    go_simp;go_at_call 58;refine(HWR.out wdan hS0an).mono ?_;rintro e wdanw ⟨v',jv,rfl,hrd,hb24,⟨a0,a1,a2,a3,a4,b5,b6,b7,a6,a7,rfl⟩,_⟩;obtain⟨fa,fn,fc,fd,fm,fe,fl,fb,fz,rfl⟩:=hrd.form;have hS0anw:=Tq hS0an hb24;have hx9:=Bq hb24 hx9;refine Kq hK hS0anw ?_;refine tkP 9 hS0anw ?_;refine tkP 10 hS0anw ?_;refine tkP 11 hS0anw ?_;refine tkP 12 hS0anw ?_;refine dGf 14 fun K hK=>?_
    refine Pv 39 3 29 q (Bq hS0anw HXD.out) ?_;intro U1 x1 c1 s1;refine Kr hK ?_;refine dGf 15 fun K hK=>?_
    refine Pv 41 9 30 q9 ((c1.block q9 (Ax hx9).1 (by have h1:=HS3.out;omega)).trans hx9) ?_;intro U2 x2 c2 s2;refine Kr hK ?_;refine dGf 16 fun K hK=>?_
    go_simp;refine Kr hK ?_;refine eG ?_;have x1:=(c2.block q (Ax x1).1 (by have h1:=HS3.out;omega)).trans x1;have hcq:Chg (fun x=>x=q) w3 U2:=((Cb (F:=fun x=>x=q) hS0anw).trans c1 (fun x e=>.inl e)).trans c2 (fun x e=>.inr (by rw[e];exact hge9));have hc12:Chg (fun x=>x=q∨x=q9) wdanw U2:=(c1.mono (G:=fun x=>x=q∨x=q9) (fun x e=>.inl e)).trans (c2.mono (G:=fun x=>x=q∨x=q9) (fun x e=>.inr e)) (fun x e=>.inl e);have hcW:=hc12;have esq:q9<wdan.heap.size:=by have e15:=hb15.size;omega
    have esz:=hS0an.size;have es4:=HS3.out;have hrd2:=(hrd.bound.kept hcW (fun k h e=>by rcases h with⟨⟨h,h1⟩|h,h2⟩<;>rcases e with e|e<;>omega)).mono (G':=fun k=>(G k∧k<q)∨w3.heap.size≤k) (fun k h=>h.1.imp id (fun h=>Nt esz h));exact⟨rfl,q9,_,_,_,_,_,_,_,_,_,_,_,_,_,_,_,_,_,_,_,_,_,_,rfl,x1,hcq,hrd2⟩
  ·go_simp;obtain⟨wdn,hwn⟩:∃wn,wd.alloc (.cells #[.int .i64 0,.int .i64 0,.int .i64 0,.int .i64 0,.int .i64 0,.slice none 0 0,.int .i64 0,.int .i64 0] 41)=wn:=⟨_,rfl⟩;have hbn:=Lq hwn;have hx9:=Nq hwn rfl;have hz9:wdn.heap.size=wd.heap.size+1:=by rw[←hwn,Sz]
   rw[hwn];obtain⟨q9,hq9⟩:=Xq (wd.heap.size);rw[hq9]at hx9 hz9⊢;have hS0n:=Tq hS0 hbn;have hge9:w3.heap.size≤q9:=by rw[←hq9];exact hS0.size
   refine Kq hK hS0n ?_;refine dG 7 fun K hK=>?_
   go_simp;go_at_call 59;refine(HNX.out wdn hS0n).mono ?_;rintro e wdna ⟨rfl,hb15⟩;have hS0na:=Tq hS0n hb15;have hx9:=Bq hb15 hx9;refine Kq hK hS0na ?_;refine dG 8 fun K hK=>?_
   go_simp;go_at_call 58;refine(HWR.out wdna hS0na).mono ?_;rintro e wdnaw ⟨v',jv,rfl,hrd,hb24,⟨a0,a1,a2,a3,a4,b5,b6,b7,a6,a7,rfl⟩,_⟩;obtain⟨fa,fn,fc,fd,fm,fe,fl,fb,fz,rfl⟩:=hrd.form;have hS0naw:=Tq hS0na hb24;have hx9:=Bq hb24 hx9;refine Kq hK hS0naw ?_;refine tkP 9 hS0naw ?_;refine tkP 10 hS0naw ?_;refine tkP 11 hS0naw ?_;refine tkP 12 hS0naw ?_;refine dGf 14 fun K hK=>?_
   refine Pv 39 3 29 q (Bq hS0naw HXD.out) ?_;intro U1 x1 c1 s1;refine Kr hK ?_;refine dGf 15 fun K hK=>?_
   refine Pv 41 9 30 q9 ((c1.block q9 (Ax hx9).1 (by have h1:=HS3.out;omega)).trans hx9) ?_;intro U2 x2 c2 s2;refine Kr hK ?_;refine dGf 16 fun K hK=>?_
   go_simp;refine Kr hK ?_;refine eG ?_;have x1:=(c2.block q (Ax x1).1 (by have h1:=HS3.out;omega)).trans x1;have hcq:Chg (fun x=>x=q) w3 U2:=((Cb (F:=fun x=>x=q) hS0naw).trans c1 (fun x e=>.inl e)).trans c2 (fun x e=>.inr (by rw[e];exact hge9));have hc12:Chg (fun x=>x=q∨x=q9) wdnaw U2:=(c1.mono (G:=fun x=>x=q∨x=q9) (fun x e=>.inl e)).trans (c2.mono (G:=fun x=>x=q∨x=q9) (fun x e=>.inr e)) (fun x e=>.inl e);have hcW:=hc12;have esq:q9<wdna.heap.size:=by have e15:=hb15.size;omega
   have esz:=hS0na.size;have es4:=HS3.out;have hrd2:=(hrd.bound.kept hcW (fun k h e=>by rcases h with⟨⟨h,h1⟩|h,h2⟩<;>rcases e with e|e<;>omega)).mono (G':=fun k=>(G k∧k<q)∨w3.heap.size≤k) (fun k h=>h.1.imp id (fun h=>Nt esz h));exact⟨rfl,q9,_,_,_,_,_,_,_,_,_,_,_,_,_,_,_,_,_,_,_,_,_,_,rfl,x1,hcq,hrd2⟩
 rintro a' V1 ⟨q9,fa,fn,fc,fd,fm,fe,fl,fb,fz,v19,v20,v21,v22,v23,v24,v25,v26,v27,v28,v29,v30,v31,rfl,hx6,hc1,hrd⟩
 try simp only[P0,P1,P2,P3,P4]
 have hs3':=HS3.out;have HXE1:=Hd (Ck hc1 HXE.out);obtain⟨k0,k1,k2,k3,k4⟩:=Cr5 (hx6);go_wp2_with (refine Pl 39 6 32 (q+1) HXE1.out ?_;refine Stop.on ?_)
 refine Stop.go ?_
 try simp only[P0,P1,P2,P3,P4]
 intro V2 x2 c2 s2
 try simp only[P0,P1,P2,P3,P4]
 have hcb:=(hc1.mono (G:=fun k=>k=q∨k=q+1) (fun k e=>.inl e)).trans (c2.mono (G:=fun k=>k=q∨k=q+1) (fun k e=>.inr e)) (fun k e=>.inl e);have HBE:=Hd (HB3.out.trans (hcb.below (B:=w.heap.size) (fun k e=>by have:=HQ.out;omega) HB3.out.size));have HRE:=Hd ((hrd.kept c2 (fun k h e=>by rcases h with h|h<;>omega)).mono (G':=fun k=>G k∨w.heap.size≤k) (fun k h=>h.imp (fun h=>h.1) (fun h=>by have:=HQ.out;omega)));obtain⟨y0,y1,y2,y3,y4⟩:=Cr5 (x2);clear x2 c2 s2 hcb hc1 hrd hx6 k0 k1 k2 k3 k4;go_wp2_with fail;exact Bv (hr:=by simp[go_sem,y0,y1,y2,y3,y4]) (.tuple #[.agg #[.slice fa fn fc,.slice fd fm fe,.int .i64 fl,.bool fb,.int .i64 fz],.int .i64 er]) ⟨_,rfl,HRE.out,HBE.out⟩
end Go.Proofs.YtplclpileejemaaGreatDoor
namespace Go.Proofs.YtplclpileejemaaGreatDoor
open Go
variable {i fuel b n:Nat}{oi o:Oper}{listed:Array Bool}{a:Act}{w W:World}{P:Program}{K:Act→World→Prop}{Q:Exit→Act→World→Prop}{S:DS}{dv jv:Value}{R:JR}{F:Nat→Prop}
section
variable {P:Program} {ops:Array Oper} {Q:Exit→Act→World→Prop} {md:Region.Mode} {S:World→Prop} {fin:List Nat}
theorem DJ {j l:Nat}{oj ol:Oper} (hr:Region.ready md ops listed=[i,j,l]) (hi':ops.toList[i]?=some oi) (hj':ops.toList[j]?=some oj) (hl':ops.toList[l]?=some ol) (hg:oi.guard=none) (hg2:oj.guard=none) (hg3:ol.guard=none)
 (h1:∀K:Act→World→Prop,(∀a' w',S w'→A6 P md ops Q S fin fuel (listed.setIfInBounds i true) a' w'→K a' w')→oi.wp P a w K Q)
 (h2:∀K:Act→World→Prop,(∀a' w',S w'→A6 P md ops Q S fin fuel (listed.setIfInBounds j true) a' w'→K a' w')→oj.wp P a w K Q)
 (h3:∀K:Act→World→Prop,(∀a' w',S w'→A6 P md ops Q S fin fuel (listed.setIfInBounds l true) a' w'→K a' w')→ol.wp P a w K Q):A6 P md ops Q S fin (fuel+1) listed a w:=by
 have hi:ops[i]?=some oi:=by simpa using hi'
 have hj:ops[j]?=some oj:=by simpa using hj'
 have hl:ops[l]?=some ol:=by simpa using hl'
 refine⟨fun h0=>absurd (hr▸h0) (by simp),fun x hx=>?_⟩;rw[hr]at hx;rcases List.mem_cons.1 hx with rfl |hx
 ·unfold wpOp;simp only[hi];rw[Ip (by simp[Region.wanted,hg])];exact .inl (h1 _ (fun a' w' h1 h2=>⟨fun _=>h1,h2⟩))
 rcases List.mem_cons.1 hx with rfl |hx
 ·unfold wpOp;simp only[hj];rw[Ip (by simp[Region.wanted,hg2])];exact .inl (h2 _ (fun a' w' h1 h2=>⟨fun _=>h1,h2⟩))
 ·obtain rfl :=List.mem_singleton.1 hx;unfold wpOp;simp only[hl];rw[Ip (by simp[Region.wanted,hg3])];exact .inl (h3 _ (fun a' w' h1 h2=>⟨fun _=>h1,h2⟩))
end
end Go.Proofs.YtplclpileejemaaGreatDoor
namespace Go.Proofs.YtplclpileejemaaGreatDoor
open Go.RowKit
variable {i fuel b n:Nat}{oi o:Oper}{listed:Array Bool}{a:Act}{w W:World}{P:Program}{K:Act→World→Prop}{Q:Exit→Act→World→Prop}{S:DS}{dv jv:Value}{R:JR}{F:Nat→Prop}
theorem AB {dst:Option Tmp} (hdst:o.dst=dst) (t:TypeId) (ho:o.op=.alloc t) (zs:Array Value) (sz:Nat) (hi:(P.info? t).map (fun i=>(i.zero,i.size))=some (some (.agg zs),sz))
 (h:∀w' p,w'.heap[p]?=some (.cells zs t (0,0))→Below w.heap.size w w'→p=w.heap.size∧w'.heap.size=p+1→K (a.put dst (.pointer (some ⟨p,0,none⟩))) w'):o.wp P a w K Q:=
 Nz dst hdst t ho zs sz hi fun w' h1 h2 h3=>h w' _ h1 h2 ⟨rfl,h3⟩
theorem Rc (hdst:o.dst=none) (ty:TypeId) (x y:Operand) (ho:o.op=.store ty x y)
 (g:Nat) (v0 c0 c1 c2 c3 c4 c5 c6 c7 c8 c9 c10 c11 c12 c13 c14 c15:Value) (hx:a.eval x=.pointer (some ⟨g,1,none⟩)) (hy:a.eval y=v0) {T:TypeId} (hg:w.heap[g]?=some (.cells #[c0,c1,c2,c3,c4,c5,c6,c7,c8,c9,c10,c11,c12,c13,c14,c15] T (0,0))) (hv:v0.oneCell'=true) (hsz:(P.info? ty).map (·.size)=some 1)
 (h:∀w',w'.heap[g]?=some (.cells #[c0,v0,c2,c3,c4,c5,c6,c7,c8,c9,c10,c11,c12,c13,c14,c15] T (0,0))→Chg (fun k=>k=g) w w'→w'.heap.size=w.heap.size→K a w'):o.wp P a w K Q:=FB hdst ty x y ho g 1 v0 hx hy hg (by simp) hv hsz (fun w' e=>h w' (by simpa using e))
theorem Hb (hdst:o.dst=none) (ty:TypeId) (x y:Operand) (ho:o.op=.store ty x y)
 (g:Nat) (v0 v1 v2 v3 v4 c0 c1 c2 c3 c4 c5 c6 c7 c8 c9 c10 c11 c12 c13 c14 c15:Value) (hx:a.eval x=.pointer (some ⟨g,2,none⟩)) (hy:a.eval y=.agg #[v0,v1,v2,v3,v4]) {T:TypeId} (hg:w.heap[g]?=some (.cells #[c0,c1,c2,c3,c4,c5,c6,c7,c8,c9,c10,c11,c12,c13,c14,c15] T (0,0))) (hi:(P.info? ty).map (·.size)=some 5) (h1:(#[v0,v1,v2,v3,v4]:Array Value).all (·.oneCell')=true)
 (h:∀w',w'.heap[g]?=some (.cells #[c0,c1,v0,v1,v2,v3,v4,c7,c8,c9,c10,c11,c12,c13,c14,c15] T (0,0))→Chg (fun k=>k=g) w w'→w'.heap.size=w.heap.size→K a w'):o.wp P a w K Q:=Kk hdst ty x y ho g 2 #[v0,v1,v2,v3,v4] hx hy hg (by simp) hi h1 (fun w' e=>h w' (by simpa[I9]using e))
theorem Hc (hdst:o.dst=none) (ty:TypeId) (x y:Operand) (ho:o.op=.store ty x y)
 (g:Nat) (v0 v1 v2 v3 v4 v5 v6 v7 c0 c1 c2 c3 c4 c5 c6 c7 c8 c9 c10 c11 c12 c13 c14 c15:Value) (hx:a.eval x=.pointer (some ⟨g,7,none⟩)) (hy:a.eval y=.agg #[v0,v1,v2,v3,v4,v5,v6,v7]) {T:TypeId} (hg:w.heap[g]?=some (.cells #[c0,c1,c2,c3,c4,c5,c6,c7,c8,c9,c10,c11,c12,c13,c14,c15] T (0,0))) (hi:(P.info? ty).map (·.size)=some 8) (h1:(#[v0,v1,v2,v3,v4,v5,v6,v7]:Array Value).all (·.oneCell')=true)
 (h:∀w',w'.heap[g]?=some (.cells #[c0,c1,c2,c3,c4,c5,c6,v0,v1,v2,v3,v4,v5,v6,v7,c15] T (0,0))→Chg (fun k=>k=g) w w'→w'.heap.size=w.heap.size→K a w'):o.wp P a w K Q:=Kk hdst ty x y ho g 7 #[v0,v1,v2,v3,v4,v5,v6,v7] hx hy hg (by simp) hi h1 (fun w' e=>h w' (by simpa[I9]using e))
structure WX (w W:World) (x b:Nat) (S:DS) (P Q:Nat→Prop) (n:Nat) (jp dv jv:Value):Prop where
 below:Below w.heap.size w W
 blk:∃v0 v1 v2 v3 v4 j0 j1 j2 j3 j4 j5 j6 j7,dv=.agg #[v0,v1,v2,v3,v4]∧jv=.agg #[j0,j1,j2,j3,j4,j5,j6,j7]∧W.heap[x]?=some (.cells #[.pointer (some ⟨b,0,none⟩),jp,v0,v1,v2,v3,v4,j0,j1,j2,j3,j4,j5,j6,j7,.int .i64 n] 43 (0,0))
 dev:∃F,DiskAt W F b S∧∀k,F k→P k
 ref:RefD W Q S dv
 jf:Fx jv
 px:¬P x
 qx:¬Q x
 pq:∀k,P k→¬Q k
 plo:∀k,P k→w.heap.size≤k
 phi:∀k,P k→k<W.heap.size
 qhi:∀k,Q k→k<W.heap.size
 xlo:w.heap.size≤x
def WS (w W:World) (x b:Nat) (S:DS) (R:JR):Option (Nat×JD)→Prop
 |none=>∃P Q dv jv,WX w W x b S P Q R.cnt (.pointer none) dv jv
 |some (g,J)=>∃P Q dv jv,WX w W x b S P Q R.cnt (.pointer (some ⟨g,0,none⟩)) dv jv∧JAll w W P b g S R J∧RefJ W Q R J jv
theorem WX.lit {x:Nat}{P Q:Nat→Prop}{jp:Value} (h:WX w W x b S P Q n jp dv jv):
 ∃(da:Option Addr) (dn dc:Nat) (dd:Option Addr) (dm de:Nat) (dl:Int) (db:Bool) (dz:Int) (a0 a1 a2 a3 a4:Int) (a5:Option Addr) (a6 a7:Nat) (a8 a9:Int),dv=.agg #[.slice da dn dc,.slice dd dm de,.int .i64 dl,.bool db,.int .i64 dz]∧jv=.agg #[.int .i64 a0,.int .i64 a1,.int .i64 a2,.int .i64 a3,.int .i64 a4,.slice a5 a6 a7,.int .i64 a8,.int .i64 a9]∧W.heap[x]?=some (.cells #[.pointer (some ⟨b,0,none⟩),jp,.slice da dn dc,.slice dd dm de,.int .i64 dl,.bool db,.int .i64 dz,.int .i64 a0,.int .i64 a1,.int .i64 a2,.int .i64 a3,.int .i64 a4,.slice a5 a6 a7,.int .i64 a8,.int .i64 a9,.int .i64 n] 43 (0,0)):=by
 obtain⟨v0,v1,v2,v3,v4,j0,j1,j2,j3,j4,j5,j6,j7,rfl,rfl,hx⟩:=h.blk;obtain⟨da,dn,dc,dd,dm,de,dl,db,dz,e1⟩:=h.ref.form;obtain⟨a0,a1,a2,a3,a4,a5,a6,a7,a8,a9,e2⟩:=h.jf;cases e1;cases e2;exact⟨da,dn,dc,dd,dm,de,dl,db,dz,a0,a1,a2,a3,a4,a5,a6,a7,a8,a9,rfl,rfl,hx⟩
theorem WX.kat {x:Nat}{P Q:Nat→Prop}{jp:Value} (h:WX w W x b S P Q n jp dv jv) (hK:KAt w):KAt W∧¬P 0:=⟨KAt.below hK h.below hK.size,fun e=>by have:=h.plo _ e;have:=hK.size;omega⟩
theorem WX.step {W':World}{x:Nat}{P Q:Nat→Prop}{jp:Value} (h:WX w W x b S P Q n jp dv jv) (hb:Below W.heap.size W W'):WX w W' x b S P Q n jp dv jv:=by obtain⟨v0,v1,v2,v3,v4,j0,j1,j2,j3,j4,j5,j6,j7,e1,e2,hx⟩:=h.blk;obtain⟨F,hF,hP⟩:=h.dev;have h0:=h.below.size;exact⟨h.below.trans (hb.mono h0),⟨v0,v1,v2,v3,v4,j0,j1,j2,j3,j4,j5,j6,j7,e1,e2,Bq hb hx⟩,⟨F,hF.below hb,hP⟩,h.ref.below hb,h.jf,h.px,h.qx,h.pq,h.plo,fun k hk=>Nl (h.phi k hk) hb.size,fun k hk=>Nl (h.qhi k hk) hb.size,h.xlo⟩
theorem WS.step {W':World}{x:Nat}{j:Option (Nat×JD)} (h:WS w W x b S R j) (hb:Below W.heap.size W W'):WS w W' x b S R j:=by
 cases j with
 |none=>obtain⟨P,Q,dv,jv,h1⟩:=h;exact⟨P,Q,dv,jv,h1.step hb⟩
 |some p=>obtain⟨P,Q,dv,jv,h1,h2,h3⟩:=h;exact⟨P,Q,dv,jv,h1.step hb,h2.step hb,h3.below hb⟩
theorem WS.below {x:Nat}{j:Option (Nat×JD)} (h:WS w W x b S R j):Below w.heap.size w W:=by
 cases j with
 |none=>obtain⟨P,Q,dv,jv,h1⟩:=h;exact h1.below
 |some p=>obtain⟨P,Q,dv,jv,h1,_⟩:=h;exact h1.below
structure Ln (S:DS) (R:JR):Prop where
 len:S.dur.length=48
 rng:R.at_+R.cnt≤48
theorem Ln.half (h:Ln S R):R.half≤24:=by have:=h.rng;unfold JR.half;omega
theorem Rd (h:Ln S R) (h0:(openR S R).2.1=0):(openR S R).2.2.first+(openR S R).2.2.ents.length≤2147483700:=by
 unfold openR at h0⊢;cases hx:BW S R with
 |none=>rw[hx]at h0;simp at h0
 |some x=>
  rw[hx]at h0;obtain⟨e1,e2⟩:=Gt _ _ _ _ _ h0;have h1:=I0 hx;have h2:=(Fg hx).size;have h3:=BQ x.ents;have h4:=h.half;simp only at e1 e2⊢;rw[e1,e2];omega
def OpU (w W:World) (P:Nat→Prop) (b:Nat) (R:JR) (Z:DS×Int×JD) (e:Ending) (W':World):Prop:=
 ∃(pa la:Option Addr) (ln lc:Nat) (P':Nat→Prop),e=.returned (.tuple #[.pointer pa,.slice la ln lc,.int .i64 Z.2.1])∧Chg P W W'∧(∀k,P' k→(P k∨W.heap.size≤k)∧k<W'.heap.size)∧(∃F,DiskAt W' F b Z.1∧∀k,F k→P' k)∧
  (Z.2.1≠0→pa=none∧ln=0)∧(Z.2.1=0→∃g N,pa=some ⟨g,0,none⟩∧JAll w W' P' b g Z.1 R Z.2.2∧NumsAt W' N (.slice la ln lc) Z.2.2.first Z.2.2.ents∧∀k,N k→W.heap.size≤k)
theorem O2 {P:Nat→Prop} (hK:KAt w) (hB:Below w.heap.size w W) (hF:DiskAt W F b S) (hFP:∀k,F k→P k) (hlo:∀k,P k→w.heap.size≤k) (hD:Ln S R) (h8:8≤R.cnt) (hd:S.down=false) (hroom:Roomy S 1000):
 Ca 16 #[.pointer (some ⟨b,0,none⟩),.int .i64 (R.at_:Int),.int .i64 (R.cnt:Int)] W (OpU w W P b R (openR S R)):=by
 have hr:R.at_+R.cnt≤S.dur.length:=by rw[hD.len];exact hD.rng
 have hKW:=KAt.below hK hB hK.size;unfold openR;cases hx:BW S R with
 |none=>
  have hp:=hroom.pend;refine(OH hF hKW R.at_ R.cnt h8 hr hd (by omega) hx).mono ?_;rintro e W' ⟨rfl,hb⟩;refine⟨none,none,0,0,fun k=>F k∧k<W.heap.size,rfl,Cb hb,fun k hk=>⟨.inl (hFP k hk.1),Nl hk.2 hb.size⟩,⟨_,hF.bound.below hb,fun k hk=>hk⟩,fun _=>⟨rfl,rfl⟩,fun e=>by simp at e⟩
 |some x=>
  have hf:=Fg hx;have hh:=hD.half;have hs:=hf.size;refine(KR hF hKW (fun e=>by have h1:=hlo _ (hFP _ e);have h2:=hK.size;omega) R.at_ R.cnt h8 hr hd x hx (hf.lim (by omega)) (by omega) (hroom.less (by omega))).mono ?_;intro e W' hp;show OpU w W P b R (moveJ S R (1-x.gen%2) x.first x.ents) e W';by_cases h0:(moveJ S R (1-x.gen%2) x.first x.ents).2.1=0
  ·obtain⟨g,N,lv,rfl,k1,k2,k3,k4⟩:=Mp hB hFP hlo hp h0;obtain⟨la,lc,rfl⟩:=k2.form;have k5:=k1.tight;obtain⟨F2,G2,k6,k7,k8⟩:=k5.st;refine⟨_,_,_,_,_,by rw[h0],k4,fun k hk=>⟨hk.1.imp id (fun h=>h.1),hk.2⟩,⟨F2,k6.dev,k7⟩,fun h=>absurd h0 h,fun _=>⟨g,N,rfl,k5,k2,fun k hk=>(k3 k hk).1⟩⟩
  ·obtain⟨F',h1,h2,h3,h4,_⟩:=hp;obtain rfl :=h4 h0;exact⟨none,none,0,0,F',rfl,h3.mono hFP,fun k hk=>⟨(h2 k hk).1.imp (hFP k) id,(h2 k hk).2⟩,⟨F',h1,fun k hk=>hk⟩,fun _=>⟨rfl,rfl⟩,fun h=>absurd h h0⟩
theorem Ir {x:Nat}{P Q:Nat→Prop}{jp:Value} (hK:KAt w) (h:WX w W x b S P Q R.cnt jp dv jv) (hD:Ln S R) (h3:R.at_=3) (h8:8≤R.cnt) (hd:S.down=false) (hroom:Roomy S 911000000):
 Ca 12 #[.pointer (some ⟨x,0,none⟩)] W fun e W'=>e=.returned (.bool true)∧∃g,WS w W' x b (openR S R).1 R (if(openR S R).2.1=0 then some (g,(openR S R).2.2)else none):=by
 obtain⟨da,dn,dc,dd,dm,de,dl,db,dz,a0,a1,a2,a3,a4,a5,a6,a7,a8,a9,rfl,rfl,hx⟩:=h.lit;obtain⟨F,hF,hFP⟩:=h.dev;have hJO:=fun(V:World) (hV:Below W.heap.size W V)=>O2 hK (Tq h.below hV) (hF.below hV) hFP h.plo hD h8 hd (hroom.less (by omega))
 have hRO:=fun(V:World) (hV:Chg P W V)=>Nn (h.ref.kept hV (fun k h1 h2=>h.pq k h2 h1)) R h8 (by rw[hD.len];exact hD.rng) (by rw[hD.len];omega) hd (fun x hx=>Fg hx) (hroom.less (by omega))
 have hfs:=Rd hD;obtain⟨Z,hZ⟩:=Xq (openR S R);rw[hZ]at hJO hRO hfs⊢;rw[h3]at hJO hRO;obtain⟨n,hn⟩:=Xq (R.cnt);rw[hn]at hJO hRO hx;obtain⟨Z1,er,Z2⟩:=Z;simp only at hfs hJO hRO⊢;obtain⟨HJO,HRO,HN,HXW,HWX,HFS⟩:=Hd6 hJO hRO hn hx h hfs;have HCE:=Hd (fun w' (hw':Chg P W w')=>by have h1:=((hw'.block x (Ax hx).1 HWX.out.px).trans hx);exact Dq2 (Cq h1 0) (Cq h1 15));clear hJO hRO hZ hn hx h hF hFP hD hroom hfs hd h3 h8;go_enter Tryz.func12,Tryz.ntmps12;go_upto_region 1 with(fail)
 refine bH P ?_;intro wd hd0 hS0;refine tkH 0 hS0 ?_;refine tkH 1 hS0 ?_;refine tkH 2 hS0 ?_;refine AD 3 HCE.out hS0 ?_;refine tkH 4 hS0 ?_;refine tkH 5 hS0 ?_;refine tkH 6 hS0 ?_;refine AD 7 HCE.out hS0 ?_;refine dH 8 fun K hK=>?_
 go_simp;go_at_call 16;refine(HJO.out wd hd0).mono ?_;rintro e W1 ⟨pa,la,ln,lc,P',rfl,hc1,hP',hdv,hno,hyes⟩;have hS1:Chg P W W1:=(Cb (F:=P) hd0).trans hc1 (fun _ h=>.inl h);have hwdW:=hd0.size;have hwd1:=hc1.size;refine Kq hK (hS1) ?_;refine tkH 9 hS1 ?_;refine tkH 10 hS1 ?_;refine tkH 11 hS1 ?_;refine tkH 12 hS1 ?_;refine tkH 13 hS1 ?_;refine tkH 14 hS1 ?_;refine tkH 15 hS1 ?_;refine eH ?_;have HX1:=Hd ((hS1.block x (Ax HXW.out).1 HWX.out.px).trans HXW.out);have HQW:=Hd (show∀k,Q k→k<W1.heap.size from fun k hk=>Nl (HWX.out.qhi k hk) hS1.size);have HC2:=Hd (fun w' (hw':Below W1.heap.size W1 w')=>by have h1:=(Bq hw' HX1.out);exact Dq7 (Cq h1 0) (Cq h1 2) (Cq h1 3) (Cq h1 4) (Cq h1 5) (Cq h1 6) (Cq h1 15));clear hd0 hS0 hc1 HCE HJO;go_upto_region 2 with(fail)
 refine CC (fun a0_ a' w'=>∃(p6 p7:Nat) (fa:Option Addr) (fn fc:Nat) (fd:Option Addr) (fm fe:Nat) (fl:Int) (fb:Bool) (fz:Int) (b0 b1 b2 b3 b4:Int) (b5:Option Addr) (b6 b7:Nat) (b8 b9:Int) (v22 v23 v24 v25 v26 v27 v28 v29 v30 v31 v32 v33 v34:Value),a'=((((((((((((((((a0_.put (some 6) (.pointer (some ⟨p6,0,none⟩))).put (some 7) (.pointer (some ⟨p7,0,none⟩))).put (some 8) (.int .i64 er)).put (some 22) v22).put (some 23) v23).put (some 24) v24).put (some 25) v25).put (some 26) v26).put (some 27) v27).put (some 28) v28).put (some 29) v29).put (some 30) v30).put (some 31) v31).put (some 32) v32).put (some 33) v33).put (some 34) v34)∧w'.heap[p6]?=some (.cells #[.slice fa fn fc,.slice fd fm fe,.int .i64 fl,.bool fb,.int .i64 fz] 39 (0,0))∧w'.heap[p7]?=some (.cells #[.int .i64 b0,.int .i64 b1,.int .i64 b2,.int .i64 b3,.int .i64 b4,.slice b5 b6 b7,.int .i64 b8,.int .i64 b9] 41 (0,0))∧W1.heap.size≤p6∧W1.heap.size≤p7∧Below W1.heap.size W1 w'∧RefD w' (fun k=>Q k∨W1.heap.size≤k) Z1 (.agg #[.slice fa fn fc,.slice fd fm fe,.int .i64 fl,.bool fb,.int .i64 fz])∧(er=0→RefJ w' (fun k=>Q k∨W1.heap.size≤k) R Z2 (.agg #[.int .i64 b0,.int .i64 b1,.int .i64 b2,.int .i64 b3,.int .i64 b4,.slice b5 b6 b7,.int .i64 b8,.int .i64 b9]))) ?_ ?_
 ·refine bG [15,16,17] ?_;intro V0 hd0;have e0:=hd0.size;have hT0:=hd0;try simp only[P0,P1,P2,P3,P4];refine tkP 0 hT0 ?_;refine tkP 1 hT0 ?_;refine tkP 2 hT0 ?_;refine BV 3 HC2.out hT0 ?_;refine tkP 4 hT0 ?_;refine tkP 5 hT0 ?_;refine tkP 6 hT0 ?_;refine BV 7 HC2.out hT0 ?_;refine DJ (i:=8) (j:=13) (l:=14) (by kernel_rfl) rfl rfl rfl rfl rfl rfl (fun K hK=>?b1) (fun K hK=>?b2) (fun K hK=>?b3)
  case' b1=>
   go_simp;go_at_call 36;refine(HRO.out V0 (hS1.trans (Cb hT0) (fun _ h=>.inl h))).mono ?_;rintro e V1 ⟨v',jv,rfl,hrd,hb1,⟨b0,b1,b2,b3,b4,b5,b6,b7,b8,b9,rfl⟩,hrj⟩;obtain⟨fa,fn,fc,fd,fm,fe,fl,fb,fz,rfl⟩:=hrd.form;have hT1:=Tq hT0 hb1;have e1:=hb1.size;refine Kq hK hT1 ?_;refine tkP 9 hT1 ?_;refine tkP 10 hT1 ?_;refine tkP 11 hT1 ?_;refine tkP 12 hT1 ?_;refine A4 (i:=13) (j:=14) (by kernel_rfl) rfl rfl rfl rfl (fun K hK=>?b4) (fun K hK=>?b5)
   case' b4=>
    refine AB rfl 39 rfl Zd 5 (by kernel_rfl) ?_;intro V2 p13 hx13 hb2 hz13;have HZ13:=Hd hz13;clear hz13;have hT2:=Tq hT1 hb2;have e2:=hb2.size;refine Kq hK hT2 ?_;refine dG 14 fun K hK=>?_
    refine AB rfl 41 rfl Zj 8 (by kernel_rfl) ?_;intro V3 p14 hx14 hb3 hz14;have HZ14:=Hd hz14;clear hz14;have hT3:=Tq hT2 hb3;have e3:=hb3.size;have hx13:=Bq hb3 hx13;refine Kq hK hT3 ?_;have hbc8:=(Tq hb2 hb3)
   case' b5=>
    refine AB rfl 41 rfl Zj 8 (by kernel_rfl) ?_;intro V2 p14 hx14 hb2 hz14;have HZ14:=Hd hz14;clear hz14;have hT2:=Tq hT1 hb2;have e2:=hb2.size;refine Kq hK hT2 ?_;refine dG 13 fun K hK=>?_
    refine AB rfl 39 rfl Zd 5 (by kernel_rfl) ?_;intro V3 p13 hx13 hb3 hz13;have HZ13:=Hd hz13;clear hz13;have hT3:=Tq hT2 hb3;have e3:=hb3.size;have hx14:=Bq hb3 hx14;refine Kq hK hT3 ?_;have hbc8:=(Tq hb2 hb3)
  case' b2=>
   refine AB rfl 39 rfl Zd 5 (by kernel_rfl) ?_;intro V1 p13 hx13 hb1 hz13;have HZ13:=Hd hz13;clear hz13;have hT1:=Tq hT0 hb1;have e1:=hb1.size;refine Kq hK hT1 ?_;refine A4 (i:=8) (j:=14) (by kernel_rfl) rfl rfl rfl rfl (fun K hK=>?b6) (fun K hK=>?b7)
   case' b6=>
    go_simp;go_at_call 36;refine(HRO.out V1 (hS1.trans (Cb hT1) (fun _ h=>.inl h))).mono ?_;rintro e V2 ⟨v',jv,rfl,hrd,hb2,⟨b0,b1,b2,b3,b4,b5,b6,b7,b8,b9,rfl⟩,hrj⟩;obtain⟨fa,fn,fc,fd,fm,fe,fl,fb,fz,rfl⟩:=hrd.form;have hT2:=Tq hT1 hb2;have e2:=hb2.size;have hx13:=Bq hb2 hx13;refine Kq hK hT2 ?_;refine tkP 9 hT2 ?_;refine tkP 10 hT2 ?_;refine tkP 11 hT2 ?_;refine tkP 12 hT2 ?_;refine dG 14 fun K hK=>?_
    refine AB rfl 41 rfl Zj 8 (by kernel_rfl) ?_;intro V3 p14 hx14 hb3 hz14;have HZ14:=Hd hz14;clear hz14;have hT3:=Tq hT2 hb3;have e3:=hb3.size;have hx13:=Bq hb3 hx13;refine Kq hK hT3 ?_;have hbc8:=hb3
   case' b7=>
    refine AB rfl 41 rfl Zj 8 (by kernel_rfl) ?_;intro V2 p14 hx14 hb2 hz14;have HZ14:=Hd hz14;clear hz14;have hT2:=Tq hT1 hb2;have e2:=hb2.size;have hx13:=Bq hb2 hx13;refine Kq hK hT2 ?_;refine dG 8 fun K hK=>?_
    go_simp;go_at_call 36;refine(HRO.out V2 (hS1.trans (Cb hT2) (fun _ h=>.inl h))).mono ?_;rintro e V3 ⟨v',jv,rfl,hrd,hb3,⟨b0,b1,b2,b3,b4,b5,b6,b7,b8,b9,rfl⟩,hrj⟩;obtain⟨fa,fn,fc,fd,fm,fe,fl,fb,fz,rfl⟩:=hrd.form;have hT3:=Tq hT2 hb3;have e3:=hb3.size;have hx13:=Bq hb3 hx13;have hx14:=Bq hb3 hx14;refine Kq hK hT3 ?_;refine tkP 9 hT3 ?_;refine tkP 10 hT3 ?_;refine tkP 11 hT3 ?_;refine tkP 12 hT3 ?_;have hbc8:=(Below.refl V3.heap.size V3)
  case' b3=>
   refine AB rfl 41 rfl Zj 8 (by kernel_rfl) ?_;intro V1 p14 hx14 hb1 hz14;have HZ14:=Hd hz14;clear hz14;have hT1:=Tq hT0 hb1;have e1:=hb1.size;refine Kq hK hT1 ?_;refine A4 (i:=8) (j:=13) (by kernel_rfl) rfl rfl rfl rfl (fun K hK=>?b8) (fun K hK=>?b9)
   case' b8=>
    go_simp;go_at_call 36;refine(HRO.out V1 (hS1.trans (Cb hT1) (fun _ h=>.inl h))).mono ?_;rintro e V2 ⟨v',jv,rfl,hrd,hb2,⟨b0,b1,b2,b3,b4,b5,b6,b7,b8,b9,rfl⟩,hrj⟩;obtain⟨fa,fn,fc,fd,fm,fe,fl,fb,fz,rfl⟩:=hrd.form;have hT2:=Tq hT1 hb2;have e2:=hb2.size;have hx14:=Bq hb2 hx14;refine Kq hK hT2 ?_;refine tkP 9 hT2 ?_;refine tkP 10 hT2 ?_;refine tkP 11 hT2 ?_;refine tkP 12 hT2 ?_;refine dG 13 fun K hK=>?_
    refine AB rfl 39 rfl Zd 5 (by kernel_rfl) ?_;intro V3 p13 hx13 hb3 hz13;have HZ13:=Hd hz13;clear hz13;have hT3:=Tq hT2 hb3;have e3:=hb3.size;have hx14:=Bq hb3 hx14;refine Kq hK hT3 ?_;have hbc8:=hb3
   case' b9=>
    refine AB rfl 39 rfl Zd 5 (by kernel_rfl) ?_;intro V2 p13 hx13 hb2 hz13;have HZ13:=Hd hz13;clear hz13;have hT2:=Tq hT1 hb2;have e2:=hb2.size;have hx14:=Bq hb2 hx14;refine Kq hK hT2 ?_;refine dG 8 fun K hK=>?_
    go_simp;go_at_call 36;refine(HRO.out V2 (hS1.trans (Cb hT2) (fun _ h=>.inl h))).mono ?_;rintro e V3 ⟨v',jv,rfl,hrd,hb3,⟨b0,b1,b2,b3,b4,b5,b6,b7,b8,b9,rfl⟩,hrj⟩;obtain⟨fa,fn,fc,fd,fm,fe,fl,fb,fz,rfl⟩:=hrd.form;have hT3:=Tq hT2 hb3;have e3:=hb3.size;have hx14:=Bq hb3 hx14;have hx13:=Bq hb3 hx13;refine Kq hK hT3 ?_;refine tkP 9 hT3 ?_;refine tkP 10 hT3 ?_;refine tkP 11 hT3 ?_;refine tkP 12 hT3 ?_;have hbc8:=(Below.refl V3.heap.size V3)
  all_goals
   have hne:¬p14=p13:=by have h1:=HZ13.out;have h2:=HZ14.out;omega
   refine dGf 15 fun K hK=>?_
   refine Pv 39 6 32 p13 hx13 ?_;intro U1 xp13 cp13 sp13;have hx14:=Ck cp13 hx14;refine Kr hK ?_;refine dGf 16 fun K hK=>?_
   refine Pv 41 7 33 p14 hx14 ?_;intro U2 xp14 cp14 sp14;refine Kr hK ?_;refine dGf 17 fun K hK=>?_
   go_simp;refine Kr hK ?_;refine eG ?_;have hz13:=HZ13.out;have hz14:=HZ14.out;have x13:=Ck cp14 xp13;have hcc:=(cp13.mono (G:=fun k=>k=p13∨k=p14) (fun k e=>.inl e)).trans (cp14.mono (G:=fun k=>k=p13∨k=p14) (fun k e=>.inr e)) (fun k e=>.inl e);have hcW:=(Cb (F:=fun k=>k=p13∨k=p14) hbc8).trans hcc (fun _ e=>.inl e);have hQ:=HQW.out;exact⟨rfl,p13,p14,_,_,_,_,_,_,_,_,_,_,_,_,_,_,_,_,_,_,_,_,_,_,_,_,_,_,_,_,_,_,_,_,rfl,x13,xp14,by omega,by omega,hT3.trans (hcc.below (fun k e=>by omega) hT3.size),(hrd.bound.kept hcW (fun k h e=>by rcases h with⟨h|h,h2⟩<;>rcases e with e|e<;>first|omega | (have:=hQ k h;omega))).mono (fun k h=>h.1.imp id (fun h=>by omega)),fun h0=>((hrj h0).kept hcW (fun k h2 h e=>by rcases h with h|h<;>first|exact h.elim| (rcases e with e|e<;>omega))).mono (fun k _ h=>h.elim (fun h=>h.elim) (fun h=>.inr (by omega)))⟩
 rintro a' V1 ⟨p6,p7,fa,fn,fc,fd,fm,fe,fl,fb,fz,b0,b1,b2,b3,b4,b5,b6,b7,b8,b9,v22,v23,v24,v25,v26,v27,v28,v29,v30,v31,v32,v33,v34,rfl,hx6,hx7,hp6,hp7,hb1,hrd,hrj⟩
 try simp only[P0,P1,P2,P3,P4]
 have HXV:=Hd (Bq hb1 HX1.out);have hxs:=(Ax HX1.out).1;have HC3:=Hd (fun w' (hw':Chg (fun k=>k=x) V1 w')=>by have h1:=(Ck hw' hx6);have h2:=(Ck hw' hx7);exact Dq13 (Cq h1 0) (Cq h1 1) (Cq h1 2) (Cq h1 3) (Cq h1 4) (Cq h2 0) (Cq h2 1) (Cq h2 2) (Cq h2 3) (Cq h2 4) (Cq h2 5) (Cq h2 6) (Cq h2 7));have hxk0:=HXV.out;clear HC2 HRO;go_upto_region 3 with(fail)
 refine bH (fun k=>k=x) ?_;intro wd hd0 hS0;refine tkH 0 hS0 ?_;refine tkH 1 hS0 ?_;refine tkH 2 hS0 ?_;refine tkH 3 hS0 ?_;refine AD 4 HC3.out hS0 ?_;refine AD 5 HC3.out hS0 ?_;refine tkH 6 hS0 ?_;refine tkH 7 hS0 ?_;refine dH 8 fun K hK=>?_
 refine Rc rfl 35 (.tmp 42) (.tmp 38) rfl x _ _ _ _ _ _ _ _ _ _ _ _ _ _ _ _ _ rfl rfl (Bq hd0 hxk0) rfl (by kernel_rfl) ?_;intro B1 hxk1 c1 s1;have hS11:Chg (fun k=>k=x) V1 B1:=hS0.trans c1 (fun k e=>.inl e);refine Kq hK (hS11) ?_;have hS0:=hS11;refine tkH 9 hS0 ?_;refine tkH 10 hS0 ?_;refine dH 11 fun K hK=>?_
 refine Hb rfl 39 (.tmp 44) (.tmp 39) rfl x _ _ _ _ _ _ _ _ _ _ _ _ _ _ _ _ _ _ _ _ _ rfl rfl hxk1 (by kernel_rfl) (by kernel_rfl) ?_;intro B2 hxk2 c2 s2;have hS12:Chg (fun k=>k=x) V1 B2:=hS0.trans c2 (fun k e=>.inl e);refine Kq hK (hS12) ?_;have hS0:=hS12;refine tkH 12 hS0 ?_;refine tkH 13 hS0 ?_;refine dH 14 fun K hK=>?_
 refine Hc rfl 41 (.tmp 46) (.tmp 40) rfl x _ _ _ _ _ _ _ _ _ _ _ _ _ _ _ _ _ _ _ _ _ _ _ _ rfl rfl hxk2 (by kernel_rfl) (by kernel_rfl) ?_;intro B3 hxk3 c3 s3;have hS13:Chg (fun k=>k=x) V1 B3:=hS0.trans c3 (fun k e=>.inl e);refine Kq hK (hS13) ?_;have hS0:=hS13;refine eH ?_;have hW1:=HXW.out;have hxW:=(Ax hW1).1;have hsW:=hS1.size;have HBB:=Hd (show Below w.heap.size w B3 from((HWX.out.below.trans (hS1.below HWX.out.plo HWX.out.below.size)).trans (hb1.mono (Nt HWX.out.below.size hsW))).trans (hS13.below (fun k e=>by rw[e];exact HWX.out.xlo) (Nt HWX.out.below.size (Nt hsW hb1.size))));have hPx:∀k,P' k→¬k=x:=fun k hk e=>by subst e;rcases(hP' _ hk).1 with h|h;exact HWX.out.px h;omega
 have HWB:=Hd (show WX w B3 x b Z1 P' (fun k=>(Q k∨W1.heap.size≤k)∧k<V1.heap.size) n (.pointer pa) (.agg #[.slice fa fn fc,.slice fd fm fe,.int .i64 fl,.bool fb,.int .i64 fz]) (.agg #[.int .i64 b0,.int .i64 b1,.int .i64 b2,.int .i64 b3,.int .i64 b4,.slice b5 b6 b7,.int .i64 b8,.int .i64 b9])from
  ⟨HBB.out,⟨_,_,_,_,_,_,_,_,_,_,_,_,_,rfl,rfl,hxk3⟩,hdv.elim fun F2 h2=>⟨F2,(h2.1.below hb1).chg hS13 (fun k h e=>hPx k (h2.2 k h) e),h2.2⟩,hrd.bound.kept hS13 (fun k h e=>by subst e;rcases h.1 with h1|h1;exact HWX.out.qx h1;omega),⟨_,_,_,_,_,_,_,_,_,_,rfl⟩,fun h=>hPx x h rfl,fun h=>h.1.elim HWX.out.qx (fun h=>by omega),
   fun k h1 h2=>by
    have h3:=hP' k h1;rcases h2.1 with h4|h4
    ·rcases h3.1 with h5|h5
     ·exact HWX.out.pq k h5 h4
     ·have:=HWX.out.qhi k h4;omega
    ·omega,fun k hk=>(hP' k hk).1.elim (HWX.out.plo k) (fun h=>Nt HWX.out.below.size (Nt hwdW h)),fun k hk=>Nl (hP' k hk).2 (Nt hb1.size hS13.size),fun k hk=>Nl hk.2 hS13.size,HWX.out.xlo⟩)
 obtain⟨HRJ,HJA,HB1B,HS13,HNO⟩:=Hd5 (fun h0=>((hrj h0).mono (G':=fun k=>(Q k∨W1.heap.size≤k)∧k<V1.heap.size) (fun k hk h=>⟨h,hk⟩)).kept hS13 (fun k _ h e=>by subst e;rcases h.1 with h|h;exact HWX.out.qx h;omega)) (fun h0=>(hyes h0).elim fun g hg=>hg.elim fun N hN=>(show∃g N,pa=some ⟨g,0,none⟩∧JAll w B3 P' b g Z1 R Z2∧NumsAt B3 N (.slice la ln lc) Z2.first Z2.ents from⟨g,N,hN.1,(hN.2.1.step hb1).chg hS13 (fun k _ e h=>hPx k h e) (fun k e=>by rw[e];exact HWX.out.xlo),(hN.2.2.1.below hb1).chg hS13 (fun k _ h e=>by have:=hN.2.2.2 k h;omega)⟩)) hb1 hS13 hno;obtain⟨_,_,_,_,_,z0,z1,z2,z3,z4,z5,z6,z7⟩:=HC3.out B3 hS13;clear hS13 hS12 hS11 hS0 hd0 hxk0 hxk1 hxk2 hxk3 c1 c2 c3 s1 s2 s3 hdv hrd hrj hyes hno hP' hPx hb1 hS1 hx6 hx7 HC3 hW1;by_cases h0:er=0
 ·obtain⟨g,N,hpa,hja,hnum⟩:=HJA.out h0;subst hpa;have HEN:=Hd (No hnum (HRJ.out h0) (by have:=HFS.out h0;omega));have HRW:=Hd (show WS w B3 x b Z1 R (some (g,Z2))from⟨_,_,_,_,HN.out.symm▸HWB.out,hja,HRJ.out h0⟩);subst h0;clear hja hnum;go_wp2_with fail;go_upto_region 6 with(fail)
  go_wp2_with (go_at_call 37;refine(HEN.out).mono ?_;rintro e W4 ⟨rfl,hb4⟩)
  exact Bv (.bool true) ⟨rfl,g,HRW.out.step hb4⟩
 ·obtain⟨hpa,hln⟩:=HNO.out h0;subst hpa hln;have HRW:=Hd (show WS w B3 x b Z1 R none from⟨_,_,_,_,HN.out.symm▸HWB.out⟩);have hd1:(er !=0)=true:=by simpa using h0
  go_wp2_with fail;go_upto_region 6 with(fail)
  go_wp2_with fail;exact Bv (.bool true) (by first|exact⟨rfl,HRW.out⟩|exact⟨rfl,0,by rw[In h0];exact HRW.out⟩)
variable {g:Nat}{J:JD}
section
variable {w W:World} {U:Nat→Prop} {b g t:Nat} {S:DS} {R:JR} {J:JD} {o:Option (Nat×JD)}
theorem SA (h:JAll w W U b g S R J) (hK:KAt w) (hi:WInv S R (some (g,J)) t) (ht:t≤100) {bv:Value} {l:List UInt8} {D:Nat→Prop} (hv:BytesN W D bv l) (hD:∀k,k<W.heap.size→D k→¬U k) (hl:l.length≤100000000):
 Ca 19 #[.pointer (some ⟨g,0,none⟩),bv] W fun e W'=>e=.returned (.tuple #[.int .i64 ((appJ S R J l).2.2.2:Int),.int .i64 (appJ S R J l).2.2.1])∧JAll w W' (fun k=>U k∨W.heap.size≤k) b g (appJ S R J l).1 R (appJ S R J l).2.1∧Chg U W W':=by
 obtain⟨F,G,h1,h2,h3⟩:=h.st;have hj:=hi.ji;have h4:=hj.nx;have h5:=hj.used;have h6:=hj.fit;have h7:=Cl hj.dev;have h8:=hi.c45;have h9:=hi.a3;refine(IT h1 (h.kat hK) (fun e=>h.k0 hK (h2 _ e)) hv (fun k hk hd=>⟨fun e=>hD k hk hd (h2 k e),fun e=>hD k hk hd (e▸h.ug)⟩) (by omega) (by rw[hj.dev.len];exact hj.dev.rng) (by omega) (by omega) (by omega) hj.gen (by omega) (by omega) (hi.room.less (by omega))).mono ?_;rintro e W' ⟨rfl,hp⟩;exact⟨rfl,h.post h2 h3 hp⟩
theorem SB (h:JAll w W U b g S R J) (hi:WInv S R (some (g,J)) t) (ht:t≤100):
 Ca 29 #[.pointer (some ⟨g,0,none⟩)] W fun e W'=>e=.returned (.int .i64 (synJ S J).2.2)∧JAll w W' (fun k=>U k∨W.heap.size≤k) b g (synJ S J).1 R (synJ S J).2.1∧Chg U W W':=by
 obtain⟨F,G,h1,h2,h3⟩:=h.st;have h4:=hi.ji.nx;refine(QZ h1 (by omega) (hi.room.less (by omega))).mono ?_;rintro e W' ⟨rfl,hp⟩;exact⟨rfl,h.post h2 h3 hp⟩
theorem SC (h:JAll w W U b g S R J) (hK:KAt w) (hi:WInv S R (some (g,J)) t) (ht:t≤100) (x:Int):
 Ca 20 #[.pointer (some ⟨g,0,none⟩),.int .i64 x] W fun e W'=>e=.returned (.int .i64 (trnJ S R J x).2.2)∧JAll w W' (fun k=>U k∨W.heap.size≤k) b g (trnJ S R J x).1 R (trnJ S R J x).2.1∧Chg U W W':=by
 obtain⟨F,G,h1,h2,h3⟩:=h.st;have hj:=hi.ji;have h4:=hj.nx;have h6:=hj.fit;have h7:=Cl hj.dev;refine(Ho h1 (h.kat hK) (fun e=>h.k0 hK (h2 _ e)) x (fun e=>by rcases hj.st with h|h;exact h.2;rw[e]at h;exact absurd h.1 (by decide)) (by rw[hj.dev.len];exact hj.dev.rng) (by omega) (fun b hb=>by have:=(hj.fitE (by omega)).len (by omega) b hb;omega) (by omega) (hi.room.less (by omega))).mono ?_;rintro e W' ⟨rfl,hp⟩;exact⟨rfl,h.post h2 h3 hp⟩
end
theorem WS.get {x:Nat}{j:Option (Nat×JD)} (h:WS w W x b S R j):∃P Q jp dv jv,WX w W x b S P Q R.cnt jp dv jv∧((j=none∧jp=.pointer none)∨∃g J,j=some (g,J)∧jp=.pointer (some ⟨g,0,none⟩)∧JAll w W P b g S R J∧RefJ W Q R J jv):=by
 cases j with
 |none=>obtain⟨P,Q,dv,jv,h1⟩:=h;exact⟨P,Q,_,dv,jv,h1,.inl ⟨rfl,rfl⟩⟩
 |some p=>obtain⟨P,Q,dv,jv,h1,h2,h3⟩:=h;exact⟨P,Q,_,dv,jv,h1,.inr ⟨p.1,p.2,rfl,rfl,h2,h3⟩⟩
theorem WX.next {W1 V B:World}{x:Nat}{S':DS}{J':JD}{P Q:Nat→Prop}{jp v0 v1 v2 v3 v4 j0 j1 j2 j3 j4 j5 j6 j7:Value} (h:WX w W x b S P Q n jp dv jv)
 (hj:JAll w W1 (fun k=>P k∨W.heap.size≤k) b g S' R J') (hc:Chg P W W1) (hb:Below W1.heap.size W1 V)
 (hr:RefD V (fun k=>Q k∨W1.heap.size≤k) S' (.agg #[v0,v1,v2,v3,v4])) (hrj:RefJ V (fun k=>Q k∨W1.heap.size≤k) R J' (.agg #[j0,j1,j2,j3,j4,j5,j6,j7]))
 (hc3:Chg (fun k=>k=x) V B) (hx:B.heap[x]?=some (.cells #[.pointer (some ⟨b,0,none⟩),.pointer (some ⟨g,0,none⟩),v0,v1,v2,v3,v4,j0,j1,j2,j3,j4,j5,j6,j7,.int .i64 (R.cnt:Int)] 43 (0,0))):WS w B x b S' R (some (g,J')):=by
 have h1:=h.below.size;have h2:=hc.size;have h3:=hb.size;have h9:=hc3.size;have hxW:x<W.heap.size:=by obtain⟨_,_,_,_,_,_,_,_,_,_,_,_,_,_,_,h4⟩:=h.blk;exact(Ax h4).1
 have hjt:=hj.tight;obtain⟨F,G,k1,k2,k3⟩:=hjt.st;have hb1:=h.below.trans (hc.below h.plo h1);have hb2:=Tq hb1 hb;have hb3:=hb2.trans (hc3.below (fun k e=>by rw[e];exact h.xlo) hb2.size);have hPx:∀k,(P k∨W.heap.size≤k)∧k<W1.heap.size→¬k=x:=fun k hk e=>by subst e;rcases hk.1 with h4|h4;exact h.px h4;omega
 refine⟨fun k=>(P k∨W.heap.size≤k)∧k<W1.heap.size,fun k=>(Q k∨W1.heap.size≤k)∧k<V.heap.size,.agg #[v0,v1,v2,v3,v4],.agg #[j0,j1,j2,j3,j4,j5,j6,j7],⟨hb3,⟨_,_,_,_,_,_,_,_,_,_,_,_,_,rfl,rfl,hx⟩,⟨F,(k1.dev.below hb).chg hc3 (fun k h4 e=>hPx k (k2 k h4) e),k2⟩,hr.bound.kept hc3 (fun k h4 e=>?_),hrj.jform,fun h4=>hPx x h4 rfl,fun h4=>?_,fun k h4 h5=>?_,fun k h4=>hjt.lo k h4,fun k h4=>by omega,fun k h4=>by omega,h.xlo⟩,(hjt.step hb).chg hc3 (fun k _ e h4=>hPx k h4 e) (fun k e=>by rw[e];exact h.xlo),(hrj.mono (fun k h4 h5=>⟨h5,h4⟩)).kept hc3 (fun k _ h4 e=>?_)⟩
 ·subst e;rcases h4.1 with h5|h5;exact h.qx h5;omega
 ·rcases h4.1 with h5|h5;exact h.qx h5;omega
 ·rcases h5.1 with h6|h6
  ·rcases h4.1 with h7|h7
   ·exact h.pq k h7 h6
   ·have:=h.qhi k h6;omega
  ·omega
 ·subst e;rcases h4.1 with h5|h5;exact h.qx h5;omega
theorem Kv {W1 Vb Vc V U1 U2:World}{p q:Nat}{Q:Nat→Prop}{c:Prop} (hT:Below W1.heap.size W1 V) (hbc:Below Vc.heap.size Vc V) (h1:W1.heap.size≤Vb.heap.size∧Vb.heap.size≤Vc.heap.size) (cp:Chg (fun k=>k=p) V U1) (cq:Chg (fun k=>k=q) U1 U2)
 (hp:W1.heap.size≤p∧(p<Vb.heap.size∨Vc.heap.size≤p)) (hq:W1.heap.size≤q∧(q<Vb.heap.size∨Vc.heap.size≤q)) (hQ:∀k,Q k→k<W1.heap.size) (hrd:RefD Vc (fun k=>Q k∨Vb.heap.size≤k) S dv) (hrj:c→RefJ Vc (fun k=>Q k∨Vb.heap.size≤k) R J jv):
 Below W1.heap.size W1 U2∧RefD U2 (fun k=>Q k∨W1.heap.size≤k) S dv∧(c→RefJ U2 (fun k=>Q k∨W1.heap.size≤k) R J jv):=by
 have hcc:=(cp.mono (G:=fun k=>k=p∨k=q) (fun k e=>.inl e)).trans (cq.mono (G:=fun k=>k=p∨k=q) (fun k e=>.inr e)) (fun k e=>.inl e);have hcW:=(Cb (F:=fun k=>k=p∨k=q) hbc).trans hcc (fun _ e=>.inl e);refine⟨hT.trans (hcc.below (fun k e=>by rcases e with e|e<;>omega) hT.size),(hrd.bound.kept hcW (fun k h e=>?_)).mono (fun k h=>h.1.imp id (fun h=>by omega)),fun h0=>((hrj h0).kept hcW (fun k h2 h e=>?_)).mono (fun k _ h=>h.imp id (fun h=>by omega))⟩
 ·rcases h with⟨h|h,h2⟩<;>rcases e with e|e<;>first|omega | (have:=hQ k h;omega)
 ·rcases h with h|h<;>rcases e with e|e<;>first|omega | (have:=hQ k h;omega)
structure NL (S:DS):Prop where
 l:S.limit=none
 d:S.down=false
section
variable {S:DS} {R:JR} {J:JD}
theorem NL.operate (h:NL S):NL S.operate.1∧S.operate.2=true:=by
 have e:S.operate=({S with ops:=S.ops+1},true):=by unfold DS.operate;rw[h.l]
 rw[e];exact⟨⟨h.l,h.d⟩,rfl⟩
theorem NL.write (h:NL S) (s:Int) (b:List UInt8):NL (S.write s b).1:=by
 have h1:=h.operate;unfold DS.write;split
 ·exact h
 split
 ·split
  ·rw[Ip h1.2];exact⟨h1.1.l,h1.1.d⟩
  ·exact h
 ·exact h
theorem NL.flush (h:NL S):NL S.flush.1:=⟨(EY h.l h.d).2.1,(EY h.l h.d).2.2.1⟩
theorem NL.wrL:∀{L:List (List UInt8)} {S:DS} {a:Nat},NL S→NL (wrL S a L).1
 | [],_,_,h=>h
 |x::L,S,a,h=>by
  have h1:=h.write (a:Int) x;unfold Go.Proofs.YtplclpileejemaaGreatDoor.wrL;split
  ·exact NL.wrL h1
  ·exact h1
theorem NL.putR:∀{rs:List RecD} {S:DS} {a u:Nat},NL S→NL (putR S a u rs).1
 | [],_,_,_,h=>h
 |r::rs,S,a,u,h=>by
  have h1:=h.wrL (a:=a+u) (L:=Ac r);unfold Go.Proofs.YtplclpileejemaaGreatDoor.putR;split
  ·exact NL.putR h1
  ·exact h1
theorem NL.wrA (h:NL S) {a g f:Nat} {E:List (List UInt8)}:NL (wrA S a g f E).1:=by
 have h1:=h.putR (a:=a) (u:=0) (rs:=AG g f E);unfold Go.Proofs.YtplclpileejemaaGreatDoor.wrA;split
 ·split
  ·exact h1.flush
  ·exact h1.flush
 ·exact h1
theorem NL.moveJ (h:NL S) {w f:Nat} {E:List (List UInt8)}:NL (moveJ S R w f E).1:=by
 rw[DH];unfold wrJ;split
 ·exact h
 split
 ·exact h.wrA
 ·exact h.wrA
theorem NL.appJ (h:NL S) {b:List UInt8}:NL (appJ S R J b).1:=by
 unfold Go.Proofs.YtplclpileejemaaGreatDoor.appJ;split
 ·exact h
 split
 ·exact h
 split
 ·exact h
 split
 ·exact h.wrL
 ·exact h.wrL
theorem NL.synJ (h:NL S):NL (synJ S J).1:=by
 unfold Go.Proofs.YtplclpileejemaaGreatDoor.synJ;split
 ·exact h
 split
 ·exact h.flush
 ·exact h.flush
theorem NL.trnJ (h:NL S) {x:Int}:NL (trnJ S R J x).1:=by
 unfold Go.Proofs.YtplclpileejemaaGreatDoor.trnJ;split
 ·exact h
 split
 ·exact h
 split
 ·exact h
 split
 ·exact h.moveJ
 ·exact h.moveJ
theorem NL.openR (h:NL S):NL (openR S R).1:=by
 unfold Go.Proofs.YtplclpileejemaaGreatDoor.openR;split
 ·exact h
 ·exact h.moveJ
end
variable {m:Nat}
theorem MC (sd:Nat) (hs:sd<256):Ca 8 #[.int .u8 sd] w fun e w'=>e=.returned (.int .i64 ((8+sd%36:Nat):Int))∧Below w.heap.size w w':=by go_enter Tryz.func8,Tryz.ntmps8;go_wp2_with fail;exact Bv (.int .i64 ((8+sd%36:Nat):Int)) ⟨rfl,Rq⟩
def Zq (n:Nat) (b:UInt8):List UInt8:=(List.range (n%1500)).map fun i=>b+UInt8.ofNat i*7
theorem Gx (n:Nat) (b:UInt8):(Zq n b).length=n%1500:=by simp[Zq]
theorem Re {L:List UInt8} (hi:i<L.length) (hm:L.length=m):(L.take i++List.replicate (m-i) 0).set i L[i]=L.take (i+1)++List.replicate (m-(i+1)) 0:=by
 have hl:(L.take i).length=i:=by rw[List.length_take];omega
 rw[List.set_append_right _ _ (by omega),hl,Nat.sub_self,show m-i=(m-(i+1))+1 by omega,List.replicate_succ,List.set_cons_zero,List.take_succ_eq_append_getElem hi,List.append_assoc,List.singleton_append]
theorem RY (b:UInt8) (i:Nat):bv (b+UInt8.ofNat i*7)=.int .u8 (((b.toNat:Int)+(i:Int)%256*7%256)%256):=by unfold bv;rw[UInt8.toNat_add,UInt8.toNat_mul,UInt8.toNat_ofNat'];simp;omega
theorem RZ (l:List UInt8) (i:Nat) (x:UInt8):(bvs l).set i (bv x)=bvs (l.set i x):=by unfold bvs;rw[List.map_set]
theorem K1 (n:Nat) (hn:n<65536) (b:UInt8):Ca 27 #[.int .u16 n,.int .u8 (b.toNat:Int)] w fun e w'=>∃a c,e=.returned (.slice a (n%1500) c)∧BytesN w' (fun k=>w.heap.size≤k) (.slice a (n%1500) c) (Zq n b)∧Below w.heap.size w w':=by
 obtain⟨m,hm⟩:=Xq (n%1500);have hm1:m<1500:=by omega
 have hmk:=jmk m (by omega);obtain⟨L,hL⟩:=Xq (Zq n b);have HLL:=Hd (show L.length=m by rw[←hL,Gx,hm]);have hmI:(n:Int)%1500=(m:Int):=by omega
 have HLI:=Hd (show∀i (h:i<L.length),L[i]=b+UInt8.ofNat i*7 from fun i h=>by subst hL;simp[Zq]);obtain⟨W0,hW0⟩:=Xq (w.alloc (.cells (bvs (List.replicate m 0)).toArray 5));have HW0:=Hd hW0;have hb0:=Lq hW0;have hx0:=Nq hW0 rfl;have HB0:=Hd hb0;obtain⟨q,hq⟩:=Xq (w.heap.size);rw[hq]at hx0;obtain⟨HQ,HX0,HC0⟩:=Hd3 hq (show W0.heap[q]?=some (.cells (bvs (L.take 0++List.replicate (m-0) 0)).toArray 5 (0,0))from hx0) (Chg.refl (fun k=>k=q) W0);rw[hm,hL];have HBT:=Hd (show b.toNat<256 from b.toNat_lt);obtain⟨bt,hbt⟩:=Xq (b.toNat);rw[hbt]at HBT⊢;have hbt2:bt<256:=HBT.out;have HBB:=Hd hbt;clear hbt hW0 hb0 hx0 hq hL hm;go_enter Tryz.func27,Tryz.ntmps27;go_wp2_with fail;rw[HW0.out,HQ.out]
 try simp only[hmI]
 go_loopw [6] (fun iv wr=>∃(i:Nat),i≤m∧iv=.int .i64 i∧Hid (wr.heap[q]?=some (.cells (bvs (L.take i++List.replicate (m-i) 0)).toArray 5 (0,0)))∧Hid (Chg (fun k=>k=q) W0 wr)) (fun iv _=>m-(intOf iv).toNat)
 case atStart=>exact⟨0,Nat.zero_le _,rfl,HX0,HC0⟩
 case round=>
  obtain⟨i,hi,rfl,HXR,HCR⟩:=hrel;obtain⟨W1,rfl⟩:∃W1,W1=wr:=⟨_,rfl⟩;clear HX0 HC0;by_cases hlt:i<m
  case neg=>
   obtain rfl :m=i:=by omega
   have HBE:=Hd (show BytesN W1 (fun k=>w.heap.size≤k) (.slice (some ⟨q,0,none⟩) m m) L from by have h1:=HXR.out;rw[List.take_of_length_le (by rw[HLL.out];exact Nat.le_refl _),Nat.sub_self,List.replicate_zero,List.append_nil]at h1;have h2:OwnBytes W1 (fun k=>w.heap.size≤k) (.slice (some ⟨q,0,none⟩) L.length L.length) L:=⟨q,5,rfl,by rw[HQ.out];exact Nat.le_refl _,h1⟩;have h3:=h2.n;rwa [HLL.out]at h3)
   have HBW:=Hd (HB0.out.trans (HCR.out.below (fun k e=>by rw[e,HQ.out];exact Nat.le_refl _) HB0.out.size));go_wp2_with fail;exact Bv (.slice (some ⟨q,0,none⟩) m m) ⟨_,_,rfl,HBE.out,HBW.out⟩
  have hiI:(i:Int)<(m:Int):=by omega
  have hsz:i<(bvs (L.take i++List.replicate (m-i) 0)).toArray.size:=by simp[bvs,List.length_take,HLL.out];omega
  go_wp2_with (refine Az rfl rfl 5 (.tmp 24) (.tmp 23) rfl q i (.int .u8 (((bt:Int)+(i:Int)%256*7%256)%256)) rfl rfl HXR.out hsz rfl (by kernel_rfl) ?_;refine Stop.on ?_)
  refine Stop.go ?_
  try simp only[P0,P1,P2,P3,P4]
  intro W2 x2 c2 s2
  try simp only[P0,P1,P2,P3,P4]
  have HX2:=Hd (show W2.heap[q]?=some (.cells (bvs (L.take (i+1)++List.replicate (m-(i+1)) 0)).toArray 5 (0,0)) by
   have hiL:i<L.length:=by rw[HLL.out];exact hlt
   rw[←Re hiL HLL.out,←RZ,HLI.out i hiL,RY,HBB.out];exact x2)
  have HC2:=Hd (HCR.out.trans c2 (fun k e=>.inl e));clear x2 c2 s2 hsz;go_wp2_with fail;go_roundw
  case rel=>exact⟨i+1,by omega,by go_num,HX2,HC2⟩
  case measure=>simp[intOf]<;>omega
variable {w':World}{v:Value}
structure JOp where
 kind:Nat
 n:Nat
 b:UInt8
 cs:List UInt8
 a:Option Addr
 cap:Nat
def JOp.cells (o:JOp):List Value:=[.int .u8 (o.kind:Int),.int .u16 (o.n:Int),.int .u8 (o.b.toNat:Int),.slice o.a o.cs.length o.cap]
structure JOp.At (w:World) (o:JOp):Prop where
 kd:o.kind<256
 n:o.n<65536
 len:o.cs.length≤140737488351232
 bytes:BytesN w (fun _=>True) (.slice o.a o.cs.length o.cap) o.cs
def JOpsAt (w:World) (v:Value) (L:List JOp):Prop:=
 ∃a cap,v=.slice a L.length cap∧L.length≤cap∧cap≤maxLen∧(L≠[]→∃g off,a=some ⟨g,off,none⟩∧g<w.heap.size∧∀i (h:i<L.length),w.rangeAt g (off+i*4) L[i].cells∧L[i].At w)
theorem JOp.At.below {o:JOp} (h:o.At w) (hb:Below w.heap.size w w'):o.At w':=⟨h.kd,h.n,h.len,h.bytes.below hb⟩
theorem JOpsAt.below {L:List JOp} (h:JOpsAt w v L) (hb:Below w.heap.size w w'):JOpsAt w' v L:=by obtain⟨a,c,e,h1,h2,h3⟩:=h;refine⟨a,c,e,h1,h2,fun hne=>?_⟩;obtain⟨g,off,e2,hg,hr⟩:=h3 hne;exact⟨g,off,e2,Nl hg hb.size,fun i hi=>⟨fun j u hu=>(hb.cell (p:=⟨g,off+i*4+j,none⟩) hg).trans ((hr i hi).1 j u hu),(hr i hi).2.below hb⟩⟩
theorem JOpsAt.form {L:List JOp} (h:JOpsAt w v L):∃a cap,v=.slice a L.length cap:=by obtain⟨a,c,e,_⟩:=h;exact⟨a,c,e⟩
theorem JOpsAt.get {a:Option Addr}{cap:Nat}{L:List JOp} (h:JOpsAt w (.slice a n cap) L) {i:Nat} (hi:i<L.length):∃g off,a=some ⟨g,off,none⟩∧g<w.heap.size∧w.cell? ⟨g,off+i*4,none⟩=some (.int .u8 (L[i].kind:Int))∧w.cell? ⟨g,off+i*4+1,none⟩=some (.int .u16 (L[i].n:Int))∧
 w.cell? ⟨g,off+i*4+2,none⟩=some (.int .u8 (L[i].b.toNat:Int))∧w.cell? ⟨g,off+i*4+3,none⟩=some (.slice L[i].a L[i].cs.length L[i].cap)∧L[i].At w:=by
 obtain⟨a',c',e,h1,h2,h3⟩:=h;cases e;obtain⟨g,off,e,hg,hr⟩:=h3 (fun e=>by rw[e]at hi;simp at hi);obtain⟨k1,k2⟩:=hr i hi;exact⟨g,off,e,hg,k1 0 _ rfl,k1 1 _ rfl,k1 2 _ rfl,k1 3 _ rfl,k2⟩
end Go.Proofs.YtplclpileejemaaGreatDoor
