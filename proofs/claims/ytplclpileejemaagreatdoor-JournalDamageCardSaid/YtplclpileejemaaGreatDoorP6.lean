/- Short form (wip/zpack.py) of the texts Rec16 Rec17 Rec18 Rec19 J1 J2 J3 J4 J5 J6. -/
import Derived.Test.YtplclpileejemaaGreatDoorP5
import Derived.WalkMore
import Derived.Laws.ResultCell
set_option linter.all false
set_option maxRecDepth 100000
set_option maxHeartbeats 8000000
namespace Go.Proofs.YtplclpileejemaaGreatDoor
open Go.RowKit
variable {P:Program}{o:Oper}{a:Act}{w:World}{K:Act→World→Prop}{Q:Exit→Act→World→Prop}{B b:Nat}
theorem QE (v:Value) (hr:(execOp a.eval o).run P w=.ok (.value v) w) (h:K (a.put o.dst v) w):o.wp P a w K Q:=by unfold Oper.wp;rw[hr];exact h
theorem RG {ρ:Operand→Value}{xs ys:Array Value}{b:Bool} (t:TypeId) (x y:Operand) (u:TypeId) (ho:o.op=.binOp .neq t x y u) (hx:ρ x=.agg xs) (hy:ρ y=.agg ys) (hg:P.eqGuardType P.depth t=false)
 (h:(binOp .neq t (.agg xs) (.agg ys)).run P w=.ok (.bool b) w):(execOp ρ o).run P w=.ok (.value (.bool b)) w:=by
 unfold execOp;simp only[ho,hx,hy,Sem.run_bind,run_eqGuard_agg w .neq t x y xs ys hg,h,Result.andThen_ok];rfl
theorem Ot (w:World) (b:Nat) (v0 v1 v2 v3:Value):Chg (fun k=>k=b) w ((((w.setCell ⟨b,0,none⟩ v0).setCell ⟨b,1,none⟩ v1).setCell ⟨b,2,none⟩ v2).setCell ⟨b,3,none⟩ v3):=by
 have t:∀{a c:World} (j:Nat) (v:Value),Chg (fun k=>k=b) a c→Chg (fun k=>k=b) a (c.setCell ⟨b,j,none⟩ v):=fun j v h=>h.trans (Chg.setCell (F:=fun k=>k=b) _ _ rfl) (fun _ h=>.inl h)
 exact t 3 _ (t 2 _ (t 1 _ (t 0 _ (Chg.refl _ _))))
theorem Ek {w1 w2:World} (h:Below B w w1) (hc:Chg (fun k=>k=b) w1 w2) (hb:B≤b) (hB:B≤w.heap.size):Below B w w2:=h.trans (hc.below (fun k hk=>by have:k=b:=hk;omega) (Nt hB h.size))
theorem Cx {w1:World} (h:Below B w w1) (hb:B≤b) (hB:B≤w.heap.size) (v0 v1 v2 v3:Value) (o:Obj):Below B w (((((w1.setCell ⟨b,0,none⟩ v0).setCell ⟨b,1,none⟩ v1).setCell ⟨b,2,none⟩ v2).setCell ⟨b,3,none⟩ v3).alloc o):=
 (Ek h (Ot _ _ _ _ _ _) hb hB).alloc (Nt hB (Ek h (Ot _ _ _ _ _ _) hb hB).size) _
theorem QF (a:Option Addr) (cap:Nat):Ca 107 #[.slice a 0 cap] w (JoinPost w []):=by go_enter Tryz.func107,Tryz.ntmps107;go_wp2_with fail;exact Bv (.tuple #[.agg #[.int .i64 0,.int .i64 0,.int .i64 0,.slice none 0 0],.int .i64 0,.int .i64 4]) (JoinPost.no rfl (Rq.alloc Lr _))
theorem Pz (b:List UInt8) (L':List (List UInt8)) (v:Value) (hv:SecsAt w v (b::L')) (hM0:(b::L').length<1000000000) (hK:KAt w):Ca 107 #[v] w (JoinPost w (b::L')):=by
 obtain⟨va,cap,rfl⟩:=hv.form;obtain⟨L,hL⟩:=Xq (b::L');obtain⟨M,hM⟩:=Xq (L.length);have hpos:0<M:=by rw[←hM,←hL];simp
 have hMz:((M:Int)==0)=false:=by simp;omega
 rw[hL,hM]at hv hM0⊢;obtain⟨w1,hw1⟩:=Xq (w.alloc (.cells #[.int .i64 0,.int .i64 0,.int .i64 0,.slice none 0 0] 111));have hb1:Below w.heap.size w w1:=hw1▸(Below.refl _ w).alloc Lr _;have hR1:=Nq hw1 rfl;have hv1:=hv.below hb1;obtain⟨sg,so,x0,n0,c0,rfl,hc0,hs0⟩:=hv1.get (i:=0) (by rw[hM];exact hpos);have hb00:L[0]'(by rw[hM];exact hpos)=b:=by simp[←hL]
 rw[hb00]at hs0;rw[Nat.add_zero]at hc0;obtain⟨P,hP⟩:=Xq (Ak b);obtain⟨E0,hE0⟩:∃E,Al b=E:=⟨_,rfl⟩;obtain⟨m,hm⟩:=Xq (P.bytes.length);have hdec:Ca 73 #[.slice x0 n0 c0] w1 (fun e w'=>∃a c,e=.returned (.tuple #[.agg #[.int .i64 P.kind,.int .i64 P.gen,.int .i64 P.num,.int .i64 P.idx,.int .i64 P.cnt,.slice a m c],.int .i64 E0])∧
  w'.ownsRow w1.heap.size 5 1 (.slice a m c) m (bvs P.bytes)∧Below w1.heap.size w1 w'):=
  (DP b _ hs0.at_ (hK.below hb1 hK.size)).mono (fun e w' h=>by have:=h.parts;rwa [hP,hE0,hm]at this)
 have hsm:E0=0→Bg P.kind∧Bg P.gen∧Bg P.num∧Bg P.idx∧Bg P.cnt∧P.bytes.length≤224∧1≤P.cnt∧P.cnt≤586:=fun h=>by rw[←hP];exact Es (by rw[hE0];exact h)
 have hj1:E0≠0→Av L=(.zero,0,E0):=fun h=>by rw[←hL,Av,Ip (by rw[hE0];exact h),hE0]
 have hj2:E0=0→P.idx≠0→Av L=(.zero,0,30):=fun h h2=>by rw[←hL,Av,In (by rw[hE0];exact fun h3=>h3 h),hP,Ip h2]
 have hj3:E0=0→P.idx=0→Av L=AU L P 1 (P.cnt.toNat-1) P.bytes:=fun h h2=>by rw[←hL,Av,In (by rw[hE0];exact fun h3=>h3 h),hP,In (fun h3=>h3 h2)]
 obtain⟨k,g,n,x,c,bs⟩:=P;simp only at hdec hsm hj1 hj2 hj3 hm;obtain⟨HDEC,HSM,HJ1,HJ2,HJ3,HM,HML,HV,HK,HW1,HB1,HR1⟩:=Hd12 hdec hsm hj1 hj2 hj3 hM hm hv hK hw1 hb1 hR1;have hw1s:w1.heap.size=w.heap.size+1:=by rw[←hw1];simp
 have HC0:=Hd hc0;have HPOS:=Hd hpos;have hc0':(w.alloc (.cells #[.int .i64 0,.int .i64 0,.int .i64 0,.slice none 0 0] 111)).cell? ⟨sg,so,none⟩=some (.slice x0 n0 c0):=by rw[hw1];exact hc0
 clear hdec hsm hj1 hj2 hj3 hM hm hv hK hw1 hb1 hR1 hv1 hc0 hs0 hb00 hP hE0;go_enter Tryz.func107,Tryz.ntmps107;go_wp2_with fail;rw[HW1.out];refine HDEC.out.mono ?_;rintro e w2 ⟨ca,cc,rfl,hO2,hb2⟩;have hR2:=(hb2.block w.heap.size (by omega)).trans HR1.out;have hbd2:=Tq HB1.out hb2;have hq2:=hb2.size;have hlt2:w.heap.size<w2.heap.size:=by omega
 have hrf:∀j:Nat,w2.frozen? ⟨w.heap.size,j,none⟩=false:=fun j=>frozen_of_row _ _ _ _ _ hR2
 have hy0:=Cq hR2 0;have hy1:=Cq hR2 1;have hy2:=Cq hR2 2;have hy3:=Cq hR2 3;obtain⟨HR2,HBD2,HO2,HQ2⟩:=Hd4 hR2 hbd2 hO2 hq2;clear hO2 hb2 hR2 hbd2 hq2 hc0';by_cases hE:E0=0
 ·subst hE;obtain⟨sk,sg',sn,sx,sc,hm224,hc1,hc586⟩:=HSM.out (by simp);obtain⟨w3,hw3⟩:=Xq (w2.alloc (.cells #[.int .i64 k,.int .i64 g,.int .i64 n,.int .i64 x,.int .i64 c,.slice ca m cc] 130));have hb3:=Lq hw3;have hs3:w3.heap.size=w2.heap.size+1:=by rw[←hw3];simp
  have hT3:=Nq hw3 rfl;have hR3:=(hb3.block _ hlt2).trans HR2.out;have hO3:=An HO2.out hb3;have hbd3:=Tq HBD2.out hb3;have hpl:=B4 k g n x c ca m cc w3;obtain⟨HPL,HW3,HT3,HR3,HO3,HBD3⟩:=Hd6 hpl hw3 hT3 hR3 hO3 hbd3;clear hpl hw3 hb3 hT3 hR3 hO3 hbd3 hrf hy0 hy1 hy2 hy3;go_wp2_with fail;rw[HW3.out];refine HPL.out.mono ?_;rintro e w4 ⟨rfl,hb4⟩;have hq4:=hb4.size;have hT4:=(hb4.block w2.heap.size (by omega)).trans HT3.out;have hR4:=(hb4.block w.heap.size (by omega)).trans HR3.out;have hO4:=An HO3.out hb4;have hbd4:=Tq HBD3.out hb4;have hlt4:w.heap.size<w4.heap.size:=by omega
  have hlt4b:w2.heap.size<w4.heap.size:=by omega
  have hrf:∀j:Nat,w4.frozen? ⟨w.heap.size,j,none⟩=false:=fun j=>frozen_of_row _ _ _ _ _ hR4
  have hy0:=Cq hR4 0;have hy1:=Cq hR4 1;have hy2:=Cq hR4 2;have hy3:=Cq hR4 3;obtain⟨HR4,HT4,HO4,HBD4⟩:=Hd4 hR4 hT4 hO4 hbd4;clear hb4 hT4 hR4 hO4 hbd4;by_cases hx:x=0
  ·have hxb:(x !=0)=false:=by simp[hx]
   obtain⟨w5,hw5⟩:=Xq (w4.alloc (.cells #[.int .i64 k,.int .i64 g,.int .i64 n,.int .i64 x,.int .i64 c] 182));have hb5:=Lq hw5;have hU5:=Nq hw5 rfl;have hT5:=(hb5.block _ hlt4b).trans HT4.out;have hR5:=(hb5.block _ hlt4).trans HR4.out;have hO5:=Am (An HO4.out hb5) HB1.out.size;have hbd5:=Tq HBD4.out hb5;have hj:=HJ3.out (by simp) hx;obtain⟨HW5,HU5,HT5,HR5,HO5,HBD5,HJ⟩:=Hd7 hw5 hU5 hT5 hR5 hO5 hbd5 hj;have ht5:=Cq HT4.out 5;clear hw5 hb5 hU5 hT5 hR5 hO5 hbd5 hj hx hrf hy0 hy1 hy2 hy3;go_wp2_with fail;rw[HW5.out];go_loopw [7,8] (fun pv jv wr=>∃(j:Nat) (acc:List UInt8) (N:Nat) (y:Int) (pa:Option Addr) (pc:Nat),1≤j∧(j:Int)≤c∧jv=.int .i64 j∧pv=.slice pa N pc∧acc.length=N∧N≤224*j∧
    wr.ownsRow w.heap.size 5 1 pv N (bvs acc)∧Av L=AU L ⟨k,g,n,x,c,bs⟩ j (c.toNat-j) acc∧wr.heap[w.heap.size]?=some (.cells #[.int .i64 0,.int .i64 0,.int .i64 0,.slice none 0 0] 111 (0,0))∧wr.heap[w2.heap.size]?=some (.cells #[.int .i64 k,.int .i64 g,.int .i64 n,.int .i64 x,.int .i64 c,.slice ca m cc] 130 (0,0))∧
    wr.heap[w4.heap.size]?=some (.cells #[.int .i64 k,.int .i64 g,.int .i64 n,.int .i64 y,.int .i64 c] 182 (0,0))∧Below w.heap.size w wr) (fun _ jv _=>(c-intOf jv).toNat)
   case atStart=>exact⟨1,bs,m,x,ca,cc,Nat.le_refl _,by omega,rfl,rfl,HML.out,by have:=HML.out;omega,HO5.out,HJ.out,HR5.out,HT5.out,HU5.out,HBD5.out⟩
   case round=>
    obtain⟨j,acc,N,y,pa,pc,hj1,hjc,rfl,rfl,hacc,hN,hO,hJ,hR,hT,hU,hB⟩:=hrel;have hqR:=(Ax hR).1;have hqT:=(Ax hT).1;have hqU:=(Ax hU).1;have hrf:∀j:Nat,wr.frozen? ⟨w.heap.size,j,none⟩=false:=fun j=>frozen_of_row _ _ _ _ _ hR
    have hy0:=Cq hR 0;have hy1:=Cq hR 1;have hy2:=Cq hR 2;have hy3:=Cq hR 3;have ht4:=Cq hT 4;obtain⟨HACC,HO,HJ,HR,HT,HU,HB⟩:=Hd7 hacc hO hJ hR hT hU hB;clear hacc hO hJ hR hT hU hB;by_cases hlt:(j:Int)<c
    ·have hstep:c.toNat-j=(c.toNat-(j+1))+1:=by omega
     by_cases hjM:j<M
     ·have hjMI:¬((M:Int)≤(j:Int)):=by omega
      have hjMI2:(j:Int)<(M:Int):=by omega
      have hvr:=HV.out.below HB.out;obtain⟨sg',so',x1,n1,c1,e,hcj,hsj⟩:=hvr.get (i:=j) (by rw[HM.out];exact hjM);cases e;obtain⟨b2,hb2⟩:=Xq (L[j]'(by rw[HM.out];exact hjM));rw[hb2]at hsj;have hget:L[j]?=some b2:=by rw[List.getElem?_eq_getElem (by rw[HM.out];exact hjM),hb2]
      obtain⟨P2,hP2⟩:∃P,Ak b2=P:=⟨_,rfl⟩;obtain⟨E2,hE2⟩:∃E,Al b2=E:=⟨_,rfl⟩;obtain⟨m2,hm2⟩:∃m,P2.bytes.length=m:=⟨_,rfl⟩;have hdec:Ca 73 #[.slice x1 n1 c1] wr (fun e w'=>∃a c,e=.returned (.tuple #[.agg #[.int .i64 P2.kind,.int .i64 P2.gen,.int .i64 P2.num,.int .i64 P2.idx,.int .i64 P2.cnt,.slice a m2 c],.int .i64 E2])∧
       w'.ownsRow wr.heap.size 5 1 (.slice a m2 c) m2 (bvs P2.bytes)∧Below wr.heap.size wr w'):=
       (DP b2 _ hsj.at_ (HK.out.below HB.out HK.out.size)).mono (fun e w' h=>by have:=h.parts;rwa [hP2,hE2,hm2]at this)
      have hsm2:E2=0→Bg P2.kind∧Bg P2.gen∧Bg P2.num∧Bg P2.idx∧Bg P2.cnt∧P2.bytes.length≤224∧1≤P2.cnt∧P2.cnt≤586:=fun h=>by rw[←hP2];exact Es (by rw[hE2];exact h)
      have hk1:E2≠0→Av L=(.zero,0,E2):=fun h=>by rw[HJ.out,hstep,AU,hget];simp only;rw[Ip (by rw[hE2];exact h),hE2]
      have hk2:E2=0→CT ⟨k,g,n,x,c,bs⟩ P2 j=false→Av L=(.zero,0,30):=fun h h2=>by rw[HJ.out,hstep,AU,hget];simp only;rw[In (by rw[hE2];exact fun h3=>h3 h),hP2,In (by rw[h2];simp)]
      have hk3:E2=0→CT ⟨k,g,n,x,c,bs⟩ P2 j=true→Av L=AU L ⟨k,g,n,x,c,bs⟩ (j+1) (c.toNat-(j+1)) (acc++P2.bytes):=fun h h2=>by rw[HJ.out,hstep,AU,hget];simp only;rw[In (by rw[hE2];exact fun h3=>h3 h),hP2,Ip h2]
      obtain⟨k2,g2,n2,x2,c2,bs2⟩:=P2;simp only at hdec hsm2 hk1 hk2 hk3 hm2;unfold CT at hk2 hk3;simp only at hk2 hk3;obtain⟨HDEC2,HSM2,HK1,HK2,HK3,HM2⟩:=Hd6 hdec hsm2 hk1 hk2 hk3 hm2;clear hdec hsm2 hk1 hk2 hk3 hm2 hvr hsj hb2 hget hP2 hE2 hstep;go_wp2_with fail;refine HDEC2.out.mono ?_;rintro e w6 ⟨ca2,cc2,rfl,hO6,hb6⟩;have hR6:=(hb6.block _ hqR).trans HR.out;have hbd6:=Tq HB.out hb6;have hq6:=hb6.size;have hqR6:w.heap.size<w6.heap.size:=by omega
      have hrf:∀j:Nat,w6.frozen? ⟨w.heap.size,j,none⟩=false:=fun j=>frozen_of_row _ _ _ _ _ hR6
      have hy0:=Cq hR6 0;have hy1:=Cq hR6 1;have hy2:=Cq hR6 2;have hy3:=Cq hR6 3;by_cases hE2:E2=0
      ·subst hE2;obtain⟨sk2,sg2,sn2,sx2,sc2,hm2224,_,_⟩:=HSM2.out (by simp);have hT6:=(hb6.block _ hqT).trans HT.out;have hU6:=(hb6.block _ hqU).trans HU.out;have hO6b:=An HO.out hb6;obtain⟨wa,hwa⟩:=Xq (w6.setCell ⟨w4.heap.size,3,none⟩ (.int .i64 j));have hcs:Chg (fun k=>k=w4.heap.size) w6 wa:=hwa▸Chg.setCell _ _ rfl;have hsa:wa.heap.size=w6.heap.size:=by rw[←hwa];simp[World.setCell]
       obtain⟨w7,hw7⟩:=Xq (wa.alloc (.cells #[.int .i64 k2,.int .i64 g2,.int .i64 n2,.int .i64 x2,.int .i64 c2,.slice ca2 m2 cc2] 130));have hba:=Lq hw7;have hUa:wa.heap[w4.heap.size]?=some (.cells #[.int .i64 k,.int .i64 g,.int .i64 n,.int .i64 j,.int .i64 c] 182 (0,0)):=by rw[←hwa];exact Sc _ _ 3 _ _ (.int .i64 j) hU6
       have hU7:=(hba.block _ (by omega)).trans hUa;have hT7:=(hba.block _ (by omega)).trans ((hcs.block w2.heap.size (by omega) (by omega)).trans hT6);have hR7:=(hba.block _ (by omega)).trans ((hcs.block w.heap.size (by omega) (by omega)).trans hR6);have hQ7:w7.heap[w6.heap.size]?=some (.cells #[.int .i64 k2,.int .i64 g2,.int .i64 n2,.int .i64 x2,.int .i64 c2,.slice ca2 m2 cc2] 130 (0,0)):=by rw[←hw7,←hsa];exact Hn
       have hO7:=An (AJ hO6b hcs (fun k hk h=>Da hO6b hU6 (by decide) k hk h)) hba;have hP7:=An (AJ hO6 hcs (fun k hk h=>Da hO6 hU6 (by decide) k hk h)) hba;have hbd7:=(Ek hbd6 hcs (by omega) Lr).trans (hba.mono (by omega));have hs7:w7.heap.size=w6.heap.size+1:=by rw[←hw7,Sz,hsa]
       have hu3:=Cq hU6 3;have huf:w6.frozen? ⟨w4.heap.size,3,none⟩=false:=frozen_of_row _ _ _ _ _ hU6;have hqU6:w4.heap.size<w6.heap.size:=by omega
       have hne4:w4.heap.size≠w6.heap.size:=by omega
       have hw7':(w6.setCell ⟨w4.heap.size,3,none⟩ (.int .i64 j)).alloc (.cells #[.int .i64 k2,.int .i64 g2,.int .i64 n2,.int .i64 x2,.int .i64 c2,.slice ca2 m2 cc2] 130)=w7:=by rw[hwa];exact hw7
       obtain⟨HW7,HU7,HT7,HR7,HQ7,HO7,HP7,HBD7⟩:=Hd8 hw7' hU7 hT7 hR7 hQ7 hO7 hP7 hbd7;have hq7s:=hs7;have HS7:=Hd hs7;clear hO6 hb6 hR6 hbd6 hT6 hU6 hO6b hw7 hw7' hwa hsa hba hcs hUa hU7 hT7 hR7 hQ7 hO7 hP7 hbd7 hs7 hrf hy0 hy1 hy2 hy3;go_wp2_with fail;rw[HW7.out];have hneq:=Py sk sg' sn (i:=(j:Int)) ⟨by omega,by omega⟩ sc sk2 sg2 sn2 sx2 sc2;have HNEQ:=Hd hneq;have HPL2:=Hd (B4 k2 g2 n2 x2 c2 ca2 m2 cc2);have hcell:∀w':World,Below w7.heap.size w7 w'→(w'.heap[w6.heap.size]?=some (.cells #[.int .i64 k2,.int .i64 g2,.int .i64 n2,.int .i64 x2,.int .i64 c2,.slice ca2 m2 cc2] 130 (0,0))∧w'.heap[w4.heap.size]?=some (.cells #[.int .i64 k,.int .i64 g,.int .i64 n,.int .i64 j,.int .i64 c] 182 (0,0))):=fun w' h=>⟨(h.block _ (by omega)).trans HQ7.out,(h.block _ (by omega)).trans HU7.out⟩
       have HCELL:=Hd hcell;clear hneq hcell hu3 huf;refine Np ?_;refine BM (Below w7.heap.size w7) (by kernel_rfl) ?_;have hS0:(Below w7.heap.size w7) w7.drew:=Rq.drew;obtain⟨wd,hwd⟩:=Xq (w7.drew);rw[hwd]at hS0⊢;clear hwd;refine tkH 0 hS0 ?_ (hy:=fun w' hw'=>by(have h9:=(HCELL.out w' hw').1;have q0:w'.cell? ⟨w6.heap.size,0,none⟩=some (.int .i64 k2):=(by rw[cr h9];rfl);have q1:w'.cell? ⟨w6.heap.size,1,none⟩=some (.int .i64 g2):=(by rw[cr h9];rfl);have q2:w'.cell? ⟨w6.heap.size,2,none⟩=some (.int .i64 n2):=(by rw[cr h9];rfl);have q3:w'.cell? ⟨w6.heap.size,3,none⟩=some (.int .i64 x2):=(by rw[cr h9];rfl);have q4:w'.cell? ⟨w6.heap.size,4,none⟩=some (.int .i64 c2):=(by rw[cr h9];rfl);have q5:w'.cell? ⟨w6.heap.size,5,none⟩=some (.slice ca2 m2 cc2):=(by rw[cr h9];rfl);clear h9 hw';first| (go_simp;rfl)| (go_simp;done)));refine tkH 2 hS0 ?_ (hy:=fun w' hw'=>by(have h9:=(HCELL.out w' hw').2;have q0:w'.cell? ⟨w4.heap.size,0,none⟩=some (.int .i64 k):=(by rw[cr h9];rfl);have q1:w'.cell? ⟨w4.heap.size,1,none⟩=some (.int .i64 g):=(by rw[cr h9];rfl);have q2:w'.cell? ⟨w4.heap.size,2,none⟩=some (.int .i64 n):=(by rw[cr h9];rfl);have q3:w'.cell? ⟨w4.heap.size,3,none⟩=some (.int .i64 j):=(by rw[cr h9];rfl);have q4:w'.cell? ⟨w4.heap.size,4,none⟩=some (.int .i64 c):=(by rw[cr h9];rfl);clear h9 hw';first| (go_simp;rfl)| (go_simp;done)));refine dH 1 fun K hK=>?_
       go_simp;go_at_call 106;refine(HPL2.out wd).mono ?_;rintro e w8 ⟨rfl,hb8⟩;have hS1:=Tq hS0 hb8;refine Kq hK (hS1) ?_;refine dH 3 fun K hK=>?_
       refine QE _ (RG 182 (.tmp 60) (.tmp 61) 182 rfl rfl rfl M4 (HNEQ.out w8)) ?_;refine Kq hK (hS1) ?_;refine eH ?_;have hR8:=(hS1.block w.heap.size (by omega)).trans HR7.out;have hbd8:=Tq HBD7.out hS1;have hrf:∀j:Nat,w8.frozen? ⟨w.heap.size,j,none⟩=false:=fun j=>frozen_of_row _ _ _ _ _ hR8
       have hy0:=Cq hR8 0;have hy1:=Cq hR8 1;have hy2:=Cq hR8 2;have hy3:=Cq hR8 3;by_cases hsame:(k2==k&&g2==g&&n2==n&&x2==(j:Int)&&c2==c)=true
       ·have hk3:=HK3.out (by simp) hsame;have hO8:=An HO7.out hS1;have hP8:=An HP7.out hS1;have hT8:=(hS1.block w2.heap.size (by omega)).trans HT7.out;have hU8:=(hS1.block w4.heap.size (by omega)).trans HU7.out;have hQ8:=(hS1.block w6.heap.size (by omega)).trans HQ7.out;have hq5:=Cq hQ8 5;have hpb:=Bk hP8;rw[hsame];obtain⟨HKK,HO8,HPB,HT8,HU8,HR8,HBD8⟩:=Hd7 hk3 hO8 hpb hT8 hU8 hR8 hbd8;clear hk3 hO8 hP8 hT8 hU8 hQ8 hpb hR8 hbd8 hb8 hS0 hS1 hsame hrf hy0 hy1 hy2 hy3;go_wp2_with (at_builtin;refine BR rfl (.tmp 64) (.tmp 66) rfl rfl HO8.out rfl HPB.out.at_ HPB.out.nil (by have:=HM2.out;omega) HBD8.out.size ?_)
        intro a9 cap9 w9 hO9 hg9;rw[HM2.out]at hO9⊢;have hB9:=HBD8.out.trans (grown_below HO8.out hg9 HBD8.out.size);have keep:∀{b:Nat} {c:Array Value} {T:TypeId},w8.heap[b]?=some (.cells c T (0,0))→5≠T→w9.heap[b]?=some (.cells c T (0,0)):=fun h hne=>(hg9.block _ (Ax h).1 (fun e=>Da HO8.out h hne _ e.symm rfl)).trans h
        have hR9:=keep HR8.out (by decide);have hT9:=keep HT8.out (by decide);have hU9:=keep HU8.out (by decide);obtain⟨HO9,HB9,HR9,HT9,HU9⟩:=Hd5 hO9 hB9 hR9 hT9 hU9;clear hO9 hg9 hB9 hR9 hT9 hU9 keep;go_wp2_with fail;go_roundw
        case rel=>exact⟨j+1,acc++bs2,N+m2,(j:Int),a9,cap9,by omega,by omega,by go_num,rfl,by rw[List.length_append,HACC.out,HM2.out],by have:=HM2.out;omega,HO9.out,HKK.out,HR9.out,HT9.out,HU9.out,HB9.out⟩
        case measure=>simp[intOf];omega
       ·have hs':(k2==k&&g2==g&&n2==n&&x2==(j:Int)&&c2==c)=false:=by simpa using hsame
        have hk2:=HK2.out (by simp) hs';have HKK:=Hd hk2;have HBD8:=Hd hbd8;rw[hs'];clear hk2 hs' hsame hR8 hbd8 hb8 hS0 hS1;go_wp2_with fail;exact Bv (hr:=by simp[go_sem,hy0,hy1,hy2,hy3]) (.tuple #[.agg #[.int .i64 0,.int .i64 0,.int .i64 0,.slice none 0 0],.int .i64 0,.int .i64 30]) (JoinPost.no HKK.out (by first|exact(((((HBD8.out).setCell Lr _).setCell Lr _).setCell Lr _).setCell Lr _)|exact Cx HBD8.out Lr Lr _ _ _ _ _))
      ·have hk1:=HK1.out hE2;have hE2b:(E2 !=0)=true:=by simpa using hE2
       have HKK:=Hd hk1;have HBD6:=Hd hbd6;clear hk1 hE2 hO6 hb6 hR6 hbd6;go_wp2_with fail;exact Bv (hr:=by simp[go_sem,hy0,hy1,hy2,hy3,hqR6]) (.tuple #[.agg #[.int .i64 0,.int .i64 0,.int .i64 0,.slice none 0 0],.int .i64 0,.int .i64 E2]) (JoinPost.no HKK.out (by first|exact(((((HBD6.out.alloc HBD6.out.size _).setCell Lr _).setCell Lr _).setCell Lr _).setCell Lr _)|exact Cx HBD6.out Lr Lr _ _ _ _ _))
     ·have hjMI:(M:Int)≤(j:Int):=by omega
      have hk:Av L=(.zero,0,23):=by rw[HJ.out,hstep,AU,List.getElem?_eq_none (by rw[HM.out];omega)]
      have HKK:=Hd hk;clear hk hstep;go_wp2_with fail;exact Bv (hr:=by simp[go_sem,hy0,hy1,hy2,hy3]) (.tuple #[.agg #[.int .i64 0,.int .i64 0,.int .i64 0,.slice none 0 0],.int .i64 0,.int .i64 23]) (JoinPost.no HKK.out (by first|exact(((((HB.out).setCell Lr _).setCell Lr _).setCell Lr _).setCell Lr _)|exact Cx HB.out Lr Lr _ _ _ _ _))
    ·obtain rfl :(j:Int)=c:=by omega
     have hres:Av L=(⟨k,g,n,acc⟩,j,0):=by
      rw[HJ.out];have e:(j:Int).toNat-j=0:=by omega
      rw[e,AU];simp
     have HRES:=Hd hres;clear hres;have hcell:∀w':World,Chg (fun k=>k=w.heap.size) wr w'→w'.heap[w2.heap.size]?=some (.cells #[.int .i64 k,.int .i64 g,.int .i64 n,.int .i64 x,.int .i64 j,.slice ca m cc] 130 (0,0)):=fun w' h=>(h.block _ hqT (by omega)).trans HT.out
     have HCELL:=Hd hcell;clear hcell;go_wp2_with fail;refine Np ?_;refine AY 12 (Chg (fun k=>k=w.heap.size) wr) (by kernel_rfl) ?_;have hS0:(Chg (fun k=>k=w.heap.size) wr) wr.drew:=(Chg.refl _ _).drew;have hRd:wr.drew.heap[w.heap.size]?=some (.cells #[.int .i64 0,.int .i64 0,.int .i64 0,.slice none 0 0] 111 (0,0)):=HR.out;obtain⟨wd,hwd⟩:=Xq (wr.drew);rw[hwd]at hS0 hRd⊢;have hBd:Below w.heap.size w wd:=hwd▸HB.out.drew;have hOd:wd.ownsRow w.heap.size 5 1 (.slice pa N pc) N (bvs acc):=hwd▸An HO.out (show Below wr.heap.size wr wr.drew from Rq.drew);clear hwd;refine tkF 0 hS0 ?_;refine tkF 1 hS0 ?_ (hy:=fun w' hw'=>by(have h9:=HCELL.out w' hw';have q0:w'.cell? ⟨w2.heap.size,0,none⟩=some (.int .i64 k):=(by rw[cr h9];rfl);clear h9 hw';first| (go_simp;rfl)| (go_simp;done)));refine tkF 2 hS0 ?_;refine tkF 3 hS0 ?_ (hy:=fun w' hw'=>by(have h9:=HCELL.out w' hw';have q1:w'.cell? ⟨w2.heap.size,1,none⟩=some (.int .i64 g):=(by rw[cr h9];rfl);clear h9 hw';first| (go_simp;rfl)| (go_simp;done)));refine tkF 4 hS0 ?_;refine tkF 5 hS0 ?_ (hy:=fun w' hw'=>by(have h9:=HCELL.out w' hw';have q2:w'.cell? ⟨w2.heap.size,2,none⟩=some (.int .i64 n):=(by rw[cr h9];rfl);clear h9 hw';first| (go_simp;rfl)| (go_simp;done)));refine tkF 6 hS0 ?_;refine tkF 7 hS0 ?_;refine tkF 8 hS0 ?_;refine tkF 9 hS0 ?_ (hy:=fun w' hw'=>by(have h9:=HCELL.out w' hw';have q4:w'.cell? ⟨w2.heap.size,4,none⟩=some (.int .i64 j):=(by rw[cr h9];rfl);clear h9 hw';first| (go_simp;rfl)| (go_simp;done)));have hrfd:∀j:Nat,wd.frozen? ⟨w.heap.size,j,none⟩=false:=fun j=>frozen_of_row _ _ _ _ _ hRd
     have hz0:=Cq hRd 0;have hz1:=Cq hRd 1;have hz2:=Cq hRd 2;have hz3:=Cq hRd 3;refine dF 10 fun K hK=>?_
     go_simp;obtain⟨we,hwe⟩:=Xq (((((wd.setCell ⟨w.heap.size,0,none⟩ (.int .i64 k)).setCell ⟨w.heap.size,1,none⟩ (.int .i64 g)).setCell ⟨w.heap.size,2,none⟩ (.int .i64 n)).setCell ⟨w.heap.size,3,none⟩ (.slice pa N pc)));have hce:Chg (fun k=>k=w.heap.size) wd we:=hwe▸Ot _ _ _ _ _ _;have hRe:we.heap[w.heap.size]?=some (.cells #[.int .i64 k,.int .i64 g,.int .i64 n,.slice pa N pc] 111 (0,0)):=by rw[←hwe];exact Sc _ _ 3 _ _ _ (Sc _ _ 2 _ _ _ (Sc _ _ 1 _ _ _ (Sc _ _ 0 _ _ _ hRd)))
     have hSe:Chg (fun k=>k=w.heap.size) wr we:=hS0.trans hce (fun _ h=>.inl h)
     try rw[hwe]
     refine Kq hK (fun _=>hSe) ?_;refine dF 11 fun K hK=>?_
     go_simp;refine Kq hK (fun _=>hSe) ?_;refine dF 12 fun K hK=>?_
     go_simp;refine hK _ _ (fun h=>absurd rfl h) ?_;refine eF ?_;have hOe:=AJ hOd hce (fun k hk h=>Da hOd hRd (by decide) k hk h);have hBe:=Ek hBd hce Lr Lr;have hw0:=Cq hRe 0;have hw1:=Cq hRe 1;have hw2:=Cq hRe 2;have hw3:=Cq hRe 3;clear hz0 hz1 hz2 hz3 hy0 hy1 hy2 hy3;have HOE:=Hd hOe;have HBE:=Hd hBe;clear hOd hRd hBd hOe hBe hce hRe hSe hS0;go_wp2_with fail;exact Bv (hr:=by simp[go_sem,hw0,hw1,hw2,hw3]) (.tuple #[.agg #[.int .i64 k,.int .i64 g,.int .i64 n,.slice pa N pc],.int .i64 j,.int .i64 0]) (JoinPost.yes HRES.out HACC.out HOE.out HBE.out)
  ·have hxb:(x !=0)=true:=by simpa using hx
   have hj:=HJ2.out (by simp) hx;have HJ:=Hd hj;clear hj hx;go_wp2_with fail;exact Bv (hr:=by simp[go_sem,hy0,hy1,hy2,hy3,hlt4]) (.tuple #[.agg #[.int .i64 0,.int .i64 0,.int .i64 0,.slice none 0 0],.int .i64 0,.int .i64 30]) (JoinPost.no HJ.out (by first|exact(((((HBD4.out.alloc HBD4.out.size _).setCell Lr _).setCell Lr _).setCell Lr _).setCell Lr _)|exact Cx HBD4.out Lr Lr _ _ _ _ _))
 ·have hEb:(E0 !=0)=true:=by simpa using hE
  have hj:=HJ1.out hE;have HJ:=Hd hj;clear hj hE;go_wp2_with fail;exact Bv (hr:=by simp[go_sem,hy0,hy1,hy2,hy3,hlt2]) (.tuple #[.agg #[.int .i64 0,.int .i64 0,.int .i64 0,.slice none 0 0],.int .i64 0,.int .i64 E0]) (JoinPost.no HJ.out (by first|exact(((((HBD2.out.alloc HBD2.out.size _).setCell Lr _).setCell Lr _).setCell Lr _).setCell Lr _)|exact Cx HBD2.out Lr Lr _ _ _ _ _))
theorem PA (a:Option Addr) (cap:Nat):Ca 103 #[.slice a 0 cap] w (JoinPost w []):=by go_enter Tryz.func103,Tryz.ntmps103;go_wp2_with fail;exact Bv (.tuple #[.agg #[.int .i64 0,.int .i64 0,.int .i64 0,.slice none 0 0],.int .i64 0,.int .i64 4]) (JoinPost.no rfl (Rq.alloc Lr _))
theorem Ou (b:List UInt8) (L':List (List UInt8)) (v:Value) (hv:SecsAt w v (b::L')) (hM0:(b::L').length<1000000000):Ca 103 #[v] w (JoinPost w (b::L')):=by
 obtain⟨va,cap,rfl⟩:=hv.form;obtain⟨L,hL⟩:=Xq (b::L');obtain⟨M,hM⟩:=Xq (L.length);have hpos:0<M:=by rw[←hM,←hL];simp
 have hMz:((M:Int)==0)=false:=by simp;omega
 rw[hL,hM]at hv hM0⊢;obtain⟨w1,hw1⟩:=Xq (w.alloc (.cells #[.int .i64 0,.int .i64 0,.int .i64 0,.slice none 0 0] 146));have hb1:Below w.heap.size w w1:=hw1▸(Below.refl _ w).alloc Lr _;have hR1:=Nq hw1 rfl;have hv1:=hv.below hb1;obtain⟨sg,so,x0,n0,c0,rfl,hc0,hs0⟩:=hv1.get (i:=0) (by rw[hM];exact hpos);have hb00:L[0]'(by rw[hM];exact hpos)=b:=by simp[←hL]
 rw[hb00]at hs0;rw[Nat.add_zero]at hc0;obtain⟨P,hP⟩:=Xq (Ak b);obtain⟨E0,hE0⟩:∃E,Al b=E:=⟨_,rfl⟩;obtain⟨m,hm⟩:=Xq (P.bytes.length);have hdec:Ca 80 #[.slice x0 n0 c0] w1 (fun e w'=>∃a c,e=.returned (.tuple #[.agg #[.int .i64 P.kind,.int .i64 P.gen,.int .i64 P.num,.int .i64 P.idx,.int .i64 P.cnt,.slice a m c],.int .i64 E0])∧
  w'.ownsRow w1.heap.size 5 1 (.slice a m c) m (bvs P.bytes)∧Below w1.heap.size w1 w'):=
  (EQ b _ hs0.at_).mono (fun e w' h=>by have:=h.parts;rwa [hP,hE0,hm]at this)
 have hsm:E0=0→Bg P.kind∧Bg P.gen∧Bg P.num∧Bg P.idx∧Bg P.cnt∧P.bytes.length≤224∧1≤P.cnt∧P.cnt≤586:=fun h=>by rw[←hP];exact Es (by rw[hE0];exact h)
 have hj1:E0≠0→Av L=(.zero,0,E0):=fun h=>by rw[←hL,Av,Ip (by rw[hE0];exact h),hE0]
 have hj2:E0=0→P.idx≠0→Av L=(.zero,0,30):=fun h h2=>by rw[←hL,Av,In (by rw[hE0];exact fun h3=>h3 h),hP,Ip h2]
 have hj3:E0=0→P.idx=0→Av L=AU L P 1 (P.cnt.toNat-1) P.bytes:=fun h h2=>by rw[←hL,Av,In (by rw[hE0];exact fun h3=>h3 h),hP,In (fun h3=>h3 h2)]
 obtain⟨k,g,n,x,c,bs⟩:=P;simp only at hdec hsm hj1 hj2 hj3 hm;obtain⟨HDEC,HSM,HJ1,HJ2,HJ3,HM,HML,HV,HW1,HB1,HR1⟩:=Hd11 hdec hsm hj1 hj2 hj3 hM hm hv hw1 hb1 hR1;have hw1s:w1.heap.size=w.heap.size+1:=by rw[←hw1];simp
 have hc0':(w.alloc (.cells #[.int .i64 0,.int .i64 0,.int .i64 0,.slice none 0 0] 146)).cell? ⟨sg,so,none⟩=some (.slice x0 n0 c0):=by rw[hw1];exact hc0
 clear hdec hsm hj1 hj2 hj3 hM hm hv hw1 hb1 hR1 hv1 hc0 hs0 hb00 hP hE0;go_enter Tryz.func103,Tryz.ntmps103;go_wp2_with fail;rw[HW1.out];refine HDEC.out.mono ?_;rintro e w2 ⟨ca,cc,rfl,hO2,hb2⟩;have hR2:=(hb2.block w.heap.size (by omega)).trans HR1.out;have hbd2:=Tq HB1.out hb2;have hq2:=hb2.size;have hlt2:w.heap.size<w2.heap.size:=by omega
 have hrf:∀j:Nat,w2.frozen? ⟨w.heap.size,j,none⟩=false:=fun j=>frozen_of_row _ _ _ _ _ hR2
 have hy0:=Cq hR2 0;have hy1:=Cq hR2 1;have hy2:=Cq hR2 2;have hy3:=Cq hR2 3;obtain⟨HR2,HBD2,HO2⟩:=Hd3 hR2 hbd2 hO2;clear hO2 hb2 hR2 hbd2 hc0';by_cases hE:E0=0
 ·subst hE;obtain⟨sk,sg',sn,sx,sc,hm224,hc1,hc586⟩:=HSM.out (by simp);by_cases hx:x=0
  ·have hxb:(x !=0)=false:=by simp[hx]
   obtain⟨w3,hw3⟩:=Xq (w2.alloc (.cells #[.int .i64 k,.int .i64 g,.int .i64 n,.int .i64 x,.int .i64 c,.slice ca m cc] 141));have hb3:=Lq hw3;have hs3:w3.heap.size=w2.heap.size+1:=by rw[←hw3];simp
   have hT3:=Nq hw3 rfl;have hR3:=(hb3.block _ hlt2).trans HR2.out;have hO3:=An HO2.out hb3;have hbd3:=Tq HBD2.out hb3;obtain⟨w5,hw5⟩:=Xq (w3.alloc (.cells #[.int .i64 k,.int .i64 g,.int .i64 n,.slice ca m cc] 146));have hb5:=Lq hw5;have hU5:w5.heap[w2.heap.size+1]?=some (.cells #[.int .i64 k,.int .i64 g,.int .i64 n,.slice ca m cc] 146 (0,0)):=by rw[←hw5,←hs3];exact Hn
   have hT5:=(hb5.block w2.heap.size (by omega)).trans hT3;have hR5:=(hb5.block w.heap.size (by omega)).trans hR3;have hO5:=Am (An hO3 hb5) HB1.out.size;have hbd5:=Tq hbd3 hb5;have hj:=HJ3.out (by simp) hx;have hw5':(w2.alloc (.cells #[.int .i64 k,.int .i64 g,.int .i64 n,.int .i64 x,.int .i64 c,.slice ca m cc] 141)).alloc (.cells #[.int .i64 k,.int .i64 g,.int .i64 n,.slice ca m cc] 146)=w5:=by rw[hw3];exact hw5
   obtain⟨HW5,HU5,HT5,HR5,HO5,HBD5,HJ⟩:=Hd7 hw5' hU5 hT5 hR5 hO5 hbd5 hj;clear hw3 hw5 hw5' hb3 hb5 hT3 hU5 hT5 hR3 hR5 hO3 hO5 hbd3 hbd5 hj hx hrf hy0 hy1 hy2 hy3 hs3;go_wp2_with fail;rw[HW5.out];go_loopw [8] (fun jv wr=>∃(j:Nat) (acc:List UInt8) (N:Nat) (pa:Option Addr) (pc:Nat),1≤j∧(j:Int)≤c∧jv=.int .i64 j∧acc.length=N∧N≤224*j∧
    wr.ownsRow w.heap.size 5 1 (.slice pa N pc) N (bvs acc)∧Av L=AU L ⟨k,g,n,x,c,bs⟩ j (c.toNat-j) acc∧wr.heap[w.heap.size]?=some (.cells #[.int .i64 0,.int .i64 0,.int .i64 0,.slice none 0 0] 146 (0,0))∧wr.heap[w2.heap.size]?=some (.cells #[.int .i64 k,.int .i64 g,.int .i64 n,.int .i64 x,.int .i64 c,.slice ca m cc] 141 (0,0))∧
    wr.heap[w2.heap.size+1]?=some (.cells #[.int .i64 k,.int .i64 g,.int .i64 n,.slice pa N pc] 146 (0,0))∧Below w.heap.size w wr) (fun jv _=>(c-intOf jv).toNat)
   case atStart=>exact⟨1,bs,m,ca,cc,Nat.le_refl _,by omega,rfl,HML.out,by have:=HML.out;omega,HO5.out,HJ.out,HR5.out,HT5.out,HU5.out,HBD5.out⟩
   case round=>
    obtain⟨j,acc,N,pa,pc,hj1,hjc,rfl,hacc,hN,hO,hJ,hR,hT,hU,hB⟩:=hrel;have hqR:=(Ax hR).1;have hqT:=(Ax hT).1;have hqU:=(Ax hU).1;have hrf:∀j:Nat,wr.frozen? ⟨w.heap.size,j,none⟩=false:=fun j=>frozen_of_row _ _ _ _ _ hR
    have hy0:=Cq hR 0;have hy1:=Cq hR 1;have hy2:=Cq hR 2;have hy3:=Cq hR 3;have ht4:=Cq hT 4;obtain⟨HACC,HO,HJ,HR,HT,HU,HB⟩:=Hd7 hacc hO hJ hR hT hU hB;clear hacc hO hJ hR hT hU hB;by_cases hlt:(j:Int)<c
    ·have hstep:c.toNat-j=(c.toNat-(j+1))+1:=by omega
     by_cases hjM:j<M
     ·have hjMI:¬((M:Int)≤(j:Int)):=by omega
      have hjMI2:(j:Int)<(M:Int):=by omega
      have hvr:=HV.out.below HB.out;obtain⟨sg',so',x1,n1,c1,e,hcj,hsj⟩:=hvr.get (i:=j) (by rw[HM.out];exact hjM);cases e;obtain⟨b2,hb2⟩:=Xq (L[j]'(by rw[HM.out];exact hjM));rw[hb2]at hsj;have hget:L[j]?=some b2:=by rw[List.getElem?_eq_getElem (by rw[HM.out];exact hjM),hb2]
      obtain⟨P2,hP2⟩:∃P,Ak b2=P:=⟨_,rfl⟩;obtain⟨E2,hE2⟩:∃E,Al b2=E:=⟨_,rfl⟩;obtain⟨m2,hm2⟩:∃m,P2.bytes.length=m:=⟨_,rfl⟩;have hdec:Ca 80 #[.slice x1 n1 c1] wr (fun e w'=>∃a c,e=.returned (.tuple #[.agg #[.int .i64 P2.kind,.int .i64 P2.gen,.int .i64 P2.num,.int .i64 P2.idx,.int .i64 P2.cnt,.slice a m2 c],.int .i64 E2])∧
       w'.ownsRow wr.heap.size 5 1 (.slice a m2 c) m2 (bvs P2.bytes)∧Below wr.heap.size wr w'):=
       (EQ b2 _ hsj.at_).mono (fun e w' h=>by have:=h.parts;rwa [hP2,hE2,hm2]at this)
      have hsm2:E2=0→P2.bytes.length≤224:=fun h=>by rw[←hP2];exact(Es (by rw[hE2];exact h)).2.2.2.2.2.1
      have hk1:E2≠0→Av L=(.zero,0,E2):=fun h=>by rw[HJ.out,hstep,AU,hget];simp only;rw[Ip (by rw[hE2];exact h),hE2]
      have hk2:E2=0→CT ⟨k,g,n,x,c,bs⟩ P2 j=false→Av L=(.zero,0,30):=fun h h2=>by rw[HJ.out,hstep,AU,hget];simp only;rw[In (by rw[hE2];exact fun h3=>h3 h),hP2,In (by rw[h2];simp)]
      have hk3:E2=0→CT ⟨k,g,n,x,c,bs⟩ P2 j=true→Av L=AU L ⟨k,g,n,x,c,bs⟩ (j+1) (c.toNat-(j+1)) (acc++P2.bytes):=fun h h2=>by rw[HJ.out,hstep,AU,hget];simp only;rw[In (by rw[hE2];exact fun h3=>h3 h),hP2,Ip h2]
      obtain⟨k2,g2,n2,x2,c2,bs2⟩:=P2;simp only at hdec hsm2 hk1 hk2 hk3 hm2;unfold CT at hk2 hk3;simp only at hk2 hk3;obtain⟨HDEC2,HSM2,HK1,HK2,HK3,HM2⟩:=Hd6 hdec hsm2 hk1 hk2 hk3 hm2;clear hdec hsm2 hk1 hk2 hk3 hm2 hvr hsj hb2 hget hP2 hE2 hstep;go_wp2_with fail;refine HDEC2.out.mono ?_;rintro e w6 ⟨ca2,cc2,rfl,hO6,hb6⟩;have hR6:=(hb6.block _ hqR).trans HR.out;have hbd6:=Tq HB.out hb6;have hq6:=hb6.size;have hqR6:w.heap.size<w6.heap.size:=by omega
      have hrf:∀j:Nat,w6.frozen? ⟨w.heap.size,j,none⟩=false:=fun j=>frozen_of_row _ _ _ _ _ hR6
      have hy0:=Cq hR6 0;have hy1:=Cq hR6 1;have hy2:=Cq hR6 2;have hy3:=Cq hR6 3;by_cases hE2:E2=0
      ·subst hE2;have hm2224:=HSM2.out (by simp);have hT6:=(hb6.block _ hqT).trans HT.out;have hU6:=(hb6.block _ hqU).trans HU.out;have hO6b:=An HO.out hb6;have hp0:=Cq hT6 0;have hp1:=Cq hT6 1;have hp2:=Cq hT6 2;have hp3:=Cq hT6 3;have hp4:=Cq hT6 4;have hu0:=Cq hU6 0;have hu1:=Cq hU6 1;have hu2:=Cq hU6 2;have hu3:=Cq hU6 3;have hlt26:w2.heap.size<w6.heap.size:=by omega
       have hlt26b:w2.heap.size+1<w6.heap.size:=by omega
       have huf:w6.frozen? ⟨w2.heap.size+1,3,none⟩=false:=frozen_of_row _ _ _ _ _ hU6;obtain⟨HT6,HU6,HR6,HO6,HO6B,HBD6⟩:=Hd6 hT6 hU6 hR6 hO6 hO6b hbd6;clear hT6 hU6 hR6 hO6 hO6b hbd6 hb6;by_cases hd0:x2=(j:Int)
       ·have he0:(x2 !=(j:Int))=false:=by simp[hd0]
        by_cases hd1:c2=c
        ·have he1:(c2 !=c)=false:=by simp[hd1]
         by_cases hd2:k2=k
         ·have he2:(k2 !=k)=false:=by simp[hd2]
          by_cases hd3:g2=g
          ·have he3:(g2 !=g)=false:=by simp[hd3]
           by_cases hd4:n2=n
           ·have he4:(n2 !=n)=false:=by simp[hd4]
            have hsame:(k2==k&&g2==g&&n2==n&&x2==(j:Int)&&c2==c)=true:=by simp[hd0,hd1,hd2,hd3,hd4]
            have hk3:=HK3.out (by simp) hsame;have hba:Below w6.heap.size w6 (w6.alloc (.cells #[.int .i64 k2,.int .i64 g2,.int .i64 n2,.int .i64 x2,.int .i64 c2,.slice ca2 m2 cc2] 141)):=Rq.alloc Lr _;have hOa:=An HO6B.out hba;have hPa:=An HO6.out hba;have hTa:=(hba.block _ hlt26).trans HT6.out;have hUa:=(hba.block _ hlt26b).trans HU6.out;have hRa:=(hba.block _ hqR6).trans HR6.out;have hbda:=Tq HBD6.out hba;obtain⟨w7,hw7⟩:=Xq (w6.alloc (.cells #[.int .i64 k2,.int .i64 g2,.int .i64 n2,.int .i64 x2,.int .i64 c2,.slice ca2 m2 cc2] 141));rw[hw7]at hOa hPa hTa hUa hRa hbda;have hpb:=Bk hPa;obtain⟨HKK,HW7,HOA,HPB,HTA,HUA,HRA,HBDA⟩:=Hd8 hk3 hw7 hOa hpb hTa hUa hRa hbda;clear hk3 hba hOa hPa hTa hUa hRa hbda hw7 hpb hsame hrf hy0 hy1 hy2 hy3 hd0 hd1 hd2 hd3 hd4;go_wp2_with (at_builtin;rw[HW7.out];refine BR rfl (.tmp 96) (.tmp 98) rfl rfl HOA.out rfl HPB.out.at_ HPB.out.nil (by have:=HM2.out;omega) HBDA.out.size ?_)
            intro a9 cap9 w9 hO9 hg9;rw[HM2.out]at hO9⊢;have hB9:=HBDA.out.trans (grown_below HOA.out hg9 HBDA.out.size);have keep:∀{b:Nat} {c:Array Value} {T:TypeId},w7.heap[b]?=some (.cells c T (0,0))→5≠T→w9.heap[b]?=some (.cells c T (0,0)):=fun h hne=>(hg9.block _ (Ax h).1 (fun e=>Da HOA.out h hne _ e.symm rfl)).trans h
            have hR9:=keep HRA.out (by decide);have hT9:=keep HTA.out (by decide);have hU9:=keep HUA.out (by decide);have hu93:=Cq hU9 3;have huf9:w9.frozen? ⟨w2.heap.size+1,3,none⟩=false:=frozen_of_row _ _ _ _ _ hU9;obtain⟨w10,hw10⟩:=Xq (w9.setCell ⟨w2.heap.size+1,3,none⟩ (.slice a9 (N+m2) cap9));have hcs:Chg (fun k=>k=w2.heap.size+1) w9 w10:=hw10▸Chg.setCell _ _ rfl;have hU10:w10.heap[w2.heap.size+1]?=some (.cells #[.int .i64 k,.int .i64 g,.int .i64 n,.slice a9 (N+m2) cap9] 146 (0,0)):=by rw[←hw10];exact Sc _ _ 3 _ _ (.slice a9 (N+m2) cap9) hU9
            have hT10:=Ck hcs hT9;have hR10:=Ck hcs hR9;have hO10:=AJ hO9 hcs (fun k hk h=>Da hO9 hU9 (by decide) k hk h);have hB10:=Ek hB9 hcs (by omega) Lr;obtain⟨HO9,HB9,HR9,HT9,HU9,HW10⟩:=Hd6 hO10 hB10 hR10 hT10 hU10 hw10;clear hO9 hg9 hB9 hR9 hT9 hU9 keep hcs hU10 hT10 hR10 hO10 hB10 hw10;go_wp2_with fail;rw[HW10.out];go_roundw
            case rel=>exact⟨j+1,acc++bs2,N+m2,a9,cap9,by omega,by omega,by go_num,by rw[List.length_append,HACC.out,HM2.out],by have:=HM2.out;omega,HO9.out,HKK.out,HR9.out,HT9.out,HU9.out,HB9.out⟩
            case measure=>simp[intOf];omega
           ·have he4:(n2 !=n)=true:=by simpa using hd4
            have hs':(k2==k&&g2==g&&n2==n&&x2==(j:Int)&&c2==c)=false:=by simp[hd4]
            have hk2:=HK2.out (by simp) hs';have HKK:=Hd hk2;clear hk2 hs' hd0 hd1 hd2 hd3 hd4;go_wp2_with fail;exact Bv (hr:=by simp[go_sem,hy0,hy1,hy2,hy3,hqR6]) (.tuple #[.agg #[.int .i64 0,.int .i64 0,.int .i64 0,.slice none 0 0],.int .i64 0,.int .i64 30]) (JoinPost.no HKK.out (by first|exact(((((HBD6.out.alloc HBD6.out.size _).setCell Lr _).setCell Lr _).setCell Lr _).setCell Lr _)|exact Cx HBD6.out Lr Lr _ _ _ _ _))
          ·have he3:(g2 !=g)=true:=by simpa using hd3
           have hs':(k2==k&&g2==g&&n2==n&&x2==(j:Int)&&c2==c)=false:=by simp[hd3]
           have hk2:=HK2.out (by simp) hs';have HKK:=Hd hk2;clear hk2 hs' hd0 hd1 hd2 hd3;go_wp2_with fail;exact Bv (hr:=by simp[go_sem,hy0,hy1,hy2,hy3,hqR6]) (.tuple #[.agg #[.int .i64 0,.int .i64 0,.int .i64 0,.slice none 0 0],.int .i64 0,.int .i64 30]) (JoinPost.no HKK.out (by first|exact(((((HBD6.out.alloc HBD6.out.size _).setCell Lr _).setCell Lr _).setCell Lr _).setCell Lr _)|exact Cx HBD6.out Lr Lr _ _ _ _ _))
         ·have he2:(k2 !=k)=true:=by simpa using hd2
          have hs':(k2==k&&g2==g&&n2==n&&x2==(j:Int)&&c2==c)=false:=by simp[hd2]
          have hk2:=HK2.out (by simp) hs';have HKK:=Hd hk2;clear hk2 hs' hd0 hd1 hd2;go_wp2_with fail;exact Bv (hr:=by simp[go_sem,hy0,hy1,hy2,hy3,hqR6]) (.tuple #[.agg #[.int .i64 0,.int .i64 0,.int .i64 0,.slice none 0 0],.int .i64 0,.int .i64 30]) (JoinPost.no HKK.out (by first|exact(((((HBD6.out.alloc HBD6.out.size _).setCell Lr _).setCell Lr _).setCell Lr _).setCell Lr _)|exact Cx HBD6.out Lr Lr _ _ _ _ _))
        ·have he1:(c2 !=c)=true:=by simpa using hd1
         have hs':(k2==k&&g2==g&&n2==n&&x2==(j:Int)&&c2==c)=false:=by simp[hd1]
         have hk2:=HK2.out (by simp) hs';have HKK:=Hd hk2;clear hk2 hs' hd0 hd1;go_wp2_with fail;exact Bv (hr:=by simp[go_sem,hy0,hy1,hy2,hy3,hqR6]) (.tuple #[.agg #[.int .i64 0,.int .i64 0,.int .i64 0,.slice none 0 0],.int .i64 0,.int .i64 30]) (JoinPost.no HKK.out (by first|exact(((((HBD6.out.alloc HBD6.out.size _).setCell Lr _).setCell Lr _).setCell Lr _).setCell Lr _)|exact Cx HBD6.out Lr Lr _ _ _ _ _))
       ·have he0:(x2 !=(j:Int))=true:=by simpa using hd0
        have hs':(k2==k&&g2==g&&n2==n&&x2==(j:Int)&&c2==c)=false:=by simp[hd0]
        have hk2:=HK2.out (by simp) hs';have HKK:=Hd hk2;clear hk2 hs' hd0;go_wp2_with fail;exact Bv (hr:=by simp[go_sem,hy0,hy1,hy2,hy3,hqR6]) (.tuple #[.agg #[.int .i64 0,.int .i64 0,.int .i64 0,.slice none 0 0],.int .i64 0,.int .i64 30]) (JoinPost.no HKK.out (by first|exact(((((HBD6.out.alloc HBD6.out.size _).setCell Lr _).setCell Lr _).setCell Lr _).setCell Lr _)|exact Cx HBD6.out Lr Lr _ _ _ _ _))
      ·have hk1:=HK1.out hE2;have hE2b:(E2 !=0)=true:=by simpa using hE2
       have HKK:=Hd hk1;have HBD6:=Hd hbd6;clear hk1 hE2 hO6 hb6 hR6 hbd6;go_wp2_with fail;exact Bv (hr:=by simp[go_sem,hy0,hy1,hy2,hy3,hqR6]) (.tuple #[.agg #[.int .i64 0,.int .i64 0,.int .i64 0,.slice none 0 0],.int .i64 0,.int .i64 E2]) (JoinPost.no HKK.out (by first|exact(((((HBD6.out.alloc HBD6.out.size _).setCell Lr _).setCell Lr _).setCell Lr _).setCell Lr _)|exact Cx HBD6.out Lr Lr _ _ _ _ _))
     ·have hjMI:(M:Int)≤(j:Int):=by omega
      have hk:Av L=(.zero,0,23):=by rw[HJ.out,hstep,AU,List.getElem?_eq_none (by rw[HM.out];omega)]
      have HKK:=Hd hk;clear hk hstep;go_wp2_with fail;exact Bv (hr:=by simp[go_sem,hy0,hy1,hy2,hy3]) (.tuple #[.agg #[.int .i64 0,.int .i64 0,.int .i64 0,.slice none 0 0],.int .i64 0,.int .i64 23]) (JoinPost.no HKK.out (by first|exact(((((HB.out).setCell Lr _).setCell Lr _).setCell Lr _).setCell Lr _)|exact Cx HB.out Lr Lr _ _ _ _ _))
    ·obtain rfl :(j:Int)=c:=by omega
     have hres:Av L=(⟨k,g,n,acc⟩,j,0):=by
      rw[HJ.out];have e:(j:Int).toNat-j=0:=by omega
      rw[e,AU];simp
     have HRES:=Hd hres;clear hres;have hcell:∀w':World,Chg (fun k=>k=w.heap.size) wr w'→w'.heap[w2.heap.size]?=some (.cells #[.int .i64 k,.int .i64 g,.int .i64 n,.int .i64 x,.int .i64 j,.slice ca m cc] 141 (0,0))∧w'.heap[w2.heap.size+1]?=some (.cells #[.int .i64 k,.int .i64 g,.int .i64 n,.slice pa N pc] 146 (0,0)):=fun w' h=>⟨(h.block _ hqT (by omega)).trans HT.out,(h.block _ hqU (by omega)).trans HU.out⟩
     have HCELL:=Hd hcell;clear hcell;go_wp2_with fail;refine Np ?_;refine AY 5 (Chg (fun k=>k=w.heap.size) wr) (by kernel_rfl) ?_;have hS0:(Chg (fun k=>k=w.heap.size) wr) wr.drew:=(Chg.refl _ _).drew;have hRd:wr.drew.heap[w.heap.size]?=some (.cells #[.int .i64 0,.int .i64 0,.int .i64 0,.slice none 0 0] 146 (0,0)):=HR.out;obtain⟨wd,hwd⟩:=Xq (wr.drew);rw[hwd]at hS0 hRd⊢;have hBd:Below w.heap.size w wd:=hwd▸HB.out.drew;have hOd:wd.ownsRow w.heap.size 5 1 (.slice pa N pc) N (bvs acc):=hwd▸An HO.out (show Below wr.heap.size wr wr.drew from Rq.drew);clear hwd;refine tkF 0 hS0 ?_ (hy:=fun w' hw'=>by(have h9:=(HCELL.out w' hw').2;have q0:w'.cell? ⟨w2.heap.size+1,0,none⟩=some (.int .i64 k):=(by rw[cr h9];rfl);have q1:w'.cell? ⟨w2.heap.size+1,1,none⟩=some (.int .i64 g):=(by rw[cr h9];rfl);have q2:w'.cell? ⟨w2.heap.size+1,2,none⟩=some (.int .i64 n):=(by rw[cr h9];rfl);have q3:w'.cell? ⟨w2.heap.size+1,3,none⟩=some (.slice pa N pc):=(by rw[cr h9];rfl);clear h9 hw';first| (go_simp;rfl)| (go_simp;done)));refine tkF 1 hS0 ?_;refine tkF 2 hS0 ?_ (hy:=fun w' hw'=>by(have h9:=(HCELL.out w' hw').1;have q4:w'.cell? ⟨w2.heap.size,4,none⟩=some (.int .i64 j):=(by rw[cr h9];rfl);clear h9 hw';first| (go_simp;rfl)| (go_simp;done)));have hrfd:∀j:Nat,wd.frozen? ⟨w.heap.size,j,none⟩=false:=fun j=>frozen_of_row _ _ _ _ _ hRd
     have hz0:=Cq hRd 0;have hz1:=Cq hRd 1;have hz2:=Cq hRd 2;have hz3:=Cq hRd 3;refine dF 3 fun K hK=>?_
     go_simp;obtain⟨we,hwe⟩:=Xq (((((wd.setCell ⟨w.heap.size,0,none⟩ (.int .i64 k)).setCell ⟨w.heap.size,1,none⟩ (.int .i64 g)).setCell ⟨w.heap.size,2,none⟩ (.int .i64 n)).setCell ⟨w.heap.size,3,none⟩ (.slice pa N pc)));have hce:Chg (fun k=>k=w.heap.size) wd we:=hwe▸Ot _ _ _ _ _ _;have hRe:we.heap[w.heap.size]?=some (.cells #[.int .i64 k,.int .i64 g,.int .i64 n,.slice pa N pc] 146 (0,0)):=by rw[←hwe];exact Sc _ _ 3 _ _ _ (Sc _ _ 2 _ _ _ (Sc _ _ 1 _ _ _ (Sc _ _ 0 _ _ _ hRd)))
     have hSe:Chg (fun k=>k=w.heap.size) wr we:=hS0.trans hce (fun _ h=>.inl h)
     try rw[hwe]
     refine Kq hK (fun _=>hSe) ?_;refine dF 4 fun K hK=>?_
     go_simp;refine Kq hK (fun _=>hSe) ?_;refine dF 5 fun K hK=>?_
     go_simp;refine hK _ _ (fun h=>absurd rfl h) ?_;refine eF ?_;have hOe:=AJ hOd hce (fun k hk h=>Da hOd hRd (by decide) k hk h);have hBe:=Ek hBd hce Lr Lr;have hw0:=Cq hRe 0;have hw1:=Cq hRe 1;have hw2:=Cq hRe 2;have hw3:=Cq hRe 3;clear hz0 hz1 hz2 hz3 hy0 hy1 hy2 hy3;have HOE:=Hd hOe;have HBE:=Hd hBe;clear hOd hRd hBd hOe hBe hce hRe hSe hS0;go_wp2_with fail;exact Bv (hr:=by simp[go_sem,hw0,hw1,hw2,hw3]) (.tuple #[.agg #[.int .i64 k,.int .i64 g,.int .i64 n,.slice pa N pc],.int .i64 j,.int .i64 0]) (JoinPost.yes HRES.out HACC.out HOE.out HBE.out)
  ·have hxb:(x !=0)=true:=by simpa using hx
   have hj:=HJ2.out (by simp) hx;have HJ:=Hd hj;clear hj hx;go_wp2_with fail;exact Bv (hr:=by simp[go_sem,hy0,hy1,hy2,hy3,hlt2]) (.tuple #[.agg #[.int .i64 0,.int .i64 0,.int .i64 0,.slice none 0 0],.int .i64 0,.int .i64 30]) (JoinPost.no HJ.out (by first|exact(((((HBD2.out.alloc HBD2.out.size _).setCell Lr _).setCell Lr _).setCell Lr _).setCell Lr _)|exact Cx HBD2.out Lr Lr _ _ _ _ _))
 ·have hEb:(E0 !=0)=true:=by simpa using hE
  have hj:=HJ1.out hE;have HJ:=Hd hj;clear hj hE;go_wp2_with fail;exact Bv (hr:=by simp[go_sem,hy0,hy1,hy2,hy3,hlt2]) (.tuple #[.agg #[.int .i64 0,.int .i64 0,.int .i64 0,.slice none 0 0],.int .i64 0,.int .i64 E0]) (JoinPost.no HJ.out (by first|exact(((((HBD2.out.alloc HBD2.out.size _).setCell Lr _).setCell Lr _).setCell Lr _).setCell Lr _)|exact Cx HBD2.out Lr Lr _ _ _ _ _))
theorem PB (L:List (List UInt8)) (v:Value) (hv:SecsAt w v L) (hM0:L.length<1000000000):Ca 103 #[v] w (JoinPost w L):=by
 cases L with
 |nil=>obtain⟨a,c,rfl⟩:=hv.form;exact PA a c
 |cons b L'=>exact Ou b L' v hv hM0
theorem QG (L:List (List UInt8)) (v:Value) (hv:SecsAt w v L) (hM0:L.length<1000000000) (hK:KAt w):Ca 107 #[v] w (JoinPost w L):=by
 cases L with
 |nil=>obtain⟨a,c,rfl⟩:=hv.form;exact QF a c
 |cons b L'=>exact Pz b L' v hv hM0 hK
variable {n:Nat}{v:Value}{ops:Array Oper}
def EH (r:RecD) (p:Value):List Value:=[.int .i64 r.kind,.int .i64 r.gen,.int .i64 r.num,p]
def D9:List RecD→List Value→List Value
 |r::L,p::ps=>EH r p++D9 L ps
 |_,_=>[]
theorem FN:∀(L:List RecD) (ps:List Value) (r:RecD) (p:Value),ps.length=L.length→D9 (L++[r]) (ps++[p])=D9 L ps++EH r p
 | [],[],r,p,_=>by simp[D9]
 |r'::L,p'::ps,r,p,h=>by
  simp only[List.cons_append,D9];rw[FN L ps r p (by simpa using h),List.append_assoc]
theorem F4:∀(L:List RecD) (ps:List Value) (i j:Nat) (hi:i<L.length) (h:ps.length=L.length),j<4→(D9 L ps)[i*4+j]?=(EH L[i] (ps[i]'(by omega)))[j]?
 |r::L,p::ps,0,j,_,_,hj=>by
  rw[D9,Nat.zero_mul,Nat.zero_add,List.getElem?_append_left (by simp[EH];omega)];rfl
 |r::L,p::ps,i+1,j,hi,h,hj=>by
  have e:(i+1)*4+j=(EH r p).length+(i*4+j):=by simp[EH];omega
  rw[D9,e,List.getElem?_append_right (by omega),Nat.add_sub_cancel_left,F4 L ps i j (by simpa using hi) (by simpa using h) hj];rfl
structure OwnRecs (T:TypeId) (w:World) (B:Nat) (v:Value) (L:List RecD):Prop where
 ex:∃ps,ps.length=L.length∧w.ownsRow B T 4 v L.length (D9 L ps)∧∀i (h:i<L.length),∃u,ps[i]?=some u∧w.ownsRow B 5 1 u L[i].load.length (bvs L[i].load)
section
variable {T:TypeId} {w w':World} {B:Nat} {v:Value} {L:List RecD}
theorem ES (T:TypeId) (w:World) (B:Nat):OwnRecs T w B (.slice none 0 0) []:=⟨[],rfl,⟨rfl,.inl ⟨rfl,rfl⟩⟩,fun i hi=>by simp at hi⟩
theorem OwnRecs.form (h:OwnRecs T w B v L):∃a cap,v=.slice a L.length cap:=by obtain⟨ps,_,h,_⟩:=h.ex;exact Ag h
theorem OwnRecs.below (h:OwnRecs T w B v L) (hb:Below w.heap.size w w'):OwnRecs T w' B v L:=by obtain⟨ps,h0,h1,h2⟩:=h.ex;refine⟨ps,h0,An h1 hb,fun i hi=>?_⟩;obtain⟨u,h3,h4⟩:=h2 i hi;exact⟨u,h3,An h4 hb⟩
theorem OwnRecs.base (h:OwnRecs T w B v L) {B':Nat} (hB:B'≤B):OwnRecs T w B' v L:=by obtain⟨ps,h0,h1,h2⟩:=h.ex;refine⟨ps,h0,Am h1 hB,fun i hi=>?_⟩;obtain⟨u,h3,h4⟩:=h2 i hi;exact⟨u,h3,Am h4 hB⟩
theorem OwnRecs.get {a:Option Addr}{cap:Nat} (h:OwnRecs T w B (.slice a n cap) L) {i:Nat} (hi:i<L.length):∃g x c,a=some ⟨g,0,none⟩∧w.cell? ⟨g,i*4,none⟩=some (.int .i64 L[i].kind)∧w.cell? ⟨g,i*4+1,none⟩=some (.int .i64 L[i].gen)∧
 w.cell? ⟨g,i*4+2,none⟩=some (.int .i64 L[i].num)∧w.cell? ⟨g,i*4+3,none⟩=some (.slice x L[i].load.length c)∧BytesN w (fun _=>True) (.slice x L[i].load.length c) L[i].load:=by
 obtain⟨ps,h0,h1,h2⟩:=h.ex;obtain⟨u,h3,h4⟩:=h2 i hi;obtain⟨x,c,rfl⟩:=Ag h4;obtain⟨g,cap',e,_,_,hr⟩:=AZ h1 (by omega);cases e;have hp:ps[i]'(by omega)=.slice x L[i].load.length c:=by have:=List.getElem?_eq_getElem (l:=ps) (i:=i) (by omega);rw[h3]at this;simpa using this.symm
 have key:∀j u,j<4→(EH L[i] (.slice x L[i].load.length c))[j]?=some u→w.cell? ⟨g,i*4+j,none⟩=some u:=fun j u hj hu=>hr _ _ (by rw[F4 L ps i j hi h0 hj,hp];exact hu)
 exact⟨g,x,c,rfl,key 0 _ (by omega) rfl,key 1 _ (by omega) rfl,key 2 _ (by omega) rfl,key 3 _ (by omega) rfl,(Bk h4).any⟩
theorem KF {sT:TypeId}{zz:Array Value} (hu:Tryz.prog.underlying sT=some (.slice T)) (hi:(Tryz.prog.info? T).map (fun i=>(i.zero,i.size,i.bytes))=some (some (.agg zz),4,48)) (hzz:zz.size=4) (hT:T≠5)
 {o:Oper} {a:Act} {Q:Exit→Act→World→Prop} {K:Act→World→Prop} (s x:Operand) (ho:o.op=.call {callee:=.builtin .append,args:=#[s,x],argTypes:=#[sT,sT]})
 {r:RecD} {p:Value} (hs:a.eval s=v) (hown:OwnRecs T w B v L) (hp:w.ownsRow B 5 1 p r.load.length (bvs r.load)) {g:Nat} (hx:a.eval x=.slice (some ⟨g,0,none⟩) 1 1) (hg:g=w.heap.size)
 {n:Nat} (hL:L.length=n) (hn:n<1000000000) (hB:B≤w.heap.size)
 (h:∀a' cap' w',OwnRecs T w' B (.slice a' (n+1) cap') (L++[r])→Below B w w'→K (a.put o.dst (.slice a' (n+1) cap')) w'):
 o.wp Tryz.prog a (w.alloc (.cells #[.int .i64 r.kind,.int .i64 r.gen,.int .i64 r.num,p] T)) K Q:=by
 subst hL hg;obtain⟨i0,hi,hz0,hz1,hz2⟩:=info_parts hi;have hba:Below w.heap.size w (w.alloc (.cells #[.int .i64 r.kind,.int .i64 r.gen,.int .i64 r.num,p] T)):=Rq.alloc Lr _;obtain⟨ps,h0,hr,he⟩:=hown.ex;have hr1:=An hr hba;have hp1:=An hp hba;obtain⟨ua,uc,hue⟩:=Ag hp;refine wp_append_lies _ s x sT ho B T i0 _ 4 48 hu hi hz0 hz1 hz2 (by simp[Value.cells,hzz]) (by decide) v L.length (D9 L ps) hs hr1
  ⟨w.heap.size,0,none⟩ 1 1 (EH r p) hx rfl (World.news_of_block (cs:=#[.int .i64 r.kind,.int .i64 r.gen,.int .i64 r.num,p]) (t:=T) (fr:=(0,0)) (Hn)) (fun y hy=>by simp only[EH,List.mem_cons,List.not_mem_nil,or_false]at hy;rcases hy with rfl |rfl |rfl |rfl <;>first|rfl | (rw[hue];rfl)) (by decide) (by unfold maxLen;omega) (by omega) (by rw[Sz];omega) _ rfl ?_
 intro g' cap' w' hown' hgrow hat hlt;have hb':Below B w w':=(hba.mono hB).trans (grown_below hr1 hgrow (by rw[Sz];omega));have keep:∀y m (ys:List UInt8),(w.alloc (.cells #[.int .i64 r.kind,.int .i64 r.gen,.int .i64 r.num,p] T)).ownsRow B 5 1 y m (bvs ys)→w'.ownsRow B 5 1 y m (bvs ys):=fun y m ys hy=>World.ownsRow.kept hy hgrow (IB hr1 hy hT)
 refine h _ cap' w' ⟨ps++[p],by simp[h0],by rw[List.length_append,FN L ps r p h0];exact hown',fun i hi=>?_⟩ hb';by_cases hlt:i<L.length
 ·obtain⟨y,h1,h2⟩:=he i hlt;refine⟨y,by rw[List.getElem?_append_left (by omega)];exact h1,?_⟩;rw[List.getElem_append_left hlt];exact keep _ _ _ (An h2 hba)
 ·rw[List.length_append]at hi;simp at hi;obtain rfl :i=L.length:=by omega
  refine⟨p,by rw[List.getElem?_append_right (by omega),h0,Nat.sub_self];rfl,?_⟩;simp only[List.getElem_append_right Lr,Nat.sub_self,List.getElem_cons_zero];exact keep _ _ _ hp1
end
theorem NH:(Tryz.prog.info? 111).map (fun i=>(i.zero,i.size,i.bytes))=some (some (.agg #[.int .i64 0,.int .i64 0,.int .i64 0,.slice none 0 0]),4,48):=by kernel_rfl
theorem QH:(Tryz.prog.info? 146).map (fun i=>(i.zero,i.size,i.bytes))=some (some (.agg #[.int .i64 0,.int .i64 0,.int .i64 0,.slice none 0 0]),4,48):=by kernel_rfl
theorem Lb {L:List RecD}{rest:List Oper} (hgd:o.guard=none) (s x:Operand) (ho:o.op=.call {callee:=.builtin .append,args:=#[s,x],argTypes:=#[134,134]})
 {r:RecD} {p:Value} (hs:a.eval s=v) (hown:OwnRecs 111 w B v L) (hp:w.ownsRow B 5 1 p r.load.length (bvs r.load)) {g:Nat} (hx:a.eval x=.slice (some ⟨g,0,none⟩) 1 1) (hg:g=w.heap.size)
 {n:Nat} (hL:L.length=n) (hn:n<1000000000) (hB:B≤w.heap.size)
 (h:∀a' cap' w',OwnRecs 111 w' B (.slice a' (n+1) cap') (L++[r])→Below B w w'→wpList Tryz.prog ops Q rest (a.put o.dst (.slice a' (n+1) cap')) w'):
 wpList Tryz.prog ops Q (o::rest) a (w.alloc (.cells #[.int .i64 r.kind,.int .i64 r.gen,.int .i64 r.num,p] 111)):=
 wpList_plain hgd fun _ hK=>KF Tryz.underlying134 NH rfl (by decide) s x ho hs hown hp hx hg hL hn hB fun a' cap' w' h1 h2=>hK _ _ (h a' cap' w' h1 h2)
theorem Kh {L:List RecD}{rest:List Oper} (hgd:o.guard=none) (s x:Operand) (ho:o.op=.call {callee:=.builtin .append,args:=#[s,x],argTypes:=#[150,150]})
 {r:RecD} {p:Value} (hs:a.eval s=v) (hown:OwnRecs 146 w B v L) (hp:w.ownsRow B 5 1 p r.load.length (bvs r.load)) {g:Nat} (hx:a.eval x=.slice (some ⟨g,0,none⟩) 1 1) (hg:g=w.heap.size)
 {n:Nat} (hL:L.length=n) (hn:n<1000000000) (hB:B≤w.heap.size)
 (h:∀a' cap' w',OwnRecs 146 w' B (.slice a' (n+1) cap') (L++[r])→Below B w w'→wpList Tryz.prog ops Q rest (a.put o.dst (.slice a' (n+1) cap')) w'):
 wpList Tryz.prog ops Q (o::rest) a (w.alloc (.cells #[.int .i64 r.kind,.int .i64 r.gen,.int .i64 r.num,p] 146)):=
 wpList_plain hgd fun _ hK=>KF Tryz.underlying150 QH rfl (by decide) s x ho hs hown hp hx hg hL hn hB fun a' cap' w' h1 h2=>hK _ _ (h a' cap' w' h1 h2)
variable {T:TypeId}{w':World}{m:Nat}
theorem Ma {l:List (List UInt8)} (h:(Av l).2.2=0):(Av l).2.1≤586:=by
 cases l with
 |nil=>cases h
 |cons b l=>
  rw[Av]at h⊢;by_cases h1:Al b≠0
  ·rw[Ip h1]at h;exact absurd h h1
  ·rw[In h1]at h⊢;by_cases h2:(Ak b).idx≠0
   ·rw[Ip h2]at h;cases h
   ·rw[In h2]at h⊢;rw[Eq _ _ _ _ _ h];have hk:=Es (by simpa using h1:Al b=0);have:=hk.2.2.2.2.2.2.2;omega
def ScanPost (T:TypeId) (w:World) (S:List RecD×Nat×Int) (e:Ending) (w':World):Prop:=
 ∃v,e=.returned (.tuple #[v,.int .i64 (S.2.1:Int),.int .i64 S.2.2])∧OwnRecs T w' w.heap.size v S.1∧Below w.heap.size w w'
theorem ScanPost.mk {S:List RecD×Nat×Int}{out:List RecD}{k:Int} (h:S=(out,m,k)) (ho:OwnRecs T w' w.heap.size v out) (hb:Below w.heap.size w w'):
 ScanPost T w S (.returned (.tuple #[v,.int .i64 m,.int .i64 k])) w':=by
 subst h;exact⟨v,rfl,ho,hb⟩
theorem Jw (g n:Int) (l:List (List UInt8)) (k a:Nat) (out:List RecD) (h:l.length≤a):scanGo g n l k a out=(out,a,0):=by
 cases k with
 |zero=>rfl
 |succ k=>rw[scanGo.eq_2,Ip h]
theorem QI (g n:Int) (L:List (List UInt8)) (v:Value) (hf:Aw 0 g n=false):Ca 94 #[.int .i64 g,.int .i64 n,v] w (ScanPost 111 w (AP g n L)):=by
 have hs:AP g n L=([],0,2):=by unfold AP;rw[Ip hf]
 have HS:=Hd hs;clear hs;obtain⟨w0,hw0⟩:=Xq (w.alloc (.cells #[.int .i64 0,.int .i64 g,.int .i64 n] 169));have hb0:Below w.heap.size w w0:=hw0▸(Below.refl _ w).alloc Lr _;have hval:=BN 0 g n w0;rw[hf]at hval;obtain⟨HVAL,HW0,HB0⟩:=Hd3 hval hw0 hb0;clear hval hw0 hb0 hf;go_enter Tryz.func94,Tryz.ntmps94
 try go_wp2_with fail
 go_step3;go_wp2_with fail;rw[HW0.out];refine HVAL.out.mono ?_;rintro e w1 ⟨rfl,hb1⟩;have HBD:=Hd (Tq HB0.out hb1);clear hb1;go_wp2_with fail
 try rw[Exit.noGoto_ret]
 go_ret3;exact ScanPost.mk HS.out (ES _ _ _) HBD.out
theorem QJ (g n:Int) (L:List (List UInt8)) (v:Value) (hv:SecsAt w v L) (hM0:L.length<1000000) (hK:KAt w):Ca 94 #[.int .i64 g,.int .i64 n,v] w (ScanPost 111 w (AP g n L)):=by
 by_cases hf0:Aw 0 g n=false
 ·exact QI g n L v hf0
 have hf:Aw 0 g n=true:=by simpa using hf0
 have hs:AP g n L=scanGo g n L L.length 0 []:=by unfold AP;rw[In hf0]
 have hgn:0≤n∧n≤2147483647:=by simp only[Aw,Bool.and_eq_true,decide_eq_true_eq]at hf;exact⟨hf.1.2,hf.2⟩
 obtain⟨hn0,hn1⟩:=hgn;obtain⟨va,cap,rfl⟩:=hv.form;obtain⟨M,hM⟩:=Xq (L.length);rw[hM]at hv hM0 hs⊢;obtain⟨HS,HM,HV,HK⟩:=Hd4 hs hM hv hK;obtain⟨w0,hw0⟩:=Xq (w.alloc (.cells #[.int .i64 0,.int .i64 g,.int .i64 n] 169));have hb0:Below w.heap.size w w0:=hw0▸(Below.refl _ w).alloc Lr _;have hval:=BN 0 g n w0;rw[hf]at hval;obtain⟨HVAL,HW0,HB0⟩:=Hd3 hval hw0 hb0;clear hval hw0 hb0 hs hM hv hf hf0 hK;go_enter Tryz.func94,Tryz.ntmps94
 try go_wp2_with fail
 go_step3;go_wp2_with fail;rw[HW0.out];refine HVAL.out.mono ?_;rintro e w1 ⟨rfl,hb1⟩;have HBD:=Hd (Tq HB0.out hb1);clear hb1;go_wp2_with fail;go_step3;go_wp2_with fail;go_loopw [6,7,8] (fun pv av ev wr=>∃(i:Nat) (q:Nat) (out:List RecD) (k:Nat) (pa:Option Addr) (pc:Nat),ev=.int .i64 0∧av=.int .i64 i∧pv=.slice pa q pc∧out.length=q∧q≤i∧i≤M+586∧M≤i+k∧OwnRecs 111 wr w.heap.size pv out∧
  AP g n L=scanGo g n L k i out∧Below w.heap.size w wr) (fun _ av _ _=>M+600-(intOf av).toNat)
 case atStart=>exact⟨0,0,[],M,none,0,rfl,rfl,rfl,rfl,Nat.le_refl _,by omega,by omega,ES _ _ _,HS.out,HBD.out⟩
 case round=>
  obtain⟨i,q,out,k,pa,pc,rfl,rfl,rfl,hq,hqi,hiM,hfu,hO,hJ,hB⟩:=hrel;have HBW:=hB;obtain⟨HQ,HO,HJ,HB⟩:=Hd4 hq hO hJ hB;by_cases hlt:i<M
  ·obtain⟨k,rfl⟩:∃k',k=k'+1:=⟨k-1,by omega⟩;have hvr:=HV.out.below HBW;obtain⟨sg,so,x1,n1,c1,rfl,_,_⟩:=hvr.get (i:=i) (by rw[HM.out];exact hlt);have hcapM:M≤cap:=by obtain⟨a',cap',vs,e,h2,_⟩:=hvr.ex;cases e;rw[HM.out]at h2;exact h2
   have hck:¬cap=i:=by omega
   have hdr:=hvr.drop (i:=i) (by rw[HM.out];omega);obtain⟨R,hR⟩:=Xq (Av (L.drop i));obtain⟨r,cnt,why⟩:=R;obtain⟨m,hm⟩:=Xq (r.load.length);have hjoin:Ca 107 #[.slice (some ⟨sg,so+i,none⟩) (M-i) (cap-i)] wr (fun e w'=>∃a c,e=.returned (.tuple #[.agg #[.int .i64 r.kind,.int .i64 r.gen,.int .i64 r.num,.slice a m c],.int .i64 cnt,.int .i64 why])∧
    w'.ownsRow wr.heap.size 5 1 (.slice a m c) m (bvs r.load)∧Below wr.heap.size wr w'):=
    (QG (L.drop i) _ hdr (by rw[List.length_drop,HM.out];omega) (HK.out.below HBW HK.out.size)).mono (fun e w' h=>by obtain⟨a,c,h1,h2,h3⟩:=h;rw[hR]at h1 h2;simp only[hm]at h1 h2;exact⟨a,c,h1,h2,h3⟩)
   have hcn:why=0→1≤cnt∧cnt≤586:=fun h=>by have h1:=LW (l:=L.drop i) (by rw[hR];exact h);have h2:=Ma (l:=L.drop i) (by rw[hR];exact h);rw[hR]at h1 h2;exact⟨h1,h2⟩
   have hj1:why≠0→AP g n L=(out,i,why):=fun h=>by rw[hJ,scanGo.eq_2,In (by rw[HM.out];omega),hR];simp only;rw[Ip h]
   have hj2:why=0→¬(r.gen=g∧r.num=n+(q:Int))→AP g n L=(out,i,30):=fun h h2=>by rw[hJ,scanGo.eq_2,In (by rw[HM.out];omega),hR];simp only;rw[In (fun h3=>h3 h),hq,In h2]
   have hj3:why=0→(r.gen=g∧r.num=n+(q:Int))→AP g n L=scanGo g n L k (i+cnt) (out++[r]):=fun h h2=>by rw[hJ,scanGo.eq_2,In (by rw[HM.out];omega),hR];simp only;rw[In (fun h3=>h3 h),hq,Ip h2]
   obtain⟨HJOIN,HCN,HJ1,HJ2,HJ3,HMM⟩:=Hd6 hjoin hcn hj1 hj2 hj3 hm;clear hvr hdr hR hm hjoin hcn hj1 hj2 hj3 hJ HBW hB hO hq;go_wp2_with fail;refine HJOIN.out.mono ?_;rintro e w3 ⟨ra,rc,rfl,hP3,hb3⟩;have hO3:=HO.out.below hb3;have hB3:=Tq HB.out hb3;obtain⟨w4,hw4⟩:=Xq (w3.alloc (.cells #[.int .i64 r.kind,.int .i64 r.gen,.int .i64 r.num,.slice ra m rc] 111));have hb4:=Lq hw4;have hO4:=hO3.below hb4;have hP4:=Am (An hP3 hb4) HB.out.size;have hB4:=Tq hB3 hb4;have hN4:=Nq hw4 rfl;have hP4:w4.ownsRow w.heap.size 5 1 (.slice ra m rc) r.load.length (bvs r.load):=by rw[HMM.out];exact hP4
   have hg4:w3.heap.size+1=w4.heap.size:=by rw[←hw4];simp
   have HG4:=Hd hg4;clear hg4;obtain⟨HO4,HP4,HB4,HW4,HN4⟩:=Hd5 hO4 hP4 hB4 hw4 hN4;clear hP3 hb3 hO3 hB3 hb4 hO4 hP4 hB4 hw4 hN4;by_cases hwhy:why=0
   ·subst hwhy;obtain⟨hcn1,hcn2⟩:=HCN.out (by simp);by_cases hgen:r.gen=g
    ·have hgb:(r.gen !=g)=false:=by simp[hgen]
     by_cases hnum:r.num=n+(q:Int)
     ·have hnb:(r.num !=n+(q:Int))=false:=by simp[hnum]
      have hj3:=HJ3.out (by simp) ⟨hgen,hnum⟩;have HJJ:=Hd hj3;clear hj3 hgen hnum;go_wp2_with (at_builtin;rw[HW4.out];refine Lb rfl (.tmp 49) (.tmp 51) rfl rfl HO4.out HP4.out rfl HG4.out HQ.out (by omega) HB4.out.size ?_)
      intro a' cap' w5 ho5 hb5;have HO5:=Hd ho5;have HB5:=Hd (HB4.out.trans hb5);clear ho5 hb5;go_wp2_with fail;go_roundw
      case rel=>exact⟨i+cnt,q+1,out++[r],k,a',cap',rfl,by go_num,rfl,by rw[List.length_append,HQ.out];rfl,by omega,by omega,by omega,HO5.out,HJJ.out,HB5.out⟩
      case measure=>simp[intOf];omega
     ·have hnb:(r.num !=n+(q:Int))=true:=by simpa using hnum
      have hj2:=HJ2.out (by simp) (fun h=>hnum h.2);have HJJ:=Hd hj2;clear hj2 hnum hgen;go_wp2_with fail;rw[HW4.out]
      try rw[Exit.noGoto_ret]
      go_ret3;exact ScanPost.mk HJJ.out HO4.out HB4.out
    ·have hgb:(r.gen !=g)=true:=by simpa using hgen
     have hj2:=HJ2.out (by simp) (fun h=>hgen h.1);have HJJ:=Hd hj2;clear hj2 hgen;go_wp2_with fail;rw[HW4.out]
     try rw[Exit.noGoto_ret]
     go_ret3;exact ScanPost.mk HJJ.out HO4.out HB4.out
   ·have hwb:(why !=0)=true:=by simpa using hwhy
    have hj1:=HJ1.out hwhy;have HJJ:=Hd hj1;clear hj1 hwhy;go_wp2_with fail;rw[HW4.out]
    try rw[Exit.noGoto_ret]
    go_ret3;exact ScanPost.mk HJJ.out HO4.out HB4.out
  ·have hres:AP g n L=(out,i,0):=by rw[hJ,Jw _ _ _ _ _ _ (by rw[HM.out];omega)]
   have HRES:=Hd hres;clear hres hJ HBW hB hO hq;go_wp2_with fail
   try rw[Exit.noGoto_ret]
   go_ret3;exact ScanPost.mk HRES.out HO.out HB.out
theorem PC (g n:Int) (L:List (List UInt8)) (v:Value) (hf:Aw 0 g n=false):Ca 85 #[.int .i64 g,.int .i64 n,v] w (ScanPost 146 w (AP g n L)):=by
 have hs:AP g n L=([],0,2):=by unfold AP;rw[Ip hf]
 have HS:=Hd hs;clear hs;have hval:=fun w=>BX 0 g n w
 rw[hf]at hval;have HVAL:=Hd hval;clear hval hf;go_enter Tryz.func85,Tryz.ntmps85;go_wp2_with fail;refine(HVAL.out _).mono ?_;rintro e w' ⟨rfl,rfl⟩;have HBD:=Hd (Below.refl w.heap.size w);go_wp2_with fail;go_ret3;exact ScanPost.mk HS.out (ES _ _ _) HBD.out
theorem PD (g n:Int) (L:List (List UInt8)) (v:Value) (hv:SecsAt w v L) (hM0:L.length<1000000):Ca 85 #[.int .i64 g,.int .i64 n,v] w (ScanPost 146 w (AP g n L)):=by
 by_cases hf0:Aw 0 g n=false
 ·exact PC g n L v hf0
 have hf:Aw 0 g n=true:=by simpa using hf0
 have hs:AP g n L=scanGo g n L L.length 0 []:=by unfold AP;rw[In hf0]
 have hgn:0≤n∧n≤2147483647:=by simp only[Aw,Bool.and_eq_true,decide_eq_true_eq]at hf;exact⟨hf.1.2,hf.2⟩
 obtain⟨hn0,hn1⟩:=hgn;obtain⟨va,cap,rfl⟩:=hv.form;obtain⟨M,hM⟩:=Xq (L.length);rw[hM]at hv hM0 hs⊢;obtain⟨HS,HM,HV⟩:=Hd3 hs hM hv;have hval:=fun w=>BX 0 g n w
 rw[hf]at hval;have HVAL:=Hd hval;clear hval hs hM hv hf hf0;go_enter Tryz.func85,Tryz.ntmps85;go_wp2_with fail;refine(HVAL.out _).mono ?_;rintro e w' ⟨rfl,rfl⟩;have HBD:=Hd (Below.refl w.heap.size w);go_wp2_with fail;go_loopw [9,10] (fun pv av wr=>∃(i:Nat) (q:Nat) (out:List RecD) (k:Nat) (pa:Option Addr) (pc:Nat),av=.int .i64 i∧pv=.slice pa q pc∧out.length=q∧q≤i∧i≤M+586∧M≤i+k∧OwnRecs 146 wr w.heap.size pv out∧
  AP g n L=scanGo g n L k i out∧Below w.heap.size w wr) (fun _ av _=>M+600-(intOf av).toNat)
 case atStart=>exact⟨0,0,[],M,none,0,rfl,rfl,rfl,Nat.le_refl _,by omega,by omega,ES _ _ _,HS.out,HBD.out⟩
 case round=>
  obtain⟨i,q,out,k,pa,pc,rfl,rfl,hq,hqi,hiM,hfu,hO,hJ,hB⟩:=hrel;have HBW:=hB;obtain⟨HQ,HO,HJ,HB⟩:=Hd4 hq hO hJ hB;by_cases hlt:i<M
  ·obtain⟨k,rfl⟩:∃k',k=k'+1:=⟨k-1,by omega⟩;have hvr:=HV.out.below HBW;obtain⟨sg,so,x1,n1,c1,rfl,_,_⟩:=hvr.get (i:=i) (by rw[HM.out];exact hlt);have hcapM:M≤cap:=by obtain⟨a',cap',vs,e,h2,_⟩:=hvr.ex;cases e;rw[HM.out]at h2;exact h2
   have hck:¬cap=i:=by omega
   have hdr:=hvr.drop (i:=i) (by rw[HM.out];omega);obtain⟨R,hR⟩:=Xq (Av (L.drop i));obtain⟨r,cnt,why⟩:=R;obtain⟨m,hm⟩:=Xq (r.load.length);have hjoin:Ca 103 #[.slice (some ⟨sg,so+i,none⟩) (M-i) (cap-i)] wr (fun e w'=>∃a c,e=.returned (.tuple #[.agg #[.int .i64 r.kind,.int .i64 r.gen,.int .i64 r.num,.slice a m c],.int .i64 cnt,.int .i64 why])∧
    w'.ownsRow wr.heap.size 5 1 (.slice a m c) m (bvs r.load)∧Below wr.heap.size wr w'):=
    (PB (L.drop i) _ hdr (by rw[List.length_drop,HM.out];omega)).mono (fun e w' h=>by obtain⟨a,c,h1,h2,h3⟩:=h;rw[hR]at h1 h2;simp only[hm]at h1 h2;exact⟨a,c,h1,h2,h3⟩)
   have hcn:why=0→1≤cnt∧cnt≤586:=fun h=>by have h1:=LW (l:=L.drop i) (by rw[hR];exact h);have h2:=Ma (l:=L.drop i) (by rw[hR];exact h);rw[hR]at h1 h2;exact⟨h1,h2⟩
   have hj1:why≠0→AP g n L=(out,i,why):=fun h=>by rw[hJ,scanGo.eq_2,In (by rw[HM.out];omega),hR];simp only;rw[Ip h]
   have hj2:why=0→¬(r.gen=g∧r.num=n+(q:Int))→AP g n L=(out,i,30):=fun h h2=>by rw[hJ,scanGo.eq_2,In (by rw[HM.out];omega),hR];simp only;rw[In (fun h3=>h3 h),hq,In h2]
   have hj3:why=0→(r.gen=g∧r.num=n+(q:Int))→AP g n L=scanGo g n L k (i+cnt) (out++[r]):=fun h h2=>by rw[hJ,scanGo.eq_2,In (by rw[HM.out];omega),hR];simp only;rw[In (fun h3=>h3 h),hq,Ip h2]
   obtain⟨HJOIN,HCN,HJ1,HJ2,HJ3,HMM⟩:=Hd6 hjoin hcn hj1 hj2 hj3 hm;clear hvr hdr hR hm hjoin hcn hj1 hj2 hj3 hJ HBW hB hO hq;go_wp2_with fail;refine HJOIN.out.mono ?_;rintro e w3 ⟨ra,rc,rfl,hP3,hb3⟩;have hO3:=HO.out.below hb3;have hB3:=Tq HB.out hb3;obtain⟨w4,hw4⟩:=Xq (w3.alloc (.cells #[.int .i64 r.kind,.int .i64 r.gen,.int .i64 r.num,.slice ra m rc] 146));have hb4:=Lq hw4;have hO4:=hO3.below hb4;have hP4:=Am (An hP3 hb4) HB.out.size;have hB4:=Tq hB3 hb4;have hN4:=Nq hw4 rfl;have hP4:w4.ownsRow w.heap.size 5 1 (.slice ra m rc) r.load.length (bvs r.load):=by rw[HMM.out];exact hP4
   have hg4:w3.heap.size+1=w4.heap.size:=by rw[←hw4];simp
   have HG4:=Hd hg4;clear hg4;obtain⟨HO4,HP4,HB4,HW4,HN4⟩:=Hd5 hO4 hP4 hB4 hw4 hN4;clear hP3 hb3 hO3 hB3 hb4 hO4 hP4 hB4 hw4 hN4;by_cases hwhy:why=0
   ·subst hwhy;obtain⟨hcn1,hcn2⟩:=HCN.out (by simp);by_cases hgen:r.gen=g
    ·have hgb:(r.gen !=g)=false:=by simp[hgen]
     by_cases hnum:r.num=n+(q:Int)
     ·have hnb:(r.num !=n+(q:Int))=false:=by simp[hnum]
      have hj3:=HJ3.out (by simp) ⟨hgen,hnum⟩;have HJJ:=Hd hj3;clear hj3 hgen hnum;go_wp2_with (at_builtin;rw[HW4.out];refine Kh rfl (.tmp 50) (.tmp 52) rfl rfl HO4.out HP4.out rfl HG4.out HQ.out (by omega) HB4.out.size ?_)
      intro a' cap' w5 ho5 hb5;have HO5:=Hd ho5;have HB5:=Hd (HB4.out.trans hb5);clear ho5 hb5;go_wp2_with fail;go_roundw
      case rel=>exact⟨i+cnt,q+1,out++[r],k,a',cap',by go_num,rfl,by rw[List.length_append,HQ.out];rfl,by omega,by omega,by omega,HO5.out,HJJ.out,HB5.out⟩
      case measure=>simp[intOf];omega
     ·have hnb:(r.num !=n+(q:Int))=true:=by simpa using hnum
      have hj2:=HJ2.out (by simp) (fun h=>hnum h.2);have HJJ:=Hd hj2;clear hj2 hnum hgen;go_wp2_with fail;rw[HW4.out];go_ret3;exact ScanPost.mk HJJ.out HO4.out HB4.out
    ·have hgb:(r.gen !=g)=true:=by simpa using hgen
     have hj2:=HJ2.out (by simp) (fun h=>hgen h.1);have HJJ:=Hd hj2;clear hj2 hgen;go_wp2_with fail;rw[HW4.out];go_ret3;exact ScanPost.mk HJJ.out HO4.out HB4.out
   ·have hwb:(why !=0)=true:=by simpa using hwhy
    have hj1:=HJ1.out hwhy;have HJJ:=Hd hj1;clear hj1 hwhy;go_wp2_with fail;rw[HW4.out];go_ret3;exact ScanPost.mk HJJ.out HO4.out HB4.out
  ·have hres:AP g n L=(out,i,0):=by rw[hJ,Jw _ _ _ _ _ _ (by rw[HM.out];omega)]
   have HRES:=Hd hres;clear hres hJ HBW hB hO hq;go_wp2_with fail;go_ret3;exact ScanPost.mk HRES.out HO.out HB.out
end Go.Proofs.YtplclpileejemaaGreatDoor
namespace Go.Proofs.YtplclpileejemaaGreatDoor
open Go.RowKit
variable {w w':World}{F G:Nat→Prop}{v:Value}{l:List UInt8}{B:Nat}{o:Oper}{a:Act}{Q:Exit→Act→World→Prop}{K:Act→World→Prop}{ops:Array Oper}
theorem BytesAt.weak (h:BytesAt w F v l) (hFG:∀k,k<w.heap.size→F k→G k):BytesAt w G v l:=by obtain⟨a,c,e,h1,h2⟩:=h;exact⟨a,c,e,h1,fun hne=>by obtain⟨g,off,e2,h3,h4,h5⟩:=h2 hne;exact⟨g,off,e2,hFG g h4 h3,h4,h5⟩⟩
theorem BytesN.weak (h:BytesN w F v l) (hFG:∀k,k<w.heap.size→F k→G k):BytesN w G v l:=⟨h.at_.weak hFG,h.nil⟩
theorem BytesN.form (h:BytesN w F v l):∃a cap,v=.slice a l.length cap:=h.at_.form
theorem BytesN.chg (h:BytesN w F v l) (hc:Chg G w w') (hd:∀k,k<w.heap.size→F k→¬G k):BytesN w' F v l:=
 ((h.weak (G:=fun k=>F k∧k<w.heap.size) (fun k h1 h2=>⟨h2,h1⟩)).kept hc (fun k h1=>hd k h1.2 h1.1)).weak (fun k _ h1=>h1.1)
theorem OwnBytes.n (h:OwnBytes w F v l):BytesN w F v l:=⟨h.bytes,fun k c e=>by obtain⟨g,T,e2,_⟩:=h;rw[e]at e2;cases e2⟩
structure EntsAt (w:World) (F:Nat→Prop) (v:Value) (L:List (List UInt8)):Prop where
 ex:∃vs,w.ownsRow 0 30 1 v L.length vs∧(∀g,v.ownBlock=some g→F g)∧∀i (h:i<L.length),∃u,vs[i]?=some u∧BytesN w (fun k=>F k∧v.ownBlock≠some k) u L[i]
section
variable {w w':World} {F G:Nat→Prop} {v:Value} {L:List (List UInt8)}
theorem EntsAt.form (h:EntsAt w F v L):∃a cap,v=.slice a L.length cap:=by obtain⟨vs,h,_⟩:=h.ex;exact Ag h
theorem CU (w:World) (F:Nat→Prop):EntsAt w F (.slice none 0 0) []:=⟨[],Dx _ _ _,(fun g e=>by cases e),fun i hi=>by simp at hi⟩
theorem EntsAt.weak (h:EntsAt w F v L) (hFG:∀k,k<w.heap.size→F k→G k):EntsAt w G v L:=by obtain⟨vs,h1,h2,h3⟩:=h.ex;refine⟨vs,h1,fun g hg=>hFG g (Ab h1 g hg).2 (h2 g hg),fun i hi=>?_⟩;obtain⟨u,h4,h5⟩:=h3 i hi;exact⟨u,h4,h5.weak fun k hk h6=>⟨hFG k hk h6.1,h6.2⟩⟩
theorem EntsAt.chg (h:EntsAt w F v L) (hc:Chg G w w') (hd:∀k,k<w.heap.size→F k→¬G k):EntsAt w' F v L:=by obtain⟨vs,h1,h2,h3⟩:=h.ex;refine⟨vs,AJ h1 hc (fun k hk=>hd k (Ab h1 k hk).2 (h2 k hk)),h2,fun i hi=>?_⟩;obtain⟨u,h4,h5⟩:=h3 i hi;exact⟨u,h4,h5.chg hc fun k hk h6=>hd k hk h6.1⟩
theorem EntsAt.below (h:EntsAt w F v L) (hb:Below w.heap.size w w'):EntsAt w' F v L:=h.chg (G:=fun _=>False) (Cb hb) (fun _ _ _ h=>h)
theorem EntsAt.secs (h:EntsAt w F v L):SecsAt w v L:=by
 obtain⟨vs,h1,h2,h3⟩:=h.ex;obtain⟨a,cap,rfl⟩:=Ag h1;refine⟨a,cap,vs,rfl,?_,by have:=h1.1;omega,fun hne=>?_,(fun k c e=>by cases e;exact Fo h1),fun i hi=>?_⟩
 ·rcases h1.2 with⟨e,h0⟩| ⟨g,cap',cur,e,_,_,hc,_⟩
  ·simp only[Value.slice.injEq]at e;omega
  ·simp only[Value.slice.injEq]at e;obtain⟨-,-,rfl⟩:=e;exact hc
 ·have hpos:0<L.length:=by cases L with|nil=>exact absurd rfl hne|cons=>simp
  obtain⟨g,cap',e,hg,_,hr⟩:=AZ h1 hpos;cases e;exact⟨g,0,rfl,hg,fun j u hu=>by rw[Nat.zero_add];exact hr j u hu⟩
 ·obtain⟨u,h4,h5⟩:=h3 i hi;exact⟨u,h4,h5.weak fun _ _ _=>trivial⟩
theorem OwnSecs.ents (h:OwnSecs w B v L):EntsAt w (fun k=>B≤k) v L:=by
 obtain⟨vs,h1,h2⟩:=h.ex;refine⟨vs,Am h1 (Nat.zero_le _),fun g hg=>(Ab h1 g hg).1,fun i hi=>?_⟩;obtain⟨u,h3,h4⟩:=h2 i hi;refine⟨u,h3,⟨?_,(Bk h4).nil⟩⟩;obtain⟨a,cap,e,h5,h6⟩:=(Bk h4).at_;refine⟨a,cap,e,h5,fun hne=>?_⟩;obtain⟨g,off,e2,h7,h8,h9⟩:=h6 hne;refine⟨g,off,e2,⟨h7,fun e3=>?_⟩,h8,h9⟩;rcases IB h1 h4 (by decide)with h10|h10
 ·rw[e,e2]at h10;cases h10
 ·exact h10 (by rw[e,e2,e3];rfl)
theorem EntsAt.get {a:Option Addr}{n cap:Nat} (h:EntsAt w F (.slice a n cap) L) {i:Nat} (hi:i<L.length):∃g x c,a=some ⟨g,0,none⟩∧g<w.heap.size∧w.cell? ⟨g,i,none⟩=some (.slice x L[i].length c)∧BytesN w F (.slice x L[i].length c) L[i]:=by obtain⟨vs,h1,h2,h3⟩:=h.ex;obtain⟨u,h4,h5⟩:=h3 i hi;obtain⟨x,c,rfl⟩:=h5.form;obtain⟨g,cap',e,hg,_,hr⟩:=AZ h1 (by omega);cases e;exact⟨g,x,c,rfl,hg,hr i _ h4,h5.weak fun k _ h6=>h6.1⟩
theorem GR (s x:Operand) (ho:o.op=.call {callee:=.builtin .append,args:=#[s,x],argTypes:=#[36,36]})
 {u:Value} {l:List UInt8} (hs:a.eval s=v) (hown:EntsAt w F v L) (hu:BytesN w (fun k=>F k∧v.ownBlock≠some k) u l) (hx:a.eval x=.slice (some ⟨w.heap.size,0,none⟩) 1 1)
 {n:Nat} (hL:L.length=n) (hn:n<1000000000)
 (h:∀a' cap' w',EntsAt w' (fun k=>F k∨w.heap.size≤k) (.slice a' (n+1) cap') (L++[l])→Chg (fun k=>v.ownBlock=some k) w w'→(∀g,(Value.slice a' (n+1) cap').ownBlock=some g→v.ownBlock=some g∨w.heap.size≤g)→K (a.put o.dst (.slice a' (n+1) cap')) w'):
 o.wp Tryz.prog a (w.alloc (.cells #[u] 30)) K Q:=by
 subst hL;obtain⟨i0,hi,hz0,hz1,hz2⟩:=info_parts L8;have hba:Below w.heap.size w (w.alloc (.cells #[u] 30)):=Rq.alloc Lr _;obtain⟨vs,hr,hF,he⟩:=hown.ex;have hr1:=An hr hba;have hu1:=hu.below hba;obtain⟨ua,uc,hue⟩:=hu.form;refine wp_append_lies _ s x 36 ho 0 30 i0 _ 1 24 Tryz.underlying36 hi hz0 hz1 hz2 rfl (by decide) v L.length vs hs hr1
  ⟨w.heap.size,0,none⟩ 1 1 [u] hx rfl (World.news_of_block (cs:=#[u]) (t:=30) (fr:=(0,0)) (Hn)) (fun y hy=>by obtain rfl :=List.mem_singleton.1 hy;rw[hue];rfl) (by decide) (by unfold maxLen;omega) (by omega) (Nat.zero_le _) _ rfl ?_
 intro g' cap' w' hown' hgrow hat hlt;have hc1:Chg (fun k=>v.ownBlock=some k) (w.alloc (.cells #[u] 30)) w':=Chg.grown hgrow (fun k hk=>.inl hk);have hc2:Chg (fun k=>v.ownBlock=some k) w w':=(Cb hba).trans hc1 (fun k hk=>.inl hk);have hat':v.ownBlock=some g'∨w.heap.size≤g':=hat.elim .inl (fun e=>.inr (by rw[e,Sz];omega));have hvl:vs.length=L.length:=by have:=hr.1;omega
 have keep:∀(y:Value) (ys:List UInt8),BytesN w (fun k=>F k∧v.ownBlock≠some k) y ys→BytesN w' (fun k=>(F k∨w.heap.size≤k)∧(Value.slice (some ⟨g',0,none⟩) (L.length+1) cap').ownBlock≠some k) y ys:=fun y ys hy=>by
  have h1:=(hy.weak (G:=fun k=>(F k∧v.ownBlock≠some k)∧k<w.heap.size) (fun k h1 h2=>⟨h2,h1⟩)).chg hc2 (fun k _ h3=>h3.1.2);refine h1.weak fun k _ h2=>⟨.inl h2.1.1,fun e=>?_⟩
  have e':g'=k:=Option.some.inj e;subst e';rcases hat' with h3|h3
  ·exact h2.1.2 h3
  ·have:=h2.2;omega
 refine h _ cap' w' ⟨vs++[u],by rw[List.length_append];exact hown',fun g hg=>?_,fun i hi=>?_⟩ hc2 (fun g hg=>by obtain rfl :g'=g:=Option.some.inj hg;exact hat')
 ·obtain rfl :g'=g:=Option.some.inj hg;exact hat'.elim (fun h3=>.inl (hF _ h3)) .inr
 by_cases hlt:i<L.length
 ·obtain⟨y,h1,h2⟩:=he i hlt;refine⟨y,by rw[List.getElem?_append_left (by omega)];exact h1,?_⟩;rw[List.getElem_append_left hlt];exact keep _ _ h2
 ·rw[List.length_append]at hi;simp at hi;obtain rfl :i=L.length:=by omega
  refine⟨u,by rw[List.getElem?_append_right (by omega),hvl,Nat.sub_self];rfl,?_⟩;simp only[List.getElem_append_right Lr,Nat.sub_self,List.getElem_cons_zero];exact keep _ _ hu
theorem PF (s x:Operand) (ho:o.op=.call {callee:=.builtin .append,args:=#[s,x],argTypes:=#[36,36]})
 {u:Value} {l:List UInt8} (hs:a.eval s=v) (hown:EntsAt w F v L) (hu:BytesN w (fun k=>F k∧v.ownBlock≠some k) u l) (hx:a.eval x=.slice (some ⟨w.heap.size,0,none⟩) 1 1)
 {n:Nat} (hL:L.length=n) (hn:n<1000000000)
 (h:∀a' cap' w',EntsAt w' (fun k=>F k∨w.heap.size≤k) (.slice a' (n+1) cap') (L++[l])→Chg (fun k=>v.ownBlock=some k) w w'→K (a.put o.dst (.slice a' (n+1) cap')) w'):
 o.wp Tryz.prog a (w.alloc (.cells #[u] 30)) K Q:=
 GR s x ho hs hown hu hx hL hn fun a' cap' w' h1 h2 _=>h a' cap' w' h1 h2
theorem Fj {rest:List Oper} (hgd:o.guard=none) (s x:Operand) (ho:o.op=.call {callee:=.builtin .append,args:=#[s,x],argTypes:=#[36,36]})
 {u:Value} {l:List UInt8} (hs:a.eval s=v) (hown:EntsAt w F v L) (hu:BytesN w (fun k=>F k∧v.ownBlock≠some k) u l) (hx:a.eval x=.slice (some ⟨w.heap.size,0,none⟩) 1 1)
 {n:Nat} (hL:L.length=n) (hn:n<1000000000)
 (h:∀a' cap' w',EntsAt w' (fun k=>F k∨w.heap.size≤k) (.slice a' (n+1) cap') (L++[l])→Chg (fun k=>v.ownBlock=some k) w w'→wpList Tryz.prog ops Q rest (a.put o.dst (.slice a' (n+1) cap')) w'):
 wpList Tryz.prog ops Q (o::rest) a (w.alloc (.cells #[u] 30)):=
 wpList_plain hgd fun _ hK=>PF s x ho hs hown hu hx hL hn fun a' cap' w' h1 h2=>hK _ _ (h a' cap' w' h1 h2)
theorem GE {rest:List Oper} (hgd:o.guard=none) (s x:Operand) (ho:o.op=.call {callee:=.builtin .append,args:=#[s,x],argTypes:=#[36,36]})
 {u:Value} {l:List UInt8} (hs:a.eval s=v) (hown:EntsAt w F v L) (hu:BytesN w (fun k=>F k∧v.ownBlock≠some k) u l) (hx:a.eval x=.slice (some ⟨w.heap.size,0,none⟩) 1 1)
 {n:Nat} (hL:L.length=n) (hn:n<1000000000)
 (h:∀a' cap' w',EntsAt w' (fun k=>F k∨w.heap.size≤k) (.slice a' (n+1) cap') (L++[l])→Chg (fun k=>v.ownBlock=some k) w w'→(∀g,(Value.slice a' (n+1) cap').ownBlock=some g→v.ownBlock=some g∨w.heap.size≤g)→wpList Tryz.prog ops Q rest (a.put o.dst (.slice a' (n+1) cap')) w'):
 wpList Tryz.prog ops Q (o::rest) a (w.alloc (.cells #[u] 30)):=
 wpList_plain hgd fun _ hK=>GR s x ho hs hown hu hx hL hn fun a' cap' w' h1 h2 h3=>hK _ _ (h a' cap' w' h1 h2 h3)
end
variable {b:Nat}{S:DS}
def stV (b:Nat) (a c:Int):Value:=.agg #[.pointer (some ⟨b,0,none⟩),.int .i64 a,.int .i64 c]
theorem F5 (b:Nat) (a:Int) (c:Nat) (hc:c<1000000000):Ca 52 #[stV b a (c:Int)] w fun e w'=>e=.returned (.int .i64 ((c/2:Nat):Int))∧Below w.heap.size w w':=by unfold stV;have HB:=Hd (show Below w.heap.size w (w.alloc (.cells #[.pointer (some ⟨b,0,none⟩),.int .i64 a,.int .i64 c] 94))from Rq.alloc Lr _);go_enter Tryz.func52,Tryz.ntmps52;go_wp2_with fail;exact Bv (.int .i64 ((c/2:Nat):Int)) ⟨rfl,HB.out⟩
theorem GS (h:DiskAt w F b S) (a c:Int) (ha:-9223372036854775808≤a∧a≤9223372036854775807) (hc:-9223372036854775808≤c∧c≤9223372036854775807):Ca 46 #[stV b a c] w fun e w'=>e=.returned (.int .i64 (FF S a c))∧Below w.heap.size w w':=by
 unfold stV;obtain⟨w0,hw0⟩:=Xq (w.alloc (.cells #[.pointer (some ⟨b,0,none⟩),.int .i64 a,.int .i64 c] 94));have hb0:=Lq hw0;have hx0:=Nq hw0 rfl;obtain⟨HB,HD,HC⟩:=Hd3 hb0 (h.below hb0) (fun w' (hw':Below w0.heap.size w0 w')=>by have h1:=(Bq hw' hx0);exact Dq3 (Cq h1 0) (Cq h1 1) (Cq h1 2));obtain⟨b0,hbb⟩:=Xq (w.heap.size);rw[hbb]at HC;have HBB:=Hd hbb;have HW:=Hd hw0;have hml:S.dur.length≤4096:=h.ok.most;obtain⟨M,hM⟩:=Xq (S.dur.length);have HSE:=Hd (show FF S a c=(if a<0∨c<8∨(M:Int)-c<a then 2 else if S.down then 28 else 0) by unfold FF;rw[hM]);have HM:=Hd hM;rw[hM]at hml;obtain⟨z,hz⟩:=Xq (FF S a c);rw[hz]at HSE⊢;clear hw0 hb0 hx0 hbb h hM hz;go_enter Tryz.func46,Tryz.ntmps46;go_wp2_with fail;rw[HBB.out,HW.out];obtain⟨h0,_⟩:=HC.out w0 Rq;go_wp2_with fail;clear h0;by_cases h1:a<0
 ·have hd:decide (a<0)=true:=decide_eq_true h1;obtain rfl :z=2:=by rw[HSE.out,Ip (.inl h1)]
  refine Np ?_;refine BM (Below w0.heap.size w0) (by kernel_rfl) ?_;have hS0:(Below w0.heap.size w0) w0.drew:=Rq.drew;obtain⟨wd,hwd⟩:=Xq (w0.drew);rw[hwd]at hS0⊢;clear hwd;refine tkH 0 hS0 ?_;refine AD 1 HC.out hS0 ?_;refine tkH 2 hS0 ?_;refine tkH 3 hS0 ?_;refine AH 4 hS0 ?_;refine AH 5 hS0 ?_;refine AH 6 hS0 ?_;refine tkH 7 hS0 ?_;refine tkH 8 hS0 ?_;refine AH 9 hS0 ?_;refine AH 10 hS0 ?_;refine AH 11 hS0 ?_;refine AH 12 hS0 ?_;refine AH 14 hS0 ?_;refine AH 15 hS0 ?_;refine AH 13 hS0 ?_;refine AH 16 hS0 ?_;refine AH 17 hS0 ?_;refine tkH 18 hS0 ?_;refine tkH 19 hS0 ?_;refine eH ?_;have HE:=Hd (Tq HB.out hS0);go_wp2_with fail;exact Bv (.int .i64 2) ⟨rfl,HE.out⟩
 have hd:decide (a<0)=false:=decide_eq_false h1;by_cases h2:c<8
 ·have hd2:decide (c<8)=true:=decide_eq_true h2;obtain rfl :z=2:=by rw[HSE.out,Ip (.inr (.inl h2))]
  refine Np ?_;refine BM (Below w0.heap.size w0) (by kernel_rfl) ?_;have hS0:(Below w0.heap.size w0) w0.drew:=Rq.drew;obtain⟨wd,hwd⟩:=Xq (w0.drew);rw[hwd]at hS0⊢;clear hwd;refine tkH 0 hS0 ?_;refine AD 1 HC.out hS0 ?_;refine tkH 2 hS0 ?_;refine tkH 3 hS0 ?_;refine Aj 4 hS0 ?_;refine Bw 5 HC.out hS0 ?_;refine Aj 6 hS0 ?_;refine tkH 7 hS0 ?_;refine tkH 8 hS0 ?_;refine AH 9 hS0 ?_;refine AH 10 hS0 ?_;refine AH 11 hS0 ?_;refine AH 12 hS0 ?_;refine AH 14 hS0 ?_;refine AH 15 hS0 ?_;refine AH 13 hS0 ?_;refine AH 16 hS0 ?_;refine AH 17 hS0 ?_;refine tkH 18 hS0 ?_;refine tkH 19 hS0 ?_;refine eH ?_;have HE:=Hd (Tq HB.out hS0);go_wp2_with fail;exact Bv (.int .i64 2) ⟨rfl,HE.out⟩
 have hd2:decide (c<8)=false:=decide_eq_false h2;have hwr:=Iw ((M:Int)-c);by_cases h3:(M:Int)-c<a
 ·have hd3:decide ((M:Int)-c<a)=true:=decide_eq_true h3;obtain rfl :z=2:=by rw[HSE.out,Ip (.inr (.inr h3))]
  refine Np ?_;refine BM (Below w0.heap.size w0) (by kernel_rfl) ?_;have hS0:(Below w0.heap.size w0) w0.drew:=Rq.drew;obtain⟨wd,hwd⟩:=Xq (w0.drew);rw[hwd]at hS0⊢;clear hwd;refine tkH 0 hS0 ?_;refine AD 1 HC.out hS0 ?_;refine tkH 2 hS0 ?_;refine tkH 3 hS0 ?_;refine Aj 4 hS0 ?_;refine Bw 5 HC.out hS0 ?_;refine Aj 6 hS0 ?_;refine tkH 7 hS0 ?_;refine tkH 8 hS0 ?_;refine Aj 9 hS0 ?_;refine Bw 10 HC.out hS0 ?_;refine Aj 11 hS0 ?_;refine Bw 12 HC.out hS0 ?_;refine Aj 14 hS0 ?_;refine Bw 15 HC.out hS0 ?_;refine dHw 13 fun K hK=>?_
  go_simp;go_at_call 71;refine(II (HD.out.below hS0)).mono ?_;rintro e wk ⟨rfl,rfl⟩;rw[HM.out];refine Kq hK (hS0) ?_;refine Aj 16 hS0 ?_ (v:=.int .i64 ((M:Int)-c));refine Aj 17 hS0 ?_;refine tkH 18 hS0 ?_;refine tkH 19 hS0 ?_;refine eH ?_;have HE:=Hd (Tq HB.out hS0);go_wp2_with fail;exact Bv (.int .i64 2) ⟨rfl,HE.out⟩
 have hd3:decide ((M:Int)-c<a)=false:=decide_eq_false h3;have HSE:=Hd (show z=if S.down then 28 else 0 by rw[HSE.out,In (by omega)]);refine Np ?_;refine BM (Below w0.heap.size w0) (by kernel_rfl) ?_;have hS0:(Below w0.heap.size w0) w0.drew:=Rq.drew;obtain⟨wd,hwd⟩:=Xq (w0.drew);rw[hwd]at hS0⊢;clear hwd;refine tkH 0 hS0 ?_;refine AD 1 HC.out hS0 ?_;refine tkH 2 hS0 ?_;refine tkH 3 hS0 ?_;refine Aj 4 hS0 ?_;refine Bw 5 HC.out hS0 ?_;refine Aj 6 hS0 ?_;refine tkH 7 hS0 ?_;refine tkH 8 hS0 ?_;refine Aj 9 hS0 ?_;refine Bw 10 HC.out hS0 ?_;refine Aj 11 hS0 ?_;refine Bw 12 HC.out hS0 ?_;refine Aj 14 hS0 ?_;refine Bw 15 HC.out hS0 ?_;refine dHw 13 fun K hK=>?_
 go_simp;go_at_call 71;refine(II (HD.out.below hS0)).mono ?_;rintro e wk ⟨rfl,rfl⟩;rw[HM.out];refine Kq hK (hS0) ?_;refine Aj 16 hS0 ?_ (v:=.int .i64 ((M:Int)-c));refine Aj 17 hS0 ?_;refine tkH 18 hS0 ?_;refine tkH 19 hS0 ?_;refine eH ?_;have HE:=Hd (Tq HB.out hS0);have HDN:=Hd (HD.out.below hS0);have hc0:=(HC.out _ hS0).1;go_wp2_with fail;refine(LC HDN.out).mono ?_;rintro e wk ⟨rfl,rfl⟩;cases hdn:S.down with
 |true=>
  obtain rfl :z=28:=by rw[HSE.out,hdn];rfl
  go_wp2_with fail;exact Bv (.int .i64 28) ⟨rfl,HE.out⟩
 |false=>
  obtain rfl :z=0:=by rw[HSE.out,hdn];rfl
  go_wp2_with fail;exact Bv (.int .i64 0) ⟨rfl,HE.out⟩
variable {n:Nat}
theorem QK {s:Int} (hs:s=(n:Int)) (hd:S.down=false) (h:n<S.dur.length):S.readE s=0∧S.readB s=S.visible n:=by subst hs;have h1:S.has (n:Int)=true:=decide_eq_true ⟨by omega,by omega⟩;unfold DS.readE DS.readB;rw[hd,h1];exact⟨rfl,rfl⟩
theorem Ov (h:S.ok) {n:Nat} (hn:n<S.dur.length):S.visible n≠[]:=fun e=>by have:=BL h hn;rw[e]at this;cases this
def Jy (w:World) (b:Nat):Nat:=match w.cell? ⟨b,0,none⟩with
 |some (.slice _ n _)=>n
 |_=>0
theorem DE {L:List (List UInt8)} (h:EntsAt w F v L):∀k,v.ownBlock=some k→F k∧k<w.heap.size:=fun k hk=>by obtain⟨vs,h1,h2,_⟩:=h.ex;exact⟨h2 k hk,(Ab h1 k hk).2⟩
theorem RH (h:DiskAt w F b S) (a f i B0 b3 b4 b8:Nat) (c:Int) (v:Value) (L:List (List UInt8)) (h3:w.heap[b3]?=some (.cells #[.pointer (some ⟨b,0,none⟩),.int .i64 a,.int .i64 c] 94 (0,0))) (h4:w.heap[b4]?=some (.cells #[.int .i64 f] 3 (0,0))) (h8:w.heap[b8]?=some (.cells #[v] 36 (0,0))) (hv:EntsAt w (fun k=>B0≤k) v L) (hL:L.length=i) (hb8:b8<B0) (hB0:B0≤w.heap.size) (hd:S.down=false) (hr:a+f+i<S.dur.length) (hlen:S.pend.length<1000000000):
 Ca 88 #[.pointer (some ⟨b3,0,none⟩),.pointer (some ⟨b4,0,none⟩),.pointer (some ⟨b8,0,none⟩)] w fun e w'=>e=.returned (.int .i64 0)∧∃v',w'.heap[b8]?=some (.cells #[v'] 36 (0,0))∧EntsAt w' (fun k=>B0≤k) v' (L++[S.visible (a+f+i)])∧Chg (fun k=>k=b8∨B0≤k) w w':=by
 obtain⟨va,vc,rfl⟩:=hv.form;rw[hL]at hv h8;have hM:S.dur.length≤4096:=h.ok.most;have c30:=Cq h3 0;have c31:=Cq h3 1;have c4:=Cq h4 0;have c8:=Cq h8 0;obtain⟨he,hb⟩:=QK (S:=S) (n:=a+f+i) (s:=(a:Int)+(f:Int)+(i:Int)) (by omega) hd hr;obtain⟨HE,HRB,HNE,HD,H8,HV,HL⟩:=Hd7 he hb (Ov h.ok hr) h h8 hv hL;obtain⟨X,hX⟩:=Xq (S.visible (a+f+i));rw[hX]at HRB HNE⊢;have hai:a+f+i<4096:=by omega
 clear h3 h4 h8 hv hL he hb h hX hd hr hM;go_enter Tryz.func88,Tryz.ntmps88;go_wp2_with fail;refine(LI _ HD.out (by omega)).mono ?_;rintro e w1 ⟨u,rfl,hu,hb1⟩;rw[HE.out];rw[HRB.out,In HNE.out]at hu;obtain⟨ua,uc,rfl⟩:=hu.n.form;obtain⟨NX,hNX⟩:=Xq (X.length);rw[hNX]at hu⊢;obtain⟨HU,HB1,HV1⟩:=Hd3 hu.n hb1 (HV.out.below hb1);have h81:=Bq hb1 H8.out;have H81:=Hd h81;have hc8:=Cq h81 0;clear hu hNX hb1 h81 c30 c31 c4 c8;go_wp2_with (at_builtin;refine Fj rfl (.tmp 21) (.tmp 23) rfl rfl HV1.out (HU.out.weak (fun k h1 h2=>⟨Nt hB0 h2,fun e=>by have h3:=(DE HV.out k e).2;omega⟩)) rfl HL.out (by omega) ?_;refine Stop.on ?_)
 refine Stop.go ?_
 try simp only[P0,P1,P2,P3,P4]
 intro a5 c5 w5 ho5 hc5
 try simp only[P0,P1,P2,P3,P4]
 have HO:=Hd (ho5.weak (G:=fun k=>B0≤k) (fun k _ h1=>h1.elim id (fun h2=>by have:=HB1.out.size;omega)));have HC:=Hd ((Cb (F:=fun k=>k=b8∨B0≤k) HB1.out).trans (hc5.mono (G:=fun k=>k=b8∨B0≤k) (fun k e=>.inr (DE HV.out k e).1)) (fun k e=>.inl e));have h85:=(hc5.block b8 (Ax H81.out).1 (fun e=>by have:=(DE HV.out b8 e).1;omega)).trans H81.out;have H85:=Hd h85;clear ho5 hc5 h85 hc8;go_wp2_with (refine Az rfl rfl 36 (.tmp 2) (.tmp 24) rfl b8 0 (.slice a5 (i+1) c5) rfl rfl H85.out (by show 0<1;decide) rfl (by kernel_rfl) ?_;refine Stop.on ?_)
 refine Stop.go ?_
 try simp only[P0,P1,P2,P3,P4]
 intro w6 x6 c6 s6
 try simp only[P0,P1,P2,P3,P4]
 obtain⟨HX,HO6,HC6⟩:=Hd3 (show w6.heap[b8]?=some (.cells #[.slice a5 (i+1) c5] 36 (0,0))from x6) (HO.out.chg c6 (fun k _ h1 e=>by omega)) (HC.out.trans (c6.mono (G:=fun k=>k=b8∨B0≤k) (fun k e=>.inl e)) (fun k e=>.inl e));clear x6 c6 s6;go_wp2_with fail;exact Bv (.int .i64 0) ⟨rfl,_,HX.out,HO6.out,HC6.out⟩
theorem KG (h:DiskAt w F b S) (a f k:Nat) (c:Int) (hd:S.down=false) (hr:a+f+k≤S.dur.length) (hlen:S.pend.length<1000000000):
 Ca 72 #[stV b (a:Int) c,.int .i64 f,.int .i64 k] w fun e w'=>∃v,e=.returned (.tuple #[v,.int .i64 0])∧EntsAt w' (fun k=>w.heap.size≤k) v (Ah S (a+f) k)∧Below w.heap.size w w':=by
 unfold stV;have hM:S.dur.length≤4096:=h.ok.most;obtain⟨w1,hw1⟩:=Xq (w.alloc (.cells #[.pointer (some ⟨b,0,none⟩),.int .i64 a,.int .i64 c] 94));obtain⟨w2,hw2⟩:=Xq (w1.alloc (.cells #[.int .i64 f] 3));obtain⟨w3,hw3⟩:=Xq (w2.alloc (.cells #[.slice none 0 0] 36));have hb1:=Lq hw1;have hb2:=Lq hw2;have hb3:=Lq hw3;have s1:w1.heap.size=w.heap.size+1:=by rw[←hw1];simp
 have s2:w2.heap.size=w1.heap.size+1:=by rw[←hw2];simp
 have s3:w3.heap.size=w2.heap.size+1:=by rw[←hw3];simp
 have x1:=Nq hw1 rfl;have x2:=Nq hw2 rfl;have x3:=Nq hw3 rfl;have x1:=(hb3.block _ (by omega)).trans ((hb2.block _ (by omega)).trans x1);have x2:=(hb3.block _ (by omega)).trans x2;have hbb:=(Tq hb1 hb2).trans (hb3.mono (by omega));obtain⟨HB3,HD,HW1,HW2,HW3⟩:=Hd5 hbb h hw1 hw2 hw3;obtain⟨B,hB⟩:=Xq (w.heap.size);rw[hB]at x1;rw[show w1.heap.size=B+1 by omega]at x2;rw[show w2.heap.size=B+1+1 by omega]at x3;obtain⟨HB,HB9,X1,X2,HDN,HSL,HX3,HV3,HC3⟩:=Hd9 hB (show w3.heap.size=B+3 by omega) x1 x2 hd (show∀i,Ah S (a+f) (i+1)=Ah S (a+f) i++[S.visible (a+f+i)]from fun i=>by unfold Ah;rw[List.range_succ,List.map_append];rfl) (show w3.heap[B+1+1]?=some (.cells #[.slice none 0 0] 36 (0,0))from x3) (show EntsAt w3 (fun j=>B+3≤j) (.slice none 0 0) (Ah S (a+f) 0)from CU _ _) (Chg.refl (fun j=>j=B+1+1∨B+3≤j) w3);have hk:k≤4096:=by omega
 have hmf:∀(fn:Fn) (first cap:Array Value) (w:World),(Instr.makeFunc fn first cap).run Tryz.prog w=.ok (.func fn first cap) w:=fun _ _ _ _=>rfl
 clear h hd hw1 hw2 hw3 hb1 hb2 hb3 s1 s2 s3 x1 x2 x3 hbb hB hM;go_enter Tryz.func72,Tryz.ntmps72;go_wp2_with fail;rw[HW1.out,HW2.out,HW3.out,HB.out];go_loopw [10] (fun ev wr=>∃(i:Nat) (va:Option Addr) (vc:Nat),i≤k∧Hid (wr.heap[B+1+1]?=some (.cells #[.slice va i vc] 36 (0,0)))∧Hid (EntsAt wr (fun j=>B+3≤j) (.slice va i vc) (Ah S (a+f) i))∧Hid (Chg (fun j=>j=B+1+1∨B+3≤j) w3 wr)) (fun _ wr=>k-Jy wr (B+1+1))
 case atStart=>exact⟨0,none,0,Nat.zero_le _,HX3,HV3,HC3⟩
 case round=>
  obtain⟨i,va,vc,hi,HX,HV,HC⟩:=hrel;obtain⟨W0,rfl⟩:∃W0,W0=wr:=⟨_,rfl⟩;clear HX3 HV3 HC3;have hc8:W0.cell? ⟨B+1+1,0,none⟩=some (.slice va i vc):=by rw[cr HX.out];rfl
  have HLN:=Hd (show Jy W0 (B+1+1)=i by unfold Jy;rw[hc8]);have HBW:=Hd (HB3.out.trans (HC.out.below (B:=w.heap.size) (fun j e=>by have:=HB.out;omega) HB3.out.size));by_cases hlt:i<k
  case neg=>
   obtain rfl :k=i:=by omega
   go_wp2_with fail;exact Bv (.tuple #[.slice va k vc,.int .i64 0]) ⟨_,rfl,HV.out.weak (fun j _ h1=>by have:=HB.out;omega),HBW.out⟩
  have hiI:(i:Int)<(k:Int):=by omega
  have h3:=(HC.out.block _ (by have:=HB9.out;omega) (by omega)).trans X1.out;have h4:=(HC.out.block _ (by have:=HB9.out;omega) (by omega)).trans X2.out;have hcl:=RH (HD.out.below HBW.out) a f i (B+3) B (B+1) (B+1+1) c (.slice va i vc) (Ah S (a+f) i) h3 h4 HX.out HV.out (Bu _ _ _) (by omega) (by have h1:=HC.out.size;have h2:=HB9.out;omega) HDN.out (by omega) hlen;have HCL:=Hd hcl;clear h3 h4 hcl;go_wp2_with fail;refine HCL.out.mono ?_;rintro e W1 ⟨rfl,v',hx',hv',hc'⟩;obtain⟨va',vc',rfl⟩:=hv'.form;rw[List.length_append,Bu,List.length_singleton]at hv' hx';obtain⟨HXN,HVN,HCN,HLN2⟩:=Hd4 hx' (show EntsAt W1 (fun j=>B+3≤j) (.slice va' (i+1) vc') (Ah S (a+f) (i+1)) by rw[HSL.out];exact hv') (HC.out.trans hc' (fun j e=>.inl e)) (show Jy W1 (B+1+1)=i+1 by unfold Jy;rw[cr hx'];rfl);clear hx' hv' hc' hc8;go_wp2_with fail;go_roundw
  case rel=>exact⟨i+1,va',vc',by omega,HXN,HVN,HCN⟩
  case measure=>have h1:=HLN.out;have h2:=HLN2.out;omega
variable {g:Nat}
theorem RI {which:Nat}{b:List UInt8} (h:g≤2147483649):Ce which g b≤2147483649:=by
 unfold Ce;by_cases h1:Al b=0∧(g:Int)≤(Ak b).gen
 ·rw[Ip h1];have h2:=Cj h1.1;have h3:=h2.2.2.2.1;rw[←h2.2.2.2.2]at h3;have h4:=h3.g1;have h5:=h3.g0;unfold upG;split <;>omega
 ·rw[In h1];exact h
theorem NI {which:Nat} :∀(L:List (List UInt8)) (g:Nat),g≤2147483649→L.foldl (Ce which) g≤2147483649
 | [],_,h=>h
 |b::L,_,h=>NI L _ (RI h)
def Fw (g:Nat):Value:=if 2147483647<g then .tuple #[.int .i64 0,.int .i64 9]else .tuple #[.int .i64 g,.int .i64 0]
theorem Ia (h:DiskAt w F b S) (hK:KAt w) (a c which:Nat) (hwh:which≤1) (hd:S.down=false) (hr:a+c≤S.dur.length) (hlen:S.pend.length<1000000000):
 Ca 47 #[stV b (a:Int) (c:Int),.int .i64 which] w fun e w'=>e=.returned (Fw (AA which (Ah S a c)))∧Below w.heap.size w w':=by
 have hM:S.dur.length≤4096:=h.ok.most;have hrd:=fun(w1:World) (hb:Below w.heap.size w w1)=>KG (h.below hb) a 0 c (c:Int) hd (by omega) hlen
 rw[show a+0=a from rfl]at hrd;have hc:c≤4096:=by omega
 have HR:=Hd hrd;obtain⟨L,hL⟩:=Xq (Ah S a c);have HLL:=Hd (show L.length=c by rw[←hL,Bu]);rw[hL]at HR⊢;obtain⟨z,hz⟩:=Xq (AA which L);rw[hz];have HZ:=Hd (show L.foldl (Ce which) which=z from hz);obtain⟨w0,hw0⟩:=Xq (w.alloc (.cells #[.pointer (some ⟨b,0,none⟩),.int .i64 a,.int .i64 c] 94));have hb0:=Lq hw0;have hx0:=Nq hw0 rfl;obtain⟨HK,HB0,HW0⟩:=Hd3 hK hb0 hw0;unfold stV at HR⊢;clear h hd hr hM hrd hL hz hw0 hb0 hx0 hK;go_enter Tryz.func47,Tryz.ntmps47;go_wp2_with fail;rw[HW0.out];refine(HR.out w0 HB0.out).mono ?_;rintro e w1 ⟨v,rfl,hv,hb⟩;obtain⟨va,vc,rfl⟩:=hv.form;rw[HLL.out]at hv⊢;have HB1:=Hd (Tq HB0.out hb);have HV:=Hd hv;clear hb hv HR;go_wp2_with fail;have HX0:=Hd (Below.refl w1.heap.size w1);have HG0:=Hd (show(L.take 0).foldl (Ce which) which=which from rfl);go_loopw [8,26] (fun gv iv wr=>∃(i g:Nat),i≤c∧g≤2147483649∧iv=.int .i64 i∧gv=.int .i64 g∧Hid ((L.take i).foldl (Ce which) which=g)∧Hid (Below w1.heap.size w1 wr)) (fun _ iv _=>c-(intOf iv).toNat)
 case atStart=>exact⟨0,which,Nat.zero_le _,by omega,rfl,rfl,HG0,HX0⟩
 case round=>
  obtain⟨i,g,hi,hg,rfl,rfl,HG,HB⟩:=hrel;obtain⟨W0,rfl⟩:∃W0,W0=wr:=⟨_,rfl⟩;clear HG0 HX0;by_cases hlt:i<c
  case neg=>
   obtain rfl :c=i:=by omega
   obtain rfl :g=z:=by have h1:=HG.out;rw[List.take_of_length_le (by rw[HLL.out];exact Nat.le_refl _)]at h1;rw[←h1,HZ.out]
   have HBE:=Hd (Tq HB1.out HB.out);by_cases hbig:2147483647<g
   ·have hd:decide ((2147483647:Int)<(g:Int))=true:=decide_eq_true (by omega);have HNV:=Hd (show Fw g=.tuple #[.int .i64 0,.int .i64 9]from Ip hbig);go_wp2_with fail;rw[HNV.out];exact Bv (.tuple #[.int .i64 0,.int .i64 9]) ⟨rfl,HBE.out⟩
   ·have hd:decide ((2147483647:Int)<(g:Int))=false:=decide_eq_false (by omega);have HNV:=Hd (show Fw g=.tuple #[.int .i64 g,.int .i64 0]from In hbig);go_wp2_with fail;rw[HNV.out];exact Bv (.tuple #[.int .i64 g,.int .i64 0]) ⟨rfl,HBE.out⟩
  have hiI:(i:Int)<(c:Int):=by omega
  have hiL:i<L.length:=by rw[HLL.out];exact hlt
  obtain⟨gv,x,xc,e9,_,hcell,hbx⟩:=(HV.out.below HB.out).get hiL;subst e9;obtain⟨B,hB⟩:=Xq (L[i]);rw[hB]at hcell hbx;obtain⟨n,hn⟩:=Xq (B.length);rw[hn]at hcell hbx;have HBX:=Hd hbx;have HBW:=Hd (Tq HB1.out HB.out);have HKW:=Hd (KAt.below HK.out HBW.out HK.out.size);have HNX:=Hd (show(L.take (i+1)).foldl (Ce which) which=Ce which g B by rw[List.take_succ_eq_append_getElem hiL,hB,List.foldl_append,HG.out];rfl);clear hB hn hbx;go_wp2_with fail;refine(DP B _ HBX.out.at_ HKW.out).mono ?_;rintro e W1 ⟨pa,pc,rfl,_,hb⟩;have HBN:=Hd (Tq HB.out hb);obtain⟨p,hp⟩:=Xq (Ak B);obtain⟨de,hde⟩:=Xq (Al B);have HGS:=Hd (show Ce which g B=(if de=0∧(g:Int)≤p.gen then upG which (p.gen.toNat+1)else g) by unfold Ce;rw[hp,hde]);have HPG:=Hd (show de=0→0≤p.gen∧p.gen≤2147483647 from fun h0=>by have h2:=Cj (hde.trans h0);have h3:=h2.2.2.2.1;rw[←h2.2.2.2.2,hp]at h3;exact⟨h3.g0,h3.g1⟩)
  rw[hp,hde];unfold GB;obtain⟨pg,hpg⟩:=Xq (p.gen);rw[hpg]at HGS HPG⊢;obtain⟨p0,hp0⟩:=Xq (p.kind);obtain⟨p2,hp2⟩:=Xq (p.num);obtain⟨p3,hp3⟩:=Xq (p.idx);obtain⟨p4,hp4⟩:=Xq (p.cnt);obtain⟨p5,hp5⟩:=Xq (p.bytes.length);rw[hp0,hp2,hp3,hp4,hp5];obtain⟨W2,hW2⟩:=Xq (W1.alloc (.cells #[.int .i64 p0,.int .i64 pg,.int .i64 p2,.int .i64 p3,.int .i64 p4,.slice pa p5 pc] 130));have hb2:=Lq hW2;have HB2:=Hd (Tq HBN.out hb2);clear hb hp hde hpg hp0 hp2 hp3 hp4 hp5 hb2 hcell;by_cases h0:de=0
  case neg=>
   have hd:(de==0)=false:=by simpa using h0
   have HGN:=Hd (show(L.take (i+1)).foldl (Ce which) which=g by rw[HNX.out,HGS.out,In (fun h=>h0 h.1)]);have HWW:=Hd hW2;clear h0 hW2;go_wp2_with fail;rw[HWW.out];go_roundw
   case rel=>exact⟨i+1,g,by omega,hg,by go_num,rfl,HGN,HB2⟩
   case measure=>simp[intOf]<;>omega
  subst h0;obtain⟨hp0,hp1⟩:=HPG.out rfl;obtain⟨q,rfl⟩:∃q:Nat,pg=(q:Int):=⟨pg.toNat,by omega⟩;by_cases hge:g≤q
  case neg=>
   have hd:decide ((g:Int)≤(q:Int))=false:=decide_eq_false (by omega);have hd2:decide (g≤q)=false:=decide_eq_false hge;have HGN:=Hd (show(L.take (i+1)).foldl (Ce which) which=g by rw[HNX.out,HGS.out,In (fun h=>by have:=h.2;omega)]);have HWW:=Hd hW2;clear hW2;go_wp2_with fail;rw[HWW.out];go_roundw
   case rel=>exact⟨i+1,g,by omega,hg,by go_num,rfl,HGN,HB2⟩
   case measure=>simp[intOf]<;>omega
  have hd:decide ((g:Int)≤(q:Int))=true:=decide_eq_true (by omega);have hd2:decide (g≤q)=true:=decide_eq_true hge;have HUP:=Hd (show(L.take (i+1)).foldl (Ce which) which=upG which (q+1) by rw[HNX.out,HGS.out,Ip ⟨rfl,by omega⟩,Int.toNat_natCast]);have HWW:=Hd hW2;clear hW2;by_cases hm:(q+1)%2=which
  ·have hd3:(((q:Int)+1)%2!=(which:Int))=false:=by simp;omega
   have hq:(q:Int)+1=((q+1:Nat):Int):=by omega
   have HGN:=Hd (show(L.take (i+1)).foldl (Ce which) which=q+1 by rw[HUP.out];unfold upG;rw[In (fun h=>h hm)]);clear hq;go_wp2_with fail;rw[HWW.out];go_roundw
   case rel=>exact⟨i+1,q+1,by omega,by omega,by go_num,by go_num,HGN,HB2⟩
   case measure=>simp[intOf]<;>omega
  ·have hd3:(((q:Int)+1)%2!=(which:Int))=true:=by simp;omega
   have HGN:=Hd (show(L.take (i+1)).foldl (Ce which) which=q+1+1 by rw[HUP.out];unfold upG;rw[Ip hm]);go_wp2_with fail;rw[HWW.out];go_roundw
   case rel=>exact⟨i+1,q+1+1,by omega,by omega,by go_num,by go_num,HGN,HB2⟩
   case measure=>simp[intOf]<;>omega
variable {m k:Nat}
theorem DiskAt.bound (h:DiskAt w F b S):DiskAt w (fun k=>F k∧k<w.heap.size) b S:=by
 obtain⟨hok,m,pv,hx⟩:=h;refine⟨hok,m,pv,⟨⟨hx.fb,hx.lt⟩,⟨hx.fm,hx.hm.lt⟩,fun g hg=>⟨hx.fp g hg,?_⟩,hx.hb,hx.hm,hx.hp⟩⟩;rcases hx.hp.2 with⟨rfl,_⟩| ⟨g',cap,cur,rfl,_,hh,_⟩
 ·cases hg
 ·simp[Value.ownBlock]at hg;subst hg;exact(Ax hh).1
structure Roomy (S:DS) (m:Nat):Prop where
 ops:S.ops+m≤1000000000
 pend:S.pend.length+m≤1000000000
 lim:S.limit.getD 0≤9223372036854775807
theorem Roomy.less (h:Roomy S m) (hk:k≤m):Roomy S k:=⟨by have:=h.ops;omega,by have:=h.pend;omega,h.lim⟩
theorem Ib (h:Roomy S (m+1)):Roomy S.operate.1 m∧S.operate.1.pend=S.pend:=by
 have h1:=h.ops;have h2:=h.pend;have h3:=h.lim;unfold DS.operate;split
 ·exact⟨⟨by show S.ops+m≤_;omega,by show S.pend.length+m≤_;omega,h3⟩,rfl⟩
 ·rename_i k hk;rw[hk]at h3;have h4:k+1≤9223372036854775807:=h3;exact⟨⟨by show S.ops+1+m≤_;omega,by show S.pend.length+m≤_;omega,by show k≤_;omega⟩,rfl⟩
 ·rename_i hk;exact⟨⟨by show S.ops+1+m≤_;omega,by show S.pend.length+m≤_;omega,h3⟩,rfl⟩
theorem GT (h:Roomy S (m+1)) (s:Int) (l:List UInt8):Roomy (S.write s l).1 m:=by
 have h1:=Ib h;unfold DS.write;split
 ·exact h.less (by omega)
 split
 ·split
  ·split
   ·refine⟨h1.1.ops,?_,h1.1.lim⟩;show(S.operate.1.pend++[(s.toNat,l)]).length+m≤_;rw[h1.2,List.length_append,List.length_singleton];have:=h.pend;omega
   ·exact h1.1
  ·exact h.less (by omega)
 ·exact h.less (by omega)
theorem Mb:∀(L:List (List UInt8)) (S:DS) (a:Nat) (b:List UInt8),wrL S a (L++[b])=if(wrL S a L).2=0 then(if((wrL S a L).1.write ((a+L.length:Nat):Int) b).2=0 then(((wrL S a L).1.write ((a+L.length:Nat):Int) b).1,0)else(wrL S a L).1.write ((a+L.length:Nat):Int) b)else wrL S a L
 | [],S,a,b=>by
  show(if(S.write a b).2=0 then wrL (S.write a b).1 (a+1) []else S.write a b)=_;rfl
 |x::L,S,a,b=>by
  show(if(S.write a x).2=0 then wrL (S.write a x).1 (a+1) (L++[b])else S.write a x)=_;by_cases h:(S.write a x).2=0
  ·have e:wrL S a (x::L)=wrL (S.write a x).1 (a+1) L:=Ip h;rw[Ip h,Mb L,e,List.length_cons,show a+1+L.length=a+(L.length+1) by omega]
  ·have e:wrL S a (x::L)=S.write a x:=In h;rw[In h,e,In h]
theorem Mc:∀(A B:List (List UInt8)) (S:DS) (a:Nat),(wrL S a A).2≠0→wrL S a (A++B)=wrL S a A
 | [],_,_,_,h=>absurd rfl h
 |x::A,B,S,a,h=>by
  by_cases hx:(S.write a x).2=0
  ·have e:wrL S a (x::A)=wrL (S.write a x).1 (a+1) A:=Ip hx;rw[e]at h⊢;show(if(S.write a x).2=0 then wrL (S.write a x).1 (a+1) (A++B)else S.write a x)=_;rw[Ip hx];exact Mc A B _ _ h
  ·have e:wrL S a (x::A)=S.write a x:=In hx;rw[e];exact In hx
def Ki (n:Nat) (e:Int):Value:=.tuple #[.int .i64 (if e=0 then(n:Int)else 0),.int .i64 e]
theorem Md (h:DiskAt w F b S) (hK:KAt w) (hK0:¬F 0) (a o:Nat) (c:Int) (r:RecD) (hs:As r=0) {G:Nat→Prop} (v:Value) (hv:BytesN w G v r.load) (hao:a+o<1000000000) (hroom:Roomy S (Af r.load.length)):
 Ca 55 #[stV b (a:Int) c,.int .i64 o,.agg #[.int .i64 r.kind,.int .i64 r.gen,.int .i64 r.num,v]] w fun e w'=>e=.returned (Ki (Af r.load.length) (wrL S (a+o) (Ac r)).2)∧DiskAt w' (fun k=>F k∨w.heap.size≤k) b (wrL S (a+o) (Ac r)).1∧Chg F w w':=by
 obtain⟨va,vc,rfl⟩:=hv.form;have hnb:=CQ (Cs hs).2;have hsl:=AL hs;obtain⟨n,hn⟩:=Xq (Af r.load.length);rw[hn]at hnb hsl hroom⊢;have hlen256:∀x∈Ac r,x.length=256:=fun x hx=>by unfold Ac at hx;rw[Ip hs]at hx;obtain⟨i,_,rfl⟩:=List.mem_map.1 hx;exact Bt _
 obtain⟨w1,hw1⟩:=Xq (w.alloc (.cells #[.pointer (some ⟨b,0,none⟩),.int .i64 a,.int .i64 c] 94));have hb1:=Lq hw1;have hs1:w1.heap.size=w.heap.size+1:=by rw[←hw1];simp
 obtain⟨w2,hw2⟩:=Xq (w1.alloc (.cells #[.int .i64 r.kind,.int .i64 r.gen,.int .i64 r.num,.slice va r.load.length vc] 111));have hb2:=Lq hw2;have hx1:=Nq hw1 rfl;have hx1:=(hb2.block _ (by omega)).trans hx1;have hb12:=Tq hb1 hb2;have hsp:=Pu r va r.load.length vc (hv.below hb12) (KAt.below hK hb12 hK.size);obtain⟨HSP,HX1,HB2,HW1,HW2,HD,HRM,HSL,H256,HK0⟩:=Hd10 hsp hx1 hb12 hw1 hw2 h.bound hroom hsl hlen256 hK0;obtain⟨B,hB⟩:=Xq (w.heap.size);rw[hB]at HX1 HD;have HB:=Hd hB;obtain⟨L,hL⟩:=Xq (Ac r);have HLE:=Hd hL;unfold SplitPost at HSP;rw[hs]at HSP;rw[hL]at HSP HSL H256⊢;obtain⟨z,hz⟩:=Xq (wrL S (a+o) L);rw[hz];have HZ:=Hd hz;obtain⟨rk,hrk⟩:=Xq (r.kind);obtain⟨rg,hrg⟩:=Xq (r.gen);obtain⟨rn,hrn⟩:=Xq (r.num);obtain⟨rl,hrl⟩:=Xq (r.load.length);rw[hrk,hrg,hrn,hrl]at HW2 HSP⊢;unfold stV;clear hn hv hs h hK hK0 hsl hroom hlen256 hw1 hb1 hs1 hw2 hb2 hx1 hb12 hsp hB hL hz hrk hrg hrn hrl;go_enter Tryz.func55,Tryz.ntmps55;go_wp2_with fail;rw[HW1.out,HW2.out,HB.out];refine HSP.out.mono ?_;rintro e w3 ⟨sv,rfl,ho,hb⟩;have hents:=ho.ents;obtain⟨sa,sc,rfl⟩:=ho.form;rw[HSL.out]at hents⊢;obtain⟨HB3,HE,HX3⟩:=Hd3 (Tq HB2.out hb) hents ((hb.block _ (by have h1:=HB2.out.size;have h2:=HB.out;have h3:=(Ax HX1.out).1;omega)).trans HX1.out);obtain⟨HDS,HWZ,HC0,HRM0,HS2,HB2S⟩:=Hd6 (((HD.out.below HB3.out).mono (G:=fun k=>(F k∧k<B)∨w3.heap.size≤k) (fun k h1=>.inl h1))) (show wrL S (a+o) (L.take 0)=(S,0)from rfl) (Chg.refl (fun k=>F k∧k<B) w3) (show Roomy S (n-0)from HRM.out) (show w2.heap.size≤w3.heap.size from hb.size) (show B≤w2.heap.size by have h1:=HB2.out.size;have h2:=HB.out;omega);clear ho hents hb HSP HX1;have hn2:n≤586:=hnb.2;have hz0:((0:Int)!=0)=false:=by decide
 go_wp2_with fail;go_loopw [23] (fun iv wr=>∃(i:Nat) (Si:DS),i≤n∧iv=.int .i64 i∧Hid (wrL S (a+o) (L.take i)=(Si,0))∧Hid (DiskAt wr (fun k=>(F k∧k<B)∨w3.heap.size≤k) b Si)∧Hid (Roomy Si (n-i))∧Hid (Chg (fun k=>F k∧k<B) w3 wr)) (fun iv _=>n-(intOf iv).toNat)
 case atStart=>exact⟨0,S,Nat.zero_le _,rfl,HWZ,HDS,HRM0,HC0⟩
 case round=>
  obtain⟨i,Si,hi,rfl,HWI,HDI,HRI,HCI⟩:=hrel;obtain⟨W0,rfl⟩:∃W0,W0=wr:=⟨_,rfl⟩;clear HWZ HDS HC0 HRM0;have HFW:=Hd (show Chg F w W0 from(Cb HB3.out).trans (HCI.out.mono (G:=F) (fun k e=>e.1)) (fun k e=>.inl e));have HDF:=Hd (show∀(w9:World) (S9:DS),DiskAt w9 (fun k=>(F k∧k<B)∨w3.heap.size≤k) b S9→DiskAt w9 (fun k=>F k∨w.heap.size≤k) b S9 from fun w9 S9 h9=>h9.mono (fun k h1=>h1.elim (fun h2=>.inl h2.1) (fun h2=>.inr (by have h3:=HB2S.out;have h4:=HS2.out;have h5:=HB.out;omega))));by_cases hlt:i<n
  case neg=>
   obtain rfl :n=i:=by omega
   obtain rfl :(Si,0)=z:=by have h1:=HWI.out;rw[List.take_of_length_le (by rw[HSL.out];exact Nat.le_refl _)]at h1;rw[←h1,HZ.out]
   have HFIN:=Hd (HDF.out W0 Si HDI.out);go_wp2_with fail;exact Bv (.tuple #[.int .i64 n,.int .i64 0]) ⟨rfl,HFIN.out,HFW.out⟩
  have hiI:(i:Int)<(n:Int):=by omega
  have hiL:i<L.length:=by rw[HSL.out];exact hlt
  obtain⟨gv,x,xc,e9,_,hcell,_⟩:=(HE.out.chg HCI.out (fun k _ h1 h2=>by have:=HB2S.out;omega)).get hiL;subst e9;obtain⟨gv',x',xc',e9,_,hcell3,hbx⟩:=HE.out.get hiL;obtain rfl :gv=gv':=by injection (Option.some.inj e9)
  have hgv:B≤gv:=by have h1:=(DE HE.out gv rfl).1;have h2:=HB2S.out;omega
  rw[Chg.cell HCI.out (p:=⟨gv,i,none⟩) (by show¬(F gv∧gv<B);omega) hcell3]at hcell;injection (Option.some.inj hcell)with q1 _ q3
  subst q1 q3;have hbx:=(hbx.weak (G:=fun k=>w2.heap.size≤k∧k<w3.heap.size) (fun k h1 h2=>⟨h2,h1⟩)).chg HCI.out (fun k _ h1 h2=>by have:=HB2S.out;omega);have hcell:=Chg.cell HCI.out (p:=⟨gv,i,none⟩) (by show¬(F gv∧gv<B);omega) hcell3;clear hcell3 e9;obtain⟨X,hX⟩:=Xq (L[i]);have hX256:X.length=256:=by rw[←hX];exact H256.out _ (List.getElem_mem hiL)
  rw[hX,hX256]at hcell hbx;have hx0:=(HCI.out.block _ (by have h1:=(Ax HX3.out).1;omega) (by omega)).trans HX3.out;have hc0:=Cq hx0 0;have hc1:=Cq hx0 1;have HNX:=Hd (show wrL S (a+o) (L.take (i+1))=(if(Si.write ((a+o+i:Nat):Int) X).2=0 then((Si.write ((a+o+i:Nat):Int) X).1,0)else Si.write ((a+o+i:Nat):Int) X) by rw[List.take_succ_eq_append_getElem hiL,Mb,HWI.out,hX,List.length_take,HSL.out,Nat.min_eq_left (Nat.le_of_lt hlt)];rfl)
  have hsum:(a:Int)+(o:Int)+(i:Int)=((a+o+i:Nat):Int):=by omega
  have HSUM:=Hd hsum;have hroom':Roomy Si (n-(i+1)+1):=HRI.out.less (by omega);have HRN:=Hd (GT hroom' ((a+o+i:Nat):Int) X);have hops:=HRI.out.ops;have hpend:=HRI.out.pend;have hlim:=HRI.out.lim;have hwa:=O9 (G:=fun k=>w2.heap.size≤k∧k<w3.heap.size) ((a+o+i:Nat):Int) (.slice x' 256 xc') X HDI.out hbx.at_ (fun k h1 h2=>h1.elim (fun h3=>by have:=HB2S.out;omega) (fun h3=>by omega)) (by omega) (by omega) hlim (by omega);have HWA:=Hd hwa;clear hX hx0 hsum hroom' hops hpend hlim hwa hbx;go_wp2_with fail;rw[HSUM.out];refine HWA.out.mono ?_;rintro e W1 ⟨rfl,hd1,hc1'⟩;have hd1':=hd1.mono (G:=fun k=>(F k∧k<B)∨w3.heap.size≤k) (fun k h1=>h1.elim id (fun h2=>.inr (by have:=HCI.out.size;omega)));have HC1:=Hd (HCI.out.trans hc1' (fun k h1=>h1.elim .inl .inr));have HFW1:=Hd (show Chg F w W1 from(Cb HB3.out).trans (HC1.out.mono (G:=F) (fun k e=>e.1)) (fun k e=>.inl e));obtain⟨T,hT⟩:=Xq (Si.write ((a+o+i:Nat):Int) X);rw[hT]at hd1' HNX HRN⊢;obtain⟨S1,e1⟩:=T;obtain⟨HD1,HR1,HNX1⟩:=Hd3 (show DiskAt W1 (fun k=>(F k∧k<B)∨w3.heap.size≤k) b S1 from hd1') (show Roomy S1 (n-(i+1))from HRN.out) (show wrL S (a+o) (L.take (i+1))=(if e1=0 then(S1,0)else(S1,e1))from HNX.out);clear hd1 hd1' hc1' hT HNX HRN hcell hc0 hc1;by_cases he:e1=0
  ·subst he;have HWN:=Hd (show wrL S (a+o) (L.take (i+1))=(S1,0) by rw[HNX1.out,Ip rfl]);go_wp2_with fail;go_roundw
   case rel=>exact⟨i+1,S1,by omega,by go_num,HWN,HD1,HR1,HC1⟩
   case measure=>simp[intOf]<;>omega
  ·have hd0:(e1 !=0)=true:=by simpa using he
   obtain rfl :(S1,e1)=z:=by
    have h1:wrL S (a+o) (L.take (i+1))=(S1,e1):=by rw[HNX1.out,In he]
    have h2:=Mc (L.take (i+1)) (L.drop (i+1)) S (a+o) (by rw[h1];exact he);rw[List.take_append_drop,h1,HZ.out]at h2;exact h2.symm
   have HFIN:=Hd (HDF.out W1 S1 HD1.out);have HPV:=Hd (show Ki n e1=.tuple #[.int .i64 0,.int .i64 e1] by unfold Ki;rw[In he]);clear he;go_wp2_with fail;rw[HPV.out];exact Bv (.tuple #[.int .i64 0,.int .i64 e1]) ⟨rfl,HFIN.out,HFW1.out⟩
def GU (x y:Nat):Nat→List UInt8
 |0=>[]
 |1=>beL 8 x
 |_+2=>BJ x y
theorem Jz (n j:Nat):Value.int .u8 ((n:Int)/2^(8*(8-1-j))%256)=bv ((n/256^(8-1-j)).toUInt8):=by
 have e:(2:Int)^(8*(8-1-j))=((256^(8-1-j):Nat):Int):=by rw[Int.pow_mul,Int.natCast_pow];rfl
 rw[e];unfold bv;simp
theorem Lc (x y:Nat) (hx:x<4611686018427387904) (hy:y<4611686018427387904) (g:Nat) (hg:w.heap[g]?=some (.cells #[.int .i64 x,.int .i64 y] 3 (0,0))):
 Ca 74 #[.slice (some ⟨g,0,none⟩) 2 2] w fun e w'=>∃v,e=.returned v∧w'.ownsRow w.heap.size 5 1 v 16 (bvs (BJ x y))∧Below w.heap.size w w':=by
 have HG:=Hd hg;have HGL:=Hd (Ax hg).1;have HXY:=Hd (show∀i:Nat,i<2→∃n:Nat,n<4611686018427387904∧(#[Value.int .i64 x,.int .i64 y]:Array Value)[i]?=some (.int .i64 n)∧GU x y (i+1)=GU x y i++beL 8 n from fun i hi=>by
  rcases(show i=0∨i=1 by omega)with rfl |rfl
  ·exact⟨x,hx,rfl,rfl⟩
  ·exact⟨y,hy,rfl,rfl⟩)
 have HTL:=Hd (show∀i,i≤2→(GU x y i).length=8*i from fun i hi=>by
  rcases(show i=0∨i=1∨i=2 by omega)with rfl |rfl |rfl
  ·rfl
  ·exact CD 8 x
  ·show(beL 8 x++beL 8 y).length=_;rw[List.length_append,CD,CD])
 have HO0:=Hd (show w.ownsRow w.heap.size 5 1 (.slice none 0 0) (8*0) (bvs (GU x y 0))from Dx _ _ _);have HB0:=Hd (Below.refl w.heap.size w);clear hg;go_enter Tryz.func74,Tryz.ntmps74;go_wp2_with fail;go_loopw [3,9] (fun bvv iv wr=>∃i:Nat,i≤2∧iv=.int .i64 i∧(∃(ba:Option Addr) (bc:Nat),bvv=.slice ba (8*i) bc∧wr.ownsRow w.heap.size 5 1 (.slice ba (8*i) bc) (8*i) (bvs (GU x y i)))∧Hid (Below w.heap.size w wr)) (fun _ iv _=>2-(intOf iv).toNat)
 case atStart=>exact⟨0,by omega,rfl,⟨none,0,rfl,HO0.out⟩,HB0⟩
 case round=>
  obtain⟨i,hi,rfl,⟨ba,bc,rfl,ho⟩,HB⟩:=hrel;obtain⟨W0,rfl⟩:∃W0,W0=wr:=⟨_,rfl⟩;have HO:=Hd ho;clear HO0 HB0 ho;by_cases hlt:i<2
  case neg=>
   obtain rfl :i=2:=by omega
   go_wp2_with fail;exact Bv (.slice ba 16 bc) ⟨_,rfl,HO.out,HB.out⟩
  have hiI:(i:Int)<2:=by omega
  obtain⟨n,hn,hni,hnx⟩:=HXY.out i hlt;have hcell:W0.cell? ⟨g,i,none⟩=some (.int .i64 n):=by rw[cr ((HB.out.block _ HGL.out).trans HG.out)];exact hni
  have HNX:=Hd hnx;have HO1:=Hd (show W0.ownsRow w.heap.size 5 1 (.slice ba (8*i) bc) (8*i+0) (bvs (GU x y i++(beL 8 n).take 0)) by rw[List.take_zero,List.append_nil];exact HO.out);have HB1:=HB;clear hni hnx;go_wp2_with fail;go_loopw [3,6] (fun bvv jv wr=>∃j:Nat,j≤8∧jv=.int .i64 ((8:Int)-1-(j:Int))∧(∃(ba:Option Addr) (bc:Nat),bvv=.slice ba (8*i+j) bc∧wr.ownsRow w.heap.size 5 1 (.slice ba (8*i+j) bc) (8*i+j) (bvs (GU x y i++(beL 8 n).take j)))∧Hid (Below w.heap.size w wr)) (fun _ jv _=>(intOf jv+1).toNat)
  case atStart=>exact⟨0,by omega,by go_num,⟨ba,bc,rfl,HO1.out⟩,HB1⟩
  case round=>
   obtain⟨j,hj,rfl,⟨ca,cc,rfl,ho2⟩,HBW⟩:=hrel;obtain⟨W1,rfl⟩:∃W1,W1=wr:=⟨_,rfl⟩;have HO2:=Hd ho2;clear HO1 HB1 ho2;by_cases hjl:j<8
   case neg=>
    obtain rfl :j=8:=by omega
    have hge:((8:Nat):Int)-1-((8:Nat):Int)<0:=by omega
    have HON:=Hd (show W1.ownsRow w.heap.size 5 1 (.slice ca (8*i+8) cc) (8*(i+1)) (bvs (GU x y (i+1))) by have h1:=HO2.out;rw[List.take_of_length_le (by rw[CD];exact Nat.le_refl _),←HNX.out]at h1;exact h1)
    go_wp2_with fail;go_roundw
    case rel=>exact⟨i+1,by omega,by go_num,⟨ca,cc,rfl,HON.out⟩,HBW⟩
    case measure=>simp[intOf]<;>omega
   have hge:(0:Int)≤(8:Int)-1-(j:Int):=by omega
   have HVL:=Hd (Jz n j);have HTK:=Hd (I6 8 n j hjl);obtain⟨X,hX⟩:=Xq ((n/256^(8-1-j)).toUInt8);rw[hX]at HVL HTK;have hba:Below W1.heap.size W1 (W1.alloc (.cells #[bv X] 5)):=Rq.alloc Lr _;obtain⟨HGN,HO3,HB3⟩:=Hd3 (show(W1.alloc (.cells #[bv X] 5)).heap[W1.heap.size]?=some (.cells #[bv X] 5 (0,0))from Hn) (An HO2.out hba) (Tq HBW.out hba);clear hba hX;go_wp2_with (at_builtin;rw[HVL.out];refine B9 rfl (.tmp 17) (.tmp 23) rfl rfl HO3.out W1.heap.size rfl HGN.out (by omega) HB3.out.size ?_;refine Stop.on ?_)
   refine Stop.go ?_
   try simp only[P0,P1,P2,P3,P4]
   intro g' cap' w5 hlt5 hown5 hgr5 hat5
   try simp only[P0,P1,P2,P3,P4]
   have HON:=Hd (show w5.ownsRow w.heap.size 5 1 (.slice (some ⟨g',0,none⟩) (8*i+(j+1)) cap') (8*i+(j+1)) (bvs (GU x y i++(beL 8 n).take (j+1))) by rw[HTK.out];exact hown5);have HBN:=Hd (HB3.out.grown hgr5 HB3.out.size (fun k hk=>(Ab HO3.out k hk).1));clear hlt5 hown5 hgr5 hat5;go_wp2_with fail;go_roundw
   case rel=>exact⟨j+1,by omega,by go_num,⟨some ⟨g',0,none⟩,cap',rfl,HON.out⟩,HBN⟩
   case measure=>simp[intOf]<;>omega
end Go.Proofs.YtplclpileejemaaGreatDoor
