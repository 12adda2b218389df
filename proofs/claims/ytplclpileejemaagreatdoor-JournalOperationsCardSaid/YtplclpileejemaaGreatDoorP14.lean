/- Short form (wip/zpack.py) of the texts Z20 Z21 Z22 Z23 Z24 Z25 J30 JArgs JArgs2. -/
import Derived.Test.YtplclpileejemaaGreatDoorP13
import Derived.Deep.Slices
import Derived.Test.YtplclpileejemaaGreatDoorRows
import Derived.LaidMore
import Derived.Stop.Joined
import Derived.Lib.LaidTab
import Derived.SizedLaws
set_option linter.all false
set_option maxRecDepth 100000
set_option maxHeartbeats 8000000
namespace Go.Proofs.YtplclpileejemaaGreatDoor
open Go.RowKit
variable {w W:World}{b g:Nat}{S:DS}{R:JR}{J:JD}
theorem Se {x t:Nat}{o:JOp} (hK:KAt w) (h:WS w W x b S R (some (g,J))) (hi:WInv S R (some (g,J)) t) (ht:t≤100) (ho:o.At w) (hk:o.kind%5=1):
 Ca 9 #[.pointer (some ⟨x,0,none⟩),.agg #[.int .u8 (o.kind:Int),.int .u16 (o.n:Int),.int .u8 (o.b.toNat:Int),.slice o.a o.cs.length o.cap]] W fun e W'=>e=.returned (.bool true)∧WS w W' x b (synJ S J).1 R (some (g,(synJ S J).2.1)):=by
 obtain⟨Z,hZ⟩:=Xq (synJ S J);rw[hZ];obtain⟨Z1,Z2,er⟩:=Z;have HZ:=Hd hZ;simp only;clear hZ;obtain⟨P,Q,dv,jv,hx,hja,hrj⟩:=h;obtain⟨da,dn,dc,dd,dm,de,dl,db,dz,a0,a1,a2,a3,a4,a5,a6,a7,a8,a9,rfl,rfl,hcell⟩:=hx.lit;obtain⟨W1,hW1⟩:=Xq (W.alloc (.cells #[.int .u8 (o.kind:Int),.int .u16 (o.n:Int),.int .u8 (o.b.toNat:Int),.slice o.a o.cs.length o.cap] 32));have hb1:=Lq hW1;obtain⟨q,hq⟩:=Xq (W.heap.size);have hqc:=Nq hW1 hq;have hxc:=Bq hb1 hcell;have hPq:∀k,P k→¬k=q:=fun k h e=>by have:=hx.phi k h;omega
 obtain⟨HPB,HWX,HJA,HRJ,HC,HXC,HI,HK,HQ,HW1,HKD,HN,HRN⟩:=Hd13 (show∀k,P k→k<W1.heap.size from fun k h=>Nl (hx.phi k h) hb1.size) (hx.step hb1) (hja.step hb1) (hrj.below hb1) (fun w' (hw':Chg P W1 w')=>by have h1:=((hw'.block x (Ax hxc).1 hx.px).trans hxc);have h2:=((hw'.block q (Ax hqc).1 (fun h=>hPq q h rfl)).trans hqc);exact Dq19 (Cq h1 0) (Cq h1 1) (Cq h1 2) (Cq h1 3) (Cq h1 4) (Cq h1 5) (Cq h1 6) (Cq h1 7) (Cq h1 8) (Cq h1 9) (Cq h1 10) (Cq h1 11) (Cq h1 12) (Cq h1 13) (Cq h1 14) (Cq h2 0) (Cq h2 1) (Cq h2 2) (Cq h2 3)) hxc hi hK hq hW1 ho.kd ho.n (show R.cnt≤45∧R.half≤24∧J.first+J.ents.length≤2147483700+t∧J.used≤24 from⟨hi.c45,Cl hi.dev,hi.ji.nx,by have h1:=hi.ji.used;have h2:=hi.ji.fit;have h3:=Cl hi.dev;omega⟩);obtain⟨c0,c1,c2,c3,c4,c5,c6,c7,c8,c9,c10,c11,c12,c13,c14,k0,k1,k2,k3⟩:=HC.out W1 (Cb Rq);obtain⟨kd,hkd⟩:=Xq (o.kind);rw[hkd]at hk HKD k0;have hkm:(kd:Int)%5=1:=by omega
 have hkt:Int.tmod (kd:Int) 5=1:=by rw[Int.tmod_eq_emod_of_nonneg (by omega)];omega
 clear hq hW1 hb1 hqc hxc hPq hcell hx hja hrj hi hK ho hkd;go_enter Tryz.func9,Tryz.ntmps9;go_upto_region 1 with(fail)
 rw[HW1.out]
 try rw[HQ.out]
 go_wp2_with fail;go_upto_region 14 with(fail)
 have HPR:=Hd (SB HJA.out HI.out ht);rw[HZ.out]at HPR;go_wp2_with (go_at_call 29;refine(HPR.out).mono ?_;rintro e W2 ⟨rfl,hja2,hc2⟩;refine Stop.on ?_)
 refine Stop.go ?_;clear c0 c1 c2 c3 c4 c5 c6 c7 c8 c9 c10 c11 c12 c13 c14 k0 k1 k2 k3;obtain⟨HJ2,HC2,HWX2,HCB⟩:=Hd4 hja2 hc2 HWX.out hc2;have HC4D:=Hd (show∀w',Below W2.heap.size W2 w'→w'.cell? ⟨x,2,none⟩=some (.slice da dn dc)∧w'.cell? ⟨x,3,none⟩=some (.slice dd dm de)∧w'.cell? ⟨x,4,none⟩=some (.int .i64 dl)∧w'.cell? ⟨x,5,none⟩=some (.bool db)∧w'.cell? ⟨x,6,none⟩=some (.int .i64 dz)from fun w' hw'=>by obtain⟨c0,c1,c2,c3,c4,c5,c6,c7,c8,c9,c10,c11,c12,c13,c14,k0,k1,k2,k3⟩:=HC.out w' (HCB.out.trans (Cb hw') (fun _ h=>.inl h));exact⟨c2,c3,c4,c5,c6⟩)
 have HC4J:=Hd (show∀w',Below W2.heap.size W2 w'→w'.cell? ⟨x,7,none⟩=some (.int .i64 a0)∧w'.cell? ⟨x,8,none⟩=some (.int .i64 a1)∧w'.cell? ⟨x,9,none⟩=some (.int .i64 a2)∧w'.cell? ⟨x,10,none⟩=some (.int .i64 a3)∧w'.cell? ⟨x,11,none⟩=some (.int .i64 a4)∧w'.cell? ⟨x,12,none⟩=some (.slice a5 a6 a7)∧w'.cell? ⟨x,13,none⟩=some (.int .i64 a8)∧w'.cell? ⟨x,14,none⟩=some (.int .i64 a9)from fun w' hw'=>by obtain⟨c0,c1,c2,c3,c4,c5,c6,c7,c8,c9,c10,c11,c12,c13,c14,k0,k1,k2,k3⟩:=HC.out w' (HCB.out.trans (Cb hw') (fun _ h=>.inl h));exact⟨c7,c8,c9,c10,c11,c12,c13,c14⟩)
 have HC4K:=Hd (show∀w',Below W2.heap.size W2 w'→w'.cell? ⟨q,0,none⟩=some (.int .u8 (o.kind:Int))∧w'.cell? ⟨q,1,none⟩=some (.int .u16 (o.n:Int))∧w'.cell? ⟨q,2,none⟩=some (.int .u8 (o.b.toNat:Int))from fun w' hw'=>by obtain⟨c0,c1,c2,c3,c4,c5,c6,c7,c8,c9,c10,c11,c12,c13,c14,k0,k1,k2,k3⟩:=HC.out w' (HCB.out.trans (Cb hw') (fun _ h=>.inl h));exact⟨k0,k1,k2⟩)
 have HXP:=Hd ((HCB.out.block x (Ax HXC.out).1 HWX.out.px).trans HXC.out);have HQW:=Hd (show∀k,Q k→k<W2.heap.size from fun k hk=>Nl (HWX.out.qhi k hk) HCB.out.size);have HRA:=Hd (fun(V:World) (hV:Below W2.heap.size W2 V)=>show Ca 30 #[_,_] V (RSPost V Q Q R (Z1,Z2,er))from by have hcV:Chg P W1 V:=HCB.out.trans (Cb hV) (fun _ h=>.inl h);obtain⟨h1,h2,h3,h4⟩:=HRN.out;have h9:=Nr (HWX.out.ref.kept hcV (fun k h h'=>HWX.out.pq k h' h)) (HRJ.out.kept hcV (fun k _ h h'=>HWX.out.pq k h' h)) (by omega) (HI.out.room.less (by omega));rw[HZ.out]at h9;exact h9)
 clear hc2 hja2 HPB HJA HRJ hkm hkt;go_upto_region 15 with(fail)
 refine CC (fun a0_ a' w'=>∃(p6 p7:Nat) (cd cj:Array Value) (vf:Nat→Value),a'=((((((((((((((((a0_.put (some 15) (.pointer (some ⟨p6,0,none⟩))).put (some 16) (.pointer (some ⟨p7,0,none⟩))).put (some 17) (.int .i64 er)).put (some 136) (vf 136)).put (some 137) (vf 137)).put (some 138) (vf 138)).put (some 139) (vf 139)).put (some 140) (vf 140)).put (some 141) (vf 141)).put (some 142) (vf 142)).put (some 143) (vf 143)).put (some 144) (vf 144)).put (some 145) (vf 145)).put (some 146) (vf 146)).put (some 147) (vf 147)).put (some 148) (vf 148))∧w'.heap[p6]?=some (.cells cd 39 (0,0))∧w'.heap[p7]?=some (.cells cj 41 (0,0))∧W2.heap.size≤p6∧W2.heap.size≤p7∧Fx (.agg cj)∧Below W2.heap.size W2 w'∧RefD w' (fun k=>Q k∨W2.heap.size≤k) Z1 (.agg cd)∧(True→RefJ w' (fun k=>Q k∨W2.heap.size≤k) R Z2 (.agg cj))) ?_ ?_
 ·refine bG [15,16,17] ?_;intro V0 hd0;have e0:=hd0.size;have hT0:=hd0;try simp only[P0,P1,P2,P3,P4];refine tkP 0 hT0 ?_;refine tkP 1 hT0 ?_;refine tkP 2 hT0 ?_;refine BV 3 HC4D.out hT0 ?_;refine tkP 4 hT0 ?_;refine tkP 5 hT0 ?_;refine tkP 6 hT0 ?_;refine BV 7 HC4J.out hT0 ?_;refine DJ (i:=8) (j:=13) (l:=14) (by kernel_rfl) rfl rfl rfl rfl rfl rfl (fun K hK=>?b1) (fun K hK=>?b2) (fun K hK=>?b3)
  case' b1=>
   go_simp;go_at_call 30;refine(HRA.out V0 hT0).mono ?_;rintro e V1 ⟨v',jv,rfl,hrd,hrj,hb1⟩;obtain⟨b0,b1,b2,b3,b4,b5,b6,b7,b8,b9,rfl⟩:=hrj.jform;obtain⟨fa,fn,fc,fd,fm,fe,fl,fb,fz,rfl⟩:=hrd.form;have hT1:=Tq hT0 hb1;have e1:=hb1.size;refine Kq hK hT1 ?_;refine tkP 9 hT1 ?_;refine tkP 10 hT1 ?_;refine tkP 11 hT1 ?_;refine tkP 12 hT1 ?_;refine A4 (i:=13) (j:=14) (by kernel_rfl) rfl rfl rfl rfl (fun K hK=>?b4) (fun K hK=>?b5)
   case' b4=>
    refine AB rfl 39 rfl Zd 5 (by kernel_rfl) ?_;intro V2 p13 hx13 hb2 hz13;have HZ13:=Hd hz13;clear hz13;have hT2:=Tq hT1 hb2;have e2:=hb2.size;refine Kq hK hT2 ?_;refine dG 14 fun K hK=>?_
    refine AB rfl 41 rfl Zj 8 (by kernel_rfl) ?_;intro V3 p14 hx14 hb3 hz14;have HZ14:=Hd hz14;clear hz14;have hT3:=Tq hT2 hb3;have e3:=hb3.size;have hx13:=Bq hb3 hx13;refine Kq hK hT3 ?_;have hbc8:=(Tq hb2 hb3)
   case' b5=>
    refine AB rfl 41 rfl Zj 8 (by kernel_rfl) ?_;intro V2 p14 hx14 hb2 hz14;have HZ14:=Hd hz14;clear hz14;have hT2:=Tq hT1 hb2;have e2:=hb2.size;refine Kq hK hT2 ?_;refine dG 13 fun K hK=>?_
    refine AB rfl 39 rfl Zd 5 (by kernel_rfl) ?_;intro V3 p13 hx13 hb3 hz13;have HZ13:=Hd hz13;clear hz13;have hT3:=Tq hT2 hb3;have e3:=hb3.size;have hx14:=Bq hb3 hx14;refine Kq hK hT3 ?_;have hbc8:=(Tq hb2 hb3)
  case' b2=>
   refine AB rfl 39 rfl Zd 5 (by kernel_rfl) ?_;intro V1 p13 hx13 hb1 hz13;have HZ13:=Hd hz13;clear hz13;have hT1:=Tq hT0 hb1;have e1:=hb1.size;refine Kq hK hT1 ?_;refine A4 (i:=8) (j:=14) (by kernel_rfl) rfl rfl rfl rfl (fun K hK=>?b6) (fun K hK=>?b7)
   case' b6=>
    go_simp;go_at_call 30;refine(HRA.out V1 hT1).mono ?_;rintro e V2 ⟨v',jv,rfl,hrd,hrj,hb2⟩;obtain⟨b0,b1,b2,b3,b4,b5,b6,b7,b8,b9,rfl⟩:=hrj.jform;obtain⟨fa,fn,fc,fd,fm,fe,fl,fb,fz,rfl⟩:=hrd.form;have hT2:=Tq hT1 hb2;have e2:=hb2.size;have hx13:=Bq hb2 hx13;refine Kq hK hT2 ?_;refine tkP 9 hT2 ?_;refine tkP 10 hT2 ?_;refine tkP 11 hT2 ?_;refine tkP 12 hT2 ?_;refine dG 14 fun K hK=>?_
    refine AB rfl 41 rfl Zj 8 (by kernel_rfl) ?_;intro V3 p14 hx14 hb3 hz14;have HZ14:=Hd hz14;clear hz14;have hT3:=Tq hT2 hb3;have e3:=hb3.size;have hx13:=Bq hb3 hx13;refine Kq hK hT3 ?_;have hbc8:=hb3
   case' b7=>
    refine AB rfl 41 rfl Zj 8 (by kernel_rfl) ?_;intro V2 p14 hx14 hb2 hz14;have HZ14:=Hd hz14;clear hz14;have hT2:=Tq hT1 hb2;have e2:=hb2.size;have hx13:=Bq hb2 hx13;refine Kq hK hT2 ?_;refine dG 8 fun K hK=>?_
    go_simp;go_at_call 30;refine(HRA.out V2 hT2).mono ?_;rintro e V3 ⟨v',jv,rfl,hrd,hrj,hb3⟩;obtain⟨b0,b1,b2,b3,b4,b5,b6,b7,b8,b9,rfl⟩:=hrj.jform;obtain⟨fa,fn,fc,fd,fm,fe,fl,fb,fz,rfl⟩:=hrd.form;have hT3:=Tq hT2 hb3;have e3:=hb3.size;have hx13:=Bq hb3 hx13;have hx14:=Bq hb3 hx14;refine Kq hK hT3 ?_;refine tkP 9 hT3 ?_;refine tkP 10 hT3 ?_;refine tkP 11 hT3 ?_;refine tkP 12 hT3 ?_;have hbc8:=(Below.refl V3.heap.size V3)
  case' b3=>
   refine AB rfl 41 rfl Zj 8 (by kernel_rfl) ?_;intro V1 p14 hx14 hb1 hz14;have HZ14:=Hd hz14;clear hz14;have hT1:=Tq hT0 hb1;have e1:=hb1.size;refine Kq hK hT1 ?_;refine A4 (i:=8) (j:=13) (by kernel_rfl) rfl rfl rfl rfl (fun K hK=>?b8) (fun K hK=>?b9)
   case' b8=>
    go_simp;go_at_call 30;refine(HRA.out V1 hT1).mono ?_;rintro e V2 ⟨v',jv,rfl,hrd,hrj,hb2⟩;obtain⟨b0,b1,b2,b3,b4,b5,b6,b7,b8,b9,rfl⟩:=hrj.jform;obtain⟨fa,fn,fc,fd,fm,fe,fl,fb,fz,rfl⟩:=hrd.form;have hT2:=Tq hT1 hb2;have e2:=hb2.size;have hx14:=Bq hb2 hx14;refine Kq hK hT2 ?_;refine tkP 9 hT2 ?_;refine tkP 10 hT2 ?_;refine tkP 11 hT2 ?_;refine tkP 12 hT2 ?_;refine dG 13 fun K hK=>?_
    refine AB rfl 39 rfl Zd 5 (by kernel_rfl) ?_;intro V3 p13 hx13 hb3 hz13;have HZ13:=Hd hz13;clear hz13;have hT3:=Tq hT2 hb3;have e3:=hb3.size;have hx14:=Bq hb3 hx14;refine Kq hK hT3 ?_;have hbc8:=hb3
   case' b9=>
    refine AB rfl 39 rfl Zd 5 (by kernel_rfl) ?_;intro V2 p13 hx13 hb2 hz13;have HZ13:=Hd hz13;clear hz13;have hT2:=Tq hT1 hb2;have e2:=hb2.size;have hx14:=Bq hb2 hx14;refine Kq hK hT2 ?_;refine dG 8 fun K hK=>?_
    go_simp;go_at_call 30;refine(HRA.out V2 hT2).mono ?_;rintro e V3 ⟨v',jv,rfl,hrd,hrj,hb3⟩;obtain⟨b0,b1,b2,b3,b4,b5,b6,b7,b8,b9,rfl⟩:=hrj.jform;obtain⟨fa,fn,fc,fd,fm,fe,fl,fb,fz,rfl⟩:=hrd.form;have hT3:=Tq hT2 hb3;have e3:=hb3.size;have hx14:=Bq hb3 hx14;have hx13:=Bq hb3 hx13;refine Kq hK hT3 ?_;refine tkP 9 hT3 ?_;refine tkP 10 hT3 ?_;refine tkP 11 hT3 ?_;refine tkP 12 hT3 ?_;have hbc8:=(Below.refl V3.heap.size V3)
  all_goals
   have hne:¬p14=p13:=by have h1:=HZ13.out;have h2:=HZ14.out;omega
   refine dGf 15 fun K hK=>?_
   refine Pv 39 15 146 p13 hx13 ?_;intro U1 xp13 cp13 sp13;have hx14:=(cp13.block p14 (Ax hx14).1 hne).trans hx14;refine Kr hK ?_;refine dGf 16 fun K hK=>?_
   refine Pv 41 16 147 p14 hx14 ?_;intro U2 xp14 cp14 sp14;refine Kr hK ?_;refine dGf 17 fun K hK=>?_
   go_simp;refine Kr hK ?_;refine eG ?_;have hz13:=HZ13.out;have hz14:=HZ14.out;exact⟨rfl,p13,p14,_,_,fun k=>[_,_,_,_,_,_,_,_,_,_,_,_,_].getD (k-136) undef,rfl,Ck cp14 xp13,xp14,by omega,by omega,hrj.jform,Kv hT3 hbc8 (by omega) cp13 cp14 (by omega) (by omega) HQW.out hrd (fun _=>hrj)⟩
 rintro a' V1 ⟨p6,p7,cd,cj,vf,ha,hx6,hx7,hp6,hp7,hjf,hb1,hrd,hrj⟩;subst ha;obtain⟨fa,fn,fc,fd,fm,fe,fl,fb,fz,e⟩:=hrd.form;cases e;obtain⟨b0,b1,b2,b3,b4,b5,b6,b7,b8,b9,e⟩:=hjf;cases e;have hrj:=hrj trivial
 try simp only[P0,P1,P2,P3,P4]
 have hxk0:=Bq hb1 HXP.out;have hxs:=(Ax HXP.out).1;obtain⟨HC3D,HC3J,HRD,HRR,HBV⟩:=Hd5 (fun w' (hw':Chg (fun k=>k=x) V1 w')=>by have h1:=(Ck hw' hx6);exact Cr5 h1) (fun w' (hw':Chg (fun k=>k=x) V1 w')=>by have h1:=(Ck hw' hx7);exact Cr8 h1) hrd hrj hb1;clear hrd hrj hb1 hx6 hx7;go_upto_region 16 with(fail)
 refine bH (fun k=>k=x) ?_;intro wd hd0 hS0;refine tkH 0 hS0 ?_;refine tkH 1 hS0 ?_;refine AD 2 HC3D.out hS0 ?_;refine AD 3 HC3J.out hS0 ?_;refine tkH 4 hS0 ?_;refine tkH 5 hS0 ?_;refine dH 6 fun K hK=>?_
 refine Hb rfl 39 (.tmp 154) (.tmp 151) rfl x _ _ _ _ _ _ _ _ _ _ _ _ _ _ _ _ _ _ _ _ _ rfl rfl (Bq hd0 hxk0) (by kernel_rfl) (by kernel_rfl) ?_;intro B1 hxk1 c1 s1;have hS11:Chg (fun k=>k=x) V1 B1:=hS0.trans c1 (fun k e=>.inl e);refine Kq hK (hS11) ?_;have hS0:=hS11;refine tkH 7 hS0 ?_;refine tkH 8 hS0 ?_;refine dH 9 fun K hK=>?_
 refine Hc rfl 41 (.tmp 156) (.tmp 152) rfl x _ _ _ _ _ _ _ _ _ _ _ _ _ _ _ _ _ _ _ _ _ _ _ _ rfl rfl hxk1 (by kernel_rfl) (by kernel_rfl) ?_;intro B2 hxk2 c2 s2;have hS12:Chg (fun k=>k=x) V1 B2:=hS0.trans c2 (fun k e=>.inl e);refine Kq hK (hS12) ?_;have hS0:=hS12;refine eH ?_;have HEND:=Hd (show WS w B2 x b Z1 R (some (g,Z2))from HWX2.out.next HJ2.out HC2.out HBV.out HRD.out HRR.out hS12 hxk2);clear hS12 hS11 hS0 hd0 hxk0 hxk1 hxk2 c1 c2 s1 s2 HC3D HC3J HC HC4D HC4J HC4K;go_wp2_with fail;exact Bv (.bool true) ⟨rfl,HEND.out⟩
theorem Sf {x t:Nat}{o:JOp} (hK:KAt w) (h:WS w W x b S R (some (g,J))) (hi:WInv S R (some (g,J)) t) (ht:t≤100) (ho:o.At w) (hk:o.kind%5=2):
 Ca 9 #[.pointer (some ⟨x,0,none⟩),.agg #[.int .u8 (o.kind:Int),.int .u16 (o.n:Int),.int .u8 (o.b.toNat:Int),.slice o.a o.cs.length o.cap]] W fun e W'=>e=.returned (.bool true)∧WS w W' x b (trnJ S R J ((J.first:Int)+((o.n%12:Nat):Int)-2)).1 R (some (g,(trnJ S R J ((J.first:Int)+((o.n%12:Nat):Int)-2)).2.1)):=by
 obtain⟨m,hm⟩:∃m:Int,(J.first:Int)+((o.n%12:Nat):Int)-2=m:=⟨_,rfl⟩;rw[hm];have HM:=Hd hm;obtain⟨Z,hZ⟩:=Xq (trnJ S R J m);rw[hZ];obtain⟨Z1,Z2,er⟩:=Z;have HZ:=Hd hZ;simp only;clear hZ hm;obtain⟨P,Q,dv,jv,hx,hja,hrj⟩:=h;obtain⟨da,dn,dc,dd,dm,de,dl,db,dz,a0,a1,a2,a3,a4,a5,a6,a7,a8,a9,rfl,rfl,hcell⟩:=hx.lit;obtain⟨W1,hW1⟩:=Xq (W.alloc (.cells #[.int .u8 (o.kind:Int),.int .u16 (o.n:Int),.int .u8 (o.b.toNat:Int),.slice o.a o.cs.length o.cap] 32));have hb1:=Lq hW1;obtain⟨q,hq⟩:=Xq (W.heap.size);have hqc:=Nq hW1 hq;have hxc:=Bq hb1 hcell;have hPq:∀k,P k→¬k=q:=fun k h e=>by have:=hx.phi k h;omega
 obtain⟨HPB,HWX,HJA,HRJ,HC,HXC,HI,HK,HQ,HW1,HKD,HN,HRN⟩:=Hd13 (show∀k,P k→k<W1.heap.size from fun k h=>Nl (hx.phi k h) hb1.size) (hx.step hb1) (hja.step hb1) (hrj.below hb1) (fun w' (hw':Chg P W1 w')=>by have h1:=((hw'.block x (Ax hxc).1 hx.px).trans hxc);have h2:=((hw'.block q (Ax hqc).1 (fun h=>hPq q h rfl)).trans hqc);exact Dq19 (Cq h1 0) (Cq h1 1) (Cq h1 2) (Cq h1 3) (Cq h1 4) (Cq h1 5) (Cq h1 6) (Cq h1 7) (Cq h1 8) (Cq h1 9) (Cq h1 10) (Cq h1 11) (Cq h1 12) (Cq h1 13) (Cq h1 14) (Cq h2 0) (Cq h2 1) (Cq h2 2) (Cq h2 3)) hxc hi hK hq hW1 ho.kd ho.n (show R.cnt≤45∧R.half≤24∧J.first+J.ents.length≤2147483700+t∧J.used≤24 from⟨hi.c45,Cl hi.dev,hi.ji.nx,by have h1:=hi.ji.used;have h2:=hi.ji.fit;have h3:=Cl hi.dev;omega⟩);obtain⟨c0,c1,c2,c3,c4,c5,c6,c7,c8,c9,c10,c11,c12,c13,c14,k0,k1,k2,k3⟩:=HC.out W1 (Cb Rq);obtain⟨kd,hkd⟩:=Xq (o.kind);rw[hkd]at hk HKD k0;have hkm:(kd:Int)%5=2:=by omega
 have hkt:Int.tmod (kd:Int) 5=2:=by rw[Int.tmod_eq_emod_of_nonneg (by omega)];omega
 clear hq hW1 hb1 hqc hxc hPq hcell hx hja hrj hi hK ho hkd;go_enter Tryz.func9,Tryz.ntmps9;go_upto_region 1 with(fail)
 rw[HW1.out]
 try rw[HQ.out]
 go_wp2_with fail;have hm:=HM.out;have hfi:a4=(J.first:Int):=by obtain⟨ea,ec,e,_⟩:=HRJ.out.ex;unfold Do at e;cases e;rfl
 have hwb:IntKind.i64.wrap (IntKind.i64.wrap ((J.first:Int)+IntKind.i64.wrap ((o.n:Int)%12))-2)=m:=by have h1:=HRN.out;rw[IntWalk.i64_in ((o.n:Int)%12) (by omega),IntWalk.i64_in ((J.first:Int)+(o.n:Int)%12) (by omega),IntWalk.i64_in _ (by omega)];omega
 have hnt:Int.tmod (o.n:Int) 12=(o.n:Int)%12:=Int.tmod_eq_emod_of_nonneg (by omega);clear c0 c1 c2 c3 c4 c5 c6 c7 c8 c9 c10 c11 c12 c13 c14 k0 k1 k2 k3;go_upto_region 19 with(fail)
 refine bB ?_;intro wd hd0;have hS0:=hd0;refine tkH 0 hS0 ?_;refine tkH 1 hS0 ?_;refine tkH 2 hS0 ?_;refine tkH 3 hS0 ?_;refine tkH 4 hS0 ?_ (hy:=fun w' hw'=>by(obtain⟨c0,c1,c2,c3,c4,c5,c6,c7,c8,c9,c10,c11,c12,c13,c14,k0,k1,k2,k3⟩:=HC.out w' (Cb hw');clear hw';first| (go_simp;rfl)| (go_simp;done)));refine tkH 5 hS0 ?_;refine tkH 6 hS0 ?_ (hy:=fun w' hw'=>by(obtain⟨c0,c1,c2,c3,c4,c5,c6,c7,c8,c9,c10,c11,c12,c13,c14,k0,k1,k2,k3⟩:=HC.out w' (Cb hw');clear hw';first| (go_simp;rfl)| (go_simp;done)));refine tkH 7 hS0 ?_;refine tkH 8 hS0 ?_;refine tkH 9 hS0 ?_;refine tkH 10 hS0 ?_ (v:=.int .i64 m);refine tkH 11 hS0 ?_;refine eH ?_;have hcd:Chg P W1 wd:=Cb hd0;obtain⟨c0,c1,c2,c3,c4,c5,c6,c7,c8,c9,c10,c11,c12,c13,c14,k0,k1,k2,k3⟩:=HC.out wd hcd;go_upto_region 20 with(fail)
 have HPR:=Hd (SC (HJA.out.step hd0) HK.out HI.out ht m);rw[HZ.out]at HPR;go_wp2_with (go_at_call 20;refine(HPR.out).mono ?_;rintro e W2 ⟨rfl,hja2,hc2⟩;refine Stop.on ?_)
 refine Stop.go ?_;clear c0 c1 c2 c3 c4 c5 c6 c7 c8 c9 c10 c11 c12 c13 c14 k0 k1 k2 k3;obtain⟨HJ2,HC2,HWX2,HCB⟩:=Hd4 hja2 hc2 (HWX.out.step hd0) (hcd.trans hc2 (fun _ h=>.inl h));have HC4D:=Hd (show∀w',Below W2.heap.size W2 w'→w'.cell? ⟨x,2,none⟩=some (.slice da dn dc)∧w'.cell? ⟨x,3,none⟩=some (.slice dd dm de)∧w'.cell? ⟨x,4,none⟩=some (.int .i64 dl)∧w'.cell? ⟨x,5,none⟩=some (.bool db)∧w'.cell? ⟨x,6,none⟩=some (.int .i64 dz)from fun w' hw'=>by obtain⟨c0,c1,c2,c3,c4,c5,c6,c7,c8,c9,c10,c11,c12,c13,c14,k0,k1,k2,k3⟩:=HC.out w' (HCB.out.trans (Cb hw') (fun _ h=>.inl h));exact⟨c2,c3,c4,c5,c6⟩)
 have HC4J:=Hd (show∀w',Below W2.heap.size W2 w'→w'.cell? ⟨x,7,none⟩=some (.int .i64 a0)∧w'.cell? ⟨x,8,none⟩=some (.int .i64 a1)∧w'.cell? ⟨x,9,none⟩=some (.int .i64 a2)∧w'.cell? ⟨x,10,none⟩=some (.int .i64 a3)∧w'.cell? ⟨x,11,none⟩=some (.int .i64 a4)∧w'.cell? ⟨x,12,none⟩=some (.slice a5 a6 a7)∧w'.cell? ⟨x,13,none⟩=some (.int .i64 a8)∧w'.cell? ⟨x,14,none⟩=some (.int .i64 a9)from fun w' hw'=>by obtain⟨c0,c1,c2,c3,c4,c5,c6,c7,c8,c9,c10,c11,c12,c13,c14,k0,k1,k2,k3⟩:=HC.out w' (HCB.out.trans (Cb hw') (fun _ h=>.inl h));exact⟨c7,c8,c9,c10,c11,c12,c13,c14⟩)
 have HC4K:=Hd (show∀w',Below W2.heap.size W2 w'→w'.cell? ⟨q,0,none⟩=some (.int .u8 (o.kind:Int))∧w'.cell? ⟨q,1,none⟩=some (.int .u16 (o.n:Int))∧w'.cell? ⟨q,2,none⟩=some (.int .u8 (o.b.toNat:Int))from fun w' hw'=>by obtain⟨c0,c1,c2,c3,c4,c5,c6,c7,c8,c9,c10,c11,c12,c13,c14,k0,k1,k2,k3⟩:=HC.out w' (HCB.out.trans (Cb hw') (fun _ h=>.inl h));exact⟨k0,k1,k2⟩)
 have HXP:=Hd ((HCB.out.block x (Ax HXC.out).1 HWX.out.px).trans HXC.out);have HQW:=Hd (show∀k,Q k→k<W2.heap.size from fun k hk=>Nl (HWX.out.qhi k hk) HCB.out.size);have HRA:=Hd (fun(V:World) (hV:Below W2.heap.size W2 V)=>show Ca 31 #[_,_,.int .i64 m] V (RSPost V Q Q R (Z1,Z2,er))from by have hcV:Chg P W1 V:=HCB.out.trans (Cb hV) (fun _ h=>.inl h);obtain⟨h1,h2,h3,h4⟩:=HRN.out;have h6:=BQ J.ents;have h7:=HI.out.ji.fit;have h5:=HI.out.dev;have h9:=J9 (HWX.out.ref.kept hcV (fun k h h'=>HWX.out.pq k h' h)) (HRJ.out.kept hcV (fun k _ h h'=>HWX.out.pq k h' h)) m (by omega) (fun _=>⟨HI.out.ji.fitE (by omega),by omega,by rw[h5.len];exact h5.rng,by rw[h5.len];omega,h5.next⟩) (by omega) (by omega) (HI.out.room.less (by omega));rw[HZ.out]at h9;exact h9)
 clear hfi hc2 hja2 hcd hd0 hS0 HPB HJA HRJ hkm hkt hm hwb hnt;go_upto_region 21 with(fail)
 refine CC (fun a0_ a' w'=>∃(p6 p7:Nat) (cd cj:Array Value) (vf:Nat→Value),a'=(((((((((((((((((a0_.put (some 20) (.pointer (some ⟨p6,0,none⟩))).put (some 21) (.pointer (some ⟨p7,0,none⟩))).put (some 22) (.int .i64 er)).put (some 182) (vf 182)).put (some 183) (vf 183)).put (some 184) (vf 184)).put (some 185) (vf 185)).put (some 186) (vf 186)).put (some 187) (vf 187)).put (some 188) (vf 188)).put (some 189) (vf 189)).put (some 190) (vf 190)).put (some 191) (vf 191)).put (some 192) (vf 192)).put (some 193) (vf 193)).put (some 194) (vf 194)).put (some 195) (vf 195))∧w'.heap[p6]?=some (.cells cd 39 (0,0))∧w'.heap[p7]?=some (.cells cj 41 (0,0))∧W2.heap.size≤p6∧W2.heap.size≤p7∧Fx (.agg cj)∧Below W2.heap.size W2 w'∧RefD w' (fun k=>Q k∨W2.heap.size≤k) Z1 (.agg cd)∧(True→RefJ w' (fun k=>Q k∨W2.heap.size≤k) R Z2 (.agg cj))) ?_ ?_
 ·refine bG [16,17,18] ?_;intro V0 hd0;have e0:=hd0.size;have hT0:=hd0;try simp only[P0,P1,P2,P3,P4];refine tkP 0 hT0 ?_;refine tkP 1 hT0 ?_;refine tkP 2 hT0 ?_;refine BV 3 HC4D.out hT0 ?_;refine tkP 4 hT0 ?_;refine tkP 5 hT0 ?_;refine tkP 6 hT0 ?_;refine BV 7 HC4J.out hT0 ?_;refine tkP 8 hT0 ?_;refine DJ (i:=9) (j:=14) (l:=15) (by kernel_rfl) rfl rfl rfl rfl rfl rfl (fun K hK=>?b1) (fun K hK=>?b2) (fun K hK=>?b3)
  case' b1=>
   go_simp;go_at_call 31;refine(HRA.out V0 hT0).mono ?_;rintro e V1 ⟨v',jv,rfl,hrd,hrj,hb1⟩;obtain⟨b0,b1,b2,b3,b4,b5,b6,b7,b8,b9,rfl⟩:=hrj.jform;obtain⟨fa,fn,fc,fd,fm,fe,fl,fb,fz,rfl⟩:=hrd.form;have hT1:=Tq hT0 hb1;have e1:=hb1.size;refine Kq hK hT1 ?_;refine tkP 10 hT1 ?_;refine tkP 11 hT1 ?_;refine tkP 12 hT1 ?_;refine tkP 13 hT1 ?_;refine A4 (i:=14) (j:=15) (by kernel_rfl) rfl rfl rfl rfl (fun K hK=>?b4) (fun K hK=>?b5)
   case' b4=>
    refine AB rfl 39 rfl Zd 5 (by kernel_rfl) ?_;intro V2 p14 hx14 hb2 hz14;have HZ14:=Hd hz14;clear hz14;have hT2:=Tq hT1 hb2;have e2:=hb2.size;refine Kq hK hT2 ?_;refine dG 15 fun K hK=>?_
    refine AB rfl 41 rfl Zj 8 (by kernel_rfl) ?_;intro V3 p15 hx15 hb3 hz15;have HZ15:=Hd hz15;clear hz15;have hT3:=Tq hT2 hb3;have e3:=hb3.size;have hx14:=Bq hb3 hx14;refine Kq hK hT3 ?_;have hbc9:=(Tq hb2 hb3)
   case' b5=>
    refine AB rfl 41 rfl Zj 8 (by kernel_rfl) ?_;intro V2 p15 hx15 hb2 hz15;have HZ15:=Hd hz15;clear hz15;have hT2:=Tq hT1 hb2;have e2:=hb2.size;refine Kq hK hT2 ?_;refine dG 14 fun K hK=>?_
    refine AB rfl 39 rfl Zd 5 (by kernel_rfl) ?_;intro V3 p14 hx14 hb3 hz14;have HZ14:=Hd hz14;clear hz14;have hT3:=Tq hT2 hb3;have e3:=hb3.size;have hx15:=Bq hb3 hx15;refine Kq hK hT3 ?_;have hbc9:=(Tq hb2 hb3)
  case' b2=>
   refine AB rfl 39 rfl Zd 5 (by kernel_rfl) ?_;intro V1 p14 hx14 hb1 hz14;have HZ14:=Hd hz14;clear hz14;have hT1:=Tq hT0 hb1;have e1:=hb1.size;refine Kq hK hT1 ?_;refine A4 (i:=9) (j:=15) (by kernel_rfl) rfl rfl rfl rfl (fun K hK=>?b6) (fun K hK=>?b7)
   case' b6=>
    go_simp;go_at_call 31;refine(HRA.out V1 hT1).mono ?_;rintro e V2 ⟨v',jv,rfl,hrd,hrj,hb2⟩;obtain⟨b0,b1,b2,b3,b4,b5,b6,b7,b8,b9,rfl⟩:=hrj.jform;obtain⟨fa,fn,fc,fd,fm,fe,fl,fb,fz,rfl⟩:=hrd.form;have hT2:=Tq hT1 hb2;have e2:=hb2.size;have hx14:=Bq hb2 hx14;refine Kq hK hT2 ?_;refine tkP 10 hT2 ?_;refine tkP 11 hT2 ?_;refine tkP 12 hT2 ?_;refine tkP 13 hT2 ?_;refine dG 15 fun K hK=>?_
    refine AB rfl 41 rfl Zj 8 (by kernel_rfl) ?_;intro V3 p15 hx15 hb3 hz15;have HZ15:=Hd hz15;clear hz15;have hT3:=Tq hT2 hb3;have e3:=hb3.size;have hx14:=Bq hb3 hx14;refine Kq hK hT3 ?_;have hbc9:=hb3
   case' b7=>
    refine AB rfl 41 rfl Zj 8 (by kernel_rfl) ?_;intro V2 p15 hx15 hb2 hz15;have HZ15:=Hd hz15;clear hz15;have hT2:=Tq hT1 hb2;have e2:=hb2.size;have hx14:=Bq hb2 hx14;refine Kq hK hT2 ?_;refine dG 9 fun K hK=>?_
    go_simp;go_at_call 31;refine(HRA.out V2 hT2).mono ?_;rintro e V3 ⟨v',jv,rfl,hrd,hrj,hb3⟩;obtain⟨b0,b1,b2,b3,b4,b5,b6,b7,b8,b9,rfl⟩:=hrj.jform;obtain⟨fa,fn,fc,fd,fm,fe,fl,fb,fz,rfl⟩:=hrd.form;have hT3:=Tq hT2 hb3;have e3:=hb3.size;have hx14:=Bq hb3 hx14;have hx15:=Bq hb3 hx15;refine Kq hK hT3 ?_;refine tkP 10 hT3 ?_;refine tkP 11 hT3 ?_;refine tkP 12 hT3 ?_;refine tkP 13 hT3 ?_;have hbc9:=(Below.refl V3.heap.size V3)
  case' b3=>
   refine AB rfl 41 rfl Zj 8 (by kernel_rfl) ?_;intro V1 p15 hx15 hb1 hz15;have HZ15:=Hd hz15;clear hz15;have hT1:=Tq hT0 hb1;have e1:=hb1.size;refine Kq hK hT1 ?_;refine A4 (i:=9) (j:=14) (by kernel_rfl) rfl rfl rfl rfl (fun K hK=>?b8) (fun K hK=>?b9)
   case' b8=>
    go_simp;go_at_call 31;refine(HRA.out V1 hT1).mono ?_;rintro e V2 ⟨v',jv,rfl,hrd,hrj,hb2⟩;obtain⟨b0,b1,b2,b3,b4,b5,b6,b7,b8,b9,rfl⟩:=hrj.jform;obtain⟨fa,fn,fc,fd,fm,fe,fl,fb,fz,rfl⟩:=hrd.form;have hT2:=Tq hT1 hb2;have e2:=hb2.size;have hx15:=Bq hb2 hx15;refine Kq hK hT2 ?_;refine tkP 10 hT2 ?_;refine tkP 11 hT2 ?_;refine tkP 12 hT2 ?_;refine tkP 13 hT2 ?_;refine dG 14 fun K hK=>?_
    refine AB rfl 39 rfl Zd 5 (by kernel_rfl) ?_;intro V3 p14 hx14 hb3 hz14;have HZ14:=Hd hz14;clear hz14;have hT3:=Tq hT2 hb3;have e3:=hb3.size;have hx15:=Bq hb3 hx15;refine Kq hK hT3 ?_;have hbc9:=hb3
   case' b9=>
    refine AB rfl 39 rfl Zd 5 (by kernel_rfl) ?_;intro V2 p14 hx14 hb2 hz14;have HZ14:=Hd hz14;clear hz14;have hT2:=Tq hT1 hb2;have e2:=hb2.size;have hx15:=Bq hb2 hx15;refine Kq hK hT2 ?_;refine dG 9 fun K hK=>?_
    go_simp;go_at_call 31;refine(HRA.out V2 hT2).mono ?_;rintro e V3 ⟨v',jv,rfl,hrd,hrj,hb3⟩;obtain⟨b0,b1,b2,b3,b4,b5,b6,b7,b8,b9,rfl⟩:=hrj.jform;obtain⟨fa,fn,fc,fd,fm,fe,fl,fb,fz,rfl⟩:=hrd.form;have hT3:=Tq hT2 hb3;have e3:=hb3.size;have hx15:=Bq hb3 hx15;have hx14:=Bq hb3 hx14;refine Kq hK hT3 ?_;refine tkP 10 hT3 ?_;refine tkP 11 hT3 ?_;refine tkP 12 hT3 ?_;refine tkP 13 hT3 ?_;have hbc9:=(Below.refl V3.heap.size V3)
  all_goals
   have hne:¬p15=p14:=by have h1:=HZ14.out;have h2:=HZ15.out;omega
   refine dGf 16 fun K hK=>?_
   refine Pv 39 20 193 p14 hx14 ?_;intro U1 xp14 cp14 sp14;have hx15:=(cp14.block p15 (Ax hx15).1 hne).trans hx15;refine Kr hK ?_;refine dGf 17 fun K hK=>?_
   refine Pv 41 21 194 p15 hx15 ?_;intro U2 xp15 cp15 sp15;refine Kr hK ?_;refine dGf 18 fun K hK=>?_
   go_simp;refine Kr hK ?_;refine eG ?_;have hz14:=HZ14.out;have hz15:=HZ15.out;exact⟨rfl,p14,p15,_,_,fun k=>[_,_,_,_,_,_,_,_,_,_,_,_,_,_].getD (k-182) undef,rfl,Ck cp15 xp14,xp15,by omega,by omega,hrj.jform,Kv hT3 hbc9 (by omega) cp14 cp15 (by omega) (by omega) HQW.out hrd (fun _=>hrj)⟩
 rintro a' V1 ⟨p6,p7,cd,cj,vf,ha,hx6,hx7,hp6,hp7,hjf,hb1,hrd,hrj⟩;subst ha;obtain⟨fa,fn,fc,fd,fm,fe,fl,fb,fz,e⟩:=hrd.form;cases e;obtain⟨b0,b1,b2,b3,b4,b5,b6,b7,b8,b9,e⟩:=hjf;cases e;have hrj:=hrj trivial
 try simp only[P0,P1,P2,P3,P4]
 have hxk0:=Bq hb1 HXP.out;have hxs:=(Ax HXP.out).1;obtain⟨HC3D,HC3J,HRD,HRR,HBV⟩:=Hd5 (fun w' (hw':Chg (fun k=>k=x) V1 w')=>by have h1:=(Ck hw' hx6);exact Cr5 h1) (fun w' (hw':Chg (fun k=>k=x) V1 w')=>by have h1:=(Ck hw' hx7);exact Cr8 h1) hrd hrj hb1;clear hrd hrj hb1 hx6 hx7;go_upto_region 22 with(fail)
 refine bH (fun k=>k=x) ?_;intro wd hd0 hS0;refine tkH 0 hS0 ?_;refine tkH 1 hS0 ?_;refine AD 2 HC3D.out hS0 ?_;refine AD 3 HC3J.out hS0 ?_;refine tkH 4 hS0 ?_;refine tkH 5 hS0 ?_;refine dH 6 fun K hK=>?_
 refine Hb rfl 39 (.tmp 201) (.tmp 198) rfl x _ _ _ _ _ _ _ _ _ _ _ _ _ _ _ _ _ _ _ _ _ rfl rfl (Bq hd0 hxk0) (by kernel_rfl) (by kernel_rfl) ?_;intro B1 hxk1 c1 s1;have hS11:Chg (fun k=>k=x) V1 B1:=hS0.trans c1 (fun k e=>.inl e);refine Kq hK (hS11) ?_;have hS0:=hS11;refine tkH 7 hS0 ?_;refine tkH 8 hS0 ?_;refine dH 9 fun K hK=>?_
 refine Hc rfl 41 (.tmp 203) (.tmp 199) rfl x _ _ _ _ _ _ _ _ _ _ _ _ _ _ _ _ _ _ _ _ _ _ _ _ rfl rfl hxk1 (by kernel_rfl) (by kernel_rfl) ?_;intro B2 hxk2 c2 s2;have hS12:Chg (fun k=>k=x) V1 B2:=hS0.trans c2 (fun k e=>.inl e);refine Kq hK (hS12) ?_;have hS0:=hS12;refine eH ?_;have HEND:=Hd (show WS w B2 x b Z1 R (some (g,Z2))from HWX2.out.next HJ2.out HC2.out HBV.out HRD.out HRR.out hS12 hxk2);clear hS12 hS11 hS0 hd0 hxk0 hxk1 hxk2 c1 c2 s1 s2 HC3D HC3J HC HC4D HC4J HC4K;go_wp2_with fail;exact Bv (.bool true) ⟨rfl,HEND.out⟩
theorem Sg {x t:Nat}{o:JOp} (hK:KAt w) (h:WS w W x b S R (some (g,J))) (hi:WInv S R (some (g,J)) t) (ht:t≤100) (ho:o.At w) (hk:o.kind%5=0):
 Ca 9 #[.pointer (some ⟨x,0,none⟩),.agg #[.int .u8 (o.kind:Int),.int .u16 (o.n:Int),.int .u8 (o.b.toNat:Int),.slice o.a o.cs.length o.cap]] W fun e W'=>e=.returned (.bool true)∧WS w W' x b (appJ S R J (Zq o.n o.b)).1 R (some (g,(appJ S R J (Zq o.n o.b)).2.1)):=by
 obtain⟨Z,hZ⟩:=Xq (appJ S R J (Zq o.n o.b));rw[hZ];obtain⟨Z1,Z2,er,zn⟩:=Z;have HZ:=Hd hZ;simp only;clear hZ;obtain⟨P,Q,dv,jv,hx,hja,hrj⟩:=h;obtain⟨da,dn,dc,dd,dm,de,dl,db,dz,a0,a1,a2,a3,a4,a5,a6,a7,a8,a9,rfl,rfl,hcell⟩:=hx.lit;obtain⟨W1,hW1⟩:=Xq (W.alloc (.cells #[.int .u8 (o.kind:Int),.int .u16 (o.n:Int),.int .u8 (o.b.toNat:Int),.slice o.a o.cs.length o.cap] 32));have hb1:=Lq hW1;obtain⟨q,hq⟩:=Xq (W.heap.size);have hqc:=Nq hW1 hq;have hxc:=Bq hb1 hcell;have hPq:∀k,P k→¬k=q:=fun k h e=>by have:=hx.phi k h;omega
 obtain⟨HPB,HWX,HJA,HRJ,HC,HXC,HI,HK,HQ,HW1,HKD,HN,HRN⟩:=Hd13 (show∀k,P k→k<W1.heap.size from fun k h=>Nl (hx.phi k h) hb1.size) (hx.step hb1) (hja.step hb1) (hrj.below hb1) (fun w' (hw':Chg P W1 w')=>by have h1:=((hw'.block x (Ax hxc).1 hx.px).trans hxc);have h2:=((hw'.block q (Ax hqc).1 (fun h=>hPq q h rfl)).trans hqc);exact Dq19 (Cq h1 0) (Cq h1 1) (Cq h1 2) (Cq h1 3) (Cq h1 4) (Cq h1 5) (Cq h1 6) (Cq h1 7) (Cq h1 8) (Cq h1 9) (Cq h1 10) (Cq h1 11) (Cq h1 12) (Cq h1 13) (Cq h1 14) (Cq h2 0) (Cq h2 1) (Cq h2 2) (Cq h2 3)) hxc hi hK hq hW1 ho.kd ho.n (show R.cnt≤45∧R.half≤24∧J.first+J.ents.length≤2147483700+t∧J.used≤24 from⟨hi.c45,Cl hi.dev,hi.ji.nx,by have h1:=hi.ji.used;have h2:=hi.ji.fit;have h3:=Cl hi.dev;omega⟩);obtain⟨c0,c1,c2,c3,c4,c5,c6,c7,c8,c9,c10,c11,c12,c13,c14,k0,k1,k2,k3⟩:=HC.out W1 (Cb Rq);obtain⟨kd,hkd⟩:=Xq (o.kind);rw[hkd]at hk HKD k0;have hkm:(kd:Int)%5=0:=by omega
 have hkt:Int.tmod (kd:Int) 5=0:=by rw[Int.tmod_eq_emod_of_nonneg (by omega)];omega
 clear hq hW1 hb1 hqc hxc hPq hcell hx hja hrj hi hK ho hkd;go_enter Tryz.func9,Tryz.ntmps9;go_upto_region 1 with(fail)
 rw[HW1.out]
 try rw[HQ.out]
 go_wp2_with fail;clear c0 c1 c2 c3 c4 c5 c6 c7 c8 c9 c10 c11 c12 c13 c14 k0 k1 k2 k3;go_upto_region 9 with(fail)
 refine bH P ?_;intro wd hd0 hS0;refine tkH 0 hS0 ?_;refine tkH 1 hS0 ?_;refine tkH 2 hS0 ?_;refine AD 3 HC.out hS0 ?_;refine tkH 4 hS0 ?_;refine AD 5 HC.out hS0 ?_;refine tkH 6 hS0 ?_;refine AD 7 HC.out hS0 ?_;refine dH 8 fun K hK=>?_
 go_simp;go_at_call 27;refine(K1 o.n HN.out o.b).mono ?_;rintro e Wb ⟨ya,yc,rfl,hby,hbb⟩;have hdb:=Tq hd0 hbb;have hSb:Chg P W1 Wb:=Cb hdb;refine Kq hK (hSb) ?_;refine dH 9 fun K hK=>?_
 go_simp;go_at_call 19;have h9:=SA (HJA.out.step hdb) HK.out HI.out ht hby (fun k _ hD hP=>by have:=HPB.out k hP;have:=hd0.size;omega) (by rw[Gx];omega);rw[HZ.out]at h9;refine h9.mono ?_;clear h9;rintro e W2 ⟨rfl,hja2,hc2⟩;have hS2:Chg P W1 W2:=hSb.trans hc2 (fun _ h=>.inl h);obtain⟨HJ2,HC2,HWX2⟩:=Hd3 hja2 hc2 (HWX.out.step hdb);clear hja2;refine Kq hK (hS2) ?_;refine tkH 10 hS2 ?_;refine tkH 11 hS2 ?_;refine tkH 12 hS2 ?_;refine tkH 13 hS2 ?_;refine tkH 14 hS2 ?_;refine eH ?_;have HCB:=Hd hS2;have HC4D:=Hd (show∀w',Below W2.heap.size W2 w'→w'.cell? ⟨x,2,none⟩=some (.slice da dn dc)∧w'.cell? ⟨x,3,none⟩=some (.slice dd dm de)∧w'.cell? ⟨x,4,none⟩=some (.int .i64 dl)∧w'.cell? ⟨x,5,none⟩=some (.bool db)∧w'.cell? ⟨x,6,none⟩=some (.int .i64 dz)from fun w' hw'=>by obtain⟨c0,c1,c2,c3,c4,c5,c6,c7,c8,c9,c10,c11,c12,c13,c14,k0,k1,k2,k3⟩:=HC.out w' (HCB.out.trans (Cb hw') (fun _ h=>.inl h));exact⟨c2,c3,c4,c5,c6⟩)
 have HC4J:=Hd (show∀w',Below W2.heap.size W2 w'→w'.cell? ⟨x,7,none⟩=some (.int .i64 a0)∧w'.cell? ⟨x,8,none⟩=some (.int .i64 a1)∧w'.cell? ⟨x,9,none⟩=some (.int .i64 a2)∧w'.cell? ⟨x,10,none⟩=some (.int .i64 a3)∧w'.cell? ⟨x,11,none⟩=some (.int .i64 a4)∧w'.cell? ⟨x,12,none⟩=some (.slice a5 a6 a7)∧w'.cell? ⟨x,13,none⟩=some (.int .i64 a8)∧w'.cell? ⟨x,14,none⟩=some (.int .i64 a9)from fun w' hw'=>by obtain⟨c0,c1,c2,c3,c4,c5,c6,c7,c8,c9,c10,c11,c12,c13,c14,k0,k1,k2,k3⟩:=HC.out w' (HCB.out.trans (Cb hw') (fun _ h=>.inl h));exact⟨c7,c8,c9,c10,c11,c12,c13,c14⟩)
 have HC4K:=Hd (show∀w',Below W2.heap.size W2 w'→w'.cell? ⟨q,0,none⟩=some (.int .u8 (o.kind:Int))∧w'.cell? ⟨q,1,none⟩=some (.int .u16 (o.n:Int))∧w'.cell? ⟨q,2,none⟩=some (.int .u8 (o.b.toNat:Int))from fun w' hw'=>by obtain⟨c0,c1,c2,c3,c4,c5,c6,c7,c8,c9,c10,c11,c12,c13,c14,k0,k1,k2,k3⟩:=HC.out w' (HCB.out.trans (Cb hw') (fun _ h=>.inl h));exact⟨k0,k1,k2⟩)
 have HXP:=Hd ((HCB.out.block x (Ax HXC.out).1 HWX.out.px).trans HXC.out);have HQW:=Hd (show∀k,Q k→k<W2.heap.size from fun k hk=>Nl (HWX.out.qhi k hk) HCB.out.size);have hlB:(Zq o.n o.b).length=o.n%1500:=Gx _ _;have HBY:=Hd (fun(V:World) (hV:Below W2.heap.size W2 V)=>K1 (w:=V) o.n HN.out o.b);have HRA:=Hd (fun(V:World) (hV:Below W2.heap.size W2 V) (B:Nat→Prop) (ba:Option Addr) (bc:Nat) (hl:BytesN V B (.slice ba (o.n%1500) bc) (Zq o.n o.b))=>show Ca 28 #[_,_,.slice ba (o.n%1500) bc] V (RAPost V Q Q R (Z1,Z2,er,zn))from by
  have hcV:Chg P W1 V:=HCB.out.trans (Cb hV) (fun _ h=>.inl h);obtain⟨h1,h2,h3,h4⟩:=HRN.out;have h5:=HI.out.a3;have h6:=BQ J.ents;have h7:=HI.out.ji.fit;have h8:R.area (J.gen%2)≤3+R.half:=by unfold JR.area;rw[h5];exact Nat.add_le_add_left (by rcases(show J.gen%2=0∨J.gen%2=1 by omega)with e|e<;>rw[e]<;>omega) _
  have h9:=Lm (HWX.out.ref.kept hcV (fun k h h'=>HWX.out.pq k h' h)) (HRJ.out.kept hcV (fun k _ h h'=>HWX.out.pq k h' h)) (l:=Zq o.n o.b) (by rw[hlB];exact hl) (by rw[hlB];omega) (by omega) (by omega) (by omega) HI.out.ji.gen (by omega) (HI.out.room.less (by omega));rw[hlB,HZ.out]at h9;exact h9)
 clear hlB hS2 hSb hS0 hd0 hdb hbb hby hc2 HPB HJA HRJ hkm hkt;go_upto_region 10 with(fail)
 refine CC (fun a0_ a' w'=>∃(p6 p7:Nat) (cd cj:Array Value) (vf:Nat→Value),a'=(((((((((((((((((((((((a0_.put (some 10) (.pointer (some ⟨p6,0,none⟩))).put (some 11) (.pointer (some ⟨p7,0,none⟩))).put (some 12) (.int .i64 zn)).put (some 13) (.int .i64 er)).put (some 91) (vf 91)).put (some 92) (vf 92)).put (some 93) (vf 93)).put (some 94) (vf 94)).put (some 95) (vf 95)).put (some 96) (vf 96)).put (some 97) (vf 97)).put (some 98) (vf 98)).put (some 99) (vf 99)).put (some 100) (vf 100)).put (some 101) (vf 101)).put (some 102) (vf 102)).put (some 103) (vf 103)).put (some 104) (vf 104)).put (some 105) (vf 105)).put (some 106) (vf 106)).put (some 107) (vf 107)).put (some 108) (vf 108)).put (some 109) (vf 109))∧w'.heap[p6]?=some (.cells cd 39 (0,0))∧w'.heap[p7]?=some (.cells cj 41 (0,0))∧W2.heap.size≤p6∧W2.heap.size≤p7∧Fx (.agg cj)∧Below W2.heap.size W2 w'∧RefD w' (fun k=>Q k∨W2.heap.size≤k) Z1 (.agg cd)∧(True→RefJ w' (fun k=>Q k∨W2.heap.size≤k) R Z2 (.agg cj))) ?_ ?_
 ·refine bG [21,22,23,24] ?_;intro V0 hd0;have e0:=hd0.size;have hT0:=hd0;try simp only[P0,P1,P2,P3,P4];refine tkP 0 hT0 ?_;refine tkP 1 hT0 ?_;refine tkP 2 hT0 ?_;refine BV 3 HC4D.out hT0 ?_;refine tkP 4 hT0 ?_;refine tkP 5 hT0 ?_;refine tkP 6 hT0 ?_;refine BV 7 HC4J.out hT0 ?_;refine tkP 8 hT0 ?_;refine BV 9 HC4K.out hT0 ?_;refine tkP 10 hT0 ?_;refine BV 11 HC4K.out hT0 ?_;refine DJ (i:=12) (j:=19) (l:=20) (by kernel_rfl) rfl rfl rfl rfl rfl rfl (fun K hK=>?b1) (fun K hK=>?b2) (fun K hK=>?b3)
  case' b1=>
   go_simp;go_at_call 27;refine(HBY.out V0 hT0).mono ?_;rintro e V1 ⟨ya,yc,rfl,hby,hb1⟩;have hby':=fun(V:World) (hV:Below V1.heap.size V1 V)=>hby.below hV
   clear hby;have hT1:=Tq hT0 hb1;have e1:=hb1.size;refine Kq hK hT1 ?_;refine DJ (i:=13) (j:=19) (l:=20) (by kernel_rfl) rfl rfl rfl rfl rfl rfl (fun K hK=>?b4) (fun K hK=>?b5) (fun K hK=>?b6)
   case' b4=>
    go_simp;go_at_call 28;refine(HRA.out V1 hT1 _ _ _ (hby' _ (by first|exact Rq|assumption|exact Tq hb2 hb3|exact Tq hb3 hb4))).mono ?_;rintro e V2 ⟨v',jv,rfl,hrd,hrj,hb2⟩;obtain⟨b0,b1,b2,b3,b4,b5,b6,b7,b8,b9,rfl⟩:=hrj.jform;obtain⟨fa,fn,fc,fd,fm,fe,fl,fb,fz,rfl⟩:=hrd.form;have hT2:=Tq hT1 hb2;have e2:=hb2.size;refine Kq hK hT2 ?_;refine tkP 14 hT2 ?_;refine tkP 15 hT2 ?_;refine tkP 16 hT2 ?_;refine tkP 17 hT2 ?_;refine tkP 18 hT2 ?_;refine A4 (i:=19) (j:=20) (by kernel_rfl) rfl rfl rfl rfl (fun K hK=>?b7) (fun K hK=>?b8)
    case' b7=>
     refine AB rfl 39 rfl Zd 5 (by kernel_rfl) ?_;intro V3 p19 hx19 hb3 hz19;have HZ19:=Hd hz19;clear hz19;have hT3:=Tq hT2 hb3;have e3:=hb3.size;refine Kq hK hT3 ?_;refine dG 20 fun K hK=>?_
     refine AB rfl 41 rfl Zj 8 (by kernel_rfl) ?_;intro V4 p20 hx20 hb4 hz20;have HZ20:=Hd hz20;clear hz20;have hT4:=Tq hT3 hb4;have e4:=hb4.size;have hx19:=Bq hb4 hx19;refine Kq hK hT4 ?_;have hbc12:=((Tq hb2 hb3).trans (hb4.mono (Tq hb2 hb3).size));have hbc13:=(Tq hb3 hb4)
    case' b8=>
     refine AB rfl 41 rfl Zj 8 (by kernel_rfl) ?_;intro V3 p20 hx20 hb3 hz20;have HZ20:=Hd hz20;clear hz20;have hT3:=Tq hT2 hb3;have e3:=hb3.size;refine Kq hK hT3 ?_;refine dG 19 fun K hK=>?_
     refine AB rfl 39 rfl Zd 5 (by kernel_rfl) ?_;intro V4 p19 hx19 hb4 hz19;have HZ19:=Hd hz19;clear hz19;have hT4:=Tq hT3 hb4;have e4:=hb4.size;have hx20:=Bq hb4 hx20;refine Kq hK hT4 ?_;have hbc12:=((Tq hb2 hb3).trans (hb4.mono (Tq hb2 hb3).size));have hbc13:=(Tq hb3 hb4)
   case' b5=>
    refine AB rfl 39 rfl Zd 5 (by kernel_rfl) ?_;intro V2 p19 hx19 hb2 hz19;have HZ19:=Hd hz19;clear hz19;have hT2:=Tq hT1 hb2;have e2:=hb2.size;refine Kq hK hT2 ?_;refine A4 (i:=13) (j:=20) (by kernel_rfl) rfl rfl rfl rfl (fun K hK=>?b9) (fun K hK=>?b10)
    case' b9=>
     go_simp;go_at_call 28;refine(HRA.out V2 hT2 _ _ _ (hby' _ (by first|exact Rq|assumption|exact Tq hb2 hb3|exact Tq hb3 hb4))).mono ?_;rintro e V3 ⟨v',jv,rfl,hrd,hrj,hb3⟩;obtain⟨b0,b1,b2,b3,b4,b5,b6,b7,b8,b9,rfl⟩:=hrj.jform;obtain⟨fa,fn,fc,fd,fm,fe,fl,fb,fz,rfl⟩:=hrd.form;have hT3:=Tq hT2 hb3;have e3:=hb3.size;have hx19:=Bq hb3 hx19;refine Kq hK hT3 ?_;refine tkP 14 hT3 ?_;refine tkP 15 hT3 ?_;refine tkP 16 hT3 ?_;refine tkP 17 hT3 ?_;refine tkP 18 hT3 ?_;refine dG 20 fun K hK=>?_
     refine AB rfl 41 rfl Zj 8 (by kernel_rfl) ?_;intro V4 p20 hx20 hb4 hz20;have HZ20:=Hd hz20;clear hz20;have hT4:=Tq hT3 hb4;have e4:=hb4.size;have hx19:=Bq hb4 hx19;refine Kq hK hT4 ?_;have hbc12:=((Tq hb2 hb3).trans (hb4.mono (Tq hb2 hb3).size));have hbc13:=hb4
    case' b10=>
     refine AB rfl 41 rfl Zj 8 (by kernel_rfl) ?_;intro V3 p20 hx20 hb3 hz20;have HZ20:=Hd hz20;clear hz20;have hT3:=Tq hT2 hb3;have e3:=hb3.size;have hx19:=Bq hb3 hx19;refine Kq hK hT3 ?_;refine dG 13 fun K hK=>?_
     go_simp;go_at_call 28;refine(HRA.out V3 hT3 _ _ _ (hby' _ (by first|exact Rq|assumption|exact Tq hb2 hb3|exact Tq hb3 hb4))).mono ?_;rintro e V4 ⟨v',jv,rfl,hrd,hrj,hb4⟩;obtain⟨b0,b1,b2,b3,b4,b5,b6,b7,b8,b9,rfl⟩:=hrj.jform;obtain⟨fa,fn,fc,fd,fm,fe,fl,fb,fz,rfl⟩:=hrd.form;have hT4:=Tq hT3 hb4;have e4:=hb4.size;have hx19:=Bq hb4 hx19;have hx20:=Bq hb4 hx20;refine Kq hK hT4 ?_;refine tkP 14 hT4 ?_;refine tkP 15 hT4 ?_;refine tkP 16 hT4 ?_;refine tkP 17 hT4 ?_;refine tkP 18 hT4 ?_;have hbc12:=((Tq hb2 hb3).trans (hb4.mono (Tq hb2 hb3).size));have hbc13:=(Below.refl V4.heap.size V4)
   case' b6=>
    refine AB rfl 41 rfl Zj 8 (by kernel_rfl) ?_;intro V2 p20 hx20 hb2 hz20;have HZ20:=Hd hz20;clear hz20;have hT2:=Tq hT1 hb2;have e2:=hb2.size;refine Kq hK hT2 ?_;refine A4 (i:=13) (j:=19) (by kernel_rfl) rfl rfl rfl rfl (fun K hK=>?b11) (fun K hK=>?b12)
    case' b11=>
     go_simp;go_at_call 28;refine(HRA.out V2 hT2 _ _ _ (hby' _ (by first|exact Rq|assumption|exact Tq hb2 hb3|exact Tq hb3 hb4))).mono ?_;rintro e V3 ⟨v',jv,rfl,hrd,hrj,hb3⟩;obtain⟨b0,b1,b2,b3,b4,b5,b6,b7,b8,b9,rfl⟩:=hrj.jform;obtain⟨fa,fn,fc,fd,fm,fe,fl,fb,fz,rfl⟩:=hrd.form;have hT3:=Tq hT2 hb3;have e3:=hb3.size;have hx20:=Bq hb3 hx20;refine Kq hK hT3 ?_;refine tkP 14 hT3 ?_;refine tkP 15 hT3 ?_;refine tkP 16 hT3 ?_;refine tkP 17 hT3 ?_;refine tkP 18 hT3 ?_;refine dG 19 fun K hK=>?_
     refine AB rfl 39 rfl Zd 5 (by kernel_rfl) ?_;intro V4 p19 hx19 hb4 hz19;have HZ19:=Hd hz19;clear hz19;have hT4:=Tq hT3 hb4;have e4:=hb4.size;have hx20:=Bq hb4 hx20;refine Kq hK hT4 ?_;have hbc12:=((Tq hb2 hb3).trans (hb4.mono (Tq hb2 hb3).size));have hbc13:=hb4
    case' b12=>
     refine AB rfl 39 rfl Zd 5 (by kernel_rfl) ?_;intro V3 p19 hx19 hb3 hz19;have HZ19:=Hd hz19;clear hz19;have hT3:=Tq hT2 hb3;have e3:=hb3.size;have hx20:=Bq hb3 hx20;refine Kq hK hT3 ?_;refine dG 13 fun K hK=>?_
     go_simp;go_at_call 28;refine(HRA.out V3 hT3 _ _ _ (hby' _ (by first|exact Rq|assumption|exact Tq hb2 hb3|exact Tq hb3 hb4))).mono ?_;rintro e V4 ⟨v',jv,rfl,hrd,hrj,hb4⟩;obtain⟨b0,b1,b2,b3,b4,b5,b6,b7,b8,b9,rfl⟩:=hrj.jform;obtain⟨fa,fn,fc,fd,fm,fe,fl,fb,fz,rfl⟩:=hrd.form;have hT4:=Tq hT3 hb4;have e4:=hb4.size;have hx20:=Bq hb4 hx20;have hx19:=Bq hb4 hx19;refine Kq hK hT4 ?_;refine tkP 14 hT4 ?_;refine tkP 15 hT4 ?_;refine tkP 16 hT4 ?_;refine tkP 17 hT4 ?_;refine tkP 18 hT4 ?_;have hbc12:=((Tq hb2 hb3).trans (hb4.mono (Tq hb2 hb3).size));have hbc13:=(Below.refl V4.heap.size V4)
  case' b2=>
   refine AB rfl 39 rfl Zd 5 (by kernel_rfl) ?_;intro V1 p19 hx19 hb1 hz19;have HZ19:=Hd hz19;clear hz19;have hT1:=Tq hT0 hb1;have e1:=hb1.size;refine Kq hK hT1 ?_;refine A4 (i:=12) (j:=20) (by kernel_rfl) rfl rfl rfl rfl (fun K hK=>?b13) (fun K hK=>?b14)
   case' b13=>
    go_simp;go_at_call 27;refine(HBY.out V1 hT1).mono ?_;rintro e V2 ⟨ya,yc,rfl,hby,hb2⟩;have hby':=fun(V:World) (hV:Below V2.heap.size V2 V)=>hby.below hV
    clear hby;have hT2:=Tq hT1 hb2;have e2:=hb2.size;have hx19:=Bq hb2 hx19;refine Kq hK hT2 ?_;refine A4 (i:=13) (j:=20) (by kernel_rfl) rfl rfl rfl rfl (fun K hK=>?b15) (fun K hK=>?b16)
    case' b15=>
     go_simp;go_at_call 28;refine(HRA.out V2 hT2 _ _ _ (hby' _ (by first|exact Rq|assumption|exact Tq hb2 hb3|exact Tq hb3 hb4))).mono ?_;rintro e V3 ⟨v',jv,rfl,hrd,hrj,hb3⟩;obtain⟨b0,b1,b2,b3,b4,b5,b6,b7,b8,b9,rfl⟩:=hrj.jform;obtain⟨fa,fn,fc,fd,fm,fe,fl,fb,fz,rfl⟩:=hrd.form;have hT3:=Tq hT2 hb3;have e3:=hb3.size;have hx19:=Bq hb3 hx19;refine Kq hK hT3 ?_;refine tkP 14 hT3 ?_;refine tkP 15 hT3 ?_;refine tkP 16 hT3 ?_;refine tkP 17 hT3 ?_;refine tkP 18 hT3 ?_;refine dG 20 fun K hK=>?_
     refine AB rfl 41 rfl Zj 8 (by kernel_rfl) ?_;intro V4 p20 hx20 hb4 hz20;have HZ20:=Hd hz20;clear hz20;have hT4:=Tq hT3 hb4;have e4:=hb4.size;have hx19:=Bq hb4 hx19;refine Kq hK hT4 ?_;have hbc12:=(Tq hb3 hb4);have hbc13:=hb4
    case' b16=>
     refine AB rfl 41 rfl Zj 8 (by kernel_rfl) ?_;intro V3 p20 hx20 hb3 hz20;have HZ20:=Hd hz20;clear hz20;have hT3:=Tq hT2 hb3;have e3:=hb3.size;have hx19:=Bq hb3 hx19;refine Kq hK hT3 ?_;refine dG 13 fun K hK=>?_
     go_simp;go_at_call 28;refine(HRA.out V3 hT3 _ _ _ (hby' _ (by first|exact Rq|assumption|exact Tq hb2 hb3|exact Tq hb3 hb4))).mono ?_;rintro e V4 ⟨v',jv,rfl,hrd,hrj,hb4⟩;obtain⟨b0,b1,b2,b3,b4,b5,b6,b7,b8,b9,rfl⟩:=hrj.jform;obtain⟨fa,fn,fc,fd,fm,fe,fl,fb,fz,rfl⟩:=hrd.form;have hT4:=Tq hT3 hb4;have e4:=hb4.size;have hx19:=Bq hb4 hx19;have hx20:=Bq hb4 hx20;refine Kq hK hT4 ?_;refine tkP 14 hT4 ?_;refine tkP 15 hT4 ?_;refine tkP 16 hT4 ?_;refine tkP 17 hT4 ?_;refine tkP 18 hT4 ?_;have hbc12:=(Tq hb3 hb4);have hbc13:=(Below.refl V4.heap.size V4)
   case' b14=>
    refine AB rfl 41 rfl Zj 8 (by kernel_rfl) ?_;intro V2 p20 hx20 hb2 hz20;have HZ20:=Hd hz20;clear hz20;have hT2:=Tq hT1 hb2;have e2:=hb2.size;have hx19:=Bq hb2 hx19;refine Kq hK hT2 ?_;refine dG 12 fun K hK=>?_
    go_simp;go_at_call 27;refine(HBY.out V2 hT2).mono ?_;rintro e V3 ⟨ya,yc,rfl,hby,hb3⟩;have hby':=fun(V:World) (hV:Below V3.heap.size V3 V)=>hby.below hV
    clear hby;have hT3:=Tq hT2 hb3;have e3:=hb3.size;have hx19:=Bq hb3 hx19;have hx20:=Bq hb3 hx20;refine Kq hK hT3 ?_;refine dG 13 fun K hK=>?_
    go_simp;go_at_call 28;refine(HRA.out V3 hT3 _ _ _ (hby' _ (by first|exact Rq|assumption|exact Tq hb2 hb3|exact Tq hb3 hb4))).mono ?_;rintro e V4 ⟨v',jv,rfl,hrd,hrj,hb4⟩;obtain⟨b0,b1,b2,b3,b4,b5,b6,b7,b8,b9,rfl⟩:=hrj.jform;obtain⟨fa,fn,fc,fd,fm,fe,fl,fb,fz,rfl⟩:=hrd.form;have hT4:=Tq hT3 hb4;have e4:=hb4.size;have hx19:=Bq hb4 hx19;have hx20:=Bq hb4 hx20;refine Kq hK hT4 ?_;refine tkP 14 hT4 ?_;refine tkP 15 hT4 ?_;refine tkP 16 hT4 ?_;refine tkP 17 hT4 ?_;refine tkP 18 hT4 ?_;have hbc12:=hb4;have hbc13:=(Below.refl V4.heap.size V4)
  case' b3=>
   refine AB rfl 41 rfl Zj 8 (by kernel_rfl) ?_;intro V1 p20 hx20 hb1 hz20;have HZ20:=Hd hz20;clear hz20;have hT1:=Tq hT0 hb1;have e1:=hb1.size;refine Kq hK hT1 ?_;refine A4 (i:=12) (j:=19) (by kernel_rfl) rfl rfl rfl rfl (fun K hK=>?b17) (fun K hK=>?b18)
   case' b17=>
    go_simp;go_at_call 27;refine(HBY.out V1 hT1).mono ?_;rintro e V2 ⟨ya,yc,rfl,hby,hb2⟩;have hby':=fun(V:World) (hV:Below V2.heap.size V2 V)=>hby.below hV
    clear hby;have hT2:=Tq hT1 hb2;have e2:=hb2.size;have hx20:=Bq hb2 hx20;refine Kq hK hT2 ?_;refine A4 (i:=13) (j:=19) (by kernel_rfl) rfl rfl rfl rfl (fun K hK=>?b19) (fun K hK=>?b20)
    case' b19=>
     go_simp;go_at_call 28;refine(HRA.out V2 hT2 _ _ _ (hby' _ (by first|exact Rq|assumption|exact Tq hb2 hb3|exact Tq hb3 hb4))).mono ?_;rintro e V3 ⟨v',jv,rfl,hrd,hrj,hb3⟩;obtain⟨b0,b1,b2,b3,b4,b5,b6,b7,b8,b9,rfl⟩:=hrj.jform;obtain⟨fa,fn,fc,fd,fm,fe,fl,fb,fz,rfl⟩:=hrd.form;have hT3:=Tq hT2 hb3;have e3:=hb3.size;have hx20:=Bq hb3 hx20;refine Kq hK hT3 ?_;refine tkP 14 hT3 ?_;refine tkP 15 hT3 ?_;refine tkP 16 hT3 ?_;refine tkP 17 hT3 ?_;refine tkP 18 hT3 ?_;refine dG 19 fun K hK=>?_
     refine AB rfl 39 rfl Zd 5 (by kernel_rfl) ?_;intro V4 p19 hx19 hb4 hz19;have HZ19:=Hd hz19;clear hz19;have hT4:=Tq hT3 hb4;have e4:=hb4.size;have hx20:=Bq hb4 hx20;refine Kq hK hT4 ?_;have hbc12:=(Tq hb3 hb4);have hbc13:=hb4
    case' b20=>
     refine AB rfl 39 rfl Zd 5 (by kernel_rfl) ?_;intro V3 p19 hx19 hb3 hz19;have HZ19:=Hd hz19;clear hz19;have hT3:=Tq hT2 hb3;have e3:=hb3.size;have hx20:=Bq hb3 hx20;refine Kq hK hT3 ?_;refine dG 13 fun K hK=>?_
     go_simp;go_at_call 28;refine(HRA.out V3 hT3 _ _ _ (hby' _ (by first|exact Rq|assumption|exact Tq hb2 hb3|exact Tq hb3 hb4))).mono ?_;rintro e V4 ⟨v',jv,rfl,hrd,hrj,hb4⟩;obtain⟨b0,b1,b2,b3,b4,b5,b6,b7,b8,b9,rfl⟩:=hrj.jform;obtain⟨fa,fn,fc,fd,fm,fe,fl,fb,fz,rfl⟩:=hrd.form;have hT4:=Tq hT3 hb4;have e4:=hb4.size;have hx20:=Bq hb4 hx20;have hx19:=Bq hb4 hx19;refine Kq hK hT4 ?_;refine tkP 14 hT4 ?_;refine tkP 15 hT4 ?_;refine tkP 16 hT4 ?_;refine tkP 17 hT4 ?_;refine tkP 18 hT4 ?_;have hbc12:=(Tq hb3 hb4);have hbc13:=(Below.refl V4.heap.size V4)
   case' b18=>
    refine AB rfl 39 rfl Zd 5 (by kernel_rfl) ?_;intro V2 p19 hx19 hb2 hz19;have HZ19:=Hd hz19;clear hz19;have hT2:=Tq hT1 hb2;have e2:=hb2.size;have hx20:=Bq hb2 hx20;refine Kq hK hT2 ?_;refine dG 12 fun K hK=>?_
    go_simp;go_at_call 27;refine(HBY.out V2 hT2).mono ?_;rintro e V3 ⟨ya,yc,rfl,hby,hb3⟩;have hby':=fun(V:World) (hV:Below V3.heap.size V3 V)=>hby.below hV
    clear hby;have hT3:=Tq hT2 hb3;have e3:=hb3.size;have hx20:=Bq hb3 hx20;have hx19:=Bq hb3 hx19;refine Kq hK hT3 ?_;refine dG 13 fun K hK=>?_
    go_simp;go_at_call 28;refine(HRA.out V3 hT3 _ _ _ (hby' _ (by first|exact Rq|assumption|exact Tq hb2 hb3|exact Tq hb3 hb4))).mono ?_;rintro e V4 ⟨v',jv,rfl,hrd,hrj,hb4⟩;obtain⟨b0,b1,b2,b3,b4,b5,b6,b7,b8,b9,rfl⟩:=hrj.jform;obtain⟨fa,fn,fc,fd,fm,fe,fl,fb,fz,rfl⟩:=hrd.form;have hT4:=Tq hT3 hb4;have e4:=hb4.size;have hx20:=Bq hb4 hx20;have hx19:=Bq hb4 hx19;refine Kq hK hT4 ?_;refine tkP 14 hT4 ?_;refine tkP 15 hT4 ?_;refine tkP 16 hT4 ?_;refine tkP 17 hT4 ?_;refine tkP 18 hT4 ?_;have hbc12:=hb4;have hbc13:=(Below.refl V4.heap.size V4)
  all_goals
   have hne:¬p20=p19:=by have h1:=HZ19.out;have h2:=HZ20.out;omega
   refine dGf 21 fun K hK=>?_
   refine Pv 39 10 106 p19 hx19 ?_;intro U1 xp19 cp19 sp19;have hx20:=(cp19.block p20 (Ax hx20).1 hne).trans hx20;refine Kr hK ?_;refine dGf 22 fun K hK=>?_
   refine Pv 41 11 107 p20 hx20 ?_;intro U2 xp20 cp20 sp20;refine Kr hK ?_;refine dGf 23 fun K hK=>?_
   go_simp;refine Kr hK ?_;refine dGf 24 fun K hK=>?_
   go_simp;refine Kr hK ?_;refine eG ?_;have hz19:=HZ19.out;have hz20:=HZ20.out;exact⟨rfl,p19,p20,_,_,fun k=>[_,_,_,_,_,_,_,_,_,_,_,_,_,_,_,_,_,_,_].getD (k-91) undef,rfl,Ck cp20 xp19,xp20,by omega,by omega,hrj.jform,Kv hT4 hbc13 (by omega) cp19 cp20 (by omega) (by omega) HQW.out hrd (fun _=>hrj)⟩
 rintro a' V1 ⟨p6,p7,cd,cj,vf,ha,hx6,hx7,hp6,hp7,hjf,hb1,hrd,hrj⟩;subst ha;obtain⟨fa,fn,fc,fd,fm,fe,fl,fb,fz,e⟩:=hrd.form;cases e;obtain⟨b0,b1,b2,b3,b4,b5,b6,b7,b8,b9,e⟩:=hjf;cases e;have hrj:=hrj trivial
 try simp only[P0,P1,P2,P3,P4]
 have hxk0:=Bq hb1 HXP.out;have hxs:=(Ax HXP.out).1;obtain⟨HC3D,HC3J,HRD,HRR,HBV⟩:=Hd5 (fun w' (hw':Chg (fun k=>k=x) V1 w')=>by have h1:=(Ck hw' hx6);exact Cr5 h1) (fun w' (hw':Chg (fun k=>k=x) V1 w')=>by have h1:=(Ck hw' hx7);exact Cr8 h1) hrd hrj hb1;clear hrd hrj hb1 hx6 hx7;go_upto_region 11 with(fail)
 refine bH (fun k=>k=x) ?_;intro wd hd0 hS0;refine tkH 0 hS0 ?_;refine tkH 1 hS0 ?_;refine AD 2 HC3D.out hS0 ?_;refine AD 3 HC3J.out hS0 ?_;refine tkH 4 hS0 ?_;refine tkH 5 hS0 ?_;refine dH 6 fun K hK=>?_
 refine Hb rfl 39 (.tmp 115) (.tmp 112) rfl x _ _ _ _ _ _ _ _ _ _ _ _ _ _ _ _ _ _ _ _ _ rfl rfl (Bq hd0 hxk0) (by kernel_rfl) (by kernel_rfl) ?_;intro B1 hxk1 c1 s1;have hS11:Chg (fun k=>k=x) V1 B1:=hS0.trans c1 (fun k e=>.inl e);refine Kq hK (hS11) ?_;have hS0:=hS11;refine tkH 7 hS0 ?_;refine tkH 8 hS0 ?_;refine dH 9 fun K hK=>?_
 refine Hc rfl 41 (.tmp 117) (.tmp 113) rfl x _ _ _ _ _ _ _ _ _ _ _ _ _ _ _ _ _ _ _ _ _ _ _ _ rfl rfl hxk1 (by kernel_rfl) (by kernel_rfl) ?_;intro B2 hxk2 c2 s2;have hS12:Chg (fun k=>k=x) V1 B2:=hS0.trans c2 (fun k e=>.inl e);refine Kq hK (hS12) ?_;have hS0:=hS12;refine eH ?_;have HEND:=Hd (show WS w B2 x b Z1 R (some (g,Z2))from HWX2.out.next HJ2.out HC2.out HBV.out HRD.out HRR.out hS12 hxk2);clear hS12 hS11 hS0 hd0 hxk0 hxk1 hxk2 c1 c2 s1 s2 HC3D HC3J HC HC4D HC4J HC4K;go_wp2_with fail;exact Bv (.bool true) ⟨rfl,HEND.out⟩
variable {P:Program}{ops:Array Oper}{o:Oper}{a:Act}{Q:Exit→Act→World→Prop}{n:Nat}{F:Nat→Prop}{dv jv:Value}
theorem MD {rest:List Oper} (hgd:o.guard=none) (hdst:o.dst=none) (ty:TypeId) (x y:Operand) (ho:o.op=.store ty x y)
 (g:Nat) (v0 c0 c1 c2 c3 c4 c5 c6 c7 c8 c9 c10 c11 c12 c13 c14 c15:Value) (hx:a.eval x=.pointer (some ⟨g,5,none⟩)) (hy:a.eval y=v0) {T:TypeId} (hg:w.heap[g]?=some (.cells #[c0,c1,c2,c3,c4,c5,c6,c7,c8,c9,c10,c11,c12,c13,c14,c15] T (0,0))) (hv:v0.oneCell'=true) (hsz:(P.info? ty).map (·.size)=some 1)
 (h:∀w',w'.heap[g]?=some (.cells #[c0,c1,c2,c3,c4,v0,c6,c7,c8,c9,c10,c11,c12,c13,c14,c15] T (0,0))→Chg (fun k=>k=g) w w'→w'.heap.size=w.heap.size→wpList P ops Q rest a w'):wpList P ops Q (o::rest) a w:=Az hgd hdst ty x y ho g 5 v0 hx hy hg (by simp) hv hsz (fun w' e=>h w' (by simpa using e))
theorem ME {rest:List Oper} (hgd:o.guard=none) (hdst:o.dst=none) (ty:TypeId) (x y:Operand) (ho:o.op=.store ty x y)
 (g:Nat) (v0 c0 c1 c2 c3 c4 c5 c6 c7 c8 c9 c10 c11 c12 c13 c14 c15:Value) (hx:a.eval x=.pointer (some ⟨g,4,none⟩)) (hy:a.eval y=v0) {T:TypeId} (hg:w.heap[g]?=some (.cells #[c0,c1,c2,c3,c4,c5,c6,c7,c8,c9,c10,c11,c12,c13,c14,c15] T (0,0))) (hv:v0.oneCell'=true) (hsz:(P.info? ty).map (·.size)=some 1)
 (h:∀w',w'.heap[g]?=some (.cells #[c0,c1,c2,c3,v0,c5,c6,c7,c8,c9,c10,c11,c12,c13,c14,c15] T (0,0))→Chg (fun k=>k=g) w w'→w'.heap.size=w.heap.size→wpList P ops Q rest a w'):wpList P ops Q (o::rest) a w:=Az hgd hdst ty x y ho g 4 v0 hx hy hg (by simp) hv hsz (fun w' e=>h w' (by simpa using e))
theorem Is {rest:List Oper} (hgd:o.guard=none) (hdst:o.dst=none) (ty:TypeId) (x y:Operand) (ho:o.op=.store ty x y)
 (g:Nat) (v0 v1 v2 v3 v4 c0 c1 c2 c3 c4 c5 c6 c7 c8 c9 c10 c11 c12 c13 c14 c15:Value) (hx:a.eval x=.pointer (some ⟨g,2,none⟩)) (hy:a.eval y=.agg #[v0,v1,v2,v3,v4]) {T:TypeId} (hg:w.heap[g]?=some (.cells #[c0,c1,c2,c3,c4,c5,c6,c7,c8,c9,c10,c11,c12,c13,c14,c15] T (0,0))) (hi:(P.info? ty).map (·.size)=some 5) (h1:(#[v0,v1,v2,v3,v4]:Array Value).all (·.oneCell')=true)
 (h:∀w',w'.heap[g]?=some (.cells #[c0,c1,v0,v1,v2,v3,v4,c7,c8,c9,c10,c11,c12,c13,c14,c15] T (0,0))→Chg (fun k=>k=g) w w'→w'.heap.size=w.heap.size→wpList P ops Q rest a w'):wpList P ops Q (o::rest) a w:=Gq hgd hdst ty x y ho g 2 #[v0,v1,v2,v3,v4] hx hy hg (by simp) hi h1 (fun w' e=>h w' (by simpa[I9]using e))
theorem RefAt.fail {Q:Nat→Prop}{a b:Option Addr}{an ac bn bc:Nat}{l z:Int}{d:Bool} (h:RefAt w Q S (.agg #[.slice a an ac,.slice b bn bc,.int .i64 l,.bool d,.int .i64 z])):RefAt w Q {S with down:=true} (.agg #[.slice a an ac,.slice b bn bc,.int .i64 l,.bool true,.int .i64 z]):=by obtain⟨dv,wv,e,h1,h2⟩:=h;unfold A9 at e;cases e;exact⟨_,_,rfl,h1,h2⟩
theorem RefAt.lim {Q:Nat→Prop}{a b:Option Addr}{an ac bn bc:Nat}{l z:Int}{d:Bool} (h:RefAt w Q S (.agg #[.slice a an ac,.slice b bn bc,.int .i64 l,.bool d,.int .i64 z])) (n:Int):RefAt w Q (S.setLimit n) (.agg #[.slice a an ac,.slice b bn bc,.int .i64 (max n (-1)),.bool d,.int .i64 z]):=by
 obtain⟨dv,wv,e,h1,h2⟩:=h;unfold A9 at e;cases e;have e:Au (S.setLimit n)=max n (-1):=by
  unfold Au DS.setLimit;by_cases h0:0≤n
  ·rw[Ip h0];show((n.toNat:Nat):Int)=_;omega
  ·rw[In h0];show(-1:Int)=_;omega
 exact⟨_,_,by unfold A9;rw[e];rfl,h1,h2⟩
theorem WX.swap {W4 V B:World}{x:Nat}{S2:DS}{P Q:Nat→Prop}{jp v0 v1 v2 v3 v4 j0 j1 j2 j3 j4 j5 j6 j7:Value} (h:WX w W x b S P Q n jp dv jv) (hjf:Fx (.agg #[j0,j1,j2,j3,j4,j5,j6,j7]))
 (hc:Chg (fun k=>P k∨k=x) W W4) (hF:DiskAt W4 F b S2) (hFP:∀k,F k→P k) (hb:Below W4.heap.size W4 V) (hr:RefD V (fun k=>Q k∨W4.heap.size≤k) S2 (.agg #[v0,v1,v2,v3,v4])) (hc3:Chg (fun k=>k=x) V B)
 (hx:B.heap[x]?=some (.cells #[.pointer (some ⟨b,0,none⟩),jp,v0,v1,v2,v3,v4,j0,j1,j2,j3,j4,j5,j6,j7,.int .i64 n] 43 (0,0))):WX w B x b S2 P (fun k=>(Q k∨W4.heap.size≤k)∧k<V.heap.size) n jp (.agg #[v0,v1,v2,v3,v4]) (.agg #[j0,j1,j2,j3,j4,j5,j6,j7]):=by
 have h1:=h.below.size;have h2:=hc.size;have h3:=hb.size;have h9:=hc3.size;have hxW:x<W.heap.size:=by obtain⟨_,_,_,_,_,_,_,_,_,_,_,_,_,_,_,h4⟩:=h.blk;exact(Ax h4).1
 have hb1:=h.below.trans (hc.below (fun k e=>e.elim (h.plo k) (fun e=>by rw[e];exact h.xlo)) h1);have hb2:=Tq hb1 hb;have hb3:=hb2.trans (hc3.below (fun k e=>by rw[e];exact h.xlo) hb2.size);refine⟨hb3,⟨_,_,_,_,_,_,_,_,_,_,_,_,_,rfl,rfl,hx⟩,⟨F,(hF.below hb).chg hc3 (fun k h4 e=>h.px (by rw[←e];exact hFP k h4)),hFP⟩,hr.bound.kept hc3 (fun k h4 e=>?_),hjf,h.px,fun h4=>?_,fun k h4 h5=>?_,h.plo,fun k h4=>by have:=h.phi k h4;omega,fun k h4=>by omega,h.xlo⟩
 ·subst e;rcases h4.1 with h5|h5;exact h.qx h5;omega
 ·rcases h4.1 with h5|h5;exact h.qx h5;omega
 ·rcases h5.1 with h6|h6
  ·exact h.pq k h4 h6
  ·have:=h.phi k h4;omega
theorem R0 {x t:Nat}{j:Option (Nat×JD)}{o:JOp} (hK:KAt w) (h:WS w W x b S R j) (hi:WInv S R j t) (ht:t≤100) (ho:o.At w) (hk:o.kind%5=3∨j=none):
 Ca 9 #[.pointer (some ⟨x,0,none⟩),.agg #[.int .u8 (o.kind:Int),.int .u16 (o.n:Int),.int .u8 (o.b.toNat:Int),.slice o.a o.cs.length o.cap]] W fun e W'=>e=.returned (.bool true)∧∃g,WS w W' x b (openR ({S with down:=true}.restart o.cs).1 R).1 R (if(openR ({S with down:=true}.restart o.cs).1 R).2.1=0 then some (g,(openR ({S with down:=true}.restart o.cs).1 R).2.2)else none):=by
 obtain⟨Z,hZ⟩:=Xq (({S with down:=true}:DS).restart o.cs);obtain⟨Z1,er⟩:=Z;have hcr:=hi.crash o.cs;rw[hZ]at hcr⊢;obtain⟨hcr1,hcr2,hcr3⟩:=hcr;simp only at hcr1 hcr2 hcr3⊢;subst hcr3;obtain⟨HCR,HCD,HZZ⟩:=Hd3 hcr1 hcr2 hZ;clear hcr1 hcr2 hZ;obtain⟨PO,hPO⟩:∃PO:World→Prop,PO=fun W'=>∃g,WS w W' x b (openR Z1 R).1 R (if(openR Z1 R).2.1=0 then some (g,(openR Z1 R).2.2)else none):=⟨_,rfl⟩
 suffices hs:Ca 9 #[.pointer (some ⟨x,0,none⟩),.agg #[.int .u8 (o.kind:Int),.int .u16 (o.n:Int),.int .u8 (o.b.toNat:Int),.slice o.a o.cs.length o.cap]] W (fun e W'=>e=.returned (.bool true)∧PO W')from by rw[hPO]at hs;exact hs
 have HPO:=Hd hPO;clear hPO;obtain⟨P,Q,jp,dv,jv,hx,hj⟩:=h.get;obtain⟨da,dn,dc,dd,dm,de,dl,db,dz,a0,a1,a2,a3,a4,a5,a6,a7,a8,a9,rfl,rfl,hcell⟩:=hx.lit;have hjn:o.kind%5=3∨jp=.pointer none:=hk.imp id fun e=>by
  rcases hj with⟨_,e2⟩| ⟨g,J,e2,_⟩
  ·exact e2
  ·rw[e]at e2;cases e2
 obtain⟨W1,hW1⟩:=Xq (W.alloc (.cells #[.int .u8 (o.kind:Int),.int .u16 (o.n:Int),.int .u8 (o.b.toNat:Int),.slice o.a o.cs.length o.cap] 32));have hb1:=Lq hW1;obtain⟨q,hq⟩:=Xq (W.heap.size);have hqc:=Nq hW1 hq;have hxc:=Bq hb1 hcell;have hPq:∀k,P k→¬k=q:=fun k h e=>by have:=hx.phi k h;omega
 have hxq:¬x=q:=fun e=>by have:=(Ax hcell).1;omega
 have hwx:=hx.step hb1;obtain⟨F,hF,hFP⟩:=hwx.dev;obtain⟨HFP,HF,HWX,HC,HXC,HQC,HPQ,HXQ,HI,HK,HQ,HW1,HBY,HLC⟩:=Hd14 hFP hF hwx (fun w' (hw':Chg P W1 w')=>by have h1:=((hw'.block x (Ax hxc).1 hx.px).trans hxc);have h2:=((hw'.block q (Ax hqc).1 (fun h=>hPq q h rfl)).trans hqc);exact Dq19 (Cq h1 0) (Cq h1 1) (Cq h1 2) (Cq h1 3) (Cq h1 4) (Cq h1 5) (Cq h1 6) (Cq h1 7) (Cq h1 8) (Cq h1 9) (Cq h1 10) (Cq h1 11) (Cq h1 12) (Cq h1 13) (Cq h1 14) (Cq h2 0) (Cq h2 1) (Cq h2 2) (Cq h2 3)) hxc hqc hPq hxq hi hK hq hW1 (show∀V,Below w.heap.size w V→BytesAt V (fun k=>k<w.heap.size) (.slice o.a o.cs.length o.cap) o.cs from fun V hV=>(ho.bytes.at_.mono' (G:=fun k=>k<w.heap.size) (fun k hk _=>hk)).kept (G:=fun _=>False) (Cb hV) (fun _ _ h=>h)) ho.len;obtain⟨c0,c1,c2,c3,c4,c5,c6,c7,c8,c9,c10,c11,c12,c13,c14,k0,k1,k2,k3⟩:=HC.out W1 (Cb Rq);have hkd8:=ho.kd;obtain⟨kd,hkd⟩:=Xq (o.kind);rw[hkd]at hjn hkd8 k0;clear hq hW1 hb1 hqc hxc hPq hxq hcell hx hj hi hK ho hkd hk hF hFP hwx;go_enter Tryz.func9,Tryz.ntmps9;go_upto_region 1 with(fail)
 rw[HW1.out]
 try rw[HQ.out]
 have hjc:kd%5=3∨(kd%5≠3∧jp=.pointer none):=by by_cases h3:kd%5=3;exact .inl h3;exact .inr ⟨h3,hjn.resolve_left h3⟩
 clear hjn;refine CC (fun a0_ a' w'=>∃(v25 v26 v27 v28 v29 v30 v31 v32 v33 v34 v35:Value),a'=((((((((((((a0_.put (some 24) (.bool true)).put (some 25) v25).put (some 26) v26).put (some 27) v27).put (some 28) v28).put (some 29) v29).put (some 30) v30).put (some 31) v31).put (some 32) v32).put (some 33) v33).put (some 34) v34).put (some 35) v35)∧w'=W1) ?_ ?_
 ·rcases hjc with h3| ⟨h3,hjp⟩
  ·have hkm:(kd:Int)%5=3:=by omega
   have hkt:Int.tmod (kd:Int) 5=3:=by rw[Int.tmod_eq_emod_of_nonneg (by omega)];omega
   go_wp2_with fail
   all_goals exact⟨rfl,_,_,_,_,_,_,_,_,_,_,_,rfl,rfl⟩
  ·subst hjp;have hkm:¬(kd:Int)%5=3:=by omega
   have hkt:Int.tmod (kd:Int) 5=(kd:Int)%5:=Int.tmod_eq_emod_of_nonneg (by omega);have hkb:(((kd:Int)%5)==3)=false:=by simpa using hkm
   go_wp2_with fail
   all_goals exact⟨rfl,_,_,_,_,_,_,_,_,_,_,_,rfl,rfl⟩
 rintro a' V9 ⟨v25,v26,v27,v28,v29,v30,v31,v32,v33,v34,v35,rfl,rfl⟩
 try simp only[P0,P1,P2,P3,P4]
 clear hjc;go_wp2_with fail;refine(Qj HF.out).mono ?_;rintro e W2 ⟨rfl,hd2,hc2⟩;clear c0 c1 c2 c3 c4 c5 c6 c7 c8 c9 c10 c11 c12 c13 c14 k0 k1 k2 k3;have hc2P:=hc2.mono HFP.out;obtain⟨c0,c1,c2,c3,c4,c5,c6,c7,c8,c9,c10,c11,c12,c13,c14,k0,k1,k2,k3⟩:=HC.out W2 hc2P;have HX2:=Hd ((hc2P.block x (Ax HXC.out).1 HWX.out.px).trans HXC.out);have HQ2:=Hd ((hc2P.block q (Ax HQC.out).1 (fun h=>HPQ.out q h rfl)).trans HQC.out);go_wp2_with (refine MD rfl rfl 4 (.tmp 44) (.const (.bool true)) rfl x _ _ _ _ _ _ _ _ _ _ _ _ _ _ _ _ _ rfl rfl HX2.out rfl (by kernel_rfl) ?_;refine Stop.on ?_)
 refine Stop.go ?_
 try simp only[P0,P1,P2,P3,P4]
 intro B1 hxk1 cx1 sx1;clear c0 c1 c2 c3 c4 c5 c6 c7 c8 c9 c10 c11 c12 c13 c14 k0 k1 k2 k3;obtain⟨HDB,HCB,HC5,HXB⟩:=Hd4 (hd2.chg cx1 (fun k h e=>HWX.out.px (by rw[←e];exact HFP.out k h))) (hc2P.mono (G:=fun k=>P k∨k=x) (fun k h=>.inl h)|>.trans (cx1.mono (G:=fun k=>P k∨k=x) (fun k h=>.inr h)) (fun _ h=>.inl h)) (fun w' (hw':Chg P B1 w')=>by have h1:=((hw'.block x (Ax hxk1).1 HWX.out.px).trans hxk1);have h2:=((hw'.block q (by have:=(Ax HQ2.out).1;omega) (fun h=>HPQ.out q h rfl)).trans ((cx1.block q (Ax HQ2.out).1 (fun e=>HXQ.out e.symm)).trans HQ2.out));exact Dq7 (Cq h1 0) (Cq h1 2) (Cq h1 3) (Cq h1 4) (Cq h1 5) (Cq h1 6) (Cq h2 3)) hxk1;have HB0:=Hd (show Below w.heap.size w B1 from HWX.out.below.trans (HCB.out.below (fun k e=>e.elim (HWX.out.plo k) (fun e=>by rw[e];exact HWX.out.xlo)) HWX.out.below.size));clear hxk1 cx1 sx1 hd2 hc2 hc2P;go_upto_region 4 with(fail)
 refine bH P ?_;intro wd hd0 hS0;refine tkH 0 hS0 ?_;refine tkH 1 hS0 ?_;refine tkH 2 hS0 ?_;refine AD 3 HC5.out hS0 ?_;refine tkH 4 hS0 ?_;refine AD 5 HC5.out hS0 ?_;refine dH 6 fun K hK=>?_
 go_simp;go_at_call 25;refine(MR _ o.cs (HDB.out.below hd0) (HBY.out wd (Tq HB0.out hd0)) (fun k h1 h2=>by have:=HWX.out.plo k (HFP.out k h1);omega) (by have:=HI.out.room.pend;show S.pend.length<_;omega) (by have:=HLC.out;omega)).mono ?_;rw[HZZ.out];rintro e W4 ⟨rfl,hd4,hc4⟩;have hS4:Chg P B1 W4:=(Cb hd0).trans (hc4.mono HFP.out) (fun _ h=>.inl h);refine Kq hK (hS4) ?_;refine tkH 7 hS4 ?_;refine eH ?_;obtain⟨HD4,HOK4,HC4,HQW⟩:=Hd4 hd4 hd4.ok hS4 (show∀k,Q k→k<W4.heap.size from fun k hk=>Nl (HWX.out.qhi k hk) (Nt HCB.out.size hS4.size));have HC6:=Hd (show∀w',Below W4.heap.size W4 w'→w'.cell? ⟨x,2,none⟩=some (.slice da dn dc)∧w'.cell? ⟨x,3,none⟩=some (.slice dd dm de)∧w'.cell? ⟨x,4,none⟩=some (.int .i64 dl)∧w'.cell? ⟨x,5,none⟩=some (.bool true)∧w'.cell? ⟨x,6,none⟩=some (.int .i64 dz)∧w'.cell? ⟨q,3,none⟩=some (.slice o.a o.cs.length o.cap)from fun w' hw'=>by
 obtain⟨c0,c2,c3,c4,c5,c6,k3⟩:=HC5.out w' (HC4.out.trans (Cb hw') (fun _ h=>.inl h));exact⟨c2,c3,c4,c5,c6,k3⟩);have HX4:=Hd ((hS4.block x (Ax HXB.out).1 HWX.out.px).trans HXB.out);have HCX:=Hd (HCB.out.trans (hS4.mono (G:=fun k=>P k∨k=x) (fun k h=>.inl h)) (fun _ h=>.inl h));have HB4:=Hd (HB0.out.trans (hS4.below (fun k h=>HWX.out.plo k h) HB0.out.size));have HRA:=Hd (fun(V:World) (hV:Below W4.heap.size W4 V)=>show Ca 26 #[_,_] V (DT V Q Z1 0)from by
 have hcV:=HCX.out.trans (Cb hV) (fun _ h=>.inl h);have h9:=Nj o.cs ((HWX.out.ref.at_.kept hcV (fun k h h'=>h'.elim (fun h'=>HWX.out.pq k h' h) (fun e=>HWX.out.qx (by rw[←e];exact h)))).fail) (HBY.out V (Tq HB4.out hV)) HDB.out.ok (by have:=HI.out.room.pend;show S.pend.length<_;omega) (by have:=HLC.out;omega);rw[HZZ.out]at h9;exact h9);clear hd4 hc4 hS4 hS0 hd0;go_upto_region 5 with(fail)
 refine CC (fun a0_ a' w'=>∃(p6:Nat) (fa:Option Addr) (fn fc:Nat) (fd:Option Addr) (fm fe:Nat) (fl:Int) (fb:Bool) (fz:Int) (v52 v53 v54 v55 v56 v57 v58 v59 v60 v61:Value),a'=((((((((((((a0_.put (some 6) (.pointer (some ⟨p6,0,none⟩))).put (some 7) (.int .i64 0)).put (some 52) v52).put (some 53) v53).put (some 54) v54).put (some 55) v55).put (some 56) v56).put (some 57) v57).put (some 58) v58).put (some 59) v59).put (some 60) v60).put (some 61) v61)∧w'.heap[p6]?=some (.cells #[.slice fa fn fc,.slice fd fm fe,.int .i64 fl,.bool fb,.int .i64 fz] 39 (0,0))∧W4.heap.size≤p6∧Below W4.heap.size W4 w'∧RefD w' (fun k=>Q k∨W4.heap.size≤k) Z1 (.agg #[.slice fa fn fc,.slice fd fm fe,.int .i64 fl,.bool fb,.int .i64 fz])) ?_ ?_
 ·refine bG [11,12] ?_;intro V0 hd0;have e0:=hd0.size;have hT0:=hd0;try simp only[P0,P1,P2,P3,P4];refine tkP 0 hT0 ?_;refine tkP 1 hT0 ?_;refine tkP 2 hT0 ?_;refine BV 3 HC6.out hT0 ?_;refine tkP 4 hT0 ?_;refine BV 5 HC6.out hT0 ?_;refine A4 (i:=6) (j:=10) (by kernel_rfl) rfl rfl rfl rfl (fun K hK=>?b1) (fun K hK=>?b2)
  case' b1=>
   go_simp;go_at_call 26;refine(HRA.out V0 hT0).mono ?_;rintro e V1 ⟨v',rfl,hrr,hb1⟩;have hrd:RefD _ _ _ _:=⟨hrr,HOK4.out⟩;obtain⟨fa,fn,fc,fd,fm,fe,fl,fb,fz,rfl⟩:=hrd.form;have hT1:=Tq hT0 hb1;have e1:=hb1.size;refine Kq hK hT1 ?_;refine tkP 7 hT1 ?_;refine tkP 8 hT1 ?_;refine tkP 9 hT1 ?_;refine dG 10 fun K hK=>?_
   refine AB rfl 39 rfl Zd 5 (by kernel_rfl) ?_;intro V2 p10 hx10 hb2 hz10;have HZ10:=Hd hz10;clear hz10;have hT2:=Tq hT1 hb2;have e2:=hb2.size;refine Kq hK hT2 ?_;have hbc6:=hb2
  case' b2=>
   refine AB rfl 39 rfl Zd 5 (by kernel_rfl) ?_;intro V1 p10 hx10 hb1 hz10;have HZ10:=Hd hz10;clear hz10;have hT1:=Tq hT0 hb1;have e1:=hb1.size;refine Kq hK hT1 ?_;refine dG 6 fun K hK=>?_
   go_simp;go_at_call 26;refine(HRA.out V1 hT1).mono ?_;rintro e V2 ⟨v',rfl,hrr,hb2⟩;have hrd:RefD _ _ _ _:=⟨hrr,HOK4.out⟩;obtain⟨fa,fn,fc,fd,fm,fe,fl,fb,fz,rfl⟩:=hrd.form;have hT2:=Tq hT1 hb2;have e2:=hb2.size;have hx10:=Bq hb2 hx10;refine Kq hK hT2 ?_;refine tkP 7 hT2 ?_;refine tkP 8 hT2 ?_;refine tkP 9 hT2 ?_;have hbc6:=(Below.refl V2.heap.size V2)
  all_goals
   refine dGf 11 fun K hK=>?_
   refine Pv 39 6 60 p10 hx10 ?_;intro U1 xp10 cp10 sp10;refine Kr hK ?_;refine dGf 12 fun K hK=>?_
   go_simp;refine Kr hK ?_;refine eG ?_;have hz10:=HZ10.out;have hcW:=(Cb (F:=fun k=>k=p10) hbc6).trans cp10 (fun _ e=>.inl e);have hQ:=HQW.out;exact⟨rfl,p10,_,_,_,_,_,_,_,_,_,_,_,_,_,_,_,_,_,_,_,rfl,xp10,by omega,hT2.trans (cp10.below (fun k e=>by omega) hT2.size),(hrd.bound.kept hcW (fun k h e=>by rcases h with⟨h|h,h2⟩<;>first|omega | (have:=hQ k h;omega))).mono (fun k h=>h.1.imp id (fun h=>by omega))⟩
 rintro a' V1 ⟨p6,fa,fn,fc,fd,fm,fe,fl,fb,fz,v52,v53,v54,v55,v56,v57,v58,v59,v60,v61,rfl,hx6,hp6,hb1,hrd⟩
 try simp only[P0,P1,P2,P3,P4]
 have HXV:=Hd (Bq hb1 HX4.out);obtain⟨f0,f1,f2,f3,f4⟩:=Cr5 hx6;have HRD:=Hd hrd;have HBV:=Hd hb1;clear hx6 hrd hb1;go_upto_region 6 with(fail)
 go_wp2_with (refine Is rfl rfl 39 (.tmp 65) (.tmp 63) rfl x _ _ _ _ _ _ _ _ _ _ _ _ _ _ _ _ _ _ _ _ _ rfl rfl HXV.out (by kernel_rfl) (by kernel_rfl) ?_;refine Stop.on ?_)
 refine Stop.go ?_
 try simp only[P0,P1,P2,P3,P4]
 intro B2 hxk2 cx2 sx2;have HWB:=Hd (HWX.out.swap ⟨_,_,_,_,_,_,_,_,_,_,rfl⟩ HCX.out HD4.out HFP.out HBV.out HRD.out cx2 hxk2);clear f0 f1 f2 f3 f4 hxk2 cx2 sx2;go_wp2_with (go_at_call 12;refine(Ir HK.out HWB.out ⟨HCR.out.dev.len,HCR.out.dev.rng⟩ HCR.out.a3 HCR.out.c8 HCD.out (HCR.out.room.less (by omega))).mono ?_;rintro e W6 ⟨rfl,g,hws⟩)
 exact Bv (.bool true) ⟨rfl,by rw[HPO.out];exact⟨g,hws⟩⟩
variable {w':World}{G:Nat→Prop}
theorem JSt.dev' {S':DS} (h:JSt w F G b g S R J) (hd:DiskAt w' F b S') (hc:Chg F w w'):JSt w' F G b g S' R J:=by obtain⟨ev,h1,h2⟩:=h.mem;exact⟨hd,⟨ev,h1.chg hc h.fg,h2.chg hc (fun k _ h3 h4=>h.fG k h3 h4)⟩,h.fg,h.gG,h.fG,fun k hk=>Nl (h.fl k hk) hc.size,fun k hk=>Nl (h.gl k hk) hc.size⟩
theorem SD {U:Nat→Prop} (h:JAll w W U b g S R J) (n:Int):
 Ca 32 #[.pointer (some ⟨b,0,none⟩),.int .i64 n] W fun e W'=>e=.returned (.tuple #[])∧JAll w W' (fun k=>U k∨W.heap.size≤k) b g (S.setLimit n) R J∧Chg U W W':=by
 obtain⟨F,G,h1,h2,h3⟩:=h.st;refine(LD n h1.dev).mono ?_;rintro e W' ⟨rfl,hd,hc⟩;have hcU:=hc.mono h2;exact⟨rfl,⟨h.below.trans (hcU.below h.lo h.below.size),⟨F,G,h1.dev' hd hc,fun k hk=>.inl (h2 k hk),fun k hk=>.inl (h3 k hk)⟩,.inl h.ug,fun k hk=>hk.elim (h.lo k) (fun h4=>Nt h.below.size h4)⟩,hcU⟩
theorem Sh {x t:Nat}{o:JOp} (hK:KAt w) (h:WS w W x b S R (some (g,J))) (hi:WInv S R (some (g,J)) t) (ht:t≤100) (ho:o.At w) (hk:o.kind%5=4):
 Ca 9 #[.pointer (some ⟨x,0,none⟩),.agg #[.int .u8 (o.kind:Int),.int .u16 (o.n:Int),.int .u8 (o.b.toNat:Int),.slice o.a o.cs.length o.cap]] W fun e W'=>e=.returned (.bool true)∧WS w W' x b (S.setLimit (((o.n%60:Nat):Int)-5)) R (some (g,J)):=by
 have hm:((o.n%60:Nat):Int)-5=(o.n:Int)%60-5:=by omega
 rw[hm];obtain⟨S5,hS5⟩:∃T,S.setLimit ((o.n:Int)%60-5)=T:=⟨_,rfl⟩;rw[hS5];have HS5:=Hd hS5;clear hS5 hm;obtain⟨P,Q,dv,jv,hx,hja,hrj⟩:=h;obtain⟨da,dn,dc,dd,dm,de,dl,db,dz,a0,a1,a2,a3,a4,a5,a6,a7,a8,a9,rfl,rfl,hcell⟩:=hx.lit;obtain⟨W1,hW1⟩:=Xq (W.alloc (.cells #[.int .u8 (o.kind:Int),.int .u16 (o.n:Int),.int .u8 (o.b.toNat:Int),.slice o.a o.cs.length o.cap] 32));have hb1:=Lq hW1;obtain⟨q,hq⟩:=Xq (W.heap.size);have hqc:=Nq hW1 hq;have hxc:=Bq hb1 hcell;have hPq:∀k,P k→¬k=q:=fun k h e=>by have:=hx.phi k h;omega
 obtain⟨HPB,HWX,HJA,HRJ,HC,HXC,HI,HK,HQ,HW1,HKD,HN,HRN⟩:=Hd13 (show∀k,P k→k<W1.heap.size from fun k h=>Nl (hx.phi k h) hb1.size) (hx.step hb1) (hja.step hb1) (hrj.below hb1) (fun w' (hw':Chg P W1 w')=>by have h1:=((hw'.block x (Ax hxc).1 hx.px).trans hxc);have h2:=((hw'.block q (Ax hqc).1 (fun h=>hPq q h rfl)).trans hqc);exact Dq19 (Cq h1 0) (Cq h1 1) (Cq h1 2) (Cq h1 3) (Cq h1 4) (Cq h1 5) (Cq h1 6) (Cq h1 7) (Cq h1 8) (Cq h1 9) (Cq h1 10) (Cq h1 11) (Cq h1 12) (Cq h1 13) (Cq h1 14) (Cq h2 0) (Cq h2 1) (Cq h2 2) (Cq h2 3)) hxc hi hK hq hW1 ho.kd ho.n (show R.cnt≤45∧R.half≤24∧J.first+J.ents.length≤2147483700+t∧J.used≤24 from⟨hi.c45,Cl hi.dev,hi.ji.nx,by have h1:=hi.ji.used;have h2:=hi.ji.fit;have h3:=Cl hi.dev;omega⟩);obtain⟨c0,c1,c2,c3,c4,c5,c6,c7,c8,c9,c10,c11,c12,c13,c14,k0,k1,k2,k3⟩:=HC.out W1 (Cb Rq);obtain⟨kd,hkd⟩:=Xq (o.kind);rw[hkd]at hk HKD k0;have hkm:(kd:Int)%5=4:=by omega
 have hkt:Int.tmod (kd:Int) 5=4:=by rw[Int.tmod_eq_emod_of_nonneg (by omega)];omega
 clear hq hW1 hb1 hqc hxc hPq hcell hx hja hrj hi hK ho hkd;go_enter Tryz.func9,Tryz.ntmps9;go_upto_region 1 with(fail)
 rw[HW1.out]
 try rw[HQ.out]
 go_wp2_with fail;have HPR:=Hd (SD HJA.out ((o.n:Int)%60-5));rw[HS5.out]at HPR;refine HPR.out.mono ?_;rintro e W2 ⟨rfl,hja2,hc2⟩;clear c0 c1 c2 c3 c4 c5 c6 c7 c8 c9 c10 c11 c12 c13 c14 k0 k1 k2 k3;obtain⟨HX2,HJ2,HC2⟩:=Hd3 ((hc2.block x (Ax HXC.out).1 HWX.out.px).trans HXC.out) hja2 hc2;have hrl:=((HWX.out.ref.at_.kept hc2 (fun k h h'=>HWX.out.pq k h' h)).lim ((o.n:Int)%60-5)).mono (G':=fun k=>Q k∨W2.heap.size≤k) (fun k h=>.inl h);rw[HS5.out]at hrl;have HRD:=Hd (show RefD W2 _ S5 _ from⟨hrl,by obtain⟨F,G,h1,_⟩:=hja2.st;exact h1.dev.ok⟩);clear hrl;have HRR:=Hd ((HRJ.out.kept hc2 (fun k _ h h'=>HWX.out.pq k h' h)).mono (G':=fun k=>Q k∨W2.heap.size≤k) (fun k _ h=>.inl h));obtain⟨c0,c1,c2,c3,c4,c5,c6,c7,c8,c9,c10,c11,c12,c13,c14,k0,k1,k2,k3⟩:=HC.out W2 hc2;clear hja2 hc2;go_wp2_with (refine ME rfl rfl 3 (.tmp 223) (.tmp 220) rfl x (.int .i64 (max ((o.n:Int)%60-5) (-1))) _ _ _ _ _ _ _ _ _ _ _ _ _ _ _ _ rfl rfl HX2.out rfl (by kernel_rfl) ?_;refine Stop.on ?_)
 refine Stop.go ?_
 try simp only[P0,P1,P2,P3,P4]
 intro B2 hxk2 cx2 sx2;have HEND:=Hd (show WS w B2 x b S5 R (some (g,J))from HWX.out.next HJ2.out HC2.out Rq HRD.out HRR.out cx2 hxk2);clear c0 c1 c2 c3 c4 c5 c6 c7 c8 c9 c10 c11 c12 c13 c14 k0 k1 k2 k3 hxk2 cx2 sx2 HC;go_wp2_with fail;exact Bv (.bool true) ⟨rfl,HEND.out⟩
theorem WInv.up {j:Option (Nat×JD)}{t u:Nat} (h:WInv S R j t) (htu:t≤u):WInv S R j u:=
 ⟨h.dev,h.a3,h.c8,h.room.less (by omega),fun g J e=>by have k:=h.st g J e;exact⟨k.dev,k.used,k.fit,k.gen,by have:=k.nx;omega,k.st⟩⟩
theorem MF {x t:Nat}{j:Option (Nat×JD)}{o:JOp} (hK:KAt w) (h:WS w W x b S R j) (hi:WInv S R j t) (ht:t≤100) (ho:o.At w):
 Ca 9 #[.pointer (some ⟨x,0,none⟩),.agg #[.int .u8 (o.kind:Int),.int .u16 (o.n:Int),.int .u8 (o.b.toNat:Int),.slice o.a o.cs.length o.cap]] W fun e W'=>e=.returned (.bool true)∧∃S' j',WS w W' x b S' R j'∧WInv S' R j' (t+1)∧(o.kind%5≤2→NL S→NL S'):=by
 by_cases hk:o.kind%5=3∨j=none
 ·obtain⟨h1,h2,h3⟩:=hi.crash o.cs;refine(R0 hK h hi ht ho hk).mono ?_;rintro e W' ⟨rfl,g,h4⟩;refine⟨rfl,_,_,h4,h1.open ht h2 g,fun _ _=>NL.openR ⟨?_,h2⟩⟩;simp[DS.restart]
 ·obtain⟨hk3,hjn⟩:=not_or.1 hk;obtain⟨⟨g,J⟩,rfl⟩:=Option.ne_none_iff_exists'.1 hjn;rcases(show o.kind%5=0∨o.kind%5=1∨o.kind%5=2∨o.kind%5=4 by omega)with h5|h5|h5|h5
  ·refine(Sg hK h hi ht ho h5).mono ?_;rintro e W' ⟨rfl,h4⟩;exact⟨rfl,_,_,h4,hi.app ht _,fun _ hn=>hn.appJ⟩
  ·refine(Se hK h hi ht ho h5).mono ?_;rintro e W' ⟨rfl,h4⟩;exact⟨rfl,_,_,h4,hi.syn ht,fun _ hn=>hn.synJ⟩
  ·refine(Sf hK h hi ht ho h5).mono ?_;rintro e W' ⟨rfl,h4⟩;exact⟨rfl,_,_,h4,hi.trn ht _,fun _ hn=>hn.trnJ⟩
  ·refine(Sh hK h hi ht ho h5).mono ?_;rintro e W' ⟨rfl,h4⟩;exact⟨rfl,_,_,h4,hi.lim ht (by omega),fun h6=>by omega⟩
theorem Nv (hr:R.at_+R.cnt≤48):DevOk (A2 48) R:=
 ⟨by simp[A2],hr,fun s hs _=>⟨by show(List.replicate 48 zeros).getD s zeros=zeros;rw[List.getD_eq_getElem?_getD,List.getElem?_replicate,Ip hs];rfl,fun x hx=>by simp[A2]at hx⟩⟩
theorem K2 (hK:KAt w) (R:JR) (h3:R.at_=3) (h8:8≤R.cnt) (h45:R.cnt≤45):
 Ca 7 #[.int .i64 (R.cnt:Int)] w fun e W'=>∃x b S j,e=.returned (.tuple #[.pointer (some ⟨x,0,none⟩),.bool true])∧WS w W' x b S R j∧WInv S R j 1∧NL S:=by
 have hlen0:(A2 48).dur.length=48:=by simp[A2]
 have hrm:Roomy (A2 48) 999995000:=⟨by show 0+999995000≤_;omega,by show 0+999995000≤_;omega,by show 0≤_;omega⟩;have hst:=Mq (IV (n:=48) (R:=R) (by omega)) rfl rfl h8 (by rw[hlen0];omega) hrm;obtain⟨hl0,S1,S2,hm1,hm2,hn1,hdn1,hlm1,hrm1,_⟩:=hst;have hdo:DevOk S1 R:=by rw[←hm1];exact(Nv (by omega)).moveJ (by omega) ⟨by decide,by decide,by decide,fun b hb=>by cases hb⟩ (by rw[show Aq []=1 from by decide];unfold JR.half;omega)
 obtain⟨HDO,HIN,HNL⟩:=Hd3 hdo (show WInv S1 R none 0 from⟨hdo,h3,h8,hrm1.less (by omega),fun _ _ e=>by cases e⟩) (show NL S1 from⟨hlm1,hdn1⟩);have HFO:=Hd (fun(V:World) (F:Nat→Prop) (b:Nat) (hd:DiskAt V F b (A2 48)) (hb:Below w.heap.size w V) (hlo:∀k,F k→w.heap.size≤k)=>show Ca 15 #[.pointer (some ⟨b,0,none⟩),.int .i64 3,.int .i64 (R.cnt:Int)] V fun e w'=>e=.returned (.int .i64 0)∧DiskAt w' (fun k=>F k∨V.heap.size≤k) b S1∧Chg F V w' from by have h9:=KV hd (KAt.below hK hb hK.size) (fun e=>by have h1:=hlo _ e;have h2:=hK.size;omega) R.at_ R.cnt h8 (by rw[hlen0];omega) rfl hl0 (hrm.less (by omega)) hm1 hm2;rw[h3]at h9;exact h9)
 have HRF:=Hd (fun(V:World) (G:Nat→Prop) (v:Value) (hd:RefD V G (A2 48) v)=>show Ca 23 #[v,.int .i64 3,.int .i64 (R.cnt:Int)] V fun e w'=>∃v',e=.returned (.tuple #[v',.int .i64 0])∧RefD w' (fun k=>G k∨V.heap.size≤k) S1 v'∧Below V.heap.size V w' from by have h9:=Lo hd R h8 (by rw[hlen0];omega) (by rw[hlen0];omega) rfl (hrm.less (by omega));rw[hm1,hm2,h3]at h9;exact h9)
 obtain⟨HK,H3,H8⟩:=Hd3 hK h3 h8;obtain⟨n,hn⟩:=Xq (R.cnt);rw[hn]at HFO HRF⊢;have HN:=Hd hn;clear hl0 hm1 hm2 hn1 hdn1 hlm1 hrm1 hdo hrm hlen0 hn h3 h8;go_enter Tryz.func7,Tryz.ntmps7;go_wp2_with fail;refine(LB 48 w (by omega) (by omega)).mono ?_;rintro e W1 ⟨rfl,hd1,hb1⟩;obtain⟨b,hbE⟩:=Xq (w.heap.size+1);rw[hbE]at hd1⊢;have HD1:=Hd hd1.bound;have HB1:=Hd hb1;clear hbE hd1 hb1;go_wp2_with fail;refine(OP 48 W1 (by omega) (by omega)).mono ?_;rintro e W2 ⟨v2,rfl,hr2,hb2⟩;have hrd:RefD W2 (fun k=>W1.heap.size≤k) (A2 48) v2:=⟨hr2.at,HD1.out.ok⟩;obtain⟨da,dn,dc,dd,dm,de,dl,db,dz,rfl⟩:=hrd.form;have HR2:=Hd hrd.bound;have HB2:=Hd hb2;clear hr2 hrd hb2;obtain⟨W3,hW3⟩:=Xq (W2.alloc (.cells #[.slice none 0 0,.slice none 0 0,.int .i64 0,.bool false,.int .i64 0] 39));obtain⟨p6,hp6⟩:=Xq (W2.heap.size);have hb3:=Lq hW3;have hx6:=Nq hW3 hp6;have hz3:W3.heap.size=p6+1:=by rw[←hW3,Sz,hp6]
 obtain⟨HX6,HW3,HP6,HB3,HZ3⟩:=Hd5 hx6 hW3 hp6 hb3 hz3;clear hW3 hp6 hb3 hx6 hz3;go_wp2_with (rw[HW3.out];try rw[HP6.out];refine Pl 39 6 15 p6 HX6.out ?_;refine Stop.on ?_)
 refine Stop.go ?_
 try simp only[P0,P1,P2,P3,P4]
 intro W3b x6 c6 s6;obtain⟨HX6b,HC6,HS6⟩:=Hd3 x6 c6 s6;clear x6 c6 s6;have HF3:=Hd (show DiskAt W3b (fun k=>w.heap.size≤k∧k<W1.heap.size) b (A2 48)from(((HD1.out.below HB2.out).below HB3.out).chg HC6.out (fun k h e=>by have h1:=HB2.out.size;have h2:=HP6.out;omega)));have HB3b:=Hd (show Below w.heap.size w W3b from by have h1:=Tq HB1.out HB2.out;have h2:=Tq h1 HB3.out;exact h2.trans (HC6.out.below (fun k e=>by rw[e,←HP6.out];exact h1.size) h2.size))
 go_wp2_with fail;refine(HFO.out W3b _ b HF3.out HB3b.out (fun k h=>h.1)).mono ?_;rintro e W4 ⟨rfl,hd4,hc4⟩;have HN3:=Hd (show W2.heap.size=p6∧W3b.heap.size=p6+1∧W1.heap.size≤W2.heap.size∧W3b.heap.size≤W4.heap.size∧w.heap.size≤W1.heap.size from⟨HP6.out,by rw[HS6.out,HZ3.out],HB2.out.size,hc4.size,HB1.out.size⟩);obtain⟨HD4,HX4,HR4,HB4⟩:=Hd4 hd4.bound ((hc4.block p6 (Ax HX6b.out).1 (fun h=>by have:=HN3.out;omega)).trans HX6b.out) (((HR2.out.below HB3.out).kept HC6.out (fun k h e=>by have:=HN3.out;omega)).kept hc4 (fun k h h'=>by omega)) (HB3b.out.trans (hc4.below (fun k h=>h.1) HB3b.out.size));obtain⟨d0,d1,d2,d3,d4⟩:=Cr5 HX4.out;clear hd4 hc4;go_wp2_with fail;refine(HRF.out W4 _ _ HR4.out).mono ?_;rintro e W5 ⟨v5,rfl,hr5,hb5⟩;obtain⟨fa,fn,fc,fd,fm,fe,fl,fb,fz,rfl⟩:=hr5.form;obtain⟨HR5,HB5,HX5⟩:=Hd3 hr5.bound hb5 (Bq hb5 HX4.out);clear hr5 hb5 d0 d1 d2 d3 d4;go_wp2_with (refine Pl 39 6 29 p6 HX5.out ?_;refine Stop.on ?_)
 refine Stop.go ?_
 try simp only[P0,P1,P2,P3,P4]
 intro W5b x5 c5 s5;obtain⟨f0,f1,f2,f3,f4⟩:=Cr5 x5;obtain⟨W6,hW6⟩:=Xq (W5b.alloc (.cells #[.pointer (some ⟨b,0,none⟩),.pointer none,.slice fa fn fc,.slice fd fm fe,.int .i64 fl,.bool fb,.int .i64 fz,.int .i64 0,.int .i64 0,.int .i64 0,.int .i64 0,.int .i64 0,.slice none 0 0,.int .i64 0,.int .i64 0,.int .i64 n] 43));obtain⟨x,hxE⟩:=Xq (W5b.heap.size);have hb6:=Lq hW6;have hx6:=Nq hW6 hxE;have hbw5:=Tq HB4.out HB5.out;have hbw5b:=hbw5.trans (c5.below (fun k e=>by rw[e];have:=HN3.out;omega) hbw5.size);have h45:=HB5.out.size;have h66:=hb6.size;have HWX:=Hd (show WX w W6 x b S1 (fun k=>((w.heap.size≤k∧k<W1.heap.size)∨W3b.heap.size≤k)∧k<W4.heap.size) (fun k=>((W1.heap.size≤k∧k<W2.heap.size)∨W4.heap.size≤k)∧k<W5.heap.size) n (.pointer none) (.agg #[.slice fa fn fc,.slice fd fm fe,.int .i64 fl,.bool fb,.int .i64 fz]) (.agg #[.int .i64 0,.int .i64 0,.int .i64 0,.int .i64 0,.int .i64 0,.slice none 0 0,.int .i64 0,.int .i64 0])from
  ⟨Tq hbw5b hb6,⟨_,_,_,_,_,_,_,_,_,_,_,_,_,rfl,rfl,hx6⟩,⟨_,((HD4.out.below HB5.out).chg c5 (fun k h e=>by have:=HN3.out;omega)).below hb6,fun k h=>h⟩,
   (HR5.out.kept c5 (fun k h e=>by have:=HN3.out;omega)).below hb6,⟨0,0,0,0,0,none,0,0,0,0,rfl⟩,fun h=>by omega,fun h=>by omega,fun k h1 h2=>by have:=HN3.out;omega,fun k h=>by have:=HN3.out;omega,fun k h=>by omega,fun k h=>by omega,by have:=hbw5.size;omega⟩)
 have HW6:=Hd hW6;have HXE:=Hd hxE;clear x5 c5 s5 hW6 hxE hb6 hx6 hbw5 hbw5b h45 h66;go_wp2_with fail;rw[HW6.out]
 try rw[HXE.out]
 rw[←HN.out]at HWX;refine(Ir HK.out HWX.out ⟨HDO.out.len,HDO.out.rng⟩ H3.out H8.out HNL.out.d (HIN.out.room.less (by omega))).mono ?_;rintro e W7 ⟨rfl,g,hws⟩;have HE1:=Hd hws;clear hws f0 f1 f2 f3 f4;go_wp2_with fail;exact Bv (.tuple #[.pointer (some ⟨x,0,none⟩),.bool true]) ⟨x,b,_,_,rfl,HE1.out,HIN.out.open (by omega) HNL.out.d g,HNL.out.openR⟩
def Gf (L:List JOp):Bool:=L.all (fun o=>decide (o.cs.length≤100))&&decide (L.length≤30)
theorem MG {a:Option Addr}{cap:Nat}{L:List JOp} (h:JOpsAt w (.slice a L.length cap) L):Ca 6 #[.slice a L.length cap] w fun e w'=>e=.returned (.bool (Gf L))∧Below w.heap.size w w':=by
 obtain⟨m,hm⟩:=Xq (L.length);have HO:=Hd h;have hmm:m≤9223372036854775807:=by obtain⟨a',c',e,h1,h2,_⟩:=h;unfold maxLen at h2;omega
 rw[hm]at HO⊢;have HM:=Hd hm;obtain⟨r,hr⟩:=Xq (Gf L);have HR:=Hd hr;rw[hr];have HP0:=Hd (show∀j (hj:j<L.length),j<0→L[j].cs.length≤100 from fun j _ h=>absurd h (by omega));clear hr hm h;go_enter Tryz.func6,Tryz.ntmps6;go_wp2_with fail;go_loopw [3] (fun iv wr=>∃(i:Nat),i≤m∧iv=.int .i64 i∧wr=w∧Hid (∀j (hj:j<L.length),j<i→L[j].cs.length≤100)) (fun iv _=>m-(intOf iv).toNat)
 case atStart=>exact⟨0,Nat.zero_le _,rfl,rfl,HP0⟩
 case round=>
  obtain⟨i,hi,rfl,rfl,HPR⟩:=hrel;clear HP0;by_cases hlt:i<m
  case neg=>
   obtain rfl :m=i:=by omega
   have HRE:=Hd (show r=decide (m≤30) by
    rw[←HR.out];unfold Gf;rw[List.all_eq_true.2 (fun o ho=>by obtain⟨j,hj,rfl⟩:=List.getElem_of_mem ho;exact decide_eq_true (HPR.out j hj (by have:=HM.out;omega))),HM.out]
    rfl)
   go_wp2_with fail;go_ret;exact⟨by rw[HRE.out];first|rfl |exact congrArg (fun q=>Ending.returned (.bool q)) (decide_eq_decide.2 (by omega)),Rq⟩
  have hiI:(i:Int)<(m:Int):=by omega
  have hiL:i<L.length:=by rw[HM.out];exact hlt
  obtain⟨g,off,e9,hg,k0,k1,k2,k3,hat⟩:=HO.out.get hiL;subst e9;obtain⟨o,ho⟩:=Xq (L[i]);rw[ho]at k3 hat;have HOE:=Hd ho;have hcl:=hat.len;obtain⟨cn,hcn⟩:=Xq (o.cs.length);rw[hcn]at k3 hcl;have HCN:=Hd hcn;obtain⟨ca,hca⟩:=Xq (o.a);obtain⟨cp,hcp⟩:=Xq (o.cap);rw[hca,hcp]at k3;clear k0 k1 k2 hat ho hcn hca hcp;by_cases hbig:100<cn
  ·have hbI:(100:Int)<(cn:Int):=by omega
   have HRE:=Hd (show r=false by
    rw[←HR.out];unfold Gf;rw[Bool.and_eq_false_iff];refine .inl (List.all_eq_false.2 ⟨o,?_,?_⟩)
    ·rw[←HOE.out];exact List.getElem_mem _
    ·rw[HCN.out];simp;omega)
   go_wp2_with fail;go_ret;exact⟨by rw[HRE.out];rfl,Rq⟩
  ·have hbI:¬(100:Int)<(cn:Int):=by omega
   have HPS:=Hd (show∀j (hj:j<L.length),j<i+1→L[j].cs.length≤100 from fun j hj h1=>by
    by_cases h2:j<i
    ·exact HPR.out j hj h2
    ·obtain rfl :j=i:=by omega
     rw[HOE.out,HCN.out];omega)
   go_wp2_with fail;go_roundw
   case rel=>exact⟨i+1,by omega,by go_num,by first|rfl |trivial,HPS⟩
   case measure=>simp[intOf]<;>omega
end Go.Proofs.YtplclpileejemaaGreatDoor
namespace Go.Proofs.YtplclpileejemaaGreatDoor
open Go.RowKit Go.ChangeShapes Go.WideShapes Go.ChangeAt Go.Deep
variable {v:Value}{W:World}
theorem G4:Tryz.prog.cellsOf 5=1:=by kernel_rfl
theorem Le:Tryz.prog.cellsOf 30=1:=by kernel_rfl
section
variable {H:Type} {enc:TypeId×Value→H} {w:World} {base:Nat} {sp:Nat→Bool} {held:Bool} {fuel:Nat}
theorem Kn {x:DataW H×List MemPlace} 
 (h:DataW.trod enc Tryz.prog w base sp held fuel 5 [v]=some x):∃b:UInt8,v=bv b:=by
 obtain⟨n,e,_,hw⟩:=DataW.trod_int Tryz.underlying5 h;have hb:0≤n∧n≤255:=bounds_u8 hw;obtain⟨k,rfl⟩:=Int.eq_ofNat_of_zero_le hb.1;refine⟨UInt8.ofNat k,?_⟩;have:v=.int .u8 k:=by simpa using e
 rw[this];unfold bv;simp only[UInt8.toNat_ofNat'];rw[Nat.mod_eq_of_lt (by omega)]
theorem Nc {x:DataW H×List MemPlace} 
 (h:DataW.trod enc Tryz.prog w base sp held fuel 30 [v]=some x):∃a len cap l,v=.slice a len cap∧l.length=len∧len≤maxLen∧BytesN w (fun _=>True) v l:=by
 rcases open_slice1 Tryz.underlying30 G4 h with⟨hcs,_⟩| ⟨a,len,cap,m,n,V,D,Pl,hcs,_,hl,hcm,hm,_,hx⟩
 ·simp only[List.cons.injEq,and_true]at hcs;subst hcs;exact⟨none,0,0,[],rfl,rfl,Nat.zero_le _,Gh _ _,fun k c e=>by cases e;rfl⟩
 ·simp only[List.cons.injEq,and_true]at hcs;subst hcs;have hml:len≤m:=by rw[hm];split <;>omega
  obtain⟨B,hB⟩:=choose_lt (α:=UInt8) (p:=fun i b=>V i=bv b) (n:=len) (fun i hi=>Kn (hx i (Nl hi hml)).2);have hlen:((List.range len).map B).length=len:=by simp
  refine⟨some a,len,cap,(List.range len).map B,rfl,hlen,by omega,⟨some a,cap,by rw[hlen],by rw[hlen];exact hl,fun hne=>?_⟩,fun k c e=>by cases e⟩;have hpos:0<len:=by
   rcases Nat.eq_zero_or_pos len with h0|h0
   ·subst h0;exact absurd rfl hne
   ·exact h0
  obtain⟨g,off,spot⟩:=a;have h0:=(hx 0 (by omega)).1;have hspot:spot=none:=by simpa[Addr.add]using World.cell?_spot h0
  subst hspot;refine⟨g,off,rfl,trivial,?_,?_⟩
  ·have:=World.block_lt_of_cell? w _ h0;simpa[Addr.add]using this
  ·intro j u hj;have hjl:j<len:=by have:=(List.getElem?_eq_some_iff.1 hj).1;simpa using this
   have h1:=(hx j (Nl hjl hml)).1;have hadd:(⟨g,off,none⟩:Addr).add j=⟨g,off+j,none⟩:=by unfold Addr.add;split <;>simp_all
   rw[hadd]at h1;rw[h1,hB j hjl];rw[AE,List.getElem?_map,List.getElem?_range hjl]at hj;simpa using hj
end
end Go.Proofs.YtplclpileejemaaGreatDoor
namespace Go.Proofs.YtplclpileejemaaGreatDoor
open Go.ChangeShapes Go.WideShapes Go.ChangeAt Go.RowKit
variable {v:Value}{W:World}
def Dn:List (String×DataW Unit):=[("bulletin/sha256.constants",Rows.laid_bulletin_sha256_constants)]
theorem Ms (os:Os) (args:Array Value):laidMetH Tryz.prog Dn ((World.doorLaid Tryz.prog 400 os).forCall (fun _ _=>0) ⟨#[],args,[]⟩).memory:=
 laidMetH_of_parts3 (fuel:=8) (laidMet_of_run' 8 (by kernel_rfl) (by kernel_rfl)) (by kernel_rfl) (by kernel_rfl)
theorem gK:Tryz.prog.globalNamed "bulletin/sha256.constants"=some 0:=by kernel_rfl
theorem tK:(Tryz.prog.globals[0]?).map (·.type)=some 191:=by kernel_rfl
theorem SJ:Tryz.prog.cellsOf 189=1:=by kernel_rfl
theorem cK:Tryz.prog.cellsOf 191=64:=by kernel_rfl
theorem IW (h:laidMetH Tryz.prog Dn W):KAt W:=by
 rw[MakeChecks.laidMetH_plain _ _ _ (by kernel_rfl)]at h;have e:Dn=[("bulletin/sha256.constants",Lib.tabData .u32 (kTab.map wN))]:=by kernel_rfl
 rw[e]at h;have ht:=Lib.tabIs_of_head gK tK Tryz.underlying191 Tryz.underlying189 SJ cK h;have hl:kTab.length=64:=by decide
 have hc:∀j,j<64→W.cell? ⟨0,j,none⟩=some (.int .u32 (wN (kTab.getD j 0))):=fun j hj=>by rw[ht.cell gK j (by simpa[hl]using hj)];rw[List.getD_eq_getElem?_getD,List.getElem?_map,List.getElem?_eq_getElem (by omega),List.getD_eq_getElem?_getD,List.getElem?_eq_getElem (by omega)];rfl
 exact⟨World.block_lt_of_cell? W _ (hc 0 (by decide)),hc⟩
end Go.Proofs.YtplclpileejemaaGreatDoor
namespace Go.Proofs.YtplclpileejemaaGreatDoor
open Go.RowKit Go.ChangeShapes Go.WideShapes Go.ChangeAt Go.Deep
variable {v:Value}{W:World}
theorem OL:Tryz.prog.bytesOf 5=1:=by kernel_rfl
def Gu {H:Type} (t:TypeId) (d:DataW H):Prop:=(d.weights Tryz.prog t).all (·≤reachBytes)=true
theorem Il {H:Type}{ts:List TypeId}{ds:List (DataW H)} (h:(DataW.weightsEach Tryz.prog ts ds).all (·≤reachBytes)=true) {j:Nat} {t:TypeId} {d:DataW H} (ht:ts[j]?=some t) (hd:ds[j]?=some d):Gu t d:=
 List.all_eq_true.2 fun n hn=>List.all_eq_true.1 h n (DataW.weights_mem_each ht hd n hn)
theorem OM {H:Type}{t:TypeId}{fs:Array Field}{parts:List (DataW H)} (hu:Tryz.prog.underlying t=some (.struct fs)) (h:Gu t (.agg parts)) {j:Nat} {f:Field} {d:DataW H} (hf:fs[j]?=some f) (hd:parts[j]?=some d):Gu f.type d:=by unfold Gu at h;simp only[DataW.weights,hu]at h;exact Il h (j:=j) (by simp[hf]) hd
theorem Ga {H:Type}{e:TypeId} :∀{ds:List (DataW H)} {d:DataW H},d∈ds→∀n∈d.weights Tryz.prog e,n∈DataW.weightsAll Tryz.prog e ds
 |d0::ds,d,hd,n,hn=>by
  simp only[DataW.weightsAll,List.mem_append];rcases List.mem_cons.1 hd with rfl |h
  ·exact .inl hn
  ·exact .inr (Ga h n hn)
theorem JT {H:Type}{t e:TypeId}{elems spare:List (DataW H)} (hu:Tryz.prog.underlying t=some (.slice e)) (h:Gu t (.slice elems spare)):
 (elems.length+spare.length)*Tryz.prog.bytesOf e≤reachBytes∧∀d∈elems,Gu e d:=by
 unfold Gu at h;simp only[DataW.weights,hu]at h;simp only[List.all_cons,Bool.and_eq_true,decide_eq_true_eq,List.all_append]at h;exact⟨h.1,fun d hd=>List.all_eq_true.2 fun n hn=>List.all_eq_true.1 h.2.1 n (Ga hd n hn)⟩
section
variable {H:Type} {enc:TypeId×Value→H} {w:World} {base:Nat} {sp:Nat→Bool} {held:Bool} {fuel:Nat}
theorem Nd {x:DataW H×List MemPlace} 
 (h:DataW.trod enc Tryz.prog w base sp held fuel 30 [v]=some x) (hs:Gu 30 x.1):∃a len cap l,v=.slice a len cap∧l.length=len∧len≤140737488351232∧BytesN w (fun _=>True) v l:=by
 obtain⟨a,len,cap,l,rfl,hl,_,hb⟩:=Nc h;refine⟨a,len,cap,l,rfl,hl,?_,hb⟩;rcases open_slice1 Tryz.underlying30 G4 h with⟨hcs,_⟩| ⟨a',len',cap',m,n,V,D,Pl,hcs,_,_,_,_,rfl,_⟩
 ·simp only[List.cons.injEq,and_true,Value.slice.injEq]at hcs;obtain⟨_,rfl,_⟩:=hcs;exact Nat.zero_le _
 ·simp only[List.cons.injEq,and_true,Value.slice.injEq]at hcs;obtain⟨_,rfl,_⟩:=hcs;have:=(JT Tryz.underlying30 hs).1;rw[OL,Nat.mul_one,List.length_map,List.length_range]at this;unfold reachBytes at this;omega
end
theorem Nw:Tryz.prog.cellsOf 29=1:=by kernel_rfl
theorem Nx:Tryz.prog.cellsOf 32=4:=by kernel_rfl
section
variable {H:Type} {enc:TypeId×Value→H} {w:World} {base:Nat} {sp:Nat→Bool} {held:Bool} {fuel:Nat}
theorem Rf {x:DataW H×List MemPlace} 
 (h:DataW.trod enc Tryz.prog w base sp held fuel 29 [v]=some x):∃n:Nat,v=.int .u16 n∧n<65536:=by
 obtain⟨n,e,_,hw⟩:=DataW.trod_int Tryz.underlying29 h;have hb:0≤n∧n≤65535:=bounds_u16 hw;obtain⟨k,rfl⟩:=Int.eq_ofNat_of_zero_le hb.1;exact⟨k,by simpa using e,by omega⟩
theorem R1 {cs:List Value}{x:DataW H×List MemPlace} 
 (h:DataW.trod enc Tryz.prog w base sp held fuel 32 cs=some x) (hlen:cs.length=4) (hs:Gu 32 x.1):∃o:JOp,cs=o.cells∧o.At w:=by
 match cs,hlen with
 | [v0,v1,v2,v3],_=>
  obtain⟨xs,k,hk,hxy,_,hxl,hf⟩:=DataW.trod_struct Tryz.underlying32 h;have hxl4:xs.length=4:=hxl
  match xs,hxl4 with
  | [y0,y1,y2,y3],_=>
   subst hxy;have s3:=OM Tryz.underlying32 hs (j:=3) rfl rfl;have g0:=hf 0 _ rfl;have g1:=hf 1 _ rfl;have g2:=hf 2 _ rfl;have g3:=hf 3 _ rfl;simp[G4,Nw,Le]at g0 g1 g2 g3;obtain⟨b0,rfl⟩:=Kn g0;obtain⟨n1,rfl,hn1⟩:=Rf g1;obtain⟨b2,rfl⟩:=Kn g2;obtain⟨a,len,cap,l,rfl,hl,hn,hb⟩:=Nd g3 s3;subst hl;exact⟨⟨b0.toNat,n1,b2,l,a,cap⟩,rfl,⟨b0.toNat_lt,hn1,hn,hb⟩⟩
instance :Inhabited JOp:=⟨⟨0,0,0,[],none,0⟩⟩
theorem MH {x:DataW H×List MemPlace} 
 (h:DataW.trod enc Tryz.prog w base sp held fuel 22 [v]=some x) (hs:Gu 22 x.1):∃L:List JOp,JOpsAt w v L:=by
 rcases open_slice Tryz.underlying22 h with⟨hcs,_⟩| ⟨a,len,cap,m,n,D,Pl,hcs,_,hl,hcm,hm,rfl,hx⟩
 ·simp only[List.cons.injEq,and_true]at hcs;subst hcs;exact⟨[],none,0,rfl,Nat.le_refl _,Nat.zero_le _,fun h=>absurd rfl h⟩
 ·simp only[List.cons.injEq,and_true]at hcs;subst hcs;have hml:len≤m:=by rw[hm];split <;>omega
  have hsm:=(JT Tryz.underlying22 hs).2;have each:∀i,i<len→∃S:JOp,w.cells? base (a.add (i*4)) 4=some S.cells∧S.At w:=fun i hi=>by obtain⟨cs',h1,h2⟩:=hx i (Nl hi hml);rw[Nx]at h1;obtain⟨_,hlen,_⟩:=World.cells?_some h1;obtain⟨S,rfl,hS⟩:=R1 h2 hlen (hsm _ (List.mem_map.2 ⟨i,List.mem_range.2 hi,rfl⟩));exact⟨S,h1,hS⟩
  obtain⟨Q,hQ⟩:=choose_lt (α:=JOp) each;have hlen:((List.range len).map Q).length=len:=by simp
  refine⟨(List.range len).map Q,some a,cap,by rw[hlen],by rw[hlen];exact hl,hcm,fun hne=>?_⟩;have hpos:0<len:=by
   rcases Nat.eq_zero_or_pos len with h0|h0
   ·subst h0;exact absurd rfl hne
   ·exact h0
  obtain⟨g,off,spot⟩:=a;have h0:=(World.cells?_some (hQ 0 hpos).1).2.2 0 (by decide);have hspot:spot=none:=by simpa[Addr.add]using World.cell?_spot h0
  subst hspot;have hap:∀(g off j:Nat),(⟨g,off,none⟩:Addr).add j=⟨g,off+j,none⟩:=fun g off j=>by unfold Addr.add;split <;>simp_all
  refine⟨g,off,rfl,?_,fun i hi=>?_⟩
  ·have:=World.block_lt_of_cell? w _ h0;simpa[Addr.add]using this
  ·have hi':i<len:=by simpa using hi
   obtain⟨h1,hS⟩:=hQ i hi';simp only[List.getElem_map,List.getElem_range];refine⟨?_,hS⟩;obtain⟨_,_,hc⟩:=World.cells?_some h1;intro j u hj;have hj6:j<4:=(List.getElem?_eq_some_iff.1 hj).1;have:=hc j hj6;rw[hap,hap]at this;rw[this];exact hj
end
end Go.Proofs.YtplclpileejemaaGreatDoor
