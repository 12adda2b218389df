/- JournalDamage: for every argument the law returns true, and the arguments read as they did; the card. -/
import Derived.Test.YtplclpileejemaaGreatDoorP14
import Derived.Test.YtplclpileejemaaGreatDoorTie
import Derived.Test.YtplclpileejemaaGreatDoorCards
import Derived.SevenTiedAt
set_option linter.all false
set_option maxRecDepth 100000
set_option maxHeartbeats 8000000
namespace Go.Proofs.YtplclpileejemaaGreatDoor
open Go.RowKit
variable {w:World}
theorem IF (hK:KAt w) (sd wh off:Nat) (hs:sd<256) (hwh:wh<256) (hof:off<256) (y:UInt8) {va:Option Addr} {vc:Nat} {L:List JOp} (hv:JOpsAt w (.slice va L.length vc) L):Ca 3 #[.int .u8 sd,.slice va L.length vc,.int .u8 wh,.int .u8 off,.int .u8 (y.toNat:Int)] w fun e w'=>e=.returned (.bool true)∧Below w.heap.size w w':=by
 obtain⟨yn,hyn⟩:=Xq (y.toNat);rw[hyn];have HYN:=Hd hyn;clear hyn;have HKN:=Hd (fun(V:World) (hV:Below w.heap.size w V)=>KW (KAt.below hK hV hK.size));have HK:=Hd hK;obtain⟨R,hR3,hRc⟩:∃R:JR,R.at_=3∧R.cnt=8+sd%36:=⟨⟨3,8+sd%36⟩,rfl,rfl⟩;have HSZ:=Hd (fun w1:World=>MC (w:=w1) sd hs);rw[←hRc]at HSZ;obtain⟨HBG,HV,HFI⟩:=Hd3 (fun(V:World) (hV:Below w.heap.size w V)=>K2 (KAt.below hK hV hK.size) R hR3 (by omega) (by omega)) hv (fun(V:World) (hV:Below w.heap.size w V)=>MG (hv.below hV));obtain⟨n,hn⟩:=Xq (L.length);have HN:=Hd hn;have hnm:n≤9223372036854775807:=by obtain⟨a',c',e,h1,h2,_⟩:=hv;unfold maxLen at h2;omega
 rw[hn]at HV HFI⊢;obtain⟨fb,hfb⟩:=Xq (Gf L);rw[hfb]at HFI;have HFB:=Hd hfb;clear hv hn hfb hK hR3 hRc;go_enter Tryz.func3,Tryz.ntmps3;go_wp2_with fail;refine(HKN.out w Rq).mono ?_;rintro e V0 ⟨rfl,hb0⟩;have HBV0:=Hd hb0;clear hb0;go_wp2_with fail;refine(HFI.out V0 HBV0.out).mono ?_;rintro e W0 ⟨rfl,hb0⟩;have HBW0:=Hd (Tq HBV0.out hb0);clear hb0;cases fb with
 |false=>
  go_wp2_with fail;refine(HKN.out W0 HBW0.out).mono ?_;rintro e W9 ⟨rfl,hb9⟩;have HB9:=Hd (Tq HBW0.out hb9);go_wp2_with fail;exact Bv (.bool true) ⟨rfl,HB9.out⟩
 |true=>
 have hn30:n≤30:=by have h1:=HFB.out;unfold Gf at h1;rw[Bool.and_eq_true]at h1;have h2:=of_decide_eq_true h1.2;rw[HN.out]at h2;exact h2
 by_cases hy0:yn=0
 ·subst hy0;go_wp2_with fail;refine(HKN.out W0 HBW0.out).mono ?_;rintro e W9 ⟨rfl,hb9⟩;have HB9:=Hd (Tq HBW0.out hb9);go_wp2_with fail;exact Bv (.bool true) ⟨rfl,HB9.out⟩
 have hyb:((yn:Int)==0)=false:=by simpa using hy0
 have hyd:¬(yn:Int)=0:=by omega
 go_wp2_with fail;refine(HSZ.out W0).mono ?_;rintro e W1 ⟨rfl,hb1⟩;have HB1:=Hd (Tq HBW0.out hb1);clear hb1;go_wp2_with fail;refine(HBG.out W1 HB1.out).mono ?_;rintro e W2 ⟨x,b,S0,j0,rfl,hws,hwi,hnl⟩;obtain⟨HWS,HWI,HNL,HRC⟩:=Hd4 hws hwi hnl (show 8≤R.cnt∧R.cnt≤45 from⟨hwi.c8,hwi.c45⟩);clear hws hwi hnl hyb hyd;go_wp2_with fail;go_loopw [13] (fun iv wr=>∃(i:Nat) (S:DS) (j:Option (Nat×JD)),i≤n∧iv=.int .i64 i∧Hid (WS W1 wr x b S R j)∧Hid (WInv S R j (i+1))∧Hid (NL S)) (fun iv _=>n-(intOf iv).toNat)
 case atStart=>exact⟨0,S0,j0,Nat.zero_le _,rfl,HWS,HWI,HNL⟩
 case round=>
  obtain⟨i,S,j,hi,rfl,HS,HI,HNS⟩:=hrel;obtain⟨V0,rfl⟩:∃V0,V0=wr:=⟨_,rfl⟩;clear HWS HWI HNL;have HBS:=Hd (Tq HB1.out HS.out.below);by_cases hlt:i<n
  case pos=>
   obtain⟨go,oo,eo,hgo,k0,k1,k2,k3,hao⟩:=HV.out.get (i:=i) (by rw[HN.out];exact hlt);subst eo;obtain⟨o,hoE⟩:=Xq (L[i]'(by rw[HN.out];exact hlt));rw[hoE]at k0 k1 k2 k3 hao;have k0:=(HBS.out.cell (p:=⟨go,oo+i*4,none⟩) hgo).trans k0;have k1:=(HBS.out.cell (p:=⟨go,oo+i*4+1,none⟩) hgo).trans k1;have k2:=(HBS.out.cell (p:=⟨go,oo+i*4+2,none⟩) hgo).trans k2;have k3:=(HBS.out.cell (p:=⟨go,oo+i*4+3,none⟩) hgo).trans k3;obtain⟨V1,hV1⟩:=Xq (V0.alloc (.cells #[.int .u8 0,.int .u16 0,.int .u8 0,.slice none 0 0] 32));obtain⟨q,hq⟩:=Xq (V0.heap.size);have hb1:=Lq hV1;obtain⟨HX1,HV1,HQ,HBV⟩:=Hd4 (Nq hV1 hq) hV1 hq hb1;clear hV1 hq hb1;go_wp2_with (rw[HV1.out];try rw[HQ.out];refine Pl 32 14 47 q HX1.out ?_;refine Stop.on ?_)
   refine Stop.go ?_
   try simp only[P0,P1,P2,P3,P4]
   intro V2 x2 c2 s2;have HX2:=Hd x2;have hkt:Int.tmod (o.kind:Int) 3=((o.kind%3:Nat):Int):=by rw[Int.tmod_eq_emod_of_nonneg (by omega)];omega
   have hbq:Below V0.heap.size V0 V2:=HBV.out.trans (c2.below (fun k e=>by rw[e,←HQ.out];exact Nat.le_refl _) HBV.out.size);have HSV2:=Hd (HS.out.step hbq);have l0:=Cq x2 0;clear k0 k1 k2 k3 x2 c2 s2;go_wp2_with (refine Az rfl rfl 5 (.tmp 51) (.tmp 50) rfl q 0 (.int .u8 ((o.kind%3:Nat):Int)) rfl rfl HX2.out (by show 0<4;decide) rfl (by kernel_rfl) ?_;refine Stop.on ?_)
   refine Stop.go ?_
   try simp only[P0,P1,P2,P3,P4]
   intro V3 x3 c3 s3;have HSV3:=Hd (show WS W1 V3 x b S R j from by have h1:=HSV2.out.below;have hx3:Below V0.heap.size V0 V3:=hbq.trans (c3.below (fun k e=>by rw[e,←HQ.out];exact Nat.le_refl _) hbq.size);exact HS.out.step hx3)
   have x3':V3.heap[q]?=some (.cells #[.int .u8 ((o.kind%3:Nat):Int),.int .u16 (o.n:Int),.int .u8 (o.b.toNat:Int),.slice o.a o.cs.length o.cap] 32 (0,0)):=x3;have l0:=Cq x3' 0;have l1:=Cq x3' 1;have l2:=Cq x3' 2;have l3:=Cq x3' 3;have HDO:=Hd (MF (o:={o with kind:=o.kind%3}) (KAt.below HK.out HB1.out HK.out.size) HSV3.out HI.out (by omega) (by have h:=hao.below HB1.out;exact⟨by show o.kind%3<256;omega,h.n,h.len,h.bytes⟩));clear hbq x3 c3 s3 x3' hao hoE hgo hkt;go_wp2_with fail;refine HDO.out.mono ?_;rintro e V4 ⟨rfl,S',j',hws',hwi',hnl'⟩;obtain⟨HS',HI',HN'⟩:=Hd3 hws' hwi' (hnl' (by show o.kind%3%5≤2;omega) HNS.out);clear hws' hwi' hnl' l0 l1 l2 l3;go_wp2_with fail;go_roundw
   case rel=>exact⟨i+1,S',j',by omega,by go_num,HS',HI',HN'⟩
   case measure=>simp[intOf]<;>omega
  obtain rfl :n=i:=by omega
  have HDO:=Hd (show Ca 9 #[.pointer (some ⟨x,0,none⟩),.agg #[.int .u8 1,.int .u16 0,.int .u8 0,.slice none 0 0]] V0 _ from MF (o:=⟨1,0,0,[],none,0⟩) (KAt.below HK.out HB1.out HK.out.size) HS.out HI.out (by omega) ⟨by decide,by decide,by decide,⟨Gh _ _,fun k c e=>by cases e;rfl⟩⟩);go_wp2_with fail;refine HDO.out.mono ?_;rintro e V1 ⟨rfl,S',j',hws',hwi',hnl'⟩;have HI':=Hd hwi';have HNL':=Hd (hnl' (by decide) HNS.out);obtain⟨P,Q,jp,dv,jv,hx,_⟩:=hws'.get;obtain⟨da,dn,dc,dd,dm,de,dl,db,dz,a0,a1,a2,a3,a4,a5,a6,a7,a8,a9,rfl,rfl,hcell⟩:=hx.lit;obtain⟨F,hF,hFP⟩:=hx.dev;obtain⟨HWX,HF,HFP,HXC,HBV1,HC⟩:=Hd6 hx hF hFP hcell hx.below (fun w' (hw':Chg P V1 w')=>by have h1:=((hw'.block x (Ax hcell).1 hx.px).trans hcell);exact Dq7 (Cq h1 0) (Cq h1 2) (Cq h1 3) (Cq h1 4) (Cq h1 5) (Cq h1 6) (Cq h1 15));obtain⟨c0,c2,c3,c4,c5,c6,c15⟩:=HC.out V1 (Cb Rq);obtain⟨m,hm⟩:=Xq (wh%R.cnt);have hm45:m<R.cnt:=by rw[←hm];exact Nat.mod_lt _ (by have:=HRC.out;omega)
  have hrc:=HRC.out;have hn0:¬(R.cnt:Int)=0:=by omega
  have hn1:((R.cnt:Int)==0)=false:=by simpa using hn0
  have htm:Int.tmod (wh:Int) (R.cnt:Int)=(m:Int):=by rw[Int.tmod_eq_emod_of_nonneg (by omega),←hm];exact(Int.natCast_emod wh R.cnt).symm
  have hwp:=Iw (3+(m:Int));have hh:S'.has (3+(m:Int))=true:=by simp only[DS.has,HI'.out.dev.len,decide_eq_true_eq];omega
  obtain⟨S2,hS2⟩:∃S2,(S'.damage (3+(m:Int)) (off:Int) y)=(S2,0):=by unfold DS.damage;rw[Ip hh,Ip (by omega)];exact⟨_,rfl⟩
  have HS2:=Hd (show S2.down=false∧Ln S2 R∧Roomy S2 911000000 from by
   have h1:S2=(S'.damage (3+(m:Int)) (off:Int) y).1:=by rw[hS2]
   have h2:=HI'.out.room;unfold DS.damage at h1;rw[Ip hh,Ip (by omega)]at h1;subst h1;exact⟨HNL'.out.d,⟨by show(List.set _ _ _).length=48;rw[List.length_set];exact HI'.out.dev.len,HI'.out.dev.rng⟩,⟨by have:=h2.ops;show S'.ops+_≤_;omega,by have:=h2.pend;show(List.map _ _).length+_≤_;rw[List.length_map];omega,h2.lim⟩⟩)
  have HDM:=Hd (show Ca 10 #[.pointer (some ⟨b,0,none⟩),.int .i64 (3+(m:Int)),.int .i64 off,.int .u8 yn] V1 fun e w'=>e=.returned (.int .i64 0)∧DiskAt w' F b S2∧Chg F V1 w' from by have h1:=OR (3+(m:Int)) (off:Int) y HF.out (by have:=HI'.out.room.pend;omega);rw[hS2,HYN.out]at h1;exact h1)
  have HRA:=Hd (fun(V:World) (hV:Chg P V1 V)=>show Ca 11 #[_,.int .i64 (3+(m:Int)),.int .i64 off,.int .u8 yn] V (DT V Q S2 0)from by have h1:=OV (3+(m:Int)) (off:Int) y (HWX.out.ref.at_.kept hV (fun k h h'=>HWX.out.pq k h' h)) HF.out.ok (by have:=HI'.out.room.pend;omega);rw[hS2,HYN.out]at h1;exact h1)
  clear hwi' hnl' hws' hx hcell hF hFP hm hh hS2;go_wp2_with fail;refine HDM.out.mono ?_;rintro e V2 ⟨rfl,hd2,hc2⟩;clear c0 c2 c3 c4 c5 c6 c15;have hc2P:=hc2.mono HFP.out;obtain⟨c0,c2,c3,c4,c5,c6,c15⟩:=HC.out V2 hc2P;have HC2:=Hd hc2P;have HD2:=Hd hd2;clear hd2 hc2 hc2P htm hwp hn0 hn1;go_wp2_with fail;refine(HRA.out V2 HC2.out).mono ?_;rintro e V3 ⟨v',rfl,hrr,hb3⟩;have hrd:RefD _ _ _ _:=⟨hrr,HD2.out.ok⟩;obtain⟨fa,fn,fc,fd,fm,fe,fl,fb,fz,rfl⟩:=hrd.form;have HRD:=Hd hrd;clear c0 c2 c3 c4 c5 c6 c15 hrr hrd;obtain⟨V4,hV4⟩:=Xq (V3.alloc (.cells #[.slice none 0 0,.slice none 0 0,.int .i64 0,.bool false,.int .i64 0] 39));obtain⟨p6,hp6⟩:=Xq (V3.heap.size);have hb4:=Lq hV4;obtain⟨HX6,HX4,HV4,HP6,HB3,HB4⟩:=Hd6 (Nq hV4 hp6) (show V4.heap[x]?=_ from(hb4.block x (Nl (Nl (Ax HXC.out).1 HC2.out.size) hb3.size)).trans ((hb3.block x (Nl (Ax HXC.out).1 HC2.out.size)).trans ((HC2.out.block x (Ax HXC.out).1 HWX.out.px).trans HXC.out))) hV4 hp6 hb3 hb4;clear hV4 hp6 hb3 hb4;go_wp2_with (rw[HV4.out];try rw[HP6.out];refine Pl 39 16 88 p6 HX6.out ?_;refine Stop.on ?_)
  refine Stop.go ?_
  try simp only[P0,P1,P2,P3,P4]
  intro V5 x5 c5 s5;have hpx:¬x=p6:=fun e=>by have h1:=(Ax HXC.out).1;have h2:=HC2.out.size;have h3:=HB3.out.size;have h4:=HP6.out;omega
  have HX5:=Hd ((c5.block x (Ax HX4.out).1 hpx).trans HX4.out);have hsz3:=HB3.out.size;have HB25:=Hd (show Below V2.heap.size V2 V5 from by have h1:=Tq HB3.out HB4.out;exact h1.trans (c5.below (fun k e=>by rw[e,←HP6.out];exact hsz3) h1.size))
  have HRD5:=Hd (((HRD.out.bound.below HB4.out).kept c5 (fun k h e=>by have h1:=h.2;have h2:=HP6.out;omega)).mono (G':=fun k=>Q k∨V2.heap.size≤k) (fun k h=>h.1));obtain⟨f0,f1,f2,f3,f4⟩:=Cr5 x5;clear x5 c5 s5 hpx hsz3;go_wp2_with (refine Is rfl rfl 39 (.tmp 93) (.tmp 91) rfl x _ _ _ _ _ _ _ _ _ _ _ _ _ _ _ _ _ _ _ _ _ rfl rfl HX5.out (by kernel_rfl) (by kernel_rfl) ?_;refine Stop.on ?_)
  refine Stop.go ?_
  try simp only[P0,P1,P2,P3,P4]
  intro B2 hxk2 cx2 sx2;have HWB:=Hd (HWX.out.swap ⟨_,_,_,_,_,_,_,_,_,_,rfl⟩ (HC2.out.mono (fun k h=>.inl h)) HD2.out HFP.out HB25.out HRD5.out cx2 hxk2);clear f0 f1 f2 f3 f4 hxk2 cx2 sx2;go_wp2_with fail;refine(Ir (KAt.below HK.out HB1.out HK.out.size) HWB.out HS2.out.2.1 HI'.out.a3 HI'.out.c8 HS2.out.1 HS2.out.2.2).mono ?_;rintro e W6 ⟨rfl,g,hws⟩;have HB6:=Hd (Tq HB1.out hws.below);clear hws;go_wp2_with fail;exact Bv (.bool true) ⟨rfl,HB6.out⟩
end Go.Proofs.YtplclpileejemaaGreatDoor
namespace Go.Proofs.YtplclpileejemaaGreatDoor.journalDamage
open Go.ChangeShapes Go.WideShapes Go.ChangeAt Go.RowKit
theorem lifted (os:Os) (started:os.Started) (H:Type) (enc:TypeId×Value→H):
 ReturnsInHanded {} Tryz.checked os 3 .any (fun w args=>(Rows.journalDamageSpec.pre enc Tryz.prog Tryz.f3 [] false w args∧laidMetH Tryz.prog Dn w)∧sizedMet enc Tryz.prog Tryz.f3 (OpenSpec.ofChange Rows.journalDamageSpec) false w args)
  (Rows.journalDamageSpec.post enc Tryz.prog Tryz.f3 false true false false):=by
 refine returnsInHanded_of_change_and (C:=Tryz.checked) (X:=fun w _=>laidMetH Tryz.prog Dn w) (fun _ _ _ hh h=>h.of_heap hh) own started (by kernel_rfl) Tryz.func3
  (ChangeSpec.witness_shaped (enc:=enc) (C:=Tryz.checked) (os:=os) (X:=fun w _=>laidMetH Tryz.prog Dn w) false (World.doorLaid Tryz.prog 400 os) #[.int .u8 0,.slice none 0 0,.int .u8 0,.int .u8 0,.int .u8 0] 8 rfl (World.shaped_of_RefB (by kernel_rfl) (by kernel_rfl)) (by kernel_rfl) (by kernel_rfl) (by kernel_rfl) (Ms os _)) ?_
 intro W base args ds gs before hval0 hW _ hsz hL _;have hK:KAt W:=IW hL;have hval:∀(j:Nat) t v,Tryz.f3.params[j]?=some t→args[j]?=some v→Value.okWide Tryz.prog W .any base t v:=hval0;have hW':=hW;obtain⟨p,q,hA0,hV,rfl,hfz,hnd⟩:=hW;have hA:DataW.TrodAll enc Tryz.prog W 0 (fun _=>true) true Tryz.f3.params.toList args.toList ds p:=hA0;rw[Tryz.params3]at hA hval;obtain⟨v0,vs0,d0,ds0,p0,q0,hargs,rfl,rfl,h0,r0⟩:=trodAll_cons hA;obtain⟨v1,vs1,d1,ds1,p1,q1,rfl,rfl,rfl,h1,r1⟩:=trodAll_cons r0;obtain⟨v2,vs2,d2,ds2,p2,q2,rfl,rfl,rfl,h2,r2⟩:=trodAll_cons r1;obtain⟨v3,vs3,d3,ds3,p3,q3,rfl,rfl,rfl,h3,r3⟩:=trodAll_cons r2;obtain⟨v4,vs4,d4,ds4,p4,q4,rfl,rfl,rfl,h4,r4⟩:=trodAll_cons r3;obtain⟨rfl,rfl,rfl⟩:=trodAll_nil r4;obtain rfl :args=#[v0,v1,v2,v3,v4]:=by cases args;simp_all
 obtain⟨rfl,rfl⟩:=trodVars_none hV;obtain⟨a0,rfl,rfl,rfl,w0⟩:=open_int Tryz.underlying5 (hval 0 5 v0 rfl rfl) h0;have hb0:0≤a0∧a0≤255:=bounds_u8 w0;obtain⟨b0,rfl⟩:∃b:UInt8,a0=(b.toNat:Int):=⟨UInt8.ofNat a0.toNat,by rw[UInt8.toNat_ofNat'];omega⟩;obtain⟨sa1,sl1,sc1,rfl⟩:=okWide_slice Tryz.underlying22 (hval 1 22 v1 rfl rfl);obtain⟨L1,hb1⟩:=(show∃L:List JOp,JOpsAt W (.slice sa1 sl1 sc1) L by obtain⟨fu,hf⟩:=h1;exact MH hf (Il hsz (j:=1) (by rw[Tryz.params3];rfl) rfl));obtain⟨a2,rfl,rfl,rfl,w2⟩:=open_int Tryz.underlying5 (hval 2 5 v2 rfl rfl) h2;have hb2:0≤a2∧a2≤255:=bounds_u8 w2;obtain⟨b2,rfl⟩:∃b:UInt8,a2=(b.toNat:Int):=⟨UInt8.ofNat a2.toNat,by rw[UInt8.toNat_ofNat'];omega⟩;obtain⟨a3,rfl,rfl,rfl,w3⟩:=open_int Tryz.underlying5 (hval 3 5 v3 rfl rfl) h3;have hb3:0≤a3∧a3≤255:=bounds_u8 w3;obtain⟨b3,rfl⟩:∃b:UInt8,a3=(b.toNat:Int):=⟨UInt8.ofNat a3.toNat,by rw[UInt8.toNat_ofNat'];omega⟩;obtain⟨a4,rfl,rfl,rfl,w4⟩:=open_int Tryz.underlying5 (hval 4 5 v4 rfl rfl) h4;have hb4:0≤a4∧a4≤255:=bounds_u8 w4;obtain⟨b4,rfl⟩:∃b:UInt8,a4=(b.toNat:Int):=⟨UInt8.ofNat a4.toNat,by rw[UInt8.toNat_ofNat'];omega⟩;clear hA0 hval0;simp only[List.append_nil]at hW';refine((show Ca 3 #[.int .u8 (b0.toNat:Int),.slice sa1 sl1 sc1,.int .u8 (b2.toNat:Int),.int .u8 (b3.toNat:Int),.int .u8 (b4.toNat:Int)] W (fun e w2=>e=.returned (.bool true)∧Below W.heap.size W w2)from by obtain⟨a',c',e'⟩:=hb1.form;cases e';exact IF hK b0.toNat b2.toNat b3.toNat b0.toNat_lt b2.toNat_lt b3.toNat_lt b4 hb1)).mono fun e W' ⟨he,hg⟩=>?_
 subst he;exact⟨_,rfl,Lw (by kernel_rfl) rfl rfl hW' rfl hg⟩
theorem over:Rows.journalDamageRow.holds Tryz.pinned (OpenSpec.ofChange Rows.journalDamageSpec):=
 OpenClaim.holds_of_wide 3 Tryz.f3 rfl rfl rfl rfl rfl rfl rfl ⟨rfl,rfl,rfl,rfl,rfl⟩ rfl rfl rfl rfl rfl (by kernel_rfl) Tryz.func3 (by kernel_rfl)
  (of_decide_eq_true (by kernel_rfl)) (by unfold Func.isWrapper;first| (rw[Ip (by decide+kernel)];kernel_rfl)| (rw[In (by decide+kernel)];exact⟨rfl,rfl⟩))
  (fun os started H enc _=>lifted os started H enc)
theorem proved:Rows.JournalDamageCardSaid:=
 Claim7.holds_tied_plain_at .later [] [.data] true (true,"31688857ec77b0220dcece87ea0af98612b7ac676d4d4d3268559f44f3ca485d") false
  over (fun _ h=>by cases h) (by kernel_rfl) (fun _ h=>by cases h) journalDamage_row_tie rfl ⟨rfl,rfl⟩ (by kernel_rfl) rfl
  (fun f fn hf hfn=>by
   obtain rfl :f=3:=Option.some.inj ((show Tryz.prog.funcNamed "bulletin/bulletinlaw24.JournalDamage"=some 3 by kernel_rfl).symm.trans hf)|>.symm;obtain rfl :fn=Tryz.f3:=(Option.some.inj (Tryz.func3.symm.trans hfn)).symm;exact⟨by kernel_rfl,fun j t ht=>by
    rw[Tryz.params3]at ht;have hm:t∈[5,22,5,5,5]:=by simpa using Array.mem_of_getElem? ht
    have hall:([5,22,5,5,5].all fun u=>!Tryz.prog.wantsStandIn u)=true:=by kernel_rfl
    exact(show Tryz.prog.wantsStandIn t=false by simpa using List.all_eq_true.1 hall t hm)⟩)
  (by kernel_rfl)
#print axioms proved
end Go.Proofs.YtplclpileejemaaGreatDoor.journalDamage
