/- Short form (wip/zpack.py) of the texts J20 J21 Jp7 J22 Jp8 J23 Disk11 Disk12 Ref1 Ref2. -/
import Derived.Test.YtplclpileejemaaGreatDoorP8
import Derived.Lib.Walk
import Derived.Lib.SliceRun
import Derived.Shelf.RegionOpenPlain
import Derived.Shelf.Slices.Clone
set_option linter.all false
set_option maxRecDepth 100000
set_option maxHeartbeats 8000000
namespace Go.Proofs.YtplclpileejemaaGreatDoor
open Go.RowKit
variable {w w':World}{F G:Nat→Prop}{b g:Nat}{S:DS}{R:JR}{J:JD}
structure JSt (w:World) (F G:Nat→Prop) (b g:Nat) (S:DS) (R:JR) (J:JD):Prop where
 dev:DiskAt w F b S
 mem:∃ev,JBlk w g b R J ev∧EntsAt w G ev J.ents
 fg:¬F g
 gG:¬G g
 fG:∀k,G k→¬F k
 fl:∀k,F k→k<w.heap.size
 gl:∀k,G k→k<w.heap.size
structure JPost (w:World) (F G:Nat→Prop) (b g:Nat) (R:JR) (S:DS) (J:JD) (w':World):Prop where
 st:∃F' G',JSt w' F' G' b g S R J∧(∀k,F' k→F k∨w.heap.size≤k)∧(∀k,G' k→G k∨w.heap.size≤k)
 chg:Chg (fun k=>F k∨G k∨k=g) w w'
theorem JSt.chg {H:Nat→Prop} (h:JSt w F G b g S R J) (hc:Chg H w w') (hd:∀k,k<w.heap.size→H k→¬F k∧¬G k∧k≠g):JSt w' F G b g S R J:=by obtain⟨ev,h1,h2⟩:=h.mem;refine⟨h.dev.chg hc (fun k h3 h4=>(hd k (h.fl k h3) h4).1 h3),⟨ev,h1.chg hc (fun h3=>(hd g h1.lt h3).2.2 rfl),h2.chg hc (fun k hk h3 h4=>(hd k hk h4).2.1 h3)⟩,h.fg,h.gG,h.fG,fun k hk=>Nl (h.fl k hk) hc.size,fun k hk=>Nl (h.gl k hk) hc.size⟩
theorem JSt.below (h:JSt w F G b g S R J) (hb:Below w.heap.size w w'):JSt w' F G b g S R J:=h.chg (H:=fun _=>False) (Cb hb) (fun _ _ h=>h.elim)
theorem QZ (h:JSt w F G b g S R J) (hnb:J.first+J.ents.length<4611686018427387904) (hroom:Roomy S 1):
 Ca 29 #[.pointer (some ⟨g,0,none⟩)] w fun e w'=>e=.returned (.int .i64 (synJ S J).2.2)∧JPost w F G b g R (synJ S J).1 (synJ S J).2.1 w':=by
 obtain⟨ev,h1,h2⟩:=h.mem;obtain⟨va,vc,rfl⟩:=h2.form;refine(PR h.dev h1 h.fg rfl hnb hroom).mono ?_;rintro e w' ⟨rfl,k1,k2,k3⟩;refine⟨rfl,⟨F,G,⟨k1,⟨_,k2,?_⟩,h.fg,h.gG,h.fG,fun k hk=>Nl (h.fl k hk) k3.size,fun k hk=>Nl (h.gl k hk) k3.size⟩,fun k hk=>.inl hk,fun k hk=>.inl hk⟩,k3.mono (fun k hk=>hk.elim .inl (fun e=>.inr (.inr e)))⟩;have he:(synJ S J).2.1.ents=J.ents:=by
  unfold synJ;by_cases h3:J.failed≠0
  ·rw[Ip h3]
  ·rw[In h3];by_cases h4:S.flush.2=0
   ·rw[Ip h4]
   ·rw[In h4]
 rw[he];exact h2.chg k3 (fun k _ h4 h5=>h5.elim (h.fG k h4) (fun e=>h.gG (e▸h4)))
theorem Ho (h:JSt w F G b g S R J) (hK:KAt w) (hK0:¬F 0) (t:Int) (hd:J.failed=0→S.down=false) (hr:R.at_+R.cnt≤S.dur.length) (hnx:J.first+J.ents.length≤4294967296) (hsh:GH J.ents) (hN:Aq J.ents≤100000) (hroom:Roomy S (Aq J.ents+1)):
 Ca 20 #[.pointer (some ⟨g,0,none⟩),.int .i64 t] w fun e w'=>e=.returned (.int .i64 (trnJ S R J t).2.2)∧JPost w F G b g R (trnJ S R J t).1 (trnJ S R J t).2.1 w':=by
 obtain⟨ev,hg,hE⟩:=h.mem;obtain⟨va,vc,rfl⟩:=hE.form;obtain⟨n,hn⟩:=Xq (J.ents.length);rw[hn]at hg hE hnx;have hnb:n≤100000:=by have:=BQ J.ents;omega
 obtain⟨w1,hw1⟩:=Xq (w.alloc (.cells #[.int .i64 0] 44));have HW1:=Hd hw1;have hb1:=Lq hw1;obtain⟨HB1,HX1,HST,HG1,HE1,HD1,HGL,HFG,HN,HK,HK0,HDN,HRR,HSH⟩:=Hd14 hb1 (show w1.heap[w.heap.size]?=some (.cells #[.int .i64 0] 44 (0,0)) by rw[←hw1];exact Hn) h (hg.below hb1) (hE.below hb1) (h.dev.below hb1) hg.lt h.fg hn hK hK0 hd hr hsh;have HNN:=Hd hN;have HRM:=Hd hroom;obtain⟨z,hz⟩:=Xq (trnJ S R J t);have HZ:=Hd (show z=trnJ S R J t from hz.symm);rw[hz];obtain⟨fl,hfl⟩:=Xq (J.failed);have HFL:=Hd hfl;have HSM:=Hd (show∀w',Below w.heap.size w w'→JPost w F G b g R S J w' from fun w' hb=>⟨⟨F,G,h.below hb,fun k hk=>.inl hk,fun k hk=>.inl hk⟩,Cb hb⟩);clear hw1 hb1 h hg hE hroom hz hn hfl hK hK0 hd hr hsh hN;go_enter_defers Tryz.func20,Tryz.ntmps20;go_wp2_with fail;rw[HW1.out];refine(EW HG1.out).mono ?_;rintro e V2 ⟨rfl,hb2⟩;rw[HFL.out];obtain⟨HX2,HB2,HG2,HE2,HD2⟩:=Hd5 (Bq hb2 HX1.out) (Tq HB1.out hb2) (HG1.out.below hb2) (HE1.out.below hb2) (HD1.out.below hb2);obtain⟨q,hq⟩:=Xq (w.heap.size);rw[hq]at HX2 HGL⊢;have HQ:=Hd hq;clear hb2 hq HX1 HG1 HD1 HE1;by_cases hf0:fl=0
 case neg=>
  have hdt:(fl !=0)=true:=by simpa using hf0
  have HZE:=Hd (show z=(S,J,fl) by rw[HZ.out];unfold trnJ;rw[HFL.out,Ip hf0]);clear hf0;go_wp2_with (refine Az rfl rfl 44 (.tmp 4) (.tmp 10) rfl q 0 (.int .i64 fl) rfl rfl HX2.out (by show 0<1;decide) rfl (by kernel_rfl) ?_;refine Stop.on ?_)
  refine Stop.go ?_
  try simp only[P0,P1,P2,P3,P4]
  intro W3 x3 c3 s3
  try simp only[P0,P1,P2,P3,P4]
  have k3:=Cq x3 0;have HB3:=Hd (HB2.out.trans (c3.below (fun k e=>by rw[e,HQ.out];exact Nat.le_refl _) HB2.out.size));go_wp2_with fail;exact⟨.int .i64 fl,by simp[results,Tryz.results20,go_sem,k3],by rw[HZE.out];exact⟨rfl,HSM.out W3 HB3.out⟩⟩
 subst hf0;have HZS:=Hd (show z=if t<J.first∨(J.next:Int)<t then(S,J,2)else
 if t=J.first then(S,J,0)else
 if(moveJ S R (1-J.gen%2) t.toNat (J.ents.drop (t.toNat-J.first))).2.1=0 then((moveJ S R (1-J.gen%2) t.toNat (J.ents.drop (t.toNat-J.first))).1,(moveJ S R (1-J.gen%2) t.toNat (J.ents.drop (t.toNat-J.first))).2.2,0)
 else((moveJ S R (1-J.gen%2) t.toNat (J.ents.drop (t.toNat-J.first))).1,{J with failed:=if(moveJ S R (1-J.gen%2) t.toNat (J.ents.drop (t.toNat-J.first))).2.1=28 then 28 else 0},(moveJ S R (1-J.gen%2) t.toNat (J.ents.drop (t.toNat-J.first))).2.1) by rw[HZ.out];unfold trnJ;rw[In (by rw[HFL.out];simp)])
 have HNXT:=Hd (show J.next=J.first+n by unfold JD.next;rw[HN.out]);clear HZ;go_wp2_with fail;refine(Ew HG2.out).mono ?_;rintro e V3 ⟨rfl,hb⟩;obtain⟨HXV3,HBV3,HGV3,HEV3,HDV3⟩:=Hd5 (Bq hb HX2.out) (Tq HB2.out hb) (HG2.out.below hb) (HE2.out.below hb) (HD2.out.below hb);clear hb;by_cases h1:t<(J.first:Int)
 ·have HZE:=Hd (show z=(S,J,2) by rw[HZS.out,Ip (.inl h1)]);go_wp2_with (refine Az rfl rfl 44 (.tmp 4) (.const (.int .i64 2)) rfl q 0 (.int .i64 2) rfl rfl HXV3.out (by show 0<1;decide) rfl (by kernel_rfl) ?_;refine Stop.on ?_)
  refine Stop.go ?_
  try simp only[P0,P1,P2,P3,P4]
  intro W3 x3 c3 s3
  try simp only[P0,P1,P2,P3,P4]
  have k3:=Cq x3 0;have HB3:=Hd (HBV3.out.trans (c3.below (fun k e=>by rw[e,HQ.out];exact Nat.le_refl _) HBV3.out.size));go_wp2_with fail;exact⟨.int .i64 2,by simp[results,Tryz.results20,go_sem,k3],by rw[HZE.out];exact⟨rfl,HSM.out W3 HB3.out⟩⟩
 go_wp2_with fail;refine(Fb HGV3.out (by omega)).mono ?_;rintro e V4 ⟨rfl,hb⟩;obtain⟨HXV4,HBV4,HGV4,HEV4,HDV4⟩:=Hd5 (Bq hb HXV3.out) (Tq HBV3.out hb) (HGV3.out.below hb) (HEV3.out.below hb) (HDV3.out.below hb);clear hb;by_cases h2:((J.first+n:Nat):Int)<t
 ·have HZE:=Hd (show z=(S,J,2) by rw[HZS.out,Ip (.inr (by rw[HNXT.out];exact h2))]);go_wp2_with (refine Az rfl rfl 44 (.tmp 4) (.const (.int .i64 2)) rfl q 0 (.int .i64 2) rfl rfl HXV4.out (by show 0<1;decide) rfl (by kernel_rfl) ?_;refine Stop.on ?_)
  refine Stop.go ?_
  try simp only[P0,P1,P2,P3,P4]
  intro W3 x3 c3 s3
  try simp only[P0,P1,P2,P3,P4]
  have k3:=Cq x3 0;have HB3:=Hd (HBV4.out.trans (c3.below (fun k e=>by rw[e,HQ.out];exact Nat.le_refl _) HBV4.out.size));go_wp2_with fail;exact⟨.int .i64 2,by simp[results,Tryz.results20,go_sem,k3],by rw[HZE.out];exact⟨rfl,HSM.out W3 HB3.out⟩⟩
 go_wp2_with fail;refine(Ew HGV4.out).mono ?_;rintro e V5 ⟨rfl,hb⟩;obtain⟨HXV5,HBV5,HGV5,HEV5,HDV5⟩:=Hd5 (Bq hb HXV4.out) (Tq HBV4.out hb) (HGV4.out.below hb) (HEV4.out.below hb) (HDV4.out.below hb);clear hb;by_cases h3:t=(J.first:Int)
 ·have HZE:=Hd (show z=(S,J,0) by rw[HZS.out,In (by rw[HNXT.out];omega),Ip h3]);subst h3;go_wp2_with (refine Az rfl rfl 44 (.tmp 4) (.const (.int .i64 0)) rfl q 0 (.int .i64 0) rfl rfl HXV5.out (by show 0<1;decide) rfl (by kernel_rfl) ?_;refine Stop.on ?_)
  refine Stop.go ?_
  try simp only[P0,P1,P2,P3,P4]
  intro W3 x3 c3 s3
  try simp only[P0,P1,P2,P3,P4]
  have k3:=Cq x3 0;have HB3:=Hd (HBV5.out.trans (c3.below (fun k e=>by rw[e,HQ.out];exact Nat.le_refl _) HBV5.out.size));go_wp2_with fail;exact⟨.int .i64 0,by simp[results,Tryz.results20,go_sem,k3],by rw[HZE.out];exact⟨rfl,HSM.out W3 HB3.out⟩⟩
 have h3':(t==(J.first:Int))=false:=by simpa using h3
 have HZS:=Hd (HZS.out.trans (by rw[In (by rw[HNXT.out];omega),In h3]));go_wp2_with fail;obtain⟨k,hk⟩:∃k:Nat,t=((J.first+k:Nat):Int):=⟨t.toNat-J.first,by omega⟩;have hk0:0<k:=by omega
 have hkn:k≤n:=by omega
 subst hk;have HZS:=Hd (show z=if(moveJ S R (1-J.gen%2) (J.first+k) (J.ents.drop k)).2.1=0 then((moveJ S R (1-J.gen%2) (J.first+k) (J.ents.drop k)).1,(moveJ S R (1-J.gen%2) (J.first+k) (J.ents.drop k)).2.2,0)
 else((moveJ S R (1-J.gen%2) (J.first+k) (J.ents.drop k)).1,{J with failed:=if(moveJ S R (1-J.gen%2) (J.first+k) (J.ents.drop k)).2.1=28 then 28 else 0},(moveJ S R (1-J.gen%2) (J.first+k) (J.ents.drop k)).2.1) by have h9:=HZS.out;rw[Int.toNat_natCast,Nat.add_sub_cancel_left]at h9;exact h9)
 obtain⟨HDE,HLIM,HMS,HEL⟩:=Hd4 (show(moveJ S R (1-J.gen%2) (J.first+k) (J.ents.drop k)).2.1=0→(moveJ S R (1-J.gen%2) (J.first+k) (J.ents.drop k)).2.2.ents=J.ents.drop k from fun h9=>(Gt _ _ _ _ _ h9).2) (show JLw 0 (J.first+k) (J.ents.drop k)from⟨by omega,by omega,by rw[List.length_drop,HN.out];omega,fun b hb=>Nt (HSH.out b (List.mem_of_mem_drop hb)) (by omega)⟩) (show Aq (J.ents.drop k)≤Aq J.ents from DR _ _) (show∀V,Below V5.heap.size V5 V→EntsAt V G (.slice va n vc) J.ents from fun V hV=>HEV5.out.below hV);obtain⟨M,hM⟩:=Xq (moveJ S R (1-J.gen%2) (J.first+k) (J.ents.drop k));have HMV:=Hd (show∀(V:World) (H:Nat→Prop) (ev2:Value),Below V5.heap.size V5 V→EntsAt V H ev2 (J.ents.drop k)→(∀j,j<V.heap.size→H j→¬F j)→Ca 50 #[.pointer (some ⟨g,0,none⟩),.int .i64 ((J.first+k:Nat):Int),ev2] V (Jc V F g b R J (.slice va n vc) ev2 M)from fun V H ev2 hV he hH=>by rw[←hM];exact KP (HDV5.out.below hV) (KAt.below HK.out (Tq HBV5.out hV) HK.out.size) HK0.out (HGV5.out.below hV) HFG.out (J.first+k) (J.ents.drop k) he hH (HDN.out HFL.out) HRR.out HFL.out HLIM.out (Nt HMS.out HNN.out) (HRM.out.less (by have:=HMS.out;omega)))
 rw[hM]at HZS HDE;obtain⟨HCL,HGF,HFLT,HGLT,HgG⟩:=Hd5 (show∀w',Below V5.heap.size V5 w'→w'.cell? ⟨g,6,none⟩=some (.slice va n vc)from fun w' hw'=>(HGV5.out.below hw').cell rfl) (show∀j,G j→¬F j from HST.out.fG) (show∀j,F j→j<w.heap.size from HST.out.fl) (show∀j,G j→j<w.heap.size from HST.out.gl) HST.out.gG;obtain⟨fi,hfi⟩:=Xq (J.first);have HFI:=Hd hfi;rw[hfi,Int.natCast_add]at HMV;simp only[hfi];have hnx':fi+n≤4294967296:=by omega
 clear hM hfi h1 h2 h3 h3';refine bG [11,12,13] ?_;intro wd hd0;have hS0:=hd0;refine tkP 0 hS0 ?_;refine tkP 1 hS0 ?_;refine tkP 2 hS0 ?_;refine tkP 3 hS0 ?_;refine tkP 4 hS0 ?_;refine tkP 5 hS0 ?_;refine tkZ 6 hS0 ?_ (hy:=fun w' hw'=>by(have h1:=HCL.out w' hw';clear hw';first| (go_simp;rfl)| (go_simp;done)));refine tkP 7 hS0 ?_;refine tkP 8 hS0 ?_;refine dG 9 fun K hK=>?_
 go_simp;go_at_call 21;refine(Ew (HGV5.out.below hd0)).mono ?_;rintro e V6 ⟨rfl,hb6⟩;rw[HFI.out];have hb06:=Tq hd0 hb6;refine Kq hK hb06 ?_;refine tkP 10 hb06 ?_ (v:=.int .i64 k) (hy:=fun w' hw'=>by(have hwr:IntKind.i64.wrap ((fi:Int)+(k:Int)-(fi:Int))=(k:Int):=(by rw[show(fi:Int)+(k:Int)-(fi:Int)=(k:Int) by omega];exact IntWalk.i64_in _ (by omega));first| (go_simp;rfl)| (go_simp;done)));refine dGf 11 fun K hK=>?_
 go_simp;go_at_call 56;refine(Ld (HEL.out V6 hb06) k hk0 hkn HN.out (by omega)).mono ?_;rintro e V7 ⟨ua,uc,rfl,he7,hb7⟩;have hb07:=Tq hb06 hb7;refine Kr hK ?_;refine dGf 12 fun K hK=>?_
 go_simp;go_at_call 50;refine(HMV.out V7 _ _ hb07 he7 (fun j hj h1 h2=>h1.elim (fun h3=>HGF.out j h3.1 h2) (fun h3=>by have h4:=HFLT.out j h2;have h5:=HBV5.out.size;have h6:=hb06.size;omega))).mono ?_;rintro e V8 ⟨rfl,hd8,hc8,hok8,hno8⟩;refine Kr hK ?_;refine dGf 13 fun K hK=>?_
 have hxq:=((hc8.block q (by have h1:=(Ax HXV5.out).1;have h2:=hb07.size;omega) (fun h1=>h1.elim (fun h2=>by have:=HFLT.out q h2;have:=HQ.out;omega) (fun h2=>by have:=HGL.out;omega))).trans (hb07.block q (Ax HXV5.out).1)).trans HXV5.out;refine FB rfl 44 (.tmp 4) (.tmp 38) rfl q 0 (.int .i64 M.2.1) rfl rfl hxq (by show 0<1;decide) rfl (by kernel_rfl) ?_;intro V9 x9 c9 s9;refine Kr hK ?_;refine eG ?_;have hqg:q≠g:=by have:=HGL.out;omega
 have hqs:q<V7.heap.size:=by have h1:=(Ax HXV5.out).1;have h2:=hb07.size;omega
 have hFq:¬F q:=fun h1=>by have:=HFLT.out q h1;have:=HQ.out;omega
 have hsz8:=hc8.size;have hsz9:=c9.size;have HSV:=Hd (show w.heap.size≤V6.heap.size∧V6.heap.size≤V7.heap.size∧V7.heap.size≤V8.heap.size∧V8.heap.size≤V9.heap.size∧q<V7.heap.size∧w.heap.size=q∧g<q from⟨Nt HBV5.out.size hb06.size,hb7.size,hsz8,hsz9,hqs,HQ.out,HGL.out⟩);have HD9:=Hd (hd8.bound.chg c9 (fun j h1 h2=>by
  subst h2;rcases h1.1 with h3|h3
  ·exact hFq h3
  ·omega))
 obtain⟨HX9,HC9,HOK9,HNO9⟩:=Hd4 (show V9.heap[q]?=some (.cells #[.int .i64 M.2.1] 44 (0,0))from x9) (show Chg (fun j=>F j∨G j∨j=g) w V9 from((Cb (F:=fun j=>F j∨G j∨j=g) (Tq HBV5.out hb07)).trans hc8 (fun j h1=>.inl (h1.elim .inl (fun h2=>.inr (.inr h2))))).trans c9 (fun j h1=>.inr (by have:=HQ.out;omega))) (show M.2.1=0→JBlk V9 g b R M.2.2 (.slice ua (n-k) uc)from fun h1=>(hok8 h1).chg c9 (fun h2=>hqg h2.symm)) (show M.2.1≠0→JBlk V9 g b R J (.slice va n vc)from fun h1=>(hno8 h1).chg c9 (fun h2=>hqg h2.symm));have HE9:=Hd ((he7.chg hc8 (fun j _ h1 h2=>by
  rcases h1 with h1|h1
  ·rcases h2 with h2|h2
   ·exact HGF.out j h1.1 h2
   ·exact HgG.out (h2▸h1.1)
  ·rcases h2 with h2|h2
   ·have:=HFLT.out j h2;have:=HSV.out;omega
   ·have:=HSV.out;omega)).chg c9 (fun j _ h1 h2=>by
  rcases h1 with h1|h1
  ·have:=HGLT.out j h1.1;have:=HSV.out;omega
  ·have h3:=HBV5.out.size;have h4:=(Ax HXV5.out).1;have h5:=hb06.size;omega))
 have HEO9:=Hd ((((HEL.out V7 hb07)).chg hc8 (fun j _ h1 h2=>by
  rcases h2 with h2|h2
  ·exact HGF.out j h1 h2
  ·exact HgG.out (h2▸h1))).chg c9 (fun j _ h1 h2=>by have:=HGLT.out j h1;have:=HSV.out;omega))
 clear hd8 hc8 hok8 hno8 x9 c9 s9 he7 hb7 hb07 hb06 hqg hqs hFq hsz8 hsz9
 try clear hS0
 try clear hd0
 obtain⟨S1,e1,J1⟩:=M;simp only at HD9 HX9 HOK9 HNO9 HZS HDE⊢;go_wp2_with fail;by_cases he:e1=0
 ·subst he;have HZE:=Hd (show z=(S1,J1,0) by rw[HZS.out,Ip rfl]);refine leaves_cons (f:=54) (args:=#[.pointer (some ⟨g,0,none⟩),.pointer (some ⟨q,0,none⟩)]) (by simp) (by simp[go_sem]) ?_;refine(EJ .returning (HOK9.out rfl) HX9.out).mono ?_;rintro e u' W7 ⟨rfl,rfl,hg7,hc7⟩;have k7:=Cq ((hc7.block q (Ax HX9.out).1 (by have:=HSV.out;omega)).trans HX9.out) 0;exact⟨.int .i64 0,by simp[results,Tryz.results20,go_sem,k7],by
   rw[HZE.out];refine⟨rfl,⟨⟨_,(fun j=>(G j∧j<V6.heap.size)∨(V6.heap.size≤j∧j<V7.heap.size)),⟨HD9.out.chg hc7 (fun j h1 h2=>?_),⟨_,hg7,?_⟩,?_,?_,?_,?_,?_⟩,?_,?_⟩,HC9.out.trans hc7 (fun j e=>.inl (.inr (.inr e)))⟩⟩
   ·subst h2;rcases h1.1 with h3|h3
    ·exact HFG.out h3
    ·have:=HSV.out;omega
   ·rw[HDE.out rfl];exact HE9.out.chg hc7 (fun j _ h1 h2=>by
     subst h2;rcases h1 with h3|h3
     ·exact HgG.out h3.1
     ·have:=HSV.out;omega)
   ·rintro⟨h1|h1,_⟩
    ·exact HFG.out h1
    ·have:=HSV.out;omega
   ·rintro(h1|h1)
    ·exact HgG.out h1.1
    ·have:=HSV.out;omega
   ·rintro j (h1|h1) ⟨h2|h2,_⟩
    ·exact HGF.out j h1.1 h2
    ·have:=HSV.out;omega
    ·have:=HFLT.out j h2;have:=HSV.out;omega
    ·omega
   ·intro j h1;have:=hc7.size;have:=HSV.out;have:=h1.2;omega
   ·rintro j (h1|h1)
    ·have:=hc7.size;have:=HSV.out;omega
    ·have:=hc7.size;have:=HSV.out;omega
   ·rintro j ⟨h1|h1,_⟩
    ·exact .inl h1
    ·exact .inr (by have:=HSV.out;omega)
   ·rintro j (h1|h1)
    ·exact .inl h1.1
    ·exact .inr (by have:=HSV.out;omega)⟩
 ·have HZE:=Hd (show z=(S1,{J with failed:=if e1=28 then 28 else 0},e1) by rw[HZS.out,In he]);have HWJ:=Hd (show JO J e1={J with failed:=if e1=28 then 28 else 0} by
   unfold JO;by_cases h28:e1=28
   ·rw[Ip h28,Ip h28]
   ·rw[In h28,In h28];have h0:=HFL.out;obtain⟨_,_,_,_,_,_⟩:=J;simp only at h0;subst h0;rfl)
  refine leaves_cons (f:=54) (args:=#[.pointer (some ⟨g,0,none⟩),.pointer (some ⟨q,0,none⟩)]) (by simp) (by simp[go_sem]) ?_;refine(EJ .returning (HNO9.out he) HX9.out).mono ?_;rintro e u' W7 ⟨rfl,rfl,hg7,hc7⟩;rw[HWJ.out]at hg7;have k7:=Cq ((hc7.block q (Ax HX9.out).1 (by have:=HSV.out;omega)).trans HX9.out) 0;exact⟨.int .i64 e1,by simp[results,Tryz.results20,go_sem,k7],by
   rw[HZE.out];refine⟨rfl,⟨⟨_,G,⟨HD9.out.chg hc7 (fun j h1 h2=>?_),⟨_,hg7,?_⟩,?_,HgG.out,?_,?_,?_⟩,?_,fun j h1=>.inl h1⟩,HC9.out.trans hc7 (fun j e=>.inl (.inr (.inr e)))⟩⟩
   ·subst h2;rcases h1.1 with h3|h3
    ·exact HFG.out h3
    ·have:=HSV.out;omega
   ·exact HEO9.out.chg hc7 (fun j _ h1 h2=>HgG.out (h2▸h1))
   ·rintro⟨h1|h1,_⟩
    ·exact HFG.out h1
    ·have:=HSV.out;omega
   ·rintro j h1 ⟨h2|h2,_⟩
    ·exact HGF.out j h1 h2
    ·have:=HGLT.out j h1;have:=HSV.out;omega
   ·intro j h1;have:=hc7.size;have:=HSV.out;have:=h1.2;omega
   ·intro j h1;have:=HGLT.out j h1;have:=hc7.size;have:=HSV.out;omega
   ·rintro j ⟨h1|h1,_⟩
    ·exact .inl h1
    ·exact .inr (by have:=HSV.out;omega)⟩
theorem IT {D:Nat→Prop} (h:JSt w F G b g S R J) (hK:KAt w) (hK0:¬F 0) {bv:Value} {l:List UInt8} (hv:BytesN w D bv l) (hDF:∀k,k<w.heap.size→D k→¬F k∧k≠g) (hl:l.length≤1000000000)
 (hr:R.at_+R.cnt≤S.dur.length) (hat:R.at_<100000000) (hcn:R.cnt<1000000) (hus:J.used≤R.half) (hgn:J.gen≤2147483647) (hnx:J.first+J.ents.length+1≤4294967296) (hN:Aq J.ents≤100000) (hroom:Roomy S 1000):
 Ca 19 #[.pointer (some ⟨g,0,none⟩),bv] w fun e w'=>e=.returned (.tuple #[.int .i64 ((appJ S R J l).2.2.2:Int),.int .i64 (appJ S R J l).2.2.1])∧JPost w F G b g R (appJ S R J l).1 (appJ S R J l).2.1 w':=by
 obtain⟨ev,hg,hE⟩:=h.mem;obtain⟨va,vc,rfl⟩:=hE.form;obtain⟨ba,bc,rfl⟩:=hv.form;obtain⟨n,hn⟩:=Xq (J.ents.length);rw[hn]at hg hE hnx;have hnb:n≤100000:=by have:=BQ J.ents;omega
 obtain⟨w1,hw1⟩:=Xq (w.alloc (.cells #[.int .i64 0] 44));have HW1:=Hd hw1;have hb1:=Lq hw1;obtain⟨HB1,HX1,HST,HG1,HE1,HD1,HV1,HDF,HGL,HFG,HN,HK,HK0,HRM⟩:=Hd14 hb1 (show w1.heap[w.heap.size]?=some (.cells #[.int .i64 0] 44 (0,0)) by rw[←hw1];exact Hn) h (hg.below hb1) (hE.below hb1) (h.dev.below hb1) ((hv.weak (G:=fun k=>D k∧k<w.heap.size) (fun k h1 h2=>⟨h2,h1⟩)).below hb1) (show∀k,D k∧k<w.heap.size→¬F k∧k≠g from fun k h1=>hDF k h1.2 h1.1) hg.lt h.fg hn hK hK0 hroom;obtain⟨m,hm⟩:=Xq (l.length);rw[hm]at hl HV1⊢;have HM:=Hd hm;obtain⟨z,hz⟩:=Xq (appJ S R J l);have HZ:=Hd (show z=appJ S R J l from hz.symm);rw[hz];obtain⟨fl,hfl⟩:=Xq (J.failed);have HFL:=Hd hfl;have hub:R.half<1000000:=by unfold JR.half;omega
 have HSM:=Hd (show∀w',Below w.heap.size w w'→JPost w F G b g R S J w' from fun w' hb=>⟨⟨F,G,h.below hb,fun k hk=>.inl hk,fun k hk=>.inl hk⟩,Cb hb⟩);clear hw1 hb1 h hg hE hroom hz hn hfl hK hK0 hv hDF hm;go_enter_defers Tryz.func19,Tryz.ntmps19;go_wp2_with fail;rw[HW1.out];refine(EW HG1.out).mono ?_;rintro e V2 ⟨rfl,hb2⟩;rw[HFL.out];obtain⟨HX2,HB2,HG2,HE2,HD2,HV2⟩:=Hd6 (Bq hb2 HX1.out) (Tq HB1.out hb2) (HG1.out.below hb2) (HE1.out.below hb2) (HD1.out.below hb2) (HV1.out.below hb2);obtain⟨q,hq⟩:=Xq (w.heap.size);rw[hq]at HX2 HGL⊢;have HQ:=Hd hq;clear hb2 hq HX1 HG1 HD1 HE1 HV1;by_cases hf0:fl=0
 case neg=>
  have hdt:(fl !=0)=true:=by simpa using hf0
  have HZE:=Hd (show z=(S,J,fl,0) by rw[HZ.out];unfold appJ;rw[HFL.out,Ip hf0]);clear hf0;go_wp2_with (refine Az rfl rfl 44 (.tmp 5) (.tmp 14) rfl q 0 (.int .i64 fl) rfl rfl HX2.out (by show 0<1;decide) rfl (by kernel_rfl) ?_;refine Stop.on ?_)
  refine Stop.go ?_
  try simp only[P0,P1,P2,P3,P4]
  intro W3 x3 c3 s3
  try simp only[P0,P1,P2,P3,P4]
  have k3:=Cq x3 0;have HB3:=Hd (HB2.out.trans (c3.below (fun k e=>by rw[e,HQ.out];exact Nat.le_refl _) HB2.out.size));go_wp2_with fail;exact⟨.tuple #[.int .i64 0,.int .i64 fl],by simp[results,Tryz.results19,go_sem,k3],by rw[HZE.out];exact⟨rfl,HSM.out W3 HB3.out⟩⟩
 subst hf0;have HZS:=Hd (show z=if 100000<m then(S,J,5,0)else
 if R.half-J.used<Af m then(S,J,9,0)else
 if(wrL S (R.area (J.gen%2)+J.used) (Ac (AI J.gen (n+1) l))).2=0 then
  ((wrL S (R.area (J.gen%2)+J.used) (Ac (AI J.gen (n+1) l))).1,{J with ents:=J.ents++[l],used:=J.used+Af m},0,J.next)
 else((wrL S (R.area (J.gen%2)+J.used) (Ac (AI J.gen (n+1) l))).1,{J with failed:=(wrL S (R.area (J.gen%2)+J.used) (Ac (AI J.gen (n+1) l))).2},(wrL S (R.area (J.gen%2)+J.used) (Ac (AI J.gen (n+1) l))).2,0) by rw[HZ.out];unfold appJ;rw[In (by rw[HFL.out];simp),HM.out,HN.out])
 clear HZ;by_cases hlong:100000<m
 ·have HZE:=Hd (show z=(S,J,5,0) by rw[HZS.out,Ip hlong]);go_wp2_with fail;refine(QW (m:Int) (.inr (by omega))).mono ?_;rintro e V3 ⟨rfl,hb⟩;obtain⟨HXV3,HBV3,HGV3,HEV3,HDV3,HVV3⟩:=Hd6 (Bq hb HX2.out) (Tq HB2.out hb) (HG2.out.below hb) (HE2.out.below hb) (HD2.out.below hb) (HV2.out.below hb);clear hb;go_wp2_with (refine Az rfl rfl 44 (.tmp 5) (.tmp 20) rfl q 0 (.int .i64 2) rfl rfl HXV3.out (by show 0<1;decide) rfl (by kernel_rfl) ?_;refine Stop.on ?_)
  refine Stop.go ?_
  try simp only[P0,P1,P2,P3,P4]
  intro V4 x3 c3 s3
  try simp only[P0,P1,P2,P3,P4]
  obtain⟨HXV4,HBV4,HGV4,HEV4,HDV4,HVV4⟩:=Hd6 (show V4.heap[q]?=some (.cells #[.int .i64 2] 44 (0,0))from x3) (HBV3.out.trans (c3.below (fun k e=>by rw[e,HQ.out];exact Nat.le_refl _) HBV3.out.size)) (HGV3.out.chg c3 (by have:=HGL.out;omega)) (HEV3.out.chg c3 (fun k _ h1 e=>by have:=HST.out.gl k h1;have:=HQ.out;omega)) (HDV3.out.chg c3 (fun k h1 e=>by have:=HST.out.fl k h1;have:=HQ.out;omega)) (HVV3.out.chg c3 (fun k _ h1 e=>by have:=h1.2;have:=HQ.out;omega));have kqV4:=Cq x3 0;clear x3 c3 s3;go_wp2_with (refine Az rfl rfl 44 (.tmp 5) (.const (.int .i64 5)) rfl q 0 (.int .i64 5) rfl rfl HXV4.out (by show 0<1;decide) rfl (by kernel_rfl) ?_;refine Stop.on ?_)
  refine Stop.go ?_
  try simp only[P0,P1,P2,P3,P4]
  intro W3 x3 c3 s3
  try simp only[P0,P1,P2,P3,P4]
  have k3:=Cq x3 0;have HB3:=Hd (HBV4.out.trans (c3.below (fun k e=>by rw[e,HQ.out];exact Nat.le_refl _) HBV4.out.size));go_wp2_with fail;exact⟨.tuple #[.int .i64 0,.int .i64 5],by simp[results,Tryz.results19,go_sem,k3],by rw[HZE.out];exact⟨rfl,HSM.out W3 HB3.out⟩⟩
 have HZS:=Hd (HZS.out.trans (In hlong));go_wp2_with fail;refine(QV m (by omega)).mono ?_;rintro e V3 ⟨rfl,hb⟩;obtain⟨HXV3,HBV3,HGV3,HEV3,HDV3,HVV3⟩:=Hd6 (Bq hb HX2.out) (Tq HB2.out hb) (HG2.out.below hb) (HE2.out.below hb) (HD2.out.below hb) (HV2.out.below hb);clear hb;go_wp2_with (refine Az rfl rfl 44 (.tmp 5) (.tmp 20) rfl q 0 (.int .i64 0) rfl rfl HXV3.out (by show 0<1;decide) rfl (by kernel_rfl) ?_;refine Stop.on ?_)
 refine Stop.go ?_
 try simp only[P0,P1,P2,P3,P4]
 intro V4 x3 c3 s3
 try simp only[P0,P1,P2,P3,P4]
 obtain⟨HXV4,HBV4,HGV4,HEV4,HDV4,HVV4⟩:=Hd6 (show V4.heap[q]?=some (.cells #[.int .i64 0] 44 (0,0))from x3) (HBV3.out.trans (c3.below (fun k e=>by rw[e,HQ.out];exact Nat.le_refl _) HBV3.out.size)) (HGV3.out.chg c3 (by have:=HGL.out;omega)) (HEV3.out.chg c3 (fun k _ h1 e=>by have:=HST.out.gl k h1;have:=HQ.out;omega)) (HDV3.out.chg c3 (fun k h1 e=>by have:=HST.out.fl k h1;have:=HQ.out;omega)) (HVV3.out.chg c3 (fun k _ h1 e=>by have:=h1.2;have:=HQ.out;omega));have kqV4:=Cq x3 0;clear x3 c3 s3;go_wp2_with fail;refine(Ij HGV4.out hcn (by omega)).mono ?_;rintro e V5 ⟨rfl,hb⟩;obtain⟨HXV5,HBV5,HGV5,HEV5,HDV5,HVV5⟩:=Hd6 (Bq hb HXV4.out) (Tq HBV4.out hb) (HGV4.out.below hb) (HEV4.out.below hb) (HDV4.out.below hb) (HVV4.out.below hb);clear hb;obtain⟨nd,hnd⟩:=Xq (Af m);rw[hnd]at HZS⊢;have hnd1:nd≤586:=by rw[←hnd];exact(CQ (by omega)).2
 have HND:=Hd hnd;clear hnd;by_cases hroom:R.half-J.used<nd
 ·have hgt:(R.half:Int)-(J.used:Int)<(nd:Int):=by omega
  have HZE:=Hd (show z=(S,J,9,0) by rw[HZS.out,Ip hroom]);go_wp2_with (refine Az rfl rfl 44 (.tmp 5) (.const (.int .i64 9)) rfl q 0 (.int .i64 9) rfl rfl HXV5.out (by show 0<1;decide) rfl (by kernel_rfl) ?_;refine Stop.on ?_)
  refine Stop.go ?_
  try simp only[P0,P1,P2,P3,P4]
  intro W3 x3 c3 s3
  try simp only[P0,P1,P2,P3,P4]
  have k3:=Cq x3 0;have HB3:=Hd (HBV5.out.trans (c3.below (fun k e=>by rw[e,HQ.out];exact Nat.le_refl _) HBV5.out.size));go_wp2_with fail;exact⟨.tuple #[.int .i64 0,.int .i64 9],by simp[results,Tryz.results19,go_sem,k3],by rw[HZE.out];exact⟨rfl,HSM.out W3 HB3.out⟩⟩
 have hgt:¬(R.half:Int)-(J.used:Int)<(nd:Int):=by omega
 have HZS:=Hd (HZS.out.trans (In hroom));clear hroom;go_wp2_with fail;obtain⟨gn,hgnE⟩:=Xq (J.gen);obtain⟨us,husE⟩:=Xq (J.used);obtain⟨ca,hca⟩:=Xq (R.at_);obtain⟨cc,hcc⟩:=Xq (R.cnt);obtain⟨ar,har⟩:=Xq (gn%2);have har1:ar≤1:=by omega
 obtain⟨hh,hhE⟩:=Xq (cc/2);have hhf:R.half=hh:=by unfold JR.half;rw[hcc,hhE]
 obtain⟨wh,hwE⟩:=Xq (ar*hh);have hwm:wh≤1000000:=by subst hwE;rcases(show ar=0∨ar=1 by omega)with rfl |rfl <;>omega
 have hmul:(ar:Int)*(hh:Int)=(wh:Int):=by rw[←hwE,Int.natCast_mul]
 have hwrap:=Iw (wh:Int);have HSZ:=Hd (fun(w1:World)=>F5 (w:=w1) b (ca:Int) cc (by omega));rw[hhE]at HSZ;unfold stV at HSZ;have HGJ:=Hd (show∀V,JBlk V g b R J (.slice va n vc)→V.cell? ⟨g,0,none⟩=some (.pointer (some ⟨b,0,none⟩))∧V.cell? ⟨g,1,none⟩=some (.int .i64 ca)∧V.cell? ⟨g,2,none⟩=some (.int .i64 cc)∧V.cell? ⟨g,3,none⟩=some (.int .i64 ar)∧V.cell? ⟨g,4,none⟩=some (.int .i64 gn)∧V.cell? ⟨g,6,none⟩=some (.slice va n vc)∧V.cell? ⟨g,7,none⟩=some (.int .i64 us)from fun V hV=>by subst hgnE husE hca hcc har;exact⟨hV.cell rfl,hV.cell rfl,hV.cell rfl,hV.cell rfl,hV.cell rfl,hV.cell rfl,hV.cell rfl⟩)
 have HPUT:=Hd (show∀V,DiskAt V F b S→KAt V→BytesN V (fun k=>D k∧k<w.heap.size) (.slice ba m bc) l→Ca 55 #[.agg #[.pointer (some ⟨b,0,none⟩),.int .i64 ca,.int .i64 cc],.int .i64 ((wh:Int)+(us:Int)),.agg #[.int .i64 2,.int .i64 gn,.int .i64 ((n:Int)+1),.slice ba m bc]] V fun e w'=>e=.returned (Ki nd (wrL S (R.area (J.gen%2)+J.used) (Ac (AI J.gen (n+1) l))).2)∧DiskAt w' (fun k=>F k∨V.heap.size≤k) b (wrL S (R.area (J.gen%2)+J.used) (Ac (AI J.gen (n+1) l))).1∧Chg F V w' from fun V h1 h2 h3=>by
  have h4:=Md h1 h2 HK0.out ca (wh+us) (cc:Int) (AI gn (n+1) l) (FH (by omega) (by omega) (by rw[HM.out];omega)) (.slice ba m bc) h3 (by omega) (HRM.out.less (by show Af l.length≤_;rw[HM.out,HND.out];omega));have e1:R.area (J.gen%2)+J.used=ca+(wh+us):=by unfold JR.area;rw[hgnE,har,hhf,hwE,hca,husE,Nat.add_assoc]
  rw[show Af (AI gn (n+1) l).load.length=nd by show Af l.length=nd;rw[HM.out,HND.out]]at h4;rw[e1,hgnE];exact h4)
 have HCA:=Hd (show R.half=hh∧J.used=us from⟨hhf,husE⟩);have H28:=Hd (show(wrL S (R.area (J.gen%2)+J.used) (Ac (AI J.gen (n+1) l))).2≠0→(wrL S (R.area (J.gen%2)+J.used) (Ac (AI J.gen (n+1) l))).2=28 from fun h9=>(GF (CV _) (by have h1:=CJ (R:=R) (h:=J.gen%2) (n:=J.used+nd) (by omega) (by omega);rw[AL (FH (by omega) (by omega) (by rw[HM.out];omega)),show Af (AI J.gen (n+1) l).load.length=nd by show Af l.length=nd;rw[HM.out,HND.out]];omega) h9).1)
 obtain⟨y,hy⟩:=Xq (wrL S (R.area (J.gen%2)+J.used) (Ac (AI J.gen (n+1) l)));rw[hy]at HPUT HZS H28;rw[husE,hhf]at hgt;have hus2:us≤hh:=by omega
 have hub2:hh<1000000:=by omega
 have hgm:gn≤2147483647:=by omega
 have HKV:=Hd (show∀V,Below w.heap.size w V→KAt V from fun V hV=>KAt.below HK.out hV HK.out.size);clear hy hgnE husE hca hcc har hhE hhf hwE;have HCL:=Hd (show∀w',Below V5.heap.size V5 w'→w'.cell? ⟨g,4,none⟩=some (.int .i64 gn)∧w'.cell? ⟨g,6,none⟩=some (.slice va n vc)from fun w' hw'=>by obtain⟨_,_,_,_,h5,h6,_⟩:=HGJ.out w' (HGV5.out.below hw');exact⟨h5,h6⟩)
 refine bB ?_;intro wd hd0;have hS0:=hd0;refine tkH 0 hS0 ?_;refine tkH 1 hS0 ?_;refine tkH 2 hS0 ?_;refine tkH 3 hS0 ?_;refine AD 4 HCL.out hS0 ?_;refine tkH 5 hS0 ?_;refine tkH 6 hS0 ?_;refine tkH 7 hS0 ?_;refine tkH 8 hS0 ?_;refine AD 9 HCL.out hS0 ?_;refine tkH 10 hS0 ?_;refine tkH 11 hS0 ?_ (v:=.int .i64 ((n:Int)+1)) (hy:=fun w' hw'=>by(have hwr:=Iw ((n:Int)+1);clear hw';first| (go_simp;rfl)| (go_simp;done)));refine tkH 12 hS0 ?_;refine tkH 13 hS0 ?_;refine dH 14 fun K hK=>?_
 refine Nz (some 8) rfl 111 rfl #[.int .i64 0,.int .i64 0,.int .i64 0,.slice none 0 0] 4 (by kernel_rfl) ?_;intro wn xn bi sn;have hS14:Below V5.heap.size V5 wn:=Tq hS0 bi;refine Kq hK (hS14) ?_;refine dH 15 fun K hK=>?_
 refine Pv 111 8 41 _ xn ?_;intro V6 x6 c6 s6;have hS15:Below V5.heap.size V5 V6:=hS14.trans (c6.below (B:=V5.heap.size) (fun k e=>by rw[e];exact hd0.size) hS14.size);refine Kq hK (hS15) ?_;refine eH ?_;obtain⟨p,hp⟩:=Xq (wd.heap.size);rw[hp]at x6⊢;have hpq:q<p∧w.heap.size≤p:=by have h1:=(Ax HXV5.out).1;have h2:=hd0.size;have h3:=HBV5.out.size;omega
 have HP:=Hd (show q<p∧g<p∧(∀k,F k→k<p)from⟨hpq.1,by have:=HGL.out;omega,fun k hk=>by have:=HST.out.fl k hk;omega⟩);have hb:=hS15;obtain⟨HX6,HXV6,HBV6,HGV6,HEV6,HDV6,HVV6⟩:=Hd7 x6 (Bq hb HXV5.out) (Tq HBV5.out hb) (HGV5.out.below hb) (HEV5.out.below hb) (HDV5.out.below hb) (HVV5.out.below hb);clear hp hpq hb x6 c6 s6 hS15 hS14 xn bi sn hS0 hd0 HCL;go_wp2_with fail;have HNC:=Hd (show∀w',Chg (fun k=>F k∨k=q) V6 w'→(w'.cell? ⟨g,0,none⟩=some (.pointer (some ⟨b,0,none⟩))∧w'.cell? ⟨g,1,none⟩=some (.int .i64 ca)∧w'.cell? ⟨g,2,none⟩=some (.int .i64 cc)∧w'.cell? ⟨g,3,none⟩=some (.int .i64 ar)∧w'.cell? ⟨g,7,none⟩=some (.int .i64 us))∧w'.cell? ⟨p,0,none⟩=some (.int .i64 2)∧w'.cell? ⟨p,1,none⟩=some (.int .i64 gn)∧w'.cell? ⟨p,2,none⟩=some (.int .i64 ((n:Int)+1))∧w'.cell? ⟨p,3,none⟩=some (.slice ba m bc)from fun w' hw'=>by
  obtain⟨h1,h2,h3,h4,_,_,h7⟩:=HGJ.out w' (HGV6.out.chg hw' (fun h=>h.elim HFG.out (fun e=>by have:=HGL.out;omega)));have h8:=(hw'.block p (Ax HX6.out).1 (fun h=>by
   have h9:=HP.out;rcases h with h|h
   ·have:=h9.2.2 p h;omega
   ·omega)).trans HX6.out
  refine⟨⟨h1,h2,h3,h4,h7⟩,?_,?_,?_,?_⟩<;>rw[cr h8]<;>rfl)
 refine bH (fun k=>F k∨k=q) ?_;intro wd hd0 hS0;refine tkH 0 hS0 ?_;refine tkH 1 hS0 ?_;refine tkH 2 hS0 ?_;refine tkH 3 hS0 ?_ (hy:=fun w' hw'=>by(obtain⟨⟨h1,h2,h3,h4,h5⟩,h6,h7,h8,h9⟩:=HNC.out w' hw';clear hw';first| (go_simp;rfl)| (go_simp;done)));refine tkH 4 hS0 ?_;refine tkH 5 hS0 ?_;refine tkH 6 hS0 ?_;refine tkH 7 hS0 ?_ (hy:=fun w' hw'=>by(obtain⟨⟨h1,h2,h3,h4,h5⟩,h6,h7,h8,h9⟩:=HNC.out w' hw';clear hw';first| (go_simp;rfl)| (go_simp;done)));refine tkH 8 hS0 ?_;refine tkH 9 hS0 ?_;refine tkH 10 hS0 ?_;refine tkH 11 hS0 ?_ (hy:=fun w' hw'=>by(obtain⟨⟨h1,h2,h3,h4,h5⟩,h6,h7,h8,h9⟩:=HNC.out w' hw';clear hw';first| (go_simp;rfl)| (go_simp;done)));refine tkH 14 hS0 ?_;refine tkH 15 hS0 ?_;refine tkH 16 hS0 ?_;refine tkH 17 hS0 ?_;refine tkH 18 hS0 ?_ (hy:=fun w' hw'=>by(obtain⟨⟨h1,h2,h3,h4,h5⟩,h6,h7,h8,h9⟩:=HNC.out w' hw';clear hw';first| (go_simp;rfl)| (go_simp;done)));refine tkH 20 hS0 ?_ (hy:=fun w' hw'=>by(obtain⟨⟨h1,h2,h3,h4,h5⟩,h6,h7,h8,h9⟩:=HNC.out w' hw';clear hw';first| (go_simp;rfl)| (go_simp;done)));refine dH 12 fun K hK=>?_
 go_simp;go_at_call 52;refine(HSZ.out _).mono ?_;rintro e V7 ⟨rfl,hb9⟩;have hbV7:=Tq hd0 hb9;have hsV7:=Cb (F:=fun k=>F k∨k=q) hbV7;clear hb9;refine Kq hK (hsV7) ?_;refine tkH 13 hsV7 ?_ (v:=.int .i64 wh);refine tkH 19 hsV7 ?_ (v:=.int .i64 ((wh:Int)+(us:Int))) (hy:=fun w' hw'=>by(have hwr2:=Iw ((wh:Int)+(us:Int));clear hw';first| (go_simp;rfl)| (go_simp;done)));refine dH 21 fun K hK=>?_
 go_simp;go_at_call 55;refine(HPUT.out V7 (HDV6.out.below hbV7) (HKV.out V7 (Tq HBV6.out hbV7)) (HVV6.out.below hbV7)).mono ?_;rintro e V8 ⟨rfl,hd8,hc8⟩;unfold Ki;obtain⟨nv,hnv⟩:∃nv:Int,(if y.2=0 then(nd:Int)else 0)=nv:=⟨_,rfl⟩;rw[hnv];have hsV8:=hsV7.trans (hc8.mono (G:=fun k=>F k∨k=q) (fun k e=>.inl e)) (fun k e=>.inl e);refine Kq hK (hsV8) ?_;refine tkH 22 hsV8 ?_;refine tkH 23 hsV8 ?_;refine tkH 24 hsV8 ?_;refine tkH 25 hsV8 ?_;refine dH 26 fun K hK=>?_
 have hxq:=(hc8.block q (by have h1:=(Ax HXV6.out).1;have h2:=hbV7.size;omega) (fun h1=>by have:=HST.out.fl q h1;have:=HQ.out;omega)).trans (Bq hbV7 HXV6.out);refine FB rfl 44 (.tmp 5) (.tmp 66) rfl q 0 (.int .i64 y.2) rfl rfl hxq (by show 0<1;decide) rfl (by kernel_rfl) ?_;intro V9 x9 c9 s9;have hsV9:Chg (fun k=>F k∨k=q) V6 V9:=hsV8.trans c9 (fun k e=>.inl (.inr e));refine Kq hK (hsV9) ?_;refine eH ?_;have HSV:=Hd (show w.heap.size≤V6.heap.size∧V6.heap.size≤V7.heap.size∧V7.heap.size≤V8.heap.size∧V8.heap.size≤V9.heap.size∧q<V6.heap.size∧w.heap.size=q∧g<q from⟨HBV6.out.size,hbV7.size,hc8.size,c9.size,(Ax HXV6.out).1,HQ.out,HGL.out⟩);have HDX:=Hd (hd8.bound.chg c9 (fun j h1 h2=>by
  subst h2;rcases h1.1 with h3|h3
  ·have:=HST.out.fl j h3;have:=HSV.out;omega
  ·have:=HSV.out;omega))
 have hx9:V9.heap[q]?=some (.cells #[.int .i64 y.2] 44 (0,0)):=x9;have HXV9:=Hd hx9;have hcq:=hsV9;obtain⟨HGV9,HEV9,HVV9,HCV9⟩:=Hd4 (HGV6.out.chg hcq (fun h=>h.elim HFG.out (fun e=>by have:=HSV.out;omega))) (HEV6.out.chg hcq (fun k _ h1 h2=>h2.elim (HST.out.fG k h1) (fun e=>by have:=HST.out.gl k h1;have:=HSV.out;omega))) (HVV6.out.chg hcq (fun k _ h1 h2=>h2.elim (HDF.out k h1).1 (fun e=>by have:=HSV.out;have:=h1.2;omega))) (show Chg (fun k=>F k∨G k∨k=g) w V9 from(Cb (F:=fun k=>F k∨G k∨k=g) HBV6.out).trans hcq (fun k h2=>h2.elim (fun h3=>.inl (.inl h3)) (fun e=>.inr (by have:=HSV.out;omega))));have kq9:=Cq hx9 0;have HNV:=Hd hnv;obtain⟨S1,e1⟩:=y;simp only at HDX HXV9 HZS H28 HNV kq9⊢;clear hx9 hcq hd8 hc8 x9 c9 s9 hsV8 hsV7 hbV7 hd0 hnv hsV9 hS0;by_cases he:e1=0
 case neg=>
  have hdt:(e1 !=0)=true:=by simpa using he
  obtain rfl :e1=28:=H28.out he;have HZE:=Hd (show z=(S1,{J with failed:=28},28,0) by rw[HZS.out,In he]);clear he;go_wp2_with fail;have HQC:=Hd (show∀w',Below V9.heap.size V9 w'→w'.cell? ⟨q,0,none⟩=some (.int .i64 28)from fun w' hw'=>by rw[cr (Bq hw' HXV9.out)];rfl);refine bG [2] ?_;intro wd hd0;have hS0:=hd0;refine tkZ 0 hS0 ?_ (hy:=fun w' hw'=>by(have h1:=HQC.out w' hw';clear hw';first| (go_simp;rfl)| (go_simp;done)));refine tkP 1 hS0 ?_;refine dGf 2 fun K hK=>?_
  refine FB rfl 44 (.tmp 5) (.tmp 69) rfl q 0 (.int .i64 28) rfl rfl (Bq hd0 HXV9.out) (by show 0<1;decide) rfl (by kernel_rfl) ?_;intro V10 x10 c10 s10;have hcc10:=(Cb (F:=fun k=>k=q) hd0).trans c10 (fun k e=>.inl e);refine Kr hK ?_;refine eG ?_;obtain⟨HXA,HGA,HEA⟩:=Hd3 (show V10.heap[q]?=some (.cells #[.int .i64 28] 44 (0,0))from x10) (HGV9.out.chg hcc10 (fun e=>by have:=HSV.out;omega)) (HEV9.out.chg hcc10 (fun k _ h1 e=>by have:=HST.out.gl k h1;have:=HSV.out;omega));have HDA:=Hd (HDX.out.chg hcc10 (fun k h1 e=>by
   subst e;rcases h1.1 with h3|h3
   ·have:=HST.out.fl k h3;have:=HSV.out;omega
   ·have:=HSV.out;omega))
  have HCA2:=Hd (HCV9.out.trans hcc10 (fun k e=>.inr (by have:=HSV.out;omega)));have HSA:=Hd (show V9.heap.size≤V10.heap.size from hcc10.size);clear x10 c10 s10 hcc10 hd0 hS0 HQC;go_wp2_with fail;refine leaves_cons (f:=54) (args:=#[.pointer (some ⟨g,0,none⟩),.pointer (some ⟨q,0,none⟩)]) (by simp) (by simp[go_sem]) ?_;refine(EJ .returning HGA.out HXA.out).mono ?_;rintro e u' W7 ⟨rfl,rfl,hg7,hc7⟩;have k7:=Cq ((hc7.block q (Ax HXA.out).1 (by have:=HSV.out;omega)).trans HXA.out) 0;exact⟨.tuple #[.int .i64 0,.int .i64 28],by simp[results,Tryz.results19,go_sem,k7],by
   rw[HZE.out];refine⟨rfl,⟨⟨_,G,⟨HDA.out.chg hc7 (fun j h1 h2=>?_),⟨_,hg7,?_⟩,?_,HST.out.gG,?_,?_,?_⟩,?_,fun j h1=>.inl h1⟩,HCA2.out.trans hc7 (fun j e=>.inl (.inr (.inr e)))⟩⟩
   ·subst h2;rcases h1.1 with h3|h3
    ·exact HFG.out h3
    ·have:=HSV.out;omega
   ·exact HEA.out.chg hc7 (fun j _ h1 h2=>HST.out.gG (h2▸h1))
   ·rintro⟨h1|h1,_⟩
    ·exact HFG.out h1
    ·have:=HSV.out;omega
   ·rintro j h1 ⟨h2|h2,_⟩
    ·exact HST.out.fG j h1 h2
    ·have:=HST.out.gl j h1;have:=HSV.out;omega
   ·intro j h1;have:=hc7.size;have:=HSV.out;have:=HSA.out;have:=h1.2;omega
   ·intro j h1;have:=HST.out.gl j h1;have:=hc7.size;have:=HSV.out;have:=HSA.out;omega
   ·rintro j ⟨h1|h1,_⟩
    ·exact .inl h1
    ·exact .inr (by have:=HSV.out;omega)⟩
 subst he;have hne0:nv=(nd:Int):=by rw[←HNV.out,Ip rfl]
 subst hne0;have HZE:=Hd (show z=(S1,{J with ents:=J.ents++[l],used:=J.used+nd},0,J.next) by rw[HZS.out,Ip rfl]);clear HZS H28 HNV;go_wp2_with fail;refine(Fb HGV9.out (by omega)).mono ?_;rintro e V10 ⟨rfl,hb⟩;obtain⟨HXA,HGA,HEA,HVA,HDA,HCA2,HSA⟩:=Hd7 (Bq hb HXV9.out) (HGV9.out.below hb) (HEV9.out.below hb) (HVV9.out.below hb) (HDX.out.below hb) (HCV9.out.trans (Cb (F:=fun k=>F k∨G k∨k=g) hb) (fun k e=>.inl e)) (show V9.heap.size≤V10.heap.size from hb.size);clear hb kq9;have HOW:=Hd (show∀k,(Value.slice va n vc).ownBlock=some k→G k∧k<V10.heap.size from fun k e=>DE HEA.out k e);have HQC:=Hd (show∀w',Chg (fun k=>(Value.slice va n vc).ownBlock=some k) V10 w'→w'.cell? ⟨g,6,none⟩=some (.slice va n vc)from fun w' hw'=>(HGA.out.chg hw' (fun e=>HST.out.gG (HOW.out g e).1)).cell rfl);have HLL:=Hd (show l.length≤1000000000 by rw[HM.out];exact hl);go_wp2_with fail;refine Np ?_;refine BB [13] (Chg (fun k=>(Value.slice va n vc).ownBlock=some k) V10) (by kernel_rfl) ?_;have hS0:(Chg (fun k=>(Value.slice va n vc).ownBlock=some k) V10) V10.drew:=Cb (Rq.drew);obtain⟨wd,hwd⟩:=Xq (V10.drew);rw[hwd]at hS0⊢;have hd0:=Dd hwd;clear hwd;refine tkP 0 hS0 ?_;refine tkP 1 hS0 ?_;refine tkP 2 hS0 ?_;refine tkP 3 hS0 ?_;refine tkP 4 hS0 ?_;refine tkZ 5 hS0 ?_ (hy:=fun w' hw'=>by(have h1:=HQC.out w' hw';clear hw';first| (go_simp;rfl)| (go_simp;done)));refine tkP 6 hS0 ?_;refine dG 7 fun K hK=>?_
 go_simp;go_at_call 51;refine(JN (HVA.out.below hd0) HLL.out).mono ?_;rintro e V11 ⟨u9,rfl,ho,hb11⟩;rw[HM.out]at ho;obtain⟨ua9,uc9,rfl⟩:=Ag ho;have hb011:=Tq hd0 hb11;have hs11:=Cb (F:=fun k=>(Value.slice va n vc).ownBlock=some k) hb011;refine Kq hK hs11 ?_;refine dG 8 fun K hK=>?_
 go_simp;have hba8:Below V11.heap.size V11 (V11.alloc (.cells #[.slice ua9 m uc9] 30)):=Rq.alloc Lr _;have hs12:=hs11.trans (Cb (F:=fun k=>(Value.slice va n vc).ownBlock=some k) hba8) (fun k e=>.inl e);refine Kq hK hs12 ?_;refine dG 9 fun K hK=>?_
 refine GR (.tmp 77) (.tmp 80) rfl rfl ((HEA.out.below hb011).weak (G:=fun k=>G k∨V10.heap.size≤k) (fun k _ h1=>.inl h1)) (l:=l) ((Bk (l:=l) ho).weak (fun k h1 h2=>⟨.inr (Nt hd0.size h2),fun e=>by have h3:=(HOW.out k e).2;have h4:=hd0.size;omega⟩)) rfl HN.out (by omega) ?_;intro a5 c5 V13 he13 hc13 ho13;have hs13:=hs11.trans hc13 (fun k e=>.inl e);refine Kq hK hs13 ?_;refine tkP 10 hs13 ?_;refine tkP 11 hs13 ?_;refine tkP 12 hs13 ?_;refine dGf 13 fun K hK=>?_
 refine FB rfl 36 (.tmp 84) (.tmp 81) rfl g 6 (.slice a5 (n+1) c5) rfl rfl (HGA.out.chg hs13 (fun e=>HST.out.gG (HOW.out g e).1)) (by show 6<10;decide) rfl (by kernel_rfl) ?_;intro V14 x14 c14 s14;refine Kr hK ?_;refine eG ?_;have HGB:=Hd (show JBlk V14 g b R {J with ents:=J.ents++[l]} (.slice a5 (n+1) c5)from x14);have hc14:Chg (fun k=>(Value.slice va n vc).ownBlock=some k∨k=g) V10 V14:=(hs13.mono (fun k e=>.inl e)).trans c14 (fun k e=>.inl (.inr e));have hsz:=hb011.size;have HEB:=Hd (he13.chg c14 (G:=fun k=>k=g) (fun k _ h1 e=>by
  subst e;rcases h1 with(h1|h1)|h1
  ·exact HST.out.gG h1
  ·have:=HSV.out;have:=HSA.out;omega
  ·have:=HSV.out;have:=HSA.out;omega))
 have hlt13:=c14.size;obtain⟨HLT,HEB,HXB⟩:=Hd3 (show V13.heap.size≤V14.heap.size∧V10.heap.size≤V11.heap.size∧V10.heap.size≤V14.heap.size from⟨c14.size,hsz,hc14.size⟩) (HEB.out.weak (G:=fun k=>(G k∨V10.heap.size≤k)∧k<V14.heap.size) (fun k h1 h2=>⟨h2.elim id (fun h3=>.inr (Nt hsz h3)),h1⟩)) ((hc14.block q (Ax HXA.out).1 (fun h=>h.elim (fun e=>by have h1:=(HOW.out q e).1;have:=HST.out.gl q h1;have:=HSV.out;omega) (fun e=>by have:=HSV.out;omega))).trans HXA.out);have HDB:=Hd (HDA.out.chg hc14 (fun k h1 h2=>by
  rcases h2 with h2|h2
  ·have h3:=(HOW.out k h2).1;rcases h1.1 with h4|h4
   ·exact HST.out.fG k h3 h4
   ·have:=HST.out.gl k h3;have:=HSV.out;omega
  ·subst h2;rcases h1.1 with h4|h4
   ·exact HFG.out h4
   ·have:=HSV.out;omega))
 have HCB:=Hd (HCA2.out.trans hc14 (fun k h1=>.inl (h1.elim (fun e=>.inr (.inl (HOW.out k e).1)) (fun e=>.inr (.inr e)))));clear x14 c14 s14 hc14 hsz hlt13 he13 hc13 ho13 hs13 hs12 hba8 hs11 hb011 hb11 ho hd0 hS0 HQC HEA HGA HXA HDA HCA2;have ku:V14.cell? ⟨g,7,none⟩=some (.int .i64 us):=by rw[←HCA.out.2];exact HGB.out.cell rfl
 go_wp2_with (refine Az rfl rfl 3 (.tmp 94) (.tmp 91) rfl g 7 (.int .i64 ((us:Int)+(nd:Int))) rfl rfl HGB.out (by show 7<10;decide) rfl (by kernel_rfl) ?_;refine Stop.on ?_)
 refine Stop.go ?_
 try simp only[P0,P1,P2,P3,P4]
 intro V15 x15 c15 s15
 try simp only[P0,P1,P2,P3,P4]
 have HGC:=Hd (show JBlk V15 g b R {J with ents:=J.ents++[l],used:=J.used+nd} (.slice a5 (n+1) c5) by unfold JBlk GI;simp only;rw[HCA.out.2,Int.natCast_add];exact x15)
 have HXC:=Hd ((c15.block q (Ax HXB.out).1 (by have:=HSV.out;omega)).trans HXB.out);have HEC:=Hd (HEB.out.chg c15 (fun k _ h1 e=>by
  subst e;rcases h1.1 with h1|h1
  ·exact HST.out.gG h1
  ·have:=HSV.out;have:=HSA.out;omega))
 have HDC:=Hd (HDB.out.chg c15 (fun k h1 e=>by
  subst e;rcases h1.1 with h4|h4
  ·exact HFG.out h4
  ·have:=HSV.out;omega))
 have HCC:=Hd (HCB.out.trans c15 (fun k e=>.inl (.inr (.inr e))));have HSC:=Hd (show V14.heap.size≤V15.heap.size from c15.size);clear x15 c15 s15 HGB HXB HEB HDB HCB ku;go_wp2_with (refine Az rfl rfl 44 (.tmp 5) (.const (.int .i64 0)) rfl q 0 (.int .i64 0) rfl rfl HXC.out (by show 0<1;decide) rfl (by kernel_rfl) ?_;refine Stop.on ?_)
 refine Stop.go ?_
 try simp only[P0,P1,P2,P3,P4]
 intro V16 x16 c16 s16
 try simp only[P0,P1,P2,P3,P4]
 have HXD:=Hd (show V16.heap[q]?=some (.cells #[.int .i64 0] 44 (0,0))from x16);have HGD:=Hd (HGC.out.chg c16 (by have:=HSV.out;omega));have HED:=Hd (HEC.out.chg c16 (fun k _ h1 e=>by
  subst e;rcases h1.1 with h1|h1
  ·have:=HST.out.gl _ h1;have:=HSV.out;omega
  ·have:=HSV.out;have:=HSA.out;omega))
 have HDD:=Hd (HDC.out.chg c16 (fun k h1 e=>by
  subst e;rcases h1.1 with h4|h4
  ·have:=HST.out.fl _ h4;have:=HSV.out;omega
  ·have:=HSV.out;omega))
 have HCD:=Hd (HCC.out.trans c16 (fun k e=>.inr (by have:=HSV.out;omega)));have HSD:=Hd (show V15.heap.size≤V16.heap.size from c16.size);clear x16 c16 s16 HGC HXC HEC HDC HCC;go_wp2_with fail;refine leaves_cons (f:=54) (args:=#[.pointer (some ⟨g,0,none⟩),.pointer (some ⟨q,0,none⟩)]) (by simp) (by simp[go_sem]) ?_;refine(EJ .returning HGD.out HXD.out).mono ?_;rintro e u' W7 ⟨rfl,rfl,hg7,hc7⟩;have k7:=Cq ((hc7.block q (Ax HXD.out).1 (by have:=HSV.out;omega)).trans HXD.out) 0;exact⟨.tuple #[.int .i64 ((J.first+n:Nat):Int),.int .i64 0],by simp[results,Tryz.results19,go_sem,k7],by
  rw[HZE.out];refine⟨by show _=Ending.returned (.tuple #[.int .i64 ((J.next:Nat):Int),.int .i64 0]);unfold JD.next;rw[HN.out],⟨⟨_,(fun k=>(G k∨V10.heap.size≤k)∧k<V14.heap.size),⟨HDD.out.chg hc7 (fun j h1 h2=>?_),⟨_,hg7,?_⟩,?_,?_,?_,?_,?_⟩,?_,?_⟩,HCD.out.trans hc7 (fun j e=>.inl (.inr (.inr e)))⟩⟩
  ·subst h2;rcases h1.1 with h3|h3
   ·exact HFG.out h3
   ·have:=HSV.out;omega
  ·exact HED.out.chg hc7 (fun j _ h1 h2=>by
    subst h2;rcases h1.1 with h1|h1
    ·exact HST.out.gG h1
    ·have:=HSV.out;have:=HSA.out;omega)
  ·rintro⟨h1|h1,_⟩
   ·exact HFG.out h1
   ·have:=HSV.out;omega
  ·rintro⟨h1|h1,_⟩
   ·exact HST.out.gG h1
   ·have:=HSV.out;have:=HSA.out;omega
  ·rintro j ⟨h1|h1,_⟩ ⟨h2|h2,h3⟩
   ·exact HST.out.fG j h1 h2
   ·have:=HST.out.gl j h1;have:=HSV.out;omega
   ·have:=HST.out.fl j h2;have:=HSV.out;have:=HSA.out;omega
   ·have:=HSV.out;have:=HSA.out;omega
  ·intro j h1;have:=hc7.size;have:=HSV.out;have:=HSA.out;have:=HLT.out;have:=HSC.out;have:=HSD.out;have:=h1.2;omega
  ·intro j h1;have:=hc7.size;have:=HSC.out;have:=HSD.out;have:=h1.2;omega
  ·rintro j ⟨h1|h1,_⟩
   ·exact .inl h1
   ·exact .inr (by have:=HSV.out;omega)
  ·rintro j ⟨h1|h1,_⟩
   ·exact .inl h1
   ·exact .inr (by have:=HSV.out;have:=HSA.out;omega)⟩
variable {s f:Nat}{E:List (List UInt8)}
theorem Hp (h:S.limit=none):S.operate.2=true∧S.operate.1.limit=none:=by unfold DS.operate;rw[h];exact⟨rfl,rfl⟩
theorem M8 {b:List UInt8} (hl:S.limit=none) (hd:S.down=false) (hs:s<S.dur.length) (hb:b.length=256):(S.write s b).2=0∧(S.write s b).1.limit=none∧(S.write s b).1.down=false∧(S.write s b).1.dur.length=S.dur.length:=by obtain⟨h1,h2⟩:=Hp hl;have h3:=Eu h1;unfold DS.write;rw[In (by rw[hd];simp),Ip (show S.has (s:Int)=true by simp[DS.has];omega),Ip hb,Ip h1];exact⟨rfl,h2,by rw[show({S.operate.1 with pend:=S.operate.1.pend++[((s:Int).toNat,b)]}:DS).down=S.operate.1.down from rfl,h3];exact hd,by show S.operate.1.dur.length=_;rw[(AN S).2]⟩
theorem F9:∀{L:List (List UInt8)} {S:DS} {a:Nat},S.limit=none→S.down=false→(∀b∈L,b.length=256)→a+L.length≤S.dur.length→(wrL S a L).2=0∧(wrL S a L).1.limit=none∧(wrL S a L).1.down=false∧(wrL S a L).1.dur.length=S.dur.length
 | [],_,_,h1,h2,_,_=>⟨rfl,h1,h2,rfl⟩
 |b::L,S,a,h1,h2,h3,h4=>by
  rw[List.length_cons]at h4;obtain⟨k1,k2,k3,k4⟩:=M8 (s:=a) h1 h2 (by omega) (h3 b (List.mem_cons_self ..));have e:wrL S a (b::L)=wrL (S.write a b).1 (a+1) L:=Ip k1;rw[e,←k4];exact F9 k2 k3 (fun x hx=>h3 x (List.mem_cons_of_mem _ hx)) (by rw[k4];omega)
theorem JP:∀{rs:List RecD} {S:DS} {a u:Nat},S.limit=none→S.down=false→(∀r∈rs,As r=0)→a+u+(Ar rs).length≤S.dur.length→(putR S a u rs).2.2=0∧(putR S a u rs).1.limit=none∧(putR S a u rs).1.down=false∧(putR S a u rs).1.dur.length=S.dur.length
 | [],_,_,_,h1,h2,_,_=>⟨rfl,h1,h2,rfl⟩
 |r::rs,S,a,u,h1,h2,h3,h4=>by
  have hr:=h3 r (List.mem_cons_self ..);have hl:=AL hr;rw[BP,List.length_append]at h4;obtain⟨k1,k2,k3,k4⟩:=F9 (L:=Ac r) (a:=a+u) h1 h2 (CV r) (by omega);have e:putR S a u (r::rs)=putR (wrL S (a+u) (Ac r)).1 a (u+Af r.load.length) rs:=Ip k1;rw[e,←k4];exact JP k2 k3 (fun q hq=>h3 q (List.mem_cons_of_mem _ hq)) (by rw[k4];omega)
theorem EY (hl:S.limit=none) (hd:S.down=false):S.flush.2=0∧S.flush.1.limit=none∧S.flush.1.down=false∧S.flush.1.dur.length=S.dur.length:=by obtain⟨h1,h2⟩:=Hp hl;have h3:=Eu h1;unfold DS.flush;rw[In (by rw[hd];simp),Ip h1];exact⟨rfl,h2,by show S.operate.1.down=false;rw[h3];exact hd,AV _ _ _⟩
theorem KS {a:Nat} (hl:S.limit=none) (hd:S.down=false) (hlim:JLim g f E.length E) (ha:a+(Ar (AG g f E)).length≤S.dur.length):(wrA S a g f E).2.2=0∧(wrA S a g f E).1.limit=none:=by obtain⟨k1,k2,k3,k4⟩:=JP (u:=0) (a:=a) hl hd hlim.recs.mem (by rw[←AO];omega);rw[←AO]at k1 k2 k3 k4;obtain⟨f1,f2,_⟩:=EY k2 k3;unfold wrA;rw[Ip k1,Ip f1];exact⟨rfl,f2⟩
theorem PS {h g':Nat} (hh:h≤1) (n1:g'%2=h) (hR:R.at_+R.cnt≤S.dur.length) (hlim:JLim g' f E.length E) (hfit:(Ar (AG g' f E)).length≤R.half)
 (hgt:∀s,inR R s→∀x,Cv S s x→Al x=0→(Ak x).gen<(g':Int)) (h0:(wrA S (R.area h) g' f E).2.2=0):
 JW (wrA S (R.area h) g' f E).1 R g' f E.length E E.length∧(wrA S (R.area h) g' f E).2.1=(Ar (AG g' f E)).length∧(wrA S (R.area h) g' f E).1.down=false∧(wrA S (R.area h) g' f E).1.dur.length=S.dur.length∧
 ∀i,i<(Ar (AG g' f E)).length→(Ar (AG g' f E))[i]?=some ((wrA S (R.area h) g' f E).1.visible (R.area h+i)):=by
 obtain⟨S1,k,hw⟩:=KL S (R.area h) hlim;obtain⟨rfl,hu,hp,hdn,hdl,hv⟩:=hw.done h0;obtain⟨S',hS'⟩:=Xq ((wrA S (R.area h) g' f E).1);rw[hS']at hw hp hdn hdl hv⊢;obtain⟨L,hL⟩:=Xq (Ar (AG g' f E));have hLg:∀(i:Nat) x,L[i]?=some x→Al x=0∧(Ak x).gen=(g':Int):=fun i x hx=>hlim.gen i x (by rw[←AO,hL];exact hx)
 rw[hL]at hw hfit hu⊢;have hin:∀s,inR R s→s<S.dur.length:=fun s hs=>by have:=hs.2;omega
 have hvis:∀i,i<L.length→L[i]?=some (S'.visible (R.area h+i)):=fun i hi=>by have h1:=hw.wr.visible (R.area h+i);rw[List.take_length]at h1;rw[hv _ (hin _ (BU hh (by omega))),h1,dif_pos ⟨by omega,by omega⟩];simp[hi]
 refine⟨⟨hlim,by rw[←AO,hL];exact hfit,Nat.le_refl _,Nat.le_refl _,fun s hs x hx h1=>?_,fun i hi x hx=>?_,fun i hi x hx h1 h2=>?_⟩,hu,hdn,hdl,hvis⟩
 ·rcases hw.cand (hin s hs) hx with h3| ⟨_,h4⟩
  ·exact Int.le_of_lt (hgt s hs x h3 h1)
  ·rw[(hLg _ _ h4).2];exact Int.le_refl _
 ·rw[List.take_of_length_le Lr,←AO,hL]at hi;rw[←AO,hL,hvis i hi]
  congr 1
  rw[n1]at hx;exact(Em hp hx).symm
 ·rw[n1]at hx;rw[←AO,hL];rcases hw.cand (hin _ (BU hh hi)) hx with h3| ⟨_,h4⟩
  ·have:=hgt _ (BU (h:=h) hh hi) x h3 h1;omega
  ·rw[Nat.add_sub_cancel_left]at h4;exact h4
def NoDec (S:DS) (R:JR):Prop:=∀s,inR R s→∀x,Cv S s x→Al x≠0
theorem NoDec.next (h:NoDec S R) {w:Nat} (hw:w≤1):AA w (Ah S R.at_ R.cnt)=w:=by
 obtain⟨h1,_,h3⟩:=CI hw (Ah S R.at_ R.cnt);have:=h3 w (by omega) (fun b hb h0=>by obtain⟨s,hs,rfl⟩:=D5 hb;exact absurd h0 (h s hs _ (Bo S s)))
 omega
theorem Jd (hg:g≤2147483647):JLim g 0 0 []:=⟨hg,by decide,by decide,by decide,fun b hb=>by cases hb⟩
theorem M9 (h:NoDec S R) (hl:S.limit=none) (hd:S.down=false) (h8:8≤R.cnt) (hR:R.at_+R.cnt≤S.dur.length):
 (moveJ S R 0 0 []).2.1=0∧JW (moveJ S R 0 0 []).1 R 0 0 0 [] 0∧(moveJ S R 0 0 []).1.limit=none∧(moveJ S R 0 0 []).1.down=false∧(moveJ S R 0 0 []).1.dur.length=S.dur.length:=by
 have hn:=h.next (w:=0) (by omega);have hlim:JLim 0 0 ([]:List (List UInt8)).length []:=Jd (by omega);have hsz:(Ar (AG 0 0 [])).length=1:=by rw[AO,Cw hlim];rfl
 have hhf:4≤R.half:=by unfold JR.half;omega
 have hroom:=CJ (R:=R) (h:=0) (n:=1) (by omega) (by omega);obtain⟨e0,e1⟩:=KS (a:=R.area 0) hl hd hlim (by rw[hsz];omega);obtain⟨d1,_,d3,d4,_⟩:=PS (h:=0) (by omega) rfl hR hlim (by rw[hsz];omega) (fun s hs x hx h0=>absurd h0 (h s hs x hx)) e0;unfold moveJ;rw[hn];simp only;rw[In (by omega),Ip e0];exact⟨rfl,d1,e1,d3,d4⟩
theorem JW.next {c d:Nat} (h:JW S R g f c E d):AA (1-g%2) (Ah S R.at_ R.cnt)=g+1:=by
 obtain⟨h1,h2,h3⟩:=CI (w:=1-g%2) (by omega) (Ah S R.at_ R.cnt);have h4:=h3 (g+1) (by omega) (fun b hb h0=>by obtain⟨s,hs,rfl⟩:=D5 hb;have:=h.gens s hs _ (Bo S s) h0;omega)
 obtain⟨b,hb,hb0,hbg⟩:=En h.lim;have h5:=h.dur 0 (GY (h.lim.take d)) _ (Bo S _);rw[hb]at h5;obtain rfl :=Option.some.inj h5;have hfit:=h.fit;have hpos:=GY h.lim;have hr:=BU (R:=R) (h:=g%2) (i:=0) (by omega) (by omega);have:=h2 _ (Jb hr) hb0;omega
theorem IU {M:Nat}{P:ArD→Prop} (h:Mov S R g P M f E) (hl:S.limit=none) (hd:S.down=false):(moveJ S R (1-g%2) f E).2.1=0∧(moveJ S R (1-g%2) f E).1.limit=none:=by have hlm:=h.lim;have hsz:=Cw hlm;rw[←AO]at hsz;have ha:=CJ (R:=R) (h:=1-g%2) (by omega) h.fit;have hr:=h.rng;obtain⟨e0,e1⟩:=KS (a:=R.area (1-g%2)) hl hd hlm (by rw[hsz];omega);have hgm:=hlm.g;unfold moveJ;simp only;rw[In (by omega),Ip e0];exact⟨rfl,e1⟩
theorem OI {c:Nat}{b:List UInt8} (h:JI S R J c) (hb:b.length≤100000) (hn:J.next+1≤2147483647) (hl:S.limit=none):
 (appJ S R J b=(S,J,9,0)∧R.half-Aq J.ents<Af b.length)∨
 ((∃S',appJ S R J b=(S',{J with ents:=J.ents++[b],used:=J.used+Af b.length},0,J.next)∧JI S' R {J with ents:=J.ents++[b],used:=J.used+Af b.length} c∧S'.dur.length=S.dur.length∧S'.limit=none)∧Af b.length≤R.half-Aq J.ents):=by
 have hfit:=h.fit;have hused:=h.used;have hr:=h.rng;have hlen:=BQ J.ents;rcases QT h hb hn with h1| ⟨⟨S',h1,h2,h3⟩,h4⟩| ⟨S',h1,h2,h3,h4⟩
 ·exact .inl h1
 all_goals
  unfold JD.next at hn;have hrok:As (AI J.gen (J.ents.length+1) b)=0:=FH h.w.lim.g (by omega) (by omega);have hsl:=AL hrok;have hsl':(Ac (AI J.gen (J.ents.length+1) b)).length=Af b.length:=hsl
 ·refine .inr ⟨⟨S',h1,h2,h3,?_⟩,h4⟩;have ha:=CJ (R:=R) (h:=J.gen%2) (n:=Aq J.ents+Af b.length) (by omega) (by omega);obtain⟨k1,k2,_⟩:=F9 (L:=Ac (AI J.gen (J.ents.length+1) b)) (a:=R.area (J.gen%2)+J.used) hl h.down (CV _) (by rw[hsl',hused];omega);have e:(appJ S R J b).1=(wrL S (R.area (J.gen%2)+J.used) (Ac (AI J.gen (J.ents.length+1) b))).1:=by unfold appJ;rw[In (by rw[h.failed];simp),In (by omega),hused,In (by omega),←hused,Ip k1]
  rw[h1]at e;simp only at e;rw[e];exact k2
 ·exfalso;by_cases h9:R.half-Aq J.ents<Af b.length
  ·have e:appJ S R J b=(S,J,9,0):=by unfold appJ;rw[In (by rw[h.failed];simp),In (by omega),hused,Ip h9]
   rw[e]at h1;have:=congrArg (fun q=>q.2.2.1) h1;simp at this
  ·have ha:=CJ (R:=R) (h:=J.gen%2) (n:=Aq J.ents+Af b.length) (by omega) (by omega);obtain⟨k1,_⟩:=F9 (L:=Ac (AI J.gen (J.ents.length+1) b)) (a:=R.area (J.gen%2)+J.used) hl h.down (CV _) (by rw[hsl',hused];omega);have e:(appJ S R J b).2.2.1=0:=by unfold appJ;rw[In (by rw[h.failed];simp),In (by omega),hused,In h9,←hused,Ip k1]
   rw[h1]at e;simp at e
theorem OJ {c:Nat} (h:JI S R J c) (hl:S.limit=none):
 ∃S',synJ S J=(S',{J with synced:=J.next},0)∧JI S' R {J with synced:=J.next} c∧S'.dur.length=S.dur.length∧S'.limit=none:=by
 obtain⟨k1,k2,_⟩:=EY hl h.down;rcases QU h with⟨S',h1,h2,h3⟩| ⟨S',h1,_⟩
 ·refine⟨S',h1,h2,h3,?_⟩;have e:(synJ S J).1=S.flush.1:=by unfold synJ;rw[In (by rw[h.failed];simp),Ip k1]
  rw[h1]at e;simp only at e;rw[e];exact k2
 ·exfalso;have e:(synJ S J).2.2=0:=by unfold synJ;rw[In (by rw[h.failed];simp),Ip k1]
  rw[h1]at e;simp at e
theorem OK {c:Nat}{t:Int} (h:JI S R J c) (hl:S.limit=none) (hn:J.next≤2147483647) (hg:J.gen+2≤2147483647):
 (trnJ S R J t=(S,J,2)∧(t<J.first∨(J.next:Int)<t))∨(trnJ S R J t=(S,J,0)∧t=J.first)∨
 (∃S' k,t=((J.first+k:Nat):Int)∧0<k∧k≤J.ents.length∧trnJ S R J t=(S',⟨J.gen+1,Aq (J.ents.drop k),J.first+k,J.ents.drop k,J.next,0⟩,0)∧JI S' R ⟨J.gen+1,Aq (J.ents.drop k),J.first+k,J.ents.drop k,J.next,0⟩ (J.ents.drop k).length∧S'.dur.length=S.dur.length∧S'.limit=none):=by
 unfold trnJ;rw[In (by rw[h.failed];simp)];by_cases h1:t<J.first∨(J.next:Int)<t
 ·rw[Ip h1];exact .inl ⟨rfl,h1⟩
 ·rw[In h1];refine .inr ?_;by_cases h2:t=J.first
  ·rw[Ip h2];exact .inl ⟨rfl,h2⟩
  ·rw[In h2];refine .inr ?_;unfold JD.next at h1 hn;obtain⟨k,rfl⟩:∃k:Nat,t=((J.first+k:Nat):Int):=⟨t.toNat-J.first,by omega⟩;have hk0:0<k:=by omega
   have hkn:k≤J.ents.length:=by omega
   rw[Int.toNat_natCast,Nat.add_sub_cancel_left];have hm:=h.mov hkn (by unfold JD.next;exact hn) hg;obtain⟨e0,e1⟩:=IU hm hl h.down;obtain⟨m1,m2,m3,m4,m5,m6,m7⟩:=Mm hm e0;rw[Ip e0];have hnx:=h.w.next;rw[hnx]at m2;obtain⟨S',hS'⟩:=Xq ((moveJ S R (1-J.gen%2) (J.first+k) (J.ents.drop k)).1);obtain⟨J',hJ'⟩:=Xq ((moveJ S R (1-J.gen%2) (J.first+k) (J.ents.drop k)).2.2);rw[hS']at m1 m6 e1⊢;rw[hJ']at m1 m2 m3 m4 m5⊢;have hf:=m1.failed;have hu:=m1.used;obtain⟨jg,ju,jf,je,js,jx⟩:=J';simp only at m2 m3 m4 m5 hf hu;subst m2 m3 m4 hf;rw[List.length_drop]at m5;have e5:js=J.next:=by unfold JD.next;omega
   subst e5 hu;exact⟨S',k,rfl,hk0,hkn,rfl,m1,m6,e1⟩
variable {W:World}
structure JAll (w W:World) (U:Nat→Prop) (b g:Nat) (S:DS) (R:JR) (J:JD):Prop where
 below:Below w.heap.size w W
 st:∃F G,JSt W F G b g S R J∧(∀k,F k→U k)∧(∀k,G k→U k)
 ug:U g
 lo:∀k,U k→w.heap.size≤k
structure Num (S:DS) (R:JR) (J:JD):Prop where
 rng:R.at_+R.cnt≤S.dur.length
 us:J.used≤R.half
 gn:J.gen≤2147483640
 nx:J.first+J.ents.length+1≤2147483640
 sz:Aq J.ents≤5000
 sh:GH J.ents
 room:Roomy S 10000
 down:S.down=false
 ng:AA (1-J.gen%2) (Ah S R.at_ R.cnt)≤2147483647
section
variable {w W W':World} {U:Nat→Prop} {b g:Nat} {S:DS} {R:JR} {J:JD}
theorem JAll.most (h:JAll w W U b g S R J):S.dur.length≤4096:=by obtain⟨F,G,h1,_⟩:=h.st;exact h1.dev.ok.most
theorem JAll.kat (h:JAll w W U b g S R J) (hK:KAt w):KAt W:=KAt.below hK h.below hK.size
theorem JAll.k0 (h:JAll w W U b g S R J) (hK:KAt w):¬U 0:=fun h1=>by have:=h.lo _ h1;have:=hK.size;omega
theorem JAll.chg {H:Nat→Prop} (h:JAll w W U b g S R J) (hc:Chg H W W') (hd:∀k,k<W.heap.size→H k→¬U k) (hlo:∀k,H k→w.heap.size≤k):JAll w W' U b g S R J:=by obtain⟨F,G,h1,h2,h3⟩:=h.st;exact⟨h.below.trans (hc.below hlo h.below.size),⟨F,G,h1.chg hc (fun k hk hh=>⟨fun h4=>hd k hk hh (h2 k h4),fun h4=>hd k hk hh (h3 k h4),fun h4=>hd k hk hh (h4▸h.ug)⟩),h2,h3⟩,h.ug,h.lo⟩
theorem JAll.step (h:JAll w W U b g S R J) (hb:Below W.heap.size W W'):JAll w W' U b g S R J:=h.chg (H:=fun _=>False) (Cb hb) (fun _ _ h=>h.elim) (fun _ h=>h.elim)
theorem JAll.wide (h:JAll w W U b g S R J) {V:Nat→Prop} (hV:∀k,U k→V k) (hlo:∀k,V k→w.heap.size≤k):JAll w W V b g S R J:=by obtain⟨F,G,h1,h2,h3⟩:=h.st;exact⟨h.below,⟨F,G,h1,fun k hk=>hV k (h2 k hk),fun k hk=>hV k (h3 k hk)⟩,hV g h.ug,hlo⟩
theorem JAll.blk (h:JAll w W U b g S R J):∃(va:Option Addr) (vc:Nat),JBlk W g b R J (.slice va J.ents.length vc):=by obtain⟨F,G,h1,_⟩:=h.st;obtain⟨ev,h2,h3⟩:=h1.mem;obtain⟨va,vc,rfl⟩:=h3.form;exact⟨va,vc,h2⟩
theorem JAll.post (h:JAll w W U b g S R J) {F G:Nat→Prop} (hF:∀k,F k→U k) (hG:∀k,G k→U k) {S':DS} {J':JD} (hp:JPost W F G b g R S' J' W'):JAll w W' (fun k=>U k∨W.heap.size≤k) b g S' R J'∧Chg U W W':=by
 obtain⟨⟨F',G',h1,h2,h3⟩,hc⟩:=hp;have hcU:Chg U W W':=hc.mono (fun k hk=>by
  rcases hk with hk|hk|hk
  ·exact hF k hk
  ·exact hG k hk
  ·exact hk▸h.ug)
 refine⟨⟨h.below.trans (hcU.below h.lo h.below.size),⟨F',G',h1,fun k hk=>(h2 k hk).elim (fun e=>.inl (hF k e)) .inr,fun k hk=>(h3 k hk).elim (fun e=>.inl (hG k e)) .inr⟩,.inl h.ug,fun k hk=>hk.elim (h.lo k) (fun e=>Nt h.below.size e)⟩,hcU⟩
theorem RQ (h:JAll w W U b g S R J) (hK:KAt w) (hn:Num S R J) {bv:Value} {l:List UInt8} {D:Nat→Prop} (hv:BytesN W D bv l) (hD:∀k,k<W.heap.size→D k→¬U k) (hl:l.length≤100000000):
 Ca 19 #[.pointer (some ⟨g,0,none⟩),bv] W fun e W'=>e=.returned (.tuple #[.int .i64 ((appJ S R J l).2.2.2:Int),.int .i64 (appJ S R J l).2.2.1])∧JAll w W' (fun k=>U k∨W.heap.size≤k) b g (appJ S R J l).1 R (appJ S R J l).2.1∧Chg U W W':=by
 obtain⟨F,G,h1,h2,h3⟩:=h.st;have hm:=h.most;have hr:=hn.rng;have hgn:=hn.gn;have hnx:=hn.nx;have hsz:=hn.sz;refine(IT h1 (h.kat hK) (fun e=>h.k0 hK (h2 _ e)) hv (fun k hk hd=>⟨fun e=>hD k hk hd (h2 k e),fun e=>hD k hk hd (e▸h.ug)⟩) (by omega) hr (by omega) (by omega) hn.us (by omega) (by omega) (by omega) (hn.room.less (by omega))).mono ?_;rintro e W' ⟨rfl,hp⟩;exact⟨rfl,h.post h2 h3 hp⟩
theorem RR (h:JAll w W U b g S R J) (hK:KAt w) (hn:Num S R J) (t:Int):
 Ca 20 #[.pointer (some ⟨g,0,none⟩),.int .i64 t] W fun e W'=>e=.returned (.int .i64 (trnJ S R J t).2.2)∧JAll w W' (fun k=>U k∨W.heap.size≤k) b g (trnJ S R J t).1 R (trnJ S R J t).2.1∧Chg U W W':=by
 obtain⟨F,G,h1,h2,h3⟩:=h.st;have hnx:=hn.nx;have hsz:=hn.sz;refine(Ho h1 (h.kat hK) (fun e=>h.k0 hK (h2 _ e)) t (fun _=>hn.down) hn.rng (by omega) hn.sh (by omega) (hn.room.less (by omega))).mono ?_;rintro e W' ⟨rfl,hp⟩;exact⟨rfl,h.post h2 h3 hp⟩
theorem PT (h:JAll w W U b g S R J):Ca 21 #[.pointer (some ⟨g,0,none⟩)] W fun e W'=>e=.returned (.int .i64 (J.first:Int))∧Below W.heap.size W W':=by obtain⟨va,vc,hb⟩:=h.blk;exact Ew hb
theorem Km (h:JAll w W U b g S R J):Ca 17 #[.pointer (some ⟨g,0,none⟩)] W fun e W'=>e=.returned (.int .i64 (J.gen:Int))∧Below W.heap.size W W':=by obtain⟨va,vc,hb⟩:=h.blk;exact F8 hb
theorem Q4 (h:JAll w W U b g S R J) (hr:R.at_+R.cnt≤S.dur.length) (hu:J.used≤R.half):Ca 18 #[.pointer (some ⟨g,0,none⟩)] W fun e W'=>e=.returned (.int .i64 ((R.half-J.used:Nat):Int))∧Below W.heap.size W W':=by
 obtain⟨va,vc,hb⟩:=h.blk;have hm:=h.most;have hh:R.half≤R.cnt:=by unfold JR.half;omega
 rw[show((R.half-J.used:Nat):Int)=(R.half:Int)-(J.used:Int) by omega];exact Ij hb (by omega) (by omega)
end
theorem JI.num {c:Nat} (h:JI S R J c) (hm:S.dur.length≤4096) (hg:J.gen≤2147483600) (hn:J.first+J.ents.length≤2147483600) (hr:Roomy S 10000):Num S R J:=by
 have hfit:=h.fit;have hrg:=h.rng;have hh:R.half≤R.cnt:=by unfold JR.half;omega
 exact⟨hrg,by rw[h.used];exact hfit,by omega,by omega,by omega,h.short,hr,h.down,by rw[RO h];omega⟩
theorem Mp {W':World}{U:Nat→Prop}{z:DS×Int×JD}{e:Ending} (hb:Below w.heap.size w W) (hF:∀k,F k→U k) (hlo:∀k,U k→w.heap.size≤k) (h:Mo W F b R z e W') (h0:z.2.1=0):
 ∃g N lv,e=.returned (.tuple #[.pointer (some ⟨g,0,none⟩),lv,.int .i64 0])∧JAll w W' (fun k=>U k∨(W.heap.size≤k∧k<W'.heap.size∧¬N k)) b g z.1 R z.2.2∧NumsAt W' N lv z.2.2.first z.2.2.ents∧(∀k,N k→W.heap.size≤k∧k<W'.heap.size)∧Chg U W W':=by
 obtain⟨F',h1,h2,h3,_,h4⟩:=h;obtain⟨g,G,N,ev,lv,rfl,k1,k2,k3,k4,k5,k6,k7⟩:=h4 h0;have hcU:=h3.mono hF;refine⟨g,N,lv,rfl,⟨hb.trans (hcU.below hlo hb.size),⟨fun k=>F' k∧True,G,⟨h1.mono (fun k hk=>⟨hk,trivial⟩),⟨ev,k3,k4⟩,fun hh=>k2 hh.1,fun hh=>(k5 g hh).2.2.2 rfl,fun k hk hh=>(k5 k hk).2.2.1 hh.1,fun k hk=>(h2 k hk.1).2,fun k hk=>(k5 k hk).2.1⟩,fun k hk=>?_,fun k hk=>?_⟩,?_,fun k hk=>?_⟩,k6,fun k hk=>⟨(k7 k hk).1,(k7 k hk).2.1⟩,hcU⟩
 ·rcases(h2 k hk.1).1 with h5|h5
  ·exact .inl (hF k h5)
  ·exact .inr ⟨h5,(h2 k hk.1).2,fun h6=>(k7 k h6).2.2.1 hk.1⟩
 ·exact .inr ⟨(k5 k hk).1,(k5 k hk).2.1,fun h6=>(k7 k h6).2.2.2.1 hk⟩
 ·exact .inr ⟨k1,k3.lt,fun h6=>(k7 g h6).2.2.2.2 rfl⟩
 ·exact hk.elim (hlo k) (fun h5=>Nt hb.size h5.1)
variable {m n:Nat}
theorem G1 (h:Roomy S (m+1)):Roomy S.flush.1 m:=by
 have h1:=Ib h;unfold DS.flush;split
 ·exact h.less (by omega)
 ·split
  ·exact⟨h1.1.ops,by show([]:List (Nat×List UInt8)).length+m≤_;have:=h1.1.pend;simp;omega,h1.1.lim⟩
  ·exact h1.1
theorem Je {a:Nat} (h:Roomy S (m+1+(Ar (AG g f E)).length)):Roomy (wrA S a g f E).1 m:=by
 have h1:Roomy (putR S a 0 (AG g f E)).1 (m+1):=KO h;unfold wrA;split
 ·split
  ·exact G1 h1
  ·exact G1 h1
 ·exact h1.less (by omega)
theorem G3 {w:Nat} (hl:JLim (AA w (Ah S R.at_ R.cnt)) f E.length E) (h:Roomy S (m+1+Aq E)):Roomy (moveJ S R w f E).1 m:=by
 have hsz:=Cw hl;rw[←AO]at hsz;have hg:=hl.g;unfold moveJ;simp only;rw[In (by omega)];split
 ·exact Je (by rw[hsz];exact h)
 ·exact Je (by rw[hsz];exact h)
theorem PU (r:RecD):(Ac r).length≤586:=by
 by_cases h:As r=0
 ·rw[AL h];exact(CQ (Cs h).2).2
 ·unfold Ac;rw[In h];simp
theorem KT {b:List UInt8} (h:Roomy S (m+586)):Roomy (appJ S R J b).1 m:=by
 have h1:∀a r,Roomy (wrL S a (Ac r)).1 m:=fun a r=>FP (h.less (by have:=PU r;omega))
 unfold appJ;split
 ·exact h.less (by omega)
 split
 ·exact h.less (by omega)
 split
 ·exact h.less (by omega)
 split
 ·exact h1 _ _
 ·exact h1 _ _
theorem KU (h:Roomy S (m+1)):Roomy (synJ S J).1 m:=by
 have h1:=G1 h;unfold synJ;split
 ·exact h.less (by omega)
 split
 ·exact h1
 ·exact h1
theorem PV {t:Int}{c:Nat} (h:JI S R J c) (hn:J.next≤2147483640) (hg:J.gen≤2147483640) (hr:Roomy S (m+1+Aq J.ents)):Roomy (trnJ S R J t).1 m:=by
 unfold trnJ;split
 ·exact hr.less (by omega)
 split
 ·exact hr.less (by omega)
 split
 ·exact hr.less (by omega)
 ·rename_i h0 h1 h2;unfold JD.next at h1 hn;obtain⟨k,rfl⟩:∃k:Nat,t=((J.first+k:Nat):Int):=⟨t.toNat-J.first,by omega⟩;rw[Int.toNat_natCast,Nat.add_sub_cancel_left];have hm:=h.mov (k:=k) (by omega) (by unfold JD.next;omega) (by omega);have h3:=G3 hm.lim (m:=m) (hr.less (by have:=DR J.ents k;omega));split
  ·exact h3
  ·exact h3
structure Ok (S:DS) (R:JR) (J:JD) (t:Nat):Prop where
 ji:∃c,JI S R J c
 lim:S.limit=none
 gen:J.gen≤t+1
 nx:J.next≤t
 room:Roomy S (1000000000-10000*t)
theorem Ok.num {t:Nat} (h:Ok S R J t) (hm:S.dur.length≤4096) (ht:t≤1000):Num S R J:=by obtain⟨c,hc⟩:=h.ji;have h1:=h.gen;have h2:=h.nx;unfold JD.next at h2;exact hc.num hm (by omega) (by omega) (h.room.less (by omega))
theorem Ok.app {t:Nat}{b:List UInt8} (h:Ok S R J t) (ht:t≤1000) (hb:b.length≤100000):
 (appJ S R J b=(S,J,9,0)∧R.half-Aq J.ents<Af b.length)∨
 (∃S',appJ S R J b=(S',{J with ents:=J.ents++[b],used:=J.used+Af b.length},0,J.next)∧Ok S' R {J with ents:=J.ents++[b],used:=J.used+Af b.length} (t+1)∧S'.dur.length=S.dur.length∧Af b.length≤R.half-Aq J.ents):=by
 obtain⟨c,hc⟩:=h.ji;have h1:=h.gen;have h2:=h.nx;rcases OI hc hb (by omega) h.lim with h3| ⟨⟨S',k1,k2,k3,k4⟩,k5⟩
 ·exact .inl h3
 ·refine .inr ⟨S',k1,⟨⟨c,k2⟩,k4,by show J.gen≤_;omega,?_,?_⟩,k3,k5⟩
  ·show J.first+(J.ents++[b]).length≤t+1;rw[List.length_append,List.length_singleton];unfold JD.next at h2;omega
  ·have h6:=KT (R:=R) (J:=J) (b:=b) (m:=1000000000-10000*(t+1)) (h.room.less (by omega));rw[k1]at h6;exact h6
theorem Ok.syn {t:Nat} (h:Ok S R J t) (ht:t≤1000):
 ∃S',synJ S J=(S',{J with synced:=J.next},0)∧Ok S' R {J with synced:=J.next} (t+1)∧S'.dur.length=S.dur.length:=by
 obtain⟨c,hc⟩:=h.ji;have h1:=h.gen;have h2:=h.nx;obtain⟨S',k1,k2,k3,k4⟩:=OJ hc h.lim;refine⟨S',k1,⟨⟨c,k2⟩,k4,by show J.gen≤_;omega,by show J.next≤_;omega,?_⟩,k3⟩;have h6:=KU (J:=J) (m:=1000000000-10000*(t+1)) (h.room.less (by omega));rw[k1]at h6;exact h6
theorem Ok.trn {t:Nat} (h:Ok S R J t) (ht:t≤1000) (hm:S.dur.length≤4096) (x:Int):
 (trnJ S R J x=(S,J,2)∧(x<J.first∨(J.next:Int)<x))∨(trnJ S R J x=(S,J,0)∧x=J.first)∨
 (∃S' k,x=((J.first+k:Nat):Int)∧0<k∧k≤J.ents.length∧trnJ S R J x=(S',⟨J.gen+1,Aq (J.ents.drop k),J.first+k,J.ents.drop k,J.next,0⟩,0)∧Ok S' R ⟨J.gen+1,Aq (J.ents.drop k),J.first+k,J.ents.drop k,J.next,0⟩ (t+1)∧S'.dur.length=S.dur.length):=by
 obtain⟨c,hc⟩:=h.ji;have h1:=h.gen;have h2:=h.nx;have hfit:=hc.fit;have hrg:=hc.rng;have hh:R.half≤R.cnt:=by unfold JR.half;omega
 rcases OK (t:=x) hc h.lim (by omega) (by omega)with h3|h3| ⟨S',k,e,k0,kn,k1,k2,k3,k4⟩
 ·exact .inl h3
 ·exact .inr (.inl h3)
 ·refine .inr (.inr ⟨S',k,e,k0,kn,k1,⟨⟨_,k2⟩,k4,by show J.gen+1≤_;omega,?_,?_⟩,k3⟩)
  ·show J.first+k+(J.ents.drop k).length≤t+1;rw[List.length_drop];unfold JD.next at h2;omega
  ·have h6:=PV (t:=x) (m:=1000000000-10000*(t+1)) hc (by omega) (by omega) (h.room.less (by omega));rw[k1]at h6;exact h6
theorem JS:Al zeros≠0:=fun h=>by
 have h1:=(Cj h).2.2.2.1.c0;have h2:(Bn zeros).cnt=0:=by rfl
 omega
theorem IV (hR:R.at_+R.cnt≤n):NoDec (A2 n) R:=fun s hs x hx=>by
 have h1:s<n:=by have:=hs.2;omega
 rcases hx with hx|hx
 ·rw[hx];have:(A2 n).dur.getD s zeros=zeros:=by simp[A2,List.getD,h1]
  rw[this];exact JS
 ·simp[A2]at hx
theorem Mq (h:NoDec S R) (hl:S.limit=none) (hd:S.down=false) (h8:8≤R.cnt) (hR:R.at_+R.cnt≤S.dur.length) (hr:Roomy S 999995000):
 JLim (AA 0 (Ah S R.at_ R.cnt)) 0 0 []∧∃S1 S2,(moveJ S R 0 0 []).1=S1∧(moveJ S R 0 0 []).2.1=0∧S1.dur.length=S.dur.length∧S1.down=false∧S1.limit=none∧Roomy S1 999994000∧BW S1 R=some ⟨0,0,[]⟩∧JLim (AA (1-(0:Nat)%2) (Ah S1 R.at_ R.cnt)) 0 ([]:List (List UInt8)).length []∧
 moveJ S1 R (1-(0:Nat)%2) 0 []=(S2,0,⟨1,1,0,[],0,0⟩)∧S2.dur.length=S.dur.length∧Ok S2 R ⟨1,1,0,[],0,0⟩ 1:=by
 obtain⟨f1,f2,f3,f4,f5⟩:=M9 h hl hd h8 hR;have hn0:=h.next (w:=0) (by omega);have hlim0:JLim (AA 0 (Ah S R.at_ R.cnt)) 0 0 []:=by rw[hn0];exact Jd (by omega)
 have hroom1:Roomy (moveJ S R 0 0 []).1 999994000:=G3 hlim0 (hr.less (by show 999994000+1+1≤_;omega));obtain⟨S1,hS1⟩:=Xq ((moveJ S R 0 0 []).1);rw[hS1]at f2 f3 f4 f5 hroom1;have hb:=f2.base;have hnx:=f2.next;have hmov:Mov S1 R 0 (fun y=>∃k,0≤k∧k≤([]:List (List UInt8)).length∧y=⟨0,0,([]:List (List UInt8)).take k⟩) 0 0 []:=
  ⟨hb,f2.gens,by decide,by decide,(fun b hb=>by cases hb),by show 1≤R.half;unfold JR.half;omega,by rw[f5];exact hR⟩
 obtain⟨e0,e1⟩:=IU hmov f3 f4;obtain⟨m1,m2,m3,m4,m5,m6,_⟩:=Mm hmov e0;rw[hnx]at m2;obtain⟨y,hy,hyg,k,_,hk,hyk⟩:=hb.curr (EI S1 R);rw[List.take_nil]at hyk;rw[←NM,hyk]at hy;have hroom2:=G3 hmov.lim (m:=1000000000-10000*1) (hroom1.less (by show 1000000000-10000*1+1+1≤_;omega));have hlim1:=hmov.lim;obtain⟨z,hz⟩:=Xq (moveJ S1 R (1-(0:Nat)%2) 0 []);rw[hz]at e0 e1 m1 m2 m3 m4 m5 m6 hroom2;obtain⟨S2,ez,jg,ju,jf,je,js,jx⟩:=z;have hf:=m1.failed;have hu:=m1.used;simp only at e0 m2 m3 m4 m5 hf hu;subst e0 m2 m3 m4 m5 hf;have hu1:ju=1:=hu;subst hu1;exact⟨hlim0,S1,S2,hS1,f1,f5,f4,f3,hroom1,hy,hlim1,hz,by rw[m6,f5],⟨_,m1⟩,e1,by show 1≤1+1;omega,by show 0≤1;omega,hroom2⟩
theorem jmk (n:Nat) (hn:n≤281474976710656) (w:World):
 (Instr.makeSlice 30 (.int .i64 n) (.int .i64 n)).run Tryz.prog w=.ok (.slice (some ⟨w.heap.size,0,none⟩) n n) (w.alloc (.cells (bvs (List.replicate n 0)).toArray 5)):=by
 obtain⟨i0,hi,hz0,hz1,hz2⟩:=info_parts CX;have h:=run_make (P:=Tryz.prog) w 30 5 i0 _ Tryz.underlying30 hi hz0 .i64 .i64 (n:Int) (n:Int) (by omega) (Int.le_refl _) (by rw[hz2];omega) (by omega);rw[h,hz1];have e:madeCells (Value.int .u8 0).cells ((n:Int).toNat*1)=(bvs (List.replicate n 0)).toArray:=by
  apply Array.ext';unfold madeCells bvs;rw[List.map_replicate];apply List.ext_getElem
  ·simp
  ·intro j h1 h2;simp[Value.cells,Nat.mod_one];rfl
 rw[e];rfl
theorem Na (l:List UInt8):BytesN (w.alloc (.cells (bvs l).toArray 5)) (fun k=>w.heap.size≤k) (.slice (some ⟨w.heap.size,0,none⟩) l.length l.length) l:=
 OwnBytes.n ⟨w.heap.size,5,rfl,Nat.le_refl _,Hn⟩
theorem NO (n:Nat):BytesN (w.alloc (.cells (bvs (List.replicate n 0)).toArray 5)) (fun k=>w.heap.size≤k) (.slice (some ⟨w.heap.size,0,none⟩) n n) (List.replicate n 0):=by have h:=Na (w:=w) (List.replicate n 0);rwa [List.length_replicate]at h
theorem PW (w:World) (F:Nat→Prop):BytesN w F (.slice none 0 0) []:=⟨⟨none,0,rfl,Nat.le_refl _,fun h=>absurd rfl h⟩,fun k c e=>by cases e;rfl⟩
theorem KV (h:DiskAt w F b S) (hK:KAt w) (hK0:¬F 0) (a c:Nat) (hc8:8≤c) (hr:a+c≤S.dur.length) (hd:S.down=false) (hlim:JLim (AA 0 (Ah S a c)) 0 0 []) (hroom:Roomy S 2) {S1:DS} (hz1:(moveJ S ⟨a,c⟩ 0 0 []).1=S1) (hz2:(moveJ S ⟨a,c⟩ 0 0 []).2.1=0):Ca 15 #[.pointer (some ⟨b,0,none⟩),.int .i64 a,.int .i64 c] w fun e w'=>e=.returned (.int .i64 0)∧DiskAt w' (fun k=>F k∨w.heap.size≤k) b S1∧Chg F w w':=by refine(M7 h hK hK0 a c hc8 hr hd hlim hroom).mono ?_;rintro e w' ⟨h1,h2,h3⟩;rw[hz2]at h1;rw[hz1]at h2;exact⟨h1,h2,h3⟩
theorem RS {S2:DS}{J2:JD} (hb:Below w.heap.size w W) (h:DiskAt W F b S) (hK:KAt w) (hlo:∀k,F k→w.heap.size≤k) (a c:Nat) (hc8:8≤c) (hr:a+c≤S.dur.length) (hd:S.down=false) (x:ArD) (hx:BW S ⟨a,c⟩=some x) (hlim:JLim (AA (1-x.gen%2) (Ah S a c)) x.first x.ents.length x.ents) (hN:Aq x.ents≤100000) (hroom:Roomy S (Aq x.ents+1)) (hz:moveJ S ⟨a,c⟩ (1-x.gen%2) x.first x.ents=(S2,0,J2)):
 Ca 16 #[.pointer (some ⟨b,0,none⟩),.int .i64 a,.int .i64 c] W fun e W'=>∃g N la lc,e=.returned (.tuple #[.pointer (some ⟨g,0,none⟩),.slice la J2.ents.length lc,.int .i64 0])∧JAll w W' (fun k=>F k∨(W.heap.size≤k∧k<W'.heap.size∧¬N k)) b g S2 ⟨a,c⟩ J2∧NumsAt W' N (.slice la J2.ents.length lc) J2.first J2.ents∧(∀k,N k→W.heap.size≤k∧k<W'.heap.size)∧Chg F W W':=by
 refine(KR h (KAt.below hK hb hK.size) (fun e=>by have h1:=hlo _ e;have h2:=hK.size;omega) a c hc8 hr hd x hx hlim.w.zero hN hroom).mono ?_;intro e W' hp;rw[hz]at hp;obtain⟨g,N,lv,rfl,k1,k2,k3,k4⟩:=Mp hb (fun k hk=>hk) hlo hp rfl;obtain⟨la,lc,rfl⟩:=k2.form;exact⟨g,N,la,lc,rfl,k1,k2,k3,k4⟩
theorem JAll.tight {U:Nat→Prop} (h:JAll w W U b g S R J):JAll w W (fun k=>U k∧k<W.heap.size) b g S R J:=by obtain⟨F,G,h1,h2,h3⟩:=h.st;obtain⟨ev,h4,_⟩:=h1.mem;exact⟨h.below,⟨F,G,h1,fun k hk=>⟨h2 k hk,h1.fl k hk⟩,fun k hk=>⟨h3 k hk,h1.gl k hk⟩⟩,⟨h.ug,h4.lt⟩,fun k hk=>h.lo k hk.1⟩
def JA (w W:World) (b g:Nat) (S:DS) (R:JR) (J:JD):Prop:=∃U,JAll w W U b g S R J∧∀k,U k→k<W.heap.size
section
variable {w W V:World} {U:Nat→Prop} {b g:Nat} {S:DS} {R:JR} {J:JD}
theorem JAll.ja (h:JAll w W U b g S R J):JA w W b g S R J:=⟨_,h.tight,fun k hk=>hk.2⟩
theorem JA.step (h:JA w W b g S R J) (hb:Below W.heap.size W V):JA w V b g S R J:=by obtain⟨U,h1,h2⟩:=h;exact⟨U,h1.step hb,fun k hk=>Nl (h2 k hk) hb.size⟩
theorem JA.below (h:JA w W b g S R J):Below w.heap.size w W:=h.elim fun _ h=>h.1.below
theorem JA.most (h:JA w W b g S R J):S.dur.length≤4096:=h.elim fun _ h=>h.1.most
theorem Mr (h:JA w W b g S R J) (hK:KAt w) (hn:Num S R J) (hb:Below W.heap.size W V) {bv:Value} {l:List UInt8} (hv:BytesN V (fun k=>W.heap.size≤k) bv l) (hl:l.length≤100000000) {S':DS} {J':JD} {er:Int} {nu:Nat} (hz:appJ S R J l=(S',J',er,nu)):
 Ca 19 #[.pointer (some ⟨g,0,none⟩),bv] V fun e W'=>e=.returned (.tuple #[.int .i64 nu,.int .i64 er])∧JA w W' b g S' R J':=by
 obtain⟨U,h1,h2⟩:=h;refine(RQ (h1.step hb) hK hn hv (fun k _ h3 h4=>by have:=h2 k h4;omega) hl).mono ?_;rintro e W' ⟨rfl,h3,_⟩;rw[hz]at h3⊢;exact⟨rfl,h3.ja⟩
theorem Sd (h:JA w W b g S R J) (hK:KAt w) (hn:Num S R J) (t:Int) {S':DS} {J':JD} {er:Int} (hz:trnJ S R J t=(S',J',er)):
 Ca 20 #[.pointer (some ⟨g,0,none⟩),.int .i64 t] W fun e W'=>e=.returned (.int .i64 er)∧JA w W' b g S' R J':=by
 obtain⟨U,h1,h2⟩:=h;refine(RR h1 hK hn t).mono ?_;rintro e W' ⟨rfl,h3,_⟩;rw[hz]at h3⊢;exact⟨rfl,h3.ja⟩
theorem Q5 (h:JA w W b g S R J) {x:Nat} (hx:J.first=x):Ca 21 #[.pointer (some ⟨g,0,none⟩)] W fun e W'=>e=.returned (.int .i64 x)∧JA w W' b g S R J∧Below W.heap.size W W':=by subst hx;have h0:=h;obtain⟨U,h1,h2⟩:=h;refine(PT h1).mono ?_;rintro e W' ⟨rfl,hb⟩;exact⟨rfl,h0.step hb,hb⟩
theorem Hq (h:JA w W b g S R J) {x:Nat} (hx:J.gen=x):Ca 17 #[.pointer (some ⟨g,0,none⟩)] W fun e W'=>e=.returned (.int .i64 x)∧JA w W' b g S R J∧Below W.heap.size W W':=by subst hx;have h0:=h;obtain⟨U,h1,h2⟩:=h;refine(Km h1).mono ?_;rintro e W' ⟨rfl,hb⟩;exact⟨rfl,h0.step hb,hb⟩
theorem NP (h:JA w W b g S R J) (hn:Num S R J) {x:Nat} (hx:R.half-J.used=x):Ca 18 #[.pointer (some ⟨g,0,none⟩)] W fun e W'=>e=.returned (.int .i64 x)∧JA w W' b g S R J∧Below W.heap.size W W':=by subst hx;have h0:=h;obtain⟨U,h1,h2⟩:=h;refine(Q4 h1 hn.rng hn.us).mono ?_;rintro e W' ⟨rfl,hb⟩;exact⟨rfl,h0.step hb,hb⟩
end
theorem Nb:∃(S1 S2 S3 S4 S6:DS) (J1 J2 J3 J4:JD),
 (JLim (AA 0 (Ah (A2 8) 0 8)) 0 0 []∧(moveJ (A2 8) ⟨0,8⟩ 0 0 []).1=S1∧(moveJ (A2 8) ⟨0,8⟩ 0 0 []).2.1=0)∧
 (S1.dur.length=8∧S1.down=false∧Roomy S1 999994000∧BW S1 ⟨0,8⟩=some ⟨0,0,[]⟩∧JLim (AA (1-(0:Nat)%2) (Ah S1 0 8)) 0 ([]:List (List UInt8)).length []∧moveJ S1 ⟨0,8⟩ (1-(0:Nat)%2) 0 []=(S2,0,J1))∧
 (J1.gen=1∧(⟨0,8⟩:JR).half-J1.used=3∧J1.ents.length=0)∧(Num S2 ⟨0,8⟩ J1∧Num S3 ⟨0,8⟩ J2∧Num S4 ⟨0,8⟩ J3∧Num S6 ⟨0,8⟩ J4)∧
 appJ S2 ⟨0,8⟩ J1 (List.replicate 200 0)=(S3,J2,0,0)∧appJ S3 ⟨0,8⟩ J2 (List.replicate 300 0)=(S4,J3,0,1)∧appJ S4 ⟨0,8⟩ J3 []=(S4,J3,9,0)∧trnJ S4 ⟨0,8⟩ J3 1=(S6,J4,0)∧
 (J4.first=1∧J4.gen=2∧(⟨0,8⟩:JR).half-J4.used=1):=by
 obtain⟨hlim0,S1,S2,s1,s2,s3,s4,s5,s6,s7,s8,s9,s10,s11⟩:=Mq (S:=A2 8) (R:=⟨0,8⟩) (IV (by decide)) rfl rfl (by decide) (by decide) ⟨by show 0+999995000≤_;omega,by show 0+999995000≤_;omega,by show 0≤_;omega⟩;have hl8:S2.dur.length=8:=s10;rcases s11.app (b:=List.replicate 200 0) (by omega) (by simp)with⟨_,hA1⟩| ⟨S3,a1,a2,a3,_⟩
 ·simp[JR.half,Aq,Af]at hA1
 rcases a2.app (b:=List.replicate 300 0) (by omega) (by simp)with⟨_,hA2⟩| ⟨S4,b1,b2,b3,_⟩
 ·simp[JR.half,Aq,Af]at hA2
 rcases b2.app (b:=[]) (by omega) (by simp)with⟨c1,_⟩| ⟨S5,_,_,_,hA3⟩
 case inr=>simp[JR.half,Aq,Af]at hA3
 rcases b2.trn (by omega) (by omega) 1 with⟨_,hT⟩| ⟨_,hT⟩| ⟨S6,k,d0,d1,d2,d3,d4,d5⟩
 ·simp[JD.next]at hT
 ·simp at hT
 have hk:k=1:=by have h9:(1:Int)=((0+k:Nat):Int):=d0;omega
 subst hk;exact⟨S1,S2,S3,S4,S6,_,_,_,_,⟨hlim0,s1,s2⟩,⟨s3,s4,s6,s7,s8,s9⟩,⟨rfl,rfl,rfl⟩,⟨s11.num (by omega) (by omega),a2.num (by omega) (by omega),b2.num (by omega) (by omega),d4.num (by omega) (by omega)⟩,a1,b1,c1,d3,rfl,rfl,by simp[JR.half,Aq,Af]⟩
theorem KW (hK:KAt w):Ca 5 #[] w fun e w'=>e=.returned (.bool true)∧Below w.heap.size w w':=by
 have hK0:=hK.size;have HK:=Hd hK;obtain⟨S1,S2,S3,S4,S6,J1,J2,J3,J4,hst,hop,hj1,hnum,ha1,ha2,ha3,htr,hj4⟩:=Nb;obtain⟨l2,hl2⟩:=Xq (List.replicate 200 (0:UInt8));obtain⟨l3,hl3⟩:=Xq (List.replicate 300 (0:UInt8));have hmk2:∀w,(Instr.makeSlice 30 (.int .i64 200) (.int .i64 200)).run Tryz.prog w=.ok (.slice (some ⟨w.heap.size,0,none⟩) 200 200) (w.alloc (.cells (bvs l2).toArray 5)):=fun w=>by rw[←hl2];exact jmk 200 (by omega) w
 have hmk3:∀w,(Instr.makeSlice 30 (.int .i64 300) (.int .i64 300)).run Tryz.prog w=.ok (.slice (some ⟨w.heap.size,0,none⟩) 300 300) (w.alloc (.cells (bvs l3).toArray 5)):=fun w=>by rw[←hl3];exact jmk 300 (by omega) w
 obtain⟨HF2,HF3,HLE⟩:=Hd3 (show∀w:World,BytesN (w.alloc (.cells (bvs l2).toArray 5)) (fun k=>w.heap.size≤k) (.slice (some ⟨w.heap.size,0,none⟩) 200 200) l2 from fun w=>by rw[←hl2];exact NO 200) (show∀w:World,BytesN (w.alloc (.cells (bvs l3).toArray 5)) (fun k=>w.heap.size≤k) (.slice (some ⟨w.heap.size,0,none⟩) 300 300) l3 from fun w=>by rw[←hl3];exact NO 300) (show l2.length≤100000000∧l3.length≤100000000 by rw[←hl2,←hl3];exact⟨by rw[List.length_replicate];omega,by rw[List.length_replicate];omega⟩);rw[hl2]at ha1;rw[hl3]at ha2;obtain⟨R,hR⟩:∃R:JR,(⟨0,8⟩:JR)=R:=⟨_,rfl⟩;obtain⟨HRE,HST,HOP,HJ1,HNM,HA1,HA2,HA3,HTR,HJ4⟩:=Hd10 hR hst hop hj1 hnum ha1 ha2 ha3 htr hj4;clear hR hst hop hj1 hnum ha1 ha2 ha3 htr hj4 hl2 hl3 hK;go_enter Tryz.func5,Tryz.ntmps5;go_wp2_with fail;refine(LB 8 w (by omega) (by omega)).mono ?_;rintro e W1 ⟨rfl,hd1,hb1⟩;obtain⟨b,hbE⟩:=Xq (w.heap.size+1);rw[hbE]at hd1⊢;have HB1:=Hd hb1;have HD1:=Hd hd1;clear hbE hb1 hd1;go_wp2_with fail;refine(KV HD1.out (KAt.below HK.out HB1.out hK0) (by omega) 0 8 (by decide) (by decide) rfl HST.out.1 ⟨by show 0+2≤_;omega,by show 0+2≤_;omega,by show 0≤_;omega⟩ HST.out.2.1 HST.out.2.2).mono ?_;rintro e W2 ⟨rfl,hd2,hc2⟩;have HB2:=Hd (HB1.out.trans (hc2.below (fun k e=>e) HB1.out.size));have HD2:=Hd (hd2.mono (G:=fun k=>w.heap.size≤k) (fun k h=>h.elim id (fun h2=>Nt HB1.out.size h2)));clear hd2 hc2;go_wp2_with fail;refine(RS HB2.out HD2.out HK.out (fun k e=>e) 0 8 (by decide) (by rw[HOP.out.1];decide) HOP.out.2.1 ⟨0,0,[]⟩ HOP.out.2.2.2.1 HOP.out.2.2.2.2.1 (by decide) (HOP.out.2.2.1.less (by decide)) HOP.out.2.2.2.2.2).mono ?_;rintro e W3 ⟨g,N,la,lc,rfl,hj,_,_,_⟩;rw[HJ1.out.2.2,HRE.out]at*;have HJA3:=Hd hj.ja;clear hj;go_wp2_with fail;refine(Hq HJA3.out HJ1.out.1).mono ?_;rintro e W4 ⟨rfl,hj,_⟩;have HJA4:=Hd hj;clear hj;go_wp2_with fail;refine(NP HJA4.out HNM.out.1 HJ1.out.2.1).mono ?_;rintro e W5 ⟨rfl,hj,_⟩;have HJA5:=Hd hj;clear hj;go_wp2_with fail;refine(Mr HJA5.out HK.out HNM.out.1 (Rq.alloc Lr _) (HF2.out W5) HLE.out.1 HA1.out).mono ?_;rintro e W6 ⟨rfl,hj⟩;have HJA6:=Hd hj;clear hj;go_wp2_with fail;refine(Mr HJA6.out HK.out HNM.out.2.1 (Rq.alloc Lr _) (HF3.out W6) HLE.out.2 HA2.out).mono ?_;rintro e W7 ⟨rfl,hj⟩;have HJA7:=Hd hj;clear hj;go_wp2_with fail;refine(Mr HJA7.out HK.out HNM.out.2.2.1 Rq (PW W7 _) (by decide) HA3.out).mono ?_;rintro e W8 ⟨rfl,hj⟩;have HJA8:=Hd hj;clear hj;go_wp2_with fail;refine(Sd HJA8.out HK.out HNM.out.2.2.1 1 HTR.out).mono ?_;rintro e W9 ⟨rfl,hj⟩;have HJA9:=Hd hj;clear hj;go_wp2_with fail;refine(Q5 HJA9.out HJ4.out.1).mono ?_;rintro e WA ⟨rfl,hj,_⟩;have HJAA:=Hd hj;clear hj;go_wp2_with fail;refine(Hq HJAA.out HJ4.out.2.1).mono ?_;rintro e WB ⟨rfl,hj,_⟩;have HJAB:=Hd hj;clear hj;go_wp2_with fail;refine(NP HJAB.out HNM.out.2.2.2 HJ4.out.2.2).mono ?_;rintro e WC ⟨rfl,hj,_⟩;have HBC:=Hd hj.below;clear hj;go_wp2_with fail;exact Bv (.bool true) ⟨rfl,HBC.out⟩
end Go.Proofs.YtplclpileejemaaGreatDoor
namespace Go.Proofs.YtplclpileejemaaGreatDoor
open Go.RowKit Go.Shelf Go.Lib
variable {w:World}
theorem Dr (g off j:Nat):(⟨g,off,none⟩:Addr).add j=⟨g,off+j,none⟩:=by unfold Addr.add;split <;>simp_all
theorem ON (g off:Nat) (n cap:Nat) (l:List UInt8) (hr:w.rangeAt g off (bvs l)) (hg:g<w.heap.size) (hn:l.length=n) (hlen:n≤140737488355328):
 Ca 69 #[.slice (some ⟨g,off,none⟩) n cap] w fun e w'=>∃v',e=.returned v'∧w'.ownsRow w.heap.size 5 1 v' n (bvs l)∧v'≠.slice none 0 0∧Below w.heap.size w w':=by
 obtain⟨i0,hi,hz0,hz1,hz2⟩:=info_parts CX;have q22:∀(w:World) (a:Option Addr) (n c n' c':Nat),(binOp .eql 30 (.slice a n c) (.slice none n' c')).run Tryz.prog w=.ok (.bool a.isNone) w:=fun w a n c n' c'=>Lib.run_eql_slice_nil w _ _ a n c n' c' Tryz.underlying30
 obtain⟨HR,HG,HN⟩:=Hd3 hr hg hn;clear hr hg hn;go_enter Tryz.func69,Tryz.ntmps69;go_wp2_with (at_builtin;refine wpList_append_own _ rfl _ _ 30 rfl w.heap.size 5 i0 (.int .u8 0) 1 1 Tryz.underlying30 hi hz0 hz1 hz2 rfl (by decide) _ _ _ rfl (World.ownsRow_made w #[] 0 Lr (Nat.zero_le _) rfl) ⟨g,off,none⟩ n cap (bvs l) rfl ?qc1 ?qc2 ?qc3 ?qc4 ?qc5 ?qc6 ?_)
 case qc1=>rw[Ap,HN.out];omega
 case qc2=>intro j u hj;rw[Dr];exact(World.cell?_of_block (Below.heap_alloc w _ g HG.out)).trans (HR.out j u hj)
 case qc3=>exact Bc
 case qc4=>unfold maxLen;omega
 case qc5=>omega
 case qc6=>simp
 intro v' w1 hown hgrow hnil;go_wp2;go_ret;refine⟨v',rfl,by simpa using hown,hnil,?_⟩;exact((Below.refl _ w).alloc Lr _).grown hgrow (by simp) (by intro k hk;simp[Value.ownBlock]at hk;omega)
end Go.Proofs.YtplclpileejemaaGreatDoor
namespace Go.Proofs.YtplclpileejemaaGreatDoor
open Go.RowKit
variable {T:TypeId}{w:World}{B b:Nat}{G F:Nat→Prop}{v:Value}{S:DS}
def DU (L:List (Nat×List UInt8×Value)):List Value:=L.flatMap fun x=>[.int .i64 (x.1:Int),x.2.2]
def WritesAt (T:TypeId) (w:World) (B:Nat) (G:Nat→Prop) (v:Value) (l:List (Nat×List UInt8)):Prop:=
 ∃L:List (Nat×List UInt8×Value),L.map (fun x=>(x.1,x.2.1))=l∧w.ownsRow B T 2 v l.length (DU L)∧∀x∈L,BytesAt w (fun k=>G k∧v.ownBlock≠some k) x.2.2 x.2.1
theorem WritesAt.len {l:List (Nat×List UInt8)} (h:WritesAt T w B G v l):∃a cap,v=.slice a l.length cap:=by
 obtain⟨L,hL,hr,_⟩:=h;rcases hr.2 with⟨rfl,h0⟩| ⟨g,cap,cur,rfl,_⟩
 ·exact⟨none,0,by rw[h0]⟩
 ·exact⟨_,_,rfl⟩
theorem OO:(Tryz.prog.info? 89).map (fun i=>(i.zero,i.size,i.bytes))=some (some (.agg #[.int .i64 0,.slice none 0 0]),2,32):=by kernel_rfl
theorem Nf (h:DiskAt w F b S) (hlen:S.pend.length<100000000):
 Ca 40 #[.pointer (some ⟨b,0,none⟩)] w fun e w'=>∃v,e=.returned v∧WritesAt 89 w' w.heap.size (fun k=>w.heap.size≤k) v S.pend∧Below w.heap.size w w':=by
 obtain⟨hok,m,pv,hx⟩:=h;obtain⟨c0,c1,c2,c3,c4,c5,c6,f⟩:=hx.cells;have hl:∀x∈S.pend,x.2.length=256:=fun x h=>(hok.pend x h).2
 have hP:=DA hl hx.hp;obtain⟨pa,pcap,hpv⟩:∃a cap,pv=.slice a S.pend.length cap:=by
  rcases hP with⟨rfl,e⟩| ⟨g,cap,rfl,_⟩
  ·exact⟨none,0,by rw[e];rfl⟩
  ·exact⟨_,_,rfl⟩
 subst hpv;obtain⟨i0,hi0,hz0,hz1,hz2⟩:=info_parts OO;obtain⟨HX,HL,HP⟩:=Hd3 hx hl hP;clear hx hok hl hP;go_enter Tryz.func40,Tryz.ntmps40;go_wp2;clear c0 c1 c2 c3 c4 c5 c6 f;go_loopw [3,13] (fun lv i wr=>∃k:Nat,k≤S.pend.length∧i=.int .i64 k∧WritesAt 89 wr w.heap.size (fun k=>w.heap.size≤k) lv (S.pend.take k)∧Below w.heap.size w wr)
  (fun _ i _=>S.pend.length-(intOf i).toNat)
 case atStart=>exact⟨0,Nat.zero_le _,rfl,⟨[],rfl,World.ownsRow_nil _ _ _ _,by simp⟩,Rq⟩
 case round=>
  obtain⟨k,hk,rfl,hW,hC⟩:=hrel;by_cases hlt:k<S.pend.length
  ·have hP1:=HP.out;rcases hP1 with⟨_,e2⟩| ⟨g,cap',e1,hg,hr⟩
   ·rw[e2]at hlt;simp at hlt
   simp only[Value.slice.injEq]at e1;obtain⟨rfl,_,rfl⟩:=e1;obtain⟨x1,x2,hx⟩:∃x1 x2,S.pend[k]=(x1,x2):=⟨_,_,rfl⟩;have hx2:x2.length=256:=HL.out (x1,x2) (hx▸List.getElem_mem hlt);have hrq:wr.rangeAt g (k*257) (AC (x1,x2)):=fun j u hu=>(World.cell?_of_block (hC.block g hg)).trans (hr k hlt j u (by rw[hx];exact hu))
   have hwl:(AC (x1,x2)).length=257:=Bf hx2;have hsw:(Tryz.prog.info? 80).map (·.size)=some (AC (x1,x2)).length:=by rw[hwl];exact E6
   have hsw2:(Tryz.prog.info? 80).map (·.size)=some (AC (x1,x2)).toArray.size:=by rw[List.size_toArray];exact hsw
   have hsw3:(Tryz.zeroCells80).size=(AC (x1,x2)).toArray.size:=by rw[LF,List.size_toArray,List.size_toArray,hwl];exact Bf AW
   have hnw:=heap_alloc_new wr (.cells Tryz.zeroCells80 80);obtain⟨W1,hW1⟩:=Xq (wr.alloc (.cells (AC (x1,x2)).toArray 80));have hbk:=Lq hW1;have hW1s:W1.heap.size=wr.heap.size+1:=by rw[←hW1,Sz]
   have hW1n:=Nq hW1 rfl;obtain⟨p2,p4⟩:=GM (c:=.int .i64 x1) (l:=bvs x2) hW1n;have hlts:wr.heap.size<W1.heap.size∧w.heap.size≤wr.heap.size:=⟨by omega,hC.size⟩;obtain⟨L,hLm,hown,hbs⟩:=hW;obtain⟨HRQ,HSW,HSW2,HSW3,HNW,HW2,HP4,HX2,HBK,HLT,HLM,HOWN,HBS,HC⟩:=Hd14 hrq hsw hsw2 hsw3 hnw hW1 p4 hx2 hbk hlts hLm hown hbs hC;have HXE:=Hd hx;clear hrq hsw hsw2 hsw3 hnw hW1 p4 hx2 hbk hlts hLm hown hbs hC hx hr hg hwl hW1s hW1n;go_wp2_with (first| (with_reducible refine wpList_load_mid rfl 80 _ rfl g (k*257) rfl (AC (x1,x2)) _ HRQ.out Tryz.underlying80 rfl HSW.out ?_)| (with_reducible refine wpList_store_row rfl 80 _ _ rfl wr.heap.size (AC (x1,x2)).toArray rfl rfl 80 Tryz.zeroCells80 HNW.out HSW2.out HSW3.out (CK _) ?_;rw[World.setRow_alloc_new,HW2.out]))
   refine Np ?_;refine AY 9 (fun w'=>w'.cell? ⟨wr.heap.size,0,none⟩=some (.int .i64 x1)) (by kernel_rfl) ?_;have hS0:(fun w'=>w'.cell? ⟨wr.heap.size,0,none⟩=some (.int .i64 x1)) W1.drew:=p2;refine tkF 0 hS0 ?_ (v:=u3) (hy:=fun w' hw'=>by rfl);refine tkF 1 hS0 ?_ (v:=.pointer (some ⟨wr.heap.size,0,none⟩)) (hy:=fun w' hw'=>by go_simp);refine tkF 2 hS0 ?_ (v:=.int .i64 x1) (hy:=fun w' hw'=>by(have h4:=hw';clear hw';go_simp));refine tkF 3 hS0 ?_ (v:=.pointer (some ⟨wr.heap.size,1,none⟩)) (hy:=fun w' hw'=>by go_simp);refine tkF 4 hS0 ?_ (v:=.slice (some ⟨wr.heap.size,1,none⟩) 256 256) (hy:=fun w' hw'=>by go_simp);refine dF 5 fun K hK=>?_
   go_simp;refine(ON (w:=W1.drew) wr.heap.size 1 256 256 x2 HP4.out HLT.out.1 HX2.out (by decide)).mono ?_;rintro e w2 ⟨v',rfl,hown',_,hb2⟩;have hby':=Cy hown' HX2.out;obtain⟨g',cap2,hv'⟩:∃g' cap2,v'=.slice (some ⟨g',0,none⟩) 256 cap2:=by
    rcases hown'.2 with⟨_,h0⟩| ⟨g',cap2,_,e,_⟩
    ·cases h0
    ·exact⟨g',cap2,e⟩
   subst hv';have HBY:=Hd hby';clear hown' hby';have q2:w2.cell? ⟨wr.heap.size,0,none⟩=some (.int .i64 x1):=(hb2.cell (p:=⟨wr.heap.size,0,none⟩) HLT.out.1).trans p2;refine hK _ _ (fun _=>q2) ?_;refine dF 6 fun K hK=>?_
   go_simp;refine hK _ _ (fun _=>q2) ?_;refine dF 7 fun K hK=>?_
   go_simp;obtain⟨w3,hw3⟩:=Xq (w2.alloc (.cells #[.int .i64 x1,.slice (some ⟨g',0,none⟩) 256 cap2] 89));have q3:w3.cell? ⟨wr.heap.size,0,none⟩=some (.int .i64 x1):=by rw[←hw3];exact(World.cell?_of_block (Below.heap_alloc w2 _ _ (World.block_lt_of_cell? w2 ⟨wr.heap.size,0,none⟩ q2))).trans q2
   have hn3:=Nq hw3 rfl;have hb3:Below W1.drew.heap.size W1.drew w3:=hw3▸hb2.alloc hb2.size _;have hs3:w3.heap.size=w2.heap.size+1:=by rw[←hw3,Sz]
   rw[hw3];have hbw:Below wr.heap.size wr w3:=HBK.out.drew.trans (hb3.mono (Nat.le_of_lt HLT.out.1));have hown3:w3.ownsRow w.heap.size 89 2 u3 (S.pend.take k).length (DU L):=AT (G:=fun _=>False) HOWN.out (Cb hbw) (fun _ _ _ h=>h);obtain⟨HBW,HB3,HS3,HN3,HW3,HB2⟩:=Hd6 hbw hb3 hs3 hn3 hw3 hb2;clear hw3 hbw hb3 hs3 hn3 hb2;refine hK _ _ (fun _=>q3) ?_;refine dF 8 fun K hK=>?_
   refine wp_append_lies _ (.tmp 17) (.tmp 24) 87 rfl w.heap.size 89 i0 _ 2 32 Tryz.underlying87 hi0 hz0 hz1 hz2 rfl (by decide) u3 (S.pend.take k).length (DU L) rfl hown3
    ⟨w2.heap.size,0,none⟩ 1 1 [.int .i64 x1,.slice (some ⟨g',0,none⟩) 256 cap2] rfl rfl (World.news_of_block (cs:=#[.int .i64 x1,.slice (some ⟨g',0,none⟩) 256 cap2]) (t:=89) (fr:=(0,0)) HN3.out) (fun u hu=>by rcases List.mem_cons.1 hu with rfl |h;rfl;obtain rfl :=List.mem_singleton.1 h;rfl)
    (by decide) (by rw[List.length_take];unfold maxLen;omega) (by rw[List.length_take];omega) (Nt HLT.out.2 HBW.out.size) w3.heap.size rfl (fun gg cap3 w4 hown4 hgrow hat hglt=>?_)
   have hlt3:u3.ownBlock≠some wr.heap.size:=fun e=>by have:=(Ab HOWN.out _ e).2;omega
   have q4:w4.cell? ⟨wr.heap.size,0,none⟩=some (.int .i64 x1):=(World.cell?_of_block (hgrow.block wr.heap.size (World.block_lt_of_cell? w3 ⟨wr.heap.size,0,none⟩ q3) (Ne.symm hlt3))).trans q3;refine hK _ _ (fun _=>q4) ?_;simp only[P0,P1,P2,P3,P4];refine dF 9 fun K hK=>?_
   go_simp;refine hK _ _ (fun h=>absurd rfl h) ?_;refine eF ?_;obtain⟨HOWN4,HGR,HAT⟩:=Hd3 hown4 hgrow hat;clear hown4 hgrow hat hglt hown3;go_wp2;go_roundw
   case rel=>
    have hkl:(S.pend.take k).length=k:=by rw[List.length_take];omega
    have htk:S.pend.take (k+1)=S.pend.take k++[(x1,x2)]:=by rw[List.take_add_one,List.getElem?_eq_getElem hlt,HXE.out];rfl
    have hc4:Chg (fun j=>u3.ownBlock=some j) wr w4:=(Cb HBW.out).trans (Chg.grown (F:=fun j=>u3.ownBlock=some j) HGR.out (fun j e=>.inl e)) (fun j h=>.inl h);refine⟨k+1,by omega,by go_num,⟨L++[(x1,x2,.slice (some ⟨g',0,none⟩) 256 cap2)],?_,?_,?_⟩,?_⟩
    ·rw[List.map_append,HLM.out,htk];rfl
    ·have h4:=HOWN4.out;rw[hkl]at h4;rw[htk,List.length_append,hkl];simpa[DU]using h4
    ·intro y hy;have hnew:∀j,j<w3.heap.size→u3.ownBlock≠some j→(Value.slice (some ⟨gg,0,none⟩) ((S.pend.take k).length+1) cap3).ownBlock≠some j:=fun j hj hne e=>by
      have e':gg=j:=by simpa[Value.ownBlock]using e
      rcases HAT.out with h|h
      ·exact hne (by rw[h,e'])
      ·omega
     rcases List.mem_append.1 hy with hy|hy
     ·have h1:=HBS.out y hy;refine((h1.mono' (G:=fun j=>(w.heap.size≤j∧u3.ownBlock≠some j)∧j<wr.heap.size) (fun j hj h=>⟨h,hj⟩)).kept hc4 (fun j h e=>h.1.2 e)).mono (fun j h=>⟨h.1.1,hnew j (Nl h.2 HBW.out.size) h.1.2⟩)
     ·obtain rfl :=List.mem_singleton.1 hy;have hs2:w2.heap.size≤w3.heap.size:=by have:=HS3.out;omega
      have h3:BytesAt w3 (fun j=>W1.drew.heap.size≤j∧j<w2.heap.size) (.slice (some ⟨g',0,none⟩) 256 cap2) x2:=
       ((HBY.out.mono' (G:=fun j=>W1.drew.heap.size≤j∧j<w2.heap.size) (fun j hj h=>⟨h,hj⟩)).kept (G:=fun _=>False) (HW3.out▸Chg.alloc w2 _) (fun _ _ h=>h))
      have hW1d:W1.drew.heap.size=W1.heap.size:=rfl;have hltW:=HLT.out;have hno:∀j,W1.drew.heap.size≤j→u3.ownBlock≠some j:=fun j hj e=>by have:=(Ab HOWN.out _ e).2;omega
      exact(h3.kept (Chg.grown (F:=fun j=>u3.ownBlock=some j) HGR.out (fun j e=>.inl e)) (fun j h e=>hno j h.1 e)).mono (fun j h=>⟨by omega,hnew j (by omega) (hno j h.1)⟩)
    ·exact HC.out.trans (hc4.below (fun j e=>(Ab HOWN.out _ e).1) HLT.out.2)
   case measure=>simp[intOf];omega
  ·obtain rfl :k=S.pend.length:=by omega
   rw[List.take_length]at hW;have HW:=Hd hW;clear hW;go_wp2;go_ret;exact⟨_,rfl,HW.out,hC⟩
variable {dv:Value}{w':World}
def Au (S:DS):Int:=match S.limit with|none=>-1|some k=>(k:Int)
def A9 (S:DS) (dv wv:Value):Value:=.agg #[dv,wv,.int .i64 (Au S),.bool S.down,.int .i64 (S.ops:Int)]
def DurAt (w:World) (G:Nat→Prop) (dv:Value) (dur:List (List UInt8)):Prop:=
 ∃D:List (List UInt8×Value),D.map (·.1)=dur∧w.ownsRow 0 30 1 dv dur.length (D.map (·.2))∧(∀g,dv.ownBlock=some g→G g)∧∀x∈D,BytesAt w G x.2 x.1
def WrAt (w:World) (G:Nat→Prop) (wv:Value) (l:List (Nat×List UInt8)):Prop:=
 ∃L:List (Nat×List UInt8×Value),L.map (fun x=>(x.1,x.2.1))=l∧w.ownsRow 0 84 2 wv l.length (DU L)∧(∀g,wv.ownBlock=some g→G g)∧∀x∈L,BytesAt w G x.2.2 x.2.1
def RefAt (w:World) (G:Nat→Prop) (S:DS) (v:Value):Prop:=∃dv wv,v=A9 S dv wv∧DurAt w G dv S.dur∧WrAt w G wv S.pend
theorem DurAt.len {dur:List (List UInt8)} (h:DurAt w G dv dur):∃a cap,dv=.slice a dur.length cap:=by
 obtain⟨L,hL,hr,_⟩:=h;rcases hr.2 with⟨rfl,h0⟩| ⟨g,cap,cur,rfl,_⟩
 ·exact⟨none,0,by rw[h0]⟩
 ·exact⟨_,_,rfl⟩
theorem WrAt.len {wv:Value}{l:List (Nat×List UInt8)} (h:WrAt w G wv l):∃a cap,wv=.slice a l.length cap:=by
 obtain⟨L,hL,hr,_⟩:=h;rcases hr.2 with⟨rfl,h0⟩| ⟨g,cap,cur,rfl,_⟩
 ·exact⟨none,0,by rw[h0]⟩
 ·exact⟨_,_,rfl⟩
theorem DurAt.at {dur:List (List UInt8)} (h:DurAt w G dv dur) (i:Nat) (hi:i<dur.length):
 ∃g cap v,dv=.slice (some ⟨g,0,none⟩) dur.length cap∧g<w.heap.size∧G g∧w.cell? ⟨g,i,none⟩=some v∧BytesAt w G v dur[i]:=by
 obtain⟨D,hD,hr,hG,hb⟩:=h;obtain⟨g,cap,e,hg,hob,hc⟩:=AZ hr (by omega);have hl:D.length=dur.length:=by rw[←hD,List.length_map]
 have hiD:i<D.length:=by omega
 refine⟨g,cap,D[i].2,e,hg,hG g hob,hc i _ (by simp[hiD]),?_⟩;have:=hb D[i] (List.getElem_mem hiD);have e2:dur[i]=D[i].1:=by simp[←hD]
 rw[e2];exact this
theorem ID (L:List (Nat×List UInt8×Value)) (i:Nat) (hi:i<L.length):(DU L)[i*2]?=some (.int .i64 (L[i].1:Int))∧(DU L)[i*2+1]?=some L[i].2.2:=by
 induction L generalizing i with
 |nil=>simp at hi
 |cons x L ih=>
  cases i with
  |zero=>exact⟨rfl,rfl⟩
  |succ i=>
   have:=ih i (by simpa using hi);rw[show(i+1)*2=i*2+1+1 by omega];exact this
theorem WrAt.at {wv:Value}{l:List (Nat×List UInt8)} (h:WrAt w G wv l) (i:Nat) (hi:i<l.length):
 ∃g cap v,wv=.slice (some ⟨g,0,none⟩) l.length cap∧g<w.heap.size∧G g∧w.cell? ⟨g,i*2,none⟩=some (.int .i64 (l[i].1:Int))∧w.cell? ⟨g,i*2+1,none⟩=some v∧BytesAt w G v l[i].2:=by
 obtain⟨L,hL,hr,hG,hb⟩:=h;obtain⟨g,cap,e,hg,hob,hc⟩:=AZ hr (by omega);have hl:L.length=l.length:=by rw[←hL,List.length_map]
 have hiL:i<L.length:=by omega
 have hx:=ID L i hiL;have e2:l[i]=(L[i].1,L[i].2.1):=by simp[←hL]
 refine⟨g,cap,L[i].2.2,e,hg,hG g hob,?_,hc _ _ hx.2,?_⟩
 ·rw[e2];exact hc _ _ hx.1
 ·rw[e2];exact hb L[i] (List.getElem_mem hiL)
theorem DurAt.kept {dur:List (List UInt8)} (h:DurAt w G dv dur) (hc:Chg F w w') (hd:∀k,G k→¬F k):DurAt w' G dv dur:=by
 obtain⟨D,hD,hr,hG,hb⟩:=h;refine⟨D,hD,?_,hG,fun x hx=>(hb x hx).kept hc hd⟩;refine⟨hr.1,?_⟩;rcases hr.2 with hn| ⟨g,cap,cur,e,hbg,hg,rest⟩
 ·exact .inl hn
 ·exact .inr ⟨g,cap,cur,e,hbg,(hc.block g (Ax hg).1 (hd g (hG g (by rw[e];rfl)))).trans hg,rest⟩
theorem WrAt.kept {wv:Value}{l:List (Nat×List UInt8)} (h:WrAt w G wv l) (hc:Chg F w w') (hd:∀k,G k→¬F k):WrAt w' G wv l:=by
 obtain⟨D,hD,hr,hG,hb⟩:=h;refine⟨D,hD,?_,hG,fun x hx=>(hb x hx).kept hc hd⟩;refine⟨hr.1,?_⟩;rcases hr.2 with hn| ⟨g,cap,cur,e,hbg,hg,rest⟩
 ·exact .inl hn
 ·exact .inr ⟨g,cap,cur,e,hbg,(hc.block g (Ax hg).1 (hd g (hG g (by rw[e];rfl)))).trans hg,rest⟩
theorem RefAt.kept (h:RefAt w G S v) (hc:Chg F w w') (hd:∀k,G k→¬F k):RefAt w' G S v:=by obtain⟨dv,wv,rfl,h1,h2⟩:=h;exact⟨dv,wv,rfl,h1.kept hc hd,h2.kept hc hd⟩
theorem RefAt.below (h:RefAt w G S v) (hb:Below w.heap.size w w'):RefAt w' G S v:=h.kept (F:=fun _=>False) (Cb hb) (fun _ _ h=>h)
theorem RefAt.bound (h:RefAt w G S v):RefAt w (fun k=>G k∧k<w.heap.size) S v:=by obtain⟨dv,wv,rfl,⟨D,hD,hr,hG,hb⟩,⟨L,hL,hr',hG',hb'⟩⟩:=h;exact⟨dv,wv,rfl,⟨D,hD,hr,fun g e=>⟨hG g e,(Ab hr g e).2⟩,fun x hx=>(hb x hx).mono' (fun k hk h=>⟨h,hk⟩)⟩,⟨L,hL,hr',fun g e=>⟨hG' g e,(Ab hr' g e).2⟩,fun x hx=>(hb' x hx).mono' (fun k hk h=>⟨h,hk⟩)⟩⟩
theorem RefAt.mono {G':Nat→Prop} (h:RefAt w G S v) (hGG:∀k,G k→G' k):RefAt w G' S v:=by obtain⟨dv,wv,rfl,⟨D,hD,hr,hG,hb⟩,⟨L,hL,hr',hG',hb'⟩⟩:=h;exact⟨dv,wv,rfl,⟨D,hD,hr,fun g e=>hGG g (hG g e),fun x hx=>(hb x hx).mono hGG⟩,⟨L,hL,hr',fun g e=>hGG g (hG' g e),fun x hx=>(hb' x hx).mono hGG⟩⟩
theorem Fc (s:Int) (h:RefAt w G S v):
 Ca 34 #[v,.int .i64 s] w fun e w'=>e=.returned (.bool (S.has s))∧Below w.heap.size w w':=by
 obtain⟨dv,wv,rfl,hd,hw⟩:=h;obtain⟨a,cap,rfl⟩:=hd.len;obtain⟨a',cap',rfl⟩:=hw.len;clear hd hw;unfold A9;by_cases h0:0≤s
 ·by_cases h1:s<(S.dur.length:Int)
  ·have e:S.has s=true:=by simp[DS.has,h0,h1]
   rw[e];clear e;go_enter Tryz.func34,Tryz.ntmps34;go_wp2;go_ret;exact⟨rfl,Rq.alloc Lr _⟩
  ·have e:S.has s=false:=by simp[DS.has,h0,h1]
   rw[e];clear e;go_enter Tryz.func34,Tryz.ntmps34;go_wp2;go_ret;exact⟨rfl,Rq.alloc Lr _⟩
 ·have e:S.has s=false:=by simp[DS.has,h0]
  rw[e];clear e;go_enter Tryz.func34,Tryz.ntmps34;go_wp2;go_ret;exact⟨rfl,Rq.alloc Lr _⟩
variable {P:Program}{l:List UInt8}
theorem Ay {fn:Func}{p u:Tmp}{ty:TypeId} (h:fn.results=#[.cell p ty,.tmp u]) (tmps:Array Value) (w:World) (g:Nat) (t:TypeId) (cs:Array Value) (fr:Nat×Nat) (d:TypeDesc)
 (hp:tmps.getD p undef=.pointer (some ⟨g,0,none⟩)) (hg:w.heap[g]?=some (.cells cs t fr)) (hu:P.underlying ty=some d) (hd:(match d with|.struct _|.array _ _=>true|_=>false)=true) (hi:(P.info? ty).map (·.size)=some cs.size):
 (results fn tmps).run P w=.ok (.tuple #[.agg cs,tmps.getD u undef]) w:=by
 rw[results_cell_tmp h];have hp':tmps[p]?.getD undef=.pointer (some ⟨g,0,none⟩):=by simpa using hp
 simp[hp',asAddr,run_loadVar_row w g t ty cs fr d hg hu hd hi]
theorem CE:(Tryz.prog.info? 39).map (·.size)=some 5:=by kernel_rfl
theorem EZ (a a':Option Addr) (n n' cap cap':Nat) (hops:S.ops<1000000000000) (hlim:S.limit.getD 0≤9223372036854775807):
 Ca 84 #[A9 S (.slice a n cap) (.slice a' n' cap')] w fun e w'=>
  e=.returned (.tuple #[A9 S.operate.1 (.slice a n cap) (.slice a' n' cap'),.bool (!S.operate.2)])∧Below w.heap.size w w':=by
 unfold A9;cases hl:S.limit with
 |none=>
  have e1:S.operate=({S with ops:=S.ops+1},true):=by simp[DS.operate,hl]
  have e2:Au S=-1:=by simp[Au,hl]
  have e3:Au {S with ops:=S.ops+1}=-1:=by simp[Au,hl]
  rw[e1];simp only[e2,e3];clear e1 e2 e3 hl;go_enter Tryz.func84,Tryz.ntmps84;go_wp2;exact Br (Ay (g:=w.heap.size+1) rfl _ _ _ _ _ _ rfl (heap_alloc2_new _ _ _) Tryz.underlying39 rfl CE) rfl ⟨rfl,(Rq.alloc Lr _).alloc (by simp) _⟩
 |some k=>
  rw[hl]at hlim;simp only[Option.getD_some]at hlim;cases k with
  |zero=>
   have e1:S.operate=({S with down:=true},false):=by simp[DS.operate,hl]
   have e2:Au S=0:=by simp[Au,hl]
   have e3:Au {S with down:=true}=0:=by simp[Au,hl]
   rw[e1];simp only[e2,e3];clear e1 e2 e3 hl;go_enter Tryz.func84,Tryz.ntmps84;go_wp2;exact Br (Ay (g:=w.heap.size+1) rfl _ _ _ _ _ _ rfl (heap_alloc2_new _ _ _) Tryz.underlying39 rfl CE) rfl ⟨rfl,(Rq.alloc Lr _).alloc (by simp) _⟩
  |succ k=>
   have e1:S.operate=({S with limit:=some k,ops:=S.ops+1},true):=by simp[DS.operate,hl]
   obtain⟨x,hx⟩:∃x:Int,x=((k+1:Nat):Int):=⟨_,rfl⟩;have e2:Au S=x:=by rw[hx];simp[Au,hl]
   have e3:Au {S with limit:=some k,ops:=S.ops+1}=x-1:=by rw[hx];simp[Au]
   rw[e1];simp only[e2,e3];have hx1:1≤x:=by omega
   have hx2:x≤9223372036854775807:=by omega
   have hx3:(x==0)=false:=by simp;omega
   have hx4:0<x:=by omega
   clear e1 e2 e3 hl hx;go_enter Tryz.func84,Tryz.ntmps84;go_wp2;exact Br (Ay (g:=w.heap.size+1) rfl _ _ _ _ _ _ rfl (heap_alloc2_new _ _ _) Tryz.underlying39 rfl CE) rfl ⟨rfl,(Rq.alloc Lr _).alloc (by simp) _⟩
theorem BytesAt.some' (h:BytesAt w F v l) (hl:l.length=256):
 ∃g off cap,v=.slice (some ⟨g,off,none⟩) 256 cap∧F g∧g<w.heap.size∧w.rangeAt g off (bvs l):=by
 obtain⟨a,cap,rfl,hcap,hr⟩:=h;obtain⟨g,off,rfl,hF,hg,hr⟩:=hr (by intro e;rw[e]at hl;simp at hl);exact⟨g,off,cap,by rw[hl],hF,hg,hr⟩
theorem KX (l:List (Nat×List UInt8)) (s k:Nat) (hk:k<l.length):CO (l.take (k+1)) s=if l[k].1=s then some l[k].2 else CO (l.take k) s:=by
 unfold CO;rw[List.take_add_one,List.getElem?_eq_getElem hk,Option.toList_some,List.reverse_append,List.reverse_cons,List.reverse_nil,List.nil_append,List.singleton_append,List.find?_cons];by_cases h:l[k].1=s
 ·simp[h]
 ·have h2:(l[k].1==s)=false:=by simpa using h
  simp[h,h2]
theorem Gv (s:Nat) (hs:s<S.dur.length) (h:RefAt w G S v) (hok:S.ok) (hlen:S.pend.length<100000000):
 Ca 42 #[v,.int .i64 s] w fun e w'=>∃v',e=.returned v'∧w'.ownsRow w.heap.size 5 1 v' 256 (bvs (S.visible s))∧Below w.heap.size w w':=by
 obtain⟨dv,wv,rfl,hd,hw⟩:=h;obtain⟨i0,hi,hz0,hz1,hz2⟩:=info_parts CX;obtain⟨gd,capd,vs,rfl,hgd,_,hcs,hbs⟩:=hd.at s hs;obtain⟨D0,hD0⟩:=Xq (S.dur[s]);have hD0l:D0.length=256:=by rw[←hD0];exact hok.dur _ (List.getElem_mem _)
 rw[hD0]at hbs;obtain⟨gs,os,caps,rfl,_,hgs,hrs⟩:=hbs.some' hD0l;obtain⟨a',cap',rfl⟩:=hw.len;obtain⟨w1,hw1⟩:=Xq (w.alloc (.cells #[.slice (some ⟨gd,0,none⟩) S.dur.length capd,.slice a' S.pend.length cap',.int .i64 (Au S),.bool S.down,.int .i64 (S.ops:Int)] 39));have hb1:=Lq hw1;have hs1:w1.heap.size=w.heap.size+1:=by rw[←hw1,Sz]
 have hn1:=Nq hw1 rfl;have hcell:∀wx,Below w1.heap.size w1 wx→wx.cell? ⟨w.heap.size,0,none⟩=some (.slice (some ⟨gd,0,none⟩) S.dur.length capd)∧wx.cell? ⟨w.heap.size,1,none⟩=some (.slice a' S.pend.length cap'):=fun wx hb=>by have h1:wx.heap[w.heap.size]?=_:=(hb.block _ (by omega)).trans hn1;simp[World.cell?,h1]
 have hcs1:w1.cell? ⟨gd,s,none⟩=_:=(hb1.cell (p:=⟨gd,s,none⟩) hgd).trans hcs;obtain⟨HCS,HRS,HB1,HS1,HCELL,HW,HD,HDL,HOK⟩:=Hd9 hcs hrs hb1 hs1 hcell hw hD0 hD0l hok;have hb2:Below w1.heap.size w1 (w1.alloc (.cells #[] 5)):=Rq.alloc Lr _;obtain⟨q0,q1⟩:=hcell _ hb2;have hcs2:(w1.alloc (.cells #[] 5)).cell? ⟨gd,s,none⟩=_:=(hb2.cell (p:=⟨gd,s,none⟩) (by show gd<_;omega)).trans hcs1;clear hb2 hcs1 hcs hrs hb1 hs1 hcell hw hD0 hD0l hok hd hbs hn1;unfold A9;go_enter Tryz.func42,Tryz.ntmps42;go_wp2_with (at_builtin;refine wpList_append_own _ rfl _ _ 30 rfl w1.heap.size 5 i0 (.int .u8 0) 1 1 Tryz.underlying30 hi hz0 hz1 hz2 rfl (by decide) _ _ _ rfl (World.ownsRow_made w1 #[] 0 Lr (Nat.zero_le _) rfl) ⟨gs,os,none⟩ 256 caps (bvs D0) rfl ?qc1 ?qc2 ?qc3 ?qc4 ?qc5 ?qc6 ?_)
 case qc1=>rw[Ap,HDL.out]
 case qc2=>intro j u hj;rw[Dr];have:=HS1.out;exact(World.cell?_of_block (Below.heap_alloc w1 _ gs (by omega))).trans ((HB1.out.cell (p:=⟨gs,os+j,none⟩) hgs).trans (HRS.out j u hj))
 case qc3=>exact Bc
 case qc4=>unfold maxLen;omega
 case qc5=>omega
 case qc6=>simp
 intro v1 w2 hown hgrow hnil;have hb2:Below w1.heap.size w1 w2:=((Below.refl _ w1).alloc Lr _).grown hgrow (by simp) (by intro k hk;simp[Value.ownBlock]at hk;omega);have hown2:w2.ownsRow w1.heap.size 5 1 v1 256 (bvs D0):=by simpa using hown
 have HB2:=Hd hb2;have HO2:=Hd hown2;clear hown hgrow hnil hb2 hown2 q0 q1 hcs2;go_wp2_with fail;go_loopw [5,6] (fun bv i wr=>∃k:Nat,k≤S.pend.length∧i=.int .i64 k∧wr.ownsRow w1.heap.size 5 1 bv 256 (bvs ((CO (S.pend.take k) s).getD D0))∧Below w1.heap.size w1 wr)
  (fun _ i _=>S.pend.length-(intOf i).toNat)
 case atStart=>exact⟨0,Nat.zero_le _,rfl,HO2.out,HB2.out⟩
 case round=>
  obtain⟨k,hk,rfl,hO,hB⟩:=hrel;obtain⟨q0,q1⟩:=HCELL.out wr hB;have HO:=Hd hO;have HB:=Hd hB;clear hO hB;by_cases hlt:k<S.pend.length
  ·obtain⟨gw,capw,vw,e,hgw,_,hc0,hc1,hbw⟩:=HW.out.at k hlt;obtain⟨rfl,rfl⟩:a'=some ⟨gw,0,none⟩∧cap'=capw:=by simpa using e
   obtain⟨x1,x2,hx⟩:∃x1 x2,S.pend[k]=(x1,x2):=⟨_,_,rfl⟩;have hx2:x2.length=256:=(HOK.out.pend (x1,x2) (hx▸List.getElem_mem hlt)).2;rw[hx]at hc0 hbw;obtain⟨gb,ob,capb,rfl,_,hgb,hrb⟩:=hbw.some' hx2;have hkeep:∀wx,Below w1.heap.size w1 wx→∀g o,g<w.heap.size→wx.cell? ⟨g,o,none⟩=w.cell? ⟨g,o,none⟩:=fun wx hb g o hg=>(hb.cell (p:=⟨g,o,none⟩) (by have:=HS1.out;show g<_;omega)).trans (HB1.out.cell (p:=⟨g,o,none⟩) hg)
   have r0:=(hkeep wr HB.out gw (k*2) hgw).trans hc0;obtain⟨HX,HX2,HKEEP,HRB,HC1⟩:=Hd5 hx hx2 hkeep hrb hc1;have hstep:=KX S.pend s k hlt;rw[hx]at hstep;have HST:=Hd hstep;clear hx hx2 hkeep hrb hc0 hc1 hbw e hstep;by_cases hxs:x1=s
   ·subst hxs;have hb5:Below wr.heap.size wr (wr.alloc (.cells #[] 5)):=Rq.alloc Lr _;have hb6:Below w1.heap.size w1 (wr.alloc (.cells #[] 5)):=Tq HB.out hb5;obtain⟨q2,q3⟩:=HCELL.out _ hb6;have r1:=(HKEEP.out _ hb6 gw (k*2+1) hgw).trans HC1.out;clear hb5 hb6;go_wp2_with (at_builtin;refine wpList_append_own _ rfl _ _ 30 rfl wr.heap.size 5 i0 (.int .u8 0) 1 1 Tryz.underlying30 hi hz0 hz1 hz2 rfl (by decide) _ _ _ rfl (World.ownsRow_made wr #[] 0 Lr (Nat.zero_le _) rfl) ⟨gb,ob,none⟩ 256 capb (bvs x2) rfl ?qc1 ?qc2 ?qc3 ?qc4 ?qc5 ?qc6 ?_)
    case qc1=>simpa using HX2.out
    case qc2=>
     intro j u hj
     try rw[Dr]
     have:=HS1.out;have:=HB.out.size;exact(World.cell?_of_block (Below.heap_alloc wr _ gb (by omega))).trans ((HKEEP.out wr HB.out gb (ob+j) hgb).trans (HRB.out j u hj))
    case qc3=>exact Bc
    case qc4=>unfold maxLen;omega
    intro v3 w3 hown hgrow hnil;have hb3:Below wr.heap.size wr w3:=((Below.refl _ wr).alloc Lr _).grown hgrow (by simp) (by intro k hk;simp[Value.ownBlock]at hk;omega);have hown3:w3.ownsRow w1.heap.size 5 1 v3 256 (bvs x2):=by
     have h0:w3.ownsRow wr.heap.size 5 1 v3 256 (bvs x2):=by simpa using hown
     refine⟨h0.1,?_⟩;rcases h0.2 with h| ⟨g,cap,cur,e,hb,rest⟩
     ·exact .inl h
     ·exact .inr ⟨g,cap,cur,e,Nt HB.out.size hb,rest⟩
    have HB3:=Hd hb3;have HO3:=Hd hown3;clear hown hgrow hnil hb3 hown3 q0 q1 q2 q3 r0 r1;go_wp2_with fail;go_roundw
    case rel=>exact⟨k+1,by omega,by go_num,by rw[HST.out];simpa using HO3.out,Tq HB.out HB3.out⟩
    case measure=>simp[intOf];omega
   ·have hxs':¬(x1:Int)=(s:Int):=by omega
    go_wp2_with fail;go_roundw
    case rel=>exact⟨k+1,by omega,by go_num,by rw[HST.out,In hxs];exact HO.out,HB.out⟩
    case measure=>simp[intOf];omega
  ·obtain rfl :k=S.pend.length:=by omega
   go_wp2_with fail;go_ret;have hO:=HO.out;have e9:(CO S.pend s).getD D0=S.visible s:=by
    unfold DS.visible
    congr 1
    rw[←HD.out];simp[hs]
   rw[List.take_length,e9]at hO;have:=HB1.out.size;refine⟨_,rfl,⟨hO.1,?_⟩,HB1.out.trans (HB.out.mono this)⟩;rcases hO.2 with h| ⟨g,cap,cur,e,hb,rest⟩
   ·exact .inl h
   ·exact .inr ⟨g,cap,cur,e,Nt this hb,rest⟩
end Go.Proofs.YtplclpileejemaaGreatDoor
