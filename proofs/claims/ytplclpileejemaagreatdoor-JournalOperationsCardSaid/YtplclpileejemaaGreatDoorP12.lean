/- Short form (wip/zpack.py) of the texts Z6 Z7 Z12 Z13 Z14 Z15 Z16 Z8. -/
import Derived.Test.YtplclpileejemaaGreatDoorP11
set_option linter.all false
set_option maxRecDepth 100000
set_option maxHeartbeats 8000000
namespace Go.Proofs.YtplclpileejemaaGreatDoor
open Go.RowKit
variable {w w':World}{F G:Nat→Prop}{v jv:Value}{ops:Array Oper}{o:Oper}{a:Act}{Q:Exit→Act→World→Prop}{S:DS}{R:JR}{J:JD}{g f:Nat}{E:List (List UInt8)}
theorem Ge {L:List (List UInt8)}{rest:List Oper} (hgd:o.guard=none) (s x:Operand) (ho:o.op=.call {callee:=.builtin .append,args:=#[s,x],argTypes:=#[36,36]})
 (hs:a.eval s=.slice (some ⟨w.heap.size,0,none⟩) 0 0) (hx:a.eval x=v) (hM:SecsF w F v L) {n:Nat} (hn:L.length=n) (hn9:n<1000000000)
 (h:∀a' cap' w',EntsAt w' (fun k=>F k∨w.heap.size≤k) (.slice a' n cap') L→Below w.heap.size w w'→(∀k,(Value.slice a' n cap').ownBlock=some k→w.heap.size≤k)→wpList Tryz.prog ops Q rest (a.put o.dst (.slice a' n cap')) w'):
 wpList Tryz.prog ops Q (o::rest) a (w.alloc (.cells #[] 30)):=
 wpList_plain hgd fun _ hK=>Nk s x ho hs hx hM hn hn9 fun a' cap' w' h1 h2 h3=>hK _ _ (h a' cap' w' h1 h2 h3)
def C4:JD:=⟨0,0,0,[],0,0⟩
def wrJ (S:DS) (a g f:Nat) (E:List (List UInt8)):DS×Int×JD:=
 if 2147483647<g then(S,9,C4)else
  if(wrA S a g f E).2.2=0 then((wrA S a g f E).1,0,⟨g,(wrA S a g f E).2.1,f,E,f+E.length,0⟩)
  else((wrA S a g f E).1,(wrA S a g f E).2.2,C4)
theorem DH (S:DS) (R:JR) (which f:Nat) (E:List (List UInt8)):moveJ S R which f E=wrJ S (R.area which) (AA which (Ah S R.at_ R.cnt)) f E:=rfl
theorem Rb (h:S.ok):S.flush.1.ok:=by
 have h1:=Jo h;unfold DS.flush;split
 ·exact h
 split
 ·refine⟨fun x hx=>?_,(fun x hx=>by cases hx),?_⟩
  ·exact Ec h _ _ x hx
  ·show(B7 S S.pend.length).length≤_;unfold B7;rw[AV];exact h.most
 ·exact h1
theorem JZ (h:RefD w G S v) (hr:Roomy S 910000000):
 Ca 66 #[v] w fun e w'=>∃v',e=.returned (.tuple #[v',.int .i64 S.flush.2])∧RefD w' (fun k=>G k∨w.heap.size≤k) S.flush.1 v'∧Below w.heap.size w w':=by
 have h1:=hr.ops;have h2:=hr.pend;refine(P5 h.at_ h.ok (by omega) (by omega) hr.lim).mono ?_;rintro e w' ⟨v',rfl,k1,k2⟩;exact⟨v',rfl,⟨k1,Rb h.ok⟩,k2⟩
def Fx (v:Value):Prop:=∃(a0 a1 a2 a3 a4:Int) (ea:Option Addr) (en ec:Nat) (a6 a7:Int),v=.agg #[.int .i64 a0,.int .i64 a1,.int .i64 a2,.int .i64 a3,.int .i64 a4,.slice ea en ec,.int .i64 a6,.int .i64 a7]
theorem RefJ.jform (h:RefJ w G R J v):Fx v:=by obtain⟨a,cap,rfl,_⟩:=h.ex;exact⟨_,_,_,_,_,_,_,_,_,_,rfl⟩
theorem Ex:Fx (.agg #[.int .i64 0,.int .i64 0,.int .i64 0,.int .i64 0,.int .i64 0,.slice none 0 0,.int .i64 0,.int .i64 0]):=⟨_,_,_,_,_,_,_,_,_,_,rfl⟩
def RWPost (w:World) (G F:Nat→Prop) (R:JR) (Z:DS×Int×JD) (e:Ending) (w':World):Prop:=
 ∃v' jv,e=.returned (.tuple #[v',jv,.int .i64 Z.2.1])∧RefD w' (fun k=>G k∨w.heap.size≤k) Z.1 v'∧Below w.heap.size w w'∧Fx jv∧(Z.2.1=0→RefJ w' (fun k=>F k∨w.heap.size≤k) R Z.2.2 jv)
theorem RWPost.bad {G':Nat→Prop}{er:Int}{Z:DS×Int×JD} (hZ:Z=(S,er,J)) (her:er≠0) (h:RefD w' G' S v) (hG:∀k,G' k→G k∨w.heap.size≤k) (hb:Below w.heap.size w w') (hj:Fx jv):
 RWPost w G F R Z (.returned (.tuple #[v,jv,.int .i64 er])) w':=by
 subst hZ;exact⟨v,jv,rfl,h.mono hG,hb,hj,fun h0=>absurd h0 her⟩
theorem RWPost.good {G':Nat→Prop}{Z:DS×Int×JD} (hZ:Z=(S,0,J)) (h:RefD w' G' S v) (hG:∀k,G' k→G k∨w.heap.size≤k) (hb:Below w.heap.size w w') (hj:RefJ w' (fun k=>F k∨w.heap.size≤k) R J jv):
 RWPost w G F R Z (.returned (.tuple #[v,jv,.int .i64 0])) w':=by
 subst hZ;exact⟨v,jv,rfl,h.mono hG,hb,hj.jform,fun _=>hj⟩
def PutM (P:DS×Nat×Int) (a tot:Nat) (rest:List RecD) (T:DS) (u:Nat) (er:Int):Prop:=
 (er=0∧putR T a u rest=P∧u+(Ar rest).length≤tot∧Roomy T (910000001+(Ar rest).length))∨(er≠0∧P.1=T∧P.2.2=er)
theorem PutM.step {P:DS×Nat×Int}{a tot u:Nat}{r:RecD}{rest:List RecD}{T:DS} (h:PutM P a tot (r::rest) T u 0) (hr:As r=0) {X:DS×Int} (hX:wrL T (a+u) (Ac r)=X):
 PutM P a tot rest X.1 (u+(if X.2=0 then(Ac r).length else 0)) X.2∧u+(Ac r).length≤tot∧Roomy T (910000000+(Ac r).length):=by
 have hl:=AL hr;rcases h with⟨_,h1,h2,h3⟩| ⟨h1,_⟩
 ·rw[BP,List.length_append]at h2 h3;refine⟨?_,by omega,h3.less (by omega)⟩;by_cases h0:X.2=0
  ·rw[Ip h0];refine .inl ⟨h0,?_,by omega,?_⟩
   ·rw[←h1,putR,hX,Ip h0,hl]
   ·rw[←hX];exact FP (h3.less (by omega))
  ·refine .inr ⟨h0,?_,?_⟩<;>rw[←h1,putR,hX,In h0]
 ·exact absurd rfl h1
theorem Fy {a:Nat}{P:DS×Nat×Int} (hg:¬2147483647<g) (h:putR S a 0 (AG g f E)=P) (he:P.2.2≠0):wrJ S a g f E=(P.1,P.2.2,C4):=by unfold wrJ wrA;rw[In hg,h,In he,In he]
theorem Ey {a:Nat}{P:DS×Nat×Int} (hg:¬2147483647<g) (h:putR S a 0 (AG g f E)=P) (h0:P.2.2=0) (he:P.1.flush.2≠0):wrJ S a g f E=(P.1.flush.1,P.1.flush.2,C4):=by unfold wrJ wrA;rw[In hg,h,Ip h0,In he,In he]
theorem G9 {a:Nat}{P:DS×Nat×Int} (hg:¬2147483647<g) (h:putR S a 0 (AG g f E)=P) (h0:P.2.2=0) (he:P.1.flush.2=0):wrJ S a g f E=(P.1.flush.1,0,⟨g,P.2.1,f,E,f+E.length,0⟩):=by unfold wrJ wrA;rw[In hg,h,Ip h0,Ip he,Ip rfl]
theorem Ez (hD:RefD w G S v) (R:JR) (which g fi:Nat) (hwh:which≤1) (hg2:g%2=which) {E:List (List UInt8)} {xa:Option Addr} {xc:Nat} (hE:SecsF w F (.slice xa E.length xc) E)
 (hlim:JLw 0 fi E) (hn9:E.length≤100000) (hf9:fi≤4294967296) (hg9:g≤4000000000) (ha:R.area which+(Ar (AG g fi E)).length≤4096) (hr9:R.at_≤4096∧R.half≤4096) (hroom:Roomy S (910000001+(Ar (AG g fi E)).length)):
 Ca 58 #[v,.int .i64 (R.at_:Int),.int .i64 (R.half:Int),.int .i64 g,.int .i64 fi,.slice xa E.length xc] w (RWPost w G F R (wrJ S (R.area which) g fi E)):=by
 obtain⟨da,dn,dc,dd,dm,de,dl,db,dz,rfl⟩:=hD.form;obtain⟨ar,har⟩:=Xq (R.area which);have HARE:=Hd har;obtain⟨Z,hZ⟩:=Xq (wrJ S (R.area which) g fi E);rw[hZ];rw[har]at ha hZ;have hE0:=hE.form;obtain⟨at_,hat⟩:∃x,R.at_=x:=⟨_,rfl⟩;obtain⟨hh,hhh⟩:∃x,R.half=x:=⟨_,rfl⟩;have hArI:(at_:Int)+(g:Int)%2*(hh:Int)=(ar:Int)∧(g:Int)%2*(hh:Int)≤4096∧0≤(g:Int)%2*(hh:Int):=by
  have e:(g:Int)%2=(which:Int):=by omega
  rw[e];unfold JR.area at har;rw[hat,hhh]at har;rcases(show which=0∨which=1 by omega)with rfl |rfl <;>simp at har⊢<;>omega
 rw[hat,hhh]at hr9⊢;have HRA:=Hd hat;have HRH:=Hd hhh;obtain⟨n,hn⟩:=Xq (E.length);have HEN:=Hd hn;rw[hn]at hn9 hE⊢;obtain⟨w1,hw1⟩:=Xq (w.alloc (.cells #[.slice da dn dc,.slice dd dm de,.int .i64 dl,.bool db,.int .i64 dz] 39));obtain⟨w2,hw2⟩:=Xq (w1.alloc (.cells #[.slice none 0 0,.slice none 0 0,.int .i64 0,.bool false,.int .i64 0] 39));obtain⟨w3,hw3⟩:=Xq (w2.alloc (.cells #[.int .i64 0,.int .i64 0,.int .i64 0,.int .i64 0,.int .i64 0,.slice none 0 0,.int .i64 0,.int .i64 0] 41));have hb1:=Lq hw1;have hb2:=Lq hw2;have hb3:=Lq hw3;obtain⟨q6,hq6⟩:∃q,w.heap.size=q:=⟨_,rfl⟩;have hs1:w1.heap.size=q6+1:=by rw[←hw1,Sz,hq6]
 have hs2:w2.heap.size=q6+2:=by rw[←hw2,Sz,hs1]
 have hs3:w3.heap.size=q6+3:=by rw[←hw3,Sz,hs2]
 have hx6:w3.heap[q6]?=some (.cells #[.slice da dn dc,.slice dd dm de,.int .i64 dl,.bool db,.int .i64 dz] 39 (0,0)):=(hb3.block q6 (by omega)).trans ((hb2.block q6 (by omega)).trans (by rw[←hq6,←hw1];exact Hn));have hx12:w3.heap[q6+1]?=some (.cells #[.slice none 0 0,.slice none 0 0,.int .i64 0,.bool false,.int .i64 0] 39 (0,0)):=(hb3.block (q6+1) (by omega)).trans (by rw[←hs1,←hw2];exact Hn);have hx13:w3.heap[q6+2]?=some (.cells #[.int .i64 0,.int .i64 0,.int .i64 0,.int .i64 0,.int .i64 0,.slice none 0 0,.int .i64 0,.int .i64 0] 41 (0,0)):=by rw[←hs2,←hw3];exact Hn
 have hbw3:Below w.heap.size w w3:=hb1.trans ((hb2.mono hb1.size).trans (hb3.mono (Nt hb1.size hb2.size)));obtain⟨HW1,HW2,HW3,HQ,HS1,HS2,HS3,HB3,HX6,HX12,HX13,HRD,HEW,HROOM⟩:=Hd14 hw1 hw2 hw3 hq6 hs1 hs2 hs3 hbw3 hx6 hx12 hx13 ((hD.bound.below hbw3).mono (G':=fun k=>(G k∧k<q6)∨q6+3≤k) (fun k h=>.inl ⟨h.1,by rw[←hq6];exact h.2⟩)) ((hE.bound.below hbw3).weak (G:=fun k=>F k∧k<q6) (fun k _ h=>⟨h.1,by rw[←hq6];exact h.2⟩)) hroom;have HZ:=Hd hZ;have HLIM:=Hd hlim;clear hD hE hw1 hw2 hw3 hb1 hb2 hb3 hs1 hs2 hs3 hx6 hx12 hx13 hbw3 hq6 hroom hZ hlim hn hat hhh har;obtain⟨k0,k1,k2,k3,k4⟩:=Cr5 (HX6.out);go_enter Tryz.func58,Tryz.ntmps58;by_cases hbig:2147483647<g
 ·have hbI:(2147483647:Int)<(g:Int):=by omega
  have HS5:=Hd (show q6+3≤q6+3 from Nat.le_refl _);have HZB:=Hd (show Z=(S,9,C4) by rw[←HZ.out];unfold wrJ;rw[Ip hbig]);go_upto_region 2 with(fail)
  rw[HW1.out,HW2.out,HW3.out]
  try rw[HS2.out]
  try rw[HS1.out]
  try rw[HQ.out]
  go_wp2_with (refine Pl 39 12 22 (q6+1) HX12.out ?_;refine Stop.on ?_)
  refine Stop.go ?_
  try simp only[P0,P1,P2,P3,P4]
  intro B1 x12 c12 s12
  try simp only[P0,P1,P2,P3,P4]
  have hx13:=Ck c12 HX13.out;go_wp2_with (refine Pl 41 13 23 (q6+2) hx13 ?_;refine Stop.on ?_)
  refine Stop.go ?_
  try simp only[P0,P1,P2,P3,P4]
  intro B2 x13 c13 s13
  try simp only[P0,P1,P2,P3,P4]
  have x12:=Ck c13 x12;have hcb:=(c12.mono (G:=fun k=>k=q6+1∨k=q6+2) (fun k e=>.inl e)).trans (c13.mono (G:=fun k=>k=q6+1∨k=q6+2) (fun k e=>.inr e)) (fun k e=>.inl e);have HRE:=Hd (HRD.out.kept hcb (fun k h e=>by have h1:=HS5.out;rcases h with h|h<;>omega));have HBE:=Hd (HB3.out.trans (hcb.below (B:=w.heap.size) (fun k e=>by have:=HQ.out;omega) HB3.out.size));obtain⟨y0,y1,y2,y3,y4⟩:=Cr5 x12;obtain⟨z0,z1,z2,z3,z4,z5,z6,z7⟩:=Cr8 x13;clear x12 x13 c12 c13 s12 s13 hx13 hcb;go_wp2_with fail;exact Bv (hr:=by simp[go_sem,y0,y1,y2,y3,y4,z0,z1,z2,z3,z4,z5,z6,z7]) (.tuple #[.agg #[.slice da dn dc,.slice dd dm de,.int .i64 dl,.bool db,.int .i64 dz],.agg #[.int .i64 0,.int .i64 0,.int .i64 0,.int .i64 0,.int .i64 0,.slice none 0 0,.int .i64 0,.int .i64 0],.int .i64 9]) (RWPost.bad (J:=C4) HZB.out (by decide) HRE.out (fun k h=>h.elim (fun h=>.inl h.1) (fun h=>.inr (by have h1:=HS5.out;have h2:=HQ.out;omega))) HBE.out Ex)
 have hbI:¬(2147483647:Int)<(g:Int):=by omega
 have hw1:=Iw ((fi:Int)+(n:Int));go_upto_region 3 with(fail)
 rw[HW1.out,HW2.out,HW3.out]
 try rw[HS2.out]
 try rw[HS1.out]
 try rw[HQ.out]
 go_wp2_with (at_builtin;refine Ge rfl (.tmp 28) (.tmp 29) rfl rfl rfl HEW.out HEN.out (by omega) ?_;refine Stop.on ?_)
 refine Stop.go ?_
 try simp only[P0,P1,P2,P3,P4]
 intro ea ec w4 he4 hb4 ho4
 try simp only[P0,P1,P2,P3,P4]
 go_wp2_with (refine Pl 41 15 35 _ (Hn) ?_;refine Stop.on ?_)
 refine Stop.go ?_
 try simp only[P0,P1,P2,P3,P4]
 intro w5 x5 c5 s5
 try simp only[P0,P1,P2,P3,P4]
 obtain⟨q15,hq15⟩:∃q,w4.heap.size=q:=⟨_,rfl⟩;rw[hq15]at x5 c5⊢;rw[Sz,hq15]at s5;have hb45:Below w4.heap.size w4 w5:=(Rq.alloc Lr _).trans (c5.below (fun k e=>by omega) (by rw[Sz];omega));have hb35:Below w3.heap.size w3 w5:=Tq hb4 hb45;have h35:q6+3≤q15:=by have h1:=hb4.size;have h2:=HS3.out;omega
 obtain⟨HS5,HB5,HX65,HX125,HX135,HX155,HE5,HRD5,HEW5,HSZ5⟩:=Hd10 (show q6+3≤w5.heap.size by omega) (Tq HB3.out hb35) ((hb35.block q6 (by have:=HS3.out;omega)).trans HX6.out) ((hb35.block (q6+1) (by have:=HS3.out;omega)).trans HX12.out) ((hb35.block (q6+2) (by have:=HS3.out;omega)).trans HX13.out) (show w5.heap[q15]?=some (.cells #[.int .i64 at_,.int .i64 hh,.int .i64 g,.int .i64 ((0:Nat):Int),.int .i64 fi,.slice ea n ec,.int .i64 ((fi:Int)+(n:Int)),.int .i64 0] 41 (0,0))from x5) (show EntsAt w5 (fun k=>((F k∧k<q6)∨q6+3≤k)∧k<q15) (.slice ea n ec) E from(he4.weak (G:=fun k=>((F k∧k<q6)∨q6+3≤k)∧k<q15) (fun k h1 h2=>⟨h2.elim .inl (fun h=>.inr (by have:=HS3.out;omega)),by omega⟩)).below hb45) ((HRD.out.bound.mono (G':=fun k=>(G k∧k<q6)∨(q6+3≤k∧k≠q15)) (fun k h=>h.1.elim .inl (fun h2=>by have h3:=h.2;have h4:=HS3.out;omega))).below hb35) (HEW.out.below hb35) s5;clear he4 hb4 ho4 x5 c5 s5 hq15 hb45 hb35 hw1 k0 k1 k2 k3 k4;have HL:=Hd (HLIM.out.with (g:=g) (by omega));have HRC:=Hd (show AG g fi E=⟨1,g,0,BJ fi n⟩::E.mapIdx (fun i b=>AI g (i+1) b) by unfold AG;rw[HEN.out]);have HMEM:=Hd (show∀r∈AG g fi E,As r=0 from HL.out.recs.mem);obtain⟨rs,hrs⟩:=Xq (AG g fi E);rw[hrs]at HRC HMEM ha;have HLEN:=Hd (show rs.length=n+1 by rw[HRC.out,List.length_cons,List.length_mapIdx,HEN.out]);obtain⟨P,hP⟩:=Xq (putR S ar 0 rs);have HPP:=Hd (show putR S ar 0 (AG g fi E)=P by rw[hrs];exact hP);obtain⟨tot,htot⟩:∃t,(Ar rs).length=t:=⟨_,rfl⟩;have HM0:=Hd (show PutM P ar tot (⟨1,g,0,BJ fi n⟩::E.mapIdx (fun i b=>AI g (i+1) b)) S 0 0 from .inl ⟨rfl,by rw[←HRC.out];exact hP,by rw[←HRC.out,htot];omega,by rw[←HRC.out];have h1:=HROOM.out;rw[hrs]at h1;exact h1⟩);rw[htot]at ha;obtain⟨hb,hhb⟩:=Xq (BJ fi n);have HHB:=Hd (show beL 8 fi++beL 8 n=hb from hhb);have HHL:=Hd (show hb.length=16 by rw[←hhb];exact Cu fi n);rw[hhb]at HM0 HRC;have HH0:=Hd (show As ⟨1,g,0,hb⟩=0 from HMEM.out _ (by rw[HRC.out];exact List.mem_cons_self ..));obtain⟨X,hX⟩:=Xq (wrL S (ar+0) (Ac ⟨1,g,0,hb⟩));obtain⟨hm1,hu1,hro1⟩:=HM0.out.step HH0.out hX;obtain⟨nn,hnn⟩:=Xq ((Ac ⟨1,g,0,hb⟩).length);rw[hnn]at hm1 hu1 hro1;have HPUT:=Hd (fun(W:World) (hW:Below w5.heap.size w5 W) (D:Nat→Prop) (a5:Option Addr) (c5:Nat) (hv:BytesN W D (.slice a5 16 c5) hb)=>show Ca 64 #[.agg #[.slice da dn dc,.slice dd dm de,.int .i64 dl,.bool db,.int .i64 dz],.int .i64 ar,.int .i64 1,.int .i64 g,.int .i64 0,.slice a5 16 c5] W (PutPost W (fun k=>(G k∧k<q6)∨(q6+3≤k∧k≠q15)) X nn)from by have h:Ca 64 #[.agg #[.slice da dn dc,.slice dd dm de,.int .i64 dl,.bool db,.int .i64 dz],.int .i64 ar,.int .i64 1,.int .i64 g,.int .i64 0,.slice a5 hb.length c5] W (PutPost W (fun k=>(G k∧k<q6)∨(q6+3≤k∧k≠q15)) (wrL S ar (Ac ⟨1,g,0,hb⟩)) (Ac ⟨1,g,0,hb⟩).length):=G8 (HRD5.out.below hW) ar ⟨1,g,0,hb⟩ HH0.out (by show BytesN W D (.slice a5 hb.length c5) hb;rw[HHL.out];exact hv) (by rw[hnn];omega) (by rw[hnn];exact hro1);rw[HHL.out,hnn,show wrL S ar (Ac ⟨1,g,0,hb⟩)=X from hX]at h;exact h)
 obtain⟨k1,hk1⟩:∃k1:Nat,(if X.2=0 then nn else 0)=k1:=⟨_,rfl⟩;have HK1:=Hd (show(if X.2=0 then(nn:Int)else 0)=(k1:Int) by rw[←hk1];split <;>rfl);rw[hk1,Nat.zero_add]at hm1;have HM1:=Hd hm1;have hk1b:k1≤4096:=by rw[←hk1];split <;>omega
 obtain⟨X1,X2⟩:=X;simp only at HK1 HM1 HPUT;have HCE:=Hd (fun w' (hw':Below w5.heap.size w5 w')=>by have h1:=((hw'.block q6 (by have:=HSZ5.out;omega)).trans HX65.out);exact Cr5 h1);have hwa:=Iw ((g:Int)%2*(hh:Int));have hwb:IntKind.i64.wrap ((at_:Int)+(g:Int)%2*(hh:Int))=(ar:Int):=by rw[hArI.1];exact IntWalk.i64_in _ (by omega)
 clear hrs hP htot hhb hX hnn hk1 hm1 hro1;go_wp2_with fail;refine bG [14,15,16] ?_;intro wd hd0;have hS0:=hd0;refine BV 0 HCE.out hS0 ?_;refine tkP 1 hS0 ?_;refine tkP 2 hS0 ?_;refine tkP 3 hS0 ?_;refine tkP 5 hS0 ?_;refine tkP 6 hS0 ?_;refine dG 4 fun K hK=>?_
 go_simp;go_at_call 79;refine(Iq fi (by omega)).mono ?_;rintro e Va ⟨u1,rfl,ho1,hb1⟩;obtain⟨ua,uc,rfl⟩:=Ag ho1;have hba:=Tq hS0 hb1;have hoa:=Am ho1 hS0.size;refine Kq hK hba ?_;refine dG 7 fun K hK=>?_
 go_simp;go_at_call 79;refine(Iq n (by omega)).mono ?_;rintro e Vb ⟨u2,rfl,ho2,hb2⟩;obtain⟨g2,c2,rfl,_⟩:=AZ ho2 (by omega);have hbb:=Tq hba hb2;have ho2':Vb.ownsRow Va.heap.size 5 1 (.slice (some ⟨g2,0,none⟩) 8 c2) (beL 8 n).length (bvs (beL 8 n)):=by rw[CD];exact ho2
 have hx2:=(Bk ho2').at_;have hoa2:=An hoa hb2;refine Kq hK hbb ?_;refine dG 8 fun K hK=>?_
 refine Ej (n:=8) (m:=8) (N:=16) (.tmp 47) (.tmp 50) rfl rfl hoa2 rfl hx2 rfl (by omega) (by omega) hbb.size ?_;intro a5 c5 Vc ho5 hg5;have hbc:=hbb.grown hg5 hbb.size (fun k hk=>(Ab hoa2 k hk).1);have ho5':Vc.ownsRow w5.heap.size 5 1 (.slice a5 16 c5) hb.length (bvs hb):=by rw[HHL.out,←HHB.out];exact ho5
 have hv5:=Bk ho5';refine Kq hK hbc ?_;refine dG 9 fun K hK=>?_
 go_simp;go_at_call 64;refine(HPUT.out Vc hbc _ a5 c5 hv5).mono ?_;rintro e Vd ⟨v',rfl,hrd,hbd⟩;rw[HK1.out];obtain⟨fa,fn,fc,fd,fm,fe,fl,fb,fz,rfl⟩:=hrd.form;have hbe:=Tq hbc hbd;refine Kq hK hbe ?_;refine tkP 10 hbe ?_;refine tkP 11 hbe ?_;refine tkP 12 hbe ?_;refine tkP 13 hbe ?_;refine dGf 14 fun K hK=>?_
 refine Pv 39 6 53 q6 ((hbe.block q6 (by have:=HSZ5.out;omega)).trans HX65.out) ?_;intro V1 x1 c1 s1;refine Kr hK ?_;refine dGf 15 fun K hK=>?_
 go_simp;refine Kr hK ?_;refine dGf 16 fun K hK=>?_
 go_simp;refine Kr hK ?_;refine eG ?_;obtain⟨HRT1,HX61,HC1,HX151⟩:=Hd4 ((hrd.mono (G':=fun k=>(G k∧k<q6)∨(q6+3≤k∧k≠q15)) (fun k h=>h.elim id (fun h=>.inr (by have h1:=hbc.size;have h2:=HSZ5.out;omega)))).kept c1 (fun k h e=>by have h1:=HS5.out;rcases h with h|h<;>omega)) (show V1.heap[q6]?=some (.cells #[.slice fa fn fc,.slice fd fm fe,.int .i64 fl,.bool fb,.int .i64 fz] 39 (0,0))from x1) ((Cb (F:=fun k=>k=q6∨k=q15) hbe).trans (c1.mono (G:=fun k=>k=q6∨k=q15) (fun k e=>.inl e)) (fun k e=>.inl e)) ((c1.block q15 (by have h1:=hbe.size;have h2:=HSZ5.out;omega) (by omega)).trans ((hbe.block q15 (by have:=HSZ5.out;omega)).trans HX155.out));clear hrd x1 c1 s1 hbe hbd hbc hbb hba hb1 hb2 hd0 hS0 ho1 ho2 ho2' ho5 ho5' hoa hoa2 hg5 hv5 hx2 hwa hwb;go_wp2_with (refine Az rfl rfl 3 (.tmp 57) (.tmp 56) rfl q15 3 (.int .i64 k1) rfl rfl HX151.out (by show 3<8;decide) rfl (by kernel_rfl) ?_;refine Stop.on ?_)
 refine Stop.go ?_
 try simp only[P0,P1,P2,P3,P4]
 intro V2 x2 c2 s2
 try simp only[P0,P1,P2,P3,P4]
 obtain⟨HX62,HX152,HC2,HRT2,HM2⟩:=Hd5 (Ck c2 HX61.out) (show V2.heap[q15]?=some (.cells #[.int .i64 at_,.int .i64 hh,.int .i64 g,.int .i64 k1,.int .i64 fi,.slice ea n ec,.int .i64 ((fi:Int)+(n:Int)),.int .i64 0] 41 (0,0))from x2) (HC1.out.trans (c2.mono (G:=fun k=>k=q6∨k=q15) (fun k e=>.inr e)) (fun k e=>.inl e)) (HRT1.out.kept c2 (fun k h e=>by rcases h with h|h<;>omega)) (show PutM P ar tot (rs.drop (0+1)) X1 k1 X2 by rw[HRC.out];exact HM1.out);clear x2 c2 s2 HRT1 HX61 HC1 HX151 HCE HPUT HM1 HM0 HRD5;go_wp2_with fail;go_loopw [17,18,19] (fun nv ev iv wr=>∃(i:Nat) (T:DS) (u kn:Nat) (er:Int) (da:Option Addr) (dn dc:Nat) (dd:Option Addr) (dm de:Nat) (dl:Int) (db:Bool) (dz:Int),i≤n∧u≤4096∧iv=.int .i64 i∧ev=.int .i64 er∧nv=.int .i64 kn∧Hid (PutM P ar tot (rs.drop (i+1)) T u er)∧Hid (RefD wr (fun k=>(G k∧k<q6)∨(q6+3≤k∧k≠q15)) T (.agg #[.slice da dn dc,.slice dd dm de,.int .i64 dl,.bool db,.int .i64 dz]))∧Hid (wr.heap[q6]?=some (.cells #[.slice da dn dc,.slice dd dm de,.int .i64 dl,.bool db,.int .i64 dz] 39 (0,0)))∧Hid (wr.heap[q15]?=some (.cells #[.int .i64 at_,.int .i64 hh,.int .i64 g,.int .i64 u,.int .i64 fi,.slice ea n ec,.int .i64 ((fi:Int)+(n:Int)),.int .i64 0] 41 (0,0)))∧Hid (Chg (fun k=>k=q6∨k=q15) w5 wr)) (fun _ _ iv _=>n-(intOf iv).toNat)
 case atStart=>exact⟨0,X1,k1,k1,X2,_,_,_,_,_,_,_,_,_,Nat.zero_le _,hk1b,rfl,rfl,rfl,HM2,HRT2,HX62,HX152,HC2⟩
 case round=>
  clear HM2 HRT2 HX62 HX152 HC2;obtain⟨i,T,u,kn,er,da,dn,dc,dd,dm,de,dl,db,dz,hi,hub,rfl,rfl,rfl,HM,HRT,HX6,HX15,HCR⟩:=hrel;obtain⟨V0,rfl⟩:∃V0,V0=wr:=⟨_,rfl⟩;obtain⟨HX12,HX13,HBV,HEV⟩:=Hd4 ((HCR.out.block (q6+1) (by have:=HS5.out;omega) (by omega)).trans HX125.out) ((HCR.out.block (q6+2) (by have:=HS5.out;omega) (by omega)).trans HX135.out) (HB5.out.trans (HCR.out.below (B:=w.heap.size) (fun k e=>by have:=HQ.out;omega) HB5.out.size)) (HE5.out.chg HCR.out (fun k _ h e=>by have:=h.2;have:=h.1;rcases this with h1|h1<;>omega));obtain⟨k0,k1,k2,k3,k4⟩:=Cr5 (HX6.out);obtain⟨j0,j1,j2,j3,j4,j5,j6,j7⟩:=Cr8 (HX15.out);by_cases her:er=0
  case neg=>
   have hp:P.1=T∧P.2.2=er:=by
    rcases HM.out with⟨h0,_⟩| ⟨_,h1⟩
    ·exact absurd h0 her
    ·exact h1
   have HZB:=Hd (show Z=(T,er,C4) by rw[←HZ.out,Fy hbig HPP.out (by rw[hp.2];exact her),hp.1,hp.2]);have HER:=Hd her;have hd1:(er==0)=false:=by simpa using her
   have hd2:(er !=0)=true:=by simpa using her
   clear hp her;by_cases hlt:i<n
   ·have hiI:(i:Int)<(n:Int):=by omega
    go_wp2_with (refine Pl 39 12 99 (q6+1) HX12.out ?_;refine Stop.on ?_)
    refine Stop.go ?_
    try simp only[P0,P1,P2,P3,P4]
    intro B1 x12 c12 s12
    try simp only[P0,P1,P2,P3,P4]
    have hx13:=Ck c12 HX13.out;go_wp2_with (refine Pl 41 13 100 (q6+2) hx13 ?_;refine Stop.on ?_)
    refine Stop.go ?_
    try simp only[P0,P1,P2,P3,P4]
    intro B2 x13 c13 s13
    try simp only[P0,P1,P2,P3,P4]
    have x12:=Ck c13 x12;have hcb:=(c12.mono (G:=fun k=>k=q6+1∨k=q6+2) (fun k e=>.inl e)).trans (c13.mono (G:=fun k=>k=q6+1∨k=q6+2) (fun k e=>.inr e)) (fun k e=>.inl e);have HRE:=Hd (HRT.out.kept hcb (fun k h e=>by have h1:=HS5.out;rcases h with h|h<;>omega));have HBE:=Hd (HBV.out.trans (hcb.below (B:=w.heap.size) (fun k e=>by have:=HQ.out;omega) HBV.out.size));obtain⟨y0,y1,y2,y3,y4⟩:=Cr5 x12;obtain⟨z0,z1,z2,z3,z4,z5,z6,z7⟩:=Cr8 x13;clear x12 x13 c12 c13 s12 s13 hx13 hcb;go_wp2_with fail;exact Bv (hr:=by simp[go_sem,y0,y1,y2,y3,y4,z0,z1,z2,z3,z4,z5,z6,z7]) (.tuple #[.agg #[.slice da dn dc,.slice dd dm de,.int .i64 dl,.bool db,.int .i64 dz],.agg #[.int .i64 0,.int .i64 0,.int .i64 0,.int .i64 0,.int .i64 0,.slice none 0 0,.int .i64 0,.int .i64 0],.int .i64 er]) (RWPost.bad (J:=C4) HZB.out HER.out HRE.out (fun k h=>h.elim (fun h=>.inl h.1) (fun h=>.inr (by have h1:=HS5.out;have h2:=HQ.out;omega))) HBE.out Ex)
   ·have hiI:¬(i:Int)<(n:Int):=by omega
    go_wp2_with (refine Pl 39 12 99 (q6+1) HX12.out ?_;refine Stop.on ?_)
    refine Stop.go ?_
    try simp only[P0,P1,P2,P3,P4]
    intro B1 x12 c12 s12
    try simp only[P0,P1,P2,P3,P4]
    have hx13:=Ck c12 HX13.out;go_wp2_with (refine Pl 41 13 100 (q6+2) hx13 ?_;refine Stop.on ?_)
    refine Stop.go ?_
    try simp only[P0,P1,P2,P3,P4]
    intro B2 x13 c13 s13
    try simp only[P0,P1,P2,P3,P4]
    have x12:=Ck c13 x12;have hcb:=(c12.mono (G:=fun k=>k=q6+1∨k=q6+2) (fun k e=>.inl e)).trans (c13.mono (G:=fun k=>k=q6+1∨k=q6+2) (fun k e=>.inr e)) (fun k e=>.inl e);have HRE:=Hd (HRT.out.kept hcb (fun k h e=>by have h1:=HS5.out;rcases h with h|h<;>omega));have HBE:=Hd (HBV.out.trans (hcb.below (B:=w.heap.size) (fun k e=>by have:=HQ.out;omega) HBV.out.size));obtain⟨y0,y1,y2,y3,y4⟩:=Cr5 x12;obtain⟨z0,z1,z2,z3,z4,z5,z6,z7⟩:=Cr8 x13;clear x12 x13 c12 c13 s12 s13 hx13 hcb;go_wp2_with fail;exact Bv (hr:=by simp[go_sem,y0,y1,y2,y3,y4,z0,z1,z2,z3,z4,z5,z6,z7]) (.tuple #[.agg #[.slice da dn dc,.slice dd dm de,.int .i64 dl,.bool db,.int .i64 dz],.agg #[.int .i64 0,.int .i64 0,.int .i64 0,.int .i64 0,.int .i64 0,.slice none 0 0,.int .i64 0,.int .i64 0],.int .i64 er]) (RWPost.bad (J:=C4) HZB.out HER.out HRE.out (fun k h=>h.elim (fun h=>.inl h.1) (fun h=>.inr (by have h1:=HS5.out;have h2:=HQ.out;omega))) HBE.out Ex)
  subst her;by_cases hlt:i<n
  case neg=>
   obtain rfl :n=i:=by omega
   have hp:putR T ar u []=P:=by
    rcases HM.out with⟨_,h0,_⟩| ⟨h0,_⟩
    ·rwa [List.drop_of_length_le (by rw[HLEN.out];exact Nat.le_refl _)]at h0
    ·exact absurd rfl h0
   have HRM:=Hd (show Roomy T 910000000 by
    rcases HM.out with⟨_,_,_,h0⟩| ⟨h0,_⟩
    ·exact h0.less (by omega)
    ·exact absurd rfl h0)
   have HPE:=Hd (show P=(T,u,0)from hp.symm);obtain⟨Y,hY⟩:=Xq (T.flush);have HFL:=Hd (JZ HRT.out HRM.out);have HZG:=Hd (show Y.2=0→Z=(Y.1,0,⟨g,u,fi,E,fi+E.length,0⟩)from fun h0=>by have h1:=G9 hbig HPP.out (by rw[HPE.out]) (by rw[HPE.out];show T.flush.2=0;rw[hY];exact h0);rw[←HZ.out,h1,HPE.out,←hY])
   have HZB:=Hd (show Y.2≠0→Z=(Y.1,Y.2,C4)from fun h0=>by have h1:=Ey hbig HPP.out (by rw[HPE.out]) (by rw[HPE.out];show T.flush.2≠0;rw[hY];exact h0);rw[←HZ.out,h1,HPE.out,←hY])
   rw[hY]at HFL;obtain⟨T2,er⟩:=Y;simp only at HFL HZG HZB;clear hp hY;go_wp2_with fail;refine HFL.out.mono ?_;rintro e V1 ⟨v',rfl,hrd,hb1⟩;obtain⟨fa,fn,fc,fd,fm,fe,fl,fb,fz,rfl⟩:=hrd.form;clear k0 k1 k2 k3 k4 j0 j1 j2 j3 j4 j5 j6 j7;go_wp2_with (refine Pl 39 6 95 q6 (Bq hb1 HX6.out) ?_;refine Stop.on ?_)
   refine Stop.go ?_
   try simp only[P0,P1,P2,P3,P4]
   intro V2 x2 c2 s2
   try simp only[P0,P1,P2,P3,P4]
   have hc2:Chg (fun k=>k=q6) V0 V2:=(Cb (F:=fun k=>k=q6) hb1).trans c2 (fun k e=>.inl e);obtain⟨HRT2,HX62,HX122,HX132,HX152,HBV2,HEV2⟩:=Hd7 ((hrd.mono (G':=fun k=>(G k∧k<q6)∨(q6+3≤k∧k≠q15)) (fun k h=>h.elim id (fun h=>.inr (by have h1:=HCR.out.size;have h2:=HSZ5.out;omega)))).kept c2 (fun k h e=>by have h1:=HS5.out;rcases h with h|h<;>omega)) (show V2.heap[q6]?=some (.cells #[.slice fa fn fc,.slice fd fm fe,.int .i64 fl,.bool fb,.int .i64 fz] 39 (0,0))from x2) (Ck hc2 HX12.out) (Ck hc2 HX13.out) (Ck hc2 HX15.out) (HBV.out.trans (hc2.below (B:=w.heap.size) (fun k e=>by have:=HQ.out;omega) HBV.out.size)) (HEV.out.chg hc2 (fun k _ h e=>by have:=h.2;have:=h.1;rcases this with h1|h1<;>omega));clear hrd x2 c2 s2 hb1 hc2 HRT HX6 HX12 HX13 HX15 HBV HEV;by_cases her:er=0
   case neg=>
    have HZB2:=Hd (HZB.out her);have HER:=Hd her;have hd2:(er !=0)=true:=by simpa using her
    clear her;obtain⟨k0,k1,k2,k3,k4⟩:=Cr5 (HX62.out);go_wp2_with (refine Pl 39 12 99 (q6+1) HX122.out ?_;refine Stop.on ?_)
    refine Stop.go ?_
    try simp only[P0,P1,P2,P3,P4]
    intro B1 x12 c12 s12
    try simp only[P0,P1,P2,P3,P4]
    have hx13:=Ck c12 HX132.out;go_wp2_with (refine Pl 41 13 100 (q6+2) hx13 ?_;refine Stop.on ?_)
    refine Stop.go ?_
    try simp only[P0,P1,P2,P3,P4]
    intro B2 x13 c13 s13
    try simp only[P0,P1,P2,P3,P4]
    have x12:=Ck c13 x12;have hcb:=(c12.mono (G:=fun k=>k=q6+1∨k=q6+2) (fun k e=>.inl e)).trans (c13.mono (G:=fun k=>k=q6+1∨k=q6+2) (fun k e=>.inr e)) (fun k e=>.inl e);have HRE:=Hd (HRT2.out.kept hcb (fun k h e=>by have h1:=HS5.out;rcases h with h|h<;>omega));have HBE:=Hd (HBV2.out.trans (hcb.below (B:=w.heap.size) (fun k e=>by have:=HQ.out;omega) HBV2.out.size));obtain⟨y0,y1,y2,y3,y4⟩:=Cr5 x12;obtain⟨z0,z1,z2,z3,z4,z5,z6,z7⟩:=Cr8 x13;clear x12 x13 c12 c13 s12 s13 hx13 hcb;go_wp2_with fail;exact Bv (hr:=by simp[go_sem,y0,y1,y2,y3,y4,z0,z1,z2,z3,z4,z5,z6,z7]) (.tuple #[.agg #[.slice fa fn fc,.slice fd fm fe,.int .i64 fl,.bool fb,.int .i64 fz],.agg #[.int .i64 0,.int .i64 0,.int .i64 0,.int .i64 0,.int .i64 0,.slice none 0 0,.int .i64 0,.int .i64 0],.int .i64 er]) (RWPost.bad (J:=C4) HZB2.out HER.out HRE.out (fun k h=>h.elim (fun h=>.inl h.1) (fun h=>.inr (by have h1:=HS5.out;have h2:=HQ.out;omega))) HBE.out Ex)
   subst her;have HZG2:=Hd (HZG.out rfl);have HCE:=Hd (show∀w',Chg (fun k=>k=q6+1∨k=q6+2) V2 w'→(w'.cell? ⟨q6,0,none⟩=some (.slice fa fn fc)∧w'.cell? ⟨q6,1,none⟩=some (.slice fd fm fe)∧w'.cell? ⟨q6,2,none⟩=some (.int .i64 fl)∧w'.cell? ⟨q6,3,none⟩=some (.bool fb)∧w'.cell? ⟨q6,4,none⟩=some (.int .i64 fz))∧w'.cell? ⟨q15,0,none⟩=some (.int .i64 at_)∧w'.cell? ⟨q15,1,none⟩=some (.int .i64 hh)∧w'.cell? ⟨q15,2,none⟩=some (.int .i64 g)∧w'.cell? ⟨q15,3,none⟩=some (.int .i64 u)∧w'.cell? ⟨q15,4,none⟩=some (.int .i64 fi)∧w'.cell? ⟨q15,5,none⟩=some (.slice ea n ec)∧w'.cell? ⟨q15,6,none⟩=some (.int .i64 ((fi:Int)+(n:Int)))∧w'.cell? ⟨q15,7,none⟩=some (.int .i64 0)from fun w' hw'=>by have h1:=Ck hw' HX62.out;have h2:=Ck hw' HX152.out;refine⟨⟨?_,?_,?_,?_,?_⟩,?_,?_,?_,?_,?_,?_,?_,?_⟩<;>first| (rw[cr h1];rfl)| (rw[cr h2];rfl))
   go_wp2_with fail;refine bH (fun k=>k=q6+1∨k=q6+2) ?_;intro wd hd0 hS0;refine tkH 0 hS0 ?_ (hy:=fun w' hw'=>by(obtain⟨⟨h0,h1,h2,h3,h4⟩,i0,i1,i2,i3,i4,i5,i6,i7⟩:=HCE.out w' hw';clear hw';first| (go_simp;rfl)| (go_simp;done)));refine tkH 1 hS0 ?_ (hy:=fun w' hw'=>by(obtain⟨⟨h0,h1,h2,h3,h4⟩,i0,i1,i2,i3,i4,i5,i6,i7⟩:=HCE.out w' hw';clear hw';first| (go_simp;rfl)| (go_simp;done)));refine dH 2 fun K hK=>?_
   refine Pv 39 12 102 (q6+1) (Bq hd0 HX122.out) ?_;intro B1 Bx1 Bc1 Bs1;have hS0:=DW hS0 Bc1;refine Kq hK (hS0) ?_;refine dH 3 fun K hK=>?_
   refine Pv 41 13 103 (q6+2) (ckS Bc1 hd0 HX132.out) ?_;intro B2 Bx2 Bc2 Bs2;have hS0:=DX hS0 Bc2;refine Kq hK (hS0) ?_;refine tkH 4 hS0 ?_;refine eH ?_;have x12:=Ck Bc2 Bx1;have x13:=Bx2;have hcb:=hS0;obtain⟨HRE,HBE,HEE⟩:=Hd3 (HRT2.out.kept hcb (fun k h e=>by have h1:=HS5.out;rcases h with h|h<;>omega)) (HBV2.out.trans (hcb.below (B:=w.heap.size) (fun k e=>by have:=HQ.out;omega) HBV2.out.size)) (HEV2.out.chg hcb (fun k _ h e=>by have:=h.1;rcases this with h1|h1<;>omega));have HRJ:=Hd (show RefJ B2 (fun k=>F k∨w.heap.size≤k) R ⟨g,u,fi,E,fi+E.length,0⟩ (.agg #[.int .i64 at_,.int .i64 hh,.int .i64 g,.int .i64 u,.int .i64 fi,.slice ea n ec,.int .i64 ((fi:Int)+(n:Int)),.int .i64 0])from⟨ea,ec,by unfold Do;rw[HRA.out,HRH.out];show _=Value.agg #[_,_,_,_,_,.slice ea E.length ec,.int .i64 ((fi+E.length:Nat):Int),_];rw[HEN.out,Int.natCast_add],by show SecsF _ _ (.slice ea E.length ec) E;rw[HEN.out];exact HEE.out.secsF.weak (fun k _ h=>h.1.elim (fun h=>.inl h.1) (fun h=>.inr (by have:=HQ.out;omega)))⟩);obtain⟨y0,y1,y2,y3,y4⟩:=Cr5 x12;obtain⟨z0,z1,z2,z3,z4,z5,z6,z7⟩:=Cr8 x13;clear x12 x13 Bx1 Bx2 Bc1 Bc2 Bs1 Bs2 hcb hd0 hS0;go_wp2_with fail;exact Bv (hr:=by simp[go_sem,y0,y1,y2,y3,y4,z0,z1,z2,z3,z4,z5,z6,z7]) (.tuple #[.agg #[.slice fa fn fc,.slice fd fm fe,.int .i64 fl,.bool fb,.int .i64 fz],.agg #[.int .i64 at_,.int .i64 hh,.int .i64 g,.int .i64 u,.int .i64 fi,.slice ea n ec,.int .i64 ((fi:Int)+(n:Int)),.int .i64 0],.int .i64 0]) (RWPost.good HZG2.out HRE.out (fun k h=>h.elim (fun h=>.inl h.1) (fun h=>.inr (by have h2:=HQ.out;omega))) HBE.out HRJ.out)
  have hiI:(i:Int)<(n:Int):=by omega
  clear k0 k1 k2 k3 k4 j0 j1 j2 j3 j4 j5 j6 j7;have hiE:i<E.length:=by rw[HEN.out];exact hlt
  obtain⟨gx,ox,x,xcc,e9,hFg,hgx,hcell,hbx⟩:=(HEW5.out.chg HCR.out (fun k _ h e=>by have:=h.2;omega)).get hiE;subst e9;obtain⟨b,hb⟩:=Xq (E[i]);rw[hb]at hcell hbx;have HDR:=Hd (show rs.drop (i+1)=AI g (i+1) b::rs.drop (i+1+1) by
   have hlt2:i+1<rs.length:=by rw[HLEN.out];omega
   have e:rs[i+1]=AI g (i+1) b:=by simp only[HRC.out,List.getElem_cons_succ,List.getElem_mapIdx,hb]
   rw[List.drop_eq_getElem_cons hlt2,e])
  have HR0:=Hd (show As (AI g (i+1) b)=0 from HMEM.out _ (List.mem_of_mem_drop (i:=i+1) (by rw[HDR.out];exact List.mem_cons_self ..)));have hm0:=HM.out;rw[HDR.out]at hm0;obtain⟨X,hX⟩:=Xq (wrL T (ar+u) (Ac (AI g (i+1) b)));obtain⟨hm1,hu1,hro1⟩:=hm0.step HR0.out hX;obtain⟨nn,hnn⟩:=Xq ((Ac (AI g (i+1) b)).length);rw[hnn]at hm1 hu1 hro1;obtain⟨ln,hln⟩:=Xq (b.length);have HPUT:=Hd (fun(W:World) (hW:Below V0.heap.size V0 W)=>show Ca 64 #[.agg #[.slice da dn dc,.slice dd dm de,.int .i64 dl,.bool db,.int .i64 dz],.int .i64 ((ar:Int)+(u:Int)),.int .i64 2,.int .i64 g,.int .i64 ((i:Int)+1),.slice x ln xcc] W (PutPost W (fun k=>(G k∧k<q6)∨(q6+3≤k∧k≠q15)) X nn)from by have h:Ca 64 #[.agg #[.slice da dn dc,.slice dd dm de,.int .i64 dl,.bool db,.int .i64 dz],.int .i64 ((ar+u:Nat):Int),.int .i64 2,.int .i64 g,.int .i64 ((i+1:Nat):Int),.slice x b.length xcc] W (PutPost W (fun k=>(G k∧k<q6)∨(q6+3≤k∧k≠q15)) (wrL T (ar+u) (Ac (AI g (i+1) b))) (Ac (AI g (i+1) b)).length):=G8 (HRT.out.below hW) (ar+u) (AI g (i+1) b) HR0.out (hbx.below hW) (by rw[hnn];omega) (by rw[hnn];exact hro1);rw[hln,hnn,hX,Int.natCast_add ar u,show((i+1:Nat):Int)=(i:Int)+1 from Int.natCast_add i 1]at h;exact h)
  rw[hln]at hcell;obtain⟨k1,hk1⟩:∃k1:Nat,(if X.2=0 then nn else 0)=k1:=⟨_,rfl⟩;have HK1:=Hd (show(if X.2=0 then(nn:Int)else 0)=(k1:Int) by rw[←hk1];split <;>rfl);have hk1b:u+k1≤4096:=by rw[←hk1];split <;>omega
  rw[hk1]at hm1;have HM1:=Hd hm1;obtain⟨X1,X2⟩:=X;simp only at HK1 HM1 HPUT;have HCE:=Hd (show∀w',Below V0.heap.size V0 w'→(w'.cell? ⟨q6,0,none⟩=some (.slice da dn dc)∧w'.cell? ⟨q6,1,none⟩=some (.slice dd dm de)∧w'.cell? ⟨q6,2,none⟩=some (.int .i64 dl)∧w'.cell? ⟨q6,3,none⟩=some (.bool db)∧w'.cell? ⟨q6,4,none⟩=some (.int .i64 dz))∧w'.cell? ⟨q15,3,none⟩=some (.int .i64 u)∧w'.cell? ⟨gx,ox+i,none⟩=some (.slice x ln xcc)from fun w' hw'=>by have h1:=Bq hw' HX6.out;have h2:=Bq hw' HX15.out;refine⟨⟨?_,?_,?_,?_,?_⟩,?_,(hw'.cell (p:=⟨gx,ox+i,none⟩) hgx).trans hcell⟩<;>first| (rw[cr h1];rfl)| (rw[cr h2];rfl))
  clear hb hX hm0 hm1 hro1 hnn hln hk1 hcell hbx;go_wp2_with fail;refine bG [17,18,19] ?_;intro wd hd0;have hS0:=hd0;refine tkZ 0 hS0 ?_ (hy:=fun w' hw'=>by(obtain⟨⟨h0,h1,h2,h3,h4⟩,i3,i9⟩:=HCE.out w' hw';clear hw';first| (go_simp;rfl)| (go_simp;done)));refine tkP 1 hS0 ?_;refine tkP 2 hS0 ?_;refine tkZ 3 hS0 ?_ (hy:=fun w' hw'=>by(obtain⟨⟨h0,h1,h2,h3,h4⟩,i3,i9⟩:=HCE.out w' hw';clear hw';first| (go_simp;rfl)| (go_simp;done)));refine tkP 4 hS0 ?_ (hy:=fun w' hw'=>by(have hwr:=Iw ((ar:Int)+(u:Int));first| (go_simp;rfl)| (go_simp;done)));refine tkP 5 hS0 ?_;refine tkP 6 hS0 ?_;refine tkP 7 hS0 ?_ (hy:=fun w' hw'=>by(have hwr:=Iw ((i:Int)+1);first| (go_simp;rfl)| (go_simp;done)));refine tkP 8 hS0 ?_;refine tkP 9 hS0 ?_;refine tkP 10 hS0 ?_;refine tkZ 11 hS0 ?_ (hy:=fun w' hw'=>by(obtain⟨⟨h0,h1,h2,h3,h4⟩,i3,i9⟩:=HCE.out w' hw';clear hw';first| (go_simp;rfl)| (go_simp;done)));refine dG 12 fun K hK=>?_
  go_simp;go_at_call 64;refine(HPUT.out wd hd0).mono ?_;rintro e Vd ⟨v',rfl,hrd,hbd⟩;rw[HK1.out];obtain⟨fa,fn,fc,fd,fm,fe,fl,fb,fz,rfl⟩:=hrd.form;have hbe:=Tq hS0 hbd;refine Kq hK hbe ?_;refine tkP 13 hbe ?_;refine tkP 14 hbe ?_;refine tkP 15 hbe ?_;refine tkP 16 hbe ?_;refine dGf 17 fun K hK=>?_
  refine Pv 39 6 82 q6 (Bq hbe HX6.out) ?_;intro V1 x1 c1 s1;refine Kr hK ?_;refine dGf 18 fun K hK=>?_
  go_simp;refine Kr hK ?_;refine dGf 19 fun K hK=>?_
  go_simp;refine Kr hK ?_;refine eG ?_;obtain⟨HRT1,HX61,HC1,HX151⟩:=Hd4 ((hrd.mono (G':=fun k=>(G k∧k<q6)∨(q6+3≤k∧k≠q15)) (fun k h=>h.elim id (fun h=>.inr (by have h1:=hd0.size;have h3:=HCR.out.size;have h2:=HSZ5.out;omega)))).kept c1 (fun k h e=>by have h1:=HS5.out;rcases h with h|h<;>omega)) (show V1.heap[q6]?=some (.cells #[.slice fa fn fc,.slice fd fm fe,.int .i64 fl,.bool fb,.int .i64 fz] 39 (0,0))from x1) ((HCR.out.trans (Cb (F:=fun k=>k=q6∨k=q15) hbe) (fun k e=>.inl e)).trans (c1.mono (G:=fun k=>k=q6∨k=q15) (fun k e=>.inl e)) (fun k e=>.inl e)) ((c1.block q15 (Nl (Ax HX15.out).1 hbe.size) (by omega)).trans (Bq hbe HX15.out));have j3:=Cq HX151.out 3;have hwu:IntKind.i64.wrap ((u:Int)+(k1:Int))=((u+k1:Nat):Int):=by rw[Int.natCast_add];exact IntWalk.i64_in _ (by omega)
  clear hrd x1 c1 s1 hbe hbd hd0 hS0 HX6 HX15 HX12 HX13 HRT HBV HEV HCE HPUT HM;go_wp2_with (refine Az rfl rfl 3 (.tmp 89) (.tmp 88) rfl q15 3 (.int .i64 ((u+k1:Nat):Int)) rfl rfl HX151.out (by show 3<8;decide) rfl (by kernel_rfl) ?_;refine Stop.on ?_)
  refine Stop.go ?_
  try simp only[P0,P1,P2,P3,P4]
  intro V2 x2 c2 s2
  try simp only[P0,P1,P2,P3,P4]
  obtain⟨HX62,HX152,HC2,HRT2⟩:=Hd4 (Ck c2 HX61.out) (show V2.heap[q15]?=some (.cells #[.int .i64 at_,.int .i64 hh,.int .i64 g,.int .i64 ((u+k1:Nat):Int),.int .i64 fi,.slice ea n ec,.int .i64 ((fi:Int)+(n:Int)),.int .i64 0] 41 (0,0))from x2) (HC1.out.trans (c2.mono (G:=fun k=>k=q6∨k=q15) (fun k e=>.inr e)) (fun k e=>.inl e)) (HRT1.out.kept c2 (fun k h e=>by rcases h with h|h<;>omega));clear x2 c2 s2 HRT1 HX61 HC1 HX151 j3;go_wp2_with fail;go_roundw
  case rel=>exact⟨i+1,X1,u+k1,k1,X2,_,_,_,_,_,_,_,_,_,by omega,hk1b,by go_num,rfl,rfl,HM1,HRT2,HX62,HX152,HC2⟩
  case measure=>simp[intOf]<;>omega
def openR (S:DS) (R:JR):DS×Int×JD:=
 match BW S R with
 |none=>(S,3,C4)
 |some x=>moveJ S R (1-x.gen%2) x.first x.ents
theorem Fz {A B:Option ArD} (hA:AQ (Ah S (R.area 0) R.half) 0=A) (hB:AQ (Ah S (R.area 1) R.half) 1=B):
 (A=none→B=none→BW S R=none)∧(∀x,A=some x→B=none→BW S R=some x)∧(∀y,A=none→B=some y→BW S R=some y)∧(∀x y,A=some x→B=some y→BW S R=if x.gen<y.gen then some y else some x):=by
 unfold BW;rw[hA,hB];refine⟨fun h1 h2=>?_,fun x h1 h2=>?_,fun y h1 h2=>?_,fun x y h1 h2=>?_⟩<;>rw[h1,h2]
theorem Ha {w:Nat} (hw:w≤1) (L:List (List UInt8)):AA w L≤2147483649:=NI L w (by omega)
theorem Fe {g f:Nat} {E:List (List UInt8)}:(Ar (AG g f E)).length≤Aq E:=by
 by_cases h:∀r∈AG g f E,As r=0
 ·rw[GZ h,AG,List.map_cons,List.sum_cons];have e1:Af (BJ f E.length).length=1:=by rw[Cu];rfl
  have e2:(E.mapIdx fun i b=>AI g (i+1) b).map (fun r=>Af r.load.length)=E.map fun b=>Af b.length:=by
   apply List.ext_getElem
   ·simp
   ·intro i h1 h2;simp[AI]
  rw[e2];show Af (BJ f E.length).length+_≤_;rw[e1];exact Nat.le_refl _
 ·have key:∀rs:List RecD,(Ar rs).length≤(rs.map fun r=>Af r.load.length).sum:=by
   intro rs
   induction rs with
   |nil=>exact Nat.le_refl _
   |cons r rs ih=>
    rw[BP,List.length_append,List.map_cons,List.sum_cons];have:(Ac r).length≤Af r.load.length:=by
     by_cases h0:As r=0
     ·rw[AL h0];exact Nat.le_refl _
     ·unfold Ac;rw[In h0];simp
    omega
  refine Nt (key _) ?_;rw[AG,List.map_cons,List.sum_cons];have e1:Af (BJ f E.length).length=1:=by rw[Cu];rfl
  have e2:(E.mapIdx fun i b=>AI g (i+1) b).map (fun r=>Af r.load.length)=E.map fun b=>Af b.length:=by
   apply List.ext_getElem
   ·simp
   ·intro i h1 h2;simp[AI]
  rw[e2];show Af (BJ f E.length).length+_≤_;rw[e1];exact Nat.le_refl _
theorem NR {x:Nat} :∀{l:List Nat},x∈l→x≤l.sum
 |y::l,h=>by
  rw[List.sum_cons];rcases List.mem_cons.1 h with rfl |h
  ·omega
  ·have:=NR h;omega
structure FitE (R:JR) (f:Nat) (E:List (List UInt8)):Prop where
 f:f≤4294967296
 size:Aq E≤R.half
theorem FitE.len (h:FitE R f E) (hR:R.half≤100):∀b∈E,b.length≤22400:=fun b hb=>by
 have h1:=h.size;have h2:Af b.length≤(E.map fun b=>Af b.length).sum:=NR (List.mem_map.2 ⟨b,hb,rfl⟩);have h3:b.length≤224*Af b.length:=by unfold Af;omega
 unfold Aq at h1;omega
theorem FitE.lim (h:FitE R f E) (hR:R.half≤100):JLw 0 f E:=by have h1:=h.size;have h2:=BQ E;exact⟨by omega,h.f,by omega,fun b hb=>Nt (h.len hR b hb) (by omega)⟩
theorem IY (hD:RefD w G S v) (R:JR) (h8:8≤R.cnt) (hr:R.at_+R.cnt≤S.dur.length) (hm:S.dur.length≤100) (hd:S.down=false) (hfit:∀x,BW S R=some x→FitE R x.first x.ents) (hroom:Roomy S 910000100) (hsel:AQ (Ah S (R.area 0) R.half) 0=none∨AQ (Ah S (R.area 1) R.half) 1=none):
 Ca 36 #[v,.int .i64 (R.at_:Int),.int .i64 (R.cnt:Int)] w (RWPost w G (fun _=>False) R (openR S R)):=by
 obtain⟨da,dn,dc,dd,dm,de,dl,db,dz,rfl⟩:=hD.form;have hhalf:R.half=R.cnt/2:=rfl;have hlen:S.pend.length<100000000:=by have:=hroom.pend;omega
 obtain⟨at_,hat⟩:∃x,R.at_=x:=⟨_,rfl⟩;obtain⟨cn,hcn⟩:∃x,R.cnt=x:=⟨_,rfl⟩;obtain⟨hh,hhh⟩:∃x,R.half=x:=⟨_,rfl⟩;obtain⟨HA0,HA1,HWI,HSA,HSB⟩:=Hd5 (show R.area 0=at_ by unfold JR.area;rw[hat];omega) (show R.area 1=at_+hh by unfold JR.area;rw[hat,hhh];omega) (fun(W:World) (hW:Below w.heap.size w W)=>Fl (hD.at_.below hW) R.at_ R.cnt h8 hr (by omega)) (fun(W:World) (hW:Below w.heap.size w W)=>De (hD.at_.below hW) hD.ok hlen at_ hh (by omega)) (fun(W:World) (hW:Below w.heap.size w W)=>De (hD.at_.below hW) hD.ok hlen (at_+hh) hh (by omega));obtain⟨NL,hNL⟩:∃NL:Nat→Nat,∀k,AA (1-k%2) (Ah S R.at_ R.cnt)=NL k:=⟨fun k=>AA (1-k%2) (Ah S R.at_ R.cnt),fun _=>rfl⟩;have HNX:=Hd (fun(W:World) (hW:Below w.heap.size w W) (k:Nat)=>show Ca 59 #[.agg #[.slice da dn dc,.slice dd dm de,.int .i64 dl,.bool db,.int .i64 dz],.int .i64 (R.at_:Int),.int .i64 (R.cnt:Int),.int .i64 ((1:Int)-(k:Int)%2)] W fun e w'=>e=.returned (.int .i64 (NL k:Int))∧Below W.heap.size W w' from by have h:=E4 (hD.at_.below hW) hD.ok hlen R.at_ R.cnt (1-k%2) (by omega) hr;rw[hNL,show((1-k%2:Nat):Int)=(1:Int)-(k:Int)%2 by omega]at h;exact h)
 obtain⟨Z,hZ⟩:=Xq (openR S R);have HZ:=Hd hZ;have HWR:=Hd (fun(W:World) (hW:Below w.heap.size w W) (x:ArD) (hx:BW S R=some x) (H:Nat→Prop) (xa:Option Addr) (xc:Nat) (hE:SecsF W H (.slice xa x.ents.length xc) x.ents)=>show Ca 58 #[.agg #[.slice da dn dc,.slice dd dm de,.int .i64 dl,.bool db,.int .i64 dz],.int .i64 (R.at_:Int),.int .i64 (R.half:Int),.int .i64 (NL x.gen:Int),.int .i64 (x.first:Int),.slice xa x.ents.length xc] W (RWPost W (fun k=>G k∧k<w.heap.size) H R Z)from by have hf:=hfit x hx;have hsz:=hf.size;have hsl:=BQ x.ents;have hn:=Ha (w:=1-x.gen%2) (by omega) (Ah S R.at_ R.cnt);have hp:=CI (w:=1-x.gen%2) (by omega) (Ah S R.at_ R.cnt);have hsq:=@Fe (AA (1-x.gen%2) (Ah S R.at_ R.cnt)) x.first x.ents;have ha:=CJ (R:=R) (h:=1-x.gen%2) (by omega) (Nat.le_refl R.half);have h:=Ez (hD.bound.below hW) R (1-x.gen%2) _ x.first (by omega) hp.1 hE (hf.lim (by omega)) (by omega) hf.f (by omega) (by omega) ⟨by omega,by omega⟩ (hroom.less (by omega));rw[←DH,show moveJ S R (1-x.gen%2) x.first x.ents=Z by rw[←hZ];unfold openR;rw[hx],hNL]at h;exact h)
 rw[hZ];rw[hd,hat,hcn]at HWI;rw[hat,hcn]at HNX;rw[hat,hhh]at HWR;rw[hat,hcn];have hhc:hh=cn/2:=by rw[←hhh,hhalf,hcn]
 have hc8:8≤cn:=by omega
 have hac:at_+cn≤100:=by omega
 obtain⟨A,hA⟩:=Xq (AQ (Ah S (R.area 0) R.half) 0);obtain⟨B,hB⟩:=Xq (AQ (Ah S (R.area 1) R.half) 1);have HCC:=Hd (Fz hA hB);rw[HA0.out,hhh]at hA;rw[HA1.out,hhh]at hB;rw[HA0.out,HA1.out,hhh,hA,hB]at hsel;obtain⟨HSEL,HA,HB⟩:=Hd3 hsel hA hB;obtain⟨w1,hw1⟩:=Xq (w.alloc (.cells #[.slice da dn dc,.slice dd dm de,.int .i64 dl,.bool db,.int .i64 dz] 39));obtain⟨w2,hw2⟩:=Xq (w1.alloc (.cells #[.slice none 0 0,.slice none 0 0,.int .i64 0,.bool false,.int .i64 0] 39));obtain⟨w3,hw3⟩:=Xq (w2.alloc (.cells #[.int .i64 0,.int .i64 0,.int .i64 0,.int .i64 0,.int .i64 0,.slice none 0 0,.int .i64 0,.int .i64 0] 41));have hb1:=Lq hw1;have hb2:=Lq hw2;have hb3:=Lq hw3;obtain⟨q,hq⟩:=Xq (w.heap.size);have hs1:w1.heap.size=q+1:=by rw[←hw1,Sz,hq]
 have hs2:w2.heap.size=q+2:=by rw[←hw2,Sz,hs1]
 have hs3:w3.heap.size=q+3:=by rw[←hw3,Sz,hs2]
 have hx6:w3.heap[q]?=some (.cells #[.slice da dn dc,.slice dd dm de,.int .i64 dl,.bool db,.int .i64 dz] 39 (0,0)):=(hb3.block q (by omega)).trans ((hb2.block q (by omega)).trans (by rw[←hq,←hw1];exact Hn));have hx12:w3.heap[q+1]?=some (.cells #[.slice none 0 0,.slice none 0 0,.int .i64 0,.bool false,.int .i64 0] 39 (0,0)):=(hb3.block (q+1) (by omega)).trans (by rw[←hs1,←hw2];exact Hn);have hx13:w3.heap[q+2]?=some (.cells #[.int .i64 0,.int .i64 0,.int .i64 0,.int .i64 0,.int .i64 0,.slice none 0 0,.int .i64 0,.int .i64 0] 41 (0,0)):=by rw[←hs2,←hw3];exact Hn
 have hbw3:Below w.heap.size w w3:=hb1.trans ((hb2.mono hb1.size).trans (hb3.mono (Nt hb1.size hb2.size)));obtain⟨HW1,HW2,HW3,HQ,HS1,HS2,HS3,HB3,HX6,HX12,HX13,HRD⟩:=Hd12 hw1 hw2 hw3 hq hs1 hs2 hs3 hbw3 hx6 hx12 hx13 ((hD.bound.below hbw3).mono (G':=fun k=>G k∧k<q) (fun k h=>⟨h.1,by rw[←hq];exact h.2⟩));clear hsel hw1 hw2 hw3 hb1 hb2 hb3 hs1 hs2 hs3 hx6 hx12 hx13 hbw3 hq hZ hA hB hNL hD hd hat hcn hhh hhalf hfit hroom;obtain⟨k0,k1,k2,k3,k4⟩:=Cr5 (HX6.out);go_enter Tryz.func36,Tryz.ntmps36;go_upto_region 1 with(fail)
 rw[HW1.out,HW2.out,HW3.out]
 try rw[HS2.out]
 try rw[HS1.out]
 try rw[HQ.out]
 go_wp2_with fail;refine(HWI.out w3 HB3.out).mono ?_;rintro e w4 ⟨rfl,hb⟩;obtain⟨HB4,HX64,HX124,HX134,HRD4,HSZ34⟩:=Hd6 (Tq HB3.out hb) ((hb.block q (by have:=HS3.out;omega)).trans HX6.out) ((hb.block (q+1) (by have:=HS3.out;omega)).trans HX12.out) ((hb.block (q+2) (by have:=HS3.out;omega)).trans HX13.out) (HRD.out.below hb) hb.size;clear hb k0 k1 k2 k3 k4 HX6 HX12 HX13 HRD;obtain⟨k0,k1,k2,k3,k4⟩:=Cr5 (HX64.out);have hcn9:cn<1000000000:=by omega
 subst hhc;have hce:((cn/2:Nat):Int)=(cn:Int)/2:=by omega
 have hae:((at_+cn/2:Nat):Int)=(at_:Int)+(cn:Int)/2:=by omega
 rw[hce]at HSA HWR;rw[hae,hce]at HSB;have hwac:=Iw ((at_:Int)+(cn:Int)/2);clear hce hae;go_wp2_with fail;refine(HSA.out w4 HB4.out).mono ?_;rintro e w5 ⟨sv,rfl,hsv,hb⟩;obtain⟨sa1,sc1,rfl⟩:=hsv.form;rw[Bu]at hsv⊢;have HSV:=Hd hsv;have HBL:=Hd (Tq HB4.out hb);have HB5:=HBL;obtain⟨HX65,HX125,HX135,HRD5,HSZ35⟩:=Hd5 (Bq hb HX64.out) (Bq hb HX124.out) (Bq hb HX134.out) (HRD4.out.below hb) (show w3.heap.size≤w5.heap.size from Nt HSZ34.out hb.size);clear hsv hb HBL k0 k1 k2 k3 k4;go_wp2_with fail;refine(E5 HSV.out (Bu _ _ _) (by omega) (by omega) 0 (by omega)).mono ?_;rw[HA.out];rintro e w6 ⟨g0,f0,ev0,ok0,rfl,hb,hy0,hn0⟩;obtain⟨HY0,HN0,HB6,HX66,HX126,HX136,HRD6,HSZ56⟩:=Hd8 hy0 hn0 (Tq HB5.out hb) (Bq hb HX65.out) (Bq hb HX125.out) (Bq hb HX135.out) (HRD5.out.below hb) hb.size;clear hb hy0 hn0 HSV;obtain⟨k0,k1,k2,k3,k4⟩:=Cr5 (HX66.out);go_wp2_with fail;refine(HSB.out w6 HB6.out).mono ?_;rintro e w7 ⟨sv,rfl,hsv,hb⟩;obtain⟨sa2,sc2,rfl⟩:=hsv.form;rw[Bu]at hsv⊢;have HSV:=Hd hsv;have HBL:=Hd (Tq HB6.out hb);have HB7:=HBL;obtain⟨HX67,HX127,HX137,HRD7,HBL7⟩:=Hd5 (Bq hb HX66.out) (Bq hb HX126.out) (Bq hb HX136.out) (HRD6.out.below hb) hb;clear hsv hb HBL k0 k1 k2 k3 k4;have HY0:=Hd (show ok0=true→∃y,A=some y∧g0=(y.gen:Int)∧f0=(y.first:Int)∧EntsAt w7 (fun k=>w5.heap.size≤k) ev0 y.ents from fun h=>by obtain⟨y,h1,h2,h3,h4⟩:=HY0.out h;exact⟨y,h1,h2,h3,h4.below HBL7.out⟩)
 go_wp2_with fail;refine(E5 HSV.out (Bu _ _ _) (by omega) (by omega) 1 (by omega)).mono ?_;rw[HB.out];rintro e w8 ⟨g1,f1,ev1,ok1,rfl,hb,hy1,hn1⟩;obtain⟨HY1,HN1,HB8,HX68,HX128,HX138,HRD8,HSZ57,HSZ58⟩:=Hd9 hy1 hn1 (Tq HB7.out hb) (Bq hb HX67.out) (Bq hb HX127.out) (Bq hb HX137.out) (HRD7.out.below hb) (show w5.heap.size≤w7.heap.size from Nt HSZ56.out HBL7.out.size) (show w5.heap.size≤w8.heap.size from Nt HSZ56.out (Nt HBL7.out.size hb.size));have HY0:=Hd (show ok0=true→∃y,A=some y∧g0=(y.gen:Int)∧f0=(y.first:Int)∧EntsAt w8 (fun k=>w5.heap.size≤k) ev0 y.ents from fun h=>by obtain⟨y,h1,h2,h3,h4⟩:=HY0.out h;exact⟨y,h1,h2,h3,h4.below hb⟩)
 clear hb hy1 hn1 HSV;have HZN:=Hd (show A=none→B=none→Z=(S,3,C4)from fun h1 h2=>by rw[←HZ.out];unfold openR;rw[HCC.out.1 h1 h2]);have HS5:=Hd (show q+3≤w5.heap.size by have h1:=HSZ35.out;have h2:=HS3.out;omega);obtain⟨k0,k1,k2,k3,k4⟩:=Cr5 (HX68.out);cases ok0 with
 |false=>
  cases ok1 with
  |false=>
   have HZB:=Hd (HZN.out (HN0.out rfl) (HN1.out rfl));go_wp2_with (refine Pl 39 6 58 (q+1) HX128.out ?_;refine Stop.on ?_)
   refine Stop.go ?_
   try simp only[P0,P1,P2,P3,P4]
   intro B1 x12 c12 s12
   try simp only[P0,P1,P2,P3,P4]
   have hx13:=Ck c12 HX138.out;go_wp2_with (refine Pl 41 7 59 (q+2) hx13 ?_;refine Stop.on ?_)
   refine Stop.go ?_
   try simp only[P0,P1,P2,P3,P4]
   intro B2 x13 c13 s13
   try simp only[P0,P1,P2,P3,P4]
   have x12:=Ck c13 x12;have hcb:=(c12.mono (G:=fun k=>k=q+1∨k=q+2) (fun k e=>.inl e)).trans (c13.mono (G:=fun k=>k=q+1∨k=q+2) (fun k e=>.inr e)) (fun k e=>.inl e);have HRE:=Hd (HRD8.out.kept hcb (fun k h e=>by have:=h.2;omega));have HBE:=Hd (HB8.out.trans (hcb.below (B:=w.heap.size) (fun k e=>by have:=HQ.out;omega) HB8.out.size));obtain⟨y0,y1,y2,y3,y4⟩:=Cr5 x12;obtain⟨z0,z1,z2,z3,z4,z5,z6,z7⟩:=Cr8 x13;clear x12 x13 c12 c13 s12 s13 hx13 hcb;go_wp2_with fail;exact Bv (hr:=by simp[go_sem,y0,y1,y2,y3,y4,z0,z1,z2,z3,z4,z5,z6,z7]) (.tuple #[.agg #[.slice da dn dc,.slice dd dm de,.int .i64 dl,.bool db,.int .i64 dz],.agg #[.int .i64 0,.int .i64 0,.int .i64 0,.int .i64 0,.int .i64 0,.slice none 0 0,.int .i64 0,.int .i64 0],.int .i64 3]) (RWPost.bad (J:=C4) HZB.out (by decide) HRE.out (fun k h=>.inl h.1) HBE.out Ex)
  |true=>
   obtain⟨y,hy,rfl,rfl,hye⟩:=HY1.out rfl;have HCX:=Hd (HCC.out.2.2.1 y (HN0.out rfl) hy);have hye:=hye.weak (G:=fun k=>w5.heap.size≤k) (fun k _ h=>Nt HSZ57.out h);obtain⟨xa,xc,e9⟩:=hye.form;subst e9;have HWX:=Hd (fun(W:World) (hW:Below w8.heap.size w8 W)=>HWR.out W (Tq HB8.out hW) y HCX.out _ xa xc (hye.below hW).secsF);obtain⟨gx,hgx⟩:=Xq (y.gen);obtain⟨fx,hfx⟩:=Xq (y.first);obtain⟨nx,hnx⟩:=Xq (y.ents.length)
   try rw[hgx]at hltI
   rw[hgx,hfx,hnx]at HWX;rw[hgx,hfx,hnx];have HCE:=Hd (fun w' (hw':Below w8.heap.size w8 w')=>by have h1:=(Bq hw' HX68.out);exact Cr5 h1);clear hye hgx hfx hnx k0 k1 k2 k3 k4;go_wp2_with fail;refine bG [16,17,18] ?_;intro wd hd0;have hS0:=hd0;refine BV 0 HCE.out hS0 ?_;refine tkP 1 hS0 ?_;refine tkP 2 hS0 ?_;refine BV 3 HCE.out hS0 ?_;refine tkP 4 hS0 ?_;refine tkP 5 hS0 ?_;refine tkP 6 hS0 ?_;refine tkP 7 hS0 ?_ (v:=.int .i64 ((gx:Int)%2)) (hy:=fun w' hw'=>by(have htm:Int.tmod (gx:Int) 2=(gx:Int)%2:=Int.tmod_eq_emod_of_nonneg (by omega);first| (go_simp;rfl)| (go_simp;done)));refine tkP 8 hS0 ?_ (v:=.int .i64 ((1:Int)-(gx:Int)%2)) (hy:=fun w' hw'=>by(have hwr:=Iw ((1:Int)-(gx:Int)%2);first| (go_simp;rfl)| (go_simp;done)));refine tkP 10 hS0 ?_;refine tkP 11 hS0 ?_;refine dG 9 fun K hK=>?_
   go_simp;go_at_call 59;refine(HNX.out wd (Tq HB8.out hS0) gx).mono ?_;rintro e Va ⟨rfl,hb1⟩;have hba:=Tq hS0 hb1;refine Kq hK hba ?_;refine dG 12 fun K hK=>?_
   go_simp;go_at_call 58;refine(HWX.out Va hba).mono ?_;rintro e Vw ⟨v',jv,rfl,hrd,hb2,⟨a0,a1,a2,a3,a4,ea,en,ec,a6,a7,rfl⟩,hrj⟩;obtain⟨fa,fn,fc,fd,fm,fe,fl,fb,fz,rfl⟩:=hrd.form;have hbb:=Tq hba hb2;refine Kq hK hbb ?_;refine tkP 13 hbb ?_;refine tkP 14 hbb ?_;refine tkP 15 hbb ?_;refine dGf 16 fun K hK=>?_
   refine Pv 39 6 86 (q+1) (Bq hbb HX128.out) ?_;intro B1 x12 c12 s12;have hx13:=(c12.block (q+2) (Nl (Ax HX138.out).1 hbb.size) (by omega)).trans (Bq hbb HX138.out);refine Kr hK ?_;refine dGf 17 fun K hK=>?_
   refine Pv 41 7 87 (q+2) hx13 ?_;intro B2 x13 c13 s13;refine Kr hK ?_;refine dGf 18 fun K hK=>?_
   go_simp;refine Kr hK ?_;refine eG ?_;have x12:=Ck c13 x12;have hcb:=(c12.mono (G:=fun k=>k=q+1∨k=q+2) (fun k e=>.inl e)).trans (c13.mono (G:=fun k=>k=q+1∨k=q+2) (fun k e=>.inr e)) (fun k e=>.inl e);have hsz9:=hba.size;have HB9:=Hd (Tq HB8.out hbb);have hs85:=HSZ58.out;obtain⟨HRE,HBE,HRJ⟩:=Hd3 ((hrd.kept hcb (fun k h e=>by have h5:=HS5.out;have h6:=HQ.out;rcases h with h|h<;>omega)).mono (G':=fun k=>G k∨w.heap.size≤k) (fun k h=>h.imp (fun h=>h.1) (fun h=>by have h5:=HS5.out;have h6:=HQ.out;omega))) (HB9.out.trans (hcb.below (B:=w.heap.size) (fun k e=>by have:=HQ.out;omega) HB9.out.size)) (fun h0=>(((hrj h0).kept hcb (fun k _ h e=>by have h5:=HS5.out;rcases h with h|h<;>omega)).mono (G':=fun k=>False∨w.heap.size≤k) (fun k _ h=>.inr (by have h5:=HS5.out;have h6:=HQ.out;rcases h with h|h<;>omega))));obtain⟨y0,y1,y2,y3,y4⟩:=Cr5 x12;obtain⟨z0,z1,z2,z3,z4,z5,z6,z7⟩:=Cr8 x13;clear x12 x13 c12 c13 s12 s13 hx13 hcb hrd hrj hbb hba hb1 hb2 hd0 hS0 hsz9 hs85;go_wp2_with fail;exact Bv (hr:=by simp[go_sem,y0,y1,y2,y3,y4,z0,z1,z2,z3,z4,z5,z6,z7]) (.tuple #[.agg #[.slice fa fn fc,.slice fd fm fe,.int .i64 fl,.bool fb,.int .i64 fz],.agg #[.int .i64 a0,.int .i64 a1,.int .i64 a2,.int .i64 a3,.int .i64 a4,.slice ea en ec,.int .i64 a6,.int .i64 a7],.int .i64 Z.2.1]) ⟨_,_,rfl,HRE.out,HBE.out,⟨_,_,_,_,_,_,_,_,_,_,rfl⟩,HRJ.out⟩
 |true=>
  obtain⟨y0,hy0,rfl,rfl,hye0⟩:=HY0.out rfl;cases ok1 with
  |false=>
   have HCX:=Hd (HCC.out.2.1 y0 hy0 (HN1.out rfl));have hye:=hye0;obtain⟨xa,xc,e9⟩:=hye.form;subst e9;have HWX:=Hd (fun(W:World) (hW:Below w8.heap.size w8 W)=>HWR.out W (Tq HB8.out hW) y0 HCX.out _ xa xc (hye.below hW).secsF);obtain⟨gx,hgx⟩:=Xq (y0.gen);obtain⟨fx,hfx⟩:=Xq (y0.first);obtain⟨nx,hnx⟩:=Xq (y0.ents.length)
   try rw[hgx]at hltI
   rw[hgx,hfx,hnx]at HWX;rw[hgx,hfx,hnx];have HCE:=Hd (fun w' (hw':Below w8.heap.size w8 w')=>by have h1:=(Bq hw' HX68.out);exact Cr5 h1);clear hye hgx hfx hnx k0 k1 k2 k3 k4;go_wp2_with fail;refine bG [16,17,18] ?_;intro wd hd0;have hS0:=hd0;refine BV 0 HCE.out hS0 ?_;refine tkP 1 hS0 ?_;refine tkP 2 hS0 ?_;refine BV 3 HCE.out hS0 ?_;refine tkP 4 hS0 ?_;refine tkP 5 hS0 ?_;refine tkP 6 hS0 ?_;refine tkP 7 hS0 ?_ (v:=.int .i64 ((gx:Int)%2)) (hy:=fun w' hw'=>by(have htm:Int.tmod (gx:Int) 2=(gx:Int)%2:=Int.tmod_eq_emod_of_nonneg (by omega);first| (go_simp;rfl)| (go_simp;done)));refine tkP 8 hS0 ?_ (v:=.int .i64 ((1:Int)-(gx:Int)%2)) (hy:=fun w' hw'=>by(have hwr:=Iw ((1:Int)-(gx:Int)%2);first| (go_simp;rfl)| (go_simp;done)));refine tkP 10 hS0 ?_;refine tkP 11 hS0 ?_;refine dG 9 fun K hK=>?_
   go_simp;go_at_call 59;refine(HNX.out wd (Tq HB8.out hS0) gx).mono ?_;rintro e Va ⟨rfl,hb1⟩;have hba:=Tq hS0 hb1;refine Kq hK hba ?_;refine dG 12 fun K hK=>?_
   go_simp;go_at_call 58;refine(HWX.out Va hba).mono ?_;rintro e Vw ⟨v',jv,rfl,hrd,hb2,⟨a0,a1,a2,a3,a4,ea,en,ec,a6,a7,rfl⟩,hrj⟩;obtain⟨fa,fn,fc,fd,fm,fe,fl,fb,fz,rfl⟩:=hrd.form;have hbb:=Tq hba hb2;refine Kq hK hbb ?_;refine tkP 13 hbb ?_;refine tkP 14 hbb ?_;refine tkP 15 hbb ?_;refine dGf 16 fun K hK=>?_
   refine Pv 39 6 86 (q+1) (Bq hbb HX128.out) ?_;intro B1 x12 c12 s12;have hx13:=(c12.block (q+2) (Nl (Ax HX138.out).1 hbb.size) (by omega)).trans (Bq hbb HX138.out);refine Kr hK ?_;refine dGf 17 fun K hK=>?_
   refine Pv 41 7 87 (q+2) hx13 ?_;intro B2 x13 c13 s13;refine Kr hK ?_;refine dGf 18 fun K hK=>?_
   go_simp;refine Kr hK ?_;refine eG ?_;have x12:=Ck c13 x12;have hcb:=(c12.mono (G:=fun k=>k=q+1∨k=q+2) (fun k e=>.inl e)).trans (c13.mono (G:=fun k=>k=q+1∨k=q+2) (fun k e=>.inr e)) (fun k e=>.inl e);have hsz9:=hba.size;have HB9:=Hd (Tq HB8.out hbb);have hs85:=HSZ58.out;obtain⟨HRE,HBE,HRJ⟩:=Hd3 ((hrd.kept hcb (fun k h e=>by have h5:=HS5.out;have h6:=HQ.out;rcases h with h|h<;>omega)).mono (G':=fun k=>G k∨w.heap.size≤k) (fun k h=>h.imp (fun h=>h.1) (fun h=>by have h5:=HS5.out;have h6:=HQ.out;omega))) (HB9.out.trans (hcb.below (B:=w.heap.size) (fun k e=>by have:=HQ.out;omega) HB9.out.size)) (fun h0=>(((hrj h0).kept hcb (fun k _ h e=>by have h5:=HS5.out;rcases h with h|h<;>omega)).mono (G':=fun k=>False∨w.heap.size≤k) (fun k _ h=>.inr (by have h5:=HS5.out;have h6:=HQ.out;rcases h with h|h<;>omega))));obtain⟨y0,y1,y2,y3,y4⟩:=Cr5 x12;obtain⟨z0,z1,z2,z3,z4,z5,z6,z7⟩:=Cr8 x13;clear x12 x13 c12 c13 s12 s13 hx13 hcb hrd hrj hbb hba hb1 hb2 hd0 hS0 hsz9 hs85;go_wp2_with fail;exact Bv (hr:=by simp[go_sem,y0,y1,y2,y3,y4,z0,z1,z2,z3,z4,z5,z6,z7]) (.tuple #[.agg #[.slice fa fn fc,.slice fd fm fe,.int .i64 fl,.bool fb,.int .i64 fz],.agg #[.int .i64 a0,.int .i64 a1,.int .i64 a2,.int .i64 a3,.int .i64 a4,.slice ea en ec,.int .i64 a6,.int .i64 a7],.int .i64 Z.2.1]) ⟨_,_,rfl,HRE.out,HBE.out,⟨_,_,_,_,_,_,_,_,_,_,rfl⟩,HRJ.out⟩
  |true=>
   obtain⟨y1,hy1,_⟩:=HY1.out rfl;rcases HSEL.out with h|h
   ·rw[hy0]at h;cases h
   ·rw[hy1]at h;cases h
theorem Nm (hD:RefD w G S v) (R:JR) (h8:8≤R.cnt) (hr:R.at_+R.cnt≤S.dur.length) (hm:S.dur.length≤100) (hd:S.down=false) (hfit:∀x,BW S R=some x→FitE R x.first x.ents) (hroom:Roomy S 910000100) (hsel:AQ (Ah S (R.area 0) R.half) 0≠none∧AQ (Ah S (R.area 1) R.half) 1≠none):
 Ca 36 #[v,.int .i64 (R.at_:Int),.int .i64 (R.cnt:Int)] w (RWPost w G (fun _=>False) R (openR S R)):=by
 obtain⟨da,dn,dc,dd,dm,de,dl,db,dz,rfl⟩:=hD.form;have hhalf:R.half=R.cnt/2:=rfl;have hlen:S.pend.length<100000000:=by have:=hroom.pend;omega
 obtain⟨at_,hat⟩:∃x,R.at_=x:=⟨_,rfl⟩;obtain⟨cn,hcn⟩:∃x,R.cnt=x:=⟨_,rfl⟩;obtain⟨hh,hhh⟩:∃x,R.half=x:=⟨_,rfl⟩;obtain⟨HA0,HA1,HWI,HSA,HSB⟩:=Hd5 (show R.area 0=at_ by unfold JR.area;rw[hat];omega) (show R.area 1=at_+hh by unfold JR.area;rw[hat,hhh];omega) (fun(W:World) (hW:Below w.heap.size w W)=>Fl (hD.at_.below hW) R.at_ R.cnt h8 hr (by omega)) (fun(W:World) (hW:Below w.heap.size w W)=>De (hD.at_.below hW) hD.ok hlen at_ hh (by omega)) (fun(W:World) (hW:Below w.heap.size w W)=>De (hD.at_.below hW) hD.ok hlen (at_+hh) hh (by omega));obtain⟨NL,hNL⟩:∃NL:Nat→Nat,∀k,AA (1-k%2) (Ah S R.at_ R.cnt)=NL k:=⟨fun k=>AA (1-k%2) (Ah S R.at_ R.cnt),fun _=>rfl⟩;have HNX:=Hd (fun(W:World) (hW:Below w.heap.size w W) (k:Nat)=>show Ca 59 #[.agg #[.slice da dn dc,.slice dd dm de,.int .i64 dl,.bool db,.int .i64 dz],.int .i64 (R.at_:Int),.int .i64 (R.cnt:Int),.int .i64 ((1:Int)-(k:Int)%2)] W fun e w'=>e=.returned (.int .i64 (NL k:Int))∧Below W.heap.size W w' from by have h:=E4 (hD.at_.below hW) hD.ok hlen R.at_ R.cnt (1-k%2) (by omega) hr;rw[hNL,show((1-k%2:Nat):Int)=(1:Int)-(k:Int)%2 by omega]at h;exact h)
 obtain⟨Z,hZ⟩:=Xq (openR S R);have HZ:=Hd hZ;have HWR:=Hd (fun(W:World) (hW:Below w.heap.size w W) (x:ArD) (hx:BW S R=some x) (H:Nat→Prop) (xa:Option Addr) (xc:Nat) (hE:SecsF W H (.slice xa x.ents.length xc) x.ents)=>show Ca 58 #[.agg #[.slice da dn dc,.slice dd dm de,.int .i64 dl,.bool db,.int .i64 dz],.int .i64 (R.at_:Int),.int .i64 (R.half:Int),.int .i64 (NL x.gen:Int),.int .i64 (x.first:Int),.slice xa x.ents.length xc] W (RWPost W (fun k=>G k∧k<w.heap.size) H R Z)from by have hf:=hfit x hx;have hsz:=hf.size;have hsl:=BQ x.ents;have hn:=Ha (w:=1-x.gen%2) (by omega) (Ah S R.at_ R.cnt);have hp:=CI (w:=1-x.gen%2) (by omega) (Ah S R.at_ R.cnt);have hsq:=@Fe (AA (1-x.gen%2) (Ah S R.at_ R.cnt)) x.first x.ents;have ha:=CJ (R:=R) (h:=1-x.gen%2) (by omega) (Nat.le_refl R.half);have h:=Ez (hD.bound.below hW) R (1-x.gen%2) _ x.first (by omega) hp.1 hE (hf.lim (by omega)) (by omega) hf.f (by omega) (by omega) ⟨by omega,by omega⟩ (hroom.less (by omega));rw[←DH,show moveJ S R (1-x.gen%2) x.first x.ents=Z by rw[←hZ];unfold openR;rw[hx],hNL]at h;exact h)
 rw[hZ];rw[hd,hat,hcn]at HWI;rw[hat,hcn]at HNX;rw[hat,hhh]at HWR;rw[hat,hcn];have hhc:hh=cn/2:=by rw[←hhh,hhalf,hcn]
 have hc8:8≤cn:=by omega
 have hac:at_+cn≤100:=by omega
 obtain⟨A,hA⟩:=Xq (AQ (Ah S (R.area 0) R.half) 0);obtain⟨B,hB⟩:=Xq (AQ (Ah S (R.area 1) R.half) 1);have HCC:=Hd (Fz hA hB);rw[HA0.out,hhh]at hA;rw[HA1.out,hhh]at hB;rw[HA0.out,HA1.out,hhh,hA,hB]at hsel;obtain⟨HSEL,HA,HB⟩:=Hd3 hsel hA hB;obtain⟨w1,hw1⟩:=Xq (w.alloc (.cells #[.slice da dn dc,.slice dd dm de,.int .i64 dl,.bool db,.int .i64 dz] 39));obtain⟨w2,hw2⟩:=Xq (w1.alloc (.cells #[.slice none 0 0,.slice none 0 0,.int .i64 0,.bool false,.int .i64 0] 39));obtain⟨w3,hw3⟩:=Xq (w2.alloc (.cells #[.int .i64 0,.int .i64 0,.int .i64 0,.int .i64 0,.int .i64 0,.slice none 0 0,.int .i64 0,.int .i64 0] 41));have hb1:=Lq hw1;have hb2:=Lq hw2;have hb3:=Lq hw3;obtain⟨q,hq⟩:=Xq (w.heap.size);have hs1:w1.heap.size=q+1:=by rw[←hw1,Sz,hq]
 have hs2:w2.heap.size=q+2:=by rw[←hw2,Sz,hs1]
 have hs3:w3.heap.size=q+3:=by rw[←hw3,Sz,hs2]
 have hx6:w3.heap[q]?=some (.cells #[.slice da dn dc,.slice dd dm de,.int .i64 dl,.bool db,.int .i64 dz] 39 (0,0)):=(hb3.block q (by omega)).trans ((hb2.block q (by omega)).trans (by rw[←hq,←hw1];exact Hn));have hx12:w3.heap[q+1]?=some (.cells #[.slice none 0 0,.slice none 0 0,.int .i64 0,.bool false,.int .i64 0] 39 (0,0)):=(hb3.block (q+1) (by omega)).trans (by rw[←hs1,←hw2];exact Hn);have hx13:w3.heap[q+2]?=some (.cells #[.int .i64 0,.int .i64 0,.int .i64 0,.int .i64 0,.int .i64 0,.slice none 0 0,.int .i64 0,.int .i64 0] 41 (0,0)):=by rw[←hs2,←hw3];exact Hn
 have hbw3:Below w.heap.size w w3:=hb1.trans ((hb2.mono hb1.size).trans (hb3.mono (Nt hb1.size hb2.size)));obtain⟨HW1,HW2,HW3,HQ,HS1,HS2,HS3,HB3,HX6,HX12,HX13,HRD⟩:=Hd12 hw1 hw2 hw3 hq hs1 hs2 hs3 hbw3 hx6 hx12 hx13 ((hD.bound.below hbw3).mono (G':=fun k=>G k∧k<q) (fun k h=>⟨h.1,by rw[←hq];exact h.2⟩));clear hsel hw1 hw2 hw3 hb1 hb2 hb3 hs1 hs2 hs3 hx6 hx12 hx13 hbw3 hq hZ hA hB hNL hD hd hat hcn hhh hhalf hfit hroom;obtain⟨k0,k1,k2,k3,k4⟩:=Cr5 (HX6.out);go_enter Tryz.func36,Tryz.ntmps36;go_upto_region 1 with(fail)
 rw[HW1.out,HW2.out,HW3.out]
 try rw[HS2.out]
 try rw[HS1.out]
 try rw[HQ.out]
 go_wp2_with fail;refine(HWI.out w3 HB3.out).mono ?_;rintro e w4 ⟨rfl,hb⟩;obtain⟨HB4,HX64,HX124,HX134,HRD4,HSZ34⟩:=Hd6 (Tq HB3.out hb) ((hb.block q (by have:=HS3.out;omega)).trans HX6.out) ((hb.block (q+1) (by have:=HS3.out;omega)).trans HX12.out) ((hb.block (q+2) (by have:=HS3.out;omega)).trans HX13.out) (HRD.out.below hb) hb.size;clear hb k0 k1 k2 k3 k4 HX6 HX12 HX13 HRD;obtain⟨k0,k1,k2,k3,k4⟩:=Cr5 (HX64.out);have hcn9:cn<1000000000:=by omega
 subst hhc;have hce:((cn/2:Nat):Int)=(cn:Int)/2:=by omega
 have hae:((at_+cn/2:Nat):Int)=(at_:Int)+(cn:Int)/2:=by omega
 rw[hce]at HSA HWR;rw[hae,hce]at HSB;have hwac:=Iw ((at_:Int)+(cn:Int)/2);clear hce hae;go_wp2_with fail;refine(HSA.out w4 HB4.out).mono ?_;rintro e w5 ⟨sv,rfl,hsv,hb⟩;obtain⟨sa1,sc1,rfl⟩:=hsv.form;rw[Bu]at hsv⊢;have HSV:=Hd hsv;have HBL:=Hd (Tq HB4.out hb);have HB5:=HBL;obtain⟨HX65,HX125,HX135,HRD5,HSZ35⟩:=Hd5 (Bq hb HX64.out) (Bq hb HX124.out) (Bq hb HX134.out) (HRD4.out.below hb) (show w3.heap.size≤w5.heap.size from Nt HSZ34.out hb.size);clear hsv hb HBL k0 k1 k2 k3 k4;go_wp2_with fail;refine(E5 HSV.out (Bu _ _ _) (by omega) (by omega) 0 (by omega)).mono ?_;rw[HA.out];rintro e w6 ⟨g0,f0,ev0,ok0,rfl,hb,hy0,hn0⟩;obtain⟨HY0,HN0,HB6,HX66,HX126,HX136,HRD6,HSZ56⟩:=Hd8 hy0 hn0 (Tq HB5.out hb) (Bq hb HX65.out) (Bq hb HX125.out) (Bq hb HX135.out) (HRD5.out.below hb) hb.size;clear hb hy0 hn0 HSV;obtain⟨k0,k1,k2,k3,k4⟩:=Cr5 (HX66.out);go_wp2_with fail;refine(HSB.out w6 HB6.out).mono ?_;rintro e w7 ⟨sv,rfl,hsv,hb⟩;obtain⟨sa2,sc2,rfl⟩:=hsv.form;rw[Bu]at hsv⊢;have HSV:=Hd hsv;have HBL:=Hd (Tq HB6.out hb);have HB7:=HBL;obtain⟨HX67,HX127,HX137,HRD7,HBL7⟩:=Hd5 (Bq hb HX66.out) (Bq hb HX126.out) (Bq hb HX136.out) (HRD6.out.below hb) hb;clear hsv hb HBL k0 k1 k2 k3 k4;have HY0:=Hd (show ok0=true→∃y,A=some y∧g0=(y.gen:Int)∧f0=(y.first:Int)∧EntsAt w7 (fun k=>w5.heap.size≤k) ev0 y.ents from fun h=>by obtain⟨y,h1,h2,h3,h4⟩:=HY0.out h;exact⟨y,h1,h2,h3,h4.below HBL7.out⟩)
 go_wp2_with fail;refine(E5 HSV.out (Bu _ _ _) (by omega) (by omega) 1 (by omega)).mono ?_;rw[HB.out];rintro e w8 ⟨g1,f1,ev1,ok1,rfl,hb,hy1,hn1⟩;obtain⟨HY1,HN1,HB8,HX68,HX128,HX138,HRD8,HSZ57,HSZ58⟩:=Hd9 hy1 hn1 (Tq HB7.out hb) (Bq hb HX67.out) (Bq hb HX127.out) (Bq hb HX137.out) (HRD7.out.below hb) (show w5.heap.size≤w7.heap.size from Nt HSZ56.out HBL7.out.size) (show w5.heap.size≤w8.heap.size from Nt HSZ56.out (Nt HBL7.out.size hb.size));have HY0:=Hd (show ok0=true→∃y,A=some y∧g0=(y.gen:Int)∧f0=(y.first:Int)∧EntsAt w8 (fun k=>w5.heap.size≤k) ev0 y.ents from fun h=>by obtain⟨y,h1,h2,h3,h4⟩:=HY0.out h;exact⟨y,h1,h2,h3,h4.below hb⟩)
 clear hb hy1 hn1 HSV;have HZN:=Hd (show A=none→B=none→Z=(S,3,C4)from fun h1 h2=>by rw[←HZ.out];unfold openR;rw[HCC.out.1 h1 h2]);have HS5:=Hd (show q+3≤w5.heap.size by have h1:=HSZ35.out;have h2:=HS3.out;omega);obtain⟨k0,k1,k2,k3,k4⟩:=Cr5 (HX68.out);cases ok0 with
 |false=>exact absurd (HN0.out rfl) HSEL.out.1
 |true=>
  obtain⟨y0,hy0,rfl,rfl,hye0⟩:=HY0.out rfl;cases ok1 with
  |false=>exact absurd (HN1.out rfl) HSEL.out.2
  |true=>
   obtain⟨y1,hy1,rfl,rfl,hye1⟩:=HY1.out rfl;have hcc:=HCC.out.2.2.2 y0 y1 hy0 hy1;by_cases hlt:y0.gen<y1.gen
   ·have hltI:(y0.gen:Int)<(y1.gen:Int):=by omega
    rw[Ip hlt]at hcc;have HCX:=Hd hcc;have hye:=hye1.weak (G:=fun k=>w5.heap.size≤k) (fun k _ h=>Nt HSZ57.out h);clear hye0 hcc;obtain⟨xa,xc,e9⟩:=hye.form;subst e9;have HWX:=Hd (fun(W:World) (hW:Below w8.heap.size w8 W)=>HWR.out W (Tq HB8.out hW) y1 HCX.out _ xa xc (hye.below hW).secsF);obtain⟨gx,hgx⟩:=Xq (y1.gen);obtain⟨fx,hfx⟩:=Xq (y1.first);obtain⟨nx,hnx⟩:=Xq (y1.ents.length)
    try rw[hgx]at hltI
    rw[hgx,hfx,hnx]at HWX;rw[hgx,hfx,hnx];have HCE:=Hd (fun w' (hw':Below w8.heap.size w8 w')=>by have h1:=(Bq hw' HX68.out);exact Cr5 h1);clear hye hgx hfx hnx k0 k1 k2 k3 k4;go_wp2_with fail;refine bG [16,17,18] ?_;intro wd hd0;have hS0:=hd0;refine BV 0 HCE.out hS0 ?_;refine tkP 1 hS0 ?_;refine tkP 2 hS0 ?_;refine BV 3 HCE.out hS0 ?_;refine tkP 4 hS0 ?_;refine tkP 5 hS0 ?_;refine tkP 6 hS0 ?_;refine tkP 7 hS0 ?_ (v:=.int .i64 ((gx:Int)%2)) (hy:=fun w' hw'=>by(have htm:Int.tmod (gx:Int) 2=(gx:Int)%2:=Int.tmod_eq_emod_of_nonneg (by omega);first| (go_simp;rfl)| (go_simp;done)));refine tkP 8 hS0 ?_ (v:=.int .i64 ((1:Int)-(gx:Int)%2)) (hy:=fun w' hw'=>by(have hwr:=Iw ((1:Int)-(gx:Int)%2);first| (go_simp;rfl)| (go_simp;done)));refine tkP 10 hS0 ?_;refine tkP 11 hS0 ?_;refine dG 9 fun K hK=>?_
    go_simp;go_at_call 59;refine(HNX.out wd (Tq HB8.out hS0) gx).mono ?_;rintro e Va ⟨rfl,hb1⟩;have hba:=Tq hS0 hb1;refine Kq hK hba ?_;refine dG 12 fun K hK=>?_
    go_simp;go_at_call 58;refine(HWX.out Va hba).mono ?_;rintro e Vw ⟨v',jv,rfl,hrd,hb2,⟨a0,a1,a2,a3,a4,ea,en,ec,a6,a7,rfl⟩,hrj⟩;obtain⟨fa,fn,fc,fd,fm,fe,fl,fb,fz,rfl⟩:=hrd.form;have hbb:=Tq hba hb2;refine Kq hK hbb ?_;refine tkP 13 hbb ?_;refine tkP 14 hbb ?_;refine tkP 15 hbb ?_;refine dGf 16 fun K hK=>?_
    refine Pv 39 6 86 (q+1) (Bq hbb HX128.out) ?_;intro B1 x12 c12 s12;have hx13:=(c12.block (q+2) (Nl (Ax HX138.out).1 hbb.size) (by omega)).trans (Bq hbb HX138.out);refine Kr hK ?_;refine dGf 17 fun K hK=>?_
    refine Pv 41 7 87 (q+2) hx13 ?_;intro B2 x13 c13 s13;refine Kr hK ?_;refine dGf 18 fun K hK=>?_
    go_simp;refine Kr hK ?_;refine eG ?_;have x12:=Ck c13 x12;have hcb:=(c12.mono (G:=fun k=>k=q+1∨k=q+2) (fun k e=>.inl e)).trans (c13.mono (G:=fun k=>k=q+1∨k=q+2) (fun k e=>.inr e)) (fun k e=>.inl e);have hsz9:=hba.size;have HB9:=Hd (Tq HB8.out hbb);have hs85:=HSZ58.out;obtain⟨HRE,HBE,HRJ⟩:=Hd3 ((hrd.kept hcb (fun k h e=>by have h5:=HS5.out;have h6:=HQ.out;rcases h with h|h<;>omega)).mono (G':=fun k=>G k∨w.heap.size≤k) (fun k h=>h.imp (fun h=>h.1) (fun h=>by have h5:=HS5.out;have h6:=HQ.out;omega))) (HB9.out.trans (hcb.below (B:=w.heap.size) (fun k e=>by have:=HQ.out;omega) HB9.out.size)) (fun h0=>(((hrj h0).kept hcb (fun k _ h e=>by have h5:=HS5.out;rcases h with h|h<;>omega)).mono (G':=fun k=>False∨w.heap.size≤k) (fun k _ h=>.inr (by have h5:=HS5.out;have h6:=HQ.out;rcases h with h|h<;>omega))));obtain⟨y0,y1,y2,y3,y4⟩:=Cr5 x12;obtain⟨z0,z1,z2,z3,z4,z5,z6,z7⟩:=Cr8 x13;clear x12 x13 c12 c13 s12 s13 hx13 hcb hrd hrj hbb hba hb1 hb2 hd0 hS0 hsz9 hs85;go_wp2_with fail;exact Bv (hr:=by simp[go_sem,y0,y1,y2,y3,y4,z0,z1,z2,z3,z4,z5,z6,z7]) (.tuple #[.agg #[.slice fa fn fc,.slice fd fm fe,.int .i64 fl,.bool fb,.int .i64 fz],.agg #[.int .i64 a0,.int .i64 a1,.int .i64 a2,.int .i64 a3,.int .i64 a4,.slice ea en ec,.int .i64 a6,.int .i64 a7],.int .i64 Z.2.1]) ⟨_,_,rfl,HRE.out,HBE.out,⟨_,_,_,_,_,_,_,_,_,_,rfl⟩,HRJ.out⟩
   ·have hltI:¬(y0.gen:Int)<(y1.gen:Int):=by omega
    rw[In hlt]at hcc;have HCX:=Hd hcc;have hye:=hye0;clear hye1 hcc;obtain⟨xa,xc,e9⟩:=hye.form;subst e9;have HWX:=Hd (fun(W:World) (hW:Below w8.heap.size w8 W)=>HWR.out W (Tq HB8.out hW) y0 HCX.out _ xa xc (hye.below hW).secsF);obtain⟨gx,hgx⟩:=Xq (y0.gen);obtain⟨fx,hfx⟩:=Xq (y0.first);obtain⟨nx,hnx⟩:=Xq (y0.ents.length)
    try rw[hgx]at hltI
    rw[hgx,hfx,hnx]at HWX;rw[hgx,hfx,hnx];have HCE:=Hd (fun w' (hw':Below w8.heap.size w8 w')=>by have h1:=(Bq hw' HX68.out);exact Cr5 h1);clear hye hgx hfx hnx k0 k1 k2 k3 k4;go_wp2_with fail;refine bG [16,17,18] ?_;intro wd hd0;have hS0:=hd0;refine BV 0 HCE.out hS0 ?_;refine tkP 1 hS0 ?_;refine tkP 2 hS0 ?_;refine BV 3 HCE.out hS0 ?_;refine tkP 4 hS0 ?_;refine tkP 5 hS0 ?_;refine tkP 6 hS0 ?_;refine tkP 7 hS0 ?_ (v:=.int .i64 ((gx:Int)%2)) (hy:=fun w' hw'=>by(have htm:Int.tmod (gx:Int) 2=(gx:Int)%2:=Int.tmod_eq_emod_of_nonneg (by omega);first| (go_simp;rfl)| (go_simp;done)));refine tkP 8 hS0 ?_ (v:=.int .i64 ((1:Int)-(gx:Int)%2)) (hy:=fun w' hw'=>by(have hwr:=Iw ((1:Int)-(gx:Int)%2);first| (go_simp;rfl)| (go_simp;done)));refine tkP 10 hS0 ?_;refine tkP 11 hS0 ?_;refine dG 9 fun K hK=>?_
    go_simp;go_at_call 59;refine(HNX.out wd (Tq HB8.out hS0) gx).mono ?_;rintro e Va ⟨rfl,hb1⟩;have hba:=Tq hS0 hb1;refine Kq hK hba ?_;refine dG 12 fun K hK=>?_
    go_simp;go_at_call 58;refine(HWX.out Va hba).mono ?_;rintro e Vw ⟨v',jv,rfl,hrd,hb2,⟨a0,a1,a2,a3,a4,ea,en,ec,a6,a7,rfl⟩,hrj⟩;obtain⟨fa,fn,fc,fd,fm,fe,fl,fb,fz,rfl⟩:=hrd.form;have hbb:=Tq hba hb2;refine Kq hK hbb ?_;refine tkP 13 hbb ?_;refine tkP 14 hbb ?_;refine tkP 15 hbb ?_;refine dGf 16 fun K hK=>?_
    refine Pv 39 6 86 (q+1) (Bq hbb HX128.out) ?_;intro B1 x12 c12 s12;have hx13:=(c12.block (q+2) (Nl (Ax HX138.out).1 hbb.size) (by omega)).trans (Bq hbb HX138.out);refine Kr hK ?_;refine dGf 17 fun K hK=>?_
    refine Pv 41 7 87 (q+2) hx13 ?_;intro B2 x13 c13 s13;refine Kr hK ?_;refine dGf 18 fun K hK=>?_
    go_simp;refine Kr hK ?_;refine eG ?_;have x12:=Ck c13 x12;have hcb:=(c12.mono (G:=fun k=>k=q+1∨k=q+2) (fun k e=>.inl e)).trans (c13.mono (G:=fun k=>k=q+1∨k=q+2) (fun k e=>.inr e)) (fun k e=>.inl e);have hsz9:=hba.size;have HB9:=Hd (Tq HB8.out hbb);have hs85:=HSZ58.out;obtain⟨HRE,HBE,HRJ⟩:=Hd3 ((hrd.kept hcb (fun k h e=>by have h5:=HS5.out;have h6:=HQ.out;rcases h with h|h<;>omega)).mono (G':=fun k=>G k∨w.heap.size≤k) (fun k h=>h.imp (fun h=>h.1) (fun h=>by have h5:=HS5.out;have h6:=HQ.out;omega))) (HB9.out.trans (hcb.below (B:=w.heap.size) (fun k e=>by have:=HQ.out;omega) HB9.out.size)) (fun h0=>(((hrj h0).kept hcb (fun k _ h e=>by have h5:=HS5.out;rcases h with h|h<;>omega)).mono (G':=fun k=>False∨w.heap.size≤k) (fun k _ h=>.inr (by have h5:=HS5.out;have h6:=HQ.out;rcases h with h|h<;>omega))));obtain⟨y0,y1,y2,y3,y4⟩:=Cr5 x12;obtain⟨z0,z1,z2,z3,z4,z5,z6,z7⟩:=Cr8 x13;clear x12 x13 c12 c13 s12 s13 hx13 hcb hrd hrj hbb hba hb1 hb2 hd0 hS0 hsz9 hs85;go_wp2_with fail;exact Bv (hr:=by simp[go_sem,y0,y1,y2,y3,y4,z0,z1,z2,z3,z4,z5,z6,z7]) (.tuple #[.agg #[.slice fa fn fc,.slice fd fm fe,.int .i64 fl,.bool fb,.int .i64 fz],.agg #[.int .i64 a0,.int .i64 a1,.int .i64 a2,.int .i64 a3,.int .i64 a4,.slice ea en ec,.int .i64 a6,.int .i64 a7],.int .i64 Z.2.1]) ⟨_,_,rfl,HRE.out,HBE.out,⟨_,_,_,_,_,_,_,_,_,_,rfl⟩,HRJ.out⟩
theorem Nn (hD:RefD w G S v) (R:JR) (h8:8≤R.cnt) (hr:R.at_+R.cnt≤S.dur.length) (hm:S.dur.length≤100) (hd:S.down=false) (hfit:∀x,BW S R=some x→FitE R x.first x.ents) (hroom:Roomy S 910000100):
 Ca 36 #[v,.int .i64 (R.at_:Int),.int .i64 (R.cnt:Int)] w (RWPost w G (fun _=>False) R (openR S R)):=by
 by_cases h0:AQ (Ah S (R.area 0) R.half) 0=none
 ·exact IY hD R h8 hr hm hd hfit hroom (.inl h0)
 ·by_cases h1:AQ (Ah S (R.area 1) R.half) 1=none
  ·exact IY hD R h8 hr hm hd hfit hroom (.inr h1)
  ·exact Nm hD R h8 hr hm hd hfit hroom ⟨h0,h1⟩
theorem J6 (l:List (List UInt8)) (f:PartD):∀k i acc,acc.length≤224*i→i≤l.length→(AU l f i k acc).2.2=0→(AU l f i k acc).1.load.length≤224*(i+k)∧i+k≤l.length
 |0,_,_,ha,hi,_=>⟨ha,hi⟩
 |k+1,i,acc,ha,hi,h=>by
  rw[AU]at h⊢;cases hb:l[i]? with
  |none=>rw[hb]at h;cases h
  |some b=>
   rw[hb]at h;simp only at h⊢;have hil:=(List.getElem?_eq_some_iff.1 hb).1;by_cases h1:Al b≠0
   ·rw[Ip h1]at h;exact absurd h h1
   ·rw[In h1]at h⊢;have h0:Al b=0:=Classical.not_not.1 h1;have hp:=Cj h0;have hl:=hp.2.2.2.1.len;rw[←hp.2.2.2.2]at hl;by_cases h2:CT f (Ak b) i
    ·rw[Ip h2]at h⊢;have h3:=J6 l f k (i+1) (acc++(Ak b).bytes) (by rw[List.length_append];omega) (by omega) h;exact⟨by have:=h3.1;omega,by have:=h3.2;omega⟩
    ·rw[In h2]at h;cases h
theorem P9 {l:List (List UInt8)} (h:(Av l).2.2=0):Af (Av l).1.load.length≤(Av l).2.1∧(Av l).2.1≤l.length:=by
 cases l with
 |nil=>cases h
 |cons b l=>
  rw[Av]at h⊢;by_cases h1:Al b≠0
  ·rw[Ip h1]at h;exact absurd h h1
  ·rw[In h1]at h⊢;have h0:Al b=0:=Classical.not_not.1 h1;have hp:=Cj h0;have hl:=hp.2.2.2.1.len;have hc:=hp.2.2.2.1.c0;rw[←hp.2.2.2.2]at hl hc;by_cases h2:(Ak b).idx≠0
   ·rw[Ip h2]at h;cases h
   ·rw[In h2]at h⊢;have h3:=J6 (b::l) (Ak b) ((Ak b).cnt.toNat-1) 1 (Ak b).bytes (by omega) (by simp) h;have h4:=Eq (b::l) (Ak b) ((Ak b).cnt.toNat-1) 1 (Ak b).bytes h;rw[h4];have h5:=h3.1;have h6:=h3.2;refine⟨?_,by omega⟩;unfold Af;omega
theorem J7 (g n:Int) (l:List (List UInt8)):∀k a out,(out.map fun r:RecD=>Af r.load.length).sum≤a→a≤l.length→((scanGo g n l k a out).1.map fun r:RecD=>Af r.load.length).sum≤l.length
 |0,_,_,h,ha=>Nt h ha
 |k+1,a,out,h,ha=>by
  rw[scanGo];by_cases h1:l.length≤a
  ·rw[Ip h1];exact Nt h ha
  ·rw[In h1];by_cases h2:(Av (l.drop a)).2.2≠0
   ·rw[Ip h2];exact Nt h ha
   ·rw[In h2];by_cases h3:(Av (l.drop a)).1.gen=g∧(Av (l.drop a)).1.num=n+out.length
    ·rw[Ip h3];have h4:=P9 (l:=l.drop a) (Classical.not_not.1 h2);rw[List.length_drop]at h4;refine J7 g n l k _ _ ?_ (by omega);rw[List.map_append,List.sum_append,List.map_singleton,List.sum_singleton];omega
    ·rw[In h3];exact Nt h ha
theorem Qa (g n:Int) (l:List (List UInt8)):((AP g n l).1.map fun r:RecD=>Af r.load.length).sum≤l.length:=by
 unfold AP;split
 ·exact Nat.zero_le _
 ·exact J7 g n l _ _ _ (Nat.zero_le _) (Nat.zero_le _)
theorem Mz:∀t:List RecD,((BK t).map fun b=>Af b.length).sum≤(t.map fun r=>Af r.load.length).sum
 | []=>Nat.le_refl _
 |r::t=>by
  have h:=Mz t;unfold BK at h⊢;rw[List.takeWhile_cons];split
  ·rw[List.map_cons,List.map_cons,List.sum_cons,List.map_cons,List.sum_cons];omega
  ·exact Nat.zero_le _
theorem Ff {l:List (List UInt8)}{which:Nat}{y:ArD} (h:AQ l which=some y):y.first≤2147483647∧Aq y.ents≤l.length:=by
 obtain⟨_,_,_,h4⟩:=DQ h;have h5:=Qa (y.gen:Int) 0 l;cases hs:(AP (y.gen:Int) 0 l).1 with
 |nil=>rw[hs]at h4;cases h4
 |cons r t=>
  rw[hs]at h4 h5;rw[CN]at h4;split at h4
  ·cases h4
  ·cases hn:C9 r.load with
   |none=>rw[hn]at h4;cases h4
   |some fc=>
    obtain⟨f,c⟩:=fc;rw[hn]at h4;simp only at h4;split at h4
    ·have hy:=Option.some.inj h4;have hyf:y.first=f:=by rw[←hy]
     have hye:y.ents=BK t:=by rw[←hy]
     rw[hyf,hye];refine⟨?_,?_⟩
     ·show f≤2147483647;unfold C9 C3 at hn;split at hn
      ·rename_i h6;have h7:Ae (r.load.take 8)=f:=by have:=Option.some.inj hn;exact congrArg Prod.fst this
       rw[←h7];exact h6.2.1
      ·cases hn
     ·show Aq (BK t)≤l.length;rw[List.map_cons,List.sum_cons]at h5;have h6:=Mz t;have h7:1≤Af r.load.length:=by unfold Af;omega
      unfold Aq;omega
    ·cases h4
theorem Fg {x:ArD} (h:BW S R=some x):FitE R x.first x.ents:=by
 have key:∀w,AQ (Ah S (R.area w) R.half) w=some x→FitE R x.first x.ents:=fun w h0=>by have h1:=Ff h0;rw[Bu]at h1;exact⟨by omega,h1.2⟩
 obtain⟨k1,k2,k3,k4⟩:=Fz (S:=S) (R:=R) rfl rfl;cases hA:AQ (Ah S (R.area 0) R.half) 0 with
 |none=>
  cases hB:AQ (Ah S (R.area 1) R.half) 1 with
  |none=>rw[k1 hA hB]at h;cases h
  |some y=>rw[k3 y hA hB]at h;obtain rfl :=Option.some.inj h;exact key 1 hB
 |some x0=>
  cases hB:AQ (Ah S (R.area 1) R.half) 1 with
  |none=>rw[k2 x0 hA hB]at h;obtain rfl :=Option.some.inj h;exact key 0 hA
  |some y=>
   rw[k4 x0 y hA hB]at h;split at h
   ·obtain rfl :=Option.some.inj h;exact key 1 hB
   ·obtain rfl :=Option.some.inj h;exact key 0 hA
def Quiet (S:DS) (s:Nat):Prop:=S.dur.getD s zeros=zeros∧∀x∈S.pend,x.1≠s
section
variable {S S':DS} {s:Nat}
theorem Quiet.visible (h:Quiet S s):S.visible s=zeros:=by
 rcases Bo S s with h1|h1
 ·exact h1.trans h.1
 ·exact absurd rfl (h.2 _ h1)
theorem Quiet.same (h:Quiet S s) (hp:S'.pend=S.pend) (hd:S'.dur=S.dur):Quiet S' s:=by unfold Quiet;rw[hp,hd];exact h
theorem Quiet.wrote {a:Nat}{L:List (List UInt8)} (h:Quiet S s) (hw:WroteL S S' a L) (hs:s<a∨a+L.length≤s):Quiet S' s:=by
 refine⟨by rw[hw.dur];exact h.1,fun x hx=>?_⟩;rw[hw.pend]at hx;rcases List.mem_append.1 hx with hx|hx
 ·exact h.2 x hx
 ·obtain⟨h1,h2⟩:=Ig (s:=x.1) (x:=x.2) hx;have h3:=(List.getElem?_eq_some_iff.1 h2).1;omega
theorem Quiet.rdur (h:Quiet S s) (hs:s<S.dur.length) (cs:List UInt8):∀k,k≤S.pend.length→(rdur S cs k).getD s zeros=zeros
 |0,_=>h.1
 |k+1,hk=>by
  rw[KJ (by omega) hs,In (h.2 _ (List.getElem_mem _))];exact h.rdur hs cs k (by omega)
theorem Quiet.flush (h:Quiet S s) (hs:s<S.dur.length):Quiet S.flush.1 s:=by
 unfold DS.flush;split
 ·exact h
 split
 ·refine⟨?_,(fun x hx=>by cases hx)⟩;show(B7 S S.pend.length).getD s zeros=zeros;unfold B7;exact h.rdur hs _ _ Lr
 ·exact h.same (AN S).1 (AN S).2
theorem Quiet.restart (h:Quiet S s) (hs:s<S.dur.length) (cs:List UInt8):Quiet (S.restart cs).1 s:=by
 unfold DS.restart;split
 ·refine⟨?_,(fun x hx=>by cases hx)⟩;exact h.rdur hs cs _ Lr
 ·exact h
theorem Qb {a:Nat}{L:List (List UInt8)} (h:Quiet S s) (hs:s<a∨a+L.length≤s):Quiet (wrL S a L).1 s:=by obtain⟨k,hk,hw,_⟩:=DF L S a;exact h.wrote hw (by rw[List.length_take];omega)
theorem OX {a u:Nat}{rs:List RecD} (hok:∀r∈rs,As r=0) (h:Quiet S s) (hs:s<a+u∨a+u+(Ar rs).length≤s):Quiet (putR S a u rs).1 s:=by obtain⟨k,hk,hw,_⟩:=Ev rs S a u hok;exact h.wrote hw (by rw[List.length_take];omega)
theorem MA {a u:Nat}{rs:List RecD} (hok:∀r∈rs,As r=0):(putR S a u rs).1.dur=S.dur:=by obtain⟨k,_,hw,_⟩:=Ev rs S a u hok;exact hw.dur
theorem Fh (S:DS):S.flush.1.dur.length=S.dur.length:=by
 unfold DS.flush;split
 ·rfl
 split
 ·exact AV _ _ _
 ·rw[(AN S).2]
theorem Qc {a:Nat} (hl:JLw 0 f E) (h:Quiet S s) (hs0:s<S.dur.length) (hs:s<a∨a+Aq E≤s):Quiet (wrJ S a g f E).1 s∧(wrJ S a g f E).1.dur.length=S.dur.length:=by
 by_cases hg:2147483647<g
 ·have e:wrJ S a g f E=(S,9,C4):=by unfold wrJ;rw[Ip hg]
  rw[e];exact⟨h,rfl⟩
 ·have hlg:=hl.with (g:=g) (by omega);have hok:=hlg.recs.mem;have hsz:=hlg.size;have h1:=OX (a:=a) (u:=0) hok h (by rw[hsz];omega);have h2:(putR S a 0 (AG g f E)).1.dur=S.dur:=MA hok;obtain⟨P,hP⟩:=Xq (putR S a 0 (AG g f E));rw[hP]at h1 h2;by_cases h0:P.2.2=0
  ·by_cases hf:P.1.flush.2=0
   ·rw[G9 hg hP h0 hf];exact⟨h1.flush (by rw[h2];exact hs0),by show P.1.flush.1.dur.length=_;rw[Fh,h2]⟩
   ·rw[Ey hg hP h0 hf];exact⟨h1.flush (by rw[h2];exact hs0),by show P.1.flush.1.dur.length=_;rw[Fh,h2]⟩
  ·rw[Fy hg hP h0];exact⟨h1,by show P.1.dur.length=_;rw[h2]⟩
end
structure DevOk (S:DS) (R:JR):Prop where
 len:S.dur.length=48
 rng:R.at_+R.cnt≤48
 quiet:∀s,s<48→¬(R.at_≤s∧s<R.at_+2*R.half)→Quiet S s
theorem DevOk.moveJ {w:Nat} (h:DevOk S R) (hw:w≤1) (hl:JLw 0 f E) (hE:Aq E≤R.half):DevOk (moveJ S R w f E).1 R:=by
 rw[DH];have hlen:=h.len;have ha:R.at_≤R.area w∧R.area w+Aq E≤R.at_+2*R.half:=by unfold JR.area;rcases(show w=0∨w=1 by omega)with rfl |rfl <;>omega
 refine⟨?_,h.rng,fun s hs hn=>(Qc hl (h.quiet s hs hn) (by omega) (by omega)).1⟩;have hq:(wrJ S (R.area w) (AA w (Ah S R.at_ R.cnt)) f E).1.dur.length=S.dur.length:=by
  by_cases hg:2147483647<AA w (Ah S R.at_ R.cnt)
  ·unfold wrJ;rw[Ip hg]
  ·have hlg:=hl.with (g:=AA w (Ah S R.at_ R.cnt)) (by omega);have h2:(putR S (R.area w) 0 (AG (AA w (Ah S R.at_ R.cnt)) f E)).1.dur=S.dur:=MA hlg.recs.mem;obtain⟨P,hP⟩:=Xq (putR S (R.area w) 0 (AG (AA w (Ah S R.at_ R.cnt)) f E));rw[hP]at h2;by_cases h0:P.2.2=0
   ·by_cases hf:P.1.flush.2=0
    ·rw[G9 hg hP h0 hf];show P.1.flush.1.dur.length=_;rw[Fh,h2]
    ·rw[Ey hg hP h0 hf];show P.1.flush.1.dur.length=_;rw[Fh,h2]
   ·rw[Fy hg hP h0];show P.1.dur.length=_;rw[h2]
 rw[hq,hlen]
theorem DevOk.next (h:DevOk S R) {w:Nat}:AA w (Ah S R.at_ (2*R.half))=AA w (Ah S R.at_ R.cnt):=by
 have hr:=h.rng;have hh:R.half=R.cnt/2:=rfl;rcases(show R.cnt=2*R.half∨R.cnt=2*R.half+1 by omega)with e|e
 ·rw[←e]
 ·rw[e];have e2:Ah S R.at_ (2*R.half+1)=Ah S R.at_ (2*R.half)++[S.visible (R.at_+2*R.half)]:=by unfold Ah;rw[List.range_succ,List.map_append];rfl
  rw[e2,(h.quiet (R.at_+2*R.half) (by omega) (by omega)).visible];unfold AA;rw[List.foldl_append,List.foldl_cons,List.foldl_nil];unfold Ce;rw[In (fun h0=>JS h0.1)]
variable {n:Nat}
theorem MB {w:Nat} (hw:w≤1) (hn:n≤R.half):R.area w+n≤R.at_+2*R.half:=by unfold JR.area;rcases(show w=0∨w=1 by omega)with rfl |rfl <;>omega
theorem K0 {w:Nat} (h:DevOk S R) (hd:S.down=false) (hw:w≤1) (hl:JLw 0 f E) (hE:Aq E≤R.half):
 ((moveJ S R w f E).2.1=0∧(moveJ S R w f E).1.down=false∧(moveJ S R w f E).2.2=⟨AA w (Ah S R.at_ R.cnt),Aq E,f,E,f+E.length,0⟩∧AA w (Ah S R.at_ R.cnt)≤2147483647)∨
 ((moveJ S R w f E).2.1=9∧(moveJ S R w f E).1=S)∨((moveJ S R w f E).2.1=28∧(moveJ S R w f E).1.down=true):=by
 rw[DH];obtain⟨g,hgE⟩:=Xq (AA w (Ah S R.at_ R.cnt));rw[hgE];by_cases hg:2147483647<g
 ·refine .inr (.inl ?_);unfold wrJ;rw[Ip hg];exact⟨rfl,rfl⟩
 ·have hlg:=hl.with (g:=g) (by omega);have hok:=hlg.recs.mem;have hsz:=hlg.size;have ha:R.area w+Aq E≤R.at_+2*R.half:=MB hw hE;have hh:R.half=R.cnt/2:=rfl;have hlen:=h.len;have hrng:=h.rng;obtain⟨k,hk1,hk2,hk3⟩:=IS (S:=S) (a:=R.area w) (rs:=AG g f E) hok (by unfold AG;simp);obtain⟨P,hP⟩:=Xq (putR S (R.area w) 0 (AG g f E));rw[hP]at hk3;by_cases h0:P.2.2=0
  ·obtain⟨_,hu,hdn⟩:=hk3 h0;rw[hsz]at hu;rcases ET hdn with⟨hf,_,hd2,_⟩| ⟨hf,_,hd2⟩
   ·rw[G9 hg hP h0 hf,hu];exact .inl ⟨rfl,hd2,rfl,by omega⟩
   ·rw[Ey hg hP h0 (by rw[hf];decide)];exact .inr (.inr ⟨hf,hd2⟩)
  ·rw[Fy hg hP h0];have h1:=Mi (S:=S) (a:=R.area w) (u:=0) hok (by rw[hsz];omega) (by rw[hP];exact h0);rw[hP]at h1;exact .inr (.inr h1)
structure JInv (S:DS) (R:JR) (J:JD) (t:Nat):Prop where
 dev:DevOk S R
 used:J.used=Aq J.ents
 fit:Aq J.ents≤R.half
 gen:J.gen≤2147483647
 nx:J.first+J.ents.length≤2147483700+t
 st:(J.failed=0∧S.down=false)∨(J.failed=28∧S.down=true)
theorem JInv.fitE {t:Nat} (h:JInv S R J t) (ht:t≤1000):FitE R J.first J.ents:=⟨by have:=h.nx;omega,h.fit⟩
theorem Cl (h:DevOk S R):R.half≤24:=by have:=h.rng;unfold JR.half;omega
theorem JInv.lim {t:Nat} (h:JInv S R J t) (ht:t≤1000):JLw 0 J.first J.ents:=(h.fitE ht).lim (by have:=Cl h.dev;omega)
theorem DevOk.wrL {a:Nat}{L:List (List UInt8)} (h:DevOk S R) (ha:R.at_≤a) (hL:a+L.length≤R.at_+2*R.half):DevOk (wrL S a L).1 R:=by obtain⟨k,hk,hw,_⟩:=DF L S a;exact⟨by rw[hw.dur];exact h.len,h.rng,fun s hs hn=>Qb (h.quiet s hs hn) (by omega)⟩
theorem DevOk.flush (h:DevOk S R):DevOk S.flush.1 R:=⟨by rw[Fh];exact h.len,h.rng,fun s hs hn=>(h.quiet s hs hn).flush (by rw[h.len];exact hs)⟩
theorem DevOk.restart (h:DevOk S R) (cs:List UInt8):DevOk (S.restart cs).1 R:=by
 refine⟨?_,h.rng,fun s hs hn=>(h.quiet s hs hn).restart (by rw[h.len];exact hs) cs⟩;unfold DS.restart;split
 ·show(rdur S cs _).length=48;rw[AV];exact h.len
 ·exact h.len
theorem DevOk.same {S':DS} (h:DevOk S R) (hp:S'.pend=S.pend) (hd:S'.dur=S.dur):DevOk S' R:=⟨by rw[hd];exact h.len,h.rng,fun s hs hn=>(h.quiet s hs hn).same hp hd⟩
theorem JInv.app {t:Nat}{b:List UInt8} (h:JInv S R J t) (ht:t≤1000):JInv (appJ S R J b).1 R (appJ S R J b).2.1 (t+1):=by
 have hup:JInv S R J (t+1):=⟨h.dev,h.used,h.fit,h.gen,by have:=h.nx;omega,h.st⟩;have hus:=h.used;have hsl:=BQ J.ents;have hf:=h.fit;have hh:=Cl h.dev;unfold appJ;by_cases h1:J.failed≠0
 ·rw[Ip h1];exact hup
 ·rw[In h1];by_cases h2:100000<b.length
  ·rw[Ip h2];exact hup
  ·rw[In h2];by_cases h3:R.half-J.used<Af b.length
   ·rw[Ip h3];exact hup
   ·rw[In h3];have h0:J.failed=0:=Classical.not_not.1 h1;have hdn:S.down=false:=by rcases h.st with⟨_,hd⟩| ⟨hd,_⟩<;>simp_all
    have hr0:As (AI J.gen (J.ents.length+1) b)=0:=FH h.gen (by omega) (by omega);have hl:(Ac (AI J.gen (J.ents.length+1) b)).length=Af b.length:=AL hr0;have hn1:1≤Af b.length:=by unfold Af;omega
    have ha:=MB (R:=R) (w:=J.gen%2) (n:=J.used+Af b.length) (by omega) (by omega);have hai:R.at_≤R.area (J.gen%2):=Nat.le_add_right _ _;have hD:=h.dev.wrL (a:=R.area (J.gen%2)+J.used) (L:=Ac (AI J.gen (J.ents.length+1) b)) (by omega) (by rw[hl];omega);obtain⟨k,_,_,hw⟩:=DF (Ac (AI J.gen (J.ents.length+1) b)) S (R.area (J.gen%2)+J.used);by_cases h4:(wrL S (R.area (J.gen%2)+J.used) (Ac (AI J.gen (J.ents.length+1) b))).2=0
    ·rw[Ip h4];have hd2:=(hw h4).2.1 (GW hr0);refine⟨hD,?_,?_,h.gen,?_,.inl ⟨h0,hd2⟩⟩
     ·show J.used+Af b.length=Aq (J.ents++[b]);rw[DG,hus]
     ·show Aq (J.ents++[b])≤_;rw[DG];omega
     ·show J.first+(J.ents++[b]).length≤_;have:=h.nx;rw[List.length_append,List.length_singleton];omega
    ·rw[In h4];have he:=GF (S:=S) (a:=R.area (J.gen%2)+J.used) (CV (AI J.gen (J.ents.length+1) b)) (by rw[hl,h.dev.len];have:=h.dev.rng;have:R.half=R.cnt/2:=rfl;omega) h4;exact⟨hD,h.used,h.fit,h.gen,by have:=h.nx;show J.first+J.ents.length≤_;omega,.inr he⟩
theorem JInv.syn {t:Nat} (h:JInv S R J t):JInv (synJ S J).1 R (synJ S J).2.1 (t+1):=by
 have hup:JInv S R J (t+1):=⟨h.dev,h.used,h.fit,h.gen,by have:=h.nx;omega,h.st⟩;unfold synJ;by_cases h1:J.failed≠0
 ·rw[Ip h1];exact hup
 ·rw[In h1];have h0:J.failed=0:=Classical.not_not.1 h1;have hdn:S.down=false:=by rcases h.st with⟨_,hd⟩| ⟨hd,_⟩<;>simp_all
  rcases ET hdn with⟨hf,_,hd2,_⟩| ⟨hf,_,hd2⟩
  ·rw[Ip hf];exact⟨h.dev.flush,h.used,h.fit,h.gen,by have:=h.nx;show J.first+J.ents.length≤_;omega,.inl ⟨h0,hd2⟩⟩
  ·rw[In (by rw[hf];decide)];exact⟨h.dev.flush,h.used,h.fit,h.gen,by have:=h.nx;show J.first+J.ents.length≤_;omega,.inr ⟨hf,hd2⟩⟩
theorem JInv.moved {w t:Nat} (h:DevOk S R) (hd:S.down=false) (hw:w≤1) (hl:JLw 0 f E) (hE:Aq E≤R.half) (hn:f+E.length≤2147483700+t) (h0:(moveJ S R w f E).2.1=0):JInv (moveJ S R w f E).1 R (moveJ S R w f E).2.2 t:=by
 have hD:=h.moveJ hw hl hE;rcases K0 h hd hw hl hE with⟨_,h2,h3,h4⟩| ⟨h1,_⟩| ⟨h1,_⟩
 ·rw[h3];exact⟨hD,rfl,hE,h4,hn,.inl ⟨rfl,h2⟩⟩
 ·rw[h1]at h0;exact absurd h0 (by decide)
 ·rw[h1]at h0;exact absurd h0 (by decide)
theorem JInv.trn {t:Nat} (h:JInv S R J t) (ht:t≤1000) (x:Int):JInv (trnJ S R J x).1 R (trnJ S R J x).2.1 (t+1):=by
 have hup:JInv S R J (t+1):=⟨h.dev,h.used,h.fit,h.gen,by have:=h.nx;omega,h.st⟩;have hnx:=h.nx;unfold trnJ;by_cases h1:J.failed≠0
 ·rw[Ip h1];exact hup
 ·rw[In h1];by_cases h2:x<J.first∨(J.next:Int)<x
  ·rw[Ip h2];exact hup
  ·rw[In h2];by_cases h3:x=J.first
   ·rw[Ip h3];exact hup
   ·rw[In h3];have h0:J.failed=0:=Classical.not_not.1 h1;have hdn:S.down=false:=by rcases h.st with⟨_,hd⟩| ⟨hd,_⟩<;>simp_all
    unfold JD.next at h2;obtain⟨k,rfl⟩:∃k:Nat,x=((J.first+k:Nat):Int):=⟨x.toNat-J.first,by omega⟩;rw[Int.toNat_natCast,Nat.add_sub_cancel_left];have hkn:k≤J.ents.length:=by omega
    have hE:Aq (J.ents.drop k)≤R.half:=Nt (DR _ _) h.fit;have hl0:=h.lim ht;have hl:JLw 0 (J.first+k) (J.ents.drop k):=⟨by omega,by omega,by rw[List.length_drop];have:=hl0.n;omega,fun b hb=>hl0.len b (List.mem_of_mem_drop hb)⟩;have hw:1-J.gen%2≤1:=by omega
    have hD:=h.dev.moveJ (f:=J.first+k) hw hl hE;by_cases he:(moveJ S R (1-J.gen%2) (J.first+k) (J.ents.drop k)).2.1=0
    ·rw[Ip he];exact JInv.moved h.dev hdn hw hl hE (by rw[List.length_drop];omega) he
    ·rw[In he];rcases K0 h.dev hdn hw hl hE with⟨h4,_⟩| ⟨h4,h5⟩| ⟨h4,h5⟩
     ·exact absurd h4 he
     ·rw[h4,h5,In (by decide)];exact⟨h.dev,h.used,h.fit,h.gen,by show J.first+J.ents.length≤_;omega,.inl ⟨rfl,hdn⟩⟩
     ·rw[h4,Ip rfl];exact⟨hD,h.used,h.fit,h.gen,by show J.first+J.ents.length≤_;omega,.inr ⟨rfl,h5⟩⟩
variable {m:Nat}
theorem IZ {w:Nat} (h:Roomy S (m+1+Aq E)):Roomy (moveJ S R w f E).1 m:=by
 have h1:∀g a,Roomy (wrA S a g f E).1 m:=fun g a=>Je (h.less (by have:=@Fe g f E;omega))
 unfold moveJ;simp only;split
 ·exact h.less (by omega)
 split
 ·exact h1 _ _
 ·exact h1 _ _
theorem OY {t:Int} (h:Roomy S (m+1+Aq J.ents)):Roomy (trnJ S R J t).1 m:=by
 have h3:∀w f k,Roomy (moveJ S R w f (J.ents.drop k)).1 m:=fun w f k=>IZ (h.less (by have:=DR J.ents k;omega))
 unfold trnJ;split
 ·exact h.less (by omega)
 split
 ·exact h.less (by omega)
 split
 ·exact h.less (by omega)
 split
 ·exact h3 _ _ _
 ·exact h3 _ _ _
structure WInv (S:DS) (R:JR) (j:Option (Nat×JD)) (t:Nat):Prop where
 dev:DevOk S R
 a3:R.at_=3
 c8:8≤R.cnt
 room:Roomy S (999000000-10000*t)
 st:∀g J,j=some (g,J)→JInv S R J t
section
variable {S:DS} {R:JR} {j:Option (Nat×JD)} {g t:Nat} {J:JD}
theorem WInv.ji (h:WInv S R (some (g,J)) t):JInv S R J t:=h.st g J rfl
theorem WInv.c45 (h:WInv S R j t):R.cnt≤45:=by have:=h.dev.rng;have:=h.a3;omega
theorem WInv.app (h:WInv S R (some (g,J)) t) (ht:t≤100) (b:List UInt8):WInv (appJ S R J b).1 R (some (g,(appJ S R J b).2.1)) (t+1):=
 ⟨(h.ji.app (by omega)).dev,h.a3,h.c8,KT (h.room.less (by omega)),fun g' J' e=>by cases e;exact h.ji.app (by omega)⟩
theorem WInv.syn (h:WInv S R (some (g,J)) t) (ht:t≤100):WInv (synJ S J).1 R (some (g,(synJ S J).2.1)) (t+1):=
 ⟨h.ji.syn.dev,h.a3,h.c8,KU (h.room.less (by omega)),fun g' J' e=>by cases e;exact h.ji.syn⟩
theorem WInv.trn (h:WInv S R (some (g,J)) t) (ht:t≤100) (x:Int):WInv (trnJ S R J x).1 R (some (g,(trnJ S R J x).2.1)) (t+1):=
 ⟨(h.ji.trn (by omega) x).dev,h.a3,h.c8,OY (h.room.less (by have:=h.ji.fit;have:=Cl h.dev;omega)),fun g' J' e=>by cases e;exact h.ji.trn (by omega) x⟩
theorem WInv.lim (h:WInv S R j t) (ht:t≤100) {n:Int} (hn:n≤100):WInv (S.setLimit n) R j (t+1):=
 ⟨h.dev.same rfl rfl,h.a3,h.c8,⟨by have:=h.room.ops;show S.ops+_≤_;omega,by have:=h.room.pend;show S.pend.length+_≤_;omega,by unfold DS.setLimit;show Option.getD (if 0≤n then some n.toNat else none) 0≤_;split <;>simp<;>omega⟩,fun g' J' e=>by obtain⟨h1,h2,h3,h4,h5,h6⟩:=h.st g' J' e;exact⟨h1.same rfl rfl,h2,h3,h4,by omega,h6⟩⟩
theorem I0 {x:ArD} (h:BW S R=some x):x.first≤2147483647:=by
 obtain⟨k1,k2,k3,k4⟩:=Fz (S:=S) (R:=R) rfl rfl;cases hA:AQ (Ah S (R.area 0) R.half) 0 with
 |none=>
  cases hB:AQ (Ah S (R.area 1) R.half) 1 with
  |none=>rw[k1 hA hB]at h;cases h
  |some y=>rw[k3 y hA hB]at h;cases h;exact(Ff hB).1
 |some y=>
  cases hB:AQ (Ah S (R.area 1) R.half) 1 with
  |none=>rw[k2 y hA hB]at h;cases h;exact(Ff hA).1
  |some z=>
   rw[k4 y z hA hB]at h;split at h
   ·cases h;exact(Ff hB).1
   ·cases h;exact(Ff hA).1
theorem Qd (h:DevOk S R) (hd:S.down=false):DevOk (openR S R).1 R∧((openR S R).2.1=0→JInv (openR S R).1 R (openR S R).2.2 t):=by
 unfold openR;cases hx:BW S R with
 |none=>exact⟨h,fun e=>by simp at e⟩
 |some x=>
  have hf:=Fg hx;have h1:=I0 hx;have h2:=Cl h;have h3:=hf.lim (by omega);have hs:=hf.size;have hl:=BQ x.ents;exact⟨h.moveJ (by omega) h3 hs,fun e=>JInv.moved h hd (by omega) h3 hs (by omega) e⟩
theorem OZ (hr:Roomy S (m+100)) (h:DevOk S R):Roomy (openR S R).1 m:=by
 unfold openR;cases hx:BW S R with
 |none=>exact hr.less (by omega)
 |some x=>
  have hs:=(Fg hx).size;have h2:=Cl h;exact IZ (hr.less (by omega))
theorem WInv.open (h:WInv S R j t) (ht:t≤100) (hd:S.down=false) (g:Nat):WInv (openR S R).1 R (if(openR S R).2.1=0 then some (g,(openR S R).2.2)else none) (t+1):=by
 obtain⟨h1,h2⟩:=Qd (t:=t+1) h.dev hd;refine⟨h1,h.a3,h.c8,OZ (h.room.less (by omega)) h.dev,fun g' J' e=>?_⟩;split at e
 ·cases e;rename_i h0;exact h2 h0
 ·cases e
theorem WInv.none (h:WInv S R j t):WInv S R none t:=⟨h.dev,h.a3,h.c8,h.room,fun _ _ e=>by cases e⟩
theorem WInv.crash (h:WInv S R j t) (cs:List UInt8):WInv ({S with down:=true}.restart cs).1 R Option.none t∧({S with down:=true}.restart cs).1.down=false∧({S with down:=true}.restart cs).2=0:=by
 have h1:DevOk {S with down:=true} R:=h.dev.same rfl rfl;refine⟨⟨h1.restart cs,h.a3,h.c8,?_,fun _ _ e=>by cases e⟩,?_,?_⟩
 ·unfold DS.restart;rw[Ip rfl];exact⟨h.room.ops,by show 0+_≤_;omega,by show 0≤_;omega⟩
 ·unfold DS.restart;rw[Ip rfl]
 ·unfold DS.restart;rw[Ip rfl]
end
theorem No {N:Nat→Prop}{lv:Value} (hN:NumsAt w N lv J.first J.ents) (hJ:RefJ w G R J jv) (hb:J.first+J.ents.length≤4294967296):
 Ca 37 #[lv,jv] w fun e w'=>e=.returned (.bool true)∧Below w.heap.size w w':=by
 obtain⟨la,lc,rfl⟩:=hN.form;obtain⟨ea,ec,rfl,hE⟩:=hJ.ex;unfold Do;obtain⟨at_,hat⟩:∃x,R.at_=x:=⟨_,rfl⟩;obtain⟨hh,hhh⟩:∃x,R.half=x:=⟨_,rfl⟩;obtain⟨g,hg⟩:∃x,J.gen=x:=⟨_,rfl⟩;obtain⟨u,hu⟩:∃x,J.used=x:=⟨_,rfl⟩;obtain⟨fi,hfi⟩:∃x,J.first=x:=⟨_,rfl⟩;obtain⟨n,hn⟩:∃x,J.ents.length=x:=⟨_,rfl⟩;obtain⟨sy,hsy⟩:∃x,J.synced=x:=⟨_,rfl⟩;obtain⟨fa,hfa⟩:∃x,J.failed=x:=⟨_,rfl⟩;obtain⟨E,hEE⟩:=Xq (J.ents);rw[hfi,hn]at hb;rw[hfi,hEE]at hN;rw[hEE]at hE;rw[hEE]at hn;rw[hn]at hN hE;rw[hEE,hn,hat,hhh,hg,hu,hfi,hsy,hfa];obtain⟨w1,hw1⟩:=Xq (w.alloc (.cells #[.int .i64 at_,.int .i64 hh,.int .i64 g,.int .i64 u,.int .i64 fi,.slice ea n ec,.int .i64 sy,.int .i64 fa] 41));have hb1:=Lq hw1;obtain⟨q,hq⟩:=Xq (w.heap.size);obtain⟨HX,HW1,HQ,HB1,HNU,HEN,HNL⟩:=Hd7 (Nq hw1 hq) hw1 hq hb1 (hN.below hb1) (hE.below hb1) hn;clear hw1 hq hb1 hN hE hJ hn hat hhh hg hu hfi hsy hfa hEE;obtain⟨j0,j1,j2,j3,j4,j5,j6,j7⟩:=Cr8 HX.out;go_enter Tryz.func37,Tryz.ntmps37;go_upto_region 1 with(fail)
 rw[HW1.out]
 try rw[HQ.out]
 go_wp2_with fail;have HL0:=Hd (Below.refl w1.heap.size w1);go_loopw [5] (fun iv wr=>∃(i:Nat),i≤n∧iv=.int .i64 i∧Hid (Below w1.heap.size w1 wr)) (fun iv _=>n-(intOf iv).toNat)
 case atStart=>exact⟨0,Nat.zero_le _,rfl,HL0⟩
 case round=>
  obtain⟨i,hi,rfl,HBR⟩:=hrel;obtain⟨V0,rfl⟩:∃V0,V0=wr:=⟨_,rfl⟩;clear HL0 j0 j1 j2 j3 j4 j5 j6 j7;by_cases hlt:i<n
  case neg=>
   obtain rfl :n=i:=by omega
   go_wp2_with fail;exact Bv (.bool true) ⟨rfl,Tq HB1.out HBR.out⟩
  have hiI:(i:Int)<(n:Int):=by omega
  have hiE:i<E.length:=by rw[HNL.out];exact hlt
  obtain⟨gl,u0,e9,_,hgl,kn0,kn1,hbu⟩:=(HNU.out.below HBR.out).get hiE;subst e9;obtain⟨ua,uc,rfl⟩:=hbu.form;obtain⟨ge,eo,xa,xc,e8,_,hge,ke,hbe⟩:=(HEN.out.below HBR.out).get hiE;subst e8;rw[Int.natCast_add]at kn0;obtain⟨X,hX⟩:=Xq (E[i]);rw[hX]at kn1 hbu ke hbe;have HNC:=Hd (show∀w',Below V0.heap.size V0 w'→w'.cell? ⟨gl,i*2,none⟩=some (.int .i64 ((fi:Int)+(i:Int)))∧w'.cell? ⟨gl,i*2+1,none⟩=some (.slice ua X.length uc)∧(convert 30 9 (.slice ua X.length uc)).run Tryz.prog w'=.ok (.string ⟨X.toArray⟩) w'∧w'.cell? ⟨ge,eo+i,none⟩=some (.slice xa X.length xc)∧(convert 30 9 (.slice xa X.length xc)).run Tryz.prog w'=.ok (.string ⟨X.toArray⟩) w'∧w'.cell? ⟨q,4,none⟩=some (.int .i64 fi)∧w'.cell? ⟨q,5,none⟩=some (.slice (some ⟨ge,eo,none⟩) n ec)from fun w' hw'=>by have h1:=(hw'.block q (Nl (Ax HX.out).1 HBR.out.size)).trans (Bq HBR.out HX.out);refine⟨(hw'.cell (p:=⟨gl,i*2,none⟩) hgl).trans kn0,(hw'.cell (p:=⟨gl,i*2+1,none⟩) hgl).trans kn1,(hbu.below hw').at_.str,(hw'.cell (p:=⟨ge,eo+i,none⟩) hge).trans ke,(hbe.below hw').at_.str,?_,?_⟩<;>rw[cr h1]<;>rfl)
  obtain⟨xn,hxn⟩:=Xq (X.length);rw[hxn]at HNC;clear kn0 kn1 hbu ke hbe hX;go_wp2_with fail;refine bB ?_;intro wd hd0;have hS0:=hd0;refine tkH 0 hS0 ?_;refine tkH 1 hS0 ?_;refine tkH 2 hS0 ?_;refine tkH 3 hS0 ?_;refine AD 4 HNC.out hS0 ?_;refine tkH 5 hS0 ?_;refine AD 6 HNC.out hS0 ?_;refine tkH 7 hS0 ?_;refine tkH 8 hS0 ?_ (v:=.int .i64 ((fi:Int)+(i:Int))) (hy:=fun w' hw'=>by(have hwr:=Iw ((fi:Int)+(i:Int));clear hw';first| (go_simp;rfl)| (go_simp;done)));refine tkH 9 hS0 ?_ (v:=.bool false);refine tkH 10 hS0 ?_;refine Aj 11 hS0 ?_;refine Aj 12 hS0 ?_;refine Aj 13 hS0 ?_;refine Aj 14 hS0 ?_;refine Bw 15 HNC.out hS0 ?_;refine Bw 16 HNC.out hS0 ?_;refine Aj 17 hS0 ?_;refine Bw 18 HNC.out hS0 ?_;refine Aj 19 hS0 ?_;refine Aj 20 hS0 ?_;refine Bw 21 HNC.out hS0 ?_;refine Bw 22 HNC.out hS0 ?_;refine Aj 23 hS0 ?_ (v:=.bool false);refine tkH 24 hS0 ?_ (v:=.bool false);refine eH ?_;have HBR2:=Hd (Tq HBR.out hd0);clear hd0 hS0;go_wp2_with fail;go_roundw
  case rel=>exact⟨i+1,by omega,by go_num,HBR2⟩
  case measure=>simp[intOf]<;>omega
def RSPost (w:World) (G F:Nat→Prop) (R:JR) (Z:DS×JD×Int) (e:Ending) (w':World):Prop:=
 ∃v' jv,e=.returned (.tuple #[v',jv,.int .i64 Z.2.2])∧RefD w' (fun k=>G k∨w.heap.size≤k) Z.1 v'∧RefJ w' (fun k=>F k∨w.heap.size≤k) R Z.2.1 jv∧Below w.heap.size w w'
theorem RSPost.mk {er:Int}{Z:DS×JD×Int} (hZ:Z=(S,J,er)) (h:RefD w' (fun k=>G k∨w.heap.size≤k) S v) (hj:RefJ w' (fun k=>F k∨w.heap.size≤k) R J jv) (hb:Below w.heap.size w w'):
 RSPost w G F R Z (.returned (.tuple #[v,jv,.int .i64 er])) w':=by
 subst hZ;exact⟨v,jv,rfl,h,hj,hb⟩
section
variable {w w4 V B:World} {G F:Nat→Prop} {S:DS} {R:JR} {J:JD} {v:Value} {q p at_ hh g u fi sy n nu c:Nat} {a:Option Addr} {fa er nv:Int} {jc:Array Value} {v0 v1 v2 v3 v4 u0 u1 u2 u3 u4 u5 u6 u7:Value} {t t':TypeId} {f f':Nat×Nat}
theorem Ee (h1:V.heap[q]?=some (.cells #[v0,v1,v2,v3,v4] t f)) (h2:V.heap[p]?=some (.cells #[u0,u1,u2,u3,u4,u5,u6,u7] t' f')) (hp:p≠q+2∧p≠q+3:=by omega):
 ∀w',Chg (fun k=>k=q+2∨k=q+3) V w'→w'.cell? ⟨q,0,none⟩=some v0∧w'.cell? ⟨q,1,none⟩=some v1∧w'.cell? ⟨q,2,none⟩=some v2∧w'.cell? ⟨q,3,none⟩=some v3∧w'.cell? ⟨q,4,none⟩=some v4∧w'.cell? ⟨p,0,none⟩=some u0∧w'.cell? ⟨p,1,none⟩=some u1∧w'.cell? ⟨p,2,none⟩=some u2∧w'.cell? ⟨p,3,none⟩=some u3∧w'.cell? ⟨p,4,none⟩=some u4∧w'.cell? ⟨p,5,none⟩=some u5∧w'.cell? ⟨p,6,none⟩=some u6∧w'.cell? ⟨p,7,none⟩=some u7:=fun w' hw'=>by
 have h1:=Ck hw' h1;have h2:=Ck hw' h2;refine⟨?_,?_,?_,?_,?_,?_,?_,?_,?_,?_,?_,?_,?_⟩<;>first| (rw[cr h1];rfl)| (rw[cr h2];rfl)
theorem Ef (hc:Chg (fun k=>k=q+3) V B) (h1:V.heap[q+2]?=some (.cells #[v0,v1,v2,v3,v4] t f)) (h2:B.heap[q+3]?=some (.cells #[u0,u1,u2,u3,u4,u5,u6,u7] t' f')):
 B.cell? ⟨q+2,0,none⟩=some v0∧B.cell? ⟨q+2,1,none⟩=some v1∧B.cell? ⟨q+2,2,none⟩=some v2∧B.cell? ⟨q+2,3,none⟩=some v3∧B.cell? ⟨q+2,4,none⟩=some v4∧B.cell? ⟨q+3,0,none⟩=some u0∧B.cell? ⟨q+3,1,none⟩=some u1∧B.cell? ⟨q+3,2,none⟩=some u2∧B.cell? ⟨q+3,3,none⟩=some u3∧B.cell? ⟨q+3,4,none⟩=some u4∧B.cell? ⟨q+3,5,none⟩=some u5∧B.cell? ⟨q+3,6,none⟩=some u6∧B.cell? ⟨q+3,7,none⟩=some u7:=by
 have h1:=Ck hc h1;refine⟨?_,?_,?_,?_,?_,?_,?_,?_,?_,?_,?_,?_,?_⟩<;>first| (rw[cr h1];rfl)| (rw[cr h2];rfl)
theorem O0 (hq:w.heap.size=q) (h4:w4.heap.size=q+4) (hc:Chg (fun k=>k=q+2∨k=q+3) V B) (h:RefD V (fun k=>(G k∧k<q)∨w4.heap.size≤k) S v):RefD B (fun k=>G k∨w.heap.size≤k) S v:=
 (h.kept hc (fun k h e=>by rcases h with h|h<;>omega)).mono (fun k h=>h.imp (fun h=>h.1) (fun h=>by omega))
theorem O1 (hq:w.heap.size=q) (hc:Chg (fun k=>k=q+2∨k=q+3) V B) (h:Below w.heap.size w V):Below w.heap.size w B:=h.trans (hc.below (B:=w.heap.size) (fun k e=>by omega) h.size)
theorem Ro (hq:w.heap.size=q) (h4:w4.heap.size=q+4) (hc:Chg (fun k=>k=q+2∨k=q+3) V B) (hn:J.ents.length=n) (hE:SecsF V (fun k=>(F k∧k<q)∨w4.heap.size≤k) (.slice a n c) J.ents) (hj:Do R J (.slice a n c)=jc):RefJ B (fun k=>F k∨w.heap.size≤k) R J (.agg jc):=by subst hn hj;exact⟨a,c,rfl,(hE.chg hc (fun k _ h e=>by rcases h with⟨h,h9⟩|h<;>omega)).weak (fun k _ h=>h.imp (fun h=>h.1) (fun h=>by omega))⟩
theorem FA {Z:DS×JD×Int} (hq:w.heap.size=q) (h4:w4.heap.size=q+4) (hc:Chg (fun k=>k=q+2∨k=q+3) V B) (hZ:Z=(S,J,er)) (h:RefD V (fun k=>(G k∧k<q)∨w4.heap.size≤k) S v) (hb:Below w.heap.size w V) (hn:J.ents.length=n) (hE:SecsF V (fun k=>(F k∧k<q)∨w4.heap.size≤k) (.slice a n c) J.ents) (hj:Do R J (.slice a n c)=jc):RSPost w G F R Z (.returned (.tuple #[v,.agg jc,.int .i64 er])) B:=
 RSPost.mk hZ (O0 hq h4 hc h) (Ro hq h4 hc hn hE hj) (O1 hq hc hb)
theorem DI (h:R.at_=at_∧R.half=hh∧J.gen=g∧J.used=u∧J.first=fi∧J.synced=sy∧J.failed=fa):Do R J v=#[.int .i64 at_,.int .i64 hh,.int .i64 g,.int .i64 u,.int .i64 fi,v,.int .i64 sy,.int .i64 fa]:=by obtain⟨rfl,rfl,rfl,rfl,rfl,rfl,rfl⟩:=h;rfl
theorem IE (h:R.at_=at_∧R.half=hh∧J.gen=g∧J.used=u∧J.first=fi∧J.synced=sy∧J.failed=fa):Do R {J with failed:=er} v=#[.int .i64 at_,.int .i64 hh,.int .i64 g,.int .i64 u,.int .i64 fi,v,.int .i64 sy,.int .i64 er]:=by obtain⟨rfl,rfl,rfl,rfl,rfl,rfl,rfl⟩:=h;rfl
end
theorem Nr (hD:RefD w G S v) (hJ:RefJ w F R J jv) (hnb:J.first+J.ents.length<4611686018427387904) (hroom:Roomy S 910000000):
 Ca 30 #[v,jv] w (RSPost w G F R (synJ S J)):=by
 obtain⟨da,dn,dc,dd,dm,de,dl,db,dz,rfl⟩:=hD.form;obtain⟨ea,ec,rfl,hEJ⟩:=hJ.ex;unfold Do;obtain⟨at_,hat⟩:∃x,R.at_=x:=⟨_,rfl⟩;obtain⟨hh,hhh⟩:∃x,R.half=x:=⟨_,rfl⟩;obtain⟨g,hg⟩:∃x,J.gen=x:=⟨_,rfl⟩;obtain⟨u,hu⟩:∃x,J.used=x:=⟨_,rfl⟩;obtain⟨fi,hfi⟩:∃x,J.first=x:=⟨_,rfl⟩;obtain⟨n,hn⟩:∃x,J.ents.length=x:=⟨_,rfl⟩;obtain⟨sy,hsy⟩:∃x,J.synced=x:=⟨_,rfl⟩;obtain⟨fa,hfa⟩:∃x,J.failed=x:=⟨_,rfl⟩;obtain⟨Z,hZ⟩:=Xq (synJ S J);rw[hZ];obtain⟨HZ,HN,HNM,HFL⟩:=Hd4 hZ hn (show R.at_=at_∧R.half=hh∧J.gen=g∧J.used=u∧J.first=fi∧J.synced=sy∧J.failed=fa from⟨hat,hhh,hg,hu,hfi,hsy,hfa⟩) (fun(W:World) (G':Nat→Prop) (h:RefD W G' S (.agg #[.slice da dn dc,.slice dd dm de,.int .i64 dl,.bool db,.int .i64 dz]))=>JZ h hroom);rw[hn]at hEJ;rw[hfi,hn]at hnb;rw[hat,hhh,hg,hu,hfi,hn,hsy,hfa];obtain⟨w1,hw1⟩:=Xq (w.alloc (.cells #[.slice da dn dc,.slice dd dm de,.int .i64 dl,.bool db,.int .i64 dz] 39));obtain⟨w2,hw2⟩:=Xq (w1.alloc (.cells #[.int .i64 at_,.int .i64 hh,.int .i64 g,.int .i64 u,.int .i64 fi,.slice ea n ec,.int .i64 sy,.int .i64 fa] 41));obtain⟨w3,hw3⟩:=Xq (w2.alloc (.cells #[.slice none 0 0,.slice none 0 0,.int .i64 0,.bool false,.int .i64 0] 39));obtain⟨w4,hw4⟩:=Xq (w3.alloc (.cells #[.int .i64 0,.int .i64 0,.int .i64 0,.int .i64 0,.int .i64 0,.slice none 0 0,.int .i64 0,.int .i64 0] 41));have hb1:=Lq hw1;have hb2:=Lq hw2;have hb3:=Lq hw3;have hb4:=Lq hw4;obtain⟨q,hq⟩:=Xq (w.heap.size);have hs1:w1.heap.size=q+1:=by rw[←hw1,Sz,hq]
 have hs2:w2.heap.size=q+2:=by rw[←hw2,Sz,hs1]
 have hs3:w3.heap.size=q+3:=by rw[←hw3,Sz,hs2]
 have hs4:w4.heap.size=q+4:=by rw[←hw4,Sz,hs3]
 have hxd:w4.heap[q]?=some (.cells #[.slice da dn dc,.slice dd dm de,.int .i64 dl,.bool db,.int .i64 dz] 39 (0,0)):=(hb4.block q (by omega)).trans ((hb3.block q (by omega)).trans ((hb2.block q (by omega)).trans (by rw[←hq,←hw1];exact Hn)));have hxj:w4.heap[q+1]?=some (.cells #[.int .i64 at_,.int .i64 hh,.int .i64 g,.int .i64 u,.int .i64 fi,.slice ea n ec,.int .i64 sy,.int .i64 fa] 41 (0,0)):=(hb4.block (q+1) (by omega)).trans ((hb3.block (q+1) (by omega)).trans (by rw[←hs1,←hw2];exact Hn));have hxe:w4.heap[q+2]?=some (.cells #[.slice none 0 0,.slice none 0 0,.int .i64 0,.bool false,.int .i64 0] 39 (0,0)):=(hb4.block (q+2) (by omega)).trans (by rw[←hs2,←hw3];exact Hn);have hxk:w4.heap[q+3]?=some (.cells #[.int .i64 0,.int .i64 0,.int .i64 0,.int .i64 0,.int .i64 0,.slice none 0 0,.int .i64 0,.int .i64 0] 41 (0,0)):=by rw[←hs3,←hw4];exact Hn
 have hbw:Below w.heap.size w w4:=hb1.trans ((hb2.mono hb1.size).trans ((hb3.mono (Nt hb1.size hb2.size)).trans (hb4.mono (Nt hb1.size (Nt hb2.size hb3.size)))));obtain⟨HW1,HW2,HW3,HW4,HQ,HS1,HS2,HS3,HS4,HB4,HXD,HXJ,HXE,HXK⟩:=Hd14 hw1 hw2 hw3 hw4 hq hs1 hs2 hs3 hs4 hbw hxd hxj hxe hxk;have HRD:=Hd ((hD.bound.below hbw).mono (G':=fun k=>G k∧k<q) (fun k h=>⟨h.1,by rw[←hq];exact h.2⟩));have HEJ:=Hd ((hEJ.bound.below hbw).weak (G:=fun k=>F k∧k<q) (fun k _ h=>⟨h.1,by rw[←hq];exact h.2⟩));clear hw1 hw2 hw3 hw4 hb1 hb2 hb3 hb4 hs1 hs2 hs3 hs4 hxd hxj hxe hxk hbw hq hD hJ hEJ hZ hat hhh hg hu hfi hn hsy hfa hroom;obtain⟨k0,k1,k2,k3,k4⟩:=Cr5 (HXD.out);obtain⟨j0,j1,j2,j3,j4,j5,j6,j7⟩:=Cr8 (HXJ.out);go_enter Tryz.func30,Tryz.ntmps30;go_upto_region 1 with(fail)
 rw[HW1.out,HW2.out,HW3.out,HW4.out]
 try rw[HS3.out]
 try rw[HS2.out]
 try rw[HS1.out]
 try rw[HQ.out]
 by_cases hf0:fa=0
 case neg=>
  have hfd:(fa !=0)=true:=by simpa using hf0
  have HZB:=Hd (show Z=(S,J,fa) by rw[←HZ.out];unfold synJ;rw[HNM.out.2.2.2.2.2.2,Ip hf0]);clear hf0;have HRD9:=Hd (HRD.out.mono (G':=fun k=>(G k∧k<q)∨w4.heap.size≤k) (fun k h=>.inl h));have HCE:=Hd (Ee HXD.out HXJ.out);go_wp2_with fail;refine bH (fun k=>k=q+2∨k=q+3) ?_;intro wd hd0 hS0;refine AD 0 HCE.out hS0 ?_;refine AD 1 HCE.out hS0 ?_;refine tkH 2 hS0 ?_;refine AD 3 HCE.out hS0 ?_;refine dH 4 fun K hK=>?_
  refine Pv 39 4 11 (q+2) (Bq hd0 HXE.out) ?_;intro B1 Bx1 Bc1 Bs1;have hS0:=DW hS0 Bc1;refine Kq hK (hS0) ?_;refine dH 5 fun K hK=>?_
  refine Pv 41 5 12 (q+3) (ckS Bc1 hd0 HXK.out) ?_;intro B2 Bx2 Bc2 Bs2;have hS0:=DX hS0 Bc2;refine Kq hK (hS0) ?_;refine tkH 6 hS0 ?_;refine eH ?_;have hcb:=hS0;obtain⟨y0,y1,y2,y3,y4,z0,z1,z2,z3,z4,z5,z6,z7⟩:=Ef Bc2 Bx1 Bx2;clear Bx1 Bx2 Bc1 Bc2 Bs1 Bs2 hd0 hS0;go_wp2_with fail;exact Bv (hr:=by simp[go_sem,y0,y1,y2,y3,y4,z0,z1,z2,z3,z4,z5,z6,z7]) (.tuple #[.agg #[.slice da dn dc,.slice dd dm de,.int .i64 dl,.bool db,.int .i64 dz],.agg #[.int .i64 at_,.int .i64 hh,.int .i64 g,.int .i64 u,.int .i64 fi,.slice ea n ec,.int .i64 sy,.int .i64 fa],.int .i64 fa]) (FA HQ.out HS4.out hcb HZB.out HRD9.out HB4.out HN.out (HEJ.out.weak (fun k _ h=>.inl h)) (DI HNM.out))
 subst hf0;have HZF:=Hd (show(if S.flush.2=0 then(S.flush.1,{J with synced:=J.next},0)else(S.flush.1,{J with failed:=S.flush.2},S.flush.2))=Z by rw[←HZ.out];unfold synJ;rw[HNM.out.2.2.2.2.2.2,In (show¬((0:Int)≠0)from fun h=>h rfl)]);obtain⟨Y,hY⟩:=Xq (S.flush);rw[hY]at HFL HZF;obtain⟨T,er⟩:=Y;simp only at HFL HZF;clear hY;go_wp2_with fail;refine(HFL.out w4 _ HRD.out).mono ?_;rintro e V1 ⟨v',rfl,hrd,hb1⟩;obtain⟨fa,fn,fc,fd,fm,fe,fl,fb,fz,rfl⟩:=hrd.form;clear k0 k1 k2 k3 k4 j0 j1 j2 j3 j4 j5 j6 j7;go_wp2_with (refine Pl 39 2 18 q (Bq hb1 HXD.out) ?_;refine Stop.on ?_)
 refine Stop.go ?_
 try simp only[P0,P1,P2,P3,P4]
 intro V2 x2 c2 s2
 try simp only[P0,P1,P2,P3,P4]
 have hc2:Chg (fun k=>k=q) w4 V2:=(Cb (F:=fun k=>k=q) hb1).trans c2 (fun k e=>.inl e);obtain⟨HRD2,HXD2,HXJ2,HXE2,HXK2,HB2,HEJ2⟩:=Hd7 (hrd.kept c2 (fun k h e=>by have h5:=HS4.out;rcases h with h|h<;>omega)) (show V2.heap[q]?=some (.cells #[.slice fa fn fc,.slice fd fm fe,.int .i64 fl,.bool fb,.int .i64 fz] 39 (0,0))from x2) (Ck hc2 HXJ.out) (Ck hc2 HXE.out) (Ck hc2 HXK.out) (HB4.out.trans (hc2.below (B:=w.heap.size) (fun k e=>by have:=HQ.out;omega) HB4.out.size)) (HEJ.out.chg hc2 (fun k _ h e=>by have:=h.2;omega));clear hrd x2 c2 s2 hb1 hc2 HXD HXJ HXE HXK HRD HEJ;obtain⟨j0,j1,j2,j3,j4,j5,j6,j7⟩:=Cr8 (HXJ2.out);by_cases her:er=0
 case neg=>
  have hed:(er !=0)=true:=by simpa using her
  have HZB:=Hd (show Z=(T,{J with failed:=er},er) by rw[←HZF.out,In her]);clear her;go_wp2_with (refine Az rfl rfl 3 (.tmp 23) (.tmp 22) rfl (q+1) 7 (.int .i64 er) rfl rfl HXJ2.out (by show 7<8;decide) rfl (by kernel_rfl) ?_;refine Stop.on ?_)
  refine Stop.go ?_
  try simp only[P0,P1,P2,P3,P4]
  intro V3 x3 c3 s3
  try simp only[P0,P1,P2,P3,P4]
  obtain⟨HXD3,HXJ3,HXE3,HXK3,HB3,HEJ3,HRD3⟩:=Hd7 (Ck c3 HXD2.out) (show V3.heap[q+1]?=some (.cells #[.int .i64 at_,.int .i64 hh,.int .i64 g,.int .i64 u,.int .i64 fi,.slice ea n ec,.int .i64 sy,.int .i64 er] 41 (0,0))from x3) (Ck c3 HXE2.out) (Ck c3 HXK2.out) (HB2.out.trans (c3.below (B:=w.heap.size) (fun k e=>by have:=HQ.out;omega) HB2.out.size)) (HEJ2.out.chg c3 (fun k _ h e=>by have:=h.2;omega)) (HRD2.out.kept c3 (fun k h e=>by have h5:=HS4.out;rcases h with h|h<;>omega));clear x3 c3 s3 HXD2 HXJ2 HXE2 HXK2 HB2 HEJ2 HRD2 j0 j1 j2 j3 j4 j5 j6 j7;have HCE:=Hd (Ee HXD3.out HXJ3.out);go_wp2_with fail;refine bH (fun k=>k=q+2∨k=q+3) ?_;intro wd hd0 hS0;refine AD 0 HCE.out hS0 ?_;refine AD 1 HCE.out hS0 ?_;refine tkH 2 hS0 ?_;refine dH 3 fun K hK=>?_
  refine Pv 39 4 24 (q+2) (Bq hd0 HXE3.out) ?_;intro B1 Bx1 Bc1 Bs1;have hS0:=DW hS0 Bc1;refine Kq hK (hS0) ?_;refine dH 4 fun K hK=>?_
  refine Pv 41 5 25 (q+3) (ckS Bc1 hd0 HXK3.out) ?_;intro B2 Bx2 Bc2 Bs2;have hS0:=DX hS0 Bc2;refine Kq hK (hS0) ?_;refine tkH 5 hS0 ?_;refine eH ?_;have hcb:=hS0;obtain⟨y0,y1,y2,y3,y4,z0,z1,z2,z3,z4,z5,z6,z7⟩:=Ef Bc2 Bx1 Bx2;clear Bx1 Bx2 Bc1 Bc2 Bs1 Bs2 hd0 hS0;go_wp2_with fail;exact Bv (hr:=by simp[go_sem,y0,y1,y2,y3,y4,z0,z1,z2,z3,z4,z5,z6,z7]) (.tuple #[.agg #[.slice fa fn fc,.slice fd fm fe,.int .i64 fl,.bool fb,.int .i64 fz],.agg #[.int .i64 at_,.int .i64 hh,.int .i64 g,.int .i64 u,.int .i64 fi,.slice ea n ec,.int .i64 sy,.int .i64 er],.int .i64 er]) (FA HQ.out HS4.out hcb HZB.out HRD3.out HB3.out HN.out (HEJ3.out.weak (fun k _ h=>.inl h)) (IE HNM.out))
 subst her;have HZB:=Hd (show Z=(T,{J with synced:=J.next},0) by rw[←HZF.out,Ip rfl]);have hwn:=Iw ((fi:Int)+(n:Int));go_wp2_with (refine Az rfl rfl 3 (.tmp 33) (.tmp 32) rfl (q+1) 6 (.int .i64 ((fi:Int)+(n:Int))) rfl rfl HXJ2.out (by show 6<8;decide) rfl (by kernel_rfl) ?_;refine Stop.on ?_)
 refine Stop.go ?_
 try simp only[P0,P1,P2,P3,P4]
 intro V3 x3 c3 s3
 try simp only[P0,P1,P2,P3,P4]
 obtain⟨HXD3,HXJ3,HXE3,HXK3,HB3,HEJ3,HRD3⟩:=Hd7 (Ck c3 HXD2.out) (show V3.heap[q+1]?=some (.cells #[.int .i64 at_,.int .i64 hh,.int .i64 g,.int .i64 u,.int .i64 fi,.slice ea n ec,.int .i64 ((fi:Int)+(n:Int)),.int .i64 0] 41 (0,0))from x3) (Ck c3 HXE2.out) (Ck c3 HXK2.out) (HB2.out.trans (c3.below (B:=w.heap.size) (fun k e=>by have:=HQ.out;omega) HB2.out.size)) (HEJ2.out.chg c3 (fun k _ h e=>by have:=h.2;omega)) (HRD2.out.kept c3 (fun k h e=>by have h5:=HS4.out;rcases h with h|h<;>omega));clear x3 c3 s3 HXD2 HXJ2 HXE2 HXK2 HB2 HEJ2 HRD2 j0 j1 j2 j3 j4 j5 j6 j7;have HCE:=Hd (Ee HXD3.out HXJ3.out);go_wp2_with fail;refine bH (fun k=>k=q+2∨k=q+3) ?_;intro wd hd0 hS0;refine AD 0 HCE.out hS0 ?_;refine AD 1 HCE.out hS0 ?_;refine dH 2 fun K hK=>?_
 refine Pv 39 4 34 (q+2) (Bq hd0 HXE3.out) ?_;intro B1 Bx1 Bc1 Bs1;have hS0:=DW hS0 Bc1;refine Kq hK (hS0) ?_;refine dH 3 fun K hK=>?_
 refine Pv 41 5 35 (q+3) (ckS Bc1 hd0 HXK3.out) ?_;intro B2 Bx2 Bc2 Bs2;have hS0:=DX hS0 Bc2;refine Kq hK (hS0) ?_;refine tkH 4 hS0 ?_;refine eH ?_;have hcb:=hS0;obtain⟨y0,y1,y2,y3,y4,z0,z1,z2,z3,z4,z5,z6,z7⟩:=Ef Bc2 Bx1 Bx2;clear Bx1 Bx2 Bc1 Bc2 Bs1 Bs2 hd0 hS0;go_wp2_with fail;exact Bv (hr:=by simp[go_sem,y0,y1,y2,y3,y4,z0,z1,z2,z3,z4,z5,z6,z7]) (.tuple #[.agg #[.slice fa fn fc,.slice fd fm fe,.int .i64 fl,.bool fb,.int .i64 fz],.agg #[.int .i64 at_,.int .i64 hh,.int .i64 g,.int .i64 u,.int .i64 fi,.slice ea n ec,.int .i64 ((fi:Int)+(n:Int)),.int .i64 0],.int .i64 0]) (FA HQ.out HS4.out hcb HZB.out HRD3.out HB3.out HN.out (HEJ3.out.weak (fun k _ h=>.inl h)) (by obtain⟨e1,e2,e3,e4,e5,e6,e7⟩:=HNM.out;unfold Do JD.next;simp only[e1,e2,e3,e4,e5,e7,HN.out,Int.natCast_add]))
end Go.Proofs.YtplclpileejemaaGreatDoor
