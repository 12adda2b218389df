/- Short form (wip/zpack.py) of the texts Jp6 J12 J13 J14 J15 J16 J17 J18 J19. -/
import Derived.Test.YtplclpileejemaaGreatDoorP7
import Derived.Defers
set_option linter.all false
set_option maxRecDepth 100000
set_option maxHeartbeats 8000000
namespace Go.Proofs.YtplclpileejemaaGreatDoor
open Go.RowKit
variable {g f n k i:Nat}{E:List (List UInt8)}{S:DS}{R:JR}{J:JD}
def Aq (E:List (List UInt8)):Nat:=1+(E.map fun b=>Af b.length).sum
theorem GZ:∀{rs:List RecD},(∀r∈rs,As r=0)→(Ar rs).length=(rs.map fun r=>Af r.load.length).sum
 | [],_=>rfl
 |r::rs,h=>by
  rw[BP,List.length_append,AL (h r (List.mem_cons_self ..)),GZ (fun q hq=>h q (List.mem_cons_of_mem _ hq)),List.map_cons,List.sum_cons]
theorem Cw {c:Nat} (h:JLim g f c E):(Ar (AK g f c E)).length=Aq E:=by
 rw[GZ h.recs.mem,AK,List.map_cons,List.sum_cons];have e1:Af (BJ f c).length=1:=by rw[Cu];rfl
 have e2:(E.mapIdx fun i b=>AI g (i+1) b).map (fun r=>Af r.load.length)=E.map fun b=>Af b.length:=by
  apply List.ext_getElem
  ·simp
  ·intro i h1 h2;simp[AI]
 rw[e2];show Af (BJ f c).length+_=_;rw[e1];rfl
theorem DG (E:List (List UInt8)) (b:List UInt8):Aq (E++[b])=Aq E+Af b.length:=by simp[Aq];omega
theorem DR (E:List (List UInt8)) (k:Nat):Aq (E.drop k)≤Aq E:=by
 have h:(E.map fun b=>Af b.length).sum=((E.take k).map fun b=>Af b.length).sum+((E.drop k).map fun b=>Af b.length).sum:=by rw[←List.sum_append,←List.map_append,List.take_append_drop]
 unfold Aq;omega
theorem BQ (E:List (List UInt8)):E.length+1≤Aq E:=by
 unfold Aq
 induction E with
 |nil=>simp
 |cons b E ih=>
  rw[List.map_cons,List.sum_cons,List.length_cons];have:1≤Af b.length:=by unfold Af;omega
  omega
def GH (E:List (List UInt8)):Prop:=∀b∈E,b.length≤100000
theorem JLim.mk' {c:Nat} (hg:g≤2147483647) (hf:f+E.length≤2147483647) (hc:c≤E.length) (hl:GH E):JLim g f c E:=
 ⟨hg,by unfold C3;omega,by unfold C3;omega,by omega,fun b hb=>Nt (hl b hb) (by omega)⟩
structure JI (S:DS) (R:JR) (J:JD) (c:Nat):Prop where
 w:JW S R J.gen J.first c J.ents (J.synced-J.first)
 sy:J.first≤J.synced
 used:J.used=Aq J.ents
 vis:∀i,i<J.used→(Ar (AK J.gen J.first c J.ents))[i]?=some (S.visible (R.area (J.gen%2)+i))
 failed:J.failed=0
 down:S.down=false
 rng:R.at_+R.cnt≤S.dur.length
 short:GH J.ents
theorem JI.fit {c:Nat} (h:JI S R J c):Aq J.ents≤R.half:=by rw[←Cw h.w.lim];exact h.w.fit
theorem JI.curr {c:Nat} (h:JI S R J c):BW S R=some ⟨J.gen,J.first,J.ents⟩:=by
 have hw:=h.w;have hfit:=hw.fit;have hus:=h.used;rw[←Cw hw.lim]at hus;have hdn:=hw.dn;rw[NM];refine KK (h:=J.gen%2) (by omega) ?_ (hw.base.oth _ (EI S R));obtain⟨k,h1,h2,h3⟩:=JK (d:=J.ents.length) (l:=CA S.visible (R.area (J.gen%2)) R.half) hw.lim (by rw[Gs];exact hfit) Lr (fun i hi=>by
  rw[List.take_length]at hi;rw[NK (by omega),h.vis i (by omega)]) (fun i x hx h4 h5=>by
  obtain⟨hi,rfl⟩:=GX hx;exact hw.own i hi _ (Bo S _) h4 h5)
 rw[h3,Ip (by have:=hw.cd;omega),List.take_of_length_le h1]
def PL (S:DS) (R:JR) (M:Nat):Prop:=∀s,inR R s→∀x,Cv S s x→Al x=0→(Ak x).gen≤(M:Int)
theorem RN {M w:Nat} (hw:w≤1) (h:PL S R M):AA w (Ah S R.at_ R.cnt)≤M+2:=by
 obtain⟨_,_,h3⟩:=CI hw (Ah S R.at_ R.cnt);by_cases hp:(M+1)%2=w
 ·have:=h3 (M+1) hp (fun b hb h0=>by obtain⟨s,hs,rfl⟩:=D5 hb;have:=h s hs _ (Bo S s) h0;omega)
  omega
 ·exact h3 (M+2) (by omega) (fun b hb h0=>by obtain⟨s,hs,rfl⟩:=D5 hb;have:=h s hs _ (Bo S s) h0;omega)
theorem RO {c:Nat} (h:JI S R J c):AA (1-J.gen%2) (Ah S R.at_ R.cnt)=J.gen+1:=by
 obtain⟨h1,h2,h3⟩:=CI (w:=1-J.gen%2) (by omega) (Ah S R.at_ R.cnt);have h4:=h3 (J.gen+1) (by omega) (fun b hb h0=>by obtain⟨s,hs,rfl⟩:=D5 hb;have:=h.w.gens s hs _ (Bo S s) h0;omega)
 obtain⟨b,hb,hb0,hbg⟩:=En h.w.lim;have h5:=h.vis 0 (by rw[h.used];have:=BQ J.ents;omega);rw[hb]at h5;obtain rfl :=Option.some.inj h5;have hfit:=h.fit;have hr:=BU (R:=R) (h:=J.gen%2) (i:=0) (by omega) (by have:=BQ J.ents;omega);have:=h2 _ (Jb hr) hb0;omega
structure Mov (S:DS) (R:JR) (g:Nat) (P:ArD→Prop) (M f:Nat) (E:List (List UInt8)):Prop where
 base:JBase S R g P
 gens:PL S R M
 most:M+2≤2147483647
 f:f+E.length≤2147483647
 short:GH E
 fit:Aq E≤R.half
 rng:R.at_+R.cnt≤S.dur.length
theorem Mov.lim {M:Nat}{P:ArD→Prop} (h:Mov S R g P M f E):JLim (AA (1-g%2) (Ah S R.at_ R.cnt)) f E.length E:=
 JLim.mk' (Nt (RN (by omega) h.gens) h.most) h.f Lr h.short
theorem CJ {h:Nat} (hh:h≤1) (hn:n≤R.half):R.area h+n≤R.at_+R.cnt:=by unfold JR.area JR.half at*;rcases(show h=0∨h=1 by omega)with rfl |rfl <;>omega
theorem Mm {M:Nat}{P:ArD→Prop} (h:Mov S R g P M f E) (h0:(moveJ S R (1-g%2) f E).2.1=0):
 JI (moveJ S R (1-g%2) f E).1 R (moveJ S R (1-g%2) f E).2.2 E.length∧(moveJ S R (1-g%2) f E).2.2.gen=AA (1-g%2) (Ah S R.at_ R.cnt)∧(moveJ S R (1-g%2) f E).2.2.first=f∧(moveJ S R (1-g%2) f E).2.2.ents=E∧
 (moveJ S R (1-g%2) f E).2.2.synced=f+E.length∧(moveJ S R (1-g%2) f E).1.dur.length=S.dur.length∧g<(moveJ S R (1-g%2) f E).2.2.gen:=by
 have hl:=h.lim;obtain⟨g',hg'⟩:=Xq (AA (1-g%2) (Ah S R.at_ R.cnt));unfold moveJ at h0⊢;rw[hg']at h0 hl⊢;have hgm:=hl.g;simp only at h0⊢;rw[In (by omega)]at h0⊢;by_cases h1:(wrA S (R.area (1-g%2)) g' f E).2.2=0
 ·rw[Ip h1]at h0⊢;have hsz:=Cw hl;rw[←AO]at hsz;obtain⟨m1,m2,m3,m4,m5,m6,m7⟩:=PK h.base h.rng hg'.symm hl (by rw[hsz];exact h.fit) h1;rw[hsz]at m4 m7;refine⟨⟨?_,by show f≤f+E.length;omega,m4,fun i hi=>?_,rfl,m5,by rw[m6];exact h.rng,h.short⟩,rfl,rfl,rfl,rfl,m6,m2⟩
  ·show JW _ R g' f E.length E (f+E.length-f);rw[Nat.add_sub_cancel_left];exact m3
  ·show(Ar (AK g' f E.length E))[i]?=some (DS.visible _ (R.area (g'%2)+i));rw[m1];exact m7 i (by have h9:i<(wrA S (R.area (1-g%2)) g' f E).2.1:=hi;omega)
 ·rw[In h1]at h0;exact absurd h0 h1
theorem Ih (g f c:Nat) (E:List (List UInt8)) (b:List UInt8):AK g f c (E++[b])=AK g f c E++[AI g (E.length+1) b]:=by unfold AK;rw[List.mapIdx_append];simp
theorem JW.append {S':DS}{c d:Nat}{b:List UInt8} (h:JW S R g f c E d) (hl:JLim g f c (E++[b])) (hfit:Aq (E++[b])≤R.half)
 (hw:WroteL S S' (R.area (g%2)+Aq E) ((Ac (AI g (E.length+1) b)).take k)):JW S' R g f c (E++[b]) d:=by
 have hdn:=h.dn;have hs1:=Cw h.lim;have e:Ar (AK g f c (E++[b]))=Ar (AK g f c E)++Ac (AI g (E.length+1) b):=by rw[Ih,D4];simp[Ar]
 have hnew:∀i x,(Ac (AI g (E.length+1) b))[i]?=some x→(Ar (AK g f c (E++[b])))[Aq E+i]?=some x:=fun i x hx=>by rw[e,List.getElem?_append_right (by omega),hs1,Nat.add_sub_cancel_left];exact hx
 have hc:∀s x,Cv S' s x→Cv S s x∨(∃i,s=R.area (g%2)+(Aq E+i)∧(Ac (AI g (E.length+1) b))[i]?=some x):=fun s x hx=>by
  rcases hw.cand hx with h1| ⟨h1,h2⟩
  ·exact .inl h1
  ·refine .inr ⟨s-(R.area (g%2)+Aq E),by omega,?_⟩;rw[List.getElem?_take]at h2;split at h2
   ·exact h2
   ·cases h2
 refine⟨hl,by rw[Cw hl];exact hfit,h.cd,by rw[List.length_append];omega,fun s hs x hx h0=>?_,fun i hi x hx=>?_,fun i hi x hx h0 hg=>?_⟩
 ·rcases hc s x hx with h1| ⟨i,_,h1⟩
  ·exact h.gens s hs x h1 h0
  ·rw[(hl.gen _ _ (hnew i x h1)).2];exact Int.le_refl _
 ·rw[List.take_append_of_le_length hdn]at hi;have hle:=(EU g f c E d).length_le;rcases hc _ x hx with h1| ⟨j,h1,_⟩
  ·rw[e,List.getElem?_append_left (by omega)];exact h.dur i hi x h1
  ·omega
 ·rcases hc _ x hx with h1| ⟨j,h1,h2⟩
  ·have h3:=h.own i hi x h1 h0 hg;rw[e,List.getElem?_append_left (List.getElem?_eq_some_iff.1 h3).1];exact h3
  ·obtain rfl :i=Aq E+j:=by omega
   exact hnew j x h2
theorem JW.same {S':DS}{c d:Nat} (h:JW S R g f c E d) (hs:Same S S'):JW S' R g f c E d:=
 ⟨h.lim,h.fit,h.cd,h.dn,fun s hr x hx=>h.gens s hr x (hs.cand hx),fun i hi x hx=>h.dur i hi x (hs.cand hx),fun i hi x hx=>h.own i hi x (hs.cand hx)⟩
theorem FH {b:List UInt8} (hg:g≤2147483647) (hi:i≤2147483647) (hb:b.length≤131072):As (AI g i b)=0:=by
 show As ⟨2,g,(i:Int),b⟩=0;unfold As;simp only;have:Aw 2 (g:Int) (i:Int)=true:=by simp[Aw];omega
 rw[In (by rw[this];simp),In (by omega)]
theorem QT {c:Nat}{b:List UInt8} (h:JI S R J c) (hb:b.length≤100000) (hn:J.next+1≤2147483647):
 (appJ S R J b=(S,J,9,0)∧R.half-Aq J.ents<Af b.length)∨
 ((∃S',appJ S R J b=(S',{J with ents:=J.ents++[b],used:=J.used+Af b.length},0,J.next)∧JI S' R {J with ents:=J.ents++[b],used:=J.used+Af b.length} c∧S'.dur.length=S.dur.length)∧Af b.length≤R.half-Aq J.ents)∨
 (∃S',appJ S R J b=(S',{J with failed:=28},28,0)∧JW S' R J.gen J.first c (J.ents++[b]) (J.synced-J.first)∧S'.down=true∧S'.dur.length=S.dur.length):=by
 have hfit:=h.fit;have hlen:=BQ J.ents;have hw:=h.w;unfold appJ;rw[In (by rw[h.failed];simp),In (by omega),h.used];by_cases h1:R.half-Aq J.ents<Af b.length
 ·rw[Ip h1];exact .inl ⟨rfl,h1⟩
 ·rw[In h1];refine .inr ?_;have hg:=hw.lim.g;have hc:c≤(J.ents++[b]).length:=by rw[List.length_append];have:=hw.cd;have:=hw.dn;omega
  unfold JD.next at hn;have hshort:GH (J.ents++[b]):=fun x hx=>by
   rcases List.mem_append.1 hx with hx|hx
   ·exact h.short x hx
   ·rw[List.mem_singleton.1 hx];exact hb
  have hl:JLim J.gen J.first c (J.ents++[b]):=JLim.mk' hg (by rw[List.length_append,List.length_singleton];omega) hc hshort;have hfit':Aq (J.ents++[b])≤R.half:=by rw[DG];omega
  obtain⟨k,hk,hwr,h0⟩:=DF (Ac (AI J.gen (J.ents.length+1) b)) S (R.area (J.gen%2)+Aq J.ents);have hrok:As (AI J.gen (J.ents.length+1) b)=0:=FH hg (by omega) (by omega);have hW:=hw.append hl hfit' hwr;obtain⟨z,hz⟩:=Xq (wrL S (R.area (J.gen%2)+Aq J.ents) (Ac (AI J.gen (J.ents.length+1) b)));rw[hz]at hwr h0 hW⊢;by_cases h2:z.2=0
  ·rw[Ip h2];refine .inl ⟨⟨z.1,rfl,?_,by rw[hwr.dur]⟩,by omega⟩;obtain⟨rfl,hdn,_⟩:=h0 h2;rw[List.take_length]at hwr;have hsl:=AL hrok;have hs1:=Cw hw.lim;refine⟨hW,h.sy,?_,fun i hi=>?_,h.failed,hdn (GW hrok),by rw[hwr.dur];exact h.rng,hshort⟩
   ·show Aq J.ents+_=_;rw[DG]
   ·have hi':i<Aq J.ents+Af b.length:=hi;show(Ar (AK J.gen J.first c (J.ents++[b])))[i]?=some (z.1.visible (R.area (J.gen%2)+i));have e:Ar (AK J.gen J.first c (J.ents++[b]))=Ar (AK J.gen J.first c J.ents)++Ac (AI J.gen (J.ents.length+1) b):=by rw[Ih,D4];simp[Ar]
    rw[e,hwr.visible];have hsl':(Ac (AI J.gen (J.ents.length+1) b)).length=Af b.length:=hsl;by_cases h3:i<Aq J.ents
    ·rw[List.getElem?_append_left (by omega),dif_neg (by omega)];exact h.vis i (by rw[h.used];exact h3)
    ·rw[List.getElem?_append_right (by omega),hs1,dif_pos ⟨by omega,by omega⟩,List.getElem?_eq_getElem (by omega)]
     congr 2
     omega
  ·rw[In h2];have hsl:=AL hrok;have he:z.2=28∧z.1.down=true:=by rw[←hz]at h2⊢;refine GF (CV _) ?_ h2;have hr:=h.rng;have ha:=CJ (R:=R) (h:=J.gen%2) (by omega) hfit';rw[DG]at ha;rw[hsl];show R.area (J.gen%2)+Aq J.ents+Af b.length≤_;omega
   refine .inr ⟨z.1,by rw[he.1],hW,he.2,by rw[hwr.dur]⟩
theorem QU {c:Nat} (h:JI S R J c):
 (∃S',synJ S J=(S',{J with synced:=J.next},0)∧JI S' R {J with synced:=J.next} c∧S'.dur.length=S.dur.length)∨
 (∃S',synJ S J=(S',{J with failed:=28},28)∧JW S' R J.gen J.first c J.ents (J.synced-J.first)∧S'.down=true∧S'.dur.length=S.dur.length):=by
 have hw:=h.w;unfold synJ;rw[In (by rw[h.failed];simp)];rcases ET h.down with⟨f1,f2,f3,f4,f5⟩| ⟨f1,f2,f3⟩
 ·rw[Ip f1];refine .inl ⟨S.flush.1,rfl,?_,f4⟩;have hs1:=Cw hw.lim;have hfit:=h.fit;have hin:∀s,inR R s→s<S.dur.length:=fun s hs=>by have:=hs.2;have:=h.rng;omega
  have hc:∀s,inR R s→∀x,Cv S.flush.1 s x→x=S.visible s:=fun s hs x hx=>by rw[Em f2 hx,f5 s (hin s hs)]
  have hvis:=h.vis;rw[h.used]at hvis;have hcd:=hw.cd;have hdn:=hw.dn;have hsy:=h.sy;refine⟨?_,?_,h.used,fun i hi=>?_,h.failed,f3,by rw[f4];exact h.rng,h.short⟩
  ·show JW S.flush.1 R J.gen J.first c J.ents (J.first+J.ents.length-J.first);rw[Nat.add_sub_cancel_left];refine⟨hw.lim,hw.fit,by omega,Nat.le_refl _,fun s hs x hx h0=>?_,fun i hi x hx=>?_,fun i hi x hx h0 hg=>?_⟩
   ·rw[hc s hs x hx]at h0⊢;exact hw.gens s hs _ (Bo S s) h0
   ·rw[List.take_length,hs1]at hi;rw[hc _ (BU (by omega) (by omega)) x hx];exact hvis i hi
   ·have e:=hc _ (BU (by omega) hi) x hx;rw[e]at h0 hg⊢;exact hw.own i hi _ (Bo S _) h0 hg
  ·show J.first≤J.first+J.ents.length;omega
  ·have hi':i<Aq J.ents:=by rw[←h.used];exact hi
   show(Ar (AK J.gen J.first c J.ents))[i]?=some (S.flush.1.visible (R.area (J.gen%2)+i));rw[f5 _ (hin _ (BU (by omega) (by omega)))];exact hvis i hi'
 ·rw[In (by rw[f1];decide),f1];exact .inr ⟨S.flush.1,rfl,hw.same f2,f3,by rw[f2.dur]⟩
theorem JI.mov {c:Nat} (h:JI S R J c) (hk:k≤J.ents.length) (hn:J.next≤2147483647) (hg:J.gen+2≤2147483647):
 Mov S R J.gen (fun y=>∃j,J.synced-J.first≤j∧j≤J.ents.length∧y=⟨J.gen,J.first,J.ents.take j⟩) J.gen (J.first+k) (J.ents.drop k):=by
 refine⟨h.w.base,h.w.gens,hg,?_,fun b hb=>h.short b (List.mem_of_mem_drop hb),Nt (DR _ _) h.fit,h.rng⟩;unfold JD.next at hn;rw[List.length_drop];omega
end Go.Proofs.YtplclpileejemaaGreatDoor
namespace Go.Proofs.YtplclpileejemaaGreatDoor
open Go.RowKit
variable {S:DS}{g f b:Nat}{E:List (List UInt8)}{F G:Nat→Prop}
theorem KM:∀(rs:List RecD) (S:DS) (a u:Nat) (r:RecD),putR S a u (rs++[r])=if(putR S a u rs).2.2=0 then(if(wrL (putR S a u rs).1 (a+(putR S a u rs).2.1) (Ac r)).2=0 then((wrL (putR S a u rs).1 (a+(putR S a u rs).2.1) (Ac r)).1,(putR S a u rs).2.1+Af r.load.length,0)else((wrL (putR S a u rs).1 (a+(putR S a u rs).2.1) (Ac r)).1,0,(wrL (putR S a u rs).1 (a+(putR S a u rs).2.1) (Ac r)).2))else putR S a u rs
 | [],S,a,u,r=>by
  show(if(wrL S (a+u) (Ac r)).2=0 then putR (wrL S (a+u) (Ac r)).1 a (u+Af r.load.length) []else _)=_;rfl
 |q::rs,S,a,u,r=>by
  by_cases h:(wrL S (a+u) (Ac q)).2=0
  ·have e:∀t,putR S a u (q::t)=putR (wrL S (a+u) (Ac q)).1 a (u+Af q.load.length) t:=fun t=>Ip h
   rw[List.cons_append,e,e,KM rs]
  ·have e:∀t,putR S a u (q::t)=((wrL S (a+u) (Ac q)).1,0,(wrL S (a+u) (Ac q)).2):=fun t=>In h
   rw[List.cons_append,e,e,In h]
theorem KN:∀(A B:List RecD) (S:DS) (a u:Nat),(putR S a u A).2.2≠0→putR S a u (A++B)=putR S a u A
 | [],_,_,_,_,h=>absurd rfl h
 |x::A,B,S,a,u,h=>by
  by_cases hx:(wrL S (a+u) (Ac x)).2=0
  ·have e:∀t,putR S a u (x::t)=putR (wrL S (a+u) (Ac x)).1 a (u+Af x.load.length) t:=fun t=>Ip hx
   rw[List.cons_append,e,e]at*;exact KN A B _ _ _ h
  ·have e:∀t,putR S a u (x::t)=((wrL S (a+u) (Ac x)).1,0,(wrL S (a+u) (Ac x)).2):=fun t=>In hx
   rw[List.cons_append,e,e]
theorem FP:∀{L:List (List UInt8)} {S:DS} {a m:Nat},Roomy S (m+L.length)→Roomy (wrL S a L).1 m
 | [],_,_,_,h=>h
 |b::L,S,a,m,h=>by
  have h1:Roomy (S.write a b).1 (m+L.length):=GT (by simpa[Nat.add_assoc]using h) a b;by_cases h0:(S.write a b).2=0
  ·have e:wrL S a (b::L)=wrL (S.write a b).1 (a+1) L:=Ip h0;rw[e];exact FP h1
  ·have e:wrL S a (b::L)=S.write a b:=In h0;rw[e];exact h1.less (by omega)
theorem KO:∀{rs:List RecD} {S:DS} {a u m:Nat},Roomy S (m+(Ar rs).length)→Roomy (putR S a u rs).1 m
 | [],_,_,_,_,h=>h
 |r::rs,S,a,u,m,h=>by
  rw[BP,List.length_append]at h;have h1:Roomy (wrL S (a+u) (Ac r)).1 (m+(Ar rs).length):=FP (h.less (by omega));by_cases h0:(wrL S (a+u) (Ac r)).2=0
  ·have e:putR S a u (r::rs)=putR (wrL S (a+u) (Ac r)).1 a (u+Af r.load.length) rs:=Ip h0;rw[e];exact KO h1
  ·have e:putR S a u (r::rs)=((wrL S (a+u) (Ac r)).1,0,(wrL S (a+u) (Ac r)).2):=In h0;rw[e];exact h1.less (by omega)
theorem Mn (rs:List RecD) (j:Nat):(Ar (rs.take j)).length≤(Ar rs).length:=by have:=congrArg List.length (show Ar (rs.take j)++Ar (rs.drop j)=Ar rs by rw[←D4,List.take_append_drop]);rw[List.length_append]at this;omega
theorem PM {rs:List RecD}{a:Nat} (hok:∀r∈rs,As r=0) (h:(putR S a 0 rs).2.2=0):(putR S a 0 rs).2.1=(Ar rs).length:=by obtain⟨k,_,_,h3⟩:=Ev rs S a 0 hok;have:=(h3 h).2.1;omega
def Ii (g f:Nat) (v:Value) (u:Nat) (e:Int):Value:=if e=0 then .agg (stC g f v u)else .agg (stC 0 0 (.slice none 0 0) 0)
def Sb (w:World) (F:Nat→Prop) (b g f:Nat) (v:Value) (z:DS×Nat×Int) (e:Ending) (w':World):Prop:=
 e=.returned (.tuple #[Ii g f v z.2.1 z.2.2,.int .i64 z.2.2])∧DiskAt w' (fun k=>F k∨w.heap.size≤k) b z.1∧Chg F w w'
structure JLw (g f:Nat) (E:List (List UInt8)):Prop where
 g:g≤2147483647
 f:f≤4294967296
 n:E.length≤2147483647
 len:∀b∈E,b.length≤131072
theorem JLim.w {c:Nat} (h:JLim g f c E):JLw g f E:=⟨h.g,by have:=h.f;unfold C3 at this;omega,h.n,h.len⟩
theorem JLw.zero (h:JLw g f E):JLw 0 f E:=⟨by omega,h.f,h.n,h.len⟩
theorem JLw.with (h:JLw 0 f E) (hg:g≤2147483647):JLw g f E:=⟨hg,h.f,h.n,h.len⟩
theorem JLw.recs (h:JLw g f E):RecsOk g 0 (AG g f E):=by
 have h0:JLim g 0 0 E:=⟨h.g,Nat.zero_le _,Nat.zero_le _,h.n,h.len⟩;have h1:=h0.recs;refine⟨h1.1,fun i hi=>?_⟩;cases i with
 |zero=>
  have h2:=h1.2 0 (by rw[Bj];omega);refine⟨?_,rfl,rfl⟩;have h3:=h2.1;change As ⟨1,g,0,BJ f E.length⟩=0;change As ⟨1,g,0,BJ 0 0⟩=0 at h3;unfold As at h3⊢;simp only[Cu]at h3⊢;exact h3
 |succ i=>
  have hi':i+1<(AK g 0 0 E).length:=by rw[Bj];rw[AO,Bj]at hi;exact hi
  have h2:=h1.2 (i+1) hi';have e:(AG g f E)[i+1]=(AK g 0 0 E)[i+1]:=by have e1:(AG g f E)[i+1]=AI g (i+1) (E[i]'(by rw[AO,Bj]at hi;omega)):=El g f E.length E i hi;have e2:(AK g 0 0 E)[i+1]=AI g (i+1) (E[i]'(by rw[Bj]at hi';omega)):=El g 0 0 E i hi';rw[e1,e2]
  have h3:∀r,r=(AK g 0 0 E)[i+1]'hi'→As r=0∧r.gen=(g:Int)∧r.num=0+((i+1:Nat):Int):=fun r hr=>hr▸h2
  exact h3 _ e
theorem JLw.size (h:JLw g f E):(Ar (AG g f E)).length=Aq E:=by
 rw[GZ h.recs.mem,AG,List.map_cons,List.sum_cons];have e1:Af (BJ f E.length).length=1:=by rw[Cu];rfl
 have e2:(E.mapIdx fun i b=>AI g (i+1) b).map (fun r=>Af r.load.length)=E.map fun b=>Af b.length:=by
  apply List.ext_getElem
  ·simp
  ·intro i h1 h2;simp[AI]
 rw[e2];show Af (BJ f E.length).length+_=_;rw[e1];rfl
theorem JM {w:World} (h:DiskAt w F b S) (hK:KAt w) (hK0:¬F 0) (a c which g first :Nat) (hc:c<1000000) (ha:a<100000000) (hwh:which≤1) (v:Value) (E:List (List UInt8)) (hE:EntsAt w G v E) (hGF:∀k,k<w.heap.size→G k→¬F k) (hlim:JLw g first E)
 (hN:(Ar (AG g first E)).length≤100000000) (hroom:Roomy S ((Ar (AG g first E)).length+1)):
 Ca 48 #[stV b (a:Int) (c:Int),.int .i64 which,.int .i64 g,.int .i64 first,v] w (Sb w F b g first v (wrA S (a+which*(c/2)) g first E)):=by
 obtain⟨va,vc,rfl⟩:=hE.form;obtain⟨n,hn⟩:=Xq (E.length);have hnb:n<100000000:=by have h1:=F7 hlim.recs.mem;rw[show(AG g first E).length=n+1 by rw[AO,Bj,hn]]at h1;omega
 obtain⟨wh,hwE⟩:=Xq (which*(c/2));have hwm:wh≤c:=by subst hwE;rcases(show which=0∨which=1 by omega)with rfl |rfl <;>omega
 have hmul:(which:Int)*((c/2:Nat):Int)=(wh:Int):=by rw[←hwE,Int.natCast_mul]
 have hwrap:=Iw (wh:Int);have hsz:=fun(w1:World)=>F5 (w:=w1) b (a:Int) c (by omega)
 obtain⟨hh,hhE⟩:=Xq (c/2);rw[hhE]at hmul hsz;rw[hwE];have HSZ:=Hd hsz;have HOK:=Hd hlim.recs;obtain⟨A,hA⟩:=Xq (a+wh);have HA:=Hd hA;have hAb:A<200000000:=by omega
 rw[hA];obtain⟨rs,hrs⟩:=Xq (AG g first E);have HRL:=Hd (show rs.length=n+1 by rw[←hrs,AO,Bj,hn]);have HR0:=Hd (show rs.take 1=[⟨1,g,0,BJ first n⟩] by rw[←hrs,←hn];rfl);have HRS:=Hd (show∀i (h:i<E.length),rs.take (i+1+1)=rs.take (i+1)++[AI g (i+1) E[i]]from fun i hi=>by
  rw[←hrs];have h1:i+1<(AG g first E).length:=by rw[AO,Bj];omega
  have h2:(AG g first E)[i+1]=AI g (i+1) E[i]:=El g first E.length E i h1
  rw[List.take_succ_eq_append_getElem h1,h2])
 have HZ:=Hd (show wrA S A g first E=if(putR S A 0 rs).2.2=0 then
  (if(putR S A 0 rs).1.flush.2=0 then((putR S A 0 rs).1.flush.1,(putR S A 0 rs).2.1,0)else((putR S A 0 rs).1.flush.1,0,(putR S A 0 rs).1.flush.2))
 else putR S A 0 rs by rw[←hrs];rfl)
 rw[hrs]at hN hroom HOK;obtain⟨N,hNE⟩:=Xq ((Ar rs).length);have HNE:=Hd hNE;rw[hNE]at hN hroom;obtain⟨z,hz⟩:=Xq (wrA S A g first E);rw[hz]at HZ⊢;have hgb:=hlim.g;have hfb:first ≤4294967296:=hlim.f
 rw[hn];have HEN:=Hd hn;clear hz hNE hrs hA hwE hhE hsz hlim;obtain⟨w1,hw1⟩:=Xq (w.alloc (.cells #[.pointer (some ⟨b,0,none⟩),.int .i64 a,.int .i64 c] 94));have hb1:=Lq hw1;have s1:w1.heap.size=w.heap.size+1:=by rw[←hw1];simp
 have x1:=Nq hw1 rfl;obtain⟨w2,hw2⟩:=Xq (w1.alloc (.cells #[.int .i64 0,.int .i64 0,.slice none 0 0,.int .i64 0] 97));have hb2:=Lq hw2;have s2:w2.heap.size=w1.heap.size+1:=by rw[←hw2];simp
 have x2:=Nq hw2 rfl;obtain⟨w3,hw3⟩:=Xq (w2.alloc (.cells #[.int .i64 0,.int .i64 0,.slice none 0 0,.int .i64 0] 97));have hb3:=Lq hw3;have s3:w3.heap.size=w2.heap.size+1:=by rw[←hw3];simp
 have x3:=Nq hw3 rfl;obtain⟨B,hB⟩:=Xq (w.heap.size);rw[show w1.heap.size=B+1 by omega]at x2;have x1:=(hb2.block _ (by omega)).trans x1;rw[hB]at x1;have hb12:=hb1.trans (hb2.mono (by omega));have HX3:=Hd (show(((w.alloc (.cells #[.pointer (some ⟨b,0,none⟩),.int .i64 a,.int .i64 c] 94)).alloc (.cells #[.int .i64 0,.int .i64 0,.slice none 0 0,.int .i64 0] 97)).alloc (.cells #[.int .i64 0,.int .i64 0,.slice none 0 0,.int .i64 0] 97)).heap[w.heap.size+1+1]?=some (.cells #[.int .i64 0,.int .i64 0,.slice none 0 0,.int .i64 0] 97 (0,0)) by rw[hw1,hw2,hw3,hB,show B+1+1=w2.heap.size by omega];exact x3)
 obtain⟨HX1,HX2,HW1,HW2,HW3,HB3,HB,HB2,HS2,HD⟩:=Hd10 x1 x2 hw1 hw2 hw3 hb3 hB hb12 (show w2.heap.size=B+2 by omega) (h.bound.below hb12);rw[hB]at HD;obtain⟨HE,HGF,HK,HKS,HK0,HRM⟩:=Hd6 ((hE.weak (G:=fun k=>G k∧k<B) (fun k h1 h2=>⟨h2,by omega⟩)).below hb12) (show∀k,G k∧k<B→¬(F k∧k<B)from fun k h1 h2=>hGF k (by omega) h1.1 h2.1) (KAt.below hK hb12 hK.size) hK.size hK0 hroom;clear h hE hGF hK hK0 hroom hb1 hb2 hb12 s1 s2 s3 x1 x2 x3 hw1 hw2 hw3 hb3 hB hn;unfold stV at HSZ⊢;go_enter Tryz.func48,Tryz.ntmps48;go_wp2_with (refine Pl 97 12 24 _ HX3.out ?_;refine Stop.on ?_)
 refine Stop.go ?_
 try simp only[P0,P1,P2,P3,P4]
 intro W0 x0 c0 s0
 try simp only[P0,P1,P2,P3,P4]
 rw[HW1.out,HW2.out,HW3.out]at c0 s0;rw[HB.out]at x0 c0;obtain⟨HBW0,HSW0,HX0⟩:=Hd3 (HB3.out.trans (c0.below (fun k e=>by have h1:=HS2.out;omega) HB3.out.size)) (show W0.heap.size=B+3 by have h1:=HS2.out;have h2:=HW3.out;rw[s0,←h2];simp[HS2.out]) x0;clear x0 c0 s0 HX3 HW1 HW2 HW3;go_wp2_with fail;refine(Lc first n (by omega) (by omega) W0.heap.size (Hn)).mono ?_;rintro e V1 ⟨hv,rfl,hown,hbv⟩;obtain⟨hva,hvc,hvE⟩:=Ag hown;subst hvE;rw[HB.out]
 try rw[show B+1+1=B+2 from rfl]
 obtain⟨Wi,hWi⟩:=Xq (W0.alloc (.cells #[.int .i64 first,.int .i64 n] 3));have hbi:=Lq hWi;rw[hWi]at hown hbv;have hbV:=Tq hbi hbv;have HBV:=Hd (Tq HBW0.out hbV);have HX0V:=Hd ((hbV.block _ (by have:=HSW0.out;omega)).trans HX0.out);have hpay:=(Bk hown).weak (G:=fun k=>B+3≤k∧k<V1.heap.size) (fun k h1 h2=>⟨by have:=HSW0.out;have:=hbi.size;omega,h1⟩);obtain⟨V2,hV2⟩:=Xq (V1.alloc (.cells #[.int .i64 1,.int .i64 g,.int .i64 0,.slice hva 16 hvc] 111));have hb2:=Lq hV2;have hx2:=Nq hV2 rfl;have hV1B:B+3≤V1.heap.size:=by have:=HSW0.out;have:=hbV.size;omega
 have HR1:=Hd (Oz (w:=V2) (F:=fun k=>(G k∧k<B)∨B+3≤k) (r:=⟨1,g,0,BJ first n⟩) hx2 (.inr hV1B) (((hpay.below hb2)).weak (fun k _ h1=>⟨.inr h1.1,by omega⟩)));have HR1:Hid (RecsAt V2 (fun k=>(G k∧k<B)∨B+3≤k) (.slice (some ⟨V1.heap.size,0,none⟩) (0+1) 1) (rs.take (0+1))):=by rw[show rs.take (0+1)=[⟨1,g,0,BJ first n⟩]from HR0.out];exact HR1
 obtain⟨HV2,HBV2,HX02,HSV2,HOW1,HC0⟩:=Hd6 hV2 (Tq HBV.out hb2) (Bq hb2 HX0V.out) (show B+3≤V2.heap.size by have:=hb2.size;omega) (show∀q,(Value.slice (some ⟨V1.heap.size,0,none⟩) 1 1).ownBlock=some q→B+3≤q from fun q hq=>by obtain rfl :V1.heap.size=q:=Option.some.inj hq;exact hV1B) (Chg.refl (fun k=>B+3≤k) V2);have HEV:=Hd (HE.out.below HBV2.out);clear hWi hbi hown hbv hbV hpay hV2 hb2 hx2 hV1B HX0V HBV HBW0 HSW0 HX0 HE;go_wp2_with fail;rw[HV2.out];go_loopw [13,35] (fun rv iv wr=>∃(i:Nat) (ra:Option Addr) (rc:Nat),i≤n∧iv=.int .i64 i∧rv=.slice ra (i+1) rc∧Hid (RecsAt wr (fun k=>(G k∧k<B)∨B+3≤k) (.slice ra (i+1) rc) (rs.take (i+1)))∧Hid (∀q,(Value.slice ra (i+1) rc).ownBlock=some q→B+3≤q)∧Hid (Chg (fun k=>B+3≤k) V2 wr)) (fun _ iv _=>n-(intOf iv).toNat)
 case atStart=>exact⟨0,_,1,Nat.zero_le _,rfl,rfl,HR1,HOW1,HC0⟩
 case round=>
  obtain⟨i,ra,rc,hi,rfl,rfl,HRR,HOW,HCR⟩:=hrel;obtain⟨W1,rfl⟩:∃W1,W1=wr:=⟨_,rfl⟩;clear HR1 HOW1 HC0;by_cases hlt:i<n
  ·have hiI:(i:Int)<(n:Int):=by omega
   have hiE:i<E.length:=by rw[HEN.out];exact hlt
   have HE1:=Hd (HEV.out.chg HCR.out (fun k _ h1 h2=>by omega));obtain⟨gv,x,xc,e9,_,hcell,hbx⟩:=(HE1.out).get hiE;subst e9;obtain⟨X,hX⟩:=Xq (E[i]);have HTS:=Hd (show rs.take (i+1+1)=rs.take (i+1)++[⟨2,g,(i:Int)+1,X⟩] by rw[HRS.out i hiE,hX];rfl);have HLN:=Hd (show(rs.take (i+1)).length=i+1 by rw[List.length_take,HRL.out];omega);rw[hX]at hcell hbx;have HU:=Hd (show BytesN W1 (fun k=>((G k∧k<B)∨B+3≤k)∧(Value.slice ra (i+1) rc).ownBlock≠some k) (.slice x X.length xc) X from hbx.weak (fun k _ h1=>⟨.inl h1,fun e=>by have:=HOW.out k e;omega⟩));obtain⟨xn,hxn⟩:=Xq (X.length);rw[hxn]at hcell HU;obtain⟨LT,hLT⟩:=Xq (rs.take (i+1));rw[hLT]at HRR HTS HLN;clear hX hbx hxn hLT HE1;go_wp2_with (at_builtin;refine Kj rfl (.tmp 40) (.tmp 46) rfl ⟨2,(g:Int),(i:Int)+1,X⟩ rfl HRR.out HU.out rfl HLN.out (by omega) ?_;refine Stop.on ?_)
   refine Stop.go ?_
   try simp only[P0,P1,P2,P3,P4]
   intro a5 c5 W3 hr3 hc3 ho3
   try simp only[P0,P1,P2,P3,P4]
   have HOW3:=Hd (show∀q,(Value.slice a5 (i+1+1) c5).ownBlock=some q→B+3≤q from fun q hq=>(ho3 q hq).elim (HOW.out q) (fun h1=>by have h2:=HCR.out.size;have h3:=HSV2.out;omega));have HC3:=Hd (HCR.out.trans (hc3.mono (G:=fun k=>B+3≤k) (fun k e=>HOW.out k e)) (fun k e=>.inl e));have HR3:Hid (RecsAt W3 (fun k=>(G k∧k<B)∨B+3≤k) (.slice a5 (i+1+1) c5) (rs.take (i+1+1))):=Hd (by rw[HTS.out];exact hr3.weak (fun k _ h1=>h1.elim id (fun h2=>.inr (by have h3:=HCR.out.size;have h4:=HSV2.out;omega))));clear hr3 hc3 ho3 hcell;go_wp2_with fail;go_roundw
   case rel=>exact⟨i+1,a5,c5,by omega,by go_num,rfl,HR3,HOW3,HC3⟩
   case measure=>simp[intOf]<;>omega
  obtain rfl :i=n:=by omega
  have HRA:=Hd (show RecsAt W1 (fun k=>(G k∧k<B)∨B+3≤k) (.slice ra (i+1) rc) rs by have h1:=HRR.out;rw[List.take_of_length_le (by rw[HRL.out];exact Nat.le_refl _)]at h1;exact h1)
  clear HRR hlt hi;obtain⟨m,hm⟩:=Xq (i+1);rw[hm]at HRA HRL HOW⊢;have HBW:=Hd (HBV2.out.trans (HCR.out.below (B:=w2.heap.size) (fun k e=>by have:=HS2.out;omega) (by have:=HS2.out;have:=HSV2.out;omega)));obtain⟨HXW,HXB,HXR,HDW,HKW,HSW,HBT,HRA⟩:=Hd8 ((HCR.out.block (B+2) (Ax HX02.out).1 (by omega)).trans HX02.out) ((HBW.out.block B (by have:=HS2.out;omega)).trans HX1.out) ((HBW.out.block (B+1) (by have:=HS2.out;omega)).trans HX2.out) ((HD.out.below HBW.out).mono (G:=fun k=>(F k∧k<B)∨W1.heap.size≤k) (fun k h1=>.inl h1)) (KAt.below HK.out HBW.out HK.out.size) (show B+3≤W1.heap.size by have:=HCR.out.size;have:=HSV2.out;omega) (Tq HB2.out HBW.out) (HRA.out.weak (G:=fun k=>((G k∧k<B)∨B+3≤k)∧k<W1.heap.size) (fun k h1 h2=>⟨h2,h1⟩));have HAP:=Hd (show∀k,(((G k∧k<B)∨B+3≤k)∧k<W1.heap.size)→¬(((F k∧k<B)∨W1.heap.size≤k)∨k=B+2)from fun k h1 h2=>by
   rcases h2 with(h2|h2)|h2
   ·rcases h1.1 with h3|h3
    ·exact HGF.out k h3 h2
    ·omega
   ·omega
   ·have:=h1.1;omega)
  have HP0:=Hd (show putR S A 0 (rs.take 0)=(S,0,0)from rfl);have HC0:=Hd (Chg.refl (fun k=>((F k∧k<B)∨W1.heap.size≤k)∨k=B+2) W1);have HRM0:Hid (Roomy S (N-0+1)):=HRM;clear HBV2 HX02 HSV2 HCR HEV;go_wp2_with fail;go_loopw [51] (fun iv wr=>∃(j uj:Nat) (Sj:DS),j≤m∧iv=.int .i64 j∧uj≤N∧Hid (putR S A 0 (rs.take j)=(Sj,uj,0))∧Hid (DiskAt wr (fun k=>(F k∧k<B)∨W1.heap.size≤k) b Sj)∧Hid (Roomy Sj (N-uj+1))∧Hid (wr.heap[B+2]?=some (.cells #[.int .i64 g,.int .i64 first,.slice va i vc,.int .i64 uj] 97 (0,0)))∧Hid (Chg (fun k=>((F k∧k<B)∨W1.heap.size≤k)∨k=B+2) W1 wr)) (fun iv _=>m-(intOf iv).toNat)
  case atStart=>exact⟨0,0,S,Nat.zero_le _,rfl,Nat.zero_le _,HP0,HDW,HRM0,HXW,HC0⟩
  case round=>
   obtain⟨j,uj,Sj,hj,rfl,huj,HPJ,HDJ,HRJ,HXJ,HCJ⟩:=hrel;obtain⟨W2,rfl⟩:∃W2,W2=wr:=⟨_,rfl⟩;clear HP0 HDW HRM0 HXW HC0;have HXB2:=Hd ((HCJ.out.block B (by have:=HSW.out;omega) (by have:=HSW.out;omega)).trans HXB.out);have HXR2:=Hd ((HCJ.out.block (B+1) (by have:=HSW.out;omega) (by have:=HSW.out;omega)).trans HXR.out);have HFW:=Hd (show Chg F w W2 from by
    have h1:=(Cb (F:=fun k=>F k) HBT.out).trans HCJ.out (fun k h2=>by
     rcases h2 with(h2|h2)|h2
     ·exact .inl h2.1
     ·exact .inr (by have:=HBT.out.size;omega)
     ·exact .inr (by have:=HB.out;omega))
    exact h1)
   by_cases hlt:j<m
   case neg=>
    obtain rfl :m=j:=by omega
    have HZE:=Hd (show z=if Sj.flush.2=0 then(Sj.flush.1,uj,0)else(Sj.flush.1,0,Sj.flush.2) by have h1:=HPJ.out;rw[List.take_of_length_le (by rw[HRL.out];exact Nat.le_refl _)]at h1;rw[HZ.out,h1];rfl)
    have k0:=Cq HXB2.out 0;go_wp2_with fail;refine(Kx HDJ.out (by have:=HRJ.out.pend;omega) (by have:=HRJ.out.ops;omega) HRJ.out.lim).mono ?_;rintro e W3 ⟨rfl,hd3,hc3⟩;obtain⟨T,hT⟩:=Xq (Sj.flush);rw[hT]at hd3⊢;have HZE:=Hd (show z=if T.2=0 then(T.1,uj,0)else(T.1,0,T.2) by rw[HZE.out,hT]);obtain⟨S1,e1⟩:=T;simp only at HZE hd3⊢;have HD3:=Hd hd3;have HXR3:=Hd ((hc3.block (B+1) (Ax HXR2.out).1 (by have:=HSW.out;omega)).trans HXR2.out);have hxj3:=(hc3.block (B+2) (Ax HXJ.out).1 (by have:=HSW.out;omega)).trans HXJ.out;have HFW3:=Hd (show Chg F w W3 from HFW.out.trans hc3 (fun k h2=>h2.elim (fun h3=>.inl h3.1) (fun h3=>.inr (by have:=HBT.out.size;omega))));have HDF:=Hd (show∀W9,Chg (fun k=>k=B+1) W3 W9→DiskAt W9 (fun k=>F k∨w.heap.size≤k) b S1∧Chg F w W9 from fun W9 h9=>⟨(HD3.out.chg h9 (fun k h1 h2=>by have:=HSW.out;omega)).mono (fun k h1=>h1.elim (fun h2=>.inl h2.1) (fun h2=>.inr (by have:=HBT.out.size;omega))),HFW3.out.trans h9 (fun k h1=>.inr (by have:=HB.out;omega))⟩);clear hT hd3 hc3 k0;by_cases he:e1=0
    ·subst he;have HZF:=Hd (show z=(S1,uj,0)from HZE.out);have y0:=Cq hxj3 0;have y1:=Cq hxj3 1;have y2:=Cq hxj3 2;have y3:=Cq hxj3 3;clear hxj3;go_wp2_with (refine Pl 97 10 85 _ HXR3.out ?_;refine Stop.on ?_)
     refine Stop.go ?_
     try simp only[P0,P1,P2,P3,P4]
     intro V8 x8 c8 s8
     try simp only[P0,P1,P2,P3,P4]
     have k0:=Cq x8 0;have k1:=Cq x8 1;have k2:=Cq x8 2;have k3:=Cq x8 3;have HFN:=Hd (HDF.out V8 c8);clear x8 c8 s8;go_wp2_with fail;exact Bv (hr:=by simp[go_sem,k0,k1,k2,k3]) (.tuple #[.agg #[.int .i64 g,.int .i64 first,.slice va i vc,.int .i64 uj],.int .i64 0]) ⟨by rw[HZF.out];rfl,by rw[HZF.out];exact HFN.out.1,HFN.out.2⟩
    ·have hd0:(e1 !=0)=true:=by simpa using he
     have HZF:=Hd (show z=(S1,0,e1) by rw[HZE.out,In he]);have HWS:=Hd (show Ii g first (.slice va i vc) 0 e1=.agg #[.int .i64 0,.int .i64 0,.slice none 0 0,.int .i64 0] by unfold Ii;rw[In he];rfl);clear he hxj3;go_wp2_with (refine Pl 97 10 83 _ HXR3.out ?_;refine Stop.on ?_)
     refine Stop.go ?_
     try simp only[P0,P1,P2,P3,P4]
     intro V8 x8 c8 s8
     try simp only[P0,P1,P2,P3,P4]
     have k0:=Cq x8 0;have k1:=Cq x8 1;have k2:=Cq x8 2;have k3:=Cq x8 3;have HFN:=Hd (HDF.out V8 c8);clear x8 c8 s8;go_wp2_with fail;exact Bv (hr:=by simp[go_sem,k0,k1,k2,k3]) (.tuple #[.agg #[.int .i64 0,.int .i64 0,.slice none 0 0,.int .i64 0],.int .i64 e1]) ⟨by rw[HZF.out];exact congrArg (fun q=>Ending.returned (.tuple #[q,.int .i64 e1])) HWS.out.symm,by rw[HZF.out];exact HFN.out.1,HFN.out.2⟩
   have hjI:(j:Int)<(m:Int):=by omega
   have hjr:j<rs.length:=by rw[HRL.out];exact hlt
   obtain⟨gr,pv,e9,hgrF,hgr,r0,r1,r2,r3,hpv⟩:=(HRA.out.chg HCJ.out (fun k _ h1=>HAP.out k h1)).get hjr;subst e9;obtain⟨pa,pc,rfl⟩:=hpv.form;have hrok:=(HOK.out.ok j hjr).1;have hsnoc:=KM (rs.take j) S A 0 rs[j];rw[HPJ.out,←List.take_succ_eq_append_getElem hjr]at hsnoc;simp only at hsnoc;have hstop:=KN (rs.take (j+1)) (rs.drop (j+1)) S A 0;rw[List.take_append_drop]at hstop;have hul:uj+Af rs[j].load.length≤N:=by
    have h1:=PM (rs:=rs.take j) (S:=S) (a:=A) (fun r hr=>HOK.out.mem r (List.mem_of_mem_take hr)) (by rw[HPJ.out]);rw[HPJ.out]at h1;have h2:=Mn rs (j+1);rw[List.take_succ_eq_append_getElem hjr,D4,List.length_append,HNE.out]at h2;have h3:Ar [rs[j]]=Ac rs[j]:=by simp[Ar]
    rw[h3,AL hrok]at h2;simp only at h1;omega
   obtain⟨R,hR⟩:=Xq (rs[j]);rw[hR]at r0 r1 r2 r3 hpv hrok hsnoc hul;obtain⟨kd,hkd⟩:=Xq (R.kind);obtain⟨gd,hgd⟩:=Xq (R.gen);obtain⟨nd,hnd⟩:=Xq (R.num);obtain⟨ld,hld⟩:=Xq (R.load.length);have hcall:=fun(V:World) (hV:Below W2.heap.size W2 V)=>Md (HDJ.out.bound.below hV) (KAt.below (KAt.chg HKW.out HCJ.out (fun h=>by have:=HSW.out;have:=HK0.out;rcases h with(h|h)|h;exact this h.1;omega;omega)) hV (by have:=HSW.out;have:=HCJ.out.size;omega)) (fun h=>by have:=HSW.out;have:=HK0.out;rcases h.1 with h|h;exact this h.1;omega) a (wh+uj) (c:Int) R hrok (.slice pa R.load.length pc) (hpv.below hV) (by omega) (HRJ.out.less (by omega))
   rw[hkd,hgd,hnd]at hcall;rw[show a+(wh+uj)=A+uj by have:=HA.out;omega]at hcall;obtain⟨T,hT⟩:=Xq (wrL Sj (A+uj) (Ac R));have hrm:Roomy T.1 (N-(uj+Af R.load.length)+1):=by rw[←hT];refine FP (HRJ.out.less ?_);rw[AL hrok];omega
   rw[hT]at hcall hsnoc;obtain⟨S1,e1⟩:=T;simp only at hcall hsnoc hrm;rw[hld]at hcall r3 hul hrm hsnoc;rw[hkd]at r0;rw[hgd]at r1;rw[hnd]at r2;obtain⟨ne,hne⟩:=Xq (Af ld);rw[hne]at hcall hul hrm hsnoc;obtain⟨HCL,HSN,HST,HRM1⟩:=Hd4 hcall hsnoc hstop hrm;clear hcall hsnoc hstop hrm hT hR hkd hgd hnd hld hne hpv hrok;go_wp2_with (refine Pl 111 17 54 _ (Hn) ?_;refine Stop.on ?_)
   refine Stop.go ?_
   try simp only[P0,P1,P2,P3,P4]
   intro W4 x4 c4 s4
   try simp only[P0,P1,P2,P3,P4]
   have hba:Below W2.heap.size W2 (W2.alloc (.cells #[.int .i64 0,.int .i64 0,.int .i64 0,.slice none 0 0] 111)):=Rq.alloc Lr _;have HB4:=Hd (hba.trans (c4.below (fun k e=>by rw[e];exact Nat.le_refl _) hba.size));have HS4:=Hd (show W2.heap.size<W4.heap.size by rw[s4];simp);obtain⟨q,hq⟩:=Xq (W2.heap.size);rw[hq]at x4 c4⊢;obtain⟨HQ,HXB4,HXJ4,HX4⟩:=Hd4 hq (Bq HB4.out HXB2.out) (Bq HB4.out HXJ.out) x4;have HNC:=Hd (show∀w',Chg (fun k=>((F k∧k<B)∨W1.heap.size≤k)∧k<W2.heap.size) W4 w'→w'.cell? ⟨B,0,none⟩=some (.pointer (some ⟨b,0,none⟩))∧w'.cell? ⟨B,1,none⟩=some (.int .i64 a)∧w'.cell? ⟨B,2,none⟩=some (.int .i64 c)∧w'.cell? ⟨B+2,3,none⟩=some (.int .i64 uj)∧w'.cell? ⟨q,0,none⟩=some (.int .i64 kd)∧w'.cell? ⟨q,1,none⟩=some (.int .i64 gd)∧w'.cell? ⟨q,2,none⟩=some (.int .i64 nd)∧w'.cell? ⟨q,3,none⟩=some (.slice pa ld pc)from fun w' hw'=>by
    have h1:=(hw'.block B (Ax HXB4.out).1 (by have:=HSW.out;have:=HQ.out;omega)).trans HXB4.out;have h2:=(hw'.block (B+2) (Ax HXJ4.out).1 (by have:=HSW.out;have:=HQ.out;omega)).trans HXJ4.out;have h3:=(hw'.block q (Ax HX4.out).1 (by have:=HSW.out;have:=HQ.out;omega)).trans HX4.out;refine⟨?_,?_,?_,?_,?_,?_,?_,?_⟩
    ·rw[cr h1];rfl
    ·rw[cr h1];rfl
    ·rw[cr h1];rfl
    ·rw[cr h2];rfl
    ·rw[cr h3];rfl
    ·rw[cr h3];rfl
    ·rw[cr h3];rfl
    ·rw[cr h3];rfl)
   clear hba x4 c4 s4 hq r0 r1 r2 r3;have HSUM:=Hd (show(wh:Int)+(uj:Int)=((wh+uj:Nat):Int) by omega);go_wp2_with fail;refine bH (fun k=>((F k∧k<B)∨W1.heap.size≤k)∧k<W2.heap.size) ?_;intro wd hd0 hS0;refine AD 0 HNC.out hS0 ?_;refine tkH 1 hS0 ?_;refine AD 2 HNC.out hS0 ?_;refine tkH 5 hS0 ?_;refine AD 6 HNC.out hS0 ?_;refine AD 8 HNC.out hS0 ?_;refine dH 3 fun K hK=>?_
   go_simp;go_at_call 52;refine(HSZ.out _).mono ?_;rintro e V3 ⟨rfl,hb9⟩;have hbV3:=Tq hd0 hb9;have hsV3:=Cb (F:=fun k=>((F k∧k<B)∨W1.heap.size≤k)∧k<W2.heap.size) hbV3;clear hb9;refine Kq hK (hsV3) ?_;refine tkH 4 hsV3 ?_ (v:=.int .i64 wh);refine tkH 7 hsV3 ?_ (v:=.int .i64 ((wh:Int)+(uj:Int))) (hy:=fun w' hw'=>by(have hwr2:=Iw ((wh:Int)+(uj:Int));clear hw';first| (go_simp;rfl)| (go_simp;done)));refine dH 9 fun K hK=>?_
   go_simp;go_at_call 55;rw[HSUM.out];refine(HCL.out _ (HB4.out.trans (hbV3.mono (Nat.le_of_lt HS4.out)))).mono ?_;rintro e W5 ⟨rfl,hd5,hc5⟩;unfold Ki;obtain⟨nv,hnv⟩:∃nv:Int,(if e1=0 then(ne:Int)else 0)=nv:=⟨_,rfl⟩;rw[hnv];have hsW5:=hsV3.trans hc5 (fun k e=>.inl e);refine Kq hK (hsW5) ?_;refine tkH 10 hsW5 ?_;refine tkH 11 hsW5 ?_;refine tkH 12 hsW5 ?_;refine tkH 13 hsW5 ?_;refine tkH 14 hsW5 ?_;refine eH ?_;have hd5':DiskAt W5 (fun k=>(F k∧k<B)∨W1.heap.size≤k) b S1:=hd5.mono (fun k h1=>h1.elim (fun h2=>h2.1) (fun h2=>.inr (by have h3:=hbV3.size;have h4:=HS4.out;have h5:=HCJ.out.size;omega)));have HD5:=Hd hd5';have HC5:=Hd (HCJ.out.trans ((Cb (F:=fun k=>((F k∧k<B)∨W1.heap.size≤k)∧k<W2.heap.size) HB4.out).trans hsW5 (fun k e=>.inl e)) (fun k e=>.inl (.inl e.1)));have hxj5:=(hsW5.block (B+2) (Ax HXJ4.out).1 (by have:=HSW.out;omega)).trans HXJ4.out;obtain⟨HXJ5,HXR5,HFW5⟩:=Hd3 hxj5 ((hsW5.block (B+1) (by have h1:=(Ax HXR2.out).1;have h2:=HB4.out.size;omega) (by have:=HSW.out;omega)).trans (Bq HB4.out HXR2.out)) (show Chg F w W5 from HFW.out.trans ((Cb (F:=fun k=>((F k∧k<B)∨W1.heap.size≤k)∧k<W2.heap.size) HB4.out).trans hsW5 (fun k e=>.inl e)) (fun k h2=>h2.1.elim (fun h3=>.inl h3.1) (fun h3=>.inr (by have:=HBT.out.size;omega))));have hy3:=Cq hxj5 3;have HNV:=Hd hnv;clear hd5 hd5' hc5 hsW5 hS0 hd0 hbV3 hsV3 hxj5 hnv;by_cases he:e1=0
   ·subst he;have hne0:nv=(ne:Int):=by rw[←HNV.out,Ip rfl]
    subst hne0;have HPN:=Hd (show putR S A 0 (rs.take (j+1))=(S1,uj+ne,0) by rw[HSN.out];rfl);go_wp2_with (refine Az rfl rfl 3 (.tmp 76) (.tmp 75) rfl (B+2) 3 (.int .i64 ((uj:Int)+(ne:Int))) rfl rfl HXJ5.out (by show 3<4;decide) rfl (by kernel_rfl) ?_;refine Stop.on ?_)
    refine Stop.go ?_
    try simp only[P0,P1,P2,P3,P4]
    intro W6 x6 c6 s6
    try simp only[P0,P1,P2,P3,P4]
    obtain⟨HX6,HD6,HC6⟩:=Hd3 (show W6.heap[B+2]?=some (.cells #[.int .i64 g,.int .i64 first,.slice va i vc,.int .i64 ((uj+ne:Nat):Int)] 97 (0,0)) by rw[show((uj+ne:Nat):Int)=(uj:Int)+(ne:Int) by omega];exact x6) (HD5.out.chg c6 (fun k h1 h2=>by have:=HSW.out;omega)) (HC5.out.trans c6 (fun k e=>.inl (.inr e)));have HR6:Hid (Roomy S1 (N-(uj+ne)+1)):=HRM1;clear x6 c6 s6 hy3 HNV;go_wp2_with fail;go_roundw
    case rel=>exact⟨j+1,uj+ne,S1,by omega,by go_num,hul,HPN,HD6,HR6,HX6,HC6⟩
    case measure=>simp[intOf]<;>omega
   ·have hdt:(e1 !=0)=true:=by simpa using he
    have HZF:=Hd (show z=(S1,0,e1) by have h1:=HSN.out;rw[In he]at h1;have h2:=HST.out (by rw[h1];exact he);rw[HZ.out,h2,h1];exact In he)
    have HDF:=Hd (show∀W9,Chg (fun k=>k=B+1) W5 W9→DiskAt W9 (fun k=>F k∨w.heap.size≤k) b S1∧Chg F w W9 from fun W9 h9=>⟨(HD5.out.chg h9 (fun k h1 h2=>by have:=HSW.out;omega)).mono (fun k h1=>h1.elim (fun h2=>.inl h2.1) (fun h2=>.inr (by have:=HBT.out.size;omega))),HFW5.out.trans h9 (fun k h1=>.inr (by have:=HB.out;omega))⟩);have HWS:=Hd (show Ii g first (.slice va i vc) 0 e1=.agg #[.int .i64 0,.int .i64 0,.slice none 0 0,.int .i64 0] by unfold Ii;rw[In he];rfl);clear he hy3 HNV;go_wp2_with (refine Pl 97 10 70 _ HXR5.out ?_;refine Stop.on ?_)
    refine Stop.go ?_
    try simp only[P0,P1,P2,P3,P4]
    intro V8 x8 c8 s8
    try simp only[P0,P1,P2,P3,P4]
    have k0:=Cq x8 0;have k1:=Cq x8 1;have k2:=Cq x8 2;have k3:=Cq x8 3;have HFN:=Hd (HDF.out V8 c8);clear x8 c8 s8;go_wp2_with fail;exact Bv (hr:=by simp[go_sem,k0,k1,k2,k3]) (.tuple #[.agg #[.int .i64 0,.int .i64 0,.slice none 0 0,.int .i64 0],.int .i64 e1]) ⟨by rw[HZF.out];exact congrArg (fun q=>Ending.returned (.tuple #[q,.int .i64 e1])) HWS.out.symm,by rw[HZF.out];exact HFN.out.1,HFN.out.2⟩
variable {w w':World}{R:JR}{J:JD}{n:Nat}
def GI (b:Nat) (R:JR) (J:JD) (ev:Value):Array Value:=
 #[.pointer (some ⟨b,0,none⟩),.int .i64 (R.at_:Int),.int .i64 (R.cnt:Int),.int .i64 ((J.gen%2:Nat):Int),.int .i64 (J.gen:Int),.int .i64 (J.first:Int),ev,.int .i64 (J.used:Int),.int .i64 (J.synced:Int),.int .i64 J.failed]
def JBlk (w:World) (g b:Nat) (R:JR) (J:JD) (ev:Value):Prop:=w.heap[g]?=some (.cells (GI b R J ev) 103 (0,0))
theorem JBlk.lt {ev:Value} (h:JBlk w g b R J ev):g<w.heap.size:=(Ax h).1
theorem JBlk.chg {ev:Value} (h:JBlk w g b R J ev) (hc:Chg F w w') (hF:¬F g):JBlk w' g b R J ev:=(hc.block g h.lt hF).trans h
theorem JBlk.below {ev:Value} (h:JBlk w g b R J ev) (hb:Below w.heap.size w w'):JBlk w' g b R J ev:=(hb.block g h.lt).trans h
theorem JBlk.cell {ev:Value} (h:JBlk w g b R J ev) {i:Nat} {v:Value} (hv:(GI b R J ev)[i]?=some v):w.cell? ⟨g,i,none⟩=some v:=by rw[cr h];exact hv
theorem Ew {ev:Value} (h:JBlk w g b R J ev):Ca 21 #[.pointer (some ⟨g,0,none⟩)] w fun e w'=>e=.returned (.int .i64 (J.first:Int))∧Below w.heap.size w w':=by have k0:w.cell? ⟨g,5,none⟩=some (.int .i64 (J.first:Int)):=h.cell rfl;clear h;go_enter Tryz.func21,Tryz.ntmps21;go_wp2_with fail;exact Bv (.int .i64 (J.first:Int)) ⟨rfl,Rq⟩
theorem F8 {ev:Value} (h:JBlk w g b R J ev):Ca 17 #[.pointer (some ⟨g,0,none⟩)] w fun e w'=>e=.returned (.int .i64 (J.gen:Int))∧Below w.heap.size w w':=by have k0:w.cell? ⟨g,4,none⟩=some (.int .i64 (J.gen:Int)):=h.cell rfl;clear h;go_enter Tryz.func17,Tryz.ntmps17;go_wp2_with fail;exact Bv (.int .i64 (J.gen:Int)) ⟨rfl,Rq⟩
theorem M6 {ev:Value} (h:JBlk w g b R J ev):Ca 44 #[.pointer (some ⟨g,0,none⟩)] w fun e w'=>e=.returned (.int .i64 (J.synced:Int))∧Below w.heap.size w w':=by have k0:w.cell? ⟨g,8,none⟩=some (.int .i64 (J.synced:Int)):=h.cell rfl;clear h;go_enter Tryz.func44,Tryz.ntmps44;go_wp2_with fail;exact Bv (.int .i64 (J.synced:Int)) ⟨rfl,Rq⟩
theorem EW {ev:Value} (h:JBlk w g b R J ev):Ca 45 #[.pointer (some ⟨g,0,none⟩)] w fun e w'=>e=.returned (.int .i64 J.failed)∧Below w.heap.size w w':=by have k0:w.cell? ⟨g,9,none⟩=some (.int .i64 J.failed):=h.cell rfl;clear h;go_enter Tryz.func45,Tryz.ntmps45;go_wp2_with fail;exact Bv (.int .i64 J.failed) ⟨rfl,Rq⟩
theorem Fb {va:Option Addr}{vc:Nat} (h:JBlk w g b R J (.slice va n vc)) (hb:J.first+n<4611686018427387904):Ca 43 #[.pointer (some ⟨g,0,none⟩)] w fun e w'=>e=.returned (.int .i64 ((J.first+n:Nat):Int))∧Below w.heap.size w w':=by have HNC:=Hd (show∀w',Below w.heap.size w w'→w'.cell? ⟨g,0,none⟩=some (.pointer (some ⟨b,0,none⟩))∧w'.cell? ⟨g,1,none⟩=some (.int .i64 (R.at_:Int))∧w'.cell? ⟨g,2,none⟩=some (.int .i64 (R.cnt:Int))∧w'.cell? ⟨g,5,none⟩=some (.int .i64 (J.first:Int))∧w'.cell? ⟨g,6,none⟩=some (.slice va n vc)∧w'.cell? ⟨g,7,none⟩=some (.int .i64 (J.used:Int))from fun w' hw'=>⟨(h.below hw').cell rfl,(h.below hw').cell rfl,(h.below hw').cell rfl,(h.below hw').cell rfl,(h.below hw').cell rfl,(h.below hw').cell rfl⟩);obtain⟨fi,hfi⟩:=Xq (J.first);obtain⟨us,hus⟩:=Xq (J.used);obtain⟨ca,hca⟩:=Xq (R.at_);obtain⟨cc,hcc⟩:=Xq (R.cnt);rw[hfi,hus,hca,hcc]at HNC;clear h;go_enter Tryz.func43,Tryz.ntmps43;go_wp2_with fail;refine Np ?_;refine BM (Below w.heap.size w) (by kernel_rfl) ?_;have hS0:(Below w.heap.size w) w.drew:=Rq.drew;obtain⟨wd,hwd⟩:=Xq (w.drew);rw[hwd]at hS0⊢;clear hwd;refine tkH 0 hS0 ?_;refine tkH 1 hS0 ?_;refine tkH 2 hS0 ?_;refine tkH 3 hS0 ?_;refine AD 4 HNC.out hS0 ?_;refine tkH 5 hS0 ?_;refine tkH 6 hS0 ?_;refine tkH 7 hS0 ?_;refine tkH 8 hS0 ?_;refine AD 9 HNC.out hS0 ?_;refine tkH 10 hS0 ?_;refine tkH 11 hS0 ?_ (v:=.int .i64 ((fi:Int)+(n:Int))) (hy:=fun w' hw'=>by(have hwr:=Iw ((fi:Int)+(n:Int));clear hw';first| (go_simp;rfl)| (go_simp;done)));refine tkH 12 hS0 ?_;refine eH ?_;go_wp2_with fail;exact Bv (.int .i64 ((fi:Int)+(n:Int))) ⟨by rw[hfi];rfl,hS0⟩
theorem Ij {va:Option Addr}{vc:Nat} (h:JBlk w g b R J (.slice va n vc)) (hb:R.cnt<1000000) (hu:J.used<1000000):Ca 18 #[.pointer (some ⟨g,0,none⟩)] w fun e w'=>e=.returned (.int .i64 ((R.half:Int)-(J.used:Int)))∧Below w.heap.size w w':=by
 have HSZ:=Hd (fun(w1:World)=>F5 (w:=w1) b (R.at_:Int) R.cnt (by omega));have HNC:=Hd (show∀w',Below w.heap.size w w'→w'.cell? ⟨g,0,none⟩=some (.pointer (some ⟨b,0,none⟩))∧w'.cell? ⟨g,1,none⟩=some (.int .i64 (R.at_:Int))∧w'.cell? ⟨g,2,none⟩=some (.int .i64 (R.cnt:Int))∧w'.cell? ⟨g,5,none⟩=some (.int .i64 (J.first:Int))∧w'.cell? ⟨g,6,none⟩=some (.slice va n vc)∧w'.cell? ⟨g,7,none⟩=some (.int .i64 (J.used:Int))from fun w' hw'=>⟨(h.below hw').cell rfl,(h.below hw').cell rfl,(h.below hw').cell rfl,(h.below hw').cell rfl,(h.below hw').cell rfl,(h.below hw').cell rfl⟩);obtain⟨fi,hfi⟩:=Xq (J.first);obtain⟨us,hus⟩:=Xq (J.used);obtain⟨ca,hca⟩:=Xq (R.at_);obtain⟨cc,hcc⟩:=Xq (R.cnt);rw[hfi,hus,hca,hcc]at HNC;rw[hca,hcc]at HSZ;obtain⟨hh,hhE⟩:=Xq (cc/2);rw[hhE]at HSZ;have HHH:=Hd (show R.half=hh by unfold JR.half;rw[hcc,hhE]);have hhb:hh<1000000:=by omega
 clear hhE;unfold stV at HSZ;clear h;go_enter Tryz.func18,Tryz.ntmps18;go_wp2_with fail;refine Np ?_;refine BM (Below w.heap.size w) (by kernel_rfl) ?_;have hS0:(Below w.heap.size w) w.drew:=Rq.drew;obtain⟨wd,hwd⟩:=Xq (w.drew);rw[hwd]at hS0⊢;clear hwd;refine tkH 0 hS0 ?_;refine tkH 1 hS0 ?_;refine tkH 2 hS0 ?_;refine AD 3 HNC.out hS0 ?_;refine tkH 5 hS0 ?_;refine tkH 6 hS0 ?_;refine tkH 7 hS0 ?_;refine tkH 8 hS0 ?_;refine AD 9 HNC.out hS0 ?_;refine dH 4 fun K hK=>?_
 go_simp;go_at_call 52;refine(HSZ.out _).mono ?_;rintro e V3 ⟨rfl,hb9⟩;have hsV3:=Tq hS0 hb9;clear hb9;refine Kq hK (hsV3) ?_;refine tkH 10 hsV3 ?_ (v:=.int .i64 ((hh:Int)-(us:Int))) (hy:=fun w' hw'=>by(have hwr:=Iw ((hh:Int)-(us:Int));clear hw';first| (go_simp;rfl)| (go_simp;done)));refine tkH 11 hsV3 ?_;refine eH ?_;go_wp2_with fail;exact Bv (.int .i64 ((hh:Int)-(us:Int))) ⟨by rw[hus,HHH.out],hsV3⟩
theorem QV (n:Nat) (hn:n≤100000):Ca 53 #[.int .i64 n] w fun e w'=>e=.returned (.tuple #[.int .i64 ((Af n:Nat):Int),.int .i64 0])∧Below w.heap.size w w':=by
 have hV:=Hd (show F0 (n:Int)=((Af n:Nat):Int) by unfold F0 Af;split <;>omega);have hE:=Hd (show FZ (n:Int)=0 by unfold FZ;split <;>omega);have h0:¬(n:Int)<0:=by omega
 have h1:¬(100000:Int)<n:=by omega
 go_enter Tryz.func53,Tryz.ntmps53;go_wp2_with fail;refine(I5 (n:Int) _).mono ?_;rintro e w' ⟨rfl,rfl⟩;rw[hV.out,hE.out];go_wp2_with fail;exact Bv (.tuple #[.int .i64 ((Af n:Nat):Int),.int .i64 0]) ⟨rfl,Rq⟩
theorem QW (n:Int) (hn:n<0∨100000<n):Ca 53 #[.int .i64 n] w fun e w'=>e=.returned (.tuple #[.int .i64 0,.int .i64 2])∧Below w.heap.size w w':=by
 rcases hn with hn|hn
 ·go_enter Tryz.func53,Tryz.ntmps53;go_wp2_with fail;exact Bv (.tuple #[.int .i64 0,.int .i64 2]) ⟨rfl,Rq⟩
 ·have h0:¬n<0:=by omega
  go_enter Tryz.func53,Tryz.ntmps53;go_wp2_with fail;exact Bv (.tuple #[.int .i64 0,.int .i64 2]) ⟨rfl,Rq⟩
variable {P:Program}{o:Oper}{a:Act}{K:Act→World→Prop}{Q:Exit→Act→World→Prop}
theorem Kk (hdst:o.dst=none) (ty:TypeId) (x y:Operand) (ho:o.op=.store ty x y)
 (g i:Nat) (cells:Array Value) (hx:a.eval x=.pointer (some ⟨g,i,none⟩)) (hy:a.eval y=.agg cells) {T:TypeId} {cs:Array Value} (hg:w.heap[g]?=some (.cells cs T (0,0))) (hn:i+cells.size≤cs.size)
 (hi:(P.info? ty).map (·.size)=some cells.size) (h1:cells.all (·.oneCell')=true)
 (h:∀w',w'.heap[g]?=some (.cells (I9 cs i cells.toList) T (0,0))→Chg (fun k=>k=g) w w'→w'.heap.size=w.heap.size→K a w'):o.wp P a w K Q:=by
 refine wp_store_mid ty x y ho g i cells hx hy (fun j hj=>⟨?_,frozen_of_row _ _ _ _ _ hg⟩) hi h1 ?_
 ·rw[cr hg,Array.getElem?_eq_getElem (by omega)];rfl
 rw[hdst];obtain⟨k1,k2,k3⟩:=FO g T cells.toList i cs w hg;exact h _ k1 k2 k3
def Jc (w:World) (F:Nat→Prop) (g b:Nat) (R:JR) (J:JD) (ev ev2:Value) (z:DS×Int×JD) (e:Ending) (w':World):Prop:=
 e=.returned (.int .i64 z.2.1)∧DiskAt w' (fun k=>F k∨w.heap.size≤k) b z.1∧Chg (fun k=>F k∨k=g) w w'∧(z.2.1=0→JBlk w' g b R z.2.2 ev2)∧(z.2.1≠0→JBlk w' g b R J ev)
theorem PN {H:Nat→Prop}{ev ev2:Value} (h:DiskAt w F b S) (hK:KAt w) (hK0:¬F 0) (hg:JBlk w g b R J ev) (hFg:¬F g) (first :Nat) (E:List (List UInt8)) (hE:EntsAt w H ev2 E) (hH:∀k,k<w.heap.size→H k→¬F k)
 (hd:S.down=false) (hr:R.at_+R.cnt≤S.dur.length) (hfl:J.failed=0) (hlim:JLw (AA (1-J.gen%2) (Ah S R.at_ R.cnt)) first E) (hN:Aq E≤100000) (hroom:Roomy S (Aq E+1)):
 Ca 50 #[.pointer (some ⟨g,0,none⟩),.int .i64 first,ev2] w (Jc w F g b R J ev ev2 (moveJ S R (1-J.gen%2) first E)):=by
 have hM:S.dur.length≤4096:=h.ok.most;obtain⟨va,vc,rfl⟩:=hE.form;obtain⟨n,hn⟩:=Xq (E.length);have hsz:=hlim.size;have hpar:=(CI (w:=1-J.gen%2) (by omega) (Ah S R.at_ R.cnt)).1;have hnx:=fun(V:World) (hV:Below w.heap.size w V)=>Ia (h.below hV) (KAt.below hK hV hK.size) R.at_ R.cnt (1-J.gen%2) (by omega) hd hr (by have:=hroom.pend;omega)
 have hz:moveJ S R (1-J.gen%2) first E=(if(wrA S (R.at_+(1-J.gen%2)*(R.cnt/2)) (AA (1-J.gen%2) (Ah S R.at_ R.cnt)) first E).2.2=0 then((wrA S (R.at_+(1-J.gen%2)*(R.cnt/2)) (AA (1-J.gen%2) (Ah S R.at_ R.cnt)) first E).1,0,⟨AA (1-J.gen%2) (Ah S R.at_ R.cnt),(wrA S (R.at_+(1-J.gen%2)*(R.cnt/2)) (AA (1-J.gen%2) (Ah S R.at_ R.cnt)) first E).2.1,first,E,first +E.length,0⟩)
  else((wrA S (R.at_+(1-J.gen%2)*(R.cnt/2)) (AA (1-J.gen%2) (Ah S R.at_ R.cnt)) first E).1,(wrA S (R.at_+(1-J.gen%2)*(R.cnt/2)) (AA (1-J.gen%2) (Ah S R.at_ R.cnt)) first E).2.2,⟨0,0,0,[],0,0⟩)):=by
  unfold moveJ;simp only;rw[In (by have:=hlim.g;omega)];rfl
 rw[hz];clear hz;obtain⟨gn,hgn⟩:=Xq (AA (1-J.gen%2) (Ah S R.at_ R.cnt));rw[hgn]at hlim hpar hnx hsz⊢;have hgm:=hlim.g;have hfm:first ≤4294967296:=hlim.f
 have hnm:=hlim.n;have hwr:=fun(V:World) (hV:Below w.heap.size w V)=>JM (h.below hV) (KAt.below hK hV hK.size) hK0 R.at_ R.cnt (1-J.gen%2) gn first (by omega) (by omega) (by omega) _ E ((hE.weak (G:=fun k=>H k∧k<w.heap.size) (fun k h1 h2=>⟨h2,h1⟩)).below hV) (fun k hk h1=>hH k h1.2 h1.1) hlim (by rw[hsz];omega) (by rw[hsz];exact hroom)
 obtain⟨z,hz⟩:=Xq (wrA S (R.at_+(1-J.gen%2)*(R.cnt/2)) gn first E);rw[hz]at hwr⊢;rw[hn]at hwr hnm⊢;rw[show Fw gn=.tuple #[.int .i64 gn,.int .i64 0] by unfold Fw;rw[In (by omega)]]at hnx;obtain⟨ar,har⟩:=Xq (J.gen%2);have har1:ar≤1:=by omega
 have hsub:((1-ar:Nat):Int)=(1:Int)-(ar:Int):=by omega
 rw[har]at hpar hnx hwr;rw[hsub]at hnx hwr;unfold stV at hnx hwr;obtain⟨HNX,HWR,HNC⟩:=Hd3 hnx hwr (show∀w',Below w.heap.size w w'→w'.cell? ⟨g,0,none⟩=some (.pointer (some ⟨b,0,none⟩))∧w'.cell? ⟨g,1,none⟩=some (.int .i64 (R.at_:Int))∧w'.cell? ⟨g,2,none⟩=some (.int .i64 (R.cnt:Int))∧w'.cell? ⟨g,3,none⟩=some (.int .i64 ar)from fun w' hw'=>⟨(hg.below hw').cell rfl,(hg.below hw').cell rfl,(hg.below hw').cell rfl,by rw[←har];exact(hg.below hw').cell rfl⟩);obtain⟨S1,us,e1⟩:=z;simp only at HWR⊢;obtain⟨zz,hzz⟩:∃zz:DS×Int×JD,(if e1=0 then(S1,0,⟨gn,us,first,E,first +n,0⟩)else(S1,e1,⟨0,0,0,[],0,0⟩))=zz:=⟨_,rfl⟩;rw[hzz];have HZZ:=Hd hzz;obtain⟨ca,hca⟩:=Xq (R.at_);obtain⟨cc,hcc⟩:=Xq (R.cnt);rw[hca,hcc]at HNX HWR HNC;obtain⟨HG,HGL,HFG,HAR,HPAR,HFL,HCA,HCC⟩:=Hd8 hg hg.lt hFg har (show gn%2=1-ar from hpar) hfl hca hcc;have HHG:=Hd (show∀k,F k∨w.heap.size≤k→k≠g from fun k h1 e=>by
  subst e;rcases h1 with h1|h1
  ·exact hFg h1
  ·have:=hg.lt;omega)
 clear hzz hnx hwr hg hFg har hpar hfl hca hcc h hK hK0 hE hH hd hr hlim hN hroom hM hsz hgn hz hsub;go_enter Tryz.func50,Tryz.ntmps50;obtain⟨k0,k1,k2,k3⟩:=HNC.out w Rq;go_wp2_with fail;refine(HNX.out w Rq).mono ?_;rintro e V1 ⟨rfl,hb1⟩;clear k0 k1 k2 k3;obtain⟨k0,k1,k2,k3⟩:=HNC.out V1 hb1;go_wp2_with fail;refine(HWR.out V1 hb1).mono ?_;rintro e V2 ⟨rfl,hd2,hc2⟩;simp only at hd2⊢;obtain⟨HB1,HD2,HC2,HG2⟩:=Hd4 hb1 (hd2.mono (G:=fun k=>F k∨w.heap.size≤k) (fun k h1=>h1.elim .inl (fun h2=>.inr (Nt hb1.size h2)))) (show Chg F w V2 from(Cb (F:=F) hb1).trans hc2 (fun k e=>.inl e)) ((HG.out.below hb1).chg hc2 HFG.out);clear k0 k1 k2 k3 hb1 hd2 hc2;by_cases he:e1=0
 case neg=>
  have hdt:(e1 !=0)=true:=by simpa using he
  rw[show Ii gn first (.slice va n vc) us e1=.agg #[.int .i64 0,.int .i64 0,.slice none 0 0,.int .i64 0] by unfold Ii;rw[In he];rfl];have HZE:=Hd (show zz=(S1,e1,⟨0,0,0,[],0,0⟩) by rw[←HZZ.out,In he]);have HNE:=Hd he;clear he;go_wp2_with (refine Pl 97 10 38 _ (Hn) ?_;refine Stop.on ?_)
  refine Stop.go ?_
  try simp only[P0,P1,P2,P3,P4]
  intro W3 x3 c3 s3
  try simp only[P0,P1,P2,P3,P4]
  have hba:Below V2.heap.size V2 (V2.alloc (.cells #[.int .i64 0,.int .i64 0,.slice none 0 0,.int .i64 0] 97)):=Rq.alloc Lr _;have HB3:=Hd (hba.trans (c3.below (fun k e=>by rw[e];exact Nat.le_refl _) hba.size));clear hba x3 c3 s3;go_wp2_with fail;exact Bv (.int .i64 e1) (by rw[HZE.out];exact⟨rfl,HD2.out.below HB3.out,(HC2.out.trans (Cb (F:=F) HB3.out) (fun k e=>.inl e)).mono (fun k e=>.inl e),fun h=>absurd h HNE.out,fun _=>HG2.out.below HB3.out⟩)
 subst he;rw[show Ii gn first (.slice va n vc) us 0=.agg #[.int .i64 gn,.int .i64 first,.slice va n vc,.int .i64 us] by rfl];have HZE:=Hd (show zz=(S1,0,⟨gn,us,first,E,first +n,0⟩) by rw[←HZZ.out,Ip rfl]);go_wp2_with (refine Pl 97 10 38 _ (Hn) ?_;refine Stop.on ?_)
 refine Stop.go ?_
 try simp only[P0,P1,P2,P3,P4]
 intro W3 x3 c3 s3
 try simp only[P0,P1,P2,P3,P4]
 have hba:Below V2.heap.size V2 (V2.alloc (.cells #[.int .i64 0,.int .i64 0,.slice none 0 0,.int .i64 0] 97)):=Rq.alloc Lr _;have HB3:=Hd (hba.trans (c3.below (fun k e=>by rw[e];exact Nat.le_refl _) hba.size));have HGQ:=Hd (show V2.heap.size≠g from fun e=>by have:=HG2.out.lt;omega);obtain⟨q,hq⟩:=Xq (V2.heap.size);rw[hq]at x3 c3 HGQ⊢;obtain⟨HQ,HG3,HX3⟩:=Hd3 hq (HG2.out.below HB3.out) x3;have HLC:=Hd (fun w' (hw':Chg (fun k=>k=g) W3 w')=>by have h1:=((hw'.block q (Ax HX3.out).1 HGQ.out).trans HX3.out);exact Dq4 (Cq h1 0) (Cq h1 1) (Cq h1 2) (Cq h1 3));clear hba x3 c3 s3 hq;go_wp2_with fail;refine bH (fun k=>k=g) ?_;intro wd hd0 hS0;refine tkH 0 hS0 ?_;refine tkH 1 hS0 ?_;refine tkH 2 hS0 ?_;refine AD 3 HLC.out hS0 ?_;refine tkH 4 hS0 ?_;refine tkH 5 hS0 ?_;refine dH 6 fun K hK=>?_
 refine FB rfl 3 (.tmp 48) (.tmp 45) rfl g 3 (.int .i64 ((1:Int)-(ar:Int))) rfl rfl ((hd0.block _ HG3.out.lt).trans HG3.out) (by show 3<10;decide) rfl (by kernel_rfl) ?_;intro V8 x8 c8 s8;have hS8:Chg (fun k=>k=g) W3 V8:=hS0.trans c8 (fun j e=>.inl e);refine Kq hK (hS8) ?_;have hS0:=hS8;refine tkH 7 hS0 ?_;refine tkH 8 hS0 ?_;refine dH 9 fun K hK=>?_
 refine Kk rfl 97 (.tmp 50) (.tmp 46) rfl g 4 #[.int .i64 gn,.int .i64 first,.slice va n vc,.int .i64 us] rfl rfl x8 (by show 4+4≤10;decide) (by kernel_rfl) (by kernel_rfl) ?_;intro V9 x9 c9 s9;have hS9:Chg (fun k=>k=g) W3 V9:=hS8.trans c9 (fun j e=>.inl e);refine Kq hK (hS9) ?_;refine eH ?_;have hg9:JBlk V9 g b R ⟨gn,us,first,E,J.synced,J.failed⟩ (.slice va n vc):=by unfold JBlk GI;simp only;rw[HPAR.out,show((1-ar:Nat):Int)=(1:Int)-(ar:Int) by omega];exact x9
 have HG9:=Hd hg9;have HC9:=Hd hS9;clear x9 c9 s9 x8 c8 s8 hS8 hS9 hS0 hd0 hg9;go_wp2_with fail;refine(Fb (J:=⟨gn,us,first,E,J.synced,J.failed⟩) HG9.out (by show first +n<_;omega)).mono ?_;rintro e V10 ⟨rfl,hb10⟩;have HG10:=Hd (HG9.out.below hb10);have HC10:=Hd (HC9.out.trans (Cb (F:=fun k=>k=g) hb10) (fun k e=>.inl e));clear hb10;go_wp2_with (refine Az rfl rfl 3 (.tmp 55) (.tmp 53) rfl g 8 (.int .i64 ((first +n:Nat):Int)) rfl rfl HG10.out (by show 8<10;decide) rfl (by kernel_rfl) ?_;refine Stop.on ?_)
 refine Stop.go ?_
 try simp only[P0,P1,P2,P3,P4]
 intro W11 x11 c11 s11
 try simp only[P0,P1,P2,P3,P4]
 have HG11:=Hd (show JBlk W11 g b R ⟨gn,us,first,E,first +n,0⟩ (.slice va n vc)from by have h1:W11.heap[g]?=some (.cells (GI b R ⟨gn,us,first,E,first +n,J.failed⟩ (.slice va n vc)) 103 (0,0)):=x11;rw[HFL.out]at h1;exact h1)
 have HC11:=Hd (HC10.out.trans c11 (fun k e=>.inl e));have HCA:=Hd (show Chg (fun k=>F k∨k=g) w W11 from((HC2.out.trans (Cb (F:=F) HB3.out) (fun k e=>.inl e)).mono (G:=fun k=>F k∨k=g) (fun k e=>.inl e)).trans HC11.out (fun k e=>.inl (.inr e)));have HD11:=Hd ((HD2.out.below HB3.out).chg HC11.out (fun k h1 e=>HHG.out k h1 e));clear x11 c11 s11;go_wp2_with fail;exact Bv (.int .i64 0) (by rw[HZE.out];exact⟨rfl,HD11.out,HCA.out,fun _=>HG11.out,fun h=>absurd rfl h⟩)
theorem PP {ev ev2:Value} (h:DiskAt w F b S) (hK:KAt w) (hg:JBlk w g b R J ev) (first :Nat)
 (hd:S.down=false) (hr:R.at_+R.cnt≤S.dur.length) (hlen:S.pend.length<1000000000) (hbig:2147483647<AA (1-J.gen%2) (Ah S R.at_ R.cnt)):
 Ca 50 #[.pointer (some ⟨g,0,none⟩),.int .i64 first,ev2] w fun e w'=>e=.returned (.int .i64 9)∧Below w.heap.size w w':=by
 have hM:S.dur.length≤4096:=h.ok.most;have hnx:=fun(V:World) (hV:Below w.heap.size w V)=>Ia (h.below hV) (KAt.below hK hV hK.size) R.at_ R.cnt (1-J.gen%2) (by omega) hd hr hlen
 rw[show Fw (AA (1-J.gen%2) (Ah S R.at_ R.cnt))=.tuple #[.int .i64 0,.int .i64 9] by unfold Fw;rw[Ip hbig]]at hnx;obtain⟨ar,har⟩:=Xq (J.gen%2);have har1:ar≤1:=by omega
 have hsub:((1-ar:Nat):Int)=(1:Int)-(ar:Int):=by omega
 rw[har,hsub]at hnx;unfold stV at hnx;have HNX:=Hd hnx;have HNC:=Hd (show∀w',Below w.heap.size w w'→w'.cell? ⟨g,0,none⟩=some (.pointer (some ⟨b,0,none⟩))∧w'.cell? ⟨g,1,none⟩=some (.int .i64 (R.at_:Int))∧w'.cell? ⟨g,2,none⟩=some (.int .i64 (R.cnt:Int))∧w'.cell? ⟨g,3,none⟩=some (.int .i64 ar)from fun w' hw'=>⟨(hg.below hw').cell rfl,(hg.below hw').cell rfl,(hg.below hw').cell rfl,by rw[←har];exact(hg.below hw').cell rfl⟩);obtain⟨ca,hca⟩:=Xq (R.at_);obtain⟨cc,hcc⟩:=Xq (R.cnt);rw[hca,hcc]at HNX HNC;clear hnx hg har hca hcc h hK hd hr hbig hM hsub hlen;go_enter Tryz.func50,Tryz.ntmps50;obtain⟨k0,k1,k2,k3⟩:=HNC.out w Rq;go_wp2_with fail;refine(HNX.out w Rq).mono ?_;rintro e V1 ⟨rfl,hb1⟩;have HB1:=Hd hb1;clear k0 k1 k2 k3 hb1;go_wp2_with fail;exact Bv (.int .i64 9) ⟨rfl,HB1.out⟩
theorem KP {H:Nat→Prop}{ev ev2:Value} (h:DiskAt w F b S) (hK:KAt w) (hK0:¬F 0) (hg:JBlk w g b R J ev) (hFg:¬F g) (first :Nat) (E:List (List UInt8)) (hE:EntsAt w H ev2 E) (hH:∀k,k<w.heap.size→H k→¬F k)
 (hd:S.down=false) (hr:R.at_+R.cnt≤S.dur.length) (hfl:J.failed=0) (hlim:JLw 0 first E) (hN:Aq E≤100000) (hroom:Roomy S (Aq E+1)):
 Ca 50 #[.pointer (some ⟨g,0,none⟩),.int .i64 first,ev2] w (Jc w F g b R J ev ev2 (moveJ S R (1-J.gen%2) first E)):=by
 by_cases hbig:2147483647<AA (1-J.gen%2) (Ah S R.at_ R.cnt)
 ·have e:moveJ S R (1-J.gen%2) first E=(S,9,⟨0,0,0,[],0,0⟩):=by unfold moveJ;simp only;rw[Ip hbig]
  rw[e];refine(PP h hK hg first hd hr (by have:=hroom.pend;omega) hbig).mono ?_;rintro e w' ⟨rfl,hb⟩;exact⟨rfl,(h.below hb).mono (fun k hk=>.inl hk),Cb hb,fun h0=>absurd (show(9:Int)=0 from h0) (by decide),fun _=>hg.below hb⟩
 ·exact PN h hK hK0 hg hFg first E hE hH hd hr hfl (hlim.with (by omega)) hN hroom
def QX (w:World) (F:Nat→Prop) (b:Nat) (z:DS×Int×JD) (e:Ending) (w':World):Prop:=e=.returned (.int .i64 z.2.1)∧DiskAt w' (fun k=>F k∨w.heap.size≤k) b z.1∧Chg F w w'
theorem G0 {a c:Nat} (hc:8≤c) (hr:a+c≤S.dur.length) (hd:S.down=false):FF S (a:Int) (c:Int)=0:=by unfold FF;rw[In (by omega),hd];rfl
theorem M7 (h:DiskAt w F b S) (hK:KAt w) (hK0:¬F 0) (a c:Nat) (hc8:8≤c) (hr:a+c≤S.dur.length) (hd:S.down=false) (hlim:JLim (AA 0 (Ah S a c)) 0 0 []) (hroom:Roomy S 2):Ca 15 #[.pointer (some ⟨b,0,none⟩),.int .i64 a,.int .i64 c] w (QX w F b (moveJ S ⟨a,c⟩ 0 0 [])):=by
 have hM:S.dur.length≤4096:=h.ok.most;have hck:=fun(V:World) (hV:Below w.heap.size w V)=>GS (h.below hV) (a:Int) (c:Int) (by omega) (by omega)
 rw[G0 hc8 hr hd]at hck;have hnx:=fun(V:World) (hV:Below w.heap.size w V)=>Ia (h.below hV) (KAt.below hK hV hK.size) a c 0 (by omega) hd hr (by have:=hroom.pend;omega)
 have hsz:=Cw hlim;have hz:moveJ S ⟨a,c⟩ 0 0 []=(if(wrA S (a+0*(c/2)) (AA 0 (Ah S a c)) 0 []).2.2=0 then((wrA S (a+0*(c/2)) (AA 0 (Ah S a c)) 0 []).1,0,⟨AA 0 (Ah S a c),(wrA S (a+0*(c/2)) (AA 0 (Ah S a c)) 0 []).2.1,0,[],0,0⟩)
  else((wrA S (a+0*(c/2)) (AA 0 (Ah S a c)) 0 []).1,(wrA S (a+0*(c/2)) (AA 0 (Ah S a c)) 0 []).2.2,⟨0,0,0,[],0,0⟩)):=by
  unfold moveJ;simp only;rw[In (by have:=hlim.g;omega)];rfl
 rw[hz];clear hz;obtain⟨gn,hgn⟩:=Xq (AA 0 (Ah S a c));rw[hgn]at hlim hnx hsz⊢;have hgm:=hlim.g;have hwr:=fun(V:World) (hV:Below w.heap.size w V)=>JM (h.below hV) (KAt.below hK hV hK.size) hK0 a c 0 gn 0 (by omega) (by omega) (by omega) (.slice none 0 0) [] (CU V (fun _=>False)) (fun k hk h1=>h1.elim) hlim.w (by rw[AO];show(Ar (AK gn 0 0 [])).length≤_;rw[hsz];decide) (by rw[AO];show Roomy S ((Ar (AK gn 0 0 [])).length+1);rw[hsz];exact hroom)
 obtain⟨z,hz⟩:=Xq (wrA S (a+0*(c/2)) gn 0 []);rw[hz]at hwr⊢;rw[show Fw gn=.tuple #[.int .i64 gn,.int .i64 0] by unfold Fw;rw[In (by omega)]]at hnx;obtain⟨S1,us,e1⟩:=z;simp only at hwr⊢;obtain⟨zz,hzz⟩:∃zz:DS×Int×JD,(if e1=0 then(S1,0,⟨gn,us,0,[],0,0⟩)else(S1,e1,⟨0,0,0,[],0,0⟩))=zz:=⟨_,rfl⟩;have HZ:=Hd (show zz.1=S1∧zz.2.1=e1 by
  rw[←hzz];by_cases he:e1=0
  ·rw[Ip he];exact⟨rfl,he.symm⟩
  ·rw[In he];exact⟨rfl,rfl⟩)
 rw[hzz];obtain⟨HCK,HNX,HWR⟩:=Hd3 hck hnx hwr;unfold stV at HCK HNX HWR;obtain⟨ca,hca⟩:∃ca:Int,(a:Int)=ca:=⟨_,rfl⟩;obtain⟨cc,hcc⟩:∃cc:Int,(c:Int)=cc:=⟨_,rfl⟩;rw[hca,hcc]at HCK HNX HWR⊢;clear hck hnx hwr hca hcc hzz hz hgn hsz h hK hK0 hlim hroom hd hr hM hc8;go_enter Tryz.func15,Tryz.ntmps15;go_wp2_with (refine Pl 94 7 14 _ (Hn) ?_;refine Stop.on ?_)
 refine Stop.go ?_
 try simp only[P0,P1,P2,P3,P4]
 intro W0 x0 c0 s0
 try simp only[P0,P1,P2,P3,P4]
 have hba:Below w.heap.size w (w.alloc (.cells #[.pointer none,.int .i64 0,.int .i64 0] 94)):=Rq.alloc Lr _;have HB0:=Hd (hba.trans (c0.below (fun k e=>by rw[e];exact Nat.le_refl _) hba.size));obtain⟨q,hq⟩:=Xq (w.heap.size);rw[hq]at x0 c0⊢;have HX0:=Hd x0;have HLC:=Hd (fun w' (hw':Below W0.heap.size W0 w')=>by have h1:=(Bq hw' HX0.out);exact Dq3 (Cq h1 0) (Cq h1 1) (Cq h1 2));clear hba x0 c0 s0 hq;obtain⟨k0,k1,k2⟩:=HLC.out W0 Rq;go_wp2_with fail;refine(HCK.out W0 HB0.out).mono ?_;rintro e W1 ⟨rfl,hb1⟩;clear k0 k1 k2;obtain⟨k0,k1,k2⟩:=HLC.out W1 hb1;have HB1:=Hd hb1;clear hb1;go_wp2_with fail;refine(HNX.out W1 (Tq HB0.out HB1.out)).mono ?_;rintro e W2 ⟨rfl,hb2⟩;clear k0 k1 k2;have HB2:=Hd (Tq HB1.out hb2);obtain⟨k0,k1,k2⟩:=HLC.out W2 HB2.out;clear hb2;go_wp2_with fail;refine(HWR.out W2 (Tq HB0.out HB2.out)).mono ?_;rintro e W3 ⟨rfl,hd3,hc3⟩;have HB3:=Hd (Tq HB0.out HB2.out);go_wp2_with fail;exact Bv (.int .i64 e1) ⟨by rw[HZ.out.2],by rw[HZ.out.1];exact hd3.mono (fun k h1=>h1.elim .inl (fun h2=>.inr (Nt HB3.out.size h2))),(Cb (F:=F) HB3.out).trans hc3 (fun k e=>.inl e)⟩
variable {v:Value}{l:List UInt8}
theorem JN (hv:BytesN w F v l) (hl:l.length≤1000000000):
 Ca 51 #[v] w fun e w'=>∃u,e=.returned u∧w'.ownsRow w.heap.size 5 1 u l.length (bvs l)∧Below w.heap.size w w':=by
 obtain⟨a,cap,rfl⟩:=hv.form;obtain⟨a',cap',e,h1,h2⟩:=hv.at_;cases e;cases a with
 |some p=>
  have hnil:=fun(w:World)=>Lib.run_eql_slice_nil (P:=Tryz.prog) w 30 5 (some p) l.length cap 0 0 Tryz.underlying30
  have hba:Below w.heap.size w (w.alloc (.cells #[] 5)):=Rq.alloc Lr _;obtain⟨HBA,HBV,HO,HBS,HNC,HL⟩:=Hd6 hba (hv.at_.below hba) (Dy (w:=w) Lr 5) (show w.heap.size≤(w.alloc (.cells #[] 5)).heap.size from hba.size) (show∀k c,Value.slice (some p) l.length cap=.slice none k c→c=0 from by intro k c e;cases e) hl;obtain⟨n,hn⟩:=Xq (l.length);have HN:=Hd hn;rw[hn]at hnil HBV HNC⊢;clear hv hba hl h1 h2 hn;go_enter Tryz.func51,Tryz.ntmps51;go_wp2_with (at_builtin;refine BR (xs:=[]) rfl (.tmp 5) (.tmp 6) rfl rfl HO.out rfl HBV.out HNC.out ?hn HBS.out ?_)
  case hn=>have:=HL.out;omega
  intro a' cap' w3 hO3 hg3;have hB3:Below w.heap.size w w3:=HBA.out.grown hg3 HBS.out (fun j hj=>by cases hj;exact Nat.le_refl _);have HO3:=Hd hO3;have HB3:=Hd hB3;clear hO3 hg3 hB3;go_wp2_with fail;go_ret;exact⟨_,rfl,by rw[←HN.out];exact HO3.out,HB3.out⟩
 |none=>
  have hl0:l=[]:=Classical.byContradiction fun hne=>by obtain⟨g,off,e2,_⟩:=h2 hne;cases e2
  subst hl0;obtain rfl :cap=0:=hv.nil _ _ rfl;have hnil:=fun(w:World)=>Lib.run_eql_slice_nil (P:=Tryz.prog) w 30 5 none 0 0 0 0 Tryz.underlying30
  have HO:=Hd (show w.ownsRow w.heap.size 5 1 (.slice none 0 0) 0 (bvs [])from Dx _ _ _);clear hv h1 h2 hl;go_enter Tryz.func51,Tryz.ntmps51;go_wp2_with fail;exact Bv (.slice none 0 0) ⟨_,rfl,HO.out,Rq⟩
def EX:Nat→List Value→List Value
 |_,[]=>[]
 |f,p::ps=>.int .i64 f::p::EX (f+1) ps
theorem Ik:∀(ps:List Value) (f:Nat) (p:Value),EX f (ps++[p])=EX f ps++[.int .i64 ((f+ps.length:Nat):Int),p]
 | [],f,p=>rfl
 |q::ps,f,p=>by
  rw[List.cons_append,EX,Ik ps,EX,List.length_cons,show f+1+ps.length=f+(ps.length+1) by omega];rfl
theorem KQ:∀(ps:List Value) (f i:Nat) (h:i<ps.length),(EX f ps)[i*2]?=some (.int .i64 ((f+i:Nat):Int))∧(EX f ps)[i*2+1]?=some ps[i]
 |p::ps,f,0,_=>⟨rfl,rfl⟩
 |p::ps,f,i+1,h=>by
  have h1:=KQ ps (f+1) i (by simpa using h);rw[EX,show(i+1)*2=i*2+1+1 by omega,List.getElem?_cons_succ,List.getElem?_cons_succ,List.getElem?_cons_succ,List.getElem?_cons_succ];refine⟨by rw[h1.1,show f+1+i=f+(i+1) by omega],h1.2⟩
structure NumsAt (w:World) (F:Nat→Prop) (v:Value) (f:Nat) (L:List (List UInt8)):Prop where
 ex:∃ps,ps.length=L.length∧w.ownsRow 0 107 2 v L.length (EX f ps)∧(∀g,v.ownBlock=some g→F g)∧∀i (h:i<L.length),∃u,ps[i]?=some u∧BytesN w (fun k=>F k∧v.ownBlock≠some k) u L[i]
section
variable {w w':World} {F G:Nat→Prop} {v:Value} {f:Nat} {L:List (List UInt8)}
theorem NumsAt.form (h:NumsAt w F v f L):∃a cap,v=.slice a L.length cap:=by obtain⟨ps,_,h,_⟩:=h.ex;exact Ag h
theorem OG (w:World) (F:Nat→Prop) (f:Nat):NumsAt w F (.slice none 0 0) f []:=⟨[],rfl,⟨rfl,.inl ⟨rfl,rfl⟩⟩,(fun g e=>by cases e),fun i hi=>by simp at hi⟩
theorem NumsAt.weak (h:NumsAt w F v f L) (hFG:∀k,k<w.heap.size→F k→G k):NumsAt w G v f L:=by obtain⟨ps,h0,h1,h2,h3⟩:=h.ex;refine⟨ps,h0,h1,fun g hg=>hFG g (Ab h1 g hg).2 (h2 g hg),fun i hi=>?_⟩;obtain⟨u,h4,h5⟩:=h3 i hi;exact⟨u,h4,h5.weak fun k hk h6=>⟨hFG k hk h6.1,h6.2⟩⟩
theorem NumsAt.chg (h:NumsAt w F v f L) (hc:Chg G w w') (hd:∀k,k<w.heap.size→F k→¬G k):NumsAt w' F v f L:=by obtain⟨ps,h0,h1,h2,h3⟩:=h.ex;refine⟨ps,h0,AJ h1 hc (fun k hk=>hd k (Ab h1 k hk).2 (h2 k hk)),h2,fun i hi=>?_⟩;obtain⟨u,h4,h5⟩:=h3 i hi;exact⟨u,h4,h5.chg hc fun k hk h6=>hd k hk h6.1⟩
theorem NumsAt.below (h:NumsAt w F v f L) (hb:Below w.heap.size w w'):NumsAt w' F v f L:=h.chg (G:=fun _=>False) (Cb hb) (fun _ _ _ h=>h)
theorem NumsAt.own_lt (h:NumsAt w F v f L) {g:Nat} (hg:v.ownBlock=some g):F g∧g<w.heap.size:=by obtain⟨ps,h0,h1,h2,h3⟩:=h.ex;exact⟨h2 g hg,(Ab h1 g hg).2⟩
theorem NumsAt.get {a:Option Addr}{cap:Nat} (h:NumsAt w F (.slice a n cap) f L) {i:Nat} (hi:i<L.length):∃g u,a=some ⟨g,0,none⟩∧F g∧g<w.heap.size∧w.cell? ⟨g,i*2,none⟩=some (.int .i64 ((f+i:Nat):Int))∧w.cell? ⟨g,i*2+1,none⟩=some u∧BytesN w F u L[i]:=by
 obtain⟨ps,h0,h1,h2,h3⟩:=h.ex;obtain⟨u,h4,h5⟩:=h3 i hi;obtain⟨g,cap',e,hgl,_,hr⟩:=AZ h1 (by omega);cases e;have hp:=KQ ps f i (by omega);have hpu:ps[i]'(by omega)=u:=by have:=List.getElem?_eq_getElem (l:=ps) (i:=i) (by omega);rw[h4]at this;simpa using this.symm
 rw[hpu]at hp;exact⟨g,u,rfl,h2 g rfl,hgl,hr _ _ hp.1,hr _ _ hp.2,h5.weak fun k _ h6=>h6.1⟩
theorem RP:(Tryz.prog.info? 107).map (fun i=>(i.zero,i.size,i.bytes))=some (some (.agg #[.int .i64 0,.slice none 0 0]),2,32):=by kernel_rfl
theorem PQ (s x:Operand) (ho:o.op=.call {callee:=.builtin .append,args:=#[s,x],argTypes:=#[53,53]})
 {u:Value} {l:List UInt8} (hs:a.eval s=v) (hown:NumsAt w F v f L) (hu:BytesN w (fun k=>F k∧v.ownBlock≠some k) u l) (hx:a.eval x=.slice (some ⟨w.heap.size,0,none⟩) 1 1)
 {n:Nat} (hL:L.length=n) (hn:n<1000000000) {j:Int} (hj:j=((f+n:Nat):Int))
 (h:∀a' cap' w',NumsAt w' (fun k=>F k∨w.heap.size≤k) (.slice a' (n+1) cap') f (L++[l])→Chg (fun k=>v.ownBlock=some k) w w'→(∀g,(Value.slice a' (n+1) cap').ownBlock=some g→v.ownBlock=some g∨w.heap.size≤g)→K (a.put o.dst (.slice a' (n+1) cap')) w'):
 o.wp Tryz.prog a (w.alloc (.cells #[.int .i64 j,u] 107)) K Q:=by
 subst hL hj;obtain⟨i0,hi,hz0,hz1,hz2⟩:=info_parts RP;have hba:Below w.heap.size w (w.alloc (.cells #[.int .i64 ((f+L.length:Nat):Int),u] 107)):=Rq.alloc Lr _;obtain⟨ps,h0,hr,hF,he⟩:=hown.ex;have hr1:=An hr hba;have hu1:=hu.below hba;obtain⟨ua,uc,hue⟩:=hu.form;refine wp_append_lies _ s x 53 ho 0 107 i0 _ 2 32 Tryz.underlying53 hi hz0 hz1 hz2 rfl (by decide) v L.length (EX f ps) hs hr1
  ⟨w.heap.size,0,none⟩ 1 1 [.int .i64 ((f+L.length:Nat):Int),u] hx rfl (World.news_of_block (cs:=#[.int .i64 ((f+L.length:Nat):Int),u]) (t:=107) (fr:=(0,0)) (Hn)) (fun y hy=>by simp only[List.mem_cons,List.not_mem_nil,or_false]at hy;rcases hy with rfl |rfl <;>first|rfl | (rw[hue];rfl)) (by decide) (by unfold maxLen;omega) (by omega) (Nat.zero_le _) _ rfl ?_
 intro g' cap' w' hown' hgrow hat hlt;have hc1:Chg (fun k=>v.ownBlock=some k) (w.alloc (.cells #[.int .i64 ((f+L.length:Nat):Int),u] 107)) w':=Chg.grown hgrow (fun k hk=>.inl hk);have hc2:Chg (fun k=>v.ownBlock=some k) w w':=(Cb hba).trans hc1 (fun k hk=>.inl hk);have hat':v.ownBlock=some g'∨w.heap.size≤g':=hat.elim .inl (fun e=>.inr (by rw[e,Sz];omega));have keep:∀(y:Value) (ys:List UInt8),BytesN w (fun k=>F k∧v.ownBlock≠some k) y ys→BytesN w' (fun k=>(F k∨w.heap.size≤k)∧(Value.slice (some ⟨g',0,none⟩) (L.length+1) cap').ownBlock≠some k) y ys:=fun y ys hy=>by
  have h1:=(hy.weak (G:=fun k=>(F k∧v.ownBlock≠some k)∧k<w.heap.size) (fun k h1 h2=>⟨h2,h1⟩)).chg hc2 (fun k _ h3=>h3.1.2);refine h1.weak fun k _ h2=>⟨.inl h2.1.1,fun e=>?_⟩
  have e':g'=k:=Option.some.inj e;subst e';rcases hat' with h3|h3
  ·exact h2.1.2 h3
  ·have:=h2.2;omega
 refine h _ cap' w' ⟨ps++[u],by simp[h0],by rw[List.length_append,Ik ps f u,h0];exact hown',fun g hg=>?_,fun i hi=>?_⟩ hc2 (fun g hg=>by obtain rfl :g'=g:=Option.some.inj hg;exact hat')
 ·obtain rfl :g'=g:=Option.some.inj hg;exact hat'.elim (fun h3=>.inl (hF _ h3)) .inr
 by_cases hlt:i<L.length
 ·obtain⟨y,h1,h2⟩:=he i hlt;refine⟨y,by rw[List.getElem?_append_left (by omega)];exact h1,?_⟩;rw[List.getElem_append_left hlt];exact keep _ _ h2
 ·rw[List.length_append]at hi;simp at hi;obtain rfl :i=L.length:=by omega
  refine⟨u,by rw[List.getElem?_append_right (by omega),h0,Nat.sub_self];rfl,?_⟩;simp only[List.getElem_append_right Lr,Nat.sub_self,List.getElem_cons_zero];exact keep _ _ hu
end
def GJ (e:Int):Value:=.tuple #[.pointer none,.slice none 0 0,.int .i64 e]
theorem OH (h:DiskAt w F b S) (hK:KAt w) (a c:Nat) (hc8:8≤c) (hr:a+c≤S.dur.length) (hd:S.down=false) (hlen:S.pend.length<1000000000) (hx:BW S ⟨a,c⟩=none):Ca 16 #[.pointer (some ⟨b,0,none⟩),.int .i64 a,.int .i64 c] w fun e w'=>e=.returned (GJ 3)∧Below w.heap.size w w':=by
 have hM:S.dur.length≤4096:=h.ok.most;have hck:=fun(V:World) (hV:Below w.heap.size w V)=>GS (h.below hV) (a:Int) (c:Int) (by omega) (by omega)
 rw[G0 hc8 hr hd]at hck;have hcu:=fun(V:World) (hV:Below w.heap.size w V)=>Id (h.below hV) (KAt.below hK hV hK.size) a c hc8 hd hr hlen
 rw[hx]at hcu;have HCK:=Hd hck;have HCU:=Hd hcu;unfold stV at HCK HCU;obtain⟨ca,hca⟩:∃ca:Int,(a:Int)=ca:=⟨_,rfl⟩;obtain⟨cc,hcc⟩:∃cc:Int,(c:Int)=cc:=⟨_,rfl⟩;rw[hca,hcc]at HCK HCU⊢;clear hck hcu hca hcc hx h hK hlen hr hd hM hc8;go_enter Tryz.func16,Tryz.ntmps16;go_wp2_with (refine Pl 94 9 23 _ (Hn) ?_;refine Stop.on ?_)
 refine Stop.go ?_
 try simp only[P0,P1,P2,P3,P4]
 intro W0 x0 c0 s0
 try simp only[P0,P1,P2,P3,P4]
 have hba:Below w.heap.size w (w.alloc (.cells #[.pointer none,.int .i64 0,.int .i64 0] 94)):=Rq.alloc Lr _;have HB0:=Hd (hba.trans (c0.below (fun k e=>by rw[e];exact Nat.le_refl _) hba.size));have HS0:=Hd (show W0.heap.size=w.heap.size+1 by rw[s0];simp);obtain⟨q,hq⟩:=Xq (w.heap.size);rw[hq]at x0 c0⊢;have HQ0:=Hd hq;have HX0:=Hd x0;have HLC:=Hd (fun w' (hw':Below W0.heap.size W0 w')=>by have h1:=(Bq hw' HX0.out);exact Dq3 (Cq h1 0) (Cq h1 1) (Cq h1 2));clear hba x0 c0 s0 hq;obtain⟨k0,k1,k2⟩:=HLC.out W0 Rq;go_wp2_with fail;refine(HCK.out W0 HB0.out).mono ?_;rintro e W1 ⟨rfl,hb1⟩;clear k0 k1 k2;obtain⟨k0,k1,k2⟩:=HLC.out W1 hb1;have HB1:=Hd hb1;have HB01:=Hd (Tq HB0.out hb1);clear hb1;go_wp2_with fail;refine(HCU.out W1 HB01.out).mono ?_;rintro e W2 ⟨bi,ok,st,rfl,he2,hb2,hbi,hcis⟩;clear k0 k1 k2;obtain⟨HB12,HB02,HB2⟩:=Hd3 (Tq HB1.out hb2) (Tq HB01.out hb2) hb2;obtain⟨sg,sf,sv,sL⟩:=st;obtain⟨va,vc,hsv⟩:=he2.form;simp only at hsv;subst hsv;obtain⟨n,hn⟩:=Xq (sL.length);obtain rfl :ok=false:=hcis;simp only[hn]at he2⊢;unfold StD.cells stC;simp only;clear he2 hbi;go_wp2_with (refine Pl 97 12 33 _ (Hn) ?_;refine Stop.on ?_)
 refine Stop.go ?_
 try simp only[P0,P1,P2,P3,P4]
 intro W3 x3 c3 s3
 try simp only[P0,P1,P2,P3,P4]
 have hba:Below W2.heap.size W2 (W2.alloc (.cells #[.int .i64 0,.int .i64 0,.slice none 0 0,.int .i64 0] 97)):=Rq.alloc Lr _;have HB3:=Hd (HB02.out.trans ((hba.trans (c3.below (fun k e=>by rw[e];exact Nat.le_refl _) hba.size)).mono HB02.out.size));clear hba x3 c3 s3;go_wp2_with fail;exact Bv (hr:=by simp[go_sem,GJ]) (GJ 3) ⟨rfl,HB3.out⟩
def Mo (w:World) (F:Nat→Prop) (b:Nat) (R:JR) (z:DS×Int×JD) (e:Ending) (w':World):Prop:=
 ∃F':Nat→Prop,DiskAt w' F' b z.1∧(∀k,F' k→(F k∨w.heap.size≤k)∧k<w'.heap.size)∧Chg F w w'∧
  (z.2.1≠0→e=.returned (GJ z.2.1))∧
  (z.2.1=0→∃(g:Nat) (G N:Nat→Prop) (ev lv:Value),e=.returned (.tuple #[.pointer (some ⟨g,0,none⟩),lv,.int .i64 0])∧w.heap.size≤g∧¬F' g∧JBlk w' g b R z.2.2 ev∧EntsAt w' G ev z.2.2.ents∧(∀k,G k→w.heap.size≤k∧k<w'.heap.size∧¬F' k∧k≠g)∧
   NumsAt w' N lv z.2.2.first z.2.2.ents∧(∀k,N k→w.heap.size≤k∧k<w'.heap.size∧¬F' k∧¬G k∧k≠g))
theorem Gt (S:DS) (R:JR) (wh f:Nat) (E:List (List UInt8)) (h:(moveJ S R wh f E).2.1=0):(moveJ S R wh f E).2.2.first=f∧(moveJ S R wh f E).2.2.ents=E:=by
 unfold moveJ at h⊢;simp only at h⊢;by_cases h1:2147483647<AA wh (Ah S R.at_ R.cnt)
 ·rw[Ip h1]at h;cases h
 ·rw[In h1]at h⊢;by_cases h2:(wrA S (R.area wh) (AA wh (Ah S R.at_ R.cnt)) f E).2.2=0
  ·rw[Ip h2];exact⟨rfl,rfl⟩
  ·rw[In h2]at h;exact absurd h h2
theorem KR (h:DiskAt w F b S) (hK:KAt w) (hK0:¬F 0) (a c:Nat) (hc8:8≤c) (hr:a+c≤S.dur.length) (hd:S.down=false) (x:ArD) (hx:BW S ⟨a,c⟩=some x) (hlim:JLw 0 x.first x.ents) (hN:Aq x.ents≤100000) (hroom:Roomy S (Aq x.ents+1)):
 Ca 16 #[.pointer (some ⟨b,0,none⟩),.int .i64 a,.int .i64 c] w (Mo w F b ⟨a,c⟩ (moveJ S ⟨a,c⟩ (1-x.gen%2) x.first x.ents)):=by
 have hlen:S.pend.length<1000000000:=by have:=hroom.pend;omega
 have hM:S.dur.length≤4096:=h.ok.most;have hck:=fun(V:World) (hV:Below w.heap.size w V)=>GS (h.below hV) (a:Int) (c:Int) (by omega) (by omega)
 rw[G0 hc8 hr hd]at hck;have hcu:=fun(V:World) (hV:Below w.heap.size w V)=>Id (h.below hV) (KAt.below hK hV hK.size) a c hc8 hd hr hlen
 rw[hx]at hcu;have HCK:=Hd hck;have HCU:=Hd hcu;unfold stV at HCK HCU;obtain⟨ca,hca⟩:∃ca:Int,(a:Int)=ca:=⟨_,rfl⟩;obtain⟨cc,hcc⟩:∃cc:Int,(c:Int)=cc:=⟨_,rfl⟩;rw[hca,hcc]at HCK HCU⊢;obtain⟨HD,HK,HK0,HLM,HNN,HRM,HDN,HRR,HCA,HCC⟩:=Hd10 h hK hK0 hlim hN hroom hd hr hca hcc;have hfm:x.first≤4294967296:=hlim.f;have hnm:x.ents.length≤100000:=by have:=BQ x.ents;omega
 obtain⟨z,hz⟩:=Xq (moveJ S ⟨a,c⟩ (1-x.gen%2) x.first x.ents);have HZ:=Hd hz;have HZF:=Hd (show z.2.1=0→z.2.2.first=x.first∧z.2.2.ents=x.ents by rw[←hz];exact Gt _ _ _ _ _);rw[hz];clear hck hcu hca hcc hx h hK hK0 hlen hr hd hM hc8 hlim hN hroom hz;go_enter Tryz.func16,Tryz.ntmps16;go_wp2_with (refine Pl 94 9 23 _ (Hn) ?_;refine Stop.on ?_)
 refine Stop.go ?_
 try simp only[P0,P1,P2,P3,P4]
 intro W0 x0 c0 s0
 try simp only[P0,P1,P2,P3,P4]
 have hba:Below w.heap.size w (w.alloc (.cells #[.pointer none,.int .i64 0,.int .i64 0] 94)):=Rq.alloc Lr _;have HB0:=Hd (hba.trans (c0.below (fun k e=>by rw[e];exact Nat.le_refl _) hba.size));have HS0:=Hd (show W0.heap.size=w.heap.size+1 by rw[s0];simp);obtain⟨q,hq⟩:=Xq (w.heap.size);rw[hq]at x0 c0⊢;have HQ0:=Hd hq;have HX0:=Hd x0;have HLC:=Hd (fun w' (hw':Below W0.heap.size W0 w')=>by have h1:=(Bq hw' HX0.out);exact Dq3 (Cq h1 0) (Cq h1 1) (Cq h1 2));clear hba x0 c0 s0 hq;obtain⟨k0,k1,k2⟩:=HLC.out W0 Rq;go_wp2_with fail;refine(HCK.out W0 HB0.out).mono ?_;rintro e W1 ⟨rfl,hb1⟩;clear k0 k1 k2;obtain⟨k0,k1,k2⟩:=HLC.out W1 hb1;have HB1:=Hd hb1;have HB01:=Hd (Tq HB0.out hb1);clear hb1;go_wp2_with fail;refine(HCU.out W1 HB01.out).mono ?_;rintro e W2 ⟨bi,ok,st,rfl,he2,hb2,hbi,hcis⟩;clear k0 k1 k2;obtain⟨HB12,HB02,HB2⟩:=Hd3 (Tq HB1.out hb2) (Tq HB01.out hb2) hb2;obtain⟨sg,sf,sv,sL⟩:=st;obtain⟨va,vc,hsv⟩:=he2.form;simp only at hsv;subst hsv;obtain⟨n,hn⟩:=Xq (sL.length);obtain⟨rfl,⟨hg,hf,hL⟩,hpr⟩:=hcis;simp only at hg hf hL;subst hg hf hL;simp only[hn]at he2⊢;unfold StD.cells stC;simp only;have HE2:=Hd (he2.weak (G:=fun k=>W1.heap.size≤k∧k<W2.heap.size) (fun k h1 h2=>⟨h2,h1⟩));have HPR:=Hd hpr;have hnb:n≤100000:=by omega
 have HN:=Hd hn;clear he2 hpr hn;go_wp2_with (refine Pl 97 12 33 _ (Hn) ?_;refine Stop.on ?_)
 refine Stop.go ?_
 try simp only[P0,P1,P2,P3,P4]
 intro W3 x3 c3 s3
 try simp only[P0,P1,P2,P3,P4]
 have hba:Below W2.heap.size W2 (W2.alloc (.cells #[.int .i64 0,.int .i64 0,.slice none 0 0,.int .i64 0] 97)):=Rq.alloc Lr _;have hb3:=hba.trans (c3.below (fun k e=>by rw[e];exact Nat.le_refl _) hba.size);obtain⟨HB3,HS3,HB23,HE3⟩:=Hd4 (Tq HB02.out hb3) (show W3.heap.size=W2.heap.size+1 by rw[s3];simp) hb3 (HE2.out.below hb3);obtain⟨k0,k1,k2⟩:=HLC.out W3 (Tq HB12.out hb3);obtain⟨p,hp⟩:=Xq (W2.heap.size);rw[hp]at x3⊢;have HP:=Hd hp;have HX3:=Hd x3;have y0:=Cq x3 0;have y1:=Cq x3 1;have y2:=Cq x3 2;have y3:=Cq x3 3;obtain⟨V4,hV4⟩:=Xq (W3.alloc (.cells #[.pointer (some ⟨b,0,none⟩),.int .i64 ca,.int .i64 cc,.int .i64 bi,.int .i64 (x.gen:Int),.int .i64 (x.first:Int),.slice va n vc,.int .i64 0,.int .i64 0,.int .i64 0] 103));have hb4:=Lq hV4;have hx4:=Nq hV4 rfl;have HV4:=Hd hV4;have HJ4:=Hd (show JBlk V4 W3.heap.size b ⟨a,c⟩ ⟨x.gen,0,x.first,x.ents,0,0⟩ (.slice va n vc) by unfold JBlk GI;simp only;rw[HPR.out,HCA.out,HCC.out];exact hx4)
 have hx34:=Bq hb4 x3;have HX4:=Hd hx34;have z1:(W3.alloc (.cells #[.pointer (some ⟨b,0,none⟩),.int .i64 ca,.int .i64 cc,.int .i64 bi,.int .i64 (x.gen:Int),.int .i64 (x.first:Int),.slice va n vc,.int .i64 0,.int .i64 0,.int .i64 0] 103)).cell? ⟨p,1,none⟩=some (.int .i64 (x.first:Int)):=by rw[hV4,cr hx34];rfl
 have z2:(W3.alloc (.cells #[.pointer (some ⟨b,0,none⟩),.int .i64 ca,.int .i64 cc,.int .i64 bi,.int .i64 (x.gen:Int),.int .i64 (x.first:Int),.slice va n vc,.int .i64 0,.int .i64 0,.int .i64 0] 103)).cell? ⟨p,2,none⟩=some (.slice va n vc):=by rw[hV4,cr hx34];rfl
 obtain⟨HB4,HE4,HS4⟩:=Hd3 (Tq HB3.out hb4) (HE3.out.below hb4) (show V4.heap.size=W3.heap.size+1 by rw[←hV4];simp);clear hba x3 c3 s3 hb3 hp hV4 hb4 hx4 hx34 HE2 HE3;go_wp2_with fail;rw[HV4.out];have hF0:∀k,F k∧k<w.heap.size→k<W3.heap.size:=fun k h1=>by have:=HB3.out.size;omega
 refine(KP (HD.out.bound.below HB4.out) (KAt.below HK.out HB4.out HK.out.size) (fun h=>HK0.out h.1) HJ4.out (fun h=>by have:=HB3.out.size;omega) x.first x.ents HE4.out (fun k hk h1 h2=>by have:=HB01.out.size;omega) HDN.out HRR.out rfl HLM.out HNN.out HRM.out).mono ?_;intro e V5 hmp;obtain⟨rfl,hd5,hc5,hok5,hno5⟩:=hmp;rw[HZ.out]at hd5 hok5 hno5;rw[HZ.out];obtain⟨HD5,HFB,HC5,HE5⟩:=Hd4 hd5.bound (show∀k,((F k∧k<w.heap.size)∨V4.heap.size≤k)∧k<V5.heap.size→(F k∨w.heap.size≤k)∧k<V5.heap.size from fun k h1=>⟨h1.1.elim (fun h2=>.inl h2.1) (fun h2=>.inr (by have:=HB4.out.size;omega)),h1.2⟩) (show Chg F w V5 from(Cb (F:=F) HB4.out).trans hc5 (fun k h1=>h1.elim (fun h2=>.inl h2.1) (fun h2=>.inr (by have:=HB3.out.size;omega)))) (HE4.out.chg hc5 (fun k _ h1 h2=>by have h3:=HB01.out.size;have h4:=HS3.out;omega));have hx5:=(hc5.block p (Ax HX4.out).1 (fun h1=>by have h2:=HB02.out.size;have h3:=HS3.out;have h4:=HP.out;omega)).trans HX4.out;have HX5:=Hd hx5;have HS5:=Hd hc5.size;obtain⟨S1,e1,J1⟩:=z;simp only at hok5 hno5 HZF HD5⊢;have HOK:=Hd hok5;clear k0 k1 k2 y0 y1 y2 y3 z1 z2 hd5 hc5 hok5 hno5 hx5;by_cases he:e1=0
 case neg=>
  have hdt:(e1 !=0)=true:=by simpa using he
  have HNE:=Hd he;clear he;go_wp2_with fail;exact Bv (hr:=by simp[go_sem,GJ]) (GJ e1) ⟨_,HD5.out,HFB.out,HC5.out,fun _=>rfl,fun h=>absurd h HNE.out⟩
 subst he;obtain⟨hzf,hze⟩:=HZF.out rfl;obtain⟨HJ5,HZ1,HZ2⟩:=Hd3 (HOK.out rfl) hzf hze;clear hzf hze HOK;have z2:=Cq HX5.out 2;have HN0:=Hd (OG V5 (fun k=>V5.heap.size≤k) x.first);have HB0':=Hd (Below.refl V5.heap.size V5);go_wp2_with fail;go_loopw [17,58] (fun lv iv wr=>∃(i:Nat) (la:Option Addr) (lc:Nat),i≤n∧iv=.int .i64 i∧lv=.slice la i lc∧Hid (NumsAt wr (fun k=>V5.heap.size≤k) (.slice la i lc) x.first (x.ents.take i))∧Hid (Below V5.heap.size V5 wr)) (fun _ iv _=>n-(intOf iv).toNat)
 case atStart=>exact⟨0,none,0,Nat.zero_le _,rfl,rfl,HN0,HB0'⟩
 case round=>
  obtain⟨i,la,lc,hi,rfl,rfl,HNR,HBR⟩:=hrel;obtain⟨W1',rfl⟩:∃W,W=wr:=⟨_,rfl⟩;clear HN0 HB0' z2;by_cases hlt:i<n
  case neg=>
   obtain rfl :n=i:=by omega
   have HNF:=Hd (show NumsAt W1' (fun k=>V5.heap.size≤k) (.slice la n lc) J1.first J1.ents by rw[HZ1.out,HZ2.out];have h1:=HNR.out;rw[List.take_of_length_le (by rw[HN.out];exact Nat.le_refl _)]at h1;exact h1)
   go_wp2_with fail;exact Br (v:=.tuple #[.pointer (some ⟨W3.heap.size,0,none⟩),.slice la n lc,.int .i64 0]) (by simp[results,Tryz.results16,go_sem]) rfl
    ⟨_,HD5.out.below HBR.out,fun k h1=>⟨(HFB.out k h1).1,Nl h1.2 HBR.out.size⟩,(HC5.out.trans (Cb (F:=F) HBR.out) (fun k e=>.inl e)),fun h=>absurd rfl h,
     fun _=>⟨W3.heap.size,_,fun k=>V5.heap.size≤k∧k<W1'.heap.size,_,_,rfl,HB3.out.size,fun h=>by have h1:=HS4.out;have h2:=HB3.out.size;omega,HJ5.out.below HBR.out,(by show EntsAt W1' _ _ J1.ents;rw[HZ2.out];exact HE5.out.below HBR.out),fun k h1=>by
      have h2:=HB01.out.size;have h3:=HS3.out;have h4:=HS4.out;have h5:=HBR.out.size;have h6:=HS5.out;exact⟨by omega,by omega,fun h7=>by omega,by omega⟩,HNF.out.weak (fun k h1 h2=>⟨h2,h1⟩),fun k h1=>by
      have h2:=HB02.out.size;have h3:=HS3.out;have h4:=HS4.out;have h5:=HBR.out.size;have h6:=HS5.out;exact⟨by omega,h1.2,fun h7=>by omega,fun h7=>by omega,by omega⟩⟩⟩
  have hiI:(i:Int)<(n:Int):=by omega
  have hiE:i<x.ents.length:=by rw[HN.out];exact hlt
  have HE6:=Hd (HE5.out.below HBR.out);obtain⟨gv,u,uc,e9,_,hcell,hbx⟩:=HE6.out.get hiE;subst e9;obtain⟨X,hX⟩:=Xq (x.ents[i]);obtain⟨HTS,HLN,HXL⟩:=Hd3 (show x.ents.take (i+1)=x.ents.take i++[X] by rw[←hX,List.take_succ_eq_append_getElem hiE]) (show(x.ents.take i).length=i by rw[List.length_take];omega) (show X.length≤1000000000 by have:=HLM.out.len _ (List.getElem_mem hiE);rw[hX]at this;omega);rw[hX]at hcell hbx;obtain⟨xn,hxn⟩:=Xq (X.length);rw[hxn]at hcell hbx;have HBX:=Hd hbx;have HXN:=Hd hxn;have HXP:=Hd (show∀w',Below V5.heap.size W1' w'→w'.cell? ⟨p,1,none⟩=some (.int .i64 (x.first:Int))from fun w' hw'=>by have hlt:=(Ax HX5.out).1;have h1:=(hw'.block p hlt).trans ((HBR.out.block p hlt).trans HX5.out);rw[cr h1];rfl)
  obtain⟨LT,hLT⟩:=Xq (x.ents.take i);rw[hLT]at HNR HTS HLN;have HFI:=Hd (show(x.first:Int)+(i:Int)=((x.first+i:Nat):Int) by omega);clear hX hbx hxn hLT HE6;go_wp2_with fail;refine Np ?_;refine BM (Below V5.heap.size W1') (by kernel_rfl) ?_;have hS0:(Below V5.heap.size W1') W1'.drew:=(Rq.drew);obtain⟨wd,hwd⟩:=Xq (W1'.drew);rw[hwd]at hS0⊢;have hd0:=Dd hwd;clear hwd;refine tkH 0 hS0 ?_;refine tkH 1 hS0 ?_;refine tkH 2 hS0 ?_ (hy:=fun w' hw'=>by(have h1:=HXP.out w' hw';clear hw';first| (go_simp;rfl)| (go_simp;done)));refine tkH 3 hS0 ?_;refine tkH 4 hS0 ?_ (v:=.int .i64 ((x.first:Int)+(i:Int))) (hy:=fun w' hw'=>by(have hwr:=Iw ((x.first:Int)+(i:Int));clear hw';first| (go_simp;rfl)| (go_simp;done)));refine tkH 5 hS0 ?_;refine dH 6 fun K hK=>?_
  go_simp;go_at_call 51;refine(JN (HBX.out.below hd0) HXL.out).mono ?_;rintro e V6 ⟨u9,rfl,ho,hb6⟩;rw[HXN.out]at ho;obtain⟨ua9,uc9,rfl⟩:=Ag ho;have hb06:=Tq hd0 hb6;have hsV6:=hS0.trans (hb6.mono (Nt HBR.out.size hS0.size));refine Kq hK (hsV6) ?_;refine tkH 7 hsV6 ?_;refine dH 8 fun K hK=>?_
  refine Rt 53 107 (.tmp 70) rfl #[.int .i64 ((x.first:Int)+(i:Int)),.slice ua9 xn uc9] rfl Tryz.underlying53 (by kernel_rfl) (by kernel_rfl) (by show 0<2;decide) (by show 2≤_;decide) ?_;have hba8:Below V6.heap.size V6 (V6.alloc (.cells #[.int .i64 ((x.first:Int)+(i:Int)),.slice ua9 xn uc9] 107)):=Rq.alloc Lr _;have hsV8:=hsV6.trans (hba8.mono (Nt HBR.out.size hsV6.size));refine Kq hK (hsV8) ?_;refine dH 9 fun K hK=>?_
  refine PQ (.tmp 63) (.tmp 71) rfl rfl (HNR.out.below hb06) (l:=X) ((Bk (l:=X) ho).weak (fun k h1 h2=>⟨Nt (Nt HBR.out.size hS0.size) h2,fun e=>by have h3:=HNR.out.own_lt e;have h4:=hd0.size;omega⟩)) rfl HLN.out (by omega) HFI.out ?_;intro a5 c5 V9 hn9 hc9 ho9;have hs9:Below V5.heap.size W1' V9:=hsV6.trans (hc9.below (fun k e=>(HNR.out.own_lt e).1) (Nt HBR.out.size hsV6.size));refine Kq hK (hs9) ?_;refine tkH 10 hs9 ?_;refine eH ?_;have HN9:=Hd (show NumsAt V9 (fun k=>V5.heap.size≤k) (.slice a5 (i+1) c5) x.first (x.ents.take (i+1)) by rw[HTS.out];exact hn9.weak (fun k _ h1=>h1.elim id (fun h2=>Nt (Nt HBR.out.size hsV6.size) h2)))
  have HB9:=Hd (HBR.out.trans (hs9.mono Lr));clear hn9 hc9 ho9 hs9 hsV6 hsV8 hba8 hb06 hb6 ho hd0 hS0 hcell;go_wp2_with fail;go_roundw
  case rel=>exact⟨i+1,a5,c5,by omega,by go_num,rfl,HN9,HB9⟩
  case measure=>simp[intOf]<;>omega
def JO (J:JD) (x:Int):JD:=if x=28 then{J with failed:=28}else J
theorem EJ {q:Nat}{ev:Value}{x:Int} (u:FrameMode) (hg:JBlk w g b R J ev) (hq:w.heap[q]?=some (.cells #[.int .i64 x] 44 (0,0))):
 CallsD Tryz.prog 54 #[.pointer (some ⟨g,0,none⟩),.pointer (some ⟨q,0,none⟩)] u w fun e u' w'=>u'=u∧(e=.returned (.tuple #[])∧JBlk w' g b R (JO J x) ev∧Chg (fun k=>k=g) w w'):=by
 have kq:=Cq hq 0;have HG:=Hd hg;clear hg hq;by_cases hx:x=28
 ·subst hx;go_enter_d Tryz.func54,Tryz.ntmps54;go_wp2_with (refine Az rfl rfl 44 (.tmp 13) (.tmp 11) rfl g 9 (.int .i64 28) rfl rfl HG.out (by show 9<10;decide) rfl (by kernel_rfl) ?_;refine Stop.on ?_)
  refine Stop.go ?_
  try simp only[P0,P1,P2,P3,P4]
  intro W1 x1 c1 s1
  try simp only[P0,P1,P2,P3,P4]
  go_wp2_with fail;go_end0;exact⟨rfl,x1,c1⟩
 ·have hd:(x==28)=false:=by simpa using hx
  have HX:=Hd hx;clear hx;go_enter_d Tryz.func54,Tryz.ntmps54;go_wp2_with fail;go_end0;exact⟨rfl,by unfold JO;rw[In HX.out];exact HG.out,Chg.refl _ _⟩
def QY (w:World) (F:Nat→Prop) (g b:Nat) (R:JR) (ev:Value) (z:DS×JD×Int) (e:Ending) (w':World):Prop:=
 e=.returned (.int .i64 z.2.2)∧DiskAt w' F b z.1∧JBlk w' g b R z.2.1 ev∧Chg (fun k=>F k∨k=g) w w'
theorem PR {va:Option Addr}{vc:Nat} (h:DiskAt w F b S) (hg:JBlk w g b R J (.slice va n vc)) (hFg:¬F g) (hn:J.ents.length=n) (hnb:J.first+n<4611686018427387904) (hroom:Roomy S 1):
 Ca 29 #[.pointer (some ⟨g,0,none⟩)] w (QY w F g b R (.slice va n vc) (synJ S J)):=by
 obtain⟨w1,hw1⟩:=Xq (w.alloc (.cells #[.int .i64 0] 44));have HW1:=Hd hw1;have hb1:=Lq hw1;obtain⟨HB1,HX1,HG1,HGL,HD1,HFG,HRM,HN⟩:=Hd8 hb1 (show w1.heap[w.heap.size]?=some (.cells #[.int .i64 0] 44 (0,0)) by rw[←hw1];exact Hn) (hg.below hb1) hg.lt (h.bound.below hb1) hFg hroom hn;obtain⟨z,hz⟩:=Xq (synJ S J);have HZ:=Hd (show z=synJ S J from hz.symm);rw[hz];obtain⟨fl,hfl⟩:=Xq (J.failed);have HFL:=Hd hfl;clear hw1 hb1 h hg hFg hroom hz hn hfl;go_enter_defers Tryz.func29,Tryz.ntmps29;go_wp2_with fail;rw[HW1.out];refine(EW HG1.out).mono ?_;rintro e V2 ⟨rfl,hb2⟩;rw[HFL.out];obtain⟨HX2,HB2,HG2,HD2⟩:=Hd4 (Bq hb2 HX1.out) (Tq HB1.out hb2) (HG1.out.below hb2) (HD1.out.below hb2);obtain⟨q,hq⟩:=Xq (w.heap.size);rw[hq]at HX2 HGL HD2⊢;have HQ:=Hd hq;clear hb2 hq HX1 HG1 HD1;by_cases hf0:fl=0
 case neg=>
  have hdt:(fl !=0)=true:=by simpa using hf0
  have HZE:=Hd (show z=(S,J,fl) by rw[HZ.out];unfold synJ;rw[HFL.out,Ip hf0]);clear hf0;go_wp2_with (refine Az rfl rfl 44 (.tmp 2) (.tmp 9) rfl q 0 (.int .i64 fl) rfl rfl HX2.out (by show 0<1;decide) rfl (by kernel_rfl) ?_;refine Stop.on ?_)
  refine Stop.go ?_
  try simp only[P0,P1,P2,P3,P4]
  intro W3 x3 c3 s3
  try simp only[P0,P1,P2,P3,P4]
  have k3:=Cq x3 0;go_wp2_with fail;exact⟨.int .i64 fl,by simp[results,Tryz.results29,go_sem,k3],by rw[HZE.out];exact⟨rfl,(HD2.out.chg c3 (fun k h1 h2=>by omega)).mono (fun k h1=>h1.1),HG2.out.chg c3 (fun e=>by have:=HGL.out;omega),(Cb (F:=fun k=>F k∨k=g) HB2.out).trans c3 (fun k e=>.inr (by rw[e,HQ.out];exact Nat.le_refl _))⟩⟩
 subst hf0;have k0:V2.cell? ⟨g,0,none⟩=some (.pointer (some ⟨b,0,none⟩)):=HG2.out.cell rfl;go_wp2_with fail;refine(Kx HD2.out (by have:=HRM.out.pend;omega) (by have:=HRM.out.ops;omega) HRM.out.lim).mono ?_;rintro e V3 ⟨rfl,hd3,hc3⟩;have HZS:=Hd (show z=if S.flush.2=0 then(S.flush.1,{J with synced:=J.next},0)else(S.flush.1,{J with failed:=S.flush.2},S.flush.2) by rw[HZ.out];unfold synJ;rw[In (by rw[HFL.out];simp)]);have HF28:=Hd (show S.flush.2≠0→S.flush.2=28 from fun h=>by
  unfold DS.flush at h⊢;by_cases h1:S.down=true
  ·rw[Ip h1]
  ·rw[In h1]at h⊢;by_cases h2:S.operate.2=true
   ·rw[Ip h2]at h;exact absurd rfl h
   ·rw[In h2])
 obtain⟨T,hT⟩:=Xq (S.flush);rw[hT]at hd3 HZS HF28⊢;obtain⟨S1,e1⟩:=T;simp only at hd3 HZS HF28⊢;obtain⟨HD3,HG3,HX3,HC3⟩:=Hd4 hd3 (HG2.out.chg hc3 (fun h1=>by have:=HGL.out;have:=h1.2;exact HFG.out h1.1)) ((hc3.block q (Ax HX2.out).1 (fun h1=>by omega)).trans HX2.out) (show Chg (fun k=>F k∨k=g) w V3 from(Cb (F:=fun k=>F k∨k=g) HB2.out).trans hc3 (fun k h1=>.inl (.inl h1.1)));clear hT hd3 hc3 k0;by_cases he:e1=0
 ·subst he;have HZE:=Hd (show z=(S1,{J with synced:=J.next},0) by rw[HZS.out,Ip rfl]);have hnb':J.first+n<4611686018427387904:=hnb;go_wp2_with fail;refine(Fb HG3.out hnb').mono ?_;rintro e V4 ⟨rfl,hb4⟩;obtain⟨HG4,HX4,HD4,HC4⟩:=Hd4 (HG3.out.below hb4) (Bq hb4 HX3.out) (HD3.out.below hb4) (HC3.out.trans (Cb (F:=fun k=>F k∨k=g) hb4) (fun k e=>.inl e));clear hb4;go_wp2_with (refine Az rfl rfl 3 (.tmp 24) (.tmp 22) rfl g 8 (.int .i64 ((J.first+n:Nat):Int)) rfl rfl HG4.out (by show 8<10;decide) rfl (by kernel_rfl) ?_;refine Stop.on ?_)
  refine Stop.go ?_
  try simp only[P0,P1,P2,P3,P4]
  intro W5 x5 c5 s5
  try simp only[P0,P1,P2,P3,P4]
  have HG5:=Hd (show JBlk W5 g b R {J with synced:=J.next} (.slice va n vc)from by unfold JD.next;rw[HN.out];exact x5)
  obtain⟨HX5,HD5,HC5⟩:=Hd3 ((c5.block q (Ax HX4.out).1 (by have:=HGL.out;omega)).trans HX4.out) (HD4.out.chg c5 (fun k h1 h2=>by subst h2;exact HFG.out h1.1)) (HC4.out.trans c5 (fun k e=>.inl (.inr e)));clear x5 c5 s5;go_wp2_with (refine Az rfl rfl 44 (.tmp 2) (.const (.int .i64 0)) rfl q 0 (.int .i64 0) rfl rfl HX5.out (by show 0<1;decide) rfl (by kernel_rfl) ?_;refine Stop.on ?_)
  refine Stop.go ?_
  try simp only[P0,P1,P2,P3,P4]
  intro W6 x6 c6 s6
  try simp only[P0,P1,P2,P3,P4]
  obtain⟨HG6,HD6,HC6,HX6⟩:=Hd4 (HG5.out.chg c6 (by have:=HGL.out;omega)) (HD5.out.chg c6 (fun k h1 h2=>by omega)) (HC5.out.trans c6 (fun k e=>.inr (by rw[e,HQ.out];exact Nat.le_refl _))) (show W6.heap[q]?=some (.cells #[.int .i64 0] 44 (0,0))from x6);clear x6 c6 s6;go_wp2_with fail;refine leaves_cons (f:=54) (args:=#[.pointer (some ⟨g,0,none⟩),.pointer (some ⟨q,0,none⟩)]) (by simp) (by simp[go_sem]) ?_;refine(EJ .returning HG6.out HX6.out).mono ?_;rintro e u' W7 ⟨rfl,rfl,hg7,hc7⟩;have k7:=Cq ((hc7.block q (Ax HX6.out).1 (by have:=HGL.out;omega)).trans HX6.out) 0;exact⟨.int .i64 0,by simp[results,Tryz.results29,go_sem,k7],by rw[HZE.out];exact⟨rfl,(HD6.out.chg hc7 (fun k h1 h2=>by subst h2;exact HFG.out h1.1)).mono (fun k h1=>h1.1),hg7,HC6.out.trans hc7 (fun k e=>.inl (.inr e))⟩⟩
 ·have hdt:(e1 !=0)=true:=by simpa using he
  obtain rfl :e1=28:=HF28.out he;have HZE:=Hd (show z=(S1,{J with failed:=28},28) by rw[HZS.out,In he]);clear he;go_wp2_with (refine Az rfl rfl 44 (.tmp 2) (.tmp 19) rfl q 0 (.int .i64 28) rfl rfl HX3.out (by show 0<1;decide) rfl (by kernel_rfl) ?_;refine Stop.on ?_)
  refine Stop.go ?_
  try simp only[P0,P1,P2,P3,P4]
  intro W6 x6 c6 s6
  try simp only[P0,P1,P2,P3,P4]
  obtain⟨HG6,HD6,HC6,HX6⟩:=Hd4 (HG3.out.chg c6 (by have:=HGL.out;omega)) (HD3.out.chg c6 (fun k h1 h2=>by omega)) (HC3.out.trans c6 (fun k e=>.inr (by rw[e,HQ.out];exact Nat.le_refl _))) (show W6.heap[q]?=some (.cells #[.int .i64 28] 44 (0,0))from x6);clear x6 c6 s6;go_wp2_with fail;refine leaves_cons (f:=54) (args:=#[.pointer (some ⟨g,0,none⟩),.pointer (some ⟨q,0,none⟩)]) (by simp) (by simp[go_sem]) ?_;refine(EJ .returning HG6.out HX6.out).mono ?_;rintro e u' W7 ⟨rfl,rfl,hg7,hc7⟩;have k7:=Cq ((hc7.block q (Ax HX6.out).1 (by have:=HGL.out;omega)).trans HX6.out) 0;exact⟨.int .i64 28,by simp[results,Tryz.results29,go_sem,k7],by rw[HZE.out];exact⟨rfl,(HD6.out.chg hc7 (fun k h1 h2=>by subst h2;exact HFG.out h1.1)).mono (fun k h1=>h1.1),hg7,HC6.out.trans hc7 (fun k e=>.inl (.inr e))⟩⟩
def SlV:Type:={v:Value//v.oneCell'=true}
def slE:ElemTy Tryz.prog 36 30 SlV where
 enc v:=[v.1]
 k:=1
 hu:=Tryz.underlying36
 hi:=⟨.slice none 0 0,24,by kernel_rfl,rfl,by decide⟩
 hk:=by decide
 len _:=rfl
 one v x hx:=by rw[List.mem_singleton.1 hx];exact v.2
theorem Kl:∀(L:List SlV),L.flatMap slE.enc=L.map (fun v=>v.1)
 | []=>rfl
 |v::L=>by rw[List.flatMap_cons,Kl L];rfl
theorem NN:∀(vs:List Value),(∀v∈vs,v.oneCell'=true)→∃L:List SlV,L.map (fun v=>v.1)=vs
 | [],_=>⟨[],rfl⟩
 |v::vs,h=>by
  obtain⟨L,hL⟩:=NN vs (fun x hx=>h x (List.mem_cons_of_mem _ hx));exact⟨⟨v,h v (List.mem_cons_self ..)⟩::L,by show v::L.map (fun v=>v.1)=v::vs;rw[hL]⟩
theorem Ld {va:Option Addr}{vc:Nat} (h:EntsAt w G (.slice va n vc) E) (k:Nat) (hk0:0<k) (hk:k≤n) (hE:E.length=n) (hnb:n<100000000):
 Ca 56 #[.slice va n vc,.int .i64 k] w fun e w'=>∃(ua:Option Addr) (uc:Nat),e=.returned (.slice ua (n-k) uc)∧EntsAt w' (fun j=>(G j∧j<w.heap.size)∨(w.heap.size≤j∧j<w'.heap.size)) (.slice ua (n-k) uc) (E.drop k)∧Below w.heap.size w w':=by
 obtain⟨vs,h1,h2,h3⟩:=h.ex;rw[hE]at h1;have hvl:vs.length=n:=by have:=h1.1;omega
 obtain⟨L,hL⟩:=NN vs (fun v hv=>by obtain⟨i,hi,rfl⟩:=List.getElem_of_mem hv;obtain⟨u,h4,h5⟩:=h3 i (by omega);obtain⟨a,c,e⟩:=h5.form;rw[List.getElem?_eq_getElem hi]at h4;rw[Option.some.inj h4,e];rfl)
 have hLl:L.length=n:=by rw[←hvl,←hL,List.length_map]
 have hown:OwnL slE w 0 (.slice va n vc) L:=by show w.ownsRow 0 30 1 _ L.length (L.flatMap slE.enc);rw[Kl,hL,hLl];exact h1
 obtain⟨g,rfl⟩:∃g,va=some ⟨g,0,none⟩:=by
  rcases h1.2 with⟨e,h0⟩| ⟨g,cap',cur,e,_⟩
  ·omega
  ·cases e;exact⟨g,rfl⟩
 have hat:=(hown.at_).drop (k:=k) hk;have hkc:n≤vc:=by
  rcases h1.2 with⟨e,h0⟩| ⟨g,cap',cur,e,_,_,h8,_⟩
  ·cases e
  ·cases e;exact h8
 rw[show(0:Nat)+k*slE.k=k by show 0+k*1=k;omega]at hat;obtain⟨HAT,HLD,HO0⟩:=Hd3 hat (show(L.drop k).length=n-k by rw[List.length_drop,hLl]) (LA slE w w.heap.size);have HFIN:=Hd (show∀(ua:Option Addr) (uc:Nat) (w':World),OwnL slE w' w.heap.size (.slice ua (n-k) uc) (L.drop k)→Below w.heap.size w w'→EntsAt w' (fun j=>(G j∧j<w.heap.size)∨(w.heap.size≤j∧j<w'.heap.size)) (.slice ua (n-k) uc) (E.drop k)from fun ua uc w' ho hb=>by have hr:w'.ownsRow w.heap.size 30 1 (.slice ua (n-k) uc) (L.drop k).length ((L.drop k).flatMap slE.enc):=ho;rw[Kl,List.map_drop,hL,List.length_drop,hLl]at hr;refine⟨vs.drop k,by rw[List.length_drop,hE];exact Am hr (Nat.zero_le _),fun j hj=>.inr (Ab hr j hj),fun i hi=>?_⟩;rw[List.length_drop]at hi;obtain⟨u,h4,h5⟩:=h3 (k+i) (by omega);refine⟨u,by rw[List.getElem?_drop];exact h4,?_⟩;rw[List.getElem_drop];refine(((h5.weak (G:=fun j=>G j∧j<w.heap.size) (fun j h6 h7=>⟨h7.1,h6⟩)).below hb)).weak (fun j _ h6=>⟨.inl h6,fun e=>?_⟩);have:=(Ab hr j e).1;have:=h6.2;omega)
 have HAT0:=Hd (show n=k→ListAt slE w (.slice (some ⟨g,0,none⟩) 0 0) (L.drop k)from fun e=>by rw[List.drop_of_length_le (by omega)];exact⟨_,0,rfl,Nat.le_refl _,Nat.zero_le _,(fun h=>by cases h),fun h=>absurd rfl h⟩)
 clear h h1 h2 h3 hvl hL hLl hown hat hE;by_cases hkv:k=vc
 ·obtain rfl :k=n:=by omega
  subst hkv;have hfin:=HFIN.out none 0 w;have h1:=HLD.out;rw[List.eq_nil_of_length_eq_zero (h1.trans (Nat.sub_self _)),Nat.sub_self]at hfin;have HE:=Hd (hfin (LA slE w w.heap.size) Rq);clear hfin h1;go_enter Tryz.func56,Tryz.ntmps56;go_wp2_with fail;exact Bv (.slice none 0 0) ⟨none,0,rfl,HE.out,Rq⟩
 ·have hkl:k<vc:=by omega
  go_enter Tryz.func56,Tryz.ntmps56;go_wp2_with (at_builtin;refine MK slE rfl (.const (.slice none 0 0)) (.tmp 7) rfl rfl HO0.out rfl HAT.out rfl HLD.out (show 0+(n-k)<1000000000 by omega) Lr ?_;refine Stop.on ?_)
  refine Stop.go ?_
  try simp only[P0,P1,P2,P3,P4]
  intro a5 c5 W1 ho hg ha
  try simp only[P0,P1,P2,P3,P4]
  have hb:Below w.heap.size w W1:=HO0.out.grown_below hg Lr;have HE:=Hd (HFIN.out a5 c5 W1 ho hb);have HB:=Hd hb;clear ho hg ha hb;go_wp2_with fail;exact Bv (.slice a5 (n-k) c5) ⟨a5,c5,rfl,HE.out,HB.out⟩
end Go.Proofs.YtplclpileejemaaGreatDoor
