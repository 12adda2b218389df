/- Short form (wip/zpack.py) of the texts Ref10 Ref11 Ref12 Z1 Z2 Z3 Z4 Z5. -/
import Derived.Test.YtplclpileejemaaGreatDoorP10
import Derived.Deep.CutRange
import Derived.Deep.LoopGhost
set_option linter.all false
set_option maxRecDepth 100000
set_option maxHeartbeats 8000000
namespace Go.Proofs.YtplclpileejemaaGreatDoor
open Go.RowKit Go.Shelf
variable {w:World}{G:Nat→Prop}{S:DS}{v:Value}
theorem OS (S:DS) (s p:Nat) (hs:s<S.dur.length) (y:UInt8):{S with dur:=S.dur.set s (S.dur[s].set p (S.dur[s].getD p 0^^^y))}=S.dmgAt s p y 0:=by unfold DS.dmgAt E1;simp[hs]
theorem OT (S:DS) (s p:Nat) (y:UInt8) (k:Nat) (hk:k<S.pend.length):∃h:k<(S.dmgAt s p y k).pend.length,(S.dmgAt s p y k).pend[k]=S.pend[k]∧
 S.dmgAt s p y (k+1)=if S.pend[k].1=s then{S.dmgAt s p y k with pend:=(S.dmgAt s p y k).pend.set k (S.pend[k].1,S.pend[k].2.set p (S.pend[k].2.getD p 0^^^y))}else S.dmgAt s p y k:=by
 have hat:(S.dmgAt s p y k).pend[k]?=some S.pend[k]:=Mx _ _ _ hk;obtain⟨hl,he⟩:=List.getElem?_eq_some_iff.1 hat;refine⟨hl,he,?_⟩;have h1:=Rm (dmg s p y) S.pend k hk;by_cases hxs:S.pend[k].1=s
 ·rw[Ip hxs];have h2:dmg s p y S.pend[k]=(S.pend[k].1,S.pend[k].2.set p (S.pend[k].2.getD p 0^^^y)):=by unfold dmg E1;rw[Ip hxs]
  rw[h2]at h1;unfold DS.dmgAt;simp only[←h1]
 ·rw[In hxs];have h2:dmg s p y S.pend[k]=S.pend[k]:=by unfold dmg;rw[In hxs]
  rw[h2]at h1;unfold DS.dmgAt;rw[←h1];have h3:((S.pend.take k).map (dmg s p y)++S.pend.drop k).set k S.pend[k]=(S.pend.take k).map (dmg s p y)++S.pend.drop k:=by
   conv=>lhs;rw[←he]
   exact List.set_getElem_self hl
  rw[h3]
theorem PY (S:DS) (s p:Nat) (hs:s<S.dur.length) (hp:p<256) (y:UInt8):S.damage (s:Int) (p:Int) y=(S.dmgAt s p y S.pend.length,0):=by
 have hh:S.has s=true:=by simp[DS.has];omega
 have h1:(0:Int)≤p∧(p:Int)<256:=by omega
 simp[DS.damage,hh,h1,DS.dmgAt]
theorem JX (s p:Nat) (y:UInt8) (h:RefAt w G S v) (hok:S.ok) (hs:s<S.dur.length) (hp:p<256) (hlen:S.pend.length<100000000):
 Ca 11 #[v,.int .i64 s,.int .i64 p,bv y] w fun e w'=>∃v',e=.returned (.tuple #[v',.int .i64 0])∧RefOwn w' w.heap.size (S.dmgAt s p y S.pend.length) v'∧Below w.heap.size w w':=by
 have HH:=Hd h;have HOK:=Hd hok;have hh:S.has s=true:=by simp[DS.has];omega
 obtain⟨dv,wv,rfl,hdu,hw⟩:=h;obtain⟨ad,capd,rfl⟩:=hdu.len;obtain⟨aw,capw,rfl⟩:=hw.len;clear hdu hw hok;unfold A9 at HH⊢;unfold bv;have hf:=Ea w S (.slice ad S.dur.length capd) (.slice aw S.pend.length capw);obtain⟨w1,hw1⟩:=Xq ((w.alloc (.cells #[.slice ad S.dur.length capd,.slice aw S.pend.length capw,.int .i64 (Au S),.bool S.down,.int .i64 (S.ops:Int)] 39)).alloc (.cells #[.slice none 0 0,.slice none 0 0,.int .i64 0,.bool false,.int .i64 0] 39));rw[hw1]at hf;obtain⟨n1,n2,hb⟩:=hf.below Rq;obtain⟨c0,c1,c2,c3,c4,cf⟩:=Ao n1;have HF:=Hd hf;have HHAS:=Hd hh;clear hf n1 n2 hb hh;have hp1:(p:Int)<256:=by omega
 have hp2:(0:Int)≤(p:Int):=by omega
 have hs2:(s:Int)<(S.dur.length:Int):=by omega
 have hsm:S.dur.length≤4096:=HOK.out.most;have hd1:decide ((p:Int)<0)=false:=by simp
 have hd2:decide ((256:Int)≤(p:Int))=false:=by simp;omega
 go_enter Tryz.func11,Tryz.ntmps11;go_wp2_with fail;clear hw1 c0 c1 c2 c3 c4 cf;refine(Fc (s:Int) (HH.out.below HF.out.b1)).mono ?_;rw[HHAS.out];rintro e w2 ⟨rfl,hb2⟩;have n1:=(HF.out.below hb2).1;obtain⟨c0,c1,c2,c3,c4,cf⟩:=Ao n1;have hbw2:=(HF.out.below hb2).2.2;have HB2:=Hd hb2;have HBW2:=Hd hbw2;clear hb2 hbw2 n1;go_wp2_with fail;refine(EL (HH.out.below HBW2.out) HOK.out hlen).mono ?_;rintro e w3 ⟨v3,rfl,⟨dv',wv',D,L,rfl,hX3⟩,hb3⟩;obtain⟨⟨ad',cd',rfl⟩,⟨aw',cw',rfl⟩⟩:=hX3.slices;unfold A9;have hb13:Below w1.heap.size w1 w3:=Tq HB2.out hb3;have n1:=(HF.out.below hb13).1;have n2:=(HF.out.below hb13).2.1;have hbw3:=(HF.out.below hb13).2.2;clear c0 c1 c2 c3 c4 cf;obtain⟨c0,c1,c2,c3,c4,cf⟩:=Ao n1;have hs1:=HF.out.s1;have hn5:=Bp n1 (.slice ad' S.dur.length cd') (.slice aw' S.pend.length cw') (.int .i64 (Au S)) (.bool S.down) (.int .i64 (S.ops:Int));have hc5:=BH w3 w.heap.size (.slice ad' S.dur.length cd') (.slice aw' S.pend.length cw') (.int .i64 (Au S)) (.bool S.down) (.int .i64 (S.ops:Int));have hw2s:w.heap.size+2≤w2.heap.size:=by have:=HB2.out.size;omega
 obtain⟨w5,hw5⟩:=Xq (put5 w3 w.heap.size (.slice ad' S.dur.length cd') (.slice aw' S.pend.length cw') (.int .i64 (Au S)) (.bool S.down) (.int .i64 (S.ops:Int)));rw[hw5]at hn5 hc5;have hn52:w5.heap[w.heap.size+1]?=_:=(hc5.block _ (by have:=hb3.size;omega) (by omega)).trans n2;have hbw5:Below w.heap.size w w5:=hbw3.trans (hc5.below (fun i e=>by omega) hbw3.size);have hX5:RefOwnX w5 w2.heap.size S (.slice ad' S.dur.length cd') (.slice aw' S.pend.length cw') D L:=hX3.chg hc5 (fun i h e=>by omega);have hw25:w2.heap.size≤w5.heap.size:=by have:=hb3.size;have:=hc5.size;omega
 obtain⟨gd,cd2,gx,cx,e,hgd,hgx,hgxl,hcr0,hcb,hfz,_,hset⟩:=hX5.atD s hs;simp only[Value.slice.injEq]at e;obtain⟨rfl,_,rfl⟩:=e;have hcr:w5.cell? ⟨gd,s,none⟩=_:=hcr0;have hcbp:w5.cell? ⟨gx,p,none⟩=_:=hcb p hp;have hfzp:w5.frozen? ⟨gx,p,none⟩=_:=hfz p;obtain⟨z,hz⟩:=Xq (S.dur[s].getD p 0);rw[hz]at hcbp;unfold bv at hcbp;obtain⟨D2,hX6⟩:=hset p (z^^^y);have hX6':RefOwnX (w5.setCell ⟨gx,p,none⟩ (bv (z^^^y))).drew w2.heap.size (S.dmgAt s p y 0) (.slice (some ⟨gd,0,none⟩) S.dur.length cd') (.slice aw' S.pend.length cw') D2 L:=by have h9:=OS S s p hs y;rw[hz]at h9;rw[←h9];exact hX6.drew
 rw[JV]at hX6';clear hX6;have hX6:=hX6';obtain⟨w6,hw6⟩:=Xq ((w5.setCell ⟨gx,p,none⟩ (.int .u8 ((z.toNat^^^y.toNat:Nat):Int))).drew);have hc6:Chg (fun i=>i=gx) w5 w6:=hw6▸(Chg.setCell (F:=fun i=>i=gx) w5 _ rfl).drew;rw[hw6]at hX6;have hn61:w6.heap[w.heap.size]?=_:=Ck hc6 hn5;have hn62:w6.heap[w.heap.size+1]?=_:=Ck hc6 hn52;have hb6:Below w.heap.size w w6:=hbw5.trans (hc6.below (fun i e=>by omega) hbw5.size);have hbx:=E3 z y;obtain⟨x0,x1,x2,x3,x4,xf⟩:=Ao hn5;obtain⟨HN1,HN2,HB5,HX6,HW2,HW6⟩:=Hd6 hn61 hn62 hb6 hX6 hw2s hw6;unfold put5 at hw5;clear hb3 hb13 n1 n2 hbw3 hn5 hn52 hbw5 hX5 hX3 hw2s hw25 hs1 hX6 hX6' hset hcb hfz hz hgx hgd hgxl hc5 hn61 hn62 hb6 hc6 hw6 hcr0;go_wp2_with fail;clear hw5 c0 c1 c2 c3 c4 cf;go_region;rw[HW6.out];clear x0 x1 x2 x3 x4 xf HW6;obtain⟨x0,x1,x2,x3,x4,xf⟩:=Ao HN1.out;go_wp2_with fail;clear x0 x1 x2 x3 x4 xf;go_loopw [10] (fun i wr=>∃(k:Nat) (L:List (Nat×List UInt8×Value)),k≤S.pend.length∧i=.int .i64 k∧wr.heap[w.heap.size]?=some (.cells #[.slice (some ⟨gd,0,none⟩) S.dur.length cd',.slice aw' S.pend.length cw',.int .i64 (Au S),.bool S.down,.int .i64 (S.ops:Int)] 39 (0,0))∧
  wr.heap[w.heap.size+1]?=some (.cells #[.slice none 0 0,.slice none 0 0,.int .i64 0,.bool false,.int .i64 0] 39 (0,0))∧RefOwnX wr w2.heap.size (S.dmgAt s p y k) (.slice (some ⟨gd,0,none⟩) S.dur.length cd') (.slice aw' S.pend.length cw') D2 L∧Below w.heap.size w wr)
  (fun i _=>S.pend.length-(intOf i).toNat)
 case atStart=>exact⟨0,L,Nat.zero_le _,rfl,HN1.out,HN2.out,HX6.out,HB5.out⟩
 case round=>
  clear HN1 HN2 HX6 HB5 L;obtain⟨k,L,hk,rfl,hn,hn2,hX,hB⟩:=hrel;obtain⟨x0,x1,x2,x3,x4,xf⟩:=Ao hn;have hpl:(S.dmgAt s p y k).pend.length=S.pend.length:=FR _ _ _ hk;obtain⟨HN,HN2,HB,HPL⟩:=Hd4 hn hn2 hB hpl;clear hn hn2 hB hpl;by_cases hlt:k<S.pend.length
  ·obtain⟨hkl,hke,hnext⟩:=OT S s p y k hlt;obtain⟨gw,cw2,gx2,cx2,e,hgw,hgx,hgxl,hne,hc0,hc1,hcb,hfz,hset⟩:=hX.atL k hkl;simp only[Value.slice.injEq]at e;obtain⟨rfl,ee,rfl⟩:=e;clear ee;rw[hke]at hc0 hcb hset;have hc0':wr.cell? ⟨gw,k*2,none⟩=_:=hc0;have hc1':wr.cell? ⟨gw,k*2+1,none⟩=_:=hc1;have hcbp:wr.cell? ⟨gx2,p,none⟩=_:=hcb p hp;have hfzp:wr.frozen? ⟨gx2,p,none⟩=_:=hfz p;obtain⟨q1,q2,hq⟩:∃q1 q2,S.pend[k]=(q1,q2):=⟨_,_,rfl⟩;rw[hq]at hc0' hcbp hnext hset;simp only at hc0' hcbp hnext hset;obtain⟨z2,hz2⟩:∃z,q2.getD p 0=z:=⟨_,rfl⟩;rw[hz2]at hcbp hnext;unfold bv at hcbp;have hX0:=hX;obtain⟨HX,HNX,HGX,HSET⟩:=Hd4 hX hnext hgx hset;have hbx2:=E3 z2 y;clear hX hX0 hnext hset hcb hfz hc0 hc1 hke hq hz2 hgw hgx hne hkl hbx;by_cases hqs:q1=s
   ·subst hqs;obtain⟨L2,hX9⟩:=HSET.out p (z2^^^y);have hX9':RefOwnX (wr.setCell ⟨gx2,p,none⟩ (bv (z2^^^y))).drew w2.heap.size (S.dmgAt q1 p y (k+1)) (.slice (some ⟨gd,0,none⟩) S.dur.length cd') (.slice (some ⟨gw,0,none⟩) S.pend.length cw') D2 L2:=by rw[HNX.out,Ip rfl];exact hX9.drew
    rw[JV]at hX9';obtain⟨w9,hw9⟩:=Xq ((wr.setCell ⟨gx2,p,none⟩ (.int .u8 ((z2.toNat^^^y.toNat:Nat):Int))).drew);have hc9:Chg (fun i=>i=gx2) wr w9:=hw9▸(Chg.setCell (F:=fun i=>i=gx2) wr _ rfl).drew;rw[hw9]at hX9';have hgx:=HGX.out;have hw2s:=HW2.out;have hn91:w9.heap[w.heap.size]?=_:=Ck hc9 HN.out;have hn92:w9.heap[w.heap.size+1]?=_:=Ck hc9 HN2.out;have hb9:Below w.heap.size w w9:=HB.out.trans (hc9.below (fun i e=>by omega) HB.out.size);obtain⟨HN91,HN92,HB9,HX9,HW9⟩:=Hd5 hn91 hn92 hb9 hX9' hw9;clear hn91 hn92 hb9 hX9 hX9' hw9 hc9 hgx hw2s;go_wp2_with fail;go_region;rw[HW9.out];clear x0 x1 x2 x3 x4 xf hc0' hc1' hcbp hfzp;go_wp2_with fail;go_roundw
    case rel=>exact⟨k+1,L2,by omega,by go_num,HN91.out,HN92.out,HX9.out,HB9.out⟩
    case measure=>simp[intOf];omega
   ·have hX9':RefOwnX wr w2.heap.size (S.dmgAt s p y (k+1)) (.slice (some ⟨gd,0,none⟩) S.dur.length cd') (.slice (some ⟨gw,0,none⟩) S.pend.length cw') D2 L:=by rw[HNX.out,In hqs];exact HX.out
    have HX9:=Hd hX9';have hqs':¬(q1:Int)=(s:Int):=by omega
    clear hX9';go_wp2_with fail;go_roundw
    case rel=>exact⟨k+1,L,by omega,by go_num,HN.out,HN2.out,HX9.out,HB.out⟩
    case measure=>simp[intOf];omega
  ·obtain rfl :k=S.pend.length:=by omega
   obtain⟨y0,y1,y2,y3,y4,yf⟩:=Ao HN2.out;have hw2s:=HW2.out;have hfin:=Bp HN2.out (.slice (some ⟨gd,0,none⟩) S.dur.length cd') (.slice aw' S.pend.length cw') (.int .i64 (Au S)) (.bool S.down) (.int .i64 (S.ops:Int));have hcf:=BH wr (w.heap.size+1) (.slice (some ⟨gd,0,none⟩) S.dur.length cd') (.slice aw' S.pend.length cw') (.int .i64 (Au S)) (.bool S.down) (.int .i64 (S.ops:Int));have hXf:=(hX.chg hcf (fun i h e=>by omega)).base (B':=w.heap.size) (by omega);have hbf:=HB.out.trans (hcf.below (fun i e=>by omega) HB.out.size);obtain⟨HXF,HBF,HFIN⟩:=Hd3 hXf hbf hfin;clear hfin hcf hXf hbf hX hw2s;go_wp2_with fail;exact Br (Ay (g:=w.heap.size+1) rfl _ _ _ _ _ _ rfl HFIN.out Tryz.underlying39 rfl CE) rfl ⟨_,rfl,⟨_,_,D2,_,rfl,HXF.out⟩,HBF.out⟩
variable {B:Nat}{dv:Value}
def Fk (c:Nat):Nat:=if c%3=1 then 256 else if c%3=2 then c/3%17*16 else 0
theorem RU (c:Nat):Fk c≤256:=by
 unfold Fk;have:c/3%17<17:=Nat.mod_lt _ (by decide);split
 ·omega
 ·split <;>omega
theorem RV (a b:List UInt8) (ha:a.length=256) (hb:b.length=256) (c:Nat):FK a b c=b.take (Fk c)++a.drop (Fk c):=by
 unfold FK Fk;by_cases h0:c%3=0
 ·have h1:¬c%3=1:=by omega
  have h2:¬c%3=2:=by omega
  simp[h0]
 ·by_cases h1:c%3=1
  ·rw[In h0,Ip h1,Ip h1,List.take_of_length_le (by omega),List.drop_of_length_le (by omega),List.append_nil]
  ·have h2:c%3=2:=by omega
   simp[h2]
def DS.restAt (S:DS) (cs:List UInt8) (k n:Nat):DS:=
 {S with dur:=match S.pend[k]? with
  |some x=>(rdur S cs k).set x.1 (x.2.take n++((rdur S cs k).getD x.1 zeros).drop n)
  |none=>rdur S cs k}
theorem G7 (S:DS) (cs:List UInt8) (k n:Nat):(S.restAt cs k n).dur.length=S.dur.length:=by
 unfold DS.restAt;cases S.pend[k]? with
 |none=>exact AV S cs k
 |some x=>simp[AV]
theorem Gw (h:S.ok) (cs:List UInt8) (k:Nat):(S.restAt cs k 0).dur=rdur S cs k:=by
 unfold DS.restAt;cases hp:S.pend[k]? with
 |none=>rfl
 |some x=>
  have hx:=h.pend x (List.mem_of_getElem? hp);have hl:=AV S cs k;simp only[List.take_zero,List.nil_append,List.drop_zero];have:(rdur S cs k).getD x.1 zeros=(rdur S cs k)[x.1]'(by omega):=by simp[show x.1<(rdur S cs k).length by omega]
  rw[this];exact List.set_getElem_self _
theorem PZ (h:S.ok) (cs:List UInt8) (k:Nat):(S.restAt cs k (Fk (cs.getD k 0).toNat)).dur=rdur S cs (k+1):=by
 unfold DS.restAt
 conv=>rhs;unfold rdur
 cases hp:S.pend[k]? with
 |none=>rfl
 |some x=>
  have hx:=h.pend x (List.mem_of_getElem? hp);have hl:=AV S cs k;have:(rdur S cs k).getD x.1 zeros=(rdur S cs k)[x.1]'(by omega):=by simp[show x.1<(rdur S cs k).length by omega]
  simp only;rw[RV _ _ (by rw[this];exact Ec h cs k _ (List.getElem_mem _)) hx.2]
theorem OU (h:S.ok) (cs:List UInt8) (k n:Nat) {x1:Nat} {x2:List UInt8} (hp:S.pend[k]?=some (x1,x2)) (hn:n<256):
 ∃hx:x1<(S.restAt cs k n).dur.length,{S.restAt cs k n with dur:=(S.restAt cs k n).dur.set x1 ((S.restAt cs k n).dur[x1].set n (x2.getD n 0))}=S.restAt cs k (n+1):=by
 have hx:=h.pend _ (List.mem_of_getElem? hp);have hl:=AV S cs k;refine⟨by rw[G7];exact hx.1,?_⟩;have hx2:x2.length=256:=hx.2;have hbl:((rdur S cs k).getD x1 zeros).length=256:=by
  have:(rdur S cs k).getD x1 zeros=(rdur S cs k)[x1]'(by omega):=by simp[show x1<(rdur S cs k).length by omega]
  rw[this];exact Ec h cs k _ (List.getElem_mem _)
 obtain⟨bf,hbf⟩:=Xq ((rdur S cs k).getD x1 zeros);rw[hbf]at hbl;have e1:∀m,S.restAt cs k m={S with dur:=(rdur S cs k).set x1 (x2.take m++bf.drop m)}:=fun m=>by unfold DS.restAt;rw[hp];simp only[hbf]
 simp only[e1]
 congr 1
 rw[List.set_set]
 congr 1
 rw[List.getElem_set_self];have h1:(x2.take n).length=n:=by simp;omega
 rw[List.set_append_right _ _ (by omega),h1,Nat.sub_self,List.drop_eq_getElem_cons (by omega),List.set_cons_zero,List.take_add_one,List.getElem?_eq_getElem (by omega),List.append_assoc];simp[List.getD,List.getElem?_eq_getElem (show n<x2.length by omega)]
theorem JY (cs:List UInt8) (k n:Nat):(S.restAt cs k n).pend=S.pend:=rfl
theorem RefOwnX.ofDur {S':DS}{wv:Value}{D:List (List UInt8×Value)}{L:List (Nat×List UInt8×Value)} (h:RefOwnX w B S dv wv D L) (hd:S'.dur=S.dur) (hp:S'.pend=S.pend):RefOwnX w B S' dv wv D L:=
 ⟨h.dur.trans hd.symm,h.pend.trans hp.symm,by rw[hd];exact h.rd,by rw[hp];exact h.rw,h.rows⟩
theorem Jg {Gc:Nat→Prop}{cv:Value} (cs:List UInt8) (h:RefAt w G S v) (hcv:BytesAt w Gc cv cs) (hok:S.ok) (hd:S.down=true) (hlen:S.pend.length<100000000) (hcl:cs.length≤9223372036854775807):
 Ca 26 #[v,cv] w fun e w'=>∃v',e=.returned (.tuple #[v',.int .i64 0])∧RefOwn w' w.heap.size (S.restart cs).1 v'∧Below w.heap.size w w':=by
 have HH:=Hd h;have HOK:=Hd hok;have hwr:S.restart cs=({dur:=rdur S cs S.pend.length,pend:=[],ops:=S.ops,limit:=none,down:=false},0):=by simp[DS.restart,hd]
 rw[hwr];obtain⟨ca,ccap,rfl,hccap,hcr⟩:=hcv;obtain⟨dv,wv,rfl,hdu,hw⟩:=h;obtain⟨ad,capd,rfl⟩:=hdu.len;obtain⟨aw,capw,rfl⟩:=hw.len;clear hdu hw hok hwr;unfold A9 at HH⊢;rw[hd]at HH⊢;have hf:=Ea w S (.slice ad S.dur.length capd) (.slice aw S.pend.length capw);rw[hd]at hf;obtain⟨w1,hw1⟩:=Xq ((w.alloc (.cells #[.slice ad S.dur.length capd,.slice aw S.pend.length capw,.int .i64 (Au S),.bool true,.int .i64 (S.ops:Int)] 39)).alloc (.cells #[.slice none 0 0,.slice none 0 0,.int .i64 0,.bool false,.int .i64 0] 39));rw[hw1]at hf;obtain⟨n1,n2,hb⟩:=hf.below Rq;rw[hd]at n1;obtain⟨c0,c1,c2,c3,c4,cf⟩:=Ao n1;obtain⟨HF,HCR,HD⟩:=Hd3 hf hcr hd;clear hf n1 n2 hb hcr hd;go_enter Tryz.func26,Tryz.ntmps26;go_wp2_with fail;have hR1:RefAt w1 G S (A9 S (.slice ad S.dur.length capd) (.slice aw S.pend.length capw)):=by unfold A9;rw[HD.out];exact HH.out.below HF.out.b1
 unfold A9 at hR1;rw[HD.out]at hR1;refine(EL hR1 HOK.out hlen).mono ?_;rintro e w3 ⟨v3,rfl,⟨dv',wv',D,L,rfl,hX3⟩,hb3⟩;obtain⟨⟨ad',cd',rfl⟩,⟨aw',cw',rfl⟩⟩:=hX3.slices;unfold A9;rw[HD.out];have n1:=(HF.out.below hb3).1;have n2:=(HF.out.below hb3).2.1;have hbw3:=(HF.out.below hb3).2.2;rw[HD.out]at n1;clear c0 c1 c2 c3 c4 cf hw1 hR1;obtain⟨c0,c1,c2,c3,c4,cf⟩:=Ao n1;have hs1:=HF.out.s1;have hn5:=Bp n1 (.slice ad' S.dur.length cd') (.slice aw' S.pend.length cw') (.int .i64 (Au S)) (.bool true) (.int .i64 (S.ops:Int));have hc5:=BH w3 w.heap.size (.slice ad' S.dur.length cd') (.slice aw' S.pend.length cw') (.int .i64 (Au S)) (.bool true) (.int .i64 (S.ops:Int));obtain⟨w5,hw5⟩:=Xq (put5 w3 w.heap.size (.slice ad' S.dur.length cd') (.slice aw' S.pend.length cw') (.int .i64 (Au S)) (.bool true) (.int .i64 (S.ops:Int)));rw[hw5]at hn5 hc5;have hn52:w5.heap[w.heap.size+1]?=_:=(hc5.block _ (by have:=hb3.size;omega) (by omega)).trans n2;have hbw5:Below w.heap.size w w5:=hbw3.trans (hc5.below (fun i e=>by omega) hbw3.size);have hX5:RefOwnX w5 w1.heap.size (S.restAt cs 0 0) (.slice ad' S.dur.length cd') (.slice aw' S.pend.length cw') D L:=(hX3.chg hc5 (fun i h e=>by omega)).ofDur (Gw HOK.out cs 0) rfl;obtain⟨HN1,HN2,HB5,HX5,HW1⟩:=Hd5 hn5 hn52 hbw5 hX5 hs1;unfold put5 at hw5;obtain⟨x0,x1,x2,x3,x4,xf⟩:=Ao HN1.out;clear hb3 n1 n2 hbw3 hn5 hn52 hbw5 hX5 hX3 hs1 hc5;go_wp2_with fail;clear hw5 c0 c1 c2 c3 c4 cf x0 x1 x2 x3 x4 xf;go_loopg [6] (S.pend.length) (fun m i wr=>∃(k:Nat) (D:List (List UInt8×Value)),m+k=S.pend.length∧i=.int .i64 k∧wr.heap[w.heap.size]?=some (.cells #[.slice ad' S.dur.length cd',.slice aw' S.pend.length cw',.int .i64 (Au S),.bool true,.int .i64 (S.ops:Int)] 39 (0,0))∧
  wr.heap[w.heap.size+1]?=some (.cells #[.slice none 0 0,.slice none 0 0,.int .i64 0,.bool false,.int .i64 0] 39 (0,0))∧RefOwnX wr w1.heap.size (S.restAt cs k 0) (.slice ad' S.dur.length cd') (.slice aw' S.pend.length cw') D L∧Below w.heap.size w wr)
 case atStart=>exact⟨0,D,rfl,rfl,HN1.out,HN2.out,HX5.out,HB5.out⟩
 case round=>
  clear HN1 HN2 HX5 HB5 D;obtain⟨gk0,rfl⟩:∃gk0,gk0=gk:=⟨_,rfl⟩;obtain⟨k,D,hk,rfl,hn,hn2,hX,hB⟩:=hrel;obtain⟨x0,x1,x2,x3,x4,xf⟩:=Ao hn;obtain⟨HN,HN2,HB,HX,HK⟩:=Hd5 hn hn2 hB hX hk;have hkl:k≤S.pend.length:=by omega
  clear hn hn2 hB hX hk;by_cases hlt:k<S.pend.length
  ·obtain⟨c,hc⟩:∃c:Nat,(cs.getD k 0).toNat=c:=⟨_,rfl⟩;have hcb:c≤255:=by rw[←hc];have:=UInt8.toNat_lt (cs.getD k 0);omega
   have HC:=Hd hc;clear hc;go_upto_if 27 with fail
   go_cut [7]from 17 to 65 (fun cv wx=>cv=.int .i64 c∧wx=wr)
   case first =>
    by_cases hic:k<cs.length
    ·obtain⟨gc,oc,rfl,_,hgc,hcr⟩:=HCR.out (by intro e;rw[e]at hic;simp at hic);have hcc:wr.cell? ⟨gc,oc+k,none⟩=some (.int .u8 c):=by refine(HB.out.cell (p:=⟨gc,oc+k,none⟩) hgc).trans (hcr k _ ?_);have:=HC.out;rw[List.getD_eq_getElem?_getD,List.getElem?_eq_getElem hic,Option.getD_some]at this;rw[AE,List.getElem?_eq_getElem hic,Option.map_some];unfold bv;rw[this]
     clear hcr hgc x0 x1 x2 x3 x4 xf;go_wp2_with fail;go_meet
     case rel=>exact⟨rfl,rfl⟩
    ·have hc0:c=0:=by have:=HC.out;rw[List.getD_eq_getElem?_getD,List.getElem?_eq_none (by omega)]at this;simpa using this.symm
     subst hc0;clear x0 x1 x2 x3 x4 xf;go_wp2_with fail;go_meet
     case rel=>exact⟨rfl,rfl⟩
   case rest=>
    obtain⟨rfl,rfl⟩:=hcut;go_upto_if 35 with fail
    obtain⟨b1,hb1⟩:∃b1:Nat,(if c%3=1 then 256 else 0)=b1:=⟨_,rfl⟩;have HB1:=Hd hb1;clear hb1;go_cut [8]from 17 to 65 (fun bn wx=>bn=.int .i64 b1∧wx=wc)
    case first =>
     clear x0 x1 x2 x3 x4 xf;by_cases h1:c%3=1
     ·have h1':((c:Int)%3==1)=true:=by simp;omega
      have h1'':(c:Int)%3=1:=by omega
      have H1:=Hd h1;clear h1;go_wp2_with fail;go_meet
      case rel=>exact⟨by rw[←HB1.out,Ip H1.out];rfl,rfl⟩
     ·have h1':((c:Int)%3==1)=false:=by simp;omega
      have h1'':¬(c:Int)%3=1:=by omega
      have H1:=Hd h1;clear h1;go_wp2_with fail;go_meet
      case rel=>exact⟨by rw[←HB1.out,In H1.out];rfl,rfl⟩
    case rest=>
     obtain⟨rfl,rfl⟩:=hcut;go_upto_if 38 with fail
     go_cut [8]from 17 to 65 (fun bn wx=>bn=.int .i64 (Fk c:Int)∧wx=wc)
     case first =>
      clear x0 x1 x2 x3 x4 xf;by_cases h1:c%3=2
      ·have h1':((c:Int)%3==2)=true:=by simp;omega
       have h1'':(c:Int)%3=2:=by omega
       have hnb:Fk c=c/3%17*16:=by unfold Fk;rw[In (by omega),Ip h1]
       have HNB:=Hd hnb;clear h1 hnb;go_wp2_with fail;go_meet
       case rel=>exact⟨by rw[HNB.out];go_num,rfl⟩
      ·have h1':((c:Int)%3==2)=false:=by simp;omega
       have h1'':¬(c:Int)%3=2:=by omega
       have hnb:Fk c=b1:=by rw[←HB1.out];unfold Fk;rw[In h1]
       have HNB:=Hd hnb;clear h1 hnb;go_wp2_with fail;go_meet
       case rel=>exact⟨by rw[HNB.out],rfl⟩
     case rest=>
      obtain⟨rfl,rfl⟩:=hcut;obtain⟨nb,hnb⟩:=Xq (Fk c);have hnbl:nb≤256:=by rw[←hnb];exact RU c
      rw[hnb];obtain⟨gw,cw2,g2,cx2,e,hLk,hr0,hr1⟩:=HX.out.formL k (by rw[JY];exact hlt);simp only[JY,Value.slice.injEq]at e hLk hr0;obtain⟨rfl,ee,rfl⟩:=e;clear ee;obtain⟨q1,q2,hq⟩:∃q1 q2,S.pend[k]=(q1,q2):=⟨_,_,rfl⟩;rw[hq]at hLk hr0;simp only at hLk hr0;obtain⟨HNB,HLK,HQ⟩:=Hd3 hnb hLk hq;have hwlt:w.heap.size+1<wc.heap.size:=(Ax HN2.out).1;have HWL:=Hd hwlt;obtain⟨wb,hwb⟩:=Xq (wc.alloc (.cells #[.int .i64 q1,.slice (some ⟨g2,0,none⟩) 256 cx2] 84));clear hnb hLk hq hwlt;have hwb1:wb.heap[wc.heap.size]?=some (.cells #[.int .i64 q1,.slice (some ⟨g2,0,none⟩) 256 cx2] 84 (0,0)):=by rw[←hwb];exact heap_alloc_new wc _
      have hbb:Below wc.heap.size wc wb:=hwb▸(Below.refl _ wc).alloc Lr _;have hbn:wb.heap[w.heap.size]?=_:=(hbb.block _ (by have:=HWL.out;omega)).trans HN.out;have hbn2:wb.heap[w.heap.size+1]?=_:=(hbb.block _ HWL.out).trans HN2.out;have hbX:=HX.out.chg (G:=fun _=>False) (Cb hbb) (fun _ _ h=>h);have hbB:=Tq HB.out hbb;obtain⟨HBN,HBN2,HBX,HBB,HWB1,HWBB⟩:=Hd6 hbn hbn2 hbX hbB hwb1 hbb;clear hwb1 hbn hbn2 hbX hbB hbb;go_wp2_with fail;clear hwb x0 x1 x2 x3 x4 xf hr0 hr1;have hwm:w.heap.size+2≤w1.heap.size:=by have:=HW1.out;omega
      have HWM:=Hd hwm;clear hwm;go_loopg [10] (nb) (fun m i wi=>∃(n:Nat) (D:List (List UInt8×Value)),m+n=nb∧i=.int .i64 n∧wi.heap[w.heap.size]?=some (.cells #[.slice ad' S.dur.length cd',.slice (some ⟨gw,0,none⟩) S.pend.length cw',.int .i64 (Au S),.bool true,.int .i64 (S.ops:Int)] 39 (0,0))∧
       wi.heap[w.heap.size+1]?=some (.cells #[.slice none 0 0,.slice none 0 0,.int .i64 0,.bool false,.int .i64 0] 39 (0,0))∧wi.heap[wc.heap.size]?=some (.cells #[.int .i64 q1,.slice (some ⟨g2,0,none⟩) 256 cx2] 84 (0,0))∧
       RefOwnX wi w1.heap.size (S.restAt cs k n) (.slice ad' S.dur.length cd') (.slice (some ⟨gw,0,none⟩) S.pend.length cw') D L∧Below w.heap.size w wi)
      case atStart=>exact⟨0,D,rfl,rfl,HBN.out,HBN2.out,HWB1.out,HBX.out,HBB.out⟩
      case round=>
       clear HBN HBN2 HWB1 HBX HBB HN HN2 HB HX HWBB D;obtain⟨n,D,hk2,rfl,hn,hn2,hnw,hX,hB⟩:=hrel;obtain⟨HN,HN2,HNW,HB,HX,HK2⟩:=Hd6 hn hn2 hnw hB hX hk2;have hnl:n≤nb:=by omega
       clear hn2 hB hX hk2;by_cases hltn:n<nb
       ·obtain⟨hq1,hnext⟩:=OU HOK.out cs k n (x1:=q1) (x2:=q2) (by rw[List.getElem?_eq_getElem hlt,HQ.out]) (by omega);obtain⟨gd,cd2,gx,cx,e,hgd,hgx,hgxl,hcr,hcb,hfz,⟨cur,hcur⟩,hset⟩:=HX.out.atD q1 hq1;simp only[Value.slice.injEq,G7]at e;obtain⟨rfl,ee,rfl⟩:=e;clear ee;have hsrc:=HX.out.bytesL HLK.out n (by omega);obtain⟨z,hz⟩:=Xq (q2.getD n 0);rw[hz]at hsrc hnext;unfold bv at hsrc;have hdst:∃u,wr.cell? ⟨gx,n,none⟩=some u:=⟨_,hcb n (by omega)⟩;obtain⟨du,hdst⟩:=hdst;have hdf:=hfz n;have hq1':(q1:Int)<(S.dur.length:Int):=by rw[G7]at hq1;omega
        have hdm:S.dur.length≤4096:=HOK.out.most;obtain⟨b0,b1,b2,b3,b4,bf⟩:=Ao hn;have hnw0:wr.cell? ⟨wc.heap.size,0,none⟩=some (.int .i64 q1):=by simp[World.cell?,hnw]
        have hnw1:wr.cell? ⟨wc.heap.size,1,none⟩=some (.slice (some ⟨g2,0,none⟩) 256 cx2):=by simp[World.cell?,hnw]
        have hgw:gx≠wc.heap.size:=fun e=>by rw[e,hnw]at hcur;simp at hcur
        obtain⟨D2,hX6⟩:=hset n z;rw[hnext]at hX6;have hX6':=hX6.drew;unfold bv at hX6';obtain⟨w6,hw6⟩:=Xq ((wr.setCell ⟨gx,n,none⟩ (.int .u8 (z.toNat:Int))).drew);have hc6:Chg (fun i=>i=gx) wr w6:=hw6▸(Chg.setCell (F:=fun i=>i=gx) wr _ rfl).drew;rw[hw6]at hX6';have hwm:=HWM.out;have hn61:w6.heap[w.heap.size]?=_:=Ck hc6 hn;have hn62:w6.heap[w.heap.size+1]?=_:=Ck hc6 HN2.out;have hn63:w6.heap[wc.heap.size]?=_:=(hc6.block _ (Ax hnw).1 (Ne.symm hgw)).trans hnw;have hb6:Below w.heap.size w w6:=HB.out.trans (hc6.below (fun i e=>by omega) HB.out.size);obtain⟨HN61,HN62,HN63,HB6,HX6,HW6⟩:=Hd6 hn61 hn62 hn63 hb6 hX6' hw6;clear hn61 hn62 hn63 hb6 hX6 hX6' hw6 hc6 hwm hset hcb hfz hz hcur hnext hq1 hgd hgx hgxl hgw hn hnw;go_wp2_with fail;go_region;rw[HW6.out];clear b0 b1 b2 b3 b4 bf hnw0 hnw1 hdst hdf hsrc hcr;go_wp2_with fail;go_roundg (gk-1)
        case measure=>have:=HK2.out;omega
        case rel=>exact⟨n+1,D2,by have:=HK2.out;omega,by go_num,HN61.out,HN62.out,HN63.out,HX6.out,HB6.out⟩
       ·obtain rfl :n=nb:=by omega
        have hX7:RefOwnX wr w1.heap.size (S.restAt cs (k+1) 0) (.slice ad' S.dur.length cd') (.slice (some ⟨gw,0,none⟩) S.pend.length cw') D L:=by refine HX.out.ofDur ?_ rfl;have h9:=PZ HOK.out cs k;rw[HC.out,HNB.out]at h9;rw[h9];exact Gw HOK.out cs (k+1)
        have HX7:=Hd hX7;clear hX7 hn hnw;go_wp2_with fail;go_roundg (gk0-1)
        case measure=>have:=HK.out;omega
        case rel=>exact⟨k+1,D,by have:=HK.out;omega,by go_num,HN.out,HN2.out,HX7.out,HB.out⟩
  ·obtain rfl :k=S.pend.length:=by omega
   have hs1:=HW1.out;have hX6:RefOwnX wr w1.heap.size {dur:=rdur S cs S.pend.length,pend:=[],ops:=S.ops,limit:=none,down:=false} (.slice ad' S.dur.length cd') (.slice none 0 0) D []:=
    HX.out.noPend.ofDur (by exact(Gw HOK.out cs S.pend.length).symm) rfl
   obtain⟨wx,hwx⟩:=Xq (((wr.setCell ⟨w.heap.size,1,none⟩ (.slice none 0 0)).setCell ⟨w.heap.size,3,none⟩ (.bool false)).setCell ⟨w.heap.size,2,none⟩ (.int .i64 (-1)));have hnx:wx.heap[w.heap.size]?=some (.cells #[.slice ad' S.dur.length cd',.slice none 0 0,.int .i64 (-1),.bool false,.int .i64 (S.ops:Int)] 39 (0,0)):=by rw[←hwx,Sc _ _ _ _ _ _ (Sc _ _ _ _ _ _ (Sc _ _ _ _ _ _ HN.out))];rfl
   have s9:=fun(x:World) (k:Nat) (v:Value)=>Chg.setCell (F:=fun i=>i=w.heap.size∨i=w.heap.size+1) x (a:=⟨w.heap.size,k,none⟩) v (.inl rfl)
   have hcx:Chg (fun i=>i=w.heap.size∨i=w.heap.size+1) wr wx:=hwx▸((s9 wr _ _).trans (s9 _ _ _) (fun _ h=>.inl h)).trans (s9 _ _ _) (fun _ h=>.inl h);have hnx2:wx.heap[w.heap.size+1]?=some (.cells #[.slice none 0 0,.slice none 0 0,.int .i64 0,.bool false,.int .i64 0] 39 (0,0)):=by rw[←hwx];exact(heap_setCell_other _ ⟨w.heap.size,2,none⟩ _ _ (by show w.heap.size+1≠w.heap.size;omega)).trans ((heap_setCell_other _ ⟨w.heap.size,3,none⟩ _ _ (by show w.heap.size+1≠w.heap.size;omega)).trans ((heap_setCell_other _ ⟨w.heap.size,1,none⟩ _ _ (by show w.heap.size+1≠w.heap.size;omega)).trans HN2.out))
   have hfin:=Bp hnx2 (.slice ad' S.dur.length cd') (.slice none 0 0) (.int .i64 (-1)) (.bool false) (.int .i64 (S.ops:Int));have hcf:=hcx.trans (BH wx (w.heap.size+1) (.slice ad' S.dur.length cd') (.slice none 0 0) (.int .i64 (-1)) (.bool false) (.int .i64 (S.ops:Int))) (fun _ h=>.inl (.inr h));have hXf:=(hX6.chg hcf (fun i h e=>by omega)).base (B':=w.heap.size) (by omega);have hbf:=HB.out.trans (hcf.below (fun i e=>by omega) HB.out.size);obtain⟨z0,z1,z2,z3,z4,zf⟩:=Ao hnx;obtain⟨y0,y1,y2,y3,y4,yf⟩:=Ao hnx2;obtain⟨HXF,HBF,HFIN⟩:=Hd3 hXf hbf hfin;clear hcf hcx hnx hnx2 hfin hXf hbf hs1 hX6 s9;go_wp2_with fail;exact Br (Ay (g:=w.heap.size+1) rfl _ _ _ _ _ _ rfl HFIN.out Tryz.underlying39 rfl CE) rfl ⟨_,rfl,⟨_,_,D,_,rfl,HXF.out⟩,HBF.out⟩
variable {w':World}
theorem Ko (h:RefAt w G S v) (hdn:S.down=true):
 Ca 66 #[v] w fun e w'=>e=.returned (.tuple #[v,.int .i64 28])∧Below w.heap.size w w':=by
 have HH:=Hd h;obtain⟨dv,wv,rfl,hd,hw⟩:=h;obtain⟨ad,capd,rfl⟩:=hd.len;obtain⟨aw,capw,rfl⟩:=hw.len;clear hd hw;unfold A9 at HH⊢;have hf:=Ea w S (.slice ad S.dur.length capd) (.slice aw S.pend.length capw);obtain⟨w1,hw1⟩:=Xq ((w.alloc (.cells #[.slice ad S.dur.length capd,.slice aw S.pend.length capw,.int .i64 (Au S),.bool S.down,.int .i64 (S.ops:Int)] 39)).alloc (.cells #[.slice none 0 0,.slice none 0 0,.int .i64 0,.bool false,.int .i64 0] 39));rw[hw1]at hf;obtain⟨n1,n2,hb⟩:=hf.below Rq;obtain⟨c0,c1,c2,c3,c4,cf⟩:=Ao n1;obtain⟨d0,d1,d2,d3,d4,df⟩:=Ao n2;have HF:=Hd hf;have hfin:∀wx,Below w1.heap.size w1 wx→(put5 wx (w.heap.size+1) (.slice ad S.dur.length capd) (.slice aw S.pend.length capw) (.int .i64 (Au S)) (.bool S.down) (.int .i64 (S.ops:Int))).heap[w.heap.size+1]?=
  some (.cells #[.slice ad S.dur.length capd,.slice aw S.pend.length capw,.int .i64 (Au S),.bool S.down,.int .i64 (S.ops:Int)] 39 (0,0))∧
  Below w.heap.size w (put5 wx (w.heap.size+1) (.slice ad S.dur.length capd) (.slice aw S.pend.length capw) (.int .i64 (Au S)) (.bool S.down) (.int .i64 (S.ops:Int))):=fun wx hbx=>
  ⟨Bp (hf.below hbx).2.1 _ _ _ _ _,(hf.below hbx).2.2.trans ((BH wx (w.heap.size+1) _ _ _ _ _).below (fun k h=>by omega) (hf.below hbx).2.2.size)⟩
 have HFIN:=Hd hfin;clear hf n1 n2 hfin hb;rw[hdn]at hw1 c3 HH⊢;have hfin:=HFIN.out w1 Rq;rw[hdn]at hfin;clear HH HFIN hdn;go_enter Tryz.func66,Tryz.ntmps66;go_wp2_with fail;exact Br (Ay (g:=w.heap.size+1) rfl _ _ _ _ _ _ rfl hfin.1 Tryz.underlying39 rfl CE) rfl ⟨rfl,hfin.2⟩
theorem Kp (ca:Option Addr) (cl cc:Nat) (h:RefAt w G S v) (hdn:S.down=false):
 Ca 26 #[v,.slice ca cl cc] w fun e w'=>e=.returned (.tuple #[v,.int .i64 10])∧Below w.heap.size w w':=by
 have HH:=Hd h;obtain⟨dv,wv,rfl,hd,hw⟩:=h;obtain⟨ad,capd,rfl⟩:=hd.len;obtain⟨aw,capw,rfl⟩:=hw.len;clear hd hw;unfold A9 at HH⊢;have hf:=Ea w S (.slice ad S.dur.length capd) (.slice aw S.pend.length capw);obtain⟨w1,hw1⟩:=Xq ((w.alloc (.cells #[.slice ad S.dur.length capd,.slice aw S.pend.length capw,.int .i64 (Au S),.bool S.down,.int .i64 (S.ops:Int)] 39)).alloc (.cells #[.slice none 0 0,.slice none 0 0,.int .i64 0,.bool false,.int .i64 0] 39));rw[hw1]at hf;obtain⟨n1,n2,hb⟩:=hf.below Rq;obtain⟨c0,c1,c2,c3,c4,cf⟩:=Ao n1;obtain⟨d0,d1,d2,d3,d4,df⟩:=Ao n2;have HF:=Hd hf;have hfin:∀wx,Below w1.heap.size w1 wx→(put5 wx (w.heap.size+1) (.slice ad S.dur.length capd) (.slice aw S.pend.length capw) (.int .i64 (Au S)) (.bool S.down) (.int .i64 (S.ops:Int))).heap[w.heap.size+1]?=
  some (.cells #[.slice ad S.dur.length capd,.slice aw S.pend.length capw,.int .i64 (Au S),.bool S.down,.int .i64 (S.ops:Int)] 39 (0,0))∧
  Below w.heap.size w (put5 wx (w.heap.size+1) (.slice ad S.dur.length capd) (.slice aw S.pend.length capw) (.int .i64 (Au S)) (.bool S.down) (.int .i64 (S.ops:Int))):=fun wx hbx=>
  ⟨Bp (hf.below hbx).2.1 _ _ _ _ _,(hf.below hbx).2.2.trans ((BH wx (w.heap.size+1) _ _ _ _ _).below (fun k h=>by omega) (hf.below hbx).2.2.size)⟩
 have HFIN:=Hd hfin;clear hf n1 n2 hfin hb;rw[hdn]at hw1 c3 HH⊢;have hfin:=HFIN.out w1 Rq;rw[hdn]at hfin;clear HH HFIN hdn;go_enter Tryz.func26,Tryz.ntmps26;go_wp2_with fail;exact Br (Ay (g:=w.heap.size+1) rfl _ _ _ _ _ _ rfl hfin.1 Tryz.underlying39 rfl CE) rfl ⟨rfl,hfin.2⟩
theorem Ll (s p:Int) (y:UInt8) (h:RefAt w G S v) (hh:S.has s=false):
 Ca 11 #[v,.int .i64 s,.int .i64 p,bv y] w fun e w'=>e=.returned (.tuple #[v,.int .i64 8])∧Below w.heap.size w w':=by
 have HH:=Hd h;obtain⟨dv,wv,rfl,hd,hw⟩:=h;obtain⟨ad,capd,rfl⟩:=hd.len;obtain⟨aw,capw,rfl⟩:=hw.len;clear hd hw;unfold A9 at HH⊢;have hf:=Ea w S (.slice ad S.dur.length capd) (.slice aw S.pend.length capw);obtain⟨w1,hw1⟩:=Xq ((w.alloc (.cells #[.slice ad S.dur.length capd,.slice aw S.pend.length capw,.int .i64 (Au S),.bool S.down,.int .i64 (S.ops:Int)] 39)).alloc (.cells #[.slice none 0 0,.slice none 0 0,.int .i64 0,.bool false,.int .i64 0] 39));rw[hw1]at hf;obtain⟨n1,n2,hb⟩:=hf.below Rq;obtain⟨c0,c1,c2,c3,c4,cf⟩:=Ao n1;obtain⟨d0,d1,d2,d3,d4,df⟩:=Ao n2;have HF:=Hd hf;have hfin:∀wx,Below w1.heap.size w1 wx→(put5 wx (w.heap.size+1) (.slice ad S.dur.length capd) (.slice aw S.pend.length capw) (.int .i64 (Au S)) (.bool S.down) (.int .i64 (S.ops:Int))).heap[w.heap.size+1]?=
  some (.cells #[.slice ad S.dur.length capd,.slice aw S.pend.length capw,.int .i64 (Au S),.bool S.down,.int .i64 (S.ops:Int)] 39 (0,0))∧
  Below w.heap.size w (put5 wx (w.heap.size+1) (.slice ad S.dur.length capd) (.slice aw S.pend.length capw) (.int .i64 (Au S)) (.bool S.down) (.int .i64 (S.ops:Int))):=fun wx hbx=>
  ⟨Bp (hf.below hbx).2.1 _ _ _ _ _,(hf.below hbx).2.2.trans ((BH wx (w.heap.size+1) _ _ _ _ _).below (fun k h=>by omega) (hf.below hbx).2.2.size)⟩
 have HFIN:=Hd hfin;clear hf n1 n2 hfin hb;have HHAS:=Hd hh;clear hh;unfold bv;go_enter Tryz.func11,Tryz.ntmps11;go_wp2_with fail;have hcc:=fun wx (hb:Below w1.heap.size w1 wx)=>Ao (HF.out.below hb).1
 have hdd:=fun wx (hb:Below w1.heap.size w1 wx)=>Ao (HF.out.below hb).2.1
 have HCC:=Hd hcc;have HDD:=Hd hdd;clear hcc hdd c0 c1 c2 c3 c4 cf d0 d1 d2 d3 d4 df;refine(Fc s (HH.out.below HF.out.b1)).mono ?_;rw[HHAS.out];rintro e w2 ⟨rfl,hb2⟩;obtain⟨c0,c1,c2,c3,c4,cf⟩:=HCC.out w2 hb2;obtain⟨d0,d1,d2,d3,d4,df⟩:=HDD.out w2 hb2;have hfin:=HFIN.out w2 hb2;clear HFIN hb2 HCC HDD HH;go_wp2_with fail;exact Br (Ay (g:=w.heap.size+1) rfl _ _ _ _ _ _ rfl hfin.1 Tryz.underlying39 rfl CE) rfl ⟨rfl,hfin.2⟩
theorem Ks (s p:Int) (y:UInt8) (h:RefAt w G S v) (hh:S.has s=true) (hp:p<0):
 Ca 11 #[v,.int .i64 s,.int .i64 p,bv y] w fun e w'=>e=.returned (.tuple #[v,.int .i64 2])∧Below w.heap.size w w':=by
 have HH:=Hd h;obtain⟨dv,wv,rfl,hd,hw⟩:=h;obtain⟨ad,capd,rfl⟩:=hd.len;obtain⟨aw,capw,rfl⟩:=hw.len;clear hd hw;unfold A9 at HH⊢;have hf:=Ea w S (.slice ad S.dur.length capd) (.slice aw S.pend.length capw);obtain⟨w1,hw1⟩:=Xq ((w.alloc (.cells #[.slice ad S.dur.length capd,.slice aw S.pend.length capw,.int .i64 (Au S),.bool S.down,.int .i64 (S.ops:Int)] 39)).alloc (.cells #[.slice none 0 0,.slice none 0 0,.int .i64 0,.bool false,.int .i64 0] 39));rw[hw1]at hf;obtain⟨n1,n2,hb⟩:=hf.below Rq;obtain⟨c0,c1,c2,c3,c4,cf⟩:=Ao n1;obtain⟨d0,d1,d2,d3,d4,df⟩:=Ao n2;have HF:=Hd hf;have hfin:∀wx,Below w1.heap.size w1 wx→(put5 wx (w.heap.size+1) (.slice ad S.dur.length capd) (.slice aw S.pend.length capw) (.int .i64 (Au S)) (.bool S.down) (.int .i64 (S.ops:Int))).heap[w.heap.size+1]?=
  some (.cells #[.slice ad S.dur.length capd,.slice aw S.pend.length capw,.int .i64 (Au S),.bool S.down,.int .i64 (S.ops:Int)] 39 (0,0))∧
  Below w.heap.size w (put5 wx (w.heap.size+1) (.slice ad S.dur.length capd) (.slice aw S.pend.length capw) (.int .i64 (Au S)) (.bool S.down) (.int .i64 (S.ops:Int))):=fun wx hbx=>
  ⟨Bp (hf.below hbx).2.1 _ _ _ _ _,(hf.below hbx).2.2.trans ((BH wx (w.heap.size+1) _ _ _ _ _).below (fun k h=>by omega) (hf.below hbx).2.2.size)⟩
 have HFIN:=Hd hfin;clear hf n1 n2 hfin hb;have HHAS:=Hd hh;clear hh;unfold bv;have hpd:decide (p<0)=true:=by simpa using hp
 go_enter Tryz.func11,Tryz.ntmps11;go_wp2_with fail;have hcc:=fun wx (hb:Below w1.heap.size w1 wx)=>Ao (HF.out.below hb).1
 have hdd:=fun wx (hb:Below w1.heap.size w1 wx)=>Ao (HF.out.below hb).2.1
 have HCC:=Hd hcc;have HDD:=Hd hdd;clear hcc hdd c0 c1 c2 c3 c4 cf d0 d1 d2 d3 d4 df;refine(Fc s (HH.out.below HF.out.b1)).mono ?_;rw[HHAS.out];rintro e w2 ⟨rfl,hb2⟩;obtain⟨c0,c1,c2,c3,c4,cf⟩:=HCC.out w2 hb2;obtain⟨d0,d1,d2,d3,d4,df⟩:=HDD.out w2 hb2;have hfin:=HFIN.out w2 hb2;clear HFIN hb2 HCC HDD HH;go_wp2_with fail;exact Br (Ay (g:=w.heap.size+1) rfl _ _ _ _ _ _ rfl hfin.1 Tryz.underlying39 rfl CE) rfl ⟨rfl,hfin.2⟩
theorem Kt (s p:Int) (y:UInt8) (h:RefAt w G S v) (hh:S.has s=true) (hp:256≤p):
 Ca 11 #[v,.int .i64 s,.int .i64 p,bv y] w fun e w'=>e=.returned (.tuple #[v,.int .i64 2])∧Below w.heap.size w w':=by
 have HH:=Hd h;obtain⟨dv,wv,rfl,hd,hw⟩:=h;obtain⟨ad,capd,rfl⟩:=hd.len;obtain⟨aw,capw,rfl⟩:=hw.len;clear hd hw;unfold A9 at HH⊢;have hf:=Ea w S (.slice ad S.dur.length capd) (.slice aw S.pend.length capw);obtain⟨w1,hw1⟩:=Xq ((w.alloc (.cells #[.slice ad S.dur.length capd,.slice aw S.pend.length capw,.int .i64 (Au S),.bool S.down,.int .i64 (S.ops:Int)] 39)).alloc (.cells #[.slice none 0 0,.slice none 0 0,.int .i64 0,.bool false,.int .i64 0] 39));rw[hw1]at hf;obtain⟨n1,n2,hb⟩:=hf.below Rq;obtain⟨c0,c1,c2,c3,c4,cf⟩:=Ao n1;obtain⟨d0,d1,d2,d3,d4,df⟩:=Ao n2;have HF:=Hd hf;have hfin:∀wx,Below w1.heap.size w1 wx→(put5 wx (w.heap.size+1) (.slice ad S.dur.length capd) (.slice aw S.pend.length capw) (.int .i64 (Au S)) (.bool S.down) (.int .i64 (S.ops:Int))).heap[w.heap.size+1]?=
  some (.cells #[.slice ad S.dur.length capd,.slice aw S.pend.length capw,.int .i64 (Au S),.bool S.down,.int .i64 (S.ops:Int)] 39 (0,0))∧
  Below w.heap.size w (put5 wx (w.heap.size+1) (.slice ad S.dur.length capd) (.slice aw S.pend.length capw) (.int .i64 (Au S)) (.bool S.down) (.int .i64 (S.ops:Int))):=fun wx hbx=>
  ⟨Bp (hf.below hbx).2.1 _ _ _ _ _,(hf.below hbx).2.2.trans ((BH wx (w.heap.size+1) _ _ _ _ _).below (fun k h=>by omega) (hf.below hbx).2.2.size)⟩
 have HFIN:=Hd hfin;clear hf n1 n2 hfin hb;have HHAS:=Hd hh;clear hh;unfold bv;have hpn:¬p<0:=by omega
 have hpd:decide (p<0)=false:=by simp;omega
 have hpd2:decide (256≤p)=true:=by simpa using hp
 go_enter Tryz.func11,Tryz.ntmps11;go_wp2_with fail;have hcc:=fun wx (hb:Below w1.heap.size w1 wx)=>Ao (HF.out.below hb).1
 have hdd:=fun wx (hb:Below w1.heap.size w1 wx)=>Ao (HF.out.below hb).2.1
 have HCC:=Hd hcc;have HDD:=Hd hdd;clear hcc hdd c0 c1 c2 c3 c4 cf d0 d1 d2 d3 d4 df;refine(Fc s (HH.out.below HF.out.b1)).mono ?_;rw[HHAS.out];rintro e w2 ⟨rfl,hb2⟩;obtain⟨c0,c1,c2,c3,c4,cf⟩:=HCC.out w2 hb2;obtain⟨d0,d1,d2,d3,d4,df⟩:=HDD.out w2 hb2;have hfin:=HFIN.out w2 hb2;clear HFIN hb2 HCC HDD HH;go_wp2_with fail;exact Br (Ay (g:=w.heap.size+1) rfl _ _ _ _ _ _ rfl hfin.1 Tryz.underlying39 rfl CE) rfl ⟨rfl,hfin.2⟩
def DT (w:World) (G:Nat→Prop) (S':DS) (code:Int) (e:Ending) (w':World):Prop:=
 ∃v',e=.returned (.tuple #[v',.int .i64 code])∧RefAt w' (fun k=>G k∨w.heap.size≤k) S' v'∧Below w.heap.size w w'
section
variable {w:World} {G:Nat→Prop} {S:DS} {v:Value}
theorem Dc {e:Ending}{code:Int} (h:RefAt w G S v) (he:e=.returned (.tuple #[v,.int .i64 code])∧Below w.heap.size w w'):DT w G S code e w':=
 ⟨v,he.1,(h.below he.2).mono (fun _ h=>.inl h),he.2⟩
theorem Du {e:Ending}{code:Int}{S':DS} (he:∃v',e=.returned (.tuple #[v',.int .i64 code])∧RefOwn w' w.heap.size S' v'∧Below w.heap.size w w'):DT w G S' code e w':=by obtain⟨v',h1,h2,h3⟩:=he;exact⟨v',h1,h2.at.mono (fun _ h=>.inr h),h3⟩
theorem P5 (h:RefAt w G S v) (hok:S.ok) (hlen:S.pend.length<100000000) (hops:S.ops<1000000000000) (hlim:S.limit.getD 0≤9223372036854775807):
 Ca 66 #[v] w (DT w G S.flush.1 S.flush.2):=by
 cases hd:S.down with
 |true=>
  have e:S.flush=(S,28):=by simp[DS.flush,hd]
  rw[e];exact(Ko h hd).mono fun e w' he=>Dc h he
 |false=>
  cases hop:S.operate.2 with
  |false=>exact(Lk h hok hd hop hlen hops hlim).mono fun e w' he=>Du (by
   have e9:S.flush.2=28:=by simp[DS.flush,hd,hop]
   exact he)
  |true=>exact(Mw h hok hd hop hlen hops hlim).mono fun e w' he=>Du he
theorem Nj {Gc:Nat→Prop}{cv:Value} (cs:List UInt8) (h:RefAt w G S v) (hcv:BytesAt w Gc cv cs) (hok:S.ok) (hlen:S.pend.length<100000000) (hcl:cs.length≤9223372036854775807):
 Ca 26 #[v,cv] w (DT w G (S.restart cs).1 (S.restart cs).2):=by
 cases hd:S.down with
 |true=>
  have e:(S.restart cs).2=0:=by simp[DS.restart,hd]
  rw[e];exact(Jg cs h hcv hok hd hlen hcl).mono fun e w' he=>Du he
 |false=>
  have e:S.restart cs=(S,10):=by simp[DS.restart,hd]
  rw[e];obtain⟨ca,cc,rfl,_⟩:=hcv;exact(Kp ca cs.length cc h hd).mono fun e w' he=>Dc h he
theorem OV (s p:Int) (y:UInt8) (h:RefAt w G S v) (hok:S.ok) (hlen:S.pend.length<100000000):
 Ca 11 #[v,.int .i64 s,.int .i64 p,.int .u8 (y.toNat:Int)] w (DT w G (S.damage s p y).1 (S.damage s p y).2):=by
 cases hh:S.has s with
 |false=>
  have e:S.damage s p y=(S,8):=by simp[DS.damage,hh]
  rw[e];exact(Ll s p y h hh).mono fun e w' he=>Dc h he
 |true=>
  by_cases h1:p<0
  ·have e:S.damage s p y=(S,2):=by
    have:¬(0≤p∧p<256):=by omega
    simp[DS.damage,hh,this]
   rw[e];exact(Ks s p y h hh h1).mono fun e w' he=>Dc h he
  ·by_cases h2:256≤p
   ·have e:S.damage s p y=(S,2):=by
     have:¬(0≤p∧p<256):=by omega
     simp[DS.damage,hh,this]
    rw[e];exact(Kt s p y h hh h2).mono fun e w' he=>Dc h he
   ·have hs:0≤s∧s<(S.dur.length:Int):=by simpa[DS.has]using hh
    obtain⟨s',rfl⟩:=Int.eq_ofNat_of_zero_le hs.1;obtain⟨p',rfl⟩:=Int.eq_ofNat_of_zero_le (show 0≤p by omega);rw[PY S s' p' (by omega) (by omega) y];exact(JX s' p' y h hok (by omega) (by omega) hlen).mono fun e w' he=>Du he
theorem P6 {Gb:Nat→Prop}{bv':Value} (s:Int) (l:List UInt8) (h:RefAt w G S v) (hbv:BytesAt w Gb bv' l) (hok:S.ok) (hlen:S.pend.length<100000000) (hops:S.ops<1000000000000) (hlim:S.limit.getD 0≤9223372036854775807):
 Ca 82 #[v,.int .i64 s,bv'] w (DT w G (S.write s l).1 (S.write s l).2):=by
 have hbad:(S.down=true∨(S.down=false∧S.has s=false)∨(S.down=false∧S.has s=true∧l.length≠256))→Ca 82 #[v,.int .i64 s,bv'] w (DT w G (S.write s l).1 (S.write s l).2):=fun hb=>by
  obtain⟨a,c,rfl,_⟩:=hbv;have e:S.write s l=(S,S.badE s):=by
   rcases hb with h1| ⟨h1,h2⟩| ⟨h1,h2,h3⟩
   ·simp[DS.write,DS.badE,h1]
   ·simp[DS.write,DS.badE,h1,h2]
   ·simp[DS.write,DS.badE,h1,h2,h3]
  rw[e];exact(Lh s a l.length c h hb).mono fun e w' he=>Dc h he
 cases hd:S.down with
 |true=>exact hbad (.inl hd)
 |false=>
  cases hh:S.has s with
  |false=>exact hbad (.inr (.inl ⟨hd,hh⟩))
  |true=>
   by_cases hl:l.length=256
   ·have hs:0≤s∧s<(S.dur.length:Int):=by simpa[DS.has]using hh
    obtain⟨s',rfl⟩:=Int.eq_ofNat_of_zero_le hs.1;cases hop:S.operate.2 with
    |false=>exact(Li s' bv' l h hbv hl hok hd (by omega) hop hlen hops hlim).mono fun e w' he=>Du he
    |true=>exact(Mt s' bv' l h hbv hl hok hd (by omega) hop hlen hops hlim).mono fun e w' he=>Du he
   ·exact hbad (.inr (.inr ⟨hd,hh,hl⟩))
end
end Go.Proofs.YtplclpileejemaaGreatDoor
namespace Go.Proofs.YtplclpileejemaaGreatDoor
open Go.RowKit
variable {w:World}{S:DS}{dv v:Value}{l:List UInt8}{G:Nat→Prop}
theorem My (l:List UInt8) (i:Nat):Ae (l.take i)≤Ae l:=by
 have h:∀(m:List UInt8) (a:Nat),a≤m.foldl (fun n b=>n*256+b.toNat) a:=by
  intro m
  induction m with
  |nil=>intro a;exact Nat.le_refl _
  |cons b m ih=>intro a;exact Nt (by omega) (ih (a*256+b.toNat))
 have h1:Ae l=(l.drop i).foldl (fun n b=>n*256+b.toNat) (Ae (l.take i)):=by unfold Ae;rw[←List.foldl_append,List.take_append_drop]
 rw[h1];exact h _ _
def Fd (S:DS) (dv wv:Value):Array Value:=#[dv,wv,.int .i64 (Au S),.bool S.down,.int .i64 (S.ops:Int)]
theorem Rn {q:Nat}{wv:Value} (h:w.heap[q]?=some (.cells (Fd S dv wv) 39 (0,0))):w.cell? ⟨q,0,none⟩=some dv∧w.cell? ⟨q,1,none⟩=some wv∧w.cell? ⟨q,2,none⟩=some (.int .i64 (Au S))∧w.cell? ⟨q,3,none⟩=some (.bool S.down)∧w.cell? ⟨q,4,none⟩=some (.int .i64 (S.ops:Int)):=by refine⟨?_,?_,?_,?_,?_⟩<;>rw[cr h]<;>rfl
theorem Hr {D:Nat→Prop}{va:Option Addr}{vc:Nat} (hv:BytesN w D (.slice va 8 vc) l) (hl:l.length=8):
 Ca 86 #[.slice va 8 vc] w fun e w'=>e=.returned (.int .i64 (if Ae l≤2147483647 then(Ae l:Int)else-1))∧Below w.heap.size w w':=by
 obtain⟨z,hz⟩:∃z:Int,(if Ae l≤2147483647 then(Ae l:Int)else-1)=z:=⟨_,rfl⟩;obtain⟨HZ,HV,HL,HB0⟩:=Hd4 hz hv hl (Below.refl w.heap.size w);rw[hz];clear hz hv hl;go_enter Tryz.func86,Tryz.ntmps86;go_wp2_with fail;go_loopw [3,4] (fun nv iv wr=>∃i:Nat,i≤8∧iv=.int .i64 i∧nv=.int .i64 (Ae (l.take i):Int)∧Ae (l.take i)≤549755813887∧Hid (Below w.heap.size w wr)) (fun _ iv _=>8-(intOf iv).toNat)
 case atStart=>exact⟨0,by omega,rfl,rfl,by simp[Ae],HB0⟩
 case round=>
  obtain⟨i,hi,rfl,rfl,hn9,HB⟩:=hrel;obtain⟨W0,rfl⟩:∃W0,W0=wr:=⟨_,rfl⟩;clear HB0;have HLE:=Hd (My l i);by_cases hlt:i<8
  case neg=>
   obtain rfl :i=8:=by omega
   have HN:=Hd (show Ae (l.take 8)=Ae l by rw[List.take_of_length_le (by rw[HL.out];exact Nat.le_refl _)]);obtain⟨n,hn⟩:=Xq (Ae (l.take 8));rw[hn]at HN hn9⊢;clear hn HLE;by_cases hb:2147483647<n
   ·have hbI:(2147483647:Int)<(n:Int):=by omega
    obtain rfl :-1=z:=by rw[←HZ.out,←HN.out,In (by omega)]
    go_wp2_with fail;exact Bv (.int .i64 (-1)) ⟨rfl,HB.out⟩
   have hbI:¬(2147483647:Int)<(n:Int):=by omega
   obtain rfl :(n:Int)=z:=by rw[←HZ.out,←HN.out,Ip (by omega)]
   go_wp2_with fail;exact Bv (.int .i64 n) ⟨rfl,HB.out⟩
  have hiI:(i:Int)<8:=by omega
  have hil:i<l.length:=by rw[HL.out];exact hlt
  have HSN:=Hd (show Ae (l.take (i+1))=Ae (l.take i)*256+l[i].toNat by rw[List.take_succ_eq_append_getElem hil,Eh]);obtain⟨g',off',e9,hc⟩:=BytesAt.get (show BytesAt W0 D (.slice va l.length vc) l by rw[HL.out];exact(HV.out.below HB.out).at_) hil;subst e9;obtain⟨X,hX⟩:=Xq (l[i]);rw[hX]at hc HSN;have hx256:X.toNat<256:=UInt8.toNat_lt _;obtain⟨x,hx⟩:=Xq (X.toNat);rw[hx]at hc hx256 HSN;obtain⟨n,hn⟩:=Xq (Ae (l.take i));rw[hn]at HSN HLE hn9⊢;clear hn hX;by_cases hb:2147483647<n
  ·have hbI:(2147483647:Int)<(n:Int):=by omega
   obtain rfl :-1=z:=by rw[←HZ.out,In (by have:=HLE.out;omega)]
   go_wp2_with fail;exact Bv (.int .i64 (-1)) ⟨rfl,HB.out⟩
  have hbI:¬(2147483647:Int)<(n:Int):=by omega
  have hw0:=Iw (x:Int);have hw1:=Iw ((n:Int)*256);have hw2:=Iw ((n:Int)*256+(x:Int));go_wp2_with fail;go_roundw
  case rel=>exact⟨i+1,by omega,by go_num,by rw[HSN.out];go_num,by rw[HSN.out];omega,HB⟩
  case measure=>simp[intOf]<;>omega
theorem Iq (n:Nat) (hn:n<4611686018427387904):
 Ca 79 #[.int .i64 n] w fun e w'=>∃v,e=.returned v∧w'.ownsRow w.heap.size 5 1 v 8 (bvs (beL 8 n))∧Below w.heap.size w w':=by
 have HO1:=Hd (show w.ownsRow w.heap.size 5 1 (.slice none 0 0) 0 (bvs ((beL 8 n).take 0))from Dx _ _ _);have HB1:=Hd (Below.refl w.heap.size w);go_enter Tryz.func79,Tryz.ntmps79;go_wp2_with fail;go_loopw [3,4] (fun bvv jv wr=>∃j:Nat,j≤8∧jv=.int .i64 ((8:Int)-1-(j:Int))∧(∃(ba:Option Addr) (bc:Nat),bvv=.slice ba j bc∧wr.ownsRow w.heap.size 5 1 (.slice ba j bc) j (bvs ((beL 8 n).take j)))∧Hid (Below w.heap.size w wr)) (fun _ jv _=>(intOf jv+1).toNat)
 case atStart=>exact⟨0,by omega,by go_num,⟨none,0,rfl,HO1.out⟩,HB1⟩
 case round=>
  obtain⟨j,hj,rfl,⟨ca,cc,rfl,ho2⟩,HBW⟩:=hrel;obtain⟨W1,rfl⟩:∃W1,W1=wr:=⟨_,rfl⟩;have HO2:=Hd ho2;clear HO1 HB1 ho2;by_cases hjl:j<8
  case neg=>
   obtain rfl :j=8:=by omega
   have hge:((8:Nat):Int)-1-((8:Nat):Int)<0:=by omega
   have HON:=Hd (show W1.ownsRow w.heap.size 5 1 (.slice ca 8 cc) 8 (bvs (beL 8 n)) by have h1:=HO2.out;rw[List.take_of_length_le (by rw[CD];exact Nat.le_refl _)]at h1;exact h1)
   go_wp2_with fail;exact Bv (.slice ca 8 cc) ⟨_,rfl,HON.out,HBW.out⟩
  have hge:(0:Int)≤(8:Int)-1-(j:Int):=by omega
  have HVL:=Hd (Jz n j);have HTK:=Hd (I6 8 n j hjl);obtain⟨X,hX⟩:=Xq ((n/256^(8-1-j)).toUInt8);rw[hX]at HVL HTK;have hba:Below W1.heap.size W1 (W1.alloc (.cells #[bv X] 5)):=Rq.alloc Lr _;obtain⟨HGN,HO3,HB3⟩:=Hd3 (show(W1.alloc (.cells #[bv X] 5)).heap[W1.heap.size]?=some (.cells #[bv X] 5 (0,0))from Hn) (An HO2.out hba) (Tq HBW.out hba);clear hba hX;go_wp2_with (at_builtin;rw[HVL.out];refine B9 rfl (.tmp 9) (.tmp 15) rfl rfl HO3.out W1.heap.size rfl HGN.out (by omega) HB3.out.size ?_;refine Stop.on ?_)
  refine Stop.go ?_
  try simp only[P0,P1,P2,P3,P4]
  intro g' cap' w5 hlt5 hown5 hgr5 hat5
  try simp only[P0,P1,P2,P3,P4]
  have HON:=Hd (show w5.ownsRow w.heap.size 5 1 (.slice (some ⟨g',0,none⟩) (j+1) cap') (j+1) (bvs ((beL 8 n).take (j+1))) by rw[HTK.out];exact hown5);have HBN:=Hd (HB3.out.grown hgr5 HB3.out.size (fun k hk=>(Ab HO3.out k hk).1));clear hlt5 hown5 hgr5 hat5;go_wp2_with fail;go_roundw
  case rel=>exact⟨j+1,by omega,by go_num,⟨some ⟨g',0,none⟩,cap',rfl,HON.out⟩,HBN⟩
  case measure=>simp[intOf]<;>omega
theorem Fl (h:RefAt w G S v) (a c:Nat) (hc:8≤c) (hr:a+c≤S.dur.length) (hm:S.dur.length≤4096):
 Ca 57 #[v,.int .i64 a,.int .i64 c] w fun e w'=>e=.returned (.int .i64 (if S.down then 28 else 0))∧Below w.heap.size w w':=by
 obtain⟨dv,wv,rfl,hd,hw⟩:=h;obtain⟨da,dc,rfl⟩:=hd.len;obtain⟨m,hm0⟩:=Xq (S.dur.length);rw[hm0]at hr hm⊢;obtain⟨w1,hw1⟩:=Xq (w.alloc (.cells (Fd S (.slice da m dc) wv) 39));have hb1:=Lq hw1;have hx1:=Nq hw1 rfl;obtain⟨q,hq⟩:=Xq (w.heap.size);rw[hq]at hx1;obtain⟨HQ,HX1,HB1⟩:=Hd3 hq hx1 hb1;unfold Fd at hw1;have HW1:=Hd hw1;obtain⟨k0,k1,k2,k3,k4⟩:=Rn hx1;have h1:¬(a:Int)<0:=by omega
 have h2:¬(c:Int)<8:=by omega
 have h3:¬(m:Int)-(c:Int)<(a:Int):=by omega
 have h3d:decide ((m:Int)-(c:Int)<(a:Int))=false:=by simp;omega
 have hw3:=Iw ((m:Int)-(c:Int));obtain⟨dn,hdn⟩:=Xq (S.down);unfold A9;rw[hdn]at k3⊢;rw[hdn]at HW1;clear hd hw hx1 hb1 hw1 hm0;go_enter Tryz.func57,Tryz.ntmps57;cases dn with
 |true=>
  go_wp2_with fail;rw[HW1.out];exact Bv (.int .i64 28) ⟨rfl,by first|exact HB1.out| (rw[←HQ.out];exact HB1.out)⟩
 |false=>
  go_wp2_with fail;rw[HW1.out];exact Bv (.int .i64 0) ⟨rfl,by first|exact HB1.out| (rw[←HQ.out];exact HB1.out)⟩
theorem De (h:RefAt w G S v) (hok:S.ok) (hlen:S.pend.length<100000000) (a c:Nat) (hr:a+c≤S.dur.length):
 Ca 68 #[v,.int .i64 a,.int .i64 c] w fun e w'=>∃v,e=.returned v∧EntsAt w' (fun k=>w.heap.size≤k) v (Ah S a c)∧Below w.heap.size w w':=by
 have HR:=Hd h;have HOK:=Hd hok;have hm:=hok.most;obtain⟨dv,wv,rfl,hd,hw⟩:=h;obtain⟨w1,hw1⟩:=Xq (w.alloc (.cells (Fd S dv wv) 39));have hb1:=Lq hw1;have hx1:=Nq hw1 rfl;obtain⟨q,hq⟩:=Xq (w.heap.size);rw[hq]at hx1;obtain⟨HQ,HX1,HB1⟩:=Hd3 hq hx1 hb1;unfold Fd at hw1;have HW1:=Hd hw1;unfold A9;obtain⟨lm,hlm⟩:∃x,Au S=x:=⟨_,rfl⟩;obtain⟨dn,hdn⟩:∃x,S.down=x:=⟨_,rfl⟩;obtain⟨op,hop⟩:∃x,S.ops=x:=⟨_,rfl⟩;have HV:=Hd (show∀(W:World) (s:Nat),Below w.heap.size w W→s<S.dur.length→Ca 42 #[.agg #[dv,wv,.int .i64 lm,.bool dn,.int .i64 op],.int .i64 s] W fun e w'=>∃v',e=.returned v'∧w'.ownsRow W.heap.size 5 1 v' 256 (bvs (S.visible s))∧Below W.heap.size W w' from fun W s hW hs=>by have h1:=Gv s hs (HR.out.below hW) HOK.out hlen;unfold A9 at h1;rw[hlm,hdn,hop]at h1;exact h1)
 have HX1':=Hd (show w1.heap[q]?=some (.cells #[dv,wv,.int .i64 lm,.bool dn,.int .i64 op] 39 (0,0)) by have h1:=HX1.out;unfold Fd at h1;rwa [hlm,hdn,hop]at h1)
 rw[hlm,hdn,hop]at HW1⊢;obtain⟨HE0,HL0,HS1⟩:=Hd3 (show EntsAt w1 (fun k=>q<k) (.slice none 0 0) (Ah S a 0)from CU _ _) (Chg.refl (fun k=>q<k) w1) (show w1.heap.size=q+1 by rw[←hw1,Sz,hq]);clear hd hw hx1 hb1 hw1 hlm hdn hop;go_enter Tryz.func68,Tryz.ntmps68;go_wp2_with fail;rw[HW1.out]
 try rw[HQ.out]
 go_loopw [7,8] (fun ev iv wr=>∃(i:Nat) (ea:Option Addr) (ec:Nat),i≤c∧iv=.int .i64 i∧ev=.slice ea i ec∧Hid (EntsAt wr (fun k=>q<k) (.slice ea i ec) (Ah S a i))∧Hid (Chg (fun k=>q<k) w1 wr)) (fun _ iv _=>c-(intOf iv).toNat)
 case atStart=>exact⟨0,none,0,Nat.zero_le _,rfl,rfl,HE0,HL0⟩
 case round=>
  obtain⟨i,ea,ec,hi,rfl,rfl,HE,HC⟩:=hrel;obtain⟨W0,rfl⟩:∃W0,W0=wr:=⟨_,rfl⟩;clear HE0 HL0;have HBW:=Hd (HB1.out.trans (HC.out.below (B:=w.heap.size) (fun k e=>by have:=HQ.out;omega) HB1.out.size));by_cases hlt:i<c
  case neg=>
   obtain rfl :c=i:=by omega
   go_wp2_with fail;exact Bv (.slice ea c ec) ⟨_,rfl,HE.out.weak (fun k _ e=>by have:=HQ.out;omega),HBW.out⟩
  have hiI:(i:Int)<(c:Int):=by omega
  have hxq:W0.heap[q]?=some (.cells #[dv,wv,.int .i64 lm,.bool dn,.int .i64 op] 39 (0,0)):=(HC.out.block q (Ax HX1'.out).1 (by omega)).trans HX1'.out;have k0:W0.cell? ⟨q,0,none⟩=some dv:=by rw[cr hxq];rfl
  have k1:W0.cell? ⟨q,1,none⟩=some wv:=by rw[cr hxq];rfl
  have k2:=Cq hxq 2;have k3:=Cq hxq 3;have k4:=Cq hxq 4;have HAI:=Hd (show(a:Int)+(i:Int)=((a+i:Nat):Int) by omega);have hai:a+i<4096:=by omega
  have hwi:IntKind.i64.wrap ((a:Int)+(i:Int))=((a+i:Nat):Int):=by rw[HAI.out];exact IntWalk.i64_in _ (by omega)
  clear hxq;go_wp2_with fail;refine(HV.out W0 (a+i) HBW.out (by omega)).mono ?_;rintro e W2 ⟨u,rfl,hu,hb2⟩;obtain⟨ua,uc,rfl⟩:=Ag hu;have HE2:=Hd (HE.out.below hb2);have HU2:=Hd (show BytesN W2 (fun k=>q<k∧(Value.slice ea i ec).ownBlock≠some k) (.slice ua 256 uc) (S.visible (a+i))from by
   have h0:=BL HOK.out (show a+i<S.dur.length by omega);have h1:W2.ownsRow W0.heap.size 5 1 (.slice ua 256 uc) (S.visible (a+i)).length (bvs (S.visible (a+i))):=by rw[h0];exact hu
   exact(Bk h1).weak (fun k _ h2=>⟨by have:=HQ.out;have:=HBW.out.size;have:=HS1.out;have:=HC.out.size;omega,fun e=>by have h3:=(DE HE.out k e).2;omega⟩))
  have HC2:=Hd (HC.out.trans (Cb (F:=fun k=>q<k) hb2) (fun k e=>.inl e));have HSL:=Hd (show S.visible (a+i)=S.visible (a+i)∧Ah S a i++[S.visible (a+i)]=Ah S a (i+1)from⟨rfl,by unfold Ah;rw[List.range_succ,List.map_append];rfl⟩);clear hu hb2 k0 k1 k2 k3 k4;go_wp2_with (at_builtin;refine Fj rfl (.tmp 14) (.tmp 20) rfl rfl HE2.out HU2.out rfl (Bu S a i) (by omega) ?_;refine Stop.on ?_)
  refine Stop.go ?_
  try simp only[P0,P1,P2,P3,P4]
  intro a5 c5 w5 ho5 hc5
  try simp only[P0,P1,P2,P3,P4]
  have HE5:=Hd (show EntsAt w5 (fun k=>q<k) (.slice a5 (i+1) c5) (Ah S a (i+1)) by rw[←HSL.out.2];exact ho5.weak (fun k _ h1=>h1.elim id (fun h2=>by have:=HC2.out.size;have:=HS1.out;omega)));have HC5:=Hd (HC2.out.trans (hc5.mono (G:=fun k=>q<k) (fun k e=>(DE HE.out k e).1)) (fun k e=>.inl e));clear ho5 hc5;go_wp2_with fail;go_roundw
  case rel=>exact⟨i+1,a5,c5,by omega,by go_num,rfl,HE5,HC5⟩
  case measure=>simp[intOf]<;>omega
variable {k:Nat}
def DV (k:Nat) (b:List UInt8):Nat:=if Al b=0∧(k:Int)≤(Ak b).gen then(Ak b).gen.toNat+1 else k
theorem Q9 {w:Nat} (hw:w≤1) (b:List UInt8):Ce w (upG w k) b=upG w (DV k b):=by
 unfold Ce DV;by_cases h:Al b=0
 ·have h3:=Cj h;have h4:=h3.2.2.2.1.g0;rw[←h3.2.2.2.2]at h4;obtain⟨q,hq⟩:∃q:Nat,(Ak b).gen=(q:Int):=⟨(Ak b).gen.toNat,by omega⟩;rw[hq,Int.toNat_natCast];by_cases h1:k≤q
  ·rw[Ip (show Al b=0∧(k:Int)≤(q:Int)from⟨h,by omega⟩)];by_cases h2:upG w k≤q
   ·rw[Ip ⟨h,by omega⟩]
   ·rw[In (fun e=>h2 (by have:=e.2;omega))];unfold upG at h2⊢;split at h2
    ·rw[Ip (by assumption),In (by omega)];omega
    ·omega
  ·rw[In (show¬(Al b=0∧(k:Int)≤(q:Int))from fun e=>h1 (by have:=e.2;omega))];rw[In (fun e=>h1 (by have:=e.2;unfold upG at this;split at this<;>omega))]
 ·rw[In (fun e=>h e.1),In (fun e=>h e.1)]
theorem P7 {w:Nat} (hw:w≤1) (L:List (List UInt8)):AA w L=upG w (L.foldl DV 0):=by
 have h:∀(L:List (List UInt8)) (k:Nat),L.foldl (Ce w) (upG w k)=upG w (L.foldl DV k):=by
  intro L
  induction L with
  |nil=>intro k;rfl
  |cons b L ih=>intro k;rw[List.foldl_cons,List.foldl_cons,Q9 hw,ih]
 unfold AA;rw[←h L 0]
 congr 1
 unfold upG;split <;>omega
theorem RW {b:List UInt8} (h:k≤2147483648):DV k b≤2147483648:=by
 unfold DV;by_cases h1:Al b=0∧(k:Int)≤(Ak b).gen
 ·rw[Ip h1];have h2:=Cj h1.1;have h3:=h2.2.2.2.1;rw[←h2.2.2.2.2]at h3;have h4:=h3.g1;have h5:=h3.g0;omega
 ·rw[In h1];exact h
theorem E4 (h:RefAt w G S v) (hok:S.ok) (hlen:S.pend.length<100000000) (a c which:Nat) (hwh:which≤1) (hr:a+c≤S.dur.length):
 Ca 59 #[v,.int .i64 a,.int .i64 c,.int .i64 which] w fun e w'=>e=.returned (.int .i64 (AA which (Ah S a c):Int))∧Below w.heap.size w w':=by
 have hm:=hok.most;have HSE:=Hd (fun(W:World) (hW:Below w.heap.size w W)=>De (h.below hW) hok hlen a c hr);have hv0:=h;obtain⟨dv,wv,rfl,hd,hw⟩:=h;obtain⟨w1,hw1⟩:=Xq (w.alloc (.cells (Fd S dv wv) 39));have hb1:=Lq hw1;have hx1:=Nq hw1 rfl;obtain⟨q,hq⟩:=Xq (w.heap.size);rw[hq]at hx1;obtain⟨k0,k1,k2,k3,k4⟩:=Rn hx1;have HQ:=Hd hq;have HB1:=Hd hb1;unfold Fd at hw1;unfold A9 at HSE⊢;obtain⟨lm,hlm⟩:∃x,Au S=x:=⟨_,rfl⟩;obtain⟨dn,hdn⟩:∃x,S.down=x:=⟨_,rfl⟩;obtain⟨op,hop⟩:∃x,S.ops=x:=⟨_,rfl⟩;rw[hlm,hdn,hop]at HSE hw1⊢;rw[hlm]at k2;rw[hdn]at k3;rw[hop]at k4;have HW1:=Hd hw1;obtain⟨L,hL⟩:=Xq (Ah S a c);have HLL:=Hd (show L.length=c by rw[←hL,Bu]);rw[hL]at HSE⊢;obtain⟨z,hz⟩:=Xq (AA which L);rw[hz];have HZ:=Hd (show upG which (L.foldl DV 0)=z by rw[←P7 hwh];exact hz);clear hL hz hlm hdn hop hd hw hv0 hb1 hw1 hx1;go_enter Tryz.func59,Tryz.ntmps59;go_wp2_with fail;rw[HW1.out]
 try rw[HQ.out]
 refine(HSE.out w1 HB1.out).mono ?_;rintro e w2 ⟨v,rfl,hv,hb⟩;obtain⟨va,vc,rfl⟩:=hv.form;rw[HLL.out]at hv⊢;have HB2:=Hd (Tq HB1.out hb);have HV:=Hd hv;clear hb hv HSE k0 k1 k2 k3 k4;have HX0:=Hd (Below.refl w2.heap.size w2);have HG0:=Hd (show(L.take 0).foldl DV 0=0 from rfl);go_wp2_with fail;go_loopw [9,11] (fun gv iv wr=>∃(i g:Nat),i≤c∧g≤2147483648∧iv=.int .i64 i∧gv=.int .i64 ((g:Int)-1)∧Hid ((L.take i).foldl DV 0=g)∧Hid (Below w2.heap.size w2 wr)) (fun _ iv _=>c-(intOf iv).toNat)
 case atStart=>exact⟨0,0,Nat.zero_le _,by omega,rfl,rfl,HG0,HX0⟩
 case round=>
  obtain⟨i,g,hi,hg,rfl,rfl,HG,HB⟩:=hrel;obtain⟨W0,rfl⟩:∃W0,W0=wr:=⟨_,rfl⟩;clear HG0 HX0;by_cases hlt:i<c
  case neg=>
   obtain rfl :c=i:=by omega
   obtain rfl :upG which g=z:=by have h1:=HG.out;rw[List.take_of_length_le (by rw[HLL.out];exact Nat.le_refl _)]at h1;rw[←h1,HZ.out]
   have HBE:=Hd (Tq HB2.out HB.out);have hw9:IntKind.i64.wrap ((g:Int)-1+1)=(g:Int):=by rw[show(g:Int)-1+1=(g:Int) by omega];exact IntWalk.i64_in _ (by omega)
   by_cases hp:g%2=which
   ·have hd:((g:Int)%2!=(which:Int))=false:=by simp;omega
    have HUP:=Hd (show upG which g=g by unfold upG;rw[In (fun e=>e hp)]);go_wp2_with fail;rw[HUP.out];exact Bv (.int .i64 g) ⟨rfl,HBE.out⟩
   ·have hd:((g:Int)%2!=(which:Int))=true:=by simp;omega
    have HUP:=Hd (show((upG which g:Nat):Int)=(g:Int)+1 by unfold upG;rw[Ip hp];omega);go_wp2_with fail;rw[HUP.out];exact Bv (.int .i64 ((g:Int)+1)) ⟨rfl,HBE.out⟩
  have hiI:(i:Int)<(c:Int):=by omega
  have hiL:i<L.length:=by rw[HLL.out];exact hlt
  obtain⟨gv,x,xc,e9,_,hcell,hbx⟩:=(HV.out.below HB.out).get hiL;subst e9;obtain⟨B,hB⟩:=Xq (L[i]);rw[hB]at hcell hbx;obtain⟨n,hn⟩:=Xq (B.length);rw[hn]at hcell hbx;obtain⟨HBX,HNX,HTL⟩:=Hd3 hbx (show(L.take (i+1)).foldl DV 0=DV g B by rw[List.take_succ_eq_append_getElem hiL,hB,List.foldl_append,HG.out];rfl) (RW (b:=B) hg);clear hB hn hbx;go_wp2_with fail;refine(EQ B _ HBX.out.at_).mono ?_;rintro e W1 ⟨pa,pc,rfl,_,hb⟩;have HBN:=Hd (Tq HB.out hb);obtain⟨p,hp⟩:=Xq (Ak B);obtain⟨de,hde⟩:=Xq (Al B);have HGS:=Hd (show DV g B=(if de=0∧(g:Int)≤p.gen then p.gen.toNat+1 else g) by unfold DV;rw[hp,hde]);have HPG:=Hd (show de=0→0≤p.gen∧p.gen≤2147483647 from fun h0=>by have h2:=Cj (hde.trans h0);have h3:=h2.2.2.2.1;rw[←h2.2.2.2.2,hp]at h3;exact⟨h3.g0,h3.g1⟩)
  rw[hp,hde];unfold GB;obtain⟨pg,hpg⟩:=Xq (p.gen);rw[hpg]at HGS HPG⊢;obtain⟨p0,hp0⟩:=Xq (p.kind);obtain⟨p2,hp2⟩:=Xq (p.num);obtain⟨p3,hp3⟩:=Xq (p.idx);obtain⟨p4,hp4⟩:=Xq (p.cnt);obtain⟨p5,hp5⟩:=Xq (p.bytes.length);rw[hp0,hp2,hp3,hp4,hp5];obtain⟨W2,hW2⟩:=Xq (W1.alloc (.cells #[.int .i64 p0,.int .i64 pg,.int .i64 p2,.int .i64 p3,.int .i64 p4,.slice pa p5 pc] 141));have hb2:=Lq hW2;have HBQ:=Hd (Tq HBN.out hb2);have hxp:=Nq hW2 rfl;have hq1:=Cq hxp 1;have HWW:=Hd hW2;clear hb hp hde hpg hp0 hp2 hp3 hp4 hp5 hb2 hcell hxp hW2;by_cases h0:de=0
  case neg=>
   have hd:(de==0)=false:=by simpa using h0
   have HGN:=Hd (show(L.take (i+1)).foldl DV 0=g by rw[HNX.out,HGS.out,In (fun h=>h0 h.1)]);clear h0;go_wp2_with fail;rw[HWW.out];go_roundw
   case rel=>exact⟨i+1,g,by omega,hg,by go_num,rfl,HGN,HBQ⟩
   case measure=>simp[intOf]<;>omega
  subst h0;obtain⟨hp0,hp1⟩:=HPG.out rfl;obtain⟨q2,rfl⟩:∃q2:Nat,pg=(q2:Int):=⟨pg.toNat,by omega⟩;by_cases hge:g≤q2
  case neg=>
   have hd:decide ((g:Int)-1<(q2:Int))=false:=decide_eq_false (by omega);have hd2:¬(g:Int)-1<(q2:Int):=by omega
   have HGN:=Hd (show(L.take (i+1)).foldl DV 0=g by rw[HNX.out,HGS.out,In (fun h=>hge (by have:=h.2;omega))]);go_wp2_with fail;rw[HWW.out];go_wp2_with fail;go_roundw
   case rel=>exact⟨i+1,g,by omega,hg,by go_num,rfl,HGN,HBQ⟩
   case measure=>simp[intOf]<;>omega
  have hd:decide ((g:Int)-1<(q2:Int))=true:=decide_eq_true (by omega);have hd2:(g:Int)-1<(q2:Int):=by omega
  have HGN:=Hd (show(L.take (i+1)).foldl DV 0=q2+1 by rw[HNX.out,HGS.out,Ip ⟨rfl,by omega⟩,Int.toNat_natCast]);go_wp2_with fail;rw[HWW.out];go_wp2_with fail;go_roundw
  case rel=>exact⟨i+1,q2+1,by omega,by omega,by go_num,by go_num,HGN,HBQ⟩
  case measure=>simp[intOf]<;>omega
variable {w':World}{n:Nat}{E:List (List UInt8)}
def AreaPost (w:World) (A:Option ArD) (e:Ending) (w':World):Prop:=
 ∃(g f:Int) (ev:Value) (ok:Bool),e=.returned (.tuple #[.int .i64 g,.int .i64 f,ev,.bool ok])∧Below w.heap.size w w'∧
  (ok=true→∃y,A=some y∧g=(y.gen:Int)∧f=(y.first:Int)∧EntsAt w' (fun k=>w.heap.size≤k) ev y.ents)∧(ok=false→A=none)
theorem AreaPost.no {A:Option ArD}{g f:Int}{ev:Value} (hb:Below w.heap.size w w') (hA:A=none):AreaPost w A (.returned (.tuple #[.int .i64 g,.int .i64 f,ev,.bool false])) w':=⟨g,f,ev,false,rfl,hb,(fun h=>by cases h),fun _=>hA⟩
theorem AreaPost.yes {A:Option ArD}{q:Nat}{ev:Value} (hb:Below w.heap.size w w') (hA:A=some ⟨q,n,E⟩) (he:EntsAt w' (fun k=>w.heap.size≤k) ev E):AreaPost w A (.returned (.tuple #[.int .i64 q,.int .i64 n,ev,.bool true])) w':=⟨q,n,ev,true,rfl,hb,fun _=>⟨_,hA,rfl,rfl,he⟩,(fun h=>by cases h)⟩
theorem E5 {va:Option Addr}{vc hh:Nat}{L:List (List UInt8)} (hv:EntsAt w G (.slice va hh vc) L) (hL:L.length=hh) (h1:1≤hh) (hM:hh≤4096) (which:Nat) (hwh:which≤1):
 Ca 67 #[.slice va hh vc,.int .i64 which] w (AreaPost w (AQ L which)):=by
 obtain⟨A,hA⟩:=Xq (AQ L which);obtain⟨HA,HV,HLL⟩:=Hd3 hA hv hL;rw[hA];have h0L:0<L.length:=by omega
 obtain⟨ga,xa,xac,e9,_,hcell,hbx⟩:=hv.get h0L;subst e9;obtain⟨B,hB⟩:=Xq (L[0]);have HHD:=Hd (show L.headD []=B by cases L with|nil=>simp at h0L|cons b l=>exact hB);rw[hB]at hcell hbx;obtain⟨n,hn⟩:=Xq (B.length);rw[hn]at hcell hbx;have HBX:=Hd hbx;have hhI:(0:Int)<(hh:Int):=by omega
 clear hA hv hL hB hn hbx;go_enter Tryz.func67,Tryz.ntmps67;go_wp2_with fail;refine(EQ B _ HBX.out.at_).mono ?_;rintro e W1 ⟨pa,pc,rfl,_,hb⟩;obtain⟨p,hp⟩:=Xq (Ak B);obtain⟨de,hde⟩:=Xq (Al B);have HAR:=Hd (show AQ L which=if de≠0∨p.gen.toNat%2≠which then none else CN p.gen.toNat (AP p.gen 0 L).1 by unfold AQ;rw[HHD.out,hp,hde]);have HPG:=Hd (show de=0→0≤p.gen∧p.gen≤2147483647 from fun h0=>by have h2:=Cj (hde.trans h0);have h3:=h2.2.2.2.1;rw[←h2.2.2.2.2,hp]at h3;exact⟨h3.g0,h3.g1⟩)
 rw[hp,hde];unfold GB;obtain⟨pg,hpg⟩:=Xq (p.gen);rw[hpg]at HAR HPG⊢;obtain⟨p0,hp0⟩:=Xq (p.kind);obtain⟨p2,hp2⟩:=Xq (p.num);obtain⟨p3,hp3⟩:=Xq (p.idx);obtain⟨p4,hp4⟩:=Xq (p.cnt);obtain⟨p5,hp5⟩:=Xq (p.bytes.length);rw[hp0,hp2,hp3,hp4,hp5];obtain⟨W2,hW2⟩:=Xq (W1.alloc (.cells #[.int .i64 p0,.int .i64 pg,.int .i64 p2,.int .i64 p3,.int .i64 p4,.slice pa p5 pc] 141));have hb2:=Lq hW2;have HB2:=Hd (Tq hb hb2);have hxp:=Nq hW2 rfl;have hq1:=Cq hxp 1;have HWW:=Hd hW2;obtain⟨pb,hpb⟩:=Xq (W1.heap.size);rw[hpb]at hxp hq1;have HPB:=Hd hpb;have HXP:=Hd hxp;clear hb hp hde hpg hp0 hp2 hp3 hp4 hp5 hb2 hcell hxp hW2 hpb;by_cases h0:de=0
 case neg=>
  have hd:(de !=0)=true:=by simpa using h0
  have HNO:=Hd (show A=none by rw[←HA.out,HAR.out,Ip (.inl h0)]);clear h0;go_wp2_with fail;rw[HWW.out];go_wp2_with fail;exact Bv (.tuple #[.int .i64 0,.int .i64 0,.slice none 0 0,.bool false]) (AreaPost.no HB2.out HNO.out)
 subst h0;obtain⟨hq0,hqm⟩:=HPG.out rfl;obtain⟨q,rfl⟩:∃q:Nat,pg=(q:Int):=⟨pg.toNat,by omega⟩;by_cases hpar:q%2=which
 case neg=>
  have hd:((q:Int)%2!=(which:Int))=true:=by simp;omega
  have HNO:=Hd (show A=none by rw[←HA.out,HAR.out,Ip (.inr (by rw[Int.toNat_natCast];exact hpar))]);clear hpar;go_wp2_with fail;rw[HWW.out]
  try rw[HPB.out]
  go_wp2_with fail;exact Bv (.tuple #[.int .i64 0,.int .i64 0,.slice none 0 0,.bool false]) (AreaPost.no HB2.out HNO.out)
 have hd:((q:Int)%2!=(which:Int))=false:=by simp;omega
 have HAR:=Hd (show A=CN q (AP (q:Int) 0 L).1 by rw[←HA.out,HAR.out,Int.toNat_natCast,In (fun h=>h.elim (fun h=>h rfl) (fun h=>h hpar))]);clear hpar;go_wp2_with fail;rw[HWW.out]
 try rw[HPB.out]
 go_wp2_with fail;refine(PD (q:Int) 0 L _ (HV.out.below HB2.out).secs (by rw[HLL.out];omega)).mono ?_;rintro e U3 ⟨rv,rfl,hrs,hb⟩;have HSL:=Me (q:Int) 0 L;obtain⟨rs,hrsE⟩:=Xq ((AP (q:Int) 0 L).1);obtain⟨s1,hs1⟩:=Xq ((AP (q:Int) 0 L).2.1);obtain⟨s2,hs2⟩:=Xq ((AP (q:Int) 0 L).2.2);rw[hrsE]at hrs HAR HSL;rw[hs1,hs2];obtain⟨ra,rc,rfl⟩:=hrs.form;obtain⟨m,hm⟩:=Xq (rs.length);rw[hm]at hrs⊢;have HRS:=Hd hrs;have HM:=Hd hm;have hmb:m≤hh:=by rw[←hm,←HLL.out];exact HSL.2
 have HSL:=Hd HSL.1;have HB3:=Hd (Tq HB2.out hb);have hxp3:=Bq hb HXP.out;have hq3:=Cq hxp3 1;have HXP3:=Hd hxp3;have HSU:=Hd hb.size;clear hrs hm hb hrsE hs1 hs2 hxp3 hq1;by_cases hm0:m=0
 case pos=>subst hm0;have HNO:=Hd (show A=none by rw[HAR.out,List.eq_nil_of_length_eq_zero HM.out];rfl);go_wp2_with fail;exact Bv (.tuple #[.int .i64 0,.int .i64 0,.slice none 0 0,.bool false]) (AreaPost.no HB3.out HNO.out)
 obtain⟨h,t,rfl⟩:∃h t,rs=h::t:=by
  cases rs with
  |nil=>exact absurd HM.out.symm hm0
  |cons h t=>exact⟨h,t,rfl⟩
 have hm1:((m:Int)==0)=false:=by simp[hm0]
 obtain⟨gr,x0,xc0,e9,hgr,k0,_,_,k3,hbl⟩:=HRS.out.getF (i:=0) (by simp);subst e9;simp only[List.getElem_cons_zero,Nat.zero_mul,Nat.zero_add]at k0 k3 hbl;have hmI:(0:Int)<(m:Int):=by omega
 obtain⟨hk,hhk⟩:=Xq (h.kind);rw[hhk]at k0;by_cases hk1:hk=1
 case neg=>
  have hd2:(hk !=1)=true:=by simpa using hk1
  have HNO:=Hd (show A=none by rw[HAR.out];exact Ip (by rw[hhk];exact hk1));clear hk1 hhk hbl;go_wp2_with fail;exact Bv (.tuple #[.int .i64 0,.int .i64 0,.slice none 0 0,.bool false]) (AreaPost.no HB3.out HNO.out)
 subst hk1;have HHK:=Hd hhk;obtain⟨hl,hhl⟩:=Xq (h.load.length);rw[hhl]at k3;by_cases h16:hl=16
 case neg=>
  have hd3:((hl:Int)!=16)=true:=by simp;omega
  have HNO:=Hd (show A=none by have hnl:C9 h.load=none:=In (fun h0=>h16 (hhl▸h0.1));rw[HAR.out,CN,In (fun h0=>h0 hhk),hnl])
  clear h16 hhk hbl hhl;go_wp2_with fail;exact Bv (.tuple #[.int .i64 0,.int .i64 0,.slice none 0 0,.bool false]) (AreaPost.no HB3.out HNO.out)
 subst h16;obtain⟨gx,cx,ex,_⟩:=AZ hbl (by rw[hhl];omega);simp only[Value.slice.injEq]at ex;obtain⟨rfl,-,rfl⟩:=ex;have HBL:=Hd (Bk hbl);have HL16:=Hd hhl;rw[hhl]at HBL;have HLC:=Hd (show∀w',Below U3.heap.size U3 w'→w'.cell? ⟨gr,0,none⟩=some (.int .i64 1)∧w'.cell? ⟨gr,3,none⟩=some (.slice (some ⟨gx,0,none⟩) 16 xc0)from fun w' hw'=>⟨(hw'.cell (p:=⟨gr,0,none⟩) hgr).trans k0,(hw'.cell (p:=⟨gr,3,none⟩) hgr).trans k3⟩);obtain⟨n0,hn0⟩:∃x,Ae (h.load.take 8)=x:=⟨_,rfl⟩;obtain⟨n1,hn1⟩:∃x,Ae (h.load.drop 8)=x:=⟨_,rfl⟩;have HN0:=Hd hn0;have HN1:=Hd hn1;clear hbl hhk hhl hn0 hn1;go_wp2_with fail;have hcap:16≤xc0:=by have h1:=HBL.out.at_.len;omega
 have HP1:=Hd (show BytesN U3 (fun k=>W2.heap.size≤k) (.slice (some ⟨gx,0,none⟩) 8 xc0) (h.load.take 8)from by
  have h1:=(HBL.out.at_.seg 0 8 (o:=0) (m:=8) (c:=xc0) rfl (by rw[HL16.out];rfl) (by omega) (by omega)).n;have e:seg h.load 0 8=h.load.take 8:=by unfold seg;rw[List.drop_zero]
  rwa [e]at h1)
 have HP2:=Hd (show BytesN U3 (fun k=>W2.heap.size≤k) (.slice (some ⟨gx,8,none⟩) 8 (xc0-8)) (h.load.drop 8)from by
  have h1:=(HBL.out.at_.seg 8 8 (o:=8) (m:=8) (c:=xc0-8) rfl (by rw[HL16.out];rfl) (by rw[HL16.out];omega) rfl).n;have e:seg h.load 8 8=h.load.drop 8:=by unfold seg;rw[List.take_of_length_le (by rw[List.length_drop,HL16.out];omega)]
  rwa [e]at h1)
 have HT1:=Hd (show(h.load.take 8).length=8 by rw[List.length_take,HL16.out];rfl);have HT2:=Hd (show(h.load.drop 8).length=8 by rw[List.length_drop,HL16.out]);obtain⟨r0,hr0⟩:∃r:Int,(if n0≤2147483647 then(n0:Int)else-1)=r:=⟨_,rfl⟩;obtain⟨r1,hr1⟩:∃r:Int,(if n1≤2147483647 then(n1:Int)else-1)=r:=⟨_,rfl⟩;have HR0:=Hd hr0;have HR1:=Hd hr1;have hcI:(8:Int)≤(xc0:Int):=by omega
 have hc8:¬xc0=8:=by omega
 have hc8':8<xc0:=by omega
 clear hr0 hr1;refine Np ?_;refine BM (Below U3.heap.size U3) (by kernel_rfl) ?_;have hS0:(Below U3.heap.size U3) U3.drew:=(Rq.drew);obtain⟨wd,hwd⟩:=Xq (U3.drew);rw[hwd]at hS0⊢;clear hwd;refine tkH 0 hS0 ?_;refine tkH 1 hS0 ?_ (v:=.pointer (some ⟨gr,0,none⟩));refine tkH 2 hS0 ?_;refine AD 3 HLC.out hS0 ?_;refine tkH 4 hS0 ?_ (v:=.slice (some ⟨gx,0,none⟩) 8 xc0);refine tkH 6 hS0 ?_;refine tkH 7 hS0 ?_ (v:=.pointer (some ⟨gr,0,none⟩));refine tkH 8 hS0 ?_;refine AD 9 HLC.out hS0 ?_;refine tkH 10 hS0 ?_ (v:=.slice (some ⟨gx,8,none⟩) 8 (xc0-8));refine dH 5 fun K hK=>?_
 go_simp;go_at_call 86;refine(Hr (HP1.out.below hS0) HT1.out).mono ?_;rintro e U4 ⟨rfl,hbU4⟩;rw[HN0.out,HR0.out];have hSU4:=Tq hS0 hbU4;refine Kq hK (hSU4) ?_;refine dH 11 fun K hK=>?_
 go_simp;go_at_call 86;refine(Hr (HP2.out.below hSU4) HT2.out).mono ?_;rintro e U5 ⟨rfl,hbU5⟩;rw[HN1.out,HR1.out];have hSU5:=Tq hSU4 hbU5;refine Kq hK (hSU5) ?_;refine tkH 12 hSU5 ?_;refine tkH 13 hSU5 ?_;refine eH ?_;have HB5:=Hd (Tq HB3.out hSU5);have HU5:=Hd hSU5;clear hbU4 hbU5 hSU4 hSU5 hS0 hq3 k0 k3;by_cases hn0:n0≤2147483647
 case neg=>
  obtain rfl :-1=r0:=by rw[←HR0.out,In hn0]
  have HNO:=Hd (show A=none by have hnl:C9 h.load=none:=In (fun h0=>hn0 (HN0.out▸h0.2.1));rw[HAR.out,CN,In (fun h0=>h0 HHK.out),hnl])
  go_wp2_with fail;exact Bv (.tuple #[.int .i64 0,.int .i64 0,.slice none 0 0,.bool false]) (AreaPost.no HB5.out HNO.out)
 obtain rfl :(n0:Int)=r0:=by rw[←HR0.out,Ip hn0]
 by_cases hn1:n1≤2147483647
 case neg=>
  obtain rfl :-1=r1:=by rw[←HR1.out,In hn1]
  have HNO:=Hd (show A=none by have hnl:C9 h.load=none:=In (fun h0=>hn1 (HN1.out▸h0.2.2));rw[HAR.out,CN,In (fun h0=>h0 HHK.out),hnl])
  go_wp2_with fail;exact Bv (.tuple #[.int .i64 0,.int .i64 0,.slice none 0 0,.bool false]) (AreaPost.no HB5.out HNO.out)
 obtain rfl :(n1:Int)=r1:=by rw[←HR1.out,Ip hn1]
 have HAC:=Hd (show A=if n1≤(BK t).length then some ⟨q,n0,BK t⟩else none by
  have hnl:C9 h.load=some (n0,n1):=by unfold C9;rw[HN0.out,HN1.out];exact Ip ⟨HL16.out,hn0,hn1⟩
  rw[HAR.out,CN,In (fun h0=>h0 HHK.out),hnl])
 obtain⟨k,rfl⟩:∃k,m=k+1:=⟨m-1,by omega⟩;obtain⟨HTK,HER0,HOB0,HKR0,HCR0⟩:=Hd5 (show t.length=k by have h1:=HM.out;simp at h1;exact h1) (CU U5 (fun j=>W2.heap.size≤j)) (show∀g,(Value.slice none 0 0).ownBlock=some g→U5.heap.size≤g from fun g e=>by cases e) (show∀j (h:j<t.length),j<0→t[j].kind=2 from fun j _ h=>absurd h (by omega)) (Chg.refl (fun j=>U5.heap.size≤j) U5);clear hm1 hmI;go_wp2_with fail;go_loopw [15,16] (fun ev iv wr=>∃(i:Nat) (va:Option Addr) (vc:Nat),i≤k∧iv=.int .i64 ((i:Int)+1)∧ev=.slice va i vc∧Hid (EntsAt wr (fun j=>W2.heap.size≤j) (.slice va i vc) ((t.take i).map (·.load)))∧Hid (∀g,(Value.slice va i vc).ownBlock=some g→U5.heap.size≤g)∧Hid (∀j (h:j<t.length),j<i→t[j].kind=2)∧Hid (Chg (fun j=>U5.heap.size≤j) U5 wr)) (fun _ iv _=>k+1-(intOf iv).toNat)
 case atStart=>exact⟨0,none,0,Nat.zero_le _,rfl,rfl,HER0,HOB0,HKR0,HCR0⟩
 case round=>
  obtain⟨i,va,vc,hi,rfl,rfl,HER,HOB,HKR,HCR⟩:=hrel;obtain⟨Q0,rfl⟩:∃Q0,Q0=wr:=⟨_,rfl⟩;clear HER0 HOB0 HKR0 HCR0;have HBQ:=Hd (HB5.out.trans (HCR.out.below (B:=w.heap.size) (fun j e=>Nt HB5.out.size e) HB5.out.size));have hxpq:=(HCR.out.block pb (Nl (Ax HXP3.out).1 HU5.out.size) (by have:=(Ax HXP3.out).1;have:=HU5.out.size;omega)).trans (Bq HU5.out HXP3.out);have hqq:=Cq hxpq 1;have hgrQ:Q0.heap[gr]?=U3.heap[gr]?:=(HCR.out.block gr (Nl hgr HU5.out.size) (by have:=HU5.out.size;omega)).trans (HU5.out.block gr hgr);clear hxpq;by_cases hlt:i<k
  case neg=>
   obtain rfl :k=i:=by omega
   have HBT:=Hd (F6 (t:=t) HKR.out (fun h=>absurd h (by have:=HTK.out;omega)));have hiI:¬(k:Int)+1<((k+1:Nat):Int):=by omega
   have hiI2:¬(k:Int)+1<(k:Int)+1:=by omega
   by_cases hc:n1≤k
   ·have hcI:(n1:Int)≤(k:Int):=by omega
    go_wp2_with fail;exact Bv (.tuple #[.int .i64 q,.int .i64 n0,.slice va k vc,.bool true]) (AreaPost.yes HBQ.out (by rw[HAC.out,Ip (by rw[HBT.out,List.length_map,List.length_take,HTK.out];omega)]) (by rw[HBT.out];exact HER.out.weak (fun j _ h1=>Nt HB2.out.size h1)))
   ·have hcI:¬(n1:Int)≤(k:Int):=by omega
    go_wp2_with fail;exact Bv (.tuple #[.int .i64 q,.int .i64 n0,.slice va k vc,.bool false]) (AreaPost.no HBQ.out (by rw[HAC.out,In (by rw[HBT.out,List.length_map,List.length_take,HTK.out];omega)]))
  have hiI:(i:Int)+1<((k+1:Nat):Int):=by omega
  have hiI2:(i:Int)+1<(k:Int)+1:=by omega
  have hit:i<t.length:=by rw[HTK.out];exact hlt
  obtain⟨gr9,x1,xc1,e9,_,r0,_,_,r3,hl1⟩:=HRS.out.getF (i:=i+1) (by simp;exact hit);cases e9;simp only[List.getElem_cons_succ]at r0 r3 hl1;obtain⟨R,hR⟩:=Xq (t[i]);rw[hR]at r0 r3 hl1;have HRI:=Hd hR;have hcl:∀o u,U3.cell? ⟨gr,o,none⟩=some u→Q0.cell? ⟨gr,o,none⟩=some u:=fun o u h1=>by rw[←h1];simp only[World.cell?,hgrQ]
  obtain⟨kd,hkd⟩:=Xq (R.kind);obtain⟨ld,hld⟩:=Xq (R.load.length);have HHU:=Hd (show Q0.ownsRow W2.heap.size 5 1 (.slice x1 R.load.length xc1) R.load.length (bvs R.load)from AJ (An hl1 HU5.out) HCR.out (fun g hg e=>by have h1:=(Ab hl1 g hg).2;have h2:=HU5.out.size;omega))
  have HLU:=Hd (show BytesN Q0 (fun j=>W2.heap.size≤j) (.slice x1 R.load.length xc1) R.load from(Bk HHU.out));rw[hld]at r3 HHU HLU;rw[hkd]at r0;have y0:Q0.cell? ⟨gr,(i+1)*4,none⟩=some (.int .i64 kd):=hcl _ _ r0;have y3:Q0.cell? ⟨gr,(i+1)*4+3,none⟩=some (.slice x1 ld xc1):=hcl _ _ r3;have HKD:=Hd hkd;clear hl1 hcl r0 r3 hR hkd hld hgrQ;by_cases hk2:kd=2
  case neg=>
   have hd3:(kd==2)=false:=by simpa using hk2
   have HBT:=Hd (F6 (t:=t) (i:=i) HKR.out (fun h=>by have h1:=HRI.out;rw[h1,HKD.out];exact hk2))
   clear hk2;by_cases hc:n1≤i
   ·have hcI:(n1:Int)≤(i:Int):=by omega
    go_wp2_with fail;exact Bv (.tuple #[.int .i64 q,.int .i64 n0,.slice va i vc,.bool true]) (AreaPost.yes HBQ.out (by rw[HAC.out,Ip (by rw[HBT.out,List.length_map,List.length_take,HTK.out];omega)]) (by rw[HBT.out];exact HER.out.weak (fun j _ h1=>Nt HB2.out.size h1)))
   ·have hcI:¬(n1:Int)≤(i:Int):=by omega
    go_wp2_with fail;exact Bv (.tuple #[.int .i64 q,.int .i64 n0,.slice va i vc,.bool false]) (AreaPost.no HBQ.out (by rw[HAC.out,In (by rw[HBT.out,List.length_map,List.length_take,HTK.out];omega)]))
  subst hk2;have HU9:=Hd (JF HER.out HHU.out HLU.out (fun j _ h1=>h1));obtain⟨E,hE⟩:=Xq ((t.take i).map (·.load));have HTS:=Hd (show E++[R.load]=(t.take (i+1)).map (·.load) by rw[←hE,List.take_add_one,List.getElem?_eq_getElem hit,HRI.out];simp)
  have HLN:=Hd (show E.length=i by rw[←hE,List.length_map,List.length_take];omega);rw[hE]at HER;clear hE;go_wp2_with (at_builtin;refine GE rfl (.tmp 91) (.tmp 97) rfl rfl HER.out HU9.out rfl HLN.out (by omega) ?_;refine Stop.on ?_)
  refine Stop.go ?_;intro a5 c5 Q3 he3 hc3 ho3
  try simp only[P0,P1,P2,P3,P4]
  have HOB3:=Hd (show∀g,(Value.slice a5 (i+1) c5).ownBlock=some g→U5.heap.size≤g from fun g hg=>(ho3 g hg).elim (HOB.out g) (fun h1=>Nt HCR.out.size h1));have HC3:=Hd (HCR.out.trans (hc3.mono (G:=fun j=>U5.heap.size≤j) (fun j e=>HOB.out j e)) (fun j e=>.inl e));rw[HTS.out]at he3;have HE3:=Hd (he3.weak (G:=fun j=>W2.heap.size≤j) (fun j _ h1=>h1.elim id (fun h2=>by have h3:=HCR.out.size;have h4:=HU5.out.size;have h5:=HSU.out;omega)));have HKS:=Hd (show∀j (h:j<t.length),j<i+1→t[j].kind=2 from fun j h h1=>by
   by_cases h2:j<i
   ·exact HKR.out j h h2
   ·obtain rfl :j=i:=by omega
    rw[HRI.out];exact HKD.out)
  clear he3 hc3 ho3 y0 y3;go_wp2_with fail;go_roundw
  case rel=>exact⟨i+1,a5,c5,by omega,by go_num,rfl,HE3,HOB3,HKS,HC3⟩
  case measure=>simp[intOf]<;>omega
variable {F:Nat→Prop}
theorem Ra (h:S.ok) (s:Int) (l:List UInt8):(S.write s l).1.ok:=by
 have h1:=Jo h;unfold DS.write;split
 ·exact h
 split
 ·rename_i hh;split
  ·rename_i hl;split
   ·refine⟨h1.dur,fun x hx=>?_,h1.most⟩;rcases List.mem_append.1 hx with hx|hx
    ·exact h1.pend x hx
    ·rw[List.mem_singleton]at hx;subst hx;have h2:0≤s∧s<(S.dur.length:Int):=by simpa[DS.has]using hh
     have h3:=(AN S).2;refine⟨?_,hl⟩;show s.toNat<S.operate.1.dur.length;rw[h3];omega
   ·exact h1
  ·exact h
 ·exact h
structure RefD (w:World) (G:Nat→Prop) (S:DS) (v:Value):Prop where
 at_:RefAt w G S v
 ok:S.ok
section
variable {w w':World} {G:Nat→Prop} {S:DS} {v:Value}
theorem RefD.below (h:RefD w G S v) (hb:Below w.heap.size w w'):RefD w' G S v:=⟨h.at_.below hb,h.ok⟩
theorem RefD.mono {G':Nat→Prop} (h:RefD w G S v) (hG:∀k,G k→G' k):RefD w G' S v:=⟨h.at_.mono hG,h.ok⟩
theorem RefD.bound (h:RefD w G S v):RefD w (fun k=>G k∧k<w.heap.size) S v:=⟨h.at_.bound,h.ok⟩
theorem RefD.kept (h:RefD w G S v) (hc:Chg F w w') (hd:∀k,G k→¬F k):RefD w' G S v:=⟨h.at_.kept hc hd,h.ok⟩
theorem RefD.form (h:RefD w G S v):∃(da:Option Addr) (dn dc:Nat) (dd:Option Addr) (dm de:Nat) (dl:Int) (db:Bool) (dz:Int),v=.agg #[.slice da dn dc,.slice dd dm de,.int .i64 dl,.bool db,.int .i64 dz]:=by obtain⟨dv,wv,rfl,h1,h2⟩:=h.at_;obtain⟨a,c,rfl⟩:=h1.len;obtain⟨a',c',rfl⟩:=h2.len;exact⟨_,_,_,_,_,_,_,_,_,rfl⟩
theorem OW {D:Nat→Prop}{bv':Value} (h:RefD w G S v) (s:Int) (hv:BytesAt w D bv' l) (hr:Roomy S 910000000):
 Ca 82 #[v,.int .i64 s,bv'] w fun e w'=>∃v',e=.returned (.tuple #[v',.int .i64 (S.write s l).2])∧RefD w' (fun k=>G k∨w.heap.size≤k) (S.write s l).1 v'∧Below w.heap.size w w':=by
 have h1:=hr.ops;have h2:=hr.pend;refine(P6 s l h.at_ hv h.ok (by omega) (by omega) hr.lim).mono ?_;rintro e w' ⟨v',rfl,k1,k2⟩;exact⟨v',rfl,⟨k1,Ra h.ok s l⟩,k2⟩
end
def PutPost (w:World) (G:Nat→Prop) (Z:DS×Int) (n:Nat) (e:Ending) (w':World):Prop:=
 ∃v',e=.returned (.tuple #[v',.int .i64 (if Z.2=0 then(n:Int)else 0),.int .i64 Z.2])∧RefD w' (fun k=>G k∨w.heap.size≤k) Z.1 v'∧Below w.heap.size w w'
theorem PutPost.mk {G':Nat→Prop}{er:Int}{Z:DS×Int}{k:Int} (hZ:Z=(S,er)) (hk:k=if er=0 then(n:Int)else 0) (h:RefD w' G' S v) (hG:∀k,G' k→G k∨w.heap.size≤k) (hb:Below w.heap.size w w'):
 PutPost w G Z n (.returned (.tuple #[v,.int .i64 k,.int .i64 er])) w':=by
 subst hZ hk;exact⟨v,rfl,h.mono hG,hb⟩
theorem G8 (hD:RefD w G S v) (a:Nat) (r:RecD) (hr0:As r=0) {ba:Option Addr} {bc:Nat} {D:Nat→Prop} (hv:BytesN w D (.slice ba r.load.length bc) r.load) (ha:a+(Ac r).length≤4096) (hroom:Roomy S (910000000+(Ac r).length)):
 Ca 64 #[v,.int .i64 a,.int .i64 r.kind,.int .i64 r.gen,.int .i64 r.num,.slice ba r.load.length bc] w (PutPost w G (wrL S a (Ac r)) (Ac r).length):=by
 obtain⟨da,dn,dc,dd,dm,de,dl,db,dz,rfl⟩:=hD.form;obtain⟨N,hN⟩:=Xq ((Ac r).length);have HSP:=Hd (fun(W:World) (hW:Below w.heap.size w W)=>Oq r ba r.load.length bc (hv.below hW));obtain⟨Z,hZ⟩:=Xq (wrL S a (Ac r));have HZ:=Hd hZ;unfold SplitPost at HSP;rw[hr0]at HSP;obtain⟨L,hL⟩:=Xq (Ac r);have HN:=Hd (show L.length=N by rw[←hL];exact hN);have HL256:=Hd (show∀b∈L,b.length=256 by rw[←hL];exact CV r);rw[hL]at HSP HZ;rw[hZ,hN];rw[hN]at ha hroom;obtain⟨rk,hrk⟩:∃x,r.kind=x:=⟨_,rfl⟩;obtain⟨rg,hrg⟩:∃x,r.gen=x:=⟨_,rfl⟩;obtain⟨rn,hrn⟩:∃x,r.num=x:=⟨_,rfl⟩;obtain⟨rl,hrl⟩:∃x,r.load.length=x:=⟨_,rfl⟩;rw[hrk,hrg,hrn,hrl]at HSP;rw[hrk,hrg,hrn,hrl];obtain⟨w1,hw1⟩:=Xq (w.alloc (.cells #[.slice da dn dc,.slice dd dm de,.int .i64 dl,.bool db,.int .i64 dz] 39));obtain⟨w2,hw2⟩:=Xq (w1.alloc (.cells #[.slice none 0 0,.slice none 0 0,.int .i64 0,.bool false,.int .i64 0] 39));have hb1:=Lq hw1;have hb2:=Lq hw2;obtain⟨q6,hq6⟩:∃q,w.heap.size=q:=⟨_,rfl⟩;have hs1:w1.heap.size=q6+1:=by rw[←hw1,Sz,hq6]
 have hs2:w2.heap.size=q6+2:=by rw[←hw2,Sz,hs1]
 have hx6:w2.heap[q6]?=some (.cells #[.slice da dn dc,.slice dd dm de,.int .i64 dl,.bool db,.int .i64 dz] 39 (0,0)):=(hb2.block q6 (by omega)).trans (by rw[←hq6,←hw1];exact Hn);have hx12:w2.heap[q6+1]?=some (.cells #[.slice none 0 0,.slice none 0 0,.int .i64 0,.bool false,.int .i64 0] 39 (0,0)):=by rw[←hs1,←hw2];exact Hn
 obtain⟨HW1,HW2,HQ,HS1,HB2,HX6,HX12,HS2⟩:=Hd8 hw1 hw2 hq6 hs1 (show Below w.heap.size w w2 from Tq hb1 hb2) hx6 hx12 hs2;have HRD:=Hd (hD.bound.below HB2.out);have HROOM:=Hd hroom;clear hZ hL hrk hrg hrn hrl hw1 hw2 hb1 hb2 hq6 hs1 hs2 hx6 hx12 hD hv hroom hN;go_enter Tryz.func64,Tryz.ntmps64;go_wp2_with fail;rw[HW1.out,HW2.out]
 try rw[HS1.out]
 try rw[HQ.out]
 refine(HSP.out w2 HB2.out).mono ?_;rintro e w3 ⟨sv,rfl,hsv,hb3⟩;obtain⟨sa,sc,rfl⟩:=hsv.form;rw[HN.out];obtain⟨HSV,HB3,HX6a,HX12a,HRD3,HS3,HWR0,HRM0,HC0⟩:=Hd9 (show EntsAt w3 (fun k=>w2.heap.size≤k) (.slice sa N sc) L by have h1:=hsv.ents;rwa [HN.out]at h1) (Tq HB2.out hb3) ((hb3.block q6 (by have:=HS2.out;omega)).trans HX6.out) ((hb3.block (q6+1) (by have:=HS2.out;omega)).trans HX12.out) ((HRD.out.below hb3).mono (G':=fun k=>(G k∧k<q6)∨w3.heap.size≤k) (fun k h=>.inl ⟨h.1,by rw[←HQ.out];exact h.2⟩)) (show q6+2≤w3.heap.size by have h1:=hb3.size;have h2:=HS2.out;omega) (show wrL S (a+0) (L.drop 0)=Z from HZ.out) (show Roomy S (910000000+(N-0))from HROOM.out) (Chg.refl (fun k=>k=q6) w3);clear hsv hb3 HSP HX6 HX12 HRD;go_wp2_with fail;go_loopw [18] (fun iv wr=>∃(i:Nat) (T:DS) (da:Option Addr) (dn dc:Nat) (dd:Option Addr) (dm de:Nat) (dl:Int) (db:Bool) (dz:Int),i≤N∧iv=.int .i64 i∧Hid (wrL T (a+i) (L.drop i)=Z)∧Hid (Roomy T (910000000+(N-i)))∧Hid (RefD wr (fun k=>(G k∧k<q6)∨w3.heap.size≤k) T (.agg #[.slice da dn dc,.slice dd dm de,.int .i64 dl,.bool db,.int .i64 dz]))∧Hid (wr.heap[q6]?=some (.cells #[.slice da dn dc,.slice dd dm de,.int .i64 dl,.bool db,.int .i64 dz] 39 (0,0)))∧Hid (Chg (fun k=>k=q6) w3 wr)) (fun iv _=>N-(intOf iv).toNat)
 case atStart=>exact⟨0,S,_,_,_,_,_,_,_,_,_,Nat.zero_le _,rfl,HWR0,HRM0,HRD3,HX6a,HC0⟩
 case round=>
  clear HX6a HRD3 HC0 HWR0 HRM0;obtain⟨i,T,da,dn,dc,dd,dm,de,dl,db,dz,hi,rfl,HWR,HRM,HRT,HX6,HCR⟩:=hrel;obtain⟨V0,rfl⟩:∃V0,V0=wr:=⟨_,rfl⟩;have HX12:=Hd ((HCR.out.block (q6+1) (by have:=HS3.out;omega) (by omega)).trans HX12a.out);have HBV:=Hd (HB3.out.trans (HCR.out.below (B:=w.heap.size) (fun k e=>by have:=HQ.out;omega) HB3.out.size));obtain⟨k0,k1,k2,k3,k4⟩:=Cr5 (HX6.out);by_cases hlt:i<N
  case neg=>
   obtain rfl :N=i:=by omega
   obtain rfl :(T,0)=Z:=by have h1:=HWR.out;rw[List.drop_of_length_le (by rw[HN.out];exact Nat.le_refl _)]at h1;exact h1
   go_wp2_with (refine Pl 39 12 50 (q6+1) HX12.out ?_;refine Stop.on ?_)
   refine Stop.go ?_
   try simp only[P0,P1,P2,P3,P4]
   intro V9 x9 c9 s9
   try simp only[P0,P1,P2,P3,P4]
   obtain⟨y0,y1,y2,y3,y4⟩:=Cr5 (x9);have HRE:=Hd (HRT.out.kept c9 (fun k h e=>by have h1:=HS3.out;rcases h with h|h<;>omega));have HBE:=Hd (HBV.out.trans (c9.below (B:=w.heap.size) (fun k e=>by have:=HQ.out;omega) HBV.out.size));clear x9 c9 s9;go_wp2_with fail;exact Bv (hr:=by simp[go_sem,y0,y1,y2,y3,y4]) (.tuple #[.agg #[.slice da dn dc,.slice dd dm de,.int .i64 dl,.bool db,.int .i64 dz],.int .i64 N,.int .i64 0]) (PutPost.mk rfl (Ip rfl).symm HRE.out (fun k h=>h.elim (fun h=>.inl h.1) (fun h=>.inr (by have h1:=HB3.out.size;omega))) HBE.out)
  have hiI:(i:Int)<(N:Int):=by omega
  have hiL:i<L.length:=by rw[HN.out];exact hlt
  obtain⟨gs,x,xc,e9,hgs,hcell,hbx⟩:=HSV.out.get hiL;subst e9;obtain⟨B,hB⟩:=Xq (L[i]);have HB256:=Hd (show B.length=256 by rw[←hB];exact HL256.out _ (List.getElem_mem _));have HDR:=Hd (show L.drop i=B::L.drop (i+1) by rw[List.drop_eq_getElem_cons hiL,hB]);rw[hB,HB256.out]at hcell hbx;have hgs2:gs≠q6:=fun e=>by obtain⟨vs,h1,h2,_⟩:=HSV.out.ex;have h3:=h2 gs rfl;have:=HS2.out;omega
  have hcV:V0.cell? ⟨gs,i,none⟩=some (.slice x 256 xc):=by have h1:V0.heap[gs]?=w3.heap[gs]?:=HCR.out.block gs hgs hgs2;rw[←hcell];simp only[World.cell?,h1]
  have HBX:=Hd (hbx.chg HCR.out (fun k _ h e=>by have:=HS2.out;omega));have HCE:=Hd (show∀w',Below V0.heap.size V0 w'→w'.cell? ⟨q6,0,none⟩=some (.slice da dn dc)∧w'.cell? ⟨q6,1,none⟩=some (.slice dd dm de)∧w'.cell? ⟨q6,2,none⟩=some (.int .i64 dl)∧w'.cell? ⟨q6,3,none⟩=some (.bool db)∧w'.cell? ⟨q6,4,none⟩=some (.int .i64 dz)∧w'.cell? ⟨gs,i,none⟩=some (.slice x 256 xc)from fun w' hw'=>by have hq:=(Ax HX6.out).1;refine⟨(hw'.cell (p:=⟨q6,0,none⟩) hq).trans k0,(hw'.cell (p:=⟨q6,1,none⟩) hq).trans k1,(hw'.cell (p:=⟨q6,2,none⟩) hq).trans k2,(hw'.cell (p:=⟨q6,3,none⟩) hq).trans k3,(hw'.cell (p:=⟨q6,4,none⟩) hq).trans k4,(hw'.cell (p:=⟨gs,i,none⟩) (Nl hgs HCR.out.size)).trans hcV⟩)
  have HWD:=Hd (fun(W:World) (hW:Below V0.heap.size V0 W)=>OW (HRT.out.below hW) (((a+i:Nat):Nat):Int) (HBX.out.below hW).at_ (HRM.out.less (by omega)));have HRM2:=Hd (show Roomy (T.write ((a+i:Nat):Int) B).1 (910000000+(N-(i+1)))from GT (HRM.out.less (by omega)) _ _);obtain⟨Y,hY⟩:=Xq (T.write ((a+i:Nat):Int) B);have HWC:=Hd (show(if Y.2=0 then wrL Y.1 (a+i+1) (L.drop (i+1))else Y)=Z by have h1:=HWR.out;rw[HDR.out,wrL,hY]at h1;exact h1)
  rw[hY]at HWD HRM2;obtain⟨T2,er⟩:=Y;simp only at HWD HRM2 HWC;rw[show((a+i:Nat):Int)=(a:Int)+(i:Int)from Int.natCast_add a i]at HWD;clear hY hB hcell hbx hcV k0 k1 k2 k3 k4;go_wp2_with fail;refine bG [12,13] ?_;intro wd hd0;have hS0:=hd0;refine BV 0 HCE.out hS0 ?_;refine tkP 1 hS0 ?_;refine tkP 2 hS0 ?_;refine tkP 3 hS0 ?_ (hy:=fun w' hw'=>by(have hwr:=Iw ((a:Int)+(i:Int));first| (go_simp;rfl)| (go_simp;done)));refine tkP 4 hS0 ?_;refine tkP 5 hS0 ?_;refine tkP 6 hS0 ?_;refine BV 7 HCE.out hS0 ?_;refine dG 8 fun K hK=>?_
  go_simp;go_at_call 82;refine(HWD.out wd hd0).mono ?_;rintro e V1 ⟨v',rfl,hrd,hb1⟩;obtain⟨fa,fn,fc,fd,fm,fe,fl,fb,fz,rfl⟩:=hrd.form;have hb01:=Tq hd0 hb1;refine Kq hK hb01 ?_;refine tkP 9 hb01 ?_;refine tkP 10 hb01 ?_;refine tkP 11 hb01 ?_;refine dGf 12 fun K hK=>?_
  refine Pv 39 6 44 q6 (Bq hb01 HX6.out) ?_;intro V2 x2 c2 s2;refine Kr hK ?_;refine dGf 13 fun K hK=>?_
  go_simp;refine Kr hK ?_;refine eG ?_;obtain⟨HRT2,HX2,HC2⟩:=Hd3 ((hrd.mono (G':=fun k=>(G k∧k<q6)∨w3.heap.size≤k) (fun k h=>h.elim id (fun h=>.inr (by have h1:=HCR.out.size;have h2:=hd0.size;omega)))).kept c2 (fun k h e=>by have h1:=HS3.out;rcases h with h|h<;>omega)) (show V2.heap[q6]?=some (.cells #[.slice fa fn fc,.slice fd fm fe,.int .i64 fl,.bool fb,.int .i64 fz] 39 (0,0))from x2) ((HCR.out.trans (Cb (F:=fun k=>k=q6) hb01) (fun k e=>.inl e)).trans c2 (fun k e=>.inl e));have HBV2:=Hd (HB3.out.trans (HC2.out.below (B:=w.heap.size) (fun k e=>by have:=HQ.out;omega) HB3.out.size));have HX122:=Hd ((HC2.out.block (q6+1) (by have:=HS3.out;omega) (by omega)).trans HX12a.out);clear hrd x2 c2 s2 hb01 hb1 hd0 hS0 HRT HX6 HX12 HCE HWD HBX;by_cases her:er=0
  ·subst her;have HWN:=Hd (show wrL T2 (a+(i+1)) (L.drop (i+1))=Z by have h1:=HWC.out;rw[Ip rfl]at h1;exact h1);go_wp2_with fail;go_roundw
   case rel=>exact⟨i+1,T2,_,_,_,_,_,_,_,_,_,by omega,by go_num,HWN,HRM2,HRT2,HX2,HC2⟩
   case measure=>simp[intOf]<;>omega
  ·have hd:(er !=0)=true:=by simpa using her
   obtain rfl :(T2,er)=Z:=by have h1:=HWC.out;rwa [In her]at h1
   have HER:=Hd her;obtain⟨k0,k1,k2,k3,k4⟩:=Cr5 (HX2.out);go_wp2_with (refine Pl 39 12 48 (q6+1) HX122.out ?_;refine Stop.on ?_)
   refine Stop.go ?_
   try simp only[P0,P1,P2,P3,P4]
   intro V9 x9 c9 s9
   try simp only[P0,P1,P2,P3,P4]
   obtain⟨y0,y1,y2,y3,y4⟩:=Cr5 (x9);have HRE:=Hd (HRT2.out.kept c9 (fun k h e=>by have h1:=HS3.out;rcases h with h|h<;>omega));have HBE:=Hd (HBV2.out.trans (c9.below (B:=w.heap.size) (fun k e=>by have:=HQ.out;omega) HBV2.out.size));clear x9 c9 s9;go_wp2_with fail;exact Bv (hr:=by simp[go_sem,y0,y1,y2,y3,y4]) (.tuple #[.agg #[.slice fa fn fc,.slice fd fm fe,.int .i64 fl,.bool fb,.int .i64 fz],.int .i64 0,.int .i64 er]) (PutPost.mk rfl (In HER.out).symm HRE.out (fun k h=>h.elim (fun h=>.inl h.1) (fun h=>.inr (by have h1:=HB3.out.size;omega))) HBE.out)
variable {g m:Nat}{o:Oper}{a:Act}{Q:Exit→Act→World→Prop}{K:Act→World→Prop}{R:JR}{J:JD}
structure SecsF (w:World) (F:Nat→Prop) (v:Value) (L:List (List UInt8)):Prop where
 ex:∃a cap vs,v=.slice a L.length cap∧L.length≤cap∧vs.length=L.length∧(L≠[]→∃g off,a=some ⟨g,off,none⟩∧F g∧g<w.heap.size∧w.rangeAt g off vs)∧
  (∀k c,v=.slice none k c→c=0)∧∀i (h:i<L.length),∃u,vs[i]?=some u∧BytesN w F u L[i]
section
variable {w w':World} {F G:Nat→Prop} {v:Value} {L:List (List UInt8)}
theorem SecsF.form (h:SecsF w F v L):∃a cap,v=.slice a L.length cap∧L.length≤cap∧(a=none→cap=0):=by obtain⟨a,cap,vs,rfl,h1,_,_,h2,_⟩:=h.ex;exact⟨a,cap,rfl,h1,fun e=>by subst e;exact h2 _ _ rfl⟩
theorem SecsF.weak (h:SecsF w F v L) (hFG:∀k,k<w.heap.size→F k→G k):SecsF w G v L:=by
 obtain⟨a,cap,vs,e,h1,h2,h3,h4,h5⟩:=h.ex;refine⟨a,cap,vs,e,h1,h2,fun hne=>?_,h4,fun i hi=>?_⟩
 ·obtain⟨g,off,e1,k1,k2,k3⟩:=h3 hne;exact⟨g,off,e1,hFG g k2 k1,k2,k3⟩
 ·obtain⟨u,k1,k2⟩:=h5 i hi;exact⟨u,k1,k2.weak hFG⟩
theorem SecsF.chg (h:SecsF w F v L) (hc:Chg G w w') (hd:∀k,k<w.heap.size→F k→¬G k):SecsF w' F v L:=by
 obtain⟨a,cap,vs,e,h1,h2,h3,h4,h5⟩:=h.ex;refine⟨a,cap,vs,e,h1,h2,fun hne=>?_,h4,fun i hi=>?_⟩
 ·obtain⟨g,off,e1,k1,k2,k3⟩:=h3 hne;exact⟨g,off,e1,k1,Nl k2 hc.size,fun j u hu=>hc.cell (p:=⟨g,off+j,none⟩) (hd g k2 k1) (k3 j u hu)⟩
 ·obtain⟨u,k1,k2⟩:=h5 i hi;exact⟨u,k1,k2.chg hc hd⟩
theorem SecsF.below (h:SecsF w F v L) (hb:Below w.heap.size w w'):SecsF w' F v L:=h.chg (G:=fun _=>False) (Cb hb) (fun _ _ _ h=>h)
theorem SecsF.bound (h:SecsF w F v L):SecsF w (fun k=>F k∧k<w.heap.size) v L:=h.weak fun _ h1 h2=>⟨h2,h1⟩
theorem EntsAt.secsF (h:EntsAt w F v L):SecsF w F v L:=by
 obtain⟨vs,h1,h2,h3⟩:=h.ex;obtain⟨a,cap,rfl⟩:=Ag h1;refine⟨a,cap,vs,rfl,?_,by have:=h1.1;omega,fun hne=>?_,(fun k c e=>by cases e;exact Fo h1),fun i hi=>?_⟩
 ·rcases h1.2 with⟨e,h0⟩| ⟨g,cap',cur,e,_,_,hc,_⟩
  ·simp only[Value.slice.injEq]at e;omega
  ·simp only[Value.slice.injEq]at e;obtain⟨-,-,rfl⟩:=e;exact hc
 ·have hpos:0<L.length:=by cases L with|nil=>exact absurd rfl hne|cons=>simp
  obtain⟨g,cap',e,hg,ho,hr⟩:=AZ h1 hpos;cases e;exact⟨g,0,rfl,h2 g ho,hg,fun j u hu=>by rw[Nat.zero_add];exact hr j u hu⟩
 ·obtain⟨u,h4,h5⟩:=h3 i hi;exact⟨u,h4,h5.weak fun _ _ h6=>h6.1⟩
theorem P8 (w:World) (F:Nat→Prop):SecsF w F (.slice none 0 0) []:=(CU w F).secsF
theorem SecsF.get {a:Option Addr}{cap:Nat} (h:SecsF w F (.slice a n cap) L) {i:Nat} (hi:i<L.length):∃g off x c,a=some ⟨g,off,none⟩∧F g∧g<w.heap.size∧w.cell? ⟨g,off+i,none⟩=some (.slice x L[i].length c)∧BytesN w F (.slice x L[i].length c) L[i]:=by obtain⟨a',cap',vs,e,_,_,h3,_,h5⟩:=h.ex;cases e;obtain⟨g,off,e1,k1,k2,k3⟩:=h3 (fun e=>by rw[e]at hi;simp at hi);obtain⟨u,k4,k5⟩:=h5 i hi;obtain⟨x,c,rfl⟩:=k5.form;exact⟨g,off,x,c,e1,k1,k2,k3 i _ k4,k5⟩
theorem SecsF.drop {off cap c:Nat} (h:SecsF w F (.slice (some ⟨g,off,none⟩) n cap) L) (hk:k≤n) (hm:m=n-k) (hc:c=cap-k):SecsF w F (.slice (some ⟨g,off+k,none⟩) m c) (L.drop k):=by
 obtain⟨a',cap',vs,e,h1,h2,h3,_,h5⟩:=h.ex;cases e;have hl:(L.drop k).length=m:=by rw[List.length_drop,hm]
 refine⟨some ⟨g,off+k,none⟩,c,vs.drop k,by rw[hl],by rw[hl];omega,by rw[List.length_drop,List.length_drop];omega,fun hne=>?_,(fun _ _ e=>by cases e),fun i hi=>?_⟩
 ·obtain⟨g',off',e1,k1,k2,k3⟩:=h3 (fun e=>hne (by rw[e];simp));cases e1;exact⟨g,off+k,rfl,k1,k2,fun j u hu=>by rw[List.getElem?_drop]at hu;have:=k3 _ u hu;rwa [←Nat.add_assoc]at this⟩
 ·rw[hl]at hi;obtain⟨u,k4,k5⟩:=h5 (k+i) (by omega);exact⟨u,by rw[List.getElem?_drop];exact k4,by rw[List.getElem_drop];exact k5⟩
theorem Nk (s x:Operand) (ho:o.op=.call {callee:=.builtin .append,args:=#[s,x],argTypes:=#[36,36]})
 (hs:a.eval s=.slice (some ⟨w.heap.size,0,none⟩) 0 0) (hx:a.eval x=v) (hM:SecsF w F v L) {n:Nat} (hn:L.length=n) (hn9:n<1000000000)
 (h:∀a' cap' w',EntsAt w' (fun k=>F k∨w.heap.size≤k) (.slice a' n cap') L→Below w.heap.size w w'→(∀k,(Value.slice a' n cap').ownBlock=some k→w.heap.size≤k)→K (a.put o.dst (.slice a' n cap')) w'):
 o.wp Tryz.prog a (w.alloc (.cells #[] 30)) K Q:=by
 subst hn;obtain⟨w0,hw0⟩:=Xq (w.alloc (.cells #[] 30));have hb0:=Lq hw0;have hs0:w0.heap.size=w.heap.size+1:=by rw[←hw0,Sz]
 have hr0:w0.ownsRow w.heap.size 30 1 (.slice (some ⟨w.heap.size,0,none⟩) 0 0) 0 []:=by rw[←hw0];exact Dy Lr _
 rw[hw0];obtain⟨i0,hi,hz0,hz1,hz2⟩:=info_parts L8;obtain⟨ad,cap,vs,rfl,h1,h2,h3,h4,h5⟩:=(hM.bound.below hb0).ex;cases ad with
 |none=>
  have hL:L=[]:=by
   by_cases hne:L=[]
   ·exact hne
   ·obtain⟨g,off,e,_⟩:=h3 hne;cases e
  subst hL;obtain rfl :cap=0:=h4 _ _ rfl;have hrun:=run_append_owned_none (P:=Tryz.prog) (w:=w0) w.heap.size 36 o.type 30 i0 1 Tryz.underlying36 hi _ 0 [] hr0;unfold Oper.wp execOp;simp only[ho,resolve,invoke,builtin,Sem.run_bind,Sem.run_pure,Result.andThen_ok,List.map_toArray,List.map_cons,List.map_nil,hs,hx];rw[show(Value.slice none ([]:List (List UInt8)).length 0)=.slice none 0 0 from rfl,hrun];exact h (some ⟨w.heap.size,0,none⟩) 0 w0 ⟨[],Am hr0 (Nat.zero_le _),fun g hg=>.inr ((Ab hr0 g hg).1),fun i hi=>by simp at hi⟩ hb0 (fun k hk=>(Ab hr0 k hk).1)
 |some ad=>
  have hone:∀y∈vs,y.oneCell'=true:=fun y hy=>by obtain⟨j,hj,rfl⟩:=List.mem_iff_getElem.1 hy;obtain⟨u,k1,k2⟩:=h5 j (by omega);rw[List.getElem?_eq_getElem hj]at k1;cases k1;obtain⟨ya,yc,e⟩:=k2.form;rw[e];rfl
  have hnew:∀j u,vs[j]?=some u→w0.cell? (ad.add j)=some u:=fun j u hu=>by obtain⟨g,off,e,_,_,k3⟩:=h3 (fun e=>by subst e;rw[List.eq_nil_of_length_eq_zero h2]at hu;simp at hu);cases e;rw[Dr];exact k3 j u hu
  obtain⟨v',w',hrun,hown',hgrow,_⟩:=run_append_own (P:=Tryz.prog) w0 w.heap.size 36 o.type 30 i0 _ 1 24 Tryz.underlying36 hi hz0 hz1 hz2 rfl (by decide) (.slice (some ⟨w.heap.size,0,none⟩) 0 0) 0 [] hr0 ad L.length cap vs (by omega) hnew hone (by unfold maxLen;omega) (by omega) (by omega);rw[Nat.zero_add,List.nil_append]at hown';obtain⟨a',cap',rfl⟩:=Ag hown';have hc:Chg (fun k=>w.heap.size≤k) w0 w':=Chg.grown hgrow (fun k hk=>.inl (by have e:w.heap.size=k:=Option.some.inj hk;omega));unfold Oper.wp execOp;simp only[ho,resolve,invoke,builtin,Sem.run_bind,Sem.run_pure,Result.andThen_ok,List.map_toArray,List.map_cons,List.map_nil,hs,hx,hrun];refine h a' cap' w' ⟨vs,Am hown' (Nat.zero_le _),fun g hg=>.inr (Ab hown' g hg).1,fun i hi=>?_⟩ (hb0.trans (hc.below (fun k hk=>hk) (by omega))) (fun k hk=>(Ab hown' k hk).1);obtain⟨u,k1,k2⟩:=h5 i hi;refine⟨u,k1,(k2.chg hc (fun k _ h6 h7=>by have:=h6.2;omega)).weak (fun k _ h6=>⟨.inl h6.1,fun e=>by have:=(Ab hown' k e).1;have:=h6.2;omega⟩)⟩
end
def Do (R:JR) (J:JD) (ev:Value):Array Value:=#[.int .i64 (R.at_:Int),.int .i64 (R.half:Int),.int .i64 (J.gen:Int),.int .i64 (J.used:Int),.int .i64 (J.first:Int),ev,.int .i64 (J.synced:Int),.int .i64 J.failed]
structure RefJ (w:World) (G:Nat→Prop) (R:JR) (J:JD) (v:Value):Prop where
 ex:∃a cap,v=.agg (Do R J (.slice a J.ents.length cap))∧SecsF w G (.slice a J.ents.length cap) J.ents
theorem RefJ.below (h:RefJ w G R J v) (hb:Below w.heap.size w w'):RefJ w' G R J v:=by obtain⟨a,cap,e,h1⟩:=h.ex;exact⟨a,cap,e,h1.below hb⟩
theorem RefJ.mono {G':Nat→Prop} (h:RefJ w G R J v) (hG:∀k,k<w.heap.size→G k→G' k):RefJ w G' R J v:=by obtain⟨a,cap,e,h1⟩:=h.ex;exact⟨a,cap,e,h1.weak hG⟩
theorem RefJ.kept (h:RefJ w G R J v) (hc:Chg F w w') (hd:∀k,k<w.heap.size→G k→¬F k):RefJ w' G R J v:=by obtain⟨a,cap,e,h1⟩:=h.ex;exact⟨a,cap,e,h1.chg hc hd⟩
section
variable {w w1 w2:World} {a b:Nat} {o:Obj}
theorem DW (h:Chg (fun k=>k=a∨k=b) w w1) (k:Chg (fun k=>k=a) w1 w2):Chg (fun k=>k=a∨k=b) w w2:=h.trans (k.mono (G:=fun k=>k=a∨k=b) (fun k e=>.inl e)) (fun k e=>.inl e)
theorem DX (h:Chg (fun k=>k=a∨k=b) w w1) (k:Chg (fun k=>k=b) w1 w2):Chg (fun k=>k=a∨k=b) w w2:=h.trans (k.mono (G:=fun k=>k=a∨k=b) (fun k e=>.inr e)) (fun k e=>.inl e)
theorem ckS (c:Chg (fun k=>k=a) w1 w2) (d:Below w.heap.size w w1) (h:w.heap[b]?=some o) (hb:b≠a:=by omega):w2.heap[b]?=some o:=
 (c.block b (Nl (Ax h).1 d.size) hb).trans (Bq d h)
end
end Go.Proofs.YtplclpileejemaaGreatDoor
