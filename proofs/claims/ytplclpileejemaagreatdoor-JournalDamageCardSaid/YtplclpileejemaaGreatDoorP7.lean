/- Short form (wip/zpack.py) of the texts J7 J8 J9 J10 J11 Jp2 Jp3 Jp4 Jp5. -/
import Derived.Test.YtplclpileejemaaGreatDoorP6
set_option linter.all false
set_option maxRecDepth 100000
set_option maxHeartbeats 8000000
namespace Go.Proofs.YtplclpileejemaaGreatDoor
open Go.RowKit
variable {w:World}{F:Nat→Prop}
theorem IN (V X:Nat) (hV:V<256^7) (hX:X<256):bits .or .u64 ((V:Int)*256) (X:Int)=((V*256+X:Nat):Int):=by
 have h1:(BitVec.ofInt 64 ((V*256:Nat):Int)).toNat=V*256:=by rw[BitVec.ofInt_natCast,BitVec.toNat_ofNat];exact Nat.mod_eq_of_lt (by omega)
 have h2:(BitVec.ofInt 64 (X:Int)).toNat=X:=by rw[BitVec.ofInt_natCast,BitVec.toNat_ofNat];exact Nat.mod_eq_of_lt (by omega)
 have e:(V:Int)*256=((V*256:Nat):Int):=by omega
 rw[e];show IntKind.u64.wrap ((BitVec.ofInt 64 ((V*256:Nat):Int)|||BitVec.ofInt 64 (X:Int)).toNat:Int)=_;rw[BitVec.toNat_or,h1,h2,Pq V X hX];exact IntWalk.u64_in _ (by omega)
def hdN (l:List UInt8) (i:Nat):Nat×Nat:=(Ae (l.take (min i 8)),Ae ((l.drop 8).take (i-8)))
def Ow (o:Option (Nat×Nat)):Value:=match o with
 |none=>.tuple #[.int .i64 0,.int .i64 0,.bool false]
 |some (f,c)=>.tuple #[.int .i64 f,.int .i64 c,.bool true]
theorem JB (v:Value) (l:List UInt8) (hv:BytesAt w F v l) (hl:l.length<1000000000):
 Ca 95 #[v] w fun e w'=>e=.returned (Ow (C9 l))∧Below w.heap.size w w':=by
 obtain⟨va,vc,rfl⟩:=hv.form;by_cases h16:l.length=16
 case neg=>
  have hn:C9 l=none:=In (fun h=>h16 h.1);have HNV:=Hd (show Ow (C9 l)=.tuple #[.int .i64 0,.int .i64 0,.bool false] by rw[hn];rfl);have hd:((l.length:Int)!=16)=true:=by simp;omega
  obtain⟨n,hnn⟩:=Xq (l.length);rw[hnn]at hd⊢;clear hn hv h16 hnn;go_enter Tryz.func95,Tryz.ntmps95;go_wp2_with fail;rw[HNV.out];exact Bv (.tuple #[.int .i64 0,.int .i64 0,.bool false]) ⟨rfl,Rq⟩
 rw[h16]at hv⊢;obtain⟨w0,hw0⟩:=Xq (w.alloc (.cells #[.int .u64 0,.int .u64 0] 187));have hb0:=Lq hw0;have hx0:=Nq hw0 rfl;have hs0:w0.heap.size=w.heap.size+1:=by rw[←hw0];simp
 obtain⟨B,hB⟩:=Xq (w.heap.size);rw[hB]at hx0;obtain⟨HV,H16,HW0,HB0,HB,HS0,HX0,HC0⟩:=Hd8 hv h16 hw0 hb0 hB (show w0.heap.size=B+1 by omega) (show w0.heap[B]?=some (.cells #[.int .u64 ((hdN l 0).1:Int),.int .u64 ((hdN l 0).2:Int)] 187 (0,0))from hx0) (Chg.refl (fun k=>k=B) w0);obtain⟨z,hz⟩:=Xq (Ow (C9 l));rw[hz];have HZ:=Hd hz;clear hv h16 hw0 hb0 hx0 hs0 hB hz;go_enter Tryz.func95,Tryz.ntmps95;go_wp2_with fail;rw[HW0.out,HB.out];go_loopw [13] (fun iv wr=>∃i:Nat,i≤16∧iv=.int .i64 i∧Hid (wr.heap[B]?=some (.cells #[.int .u64 ((hdN l i).1:Int),.int .u64 ((hdN l i).2:Int)] 187 (0,0)))∧Hid (Chg (fun k=>k=B) w0 wr)) (fun iv _=>16-(intOf iv).toNat)
 case atStart=>exact⟨0,by omega,rfl,HX0,HC0⟩
 case round=>
  obtain⟨i,hi,rfl,HX,HC⟩:=hrel;obtain⟨W0,rfl⟩:∃W0,W0=wr:=⟨_,rfl⟩;clear HX0 HC0;have HBW:=Hd (HB0.out.trans (HC.out.below (B:=w.heap.size) (fun j e=>by have:=HB.out;omega) HB0.out.size));obtain⟨n0,hn0⟩:=Xq ((hdN l i).1);obtain⟨n1,hn1⟩:=Xq ((hdN l i).2);rw[hn0,hn1]at HX;have c0:=Cq HX.out 0;have c1:=Cq HX.out 1;have f0:W0.frozen? ⟨B,0,none⟩=false:=frozen_of_row _ _ _ _ _ HX.out;have f1:W0.frozen? ⟨B,1,none⟩=false:=frozen_of_row _ _ _ _ _ HX.out;by_cases hlt:i<16
  case neg=>
   obtain rfl :i=16:=by omega
   have HN0:=Hd (show Ae (l.take 8)=n0 from hn0);have HN1:=Hd (show Ae (l.drop 8)=n1 by have h1:=hn1;unfold hdN at h1;rw[show(l.drop 8).take (16-8)=l.drop 8 from List.take_of_length_le (by rw[List.length_drop,H16.out];exact Nat.le_refl _)]at h1;exact h1)
   clear hn0 hn1;by_cases hb0:2147483647<n0
   ·have hd:decide ((2147483647:Int)<(n0:Int))=true:=decide_eq_true (by omega);have hd2:decide (2147483647<n0)=true:=decide_eq_true hb0;obtain rfl :.tuple #[.int .i64 0,.int .i64 0,.bool false]=z:=by rw[←HZ.out];unfold C9 C3;rw[HN0.out,In (fun h=>by omega)];rfl
    go_wp2_with fail;exact Bv (.tuple #[.int .i64 0,.int .i64 0,.bool false]) ⟨rfl,HBW.out⟩
   have hd:decide ((2147483647:Int)<(n0:Int))=false:=decide_eq_false (by omega);have hd2:decide (2147483647<n0)=false:=decide_eq_false hb0;by_cases hb1:2147483647<n1
   ·have hd3:decide ((2147483647:Int)<(n1:Int))=true:=decide_eq_true (by omega);have hd4:decide (2147483647<n1)=true:=decide_eq_true hb1;obtain rfl :.tuple #[.int .i64 0,.int .i64 0,.bool false]=z:=by rw[←HZ.out];unfold C9 C3;rw[HN1.out,In (fun h=>by omega)];rfl
    go_wp2_with fail;exact Bv (.tuple #[.int .i64 0,.int .i64 0,.bool false]) ⟨rfl,HBW.out⟩
   have hd3:decide ((2147483647:Int)<(n1:Int))=false:=decide_eq_false (by omega);have hd4:decide (2147483647<n1)=false:=decide_eq_false hb1;obtain rfl :.tuple #[.int .i64 n0,.int .i64 n1,.bool true]=z:=by rw[←HZ.out];unfold C9 C3;rw[HN0.out,HN1.out,Ip ⟨H16.out,by omega,by omega⟩];rfl
   have HNC:=Hd (fun w' (hw':Below W0.heap.size W0 w')=>by have h1:=(Bq hw' HX.out);exact Dq2 (Cq h1 0) (Cq h1 1));have hw0:=Iw (n0:Int);have hw1:=Iw (n1:Int);go_wp2_with fail;refine Np ?_;refine BM (Below W0.heap.size W0) (by kernel_rfl) ?_;have hS0:(Below W0.heap.size W0) W0.drew:=Rq.drew;obtain⟨wd,hwd⟩:=Xq (W0.drew);rw[hwd]at hS0⊢;clear hwd;refine tkH 0 hS0 ?_;refine AD 1 HNC.out hS0 ?_;refine tkH 2 hS0 ?_;refine tkH 3 hS0 ?_;refine AD 4 HNC.out hS0 ?_;refine tkH 5 hS0 ?_;refine tkH 6 hS0 ?_;refine tkH 7 hS0 ?_;refine tkH 8 hS0 ?_;refine eH ?_;have HBE:=Hd (Tq HBW.out hS0);go_wp2_with fail;exact Bv (.tuple #[.int .i64 n0,.int .i64 n1,.bool true]) ⟨rfl,HBE.out⟩
  have hiI:(i:Int)<16:=by omega
  have hil:i<l.length:=by rw[H16.out];exact hlt
  have hvw:=HV.out.below HBW.out;obtain⟨g',off',e9,hc⟩:=BytesAt.get (show BytesAt W0 F (.slice va l.length vc) l by rw[H16.out];exact hvw) hil;subst e9;obtain⟨X,hX⟩:=Xq (l[i]);rw[hX]at hc;have hx256:X.toNat<256:=UInt8.toNat_lt _;obtain⟨x,hx⟩:=Xq (X.toNat);rw[hx]at hc hx256;by_cases h8:i<8
  ·have hdiv:(i:Int)/8=0:=by omega
   have hv0:=FE (l.take (min i 8));have hle:(l.take (min i 8)).length≤7:=by rw[List.length_take];omega
   have hv7:n0<256^7:=by rw[←hn0];exact Nl hv0 (Nat.pow_le_pow_right (by decide) hle)
   have HV0:=Hd (show bits .or .u64 (IntKind.u64.wrap ((n0:Int)*256)) (x:Int)=((n0*256+x:Nat):Int) by rw[show IntKind.u64.wrap ((n0:Int)*256)=(n0:Int)*256 from IntWalk.u64_in _ (by omega)];exact IN n0 x hv7 hx256)
   have HNX:=Hd (show hdN l (i+1)=(n0*256+x,n1) by unfold hdN at hn0 hn1⊢;rw[Nat.min_eq_left (by omega)]at hn0⊢;rw[List.take_succ_eq_append_getElem hil,Eh,hX,hx];dsimp only at hn0 hn1⊢;rw[hn0,show i+1-8=i-8 by omega,hn1])
   clear hvw hn0 hn1 hv0 hle hX hx hv7;go_wp2_with fail;rw[HV0.out];go_roundw
   case rel=>exact⟨i+1,by omega,by go_num,Hd (by rw[HNX.out];exact Sc _ _ _ _ _ _ HX.out),Hd (HC.out.trans (Chg.setCell (F:=fun k=>k=B) _ _ rfl) (fun _ h=>.inl h))⟩
   case measure=>simp[intOf]<;>omega
  ·have hdiv:(i:Int)/8=1:=by omega
   have hv0:=FE ((l.drop 8).take (i-8));have hle:((l.drop 8).take (i-8)).length≤7:=by rw[List.length_take];omega
   have hv7:n1<256^7:=by rw[←hn1];exact Nl hv0 (Nat.pow_le_pow_right (by decide) hle)
   have HV0:=Hd (show bits .or .u64 (IntKind.u64.wrap ((n1:Int)*256)) (x:Int)=((n1*256+x:Nat):Int) by rw[show IntKind.u64.wrap ((n1:Int)*256)=(n1:Int)*256 from IntWalk.u64_in _ (by omega)];exact IN n1 x hv7 hx256)
   have HNX:=Hd (show hdN l (i+1)=(n0,n1*256+x) by
    have hd:i-8<(l.drop 8).length:=by rw[List.length_drop];omega
    have hde:(l.drop 8)[i-8]=l[i]:=by rw[List.getElem_drop];congr 1;omega
    unfold hdN at hn0 hn1⊢;dsimp only at hn0 hn1⊢;rw[show min (i+1) 8=min i 8 by omega,hn0,show i+1-8=i-8+1 by omega,List.take_succ_eq_append_getElem hd,Eh,hde,hX,hx,hn1])
   clear hvw hn0 hn1 hv0 hle hX hx hv7;go_wp2_with fail;rw[HV0.out];go_roundw
   case rel=>exact⟨i+1,by omega,by go_num,Hd (by rw[HNX.out];exact Sc _ _ _ _ _ _ HX.out),Hd (HC.out.trans (Chg.setCell (F:=fun k=>k=B) _ _ rfl) (fun _ h=>.inl h))⟩
   case measure=>simp[intOf]<;>omega
variable {w':World}{T:TypeId}{B n i b:Nat}{G:Nat→Prop}{v:Value}{l:List UInt8}{S:DS}
def stC (g f:Int) (v:Value) (u:Int):Array Value:=#[.int .i64 g,.int .i64 f,v,.int .i64 u]
def LoadPost (w:World) (o:Option ArD) (e:Ending) (w':World):Prop:=
 ∃(c:Bool) (g f:Int) (v:Value) (L:List (List UInt8)),e=.returned (.tuple #[.agg (stC g f v 0),.bool c,.int .i64 0])∧EntsAt w' (fun k=>w.heap.size≤k) v L∧Below w.heap.size w w'∧(match o with|none=>c=false|some x=>c=true∧g=(x.gen:Int)∧f=(x.first:Int)∧L=x.ents)
theorem LoadPost.no {o:Option ArD} (h:o=none) (hb:Below w.heap.size w w'):LoadPost w o (.returned (.tuple #[.agg #[.int .i64 0,.int .i64 0,.slice none 0 0,.int .i64 0],.bool false,.int .i64 0])) w':=by subst h;exact⟨false,0,0,_,[],rfl,CU _ _,hb,rfl⟩
theorem OwnRecs.getF {L:List RecD}{a:Option Addr}{cap:Nat} (h:OwnRecs T w B (.slice a n cap) L) {i:Nat} (hi:i<L.length):∃g x c,a=some ⟨g,0,none⟩∧g<w.heap.size∧w.cell? ⟨g,i*4,none⟩=some (.int .i64 L[i].kind)∧w.cell? ⟨g,i*4+1,none⟩=some (.int .i64 L[i].gen)∧
 w.cell? ⟨g,i*4+2,none⟩=some (.int .i64 L[i].num)∧w.cell? ⟨g,i*4+3,none⟩=some (.slice x L[i].load.length c)∧w.ownsRow B 5 1 (.slice x L[i].load.length c) L[i].load.length (bvs L[i].load):=by
 obtain⟨ps,h0,h1,h2⟩:=h.ex;obtain⟨u,h3,h4⟩:=h2 i hi;obtain⟨x,c,rfl⟩:=Ag h4;obtain⟨g,cap',e,hgl,_,hr⟩:=AZ h1 (by omega);cases e;have hp:ps[i]'(by omega)=.slice x L[i].load.length c:=by have:=List.getElem?_eq_getElem (l:=ps) (i:=i) (by omega);rw[h3]at this;simpa using this.symm
 have key:∀j u,j<4→(EH L[i] (.slice x L[i].load.length c))[j]?=some u→w.cell? ⟨g,i*4+j,none⟩=some u:=fun j u hj hu=>hr _ _ (by rw[F4 L ps i j hi h0 hj,hp];exact hu)
 exact⟨g,x,c,rfl,hgl,key 0 _ (by omega) rfl,key 1 _ (by omega) rfl,key 2 _ (by omega) rfl,key 3 _ (by omega) rfl,h4⟩
theorem PG (o:Option (Nat×Nat)):∃(f c:Nat) (ok:Bool),Ow o=.tuple #[.int .i64 f,.int .i64 c,.bool ok]∧(ok=true→o=some (f,c))∧(ok=false→o=none):=by
 cases o with
 |none=>exact⟨0,0,false,rfl,(fun h=>by cases h),fun _=>rfl⟩
 |some x=>exact⟨x.1,x.2,true,rfl,fun _=>rfl,(fun h=>by cases h)⟩
theorem F6 {t:List RecD} (h1:∀j (h:j<t.length),j<i→t[j].kind=2) (h2:∀h:i<t.length,t[i].kind≠2):BK t=(t.take i).map (·.load):=by
 unfold BK
 congr 1
 induction t generalizing i with
 |nil=>simp
 |cons r t ih=>
  cases i with
  |zero=>
   have:=h2 (by simp);simp only[List.getElem_cons_zero]at this;rw[List.takeWhile_cons,decide_eq_false this];rfl
  |succ i=>
   have h3:=h1 0 (by simp) (by omega);simp only[List.getElem_cons_zero]at h3;rw[List.takeWhile_cons,decide_eq_true h3,List.take_succ_cons];simp only[if_true]
   congr 1
   exact ih (fun j h hj=>h1 (j+1) (by simp;omega) (by omega)) (fun h=>h2 (by simp;omega))
theorem JC (l:List (List UInt8)) (f:PartD):∀k i acc,(AU l f i k acc).1.load.length≤acc.length+224*k
 |0,_,_=>Nat.le_refl _
 |k+1,i,acc=>by
  rw[AU];cases hb:l[i]? with
  |none=>exact Nat.zero_le _
  |some b=>
   simp only;by_cases h1:Al b≠0
   ·rw[Ip h1];exact Nat.zero_le _
   ·rw[In h1];by_cases h2:CT f (Ak b) i=true
    ·rw[Ip h2];have h3:=JC l f k (i+1) (acc++(Ak b).bytes);have h4:=Cj (Classical.not_not.1 h1);have h5:=h4.2.2.2.1.len;rw[←h4.2.2.2.2]at h5;rw[List.length_append]at h3;omega
    ·rw[In h2];exact Nat.zero_le _
theorem QL (l:List (List UInt8)):(Av l).1.load.length≤131264:=by
 cases l with
 |nil=>exact Nat.zero_le _
 |cons b l=>
  rw[Av];by_cases h1:Al b≠0
  ·rw[Ip h1];exact Nat.zero_le _
  ·rw[In h1];by_cases h2:(Ak b).idx≠0
   ·rw[Ip h2];exact Nat.zero_le _
   ·rw[In h2];have h3:=JC (b::l) (Ak b) ((Ak b).cnt.toNat-1) 1 (Ak b).bytes;have h4:=Cj (Classical.not_not.1 h1);have h5:=h4.2.2.2.1;rw[←h4.2.2.2.2]at h5;have h6:=h5.len;have h7:=h5.c1;have h8:=h5.c0;omega
theorem JE (g n:Int) (l:List (List UInt8)):∀k a out,(∀r∈out,r.load.length≤131264)→(∀r∈(scanGo g n l k a out).1,r.load.length≤131264)∧(scanGo g n l k a out).1.length≤out.length+k
 |0,_,_,h=>⟨h,Nat.le_refl _⟩
 |k+1,a,out,h=>by
  rw[scanGo];by_cases h1:l.length≤a
  ·rw[Ip h1];exact⟨h,Nat.le_add_right _ _⟩
  ·rw[In h1];by_cases h2:(Av (l.drop a)).2.2≠0
   ·rw[Ip h2];exact⟨h,Nat.le_add_right _ _⟩
   ·rw[In h2];by_cases h3:(Av (l.drop a)).1.gen=g∧(Av (l.drop a)).1.num=n+out.length
    ·rw[Ip h3];have h4:=JE g n l k (a+(Av (l.drop a)).2.1) (out++[(Av (l.drop a)).1]) (fun r hr=>by
      rcases List.mem_append.1 hr with hr|hr
      ·exact h r hr
      ·rw[List.mem_singleton.1 hr];exact QL _)
     refine⟨h4.1,?_⟩;have h5:=h4.2;rw[List.length_append,List.length_singleton]at h5;omega
    ·rw[In h3];exact⟨h,Nat.le_add_right _ _⟩
theorem Me (g n:Int) (l:List (List UInt8)):(∀r∈(AP g n l).1,r.load.length≤131264)∧(AP g n l).1.length≤l.length:=by
 unfold AP;by_cases h:Aw 0 g n=false
 ·rw[Ip h];exact⟨(fun r hr=>by cases hr),Nat.zero_le _⟩
 ·rw[In h];have h1:=JE g n l l.length 0 [] (fun r hr=>by cases hr);exact⟨h1.1,by simpa using h1.2⟩
theorem JF {u:Value}{L:List (List UInt8)} (h:EntsAt w F v L) (h4:w.ownsRow B 5 1 u n (bvs l)) (hb:BytesN w G u l) (hGF:∀k,k<w.heap.size→G k→F k):BytesN w (fun k=>F k∧v.ownBlock≠some k) u l:=by
 obtain⟨vs,h1,h2,h3⟩:=h.ex;refine⟨?_,hb.nil⟩;obtain⟨a,cap,e,h5,h6⟩:=hb.at_;refine⟨a,cap,e,h5,fun hne=>?_⟩;obtain⟨g,off,e2,h7,h8,h9⟩:=h6 hne;refine⟨g,off,e2,⟨hGF g h8 h7,fun e3=>?_⟩,h8,h9⟩;have he:u.ownBlock=some g∨u.ownBlock=none:=by
  rcases h4.2 with⟨rfl,_⟩| ⟨g',cap',cur,rfl,_⟩
  ·exact .inr rfl
  ·simp only[Value.slice.injEq]at e;obtain⟨e5,-,-⟩:=e;rw[e2]at e5;simp only[Option.some.injEq,Addr.mk.injEq]at e5;exact .inl (by rw[←e5.1];rfl)
 rcases IB h1 h4 (by decide)with h10|h10
 ·rcases h4.2 with⟨rfl,_⟩| ⟨g',cap',cur,rfl,_⟩
  ·rw[Value.slice.injEq,e2]at e;cases e.1
  ·cases h10
 ·rcases he with he|he
  ·exact h10 (by rw[he,e3])
  ·rcases h4.2 with⟨rfl,_⟩| ⟨g',cap',cur,rfl,_⟩
   ·rw[Value.slice.injEq,e2]at e;cases e.1
   ·cases he
def Mf (ok:Bool) (q nf nc:Nat) (t:List RecD):Option ArD:=if ok=true∧nc≤(BK t).length then some ⟨q,nf,BK t⟩else none
theorem LoadPost.fin {V:World}{A:Option ArD}{q nf nc:Nat}{ok c:Bool}{t:List RecD} (hA:A=Mf ok q nf nc t) (hE:EntsAt V (fun k=>w.heap.size≤k) v (BK t)) (hb:Below w.heap.size w V) (hc:c=(ok&&decide (nc≤(BK t).length))):
 LoadPost w A (.returned (.tuple #[.agg (stC q nf v 0),.bool c,.int .i64 0])) V:=by
 refine⟨c,q,nf,v,BK t,rfl,hE,hb,?_⟩;by_cases h:ok=true∧nc≤(BK t).length
 ·rw[hA,Mf,Ip h];exact⟨by rw[hc,h.1,decide_eq_true h.2];rfl,rfl,rfl,rfl⟩
 ·rw[hA,Mf,In h];show c=false;rw[hc];cases ok with
  |false=>rfl
  |true=>rw[decide_eq_false (fun h1=>h ⟨rfl,h1⟩)];rfl
theorem KH (h:DiskAt w F b S) (hK:KAt w) (a c which:Nat) (hc8:8≤c) (hwh:which≤1) (hd:S.down=false) (hr:a+c≤S.dur.length) (hlen:S.pend.length<1000000000):
 Ca 75 #[stV b (a:Int) (c:Int),.int .i64 which] w (LoadPost w (AQ (Ah S (a+which*(c/2)) (c/2)) which)):=by
 have hM:S.dur.length≤4096:=h.ok.most;obtain⟨hh,hhe⟩:=Xq (c/2);have hwm:which*hh≤hh:=by rcases(show which=0∨which=1 by omega)with rfl |rfl <;>omega
 have hrd:=fun(w1:World) (hb:Below w.heap.size w w1)=>KG (h.below hb) a (which*hh) hh (c:Int) hd (by omega) hlen
 have hsz:=fun(w1:World)=>F5 (w:=w1) b (a:Int) c (by omega)
 rw[hhe]at hsz⊢;have hh4:4≤hh:=by omega
 have hhm:hh≤4096:=by omega
 have HR:=Hd hrd;have HSZ:=Hd hsz;obtain⟨L,hL⟩:=Xq (Ah S (a+which*hh) hh);have HLL:=Hd (show L.length=hh by rw[←hL,Bu]);rw[hL]at HR⊢;obtain⟨w0,hw0⟩:=Xq (w.alloc (.cells #[.pointer (some ⟨b,0,none⟩),.int .i64 a,.int .i64 c] 94));have hb0:=Lq hw0;have hs0:w0.heap.size=w.heap.size+1:=by rw[←hw0];simp
 have hx0:=Nq hw0 rfl;obtain⟨w1,hw1⟩:=Xq (w0.alloc (.cells #[.int .i64 0,.int .i64 0,.slice none 0 0,.int .i64 0] 97));have hb1:=Lq hw1;have hx1:=Nq hw1 rfl;have hs1:w1.heap.size=w0.heap.size+1:=by rw[←hw1];simp
 have hx0:=(hb1.block _ (by omega)).trans hx0;obtain⟨B,hB⟩:=Xq (w.heap.size);rw[hB]at hx0;rw[show w0.heap.size=B+1 by omega]at hx1;obtain⟨HK,HB1,HW0,HW1,HX0,HX1,HB,HS1,HNC⟩:=Hd9 hK (Tq hb0 hb1) hw0 hw1 hx0 hx1 hB (show w1.heap.size=B+2 by omega) (fun w' (hw':Below w1.heap.size w1 w')=>by have h1:=(Bq hw' hx0);exact Dq3 (Cq h1 0) (Cq h1 1) (Cq h1 2));obtain⟨A,hA⟩:=Xq (AQ L which);rw[hA];have HA:=Hd hA;have hmul:(which:Int)*(hh:Int)=((which*hh:Nat):Int):=by rw[Int.natCast_mul]
 obtain⟨wm,hwmE⟩:=Xq (which*hh);rw[hwmE]at hwm hmul HR;have hwrap:=Iw (wm:Int);unfold stV at HR HSZ⊢;clear h hd hr hM hrd hL hw0 hb0 hs0 hx0 hw1 hb1 hx1 hs1 hK hB hA hhe hsz hwmE;go_enter Tryz.func75,Tryz.ntmps75;go_wp2_with fail;rw[HW0.out,HW1.out,HB.out];refine Np ?_;refine BM (Below w1.heap.size w1) (by kernel_rfl) ?_;have hS0:(Below w1.heap.size w1) w1.drew:=Rq.drew;obtain⟨wd,hwd⟩:=Xq (w1.drew);rw[hwd]at hS0⊢;clear hwd;refine AD 0 HNC.out hS0 ?_;refine tkH 1 hS0 ?_;refine AD 2 HNC.out hS0 ?_;refine AD 5 HNC.out hS0 ?_;refine dH 3 fun K hK=>?_
 go_simp;go_at_call 52;refine(HSZ.out _).mono ?_;rintro e V3 ⟨rfl,hb9⟩;have hsV3:=Tq hS0 hb9;clear hb9;refine Kq hK (hsV3) ?_;refine tkH 4 hsV3 ?_ (v:=.int .i64 wm);refine dH 6 fun K hK=>?_
 go_simp;go_at_call 52;refine(HSZ.out _).mono ?_;rintro e V6 ⟨rfl,hb9⟩;have hsV6:=Tq hsV3 hb9;clear hb9;refine Kq hK (hsV6) ?_;refine dH 7 fun K hK=>?_
 go_simp;go_at_call 72;refine(HR.out _ (Tq HB1.out hsV6)).mono ?_;rintro e V9 ⟨v,rfl,hv,hb9⟩;obtain⟨va,vc,rfl⟩:=hv.form;rw[HLL.out]at hv⊢;have HVX:=Hd (hv.weak (G:=fun k=>w1.heap.size≤k) (fun k _ h1=>Nt hsV6.size h1));have hsV9:=Tq hsV6 hb9;clear hb9 hv;refine Kq hK (hsV9) ?_;refine tkH 8 hsV9 ?_;refine tkH 9 hsV9 ?_;refine tkH 10 hsV9 ?_;refine tkH 11 hsV9 ?_;refine tkH 12 hsV9 ?_;refine eH ?_;have HBV:=Hd hsV9;have hL0:0<L.length:=by rw[HLL.out];omega
 obtain⟨gv,x,xc,e9,_,hcell,hbx⟩:=HVX.out.get hL0;subst e9;obtain⟨X,hX⟩:=Xq (L[0]);have HHD:=Hd (show L.headD []=X by
  cases L with
  |nil=>simp at hL0
  |cons b T=>exact hX)
 rw[hX]at hcell hbx;obtain⟨nx,hnx⟩:=Xq (X.length);rw[hnx]at hcell hbx;have HBX:=Hd hbx;have HBW:=Hd (Tq HB1.out HBV.out);have HKW:=Hd (KAt.below HK.out HBW.out HK.out.size);clear hX hnx hbx hS0 hsV3 hsV6 hsV9;have hhI:(0:Int)<(hh:Int):=by omega
 go_wp2_with fail;refine(DP X _ HBX.out.at_ HKW.out).mono ?_;rintro e U1 ⟨pa,pc,rfl,_,hb⟩;obtain⟨p,hp⟩:=Xq (Ak X);obtain⟨de,hde⟩:=Xq (Al X);have HAR:=Hd (show AQ L which=if de≠0∨p.gen.toNat%2≠which then none else CN p.gen.toNat (AP p.gen 0 L).1 by unfold AQ;rw[HHD.out,hp,hde]);have HPG:=Hd (show de=0→0≤p.gen∧p.gen≤2147483647 from fun h0=>by have h2:=Cj (hde.trans h0);have h3:=h2.2.2.2.1;rw[←h2.2.2.2.2,hp]at h3;exact⟨h3.g0,h3.g1⟩)
 rw[hp,hde];unfold GB;obtain⟨pg,hpg⟩:=Xq (p.gen);rw[hpg]at HAR HPG⊢;obtain⟨p0,hp0⟩:=Xq (p.kind);obtain⟨p2,hp2⟩:=Xq (p.num);obtain⟨p3,hp3⟩:=Xq (p.idx);obtain⟨p4,hp4⟩:=Xq (p.cnt);obtain⟨p5,hp5⟩:=Xq (p.bytes.length);rw[hp0,hp2,hp3,hp4,hp5];obtain⟨U2,hU2⟩:=Xq (U1.alloc (.cells #[.int .i64 p0,.int .i64 pg,.int .i64 p2,.int .i64 p3,.int .i64 p4,.slice pa p5 pc] 130));have hb2:=Lq hU2;have hxp:=Nq hU2 rfl;obtain⟨HBU,HVU,HS12,HBP,HXP⟩:=Hd5 ((Tq HBV.out hb).trans (hb2.mono (Nt HBV.out.size hb.size))) ((HVX.out.below hb).below hb2) hb2.size (show B+2≤U1.heap.size by have h1:=HBV.out.size;have h2:=HS1.out;have h3:=hb.size;omega) hxp;have HX1U:=Hd ((HBU.out.block _ (by have:=HS1.out;omega)).trans HX1.out);clear hb hp hde hpg hp0 hp2 hp3 hp4 hp5 hb2 hcell hxp;by_cases h0:de=0
 case neg=>
  have hd:(de !=0)=true:=by simpa using h0
  have HNO:=Hd (show A=none by rw[←HA.out,HAR.out,Ip (.inl h0)]);clear h0;go_wp2_with (refine Pl 97 4 50 _ HX1U.out ?_;refine Stop.on ?_)
  refine Stop.go ?_
  try simp only[P0,P1,P2,P3,P4]
  intro V8 x8 c8 s8
  try simp only[P0,P1,P2,P3,P4]
  have HBZ:=Hd ((Tq HB1.out HBU.out).trans (c8.below (B:=w.heap.size) (fun k e=>by have:=HB.out;omega) ((Tq HB1.out HBU.out).size)));have hx8:=x8;have k0:=Cq hx8 0;have k1:=Cq hx8 1;have k2:=Cq hx8 2;have k3:=Cq hx8 3;clear x8 c8 s8 hx8;go_wp2_with fail;exact Bv (hr:=by simp[go_sem,k0,k1,k2,k3]) (.tuple #[.agg #[.int .i64 0,.int .i64 0,.slice none 0 0,.int .i64 0],.bool false,.int .i64 0]) (LoadPost.no HNO.out HBZ.out)
 subst h0;obtain⟨hq0,hq1⟩:=HPG.out rfl;obtain⟨q,rfl⟩:∃q:Nat,pg=(q:Int):=⟨pg.toNat,by omega⟩;rw[Int.toNat_natCast]at HAR;have hcg0:=Cq HXP.out 1;by_cases hpar:q%2=which
 case neg=>
  have hd:((q:Int)%2!=(which:Int))=true:=by simp;omega
  have HNO:=Hd (show A=none by rw[←HA.out,HAR.out,Ip (.inr hpar)]);go_wp2_with (refine Pl 97 4 50 _ HX1U.out ?_;refine Stop.on ?_)
  refine Stop.go ?_
  try simp only[P0,P1,P2,P3,P4]
  intro V8 x8 c8 s8
  try simp only[P0,P1,P2,P3,P4]
  have HBZ:=Hd ((Tq HB1.out HBU.out).trans (c8.below (B:=w.heap.size) (fun k e=>by have:=HB.out;omega) ((Tq HB1.out HBU.out).size)));have hx8:=x8;have k0:=Cq hx8 0;have k1:=Cq hx8 1;have k2:=Cq hx8 2;have k3:=Cq hx8 3;clear x8 c8 s8 hx8;go_wp2_with fail;exact Bv (hr:=by simp[go_sem,k0,k1,k2,k3]) (.tuple #[.agg #[.int .i64 0,.int .i64 0,.slice none 0 0,.int .i64 0],.bool false,.int .i64 0]) (LoadPost.no HNO.out HBZ.out)
 have hd:((q:Int)%2!=(which:Int))=false:=by simp;omega
 have HBWU:=Hd (Tq HB1.out HBU.out);have HKU:=Hd (KAt.below HK.out HBWU.out HK.out.size);have HAR:=Hd (show A=CN q (AP (q:Int) 0 L).1 by rw[←HA.out,HAR.out,In (fun h=>h.elim (fun h=>h rfl) (fun h=>h hpar))]);clear hpar;go_wp2_with fail;refine(QJ (q:Int) 0 L _ HVU.out.secs (by rw[HLL.out];omega) HKU.out).mono ?_;rintro e U3 ⟨rv,rfl,hrs,hb⟩;have HSL:=Me (q:Int) 0 L;obtain⟨rs,hrsE⟩:=Xq ((AP (q:Int) 0 L).1);obtain⟨s1,hs1⟩:=Xq ((AP (q:Int) 0 L).2.1);obtain⟨s2,hs2⟩:=Xq ((AP (q:Int) 0 L).2.2);rw[hrsE]at hrs HAR HSL;rw[hs1,hs2];obtain⟨ra,rc,rfl⟩:=hrs.form;obtain⟨m,hm⟩:=Xq (rs.length);rw[hm]at hrs⊢;have HRS:=Hd hrs;have HM:=Hd hm;have hmb:m≤hh:=by rw[←hm,←HLL.out];exact HSL.2
 obtain⟨HSL,HB3,HX13⟩:=Hd3 HSL.1 (Tq HBWU.out hb) (Bq hb HX1U.out);have hxp3:=Bq hb HXP.out;have HXP3:=Hd hxp3;have hq3:=Cq hxp3 1;have HSU:=Hd hb.size;clear hrs hm hb hrsE hs1 hs2 hxp3 hcg0;by_cases hm0:m=0
 case pos=>
  subst hm0;have HNO:=Hd (show A=none by rw[HAR.out,List.eq_nil_of_length_eq_zero HM.out];rfl);go_wp2_with (refine Pl 97 4 69 _ HX13.out ?_;refine Stop.on ?_)
  refine Stop.go ?_
  try simp only[P0,P1,P2,P3,P4]
  intro V8 x8 c8 s8
  try simp only[P0,P1,P2,P3,P4]
  have HBZ:=Hd (HB3.out.trans (c8.below (B:=w.heap.size) (fun k e=>by have:=HB.out;omega) (HB3.out.size)));have hx8:=x8;have k0:=Cq hx8 0;have k1:=Cq hx8 1;have k2:=Cq hx8 2;have k3:=Cq hx8 3;clear x8 c8 s8 hx8;go_wp2_with fail;exact Bv (hr:=by simp[go_sem,k0,k1,k2,k3]) (.tuple #[.agg #[.int .i64 0,.int .i64 0,.slice none 0 0,.int .i64 0],.bool false,.int .i64 0]) (LoadPost.no HNO.out HBZ.out)
 obtain⟨h,t,rfl⟩:∃h t,rs=h::t:=by
  cases rs with
  |nil=>exact absurd HM.out.symm hm0
  |cons h t=>exact⟨h,t,rfl⟩
 have hm1:((m:Int)==0)=false:=by simp[hm0]
 obtain⟨gr,x0,xc0,e9,hgr,k0,_,_,k3,hbl⟩:=HRS.out.getF (i:=0) (by simp);subst e9;simp only[List.getElem_cons_zero,Nat.zero_mul,Nat.zero_add]at k0 k3 hbl;have hmI:(0:Int)<(m:Int):=by omega
 obtain⟨hk,hhk⟩:=Xq (h.kind);rw[hhk]at k0;by_cases hk1:hk=1
 case neg=>
  have hd2:(hk !=1)=true:=by simpa using hk1
  have HNO:=Hd (show A=none by rw[HAR.out];exact Ip (by rw[hhk];exact hk1));clear hk1 hhk hbl;go_wp2_with (refine Pl 97 4 69 _ HX13.out ?_;refine Stop.on ?_)
  refine Stop.go ?_
  try simp only[P0,P1,P2,P3,P4]
  intro V8 x8 c8 s8
  try simp only[P0,P1,P2,P3,P4]
  have HBZ:=Hd (HB3.out.trans (c8.below (B:=w.heap.size) (fun k e=>by have:=HB.out;omega) (HB3.out.size)));have hx8:=x8;have k0:=Cq hx8 0;have k1:=Cq hx8 1;have k2:=Cq hx8 2;have k3:=Cq hx8 3;clear x8 c8 s8 hx8;go_wp2_with fail;exact Bv (hr:=by simp[go_sem,k0,k1,k2,k3]) (.tuple #[.agg #[.int .i64 0,.int .i64 0,.slice none 0 0,.int .i64 0],.bool false,.int .i64 0]) (LoadPost.no HNO.out HBZ.out)
 subst hk1;have HBL:=Hd hbl;have HHK:=Hd hhk;obtain⟨hl,hhl⟩:=Xq (h.load.length);have HHL:=Hd (show h.load.length<1000000000 from Nat.lt_of_le_of_lt (HSL.out h (List.mem_cons_self ..)) (by omega));rw[hhl]at k3 hbl;have HBL:=Hd (Bk (hhl▸hbl));rw[hhl]at HBL;have HHK:=Hd hhk;clear hbl hhk hhl;go_wp2_with fail;refine(JB _ h.load HBL.out.at_ HHL.out).mono ?_;rintro e U4 ⟨rfl,hb⟩;obtain⟨nf,nc,ok,hnv,hn1,hn2⟩:=PG (C9 h.load);rw[hnv];have HAR:=Hd (show A=Mf ok q nf nc t by
  unfold Mf;rw[HAR.out,CN,In (fun h0=>h0 HHK.out)];cases ok with
  |true=>rw[hn1 rfl];by_cases h5:nc≤(BK t).length<;>simp[h5]
  |false=>rw[hn2 rfl];simp)
 have hq4:=Cq (Bq hb HXP3.out) 1;obtain⟨HB4,HX14,HU34⟩:=Hd3 (Tq HB3.out hb) (Bq hb HX13.out) hb;have HX1S:=Hd (Ax HX13.out).1;obtain⟨k,rfl⟩:∃k,m=k+1:=⟨m-1,by omega⟩;have HTK:=Hd (show t.length=k by have h1:=HM.out;simp at h1;exact h1);have HRC:=Hd (show k+1≤rc by
  obtain⟨ps,_,h1,_⟩:=HRS.out.ex;rcases h1.2 with⟨e,h0⟩| ⟨g,cap',cur,e,_,_,hc,_⟩
  ·cases e
  ·simp only[Value.slice.injEq]at e;obtain⟨-,-,rfl⟩:=e;have h9:=HM.out;omega)
 clear hb hnv hn1 hn2 hq3 k0 k3;go_wp2_with (refine Pl 97 16 82 _ (Hn) ?_;refine Stop.on ?_)
 refine Stop.go ?_
 try simp only[P0,P1,P2,P3,P4]
 intro W0 xW cW sW
 try simp only[P0,P1,P2,P3,P4]
 obtain⟨x,hx⟩:=Xq (U4.heap.size);rw[hx]at xW cW⊢;have hba:Below U4.heap.size U4 (U4.alloc (.cells #[.int .i64 0,.int .i64 0,.slice none 0 0,.int .i64 0] 97)):=Rq.alloc Lr _;obtain⟨HBW0,HSW0,HX,HXW⟩:=Hd4 (hba.trans (cW.below (fun k e=>by rw[e,hx];exact Nat.le_refl _) hba.size)) (show W0.heap.size=x+1 by rw[sW,←hx];simp) hx xW;clear hba xW cW sW hx;go_upto_region 12 with(fail)
 go_cut [84,85,86]from 83 (fun sv nv iv wc=>∃(so sc:Nat),sv=.slice (some ⟨gr,so,none⟩) k sc∧nv=.int .i64 k∧iv=.int .i64 0∧Hid (0<k→so=4)∧W0=wc)
 case first =>
  by_cases hrc:rc=1
  ·subst hrc;have hk0:=HRC.out;obtain rfl :k=0:=by omega
   go_wp2_with fail;go_meet
   case rel=>exact⟨_,_,rfl,rfl,rfl,Hd (fun h=>absurd h (by omega)),rfl⟩
  ·go_wp2_with fail;go_meet
   case rel=>exact⟨_,_,rfl,rfl,rfl,Hd (fun _=>rfl),rfl⟩
 case rest=>
  obtain⟨so,sc,rfl,rfl,rfl,HSO,e0⟩:=hcut;subst e0;obtain⟨HXL,HBB,HX1W,HER0,HOB0,HKR0,HCR0⟩:=Hd7 (show U3.heap.size≤x by rw[←HX.out];exact HU34.out.size) (Tq HB4.out HBW0.out) (Bq HBW0.out HX14.out) (CU W0 (fun j=>U2.heap.size≤j∧j≠x)) (show∀g,(Value.slice none 0 0).ownBlock=some g→x<g from fun g e=>by cases e) (show∀j (h:j<t.length),j<0→t[j].kind=2 from fun j _ h=>absurd h (by omega)) (Chg.refl (fun j=>x≤j) W0);clear hq4;go_wp2_with fail;go_loopw [86] (fun iv wr=>∃(i:Nat) (va:Option Addr) (vc:Nat),i≤k∧iv=.int .i64 i∧Hid (wr.heap[x]?=some (.cells #[.int .i64 q,.int .i64 nf,.slice va i vc,.int .i64 0] 97 (0,0)))∧Hid (EntsAt wr (fun j=>U2.heap.size≤j∧j≠x) (.slice va i vc) ((t.take i).map (·.load)))∧Hid (∀g,(Value.slice va i vc).ownBlock=some g→x<g)∧Hid (∀j (h:j<t.length),j<i→t[j].kind=2)∧Hid (Chg (fun j=>x≤j) W0 wr)) (fun iv _=>k-(intOf iv).toNat)
  case atStart=>exact⟨0,none,0,Nat.zero_le _,rfl,HXW,HER0,HOB0,HKR0,HCR0⟩
  case round=>
   obtain⟨i,va,vc,hi,rfl,HXR,HER,HOB,HKR,HCR⟩:=hrel;obtain⟨W1,rfl⟩:∃W1,W1=wr:=⟨_,rfl⟩;clear HXW HER0 HOB0 HKR0 HCR0;by_cases hlt:i<k
   case neg=>
    obtain rfl :k=i:=by omega
    have HBT:=Hd (F6 (t:=t) HKR.out (fun h=>absurd h (by have:=HTK.out;omega)));go_wp2_with fail;obtain⟨HXB,HBZ,HLC⟩:=Hd3 ((HCR.out.block (B+1) (by have h1:=HX1S.out;have h2:=HXL.out;have h3:=HSW0.out;omega) (by have h1:=HX1S.out;have h2:=HXL.out;omega)).trans HX1W.out) (HBB.out.trans (HCR.out.below (B:=w.heap.size) (fun j e=>by have h1:=HX1S.out;have h2:=HXL.out;have h3:=HB.out;omega) HBB.out.size)) (fun w' (hw':Chg (fun j=>j=B+1) W1 w')=>by have h1:=((hw'.block x (Ax HXR.out).1 (by have h1:=HX1S.out;have h2:=HXL.out;omega)).trans HXR.out);exact Dq4 (Cq h1 0) (Cq h1 1) (Cq h1 2) (Cq h1 3));cases ok
    ·skip
     refine bH (fun j=>j=B+1) ?_;intro wd hd0 hS0;refine AD 0 HLC.out hS0 ?_;refine tkH 1 hS0 ?_;refine tkH 2 hS0 ?_;refine AH 3 hS0 ?_;refine AH 4 hS0 ?_;refine AH 5 hS0 ?_;refine AH 6 hS0 ?_;refine AH 7 hS0 ?_;refine tkH 8 hS0 ?_;refine dH 9 fun K hK=>?_
     refine Pv 97 4 101 _ (Bq hd0 HXB.out) ?_;intro V8 x8 c8 s8;have hS8:Chg (fun j=>j=B+1) W1 V8:=hS0.trans c8 (fun j e=>.inl e);refine Kq hK (hS8) ?_;have hS0:=hS8;refine tkH 10 hS0 ?_;refine tkH 11 hS0 ?_;refine eH ?_;have k0:=Cq x8 0;have k1:=Cq x8 1;have k2:=Cq x8 2;have k3:=Cq x8 3;have HEZ:=Hd (show EntsAt V8 (fun k=>w.heap.size≤k) (.slice va k vc) (BK t) by rw[HBT.out];exact(HER.out.chg hS8 (fun j _ h1 e=>by have h2:=HBP.out;have h3:=HS12.out;omega)).weak (fun j _ h1=>by have h2:=HBP.out;have h3:=HS12.out;have h4:=HB.out;omega))
     have HLB:=Hd (show(BK t).length=k by rw[HBT.out,List.length_map,List.length_take];have h1:=HTK.out;omega);have HBV8:=Hd (HBZ.out.trans (hS8.below (B:=w.heap.size) (fun j e=>by have h3:=HB.out;omega) HBZ.out.size));clear x8 c8 s8 hS8 hd0 hS0;go_wp2_with fail;exact Bv (hr:=by simp[go_sem,k0,k1,k2,k3,stC]) (.tuple #[.agg (stC q nf (.slice va k vc) 0),.bool false,.int .i64 0]) (LoadPost.fin (ok:=false) (nc:=nc) (t:=t) HAR.out HEZ.out HBV8.out (by rfl))
    ·skip
     refine bH (fun j=>j=B+1) ?_;intro wd hd0 hS0;refine AD 0 HLC.out hS0 ?_;refine tkH 1 hS0 ?_;refine tkH 2 hS0 ?_;refine Aj 3 hS0 ?_;refine Bw 4 HLC.out hS0 ?_;refine Aj 5 hS0 ?_;refine Aj 6 hS0 ?_;refine Aj 7 hS0 ?_;refine tkH 8 hS0 ?_;refine dH 9 fun K hK=>?_
     refine Pv 97 4 101 _ (Bq hd0 HXB.out) ?_;intro V8 x8 c8 s8;have hS8:Chg (fun j=>j=B+1) W1 V8:=hS0.trans c8 (fun j e=>.inl e);refine Kq hK (hS8) ?_;have hS0:=hS8;refine tkH 10 hS0 ?_;refine tkH 11 hS0 ?_;refine eH ?_;have k0:=Cq x8 0;have k1:=Cq x8 1;have k2:=Cq x8 2;have k3:=Cq x8 3;have HEZ:=Hd (show EntsAt V8 (fun k=>w.heap.size≤k) (.slice va k vc) (BK t) by rw[HBT.out];exact(HER.out.chg hS8 (fun j _ h1 e=>by have h2:=HBP.out;have h3:=HS12.out;omega)).weak (fun j _ h1=>by have h2:=HBP.out;have h3:=HS12.out;have h4:=HB.out;omega))
     have HLB:=Hd (show(BK t).length=k by rw[HBT.out,List.length_map,List.length_take];have h1:=HTK.out;omega);have HBV8:=Hd (HBZ.out.trans (hS8.below (B:=w.heap.size) (fun j e=>by have h3:=HB.out;omega) HBZ.out.size));clear x8 c8 s8 hS8 hd0 hS0;go_wp2_with fail;exact Bv (hr:=by simp[go_sem,k0,k1,k2,k3,stC]) (.tuple #[.agg (stC q nf (.slice va k vc) 0),.bool (decide ((nc:Int)≤(k:Int))),.int .i64 0]) (LoadPost.fin (ok:=true) (nc:=nc) (t:=t) HAR.out HEZ.out HBV8.out (by rw[HLB.out];by_cases h9:nc≤k<;>simp[h9]))
   have hiI:(i:Int)<(k:Int):=by omega
   obtain rfl :so=4:=HSO.out (by omega);have hit:i<t.length:=by rw[HTK.out];exact hlt
   obtain⟨gr9,x1,xc1,e9,_,r0,r1,r2,r3,hl1⟩:=HRS.out.getF (i:=i+1) (by simp;exact hit);cases e9;simp only[List.getElem_cons_succ]at r0 r1 r2 r3 hl1;obtain⟨R,hR⟩:=Xq (t[i]);rw[hR]at r0 r1 r2 r3 hl1;have HRI:=Hd hR;have hblk:W1.heap[gr]?=U3.heap[gr]?:=(HCR.out.block gr (by have h1:=HXL.out;have h2:=HSW0.out;omega) (by have h1:=HXL.out;omega)).trans ((HBW0.out.block gr (by have h1:=HXL.out;have h2:=HX.out;omega)).trans (HU34.out.block gr hgr));have hcl:∀o u,U3.cell? ⟨gr,o,none⟩=some u→W1.cell? ⟨gr,o,none⟩=some u:=fun o u h1=>by rw[←h1];simp only[World.cell?,hblk]
   have hld:=hl1;have HHU:=Hd (show W1.ownsRow U2.heap.size 5 1 (.slice x1 R.load.length xc1) R.load.length (bvs R.load)from AJ (An (An hl1 HU34.out) HBW0.out) HCR.out (fun g hg e=>by have h1:=(Ab hl1 g hg).2;have h2:=HXL.out;omega))
   have HLU:=Hd (show BytesN W1 (fun j=>U2.heap.size≤j∧j<x) (.slice x1 R.load.length xc1) R.load from by have h1:=((Bk hl1).weak (G:=fun j=>U2.heap.size≤j∧j<x) (fun j h1 h2=>⟨h2,Nl h1 HXL.out⟩));exact(((h1.below HU34.out).below HBW0.out).chg HCR.out (fun j _ h2 e=>by omega)))
   obtain⟨kd,hkd⟩:=Xq (R.kind);obtain⟨gd,hgd⟩:=Xq (R.gen);obtain⟨nd,hnd⟩:=Xq (R.num);obtain⟨ld,hld⟩:=Xq (R.load.length);have y0:W1.cell? ⟨gr,4+i*4,none⟩=some (.int .i64 kd):=by rw[←hkd,show 4+i*4=(i+1)*4 by omega];exact hcl _ _ r0
   have y1:W1.cell? ⟨gr,4+i*4+1,none⟩=some (.int .i64 gd):=by rw[←hgd,show 4+i*4=(i+1)*4 by omega];exact hcl _ _ r1
   have y2:W1.cell? ⟨gr,4+i*4+2,none⟩=some (.int .i64 nd):=by rw[←hnd,show 4+i*4=(i+1)*4 by omega];exact hcl _ _ r2
   have y3:W1.cell? ⟨gr,4+i*4+3,none⟩=some (.slice x1 ld xc1):=by rw[←hld,show 4+i*4=(i+1)*4 by omega];exact hcl _ _ r3
   rw[hld]at HHU HLU;have HKD:=Hd hkd;obtain⟨W2,hW2⟩:=Xq (W1.alloc (.cells #[.int .i64 kd,.int .i64 gd,.int .i64 nd,.slice x1 ld xc1] 111));have hb2:=Lq hW2;have hxr:=Nq hW2 rfl;have z0:=Cq hxr 0;have z3:=Cq hxr 3;have hxx:=Bq hb2 HXR.out;have zx:=Cq hxx 2;obtain⟨HX2,HE2,HLU2,HHU2,HC2,HSZ2,HS2X⟩:=Hd7 hxx (HER.out.below hb2) (HLU.out.below hb2) (An HHU.out hb2) (HCR.out.trans (Cb (F:=fun j=>x≤j) hb2) (fun j e=>.inl e)) hb2.size (show x<W1.heap.size from(Ax HXR.out).1);clear hl1 hblk hcl r0 r1 r2 r3 hR hkd hgd hnd hld hb2 hxr hxx HHU HLU;by_cases hk2:kd=2
   case neg=>
    have hd3:(kd !=2)=true:=by simpa using hk2
    have HBT:=Hd (F6 (t:=t) (i:=i) HKR.out (fun h=>by have h1:=HRI.out;rw[h1,HKD.out];exact hk2))
    clear hk2;go_wp2_with fail;obtain⟨HXB,HBZ,HLC⟩:=Hd3 ((HC2.out.block (B+1) (by have h1:=HX1S.out;have h2:=HXL.out;have h3:=HSW0.out;omega) (by have h1:=HX1S.out;have h2:=HXL.out;omega)).trans HX1W.out) (HBB.out.trans (HC2.out.below (B:=w.heap.size) (fun j e=>by have h1:=HX1S.out;have h2:=HXL.out;have h3:=HB.out;omega) HBB.out.size)) (fun w' (hw':Chg (fun j=>j=B+1) W2 w')=>by have h1:=((hw'.block x (Ax HX2.out).1 (by have h1:=HX1S.out;have h2:=HXL.out;omega)).trans HX2.out);exact Dq4 (Cq h1 0) (Cq h1 1) (Cq h1 2) (Cq h1 3));cases ok
    ·skip
     refine bH (fun j=>j=B+1) ?_;intro wd hd0 hS0;refine AD 0 HLC.out hS0 ?_;refine tkH 1 hS0 ?_;refine tkH 2 hS0 ?_;refine AH 3 hS0 ?_;refine AH 4 hS0 ?_;refine AH 5 hS0 ?_;refine AH 6 hS0 ?_;refine AH 7 hS0 ?_;refine tkH 8 hS0 ?_;refine dH 9 fun K hK=>?_
     refine Pv 97 4 101 _ (Bq hd0 HXB.out) ?_;intro V8 x8 c8 s8;have hS8:Chg (fun j=>j=B+1) W2 V8:=hS0.trans c8 (fun j e=>.inl e);refine Kq hK (hS8) ?_;have hS0:=hS8;refine tkH 10 hS0 ?_;refine tkH 11 hS0 ?_;refine eH ?_;have k0:=Cq x8 0;have k1:=Cq x8 1;have k2:=Cq x8 2;have k3:=Cq x8 3;have HEZ:=Hd (show EntsAt V8 (fun k=>w.heap.size≤k) (.slice va i vc) (BK t) by rw[HBT.out];exact(HE2.out.chg hS8 (fun j _ h1 e=>by have h2:=HBP.out;have h3:=HS12.out;omega)).weak (fun j _ h1=>by have h2:=HBP.out;have h3:=HS12.out;have h4:=HB.out;omega))
     have HLB:=Hd (show(BK t).length=i by rw[HBT.out,List.length_map,List.length_take];have h1:=HTK.out;omega);have HBV8:=Hd (HBZ.out.trans (hS8.below (B:=w.heap.size) (fun j e=>by have h3:=HB.out;omega) HBZ.out.size));clear x8 c8 s8 hS8 hd0 hS0;go_wp2_with fail;exact Bv (hr:=by simp[go_sem,k0,k1,k2,k3,stC]) (.tuple #[.agg (stC q nf (.slice va i vc) 0),.bool false,.int .i64 0]) (LoadPost.fin (ok:=false) (nc:=nc) (t:=t) HAR.out HEZ.out HBV8.out (by rfl))
    ·skip
     refine bH (fun j=>j=B+1) ?_;intro wd hd0 hS0;refine AD 0 HLC.out hS0 ?_;refine tkH 1 hS0 ?_;refine tkH 2 hS0 ?_;refine Aj 3 hS0 ?_;refine Bw 4 HLC.out hS0 ?_;refine Aj 5 hS0 ?_;refine Aj 6 hS0 ?_;refine Aj 7 hS0 ?_;refine tkH 8 hS0 ?_;refine dH 9 fun K hK=>?_
     refine Pv 97 4 101 _ (Bq hd0 HXB.out) ?_;intro V8 x8 c8 s8;have hS8:Chg (fun j=>j=B+1) W2 V8:=hS0.trans c8 (fun j e=>.inl e);refine Kq hK (hS8) ?_;have hS0:=hS8;refine tkH 10 hS0 ?_;refine tkH 11 hS0 ?_;refine eH ?_;have k0:=Cq x8 0;have k1:=Cq x8 1;have k2:=Cq x8 2;have k3:=Cq x8 3;have HEZ:=Hd (show EntsAt V8 (fun k=>w.heap.size≤k) (.slice va i vc) (BK t) by rw[HBT.out];exact(HE2.out.chg hS8 (fun j _ h1 e=>by have h2:=HBP.out;have h3:=HS12.out;omega)).weak (fun j _ h1=>by have h2:=HBP.out;have h3:=HS12.out;have h4:=HB.out;omega))
     have HLB:=Hd (show(BK t).length=i by rw[HBT.out,List.length_map,List.length_take];have h1:=HTK.out;omega);have HBV8:=Hd (HBZ.out.trans (hS8.below (B:=w.heap.size) (fun j e=>by have h3:=HB.out;omega) HBZ.out.size));clear x8 c8 s8 hS8 hd0 hS0;go_wp2_with fail;exact Bv (hr:=by simp[go_sem,k0,k1,k2,k3,stC]) (.tuple #[.agg (stC q nf (.slice va i vc) 0),.bool (decide ((nc:Int)≤(i:Int))),.int .i64 0]) (LoadPost.fin (ok:=true) (nc:=nc) (t:=t) HAR.out HEZ.out HBV8.out (by rw[HLB.out];by_cases h9:nc≤i<;>simp[h9]))
   subst hk2;have HU9:=Hd (JF HE2.out HHU2.out HLU2.out (fun j _ h1=>⟨h1.1,by omega⟩));obtain⟨E,hE⟩:=Xq ((t.take i).map (·.load));have HTS:=Hd (show E++[R.load]=(t.take (i+1)).map (·.load) by rw[←hE,List.take_add_one,List.getElem?_eq_getElem hit,HRI.out];simp)
   have HLN:=Hd (show E.length=i by rw[←hE,List.length_map,List.length_take];omega);have HE2:Hid (EntsAt W2 (fun j=>U2.heap.size≤j∧j≠x) (.slice va i vc) E):=Hd (hE▸HE2.out);obtain⟨E2,hE2⟩:=Xq (E++[R.load]);have HTE:=Hd (HTS.out.symm.trans hE2);have HE2N:=Hd hE2;clear hE hE2;go_wp2_with (at_builtin;refine GE rfl (.tmp 94) (.tmp 97) rfl rfl HE2.out HU9.out rfl HLN.out (by omega) ?_;refine Stop.on ?_)
   refine Stop.go ?_
   try simp only[P0,P1,P2,P3,P4]
   intro a5 c5 W3 he3 hc3 ho3
   try simp only[P0,P1,P2,P3,P4]
   have HOB3:=Hd (show∀g,(Value.slice a5 (i+1) c5).ownBlock=some g→x<g from fun g hg=>(ho3 g hg).elim (HOB.out g) (fun h1=>by have:=HSZ2.out;have:=HS2X.out;omega));have HC3:=Hd (HC2.out.trans (hc3.mono (G:=fun j=>x≤j) (fun j e=>Nat.le_of_lt (HOB.out j e))) (fun j e=>.inl e));rw[HE2N.out]at he3;have HE3:=Hd (he3.weak (G:=fun j=>U2.heap.size≤j∧j≠x) (fun j _ h1=>h1.elim id (fun h2=>by have h3:=HSZ2.out;have h4:=HS2X.out;have h5:=HXL.out;have h6:=HSU.out;exact⟨by omega,by omega⟩)));have HX3:=Hd ((hc3.block x (Ax HX2.out).1 (fun e=>by have:=HOB.out x e;omega)).trans HX2.out);have HKS:=Hd (show∀j (h:j<t.length),j<i+1→t[j].kind=2 from fun j h h1=>by
    by_cases h2:j<i
    ·exact HKR.out j h h2
    ·obtain rfl :j=i:=by omega
     rw[HRI.out];exact HKD.out)
   clear he3 hc3 ho3 z0 z3 zx y0 y1 y2 y3 hW2 HE2 HX2 HC2;go_wp2_with (refine Az rfl rfl 36 (.tmp 99) (.tmp 98) rfl x 2 (.slice a5 (i+1) c5) rfl rfl HX3.out (by show 2<4;decide) rfl (by kernel_rfl) ?_;refine Stop.on ?_)
   refine Stop.go ?_
   try simp only[P0,P1,P2,P3,P4]
   intro W4 x4 c4 s4
   try simp only[P0,P1,P2,P3,P4]
   obtain⟨HX4,HE4,HC4⟩:=Hd3 (show W4.heap[x]?=some (.cells #[.int .i64 q,.int .i64 nf,.slice a5 (i+1) c5,.int .i64 0] 97 (0,0))from x4) (show EntsAt W4 (fun j=>U2.heap.size≤j∧j≠x) (.slice a5 (i+1) c5) ((t.take (i+1)).map (·.load)) by rw[HTE.out];exact HE3.out.chg c4 (fun j _ h1 e=>h1.2 e)) (HC3.out.trans (c4.mono (G:=fun j=>x≤j) (fun j e=>Nat.le_of_eq e.symm)) (fun j e=>.inl e));clear x4 c4 s4;go_wp2_with fail;go_roundw
   case rel=>exact⟨i+1,a5,c5,by omega,by go_num,HX4,HE4,HOB3,HKS,HC4⟩
   case measure=>simp[intOf]<;>omega
variable {k:Nat}{P:Program}{ops:Array Oper}{o:Oper}{a:Act}{Q:Exit→Act→World→Prop}
structure StD where
 g:Int
 f:Int
 v:Value
 L:List (List UInt8)
def StD.zero:StD:=⟨0,0,.slice none 0 0,[]⟩
def StD.cells (s:StD):Array Value:=stC s.g s.f s.v 0
def StD.is (s:StD) (x:ArD):Prop:=s.g=(x.gen:Int)∧s.f=(x.first:Int)∧s.L=x.ents
def Et (A0 A1:Option ArD):Nat→Option Nat
 |0=>none
 |1=>A0.map fun _=>0
 |_+2=>match A0,A1 with
  |none,none=>none
  |some _,none=>some 0
  |none,some _=>some 1
  |some x,some y=>if x.gen<y.gen then some 1 else some 0
theorem QM (A0 A1:Option ArD):(match A0,A1 with|none,none=>none|some x,none=>some x|none,some y=>some y|some x,some y=>if x.gen<y.gen then some y else some x)=(match Et A0 A1 2 with|none=>none|some 0=>A0|some _=>A1):=by
 cases A0<;>cases A1<;>simp only[Et];split <;>rfl
theorem Ic {l:List (List UInt8)}{x:ArD} (h:AQ l k=some x):x.gen%2=k:=by
 unfold AQ at h;by_cases h1:Al (l.headD [])≠0∨(Ak (l.headD [])).gen.toNat%2≠k
 ·rw[Ip h1]at h;cases h
 ·rw[In h1]at h;have h2:(Ak (l.headD [])).gen.toNat%2=k:=Decidable.not_not.1 (fun h3=>h1 (.inr h3));generalize (Ak (l.headD [])).gen.toNat=g at h h2;cases hs:(AP (Ak (l.headD [])).gen 0 l).1 with
  |nil=>rw[hs]at h;cases h
  |cons r t=>
   rw[hs,CN]at h;by_cases h3:r.kind≠1
   ·rw[Ip h3]at h;cases h
   ·rw[In h3]at h;cases hn:C9 r.load with
    |none=>rw[hn]at h;cases h
    |some p=>
     obtain⟨a,b⟩:=p;rw[hn]at h;simp only at h;by_cases h4:b≤(BK t).length
     ·rw[Ip h4]at h;cases h;exact h2
     ·rw[In h4]at h;cases h
def I9 (cs:Array Value):Nat→List Value→Array Value
 |_,[]=>cs
 |o,y::ys=>I9 (cs.setIfInBounds o y) (o+1) ys
theorem FO (g:Nat) (T:TypeId):∀(ys:List Value) (o:Nat) (cs:Array Value) (w:World),w.heap[g]?=some (.cells cs T (0,0))→
 (w.setCells g o ys).heap[g]?=some (.cells (I9 cs o ys) T (0,0))∧Chg (fun k=>k=g) w (w.setCells g o ys)∧(w.setCells g o ys).heap.size=w.heap.size
 | [],_,_,w,h=>⟨h,Chg.refl _ _,rfl⟩
 |y::ys,o,cs,w,h=>by
  obtain⟨h1,h2,h3⟩:=FO g T ys (o+1) (cs.setIfInBounds o y) (w.setCell ⟨g,o,none⟩ y) (Sc _ _ _ _ _ _ h);exact⟨h1,(Chg.setCell (F:=fun k=>k=g) w y rfl).trans h2 (fun j e=>.inl e),h3.trans (by simp[World.setCell])⟩
theorem Gq {rest:List Oper} (hgd:o.guard=none) (hdst:o.dst=none) (ty:TypeId) (x y:Operand) (ho:o.op=.store ty x y)
 (g i:Nat) (cells:Array Value) (hx:a.eval x=.pointer (some ⟨g,i,none⟩)) (hy:a.eval y=.agg cells) {T:TypeId} {cs:Array Value} (hg:w.heap[g]?=some (.cells cs T (0,0))) (hn:i+cells.size≤cs.size)
 (hi:(P.info? ty).map (·.size)=some cells.size) (h1:cells.all (·.oneCell')=true)
 (h:∀w',w'.heap[g]?=some (.cells (I9 cs i cells.toList) T (0,0))→Chg (fun k=>k=g) w w'→w'.heap.size=w.heap.size→wpList P ops Q rest a w'):wpList P ops Q (o::rest) a w:=by
 refine wpList_store_mid hgd ty x y ho g i cells hx hy (fun j hj=>⟨?_,frozen_of_row _ _ _ _ _ hg⟩) hi h1 ?_
 ·rw[cr hg,Array.getElem?_eq_getElem (by omega)];rfl
 rw[hdst];obtain⟨k1,k2,k3⟩:=FO g T cells.toList i cs w hg;exact h _ k1 k2 k3
def Ox (A0 A1:Option ArD) (o:Option Nat):Option ArD:=match o with|none=>none|some 0=>A0|some _=>A1
def Ja (s t:StD):Array Value:=#[.int .i64 s.g,.int .i64 s.f,s.v,.int .i64 0,.int .i64 t.g,.int .i64 t.f,t.v,.int .i64 0]
def Oy (o:Option ArD) (ok:Bool) (s:StD) (bi:Nat):Prop:=match o with|none=>ok=false|some x=>ok=true∧s.is x∧x.gen%2=bi
theorem QN {A0 A1:Option ArD}{fd:Bool}{s:StD} (hs:Et A0 A1 2=if fd then some 0 else none) (hI:∀x,A0=some x→s.is x) (hP:∀x,A0=some x→x.gen%2=0):Oy (Ox A0 A1 (Et A0 A1 2)) fd s 0:=by
 rw[hs];cases fd with
 |false=>rfl
 |true=>
  cases h:A0 with
  |none=>rw[h]at hs;cases A1<;>simp[Et]at hs
  |some x=>exact⟨rfl,hI x h,hP x h⟩
theorem QO {A0 A1:Option ArD}{fd:Bool}{s:StD} (hs:Et A0 A1 2=if fd then some 1 else none) (hI:∀x,A1=some x→s.is x) (hP:∀x,A1=some x→x.gen%2=1):Oy (Ox A0 A1 (Et A0 A1 2)) fd s 1:=by
 rw[hs];cases fd with
 |false=>rfl
 |true=>
  cases h:A1 with
  |none=>rw[h]at hs;cases A0<;>simp[Et]at hs
  |some x=>exact⟨rfl,hI x h,hP x h⟩
theorem LoadPost.parts {o:Option ArD}{e:Ending} (h:LoadPost w o e w'):∃(ok:Bool) (g f:Int) (v:Value) (L:List (List UInt8)),e=.returned (.tuple #[.agg (stC g f v 0),.bool ok,.int .i64 0])∧EntsAt w' (fun k=>w.heap.size≤k) v L∧Below w.heap.size w w'∧(ok=o.isSome∧∀x,o=some x→(⟨g,f,v,L⟩:StD).is x):=by
 obtain⟨c,g,f,v,L,h1,h2,h3,h4⟩:=h;refine⟨c,g,f,v,L,h1,h2,h3,?_⟩;cases o with
 |none=>exact⟨h4,fun x hx=>by cases hx⟩
 |some y=>exact⟨h4.1,fun x hx=>by cases hx;exact⟨h4.2.1,h4.2.2.1,h4.2.2.2⟩⟩
theorem NJ {A0 A1:Option ArD}{ok:Bool} (h:ok=A0.isSome):Et A0 A1 1=if ok then some 0 else none:=by subst h;cases A0<;>rfl
theorem IC {A0 A1:Option ArD}{ok fd:Bool}{bi:Nat}{g0 g1:Int} (h:ok=A1.isSome) (hs:Et A0 A1 1=if fd then some bi else none) (h0:∀x,A0=some x→g0=(x.gen:Int)) (h1:∀x,A1=some x→g1=(x.gen:Int)) {r:Bool} (hr:r=(ok&&(!fd||decide (g0<g1)))):
 Et A0 A1 2=if fd||ok then some (if r then 1 else bi)else none:=by
 subst h;cases A0 with
 |none=>
  obtain rfl :fd=false:=by cases fd with|false=>rfl |true=>cases hs
  cases A1 with
  |none=>rfl
  |some y=>subst hr;rfl
 |some x=>
  cases fd with
  |false=>cases hs
  |true=>
   obtain rfl :(0:Nat)=bi:=Option.some.inj hs;cases A1 with
   |none=>subst hr;rfl
   |some y=>
    have e0:=h0 x rfl;have e1:=h1 y rfl;subst e0 e1 hr;by_cases hlt:x.gen<y.gen<;>simp[Et,hlt]
def RJ (w:World) (o:Option ArD) (e:Ending) (w':World):Prop:=
 ∃(bi:Nat) (ok:Bool) (s:StD),e=.returned (.tuple #[.int .i64 bi,.agg s.cells,.bool ok,.int .i64 0])∧EntsAt w' (fun k=>w.heap.size≤k) s.v s.L∧Below w.heap.size w w'∧bi≤1∧Oy o ok s bi
theorem Id (h:DiskAt w F b S) (hK:KAt w) (a c:Nat) (hc8:8≤c) (hd:S.down=false) (hr:a+c≤S.dur.length) (hlen:S.pend.length<1000000000):
 Ca 49 #[stV b (a:Int) (c:Int)] w (RJ w (BW S ⟨a,c⟩)):=by
 obtain⟨A0,hA0⟩:=Xq (AQ (Ah S (a+0*(c/2)) (c/2)) 0);obtain⟨A1,hA1⟩:=Xq (AQ (Ah S (a+1*(c/2)) (c/2)) 1);have hcur:BW S ⟨a,c⟩=Ox A0 A1 (Et A0 A1 2):=by subst hA0 hA1;exact QM _ _
 have HL0:=Hd (show∀w1,Below w.heap.size w w1→Ca 75 #[stV b (a:Int) (c:Int),.int .i64 0] w1 (LoadPost w1 A0)from fun w1 hb=>by rw[←hA0];exact KH (h.below hb) (KAt.below hK hb hK.size) a c 0 hc8 (by omega) hd hr hlen)
 have HL1:=Hd (show∀w1,Below w.heap.size w w1→Ca 75 #[stV b (a:Int) (c:Int),.int .i64 1] w1 (LoadPost w1 A1)from fun w1 hb=>by rw[←hA1];exact KH (h.below hb) (KAt.below hK hb hK.size) a c 1 hc8 (by omega) hd hr hlen)
 have HP0:=Hd (show∀x,A0=some x→x.gen%2=0 from fun x hx=>Ic (hA0.trans hx));have HP1:=Hd (show∀x,A1=some x→x.gen%2=1 from fun x hx=>Ic (hA1.trans hx));obtain⟨A,hA⟩:=Xq (BW S ⟨a,c⟩);rw[hA]at hcur⊢;have HA:=Hd hcur;clear hA hcur hA0 hA1;obtain⟨w1,hw1⟩:=Xq (w.alloc (.cells #[.pointer (some ⟨b,0,none⟩),.int .i64 a,.int .i64 c] 94));have hb1:=Lq hw1;have s1:w1.heap.size=w.heap.size+1:=by rw[←hw1];simp
 have x1:=Nq hw1 rfl;obtain⟨w2,hw2⟩:=Xq (w1.alloc (.cells StD.zero.cells 97));have hb2:=Lq hw2;have s2:w2.heap.size=w1.heap.size+1:=by rw[←hw2];simp
 have x2:=Nq hw2 rfl;obtain⟨w3,hw3⟩:=Xq (w2.alloc (.cells (Ja .zero .zero) 135));have hb3:=Lq hw3;have s3:w3.heap.size=w2.heap.size+1:=by rw[←hw3];simp
 have x3:=Nq hw3 rfl;obtain⟨B,hB⟩:=Xq (w.heap.size);have x2:=(hb3.block _ (by omega)).trans x2;have x1:=(hb3.block _ (by omega)).trans ((hb2.block _ (by omega)).trans x1);rw[show w2.heap.size=B+2 by omega]at x3;rw[show w1.heap.size=B+1 by omega]at x2;rw[hB]at x1;obtain⟨HB,HW1,HW2,HW3,HX1,HX2,HX3,HB3,HS3,HE3,HC3⟩:=Hd11 hB hw1 hw2 hw3 x1 x2 x3 ((hb1.trans (hb2.mono (by omega))).trans (hb3.mono (by omega))) (show w3.heap.size=B+3 by omega) (CU w3 (fun k=>B+3≤k)) (Chg.refl (fun k=>k=B+2) w3);clear hw1 hw2 hw3 hb1 hb2 hb3 s1 s2 s3 x1 x2 x3 hB h hK hr hlen hd hc8;unfold stV at HL0 HL1⊢;unfold StD.cells StD.zero stC at HW2;unfold Ja StD.zero at HW3;go_enter Tryz.func49,Tryz.ntmps49;go_wp2_with fail;rw[HW1.out,HW2.out,HW3.out,HB.out];go_loopw [2,4,9] (fun bv fv iv wr=>∃(i:Nat) (s0 s1:StD) (bi:Nat) (fd:Bool),i≤2∧iv=.int .i64 i∧bv=.int .i64 bi∧fv=.bool fd∧bi≤1∧Hid (Et A0 A1 i=if fd then some bi else none)∧Hid (wr.heap[B+2]?=some (.cells (Ja s0 s1) 135 (0,0)))∧Hid (EntsAt wr (fun k=>B+3≤k) s0.v s0.L)∧Hid (EntsAt wr (fun k=>B+3≤k) s1.v s1.L)∧Hid (∀x,0<i→A0=some x→s0.is x)∧Hid (∀x,1<i→A1=some x→s1.is x)∧Hid (Chg (fun k=>k=B+2) w3 wr)) (fun _ _ iv _=>2-(intOf iv).toNat)
 case atStart=>exact⟨0,.zero,.zero,0,false,by omega,rfl,rfl,rfl,by omega,Hd rfl,HX3,HE3,HE3,Hd (fun x h=>absurd h (by omega)),Hd (fun x h=>absurd h (by omega)),HC3⟩
 case round=>
  obtain⟨i,s0,s1,bi,fd,hi,rfl,rfl,rfl,hbi,HSE,HXR,HEA,HEB,HI0,HI1,HCR⟩:=hrel;obtain⟨W1,rfl⟩:∃W1,W1=wr:=⟨_,rfl⟩;clear HX3 HE3 HC3;obtain⟨g0,f0,v0,L0⟩:=s0;obtain⟨g1,f1,v1,L1⟩:=s1;obtain⟨a0,c0,e0⟩:=HEA.out.form;obtain⟨a1,c1,e1⟩:=HEB.out.form;simp only at e0 e1;subst e0 e1;obtain⟨n0,hn0⟩:∃n,L0.length=n:=⟨_,rfl⟩;obtain⟨n1,hn1⟩:∃n,L1.length=n:=⟨_,rfl⟩;rw[hn0]at HXR HEA HI0;rw[hn1]at HXR HEB HI1;clear hn0 hn1;obtain⟨HBW,HCB,HR2⟩:=Hd3 (HB3.out.trans (HCR.out.below (B:=w.heap.size) (fun k e=>by have:=HB.out;omega) HB3.out.size)) ((HCR.out.block B (by have:=HS3.out;omega) (by omega)).trans HX1.out) ((HCR.out.block (B+1) (by have:=HS3.out;omega) (by omega)).trans HX2.out);rcases(show i=2∨i=0∨i=1 by omega)with rfl |rfl |rfl
  ·have HLC:=Hd (fun w' (hw':Chg (fun j=>j=B+1) W1 w')=>by have h1:=(Ck hw' HXR.out);exact Cr8 h1);rcases(show bi=0∨bi=1 by omega)with rfl |rfl
   ·go_wp2_with fail;refine bH (fun j=>j=B+1) ?_;intro wd hd0 hS0;refine tkH 0 hS0 ?_;refine tkH 1 hS0 ?_;refine tkH 2 hS0 ?_;refine AD 3 HLC.out hS0 ?_;refine tkH 4 hS0 ?_;refine tkH 5 hS0 ?_;refine dH 6 fun K hK=>?_
    refine Pv 97 3 46 _ (Bq hd0 HR2.out) ?_;intro V8 x8 c8 s8;have hS8:Chg (fun j=>j=B+1) W1 V8:=hS0.trans c8 (fun j e=>.inl e);refine Kq hK (hS8) ?_;have hS0:=hS8;refine tkH 7 hS0 ?_;refine tkH 8 hS0 ?_;refine eH ?_;have k0:=Cq x8 0;have k1:=Cq x8 1;have k2:=Cq x8 2;have k3:=Cq x8 3;have HEZ:=Hd (((HEA.out.chg hS8 (fun j _ h1 e=>by omega)).weak (G:=fun k=>w.heap.size≤k) (fun j _ h1=>by have h4:=HB.out;omega)));have HBV8:=Hd (HBW.out.trans (hS8.below (B:=w.heap.size) (fun j e=>by have h3:=HB.out;omega) HBW.out.size));clear x8 c8 s8 hS8 hd0 hS0;go_wp2_with fail;exact Bv (hr:=by simp[go_sem,k0,k1,k2,k3]) (.tuple #[.int .i64 0,.agg #[.int .i64 g0,.int .i64 f0,.slice a0 n0 c0,.int .i64 0],.bool fd,.int .i64 0]) ⟨0,fd,⟨g0,f0,.slice a0 n0 c0,L0⟩,rfl,HEZ.out,HBV8.out,by omega,by rw[HA.out];exact QN HSE.out (fun x h=>HI0.out x (by omega) h) HP0.out⟩
   ·go_wp2_with fail;refine bH (fun j=>j=B+1) ?_;intro wd hd0 hS0;refine tkH 0 hS0 ?_;refine tkH 1 hS0 ?_;refine tkH 2 hS0 ?_;refine AD 3 HLC.out hS0 ?_;refine tkH 4 hS0 ?_;refine tkH 5 hS0 ?_;refine dH 6 fun K hK=>?_
    refine Pv 97 3 46 _ (Bq hd0 HR2.out) ?_;intro V8 x8 c8 s8;have hS8:Chg (fun j=>j=B+1) W1 V8:=hS0.trans c8 (fun j e=>.inl e);refine Kq hK (hS8) ?_;have hS0:=hS8;refine tkH 7 hS0 ?_;refine tkH 8 hS0 ?_;refine eH ?_;have k0:=Cq x8 0;have k1:=Cq x8 1;have k2:=Cq x8 2;have k3:=Cq x8 3;have HEZ:=Hd (((HEB.out.chg hS8 (fun j _ h1 e=>by omega)).weak (G:=fun k=>w.heap.size≤k) (fun j _ h1=>by have h4:=HB.out;omega)));have HBV8:=Hd (HBW.out.trans (hS8.below (B:=w.heap.size) (fun j e=>by have h3:=HB.out;omega) HBW.out.size));clear x8 c8 s8 hS8 hd0 hS0;go_wp2_with fail;exact Bv (hr:=by simp[go_sem,k0,k1,k2,k3]) (.tuple #[.int .i64 1,.agg #[.int .i64 g1,.int .i64 f1,.slice a1 n1 c1,.int .i64 0],.bool fd,.int .i64 0]) ⟨1,fd,⟨g1,f1,.slice a1 n1 c1,L1⟩,rfl,HEZ.out,HBV8.out,by omega,by rw[HA.out];exact QO HSE.out (fun x h=>HI1.out x (by omega) h) HP1.out⟩
  ·have k0:=Cq HCB.out 0;have k1:=Cq HCB.out 1;have k2:=Cq HCB.out 2;go_wp2_with fail;refine(HL0.out W1 HBW.out).mono ?_;intro e W2 hpost;obtain⟨ok,g9,f9,v9,L9,rfl,he,hb,hA⟩:=hpost.parts;clear hpost;obtain⟨a9,c9,rfl⟩:=he.form;obtain⟨n9,hn9⟩:∃n,L9.length=n:=⟨_,rfl⟩;rw[hn9]at he⊢;unfold stC;have hsz:=(Ax HXR.out).1;obtain⟨HX2',HE9,HEA2,HEB2,HC2,HAA⟩:=Hd6 ((hb.block _ hsz).trans HXR.out) (he.weak (G:=fun k=>B+3≤k) (fun k _ h1=>by omega)) (HEA.out.below hb) (HEB.out.below hb) (HCR.out.trans (Cb (F:=fun k=>k=B+2) hb) (fun k e=>.inl e)) hA;clear he hb hA k0 k1 k2 hsz;go_wp2_with (refine Gq rfl rfl 97 (.tmp 20) (.tmp 17) rfl (B+1+1) 0 #[.int .i64 g9,.int .i64 f9,.slice a9 n9 c9,.int .i64 0] rfl rfl (cs:=Ja ⟨g0,f0,.slice a0 n0 c0,L0⟩ ⟨g1,f1,.slice a1 n1 c1,L1⟩) HX2'.out (by show 0+4≤8;decide) (by kernel_rfl) (by kernel_rfl) ?_;refine Stop.on ?_)
   refine Stop.go ?_
   try simp only[P0,P1,P2,P3,P4]
   intro W3 x3 c3 s3
   try simp only[P0,P1,P2,P3,P4]
   obtain⟨HX3,HEN,HEA3,HEB3,HC3⟩:=Hd5 (show W3.heap[B+2]?=some (.cells (Ja ⟨g9,f9,.slice a9 n9 c9,L9⟩ ⟨g1,f1,.slice a1 n1 c1,L1⟩) 135 (0,0))from x3) (HE9.out.chg c3 (fun j _ h1 e=>by omega)) (HEA2.out.chg c3 (fun j _ h1 e=>by omega)) (HEB2.out.chg c3 (fun j _ h1 e=>by omega)) (HC2.out.trans c3 (fun j e=>.inl e));clear x3 c3 s3 HX2' HE9 HEA2 HEB2 HC2;have HLC:=Hd (fun w' (hw':Chg (fun _=>False) W3 w')=>by have h1:=((hw'.block (B+2) (Ax HX3.out).1 (fun h=>h)).trans HX3.out);exact Dq2 (Cq h1 0) (Cq h1 4));cases ok
   ·go_wp2_with fail;refine bH (fun _=>False) ?_;intro wd hd0 hS0;refine tkH 0 hS0 ?_;refine tkH 1 hS0 ?_;refine AH 2 hS0 ?_;refine AH 3 hS0 ?_;refine AH 4 hS0 ?_;refine AH 5 hS0 ?_;refine AH 6 hS0 ?_;refine AH 7 hS0 ?_;refine AH 8 hS0 ?_;refine AH 9 hS0 ?_;refine AH 10 hS0 ?_;refine AH 11 hS0 ?_;refine AH 12 hS0 ?_;refine AH 13 hS0 ?_;refine AH 14 hS0 ?_;refine tkH 15 hS0 ?_;refine eH ?_;go_wp2_with fail;go_roundw
    case rel=>exact⟨1,⟨g9,f9,.slice a9 n9 c9,L9⟩,⟨g1,f1,.slice a1 n1 c1,L1⟩,bi,fd,by omega,rfl,rfl,rfl,by omega,Hd ((NJ HAA.out.1).trans (by have h1:=HSE.out;cases fd with|false=>rfl |true=>cases h1)),Hd (Bq hd0 HX3.out),Hd (HEN.out.below hd0),Hd (HEB3.out.below hd0),Hd (fun x _ h=>HAA.out.2 x h),Hd (fun x h=>absurd h (by omega)),Hd (HC3.out.trans (Cb hd0) (fun j e=>.inl e))⟩
    case measure=>simp[intOf]<;>omega
   ·obtain rfl :fd=false:=by
     have h1:=HSE.out;cases fd with
     |false=>rfl
     |true=>cases h1
    go_wp2_with fail;refine bH (fun _=>False) ?_;intro wd hd0 hS0;refine tkH 0 hS0 ?_;refine tkH 1 hS0 ?_;refine Aj 2 hS0 ?_;refine Aj 3 hS0 ?_;refine Aj 4 hS0 ?_;refine AH 5 hS0 ?_;refine AH 6 hS0 ?_;refine AH 7 hS0 ?_;refine AH 8 hS0 ?_;refine AH 9 hS0 ?_;refine AH 10 hS0 ?_;refine AH 11 hS0 ?_;refine AH 12 hS0 ?_;refine AH 13 hS0 ?_;refine Aj 14 hS0 ?_;refine tkH 15 hS0 ?_;refine eH ?_;go_wp2_with fail;go_roundw
    case rel=>exact⟨1,⟨g9,f9,.slice a9 n9 c9,L9⟩,⟨g1,f1,.slice a1 n1 c1,L1⟩,0,true,by omega,rfl,rfl,rfl,by omega,Hd (NJ HAA.out.1),Hd (Bq hd0 HX3.out),Hd (HEN.out.below hd0),Hd (HEB3.out.below hd0),Hd (fun x _ h=>HAA.out.2 x h),Hd (fun x h=>absurd h (by omega)),Hd (HC3.out.trans (Cb hd0) (fun j e=>.inl e))⟩
    case measure=>simp[intOf]<;>omega
  ·have k0:=Cq HCB.out 0;have k1:=Cq HCB.out 1;have k2:=Cq HCB.out 2;go_wp2_with fail;refine(HL1.out W1 HBW.out).mono ?_;intro e W2 hpost;obtain⟨ok,g9,f9,v9,L9,rfl,he,hb,hA⟩:=hpost.parts;clear hpost;obtain⟨a9,c9,rfl⟩:=he.form;obtain⟨n9,hn9⟩:∃n,L9.length=n:=⟨_,rfl⟩;rw[hn9]at he⊢;unfold stC;have hsz:=(Ax HXR.out).1;obtain⟨HX2',HE9,HEA2,HEB2,HC2,HAA⟩:=Hd6 ((hb.block _ hsz).trans HXR.out) (he.weak (G:=fun k=>B+3≤k) (fun k _ h1=>by omega)) (HEA.out.below hb) (HEB.out.below hb) (HCR.out.trans (Cb (F:=fun k=>k=B+2) hb) (fun k e=>.inl e)) hA;clear he hb hA k0 k1 k2 hsz;go_wp2_with (refine Gq rfl rfl 97 (.tmp 20) (.tmp 17) rfl (B+1+1) 4 #[.int .i64 g9,.int .i64 f9,.slice a9 n9 c9,.int .i64 0] rfl rfl (cs:=Ja ⟨g0,f0,.slice a0 n0 c0,L0⟩ ⟨g1,f1,.slice a1 n1 c1,L1⟩) HX2'.out (by show 4+4≤8;decide) (by kernel_rfl) (by kernel_rfl) ?_;refine Stop.on ?_)
   refine Stop.go ?_
   try simp only[P0,P1,P2,P3,P4]
   intro W3 x3 c3 s3
   try simp only[P0,P1,P2,P3,P4]
   obtain⟨HX3,HEN,HEA3,HEB3,HC3⟩:=Hd5 (show W3.heap[B+2]?=some (.cells (Ja ⟨g0,f0,.slice a0 n0 c0,L0⟩ ⟨g9,f9,.slice a9 n9 c9,L9⟩) 135 (0,0))from x3) (HE9.out.chg c3 (fun j _ h1 e=>by omega)) (HEA2.out.chg c3 (fun j _ h1 e=>by omega)) (HEB2.out.chg c3 (fun j _ h1 e=>by omega)) (HC2.out.trans c3 (fun j e=>.inl e));clear x3 c3 s3 HX2' HE9 HEA2 HEB2 HC2;have HLC:=Hd (fun w' (hw':Chg (fun _=>False) W3 w')=>by have h1:=((hw'.block (B+2) (Ax HX3.out).1 (fun h=>h)).trans HX3.out);exact Dq2 (Cq h1 0) (Cq h1 4));cases ok
   ·go_wp2_with fail;refine bH (fun _=>False) ?_;intro wd hd0 hS0;refine tkH 0 hS0 ?_;refine tkH 1 hS0 ?_;refine AH 2 hS0 ?_;refine AH 3 hS0 ?_;refine AH 4 hS0 ?_;refine AH 5 hS0 ?_;refine AH 6 hS0 ?_;refine AH 7 hS0 ?_;refine AH 8 hS0 ?_;refine AH 9 hS0 ?_;refine AH 10 hS0 ?_;refine AH 11 hS0 ?_;refine AH 12 hS0 ?_;refine AH 13 hS0 ?_;refine AH 14 hS0 ?_;refine tkH 15 hS0 ?_;refine eH ?_;go_wp2_with fail;go_roundw
    case rel=>exact⟨2,⟨g0,f0,.slice a0 n0 c0,L0⟩,⟨g9,f9,.slice a9 n9 c9,L9⟩,bi,fd,by omega,rfl,rfl,rfl,by omega,Hd ((IC HAA.out.1 HSE.out (h0:=fun x h=>(HI0.out x (by omega) h).1) (h1:=fun x h=>(HAA.out.2 x h).1) (r:=false) rfl).trans (by cases fd<;>rfl)),Hd (Bq hd0 HX3.out),Hd (HEA3.out.below hd0),Hd (HEN.out.below hd0),Hd (fun x _ h=>HI0.out x (by omega) h),Hd (fun x _ h=>HAA.out.2 x h),Hd (HC3.out.trans (Cb hd0) (fun j e=>.inl e))⟩
    case measure=>simp[intOf]<;>omega
   ·cases fd
    ·go_wp2_with fail;refine bH (fun _=>False) ?_;intro wd hd0 hS0;refine tkH 0 hS0 ?_;refine tkH 1 hS0 ?_;refine Aj 2 hS0 ?_;refine Aj 3 hS0 ?_;refine Aj 4 hS0 ?_;refine AH 5 hS0 ?_;refine AH 6 hS0 ?_;refine AH 7 hS0 ?_;refine AH 8 hS0 ?_;refine AH 9 hS0 ?_;refine AH 10 hS0 ?_;refine AH 11 hS0 ?_;refine AH 12 hS0 ?_;refine AH 13 hS0 ?_;refine Aj 14 hS0 ?_;refine tkH 15 hS0 ?_;refine eH ?_;go_wp2_with fail;go_roundw
     case rel=>exact⟨2,⟨g0,f0,.slice a0 n0 c0,L0⟩,⟨g9,f9,.slice a9 n9 c9,L9⟩,1,true,by omega,rfl,rfl,rfl,by omega,Hd ((IC HAA.out.1 HSE.out (h0:=fun x h=>(HI0.out x (by omega) h).1) (h1:=fun x h=>(HAA.out.2 x h).1) (fd:=false) (r:=true) rfl).trans rfl),Hd (Bq hd0 HX3.out),Hd (HEA3.out.below hd0),Hd (HEN.out.below hd0),Hd (fun x _ h=>HI0.out x (by omega) h),Hd (fun x _ h=>HAA.out.2 x h),Hd (HC3.out.trans (Cb hd0) (fun j e=>.inl e))⟩
     case measure=>simp[intOf]<;>omega
    ·obtain rfl :bi=0:=by
      have h1:=HSE.out;cases hq:A0 with
      |none=>rw[hq]at h1;cases h1
      |some x=>rw[hq]at h1;exact(Option.some.inj h1).symm
     by_cases hgt:g0<g9
     ·go_wp2_with fail;refine bH (fun _=>False) ?_;intro wd hd0 hS0;refine tkH 0 hS0 ?_;refine tkH 1 hS0 ?_;refine Aj 2 hS0 ?_;refine Aj 3 hS0 ?_;refine Aj 4 hS0 ?_;refine Aj 5 hS0 ?_;refine Aj 6 hS0 ?_;refine Aj 7 hS0 ?_;refine Bw 8 HLC.out hS0 ?_;refine Aj 9 hS0 ?_;refine Aj 10 hS0 ?_;refine Aj 11 hS0 ?_;refine Bw 12 HLC.out hS0 ?_;refine Aj 13 hS0 ?_;refine Aj 14 hS0 ?_;refine tkH 15 hS0 ?_;refine eH ?_;go_wp2_with fail;go_roundw
      case rel=>exact⟨2,⟨g0,f0,.slice a0 n0 c0,L0⟩,⟨g9,f9,.slice a9 n9 c9,L9⟩,1,true,by omega,rfl,rfl,rfl,by omega,Hd ((IC HAA.out.1 HSE.out (h0:=fun x h=>(HI0.out x (by omega) h).1) (h1:=fun x h=>(HAA.out.2 x h).1) (fd:=true) (r:=true) (by simp[hgt])).trans rfl),Hd (Bq hd0 HX3.out),Hd (HEA3.out.below hd0),Hd (HEN.out.below hd0),Hd (fun x _ h=>HI0.out x (by omega) h),Hd (fun x _ h=>HAA.out.2 x h),Hd (HC3.out.trans (Cb hd0) (fun j e=>.inl e))⟩
      case measure=>simp[intOf]<;>omega
     ·go_wp2_with fail;refine bH (fun _=>False) ?_;intro wd hd0 hS0;refine tkH 0 hS0 ?_;refine tkH 1 hS0 ?_;refine Aj 2 hS0 ?_;refine Aj 3 hS0 ?_;refine Aj 4 hS0 ?_;refine Aj 5 hS0 ?_;refine Aj 6 hS0 ?_;refine Aj 7 hS0 ?_;refine Bw 8 HLC.out hS0 ?_;refine Aj 9 hS0 ?_;refine Aj 10 hS0 ?_;refine Aj 11 hS0 ?_;refine Bw 12 HLC.out hS0 ?_;refine Aj 13 hS0 ?_;refine Aj 14 hS0 ?_;refine tkH 15 hS0 ?_;refine eH ?_;go_wp2_with fail;go_roundw
      case rel=>exact⟨2,⟨g0,f0,.slice a0 n0 c0,L0⟩,⟨g9,f9,.slice a9 n9 c9,L9⟩,0,true,by omega,rfl,rfl,rfl,by omega,Hd ((IC HAA.out.1 HSE.out (h0:=fun x h=>(HI0.out x (by omega) h).1) (h1:=fun x h=>(HAA.out.2 x h).1) (fd:=true) (r:=false) (by simp[hgt])).trans rfl),Hd (Bq hd0 HX3.out),Hd (HEA3.out.below hd0),Hd (HEN.out.below hd0),Hd (fun x _ h=>HI0.out x (by omega) h),Hd (fun x _ h=>HAA.out.2 x h),Hd (HC3.out.trans (Cb hd0) (fun j e=>.inl e))⟩
      case measure=>simp[intOf]<;>omega
variable {g:Nat}{K:Act→World→Prop}
structure RecsAt (w:World) (F:Nat→Prop) (v:Value) (L:List RecD):Prop where
 ex:∃ps,ps.length=L.length∧w.ownsRow 0 111 4 v L.length (D9 L ps)∧(∀g,v.ownBlock=some g→F g)∧∀i (h:i<L.length),∃u,ps[i]?=some u∧BytesN w (fun k=>F k∧v.ownBlock≠some k) u L[i].load
section
variable {w w':World} {F G:Nat→Prop} {v:Value} {L:List RecD}
theorem RecsAt.form (h:RecsAt w F v L):∃a cap,v=.slice a L.length cap:=by obtain⟨ps,_,h,_⟩:=h.ex;exact Ag h
theorem RecsAt.weak (h:RecsAt w F v L) (hFG:∀k,k<w.heap.size→F k→G k):RecsAt w G v L:=by obtain⟨ps,h0,h1,h2,h3⟩:=h.ex;refine⟨ps,h0,h1,fun g hg=>hFG g (Ab h1 g hg).2 (h2 g hg),fun i hi=>?_⟩;obtain⟨u,h4,h5⟩:=h3 i hi;exact⟨u,h4,h5.weak fun k hk h6=>⟨hFG k hk h6.1,h6.2⟩⟩
theorem RecsAt.chg (h:RecsAt w F v L) (hc:Chg G w w') (hd:∀k,k<w.heap.size→F k→¬G k):RecsAt w' F v L:=by obtain⟨ps,h0,h1,h2,h3⟩:=h.ex;refine⟨ps,h0,AJ h1 hc (fun k hk=>hd k (Ab h1 k hk).2 (h2 k hk)),h2,fun i hi=>?_⟩;obtain⟨u,h4,h5⟩:=h3 i hi;exact⟨u,h4,h5.chg hc fun k hk h6=>hd k hk h6.1⟩
theorem RecsAt.below (h:RecsAt w F v L) (hb:Below w.heap.size w w'):RecsAt w' F v L:=h.chg (G:=fun _=>False) (Cb hb) (fun _ _ _ h=>h)
theorem RecsAt.get {a:Option Addr}{cap:Nat} (h:RecsAt w F (.slice a n cap) L) {i:Nat} (hi:i<L.length):∃g u,a=some ⟨g,0,none⟩∧F g∧g<w.heap.size∧w.cell? ⟨g,i*4,none⟩=some (.int .i64 L[i].kind)∧w.cell? ⟨g,i*4+1,none⟩=some (.int .i64 L[i].gen)∧
 w.cell? ⟨g,i*4+2,none⟩=some (.int .i64 L[i].num)∧w.cell? ⟨g,i*4+3,none⟩=some u∧BytesN w F u L[i].load:=by
 obtain⟨ps,h0,h1,h2,h3⟩:=h.ex;obtain⟨u,h4,h5⟩:=h3 i hi;obtain⟨g,cap',e,hgl,_,hr⟩:=AZ h1 (by omega);cases e;have hp:ps[i]'(by omega)=u:=by have:=List.getElem?_eq_getElem (l:=ps) (i:=i) (by omega);rw[h4]at this;simpa using this.symm
 have key:∀j u',j<4→(EH L[i] u)[j]?=some u'→w.cell? ⟨g,i*4+j,none⟩=some u':=fun j u' hj hu=>hr _ _ (by rw[F4 L ps i j hi h0 hj,hp];exact hu)
 exact⟨g,u,rfl,h2 g rfl,hgl,key 0 _ (by omega) rfl,key 1 _ (by omega) rfl,key 2 _ (by omega) rfl,key 3 _ (by omega) rfl,h5.weak fun k _ h6=>h6.1⟩
theorem Oz {r:RecD}{u:Value} (hg:w.heap[g]?=some (.cells #[.int .i64 r.kind,.int .i64 r.gen,.int .i64 r.num,u] 111 (0,0))) (hF:F g) (hne:BytesN w (fun k=>F k∧k≠g) u r.load):RecsAt w F (.slice (some ⟨g,0,none⟩) 1 1) [r]:=by
 obtain⟨a,c,rfl⟩:=hne.form;refine⟨[.slice a r.load.length c],rfl,⟨rfl,.inr ⟨g,1,#[.int .i64 r.kind,.int .i64 r.gen,.int .i64 r.num,.slice a r.load.length c],rfl,Nat.zero_le _,hg,Nat.le_refl _,by decide,rfl,rfl⟩⟩,fun k hk=>?_,fun i hi=>?_⟩
 ·obtain rfl :g=k:=Option.some.inj hk;exact hF
 ·obtain rfl :i=0:=by simp at hi;omega
  refine⟨_,rfl,hne.weak fun k _ h=>⟨h.1,fun e=>h.2 ?_⟩⟩;exact(Option.some.inj e).symm
theorem OA (s x:Operand) (ho:o.op=.call {callee:=.builtin .append,args:=#[s,x],argTypes:=#[134,134]})
 {u:Value} {r:RecD} (hs:a.eval s=v) (hown:RecsAt w F v L) (hu:BytesN w (fun k=>F k∧v.ownBlock≠some k) u r.load) (hx:a.eval x=.slice (some ⟨w.heap.size,0,none⟩) 1 1)
 {n:Nat} (hL:L.length=n) (hn:n<1000000000)
 (h:∀a' cap' w',RecsAt w' (fun k=>F k∨w.heap.size≤k) (.slice a' (n+1) cap') (L++[r])→Chg (fun k=>v.ownBlock=some k) w w'→(∀g,(Value.slice a' (n+1) cap').ownBlock=some g→v.ownBlock=some g∨w.heap.size≤g)→K (a.put o.dst (.slice a' (n+1) cap')) w'):
 o.wp Tryz.prog a (w.alloc (.cells #[.int .i64 r.kind,.int .i64 r.gen,.int .i64 r.num,u] 111)) K Q:=by
 subst hL;obtain⟨i0,hi,hz0,hz1,hz2⟩:=info_parts NH;have hba:Below w.heap.size w (w.alloc (.cells #[.int .i64 r.kind,.int .i64 r.gen,.int .i64 r.num,u] 111)):=Rq.alloc Lr _;obtain⟨ps,h0,hr,hF,he⟩:=hown.ex;have hr1:=An hr hba;have hu1:=hu.below hba;obtain⟨ua,uc,hue⟩:=hu.form;refine wp_append_lies _ s x 134 ho 0 111 i0 _ 4 48 Tryz.underlying134 hi hz0 hz1 hz2 rfl (by decide) v L.length (D9 L ps) hs hr1
  ⟨w.heap.size,0,none⟩ 1 1 (EH r u) hx rfl (World.news_of_block (cs:=#[.int .i64 r.kind,.int .i64 r.gen,.int .i64 r.num,u]) (t:=111) (fr:=(0,0)) (Hn)) (fun y hy=>by simp only[EH,List.mem_cons,List.not_mem_nil,or_false]at hy;rcases hy with rfl |rfl |rfl |rfl <;>first|rfl | (rw[hue];rfl)) (by decide) (by unfold maxLen;omega) (by omega) (Nat.zero_le _) _ rfl ?_
 intro g' cap' w' hown' hgrow hat hlt;have hc1:Chg (fun k=>v.ownBlock=some k) (w.alloc (.cells #[.int .i64 r.kind,.int .i64 r.gen,.int .i64 r.num,u] 111)) w':=Chg.grown hgrow (fun k hk=>.inl hk);have hc2:Chg (fun k=>v.ownBlock=some k) w w':=(Cb hba).trans hc1 (fun k hk=>.inl hk);have hat':v.ownBlock=some g'∨w.heap.size≤g':=hat.elim .inl (fun e=>.inr (by rw[e,Sz];omega));have keep:∀(y:Value) (ys:List UInt8),BytesN w (fun k=>F k∧v.ownBlock≠some k) y ys→BytesN w' (fun k=>(F k∨w.heap.size≤k)∧(Value.slice (some ⟨g',0,none⟩) (L.length+1) cap').ownBlock≠some k) y ys:=fun y ys hy=>by
  have h1:=(hy.weak (G:=fun k=>(F k∧v.ownBlock≠some k)∧k<w.heap.size) (fun k h1 h2=>⟨h2,h1⟩)).chg hc2 (fun k _ h3=>h3.1.2);refine h1.weak fun k _ h2=>⟨.inl h2.1.1,fun e=>?_⟩
  have e':g'=k:=Option.some.inj e;subst e';rcases hat' with h3|h3
  ·exact h2.1.2 h3
  ·have:=h2.2;omega
 refine h _ cap' w' ⟨ps++[u],by simp[h0],by rw[List.length_append,FN L ps r u h0];exact hown',fun g hg=>?_,fun i hi=>?_⟩ hc2 (fun g hg=>by obtain rfl :g'=g:=Option.some.inj hg;exact hat')
 ·obtain rfl :g'=g:=Option.some.inj hg;exact hat'.elim (fun h3=>.inl (hF _ h3)) .inr
 by_cases hlt:i<L.length
 ·obtain⟨y,h1,h2⟩:=he i hlt;refine⟨y,by rw[List.getElem?_append_left (by omega)];exact h1,?_⟩;rw[List.getElem_append_left hlt];exact keep _ _ h2
 ·rw[List.length_append]at hi;simp at hi;obtain rfl :i=L.length:=by omega
  refine⟨u,by rw[List.getElem?_append_right (by omega),h0,Nat.sub_self];rfl,?_⟩;simp only[List.getElem_append_right Lr,Nat.sub_self,List.getElem_cons_zero];exact keep _ _ hu
theorem Kj {rest:List Oper} (hgd:o.guard=none) (s x:Operand) (ho:o.op=.call {callee:=.builtin .append,args:=#[s,x],argTypes:=#[134,134]})
 {u:Value} (r:RecD) (hs:a.eval s=v) (hown:RecsAt w F v L) (hu:BytesN w (fun k=>F k∧v.ownBlock≠some k) u r.load) (hx:a.eval x=.slice (some ⟨w.heap.size,0,none⟩) 1 1)
 {n:Nat} (hL:L.length=n) (hn:n<1000000000)
 (h:∀a' cap' w',RecsAt w' (fun k=>F k∨w.heap.size≤k) (.slice a' (n+1) cap') (L++[r])→Chg (fun k=>v.ownBlock=some k) w w'→(∀g,(Value.slice a' (n+1) cap').ownBlock=some g→v.ownBlock=some g∨w.heap.size≤g)→wpList Tryz.prog ops Q rest (a.put o.dst (.slice a' (n+1) cap')) w'):
 wpList Tryz.prog ops Q (o::rest) a (w.alloc (.cells #[.int .i64 r.kind,.int .i64 r.gen,.int .i64 r.num,u] 111)):=
 wpList_plain hgd fun _ hK=>OA s x ho hs hown hu hx hL hn fun a' cap' w' h1 h2 h3=>hK _ _ (h a' cap' w' h1 h2 h3)
end
variable {f:Nat}{E:List (List UInt8)}
theorem Gr (l:List (List UInt8)) (f:PartD):∀k i acc,(AU l f i k acc).2.2=0→(AU l f i k acc).1.gen=f.gen∧(AU l f i k acc).1.num=f.num
 |0,_,_,_=>⟨rfl,rfl⟩
 |k+1,i,acc,h=>by
  rw[AU]at h⊢;cases hb:l[i]? with
  |none=>rw[hb]at h;cases h
  |some b=>
   rw[hb]at h;simp only at h⊢;by_cases h1:Al b≠0
   ·rw[Ip h1]at h;exact absurd h h1
   ·rw[In h1]at h⊢;by_cases h2:CT f (Ak b) i=true
    ·rw[Ip h2]at h⊢;exact Gr l f k (i+1) _ h
    ·rw[In h2]at h;cases h
theorem IP {l l':List (List UInt8)}{f:PartD} (hL:∀(i:Nat) x,l'[i]?=some x→Al x=0→(Ak x).gen=f.gen→l[i]?=some x):∀k i acc,(AU l' f i k acc).2.2=0→AU l f i k acc=AU l' f i k acc
 |0,_,_,_=>rfl
 |k+1,i,acc,h=>by
  rw[AU]at h;rw[AU,AU];cases hb:l'[i]? with
  |none=>rw[hb]at h;cases h
  |some b=>
   rw[hb]at h;simp only at h⊢;by_cases h1:Al b≠0
   ·rw[Ip h1]at h;exact absurd h h1
   ·rw[In h1]at h⊢;by_cases h2:CT f (Ak b) i=true
    ·rw[Ip h2]at h⊢;have h3:(Ak b).gen=f.gen:=by simp only[CT,Bool.and_eq_true,beq_iff_eq]at h2;exact h2.1.1.1.2
     rw[hL i b hb (Classical.not_not.1 h1) h3];simp only;rw[In h1,Ip h2];exact IP hL k (i+1) _ h
    ·rw[In h2]at h;cases h
theorem KI {l l':List (List UInt8)}{g:Int} (hL:∀(i:Nat) x,l'[i]?=some x→Al x=0→(Ak x).gen=g→l[i]?=some x) (h0:(Av l').2.2=0) (hg:(Av l').1.gen=g):Av l=Av l':=by
 cases l' with
 |nil=>cases h0
 |cons b t'=>
  rw[Av]at h0 hg⊢;by_cases h1:Al b≠0
  ·rw[Ip h1]at h0;exact absurd h0 h1
  ·rw[In h1]at h0 hg⊢;by_cases h2:(Ak b).idx≠0
   ·rw[Ip h2]at h0;cases h0
   ·rw[In h2]at h0 hg⊢;have h3:=(Gr _ _ _ _ _ h0).1;rw[hg]at h3;have h4:=hL 0 b rfl (Classical.not_not.1 h1) h3.symm;cases l with
    |nil=>cases h4
    |cons b' t=>
     obtain rfl :b'=b:=Option.some.inj h4;rw[Av,In h1,In h2];exact IP (fun i x e1 e2 e3=>hL i x e1 e2 (e3.trans h3.symm)) _ _ _ h0
theorem Fa (g n:Int) (l:List (List UInt8)):∀k a out,out<+:(scanGo g n l k a out).1
 |0,_,out=>List.prefix_refl out
 |k+1,a,out=>by
  rw[scanGo];by_cases h1:l.length≤a
  ·rw[Ip h1];exact List.prefix_refl out
  ·rw[In h1];by_cases h2:(Av (l.drop a)).2.2≠0
   ·rw[Ip h2];exact List.prefix_refl out
   ·rw[In h2];by_cases h3:(Av (l.drop a)).1.gen=g∧(Av (l.drop a)).1.num=n+out.length
    ·rw[Ip h3];exact(List.prefix_append out _).trans (Fa g n l k _ _)
    ·rw[In h3];exact List.prefix_refl out
theorem IQ {g n:Int}{l l':List (List UInt8)} (hl:l'.length=l.length) (hL:∀(i:Nat) x,l'[i]?=some x→Al x=0→(Ak x).gen=g→l[i]?=some x):∀k a out,(scanGo g n l' k a out).1<+:(scanGo g n l k a out).1
 |0,_,out=>List.prefix_refl out
 |k+1,a,out=>by
  rw[scanGo.eq_2 g n l'];by_cases h1:l'.length≤a
  ·rw[Ip h1];exact Fa g n l _ _ _
  ·rw[In h1];by_cases h2:(Av (l'.drop a)).2.2≠0
   ·rw[Ip h2];exact Fa g n l _ _ _
   ·rw[In h2];by_cases h3:(Av (l'.drop a)).1.gen=g∧(Av (l'.drop a)).1.num=n+out.length
    ·rw[Ip h3];have h4:=KI (l:=l.drop a) (l':=l'.drop a) (fun i x e1 e2 e3=>by rw[List.getElem?_drop]at e1⊢;exact hL _ x e1 e2 e3) (Classical.not_not.1 h2) h3.1
     rw[scanGo.eq_2,In (by omega),h4,In h2,Ip h3];exact IQ hl hL k _ _
    ·rw[In h3];exact Fa g n l _ _ _
theorem PH {g n:Int}{l l':List (List UInt8)} (hl:l'.length=l.length) (hL:∀(i:Nat) x,l'[i]?=some x→Al x=0→(Ak x).gen=g→l[i]?=some x):(AP g n l').1<+:(AP g n l).1:=by
 unfold AP;by_cases h:Aw 0 g n=false
 ·rw[Ip h,Ip h];exact List.prefix_refl _
 ·rw[In h,In h,hl];exact IQ hl hL _ _ _
def Ar (rs:List RecD):List (List UInt8):=rs.flatMap Ac
theorem BP (r:RecD) (rs:List RecD):Ar (r::rs)=Ac r++Ar rs:=by simp[Ar]
theorem D4 (rs qs:List RecD):Ar (rs++qs)=Ar rs++Ar qs:=by simp[Ar]
structure RecsOk (g n:Int) (rs:List RecD):Prop where
 fine:Aw 0 g n=true
 ok:∀(i:Nat) (h:i<rs.length),As rs[i]=0∧rs[i].gen=g∧rs[i].num=n+i
theorem GV {g n:Int}{l m:List (List UInt8)} (k:Nat):∀(rs out:List RecD) (a:Nat),l.drop a=Ar rs++m→a≤l.length→(∀(i:Nat) (h:i<rs.length),As rs[i]=0∧rs[i].gen=g∧rs[i].num=n+(out.length+i:Nat))→
 scanGo g n l (rs.length+k) a out=scanGo g n l k (a+(Ar rs).length) (out++rs)
 | [],out,a,_,_,_=>by simp[Ar]
 |r::rs,out,a,hd,ha,h=>by
  have h0:=h 0 (by simp);simp only[List.getElem_cons_zero,Nat.add_zero]at h0;have hn:=CQ (Cs h0.1).2;have hsl:=AL h0.1;rw[BP,List.append_assoc]at hd;have hlen:=congrArg List.length hd;rw[List.length_drop,List.length_append,hsl]at hlen;have hj:=Og h0.1 (Ar rs++m);rw[←hd]at hj;rw[show(r::rs).length+k=(rs.length+k)+1 by simp;omega,scanGo,In (by omega),hj,In (by simp),Ip ⟨h0.2.1,h0.2.2⟩];simp only;rw[GV k rs (out++[r]) (a+Af r.load.length) (by rw[←List.drop_drop,hd,List.drop_left' hsl]) (by omega) (fun i hi=>by have h1:=h (i+1) (by simp;omega);simp only[List.getElem_cons_succ]at h1;refine⟨h1.1,h1.2.1,?_⟩;rw[h1.2.2,List.length_append,List.length_singleton];omega)]
  rw[BP,List.length_append,hsl,List.append_assoc,List.singleton_append,Nat.add_assoc]
theorem F7:∀{rs:List RecD},(∀r∈rs,As r=0)→rs.length≤(Ar rs).length
 | [],_=>Nat.zero_le _
 |r::rs,h=>by
  have h0:=h r (List.mem_cons_self ..);have hn:=CQ (Cs h0).2;have h1:=F7 (rs:=rs) (fun q hq=>h q (List.mem_cons_of_mem _ hq));rw[BP,List.length_append,AL h0,List.length_cons];omega
theorem RecsOk.mem {g n:Int}{rs:List RecD} (h:RecsOk g n rs):∀r∈rs,As r=0:=fun r hr=>by obtain⟨i,hi,rfl⟩:=List.getElem_of_mem hr;exact(h.ok i hi).1
theorem OB {g n:Int}{rs:List RecD} (h:RecsOk g n rs) (m:List (List UInt8)):rs<+:(AP g n (Ar rs++m)).1:=by obtain⟨k,hk⟩:∃k,(Ar rs++m).length=rs.length+k:=⟨(Ar rs++m).length-rs.length,by have:=F7 h.mem;rw[List.length_append];omega⟩;unfold AP;rw[In (by rw[h.fine];simp),hk,GV k rs [] 0 (m:=m) rfl (Nat.zero_le _) (fun i hi=>by simpa using h.ok i hi)];exact Fa g n _ _ _ _
theorem M5 {g n:Int}{l:List (List UInt8)}{a:Nat} (hs:∀x,l[a]?=some x→¬(Al x=0∧(Ak x).gen=g)) (out:List RecD):∀k,(scanGo g n l k a out).1=out
 |0=>rfl
 |k+1=>by
  rw[scanGo];by_cases h1:l.length≤a
  ·rw[Ip h1]
  ·rw[In h1];by_cases h2:(Av (l.drop a)).2.2≠0
   ·rw[Ip h2]
   ·rw[In h2,In];intro h3;have h4:=KI (l:=[]) (l':=l.drop a) (g:=g);have hx:l[a]?=some (l[a]'(by omega)):=List.getElem?_eq_getElem (by omega);have h5:=hs _ hx;have h6:=Classical.not_not.1 h2;have h7:=h3.1;rw[List.drop_eq_getElem_cons (by omega),Av]at h6 h7;by_cases h8:Al (l[a]'(by omega))≠0
    ·rw[Ip h8]at h6;exact h8 h6
    ·rw[In h8]at h6 h7;by_cases h9:(Ak (l[a]'(by omega))).idx≠0
     ·rw[Ip h9]at h6;cases h6
     ·rw[In h9]at h6 h7;rw[(Gr _ _ _ _ _ h6).1]at h7;exact h5 ⟨Classical.not_not.1 h8,h7⟩
theorem OC {g n:Int}{rs:List RecD} (h:RecsOk g n rs) {m:List (List UInt8)} (hs:∀x,m.head?=some x→¬(Al x=0∧(Ak x).gen=g)):(AP g n (Ar rs++m)).1=rs:=by obtain⟨k,hk⟩:∃k,(Ar rs++m).length=rs.length+k:=⟨(Ar rs++m).length-rs.length,by have:=F7 h.mem;rw[List.length_append];omega⟩;unfold AP;rw[In (by rw[h.fine];simp),hk,GV k rs [] 0 (m:=m) rfl (Nat.zero_le _) (fun i hi=>by simpa using h.ok i hi)];exact M5 (fun x hx=>hs x (by rw[Nat.zero_add,List.getElem?_append_right Lr,Nat.sub_self]at hx;cases m with|nil=>cases hx|cons b m=>exact hx)) _ _
def AK (g f c:Nat) (E:List (List UInt8)):List RecD:=⟨1,g,0,BJ f c⟩::E.mapIdx fun i b=>AI g (i+1) b
theorem AO (g f:Nat) (E:List (List UInt8)):AG g f E=AK g f E.length E:=rfl
theorem Bj (g f c:Nat) (E:List (List UInt8)):(AK g f c E).length=E.length+1:=by simp[AK]
theorem El (g f c:Nat) (E:List (List UInt8)) (i:Nat) (h:i+1<(AK g f c E).length):(AK g f c E)[i+1]=AI g (i+1) (E[i]'(by rw[Bj]at h;omega)):=by simp[AK]
theorem JG (g f c k:Nat) (E:List (List UInt8)):(AK g f c E).take (k+1)=AK g f c (E.take k):=by
 apply List.ext_getElem
 ·simp[Bj,List.length_take]
 ·intro i h1 h2;cases i with
  |zero=>simp[AK]
  |succ i=>rw[List.getElem_take,El,El,List.getElem_take]
structure JLim (g f c:Nat) (E:List (List UInt8)):Prop where
 g:g≤2147483647
 f:f≤C3
 c:c≤C3
 n:E.length≤2147483647
 len:∀b∈E,b.length≤131072
theorem Cu (f c:Nat):(BJ f c).length=16:=by simp[BJ]
theorem OD {c:Nat} (hf:f≤C3) (hc:c≤C3):C9 (BJ f c)=some (f,c):=by
 unfold C3 at hf hc;have h1:(BJ f c).take 8=beL 8 f:=by unfold BJ;rw[List.take_left' (CD 8 f)]
 have h2:(BJ f c).drop 8=beL 8 c:=by unfold BJ;rw[List.drop_left' (CD 8 f)]
 unfold C9;rw[h1,h2,DM 8 f (by omega),DM 8 c (by omega),Ip ⟨Cu f c,hf,hc⟩]
theorem JLim.recs {c:Nat} (h:JLim g f c E):RecsOk g 0 (AK g f c E):=by
 have hg:=h.g;have hn:=h.n;have hfine:∀(k n:Nat),k≤65535→n≤2147483647→Aw (k:Int) (g:Int) (n:Int)=true:=fun k n h1 h2=>by simp[Aw];omega
 refine⟨hfine 0 0 (by omega) (by omega),fun i hi=>?_⟩;cases i with
 |zero=>
  refine⟨?_,rfl,rfl⟩;show As ⟨1,g,0,BJ f c⟩=0;unfold As;have:=hfine 1 0 (by omega) (by omega);simp only at this⊢;rw[In (by rw[show Aw 1 (g:Int) 0=true from this];simp),In (by rw[Cu];omega)]
 |succ i=>
  rw[El];have hi':i<E.length:=by rw[Bj]at hi;omega
  have hb:=h.len _ (List.getElem_mem hi');refine⟨?_,rfl,by show((i+1:Nat):Int)=_;omega⟩;show As ⟨2,g,((i+1:Nat):Int),E[i]⟩=0;unfold As;have:=hfine 2 (i+1) (by omega) (by omega);simp only at this⊢;rw[In (by rw[show Aw 2 (g:Int) ((i+1:Nat):Int)=true from this];simp),In (by omega)]
theorem JLim.take {c:Nat} (h:JLim g f c E) (k:Nat):JLim g f c (E.take k):=⟨h.g,h.f,h.c,by have:=h.n;rw[List.length_take];omega,fun b hb=>h.len b (List.mem_of_mem_take hb)⟩
theorem Mg:∀{t:List RecD},(∀r∈t,r.kind=2)→BK t=t.map (·.load)
 | [],_=>rfl
 |r::t,h=>by
  have h1:=Mg (t:=t) (fun q hq=>h q (List.mem_cons_of_mem _ hq));unfold BK at h1⊢;rw[List.takeWhile_cons,decide_eq_true (h r (List.mem_cons_self ..))];simp only[if_true,List.map_cons];rw[h1]
theorem OE {c:Nat} (hf:f≤C3) (hc:c≤C3):CN g (AK g f c E)=if c≤E.length then some ⟨g,f,E⟩else none:=by
 have hb:BK (E.mapIdx fun i b=>AI g (i+1) b)=E:=by
  rw[Mg]
  ·apply List.ext_getElem
   ·simp
   ·intro i h1 h2;simp[AI]
  ·intro r hr;obtain⟨i,hi,rfl⟩:=List.getElem_of_mem hr;simp[AI]
 unfold AK;rw[CN,In (by simp),OD hf hc];simp only;rw[hb]
theorem Mh {c:Nat}{rs:List RecD} (h:rs<+:AK g f c E) (hne:rs≠[]):∃k,k≤E.length∧rs=AK g f c (E.take k)∧rs.length=k+1:=by
 obtain⟨k,hk⟩:∃k,rs.length=k+1:=by
  cases rs with
  |nil=>exact absurd rfl hne
  |cons r t=>exact⟨t.length,rfl⟩
 have h1:=h.length_le;rw[Bj]at h1;refine⟨k,by omega,?_,hk⟩;rw[←JG,←hk];exact List.prefix_iff_eq_take.1 h
variable {s:Nat}
def Cv (S:DS) (s:Nat) (x:List UInt8):Prop:=x=S.dur.getD s zeros∨(s,x)∈S.pend
theorem Ie (l:List (Nat×List UInt8)) (x:Nat×List UInt8) (s:Nat):CO (l++[x]) s=if x.1=s then some x.2 else CO l s:=by
 unfold CO;rw[List.reverse_append,List.reverse_singleton,List.singleton_append,List.find?_cons];by_cases h:x.1=s
 ·rw[Ip h,beq_iff_eq.2 h];rfl
 ·rw[In h,beq_false_of_ne h]
theorem Bo (S:DS) (s:Nat):Cv S s (S.visible s):=by
 unfold DS.visible CO;cases hf:S.pend.reverse.find? (fun x=>x.1==s)with
 |none=>exact .inl rfl
 |some x=>
  have h1:=List.mem_of_find?_eq_some hf;have h2:=List.find?_some hf;rw[List.mem_reverse]at h1;obtain rfl :x.1=s:=by simpa using h2
  exact .inr h1
theorem Em (h:S.pend=[]) {s:Nat} {x:List UInt8} (hx:Cv S s x):x=S.visible s:=by
 rcases hx with hx|hx
 ·rw[hx];unfold DS.visible CO;rw[h];rfl
 ·rw[h]at hx;cases hx
structure Wrote (S S':DS) (s:Nat) (b:List UInt8):Prop where
 pend:S'.pend=S.pend++[(s,b)]
 dur:S'.dur=S.dur
 down:S'.down=false
structure Same (S S':DS):Prop where
 pend:S'.pend=S.pend
 dur:S'.dur=S.dur
theorem Same.refl (S:DS):Same S S:=⟨rfl,rfl⟩
theorem Same.operate (S:DS):Same S S.operate.1:=⟨(AN S).1,(AN S).2⟩
theorem Same.trans {S' S'':DS} (h:Same S S') (h':Same S' S''):Same S S'':=⟨h'.pend.trans h.pend,h'.dur.trans h.dur⟩
theorem Same.cand {S':DS} (h:Same S S') {s:Nat} {x:List UInt8} (hx:Cv S' s x):Cv S s x:=by unfold Cv at hx⊢;rw[h.pend,h.dur]at hx;exact hx
theorem Same.symm {S':DS} (h:Same S S'):Same S' S:=⟨h.pend.symm,h.dur.symm⟩
theorem Same.visible {S':DS} (h:Same S S') (s:Nat):S'.visible s=S.visible s:=by unfold DS.visible;rw[h.pend,h.dur]
theorem Eu (h:S.operate.2=true):S.operate.1.down=S.down:=by
 unfold DS.operate at h⊢;split at h
 ·cases h
 ·rfl
 ·rfl
theorem Hm (h:¬S.operate.2=true):S.operate.1.down=true:=by
 unfold DS.operate at h⊢;split at h
 ·rfl
 ·exact absurd rfl h
 ·exact absurd rfl h
theorem IR (S:DS) (s:Nat) (b:List UInt8):((S.write s b).2=0∧S.down=false∧Wrote S (S.write s b).1 s b)∨((S.write s b).2≠0∧Same S (S.write s b).1):=by
 unfold DS.write;by_cases h1:S.down=true
 ·rw[Ip h1];exact .inr ⟨show(28:Int)≠0 by decide,Same.refl S⟩
 ·rw[In h1];by_cases h2:S.has (s:Int)=true
  ·rw[Ip h2];by_cases h3:b.length=256
   ·rw[Ip h3];by_cases h4:S.operate.2=true
    ·rw[Ip h4];refine .inl ⟨rfl,by simpa using h1,?_,?_,?_⟩
     ·show S.operate.1.pend++[((s:Int).toNat,b)]=_;rw[(AN S).1,Int.toNat_natCast]
     ·exact(AN S).2
     ·show S.operate.1.down=false;rw[Eu h4];simpa using h1
    ·rw[In h4];exact .inr ⟨show(28:Int)≠0 by decide,Same.operate S⟩
   ·rw[In h3];exact .inr ⟨show(2:Int)≠0 by decide,Same.refl S⟩
  ·rw[In h2];exact .inr ⟨show(8:Int)≠0 by decide,Same.refl S⟩
theorem PI {b:List UInt8} (hs:s<S.dur.length) (hb:b.length=256) (h:(S.write s b).2≠0):(S.write s b).2=28∧(S.write s b).1.down=true:=by
 unfold DS.write at h⊢;by_cases h1:S.down=true
 ·rw[Ip h1];exact⟨rfl,h1⟩
 ·rw[In h1]at h⊢;rw[Ip (show S.has (s:Int)=true by simp[DS.has];omega),Ip hb]at h⊢;by_cases h4:S.operate.2=true
  ·rw[Ip h4]at h;exact absurd rfl h
  ·rw[In h4];exact⟨rfl,Hm h4⟩
theorem Wrote.cand {S':DS}{b:List UInt8} (h:Wrote S S' s b) {k:Nat} {x:List UInt8} (hx:Cv S' k x):Cv S k x∨(k=s∧x=b):=by
 unfold Cv at hx⊢;rw[h.pend,h.dur,List.mem_append,List.mem_singleton]at hx;rcases hx with hx|hx|hx
 ·exact .inl (.inl hx)
 ·exact .inl (.inr hx)
 ·cases hx;exact .inr ⟨rfl,rfl⟩
theorem Wrote.visible {S':DS}{b:List UInt8} (h:Wrote S S' s b) (k:Nat):S'.visible k=if s=k then b else S.visible k:=by
 unfold DS.visible;rw[h.pend,h.dur,Ie];by_cases e:s=k
 ·rw[Ip e,Ip e];rfl
 ·rw[In e,In e]
def Dm:Nat→List (List UInt8)→List (Nat×List UInt8)
 |_,[]=>[]
 |a,b::L=>(a,b)::Dm (a+1) L
theorem If:∀(L M:List (List UInt8)) (a:Nat),Dm a (L++M)=Dm a L++Dm (a+L.length) M
 | [],_,_=>rfl
 |b::L,M,a=>by
  rw[List.cons_append,Dm,Dm,If L M,List.length_cons,show a+1+L.length=a+(L.length+1) by omega];rfl
theorem Ig:∀{L:List (List UInt8)} {a s:Nat} {x:List UInt8},(s,x)∈Dm a L→a≤s∧L[s-a]?=some x
 | [],_,_,_,h=>by cases h
 |b::L,a,s,x,h=>by
  rw[Dm]at h;rcases List.mem_cons.1 h with h|h
  ·cases h;exact⟨Nat.le_refl _,by rw[Nat.sub_self];rfl⟩
  ·obtain⟨h1,h2⟩:=Ig h;refine⟨by omega,?_⟩;rw[show s-a=(s-(a+1))+1 by omega,List.getElem?_cons_succ];exact h2
theorem JH:∀(L:List (List UInt8)) (l:List (Nat×List UInt8)) (a s:Nat),CO (l++Dm a L) s=if a≤s∧s-a<L.length then L[s-a]? else CO l s
 | [],l,a,s=>by simp[Dm]
 |b::L,l,a,s=>by
  have h:=JH L (l++[(a,b)]) (a+1) s;rw[List.append_assoc]at h;show CO (l++([(a,b)]++Dm (a+1) L)) s=_;rw[h,Ie];simp only[List.length_cons];by_cases h1:a=s
  ·subst h1;rw[In (by omega),Ip rfl,Ip ⟨Nat.le_refl _,by omega⟩,Nat.sub_self];rfl
  ·rw[In h1];by_cases h2:a+1≤s∧s-(a+1)<L.length
   ·rw[Ip h2,Ip ⟨by omega,by omega⟩,show s-a=(s-(a+1))+1 by omega,List.getElem?_cons_succ]
   ·rw[In h2,In (by omega)]
structure WroteL (S S':DS) (a:Nat) (L:List (List UInt8)):Prop where
 pend:S'.pend=S.pend++Dm a L
 dur:S'.dur=S.dur
theorem WroteL.cand {S':DS}{a:Nat}{L:List (List UInt8)} (h:WroteL S S' a L) {k:Nat} {x:List UInt8} (hx:Cv S' k x):Cv S k x∨(a≤k∧L[k-a]?=some x):=by
 unfold Cv at hx⊢;rw[h.pend,h.dur,List.mem_append]at hx;rcases hx with hx|hx|hx
 ·exact .inl (.inl hx)
 ·exact .inl (.inr hx)
 ·exact .inr (Ig hx)
theorem WroteL.visible {S':DS}{a:Nat}{L:List (List UInt8)} (h:WroteL S S' a L) (k:Nat):S'.visible k=if hk:a≤k∧k-a<L.length then L[k-a]'hk.2 else S.visible k:=by
 unfold DS.visible;rw[h.pend,h.dur,JH];by_cases e:a≤k∧k-a<L.length
 ·rw[Ip e,dif_pos e,List.getElem?_eq_getElem e.2];rfl
 ·rw[In e,dif_neg e]
theorem DF:∀(L:List (List UInt8)) (S:DS) (a:Nat),∃k,k≤L.length∧WroteL S (wrL S a L).1 a (L.take k)∧((wrL S a L).2=0→k=L.length∧(L≠[]→(wrL S a L).1.down=false)∧(L=[]→(wrL S a L).1=S))
 | [],S,a=>⟨0,Nat.le_refl _,⟨by simp[wrL,Dm],rfl⟩,fun _=>⟨rfl,fun h=>absurd rfl h,fun _=>rfl⟩⟩
 |b::L,S,a=>by
  rcases IR S a b with⟨h0,hd,hw⟩| ⟨h0,hs⟩
  ·obtain⟨k,hk,h1,h2⟩:=DF L (S.write a b).1 (a+1);have e:wrL S a (b::L)=wrL (S.write a b).1 (a+1) L:=Ip h0;rw[e];refine⟨k+1,by simp;omega,⟨?_,h1.dur.trans hw.dur⟩,fun h=>⟨by rw[(h2 h).1];simp,fun _=>?_,fun h=>by cases h⟩⟩
   ·rw[h1.pend,hw.pend,List.append_assoc];rfl
   ·by_cases hL:L=[]
    ·rw[(h2 h).2.2 hL];exact hw.down
    ·exact(h2 h).2.1 hL
  ·have e:wrL S a (b::L)=S.write a b:=In h0;rw[e];exact⟨0,Nat.zero_le _,⟨by rw[hs.pend];simp[Dm],hs.dur⟩,fun h=>absurd h h0⟩
theorem GF:∀{L:List (List UInt8)} {S:DS} {a:Nat},(∀b∈L,b.length=256)→a+L.length≤S.dur.length→(wrL S a L).2≠0→(wrL S a L).2=28∧(wrL S a L).1.down=true
 | [],_,_,_,_,h=>absurd rfl h
 |b::L,S,a,hL,ha,h=>by
  rw[List.length_cons]at ha;by_cases h0:(S.write a b).2=0
  ·have e:wrL S a (b::L)=wrL (S.write a b).1 (a+1) L:=Ip h0;rw[e]at h⊢;rcases IR S a b with⟨_,_,hw⟩| ⟨h1,_⟩
   ·exact GF (fun x hx=>hL x (List.mem_cons_of_mem _ hx)) (by rw[hw.dur];omega) h
   ·exact absurd h0 h1
  ·have e:wrL S a (b::L)=S.write a b:=In h0;rw[e];exact PI (by omega) (hL b (List.mem_cons_self ..)) h0
theorem GW {r:RecD} (h:As r=0):Ac r≠[]:=fun e=>by have h1:=AL h;have h2:=CQ (Cs h).2;rw[e]at h1;simp at h1;omega
theorem CV (r:RecD):∀b∈Ac r,b.length=256:=fun b hb=>by
 unfold Ac at hb;by_cases h:As r=0
 ·rw[Ip h]at hb;obtain⟨i,_,rfl⟩:=List.mem_map.1 hb;exact Bt _
 ·rw[In h]at hb;cases hb
theorem Ev:∀(rs:List RecD) (S:DS) (a u:Nat),(∀r∈rs,As r=0)→∃k,k≤(Ar rs).length∧WroteL S (putR S a u rs).1 (a+u) ((Ar rs).take k)∧((putR S a u rs).2.2=0→k=(Ar rs).length∧(putR S a u rs).2.1=u+(Ar rs).length∧(rs≠[]→(putR S a u rs).1.down=false)∧(rs=[]→(putR S a u rs).1=S))
 | [],S,a,u,_=>⟨0,Nat.le_refl _,⟨by simp[putR,Dm],rfl⟩,fun _=>⟨rfl,rfl,fun h=>absurd rfl h,fun _=>rfl⟩⟩
 |r::rs,S,a,u,hok=>by
  have hr:=hok r (List.mem_cons_self ..);obtain⟨j,hj,hw,h0⟩:=DF (Ac r) S (a+u);by_cases h:(wrL S (a+u) (Ac r)).2=0
  ·have e:putR S a u (r::rs)=putR (wrL S (a+u) (Ac r)).1 a (u+Af r.load.length) rs:=Ip h;rw[e];obtain⟨k,hk,h1,h2⟩:=Ev rs (wrL S (a+u) (Ac r)).1 a (u+Af r.load.length) (fun q hq=>hok q (List.mem_cons_of_mem _ hq));have hlen:=AL hr;obtain⟨rfl,hdn,_⟩:=h0 h;rw[List.take_length]at hw;refine⟨(Ac r).length+k,by rw[BP,List.length_append];omega,⟨?_,h1.dur.trans hw.dur⟩,fun h9=>⟨by rw[BP,List.length_append,(h2 h9).1],by rw[(h2 h9).2.1,BP,List.length_append,hlen];omega,fun _=>?_,fun h=>by cases h⟩⟩
   ·rw[h1.pend,hw.pend,BP,List.take_length_add_append,If,List.append_assoc,hlen,Nat.add_assoc]
   ·by_cases hL:rs=[]
    ·rw[(h2 h9).2.2.2 hL];exact hdn (GW hr)
    ·exact(h2 h9).2.2.1 hL
  ·have e:putR S a u (r::rs)=((wrL S (a+u) (Ac r)).1,0,(wrL S (a+u) (Ac r)).2):=In h;rw[e];refine⟨j,by rw[BP,List.length_append];omega,?_,fun h9=>absurd h9 h⟩;rw[BP,List.take_append_of_le_length hj];exact hw
theorem Mi:∀{rs:List RecD} {S:DS} {a u:Nat},(∀r∈rs,As r=0)→a+u+(Ar rs).length≤S.dur.length→(putR S a u rs).2.2≠0→(putR S a u rs).2.2=28∧(putR S a u rs).1.down=true
 | [],_,_,_,_,_,h=>absurd rfl h
 |r::rs,S,a,u,hok,ha,h=>by
  have hr:=hok r (List.mem_cons_self ..);have hlen:=AL hr;rw[BP,List.length_append]at ha;by_cases h0:(wrL S (a+u) (Ac r)).2=0
  ·have e:putR S a u (r::rs)=putR (wrL S (a+u) (Ac r)).1 a (u+Af r.load.length) rs:=Ip h0;rw[e]at h⊢;obtain⟨j,_,hw,_⟩:=DF (Ac r) S (a+u);exact Mi (fun q hq=>hok q (List.mem_cons_of_mem _ hq)) (by rw[hw.dur];omega) h
  ·have e:putR S a u (r::rs)=((wrL S (a+u) (Ac r)).1,0,(wrL S (a+u) (Ac r)).2):=In h0;rw[e];exact GF (CV r) (by omega) h0
theorem KJ {cs:List UInt8} (hk:k<S.pend.length) {s:Nat} (hs:s<S.dur.length):
 (rdur S cs (k+1)).getD s zeros=if S.pend[k].1=s then FK ((rdur S cs k).getD s zeros) S.pend[k].2 (cs.getD k 0).toNat else(rdur S cs k).getD s zeros:=by
 have hl:=AV S cs k;rw[rdur,List.getElem?_eq_getElem hk];simp only;by_cases e:S.pend[k].1=s
 ·rw[Ip e,e];simp[List.getD,hl,hs]
 ·rw[In e];simp[List.getD,List.getElem?_set_ne e]
theorem Mj (hs:s<S.dur.length):∀k,k≤S.pend.length→(B7 S k).getD s zeros=(CO (S.pend.take k) s).getD (S.dur.getD s zeros)
 |0,_=>rfl
 |k+1,hk=>by
  have ih:=Mj hs k (by omega);unfold B7 at ih⊢;rw[KJ (by omega) hs,List.take_succ_eq_append_getElem (by omega),Ie];by_cases e:S.pend[k].1=s
  ·rw[Ip e,Ip e];have:(List.replicate S.pend.length (1:UInt8)).getD k 0=1:=by simp[List.getD,show k<S.pend.length by omega]
   rw[this];rfl
  ·rw[In e,In e];exact ih
theorem ET (hd:S.down=false):(S.flush.2=0∧S.flush.1.pend=[]∧S.flush.1.down=false∧S.flush.1.dur.length=S.dur.length∧∀s,s<S.dur.length→S.flush.1.visible s=S.visible s)∨(S.flush.2=28∧Same S S.flush.1∧S.flush.1.down=true):=by
 unfold DS.flush;rw[In (by rw[hd];simp)];by_cases h:S.operate.2=true
 ·rw[Ip h];refine .inl ⟨rfl,rfl,by show S.operate.1.down=false;rw[Eu h];exact hd,AV _ _ _,fun s hs=>?_⟩;have h1:=Mj hs S.pend.length Lr;rw[List.take_length]at h1;exact h1
 ·rw[In h];exact .inr ⟨rfl,Same.operate S,Hm h⟩
variable {R:JR}
def CA (T:Nat→List UInt8) (a k:Nat):List (List UInt8):=(List.range k).map fun i=>T (a+i)
theorem Gs (T:Nat→List UInt8) (a k:Nat):(CA T a k).length=k:=by simp[CA]
theorem GX {T:Nat→List UInt8}{a:Nat}{x:List UInt8} (h:(CA T a k)[i]?=some x):i<k∧x=T (a+i):=by
 have hi:i<k:=by have:=(List.getElem?_eq_some_iff.1 h).1;rwa [Gs]at this
 refine⟨hi,?_⟩;simp[CA,hi]at h;exact h.symm
theorem NK {T:Nat→List UInt8}{a:Nat} (h:i<k):(CA T a k)[i]?=some (T (a+i)):=by simp[CA,h]
theorem OF {T T':Nat→List UInt8}{a:Nat} (h:∀i,i<k→T (a+i)=T' (a+i)):CA T a k=CA T' a k:=by unfold CA;apply List.map_congr_left;intro i hi;exact h i (List.mem_range.1 hi)
def Lv (A B:Option ArD):Option ArD:=match A,B with|none,none=>none|some x,none=>some x|none,some y=>some y|some x,some y=>if x.gen<y.gen then some y else some x
theorem RK {A B:Option ArD}{y:ArD} (hA:A=some y) (hB:∀z,B=some z→z.gen<y.gen):Lv A B=some y:=by
 subst hA;cases B with
 |none=>rfl
 |some z=>exact In (by have:=hB z rfl;omega)
theorem RL {A B:Option ArD}{y:ArD} (hB:B=some y) (hA:∀z,A=some z→z.gen<y.gen):Lv A B=some y:=by
 subst hB;cases A with
 |none=>rfl
 |some z=>exact Ip (hA z rfl)
def JJ (T:Nat→List UInt8) (R:JR):Option ArD:=Lv (AQ (CA T (R.area 0) R.half) 0) (AQ (CA T (R.area 1) R.half) 1)
theorem NM (S:DS) (R:JR):BW S R=JJ S.visible R:=rfl
theorem KK {T:Nat→List UInt8}{h:Nat}{y:ArD} (hh:h≤1) (hA:AQ (CA T (R.area h) R.half) h=some y) (hB:∀z,AQ (CA T (R.area (1-h)) R.half) (1-h)=some z→z.gen<y.gen):JJ T R=some y:=by
 rcases(show h=0∨h=1 by omega)with rfl |rfl
 ·exact RK hA hB
 ·exact RL hA hB
def inR (R:JR) (s:Nat):Prop:=R.at_≤s∧s<R.at_+R.cnt
theorem BU {h:Nat} (hh:h≤1) (hi:i<R.half):inR R (R.area h+i):=by unfold inR JR.area JR.half at*;rcases(show h=0∨h=1 by omega)with rfl |rfl <;>omega
def GG (S:DS) (R:JR) (T:Nat→List UInt8):Prop:=∀s,inR R s→Cv S s (T s)
theorem EI (S:DS) (R:JR):GG S R S.visible:=fun s _=>Bo S s
theorem PJ {rs:List RecD}{z:ArD} (h:CN g rs=some z):z.gen=g:=by
 cases rs with
 |nil=>cases h
 |cons r t=>
  rw[CN]at h;by_cases h3:r.kind≠1
  ·rw[Ip h3]at h;cases h
  ·rw[In h3]at h;cases hn:C9 r.load with
   |none=>rw[hn]at h;cases h
   |some p=>
    obtain⟨a,b⟩:=p;rw[hn]at h;simp only at h;by_cases h4:b≤(BK t).length
    ·rw[Ip h4]at h;cases h;rfl
    ·rw[In h4]at h;cases h
theorem Mk {l:List (List UInt8)}{which:Nat} (h0:Al (l.headD [])=0) (hg:(Ak (l.headD [])).gen=(g:Int)) (hp:g%2=which):AQ l which=CN g (AP g 0 l).1:=by unfold AQ;rw[hg,Int.toNat_natCast,In (fun h=>h.elim (fun h=>h h0) (fun h=>h hp))]
theorem DQ {l:List (List UInt8)}{which:Nat}{z:ArD} (h:AQ l which=some z):Al (l.headD [])=0∧(Ak (l.headD [])).gen=(z.gen:Int)∧z.gen%2=which∧CN z.gen (AP z.gen 0 l).1=some z:=by
 by_cases h1:Al (l.headD [])≠0∨(Ak (l.headD [])).gen.toNat%2≠which
 ·unfold AQ at h;rw[Ip h1]at h;cases h
 ·have h2:Al (l.headD [])=0:=Classical.not_not.1 (fun e=>h1 (.inl e));have h3:(Ak (l.headD [])).gen.toNat%2=which:=Classical.not_not.1 (fun e=>h1 (.inr e));obtain⟨g,hg⟩:∃g:Nat,(Ak (l.headD [])).gen=(g:Int):=by have h4:=Cj h2;have h5:=h4.2.2.2.1.g0;rw[←h4.2.2.2.2]at h5;exact⟨(Ak (l.headD [])).gen.toNat,by omega⟩
  rw[hg,Int.toNat_natCast]at h3;rw[Mk h2 hg h3]at h;obtain rfl :=PJ h;exact⟨h2,hg,h3,h⟩
theorem QP:Al []≠0:=by decide
theorem Ml {l:List (List UInt8)} (h:Al (l.headD [])=0):l[0]?=some (l.headD []):=by
 cases l with
 |nil=>exact absurd h QP
 |cons b l=>rfl
theorem QQ {l:List (List UInt8)}{x:List UInt8} (h:l[0]?=some x):l.headD []=x:=by
 cases l with
 |nil=>cases h
 |cons b l=>exact Option.some.inj h
theorem En {c:Nat} (h:JLim g f c E):∃b,(Ar (AK g f c E))[0]?=some b∧Al b=0∧(Ak b).gen=(g:Int):=by have h0:=h.recs.ok 0 (by rw[Bj];omega);have hn:=CQ (Cs h0.1).2;have hd:=Iy (Ei h0.1 (i:=0) (by omega));refine⟨_,?_,hd.1,by rw[hd.2];exact h0.2.1⟩;have e:Ar (AK g f c E)=Ac ⟨1,g,0,BJ f c⟩++Ar (E.mapIdx fun i b=>AI g (i+1) b):=BP _ _;rw[e];exact GP (r:=⟨1,g,0,BJ f c⟩) h0.1 (i:=0) (by exact Nl Nat.zero_lt_one hn.1) _
theorem QR {g n:Int} :∀{rs:List RecD},(∀r∈rs,As r=0∧r.gen=g)→∀(i:Nat) x,(Ar rs)[i]?=some x→Al x=0∧(Ak x).gen=g:=by intro rs h i x hx;obtain⟨r,hr,hm⟩:=List.mem_flatMap.1 (List.mem_of_getElem? hx);obtain⟨h1,h2⟩:=h r hr;unfold Ac at hm;rw[Ip h1]at hm;obtain⟨j,hj,rfl⟩:=List.mem_map.1 hm;have hd:=Iy (Ei h1 (List.mem_range.1 hj));exact⟨hd.1,by rw[hd.2];exact h2⟩
theorem JLim.gen {c:Nat} (h:JLim g f c E) (i:Nat) (x:List UInt8) (hx:(Ar (AK g f c E))[i]?=some x):Al x=0∧(Ak x).gen=(g:Int):=
 QR (n:=0) (fun r hr=>by obtain⟨j,hj,rfl⟩:=List.getElem_of_mem hr;exact⟨(h.recs.ok j hj).1,(h.recs.ok j hj).2.1⟩) i x hx
theorem EU (g f c:Nat) (E:List (List UInt8)) (k:Nat):Ar (AK g f c (E.take k))<+:Ar (AK g f c E):=by rw[←JG];refine⟨Ar ((AK g f c E).drop (k+1)),?_⟩;rw[←D4,List.take_append_drop]
theorem JK {c d:Nat}{l:List (List UInt8)} (hlim:JLim g f c E) (hfit:(Ar (AK g f c E)).length≤l.length) (hd:d≤E.length)
 (hdur:∀i,i<(Ar (AK g f c (E.take d))).length→l[i]?=(Ar (AK g f c E))[i]?) (hown:∀(i:Nat) x,l[i]?=some x→Al x=0→(Ak x).gen=(g:Int)→(Ar (AK g f c E))[i]?=some x):
 ∃k,d≤k∧k≤E.length∧AQ l (g%2)=if c≤k then some ⟨g,f,E.take k⟩else none:=by
 obtain⟨b,hb,hb0,hbg⟩:=En hlim;have hpos:0<(Ar (AK g f c (E.take d))).length:=by obtain⟨b,hb,_⟩:=En (hlim.take d);exact(List.getElem?_eq_some_iff.1 hb).1
 have hhd:l.headD []=b:=QQ (by rw[hdur 0 hpos];exact hb);rw[Mk (by rw[hhd];exact hb0) (by rw[hhd];exact hbg) rfl];have hup:(AP g 0 l).1<+:AK g f c E:=by
  have h1:=OC (m:=l.drop (Ar (AK g f c E)).length) hlim.recs (fun x hx h9=>by rw[List.head?_drop]at hx;have:=hown _ x hx h9.1 h9.2;rw[List.getElem?_eq_none Lr]at this;cases this)
  rw[←h1];refine PH (by rw[List.length_append,List.length_drop];omega) (fun i x hx h2 h3=>?_);have h4:=hown i x hx h2 h3;rw[List.getElem?_append_left (List.getElem?_eq_some_iff.1 h4).1];exact h4
 have hlo:AK g f c (E.take d)<+:(AP g 0 l).1:=by
  have h1:l=Ar (AK g f c (E.take d))++l.drop (Ar (AK g f c (E.take d))).length:=by
   have hle:=(EU g f c E d).length_le;apply List.ext_getElem?;intro i;by_cases hi:i<(Ar (AK g f c (E.take d))).length
   ·rw[List.getElem?_append_left hi,hdur i hi];obtain⟨m,hm⟩:=EU g f c E d;rw[←hm,List.getElem?_append_left hi]
   ·rw[List.getElem?_append_right (by omega),List.getElem?_drop]
    congr 1
    omega
  rw[h1];exact OB (hlim.take d).recs _
 obtain⟨k,hk,hrs,hlen⟩:=Mh hup (fun e=>by rw[e]at hlo;have:=hlo.length_le;rw[Bj]at this;simp at this)
 have h5:=hlo.length_le;rw[Bj,hlen,List.length_take]at h5;refine⟨k,by omega,hk,?_⟩;rw[hrs,OE hlim.f hlim.c,List.length_take,Nat.min_eq_left hk]
structure JW (S:DS) (R:JR) (g f c:Nat) (E:List (List UInt8)) (d:Nat):Prop where
 lim:JLim g f c E
 fit:(Ar (AK g f c E)).length≤R.half
 cd:c≤d
 dn:d≤E.length
 gens:∀s,inR R s→∀x,Cv S s x→Al x=0→(Ak x).gen≤(g:Int)
 dur:∀i,i<(Ar (AK g f c (E.take d))).length→∀x,Cv S (R.area (g%2)+i) x→(Ar (AK g f c E))[i]?=some x
 own:∀i,i<R.half→∀x,Cv S (R.area (g%2)+i) x→Al x=0→(Ak x).gen=(g:Int)→(Ar (AK g f c E))[i]?=some x
structure JBase (S:DS) (R:JR) (g:Nat) (P:ArD→Prop):Prop where
 top:∀s,inR R s→∀x,Cv S s x→Al x=0→∃s',inR R s'∧Al (S.visible s')=0∧(Ak x).gen≤(Ak (S.visible s')).gen
 cur:∀T,GG S R T→∃y,AQ (CA T (R.area (g%2)) R.half) (g%2)=some y∧y.gen=g∧P y
 oth:∀T,GG S R T→∀z,AQ (CA T (R.area (1-g%2)) R.half) (1-g%2)=some z→z.gen<g
theorem JBase.curr {P:ArD→Prop} (h:JBase S R g P) {T:Nat→List UInt8} (hT:GG S R T):∃y,JJ T R=some y∧y.gen=g∧P y:=by obtain⟨y,h1,h2,h3⟩:=h.cur T hT;exact⟨y,KK (by omega) h1 (fun z hz=>by rw[h2];exact h.oth T hT z hz),h2,h3⟩
theorem GY {c:Nat} (h:JLim g f c E):0<(Ar (AK g f c E)).length:=by obtain⟨b,hb,_⟩:=En h;exact(List.getElem?_eq_some_iff.1 hb).1
theorem JW.load {c d:Nat} (h:JW S R g f c E d) {T:Nat→List UInt8} (hT:GG S R T):∃k,d≤k∧k≤E.length∧AQ (CA T (R.area (g%2)) R.half) (g%2)=some ⟨g,f,E.take k⟩:=by
 have hfit:=h.fit;obtain⟨k,h1,h2,h3⟩:=JK (d:=d) (l:=CA T (R.area (g%2)) R.half) h.lim (by rw[Gs];exact hfit) h.dn (fun i hi=>by
  have hle:=(EU g f c E d).length_le;rw[NK (by omega),h.dur i hi _ (hT _ (BU (by omega) (by omega)))]) (fun i x hx h4 h5=>by
  obtain⟨hi,rfl⟩:=GX hx;exact h.own i hi _ (hT _ (BU (by omega) hi)) h4 h5)
 rw[Ip (Nt h.cd h1)]at h3;exact⟨k,h1,h2,h3⟩
theorem JW.base {c d:Nat} (h:JW S R g f c E d):JBase S R g (fun y=>∃k,d≤k∧k≤E.length∧y=⟨g,f,E.take k⟩):=by
 have hpos:=GY h.lim;have hfit:=h.fit;refine⟨fun s hs x hx h0=>?_,fun T hT=>?_,fun T hT z hz=>?_⟩
 ·obtain⟨b,hb,hb0,hbg⟩:=En h.lim;have h1:=h.dur 0 (GY (h.lim.take d)) _ (Bo S _);rw[hb]at h1;obtain rfl :=Option.some.inj h1;exact⟨_,BU (i:=0) (by omega) (by omega),hb0,by rw[hbg];exact h.gens s hs x hx h0⟩
 ·obtain⟨k,h1,h2,h3⟩:=h.load hT;exact⟨_,h3,rfl,k,h1,h2,rfl⟩
 ·obtain⟨h1,h2,h3,_⟩:=DQ hz;obtain⟨hi,hx⟩:=GX (Ml h1);have hr:=BU (R:=R) (h:=1-g%2) (i:=0) (by omega) hi;have h4:=h.gens _ hr _ (hT _ hr) (by rw[←hx];exact h1);rw[←hx,h2]at h4;have:z.gen≠g:=fun e=>by rw[e]at h3;omega
  omega
theorem JBase.rest (hp:S.pend=[]) {y:ArD} (h:JJ S.visible R=some y):JBase S R y.gen (fun x=>x=y):=by
 have key:∀T,GG S R T→∀w,w≤1→CA T (R.area w) R.half=CA S.visible (R.area w) R.half:=fun T hT w hw=>OF fun i hi=>Em hp (hT _ (BU hw hi))
 have two:AQ (CA S.visible (R.area (y.gen%2)) R.half) (y.gen%2)=some y∧∀z,AQ (CA S.visible (R.area (1-y.gen%2)) R.half) (1-y.gen%2)=some z→z.gen<y.gen:=by
  unfold JJ at h;cases hA:AQ (CA S.visible (R.area 0) R.half) 0 with
  |none=>
   cases hB:AQ (CA S.visible (R.area 1) R.half) 1 with
   |none=>rw[hA,hB]at h;cases h
   |some b=>
    rw[hA,hB]at h;obtain rfl :b=y:=Option.some.inj h;have h1:=(DQ hB).2.2.1;rw[h1];refine⟨hB,fun z hz=>?_⟩;rw[show 1-1=0 from rfl,hA]at hz;cases hz
  |some a=>
   have h0:=(DQ hA).2.2.1;cases hB:AQ (CA S.visible (R.area 1) R.half) 1 with
   |none=>
    rw[hA,hB]at h;obtain rfl :a=y:=Option.some.inj h;rw[h0];refine⟨hA,fun z hz=>?_⟩;rw[show 1-0=1 from rfl,hB]at hz;cases hz
   |some b=>
    have h1:=(DQ hB).2.2.1;rw[hA,hB]at h;simp only[Lv]at h;by_cases hlt:a.gen<b.gen
    ·rw[Ip hlt]at h;obtain rfl :b=y:=Option.some.inj h;rw[h1];refine⟨hB,fun z hz=>?_⟩;rw[show 1-1=0 from rfl,hA]at hz;obtain rfl :=Option.some.inj hz;exact hlt
    ·rw[In hlt]at h;obtain rfl :a=y:=Option.some.inj h;rw[h0];refine⟨hA,fun z hz=>?_⟩;rw[show 1-0=1 from rfl,hB]at hz;obtain rfl :=Option.some.inj hz;have:b.gen≠a.gen:=fun e=>by rw[e]at h1;omega
     omega
 refine⟨fun s hs x hx h0=>?_,fun T hT=>?_,fun T hT z hz=>?_⟩
 ·obtain rfl :=Em hp hx;exact⟨s,hs,h0,Int.le_refl _⟩
 ·rw[key T hT _ (by omega)];exact⟨y,two.1,rfl,rfl⟩
 ·rw[key T hT _ (by omega)]at hz;exact two.2 z hz
theorem RM {w:Nat} (hw:w≤1):upG w n%2=w∧n≤upG w n∧∀M,M%2=w→n≤M→upG w n≤M:=by
 unfold upG;by_cases h:n%2≠w
 ·rw[Ip h];exact⟨by omega,by omega,fun M h1 h2=>by rcases Nat.lt_or_ge n M with h3|h3;exact h3;exact absurd (show n%2=w by rw[show n=M by omega];exact h1) h⟩
 ·rw[In h];exact⟨Classical.not_not.1 h,Nat.le_refl _,fun M _ h2=>h2⟩
theorem QS {w:Nat} (hw:w≤1) (hg:g%2=w) (b:List UInt8):Ce w g b%2=w∧g≤Ce w g b∧(Al b=0→(Ak b).gen<(Ce w g b:Int))∧∀M,M%2=w→g≤M→(Al b=0→(Ak b).gen<(M:Int))→Ce w g b≤M:=by
 unfold Ce;by_cases h:Al b=0∧(g:Int)≤(Ak b).gen
 ·rw[Ip h];have h1:=RM (n:=(Ak b).gen.toNat+1) hw;refine⟨h1.1,by omega,fun _=>by omega,fun M h2 h3 h4=>h1.2.2 M h2 ?_⟩;have:=h4 h.1;omega
 ·rw[In h];exact⟨hg,Nat.le_refl _,fun h1=>by have:¬(g:Int)≤(Ak b).gen:=fun h2=>h ⟨h1,h2⟩;omega,fun M _ h3 _=>h3⟩
theorem JL {w:Nat} (hw:w≤1):∀(L:List (List UInt8)) (g:Nat),g%2=w→(L.foldl (Ce w) g)%2=w∧g≤L.foldl (Ce w) g∧(∀b∈L,Al b=0→(Ak b).gen<((L.foldl (Ce w) g:Nat):Int))∧∀M,M%2=w→g≤M→(∀b∈L,Al b=0→(Ak b).gen<(M:Int))→L.foldl (Ce w) g≤M
 | [],g,hg=>⟨hg,Nat.le_refl _,(fun b hb=>by cases hb),fun M _ h _=>h⟩
 |b::L,g,hg=>by
  obtain⟨h1,h2,h3,h4⟩:=QS hw hg b;obtain⟨k1,k2,k3,k4⟩:=JL hw L (Ce w g b) h1;rw[List.foldl_cons];refine⟨k1,Nt h2 k2,fun x hx h0=>?_,fun M m1 m2 m3=>k4 M m1 (h4 M m1 m2 (m3 b (List.mem_cons_self ..))) (fun x hx=>m3 x (List.mem_cons_of_mem _ hx))⟩;rcases List.mem_cons.1 hx with rfl |hx
  ·have:=h3 h0;omega
  ·exact k3 x hx h0
theorem CI {w:Nat} (hw:w≤1) (L:List (List UInt8)):AA w L%2=w∧(∀b∈L,Al b=0→(Ak b).gen<(AA w L:Int))∧∀M,M%2=w→(∀b∈L,Al b=0→(Ak b).gen<(M:Int))→AA w L≤M:=by obtain⟨h1,_,h3,h4⟩:=JL hw L w (by omega);exact⟨h1,h3,fun M m1 m2=>h4 M m1 (by omega) m2⟩
theorem Jb (hs:inR R s):S.visible s∈Ah S R.at_ R.cnt:=by unfold Ah;refine List.mem_map.2 ⟨s-R.at_,List.mem_range.2 (by have:=hs.2;have:=hs.1;omega),?_⟩;rw[show R.at_+(s-R.at_)=s by have:=hs.1;omega]
theorem D5 {x:List UInt8} (hx:x∈Ah S R.at_ R.cnt):∃s,inR R s∧x=S.visible s:=by obtain⟨i,hi,rfl⟩:=List.mem_map.1 hx;exact⟨R.at_+i,⟨by omega,by have:=List.mem_range.1 hi;omega⟩,rfl⟩
theorem IS {rs:List RecD}{a:Nat} (hok:∀r∈rs,As r=0) (hne:rs≠[]):∃k,k≤(Ar rs).length∧WroteL S (putR S a 0 rs).1 a ((Ar rs).take k)∧((putR S a 0 rs).2.2=0→k=(Ar rs).length∧(putR S a 0 rs).2.1=(Ar rs).length∧(putR S a 0 rs).1.down=false):=by obtain⟨k,h1,h2,h3⟩:=Ev rs S a 0 hok;exact⟨k,h1,h2,fun h=>⟨(h3 h).1,by have:=(h3 h).2.1;omega,(h3 h).2.2.1 hne⟩⟩
structure WrA (S S1 S':DS) (a:Nat) (L:List (List UInt8)) (k used:Nat) (e:Int):Prop where
 le:k≤L.length
 wr:WroteL S S1 a (L.take k)
 done:e=0→k=L.length∧used=L.length∧S'.pend=[]∧S'.down=false∧S'.dur.length=S.dur.length∧∀s,s<S.dur.length→S'.visible s=S1.visible s
 fail :e≠0→Same S1 S'
theorem KL (S:DS) (a:Nat) {g f:Nat} {E:List (List UInt8)} (hlim:JLim g f E.length E):∃(S1:DS) (k:Nat),WrA S S1 (wrA S a g f E).1 a (Ar (AG g f E)) k (wrA S a g f E).2.1 (wrA S a g f E).2.2:=by
 obtain⟨k,h1,h2,h3⟩:=IS (S:=S) (a:=a) (rs:=AG g f E) hlim.recs.mem (by unfold AG;simp);refine⟨(putR S a 0 (AG g f E)).1,k,?_⟩;unfold wrA;by_cases h0:(putR S a 0 (AG g f E)).2.2=0
 ·rw[Ip h0];obtain⟨e1,e2,e3⟩:=h3 h0;rcases ET e3 with⟨f1,f2,f3,f4,f5⟩| ⟨f1,f2,f3⟩
  ·rw[Ip f1];exact⟨h1,h2,fun _=>⟨e1,e2,f2,f3,by rw[f4,h2.dur],fun s hs=>f5 s (by rw[h2.dur];exact hs)⟩,fun h=>absurd rfl h⟩
  ·rw[In (by rw[f1];decide)];exact⟨h1,h2,fun h=>absurd (f1.symm.trans h) (by decide),fun _=>f2⟩
 ·rw[In h0];exact⟨h1,h2,fun h=>absurd h h0,fun _=>Same.refl _⟩
theorem WrA.cand {S1 S':DS}{a used:Nat}{L:List (List UInt8)}{e:Int} (h:WrA S S1 S' a L k used e) {s:Nat} (hs:s<S.dur.length) {x:List UInt8} (hx:Cv S' s x):Cv S s x∨(a≤s∧L[s-a]?=some x):=by
 have h1:Cv S1 s x:=by
  by_cases he:e=0
  ·obtain⟨_,_,h3,_,_,h6⟩:=h.done he;rw[Em h3 hx,h6 s hs];exact Bo S1 s
  ·exact(h.fail he).cand hx
 rcases h.wr.cand h1 with h2| ⟨h2,h3⟩
 ·exact .inl h2
 ·refine .inr ⟨h2,?_⟩;rw[List.getElem?_take]at h3;split at h3
  ·exact h3
  ·cases h3
theorem WrA.dur {S1 S':DS}{a used:Nat}{L:List (List UInt8)}{e:Int} (h:WrA S S1 S' a L k used e):S'.dur.length=S.dur.length:=by
 by_cases he:e=0
 ·exact(h.done he).2.2.2.2.1
 ·rw[(h.fail he).dur,h.wr.dur]
theorem PK {g':Nat}{P:ArD→Prop} (hB:JBase S R g P) (hR:R.at_+R.cnt≤S.dur.length) (hg:g'=AA (1-g%2) (Ah S R.at_ R.cnt)) (hlim:JLim g' f E.length E)
 (hfit:(Ar (AG g' f E)).length≤R.half) (h0:(wrA S (R.area (1-g%2)) g' f E).2.2=0):
 g'%2=1-g%2∧g<g'∧JW (wrA S (R.area (1-g%2)) g' f E).1 R g' f E.length E E.length∧(wrA S (R.area (1-g%2)) g' f E).2.1=(Ar (AG g' f E)).length∧(wrA S (R.area (1-g%2)) g' f E).1.down=false∧(wrA S (R.area (1-g%2)) g' f E).1.dur.length=S.dur.length∧
 ∀i,i<(Ar (AG g' f E)).length→(Ar (AG g' f E))[i]?=some ((wrA S (R.area (1-g%2)) g' f E).1.visible (R.area (1-g%2)+i)):=by
 obtain⟨n1,n2,_⟩:=CI (w:=1-g%2) (by omega) (Ah S R.at_ R.cnt);rw[←hg]at n1 n2;have hgt:∀s,inR R s→∀x,Cv S s x→Al x=0→(Ak x).gen<(g':Int):=fun s hs x hx h0=>by obtain⟨s',hs',h1,h2⟩:=hB.top s hs x hx h0;have:=n2 _ (Jb hs') h1;omega
 have hlt:g<g':=by obtain⟨y,hy,hyg,_⟩:=hB.cur _ (EI S R);obtain⟨y1,y2,_⟩:=DQ hy;obtain⟨hi,hx⟩:=GX (Ml y1);have hr:=BU (R:=R) (h:=g%2) (i:=0) (by omega) hi;have:=hgt _ hr _ (Bo S _) (by rw[←hx];exact y1);rw[←hx,y2,hyg]at this;omega
 obtain⟨S1,k,hw⟩:=KL S (R.area (1-g%2)) hlim;obtain⟨rfl,hu,hp,hdn,hdl,hv⟩:=hw.done h0;obtain⟨S',hS'⟩:=Xq ((wrA S (R.area (1-g%2)) g' f E).1);rw[hS']at hw hp hdn hdl hv⊢;obtain⟨L,hL⟩:=Xq (Ar (AG g' f E));have hLg:∀(i:Nat) x,L[i]?=some x→Al x=0∧(Ak x).gen=(g':Int):=fun i x hx=>hlim.gen i x (by rw[←AO,hL];exact hx)
 rw[hL]at hw hfit hu⊢;have hin:∀s,inR R s→s<S.dur.length:=fun s hs=>by have:=hs.2;omega
 have hvis:∀i,i<L.length→L[i]?=some (S'.visible (R.area (1-g%2)+i)):=fun i hi=>by have h1:=hw.wr.visible (R.area (1-g%2)+i);rw[List.take_length]at h1;rw[hv _ (hin _ (BU (by omega) (by omega))),h1,dif_pos ⟨by omega,by omega⟩];simp[hi]
 refine⟨n1,hlt,⟨hlim,by rw[←AO,hL];exact hfit,Nat.le_refl _,Nat.le_refl _,fun s hs x hx h1=>?_,fun i hi x hx=>?_,fun i hi x hx h1 h2=>?_⟩,hu,hdn,hdl,hvis⟩
 ·rcases hw.cand (hin s hs) hx with h3| ⟨_,h4⟩
  ·exact Int.le_of_lt (hgt s hs x h3 h1)
  ·rw[(hLg _ _ h4).2];exact Int.le_refl _
 ·rw[List.take_of_length_le Lr,←AO,hL]at hi;rw[←AO,hL,hvis i hi]
  congr 1
  rw[n1]at hx;exact(Em hp hx).symm
 ·rw[n1]at hx;rw[←AO,hL];rcases hw.cand (hin _ (BU (by omega) hi)) hx with h3| ⟨_,h4⟩
  ·have:=hgt _ (BU (h:=1-g%2) (by omega) hi) x h3 h1;omega
  ·rw[Nat.add_sub_cancel_left]at h4;exact h4
end Go.Proofs.YtplclpileejemaaGreatDoor
