/- Short form (wip/zpack.py) of the texts Sha5 Sha6 Sha7 Rp1 Rp2 Jp1 Rec1 Rec2 Rec3 Rec4 Rec5. -/
import Derived.Test.YtplclpileejemaaGreatDoorP2
import Derived.Outline
set_option linter.all false
set_option maxRecDepth 100000
set_option maxHeartbeats 8000000
namespace Go.Proofs.YtplclpileejemaaGreatDoor
open Go.RowKit
variable {w w':World}{B g n k b:Nat}{F:Nat→Prop}
theorem KAt.below (h:KAt w) (hb:Below B w w') (hB:0<B):KAt w':=⟨Nl h.size hb.size,fun j hj=>(hb.cell (p:=⟨0,j,none⟩) hB).trans (h.cell j hj)⟩
theorem KAt.chg (h:KAt w) (hc:Chg F w w') (hF:¬F 0):KAt w':=⟨Nl h.size hc.size,fun j hj=>(World.cell?_of_block (hc.block _ h.size hF)).trans (h.cell j hj)⟩
theorem Hu (w:World) (b off r:Nat) (hr:r<64):
 (Instr.sliceAt 201 (.pointer (some ⟨b,off,none⟩)) (some (.int .i64 r)) none none).run Tryz.prog w=.ok (.slice (some ⟨b,off+r,none⟩) (64-r) (64-r)) w:=by
 have h1:(r:Int)≤64:=by omega
 have h2:¬64=r:=by omega
 have h3:r≤64:=by omega
 have hs:=FD w;simp[Instr.sliceAt,run_underlying Tryz.underlying201,Instr.sureAddr,Instr.sliceBounds,Instr.sliceBound,asIntOf,h1,h2,h3,hs,Addr.add]
theorem IL {off tc:Nat}{D:List UInt8} (hF:F g) (hg:g<w.heap.size) (hr:w.rangeAt g off (bvs D)) (hn:D.length=n) (htc:n≤tc) (hk:k≤n):
 BytesAt w F (.slice (some ⟨g,if tc=k then off else off+k,none⟩) (n-k) (tc-k)) (D.drop k):=by
 refine⟨_,_,by rw[List.length_drop,hn],by rw[List.length_drop];omega,fun hne=>⟨g,_,rfl,hF,hg,?_⟩⟩;have:¬tc=k:=by intro e;apply hne;rw[List.drop_eq_nil_iff];omega
 rw[In this];intro j u hu;have h2:(bvs D)[k+j]?=some u:=by rw[←hu];simp[bvs,List.getElem?_drop]
 have:=hr (k+j) u h2;rwa [←Nat.add_assoc]at this
theorem NB:(Tryz.prog.info? 5).map (·.size)=some 1:=by kernel_rfl
theorem Chg.setRow (g:Nat) (cs:Array Value) (h:F g):Chg F w (w.setRow g cs):=⟨rfl,rfl,rfl,by simp[World.setRow],fun k _ hf=>setRow_other w g k cs (fun e=>hf (e▸h))⟩
theorem Hi (v:W8) (n:Nat) {buf c:List UInt8} {r:Nat} (hl:buf.length=64) (h:r+c.length≤64):
 ((A7 v buf n).toArray.toList.take (8+r)++(bvs c++(A7 v buf n).toArray.toList.drop (8+r+(bvs c).length))).toArray=(A7 v (Di buf r c) n).toArray:=by
 have e8:v.cells.length=8:=rfl
 congr 1
 show(A7 v buf n).take (8+r)++(bvs c++(A7 v buf n).drop (8+r+(bvs c).length))=A7 v (Di buf r c) n;unfold A7 Di;rw[←e8,List.take_length_add_append,Ap,Nat.add_assoc,List.drop_length_add_append,List.take_append_of_le_length (by simp;omega),List.drop_append_of_le_length (by simp;omega)];simp[bvs,List.map_take,List.map_drop]
theorem HashAt.splice {v:W8}{buf:List UInt8} (h:HashAt w b v buf n) {c:List UInt8} {r:Nat} (hr:r+c.length≤64):HashAt (w.setRow b (A7 v (Di buf r c) n).toArray) b v (Di buf r c) n:=
 ⟨DZ h.len hr,setRow_heap w b _ _ _ _ h.hb⟩
theorem Hv {v0:W8}{buf0:List UInt8} (M l:List UInt8) (bv:Value) (hH:HashAt w b v0 buf0 M.length) (hS:M≠[]→HS v0 buf0 M) (hv:BytesAt w (fun g=>g≠b) bv l) (hK:KAt w) (hb:b≠0) (hlen:M.length+l.length<1000000000000000):
 Ca 116 #[.pointer (some ⟨b,0,none⟩),bv] w fun e w'=>e=.returned (.int .i64 0)∧∃v buf,HashAt w' b v buf (M++l).length∧HS v buf (M++l)∧Chg (fun k=>k=b) w w':=by
 obtain⟨sa,sc,rfl,hsc,hsr⟩:=hv;have hlc:=hH.length;have hst:=hH.state;have hfr:=hH.frozen;by_cases hM:M=[]
 ·have hini:∀w,Ca 118 #[] w (fun e w'=>e=.returned (.agg #[.int .u32 (wN w8init.a),.int .u32 (wN w8init.b),.int .u32 (wN w8init.c),.int .u32 (wN w8init.d),.int .u32 (wN w8init.e),.int .u32 (wN w8init.f),.int .u32 (wN w8init.g),.int .u32 (wN w8init.i)])∧Below w.heap.size w w'):=fun w=>MV w
  have hm0:((M.length:Int)==0)=true:=by simp[hM]
  obtain⟨HI,HH,HK,HR,HM⟩:=Hd5 hini hH hK hsr hM;clear hM hini hH hS hK hsr hst;go_enter Tryz.func116,Tryz.ntmps116;go_wp2_with fail;refine(HI.out _).mono ?_;rintro e wi ⟨rfl,hbi⟩;have hhi:=HH.out.kept (hbi.block _ HH.out.lt);have hfr:=hhi.frozen;have hst:=hhi.state;obtain⟨e0,e1,e2,e3,e4,e5,e6,e7⟩:=hst;have HHI:=Hd hhi;have HBI:=Hd hbi;clear hlc hhi hbi hm0;go_wp2_with fail;have hh0:=HHI.out.setState w8init;have hg0:=C6 wi b (.int .u32 (wN w8init.a)) (.int .u32 (wN w8init.b)) (.int .u32 (wN w8init.c)) (.int .u32 (wN w8init.d)) (.int .u32 (wN w8init.e)) (.int .u32 (wN w8init.f)) (.int .u32 (wN w8init.g)) (.int .u32 (wN w8init.i));obtain⟨W0,hW0⟩:=Xq ((((((((wi.setCell ⟨b,0,none⟩ (.int .u32 (wN w8init.a))).setCell ⟨b,1,none⟩ (.int .u32 (wN w8init.b))).setCell ⟨b,2,none⟩ (.int .u32 (wN w8init.c))).setCell ⟨b,3,none⟩ (.int .u32 (wN w8init.d))).setCell ⟨b,4,none⟩ (.int .u32 (wN w8init.e))).setCell ⟨b,5,none⟩ (.int .u32 (wN w8init.f))).setCell ⟨b,6,none⟩ (.int .u32 (wN w8init.g))).setCell ⟨b,7,none⟩ (.int .u32 (wN w8init.i)));rw[hW0]at hh0 hg0⊢;have hc0:Chg (fun j=>j=b) w W0:=(Cb HBI.out).trans (Chg.grown (F:=fun j=>j=b) hg0 (fun j e=>.inl (Option.some.inj e).symm)) (fun _ h=>.inl h);have HH0:=Hd hh0;have HS0:Hid (HS w8init buf0 M):=Hd (by rw[HM.out];exact⟨hh0.len,rfl,by simp⟩);have HV0:=Hd ((show BytesAt w (fun g=>g≠b) (.slice sa l.length sc) l from⟨sa,sc,rfl,hsc,HR.out⟩).kept hc0 (fun j h e=>h e));have HC0:=Hd hc0;clear hh0 hg0 hc0 hW0 e0 e1 e2 e3 e4 e5 e6 e7 hfr;go_loopw [1] (fun t wr=>∃(i:Nat) (v:W8) (buf:List UInt8),i≤l.length∧HashAt wr b v buf (M.length+i)∧HS v buf (M++l.take i)∧BytesAt wr (fun g=>g≠b) t (l.drop i)∧Chg (fun k=>k=b) w wr)
   (fun t _=>match t with|.slice _ n _=>n|_=>0)
  case atStart=>exact⟨0,_,buf0,Nat.zero_le _,HH0.out,by rw[List.take_zero,List.append_nil];exact HS0.out,HV0.out,HC0.out⟩
  case round=>
   obtain⟨i,v,buf,hi,hH,hS,hV,hC⟩:=hrel;have hml:(M++l.take i).length=M.length+(l.take i).length:=List.length_append;rw[List.length_take,Nat.min_eq_left hi]at hml;by_cases hlt:i<l.length
   ·obtain⟨ta,tc,rfl,htc,htr⟩:=hV;obtain⟨g,off,rfl,hgb,hgl,hrg⟩:=htr (by intro e;have:=congrArg List.length e;simp at this;omega);obtain⟨n,hn⟩:=Xq ((l.drop i).length);rw[hn]at htc⊢;obtain⟨N,hN⟩:=Xq (M.length+i);rw[hN]at hH;have hn':n=l.length-i:=by rw[←hn];simp
    obtain⟨r,hr⟩:=Xq (N%64);obtain⟨k,hk⟩:=Xq (Nat.min n (64-r));have hr64:r<64:=by omega
    have hk0:min n (64-r)=k:=hk;have hk1:1≤k:=by omega
    have hkn:k≤n:=by omega
    have hrk:r+k≤64:=by omega
    clear hk0;obtain⟨c,hc⟩:=Xq ((l.drop i).take k);have hcl:c.length=k:=by rw[←hc,List.length_take,hn];omega
    obtain⟨buf2,hb2⟩:=Xq (Di buf r c);have hbl2:buf2.length=64:=by rw[←hb2];exact DZ hH.len (by omega)
    have htk:M++l.take (i+k)=M++l.take i++c:=by rw[←hc,List.append_assoc,←List.take_add]
    have hlc:=hH.length;have hm:(N:Int).tmod 64=(r:Int):=by rw[Int.tmod_eq_emod_of_nonneg (by omega)];omega
    have hsl:=Hu wr.drew b 8 r hr64;have hpos:(0:Int)<(n:Int):=by omega
    obtain⟨HNE,HNR,HKE,HCE,HCL,HB2,HBL2,HTK,HN',HNL,HHR,HSO⟩:=Hd12 hN hr hk hc hcl hb2 hbl2 htk hn' hn hH hS;have HML:Hid ((M++l.take i).length=N):=Hd (hml.trans hN);obtain⟨HCR,HRG,HGB,HGL,HTC⟩:=Hd5 hC hrg hgb hgl htc;have hNb:N+k≤1000000000000000:=by omega
    have hkb:(k:Int)≤(n:Int):=by omega
    have hnb:(n:Int)≤9223372036854775807:=by omega
    clear hN hr hk hc hcl hb2 hbl2 htk hn' hn hH hS hml hC hrg hgb hgl htr;go_wp2_with fail;go_still_tail 10,(by kernel_rfl);obtain⟨W1,hW1⟩:∃W1:World,{wr with drawn:=wr.drawn+1}=W1:=⟨_,rfl⟩;have hq:∀j:Nat,W1.heap[j]?=wr.heap[j]?:=fun j=>by rw[←hW1]
    have hcw:Chg (fun j=>j=b) wr W1:=by rw[←hW1];exact⟨rfl,rfl,rfl,Nat.le_refl _,fun _ _ _=>rfl⟩
    rw[hW1];clear hW1 hsl hm hlc;have hh1:=HHR.out.kept (hq b);have hfit:8+r+(bvs c).length≤(A7 v buf N).toArray.size:=by rw[List.size_toArray,Dq HHR.out.len,Ap,HCL.out];omega
    have hsrc:∀j u,(bvs c)[j]?=some u→W1.cell? ((⟨g,off,none⟩:Addr).add j)=some u:=by
     intro j u hu;have hadd:(⟨g,off,none⟩:Addr).add j=⟨g,off+j,none⟩:=by unfold Addr.add;split <;>simp_all
     rw[hadd,World.cell?_of_block (hq g)];refine HRG.out j u ?_;rw[←HCE.out,AE,List.getElem?_take]at hu;split at hu
     ·rw[AE];exact hu
     ·cases hu
    refine wpList_copy_own rfl (.tmp 28) (.tmp 29) 30 30 rfl 5 Tryz.underlying30 NB b (8+r) (64-r) (64-r) ⟨g,off,none⟩ n tc rfl rfl (A7 v buf N).toArray _ hh1.hb (bvs c) (by rw[Ap,HCL.out];exact HKE.out.symm) hsrc hfit Bc ?_;have esp:=Hi v N HHR.out.len (c:=c) (r:=r) (by rw[HCL.out];omega);have hh2:=hh1.splice (c:=c) (r:=r) (by rw[HCL.out];omega);have hcs:Chg (fun j=>j=b) W1 (W1.setRow b (A7 v (Di buf r c) N).toArray):=Chg.setRow b _ rfl;rw[esp];obtain⟨Wc,hWc⟩:=Xq (W1.setRow b (A7 v (Di buf r c) N).toArray);rw[hWc]at hh2 hcs⊢;rw[HB2.out]at hh2;have hc2:=(HCR.out.trans (hcw.trans hcs (fun _ h=>.inl h)) (fun _ h=>.inl h));have hrg2:Wc.rangeAt g off (bvs (l.drop i)):=fun j u hu=>((hcw.trans hcs (fun _ h=>.inl h)).cell (p:=⟨g,off+j,none⟩) HGB.out (HRG.out j u hu))
    have hlc2:=hh2.length;have hfr2:=hh2.frozen;have hgl2:g<Wc.heap.size:=Nl HGL.out (hcw.trans hcs (fun _ h=>.inl h)).size;have hch3:=Chg.setCell (F:=fun j=>j=b) (a:=⟨b,72,none⟩) Wc (.int .i64 ((N:Int)+(k:Int))) rfl;have hh3:HashAt (Wc.setCell ⟨b,72,none⟩ (.int .i64 ((N:Int)+(k:Int)))) b v buf2 (N+k):=hh2.setLength (N+k);have hc3:=hc2.trans hch3 (fun _ h=>.inl h);have hbt:=(IL (F:=fun j=>j≠b) HGB.out hgl2 hrg2 HNL.out HTC.out hkn).kept hch3 (fun j h e=>h e);rw[List.drop_drop]at hbt;obtain⟨HH1,HH3,HC3,HBT⟩:=Hd4 hh2 hh3 hc3 hbt;rw[Ap,HCL.out];clear hWc esp hcs hcw hq hh1 hh2 hc2 hrg2 hgl2 hfit hsrc hch3 hh3 hc3 hbt;by_cases hck:tc=k
    ·have hbt:=HBT.out;rw[Ip hck]at hbt;have HV3:=Hd hbt;clear hbt HBT;have hnk:n=k:=by have:=HTC.out;omega
     by_cases hfull:r+k=64
     ·have hmod:(((N:Int)+(k:Int))%64==0)=true:=by have:=HNR.out;simp;omega
      obtain⟨v',hv'⟩:=Xq (Ba v (AF buf2));have hHS9:=HSO.out.full (c:=c) (by rw[HML.out,HCL.out,HNR.out];omega);rw[HML.out,HNR.out,HB2.out,hv']at hHS9;have HS9:=Hd hHS9;have HVE:=Hd hv';clear hHS9 hv';go_wp2_with fail;obtain⟨W2,hW2⟩:=Xq (Wc.setCell ⟨b,72,none⟩ (.int .i64 ((N:Int)+(k:Int))));have hh2:=HH3.out;have hc2:=HC3.out;have hv2:=HV3.out;rw[hW2]at hh2 hc2 hv2⊢;obtain⟨HH2,HC2,HV2⟩:=Hd3 hh2 hc2 hv2;have hka:=HK.out.chg hc2 (fun e=>hb e.symm);have HKAT:=Hd hka;have hszb:(Tryz.prog.info? 201).map (·.size)=some (bvs buf2).length:=by
       have:(Tryz.prog.info? 201).map (·.size)=some 64:=by kernel_rfl
       rw[this,Ap,HBL2.out]
      have HSZB:=Hd hszb;clear hW2 hh2 hc2 hv2 hlc2 hfr2 hmod hka hszb HH3 HC3 HV3;refine Np ?_;refine BB [13] (fun w'=>Below W2.heap.size W2 w') (by kernel_rfl) ?_;have hS0:(fun w'=>Below W2.heap.size W2 w') W2.drew:=Rq.drew;refine tkZ 0 hS0 ?_;refine tkZ 1 hS0 ?_;refine tkZ 2 hS0 ?_;refine tkZ 3 hS0 ?_;refine tkZ 4 hS0 ?_ (hy:=fun w' hw'=>by(obtain⟨e0,e1,e2,e3,e4,e5,e6,e7⟩:=(HH2.out.kept (hw'.block _ HH2.out.lt)).state;clear hw';first| (go_simp;rfl)| (go_simp;done)));refine tkZ 5 hS0 ?_;refine tkZ 6 hS0 ?_;refine tkZ 7 hS0 ?_;refine tkZ 8 hS0 ?_ (v:=.agg (bvs buf2).toArray) (hy:=fun w' hw'=>by exact Cm 201 (.tmp 55) b 8 (bvs buf2) _ rfl rfl ((HH2.out.kept (hw'.block _ HH2.out.lt)).range) Tryz.underlying201 rfl HSZB.out);refine dG 9 fun K hK=>?_
      go_simp;refine(GN buf2 HBL2.out W2.drew).mono ?_;rintro e w3 ⟨rfl,hb3⟩;have k3:Below W2.heap.size W2 w3:=(Below.refl _ W2).drew.trans hb3;refine Kq hK k3 ?_;refine dG 10 fun K hK=>?_
      go_simp;have hpr:Ca 119 #[Value.agg #[.int .u32 (wN v.a),.int .u32 (wN v.b),.int .u32 (wN v.c),.int .u32 (wN v.d),.int .u32 (wN v.e),.int .u32 (wN v.f),.int .u32 (wN v.g),.int .u32 (wN v.i)],.agg (wvs (AF buf2)).toArray] w3 (fun e w'=>e=.returned (.agg #[.int .u32 (wN (Ba v (AF buf2)).a),.int .u32 (wN (Ba v (AF buf2)).b),.int .u32 (wN (Ba v (AF buf2)).c),.int .u32 (wN (Ba v (AF buf2)).d),.int .u32 (wN (Ba v (AF buf2)).e),.int .u32 (wN (Ba v (AF buf2)).f),.int .u32 (wN (Ba v (AF buf2)).g),.int .u32 (wN (Ba v (AF buf2)).i)])∧Below w3.heap.size w3 w'):=EN v (AF buf2) (Cf _ _) w3 (HKAT.out.below k3 HKAT.out.size);refine hpr.mono ?_;rintro e w4 ⟨rfl,hb4⟩;have k4:Below W2.heap.size W2 w4:=Tq k3 hb4;refine Kq hK k4 ?_;refine tkP 11 k4 ?_;refine tkP 12 k4 ?_;refine dGf 13 fun K hK=>?_
      have hh4:=HH2.out.kept (k4.block _ HH2.out.lt);have ef:=hh4.frozen;obtain⟨e0,e1,e2,e3,e4,e5,e6,e7⟩:=hh4.state;go_simp;refine Kr hK ?_;refine eG ?_;rw[HVE.out];have hh5:=hh4.setState v';have hg5:=C6 w4 b (.int .u32 (wN v'.a)) (.int .u32 (wN v'.b)) (.int .u32 (wN v'.c)) (.int .u32 (wN v'.d)) (.int .u32 (wN v'.e)) (.int .u32 (wN v'.f)) (.int .u32 (wN v'.g)) (.int .u32 (wN v'.i));obtain⟨W5,hW5⟩:=Xq ((((((((w4.setCell ⟨b,0,none⟩ (.int .u32 (wN v'.a))).setCell ⟨b,1,none⟩ (.int .u32 (wN v'.b))).setCell ⟨b,2,none⟩ (.int .u32 (wN v'.c))).setCell ⟨b,3,none⟩ (.int .u32 (wN v'.d))).setCell ⟨b,4,none⟩ (.int .u32 (wN v'.e))).setCell ⟨b,5,none⟩ (.int .u32 (wN v'.f))).setCell ⟨b,6,none⟩ (.int .u32 (wN v'.g))).setCell ⟨b,7,none⟩ (.int .u32 (wN v'.i)));rw[hW5]at hh5 hg5⊢;have hc5:Chg (fun j=>j=b) W2 W5:=(Cb k4).trans (Chg.grown (F:=fun j=>j=b) hg5 (fun j e=>.inl (Option.some.inj e).symm)) (fun _ h=>.inl h);have hc9:=HC2.out.trans hc5 (fun _ h=>.inl h);obtain⟨HH9,HC9,HV9⟩:=Hd3 hh5 hc9 (HV2.out.kept hc5 (fun j h e=>h e));clear hW5 hh5 hg5 hc5 hc9 hh4 ef e0 e1 e2 e3 e4 e5 e6 e7 k3 k4 hS0;go_wp2_with fail;go_roundw
      case rel=>exact⟨i+k,_,_,by have:=HN'.out;omega,by rw[←Nat.add_assoc,HNE.out];exact HH9.out,by rw[HTK.out];exact HS9.out,by first|exact HV9.out| (have h9:=HV9.out;rw[show n-k=0 by omega,show tc-k=0 by omega]at h9;exact h9),HC9.out⟩
      case measure=>simp;omega
     ·have hmod:(((N:Int)+(k:Int))%64==0)=false:=by have:=HNR.out;simp;omega
      have hHS9:=HSO.out.part (c:=c) (by rw[HML.out,HCL.out,HNR.out];omega);rw[HML.out,HNR.out,HB2.out]at hHS9;have HS9:=Hd hHS9;have HC9:=HC3;clear hHS9;go_wp2_with fail;go_roundw
      case rel=>exact⟨i+k,_,_,by have:=HN'.out;omega,by rw[←Nat.add_assoc,HNE.out];exact HH3.out,by rw[HTK.out];exact HS9.out,by first|exact HV3.out| (have h9:=HV3.out;rw[show n-k=0 by omega,show tc-k=0 by omega]at h9;exact h9),HC9.out⟩
      case measure=>simp;omega
    ·have hbt:=HBT.out;rw[In hck]at hbt;have HV3:=Hd hbt;clear hbt HBT;by_cases hfull:r+k=64
     ·have hmod:(((N:Int)+(k:Int))%64==0)=true:=by have:=HNR.out;simp;omega
      obtain⟨v',hv'⟩:=Xq (Ba v (AF buf2));have hHS9:=HSO.out.full (c:=c) (by rw[HML.out,HCL.out,HNR.out];omega);rw[HML.out,HNR.out,HB2.out,hv']at hHS9;have HS9:=Hd hHS9;have HVE:=Hd hv';clear hHS9 hv';go_wp2_with fail;obtain⟨W2,hW2⟩:=Xq (Wc.setCell ⟨b,72,none⟩ (.int .i64 ((N:Int)+(k:Int))));have hh2:=HH3.out;have hc2:=HC3.out;have hv2:=HV3.out;rw[hW2]at hh2 hc2 hv2⊢;obtain⟨HH2,HC2,HV2⟩:=Hd3 hh2 hc2 hv2;have hka:=HK.out.chg hc2 (fun e=>hb e.symm);have HKAT:=Hd hka;have hszb:(Tryz.prog.info? 201).map (·.size)=some (bvs buf2).length:=by
       have:(Tryz.prog.info? 201).map (·.size)=some 64:=by kernel_rfl
       rw[this,Ap,HBL2.out]
      have HSZB:=Hd hszb;clear hW2 hh2 hc2 hv2 hlc2 hfr2 hmod hka hszb HH3 HC3 HV3;refine Np ?_;refine BB [13] (fun w'=>Below W2.heap.size W2 w') (by kernel_rfl) ?_;have hS0:(fun w'=>Below W2.heap.size W2 w') W2.drew:=Rq.drew;refine tkZ 0 hS0 ?_;refine tkZ 1 hS0 ?_;refine tkZ 2 hS0 ?_;refine tkZ 3 hS0 ?_;refine tkZ 4 hS0 ?_ (hy:=fun w' hw'=>by(obtain⟨e0,e1,e2,e3,e4,e5,e6,e7⟩:=(HH2.out.kept (hw'.block _ HH2.out.lt)).state;clear hw';first| (go_simp;rfl)| (go_simp;done)));refine tkZ 5 hS0 ?_;refine tkZ 6 hS0 ?_;refine tkZ 7 hS0 ?_;refine tkZ 8 hS0 ?_ (v:=.agg (bvs buf2).toArray) (hy:=fun w' hw'=>by exact Cm 201 (.tmp 55) b 8 (bvs buf2) _ rfl rfl ((HH2.out.kept (hw'.block _ HH2.out.lt)).range) Tryz.underlying201 rfl HSZB.out);refine dG 9 fun K hK=>?_
      go_simp;refine(GN buf2 HBL2.out W2.drew).mono ?_;rintro e w3 ⟨rfl,hb3⟩;have k3:Below W2.heap.size W2 w3:=(Below.refl _ W2).drew.trans hb3;refine Kq hK k3 ?_;refine dG 10 fun K hK=>?_
      go_simp;have hpr:Ca 119 #[Value.agg #[.int .u32 (wN v.a),.int .u32 (wN v.b),.int .u32 (wN v.c),.int .u32 (wN v.d),.int .u32 (wN v.e),.int .u32 (wN v.f),.int .u32 (wN v.g),.int .u32 (wN v.i)],.agg (wvs (AF buf2)).toArray] w3 (fun e w'=>e=.returned (.agg #[.int .u32 (wN (Ba v (AF buf2)).a),.int .u32 (wN (Ba v (AF buf2)).b),.int .u32 (wN (Ba v (AF buf2)).c),.int .u32 (wN (Ba v (AF buf2)).d),.int .u32 (wN (Ba v (AF buf2)).e),.int .u32 (wN (Ba v (AF buf2)).f),.int .u32 (wN (Ba v (AF buf2)).g),.int .u32 (wN (Ba v (AF buf2)).i)])∧Below w3.heap.size w3 w'):=EN v (AF buf2) (Cf _ _) w3 (HKAT.out.below k3 HKAT.out.size);refine hpr.mono ?_;rintro e w4 ⟨rfl,hb4⟩;have k4:Below W2.heap.size W2 w4:=Tq k3 hb4;refine Kq hK k4 ?_;refine tkP 11 k4 ?_;refine tkP 12 k4 ?_;refine dGf 13 fun K hK=>?_
      have hh4:=HH2.out.kept (k4.block _ HH2.out.lt);have ef:=hh4.frozen;obtain⟨e0,e1,e2,e3,e4,e5,e6,e7⟩:=hh4.state;go_simp;refine Kr hK ?_;refine eG ?_;rw[HVE.out];have hh5:=hh4.setState v';have hg5:=C6 w4 b (.int .u32 (wN v'.a)) (.int .u32 (wN v'.b)) (.int .u32 (wN v'.c)) (.int .u32 (wN v'.d)) (.int .u32 (wN v'.e)) (.int .u32 (wN v'.f)) (.int .u32 (wN v'.g)) (.int .u32 (wN v'.i));obtain⟨W5,hW5⟩:=Xq ((((((((w4.setCell ⟨b,0,none⟩ (.int .u32 (wN v'.a))).setCell ⟨b,1,none⟩ (.int .u32 (wN v'.b))).setCell ⟨b,2,none⟩ (.int .u32 (wN v'.c))).setCell ⟨b,3,none⟩ (.int .u32 (wN v'.d))).setCell ⟨b,4,none⟩ (.int .u32 (wN v'.e))).setCell ⟨b,5,none⟩ (.int .u32 (wN v'.f))).setCell ⟨b,6,none⟩ (.int .u32 (wN v'.g))).setCell ⟨b,7,none⟩ (.int .u32 (wN v'.i)));rw[hW5]at hh5 hg5⊢;have hc5:Chg (fun j=>j=b) W2 W5:=(Cb k4).trans (Chg.grown (F:=fun j=>j=b) hg5 (fun j e=>.inl (Option.some.inj e).symm)) (fun _ h=>.inl h);have hc9:=HC2.out.trans hc5 (fun _ h=>.inl h);obtain⟨HH9,HC9,HV9⟩:=Hd3 hh5 hc9 (HV2.out.kept hc5 (fun j h e=>h e));clear hW5 hh5 hg5 hc5 hc9 hh4 ef e0 e1 e2 e3 e4 e5 e6 e7 k3 k4 hS0;go_wp2_with fail;go_roundw
      case rel=>exact⟨i+k,_,_,by have:=HN'.out;omega,by rw[←Nat.add_assoc,HNE.out];exact HH9.out,by rw[HTK.out];exact HS9.out,by first|exact HV9.out| (have h9:=HV9.out;rw[show n-k=0 by omega,show tc-k=0 by omega]at h9;exact h9),HC9.out⟩
      case measure=>simp;omega
     ·have hmod:(((N:Int)+(k:Int))%64==0)=false:=by have:=HNR.out;simp;omega
      have hHS9:=HSO.out.part (c:=c) (by rw[HML.out,HCL.out,HNR.out];omega);rw[HML.out,HNR.out,HB2.out]at hHS9;have HS9:=Hd hHS9;have HC9:=HC3;clear hHS9;go_wp2_with fail;go_roundw
      case rel=>exact⟨i+k,_,_,by have:=HN'.out;omega,by rw[←Nat.add_assoc,HNE.out];exact HH3.out,by rw[HTK.out];exact HS9.out,by first|exact HV3.out| (have h9:=HV3.out;rw[show n-k=0 by omega,show tc-k=0 by omega]at h9;exact h9),HC9.out⟩
      case measure=>simp;omega
   ·obtain rfl :i=l.length:=by omega
    have hV2:∃ta tc,u1=Value.slice ta 0 tc:=by obtain⟨ta,tc,e,_⟩:=hV;exact⟨ta,tc,by rw[e];simp⟩
    obtain⟨ta,tc,rfl⟩:=hV2;rw[List.take_length]at hS;obtain⟨HHe,HSe,HCe⟩:=Hd3 hH hS hC;clear hH hS hC hV hml;go_wp2_with fail;go_ret;exact⟨rfl,v,buf,by rw[List.length_append];exact HHe.out,HSe.out,HCe.out⟩
 ·have hm0:((M.length:Int)==0)=false:=by simpa using hM
  obtain⟨HH0,HS0,HV0,HC0,HK⟩:=Hd5 hH (hS hM) (show BytesAt w (fun g=>g≠b) (.slice sa l.length sc) l from⟨sa,sc,rfl,hsc,hsr⟩) (Chg.refl (fun k=>k=b) w) hK;clear hH hS hsr hK hst hfr;go_enter Tryz.func116,Tryz.ntmps116;go_wp2_with fail;clear hlc hm0 hM;go_loopw [1] (fun t wr=>∃(i:Nat) (v:W8) (buf:List UInt8),i≤l.length∧HashAt wr b v buf (M.length+i)∧HS v buf (M++l.take i)∧BytesAt wr (fun g=>g≠b) t (l.drop i)∧Chg (fun k=>k=b) w wr)
   (fun t _=>match t with|.slice _ n _=>n|_=>0)
  case atStart=>exact⟨0,_,buf0,Nat.zero_le _,HH0.out,by rw[List.take_zero,List.append_nil];exact HS0.out,HV0.out,HC0.out⟩
  case round=>
   obtain⟨i,v,buf,hi,hH,hS,hV,hC⟩:=hrel;have hml:(M++l.take i).length=M.length+(l.take i).length:=List.length_append;rw[List.length_take,Nat.min_eq_left hi]at hml;by_cases hlt:i<l.length
   ·obtain⟨ta,tc,rfl,htc,htr⟩:=hV;obtain⟨g,off,rfl,hgb,hgl,hrg⟩:=htr (by intro e;have:=congrArg List.length e;simp at this;omega);obtain⟨n,hn⟩:=Xq ((l.drop i).length);rw[hn]at htc⊢;obtain⟨N,hN⟩:=Xq (M.length+i);rw[hN]at hH;have hn':n=l.length-i:=by rw[←hn];simp
    obtain⟨r,hr⟩:=Xq (N%64);obtain⟨k,hk⟩:=Xq (Nat.min n (64-r));have hr64:r<64:=by omega
    have hk0:min n (64-r)=k:=hk;have hk1:1≤k:=by omega
    have hkn:k≤n:=by omega
    have hrk:r+k≤64:=by omega
    clear hk0;obtain⟨c,hc⟩:=Xq ((l.drop i).take k);have hcl:c.length=k:=by rw[←hc,List.length_take,hn];omega
    obtain⟨buf2,hb2⟩:=Xq (Di buf r c);have hbl2:buf2.length=64:=by rw[←hb2];exact DZ hH.len (by omega)
    have htk:M++l.take (i+k)=M++l.take i++c:=by rw[←hc,List.append_assoc,←List.take_add]
    have hlc:=hH.length;have hm:(N:Int).tmod 64=(r:Int):=by rw[Int.tmod_eq_emod_of_nonneg (by omega)];omega
    have hsl:=Hu wr.drew b 8 r hr64;have hpos:(0:Int)<(n:Int):=by omega
    obtain⟨HNE,HNR,HKE,HCE,HCL,HB2,HBL2,HTK,HN',HNL,HHR,HSO⟩:=Hd12 hN hr hk hc hcl hb2 hbl2 htk hn' hn hH hS;have HML:Hid ((M++l.take i).length=N):=Hd (hml.trans hN);obtain⟨HCR,HRG,HGB,HGL,HTC⟩:=Hd5 hC hrg hgb hgl htc;have hNb:N+k≤1000000000000000:=by omega
    have hkb:(k:Int)≤(n:Int):=by omega
    have hnb:(n:Int)≤9223372036854775807:=by omega
    clear hN hr hk hc hcl hb2 hbl2 htk hn' hn hH hS hml hC hrg hgb hgl htr;go_wp2_with fail;go_still_tail 10,(by kernel_rfl);obtain⟨W1,hW1⟩:∃W1:World,{wr with drawn:=wr.drawn+1}=W1:=⟨_,rfl⟩;have hq:∀j:Nat,W1.heap[j]?=wr.heap[j]?:=fun j=>by rw[←hW1]
    have hcw:Chg (fun j=>j=b) wr W1:=by rw[←hW1];exact⟨rfl,rfl,rfl,Nat.le_refl _,fun _ _ _=>rfl⟩
    rw[hW1];clear hW1 hsl hm hlc;have hh1:=HHR.out.kept (hq b);have hfit:8+r+(bvs c).length≤(A7 v buf N).toArray.size:=by rw[List.size_toArray,Dq HHR.out.len,Ap,HCL.out];omega
    have hsrc:∀j u,(bvs c)[j]?=some u→W1.cell? ((⟨g,off,none⟩:Addr).add j)=some u:=by
     intro j u hu;have hadd:(⟨g,off,none⟩:Addr).add j=⟨g,off+j,none⟩:=by unfold Addr.add;split <;>simp_all
     rw[hadd,World.cell?_of_block (hq g)];refine HRG.out j u ?_;rw[←HCE.out,AE,List.getElem?_take]at hu;split at hu
     ·rw[AE];exact hu
     ·cases hu
    refine wpList_copy_own rfl (.tmp 28) (.tmp 29) 30 30 rfl 5 Tryz.underlying30 NB b (8+r) (64-r) (64-r) ⟨g,off,none⟩ n tc rfl rfl (A7 v buf N).toArray _ hh1.hb (bvs c) (by rw[Ap,HCL.out];exact HKE.out.symm) hsrc hfit Bc ?_;have esp:=Hi v N HHR.out.len (c:=c) (r:=r) (by rw[HCL.out];omega);have hh2:=hh1.splice (c:=c) (r:=r) (by rw[HCL.out];omega);have hcs:Chg (fun j=>j=b) W1 (W1.setRow b (A7 v (Di buf r c) N).toArray):=Chg.setRow b _ rfl;rw[esp];obtain⟨Wc,hWc⟩:=Xq (W1.setRow b (A7 v (Di buf r c) N).toArray);rw[hWc]at hh2 hcs⊢;rw[HB2.out]at hh2;have hc2:=(HCR.out.trans (hcw.trans hcs (fun _ h=>.inl h)) (fun _ h=>.inl h));have hrg2:Wc.rangeAt g off (bvs (l.drop i)):=fun j u hu=>((hcw.trans hcs (fun _ h=>.inl h)).cell (p:=⟨g,off+j,none⟩) HGB.out (HRG.out j u hu))
    have hlc2:=hh2.length;have hfr2:=hh2.frozen;have hgl2:g<Wc.heap.size:=Nl HGL.out (hcw.trans hcs (fun _ h=>.inl h)).size;have hch3:=Chg.setCell (F:=fun j=>j=b) (a:=⟨b,72,none⟩) Wc (.int .i64 ((N:Int)+(k:Int))) rfl;have hh3:HashAt (Wc.setCell ⟨b,72,none⟩ (.int .i64 ((N:Int)+(k:Int)))) b v buf2 (N+k):=hh2.setLength (N+k);have hc3:=hc2.trans hch3 (fun _ h=>.inl h);have hbt:=(IL (F:=fun j=>j≠b) HGB.out hgl2 hrg2 HNL.out HTC.out hkn).kept hch3 (fun j h e=>h e);rw[List.drop_drop]at hbt;obtain⟨HH1,HH3,HC3,HBT⟩:=Hd4 hh2 hh3 hc3 hbt;rw[Ap,HCL.out];clear hWc esp hcs hcw hq hh1 hh2 hc2 hrg2 hgl2 hfit hsrc hch3 hh3 hc3 hbt;by_cases hck:tc=k
    ·have hbt:=HBT.out;rw[Ip hck]at hbt;have HV3:=Hd hbt;clear hbt HBT;have hnk:n=k:=by have:=HTC.out;omega
     by_cases hfull:r+k=64
     ·have hmod:(((N:Int)+(k:Int))%64==0)=true:=by have:=HNR.out;simp;omega
      obtain⟨v',hv'⟩:=Xq (Ba v (AF buf2));have hHS9:=HSO.out.full (c:=c) (by rw[HML.out,HCL.out,HNR.out];omega);rw[HML.out,HNR.out,HB2.out,hv']at hHS9;have HS9:=Hd hHS9;have HVE:=Hd hv';clear hHS9 hv';go_wp2_with fail;obtain⟨W2,hW2⟩:=Xq (Wc.setCell ⟨b,72,none⟩ (.int .i64 ((N:Int)+(k:Int))));have hh2:=HH3.out;have hc2:=HC3.out;have hv2:=HV3.out;rw[hW2]at hh2 hc2 hv2⊢;obtain⟨HH2,HC2,HV2⟩:=Hd3 hh2 hc2 hv2;have hka:=HK.out.chg hc2 (fun e=>hb e.symm);have HKAT:=Hd hka;have hszb:(Tryz.prog.info? 201).map (·.size)=some (bvs buf2).length:=by
       have:(Tryz.prog.info? 201).map (·.size)=some 64:=by kernel_rfl
       rw[this,Ap,HBL2.out]
      have HSZB:=Hd hszb;clear hW2 hh2 hc2 hv2 hlc2 hfr2 hmod hka hszb HH3 HC3 HV3;refine Np ?_;refine BB [13] (fun w'=>Below W2.heap.size W2 w') (by kernel_rfl) ?_;have hS0:(fun w'=>Below W2.heap.size W2 w') W2.drew:=Rq.drew;refine tkZ 0 hS0 ?_;refine tkZ 1 hS0 ?_;refine tkZ 2 hS0 ?_;refine tkZ 3 hS0 ?_;refine tkZ 4 hS0 ?_ (hy:=fun w' hw'=>by(obtain⟨e0,e1,e2,e3,e4,e5,e6,e7⟩:=(HH2.out.kept (hw'.block _ HH2.out.lt)).state;clear hw';first| (go_simp;rfl)| (go_simp;done)));refine tkZ 5 hS0 ?_;refine tkZ 6 hS0 ?_;refine tkZ 7 hS0 ?_;refine tkZ 8 hS0 ?_ (v:=.agg (bvs buf2).toArray) (hy:=fun w' hw'=>by exact Cm 201 (.tmp 55) b 8 (bvs buf2) _ rfl rfl ((HH2.out.kept (hw'.block _ HH2.out.lt)).range) Tryz.underlying201 rfl HSZB.out);refine dG 9 fun K hK=>?_
      go_simp;refine(GN buf2 HBL2.out W2.drew).mono ?_;rintro e w3 ⟨rfl,hb3⟩;have k3:Below W2.heap.size W2 w3:=(Below.refl _ W2).drew.trans hb3;refine Kq hK k3 ?_;refine dG 10 fun K hK=>?_
      go_simp;have hpr:Ca 119 #[Value.agg #[.int .u32 (wN v.a),.int .u32 (wN v.b),.int .u32 (wN v.c),.int .u32 (wN v.d),.int .u32 (wN v.e),.int .u32 (wN v.f),.int .u32 (wN v.g),.int .u32 (wN v.i)],.agg (wvs (AF buf2)).toArray] w3 (fun e w'=>e=.returned (.agg #[.int .u32 (wN (Ba v (AF buf2)).a),.int .u32 (wN (Ba v (AF buf2)).b),.int .u32 (wN (Ba v (AF buf2)).c),.int .u32 (wN (Ba v (AF buf2)).d),.int .u32 (wN (Ba v (AF buf2)).e),.int .u32 (wN (Ba v (AF buf2)).f),.int .u32 (wN (Ba v (AF buf2)).g),.int .u32 (wN (Ba v (AF buf2)).i)])∧Below w3.heap.size w3 w'):=EN v (AF buf2) (Cf _ _) w3 (HKAT.out.below k3 HKAT.out.size);refine hpr.mono ?_;rintro e w4 ⟨rfl,hb4⟩;have k4:Below W2.heap.size W2 w4:=Tq k3 hb4;refine Kq hK k4 ?_;refine tkP 11 k4 ?_;refine tkP 12 k4 ?_;refine dGf 13 fun K hK=>?_
      have hh4:=HH2.out.kept (k4.block _ HH2.out.lt);have ef:=hh4.frozen;obtain⟨e0,e1,e2,e3,e4,e5,e6,e7⟩:=hh4.state;go_simp;refine Kr hK ?_;refine eG ?_;rw[HVE.out];have hh5:=hh4.setState v';have hg5:=C6 w4 b (.int .u32 (wN v'.a)) (.int .u32 (wN v'.b)) (.int .u32 (wN v'.c)) (.int .u32 (wN v'.d)) (.int .u32 (wN v'.e)) (.int .u32 (wN v'.f)) (.int .u32 (wN v'.g)) (.int .u32 (wN v'.i));obtain⟨W5,hW5⟩:=Xq ((((((((w4.setCell ⟨b,0,none⟩ (.int .u32 (wN v'.a))).setCell ⟨b,1,none⟩ (.int .u32 (wN v'.b))).setCell ⟨b,2,none⟩ (.int .u32 (wN v'.c))).setCell ⟨b,3,none⟩ (.int .u32 (wN v'.d))).setCell ⟨b,4,none⟩ (.int .u32 (wN v'.e))).setCell ⟨b,5,none⟩ (.int .u32 (wN v'.f))).setCell ⟨b,6,none⟩ (.int .u32 (wN v'.g))).setCell ⟨b,7,none⟩ (.int .u32 (wN v'.i)));rw[hW5]at hh5 hg5⊢;have hc5:Chg (fun j=>j=b) W2 W5:=(Cb k4).trans (Chg.grown (F:=fun j=>j=b) hg5 (fun j e=>.inl (Option.some.inj e).symm)) (fun _ h=>.inl h);have hc9:=HC2.out.trans hc5 (fun _ h=>.inl h);obtain⟨HH9,HC9,HV9⟩:=Hd3 hh5 hc9 (HV2.out.kept hc5 (fun j h e=>h e));clear hW5 hh5 hg5 hc5 hc9 hh4 ef e0 e1 e2 e3 e4 e5 e6 e7 k3 k4 hS0;go_wp2_with fail;go_roundw
      case rel=>exact⟨i+k,_,_,by have:=HN'.out;omega,by rw[←Nat.add_assoc,HNE.out];exact HH9.out,by rw[HTK.out];exact HS9.out,by first|exact HV9.out| (have h9:=HV9.out;rw[show n-k=0 by omega,show tc-k=0 by omega]at h9;exact h9),HC9.out⟩
      case measure=>simp;omega
     ·have hmod:(((N:Int)+(k:Int))%64==0)=false:=by have:=HNR.out;simp;omega
      have hHS9:=HSO.out.part (c:=c) (by rw[HML.out,HCL.out,HNR.out];omega);rw[HML.out,HNR.out,HB2.out]at hHS9;have HS9:=Hd hHS9;have HC9:=HC3;clear hHS9;go_wp2_with fail;go_roundw
      case rel=>exact⟨i+k,_,_,by have:=HN'.out;omega,by rw[←Nat.add_assoc,HNE.out];exact HH3.out,by rw[HTK.out];exact HS9.out,by first|exact HV3.out| (have h9:=HV3.out;rw[show n-k=0 by omega,show tc-k=0 by omega]at h9;exact h9),HC9.out⟩
      case measure=>simp;omega
    ·have hbt:=HBT.out;rw[In hck]at hbt;have HV3:=Hd hbt;clear hbt HBT;by_cases hfull:r+k=64
     ·have hmod:(((N:Int)+(k:Int))%64==0)=true:=by have:=HNR.out;simp;omega
      obtain⟨v',hv'⟩:=Xq (Ba v (AF buf2));have hHS9:=HSO.out.full (c:=c) (by rw[HML.out,HCL.out,HNR.out];omega);rw[HML.out,HNR.out,HB2.out,hv']at hHS9;have HS9:=Hd hHS9;have HVE:=Hd hv';clear hHS9 hv';go_wp2_with fail;obtain⟨W2,hW2⟩:=Xq (Wc.setCell ⟨b,72,none⟩ (.int .i64 ((N:Int)+(k:Int))));have hh2:=HH3.out;have hc2:=HC3.out;have hv2:=HV3.out;rw[hW2]at hh2 hc2 hv2⊢;obtain⟨HH2,HC2,HV2⟩:=Hd3 hh2 hc2 hv2;have hka:=HK.out.chg hc2 (fun e=>hb e.symm);have HKAT:=Hd hka;have hszb:(Tryz.prog.info? 201).map (·.size)=some (bvs buf2).length:=by
       have:(Tryz.prog.info? 201).map (·.size)=some 64:=by kernel_rfl
       rw[this,Ap,HBL2.out]
      have HSZB:=Hd hszb;clear hW2 hh2 hc2 hv2 hlc2 hfr2 hmod hka hszb HH3 HC3 HV3;refine Np ?_;refine BB [13] (fun w'=>Below W2.heap.size W2 w') (by kernel_rfl) ?_;have hS0:(fun w'=>Below W2.heap.size W2 w') W2.drew:=Rq.drew;refine tkZ 0 hS0 ?_;refine tkZ 1 hS0 ?_;refine tkZ 2 hS0 ?_;refine tkZ 3 hS0 ?_;refine tkZ 4 hS0 ?_ (hy:=fun w' hw'=>by(obtain⟨e0,e1,e2,e3,e4,e5,e6,e7⟩:=(HH2.out.kept (hw'.block _ HH2.out.lt)).state;clear hw';first| (go_simp;rfl)| (go_simp;done)));refine tkZ 5 hS0 ?_;refine tkZ 6 hS0 ?_;refine tkZ 7 hS0 ?_;refine tkZ 8 hS0 ?_ (v:=.agg (bvs buf2).toArray) (hy:=fun w' hw'=>by exact Cm 201 (.tmp 55) b 8 (bvs buf2) _ rfl rfl ((HH2.out.kept (hw'.block _ HH2.out.lt)).range) Tryz.underlying201 rfl HSZB.out);refine dG 9 fun K hK=>?_
      go_simp;refine(GN buf2 HBL2.out W2.drew).mono ?_;rintro e w3 ⟨rfl,hb3⟩;have k3:Below W2.heap.size W2 w3:=(Below.refl _ W2).drew.trans hb3;refine Kq hK k3 ?_;refine dG 10 fun K hK=>?_
      go_simp;have hpr:Ca 119 #[Value.agg #[.int .u32 (wN v.a),.int .u32 (wN v.b),.int .u32 (wN v.c),.int .u32 (wN v.d),.int .u32 (wN v.e),.int .u32 (wN v.f),.int .u32 (wN v.g),.int .u32 (wN v.i)],.agg (wvs (AF buf2)).toArray] w3 (fun e w'=>e=.returned (.agg #[.int .u32 (wN (Ba v (AF buf2)).a),.int .u32 (wN (Ba v (AF buf2)).b),.int .u32 (wN (Ba v (AF buf2)).c),.int .u32 (wN (Ba v (AF buf2)).d),.int .u32 (wN (Ba v (AF buf2)).e),.int .u32 (wN (Ba v (AF buf2)).f),.int .u32 (wN (Ba v (AF buf2)).g),.int .u32 (wN (Ba v (AF buf2)).i)])∧Below w3.heap.size w3 w'):=EN v (AF buf2) (Cf _ _) w3 (HKAT.out.below k3 HKAT.out.size);refine hpr.mono ?_;rintro e w4 ⟨rfl,hb4⟩;have k4:Below W2.heap.size W2 w4:=Tq k3 hb4;refine Kq hK k4 ?_;refine tkP 11 k4 ?_;refine tkP 12 k4 ?_;refine dGf 13 fun K hK=>?_
      have hh4:=HH2.out.kept (k4.block _ HH2.out.lt);have ef:=hh4.frozen;obtain⟨e0,e1,e2,e3,e4,e5,e6,e7⟩:=hh4.state;go_simp;refine Kr hK ?_;refine eG ?_;rw[HVE.out];have hh5:=hh4.setState v';have hg5:=C6 w4 b (.int .u32 (wN v'.a)) (.int .u32 (wN v'.b)) (.int .u32 (wN v'.c)) (.int .u32 (wN v'.d)) (.int .u32 (wN v'.e)) (.int .u32 (wN v'.f)) (.int .u32 (wN v'.g)) (.int .u32 (wN v'.i));obtain⟨W5,hW5⟩:=Xq ((((((((w4.setCell ⟨b,0,none⟩ (.int .u32 (wN v'.a))).setCell ⟨b,1,none⟩ (.int .u32 (wN v'.b))).setCell ⟨b,2,none⟩ (.int .u32 (wN v'.c))).setCell ⟨b,3,none⟩ (.int .u32 (wN v'.d))).setCell ⟨b,4,none⟩ (.int .u32 (wN v'.e))).setCell ⟨b,5,none⟩ (.int .u32 (wN v'.f))).setCell ⟨b,6,none⟩ (.int .u32 (wN v'.g))).setCell ⟨b,7,none⟩ (.int .u32 (wN v'.i)));rw[hW5]at hh5 hg5⊢;have hc5:Chg (fun j=>j=b) W2 W5:=(Cb k4).trans (Chg.grown (F:=fun j=>j=b) hg5 (fun j e=>.inl (Option.some.inj e).symm)) (fun _ h=>.inl h);have hc9:=HC2.out.trans hc5 (fun _ h=>.inl h);obtain⟨HH9,HC9,HV9⟩:=Hd3 hh5 hc9 (HV2.out.kept hc5 (fun j h e=>h e));clear hW5 hh5 hg5 hc5 hc9 hh4 ef e0 e1 e2 e3 e4 e5 e6 e7 k3 k4 hS0;go_wp2_with fail;go_roundw
      case rel=>exact⟨i+k,_,_,by have:=HN'.out;omega,by rw[←Nat.add_assoc,HNE.out];exact HH9.out,by rw[HTK.out];exact HS9.out,by first|exact HV9.out| (have h9:=HV9.out;rw[show n-k=0 by omega,show tc-k=0 by omega]at h9;exact h9),HC9.out⟩
      case measure=>simp;omega
     ·have hmod:(((N:Int)+(k:Int))%64==0)=false:=by have:=HNR.out;simp;omega
      have hHS9:=HSO.out.part (c:=c) (by rw[HML.out,HCL.out,HNR.out];omega);rw[HML.out,HNR.out,HB2.out]at hHS9;have HS9:=Hd hHS9;have HC9:=HC3;clear hHS9;go_wp2_with fail;go_roundw
      case rel=>exact⟨i+k,_,_,by have:=HN'.out;omega,by rw[←Nat.add_assoc,HNE.out];exact HH3.out,by rw[HTK.out];exact HS9.out,by first|exact HV3.out| (have h9:=HV3.out;rw[show n-k=0 by omega,show tc-k=0 by omega]at h9;exact h9),HC9.out⟩
      case measure=>simp;omega
   ·obtain rfl :i=l.length:=by omega
    have hV2:∃ta tc,u1=Value.slice ta 0 tc:=by obtain⟨ta,tc,e,_⟩:=hV;exact⟨ta,tc,by rw[e];simp⟩
    obtain⟨ta,tc,rfl⟩:=hV2;rw[List.take_length]at hS;obtain⟨HHe,HSe,HCe⟩:=Hd3 hH hS hC;clear hH hS hC hV hml;go_wp2_with fail;go_ret;exact⟨rfl,v,buf,by rw[List.length_append];exact HHe.out,HSe.out,HCe.out⟩
def zN (n:Nat):Nat:=(119-n%64)%64
def Dj (n j:Nat):UInt8:=(n*8/2^(56-8*j)).toUInt8
def C7 (n:Nat):List UInt8:=(128::List.replicate (zN n) 0)++(List.range 8).map (Dj n)
theorem D1 (n:Nat):(C7 n).length=zN n+9:=by simp[C7]
theorem Pi (n:Nat):(n+(C7 n).length)%64=0:=by rw[D1];unfold zN;omega
def BI (M:List UInt8):List UInt8:=BE (Gi w8init (M++C7 M.length) ((M++C7 M.length).length/64))
@[simp] theorem CG (M:List UInt8):(BI M).length=32:=C5 _
theorem Su (z:Nat):(128:UInt8)::List.replicate (z+1) 0=(128::List.replicate z 0)++[0]:=by rw[List.replicate_succ'];rfl
theorem Ju (n j:Nat):(List.range (j+1)).map (Dj n)=(List.range j).map (Dj n)++[Dj n j]:=by rw[List.range_succ,List.map_append];rfl
theorem Qp:(Tryz.prog.info? 203).map (·.size)=some 73:=by kernel_rfl
def Pj:W8:=⟨0,0,0,0,0,0,0,0⟩
theorem LQ:Tryz.zeroCells203=(A7 Pj (List.replicate 64 0) 0).toArray:=by kernel_rfl
theorem Ke (v:W8) (buf:List UInt8) (n:Nat):(A7 v buf n).toArray.all (·.oneCell')=true:=by
 rw[List.all_toArray];unfold A7;rw[List.all_append,List.all_append];have h1:v.cells.all (·.oneCell')=true:=by simp[W8.cells,wv,Value.oneCell']
 have h2:(bvs buf).all (·.oneCell')=true:=List.all_eq_true.2 Bc;rw[h1,h2];rfl
theorem Pk {wr W2:World}{o:Obj}{j:Nat} (_:Below B w wr) (h:wr.alloc o=W2) (hj:j<wr.heap.size):W2.heap[j]?=wr.heap[j]?:=by rw[←h];exact Below.heap_alloc wr o j hj
theorem MW {v:W8}{buf:List UInt8} (M:List UInt8) (hH:HashAt w b v buf M.length) (hS:HS v buf M) (hK:KAt w) (hlen:M.length<1000000000):
 Ca 117 #[.pointer (some ⟨b,0,none⟩)] w fun e w'=>e=.returned (BF (BI M))∧Below w.heap.size w w':=by
 have hlc:=hH.length;obtain⟨N,hN⟩:=Xq (M.length);rw[hN]at hH hlc hlen;obtain⟨z,hz⟩:=Xq (zN N);have hz64:z<64:=by rw[←hz];unfold zN;omega
 have hmz:(N+1+z)%64=56:=by rw[←hz];unfold zN;omega
 have hmz2:∀j,j<z→(N+1+j)%64≠56:=by intro j hj;rw[←hz]at hj;unfold zN at hj;omega
 obtain⟨w1,hw1⟩:=Xq ((w.alloc (.cells Zy 179)).alloc (.cells #[.int .u8 128] 5));have hb1:Below w.heap.size w w1:=hw1▸((Below.refl _ w).alloc Lr _).alloc (by simp) _;have hs1:w1.heap.size=w.heap.size+2:=by rw[←hw1];simp
 have n1:w1.heap[w.heap.size]?=some (.cells Zy 179 (0,0)):=by rw[←hw1,Below.heap_alloc _ _ _ (by simp)];exact heap_alloc_new w _
 have n2:w1.heap[w.heap.size+1]?=some (.cells #[.int .u8 128] 5 (0,0)):=by have:=heap_alloc_new (w.alloc (.cells Zy 179)) (.cells #[.int .u8 128] 5);rw[Sz]at this;rw[←hw1];exact this
 have ho1:w1.ownsRow (w.heap.size+1) 5 1 (.slice (some ⟨w.heap.size+1,0,none⟩) 1 1) 1 (bvs (128::List.replicate 0 0)):=
  ⟨by decide,.inr ⟨w.heap.size+1,1,_,rfl,Nat.le_refl _,n2,by decide,by decide,by decide,rfl⟩⟩
 have hbl:=hH.lt;obtain⟨HH,HSS,HK,HN,HZ,HMZ,HMZ2,HW1,HB1,HS1,HN1,HO1⟩:=Hd12 hH hS hK hN hz hmz hmz2 hw1 hb1 hs1 n1 ho1;clear hH hS hK hN hz hmz hmz2 hw1 hb1 hs1 n1 n2 ho1;go_enter Tryz.func117,Tryz.ntmps117;go_wp2_with fail;rw[HW1.out];clear HW1 hlc;go_loopw [3] (fun pv wr=>∃j:Nat,j≤z∧wr.ownsRow (w.heap.size+1) 5 1 pv (1+j) (bvs (128::List.replicate j 0))∧Below (w.heap.size+1) w1 wr)
  (fun pv _=>match pv with|.slice _ n _=>1+z-n|_=>0)
 case atStart=>exact⟨0,Nat.zero_le _,HO1.out,Rq⟩
 case round=>
  obtain⟨j,hj,hO,hB⟩:=hrel;obtain⟨pa,pc,rfl⟩:=Ag hO;have hlr:wr.cell? ⟨b,72,none⟩=some (.int .i64 N):=(hB.cell (p:=⟨b,72,none⟩) (by show b<w.heap.size+1;omega)).trans ((HB1.out.cell (p:=⟨b,72,none⟩) hbl).trans HH.out.length);have HO:=Hd hO;have HB:=Hd hB;clear hO hB;by_cases hlt:j<z
  ·have hmod:(((N:Int)+(1+(j:Int)))%64==56)=false:=by have:=HMZ2.out j hlt;simp;omega
   have hmod2:(((N:Int)+(1+(j:Int)))%64!=56)=true:=by have:=HMZ2.out j hlt;simp;omega
   have hgn:=heap_alloc_new wr (.cells #[bv 0] 5);have hba:Below wr.heap.size wr (wr.alloc (.cells #[bv 0] 5)):=Rq.alloc Lr _;have hO3:=AT (G:=fun _=>False) HO.out (Cb hba) (fun _ _ _ h=>h);have hB3:=HB.out.trans (hba.mono (Nt (by have:=HS1.out;omega) HB.out.size));have hbs:w.heap.size+1≤(wr.alloc (.cells #[bv 0] 5)).heap.size:=by have:=HB.out.size;have:=HS1.out;simp;omega
   obtain⟨HGN,HO3,HB3,HBS⟩:=Hd4 hgn hO3 hB3 hbs;clear hgn hba hO3 hB3 hbs;go_wp2_with (at_builtin;refine B9 rfl (.tmp 20) (.tmp 21) rfl rfl HO3.out wr.heap.size rfl HGN.out (by omega) HBS.out ?_)
   intro g' cap' w5 hlt5 hown5 hgr5 hat5;have hB5:Below (w.heap.size+1) w1 w5:=HB3.out.grown hgr5 HBS.out (fun j hj=>(Ab HO3.out j hj).1);have HO5:=Hd hown5;have HB5:=Hd hB5;clear hown5 hgr5 hat5 hB5;go_wp2_with fail;go_roundw
   case rel=>exact⟨j+1,by omega,by rw[Su];exact HO5.out,HB5.out⟩
   case measure=>simp;omega
  ·obtain rfl :j=z:=by omega
   have hmod:(((N:Int)+(1+(j:Int)))%64==56)=true:=by have:=HMZ.out;simp;omega
   have hmod2:(((N:Int)+(1+(j:Int)))%64!=56)=false:=by have:=HMZ.out;simp;omega
   go_wp2_with fail;have HOz:=HO;have hq:wr.ownsRow (w.heap.size+1) 5 1 (.slice pa (1+j) pc) (1+j+0) (bvs ((128::List.replicate j 0)++(List.range 0).map (Dj N))):=by rw[List.range_zero,List.map_nil,List.append_nil];exact HO.out
   have HQ:=Hd hq;clear hq hmod hmod2 hlr HOz;obtain⟨wa,rfl⟩:∃wa:World,wa=wr:=⟨_,rfl⟩;go_loopw [3,29] (fun pv i wr=>∃q:Nat,q≤8∧i=.int .i64 q∧wr.ownsRow (w.heap.size+1) 5 1 pv (1+j+q) (bvs ((128::List.replicate j 0)++(List.range q).map (Dj N)))∧Below (w.heap.size+1) w1 wr)
    (fun _ i _=>8-(intOf i).toNat)
   case atStart=>exact⟨0,Nat.zero_le _,rfl,HQ.out,HB.out⟩
   case round=>
    obtain⟨q,hq,rfl,hO,hB⟩:=hrel;obtain⟨qa,qc,rfl⟩:=Ag hO;have HO2:=Hd hO;have HB2:=Hd hB;clear hO hB;by_cases hq8:q<8
    ·have hval:8*(N:Int)/2^(56-8*q)%256=((Dj N q).toNat:Int):=by unfold Dj;rw[Nat.mul_comm N 8];have e:(2:Int)^(56-8*q)=((2^(56-8*q):Nat):Int):=(Int.natCast_pow 2 _).symm;rw[e];simp
     have hgn:=heap_alloc_new wr (.cells #[.int .u8 (8*(N:Int)/2^(56-8*q)%256)] 5);have hba:Below wr.heap.size wr (wr.alloc (.cells #[.int .u8 (8*(N:Int)/2^(56-8*q)%256)] 5)):=Rq.alloc Lr _;have hgn2:(wr.alloc (.cells #[.int .u8 (8*(N:Int)/2^(56-8*q)%256)] 5)).heap[wr.heap.size]?=some (.cells #[bv (Dj N q)] 5 (0,0)):=by rw[hgn,hval];rfl
     have hO3:=AT (G:=fun _=>False) HO2.out (Cb hba) (fun _ _ _ h=>h);have hB3:=HB2.out.trans (hba.mono (Nt (by have:=HS1.out;omega) HB2.out.size));have hbs:w.heap.size+1≤(wr.alloc (.cells #[.int .u8 (8*(N:Int)/2^(56-8*q)%256)] 5)).heap.size:=by have:=HB2.out.size;have:=HS1.out;simp;omega
     obtain⟨HGN,HO3,HB3,HBS⟩:=Hd4 hgn2 hO3 hB3 hbs;clear hgn hba hO3 hB3 hbs hgn2 hval;go_wp2_with (at_builtin;refine B9 rfl (.tmp 32) (.tmp 39) rfl rfl HO3.out wr.heap.size rfl HGN.out (by omega) HBS.out ?_)
     intro g' cap' w5 hlt5 hown5 hgr5 hat5;have hB5:Below (w.heap.size+1) w1 w5:=HB3.out.grown hgr5 HBS.out (fun j hj=>(Ab HO3.out j hj).1);have HO5:=Hd hown5;have HB5:=Hd hB5;clear hown5 hgr5 hat5 hB5;go_wp2_with fail;go_roundw
     case rel=>exact⟨q+1,by omega,by go_num,by rw[Ju];have h:=HO5.out;simp only[List.cons_append,List.append_assoc]at h⊢;exact h,HB5.out⟩
     case measure=>simp[intOf];omega
    ·obtain rfl :q=8:=by omega
     have hpl:(128::List.replicate j 0)++(List.range 8).map (Dj N)=C7 N:=by unfold C7;rw[HZ.out]
     obtain⟨P,hP⟩:=Xq (C7 N);have hPl:P.length=1+j+8:=by rw[←hP,D1,HZ.out];omega
     have hOP:=HO2.out;rw[hpl,hP]at hOP;obtain⟨nP,hnP⟩:=Xq (1+j+8);rw[hnP]at hOP hPl⊢;have hnPb:nP≤100:=by omega
     have hB0:Below w.heap.size w wr:=HB1.out.trans (HB2.out.mono (Nat.le_succ _));have hhr:=HH.out.kept (hB0.block _ hbl);have hsz:(Tryz.prog.info? 203).map (·.size)=some (A7 v buf N).toArray.size:=by rw[List.size_toArray,Dq HH.out.len];exact Qp
     have hzs:(Tryz.zeroCells203:Array Value).size=(A7 v buf N).toArray.size:=by rw[LQ,List.size_toArray,List.size_toArray,Dq HH.out.len];exact Dq (by simp)
     have hnw:=heap_alloc_new wr (.cells Tryz.zeroCells203 203);obtain⟨W2,hW2⟩:=Xq (wr.alloc (.cells (A7 v buf N).toArray 203));have hb2:=Lq hW2;have hs2:W2.heap.size=wr.heap.size+1:=by rw[←hW2,Sz]
     have hh2:HashAt W2 wr.heap.size v buf M.length:=⟨HH.out.len,by rw[←hW2,HN.out];exact Hn⟩;have hOP2:=AT (G:=fun _=>False) hOP (Cb hb2) (fun _ _ _ h=>h);have hlP:∀g,(Value.slice qa nP qc).ownBlock=some g→g<wr.heap.size:=fun g hg=>(Ab hOP g hg).2
     have hBP:BytesAt W2 (fun g=>g≠wr.heap.size) (.slice qa nP qc) P:=by have h9:=Cy hOP hPl;have h8:=h9.kept (G:=fun _=>False) (Cb hb2) (fun _ _ h=>h);obtain⟨xa,xc,e,hxc,hxr⟩:=h9;obtain⟨ya,yc,e2,hyc,hyr⟩:=h8;refine⟨ya,yc,e2,hyc,fun hne=>?_⟩;obtain⟨g,off,e3,h3,h4,h5⟩:=hyr hne;obtain⟨g',off',e3',h3',h4',h5'⟩:=hxr hne;rw[e3']at e;rw[e3]at e2;rw[e2]at e;cases e;exact⟨g,off,e3,by omega,h4,h5⟩
     have hbd:=Tq hB0 hb2;have hka:=(HK.out.below hbd HK.out.size);obtain⟨HHR,HSZ,HZS,HNW,HW2,HH2,HBP,HBD,HKA,HS2,HPE,HPL,HB20⟩:=Hd13 hhr hsz hzs hnw hW2 hh2 hBP hbd hka hs2 hP hPl hB0;have hbr:w.heap.size<wr.heap.size:=by have:=HB2.out.size;have:=HS1.out;omega
     clear hpl hP hPl hOP hnP hB0 hhr hsz hzs hnw hW2 hb2 hs2 hh2 hOP2 hlP hBP hbd hka;go_wp2_with (first| (with_reducible refine wpList_load_row rfl 203 _ rfl b rfl 203 (A7 v buf N).toArray (0,0) _ HHR.out.hb Tryz.underlying203 rfl HSZ.out ?_)| (with_reducible refine wpList_store_row rfl 203 _ _ rfl wr.heap.size (A7 v buf N).toArray rfl rfl 203 _ HNW.out HSZ.out HZS.out (Ke _ _ _) ?_;rw[World.setRow_alloc_new,HW2.out]))
     refine(Hv M P _ HH2.out (fun _=>HSS.out) HBP.out HKA.out (by have:=HK.out.size;omega) (by have:=HN.out;have:=HPL.out;omega)).mono ?_;rintro e w6 ⟨rfl,v6,buf6,hh6,hs6,hc6⟩;have hst6:=hh6.state;obtain⟨e0,e1,e2,e3,e4,e5,e6,e7⟩:=hst6;have hb6:Below w.heap.size w w6:=HBD.out.trans (hc6.below (fun k e=>by rw[e];omega) HBD.out.size);have n16:w6.heap[w.heap.size]?=_:=(hc6.block _ (by have:=HS2.out;omega) (by omega)).trans ((Pk HB20.out HW2.out (by omega)).trans ((HB2.out.block _ (by omega)).trans HN1.out));have hv6:BE v6=BI M:=by unfold BI;rw[HN.out,HPE.out,←hs6.st]
     have hdg:Ca 121 #[.agg #[.int .u32 (wN v6.a),.int .u32 (wN v6.b),.int .u32 (wN v6.c),.int .u32 (wN v6.d),.int .u32 (wN v6.e),.int .u32 (wN v6.f),.int .u32 (wN v6.g),.int .u32 (wN v6.i)]] w6 (fun e w'=>e=.returned (.agg (bvs (BE v6)).toArray)∧Below w6.heap.size w6 w'):=Oa v6 w6;rw[hv6]at hdg;obtain⟨HDG,HB6,HN6⟩:=Hd3 hdg hb6 n16;have hl6:w.heap.size<w6.heap.size:=(Ax n16).1;clear hh6 hs6 hc6 hb6 n16 hv6 hdg;go_wp2_with fail;refine HDG.out.mono ?_;rintro e w7 ⟨rfl,hb7⟩;have n17:w7.heap[w.heap.size]?=_:=(hb7.block _ hl6).trans HN6.out;have hb7':=Tq HB6.out hb7;have hszd:(Tryz.prog.info? 179).map (·.size)=some (bvs (BI M)).toArray.size:=by
      have:(Tryz.prog.info? 179).map (·.size)=some 32:=by kernel_rfl
      rw[this,List.size_toArray,Ap,CG]
     have hzsd:(Zy:Array Value).size=(bvs (BI M)).toArray.size:=by show 32=_;rw[List.size_toArray,Ap,CG]
     obtain⟨HN7,HB7,HSD,HZD⟩:=Hd4 n17 hb7' hszd hzsd;clear n17 hb7 hb7' hszd hzsd e0 e1 e2 e3 e4 e5 e6 e7;go_wp2_with (with_reducible refine wpList_store_row rfl 179 _ _ rfl w.heap.size (bvs (BI M)).toArray rfl rfl 179 _ HN7.out HSD.out HZD.out (Bb _) ?_)
     refine Br (v:=.agg (bvs (BI M)).toArray) ?r1 rfl ?r2
     case r1=>exact results_cell_row (g:=w.heap.size) rfl _ _ _ _ _ _ rfl (setRow_heap _ _ _ _ _ _ HN7.out) Tryz.underlying179 rfl HSD.out
     case r2=>exact⟨rfl,below_setRow HB7.out Lr _⟩
variable {l:List UInt8}
theorem Ob (w:World):Ca 115 #[] w fun e w'=>e=.returned (.pointer (some ⟨w.heap.size,0,none⟩))∧HashAt w' w.heap.size Pj (List.replicate 64 0) 0∧Below w.heap.size w w':=by have h1:=heap_alloc_new w (.cells Tryz.zeroCells203 203);rw[LQ]at h1;have H1:=Hd h1;clear h1;go_enter Tryz.func115,Tryz.ntmps115;go_wp2_with fail;go_ret;exact⟨rfl,⟨by simp,by rw[LQ];exact H1.out⟩,Rq.alloc Lr _⟩
theorem Rl (h:l.length=32):(Tryz.prog.info? 179).map (·.size)=some (bvs l).toArray.size:=by
 have:(Tryz.prog.info? 179).map (·.size)=some 32:=by kernel_rfl
 rw[this,List.size_toArray,Ap,h]
theorem Oc (l:List UInt8) (bv:Value) {F:Nat→Prop} (hv:BytesAt w F bv l) (hK:KAt w) (hlen:l.length<1000000000):
 Ca 105 #[bv] w fun e w'=>e=.returned (BF (BI l))∧Below w.heap.size w w':=by
 obtain⟨w1,hw1⟩:=Xq (w.alloc (.cells Zy 179));have hb1:Below w.heap.size w w1:=hw1▸(Below.refl _ w).alloc Lr _;have hs1:w1.heap.size=w.heap.size+1:=by rw[←hw1,Sz]
 have n1:w1.heap[w.heap.size]?=some (.cells Zy 179 (0,0)):=by rw[←hw1];exact heap_alloc_new w _
 obtain⟨HK,HV,HW1,HB1,HS1,HN1⟩:=Hd6 hK hv hw1 hb1 hs1 n1;have hform:∃a c,bv=.slice a l.length c:=by obtain⟨a,c,e,_⟩:=hv;exact⟨a,c,e⟩
 obtain⟨ba,bc,rfl⟩:=hform;clear hK hv hw1 hb1 hs1 n1;go_enter Tryz.func105,Tryz.ntmps105;go_wp2_with fail;rw[HW1.out];refine(Ob w1).mono ?_;rintro e w2 ⟨rfl,hh2,hb2⟩;have hbd:=Tq HB1.out hb2;have hbv:BytesAt w2 (fun g=>g≠w1.heap.size) (.slice ba l.length bc) l:=by have h1:=HV.out.mono' (G:=fun g=>g<w.heap.size) (fun k hk _=>hk);exact(h1.kept (G:=fun _=>False) (Cb hbd) (fun _ _ h=>h)).mono (fun k (hk:k<w.heap.size)=>by have:=HB1.out.size;omega)
 have hka:=HK.out.below hbd HK.out.size;obtain⟨HH2,HBD,HBV,HKA⟩:=Hd4 hh2 hbd hbv hka;have n2:w2.heap[w.heap.size]?=_:=(hb2.block _ (by have:=HS1.out;omega)).trans HN1.out;have HN2:=Hd n2;clear hh2 hb2 hbd hbv hka n2;go_wp2_with fail;refine(Hv [] l _ HH2.out (fun h=>absurd rfl h) HBV.out HKA.out (by have:=HK.out.size;have:=HS1.out;omega) (by simp;omega)).mono ?_;rintro e w3 ⟨rfl,v3,buf3,hh3,hs3,hc3⟩;rw[List.nil_append]at hh3 hs3;have hb3:=HBD.out.trans (hc3.below (fun k e=>by rw[e];have:=HS1.out;omega) HBD.out.size);have hka3:=HK.out.below hb3 HK.out.size;have n3:w3.heap[w.heap.size]?=_:=(hc3.block _ (Ax HN2.out).1 (by have:=HS1.out;omega)).trans HN2.out;obtain⟨HH3,HS3,HB3,HKA3,HN3⟩:=Hd5 hh3 hs3 hb3 hka3 n3;clear hh3 hs3 hc3 hb3 hka3 n3;go_wp2_with fail;have hsum:Ca 117 #[.pointer (some ⟨w1.heap.size,0,none⟩)] w3 (fun e w'=>e=.returned (.agg (bvs (BI l)).toArray)∧Below w3.heap.size w3 w'):=MW l HH3.out HS3.out HKA3.out hlen;refine hsum.mono ?_;rintro e w4 ⟨rfl,hb4⟩;have n4:w4.heap[w.heap.size]?=_:=Bq hb4 HN3.out;have hb4':=Tq HB3.out hb4;have hszd:=Rl (CG l);have hzsd:(Zy:Array Value).size=(bvs (BI l)).toArray.size:=by show 32=_;rw[List.size_toArray,Ap,CG]
 obtain⟨HN4,HB4,HSD,HZD⟩:=Hd4 n4 hb4' hszd hzsd;clear n4 hb4 hb4' hszd hzsd hsum;go_wp2_with (with_reducible refine wpList_store_row rfl 179 _ _ rfl w.heap.size (bvs (BI l)).toArray rfl rfl 179 _ HN4.out HSD.out HZD.out (Bb _) ?_)
 refine Br (v:=.agg (bvs (BI l)).toArray) ?r1 rfl ?r2
 case r1=>exact results_cell_row (g:=w.heap.size) rfl _ _ _ _ _ _ rfl (setRow_heap _ _ _ _ _ _ HN4.out) Tryz.underlying179 rfl HSD.out
 case r2=>exact⟨rfl,below_setRow HB4.out Lr _⟩
def A3 (l:List UInt8):List UInt8:=(BI l).take 16
@[simp] theorem C8 (l:List UInt8):(A3 l).length=16:=by simp[A3]
theorem Od (w:World) (g:Nat):
 (Instr.sliceAt 179 (.pointer (some ⟨g,0,none⟩)) none (some (.int .i64 16)) none).run Tryz.prog w=.ok (.slice (some ⟨g,0,none⟩) 16 32) w:=by
 simp[Instr.sliceAt,run_underlying Tryz.underlying179,Instr.sureAddr,Instr.sliceBounds,Instr.sliceBound,asIntOf,FD];rfl
theorem LR (a:Option Addr) (cap:Nat) (w:World):(Instr.arrayAt 158 (.slice a 16 cap)).run Tryz.prog w=.ok (.pointer a) w:=by simp[Instr.arrayAt,run_underlying Tryz.underlying158]
theorem Lu (l:List UInt8):(Tryz.prog.info? 158).map (·.size)=some (bvs (A3 l)).toArray.size:=by
 have:(Tryz.prog.info? 158).map (·.size)=some 16:=by kernel_rfl
 rw[this,List.size_toArray,Ap,C8]
theorem Gk (l:List UInt8) (bv:Value) {F:Nat→Prop} (hv:BytesAt w F bv l) (hK:KAt w) (hlen:l.length<1000000000):
 Ca 89 #[bv] w fun e w'=>e=.returned (BF (A3 l))∧Below w.heap.size w w':=by
 obtain⟨w1,hw1⟩:=Xq (w.alloc (.cells #[.int .u8 0,.int .u8 0,.int .u8 0,.int .u8 0,.int .u8 0,.int .u8 0,.int .u8 0,.int .u8 0,.int .u8 0,.int .u8 0,.int .u8 0,.int .u8 0,.int .u8 0,.int .u8 0,.int .u8 0,.int .u8 0] 158));have hb1:Below w.heap.size w w1:=hw1▸(Below.refl _ w).alloc Lr _;have n1:w1.heap[w.heap.size]?=some (.cells #[.int .u8 0,.int .u8 0,.int .u8 0,.int .u8 0,.int .u8 0,.int .u8 0,.int .u8 0,.int .u8 0,.int .u8 0,.int .u8 0,.int .u8 0,.int .u8 0,.int .u8 0,.int .u8 0,.int .u8 0,.int .u8 0] 158 (0,0)):=by rw[←hw1];exact heap_alloc_new w _
 have hv1:=hv.kept (G:=fun _=>False) (Cb hb1) (fun _ _ h=>h);have hk1:=hK.below hb1 hK.size;have hsum:Ca 105 #[bv] w1 (fun e w'=>e=.returned (.agg (bvs (BI l)).toArray)∧Below w1.heap.size w1 w'):=Oc l bv hv1 hk1 hlen;obtain⟨HS,HW1,HB1,HN1⟩:=Hd4 hsum hw1 hb1 n1;clear hv hK hw1 hb1 n1 hv1 hk1 hsum;go_enter Tryz.func89,Tryz.ntmps89;go_wp2_with fail;rw[HW1.out];refine HS.out.mono ?_;rintro e w2 ⟨rfl,hb2⟩;have n2:w2.heap[w.heap.size]?=_:=Bq hb2 HN1.out;have hb2':=Tq HB1.out hb2;obtain⟨w3,hw3⟩:=Xq (w2.alloc (.cells (bvs (BI l)).toArray 179));have hb3:=Lq hw3;have n3:w3.heap[w.heap.size]?=_:=Bq hb3 n2;have m3:=Nq hw3 rfl;have hr3:w3.rangeAt w2.heap.size 0 (bvs (A3 l)):=fun j u hu=>by
  rw[cell_of_row w3 _ _ _ _ _ m3,Nat.zero_add,List.getElem?_toArray];unfold A3 at hu;rw[AE,List.getElem?_take]at hu;split at hu
  ·rw[AE];exact hu
  ·cases hu
 have hszd:=Rl (CG l);have hzsd:(Zy:Array Value).size=(bvs (BI l)).toArray.size:=by show 32=_;rw[List.size_toArray,Ap,CG]
 have hszh:=Lu l;have hszh2:(Tryz.prog.info? 158).map (·.size)=some (bvs (A3 l)).length:=by rw[hszh,List.size_toArray]
 have hzsh:(#[.int .u8 0,.int .u8 0,.int .u8 0,.int .u8 0,.int .u8 0,.int .u8 0,.int .u8 0,.int .u8 0,.int .u8 0,.int .u8 0,.int .u8 0,.int .u8 0,.int .u8 0,.int .u8 0,.int .u8 0,.int .u8 0]:Array Value).size=(bvs (A3 l)).toArray.size:=by show 16=_;rw[List.size_toArray,Ap,C8]
 have hnw:=heap_alloc_new w2 (.cells Zy 179);have hs1:=fun w=>Od w w2.heap.size
 have hs2:=fun w=>LR (some ⟨w2.heap.size,0,none⟩) 32 w
 obtain⟨HSD,HZD,HSH,HSH2,HZH,HNW,HW3,HN3,HR3,HB3⟩:=Hd10 hszd hzsd hszh hszh2 hzsh hnw hw3 n3 hr3 (Tq hb2' hb3);clear n2 hb2 hb2' hw3 hb3 n3 m3 hr3 hszd hzsd hszh hszh2 hzsh hnw;go_wp2_with (first| (with_reducible refine wpList_store_row rfl 179 _ _ rfl w2.heap.size (bvs (BI l)).toArray rfl rfl 179 _ HNW.out HSD.out HZD.out (Bb _) ?_;rw[World.setRow_alloc_new,HW3.out])| (with_reducible refine wpList_load_mid rfl 158 _ rfl w2.heap.size 0 rfl (bvs (A3 l)) _ HR3.out Tryz.underlying158 rfl HSH2.out ?_)| (with_reducible refine wpList_store_row rfl 158 _ _ rfl w.heap.size (bvs (A3 l)).toArray rfl rfl 158 _ HN3.out HSH.out HZH.out (Bb _) ?_))
 refine Br (v:=.agg (bvs (A3 l)).toArray) ?r1 rfl ?r2
 case r1=>exact results_cell_row (g:=w.heap.size) rfl _ _ _ _ _ _ rfl (setRow_heap _ _ _ _ _ _ HN3.out) Tryz.underlying158 rfl HSH.out
 case r2=>exact⟨rfl,below_setRow HB3.out Lr _⟩
def beL:Nat→Nat→List UInt8
 |0,_=>[]
 |s+1,n=>beL s (n/256)++[n.toUInt8]
@[simp] theorem CD:∀s n,(beL s n).length=s
 |0,_=>rfl
 |s+1,n=>by simp[beL,CD s]
def Ae (l:List UInt8):Nat:=l.foldl (fun n b=>n*256+b.toNat) 0
theorem Eh (l:List UInt8) (b:UInt8):Ae (l++[b])=Ae l*256+b.toNat:=by simp[Ae]
theorem DM:∀s n,n<256^s→Ae (beL s n)=n
 |0,n,h=>by simp at h;subst h;rfl
 |s+1,n,h=>by
  rw[beL,Eh,DM s (n/256) (by rw[Nat.pow_succ]at h;omega)];simp;omega
theorem LS:∀(l:List UInt8) (a:Nat),l.foldl (fun n b=>n*256+b.toNat) a<(a+1)*256^l.length
 | [],a=>by simp
 |b::l,a=>by
  have h:=LS l (a*256+b.toNat);rw[List.foldl_cons,List.length_cons,Nat.pow_succ];have hb:=b.toNat_lt;have h2:(a*256+b.toNat+1)*256^l.length≤((a+1)*256)*256^l.length:=Nat.mul_le_mul_right _ (by omega)
  calc _<_:=h
   _≤_:=h2
   _=_:=by rw[Nat.mul_assoc,Nat.mul_comm 256]
theorem FE (l:List UInt8):Ae l<256^l.length:=by have:=LS l 0;simpa[Ae]using this
structure PartD where
 kind:Int
 gen:Int
 num:Int
 idx:Int
 cnt:Int
 bytes:List UInt8
def PartD.zero:PartD:=⟨0,0,0,0,0,[]⟩
def Aw (k g n:Int):Bool:=decide (0≤k)&&decide (k≤65535)&&decide (0≤g)&&decide (g≤2147483647)&&decide (0≤n)&&decide (n≤2147483647)
def Bl (k g n i c:Int):Bool:=Aw k g n&&decide (1≤c)&&decide (c≤586)&&decide (0≤i)&&decide (i<c)
def A8 (k g n i c:Int) (len:Nat):Int:=
 if Bl k g n i c=false then 2 else if 224<len then 5 else if i=c-1 then(if 1<c∧len=0 then 4 else if 131072<i*224+len then 5 else 0)
 else if len<224 then 4 else 0
def B8 (p:PartD):Int:=A8 p.kind p.gen p.num p.idx p.cnt p.bytes.length
structure PartOk (p:PartD):Prop where
 k0:0≤p.kind
 k1:p.kind≤65535
 g0:0≤p.gen
 g1:p.gen≤2147483647
 n0:0≤p.num
 n1:p.num≤2147483647
 c0:1≤p.cnt
 c1:p.cnt≤586
 i0:0≤p.idx
 i1:p.idx<p.cnt
 len:p.bytes.length≤224
 last:p.idx=p.cnt-1→(1<p.cnt→p.bytes.length≠0)∧p.idx*224+p.bytes.length≤131072
 full:p.idx≠p.cnt-1→p.bytes.length=224
theorem NC {p:PartD} (h:B8 p=0):PartOk p:=by
 unfold B8 A8 at h;by_cases hr:Bl p.kind p.gen p.num p.idx p.cnt=false
 ·rw[Ip hr]at h;cases h
 ·rw[In hr]at h;have hr':Bl p.kind p.gen p.num p.idx p.cnt=true:=by simpa using hr
  simp only[Bl,Aw,Bool.and_eq_true,decide_eq_true_eq]at hr';obtain⟨⟨⟨⟨⟨⟨⟨⟨⟨a1,a2⟩,a3⟩,a4⟩,a5⟩,a6⟩,a7⟩,a8⟩,a9⟩,a10⟩:=hr';by_cases hl:224<p.bytes.length
  ·rw[Ip hl]at h;cases h
  ·rw[In hl]at h;refine⟨a1,a2,a3,a4,a5,a6,a7,a8,a9,a10,by omega,fun e=>?_,fun e=>?_⟩
   ·rw[Ip e]at h;by_cases h4:1<p.cnt∧p.bytes.length=0
    ·rw[Ip h4]at h;cases h
    ·rw[In h4]at h;by_cases h5:131072<p.idx*224+p.bytes.length
     ·rw[Ip h5]at h;cases h
     ·exact⟨fun h6 h7=>h4 ⟨h6,h7⟩,by omega⟩
   ·rw[In e]at h;by_cases h4:p.bytes.length<224
    ·rw[Ip h4]at h;cases h
    ·omega
theorem PartOk.chk {p:PartD} (h:PartOk p):B8 p=0:=by
 obtain⟨a1,a2,a3,a4,a5,a6,a7,a8,a9,a10,hl,h1,h2⟩:=h;unfold B8 A8;have hr:Bl p.kind p.gen p.num p.idx p.cnt=true:=by simp[Bl,Aw,a1,a2,a3,a4,a5,a6,a7,a8,a9,a10]
 rw[hr,In (by simp),In (by omega)];by_cases e:p.idx=p.cnt-1
 ·rw[Ip e,In (fun h=>(h1 e).1 h.1 h.2),In (by have:=(h1 e).2;omega)]
 ·rw[In e,In (by have:=h2 e;omega)]
def CZ (p:PartD):List UInt8:=beL 4 p.gen.toNat++beL 4 p.num.toNat++beL 2 p.kind.toNat++beL 2 p.idx.toNat++beL 2 p.cnt.toNat++beL 2 p.bytes.length
@[simp] theorem Sk (p:PartD):(CZ p).length=16:=by simp[CZ]
def Dk (b:List UInt8):List UInt8:=(b++List.replicate (240-b.length) 0).take 240
theorem EO (b:List UInt8):(Dk b).length=240:=by simp[Dk];omega
def Fs (b:List UInt8):List UInt8:=A3 (Dk b)++Dk b
theorem LU (b:List UInt8):(Fs b).length=256:=by simp[Fs,EO]
def Ft (p:PartD):List UInt8:=CZ p++p.bytes++List.replicate (224-p.bytes.length) 0
def By (p:PartD):List UInt8:=Fs (CZ p++p.bytes)
theorem Bt (p:PartD):(By p).length=256:=LU _
theorem Pm {p:PartD} (h:p.bytes.length≤224):Dk (CZ p++p.bytes)=Ft p:=by
 unfold Dk Ft;have e:240-(CZ p++p.bytes).length=224-p.bytes.length:=by simp;omega
 rw[e,List.take_of_length_le (by simp;omega)]
theorem Kz {p:PartD} (h:p.bytes.length≤224):By p=A3 (Ft p)++Ft p:=by unfold By Fs;rw[Pm h]
theorem Oe (b:List UInt8):(Fs b).take 16=A3 (Dk b):=by simp[Fs]
theorem Of (b:List UInt8):(Fs b).drop 16=Dk b:=by simp[Fs]
def seg (b:List UInt8) (i n:Nat):List UInt8:=(b.drop i).take n
theorem GO (b:List UInt8) (i n:Nat) (h:i+n≤b.length):(seg b i n).length=n:=by simp[seg];omega
def szL (b:List UInt8):Nat:=Ae (seg b 30 2)
def Bn (b:List UInt8):PartD:=⟨Ae (seg b 24 2),Ae (seg b 16 4),Ae (seg b 20 4),Ae (seg b 26 2),Ae (seg b 28 2),seg b 32 (szL b)⟩
def BA (l:List UInt8):Bool:=l.all (·==0)
def Al (b:List UInt8):Int:=
 if b.length<256 then 4 else if 256<b.length then 5 else if A3 (b.drop 16)≠b.take 16 then 22
 else if szL b≤224∧BA (b.drop (32+szL b))=true∧B8 (Bn b)=0 then 0 else 3
def Ak (b:List UInt8):PartD:=if Al b=0 then Bn b else .zero
theorem EE (a c d:List UInt8) (i n:Nat) (hi:a.length=i) (hn:c.length=n):seg (a++(c++d)) i n=c:=by unfold seg;subst hi hn;simp
theorem Pn {p:PartD} (h:PartOk p):seg (By p) 16 4=beL 4 p.gen.toNat∧seg (By p) 20 4=beL 4 p.num.toNat∧seg (By p) 24 2=beL 2 p.kind.toNat∧seg (By p) 26 2=beL 2 p.idx.toNat∧
 seg (By p) 28 2=beL 2 p.cnt.toNat∧seg (By p) 30 2=beL 2 p.bytes.length∧seg (By p) 32 p.bytes.length=p.bytes∧(By p).drop (32+p.bytes.length)=List.replicate (224-p.bytes.length) 0:=by
 rw[Kz h.len];unfold Ft CZ;generalize hH:A3 _=H;have hHl:H.length=16:=by rw[←hH];simp
 clear hH;refine⟨?_,?_,?_,?_,?_,?_,?_,?_⟩
 ·have:=EE H (beL 4 p.gen.toNat) (beL 4 p.num.toNat++beL 2 p.kind.toNat++beL 2 p.idx.toNat++beL 2 p.cnt.toNat++beL 2 p.bytes.length++p.bytes++List.replicate (224-p.bytes.length) 0) 16 4 hHl (by simp);simpa using this
 ·have:=EE (H++beL 4 p.gen.toNat) (beL 4 p.num.toNat) (beL 2 p.kind.toNat++beL 2 p.idx.toNat++beL 2 p.cnt.toNat++beL 2 p.bytes.length++p.bytes++List.replicate (224-p.bytes.length) 0) 20 4 (by simp[hHl]) (by simp);simpa using this
 ·have:=EE (H++beL 4 p.gen.toNat++beL 4 p.num.toNat) (beL 2 p.kind.toNat) (beL 2 p.idx.toNat++beL 2 p.cnt.toNat++beL 2 p.bytes.length++p.bytes++List.replicate (224-p.bytes.length) 0) 24 2 (by simp[hHl]) (by simp);simpa using this
 ·have:=EE (H++beL 4 p.gen.toNat++beL 4 p.num.toNat++beL 2 p.kind.toNat) (beL 2 p.idx.toNat) (beL 2 p.cnt.toNat++beL 2 p.bytes.length++p.bytes++List.replicate (224-p.bytes.length) 0) 26 2 (by simp[hHl]) (by simp);simpa using this
 ·have:=EE (H++beL 4 p.gen.toNat++beL 4 p.num.toNat++beL 2 p.kind.toNat++beL 2 p.idx.toNat) (beL 2 p.cnt.toNat) (beL 2 p.bytes.length++p.bytes++List.replicate (224-p.bytes.length) 0) 28 2 (by simp[hHl]) (by simp);simpa using this
 ·have:=EE (H++beL 4 p.gen.toNat++beL 4 p.num.toNat++beL 2 p.kind.toNat++beL 2 p.idx.toNat++beL 2 p.cnt.toNat) (beL 2 p.bytes.length) (p.bytes++List.replicate (224-p.bytes.length) 0) 30 2 (by simp[hHl]) (by simp);simpa using this
 ·have:=EE (H++beL 4 p.gen.toNat++beL 4 p.num.toNat++beL 2 p.kind.toNat++beL 2 p.idx.toNat++beL 2 p.cnt.toNat++beL 2 p.bytes.length) p.bytes (List.replicate (224-p.bytes.length) 0) 32 p.bytes.length (by simp[hHl]) rfl;simpa using this
 ·have hl:(H++beL 4 p.gen.toNat++beL 4 p.num.toNat++beL 2 p.kind.toNat++beL 2 p.idx.toNat++beL 2 p.cnt.toNat++beL 2 p.bytes.length++p.bytes).length=32+p.bytes.length:=by simp[hHl];omega
  have:=List.drop_left' (l₂:=List.replicate (224-p.bytes.length) (0:UInt8)) hl;simpa using this
theorem I4 (n:Nat):BA (List.replicate n 0)=true:=by simp[BA]
theorem Iy {p:PartD} (h:PartOk p):Al (By p)=0∧Ak (By p)=p:=by
 obtain⟨e1,e2,e3,e4,e5,e6,e7,e8⟩:=Pn h;have hsz:szL (By p)=p.bytes.length:=by unfold szL;rw[e6];exact DM 2 _ (by have:=h.len;omega)
 have hraw:Bn (By p)=p:=by unfold Bn;rw[hsz,e1,e2,e3,e4,e5,e7,DM 2 p.kind.toNat (by have:=h.k1;omega),DM 4 p.gen.toNat (by have:=h.g1;omega),DM 4 p.num.toNat (by have:=h.n1;omega),DM 2 p.idx.toNat (by have:=h.i1;have:=h.c1;omega),DM 2 p.cnt.toNat (by have:=h.c1;omega)];obtain⟨k,g,n,i,c,l⟩:=p;have:=h.k0;have:=h.g0;have:=h.n0;have:=h.i0;have:=h.c0;simp only[PartD.mk.injEq];simp only at*;refine⟨by omega,by omega,by omega,by omega,by omega,trivial⟩
 have hE:Al (By p)=0:=by unfold Al;rw[In (by rw[Bt];omega),In (by rw[Bt];omega),In (by unfold By;rw[Oe,Of];simp),Ip];refine⟨by rw[hsz];exact h.len,by rw[hsz,e8];exact I4 _,by rw[hraw];exact h.chk⟩
 exact⟨hE,by unfold Ak;rw[Ip hE,hraw]⟩
theorem Cj {b:List UInt8} (h:Al b=0):b.length=256∧A3 (b.drop 16)=b.take 16∧szL b≤224∧PartOk (Bn b)∧Ak b=Bn b:=by
 have hp:Ak b=Bn b:=by unfold Ak;rw[Ip h]
 unfold Al at h;by_cases h1:b.length<256
 ·rw[Ip h1]at h;cases h
 ·rw[In h1]at h;by_cases h2:256<b.length
  ·rw[Ip h2]at h;cases h
  ·rw[In h2]at h;by_cases h3:A3 (b.drop 16)≠b.take 16
   ·rw[Ip h3]at h;cases h
   ·rw[In h3]at h;by_cases h4:szL b≤224∧BA (b.drop (32+szL b))=true∧B8 (Bn b)=0
    ·exact⟨by omega,by simpa using h3,h4.1,NC h4.2.2,hp⟩
    ·rw[In h4]at h;cases h
theorem LV {b:List UInt8} (hl:b.length=256) (h:A3 (b.drop 16)≠b.take 16):Al b=22:=by unfold Al;rw[In (by omega),In (by omega),Ip h]
theorem Ry {b:List UInt8} (h:Al b≠0):Ak b=.zero:=by unfold Ak;rw[In h]
structure RecD where
 kind:Int
 gen:Int
 num:Int
 load:List UInt8
def RecD.zero:RecD:=⟨0,0,0,[]⟩
def Af (n:Nat):Nat:=max 1 ((n+223)/224)
def Bi (r:RecD) (i:Nat):PartD:=⟨r.kind,r.gen,r.num,i,Af r.load.length,seg r.load (224*i) 224⟩
def As (r:RecD):Int:=if Aw r.kind r.gen r.num=false then 2 else if 131072<r.load.length then 5 else 0
def Ac (r:RecD):List (List UInt8):=if As r=0 then(List.range (Af r.load.length)).map fun i=>By (Bi r i)else[]
theorem Cs {r:RecD} (h:As r=0):Aw r.kind r.gen r.num=true∧r.load.length≤131072:=by
 unfold As at h;by_cases h1:Aw r.kind r.gen r.num=false
 ·rw[Ip h1]at h;cases h
 ·rw[In h1]at h;by_cases h2:131072<r.load.length
  ·rw[Ip h2]at h;cases h
  ·exact⟨by simpa using h1,by omega⟩
theorem CQ (h:n≤131072):1≤Af n∧Af n≤586:=by unfold Af;omega
theorem Ei {r:RecD} (h:As r=0) {i:Nat} (hi:i<Af r.load.length):PartOk (Bi r i):=by
 obtain⟨h1,h2⟩:=Cs h;simp only[Aw,Bool.and_eq_true,decide_eq_true_eq]at h1;obtain⟨⟨⟨⟨⟨a1,a2⟩,a3⟩,a4⟩,a5⟩,a6⟩:=h1;have hn:=CQ h2;have hlen:(seg r.load (224*i) 224).length=min 224 (r.load.length-224*i):=by simp[seg]
 have hN:Af r.load.length=max 1 ((r.load.length+223)/224):=rfl;refine⟨a1,a2,a3,a4,a5,a6,?_,?_,?_,?_,?_,?_,?_⟩
 all_goals simp only[Bi,hlen]
 ·omega
 ·omega
 ·omega
 ·omega
 ·omega
 ·intro e;refine⟨fun h=>?_,?_⟩<;>omega
 ·intro e;omega
def CT (f p:PartD) (i:Nat):Bool:=p.kind==f.kind&&p.gen==f.gen&&p.num==f.num&&p.idx==(i:Int)&&p.cnt==f.cnt
def AU (l:List (List UInt8)) (f:PartD):Nat→Nat→List UInt8→RecD×Nat×Int
 |_,0,acc=>(⟨f.kind,f.gen,f.num,acc⟩,f.cnt.toNat,0)
 |i,k+1,acc=>
  match l[i]? with
  |none=>(.zero,0,23)
  |some b=>if Al b≠0 then(.zero,0,Al b)else if CT f (Ak b) i then AU l f (i+1) k (acc++(Ak b).bytes)else(.zero,0,30)
def Av:List (List UInt8)→RecD×Nat×Int
 | []=>(.zero,0,4)
 |b::l=>if Al b≠0 then(.zero,0,Al b)else if(Ak b).idx≠0 then(.zero,0,30)else AU (b::l) (Ak b) 1 ((Ak b).cnt.toNat-1) (Ak b).bytes
theorem AL {r:RecD} (h:As r=0):(Ac r).length=Af r.load.length:=by simp[Ac,h]
theorem GP {r:RecD} (h:As r=0) {i:Nat} (hi:i<Af r.load.length) (m:List (List UInt8)):(Ac r++m)[i]?=some (By (Bi r i)):=by rw[List.getElem?_append_left (by rw[AL h];exact hi),Ac,Ip h,List.getElem?_map,List.getElem?_range hi];rfl
theorem Qq (l:List UInt8) (i:Nat):l.take (224*i)++seg l (224*i) 224=l.take (224*(i+1)):=by unfold seg;rw[show 224*(i+1)=224*i+224 by omega,List.take_add]
theorem Hw {r:RecD} (h:As r=0) (m:List (List UInt8)):∀k i,i+k=Af r.load.length→1≤i→
 AU (Ac r++m) (Bi r 0) i k (r.load.take (224*i))=(r,Af r.load.length,0)
 |0,i,hk,h1=>by
  have hn:=CQ (Cs h).2;have:r.load.take (224*i)=r.load:=List.take_of_length_le (by unfold Af at hk;omega);rw[AU,this];rfl
 |k+1,i,hk,h1=>by
  have hd:=Iy (Ei h (i:=i) (by omega));rw[AU,GP h (by omega)];simp only;rw[In (by rw[hd.1];simp),hd.2,Ip (by simp[CT,Bi])];show AU _ _ (i+1) k (r.load.take (224*i)++seg r.load (224*i) 224)=_;rw[Qq];exact Hw h m k (i+1) (by omega) (by omega)
theorem Og {r:RecD} (h:As r=0) (m:List (List UInt8)):Av (Ac r++m)=(r,Af r.load.length,0):=by
 have hn:=CQ (Cs h).2;have hd:=Iy (Ei h (i:=0) (by omega));have h0:=GP h (i:=0) (by omega) m;obtain⟨b,l,hl⟩:∃b l,Ac r++m=b::l:=by
  cases hs:Ac r++m with
  |nil=>rw[hs]at h0;cases h0
  |cons b l=>exact⟨b,l,rfl⟩
 have hb:b=By (Bi r 0):=by rw[hl]at h0;simpa using h0
 have hj:=Hw h m (Af r.load.length-1) 1 (by omega) Lr;rw[hl]at hj⊢;rw[Av,hb,In (by rw[hd.1];simp),hd.2,In (by simp[Bi])];rw[hb]at hj;have e:(Bi r 0).cnt.toNat=Af r.load.length:=rfl;rw[e,←hj]
 congr 1
def scanGo (g n:Int) (l:List (List UInt8)):Nat→Nat→List RecD→List RecD×Nat×Int
 |0,at_,out=>(out,at_,0)
 |k+1,at_,out=>
  if l.length≤at_ then(out,at_,0)
  else if(Av (l.drop at_)).2.2≠0 then(out,at_,(Av (l.drop at_)).2.2)
  else if(Av (l.drop at_)).1.gen=g∧(Av (l.drop at_)).1.num=n+out.length then scanGo g n l k (at_+(Av (l.drop at_)).2.1) (out++[(Av (l.drop at_)).1])
  else(out,at_,30)
def AP (g n:Int) (l:List (List UInt8)):List RecD×Nat×Int:=if Aw 0 g n=false then([],0,2)else scanGo g n l l.length 0 []
theorem Eq (l:List (List UInt8)) (f:PartD):∀k i acc,(AU l f i k acc).2.2=0→(AU l f i k acc).2.1=f.cnt.toNat
 |0,_,_,_=>rfl
 |k+1,i,acc,h=>by
  rw[AU]at h⊢;cases hb:l[i]? with
  |none=>rw[hb]at h;cases h
  |some b=>
   rw[hb]at h;simp only at h⊢;by_cases h1:Al b≠0
   ·rw[Ip h1]at h;exact absurd h h1
   ·rw[In h1]at h⊢;by_cases h2:CT f (Ak b) i=true
    ·rw[Ip h2]at h⊢;exact Eq l f k (i+1) _ h
    ·rw[In h2]at h;cases h
theorem LW {l:List (List UInt8)} (h:(Av l).2.2=0):1≤(Av l).2.1:=by
 cases l with
 |nil=>cases h
 |cons b l=>
  rw[Av]at h⊢;by_cases h1:Al b≠0
  ·rw[Ip h1]at h;exact absurd h h1
  ·rw[In h1]at h⊢;by_cases h2:(Ak b).idx≠0
   ·rw[Ip h2]at h;cases h
   ·rw[In h2]at h⊢;rw[Eq _ _ _ _ _ h];have hk:=Cj (by simpa using h1:Al b=0);rw[hk.2.2.2.2];have:=hk.2.2.2.1.c0;omega
def Ah (S:DS) (a k:Nat):List (List UInt8):=(List.range k).map fun i=>S.visible (a+i)
theorem Bu (S:DS) (a k:Nat):(Ah S a k).length=k:=by simp[Ah]
def upG (which n:Nat):Nat:=if n%2≠which then n+1 else n
def Ce (which g:Nat) (b:List UInt8):Nat:=if Al b=0∧(g:Int)≤(Ak b).gen then upG which ((Ak b).gen.toNat+1)else g
def AA (which:Nat) (L:List (List UInt8)):Nat:=L.foldl (Ce which) which
def wrL:DS→Nat→List (List UInt8)→DS×Int
 |S,_,[]=>(S,0)
 |S,a,b::L=>if(S.write a b).2=0 then wrL (S.write a b).1 (a+1) L else S.write a b
def BJ (first n:Nat):List UInt8:=beL 8 first ++beL 8 n
def C3:Nat:=2147483647
def C9 (b:List UInt8):Option (Nat×Nat):=if b.length=16∧Ae (b.take 8)≤C3∧Ae (b.drop 8)≤C3 then some (Ae (b.take 8),Ae (b.drop 8))else none
def BK (rs:List RecD):List (List UInt8):=(rs.takeWhile fun r=>decide (r.kind=2)).map (·.load)
structure ArD where
 gen:Nat
 first :Nat
 ents:List (List UInt8)
def CN (g:Nat):List RecD→Option ArD
 | []=>none
 |h::t=>if h.kind≠1 then none else
  match C9 h.load with
  |none=>none
  |some (f,c)=>if c≤(BK t).length then some ⟨g,f,BK t⟩else none
def AQ (l:List (List UInt8)) (which:Nat):Option ArD:=
 if Al (l.headD [])≠0∨(Ak (l.headD [])).gen.toNat%2≠which then none else CN (Ak (l.headD [])).gen.toNat (AP (Ak (l.headD [])).gen 0 l).1
def AI (gen:Nat) (i:Nat) (b:List UInt8):RecD:=⟨2,gen,(i:Int),b⟩
def AG (gen first :Nat) (E:List (List UInt8)):List RecD:=⟨1,gen,0,BJ first E.length⟩::E.mapIdx fun i b=>AI gen (i+1) b
def putR:DS→Nat→Nat→List RecD→DS×Nat×Int
 |S,_,u,[]=>(S,u,0)
 |S,a,u,r::rs=>if(wrL S (a+u) (Ac r)).2=0 then putR (wrL S (a+u) (Ac r)).1 a (u+Af r.load.length) rs else((wrL S (a+u) (Ac r)).1,0,(wrL S (a+u) (Ac r)).2)
def wrA (S:DS) (a gen first :Nat) (E:List (List UInt8)):DS×Nat×Int:=
 if(putR S a 0 (AG gen first E)).2.2=0 then
  (if(putR S a 0 (AG gen first E)).1.flush.2=0 then((putR S a 0 (AG gen first E)).1.flush.1,(putR S a 0 (AG gen first E)).2.1,0)else((putR S a 0 (AG gen first E)).1.flush.1,0,(putR S a 0 (AG gen first E)).1.flush.2))
 else putR S a 0 (AG gen first E)
structure JD where
 gen:Nat
 used:Nat
 first :Nat
 ents:List (List UInt8)
 synced:Nat
 failed:Int
def JD.next (J:JD):Nat:=J.first+J.ents.length
structure JR where
 at_:Nat
 cnt:Nat
def JR.half (R:JR):Nat:=R.cnt/2
def JR.area (R:JR) (which:Nat):Nat:=R.at_+which*R.half
def moveJ (S:DS) (R:JR) (which first :Nat) (E:List (List UInt8)):DS×Int×JD:=
 let g:=AA which (Ah S R.at_ R.cnt)
 if 2147483647<g then(S,9,⟨0,0,0,[],0,0⟩)else
  if(wrA S (R.area which) g first E).2.2=0 then((wrA S (R.area which) g first E).1,0,⟨g,(wrA S (R.area which) g first E).2.1,first,E,first +E.length,0⟩)
  else((wrA S (R.area which) g first E).1,(wrA S (R.area which) g first E).2.2,⟨0,0,0,[],0,0⟩)
def FF (S:DS) (a c:Int):Int:=if a<0∨c<8∨(S.dur.length:Int)-c<a then 2 else if S.down then 28 else 0
def BW (S:DS) (R:JR):Option ArD:=
 match AQ (Ah S (R.area 0) R.half) 0,AQ (Ah S (R.area 1) R.half) 1 with
 |none,none=>none
 |some x,none=>some x
 |none,some y=>some y
 |some x,some y=>if x.gen<y.gen then some y else some x
def appJ (S:DS) (R:JR) (J:JD) (b:List UInt8):DS×JD×Int×Nat:=
 if J.failed≠0 then(S,J,J.failed,0)else
 if 100000<b.length then(S,J,5,0)else
 if R.half-J.used<Af b.length then(S,J,9,0)else
 if(wrL S (R.area (J.gen%2)+J.used) (Ac (AI J.gen (J.ents.length+1) b))).2=0 then
  ((wrL S (R.area (J.gen%2)+J.used) (Ac (AI J.gen (J.ents.length+1) b))).1,{J with ents:=J.ents++[b],used:=J.used+Af b.length},0,J.next)
 else((wrL S (R.area (J.gen%2)+J.used) (Ac (AI J.gen (J.ents.length+1) b))).1,{J with failed:=(wrL S (R.area (J.gen%2)+J.used) (Ac (AI J.gen (J.ents.length+1) b))).2},(wrL S (R.area (J.gen%2)+J.used) (Ac (AI J.gen (J.ents.length+1) b))).2,0)
def synJ (S:DS) (J:JD):DS×JD×Int:=
 if J.failed≠0 then(S,J,J.failed)else
 if S.flush.2=0 then(S.flush.1,{J with synced:=J.next},0)else(S.flush.1,{J with failed:=S.flush.2},S.flush.2)
def trnJ (S:DS) (R:JR) (J:JD) (before:Int):DS×JD×Int:=
 if J.failed≠0 then(S,J,J.failed)else
 if before<J.first∨(J.next:Int)<before then(S,J,2)else
 if before=J.first then(S,J,0)else
 if(moveJ S R (1-J.gen%2) before.toNat (J.ents.drop (before.toNat-J.first))).2.1=0 then((moveJ S R (1-J.gen%2) before.toNat (J.ents.drop (before.toNat-J.first))).1,(moveJ S R (1-J.gen%2) before.toNat (J.ents.drop (before.toNat-J.first))).2.2,0)
 else((moveJ S R (1-J.gen%2) before.toNat (J.ents.drop (before.toNat-J.first))).1,{J with failed:=if(moveJ S R (1-J.gen%2) before.toNat (J.ents.drop (before.toNat-J.first))).2.1=28 then 28 else 0},(moveJ S R (1-J.gen%2) before.toNat (J.ents.drop (before.toNat-J.first))).2.1)
theorem BX (k g n:Int) (w:World):
 Ca 101 #[.int .i64 k,.int .i64 g,.int .i64 n] w fun e w'=>e=.returned (.bool (Aw k g n))∧w=w':=by
 by_cases h1:0≤k
 ·by_cases h2:k≤65535
  ·by_cases h3:0≤g
   ·by_cases h4:g≤2147483647
    ·by_cases h5:0≤n
     ·by_cases h6:n≤2147483647
      ·have hb:Aw k g n=true:=by simp[Aw,h1,h2,h3,h4,h5,h6]
       rw[hb];clear hb;go_enter Tryz.func101,Tryz.ntmps101;go_wp2;exact Bv (.bool true) ⟨rfl,rfl⟩
      ·have hb:Aw k g n=false:=by simp[Aw,h1,h2,h3,h4,h5,h6]
       rw[hb];clear hb;go_enter Tryz.func101,Tryz.ntmps101;go_wp2;exact Bv (.bool false) ⟨rfl,rfl⟩
     ·have hb:Aw k g n=false:=by simp[Aw,h1,h2,h3,h4,h5]
      rw[hb];clear hb;go_enter Tryz.func101,Tryz.ntmps101;go_wp2;exact Bv (.bool false) ⟨rfl,rfl⟩
    ·have hb:Aw k g n=false:=by simp[Aw,h1,h2,h3,h4]
     rw[hb];clear hb;go_enter Tryz.func101,Tryz.ntmps101;go_wp2;exact Bv (.bool false) ⟨rfl,rfl⟩
   ·have hb:Aw k g n=false:=by simp[Aw,h1,h2,h3]
    rw[hb];clear hb;go_enter Tryz.func101,Tryz.ntmps101;go_wp2;exact Bv (.bool false) ⟨rfl,rfl⟩
  ·have hb:Aw k g n=false:=by simp[Aw,h1,h2]
   rw[hb];clear hb;go_enter Tryz.func101,Tryz.ntmps101;go_wp2;exact Bv (.bool false) ⟨rfl,rfl⟩
 ·have hb:Aw k g n=false:=by simp[Aw,h1]
  rw[hb];clear hb;go_enter Tryz.func101,Tryz.ntmps101;go_wp2;exact Bv (.bool false) ⟨rfl,rfl⟩
theorem BN (k g n:Int) (w:World):
 Ca 96 #[.agg #[.int .i64 k,.int .i64 g,.int .i64 n]] w fun e w'=>e=.returned (.bool (Aw k g n))∧Below w.heap.size w w':=by
 by_cases h1:0≤k
 ·by_cases h2:k≤65535
  ·by_cases h3:0≤g
   ·by_cases h4:g≤2147483647
    ·by_cases h5:0≤n
     ·by_cases h6:n≤2147483647
      ·have hb:Aw k g n=true:=by simp[Aw,h1,h2,h3,h4,h5,h6]
       rw[hb];clear hb;go_enter Tryz.func96,Tryz.ntmps96;go_wp2;exact Bv (.bool true) ⟨rfl,(Below.refl _ w).alloc Lr _⟩
      ·have hb:Aw k g n=false:=by simp[Aw,h1,h2,h3,h4,h5,h6]
       rw[hb];clear hb;go_enter Tryz.func96,Tryz.ntmps96;go_wp2;exact Bv (.bool false) ⟨rfl,(Below.refl _ w).alloc Lr _⟩
     ·have hb:Aw k g n=false:=by simp[Aw,h1,h2,h3,h4,h5]
      rw[hb];clear hb;go_enter Tryz.func96,Tryz.ntmps96;go_wp2;exact Bv (.bool false) ⟨rfl,(Below.refl _ w).alloc Lr _⟩
    ·have hb:Aw k g n=false:=by simp[Aw,h1,h2,h3,h4]
     rw[hb];clear hb;go_enter Tryz.func96,Tryz.ntmps96;go_wp2;exact Bv (.bool false) ⟨rfl,(Below.refl _ w).alloc Lr _⟩
   ·have hb:Aw k g n=false:=by simp[Aw,h1,h2,h3]
    rw[hb];clear hb;go_enter Tryz.func96,Tryz.ntmps96;go_wp2;exact Bv (.bool false) ⟨rfl,(Below.refl _ w).alloc Lr _⟩
  ·have hb:Aw k g n=false:=by simp[Aw,h1,h2]
   rw[hb];clear hb;go_enter Tryz.func96,Tryz.ntmps96;go_wp2;exact Bv (.bool false) ⟨rfl,(Below.refl _ w).alloc Lr _⟩
 ·have hb:Aw k g n=false:=by simp[Aw,h1]
  rw[hb];clear hb;go_enter Tryz.func96,Tryz.ntmps96;go_wp2;exact Bv (.bool false) ⟨rfl,(Below.refl _ w).alloc Lr _⟩
theorem B4 (k g n i c:Int) (a:Option Addr) (len cap:Nat) (w:World):
 Ca 106 #[.agg #[.int .i64 k,.int .i64 g,.int .i64 n,.int .i64 i,.int .i64 c,.slice a len cap]] w fun e w'=>e=.returned (.agg #[.int .i64 k,.int .i64 g,.int .i64 n,.int .i64 i,.int .i64 c])∧Below w.heap.size w w':=by
 go_enter Tryz.func106,Tryz.ntmps106;go_wp2;refine Br (v:=.agg #[.int .i64 k,.int .i64 g,.int .i64 n,.int .i64 i,.int .i64 c]) (by simp[results,Tryz.results106,go_sem]) rfl ⟨rfl,?_⟩;exact((Below.refl _ w).alloc Lr _).alloc (by simp) _
variable {W:World}
theorem Cc {w1:World} (hb:Below W.heap.size W w1):(∀b o,b<W.heap.size→w1.cell? ⟨b,o,none⟩=W.cell? ⟨b,o,none⟩)∧(∀b o,b<W.heap.size→w1.frozen? ⟨b,o,none⟩=W.frozen? ⟨b,o,none⟩):=
 ⟨fun b o h=>hb.cell (p:=⟨b,o,none⟩) h,fun b o h=>hb.frozen (p:=⟨b,o,none⟩) h⟩
theorem Cz {w1 w2:World}{A B:Obj} (h1:Below (w.alloc A).heap.size (w.alloc A) w1) (h2:Below (w1.alloc B).heap.size (w1.alloc B) w2) {j:Nat} {v:Value} (h:(w.alloc A).cell? ⟨w.heap.size,j,none⟩=some v):
 w2.cell? ⟨w.heap.size,j,none⟩=some v:=by
 have c1:=(Cb (F:=fun _=>False) h1).cell (fun h=>h) h;have c2:=(Chg.alloc (F:=fun _=>False) w1 B).cell (fun h=>h) c1;exact(Cb (F:=fun _=>False) h2).cell (fun h=>h) c2
theorem Ci {w1 w2:World}{a b:Obj} (h1:Below (w.alloc a).heap.size (w.alloc a) w1) (h2:Below (w1.alloc b).heap.size (w1.alloc b) w2):Below w.heap.size w w2:=by have s1:=h1.size;rw[Sz]at s1 h1;rw[Sz]at h2;exact((Rq.alloc Lr _).trans ((h1.mono (by omega)))).trans ((Rq.alloc (by omega) _).trans (h2.mono (by omega)))
theorem Oh (k g n i c:Int) (a:Option Addr) (len cap:Nat) (w:World):
 Ca 100 #[.agg #[.int .i64 k,.int .i64 g,.int .i64 n,.int .i64 i,.int .i64 c,.slice a len cap]] w fun e w'=>e=.returned (.int .i64 (A8 k g n i c len))∧Below w.heap.size w w':=by
 by_cases h1:Aw k g n=true
 ·skip
  by_cases h2:1≤c
  ·skip
   by_cases h3:c≤586
   ·skip
    by_cases h4:0≤i
    ·skip
     by_cases h5:i<c
     ·skip
      by_cases h6:224<len
      ·skip
       have hb:A8 k g n i c len=5:=by
        unfold A8 Bl;have q1:(Aw k g n&&decide (1≤c)&&decide (c≤586)&&decide (0≤i)&&decide (i<c))=true:=by simp[h1,h2,h3,h4,h5]
        rw[q1,In (by simp),Ip h6]
       rw[hb];clear hb;go_enter Tryz.func100,Tryz.ntmps100;go_wp2_with (go_at_call 101;refine(BX _ _ _ _).mono ?_;rintro e w1 ⟨rfl,rfl⟩)
       go_ret;exact⟨rfl,(Below.refl _ w).alloc Lr _⟩
      ·have h6':len≤224:=by omega
       by_cases h7:i=c-1
       ·have h7b:(i==c-1)=true:=by simpa using h7
        by_cases h8:1<c
        ·by_cases h9:len=0
         ·have h9b:((len:Int)==0)=true:=by simpa using h9
          have hb:A8 k g n i c len=4:=by
           unfold A8 Bl;have q1:(Aw k g n&&decide (1≤c)&&decide (c≤586)&&decide (0≤i)&&decide (i<c))=true:=by simp[h1,h2,h3,h4,h5]
           rw[q1,In (by simp),In (by omega),Ip h7,Ip ⟨h8,h9⟩]
          rw[hb];clear hb;have H7:=Hd h7;clear h7 h9;go_enter Tryz.func100,Tryz.ntmps100;go_wp2_with (go_at_call 101;refine(BX _ _ _ _).mono ?_;rintro e w1 ⟨rfl,rfl⟩)
          go_ret;exact⟨rfl,(Below.refl _ w).alloc Lr _⟩
         ·have h9b:((len:Int)==0)=false:=by simpa using h9
          by_cases h10:131072<i*224+len
          ·have h10':131072<224*i+len:=by omega
           have hb:A8 k g n i c len=5:=by
            unfold A8 Bl;have q1:(Aw k g n&&decide (1≤c)&&decide (c≤586)&&decide (0≤i)&&decide (i<c))=true:=by simp[h1,h2,h3,h4,h5]
            rw[q1,In (by simp),In (by omega),Ip h7,In (by omega),Ip h10]
           rw[hb];clear hb;have H7:=Hd h7;clear h7 h9;go_enter Tryz.func100,Tryz.ntmps100;go_wp2_with (go_at_call 101;refine(BX _ _ _ _).mono ?_;rintro e w1 ⟨rfl,rfl⟩)
           go_ret;exact⟨rfl,(Below.refl _ w).alloc Lr _⟩
          ·have h10':i*224+len≤131072:=by omega
           have h10'':224*i+len≤131072:=by omega
           have hb:A8 k g n i c len=0:=by
            unfold A8 Bl;have q1:(Aw k g n&&decide (1≤c)&&decide (c≤586)&&decide (0≤i)&&decide (i<c))=true:=by simp[h1,h2,h3,h4,h5]
            rw[q1,In (by simp),In (by omega),Ip h7,In (by omega),In h10]
           rw[hb];clear hb;have H7:=Hd h7;clear h7 h9;go_enter Tryz.func100,Tryz.ntmps100;go_wp2_with (go_at_call 101;refine(BX _ _ _ _).mono ?_;rintro e w1 ⟨rfl,rfl⟩)
           go_ret;exact⟨rfl,(Below.refl _ w).alloc Lr _⟩
        ·have h8':c≤1:=by omega
         by_cases h10:131072<i*224+len
         ·exfalso;omega
         ·have h10':i*224+len≤131072:=by omega
          have h10'':224*i+len≤131072:=by omega
          have hb:A8 k g n i c len=0:=by
           unfold A8 Bl;have q1:(Aw k g n&&decide (1≤c)&&decide (c≤586)&&decide (0≤i)&&decide (i<c))=true:=by simp[h1,h2,h3,h4,h5]
           rw[q1,In (by simp),In (by omega),Ip h7,In (by omega),In h10]
          rw[hb];clear hb;have H7:=Hd h7;clear h7;go_enter Tryz.func100,Tryz.ntmps100;go_wp2_with (go_at_call 101;refine(BX _ _ _ _).mono ?_;rintro e w1 ⟨rfl,rfl⟩)
          go_ret;exact⟨rfl,(Below.refl _ w).alloc Lr _⟩
       ·have h7b:(i==c-1)=false:=by simpa using h7
        by_cases h8:len<224
        ·skip
         have hb:A8 k g n i c len=4:=by
          unfold A8 Bl;have q1:(Aw k g n&&decide (1≤c)&&decide (c≤586)&&decide (0≤i)&&decide (i<c))=true:=by simp[h1,h2,h3,h4,h5]
          rw[q1,In (by simp),In (by omega),In h7,Ip h8]
         rw[hb];clear hb;have H7:=Hd h7;clear h7;go_enter Tryz.func100,Tryz.ntmps100;go_wp2_with (go_at_call 101;refine(BX _ _ _ _).mono ?_;rintro e w1 ⟨rfl,rfl⟩)
         go_ret;exact⟨rfl,(Below.refl _ w).alloc Lr _⟩
        ·have h8':224≤len:=by omega
         have hb:A8 k g n i c len=0:=by
          unfold A8 Bl;have q1:(Aw k g n&&decide (1≤c)&&decide (c≤586)&&decide (0≤i)&&decide (i<c))=true:=by simp[h1,h2,h3,h4,h5]
          rw[q1,In (by simp),In (by omega),In h7,In h8]
         rw[hb];clear hb;have H7:=Hd h7;clear h7;go_enter Tryz.func100,Tryz.ntmps100;go_wp2_with (go_at_call 101;refine(BX _ _ _ _).mono ?_;rintro e w1 ⟨rfl,rfl⟩)
         go_ret;exact⟨rfl,(Below.refl _ w).alloc Lr _⟩
     ·skip
      have h5':c≤i:=by omega
      have hb:A8 k g n i c len=2:=by unfold A8 Bl;simp[h1,h2,h3,h4,h5]
      rw[hb];clear hb;go_enter Tryz.func100,Tryz.ntmps100;go_wp2_with (go_at_call 101;refine(BX _ _ _ _).mono ?_;rintro e w1 ⟨rfl,rfl⟩)
      go_ret;exact⟨rfl,(Below.refl _ w).alloc Lr _⟩
    ·skip
     have h4':i<0:=by omega
     have hb:A8 k g n i c len=2:=by unfold A8 Bl;simp[h1,h2,h3,h4]
     rw[hb];clear hb;go_enter Tryz.func100,Tryz.ntmps100;go_wp2_with (go_at_call 101;refine(BX _ _ _ _).mono ?_;rintro e w1 ⟨rfl,rfl⟩)
     go_ret;exact⟨rfl,(Below.refl _ w).alloc Lr _⟩
   ·skip
    have h3':586<c:=by omega
    have hb:A8 k g n i c len=2:=by unfold A8 Bl;simp[h1,h2,h3]
    rw[hb];clear hb;go_enter Tryz.func100,Tryz.ntmps100;go_wp2_with (go_at_call 101;refine(BX _ _ _ _).mono ?_;rintro e w1 ⟨rfl,rfl⟩)
    go_ret;exact⟨rfl,(Below.refl _ w).alloc Lr _⟩
  ·skip
   have h2':c<1:=by omega
   have hb:A8 k g n i c len=2:=by unfold A8 Bl;simp[h1,h2]
   rw[hb];clear hb;go_enter Tryz.func100,Tryz.ntmps100;go_wp2_with (go_at_call 101;refine(BX _ _ _ _).mono ?_;rintro e w1 ⟨rfl,rfl⟩)
   go_ret;exact⟨rfl,(Below.refl _ w).alloc Lr _⟩
 ·skip
  have h1':Aw k g n=false:=by simpa using h1
  have hb:A8 k g n i c len=2:=by unfold A8 Bl;simp[h1']
  rw[hb];clear hb;go_enter Tryz.func100,Tryz.ntmps100;go_wp2_with (go_at_call 101;refine(BX _ _ _ _).mono ?_;rintro e w1 ⟨rfl,rfl⟩)
  go_ret;exact⟨rfl,(Below.refl _ w).alloc Lr _⟩
theorem Po (k g n i c:Int) (a:Option Addr) (len cap:Nat) (w:World):
 Ca 93 #[.agg #[.int .i64 k,.int .i64 g,.int .i64 n,.int .i64 i,.int .i64 c,.slice a len cap]] w fun e w'=>e=.returned (.int .i64 (A8 k g n i c len))∧Below w.heap.size w w':=by
 by_cases h1:Aw k g n=true
 ·skip
  by_cases h2:1≤c
  ·skip
   by_cases h3:c≤586
   ·skip
    by_cases h4:0≤i
    ·skip
     by_cases h5:i<c
     ·skip
      by_cases h6:224<len
      ·skip
       have hb:A8 k g n i c len=5:=by
        unfold A8 Bl;have q1:(Aw k g n&&decide (1≤c)&&decide (c≤586)&&decide (0≤i)&&decide (i<c))=true:=by simp[h1,h2,h3,h4,h5]
        rw[q1,In (by simp),Ip h6]
       rw[hb];clear hb;go_enter Tryz.func93,Tryz.ntmps93;go_wp2_with (first| (go_at_call 106;refine(B4 _ _ _ _ _ _ _ _ _).mono ?_;rintro e w1 ⟨rfl,hb1⟩;obtain⟨hc1,hf1⟩:=Cc hb1;have hz1:=hb1.size;rw[Sz]at hz1)| (go_at_call 96;refine(BN _ _ _ _).mono ?_;rintro e w2 ⟨rfl,hb2⟩;obtain⟨hc2,hf2⟩:=Cc hb2;have hx2:=Cz hb1 hb2 (j:=5) (v:=.slice a len cap) (by rw[cr (Hn)];rfl)))
       go_ret;exact⟨rfl,Ci hb1 hb2⟩
      ·have h6':len≤224:=by omega
       by_cases h7:i=c-1
       ·have h7b:(i==c-1)=true:=by simpa using h7
        by_cases h8:1<c
        ·by_cases h9:len=0
         ·have h9b:((len:Int)==0)=true:=by simpa using h9
          have hb:A8 k g n i c len=4:=by
           unfold A8 Bl;have q1:(Aw k g n&&decide (1≤c)&&decide (c≤586)&&decide (0≤i)&&decide (i<c))=true:=by simp[h1,h2,h3,h4,h5]
           rw[q1,In (by simp),In (by omega),Ip h7,Ip ⟨h8,h9⟩]
          rw[hb];clear hb;have H7:=Hd h7;clear h7 h9;go_enter Tryz.func93,Tryz.ntmps93;go_wp2_with (first| (go_at_call 106;refine(B4 _ _ _ _ _ _ _ _ _).mono ?_;rintro e w1 ⟨rfl,hb1⟩;obtain⟨hc1,hf1⟩:=Cc hb1;have hz1:=hb1.size;rw[Sz]at hz1)| (go_at_call 96;refine(BN _ _ _ _).mono ?_;rintro e w2 ⟨rfl,hb2⟩;obtain⟨hc2,hf2⟩:=Cc hb2;have hx2:=Cz hb1 hb2 (j:=5) (v:=.slice a len cap) (by rw[cr (Hn)];rfl)))
          go_ret;exact⟨rfl,Ci hb1 hb2⟩
         ·have h9b:((len:Int)==0)=false:=by simpa using h9
          by_cases h10:131072<i*224+len
          ·have h10':131072<224*i+len:=by omega
           have hb:A8 k g n i c len=5:=by
            unfold A8 Bl;have q1:(Aw k g n&&decide (1≤c)&&decide (c≤586)&&decide (0≤i)&&decide (i<c))=true:=by simp[h1,h2,h3,h4,h5]
            rw[q1,In (by simp),In (by omega),Ip h7,In (by omega),Ip h10]
           rw[hb];clear hb;have H7:=Hd h7;clear h7 h9;go_enter Tryz.func93,Tryz.ntmps93;go_wp2_with (first| (go_at_call 106;refine(B4 _ _ _ _ _ _ _ _ _).mono ?_;rintro e w1 ⟨rfl,hb1⟩;obtain⟨hc1,hf1⟩:=Cc hb1;have hz1:=hb1.size;rw[Sz]at hz1)| (go_at_call 96;refine(BN _ _ _ _).mono ?_;rintro e w2 ⟨rfl,hb2⟩;obtain⟨hc2,hf2⟩:=Cc hb2;have hx2:=Cz hb1 hb2 (j:=5) (v:=.slice a len cap) (by rw[cr (Hn)];rfl)))
           go_ret;exact⟨rfl,Ci hb1 hb2⟩
          ·have h10':i*224+len≤131072:=by omega
           have h10'':224*i+len≤131072:=by omega
           have hb:A8 k g n i c len=0:=by
            unfold A8 Bl;have q1:(Aw k g n&&decide (1≤c)&&decide (c≤586)&&decide (0≤i)&&decide (i<c))=true:=by simp[h1,h2,h3,h4,h5]
            rw[q1,In (by simp),In (by omega),Ip h7,In (by omega),In h10]
           rw[hb];clear hb;have H7:=Hd h7;clear h7 h9;go_enter Tryz.func93,Tryz.ntmps93;go_wp2_with (first| (go_at_call 106;refine(B4 _ _ _ _ _ _ _ _ _).mono ?_;rintro e w1 ⟨rfl,hb1⟩;obtain⟨hc1,hf1⟩:=Cc hb1;have hz1:=hb1.size;rw[Sz]at hz1)| (go_at_call 96;refine(BN _ _ _ _).mono ?_;rintro e w2 ⟨rfl,hb2⟩;obtain⟨hc2,hf2⟩:=Cc hb2;have hx2:=Cz hb1 hb2 (j:=5) (v:=.slice a len cap) (by rw[cr (Hn)];rfl)))
           go_ret;exact⟨rfl,Ci hb1 hb2⟩
        ·have h8':c≤1:=by omega
         by_cases h10:131072<i*224+len
         ·exfalso;omega
         ·have h10':i*224+len≤131072:=by omega
          have h10'':224*i+len≤131072:=by omega
          have hb:A8 k g n i c len=0:=by
           unfold A8 Bl;have q1:(Aw k g n&&decide (1≤c)&&decide (c≤586)&&decide (0≤i)&&decide (i<c))=true:=by simp[h1,h2,h3,h4,h5]
           rw[q1,In (by simp),In (by omega),Ip h7,In (by omega),In h10]
          rw[hb];clear hb;have H7:=Hd h7;clear h7;go_enter Tryz.func93,Tryz.ntmps93;go_wp2_with (first| (go_at_call 106;refine(B4 _ _ _ _ _ _ _ _ _).mono ?_;rintro e w1 ⟨rfl,hb1⟩;obtain⟨hc1,hf1⟩:=Cc hb1;have hz1:=hb1.size;rw[Sz]at hz1)| (go_at_call 96;refine(BN _ _ _ _).mono ?_;rintro e w2 ⟨rfl,hb2⟩;obtain⟨hc2,hf2⟩:=Cc hb2;have hx2:=Cz hb1 hb2 (j:=5) (v:=.slice a len cap) (by rw[cr (Hn)];rfl)))
          go_ret;exact⟨rfl,Ci hb1 hb2⟩
       ·have h7b:(i==c-1)=false:=by simpa using h7
        by_cases h8:len<224
        ·skip
         have hb:A8 k g n i c len=4:=by
          unfold A8 Bl;have q1:(Aw k g n&&decide (1≤c)&&decide (c≤586)&&decide (0≤i)&&decide (i<c))=true:=by simp[h1,h2,h3,h4,h5]
          rw[q1,In (by simp),In (by omega),In h7,Ip h8]
         rw[hb];clear hb;have H7:=Hd h7;clear h7;go_enter Tryz.func93,Tryz.ntmps93;go_wp2_with (first| (go_at_call 106;refine(B4 _ _ _ _ _ _ _ _ _).mono ?_;rintro e w1 ⟨rfl,hb1⟩;obtain⟨hc1,hf1⟩:=Cc hb1;have hz1:=hb1.size;rw[Sz]at hz1)| (go_at_call 96;refine(BN _ _ _ _).mono ?_;rintro e w2 ⟨rfl,hb2⟩;obtain⟨hc2,hf2⟩:=Cc hb2;have hx2:=Cz hb1 hb2 (j:=5) (v:=.slice a len cap) (by rw[cr (Hn)];rfl)))
         go_ret;exact⟨rfl,Ci hb1 hb2⟩
        ·have h8':224≤len:=by omega
         have hb:A8 k g n i c len=0:=by
          unfold A8 Bl;have q1:(Aw k g n&&decide (1≤c)&&decide (c≤586)&&decide (0≤i)&&decide (i<c))=true:=by simp[h1,h2,h3,h4,h5]
          rw[q1,In (by simp),In (by omega),In h7,In h8]
         rw[hb];clear hb;have H7:=Hd h7;clear h7;go_enter Tryz.func93,Tryz.ntmps93;go_wp2_with (first| (go_at_call 106;refine(B4 _ _ _ _ _ _ _ _ _).mono ?_;rintro e w1 ⟨rfl,hb1⟩;obtain⟨hc1,hf1⟩:=Cc hb1;have hz1:=hb1.size;rw[Sz]at hz1)| (go_at_call 96;refine(BN _ _ _ _).mono ?_;rintro e w2 ⟨rfl,hb2⟩;obtain⟨hc2,hf2⟩:=Cc hb2;have hx2:=Cz hb1 hb2 (j:=5) (v:=.slice a len cap) (by rw[cr (Hn)];rfl)))
         go_ret;exact⟨rfl,Ci hb1 hb2⟩
     ·skip
      have h5':c≤i:=by omega
      have hb:A8 k g n i c len=2:=by unfold A8 Bl;simp[h1,h2,h3,h4,h5]
      rw[hb];clear hb;go_enter Tryz.func93,Tryz.ntmps93;go_wp2_with (first| (go_at_call 106;refine(B4 _ _ _ _ _ _ _ _ _).mono ?_;rintro e w1 ⟨rfl,hb1⟩;obtain⟨hc1,hf1⟩:=Cc hb1;have hz1:=hb1.size;rw[Sz]at hz1)| (go_at_call 96;refine(BN _ _ _ _).mono ?_;rintro e w2 ⟨rfl,hb2⟩;obtain⟨hc2,hf2⟩:=Cc hb2;have hx2:=Cz hb1 hb2 (j:=5) (v:=.slice a len cap) (by rw[cr (Hn)];rfl)))
      go_ret;exact⟨rfl,Ci hb1 hb2⟩
    ·skip
     have h4':i<0:=by omega
     have hb:A8 k g n i c len=2:=by unfold A8 Bl;simp[h1,h2,h3,h4]
     rw[hb];clear hb;go_enter Tryz.func93,Tryz.ntmps93;go_wp2_with (first| (go_at_call 106;refine(B4 _ _ _ _ _ _ _ _ _).mono ?_;rintro e w1 ⟨rfl,hb1⟩;obtain⟨hc1,hf1⟩:=Cc hb1;have hz1:=hb1.size;rw[Sz]at hz1)| (go_at_call 96;refine(BN _ _ _ _).mono ?_;rintro e w2 ⟨rfl,hb2⟩;obtain⟨hc2,hf2⟩:=Cc hb2;have hx2:=Cz hb1 hb2 (j:=5) (v:=.slice a len cap) (by rw[cr (Hn)];rfl)))
     go_ret;exact⟨rfl,Ci hb1 hb2⟩
   ·skip
    have h3':586<c:=by omega
    have hb:A8 k g n i c len=2:=by unfold A8 Bl;simp[h1,h2,h3]
    rw[hb];clear hb;go_enter Tryz.func93,Tryz.ntmps93;go_wp2_with (first| (go_at_call 106;refine(B4 _ _ _ _ _ _ _ _ _).mono ?_;rintro e w1 ⟨rfl,hb1⟩;obtain⟨hc1,hf1⟩:=Cc hb1;have hz1:=hb1.size;rw[Sz]at hz1)| (go_at_call 96;refine(BN _ _ _ _).mono ?_;rintro e w2 ⟨rfl,hb2⟩;obtain⟨hc2,hf2⟩:=Cc hb2;have hx2:=Cz hb1 hb2 (j:=5) (v:=.slice a len cap) (by rw[cr (Hn)];rfl)))
    go_ret;exact⟨rfl,Ci hb1 hb2⟩
  ·skip
   have h2':c<1:=by omega
   have hb:A8 k g n i c len=2:=by unfold A8 Bl;simp[h1,h2]
   rw[hb];clear hb;go_enter Tryz.func93,Tryz.ntmps93;go_wp2_with (first| (go_at_call 106;refine(B4 _ _ _ _ _ _ _ _ _).mono ?_;rintro e w1 ⟨rfl,hb1⟩;obtain⟨hc1,hf1⟩:=Cc hb1;have hz1:=hb1.size;rw[Sz]at hz1)| (go_at_call 96;refine(BN _ _ _ _).mono ?_;rintro e w2 ⟨rfl,hb2⟩;obtain⟨hc2,hf2⟩:=Cc hb2;have hx2:=Cz hb1 hb2 (j:=5) (v:=.slice a len cap) (by rw[cr (Hn)];rfl)))
   go_ret;exact⟨rfl,Ci hb1 hb2⟩
 ·skip
  have h1':Aw k g n=false:=by simpa using h1
  have hb:A8 k g n i c len=2:=by unfold A8 Bl;simp[h1']
  rw[hb];clear hb;go_enter Tryz.func93,Tryz.ntmps93;go_wp2_with (first| (go_at_call 106;refine(B4 _ _ _ _ _ _ _ _ _).mono ?_;rintro e w1 ⟨rfl,hb1⟩;obtain⟨hc1,hf1⟩:=Cc hb1;have hz1:=hb1.size;rw[Sz]at hz1)| (go_at_call 96;refine(BN _ _ _ _).mono ?_;rintro e w2 ⟨rfl,hb2⟩;obtain⟨hc2,hf2⟩:=Cc hb2;have hx2:=Cz hb1 hb2 (j:=5) (v:=.slice a len cap) (by rw[cr (Hn)];rfl)))
  go_ret;exact⟨rfl,Ci hb1 hb2⟩
variable {v:Value}
theorem LX:∀s n,beL (s+1) n=(n/256^s).toUInt8::beL s n
 |0,n=>by simp[beL]
 |s+1,n=>by
  rw[beL,LX s (n/256),Nat.div_div_eq_div_mul,List.cons_append,←Nat.pow_succ'];rfl
theorem Pp (m:Nat):Value.int .u8 ((m:Int)%256)=bv m.toUInt8:=by unfold bv;simp
theorem DN (n size:Nat) (hn:n<4611686018427387904) (hs:size≤8) (w:World):
 Ca 113 #[.int .i64 n,.int .i64 size] w fun e w'=>∃v,e=.returned v∧w'.ownsRow w.heap.size 5 1 v size (bvs (beL size n))∧Below w.heap.size w w':=by
 go_enter Tryz.func113,Tryz.ntmps113;go_wp2_with fail;go_loopw [0,5,6] (fun nv pv iv wr=>∃j:Nat,j≤size∧iv=.int .i64 j∧nv=.int .i64 ((n/256^j:Nat):Int)∧wr.ownsRow w.heap.size 5 1 pv j (bvs (beL j n))∧Below w.heap.size w wr)
  (fun _ _ iv _=>size-(intOf iv).toNat)
 case atStart=>exact⟨0,Nat.zero_le _,rfl,by simp,Dx _ _ _,Rq⟩
 case round=>
  obtain⟨j,hj,rfl,rfl,hO,hB⟩:=hrel;obtain⟨pa,pc,rfl⟩:=Ag hO;obtain⟨m,hm⟩:=Xq (n/256^j);have hmb:m≤n:=by rw[←hm];exact Nat.div_le_self _ _
  have hdiv:((n/256^(j+1):Nat):Int)=(m:Int)/256:=by rw[Nat.pow_succ,←Nat.div_div_eq_div_mul,hm];rfl
  have hbe:beL (j+1) n=m.toUInt8::beL j n:=by rw[LX,hm]
  rw[hm];have hbs:w.heap.size≤(wr.alloc (.cells #[.int .u8 ((m:Int)%256)] 5)).heap.size:=by have:=hB.size;simp;omega
  have hba:Below wr.heap.size wr (wr.alloc (.cells #[.int .u8 ((m:Int)%256)] 5)):=Rq.alloc Lr _;have ho1:=Rr hB.size 5 (.int .u8 ((m:Int)%256));have hbx:=(Dh hO).below hba;have hnc:∀k c,Value.slice pa j pc=.slice none k c→c=0:=by intro k c e;cases e;exact Fo hO
  have hbm:=Value.slice pa j pc=.slice pa j pc;rw[Pp]at hbs hba ho1 hbx;obtain⟨HO,HB,HDV,HBE,HO1,HBX,HBS,HBA,HNC,HU⟩:=Hd10 hO hB hdiv hbe ho1 hbx hbs hba hnc (Pp m);clear hO hB hm hdiv hbe ho1 hbx hbs hba hnc hbm;by_cases hlt:j<size
  ·go_wp2_with (at_builtin;rw[HU.out];refine BR (xs:=[m.toUInt8]) rfl (.tmp 15) (.tmp 16) rfl rfl HO1.out rfl HBX.out HNC.out (by simp;omega) HBS.out ?_)
   intro a' cap' w3 hO3 hg3;have hB3:Below w.heap.size w w3:=(Tq HB.out HBA.out).grown hg3 HBS.out (fun j hj=>by cases hj;exact HB.out.size);have HO3:=Hd hO3;have HB3:=Hd hB3;clear hO3 hg3 hB3;go_wp2_with fail;go_roundw
   case rel=>exact⟨j+1,by omega,by go_num,by rw[HDV.out],by rw[HBE.out,Nat.add_comm j 1];exact HO3.out,HB3.out⟩
   case measure=>simp[intOf];omega
  ·obtain rfl :j=size:=by omega
   go_wp2_with fail;go_ret;exact⟨_,rfl,HO.out,HB.out⟩
theorem Oi (l:List UInt8) (i:Nat) (h:i<l.length):Ae (l.take (i+1))=Ae (l.take i)*256+l[i].toNat:=by rw[List.take_succ_eq_append_getElem h,Eh]
theorem KA (hb:BytesAt w F v l) (hl:l.length≤4):
 Ca 99 #[v] w fun e w'=>e=.returned (.int .i64 (Ae l:Int))∧w=w':=by
 obtain⟨a,cap,rfl⟩:=hb.form;obtain⟨N,hN⟩:=Xq (l.length);rw[hN]at hb hl⊢;have HN:=Hd hN;have HB:=Hd hb;clear hN hb;go_enter Tryz.func99,Tryz.ntmps99;go_wp2_with fail;go_loop [3,4] (fun nv iv=>∃i:Nat,i≤N∧iv=.int .i64 i∧nv=.int .i64 (Ae (l.take i):Int)) (fun _ iv=>N-(intOf iv).toNat)
 case atStart=>exact⟨0,Nat.zero_le _,rfl,by simp[Ae]⟩
 case round=>
  obtain⟨i,hi,rfl,rfl⟩:=hrel;by_cases hlt:i<N
  ·obtain⟨g,off,rfl,hc⟩:=HB.out.get (i:=i) (by rw[HN.out];exact hlt);have hs:=Oi l i (by rw[HN.out];exact hlt);have hv:=FE (l.take i);have hle:(l.take i).length≤3:=by simp;omega
   have hv2:Ae (l.take i)<256^3:=Nl hv (Nat.pow_le_pow_right (by decide) hle);obtain⟨V,hV⟩:=Xq (Ae (l.take i));rw[hV]at hs hv2⊢;have hx:(l[i]'(by rw[HN.out];exact hlt)).toNat<256:=UInt8.toNat_lt _;obtain⟨X,hX⟩:=Xq ((l[i]'(by rw[HN.out];exact hlt)).toNat);rw[hX]at hs hx hc;have HS:=Hd hs;clear hs hv hle hV hX;go_wp2_with fail;go_round
   case rel=>exact⟨i+1,by omega,by go_num,by rw[HS.out];go_num⟩
   case measure=>simp[intOf];omega
  ·obtain rfl :i=N:=by omega
   have ht:l.take i=l:=List.take_of_length_le (by rw[HN.out];exact Nat.le_refl _);rw[ht];clear ht;go_wp2_with fail;go_ret;exact⟨rfl,rfl⟩
theorem Fu (l:List UInt8) (i:Nat) (h:i<l.length):BA (l.take (i+1))=(BA (l.take i)&&l[i]==0):=by unfold BA;rw[List.take_succ_eq_append_getElem h,List.all_append,List.all_cons,List.all_nil,Bool.and_true]
theorem Fv (l:List UInt8) (i:Nat) (h:i<l.length) (hx:l[i]≠0):BA l=false:=by rw[Bool.eq_false_iff];intro e;unfold BA at e;have:=List.all_eq_true.1 e l[i] (List.getElem_mem h);exact hx (by simpa using this)
theorem EP (hb:BytesAt w F v l) (hl:l.length≤1000000000):
 Ca 92 #[v] w fun e w'=>e=.returned (.bool (BA l))∧w=w':=by
 obtain⟨a,cap,rfl⟩:=hb.form;obtain⟨N,hN⟩:=Xq (l.length);rw[hN]at hb hl⊢;have HN:=Hd hN;have HB:=Hd hb;clear hN hb;go_enter Tryz.func92,Tryz.ntmps92;go_wp2_with fail;go_loop [7] (fun iv=>∃i:Nat,i≤N∧iv=.int .i64 i∧BA (l.take i)=true) (fun iv=>N-(intOf iv).toNat)
 case atStart=>exact⟨0,Nat.zero_le _,rfl,rfl⟩
 case round=>
  obtain⟨i,hi,rfl,hz⟩:=hrel;have HZ:=Hd hz;clear hz;by_cases hlt:i<N
  ·have hil:i<l.length:=by rw[HN.out];exact hlt
   obtain⟨g,off,rfl,hc⟩:=HB.out.get hil;by_cases hx:l[i]=0
   ·have h0:l[i].toNat=0:=by rw[hx];rfl
    rw[h0]at hc;have hz2:BA (l.take (i+1))=true:=by rw[Fu l i hil,HZ.out,hx];rfl
    have HZ2:=Hd hz2;clear h0 hx hz2;go_wp2_with fail;go_round
    case rel=>exact⟨i+1,by omega,by go_num,HZ2.out⟩
    case measure=>simp[intOf];omega
   ·have hn0:((l[i].toNat:Int)!=0)=true:=by simp only[bne_iff_ne,ne_eq];intro e;exact hx (UInt8.toNat_inj.1 (by simpa using e))
    have hz2:=Fv l i hil hx;obtain⟨X,hX⟩:=Xq (l[i].toNat);rw[hX]at hc hn0;have HZ2:=Hd hz2;clear hx hz2 hX;go_wp2_with fail;go_ret;exact⟨by rw[HZ2.out];rfl,rfl⟩
  ·obtain rfl :i=N:=by omega
   have ht:l.take i=l:=List.take_of_length_le (by rw[HN.out];exact Nat.le_refl _);have hz:=HZ.out;rw[ht]at hz;have HZ2:=Hd hz;clear ht hz;go_wp2_with fail;go_ret;exact⟨by rw[HZ2.out];rfl,rfl⟩
theorem Qr {k:IntKind}{a b:Int} (h:a=b):Ending.returned (.int k a)=.returned (.int k b):=by rw[h]
theorem Qs {k l:IntKind}{a b c d:Int} (h:a=b) (h2:c=d):Ending.returned (.tuple #[.int k a,.int l c])=.returned (.tuple #[.int k b,.int l d]):=by rw[h,h2]
def FZ (n:Int):Int:=if n<0∨131072<n then 2 else 0
def F0 (n:Int):Nat:=if n<0∨131072<n then 0 else Af n.toNat
theorem I5 (n:Int) (w:World):Ca 76 #[.int .i64 n] w fun e w'=>e=.returned (.tuple #[.int .i64 (F0 n:Int),.int .i64 (FZ n)])∧w=w':=by
 unfold FZ F0;by_cases h1:n<0
 ·rw[Ip (.inl h1),Ip (.inl h1)];go_enter Tryz.func76,Tryz.ntmps76;go_wp2;go_ret2;exact⟨rfl,rfl⟩
 ·have h1':0≤n:=by omega
  by_cases h2:131072<n
  ·rw[Ip (.inr h2),Ip (.inr h2)];go_enter Tryz.func76,Tryz.ntmps76;go_wp2;go_ret2;exact⟨rfl,rfl⟩
  ·have h2':n≤131072:=by omega
   rw[In (by omega),In (by omega)];have hv:((Af n.toNat:Nat):Int)=max 1 ((n+223)/224):=by unfold Af;omega
   have HV:=Hd hv;clear hv;go_enter Tryz.func76,Tryz.ntmps76;go_wp2
   all_goals
    go_ret2;refine⟨?_,rfl⟩;rw[HV.out];refine Qs ?_ rfl;omega
theorem KB (n:Nat) (hn:n≤1000000000) (w:World):Ca 63 #[.int .i64 n] w fun e w'=>e=.returned (.int .i64 (Af n:Int))∧w=w':=by
 have hv:((Af n:Nat):Int)=max 1 (((n:Int)+223)/224):=by unfold Af;omega
 have HV:=Hd hv;clear hv;go_enter Tryz.func63,Tryz.ntmps63;go_wp2
 all_goals
  go_ret;refine⟨?_,rfl⟩;rw[HV.out];refine Qr ?_;omega
theorem LY (l:List UInt8) (i:Nat) (c:List UInt8) (b:UInt8) (h:i+c.length<l.length):(A5 l i c).set (i+c.length) b=A5 l i (c++[b]):=by
 unfold A5;have h1:(l.take i++c).length=i+c.length:=by simp;omega
 rw[List.set_append_right (i+c.length) b (by omega),h1,Nat.sub_self,List.drop_eq_getElem_cons h];simp only[List.set_cons_zero,List.append_assoc,List.length_append,List.length_cons,List.length_nil,List.cons_append,List.nil_append];rfl
theorem I6 (s n j:Nat) (h:j<s):(beL s n).take (j+1)=(beL s n).take j++[(n/256^(s-1-j)).toUInt8]:=by
 have hj:j<(beL s n).length:=by simpa using h
 rw[List.take_succ_eq_append_getElem hj]
 congr 2
 induction s generalizing n j with
 |zero=>omega
 |succ s ih=>
  by_cases e:j=s
  ·subst e;have h0:j+1-1-j=0:=by omega
   rw[h0];simp[beL]
  ·have h1:=ih (n/256) j (by omega) (by simp;omega);have h2:s+1-1-j=(s-1-j)+1:=by omega
   rw[h2,Nat.pow_succ'];simp only[beL];rw[List.getElem_append_left (by simp;omega),h1,Nat.div_div_eq_div_mul]
def F1 (w:World) (h at_:Nat) (l:List UInt8) (i:Nat):Prop:=w.heap[h]?=some (.cells (bvs l).toArray 171 (0,0))∧w.heap[at_]?=some (.cells #[.int .i64 i] 3 (0,0))
theorem Qt {h at_:Nat}{x:UInt8} (hne:h≠at_) (hw:F1 w h at_ l k):
 F1 (((w.setCell ⟨h,k,none⟩ (bv x)).setCell ⟨at_,0,none⟩ (.int .i64 ((k:Int)+1)))).drew h at_ (l.set k x) (k+1):=by
 have h1:=Sc _ h k _ _ (bv x) hw.1;have h2:=(heap_setCell_other w ⟨h,k,none⟩ at_ (bv x) hne.symm).trans hw.2;have h3:=Sc _ at_ 0 _ _ (.int .i64 ((k:Int)+1)) h2;have h4:=(heap_setCell_other (w.setCell ⟨h,k,none⟩ (bv x)) ⟨at_,0,none⟩ h (.int .i64 ((k:Int)+1)) hne).trans h1;refine⟨h4.trans ?_,h3.trans ?_⟩
 ·simp[bvs,List.map_set]
 ·simp
theorem Rz (n size i h at_:Nat) (l:List UInt8) (hn:n<4611686018427387904) (hs:size≤4) (hi:i+size≤32) (hl:l.length=32) (hne:h≠at_) {w:World} (hw:F1 w h at_ l i):
 Ca 108 #[.int .i64 n,.int .i64 size,.pointer (some ⟨h,0,none⟩),.pointer (some ⟨at_,0,none⟩)] w fun e w'=>
  e=.returned (.tuple #[])∧F1 w' h at_ (A5 l i (beL size n)) (i+size)∧Chg (fun k=>k=h∨k=at_) w w':=by
 obtain⟨HW,HL,HNE⟩:=Hd3 hw hl hne;clear hw hl hne;go_enter Tryz.func108,Tryz.ntmps108;go_wp2_with fail;go_loopw [6] (fun iv wr=>∃j:Nat,j≤size∧iv=.int .i64 ((size:Int)-1-(j:Int))∧F1 wr h at_ (A5 l i ((beL size n).take j)) (i+j)∧Chg (fun k=>k=h∨k=at_) w wr)
  (fun iv _=>(intOf iv+1).toNat)
 case atStart=>exact⟨0,Nat.zero_le _,by simp,by simpa[A5]using HW.out,Chg.refl _ _⟩
 case round=>
  obtain⟨j,hj,rfl,hH,hC⟩:=hrel;have hat:=Cq hH.2 0;have hatf:wr.frozen? ⟨at_,0,none⟩=false:=frozen_of_row _ _ _ _ _ hH.2;by_cases hlt:j<size
  ·have hge:(0:Int)≤(size:Int)-1-(j:Int):=by omega
   have hij:i+j<32:=by omega
   have hlen:(A5 l i ((beL size n).take j)).length=32:=by rw[EC _ _ _ (by simp[HL.out];omega)];exact HL.out
   have hold:∃v,wr.cell? ⟨h,i+j,none⟩=some v:=by rw[cr hH.1,List.getElem?_toArray,AE,List.getElem?_eq_getElem (by omega)];exact⟨_,rfl⟩
   obtain⟨old,hold⟩:=hold;have hhf:wr.frozen? ⟨h,i+j,none⟩=false:=frozen_of_row _ _ _ _ _ hH.1;have hval:Value.int .u8 ((n:Int)/2^(8*(size-1-j))%256)=bv ((n/256^(size-1-j)).toUInt8):=by
    have e:(2:Int)^(8*(size-1-j))=((256^(size-1-j):Nat):Int):=by rw[Int.pow_mul,Int.natCast_pow];rfl
    rw[e];unfold bv;simp
   have hsp:=LY l i ((beL size n).take j) ((n/256^(size-1-j)).toUInt8) (by simp[HL.out];omega);have htl:((beL size n).take j).length=j:=by simp;omega
   rw[htl,←I6 size n j hlt]at hsp;have hne:=HNE.out;have hne2:at_≠h:=fun e=>hne e.symm
   obtain⟨HLEN,HV,HSP,HH,HC⟩:=Hd5 hlen hval hsp hH hC;clear hlen hval hsp htl hH hC;go_wp2_with fail;go_region;go_wp2_with fail;go_roundw
   case rel=>
    refine⟨j+1,by omega,by go_num,?_,?_⟩
    ·rw[HV.out,←HSP.out];exact Qt HNE.out HH.out
    ·exact((HC.out.trans (Chg.setCell _ _ (.inl rfl)) (fun _ h=>.inl h)).trans (Chg.setCell _ _ (.inr rfl)) (fun _ h=>.inl h)).drew
   case measure=>simp[intOf];omega
  ·obtain rfl :j=size:=by omega
   have hge:(j:Int)-1-(j:Int)<0:=by omega
   have ht:(beL j n).take j=beL j n:=List.take_of_length_le (by simp);rw[ht]at hH;have HH:=Hd hH;have HC:=Hd hC;clear hH hC ht;go_wp2_with fail;go_end0;exact⟨rfl,HH.out,HC.out⟩
theorem Qu (l:List UInt8) (i j:Nat) (h:i+j<l.length):Ae (seg l i (j+1))=Ae (seg l i j)*256+(l[i+j]).toNat:=by unfold seg;rw[List.take_succ_eq_append_getElem (by simp;omega),Eh,List.getElem_drop]
theorem Pq (V X:Nat) (h:X<256):V*256|||X=V*256+X:=by have:=Nat.two_pow_add_eq_or_of_lt (i:=8) (b:=X) h V;rw[Nat.mul_comm]at this;exact this.symm
theorem MX (V X:Nat) (hV:V<256^3) (hX:X<256):bits .or .i64 ((V:Int)*256) (X:Int)=((V*256+X:Nat):Int):=by
 have e:(V:Int)*256=((V*256:Nat):Int):=by simp
 rw[e];have h1:(BitVec.ofInt 64 ((V*256:Nat):Int)).toNat=V*256:=by rw[BitVec.ofInt_natCast,BitVec.toNat_ofNat];exact Nat.mod_eq_of_lt (by omega)
 have h2:(BitVec.ofInt 64 (X:Int)).toNat=X:=by rw[BitVec.ofInt_natCast,BitVec.toNat_ofNat];exact Nat.mod_eq_of_lt (by omega)
 show IntKind.i64.wrap ((BitVec.ofInt 64 ((V*256:Nat):Int)|||BitVec.ofInt 64 (X:Int)).toNat:Int)=_;rw[BitVec.toNat_or,h1,h2,Pq V X hX];exact IntWalk.i64_in _ (by omega)
theorem RA (size i pb at_:Nat) (l:List UInt8) (cap g off:Nat) (hs:size≤4) (hi:i+size≤l.length) (hl:l.length≤1000) {w:World} (hb:BytesAt w (fun k=>k≠at_) (.slice (some ⟨g,off,none⟩) l.length cap) l)
 (hp:w.cell? ⟨pb,0,none⟩=some (.slice (some ⟨g,off,none⟩) l.length cap)) (hne:pb≠at_) (ha:w.heap[at_]?=some (.cells #[.int .i64 i] 3 (0,0))):
 Ca 91 #[.int .i64 size,.pointer (some ⟨pb,0,none⟩),.pointer (some ⟨at_,0,none⟩)] w fun e w'=>
  e=.returned (.int .i64 (Ae (seg l i size):Int))∧w'.heap[at_]?=some (.cells #[.int .i64 ((i+size:Nat):Int)] 3 (0,0))∧Chg (fun k=>k=at_) w w':=by
 obtain⟨N,hN⟩:=Xq (l.length);rw[hN]at hb hi hl hp;obtain⟨HN,HB,HP,HNE,HA⟩:=Hd5 hN hb hp hne ha;clear hN hb hp hne ha;go_enter Tryz.func91,Tryz.ntmps91;go_wp2_with fail;go_loopw [5,7] (fun nv kv wr=>∃j:Nat,j≤size∧kv=.int .i64 j∧nv=.int .i64 (Ae (seg l i j):Int)∧wr.heap[at_]?=some (.cells #[.int .i64 ((i+j:Nat):Int)] 3 (0,0))∧Chg (fun k=>k=at_) w wr)
  (fun _ kv _=>size-(intOf kv).toNat)
 case atStart=>exact⟨0,Nat.zero_le _,rfl,by simp[seg,Ae],HA.out,Chg.refl _ _⟩
 case round=>
  obtain⟨j,hj,rfl,rfl,hA,hC⟩:=hrel;have hat:=Cq hA 0;have hatf:wr.frozen? ⟨at_,0,none⟩=false:=frozen_of_row _ _ _ _ _ hA;have hpw:wr.cell? ⟨pb,0,none⟩=some (.slice (some ⟨g,off,none⟩) N cap):=hC.cell HNE.out HP.out;by_cases hlt:j<size
  ·have hij:i+j<l.length:=by rw[HN.out];omega
   have hbw:=HB.out.kept hC (fun _ h=>h);rw[←HN.out]at hbw;obtain⟨g',off',e,hc⟩:=hbw.get (i:=i+j) hij;cases e;have hijN:i+j<N:=by omega
   have hsp:=Qu l i j hij;have hv:=FE (seg l i j);have hle:(seg l i j).length≤3:=by simp[seg];omega
   have hv2:Ae (seg l i j)<256^3:=Nl hv (Nat.pow_le_pow_right (by decide) hle);obtain⟨V,hV⟩:=Xq (Ae (seg l i j));have hx:l[i+j].toNat<256:=UInt8.toNat_lt _;obtain⟨X,hX⟩:=Xq (l[i+j].toNat);rw[hV]at hsp hv2⊢;rw[hX]at hsp hx hc;obtain⟨HSP,HC,HAA⟩:=Hd3 hsp hC hA;clear hsp hv hle hV hX hC hA hbw hij;go_wp2_with fail;go_roundw
   case rel=>
    refine⟨j+1,by omega,by go_num,?_,?_,HC.out.trans (Chg.setCell (F:=fun k=>k=at_) _ _ rfl) (fun _ h=>.inl h)⟩
    ·rw[MX V X hv2 hx,HSP.out]
    ·exact(Sc _ at_ 0 _ _ (.int .i64 ((i:Int)+(j:Int)+1)) HAA.out).trans (by simp;omega)
   case measure=>simp[intOf];omega
  ·obtain rfl :j=size:=by omega
   have HC:=Hd hC;have HAA:=Hd hA;clear hC hA;go_wp2_with fail;go_ret;exact⟨rfl,HAA.out,HC.out⟩
end Go.Proofs.YtplclpileejemaaGreatDoor
