/- Short form (wip/zpack.py) of the texts Rec6 Rec7 Rec8 Sr1 Sr2 Sr3 Sr4 Sr5 Rec9. -/
import Derived.Test.YtplclpileejemaaGreatDoorP3
import Derived.Deep.Cut
set_option linter.all false
set_option maxRecDepth 100000
set_option maxHeartbeats 8000000
namespace Go.Proofs.YtplclpileejemaaGreatDoor
open Go.RowKit
variable {w:World}{g:Nat}{l:List UInt8}{T:TypeId}
def Dw (X:List UInt8):List UInt8:=List.replicate 16 0++X++List.replicate (16-X.length) 0
theorem C0 (X:List UInt8) (h:X.length≤16):(Dw X).length=32:=by simp[Dw];omega
theorem MY (X c:List UInt8) (h:X.length+c.length≤16):A5 (Dw X) (16+X.length) c=Dw (X++c):=by
 unfold A5 Dw;have h1:(List.replicate 16 (0:UInt8)++X).length=16+X.length:=by rw[List.length_append,List.length_replicate]
 have e1:(List.replicate 16 (0:UInt8)++X++List.replicate (16-X.length) 0).take (16+X.length)=List.replicate 16 0++X:=List.take_left' h1;have e2:(List.replicate 16 (0:UInt8)++X++List.replicate (16-X.length) 0).drop (16+X.length+c.length)=List.replicate (16-(X++c).length) 0:=by
  rw[List.drop_append,h1,List.drop_of_length_le (by rw[h1];omega),List.nil_append,List.drop_replicate]
  congr 1
  simp;omega
 rw[e1,e2];simp
theorem FG (n size h at_:Nat) (X:List UInt8) (hn:n<4611686018427387904) (hs:size≤4) (hi:X.length+size≤16) (hne:h≠at_) {w:World} (hw:F1 w h at_ (Dw X) (16+X.length)):
 Ca 108 #[.int .i64 n,.int .i64 size,.pointer (some ⟨h,0,none⟩),.pointer (some ⟨at_,0,none⟩)] w fun e w'=>
  e=.returned (.tuple #[])∧F1 w' h at_ (Dw (X++beL size n)) (16+(X++beL size n).length)∧Chg (fun k=>k=h∨k=at_) w w':=by
 refine(Rz n size (16+X.length) h at_ (Dw X) hn hs (by omega) (C0 X (by omega)) hne hw).mono fun e w' ⟨h1,h2,h3⟩=>⟨h1,?_,h3⟩
 rw[MY X _ (by simpa using hi)]at h2;simpa[Nat.add_assoc]using h2
theorem I7 (p:PartD) (a:Option Addr) (len cap:Nat) (h:p.bytes.length=len) (w:World):Ca 93 #[.agg #[.int .i64 p.kind,.int .i64 p.gen,.int .i64 p.num,.int .i64 p.idx,.int .i64 p.cnt,.slice a len cap]] w fun e w'=>e=.returned (.int .i64 (B8 p))∧Below w.heap.size w w':=by subst h;exact Po p.kind p.gen p.num p.idx p.cnt a p.bytes.length cap w
def z256:List UInt8:=List.replicate 256 0
theorem Gm:z256.length=256:=List.length_replicate
theorem Sv:∀w,(Instr.makeSlice 30 (.int .i64 256) (.int .i64 256)).run Tryz.prog w=.ok (.slice (some ⟨w.heap.size,0,none⟩) 256 256) (w.alloc (.cells (bvs z256).toArray 5)):=fun _=>by kernel_rfl
theorem MZ (g:Nat) (w:World):(Instr.sliceAt 171 (.pointer (some ⟨g,0,none⟩)) none none none).run Tryz.prog w=.ok (.slice (some ⟨g,0,none⟩) 32 32) w:=by simp[Instr.sliceAt,run_underlying Tryz.underlying171,Instr.sureAddr,Instr.sliceBounds,Instr.sliceBound,asIntOf,FD];rfl
theorem GQ (g:Nat) (w:World):(Instr.sliceAt 158 (.pointer (some ⟨g,0,none⟩)) none none none).run Tryz.prog w=.ok (.slice (some ⟨g,0,none⟩) 16 16) w:=by simp[Instr.sliceAt,run_underlying Tryz.underlying158,Instr.sureAddr,Instr.sliceBounds,Instr.sliceBound,asIntOf,FD];rfl
theorem Dt (h:w.heap[g]?=some (.cells (bvs l).toArray T (0,0))) (i n c:Nat) (hn:i+n≤l.length) (hc:n≤c):
 BytesAt w (fun k=>k=g) (.slice (some ⟨g,i,none⟩) n c) ((l.drop i).take n):=by
 have h0:BytesAt w (fun k=>k=g) (.slice (some ⟨g,0,none⟩) l.length l.length) l:=
  ⟨some ⟨g,0,none⟩,l.length,rfl,Nat.le_refl _,fun _=>⟨g,0,rfl,rfl,(Ax h).1,fun j u hu=>by rw[cell_of_row w _ _ _ _ _ h,Nat.zero_add];simpa using hu⟩⟩
 have h1:=h0.part i n c hn hc;rwa [Nat.zero_add]at h1
theorem LZ {p:PartD} (h:p.bytes.length≤224):
 A5 (A5 (A5 z256 0 (Dw (CZ p))) 32 p.bytes) 0 (A3 ((A5 (A5 z256 0 (Dw (CZ p))) 32 p.bytes).drop 16))=By p:=by
 have e1:A5 z256 0 (Dw (CZ p))=List.replicate 16 0++(CZ p++List.replicate 224 0):=by unfold A5;rw[C0 _ (by simp)];simp[Dw,z256]
 have e2:A5 (List.replicate 16 0++(CZ p++List.replicate 224 0)) 32 p.bytes=List.replicate 16 0++Ft p:=by
  unfold A5;have h1:(List.replicate 16 (0:UInt8)++CZ p).length=32:=by simp
  rw[←List.append_assoc,List.take_left' h1,List.drop_append,h1,List.drop_of_length_le (by rw[h1];omega),List.nil_append,List.drop_replicate];have h2:224-(32+p.bytes.length-32)=224-p.bytes.length:=by omega
  rw[h2];simp[Ft]
 rw[e1,e2,Kz h];have e3:(List.replicate 16 (0:UInt8)++Ft p).drop 16=Ft p:=by simp
 rw[e3];unfold A5;simp
theorem D6 (p:PartD) (a:Option Addr) (len cap:Nat) {F:Nat→Prop} (hv:BytesAt w F (.slice a len cap) p.bytes) (hl:p.bytes.length=len) (hK:KAt w) (h:B8 p=0):
 Ca 97 #[.agg #[.int .i64 p.kind,.int .i64 p.gen,.int .i64 p.num,.int .i64 p.idx,.int .i64 p.cnt,.slice a len cap]] w fun e w'=>
  ∃v,e=.returned (.tuple #[v,.int .i64 0])∧w'.ownsRow w.heap.size 5 1 v 256 (bvs (By p))∧Below w.heap.size w w':=by
 have hc:=I7 p a len cap hl;have hok:=NC h;rw[h]at hc;have hasm:=LZ (p:=p) hok.len;obtain⟨k',g',n',i',c',l⟩:=p;obtain⟨a1,a2,a3,a4,a5,a6,a7,a8,a9,a10,a11,x1,x2⟩:=hok;clear x1 x2;simp only at*;obtain⟨k,rfl⟩:=Int.eq_ofNat_of_zero_le a1;obtain⟨g,rfl⟩:=Int.eq_ofNat_of_zero_le a3;obtain⟨n,rfl⟩:=Int.eq_ofNat_of_zero_le a5;obtain⟨i,rfl⟩:=Int.eq_ofNat_of_zero_le a9;obtain⟨c,rfl⟩:=Int.eq_ofNat_of_zero_le (by omega :(0:Int)≤c');have b1:k≤65535:=by omega
 have b2:g≤2147483647:=by omega
 have b3:n≤2147483647:=by omega
 have b4:i<586:=by omega
 have b5:c≤586:=by omega
 have b6:len≤224:=by omega
 obtain⟨HA,HC,HL,HV,HK⟩:=Hd5 hasm hc hl hv hK;clear hasm hc h hl hv hK a1 a2 a3 a4 a5 a6 a7 a8 a9 a10 a11;go_enter Tryz.func97,Tryz.ntmps97;go_wp2_with fail;refine(HC.out _).mono ?_;rintro e w1 ⟨rfl,hb1⟩;have hbx:w1.heap[w.heap.size]?=some (.cells #[.int .i64 k,.int .i64 g,.int .i64 n,.int .i64 i,.int .i64 c,.slice a len cap] 130 (0,0)):=(hb1.block _ (by simp)).trans (Hn);have hz1:=hb1.size;rw[Sz]at hz1;have hzl:w.heap.size<w1.heap.size:=hz1;have hx1:=Cq hbx 1;have hb2:Below w.heap.size w w1:=(Rq.alloc Lr _).trans (hb1.mono (by simp));have HB:=Hd hb2;have HBX:=Hd hbx;obtain⟨w2,hw2⟩:=Xq ((w1.alloc (.cells Zy 171)).alloc (.cells #[.int .i64 16] 3));have hb3:Below w1.heap.size w1 w2:=hw2▸((Below.refl _ w1).alloc Lr _).alloc (by simp) _;have hh2:F1 w2 w1.heap.size (w1.heap.size+1) (Dw []) (16+([]:List UInt8).length):=by rw[←hw2];refine⟨(Below.heap_alloc _ _ _ (by simp)).trans (Hn),?_⟩;have:=heap_alloc_new (w1.alloc (.cells Zy 171)) (.cells #[.int .i64 16] 3);rw[Sz]at this;exact this
 obtain⟨HB3,HH0,HW2⟩:=Hd3 hb3 hh2 hw2;have hc2:Chg (fun k=>k=w1.heap.size∨k=w1.heap.size+1) w1 w2:=Cb hb3;have HG0:=Hd hc2;clear hb1 hb2 hbx hw2 hh2 hb3 hc2;go_wp2_with fail;rw[HW2.out];have hput0:=FG g 4 w1.heap.size (w1.heap.size+1) [] (by omega) (by omega) (by simp) (by omega) HH0.out;rw[List.nil_append]at hput0;refine hput0.mono ?_;clear hput0;rintro e v0 ⟨rfl,hh,hc⟩;have HH1:=Hd hh;have hcc:=HG0.out.trans hc (fun _ h=>.inl h);have HG1:=Hd hcc;have hbx:=(hcc.block _ hzl (by omega)).trans HBX.out;have hx0_2:=Cq hbx 2;clear hh hc hcc hbx;go_wp2_with fail;have hput1:=FG n 4 w1.heap.size (w1.heap.size+1) (beL 4 g) (by omega) (by omega) (by simp) (by omega) HH1.out;refine hput1.mono ?_;clear hput1;rintro e v1 ⟨rfl,hh,hc⟩;have HH2:=Hd hh;have hcc:=HG1.out.trans hc (fun _ h=>.inl h);have HG2:=Hd hcc;have hbx:=(hcc.block _ hzl (by omega)).trans HBX.out;have hx1_0:=Cq hbx 0;clear hh hc hcc hbx;go_wp2_with fail;have hput2:=FG k 2 w1.heap.size (w1.heap.size+1) ((beL 4 g)++beL 4 n) (by omega) (by omega) (by simp) (by omega) HH2.out;refine hput2.mono ?_;clear hput2;rintro e v2 ⟨rfl,hh,hc⟩;have HH3:=Hd hh;have hcc:=HG2.out.trans hc (fun _ h=>.inl h);have HG3:=Hd hcc;have hbx:=(hcc.block _ hzl (by omega)).trans HBX.out;have hx2_3:=Cq hbx 3;clear hh hc hcc hbx;go_wp2_with fail;have hput3:=FG i 2 w1.heap.size (w1.heap.size+1) (((beL 4 g)++beL 4 n)++beL 2 k) (by omega) (by omega) (by simp) (by omega) HH3.out;refine hput3.mono ?_;clear hput3;rintro e v3 ⟨rfl,hh,hc⟩;have HH4:=Hd hh;have hcc:=HG3.out.trans hc (fun _ h=>.inl h);have HG4:=Hd hcc;have hbx:=(hcc.block _ hzl (by omega)).trans HBX.out;have hx3_4:=Cq hbx 4;clear hh hc hcc hbx;go_wp2_with fail;have hput4:=FG c 2 w1.heap.size (w1.heap.size+1) ((((beL 4 g)++beL 4 n)++beL 2 k)++beL 2 i) (by omega) (by omega) (by simp) (by omega) HH4.out;refine hput4.mono ?_;clear hput4;rintro e v4 ⟨rfl,hh,hc⟩;have HH5:=Hd hh;have hcc:=HG4.out.trans hc (fun _ h=>.inl h);have HG5:=Hd hcc;have hbx:=(hcc.block _ hzl (by omega)).trans HBX.out;have hx4_5:=Cq hbx 5;clear hh hc hcc hbx;go_wp2_with fail;have hput5:=FG len 2 w1.heap.size (w1.heap.size+1) (((((beL 4 g)++beL 4 n)++beL 2 k)++beL 2 i)++beL 2 c) (by omega) (by omega) (by simp) (by omega) HH5.out;refine hput5.mono ?_;clear hput5;rintro e v5 ⟨rfl,hh,hc⟩;have HH6:=Hd hh;have hcc:=HG5.out.trans hc (fun _ h=>.inl h);have HG6:=Hd hcc;have hbx:=(hcc.block _ hzl (by omega)).trans HBX.out;have hs5:=hcc.size;clear hh hc hcc hbx;have hX:((((((beL 4 g)++beL 4 n)++beL 2 k)++beL 2 i)++beL 2 c)++beL 2 len)=CZ ⟨k,g,n,i,c,l⟩:=by unfold CZ;rw[←HL.out];rfl
 have hh6:=HH6.out;rw[hX]at hh6;obtain⟨w4,hw4⟩:=Xq (v5.alloc (.cells (bvs z256).toArray 5));have hb4:=Lq hw4;have hn4:=Nq hw4 rfl;have hzz:w1.heap.size+1<v5.heap.size:=(Ax hh6.2).1;have hh4:=(hb4.block w1.heap.size (by omega)).trans hh6.1;have hbh:=Dt hh4 0 32 32 (by rw[C0 _ (by simp)];omega) Lr;rw[List.drop_zero,List.take_of_length_le (by rw[C0 _ (by simp)];omega)]at hbh;have hmk:=Sv;have hsl:=fun w=>MZ w1.heap.size w
 have hcc5:=HG6.out.trans (Cb (F:=fun k=>False) hb4) (fun _ h=>h.elim);have hbx4:=(hcc5.block _ hzl (by omega)).trans HBX.out;obtain⟨HB4,HN4,HW4,HBH,HC5,HBX4⟩:=Hd6 hb4 hn4 hw4 hbh hcc5 hbx4;have hs4:=hb4.size;clear hX hh6 hb4 hn4 hw4 hh4 hbh hcc5 hbx4 HH0 HH1 HH2 HH3 HH4 HH5 HH6 HG0 HG1 HG2 HG3 HG4 HG5 HG6;go_wp2_with (rw[HW4.out];with_reducible refine Eb rfl (.tmp 42) (.tmp 43) rfl rfl rfl HBH.out HN4.out ?hf ?_)
 case hf=>rw[C0 _ (by simp),Gm];omega
 intro w5 hn5 hc5;have ht:(Dw (CZ ⟨k,g,n,i,c,l⟩)).take 256=Dw (CZ ⟨k,g,n,i,c,l⟩):=List.take_of_length_le (by rw[C0 _ (by simp)];omega);rw[ht]at hn5;have hcc6:=HC5.out.trans hc5 (fun k h=>.inr (by omega));have hbx5:=(hcc6.block _ hzl (by omega)).trans HBX.out;have hx5:=Cq hbx5 5;have hbl:BytesAt w5 (fun k=>k<w.heap.size) (.slice a len cap) l:=by have h1:=(HV.out.mono' (G:=fun k=>k<w.heap.size) (fun k hk _=>hk)).below HB.out;exact h1.kept hcc6 (fun k hk=>by omega)
 have hq5:=hc5.size;obtain⟨HN5,HC6,HBL⟩:=Hd3 hn5 hcc6 hbl;clear ht hn5 hc5 hcc6 hbx5 hbl HN4 HB4 HW4 HBH HC5 HBX4 HW2 HB3;go_wp2_with fail;go_still_tail 4,(by kernel_rfl);obtain⟨w6,hw6⟩:∃w6:World,{w5 with drawn:=w5.drawn+1}=w6:=⟨_,rfl⟩;have hn6:w6.heap[v5.heap.size]?=some (.cells (bvs (A5 z256 0 (Dw (CZ ⟨k,g,n,i,c,l⟩)))).toArray 5 (0,0)):=by rw[←hw6];exact HN5.out
 have hc6:Chg (fun k=>k=w1.heap.size∨k=w1.heap.size+1) w1 w6:=by rw[←hw6];exact HC6.out.drew
 have hb6:BytesAt w6 (fun k=>k<w.heap.size) (.slice a len cap) l:=HBL.out.kept (F:=fun k=>k<w.heap.size) (G:=fun _=>False) (by rw[←hw6];exact(Chg.refl _ _).drew) (fun _ _ h=>h);have hq6:w6.heap.size=w5.heap.size:=by rw[←hw6]
 have hlz:(A5 z256 0 (Dw (CZ ⟨k,g,n,i,c,l⟩))).length=256:=by rw[EC _ _ _ (by rw[C0 _ (by simp),Gm];omega),Gm]
 rw[hw6];clear hw6;obtain⟨HN6,HC6',HB6⟩:=Hd3 hn6 hc6 hb6;clear hn6 hc6 hb6 hx5;refine Eb rfl (.tmp 46) (.tmp 48) rfl rfl rfl HB6.out HN6.out ?hf2 ?_
 case hf2=>rw[hlz,HL.out];omega
 intro w7 hn7 hc7;have ht:l.take 224=l:=List.take_of_length_le (by rw[HL.out];omega);rw[ht]at hn7;have hq8:=(Ax hn7).1;obtain⟨Y,hY⟩:=Xq (A5 (A5 z256 0 (Dw (CZ ⟨k,g,n,i,c,l⟩))) 32 l);have hYl:Y.length=256:=by rw[←hY,EC _ _ _ (by rw[hlz,HL.out];omega),hlz]
 rw[hY]at hn7;have hcc7:=HC6'.out.trans hc7 (fun k h=>.inr (by omega));have hbd7:Below w.heap.size w w7:=HB.out.trans (hcc7.below (fun k h=>by omega) (by omega));have hka:=HK.out.below hbd7 HK.out.size;have hq7:=hc7.size;have hbs:=Dt hn7 16 240 240 (by omega) Lr;rw[List.take_of_length_le (by simp;omega)]at hbs;obtain⟨w8,hw8⟩:∃w8,w8=w7:=⟨_,rfl⟩;have hsum:Ca 89 #[.slice (some ⟨v5.heap.size,16,none⟩) 240 240] w7 (fun e w'=>e=.returned (.agg (bvs (A3 (Y.drop 16))).toArray)∧Below w7.heap.size w7 w'):=Gk _ _ hbs hka (by simp;omega);obtain⟨HSUM,HN7,HBD7,HY,HYL⟩:=Hd5 hsum hn7 hbd7 hY hYl;clear ht hn7 hc7 hcc7 hbd7 hka hbs hw8 w8 hsum hY hYl hlz HN6 HC6' HB6 HN5 HC6 HBL;go_wp2_with fail;refine HSUM.out.mono ?_;rintro e w8 ⟨rfl,hb8⟩;have hn8:=(hb8.block v5.heap.size (by omega)).trans HN7.out;have hb8':=Tq HBD7.out hb8;obtain⟨w9,hw9⟩:=Xq (w8.alloc (.cells (bvs (A3 (Y.drop 16))).toArray 158));have hb9:=Lq hw9;have hn9:=(hb9.block v5.heap.size (by have:=hb8.size;omega)).trans hn8;have hm9:=Nq hw9 rfl;have hnw:=heap_alloc_new w8 (.cells #[.int .u8 0,.int .u8 0,.int .u8 0,.int .u8 0,.int .u8 0,.int .u8 0,.int .u8 0,.int .u8 0,.int .u8 0,.int .u8 0,.int .u8 0,.int .u8 0,.int .u8 0,.int .u8 0,.int .u8 0,.int .u8 0] 158);have hszh:=Lu (Y.drop 16);have hzsh:(#[.int .u8 0,.int .u8 0,.int .u8 0,.int .u8 0,.int .u8 0,.int .u8 0,.int .u8 0,.int .u8 0,.int .u8 0,.int .u8 0,.int .u8 0,.int .u8 0,.int .u8 0,.int .u8 0,.int .u8 0,.int .u8 0]:Array Value).size=(bvs (A3 (Y.drop 16))).toArray.size:=by show 16=_;rw[List.size_toArray,Ap,C8]
 have hsl2:=fun w=>GQ w8.heap.size w
 have hbh:=Dt hm9 0 16 16 (by simp) Lr;rw[List.drop_zero,List.take_of_length_le (by simp)]at hbh;have hbd9:=Tq hb8' hb9;obtain⟨HSZ,HZS,HNW,HW9,HN9,HBH,HBD9⟩:=Hd7 hszh hzsh hnw hw9 hn9 hbh hbd9;clear hb8 hn8 hb8' hw9 hb9 hn9 hm9 hnw hszh hzsh hbh hbd9;go_wp2_with (first| (with_reducible refine wpList_store_row rfl 158 _ _ rfl w8.heap.size (bvs (A3 (Y.drop 16))).toArray rfl rfl 158 _ HNW.out HSZ.out HZS.out (Bb _) ?_;rw[World.setRow_alloc_new,HW9.out])| (with_reducible refine Eb rfl (.tmp 53) (.tmp 54) rfl rfl rfl HBH.out HN9.out ?hf3 ?_))
 case hf3=>rw[C8,HYL.out];omega
 intro w10 hn10 hc10;have ht:(A3 (Y.drop 16)).take 256=A3 (Y.drop 16):=List.take_of_length_le (by simp);rw[ht,←HY.out,HA.out]at hn10;have hbd10:=HBD9.out.trans (hc10.below (B:=w.heap.size) (fun k h=>by omega) HBD9.out.size);have HN10:=Hd hn10;have HBD10:=Hd hbd10;clear ht hn10 hc10 hbd10;go_wp2_with fail;go_ret2;exact⟨_,rfl,⟨by rw[Ap,Bt],.inr ⟨v5.heap.size,256,_,rfl,by omega,HN10.out,Nat.le_refl _,by decide,by rw[List.size_toArray,Ap,Bt],List.take_of_length_le (by rw[Ap,Bt];exact Nat.le_refl _)⟩⟩,HBD10.out⟩
variable {F G:Nat→Prop}{v:Value}{n:Nat}
theorem Gz {u:Value}{m:List UInt8} (hv:BytesAt w F v l) (hu:BytesAt w G u m):
 Ca 90 #[v,u] w fun e w'=>e=.returned (.bool (l==m))∧w=w':=by
 have h1:=hv.str;have h2:=hu.str;clear hv hu;go_enter Tryz.func90,Tryz.ntmps90;go_wp2_with fail;go_ret;exact⟨rfl,rfl⟩
theorem GA {off cap:Nat} (hv:BytesAt w F (.slice (some ⟨g,off,none⟩) n cap) l) (hl:l.length≤1000000000):
 Ca 51 #[.slice (some ⟨g,off,none⟩) n cap] w fun e w'=>∃v,e=.returned v∧w'.ownsRow w.heap.size 5 1 v l.length (bvs l)∧Below w.heap.size w w':=by
 have hnil:=fun(w:World)=>Lib.run_eql_slice_nil (P:=Tryz.prog) w 30 5 (some ⟨g,off,none⟩) n cap 0 0 Tryz.underlying30
 have hba:Below w.heap.size w (w.alloc (.cells #[] 5)):=Rq.alloc Lr _;have hbv:=hv.below hba;have ho:=Dy (w:=w) Lr 5;have hbs:w.heap.size≤(w.alloc (.cells #[] 5)).heap.size:=hba.size;have hnc:∀k c,Value.slice (some ⟨g,off,none⟩) n cap=.slice none k c→c=0:=by intro k c e;cases e
 obtain⟨HBA,HBV,HO,HBS,HNC,HL⟩:=Hd6 hba hbv ho hbs hnc hl;clear hv hba hbv ho hbs hnc hl;go_enter Tryz.func51,Tryz.ntmps51;go_wp2_with (at_builtin;refine BR (xs:=[]) rfl (.tmp 5) (.tmp 6) rfl rfl HO.out rfl HBV.out HNC.out ?hn HBS.out ?_)
 case hn=>have:=HL.out;omega
 intro a' cap' w3 hO3 hg3;have hB3:Below w.heap.size w w3:=HBA.out.grown hg3 HBS.out (fun j hj=>by cases hj;exact Nat.le_refl _);have HO3:=Hd hO3;have HB3:=Hd hB3;clear hO3 hg3 hB3;go_wp2_with fail;go_ret;exact⟨_,rfl,HO3.out,HB3.out⟩
variable {w':World}
def GB (p:PartD) (bv:Value):Array Value:=#[.int .i64 p.kind,.int .i64 p.gen,.int .i64 p.num,.int .i64 p.idx,.int .i64 p.cnt,bv]
def DecPost (w:World) (l:List UInt8) (e:Ending) (w':World):Prop:=
 ∃a c,e=.returned (.tuple #[.agg (GB (Ak l) (.slice a (Ak l).bytes.length c)),.int .i64 (Al l)])∧
  w'.ownsRow w.heap.size 5 1 (.slice a (Ak l).bytes.length c) (Ak l).bytes.length (bvs (Ak l).bytes)∧Below w.heap.size w w'
theorem DecPost.no {k:Int} (hk:Al l=k) (h0:k≠0) (hb:Below w.heap.size w w'):DecPost w l (.returned (.tuple #[.agg #[.int .i64 0,.int .i64 0,.int .i64 0,.int .i64 0,.int .i64 0,.slice none 0 0],.int .i64 k])) w':=by
 subst hk;have h1:=Ry h0;refine⟨none,0,?_,?_,hb⟩
 ·rw[h1];rfl
 ·rw[h1];exact Dx _ _ _
theorem DecPost.yes {a:Option Addr}{c:Nat} (hk:Al l=0) (hn:(Bn l).bytes.length=n)
 (ho:w'.ownsRow w.heap.size 5 1 (.slice a n c) n (bvs (Bn l).bytes)) (hb:Below w.heap.size w w'):
 DecPost w l (.returned (.tuple #[.agg (GB (Bn l) (.slice a n c)),.int .i64 0])) w':=by
 subst hn;have h1:Ak l=Bn l:=by unfold Ak;rw[Ip hk]
 refine⟨a,c,?_,?_,hb⟩
 ·rw[h1,hk]
 ·rw[h1];exact ho
theorem Kf (l:List UInt8) (a:Option Addr) (n cap:Nat) (hl:l.length=n) (h:n≠256):
 Ca 73 #[.slice a n cap] w (DecPost w l):=by
 by_cases h1:n<256
 ·have hd:Al l=4:=by unfold Al;rw[Ip (by omega)]
  have HD:=Hd hd;clear hd hl h;go_enter Tryz.func73,Tryz.ntmps73;go_wp2_with fail;exact Bv (.tuple #[.agg #[.int .i64 0,.int .i64 0,.int .i64 0,.int .i64 0,.int .i64 0,.slice none 0 0],.int .i64 4]) (DecPost.no HD.out (by decide) ((Rq.alloc Lr _).alloc (by simp) _))
 ·have h2:256<n:=by omega
  have hd:Al l=5:=by unfold Al;rw[In (by omega),Ip (by omega)]
  have HD:=Hd hd;have h1':256≤n:=by omega
  clear hd hl h h1;go_enter Tryz.func73,Tryz.ntmps73;go_wp2_with fail;exact Bv (.tuple #[.agg #[.int .i64 0,.int .i64 0,.int .i64 0,.int .i64 0,.int .i64 0,.slice none 0 0],.int .i64 5]) (DecPost.no HD.out (by decide) ((Rq.alloc Lr _).alloc (by simp) _))
theorem Kg (l:List UInt8) (g off cap:Nat) {F:Nat→Prop} (hv:BytesAt w F (.slice (some ⟨g,off,none⟩) 256 cap) l) (hl:l.length=256) (hK:KAt w) (hsum:A3 (l.drop 16)≠l.take 16):
 Ca 73 #[.slice (some ⟨g,off,none⟩) 256 cap] w (DecPost w l):=by
 have hlc:=hv.len;obtain⟨-,hcap⟩:=hlc;have hc16:¬cap=16:=by omega
 have hc0:¬cap=0:=by omega
 have hci:(16:Int)≤(cap:Int):=by omega
 obtain⟨w2,hw2⟩:=Xq ((w.alloc (.cells #[.slice (some ⟨g,off,none⟩) 256 cap] 30)).alloc (.cells #[.int .i64 0,.int .i64 0,.int .i64 0,.int .i64 0,.int .i64 0,.slice none 0 0] 130));have hb2:Below w.heap.size w w2:=hw2▸((Below.refl _ w).alloc Lr _).alloc (by simp) _;have hs2:w2.heap.size=w.heap.size+2:=by rw[←hw2];simp
 have hP2:w2.heap[w.heap.size]?=some (.cells #[.slice (some ⟨g,off,none⟩) 256 cap] 30 (0,0)):=by rw[←hw2];exact(Below.heap_alloc _ _ _ (by simp)).trans (Hn)
 have hR2:w2.heap[w.heap.size+1]?=some (.cells #[.int .i64 0,.int .i64 0,.int .i64 0,.int .i64 0,.int .i64 0,.slice none 0 0] 130 (0,0)):=by have:=heap_alloc_new (w.alloc (.cells #[.slice (some ⟨g,off,none⟩) 256 cap] 30)) (.cells #[.int .i64 0,.int .i64 0,.int .i64 0,.int .i64 0,.int .i64 0,.slice none 0 0] 130);rw[Sz]at this;rw[←hw2];exact this
 have hl0:=hv.here.below hb2;rw[←hl]at hl0;have hl2:=hl0.part 16 240 (cap-16) (by omega) (by omega);rw[List.take_of_length_le (by simp;omega)]at hl2;have hka:=hK.below hb2 hK.size;have hsum2:Ca 89 #[.slice (some ⟨g,off+16,none⟩) 240 (cap-16)] w2 (fun e w'=>e=.returned (.agg (bvs (A3 (l.drop 16))).toArray)∧Below w2.heap.size w2 w'):=Gk _ _ hl2 hka (by simp;omega);obtain⟨HSUM,HS,HV,HL,HW2,HB2,HS2,HP2,HR2⟩:=Hd9 hsum2 hsum hv hl hw2 hb2 hs2 hP2 hR2;clear hsum2 hsum hv hl hK hw2 hb2 hs2 hP2 hR2 hl0 hl2 hka;go_enter Tryz.func73,Tryz.ntmps73;go_wp2_with fail;rw[HW2.out];refine HSUM.out.mono ?_;rintro e w3 ⟨rfl,hb3⟩;have hb3':=Tq HB2.out hb3;obtain⟨w4,hw4⟩:=Xq (w3.alloc (.cells (bvs (A3 (l.drop 16))).toArray 158));have hb4:=Lq hw4;have hq3:=hb3.size;have hs2:=HS2.out;have hq4:w4.heap.size=w3.heap.size+1:=by rw[←hw4];simp
 have hP4:=(hb4.block w.heap.size (by omega)).trans ((hb3.block w.heap.size (by omega)).trans HP2.out);have hR4:=(hb4.block (w.heap.size+1) (by omega)).trans ((hb3.block (w.heap.size+1) (by omega)).trans HR2.out);have hD4:=Nq hw4 rfl;have hnw:=heap_alloc_new w3 (.cells #[.int .u8 0,.int .u8 0,.int .u8 0,.int .u8 0,.int .u8 0,.int .u8 0,.int .u8 0,.int .u8 0,.int .u8 0,.int .u8 0,.int .u8 0,.int .u8 0,.int .u8 0,.int .u8 0,.int .u8 0,.int .u8 0] 158);have hszh:=Lu (l.drop 16);have hzsh:(#[.int .u8 0,.int .u8 0,.int .u8 0,.int .u8 0,.int .u8 0,.int .u8 0,.int .u8 0,.int .u8 0,.int .u8 0,.int .u8 0,.int .u8 0,.int .u8 0,.int .u8 0,.int .u8 0,.int .u8 0,.int .u8 0]:Array Value).size=(bvs (A3 (l.drop 16))).toArray.size:=by show 16=_;rw[List.size_toArray,Ap,C8]
 have hsl2:=fun w=>GQ w3.heap.size w
 have hbd:=Dt hD4 0 16 16 (by simp) Lr;rw[List.drop_zero,List.take_of_length_le (by simp)]at hbd;have hbd4:=Tq hb3' hb4;have hl4:=HV.out.here.below hbd4;rw[←HL.out]at hl4;have hl5:=hl4.part 0 16 cap (by rw[HL.out];omega) (by omega);rw[List.drop_zero,Nat.add_zero]at hl5;have heq:∀n,Ca 90 #[.slice (some ⟨w3.heap.size,0,none⟩) 16 16,.slice (some ⟨g,off,none⟩) 16 cap] (w4.drewN n) (fun e w'=>e=.returned (.bool false)∧w'=w4.drewN n):=by
  intro n;refine(Gz (hbd.drewN n) (hl5.drewN n)).mono fun e w' ⟨h1,h2⟩=>⟨?_,h2.symm⟩
  rw[h1]
  congr 2
  exact beq_eq_false_iff_ne.2 HS.out
 obtain⟨HEQ,HSZ,HZS,HNW,HW4,HP4,HR4,HBD⟩:=Hd8 heq hszh hzsh hnw hw4 hP4 hR4 hbd4;have hx4:=Cq hP4 0;have HQ4:=Hd hq4;have HQ3:=Hd hq3;clear hb3 hb3' hw4 hb4 hP4 hR4 hD4 hnw hszh hzsh hbd hbd4 hl4 hl5 heq hq4 hq3 hs2;go_wp2_with (with_reducible refine wpList_store_row rfl 158 _ _ rfl w3.heap.size (bvs (A3 (l.drop 16))).toArray rfl rfl 158 _ HNW.out HSZ.out HZS.out (Bb _) ?_;rw[World.setRow_alloc_new,HW4.out])
 go_quiet ((go_at_call 90;exact Calls.quiet_of_same (HEQ.out _)));obtain⟨w5,hw5⟩:=Xq (w4.drewN nq);have hb5:Below w.heap.size w w5:=hw5▸HBD.out.trans (Dz w4 nq _);have hP5:w5.heap[w.heap.size]?=some (.cells #[.slice (some ⟨g,off,none⟩) 256 cap] 30 (0,0)):=by rw[←hw5];exact HP4.out
 have hR5:w5.heap[w.heap.size+1]?=some (.cells #[.int .i64 0,.int .i64 0,.int .i64 0,.int .i64 0,.int .i64 0,.slice none 0 0] 130 (0,0)):=by rw[←hw5];exact HR4.out
 have hq5:w.heap.size+2≤w5.heap.size:=by rw[←hw5];show _≤w4.heap.size;have:=HQ4.out;have:=HQ3.out;have:=HS2.out;omega
 rw[hw5];clear hw5 hx4;have hr5:∀j:Nat,w5.frozen? ⟨w.heap.size+1,j,none⟩=false:=fun j=>frozen_of_row _ _ _ _ _ hR5
 have hy0:=Cq hR5 0;have hy1:=Cq hR5 1;have hy2:=Cq hR5 2;have hy3:=Cq hR5 3;have hy4:=Cq hR5 4;have hy5:=Cq hR5 5;have HB5:=Hd hb5;have hdec:=LV HL.out HS.out;have HDEC:=Hd hdec;clear hP5 hR5 hb5 hdec;go_wp2_with fail;exact Bv (hr:=by simp[go_sem,hy0,hy1,hy2,hy3,hy4,hy5]) (.tuple #[.agg #[.int .i64 0,.int .i64 0,.int .i64 0,.int .i64 0,.int .i64 0,.slice none 0 0],.int .i64 22]) (DecPost.no HDEC.out (by decide) ((((((HB5.out.setCell (by show w.heap.size≤w.heap.size+1;omega) _).setCell (by show w.heap.size≤w.heap.size+1;omega) _).setCell (by show w.heap.size≤w.heap.size+1;omega) _).setCell (by show w.heap.size≤w.heap.size+1;omega) _).setCell (by show w.heap.size≤w.heap.size+1;omega) _).setCell (by show w.heap.size≤w.heap.size+1;omega) _))
theorem EF (w:World) (b:Nat) (v0 v1 v2 v3 v4 v5:Value):Chg (fun k=>k=b) w ((((((w.setCell ⟨b,0,none⟩ v0).setCell ⟨b,1,none⟩ v1).setCell ⟨b,2,none⟩ v2).setCell ⟨b,3,none⟩ v3).setCell ⟨b,4,none⟩ v4).setCell ⟨b,5,none⟩ v5):=by
 have t:∀{a c:World} (j:Nat) (v:Value),Chg (fun k=>k=b) a c→Chg (fun k=>k=b) a (c.setCell ⟨b,j,none⟩ v):=fun j v h=>h.trans (Chg.setCell (F:=fun k=>k=b) _ _ rfl) (fun _ h=>.inl h)
 exact t 5 _ (t 4 _ (t 3 _ (t 2 _ (t 1 _ (t 0 _ (Chg.refl _ _))))))
theorem Dl (w:World) (b j:Nat) (v:Value) (k:Nat) (h:k≠b):(w.setCell ⟨b,j,none⟩ v).heap[k]?=w.heap[k]?:=heap_setCell_other w ⟨b,j,none⟩ k v h
theorem GC (size i pb at_:Nat) (l:List UInt8) (N cap g off:Nat) (hN:l.length=N) (hs:size≤4) (hi:i+size≤N) (hl:N≤1000) {w:World} (hb:BytesAt w (fun k=>k≠at_) (.slice (some ⟨g,off,none⟩) N cap) l)
 (hp:w.cell? ⟨pb,0,none⟩=some (.slice (some ⟨g,off,none⟩) N cap)) (hne:pb≠at_) (ha:w.heap[at_]?=some (.cells #[.int .i64 i] 3 (0,0))):
 Ca 91 #[.int .i64 size,.pointer (some ⟨pb,0,none⟩),.pointer (some ⟨at_,0,none⟩)] w fun e w'=>
  e=.returned (.int .i64 (Ae (seg l i size):Int))∧w'.heap[at_]?=some (.cells #[.int .i64 ((i+size:Nat):Int)] 3 (0,0))∧Chg (fun k=>k=at_) w w':=by
 subst hN;exact RA size i pb at_ l cap g off hs hi hl hb hp hne ha
theorem K8 (l:List UInt8) (g off cap:Nat) {F:Nat→Prop} (hv:BytesAt w F (.slice (some ⟨g,off,none⟩) 256 cap) l) (hl:l.length=256) (hK:KAt w) (hsum:A3 (l.drop 16)=l.take 16):
 Ca 73 #[.slice (some ⟨g,off,none⟩) 256 cap] w (DecPost w l):=by
 have hlc:=hv.len;obtain⟨-,hcap⟩:=hlc;have hc16:¬cap=16:=by omega
 have hc0:¬cap=0:=by omega
 have hci:(16:Int)≤(cap:Int):=by omega
 obtain⟨w2,hw2⟩:=Xq ((w.alloc (.cells #[.slice (some ⟨g,off,none⟩) 256 cap] 30)).alloc (.cells #[.int .i64 0,.int .i64 0,.int .i64 0,.int .i64 0,.int .i64 0,.slice none 0 0] 130));have hb2:Below w.heap.size w w2:=hw2▸((Below.refl _ w).alloc Lr _).alloc (by simp) _;have hs2:w2.heap.size=w.heap.size+2:=by rw[←hw2];simp
 have hP2:w2.heap[w.heap.size]?=some (.cells #[.slice (some ⟨g,off,none⟩) 256 cap] 30 (0,0)):=by rw[←hw2];exact(Below.heap_alloc _ _ _ (by simp)).trans (Hn)
 have hR2:w2.heap[w.heap.size+1]?=some (.cells #[.int .i64 0,.int .i64 0,.int .i64 0,.int .i64 0,.int .i64 0,.slice none 0 0] 130 (0,0)):=by have:=heap_alloc_new (w.alloc (.cells #[.slice (some ⟨g,off,none⟩) 256 cap] 30)) (.cells #[.int .i64 0,.int .i64 0,.int .i64 0,.int .i64 0,.int .i64 0,.slice none 0 0] 130);rw[Sz]at this;rw[←hw2];exact this
 have hl0:=hv.here.below hb2;rw[←hl]at hl0;have hl2:=hl0.part 16 240 (cap-16) (by omega) (by omega);rw[List.take_of_length_le (by simp;omega)]at hl2;have hka:=hK.below hb2 hK.size;have hsum2:Ca 89 #[.slice (some ⟨g,off+16,none⟩) 240 (cap-16)] w2 (fun e w'=>e=.returned (.agg (bvs (A3 (l.drop 16))).toArray)∧Below w2.heap.size w2 w'):=Gk _ _ hl2 hka (by simp;omega);obtain⟨HSUM,HS,HV,HL,HW2,HB2,HS2,HP2,HR2⟩:=Hd9 hsum2 hsum hv hl hw2 hb2 hs2 hP2 hR2;clear hsum2 hsum hv hl hK hw2 hb2 hs2 hP2 hR2 hl0 hl2 hka;go_enter Tryz.func73,Tryz.ntmps73;go_wp2_with fail;rw[HW2.out];refine HSUM.out.mono ?_;rintro e w3 ⟨rfl,hb3⟩;have hb3':=Tq HB2.out hb3;obtain⟨w4,hw4⟩:=Xq (w3.alloc (.cells (bvs (A3 (l.drop 16))).toArray 158));have hb4:=Lq hw4;have hq3:=hb3.size;have hs2:=HS2.out;have hq4:w4.heap.size=w3.heap.size+1:=by rw[←hw4];simp
 have hP4:=(hb4.block w.heap.size (by omega)).trans ((hb3.block w.heap.size (by omega)).trans HP2.out);have hR4:=(hb4.block (w.heap.size+1) (by omega)).trans ((hb3.block (w.heap.size+1) (by omega)).trans HR2.out);have hD4:=Nq hw4 rfl;have hnw:=heap_alloc_new w3 (.cells #[.int .u8 0,.int .u8 0,.int .u8 0,.int .u8 0,.int .u8 0,.int .u8 0,.int .u8 0,.int .u8 0,.int .u8 0,.int .u8 0,.int .u8 0,.int .u8 0,.int .u8 0,.int .u8 0,.int .u8 0,.int .u8 0] 158);have hszh:=Lu (l.drop 16);have hzsh:(#[.int .u8 0,.int .u8 0,.int .u8 0,.int .u8 0,.int .u8 0,.int .u8 0,.int .u8 0,.int .u8 0,.int .u8 0,.int .u8 0,.int .u8 0,.int .u8 0,.int .u8 0,.int .u8 0,.int .u8 0,.int .u8 0]:Array Value).size=(bvs (A3 (l.drop 16))).toArray.size:=by show 16=_;rw[List.size_toArray,Ap,C8]
 have hsl2:=fun w=>GQ w3.heap.size w
 have hbd:=Dt hD4 0 16 16 (by simp) Lr;rw[List.drop_zero,List.take_of_length_le (by simp)]at hbd;have hbd4:=Tq hb3' hb4;have hl4:=HV.out.here.below hbd4;rw[←HL.out]at hl4;have hl5:=hl4.part 0 16 cap (by rw[HL.out];omega) (by omega);rw[List.drop_zero,Nat.add_zero]at hl5;have heq:∀n,Ca 90 #[.slice (some ⟨w3.heap.size,0,none⟩) 16 16,.slice (some ⟨g,off,none⟩) 16 cap] (w4.drewN n) (fun e w'=>e=.returned (.bool true)∧w'=w4.drewN n):=by
  intro n;refine(Gz (hbd.drewN n) (hl5.drewN n)).mono fun e w' ⟨h1,h2⟩=>⟨?_,h2.symm⟩
  rw[h1]
  congr 2
  exact beq_iff_eq.2 HS.out
 obtain⟨HEQ,HSZ,HZS,HNW,HW4,HP4,HR4,HBD⟩:=Hd8 heq hszh hzsh hnw hw4 hP4 hR4 hbd4;have hx4:=Cq hP4 0;have HQ4:=Hd hq4;have HQ3:=Hd hq3;clear hb3 hb3' hw4 hb4 hP4 hR4 hD4 hnw hszh hzsh hbd hbd4 hl4 hl5 heq hq4 hq3 hs2;go_wp2_with (with_reducible refine wpList_store_row rfl 158 _ _ rfl w3.heap.size (bvs (A3 (l.drop 16))).toArray rfl rfl 158 _ HNW.out HSZ.out HZS.out (Bb _) ?_;rw[World.setRow_alloc_new,HW4.out])
 go_quiet ((go_at_call 90;exact Calls.quiet_of_same (HEQ.out _)));obtain⟨w5,hw5⟩:=Xq (w4.drewN nq);have hb5:Below w.heap.size w w5:=hw5▸HBD.out.trans (Dz w4 nq _);have hP5:w5.heap[w.heap.size]?=some (.cells #[.slice (some ⟨g,off,none⟩) 256 cap] 30 (0,0)):=by rw[←hw5];exact HP4.out
 have hR5:w5.heap[w.heap.size+1]?=some (.cells #[.int .i64 0,.int .i64 0,.int .i64 0,.int .i64 0,.int .i64 0,.slice none 0 0] 130 (0,0)):=by rw[←hw5];exact HR4.out
 have hq5:w.heap.size+2≤w5.heap.size:=by rw[←hw5];show _≤w4.heap.size;have:=HQ4.out;have:=HQ3.out;have:=HS2.out;omega
 rw[hw5];clear hw5 hx4;obtain⟨w6,hw6⟩:=Xq ((w5.alloc (.cells #[.int .i64 16] 3)).alloc (.cells #[.int .i64 0,.int .i64 0,.int .i64 0,.int .i64 0,.int .i64 0,.slice none 0 0] 130));have hb6:Below w5.heap.size w5 w6:=hw6▸((Below.refl _ w5).alloc Lr _).alloc (by simp) _;have hq6:w6.heap.size=w5.heap.size+2:=by rw[←hw6];simp
 have hA6:w6.heap[w5.heap.size]?=some (.cells #[.int .i64 16] 3 (0,0)):=by rw[←hw6];exact(Below.heap_alloc _ _ _ (by simp)).trans (Hn)
 have hT6:w6.heap[w5.heap.size+1]?=some (.cells #[.int .i64 0,.int .i64 0,.int .i64 0,.int .i64 0,.int .i64 0,.slice none 0 0] 130 (0,0)):=by have:=heap_alloc_new (w5.alloc (.cells #[.int .i64 16] 3)) (.cells #[.int .i64 0,.int .i64 0,.int .i64 0,.int .i64 0,.int .i64 0,.slice none 0 0] 130);rw[Sz]at this;rw[←hw6];exact this
 have hbd6:=Tq hb5 hb6;have hl6:=HV.out.here.below hbd6;have hP6:=(hb6.block w.heap.size (by omega)).trans hP5;have hR6:=(hb6.block (w.heap.size+1) (by omega)).trans hR5;have hC6:Chg (fun k=>k=w5.heap.size∨k=w5.heap.size+1) w6 w6:=Chg.refl _ _;have hx6:=Cq hP6 0;obtain⟨HW6,HB6,HL6,HP6,HR6,HA0,HT0,HC0,HX0⟩:=Hd9 hw6 hbd6 hl6 hP6 hR6 hA6 hT6 hC6 hx6;clear hw6 hb6 hA6 hT6 hbd6 hl6 hP6 hR6 hC6 hP5 hR5 hb5 hx6;go_wp2_with fail;rw[HW6.out];have hbl:BytesAt w6 (fun k=>k≠w5.heap.size) (.slice (some ⟨g,off,none⟩) 256 cap) l:=(HL6.out.kept HC0.out (fun k hk h=>by have hk':k<w.heap.size:=hk;omega)).mono (fun k (hk:k<w.heap.size)=>by omega);have hget:=GC 4 16 w.heap.size w5.heap.size l 256 cap g off HL.out (by omega) (by omega) (by omega) hbl HX0.out (by omega) HA0.out;refine hget.mono ?_;clear hget hbl;rintro e v0 ⟨rfl,hA,hC⟩;have hcc:=HC0.out.trans hC (fun _ h=>.inl (.inl h));have hT:=Ck hC HT0.out;have hP:=(hcc.block w.heap.size (by omega) (by omega)).trans HP6.out;have hxx:=Cq hP 0;obtain⟨HX1,HA1,HT1,HC1⟩:=Hd4 hxx hA hT hcc;clear hA hC hcc hT hP hxx;go_wp2_with fail;have hbl:BytesAt v0 (fun k=>k≠w5.heap.size) (.slice (some ⟨g,off,none⟩) 256 cap) l:=(HL6.out.kept HC1.out (fun k hk h=>by have hk':k<w.heap.size:=hk;omega)).mono (fun k (hk:k<w.heap.size)=>by omega);have hget:=GC 4 20 w.heap.size w5.heap.size l 256 cap g off HL.out (by omega) (by omega) (by omega) hbl HX1.out (by omega) HA1.out;refine hget.mono ?_;clear hget hbl;rintro e v1 ⟨rfl,hA,hC⟩;have hcc:=HC1.out.trans hC (fun _ h=>.inl (.inl h));have hT:=Ck hC HT1.out;have hP:=(hcc.block w.heap.size (by omega) (by omega)).trans HP6.out;have hxx:=Cq hP 0;have hfT:∀j:Nat,v1.frozen? ⟨w5.heap.size+1,j,none⟩=false:=fun j=>frozen_of_row _ _ _ _ _ hT
 have ht1:=Cq hT 1;have ht2:=Cq hT 2;obtain⟨u1,hu⟩:=Xq (((v1.setCell ⟨w5.heap.size+1,1,none⟩ (.int .i64 (Ae (seg l 16 4):Nat))).setCell ⟨w5.heap.size+1,2,none⟩ (.int .i64 (Ae (seg l 20 4):Nat))));have hTu:u1.heap[w5.heap.size+1]?=some (.cells #[.int .i64 0,.int .i64 (Ae (seg l 16 4):Nat),.int .i64 (Ae (seg l 20 4):Nat),.int .i64 0,.int .i64 0,.slice none 0 0] 130 (0,0)):=by rw[←hu];exact(Sc _ _ 2 _ _ (.int .i64 (Ae (seg l 20 4):Nat)) (Sc _ _ 1 _ _ (.int .i64 (Ae (seg l 16 4):Nat)) hT))
 have hcs:Chg (fun k=>k=w5.heap.size∨k=w5.heap.size+1) v1 u1:=by rw[←hu];exact((Chg.setCell _ _ (.inr rfl)).trans (Chg.setCell _ _ (.inr rfl)) (fun _ h=>.inl h))
 have hneA:w5.heap.size≠w5.heap.size+1:=by omega
 have hAu:u1.heap[w5.heap.size]?=v1.heap[w5.heap.size]?:=by rw[←hu,Dl _ _ _ _ _ hneA,Dl _ _ _ _ _ hneA]
 have hccu:=hcc.trans hcs (fun _ h=>.inl h);have hPu:=(hccu.block w.heap.size (by omega) (by omega)).trans HP6.out;have hxu:=Cq hPu 0;obtain⟨HX2,HA2,HT2,HC2,HU⟩:=Hd5 hxu (hAu.trans hA) hTu hccu hu;clear hA hC hcc hT hP hxx hu hTu hcs hAu hccu hPu hxu hneA;go_wp2_with fail;rw[HU.out];clear HU hfT ht1 ht2;have hbl:BytesAt u1 (fun k=>k≠w5.heap.size) (.slice (some ⟨g,off,none⟩) 256 cap) l:=(HL6.out.kept HC2.out (fun k hk h=>by have hk':k<w.heap.size:=hk;omega)).mono (fun k (hk:k<w.heap.size)=>by omega);have hget:=GC 2 24 w.heap.size w5.heap.size l 256 cap g off HL.out (by omega) (by omega) (by omega) hbl HX2.out (by omega) HA2.out;refine hget.mono ?_;clear hget hbl;rintro e v2 ⟨rfl,hA,hC⟩;have hcc:=HC2.out.trans hC (fun _ h=>.inl (.inl h));have hT:=Ck hC HT2.out;have hP:=(hcc.block w.heap.size (by omega) (by omega)).trans HP6.out;have hxx:=Cq hP 0;obtain⟨HX3,HA3,HT3,HC3⟩:=Hd4 hxx hA hT hcc;clear hA hC hcc hT hP hxx;go_wp2_with fail;have hbl:BytesAt v2 (fun k=>k≠w5.heap.size) (.slice (some ⟨g,off,none⟩) 256 cap) l:=(HL6.out.kept HC3.out (fun k hk h=>by have hk':k<w.heap.size:=hk;omega)).mono (fun k (hk:k<w.heap.size)=>by omega);have hget:=GC 2 26 w.heap.size w5.heap.size l 256 cap g off HL.out (by omega) (by omega) (by omega) hbl HX3.out (by omega) HA3.out;refine hget.mono ?_;clear hget hbl;rintro e v3 ⟨rfl,hA,hC⟩;have hcc:=HC3.out.trans hC (fun _ h=>.inl (.inl h));have hT:=Ck hC HT3.out;have hP:=(hcc.block w.heap.size (by omega) (by omega)).trans HP6.out;have hxx:=Cq hP 0;obtain⟨HX4,HA4,HT4,HC4⟩:=Hd4 hxx hA hT hcc;clear hA hC hcc hT hP hxx;go_wp2_with fail;have hbl:BytesAt v3 (fun k=>k≠w5.heap.size) (.slice (some ⟨g,off,none⟩) 256 cap) l:=(HL6.out.kept HC4.out (fun k hk h=>by have hk':k<w.heap.size:=hk;omega)).mono (fun k (hk:k<w.heap.size)=>by omega);have hget:=GC 2 28 w.heap.size w5.heap.size l 256 cap g off HL.out (by omega) (by omega) (by omega) hbl HX4.out (by omega) HA4.out;refine hget.mono ?_;clear hget hbl;rintro e v4 ⟨rfl,hA,hC⟩;have hcc:=HC4.out.trans hC (fun _ h=>.inl (.inl h));have hT:=Ck hC HT4.out;have hP:=(hcc.block w.heap.size (by omega) (by omega)).trans HP6.out;have hxx:=Cq hP 0;have hfT:∀j:Nat,v4.frozen? ⟨w5.heap.size+1,j,none⟩=false:=fun j=>frozen_of_row _ _ _ _ _ hT
 have ht0:=Cq hT 0;have ht3:=Cq hT 3;have ht4:=Cq hT 4;obtain⟨u4,hu⟩:=Xq ((((v4.setCell ⟨w5.heap.size+1,0,none⟩ (.int .i64 (Ae (seg l 24 2):Nat))).setCell ⟨w5.heap.size+1,3,none⟩ (.int .i64 (Ae (seg l 26 2):Nat))).setCell ⟨w5.heap.size+1,4,none⟩ (.int .i64 (Ae (seg l 28 2):Nat))));have hTu:u4.heap[w5.heap.size+1]?=some (.cells #[.int .i64 (Ae (seg l 24 2):Nat),.int .i64 (Ae (seg l 16 4):Nat),.int .i64 (Ae (seg l 20 4):Nat),.int .i64 (Ae (seg l 26 2):Nat),.int .i64 (Ae (seg l 28 2):Nat),.slice none 0 0] 130 (0,0)):=by rw[←hu];exact(Sc _ _ 4 _ _ (.int .i64 (Ae (seg l 28 2):Nat)) (Sc _ _ 3 _ _ (.int .i64 (Ae (seg l 26 2):Nat)) (Sc _ _ 0 _ _ (.int .i64 (Ae (seg l 24 2):Nat)) hT)))
 have hcs:Chg (fun k=>k=w5.heap.size∨k=w5.heap.size+1) v4 u4:=by rw[←hu];exact(((Chg.setCell _ _ (.inr rfl)).trans (Chg.setCell _ _ (.inr rfl)) (fun _ h=>.inl h)).trans (Chg.setCell _ _ (.inr rfl)) (fun _ h=>.inl h))
 have hneA:w5.heap.size≠w5.heap.size+1:=by omega
 have hAu:u4.heap[w5.heap.size]?=v4.heap[w5.heap.size]?:=by rw[←hu,Dl _ _ _ _ _ hneA,Dl _ _ _ _ _ hneA,Dl _ _ _ _ _ hneA]
 have hccu:=hcc.trans hcs (fun _ h=>.inl h);have hPu:=(hccu.block w.heap.size (by omega) (by omega)).trans HP6.out;have hxu:=Cq hPu 0;obtain⟨HX5,HA5,HT5,HC5,HU⟩:=Hd5 hxu (hAu.trans hA) hTu hccu hu;clear hA hC hcc hT hP hxx hu hTu hcs hAu hccu hPu hxu hneA;go_wp2_with fail;rw[HU.out];clear HU hfT ht0 ht3 ht4;have hbl:BytesAt u4 (fun k=>k≠w5.heap.size) (.slice (some ⟨g,off,none⟩) 256 cap) l:=(HL6.out.kept HC5.out (fun k hk h=>by have hk':k<w.heap.size:=hk;omega)).mono (fun k (hk:k<w.heap.size)=>by omega);have hget:=GC 2 30 w.heap.size w5.heap.size l 256 cap g off HL.out (by omega) (by omega) (by omega) hbl HX5.out (by omega) HA5.out;obtain⟨sz,hsz⟩:=Xq (Ae (seg l 30 2));rw[hsz]at hget;have HSZL:=Hd hsz;refine hget.mono ?_;clear hget hbl;rintro e v5 ⟨rfl,hA,hC⟩;have hcc:=HC5.out.trans hC (fun _ h=>.inl (.inl h));have hT:=Ck hC HT5.out;have hP:=(hcc.block w.heap.size (by omega) (by omega)).trans HP6.out;have hxx:=Cq hP 0;obtain⟨HX6,HA6,HT6,HC6⟩:=Hd4 hxx hA hT hcc;clear hA hC hcc hT hP hxx;have hbv5:Below w.heap.size w v5:=HB6.out.trans (HC6.out.below (fun k h=>by omega) (by omega));have hRv:=(HC6.out.block (w.heap.size+1) (by omega) (by omega)).trans HR6.out;have hr5:∀j:Nat,v5.frozen? ⟨w.heap.size+1,j,none⟩=false:=fun j=>frozen_of_row _ _ _ _ _ hRv
 have hy0:=Cq hRv 0;have hy1:=Cq hRv 1;have hy2:=Cq hRv 2;have hy3:=Cq hRv 3;have hy4:=Cq hRv 4;have hy5:=Cq hRv 5;have hxv:=HX6.out;have hlv:BytesAt v5 (fun k=>k<w.heap.size) (.slice (some ⟨g,off,none⟩) 256 cap) l:=HL6.out.kept HC6.out (fun k hk h=>by have hk':k<w.heap.size:=hk;omega);have hszq:szL l=sz:=HSZL.out;have hszb:sz≤65535:=by have h1:=FE (seg l 30 2);rw[HSZL.out,GO _ _ _ (by rw[HL.out];omega)]at h1;omega
 obtain⟨HBV,HRV,HLV,HSZQ⟩:=Hd4 hbv5 hRv hlv hszq;clear hbv5 hRv hlv hszq HA0 HA1 HA2 HA3 HA4 HA5 HT0 HT1 HT2 HT3 HT4 HT5 HC0 HC1 HC2 HC3 HC4 HC5 HX0 HX1 HX2 HX3 HX4 HX5;have hdE:Al l=(if szL l≤224∧BA (l.drop (32+szL l))=true∧B8 (Bn l)=0 then 0 else 3):=by unfold Al;rw[In (by rw[HL.out];omega),In (by rw[HL.out];omega),In (by rw[HS.out];simp)]
 have HDE:=Hd hdE;clear hdE;by_cases h224:224<sz
 ·have h3:Al l=3:=by rw[HDE.out,In (by rw[HSZQ.out];omega)]
  have HD3:=Hd h3;clear h3;go_wp2_with fail;exact Bv (hr:=by simp[go_sem,hy0,hy1,hy2,hy3,hy4,hy5]) (.tuple #[.agg #[.int .i64 0,.int .i64 0,.int .i64 0,.int .i64 0,.int .i64 0,.slice none 0 0],.int .i64 3]) (DecPost.no HD3.out (by decide) ((((((HBV.out.setCell (by show w.heap.size≤w.heap.size+1;omega) _).setCell (by show w.heap.size≤w.heap.size+1;omega) _).setCell (by show w.heap.size≤w.heap.size+1;omega) _).setCell (by show w.heap.size≤w.heap.size+1;omega) _).setCell (by show w.heap.size≤w.heap.size+1;omega) _).setCell (by show w.heap.size≤w.heap.size+1;omega) _))
 ·have h224':sz≤224:=by omega
  have hsegl:(seg l 32 sz).length=sz:=GO _ _ _ (by rw[HL.out];omega);have hrb:(Bn l).bytes=seg l 32 sz:=by unfold Bn;rw[HSZQ.out]
  have HSEG:=Hd hsegl;have HRB:=Hd hrb;clear h224 hsegl hrb;by_cases hck:cap=32+sz
  ·obtain rfl :sz=224:=by omega
   obtain rfl :cap=256:=by omega
   clear hck;have hblank:BytesAt v5 (fun _=>True) (.slice (some ⟨g,off,none⟩) (0) (0)) (l.drop (32+224)):=by rw[List.drop_of_length_le (by have:=HL.out;omega)];exact Dp _ _ _ _
   by_cases hz:BA (l.drop (32+224))=true
   ·have hIB:Ca 92 #[.slice (some ⟨g,off,none⟩) (0) (0)] v5 (fun e w'=>e=.returned (.bool true)∧v5=w'):=
     (EP hblank (by simp;have:=HL.out;omega)).mono fun e w' ⟨h1,h2⟩=>⟨by rw[h1,hz],h2⟩
    have hlv:=HLV.out;rw[←HL.out]at hlv;have hcl0:=hlv.part 32 224 (256-32) (by rw[HL.out];omega) (by omega);have hcl:Ca 51 #[.slice (some ⟨g,off+32,none⟩) 224 (256-32)] v5 (fun e w'=>∃v,e=.returned v∧w'.ownsRow v5.heap.size 5 1 v (seg l 32 224).length (bvs (seg l 32 224))∧Below v5.heap.size v5 w'):=GA hcl0 (by have:=HSEG.out;omega);obtain⟨HIB,HCL,HZ⟩:=Hd3 hIB hcl hz;clear hblank hIB hlv hcl0 hcl hz;go_wp2_with fail;refine HIB.out.mono ?_;rintro e v' ⟨rfl,rfl⟩;go_wp2_with fail;refine HCL.out.mono ?_;rintro e y ⟨cv,rfl,hO,hY⟩;obtain⟨ca,cc,rfl⟩:=Ag hO;rw[HSEG.out]at hO⊢;have hTl:=(Ax HT6.out).1;have hTy:=(hY.block (w5.heap.size+1) hTl).trans HT6.out;have hRl:=(Ax HRV.out).1;have hRy:=(hY.block (w.heap.size+1) hRl).trans HRV.out;have hfy:∀j:Nat,y.frozen? ⟨w5.heap.size+1,j,none⟩=false:=fun j=>frozen_of_row _ _ _ _ _ hTy
    have hty0:=Cq hTy 0;have hty1:=Cq hTy 1;have hty2:=Cq hTy 2;have hty3:=Cq hTy 3;have hty4:=Cq hTy 4;have hty5:=Cq hTy 5;obtain⟨y2,hy2'⟩:=Xq (y.setCell ⟨w5.heap.size+1,5,none⟩ (.slice ca 224 cc));have hT2:y2.heap[w5.heap.size+1]?=some (.cells #[.int .i64 (Ae (seg l 24 2):Nat),.int .i64 (Ae (seg l 16 4):Nat),.int .i64 (Ae (seg l 20 4):Nat),.int .i64 (Ae (seg l 26 2):Nat),.int .i64 (Ae (seg l 28 2):Nat),.slice ca 224 cc] 130 (0,0)):=by rw[←hy2'];exact Sc _ _ 5 _ _ (.slice ca 224 cc) hTy
    have hR2':y2.heap[w.heap.size+1]?=some (.cells #[.int .i64 0,.int .i64 0,.int .i64 0,.int .i64 0,.int .i64 0,.slice none 0 0] 130 (0,0)):=by rw[←hy2',Dl _ _ _ _ _ (by omega)];exact hRy
    have hc2:Chg (fun k=>k=w5.heap.size+1) y y2:=by rw[←hy2'];exact Chg.setCell _ _ rfl
    have hO2:y2.ownsRow v5.heap.size 5 1 (.slice ca 224 cc) 224 (bvs (seg l 32 224)):=AT hO hc2 (fun k h1 _ h3=>by have:k=w5.heap.size+1:=h3;omega);have hB2':Below w.heap.size w y2:=(HBV.out.trans (hY.mono (by omega))).trans (hc2.below (fun k h=>by omega) (by have:=hY.size;omega));have hchk:Ca 93 #[.agg #[.int .i64 (Ae (seg l 24 2):Nat),.int .i64 (Ae (seg l 16 4):Nat),.int .i64 (Ae (seg l 20 4):Nat),.int .i64 (Ae (seg l 26 2):Nat),.int .i64 (Ae (seg l 28 2):Nat),.slice ca 224 cc]] y2 (fun e w'=>e=.returned (.int .i64 (B8 (Bn l)))∧Below y2.heap.size y2 w'):=I7 (Bn l) ca 224 cc (by rw[HRB.out];exact HSEG.out) y2;obtain⟨HCHK,HY2,HT2,HRR2,HO2,HBB2⟩:=Hd6 hchk hy2' hT2 hR2' hO2 hB2';clear hO hY hTl hTy hRl hRy hy2' hT2 hR2' hc2 hO2 hB2' hchk;go_wp2_with fail;rw[HY2.out];clear hfy hty0 hty1 hty2 hty3 hty4 hty5 hy0 hy1 hy2 hy3 hy4 hy5 hr5 HY2;have hr5:True:=trivial;by_cases hk:B8 (Bn l)=0
    ·have hk2:(B8 (Bn l)!=0)=false:=by simp[hk]
     have hd0:Al l=0:=by rw[HDE.out,Ip ⟨by rw[HSZQ.out];omega,by rw[HSZQ.out];exact HZ.out,hk⟩]
     have HD0:=Hd hd0;clear hk hd0;refine HCHK.out.mono ?_;rintro e z ⟨rfl,hZ⟩;have hTz:=Bq hZ HT2.out;have hRz:=Bq hZ HRR2.out;have htz0:=Cq hTz 0;have htz1:=Cq hTz 1;have htz2:=Cq hTz 2;have htz3:=Cq hTz 3;have htz4:=Cq hTz 4;have htz5:=Cq hTz 5;have hrz:∀j:Nat,z.frozen? ⟨w.heap.size+1,j,none⟩=false:=fun j=>frozen_of_row _ _ _ _ _ hRz
     have hz0:=Cq hRz 0;have hz1:=Cq hRz 1;have hz2:=Cq hRz 2;have hz3:=Cq hRz 3;have hz4:=Cq hRz 4;have hz5:=Cq hRz 5;have hOz:=An HO2.out hZ;have hBz:=Tq HBB2.out hZ;have hvR:w.heap.size+1<v5.heap.size:=(Ax HRV.out).1;have HOZ:=Hd hOz;have HBZ:=Hd hBz;clear hZ hTz hRz hOz hBz;go_wp2_with fail;refine Br (v:=.tuple #[.agg #[.int .i64 (Ae (seg l 24 2):Nat),.int .i64 (Ae (seg l 16 4):Nat),.int .i64 (Ae (seg l 20 4):Nat),.int .i64 (Ae (seg l 26 2):Nat),.int .i64 (Ae (seg l 28 2):Nat),.slice ca 224 cc],.int .i64 0]) (by simp[results,Tryz.results73,go_sem,hz0,hz1,hz2,hz3,hz4,hz5]) rfl ?_;refine DecPost.yes HD0.out (by rw[HRB.out];exact HSEG.out) ?_ ?_
     ·rw[HRB.out];refine Am (AT (G:=fun k=>k=w.heap.size+1) HOZ.out (EF _ _ _ _ _ _ _ _) (fun k h1 _ h3=>by have:k=w.heap.size+1:=h3;omega)) (by omega)
     ·exact HBZ.out.trans ((EF _ _ _ _ _ _ _ _).below (fun k h=>by have:k=w.heap.size+1:=h;omega) HBZ.out.size)
    ·have hk2:(B8 (Bn l)!=0)=true:=by simpa using hk
     have hd3:Al l=3:=by rw[HDE.out,In (fun h=>hk h.2.2)]
     have HD3:=Hd hd3;clear hk hd3;refine HCHK.out.mono ?_;rintro e z ⟨rfl,hZ⟩;have hRz:=Bq hZ HRR2.out;have hrz:∀j:Nat,z.frozen? ⟨w.heap.size+1,j,none⟩=false:=fun j=>frozen_of_row _ _ _ _ _ hRz
     have hy0:=Cq hRz 0;have hy1:=Cq hRz 1;have hy2:=Cq hRz 2;have hy3:=Cq hRz 3;have hy4:=Cq hRz 4;have hy5:=Cq hRz 5;have hBz:=Tq HBB2.out hZ;have HBZ:=Hd hBz;clear hZ hRz hBz;go_wp2_with fail;exact Bv (hr:=by simp[go_sem,hy0,hy1,hy2,hy3,hy4,hy5]) (.tuple #[.agg #[.int .i64 0,.int .i64 0,.int .i64 0,.int .i64 0,.int .i64 0,.slice none 0 0],.int .i64 3]) (DecPost.no HD3.out (by decide) ((((((HBZ.out.setCell (by show w.heap.size≤w.heap.size+1;omega) _).setCell (by show w.heap.size≤w.heap.size+1;omega) _).setCell (by show w.heap.size≤w.heap.size+1;omega) _).setCell (by show w.heap.size≤w.heap.size+1;omega) _).setCell (by show w.heap.size≤w.heap.size+1;omega) _).setCell (by show w.heap.size≤w.heap.size+1;omega) _))
   ·have hz':BA (l.drop (32+224))=false:=by simpa using hz
    have hIB:Ca 92 #[.slice (some ⟨g,off,none⟩) (0) (0)] v5 (fun e w'=>e=.returned (.bool false)∧v5=w'):=
     (EP hblank (by simp;have:=HL.out;omega)).mono fun e w' ⟨h1,h2⟩=>⟨by rw[h1,hz'],h2⟩
    have hd3:Al l=3:=by rw[HDE.out,In (fun h=>hz (by rw[HSZQ.out]at h;exact h.2.1))]
    have HIB:=Hd hIB;have HD3:=Hd hd3;clear hblank hIB hz hz' hd3;go_wp2_with fail;refine HIB.out.mono ?_;rintro e v' ⟨rfl,rfl⟩;go_wp2_with fail;exact Bv (hr:=by simp[go_sem,hy0,hy1,hy2,hy3,hy4,hy5]) (.tuple #[.agg #[.int .i64 0,.int .i64 0,.int .i64 0,.int .i64 0,.int .i64 0,.slice none 0 0],.int .i64 3]) (DecPost.no HD3.out (by decide) ((((((HBV.out.setCell (by show w.heap.size≤w.heap.size+1;omega) _).setCell (by show w.heap.size≤w.heap.size+1;omega) _).setCell (by show w.heap.size≤w.heap.size+1;omega) _).setCell (by show w.heap.size≤w.heap.size+1;omega) _).setCell (by show w.heap.size≤w.heap.size+1;omega) _).setCell (by show w.heap.size≤w.heap.size+1;omega) _))
  ·have hc32:¬cap=32:=by omega
   have hblank:BytesAt v5 (fun _=>True) (.slice (some ⟨g,off+(32+sz),none⟩) (256-(32+sz)) (cap-(32+sz))) (l.drop (32+sz)):=by have hlv:=HLV.out.any;rw[←HL.out]at hlv;have h1:=hlv.part (32+sz) (256-(32+sz)) (cap-(32+sz)) (by rw[HL.out];omega) (by omega);rwa [List.take_of_length_le (by simp;have:=HL.out;omega)]at h1
   by_cases hz:BA (l.drop (32+sz))=true
   ·have hIB:Ca 92 #[.slice (some ⟨g,off+(32+sz),none⟩) (256-(32+sz)) (cap-(32+sz))] v5 (fun e w'=>e=.returned (.bool true)∧v5=w'):=
     (EP hblank (by simp;have:=HL.out;omega)).mono fun e w' ⟨h1,h2⟩=>⟨by rw[h1,hz],h2⟩
    have hlv:=HLV.out;rw[←HL.out]at hlv;have hcl0:=hlv.part 32 sz (cap-32) (by rw[HL.out];omega) (by omega);have hcl:Ca 51 #[.slice (some ⟨g,off+32,none⟩) sz (cap-32)] v5 (fun e w'=>∃v,e=.returned v∧w'.ownsRow v5.heap.size 5 1 v (seg l 32 sz).length (bvs (seg l 32 sz))∧Below v5.heap.size v5 w'):=GA hcl0 (by have:=HSEG.out;omega);obtain⟨HIB,HCL,HZ⟩:=Hd3 hIB hcl hz;clear hblank hIB hlv hcl0 hcl hz;go_wp2_with fail;refine HIB.out.mono ?_;rintro e v' ⟨rfl,rfl⟩;go_wp2_with fail;refine HCL.out.mono ?_;rintro e y ⟨cv,rfl,hO,hY⟩;obtain⟨ca,cc,rfl⟩:=Ag hO;rw[HSEG.out]at hO⊢;have hTl:=(Ax HT6.out).1;have hTy:=(hY.block (w5.heap.size+1) hTl).trans HT6.out;have hRl:=(Ax HRV.out).1;have hRy:=(hY.block (w.heap.size+1) hRl).trans HRV.out;have hfy:∀j:Nat,y.frozen? ⟨w5.heap.size+1,j,none⟩=false:=fun j=>frozen_of_row _ _ _ _ _ hTy
    have hty0:=Cq hTy 0;have hty1:=Cq hTy 1;have hty2:=Cq hTy 2;have hty3:=Cq hTy 3;have hty4:=Cq hTy 4;have hty5:=Cq hTy 5;obtain⟨y2,hy2'⟩:=Xq (y.setCell ⟨w5.heap.size+1,5,none⟩ (.slice ca sz cc));have hT2:y2.heap[w5.heap.size+1]?=some (.cells #[.int .i64 (Ae (seg l 24 2):Nat),.int .i64 (Ae (seg l 16 4):Nat),.int .i64 (Ae (seg l 20 4):Nat),.int .i64 (Ae (seg l 26 2):Nat),.int .i64 (Ae (seg l 28 2):Nat),.slice ca sz cc] 130 (0,0)):=by rw[←hy2'];exact Sc _ _ 5 _ _ (.slice ca sz cc) hTy
    have hR2':y2.heap[w.heap.size+1]?=some (.cells #[.int .i64 0,.int .i64 0,.int .i64 0,.int .i64 0,.int .i64 0,.slice none 0 0] 130 (0,0)):=by rw[←hy2',Dl _ _ _ _ _ (by omega)];exact hRy
    have hc2:Chg (fun k=>k=w5.heap.size+1) y y2:=by rw[←hy2'];exact Chg.setCell _ _ rfl
    have hO2:y2.ownsRow v5.heap.size 5 1 (.slice ca sz cc) sz (bvs (seg l 32 sz)):=AT hO hc2 (fun k h1 _ h3=>by have:k=w5.heap.size+1:=h3;omega);have hB2':Below w.heap.size w y2:=(HBV.out.trans (hY.mono (by omega))).trans (hc2.below (fun k h=>by omega) (by have:=hY.size;omega));have hchk:Ca 93 #[.agg #[.int .i64 (Ae (seg l 24 2):Nat),.int .i64 (Ae (seg l 16 4):Nat),.int .i64 (Ae (seg l 20 4):Nat),.int .i64 (Ae (seg l 26 2):Nat),.int .i64 (Ae (seg l 28 2):Nat),.slice ca sz cc]] y2 (fun e w'=>e=.returned (.int .i64 (B8 (Bn l)))∧Below y2.heap.size y2 w'):=I7 (Bn l) ca sz cc (by rw[HRB.out];exact HSEG.out) y2;obtain⟨HCHK,HY2,HT2,HRR2,HO2,HBB2⟩:=Hd6 hchk hy2' hT2 hR2' hO2 hB2';clear hO hY hTl hTy hRl hRy hy2' hT2 hR2' hc2 hO2 hB2' hchk;go_wp2_with fail;rw[HY2.out];clear hfy hty0 hty1 hty2 hty3 hty4 hty5 hy0 hy1 hy2 hy3 hy4 hy5 hr5 HY2;have hr5:True:=trivial;by_cases hk:B8 (Bn l)=0
    ·have hk2:(B8 (Bn l)!=0)=false:=by simp[hk]
     have hd0:Al l=0:=by rw[HDE.out,Ip ⟨by rw[HSZQ.out];omega,by rw[HSZQ.out];exact HZ.out,hk⟩]
     have HD0:=Hd hd0;clear hk hd0;refine HCHK.out.mono ?_;rintro e z ⟨rfl,hZ⟩;have hTz:=Bq hZ HT2.out;have hRz:=Bq hZ HRR2.out;have htz0:=Cq hTz 0;have htz1:=Cq hTz 1;have htz2:=Cq hTz 2;have htz3:=Cq hTz 3;have htz4:=Cq hTz 4;have htz5:=Cq hTz 5;have hrz:∀j:Nat,z.frozen? ⟨w.heap.size+1,j,none⟩=false:=fun j=>frozen_of_row _ _ _ _ _ hRz
     have hz0:=Cq hRz 0;have hz1:=Cq hRz 1;have hz2:=Cq hRz 2;have hz3:=Cq hRz 3;have hz4:=Cq hRz 4;have hz5:=Cq hRz 5;have hOz:=An HO2.out hZ;have hBz:=Tq HBB2.out hZ;have hvR:w.heap.size+1<v5.heap.size:=(Ax HRV.out).1;have HOZ:=Hd hOz;have HBZ:=Hd hBz;clear hZ hTz hRz hOz hBz;go_wp2_with fail;refine Br (v:=.tuple #[.agg #[.int .i64 (Ae (seg l 24 2):Nat),.int .i64 (Ae (seg l 16 4):Nat),.int .i64 (Ae (seg l 20 4):Nat),.int .i64 (Ae (seg l 26 2):Nat),.int .i64 (Ae (seg l 28 2):Nat),.slice ca sz cc],.int .i64 0]) (by simp[results,Tryz.results73,go_sem,hz0,hz1,hz2,hz3,hz4,hz5]) rfl ?_;refine DecPost.yes HD0.out (by rw[HRB.out];exact HSEG.out) ?_ ?_
     ·rw[HRB.out];refine Am (AT (G:=fun k=>k=w.heap.size+1) HOZ.out (EF _ _ _ _ _ _ _ _) (fun k h1 _ h3=>by have:k=w.heap.size+1:=h3;omega)) (by omega)
     ·exact HBZ.out.trans ((EF _ _ _ _ _ _ _ _).below (fun k h=>by have:k=w.heap.size+1:=h;omega) HBZ.out.size)
    ·have hk2:(B8 (Bn l)!=0)=true:=by simpa using hk
     have hd3:Al l=3:=by rw[HDE.out,In (fun h=>hk h.2.2)]
     have HD3:=Hd hd3;clear hk hd3;refine HCHK.out.mono ?_;rintro e z ⟨rfl,hZ⟩;have hRz:=Bq hZ HRR2.out;have hrz:∀j:Nat,z.frozen? ⟨w.heap.size+1,j,none⟩=false:=fun j=>frozen_of_row _ _ _ _ _ hRz
     have hy0:=Cq hRz 0;have hy1:=Cq hRz 1;have hy2:=Cq hRz 2;have hy3:=Cq hRz 3;have hy4:=Cq hRz 4;have hy5:=Cq hRz 5;have hBz:=Tq HBB2.out hZ;have HBZ:=Hd hBz;clear hZ hRz hBz;go_wp2_with fail;exact Bv (hr:=by simp[go_sem,hy0,hy1,hy2,hy3,hy4,hy5]) (.tuple #[.agg #[.int .i64 0,.int .i64 0,.int .i64 0,.int .i64 0,.int .i64 0,.slice none 0 0],.int .i64 3]) (DecPost.no HD3.out (by decide) ((((((HBZ.out.setCell (by show w.heap.size≤w.heap.size+1;omega) _).setCell (by show w.heap.size≤w.heap.size+1;omega) _).setCell (by show w.heap.size≤w.heap.size+1;omega) _).setCell (by show w.heap.size≤w.heap.size+1;omega) _).setCell (by show w.heap.size≤w.heap.size+1;omega) _).setCell (by show w.heap.size≤w.heap.size+1;omega) _))
   ·have hz':BA (l.drop (32+sz))=false:=by simpa using hz
    have hIB:Ca 92 #[.slice (some ⟨g,off+(32+sz),none⟩) (256-(32+sz)) (cap-(32+sz))] v5 (fun e w'=>e=.returned (.bool false)∧v5=w'):=
     (EP hblank (by simp;have:=HL.out;omega)).mono fun e w' ⟨h1,h2⟩=>⟨by rw[h1,hz'],h2⟩
    have hd3:Al l=3:=by rw[HDE.out,In (fun h=>hz (by rw[HSZQ.out]at h;exact h.2.1))]
    have HIB:=Hd hIB;have HD3:=Hd hd3;clear hblank hIB hz hz' hd3;go_wp2_with fail;refine HIB.out.mono ?_;rintro e v' ⟨rfl,rfl⟩;go_wp2_with fail;exact Bv (hr:=by simp[go_sem,hy0,hy1,hy2,hy3,hy4,hy5]) (.tuple #[.agg #[.int .i64 0,.int .i64 0,.int .i64 0,.int .i64 0,.int .i64 0,.slice none 0 0],.int .i64 3]) (DecPost.no HD3.out (by decide) ((((((HBV.out.setCell (by show w.heap.size≤w.heap.size+1;omega) _).setCell (by show w.heap.size≤w.heap.size+1;omega) _).setCell (by show w.heap.size≤w.heap.size+1;omega) _).setCell (by show w.heap.size≤w.heap.size+1;omega) _).setCell (by show w.heap.size≤w.heap.size+1;omega) _).setCell (by show w.heap.size≤w.heap.size+1;omega) _))
variable {P:Program}{ops:Array Oper}{o:Oper}{a:Act}{Q:Exit→Act→World→Prop}
theorem Qv (x:UInt32) (n:Nat) (h1:0<n) (h2:n<32) (w:World):
 Ca 112 #[.int .u32 (wN x),.int .i64 n] w fun e w'=>e=.returned (.int .u32 (wN (BS x n)))∧∃m,w'=w.drewN m:=by
 have hb1:(0:Int)<(n:Int):=by omega
 have hb2:(n:Int)<32:=by omega
 have hw:=Iw (32-(n:Int));go_enter Tryz.func112,Tryz.ntmps112;go_wp2_with fail;go_quiet (fail);go_wp2_with fail;go_ret;refine⟨?_,_,rfl⟩;show Ending.returned (.int .u32 _)=_;rw[Pc x n h1 h2]
theorem Iz (l:List UInt32) (h:l.length=64):(Tryz.prog.info? 191).map (·.size)=some (wvs l).toArray.size:=by
 have:(Tryz.prog.info? 191).map (·.size)=some 64:=by kernel_rfl
 rw[this,List.size_toArray,Ep,h]
theorem L3 {rest:List Oper} (hgd:o.guard=none) (v:Value) (hr:(execOp a.eval o).run P w=.ok (.value v) w)
 (h:wpList P ops Q rest (a.put o.dst v) w):wpList P ops Q (o::rest) a w:=by
 refine wpList_plain hgd fun _ hK=>?_
 unfold Oper.wp;rw[hr];exact hK _ _ h
theorem Oj (w:World):Ca 109 #[] w fun e w'=>e=.returned (.agg (wvs kTab).toArray)∧Below w.heap.size w w':=by
 go_enter Tryz.func109,Tryz.ntmps109;go_upto_region 1 with(fail)
 go_step;refine L3 rfl (.agg (wvs kTab).toArray) (by kernel_rfl) ?_;have hsz:=Iz kTab rfl;have hzs:(Zw:Array Value).size=(wvs kTab).toArray.size:=rfl;refine wpList_store_row rfl 191 _ _ rfl w.heap.size (wvs kTab).toArray rfl rfl 191 _ (Hn) hsz hzs (DY _) ?_;rw[World.setRow_alloc_new];have hn:=heap_alloc_new w (.cells (wvs kTab).toArray 191);obtain⟨W,hW⟩:=Xq (w.alloc (.cells (wvs kTab).toArray 191));have hb:=Lq hW;rw[hW]at hn⊢;clear hW;go_wp2;refine Br (v:=.agg (wvs kTab).toArray) ?r1 rfl ?r2
 case r1=>exact results_cell_row (g:=w.heap.size) rfl _ _ _ _ _ _ rfl hn Tryz.underlying191 rfl hsz
 case r2=>exact⟨rfl,hb⟩
variable {B:Nat}
structure BytesN (w:World) (F:Nat→Prop) (v:Value) (l:List UInt8):Prop where
 at_:BytesAt w F v l
 nil:∀k c,v=.slice none k c→c=0
theorem BytesN.kept (h:BytesN w F v l) (hc:Chg G w w') (hd:∀k,F k→¬G k):BytesN w' F v l:=⟨h.at_.kept hc hd,h.nil⟩
theorem BytesN.below (h:BytesN w F v l) (hb:Below w.heap.size w w'):BytesN w' F v l:=h.kept (G:=fun _=>False) (Cb hb) (fun _ _ h=>h)
theorem BytesN.of_own (h:w.ownsRow B 5 1 v n (bvs l)) (hn:l.length=n):BytesN w (fun k=>B≤k) v l:=
 ⟨Cy h hn,fun k c e=>by
  rcases h.2 with⟨e2,_⟩| ⟨g,cap,cur,e2,_⟩
  ·rw[e]at e2;cases e2;rfl
  ·rw[e]at e2;cases e2⟩
theorem Qw (l:List UInt8) (bv0:Value) (hv:BytesN w F bv0 l) (hlen:l.length<100000000):
 Ca 110 #[bv0] w fun e w'=>∃v,e=.returned v∧w'.ownsRow w.heap.size 5 1 v (l++C7 l.length).length (bvs (l++C7 l.length))∧Below w.heap.size w w':=by
 obtain⟨ba,bc,rfl,_⟩:=id hv.at_;obtain⟨N,hN⟩:=Xq (l.length);obtain⟨z,hz⟩:=Xq (zN N);have hz64:z<64:=by rw[←hz];unfold zN;omega
 have hmz:(N+1+z)%64=56:=by rw[←hz];unfold zN;omega
 have hmz2:∀j,j<z→(N+1+j)%64≠56:=by intro j hj;rw[←hz]at hj;unfold zN at hj;omega
 obtain⟨w1,hw1⟩:=Xq (w.alloc (.cells #[] 5));have hb1:Below w.heap.size w w1:=hw1▸(Below.refl _ w).alloc Lr _;have hs1:w1.heap.size=w.heap.size+1:=by rw[←hw1,Sz]
 have n1:w1.heap[w.heap.size]?=some (.cells #[] 5 (0,0)):=by rw[←hw1];exact heap_alloc_new w _
 have ho1:w1.ownsRow w.heap.size 5 1 (.slice (some ⟨w.heap.size,0,none⟩) 0 0) 0 (bvs []):=
  ⟨by decide,.inr ⟨w.heap.size,0,_,rfl,Nat.le_refl _,n1,by decide,by decide,by decide,rfl⟩⟩
 have hv1:=hv.below hb1;rw[hN]at hlen hv1⊢;obtain⟨HV1,HN,HZ,HMZ,HMZ2,HW1,HB1,HS1,HO1⟩:=Hd9 hv1 hN hz hmz hmz2 hw1 hb1 hs1 ho1;clear hv1 hv hN hz hmz hmz2 hw1 hb1 hs1 n1 ho1;go_enter Tryz.func110,Tryz.ntmps110;go_wp2_with (at_builtin;rw[HW1.out];refine BR rfl (.tmp 6) (.tmp 7) rfl rfl HO1.out rfl HV1.out.at_ HV1.out.nil (by have:=HN.out;omega) HB1.out.size ?_)
 intro a2 cap2 w2 hown2 hgr2
 try simp only[Nat.zero_add,List.nil_append]at hown2
 rw[HN.out]at hown2
 try rw[Nat.zero_add]
 rw[HN.out];have hb2:Below w.heap.size w w2:=HB1.out.grown hgr2 HB1.out.size (fun j hj=>(Ab HO1.out j hj).1);have HO2:=Hd hown2;have HB2:=Hd hb2;clear hown2 hgr2 hb2;have hgn:=heap_alloc_new w2 (.cells #[.int .u8 128] 5);have hba:Below w2.heap.size w2 (w2.alloc (.cells #[.int .u8 128] 5)):=Rq.alloc Lr _;have hgn2:(w2.alloc (.cells #[.int .u8 128] 5)).heap[w2.heap.size]?=some (.cells #[bv 128] 5 (0,0)):=by rw[hgn];rfl
 have hO3:=AT (G:=fun _=>False) HO2.out (Cb hba) (fun _ _ _ h=>h);have hB3:=Tq HB2.out hba;have hbs:w.heap.size≤(w2.alloc (.cells #[.int .u8 128] 5)).heap.size:=by have:=HB2.out.size;simp;omega
 obtain⟨HGN,HO3,HB3,HBS⟩:=Hd4 hgn2 hO3 hB3 hbs;clear hgn hba hO3 hB3 hbs hgn2;go_wp2_with (at_builtin;refine B9 rfl (.tmp 8) (.tmp 9) rfl rfl HO3.out w2.heap.size rfl HGN.out (by omega) HBS.out ?_)
 intro g' cap' w3 hlt5 hown5 hgr5 hat5;have hB5:Below w.heap.size w w3:=HB3.out.grown hgr5 HBS.out (fun j hj=>(Ab HO3.out j hj).1);have HO5:=Hd hown5;have HB5:=Hd hB5;clear hown5 hgr5 hat5 hB5 HGN HO3 HB3 HBS;have HO4:=HO5;have HB4:=HB5;clear HO5 HB5;go_wp2_with fail;go_loopw [3] (fun pv wr=>∃j:Nat,j≤z∧wr.ownsRow w.heap.size 5 1 pv (N+1+j) (bvs (l++[128]++List.replicate j 0))∧Below w.heap.size w wr)
  (fun pv _=>match pv with|.slice _ n _=>N+1+z-n|_=>0)
 case atStart=>exact⟨0,Nat.zero_le _,by rw[List.replicate_zero,List.append_nil];exact HO4.out,HB4.out⟩
 case round=>
  obtain⟨j,hj,hO,hB⟩:=hrel;obtain⟨pa,pc,rfl⟩:=Ag hO;have HO:=Hd hO;have HB:=Hd hB;clear hO hB;by_cases hlt:j<z
  ·have hmod:(((N:Int)+1+(j:Int))%64==56)=false:=by have:=HMZ2.out j hlt;simp;omega
   have hmod2:(((N:Int)+1+(j:Int))%64!=56)=true:=by have:=HMZ2.out j hlt;simp;omega
   have hgn:=heap_alloc_new wr (.cells #[.int .u8 0] 5);have hba:Below wr.heap.size wr (wr.alloc (.cells #[.int .u8 0] 5)):=Rq.alloc Lr _;have hgn2:(wr.alloc (.cells #[.int .u8 0] 5)).heap[wr.heap.size]?=some (.cells #[bv 0] 5 (0,0)):=by rw[hgn];rfl
   have hO3:=AT (G:=fun _=>False) HO.out (Cb hba) (fun _ _ _ h=>h);have hB3:=Tq HB.out hba;have hbs:w.heap.size≤(wr.alloc (.cells #[.int .u8 0] 5)).heap.size:=by have:=HB.out.size;simp;omega
   obtain⟨HGN,HO3,HB3,HBS⟩:=Hd4 hgn2 hO3 hB3 hbs;clear hgn hba hO3 hB3 hbs hgn2;go_wp2_with (at_builtin;refine B9 rfl (.tmp 15) (.tmp 16) rfl rfl HO3.out wr.heap.size rfl HGN.out (by omega) HBS.out ?_)
   intro g' cap' w5 hlt5 hown5 hgr5 hat5;have hB5:Below w.heap.size w w5:=HB3.out.grown hgr5 HBS.out (fun j hj=>(Ab HO3.out j hj).1);have HO5:=Hd hown5;have HB5:=Hd hB5;clear hown5 hgr5 hat5 hB5 HGN HO3 HB3 HBS;go_wp2_with fail;go_roundw
   case rel=>exact⟨j+1,by omega,by have h:=HO5.out;rw[List.replicate_succ'];simp only[List.append_assoc,List.cons_append,List.nil_append]at h⊢;exact h,HB5.out⟩
   case measure=>simp;omega
  ·obtain rfl :j=z:=by omega
   have hmod:(((N:Int)+1+(j:Int))%64==56)=true:=by have:=HMZ.out;simp;omega
   have hmod2:(((N:Int)+1+(j:Int))%64!=56)=false:=by have:=HMZ.out;simp;omega
   have hNb:(N:Int)≤1000000000:=by omega
   go_wp2_with fail;clear hmod hmod2;obtain⟨wa,rfl⟩:∃wa:World,wa=wr:=⟨_,rfl⟩;go_loopw [3,5] (fun pv i wr=>∃q:Nat,q≤8∧i=.int .i64 (7-(q:Int))∧wr.ownsRow w.heap.size 5 1 pv (N+1+j+q) (bvs (l++[128]++List.replicate j 0++(List.range q).map (Dj N)))∧Below w.heap.size w wr)
    (fun pv _ _=>match pv with|.slice _ n _=>N+1+j+8-n|_=>0)
   case atStart=>exact⟨0,Nat.zero_le _,rfl,by rw[List.range_zero,List.map_nil,List.append_nil];exact HO.out,HB.out⟩
   case round=>
    obtain⟨q,hq,rfl,hO,hB⟩:=hrel;obtain⟨qa,qc,rfl⟩:=Ag hO;have HO2:=Hd hO;have HB2:=Hd hB;clear hO hB;by_cases hq8:q<8
    ·have hge:(0:Int)≤7-(q:Int):=by omega
     have hval:(N:Int)*8/2^(8*(7-q))%256=((Dj N q).toNat:Int):=by unfold Dj;rw[show 8*(7-q)=56-8*q by omega];have e:(2:Int)^(56-8*q)=((2^(56-8*q):Nat):Int):=(Int.natCast_pow 2 _).symm;rw[e];simp
     have hgn:=heap_alloc_new wr (.cells #[.int .u8 ((Dj N q).toNat:Int)] 5);have hba:Below wr.heap.size wr (wr.alloc (.cells #[.int .u8 ((Dj N q).toNat:Int)] 5)):=Rq.alloc Lr _;have hgn2:(wr.alloc (.cells #[.int .u8 ((Dj N q).toNat:Int)] 5)).heap[wr.heap.size]?=some (.cells #[bv (Dj N q)] 5 (0,0)):=by rw[hgn];rfl
     have hO3:=AT (G:=fun _=>False) HO2.out (Cb hba) (fun _ _ _ h=>h);have hB3:=Tq HB2.out hba;have hbs:w.heap.size≤(wr.alloc (.cells #[.int .u8 ((Dj N q).toNat:Int)] 5)).heap.size:=by have:=HB2.out.size;simp;omega
     obtain⟨HGN,HO3,HB3,HBS⟩:=Hd4 hgn2 hO3 hB3 hbs;clear hgn hba hO3 hB3 hbs hgn2;go_wp2_with (at_builtin;refine B9 rfl (.tmp 26) (.tmp 32) rfl rfl HO3.out wr.heap.size rfl HGN.out (by omega) HBS.out ?_)
     intro g9 cap9 w6 hlt5 hown5 hgr5 hat5;have hB5:Below w.heap.size w w6:=HB3.out.grown hgr5 HBS.out (fun j hj=>(Ab HO3.out j hj).1);have HO5:=Hd hown5;have HB5:=Hd hB5;clear hown5 hgr5 hat5 hB5 HGN HO3 HB3 HBS hval;go_wp2_with fail;go_roundw
     case rel=>exact⟨q+1,by omega,by go_num,by have h:=HO5.out;rw[Ju];simp only[List.append_assoc,List.cons_append,List.nil_append]at h⊢;exact h,HB5.out⟩
     case measure=>simp;omega
    ·obtain rfl :q=8:=by omega
     have hge:¬(0:Int)≤7-((8:Nat):Int):=by omega
     have hP:l++[128]++List.replicate j 0++(List.range 8).map (Dj N)=l++C7 N:=by unfold C7;rw[HZ.out];simp
     have hl:(l++C7 N).length=N+1+j+8:=by rw[List.length_append,D1,HZ.out,HN.out];omega
     have HP:=Hd hP;have HL:=Hd hl;clear hP hl;go_wp2_with fail;go_ret;exact⟨_,rfl,by have h:=HO2.out;rw[HP.out]at h;have h2:=HL.out;rw[List.length_append]at h2;rw[h2];exact h,HB2.out⟩
theorem GD (x:UInt32) (k:Int) (h1:0<k) (h2:k<32) (w:World):
 Ca 112 #[.int .u32 (wN x),.int .i64 k] w fun e w'=>e=.returned (.int .u32 (wN (BS x k.toNat)))∧∃m,w'=w.drewN m:=by
 obtain⟨n,rfl⟩:=Int.eq_ofNat_of_zero_le (show 0≤k by omega);exact Qv x n (by omega) (by omega) w
def Jv (l:List UInt8) (t:Nat):UInt32:=
 ((l.getD (4*t) 0).toUInt32<<<24)|||((l.getD (4*t+1) 0).toUInt32<<<16)|||((l.getD (4*t+2) 0).toUInt32<<<8)|||(l.getD (4*t+3) 0).toUInt32
def B6 (l:List UInt8):Nat→List UInt32
 |0=>List.replicate 64 0
 |t+1=>(B6 l t).set t (if t<16 then Jv l t else ss1 ((B6 l t).getD (t-2) 0)+(B6 l t).getD (t-7) 0+ss0 ((B6 l t).getD (t-15) 0)+(B6 l t).getD (t-16) 0)
theorem CH (l:List UInt8):∀t,(B6 l t).length=64
 |0=>by simp[B6]
 |t+1=>by simp[B6,CH l t]
theorem KC (l:List UInt8):∀t j,t≤j→(B6 l t).getD j 0=0
 |0,j,_=>by
  simp only[B6,List.getD_eq_getElem?_getD,List.getElem?_replicate];split <;>rfl
 |t+1,j,h=>by
  have ih:=KC l t j (by omega);simp only[B6,List.getD_eq_getElem?_getD]at ih⊢;rw[List.getElem?_set_ne (by omega)];exact ih
def Ct (l:List UInt8):List UInt32:=B6 l 64
theorem R5 (a:UInt32):IntKind.u32.wrap (wN a)=wN a:=IntWalk.u32_in _ ⟨Pa a,by have:=Ss a;omega⟩
theorem R6 (a:UInt32):wN a*(16777216:Int)%(4294967296:Int)=wN (a<<<24):=Lt a 24 (by decide)
theorem R7 (a:UInt32):wN a*(65536:Int)%(4294967296:Int)=wN (a<<<16):=Lt a 16 (by decide)
theorem Sw (a:UInt32):wN a*(256:Int)%(4294967296:Int)=wN (a<<<8):=Lt a 8 (by decide)
theorem Qx (a b c d:UInt32):bits .or .u32 (bits .or .u32 (bits .or .u32 (wN a*16777216%4294967296) (wN b*65536%4294967296)) (wN c*256%4294967296)) (wN d)=wN (a<<<24|||b<<<16|||c<<<8|||d):=by rw[R6,R7,Sw,N3,N3,N3]
theorem Qy (l:List UInt8) (bv0:Value) (hv:BytesAt w F bv0 l) (hl:l.length=64):
 Ca 111 #[bv0] w fun e w'=>e=.returned (.agg (wvs (Ct l)).toArray)∧Below w.heap.size w w':=by
 obtain⟨ba,bc,rfl,hbc,hbr⟩:=hv;obtain⟨g,off,rfl,hF,hg,hr⟩:=hbr (by intro e;rw[e]at hl;simp at hl);obtain⟨w1,hw1⟩:=Xq ((w.alloc (.cells Zw 191)).alloc (.cells Zw 191));have hb1:Below w.heap.size w w1:=hw1▸((Below.refl _ w).alloc Lr _).alloc (by simp) _;have n1:w1.heap[w.heap.size]?=some (.cells Zw 191 (0,0)):=by rw[←hw1,Below.heap_alloc _ _ _ (by simp)];exact heap_alloc_new w _
 have n2:w1.heap[w.heap.size+1]?=some (.cells Zw 191 (0,0)):=by have:=heap_alloc_new (w.alloc (.cells Zw 191)) (.cells Zw 191);rw[Sz]at this;rw[←hw1];exact this
 obtain⟨HR,HL,HW1,HB1,HN1,HN2⟩:=Hd6 hr hl hw1 hb1 n1 n2;have e64:(.slice (some ⟨g,off,none⟩) l.length bc:Value)=.slice (some ⟨g,off,none⟩) 64 bc:=by rw[hl]
 rw[e64];clear hr hl hw1 hb1 n1 n2 hbc hbr hF e64;go_enter Tryz.func111,Tryz.ntmps111;go_wp2_with fail;rw[HW1.out];go_loopw [4] (fun i wr=>∃k:Nat,k≤64∧i=.int .i64 k∧wr.heap[w.heap.size+1]?=some (.cells (wvs (B6 l k)).toArray 191 (0,0))∧
  wr.heap[w.heap.size]?=some (.cells Zw 191 (0,0))∧Below w.heap.size w wr)
  (fun i _=>64-(intOf i).toNat)
 case atStart=>exact⟨0,Nat.zero_le _,rfl,HN2.out,HN1.out,HB1.out⟩
 case round=>
  obtain⟨k,hk,rfl,hW,hR,hB⟩:=hrel;by_cases hlt:k<64
  ·have hwl:=CH l k;have hz:=KC l k k Lr;by_cases h16:k<16
   ·obtain⟨x0,hx0⟩:∃x,(l.getD (4*k) 0).toUInt32=x:=⟨_,rfl⟩;obtain⟨x1,hx1⟩:∃x,(l.getD (4*k+1) 0).toUInt32=x:=⟨_,rfl⟩;obtain⟨x2,hx2⟩:∃x,(l.getD (4*k+2) 0).toUInt32=x:=⟨_,rfl⟩;obtain⟨x3,hx3⟩:∃x,(l.getD (4*k+3) 0).toUInt32=x:=⟨_,rfl⟩;have cb:∀j (hj:j<64) x,(l.getD j 0).toUInt32=x→wr.drew.cell? ⟨g,off+j,none⟩=some (.int .u8 (wN x)):=by intro j hj x hx;have h1:=HR.out j (.int .u8 ((l.getD j 0).toNat:Int)) (by rw[AE,List.getElem?_eq_getElem (by rw[HL.out];exact hj)];simp[bv,List.getD,HL.out,hj]);rw[←hx,←NA];exact(hB.cell (p:=⟨g,off+j,none⟩) hg).trans h1
    have c0:=cb (4*k) (by omega) x0 hx0;have c1:=cb (4*k+1) (by omega) x1 hx1;have c2:=cb (4*k+2) (by omega) x2 hx2;have c3:=cb (4*k+3) (by omega) x3 hx3;have cw:wr.drew.cell? ⟨w.heap.size+1,k,none⟩=some (.int .u32 0):=by have:=cell_of_row wr (w.heap.size+1) k _ _ _ hW;rw[CS _ _ (by omega),hz]at this;exact this
    have fw:wr.drew.frozen? ⟨w.heap.size+1,k,none⟩=false:=frozen_of_row wr.drew _ k _ _ hW;have m0:=Iw (4*(k:Int));have m1:=Iw (4*(k:Int)+1);have m2:=Iw (4*(k:Int)+2);have m3:=Iw (4*(k:Int)+3);have hwr:=R5;obtain⟨HX0,HX1,HX2,HX3,HW,HRR,HB⟩:=Hd7 hx0 hx1 hx2 hx3 hW hR hB;clear hx0 hx1 hx2 hx3 hW hR hB cb hz hwl;go_wp2_with fail;go_region;rw[Qx x0 x1 x2 x3];obtain⟨y,hy⟩:=Xq (x0<<<24|||x1<<<16|||x2<<<8|||x3);have hst:B6 l (k+1)=(B6 l k).set k y:=by rw[B6,Ip h16,Jv,HX0.out,HX1.out,HX2.out,HX3.out,hy]
    obtain⟨W3,hW3⟩:=Xq ((wr.setCell ⟨w.heap.size+1,k,none⟩ (.int .u32 (wN y))).drew);have q1:W3.heap[w.heap.size+1]?=some (.cells (wvs (B6 l (k+1))).toArray 191 (0,0)):=by rw[←hW3,hst];refine(Sc wr (w.heap.size+1) k _ _ (.int .u32 (wN y)) HW.out).trans ?_;simp[wvs,wv]
    have q2:W3.heap[w.heap.size]?=wr.heap[w.heap.size]?:=by rw[←hW3];exact(heap_setCell_other wr ⟨w.heap.size+1,k,none⟩ _ _ (by show w.heap.size≠w.heap.size+1;omega))
    have q3:Below w.heap.size w W3:=by rw[←hW3];exact(HB.out.setCell (Nat.le_succ _) _).drew
    rw[hy,hW3];obtain⟨Q1,Q2,Q3⟩:=Hd3 q1 (q2.trans HRR.out) q3;clear q1 q2 q3 hW3 hy hst c0 c1 c2 c3 cw fw m0 m1 m2 m3 hwr;go_wp2_with fail;go_roundw
    case rel=>exact⟨k+1,by omega,by go_num,Q1.out,Q2.out,Q3.out⟩
    case measure=>simp[intOf];omega
   ·obtain⟨xb,hxb⟩:∃x,(B6 l k).getD (k-2) 0=x:=⟨_,rfl⟩;obtain⟨xa,hxa⟩:∃x,(B6 l k).getD (k-15) 0=x:=⟨_,rfl⟩;obtain⟨xc,hxc⟩:∃x,(B6 l k).getD (k-7) 0=x:=⟨_,rfl⟩;obtain⟨xo,hxo⟩:∃x,(B6 l k).getD (k-16) 0=x:=⟨_,rfl⟩;have cb:wr.cell? ⟨w.heap.size+1,k-2,none⟩=some (.int .u32 (wN xb)):=by rw[cell_of_row wr _ _ _ _ _ hW,CS _ _ (by omega),hxb]
    have ca:wr.cell? ⟨w.heap.size+1,k-15,none⟩=some (.int .u32 (wN xa)):=by rw[cell_of_row wr _ _ _ _ _ hW,CS _ _ (by omega),hxa]
    have cc:wr.cell? ⟨w.heap.size+1,k-7,none⟩=some (.int .u32 (wN xc)):=by rw[cell_of_row wr _ _ _ _ _ hW,CS _ _ (by omega),hxc]
    have co:wr.cell? ⟨w.heap.size+1,k-16,none⟩=some (.int .u32 (wN xo)):=by rw[cell_of_row wr _ _ _ _ _ hW,CS _ _ (by omega),hxo]
    have h16':(16:Int)≤(k:Int):=by omega
    have eb:IntKind.i64.wrap ((k:Int)-2)=((k-2:Nat):Int):=by rw[IntWalk.i64_in _ (by omega)];omega
    have ea:IntKind.i64.wrap ((k:Int)-15)=((k-15:Nat):Int):=by rw[IntWalk.i64_in _ (by omega)];omega
    have ec:IntKind.i64.wrap ((k:Int)-7)=((k-7:Nat):Int):=by rw[IntWalk.i64_in _ (by omega)];omega
    have eo:IntKind.i64.wrap ((k:Int)-16)=((k-16:Nat):Int):=by rw[IntWalk.i64_in _ (by omega)];omega
    have lb:((k-2:Nat):Int)<64:=by omega
    have la:((k-15:Nat):Int)<64:=by omega
    have lc:((k-7:Nat):Int)<64:=by omega
    have lo:((k-16:Nat):Int)<64:=by omega
    obtain⟨HXB,HXA,HXC,HXO,HW,HRR,HB,HZ⟩:=Hd8 hxb hxa hxc hxo hW hR hB hz;have hlr:=(Ax hW).1;clear hxb hxa hxc hxo hW hR hB hwl hz;go_wp2_with fail;go_quiet (fail);obtain⟨W2,hW2⟩:=Xq (wr.drewN nq);have hq:∀j:Nat,W2.heap[j]?=wr.heap[j]?:=fun j=>by rw[←hW2];rfl
    have HC7:=Hd ((World.cell?_of_block (hq _)).trans cc);have HC16:=Hd ((World.cell?_of_block (hq _)).trans co);have hlt2:w.heap.size+1<W2.heap.size:=by rw[←hW2];exact hlr
    obtain⟨HLT,HW2,HR2⟩:=Hd3 hlt2 ((hq _).trans HW.out) ((hq _).trans HRR.out);have hb2:Below w.heap.size w W2:=by rw[←hW2];exact Cn HB.out _
    have HB2:=Hd hb2;have hadd:=Iu;have hx:=Ls;have hsa:∀a:UInt32,Op.shift .shr .u32 (wN a) .u64 3=(pure (.int .u32 (wN (a>>>3))):Sem Value):=fun a=>Iv a .u64 3 (by decide)
    have hsb:∀a:UInt32,Op.shift .shr .u32 (wN a) .u64 10=(pure (.int .u32 (wN (a>>>10))):Sem Value):=fun a=>Iv a .u64 10 (by decide)
    rw[hW2];clear hW2 hq hlt2 hb2 ca cb cc co hlr;go_wp2_with fail;refine Np ?_;refine BB [29] (fun w'=>Below W2.heap.size W2 w') (by kernel_rfl) ?_;have hS0:(fun w'=>Below W2.heap.size W2 w') W2.drew:=Rq.drew;refine tkP 0 hS0 ?_;refine tkP 1 hS0 ?_;refine tkP 3 hS0 ?_;refine tkP 6 hS0 ?_;refine tkP 7 hS0 ?_;refine tkP 9 hS0 ?_;refine tkP 10 hS0 ?_;refine tkP 11 hS0 ?_;refine tkZ 12 hS0 ?_ (hy:=fun w' hw'=>by(have hk:=(World.cell?_of_block (hw'.block _ HLT.out)).trans HC7.out;clear hw';first| (go_simp;rfl)| (go_simp;done)));refine tkP 14 hS0 ?_;refine tkP 16 hS0 ?_;refine tkP 19 hS0 ?_;refine tkP 20 hS0 ?_;refine tkP 23 hS0 ?_;refine tkP 24 hS0 ?_;refine tkP 25 hS0 ?_;refine tkZ 26 hS0 ?_ (hy:=fun w' hw'=>by(have hk:=(World.cell?_of_block (hw'.block _ HLT.out)).trans HC16.out;clear hw';first| (go_simp;rfl)| (go_simp;done)));refine dG 2 fun K hK=>?_
    go_simp;refine(GD xb 17 (by decide) (by decide) _).mono ?_;rintro e w3 ⟨rfl,mw3,hw3⟩;have kw3:Below W2.heap.size W2 w3:=by rw[hw3];exact Cn (Below.refl _ W2).drew _
    clear hw3;refine Kq hK kw3 ?_;refine dG 4 fun K hK=>?_
    go_simp;refine(GD xb 19 (by decide) (by decide) _).mono ?_;rintro e w4 ⟨rfl,mw4,hw4⟩;have kw4:Below W2.heap.size W2 w4:=by rw[hw4];exact Cn kw3 _
    clear hw4;refine Kq hK kw4 ?_;refine tkP 5 kw4 ?_;refine tkP 8 kw4 ?_;refine tkP 13 kw4 ?_;refine dG 15 fun K hK=>?_
    go_simp;refine(GD xa 7 (by decide) (by decide) _).mono ?_;rintro e w5 ⟨rfl,mw5,hw5⟩;have kw5:Below W2.heap.size W2 w5:=by rw[hw5];exact Cn kw4 _
    clear hw5;refine Kq hK kw5 ?_;refine dG 17 fun K hK=>?_
    go_simp;refine(GD xa 18 (by decide) (by decide) _).mono ?_;rintro e w6 ⟨rfl,mw6,hw6⟩;have kw6:Below W2.heap.size W2 w6:=by rw[hw6];exact Cn kw5 _
    clear hw6;refine Kq hK kw6 ?_;refine tkP 18 kw6 ?_;refine tkP 21 kw6 ?_;refine tkP 22 kw6 ?_;refine tkP 27 kw6 ?_;refine tkP 28 kw6 ?_;refine dGf 29 fun K hK=>?_
    have hh6:=(kw6.block _ HLT.out).trans HW2.out;have ef:=frozen_of_row w6 _ k _ _ hh6;have ec_:w6.cell? ⟨w.heap.size+1,k,none⟩=some (.int .u32 0):=by rw[cell_of_row w6 _ _ _ _ _ hh6,CS _ _ (by rw[CH];omega),HZ.out];rfl
    go_simp;refine Kr hK ?_;refine eG ?_;obtain⟨y,hy⟩:=Xq ((BS xb 17^^^BS xb 19^^^xb>>>10)+xc+(BS xa 7^^^BS xa 18^^^xa>>>3)+xo);have hst:B6 l (k+1)=(B6 l k).set k y:=by rw[B6,In h16,HXB.out,HXA.out,HXC.out,HXO.out,←hy];rfl
    obtain⟨W3,hW3⟩:=Xq (w6.setCell ⟨w.heap.size+1,k,none⟩ (.int .u32 (wN y)));have q1:W3.heap[w.heap.size+1]?=some (.cells (wvs (B6 l (k+1))).toArray 191 (0,0)):=by rw[←hW3,hst];refine(Sc w6 (w.heap.size+1) k _ _ (.int .u32 (wN y)) hh6).trans ?_;simp[wvs,wv]
    have q2:W3.heap[w.heap.size]?=w6.heap[w.heap.size]?:=by rw[←hW3];exact(heap_setCell_other w6 ⟨w.heap.size+1,k,none⟩ _ _ (by show w.heap.size≠w.heap.size+1;omega))
    have q3:Below w.heap.size w W3:=by rw[←hW3];exact(Tq HB2.out kw6).setCell (Nat.le_succ _) _
    rw[hy,hW3];obtain⟨Q1,Q2,Q3⟩:=Hd3 q1 ((q2.trans (kw6.block _ (by have:=HLT.out;omega))).trans HR2.out) q3;clear q1 q2 q3 hW3 hy hst hadd hx hsa hsb eb ea ec eo hh6 ef ec_ kw3 kw4 kw5 kw6 hS0;go_wp2_with fail;go_roundw
    case rel=>exact⟨k+1,by omega,by go_num,Q1.out,Q2.out,Q3.out⟩
    case measure=>simp[intOf];omega
  ·obtain rfl :k=64:=by omega
   have hsz:=Iz (Ct l) (CH l 64);have hzs:(Zw:Array Value).size=(wvs (Ct l)).toArray.size:=by show 64=_;rw[List.size_toArray,Ep];exact(CH l 64).symm
   have hWl:wr.heap[w.heap.size+1]?=some (.cells (wvs (Ct l)).toArray 191 (0,0)):=hW;obtain⟨HSZ,HZS,HWl,HR2,HB⟩:=Hd5 hsz hzs hWl hR hB;clear hsz hzs hWl hW hR hB;go_wp2_with (first| (with_reducible refine wpList_load_row rfl 191 _ rfl (w.heap.size+1) rfl 191 (wvs (Ct l)).toArray (0,0) _ HWl.out Tryz.underlying191 rfl HSZ.out ?_)| (with_reducible refine wpList_store_row rfl 191 _ _ rfl w.heap.size (wvs (Ct l)).toArray rfl rfl 191 _ HR2.out HSZ.out HZS.out (DY _) ?_))
   refine Br (v:=.agg (wvs (Ct l)).toArray) ?r1 rfl ?r2
   case r1=>exact results_cell_row (g:=w.heap.size) rfl _ _ _ _ _ _ rfl (setRow_heap _ _ _ _ _ _ HR2.out) Tryz.underlying191 rfl HSZ.out
   case r2=>exact⟨rfl,below_setRow HB.out Lr _⟩
variable {b i:Nat}
def Gn (h:W8) (S:List UInt32):Nat→W8
 |0=>h
 |t+1=>(Gn h S t).round (kTab.getD t 0) (S.getD t 0)
def F3 (P:List UInt8) (j:Nat):List UInt8:=(P.drop (64*j)).take 64
def rH (P:List UInt8):Nat→W8
 |0=>w8init
 |j+1=>(rH P j).plus (Gn (rH P j) (Ct (F3 P j)) 64)
theorem DD {c:Code} (h:∀Q',Hid (Q'=Q)→Code.wp P c Q' a w):Code.wp P c Q a w:=h Q (Hd rfl)
def Er (hl vl:List UInt32):Nat→List UInt32
 |0=>hl
 |n+1=>(Er hl vl n).set n ((Er hl vl n).getD n 0+vl.getD n 0)
theorem Hx (hl vl:List UInt32):∀n,(Er hl vl n).length=hl.length
 |0=>rfl
 |n+1=>by rw[Er,List.length_set,Hx hl vl n]
theorem Pr (h v:W8):Er h.list v.list 8=(h.plus v).list:=rfl
theorem Ol (v:W8):v.cells=wvs v.list:=rfl
theorem M0:kTab.length=64:=rfl
theorem FM {ws:List UInt32}{x:UInt32} (h:w.heap[b]?=some (.cells (wvs ws).toArray T (0,0))) (hi:i<ws.length) (hx:ws.getD i 0=x):w.cell? ⟨b,i,none⟩=some (.int .u32 (wN x)):=by rw[cell_of_row w _ _ _ _ _ h,CS _ _ hi,hx]
theorem I8 {v:W8} (h:w.heap[b]?=some (.cells v.cells.toArray T (0,0))):
 w.cell? ⟨b,0,none⟩=some (.int .u32 (wN v.a))∧w.cell? ⟨b,1,none⟩=some (.int .u32 (wN v.b))∧w.cell? ⟨b,2,none⟩=some (.int .u32 (wN v.c))∧w.cell? ⟨b,3,none⟩=some (.int .u32 (wN v.d))∧
 w.cell? ⟨b,4,none⟩=some (.int .u32 (wN v.e))∧w.cell? ⟨b,5,none⟩=some (.int .u32 (wN v.f))∧w.cell? ⟨b,6,none⟩=some (.int .u32 (wN v.g))∧w.cell? ⟨b,7,none⟩=some (.int .u32 (wN v.i)):=by
 have c:=fun i=>cell_of_row w b i _ _ _ h
 exact⟨(c 0).trans rfl,(c 1).trans rfl,(c 2).trans rfl,(c 3).trans rfl,(c 4).trans rfl,(c 5).trans rfl,(c 6).trans rfl,(c 7).trans rfl⟩
theorem R8:(Tryz.prog.info? 190).map (·.size)=some 8:=by kernel_rfl
theorem SH {v:W8} (h:w.heap[b]?=some (.cells v.cells.toArray T (0,0))) (v':W8):
 ((((((((w.setCell ⟨b,0,none⟩ (.int .u32 (wN v'.a))).setCell ⟨b,1,none⟩ (.int .u32 (wN v'.b))).setCell ⟨b,2,none⟩ (.int .u32 (wN v'.c))).setCell ⟨b,3,none⟩ (.int .u32 (wN v'.d))).setCell ⟨b,4,none⟩ (.int .u32 (wN v'.e))).setCell
  ⟨b,5,none⟩ (.int .u32 (wN v'.f))).setCell ⟨b,6,none⟩ (.int .u32 (wN v'.g))).setCell ⟨b,7,none⟩ (.int .u32 (wN v'.i))).heap[b]?=some (.cells v'.cells.toArray T (0,0)):=by
 have h0:=Sc _ b 0 _ _ (.int .u32 (wN v'.a)) h;have h1:=Sc _ b 1 _ _ (.int .u32 (wN v'.b)) h0;have h2:=Sc _ b 2 _ _ (.int .u32 (wN v'.c)) h1;have h3:=Sc _ b 3 _ _ (.int .u32 (wN v'.d)) h2;have h4:=Sc _ b 4 _ _ (.int .u32 (wN v'.e)) h3;have h5:=Sc _ b 5 _ _ (.int .u32 (wN v'.f)) h4;have h6:=Sc _ b 6 _ _ (.int .u32 (wN v'.g)) h5;have h7:=Sc _ b 7 _ _ (.int .u32 (wN v'.i)) h6;refine h7.trans ?_;simp[W8.cells,wv]
theorem Qz (l:List UInt8) (bv0:Value) (hv:BytesN w F bv0 l) (hlen:l.length<100000000):
 Ca 98 #[bv0] w fun e w'=>e=.returned (BF (BE (rH (l++C7 l.length) ((l++C7 l.length).length/64))))∧Below w.heap.size w w':=by
 obtain⟨ba,bc,hbe,_⟩:=id hv.at_;subst hbe;obtain⟨w1,hw1⟩:=Xq ((w.alloc (.cells Zy 171)).alloc (.cells #[.int .u32 1779033703,.int .u32 3144134277,.int .u32 1013904242,.int .u32 2773480762,.int .u32 1359893119,.int .u32 2600822924,.int .u32 528734635,.int .u32 1541459225] 190));have hb1:Below w.heap.size w w1:=hw1▸((Below.refl _ w).alloc Lr _).alloc (by simp) _;have hs1:w1.heap.size=w.heap.size+2:=by rw[←hw1];simp
 have n1:w1.heap[w.heap.size]?=some (.cells Zy 171 (0,0)):=by rw[←hw1,Below.heap_alloc _ _ _ (by simp)];exact heap_alloc_new w _
 have n2:w1.heap[w.heap.size+1]?=some (.cells w8init.cells.toArray 190 (0,0)):=by have:=heap_alloc_new (w.alloc (.cells Zy 171)) (.cells #[.int .u32 1779033703,.int .u32 3144134277,.int .u32 1013904242,.int .u32 2773480762,.int .u32 1359893119,.int .u32 2600822924,.int .u32 528734635,.int .u32 1541459225] 190);rw[Sz]at this;rw[←hw1];exact this
 have hv1:=hv.below hb1;obtain⟨HV1,HW1,HB1,HS1,HN1,HN2,HLEN⟩:=Hd7 hv1 hw1 hb1 hs1 n1 n2 hlen;clear hv hv1 hw1 hb1 hs1 n1 n2;go_enter Tryz.func98,Tryz.ntmps98;go_wp2_with fail;rw[HW1.out];refine(Oj w1).mono ?_;rintro e w2 ⟨rfl,hb2⟩;have hbd2:=Tq HB1.out hb2;have hszk:=Iz kTab rfl;have hzsk:(Zw:Array Value).size=(wvs kTab).toArray.size:=rfl;have hnw:=heap_alloc_new w2 (.cells Zw 191);obtain⟨w3,hw3⟩:=Xq (w2.alloc (.cells (wvs kTab).toArray 191));have hb3:=Lq hw3;have n3k:=Nq hw3 rfl;have hb13:Below w1.heap.size w1 w3:=Tq hb2 hb3;have hbd3:=Tq HB1.out hb13;have hs3:w3.heap.size=w2.heap.size+1:=by rw[←hw3,Sz]
 obtain⟨HSZK,HZSK,HNW,HW3,HN3K,HB13,HBD3,HS3⟩:=Hd8 hszk hzsk hnw hw3 n3k hb13 hbd3 hs3;have hz12:w.heap.size+1<w2.heap.size:=by have:=hb2.size;have:=HS1.out;omega
 clear hb2 hbd2 hszk hzsk hnw hw3 hb3 n3k hb13 hbd3 hs3;go_wp2_with (with_reducible refine wpList_store_row rfl 191 _ _ rfl w2.heap.size (wvs kTab).toArray rfl rfl 191 _ HNW.out HSZK.out HZSK.out (DY _) ?_;rw[World.setRow_alloc_new,HW3.out])
 refine(Qw l _ (HV1.out.below HB13.out) HLEN.out).mono ?_;rintro e w4 ⟨pv,rfl,hO4,hb4⟩;obtain⟨P,hP⟩:=Xq (l++C7 l.length);rw[hP]at hO4;have hmod:P.length%64=0:=by rw[←hP,List.length_append];exact Pi l.length
 have hpb:P.length<200000000:=by rw[←hP,List.length_append,D1];unfold zN;omega
 obtain⟨nb,hnb⟩:=Xq (P.length/64);have hPn:P.length=64*nb:=by omega
 have hpos:0<P.length:=by rw[←hP,List.length_append,D1];omega
 obtain⟨g,pcap,e1,hgl,hob,hcl⟩:=AZ hO4 (by omega);subst e1;have hcap:P.length≤pcap:=by
  rcases hO4.2 with⟨e2,_⟩| ⟨g',cap',cur,e2,_,_,h2,_⟩
  ·cases e2
  ·cases e2;exact h2
 have hgb:w3.heap.size≤g:=(Ab hO4 g hob).1;rw[hPn]at hcap⊢;have n41:w4.heap[w.heap.size]?=_:=(hb4.block _ (by have:=HS3.out;omega)).trans ((HB13.out.block _ (by have:=HS1.out;omega)).trans HN1.out);have n42:w4.heap[w.heap.size+1]?=_:=(hb4.block _ (by have:=HS3.out;omega)).trans ((HB13.out.block _ (by have:=HS1.out;omega)).trans HN2.out);have n4k:w4.heap[w2.heap.size]?=_:=(hb4.block _ (by have:=HS3.out;omega)).trans HN3K.out;have hbd4:=Tq HBD3.out hb4;obtain⟨HCL,HP,HNB,HPN,HN41,HN42,HN4K,HBD4,HGB⟩:=Hd9 hcl hP hnb hPn n41 n42 n4k hbd4 hgb;have HS3b:=HS3;have hnbb:nb<4000000:=by omega
 clear hO4 hb4 hP hmod hnb hPn hpos hob hcl hgb n41 n42 n4k hbd4 hpb HV1 HW1 HB1 HN1 HN2 HSZK HZSK HNW HW3 HN3K HB13 HBD3;go_wp2_with fail;go_loopw [6] (fun i wr=>∃j:Nat,j≤nb∧i=.int .i64 (64*(j:Int))∧wr.heap[w.heap.size+1]?=some (.cells (rH P j).cells.toArray 190 (0,0))∧Chg (fun k=>k=w.heap.size+1) w4 wr)
  (fun i _=>64*nb-(intOf i).toNat)
 case atStart=>exact⟨0,Nat.zero_le _,rfl,HN42.out,Chg.refl _ _⟩
 case round=>
  obtain⟨j,hj,rfl,hH,hC⟩:=hrel;obtain⟨wo,rfl⟩:∃wo:World,wo=wr:=⟨_,rfl⟩;by_cases hlt:j<nb
  ·have hlt64:(64*(j:Int))<64*(nb:Int):=by omega
   have HH:=Hd hH;have HC:=Hd hC;have hgw:¬(g=w.heap.size+1):=by have:=HGB.out;have:=HS3.out;omega
   have hvb:BytesAt wo (fun _=>True) (.slice (some ⟨g,64*j,none⟩) 64 (pcap-64*j)) (F3 P j):=by
    have hl64:(F3 P j).length=64:=by unfold F3;rw[List.length_take,List.length_drop,HPN.out];omega
    refine⟨_,_,by rw[hl64],by rw[hl64];omega,fun _=>⟨g,64*j,rfl,trivial,Nl hgl hC.size,fun k u hu=>?_⟩⟩;refine hC.cell (p:=⟨g,64*j+k,none⟩) hgw (HCL.out (64*j+k) u ?_);rw[AE]at hu⊢;unfold F3 at hu;rw[List.getElem?_take]at hu;split at hu
    ·rw[List.getElem?_drop]at hu;exact hu
    ·cases hu
   have hl64:(F3 P j).length=64:=by unfold F3;rw[List.length_take,List.length_drop,HPN.out];omega
   obtain⟨blk,hblk⟩:=Xq (F3 P j);rw[hblk]at hvb hl64;have e64:64*j+64-64*j=64:=by omega
   obtain⟨HVB,HL64,HBLK,HGW⟩:=Hd4 hvb hl64 hblk hgw;clear hH hC hvb hl64 hblk hgw;go_wp2_with fail;rw[e64];refine(Qy blk _ HVB.out HL64.out).mono ?_;rintro e w5 ⟨rfl,hb5⟩;obtain⟨S,hS⟩:=Xq (Ct blk);have hsl:S.length=64:=by rw[←hS];exact CH _ _
   rw[hS];obtain⟨h8,hh8⟩:=Xq (rH P j);have hH5:w5.heap[w.heap.size+1]?=some (.cells h8.cells.toArray 190 (0,0)):=by rw[←hh8];exact Bq hb5 HH.out
   have hC5:Chg (fun k=>k=w.heap.size+1) w4 w5:=HC.out.trans (Cb hb5) (fun _ h=>.inl h);obtain⟨w6,hw6⟩:=Xq ((w5.alloc (.cells (wvs S).toArray 191)).alloc (.cells h8.cells.toArray 190));have hC6:Chg (fun k=>k=w.heap.size+1) w4 w6:=by rw[←hw6];exact(hC5.trans (Chg.alloc _ _) (fun _ h=>.inl h)).trans (Chg.alloc _ _) (fun _ h=>.inl h)
   have hb56:Below w5.heap.size w5 w6:=hw6▸((Below.refl _ w5).alloc Lr _).alloc (by simp) _;have n7:w6.heap[w5.heap.size]?=some (.cells (wvs S).toArray 191 (0,0)):=by rw[←hw6,Below.heap_alloc _ _ _ (by simp)];exact heap_alloc_new w5 _
   have n8:w6.heap[w5.heap.size+1]?=some (.cells h8.cells.toArray 190 (0,0)):=by have:=heap_alloc_new (w5.alloc (.cells (wvs S).toArray 191)) (.cells h8.cells.toArray 190);rw[Sz]at this;rw[←hw6];exact this
   have hH6:w6.heap[w.heap.size+1]?=some (.cells h8.cells.toArray 190 (0,0)):=Bq hb56 hH5;have hs45:w4.heap.size≤w5.heap.size:=hC5.size;have hlk:w2.heap.size<w4.heap.size:=(Ax HN4K.out).1;have hszs:=Iz S hsl;have hzss:(Zw:Array Value).size=(wvs S).toArray.size:=by show 64=_;rw[List.size_toArray,Ep];exact hsl.symm
   have HNW7:=Hd (heap_alloc_new w5 (.cells Zw 191));have hHA:(w5.alloc (.cells (wvs S).toArray 191)).heap[w.heap.size+1]?=some (.cells h8.cells.toArray 190 (0,0)):=((Below.heap_alloc _ _ _ (Ax hH5).1)).trans hH5;have HHA:=Hd hHA;have HSE8:Hid (w5.heap.size+1=(w5.alloc (.cells (wvs S).toArray 191)).heap.size):=Hd (by rw[Sz]);have HNW8:Hid (((w5.alloc (.cells (wvs S).toArray 191)).alloc (.cells #[.int .u32 0,.int .u32 0,.int .u32 0,.int .u32 0,.int .u32 0,.int .u32 0,.int .u32 0,.int .u32 0] 190)).heap[w5.heap.size+1]?=some (.cells #[.int .u32 0,.int .u32 0,.int .u32 0,.int .u32 0,.int .u32 0,.int .u32 0,.int .u32 0,.int .u32 0] 190 (0,0))):=Hd (by rw[HSE8.out];exact Hn);have HZ8:Hid ((#[.int .u32 0,.int .u32 0,.int .u32 0,.int .u32 0,.int .u32 0,.int .u32 0,.int .u32 0,.int .u32 0]:Array Value).size=h8.cells.toArray.size):=Hd rfl;obtain⟨HSZS,HZSS,HSE,HSL,HH8,HC6,HW6,HN7,HN8,HH6,HLK⟩:=Hd11 hszs hzss hS hsl hh8 hC6 hw6 n7 n8 hH6 hlk;have hsz8:(Tryz.prog.info? 190).map (·.size)=some h8.cells.toArray.size:=R8;have HSZ8:=Hd hsz8;have HS6:Hid (w6.heap.size=w5.heap.size+2):=Hd (by rw[←hw6];simp);clear hb5 hS hsl hh8 hH5 hC5 hw6 hC6 hb56 n7 n8 hH6 hHA hlk hszs hzss hsz8 HVB HL64 HH HC;go_wp2_with (first| (with_reducible refine wpList_store_row rfl 191 _ _ rfl w5.heap.size (wvs S).toArray rfl rfl 191 _ HNW7.out HSZS.out HZSS.out (DY _) ?_;rw[World.setRow_alloc_new])| (with_reducible refine wpList_load_row rfl 190 _ rfl (w.heap.size+1) rfl 190 h8.cells.toArray (0,0) _ HHA.out Tryz.underlying190 rfl HSZ8.out ?_)| (with_reducible refine wpList_store_row rfl 190 _ _ rfl (w5.heap.size+1) h8.cells.toArray rfl rfl 190 _ HNW8.out HSZ8.out HZ8.out (Fr _) ?_;rw[HSE8.out,World.setRow_alloc_new]))
   rw[HW6.out];clear HNW7 HSZS HZSS HHA HSE8 HNW8 HZ8 HSZ8 HW6;go_loopw [9] (fun i wr=>∃t:Nat,t≤64∧i=.int .i64 t∧wr.heap[w5.heap.size+1]?=some (.cells (Gn h8 S t).cells.toArray 190 (0,0))∧Chg (fun k=>k=w5.heap.size+1) w6 wr)
    (fun i _=>64-(intOf i).toNat)
   case atStart=>exact⟨0,Nat.zero_le _,rfl,HN8.out,Chg.refl _ _⟩
   case round=>
    obtain⟨t,ht,rfl,hV,hC⟩:=hrel;by_cases hlt6:t<64
    ·obtain⟨v,hv⟩:=Xq (Gn h8 S t);rw[hv]at hV;obtain⟨kk,hkk⟩:=Xq (kTab.getD t 0);obtain⟨xx,hxx⟩:=Xq (S.getD t 0);have hk4:w6.heap[w2.heap.size]?=some (.cells (wvs kTab).toArray 191 (0,0)):=(HC6.out.block _ (Ax HN4K.out).1 (fun e=>by omega)).trans HN4K.out;have hkr:wr.heap[w2.heap.size]?=some (.cells (wvs kTab).toArray 191 (0,0)):=(hC.block _ (Ax hk4).1 (fun e=>by have:=HLK.out;omega)).trans hk4;have hsr:wr.heap[w5.heap.size]?=some (.cells (wvs S).toArray 191 (0,0)):=(hC.block _ (by have:=HS6.out;omega) (fun e=>by omega)).trans HN7.out;have hadd:=Iu;have hx:=Ls;have ha:=Rk;have hn:=Pb;obtain⟨HVE,HKE,HXE,HVwr,HCwr,HKRwr,HSRwr⟩:=Hd7 hv hkk hxx hV hC hkr hsr;clear hv hkk hxx hV hC hk4 hkr hsr;have ck:=FM HKRwr.out (M0▸hlt6) HKE.out;have cs:=FM HSRwr.out (HSL.out▸hlt6) HXE.out;obtain⟨cv0,cv1,cv2,cv3,cv4,cv5,cv6,cv7⟩:=I8 HVwr.out;have hlt7:((t:Nat):Int)<(64:Int):=by omega
     refine DD fun Q HQ=>?_
     go_wp2_with fail;go_quiet (with_reducible exact Calls.quiet_of (GD _ _ (by decide) (by decide) _));obtain⟨x1,hx1⟩:=Xq (v.i+(BS v.e 6^^^BS v.e 11^^^BS v.e 25)+(v.e&&&v.f^^^ ~~~v.e&&&v.g)+kk+xx);rw[hx1];have HX1:Hid (v.t kk xx=x1):=Hd hx1;clear hx1 ck cs HKRwr HSRwr;obtain⟨wq,hWe⟩:=Xq (wr.drewN nq);have hq:∀j:Nat,wq.heap[j]?=wr.heap[j]?:=fun j=>by rw[←hWe];rfl
     have HVwq:Hid (wq.heap[w5.heap.size+1]?=some (.cells v.cells.toArray 190 (0,0))):=Hd ((hq _).trans HVwr.out);have HCwq:Hid (Chg (fun k=>k=w5.heap.size+1) w6 wq):=Hd (by rw[←hWe];exact HCwr.out.trans (Cb (Cn Rq _)) (fun _ h=>.inl h));rw[hWe];clear hWe hq cv0 cv1 cv2 cv3 cv4 cv5 cv6 cv7 HVwr HCwr;obtain⟨cv0,cv1,cv2,cv3,cv4,cv5,cv6,cv7⟩:=I8 HVwq.out;go_wp2_with fail;go_quiet (with_reducible exact Calls.quiet_of (GD _ _ (by decide) (by decide) _));obtain⟨x2,hx2⟩:=Xq ((BS v.a 2^^^BS v.a 13^^^BS v.a 22)+(v.a&&&v.b^^^v.a&&&v.c^^^v.b&&&v.c));rw[hx2];have HX2:Hid (v.u=x2):=Hd hx2;clear hx2;obtain⟨wz,hWe⟩:=Xq (wq.drewN nq);have hq:∀j:Nat,wz.heap[j]?=wq.heap[j]?:=fun j=>by rw[←hWe];rfl
     have HVwz:Hid (wz.heap[w5.heap.size+1]?=some (.cells v.cells.toArray 190 (0,0))):=Hd ((hq _).trans HVwq.out);have HCwz:Hid (Chg (fun k=>k=w5.heap.size+1) w6 wz):=Hd (by rw[←hWe];exact HCwq.out.trans (Cb (Cn Rq _)) (fun _ h=>.inl h));rw[hWe];clear hWe hq cv0 cv1 cv2 cv3 cv4 cv5 cv6 cv7 HVwq HCwq;obtain⟨cv0,cv1,cv2,cv3,cv4,cv5,cv6,cv7⟩:=I8 HVwz.out;have fv:∀i,wz.frozen? ⟨w5.heap.size+1,i,none⟩=false:=fun i=>frozen_of_row wz _ i _ _ HVwz.out
     go_wp2_with fail;obtain⟨v',hv'⟩:∃v':W8,(⟨x1+x2,v.a,v.b,v.c,v.d+x1,v.e,v.f,v.g⟩:W8)=v':=⟨_,rfl⟩;have hst:Gn h8 S (t+1)=v':=by rw[Gn,HVE.out,HKE.out,HXE.out,W8.round,HX1.out,HX2.out,hv']
     have h8':=SH HVwz.out v';have hg8:=C6 wz (w5.heap.size+1) (.int .u32 (wN v'.a)) (.int .u32 (wN v'.b)) (.int .u32 (wN v'.c)) (.int .u32 (wN v'.d)) (.int .u32 (wN v'.e)) (.int .u32 (wN v'.f)) (.int .u32 (wN v'.g)) (.int .u32 (wN v'.i));rw[←hv']at h8' hg8;dsimp only at h8' hg8;obtain⟨W9,hW9⟩:=Xq (((((((((wz.setCell ⟨w5.heap.size+1,0,none⟩ (.int .u32 (wN (x1+x2)))).setCell ⟨w5.heap.size+1,1,none⟩ (.int .u32 (wN v.a))).setCell ⟨w5.heap.size+1,2,none⟩ (.int .u32 (wN v.b))).setCell ⟨w5.heap.size+1,3,none⟩ (.int .u32 (wN v.c))).setCell ⟨w5.heap.size+1,4,none⟩ (.int .u32 (wN (v.d+x1)))).setCell ⟨w5.heap.size+1,5,none⟩ (.int .u32 (wN v.e))).setCell ⟨w5.heap.size+1,6,none⟩ (.int .u32 (wN v.f))).setCell ⟨w5.heap.size+1,7,none⟩ (.int .u32 (wN v.g))));rw[hW9]at h8' hg8⊢;rw[hv',←hst]at h8';have hc9:Chg (fun k=>k=w5.heap.size+1) w6 W9:=HCwz.out.trans (Chg.grown (F:=fun k=>k=w5.heap.size+1) hg8 (fun k e=>.inl (Option.some.inj e).symm)) (fun _ h=>.inl h);have H8:=Hd h8';have HC9:=Hd hc9;clear h8' hg8 hW9 hc9 hst hv' cv0 cv1 cv2 cv3 cv4 cv5 cv6 cv7 fv HX1 HX2 HVwz HCwz hadd hx ha hn;rw[HQ.out];change _∧_;go_roundw
     case rel=>exact⟨t+1,by omega,by go_num,H8.out,HC9.out⟩
     case measure=>simp[intOf];omega
    ·obtain rfl :t=64:=by omega
     obtain⟨v,hv⟩:=Xq (Gn h8 S 64);rw[hv]at hV;obtain⟨W7,rfl⟩:∃W7,W7=wr:=⟨_,rfl⟩;have hHr:W7.heap[w.heap.size+1]?=some (.cells h8.cells.toArray 190 (0,0)):=(hC.block _ (Ax HH6.out).1 (fun e=>by have:=HLK.out;omega)).trans HH6.out;have hC7:Chg (fun k=>k=w.heap.size+1) w4 W7:=HC6.out.trans hC (fun k e=>.inr (by subst e;omega));obtain⟨HVE,HV,HHR,HC7⟩:=Hd4 hv hV hHr hC7;clear hv hV hC hHr hC7 HN7 HN8 HH6 HC6;refine DD fun Q HQ=>?_
     go_wp2_with fail;rw[HQ.out];go_step;go_wp2_with fail;go_loopw [12] (fun i wr=>∃t:Nat,t≤8∧i=.int .i64 t∧wr.heap[w.heap.size+1]?=some (.cells (wvs (Er h8.list v.list t)).toArray 190 (0,0))∧Chg (fun k=>k=w.heap.size+1) W7 wr)
      (fun i _=>8-(intOf i).toNat)
     case atStart=>exact⟨0,Nat.zero_le _,rfl,HHR.out,Chg.refl _ _⟩
     case round=>
      obtain⟨t,ht,rfl,hM,hC⟩:=hrel;by_cases hlt8:t<8
      ·have hlt9:((t:Nat):Int)<(8:Int):=by omega
       obtain⟨x,hx⟩:=Xq ((Er h8.list v.list t).getD t 0);obtain⟨y,hy⟩:=Xq (v.list.getD t 0);have hVr:wr.heap[w5.heap.size+1]?=some (.cells (wvs v.list).toArray 190 (0,0)):=(hC.block _ (Ax HV.out).1 (fun e=>by have:=HLK.out;omega)).trans HV.out;have c1:wr.drew.cell? ⟨w.heap.size+1,t,none⟩=some (.int .u32 (wN x)):=FM (w:=wr) hM (by rw[Hx];exact hlt8) hx;have c2:wr.drew.cell? ⟨w5.heap.size+1,t,none⟩=some (.int .u32 (wN y)):=FM (w:=wr) hVr hlt8 hy;have f1:wr.drew.frozen? ⟨w.heap.size+1,t,none⟩=false:=frozen_of_row wr.drew _ t _ _ hM;have hadd:=Iu;have hst:Er h8.list v.list (t+1)=(Er h8.list v.list t).set t (x+y):=by rw[Er,hx,hy]
       have hM2:(wr.setCell ⟨w.heap.size+1,t,none⟩ (.int .u32 (wN (x+y)))).heap[w.heap.size+1]?=some (.cells (wvs (Er h8.list v.list (t+1))).toArray 190 (0,0)):=by rw[hst];refine(Sc wr (w.heap.size+1) t _ _ (.int .u32 (wN (x+y))) hM).trans ?_;simp[wvs,wv]
       have hC2:Chg (fun k=>k=w.heap.size+1) W7 (wr.setCell ⟨w.heap.size+1,t,none⟩ (.int .u32 (wN (x+y)))):=hC.trans (Chg.setCell (F:=fun k=>k=w.heap.size+1) _ _ rfl) (fun _ h=>.inl h);have HM2:=Hd hM2;have HC2:=Hd hC2;clear hx hy hVr hst hM hC hM2 hC2;refine DD fun Q2 HQ2=>?_
       go_wp2_with fail;go_region;go_wp2_with fail;rw[HQ2.out];change _∧_;go_roundw
       case rel=>exact⟨t+1,by omega,by go_num,HM2.out,HC2.out.drew⟩
       case measure=>simp[intOf];omega
      ·obtain rfl :t=8:=by omega
       have hH9:wr.heap[w.heap.size+1]?=some (.cells (rH P (j+1)).cells.toArray 190 (0,0)):=by rw[rH,HH8.out,HBLK.out,HSE.out,HVE.out,Ol,←Pr];exact hM
       have hC9:Chg (fun k=>k=w.heap.size+1) w4 wr:=HC7.out.trans hC (fun _ h=>.inl h);have HH9:=Hd hH9;have HC9:=Hd hC9;clear hM hC hH9 hC9 HC7 HHR HV;refine DD fun Q2 HQ2=>?_
       go_wp2_with fail;rw[HQ2.out];go_step;go_wp2_with fail;refine⟨?rel,?measure⟩
       case rel=>exact⟨j+1,by omega,by go_num,HH9.out,HC9.out⟩
       case measure=>simp[intOf];omega
  ·obtain rfl :j=nb:=by omega
   obtain⟨v,hv⟩:=Xq (rH P j);rw[hv]at hH;have hbw:Below w.heap.size w wo:=HBD4.out.trans (hC.below (fun k e=>by subst e;exact Nat.le_succ _) HBD4.out.size);have hRw:wo.heap[w.heap.size]?=some (.cells Zy 171 (0,0)):=(hC.block _ (Ax HN41.out).1 (fun e=>by omega)).trans HN41.out;have hgoal:rH (l++C7 l.length) ((l++C7 l.length).length/64)=v:=by rw[HP.out,HNB.out];exact hv
   have hnr:(wo.alloc (.cells Zy 171)).heap[wo.heap.size]?=some (.cells (bvs (ED v 0)).toArray 171 (0,0)):=heap_alloc_new wo _;have hHr:(wo.alloc (.cells Zy 171)).heap[w.heap.size+1]?=some (.cells v.cells.toArray 190 (0,0)):=(Below.heap_alloc _ _ _ (Ax hH).1).trans hH;have hRr:(wo.alloc (.cells Zy 171)).heap[w.heap.size]?=some (.cells Zy 171 (0,0)):=(Below.heap_alloc _ _ _ (Ax hRw).1).trans hRw;have hws:w.heap.size+1<wo.heap.size:=(Ax hH).1;obtain⟨HG,HNR,HHR,HRR,HBW⟩:=Hd5 hgoal hnr hHr hRr hbw;clear hv hH hC hbw hRw hgoal hnr hHr hRr HN41 HN42 HN4K HBD4 HP HNB HPN;refine DD fun Q HQ=>?_
   go_wp2_with fail;rw[HQ.out];go_step;go_wp2_with fail;go_loopw [14] (fun i wr=>∃t:Nat,t≤32∧i=.int .i64 t∧wr.heap[wo.heap.size]?=some (.cells (bvs (ED v t)).toArray 171 (0,0))∧Chg (fun k=>k=wo.heap.size) (wo.alloc (.cells Zy 171)) wr)
    (fun i _=>32-(intOf i).toNat)
   case atStart=>exact⟨0,Nat.zero_le _,rfl,HNR.out,Chg.refl _ _⟩
   case round=>
    obtain⟨t,ht,rfl,hD,hC⟩:=hrel;have hVr:wr.heap[w.heap.size+1]?=some (.cells (wvs v.list).toArray 190 (0,0)):=(hC.block _ (Ax HHR.out).1 (fun e=>by omega)).trans HHR.out;have hRr:wr.heap[w.heap.size]?=some (.cells Zy 171 (0,0)):=(hC.block _ (Ax HRR.out).1 (fun e=>by omega)).trans HRR.out;by_cases hltd:t<32
    ·have hltd':((t:Nat):Int)<(32:Int):=by omega
     obtain⟨q,hq⟩:=Xq (t/4);obtain⟨r,hr⟩:=Xq (t%4);have hq8:q<8:=by omega
     have hq8':((q:Nat):Int)<(8:Int):=by omega
     have hr4:r<4:=by omega
     obtain⟨x,hx⟩:=Xq (v.list.getD q 0);have c1:wr.cell? ⟨w.heap.size+1,q,none⟩=some (.int .u32 (wN x)):=FM hVr hq8 hx;have c2:wr.cell? ⟨wo.heap.size,t,none⟩=some (.int .u8 0):=by rw[cell_of_row wr _ _ _ _ _ hD];simp[bvs,bv,ED,hltd]
     have f1:=frozen_of_row wr wo.heap.size t _ _ hD;have eq1:((t:Nat):Int).tdiv 4=(q:Int):=by rw[Int.tdiv_eq_ediv_of_nonneg (by omega)];omega
     have er1:((t:Nat):Int).tmod 4=(r:Int):=by rw[Int.tmod_eq_emod_of_nonneg (by omega)];omega
     obtain⟨HD,HC,HX,HQE,HRE⟩:=Hd5 hD hC hx hq hr;clear hD hC hx hq hr hVr hRr;refine DD fun Q2 HQ2=>?_
     go_wp2_with fail;obtain⟨c,hc⟩:∃c:Int,((dgB v t).toNat:Int)=c:=⟨_,rfl⟩;have hby:wN x/2^(24-8*r)%256=c:=by rw[N4 x (24-8*r) (by omega),←hc];unfold dgB wN;rw[HQE.out,HRE.out,HX.out];simp
     have hD2:(wr.setCell ⟨wo.heap.size,t,none⟩ (.int .u8 c)).heap[wo.heap.size]?=some (.cells (bvs (ED v (t+1))).toArray 171 (0,0)):=by refine(Sc wr _ _ _ _ _ HD.out).trans ?_;rw[←LN v _ hltd,←hc];simp[bvs,bv]
     have hC2:=HC.out.trans (Chg.setCell (F:=fun k=>k=wo.heap.size) (a:=⟨wo.heap.size,t,none⟩) wr (.int .u8 c) rfl) (fun _ h=>.inl h);rw[hby,HQ2.out];change _∧_;go_roundw
     case rel=>exact⟨t+1,by omega,by go_num,hD2,hC2⟩
     case measure=>simp[intOf];omega
    ·obtain rfl :t=32:=by omega
     have hWl:wr.heap[wo.heap.size]?=some (.cells (bvs (BE v)).toArray 171 (0,0)):=by rw[←LO v];exact hD
     have hsz:(Tryz.prog.info? 171).map (·.size)=some (bvs (BE v)).toArray.size:=by
      have:(Tryz.prog.info? 171).map (·.size)=some 32:=by kernel_rfl
      rw[this,List.size_toArray,Ap,C5]
     have hzs:(Zy:Array Value).size=(bvs (BE v)).toArray.size:=by show 32=_;rw[List.size_toArray,Ap,C5]
     have hbz:Below w.heap.size w wr:=(HBW.out.alloc HBW.out.size _).trans (hC.below (B:=(wo.alloc (.cells Zy 171)).heap.size-1) (fun k e=>by subst e;simp) (by omega)|>.mono (by simp;exact HBW.out.size));obtain⟨HSZ,HZS,HWl,HR,HB⟩:=Hd5 hsz hzs hWl hRr hbz;clear hsz hzs hWl hRr hbz hC hD hVr;refine DD fun Q2 HQ2=>?_
     go_wp2_with fail;rw[HQ2.out];go_step;go_wp2_with (first| (with_reducible refine wpList_load_row rfl 171 _ rfl wo.heap.size rfl 171 (bvs (BE v)).toArray (0,0) _ HWl.out Tryz.underlying171 rfl HSZ.out ?_)| (with_reducible refine wpList_store_row rfl 171 _ _ rfl w.heap.size (bvs (BE v)).toArray rfl rfl 171 _ HR.out HSZ.out HZS.out (Bb _) ?_))
     refine Br (v:=.agg (bvs (BE v)).toArray) ?r1 rfl ?r2
     case r1=>exact results_cell_row (g:=w.heap.size) rfl _ _ _ _ _ _ rfl (setRow_heap _ _ _ _ _ _ HR.out) Tryz.underlying171 rfl HSZ.out
     case r2=>exact⟨by rw[HG.out];rfl,below_setRow HB.out Lr _⟩
theorem R9 (a b:UInt32):(a|||b)<<<8=a<<<8|||b<<<8:=by apply UInt32.eq_of_toBitVec_eq;show(a.toBitVec|||b.toBitVec)<<<8=a.toBitVec<<<8|||b.toBitVec<<<8;exact BitVec.shiftLeft_or_distrib ..
theorem RB (a:UInt32):a<<<8<<<8=a<<<16:=by apply UInt32.eq_of_toBitVec_eq;show a.toBitVec<<<8<<<8=a.toBitVec<<<16;exact(BitVec.shiftLeft_add a.toBitVec 8 8).symm
theorem QA (a:UInt32):a<<<16<<<8=a<<<24:=by apply UInt32.eq_of_toBitVec_eq;show a.toBitVec<<<16<<<8=a.toBitVec<<<24;exact(BitVec.shiftLeft_add a.toBitVec 16 8).symm
theorem SI (a b c d:UInt32):((((0:UInt32)<<<8|||a)<<<8|||b)<<<8|||c)<<<8|||d=a<<<24|||b<<<16|||c<<<8|||d:=by
 have h0:(0:UInt32)<<<8=0:=by decide
 rw[h0,UInt32.zero_or];simp only[R9,RB,QA]
theorem D7 (l:List UInt32) (i:Nat) (x:UInt32) (h:i<l.length):(l.set i x).getD i 0=x:=by simp[h]
theorem DO (l:List UInt32) (i j:Nat) (x:UInt32) (h:i≠j):(l.set i x).getD j 0=l.getD j 0:=by simp only[List.getD_eq_getElem?_getD,List.getElem?_set_ne h]
theorem KD (l:List UInt8):∀k q,k≤4*q→(CP l k).getD q 0=0
 |0,q,_=>by
  simp only[CP,List.getD_eq_getElem?_getD,List.getElem?_replicate];split <;>rfl
 |k+1,q,h=>by
  rw[CP,DO _ _ _ _ (by omega)];exact KD l k q (by omega)
theorem Ps (l:List UInt8) (q:Nat) (hq:q<16):∀k,4*q+4≤k→(CP l k).getD q 0=Jv l q:=by
 intro k hk;obtain⟨n,rfl⟩:=Nat.exists_eq_add_of_le hk
 induction n with
 |zero=>
  have e0:=KD l (4*q) q Lr;have L:=Cf l;show(CP l (4*q+3+1)).getD q 0=_;have s:∀r,r<4→(CP l (4*q+r+1)).getD q 0=(CP l (4*q+r)).getD q 0<<<8|||(l.getD (4*q+r) 0).toUInt32:=fun r hr=>by rw[CP,show(4*q+r)/4=q by omega,D7 _ _ _ (by rw[L];exact hq)]
  rw[s 3 (by omega),show 4*q+3=4*q+2+1 from rfl,s 2 (by omega),show 4*q+2=4*q+1+1 from rfl,s 1 (by omega),show 4*q+1=4*q+0+1 from rfl,s 0 (by omega),Nat.add_zero,e0];exact SI _ _ _ _
 |succ n ih=>
  rw[←Nat.add_assoc,CP,DO _ _ _ _ (by omega)];exact ih (by omega)
theorem L4 (l:List UInt8):(AF l).length=16:=Cf l 64
theorem Om (l:List UInt8) (i:Nat) (hi:i<16):(AF l).getD i 0=Jv l i:=Ps l i hi 64 (by omega)
theorem IM (l:List UInt8) (j k:Nat) (h:j<k):∀n,(B6 l (k+n)).getD j 0=(B6 l k).getD j 0
 |0=>rfl
 |n+1=>by
  rw[←Nat.add_assoc,B6,DO _ _ _ _ (by omega)];exact IM l j k h n
theorem IA (l:List UInt8) (j k:Nat) (h:j<k) (hk:k≤64):(B6 l k).getD j 0=(Ct l).getD j 0:=by obtain⟨n,hn⟩:=Nat.exists_eq_add_of_le hk;rw[Ct,hn,IM l j k h]
theorem Sa (l:List UInt8) (t:Nat) (h:t<16):(Ct l).getD t 0=Jv l t:=by rw[←IA l t (t+1) (by omega) (by omega),B6,D7 _ _ _ (by rw[CH];omega),Ip h]
theorem RC (l:List UInt8) (t:Nat) (h:16≤t) (h2:t<64):
 (Ct l).getD t 0=(Ct l).getD (t-16) 0+(ss0 ((Ct l).getD (t-15) 0)+ss1 ((Ct l).getD (t-2) 0)+(Ct l).getD (t-7) 0):=by
 rw[←IA l t (t+1) (by omega) (by omega),B6,D7 _ _ _ (by rw[CH];omega),In (by omega),
  IA l (t-2) t (by omega) (by omega),IA l (t-7) t (by omega) (by omega),IA l (t-15) t (by omega) (by omega),IA l (t-16) t (by omega) (by omega)]
 generalize (Ct l).getD (t-2) 0=x2;generalize (Ct l).getD (t-7) 0=x7;generalize (Ct l).getD (t-15) 0=x15;generalize (Ct l).getD (t-16) 0=x16;generalize ss1 x2=y2;generalize ss0 x15=y15
 ac_rfl
attribute [local irreducible] B6 Ct AF CP
theorem L5 (h:W8) (l:List UInt8):∀t,t≤64→((B5 h (AF l) t).1=Gn h (Ct l) t∧
 ∀i,i<max t 16→max t 16≤i+16→(B5 h (AF l) t).2.getD (i%16) 0=(Ct l).getD i 0)
 |0,_=>by
  refine⟨rfl,fun i h1 _=>?_⟩;have hi:i<16:=by omega
  rw[B5,Nat.mod_eq_of_lt hi,Sa l i hi];exact Om l i hi
 |t+1,ht=>by
  obtain⟨e,inv⟩:=L5 h l t (by omega);have hl:(B5 h (AF l) t).2.length=16:=by rw[Fi];exact L4 l
  have key:∀i,i<max (t+1) 16→max (t+1) 16≤i+16→(CY (B5 h (AF l) t).2 t).getD (i%16) 0=(Ct l).getD i 0:=by
   intro i h1 h2;unfold CY;by_cases h16:t<16
   ·rw[Ip h16];exact inv i (by omega) (by omega)
   ·rw[In h16];by_cases hit:i=t
    ·subst hit;have a0:=inv (i-16) (by omega) (by omega);rw[show(i-16)%16=i%16 by omega]at a0;rw[D7 _ _ _ (by rw[hl];omega),a0,inv (i-15) (by omega) (by omega),inv (i-2) (by omega) (by omega),inv (i-7) (by omega) (by omega),←RC l i (by omega) (by omega)]
    ·rw[DO _ _ _ _ (by omega)];exact inv i (by omega) (by omega)
  refine⟨?_,fun i h1 h2=>by rw[B5];exact key i h1 h2⟩;rw[B5,Gn,←e,←key t (by omega) (by omega)]
theorem Pt (h:W8) (l:List UInt8):Ba h (AF l)=h.plus (Gn h (Ct l) 64):=by have e:=(L5 h l 64 Lr).1;rw[Ba,e]
theorem ND (P:List UInt8):∀j,rH P j=Gi w8init P j
 |0=>rfl
 |j+1=>by rw[rH,Gi,ND P j,Pt];rfl
theorem RD (l:List UInt8):BE (rH (l++C7 l.length) ((l++C7 l.length).length/64))=BI l:=by rw[ND];rfl
end Go.Proofs.YtplclpileejemaaGreatDoor
namespace Go.Proofs.YtplclpileejemaaGreatDoor
open Go.RowKit
variable {w:World}{F:Nat→Prop}{g B s k:Nat}{l:List UInt8}{v:Value}{T:TypeId}
abbrev Z32:Array Value:=Zy
theorem NE (l:List UInt8):(Tryz.prog.info? 171).map (·.size)=some (bvs (BI l)).toArray.size:=by
 have:(Tryz.prog.info? 171).map (·.size)=some 32:=by kernel_rfl
 rw[this,List.size_toArray,Ap,CG]
theorem NF (l:List UInt8):Z32.size=(bvs (BI l)).toArray.size:=by show 32=_;rw[List.size_toArray,Ap,CG]
theorem On (g:Nat) (w:World):(Instr.sliceAt 171 (.pointer (some ⟨g,0,none⟩)) none (some (.int .i64 16)) none).run Tryz.prog w=.ok (.slice (some ⟨g,0,none⟩) 16 32) w:=by simp[Instr.sliceAt,run_underlying Tryz.underlying171,Instr.sureAddr,Instr.sliceBounds,Instr.sliceBound,asIntOf,FD];rfl
theorem L6 (l:List UInt8) (v:Value) (hv:BytesN w F v l) (hlen:l.length<100000000):
 Ca 98 #[v] w fun e w'=>e=.returned (.agg (bvs (BI l)).toArray)∧Below w.heap.size w w':=by
 refine(Qz l v hv hlen).mono fun e w' ⟨h1,h2⟩=>⟨?_,h2⟩
 rw[h1,RD];rfl
theorem BytesAt.n {off n c:Nat} (h:BytesAt w F (.slice (some ⟨g,off,none⟩) n c) l):BytesN w F (.slice (some ⟨g,off,none⟩) n c) l:=⟨h,fun k c e=>by cases e⟩
theorem Bk {n:Nat} (h:w.ownsRow B 5 1 v n (bvs l)):BytesN w (fun k=>B≤k) v l:=BytesN.of_own h (by simpa using h.1)
theorem Ed {n:Nat}{a:Option Addr}{c:Nat}{xs:List Value} (h:w.ownsRow B T s (.slice a k c) n xs) (hn:0<n):∃g,a=some ⟨g,0,none⟩∧k=n∧B≤g∧g<w.heap.size:=by
 rcases h.2 with⟨e,h0⟩| ⟨g,cap,cur,e,hb,hg,_⟩
 ·omega
 ·cases e;exact⟨g,rfl,rfl,hb,(Ax hg).1⟩
section
variable {ops:Array Oper} {rest:List Oper} {o:Oper} {a:Act} {Q:Exit→Act→World→Prop}
theorem Hy (hgd:o.guard=none) (s x:Operand) (ho:o.op=.call {callee:=.builtin .append,args:=#[s,x],argTypes:=#[30,30]})
 {B n:Nat} {v xv:Value} {F:Nat→Prop} {xs ys:List UInt8} (hs:a.eval s=v) (hown:w.ownsRow B 5 1 v n (bvs xs)) (hx:a.eval x=xv) (hb:BytesAt w F xv ys) (hnil:∀k c,xv=.slice none k c→c=0)
 (hn:n+ys.length≤140737488355328) (hB:B≤w.heap.size)
 (h:∀a' cap' w',w'.ownsRow B 5 1 (.slice a' (n+ys.length) cap') (n+ys.length) (bvs (xs++ys))→w.grownBy w' v.ownBlock→wpList Tryz.prog ops Q rest (a.put o.dst (.slice a' (n+ys.length) cap')) w'):
 wpList Tryz.prog ops Q (o::rest) a w:=by
 obtain⟨i0,hi,hz0,hz1,hz2⟩:=info_parts CX;obtain⟨xa,xc,rfl,hxc,hxr⟩:=hb;cases xa with
 |none=>
  have hc0:=hnil _ _ rfl;subst hc0;have hy:ys=[]:=List.eq_nil_of_length_eq_zero (by omega);subst hy;obtain⟨va,vc,rfl⟩:=Ag hown;refine wpList_append_own_none hgd s x 30 ho B 5 i0 1 Tryz.underlying30 hi _ n (bvs xs) hs hown hx ?_;have:=h va vc w (by simpa using hown) ⟨rfl,rfl,rfl,Nat.le_refl _,fun _ _ _=>rfl⟩;simpa using this
 |some ad=>
  refine wpList_append_own w hgd s x 30 ho B 5 i0 _ 1 1 Tryz.underlying30 hi hz0 hz1 hz2 rfl (by decide) v n (bvs xs) hs hown ad ys.length xc (bvs ys) hx (by simp) ?_ Bc (by unfold maxLen;omega) (by omega) hB ?_
  ·intro j u hu;obtain⟨g,off,e,_,_,hr⟩:=hxr (by intro e;rw[e]at hu;simp[bvs]at hu);cases e;have hadd:(⟨g,off,none⟩:Addr).add j=⟨g,off+j,none⟩:=by unfold Addr.add;split <;>simp_all
   rw[hadd];exact hr j u hu
  ·intro v' w' hown' hg _;rw[←DK]at hown';obtain⟨a',cap',rfl⟩:=Ag hown';exact h a' cap' w' hown' hg
end
theorem QB (l:List UInt8) (v:Value) (hv:BytesN w F v l) (hlen:l.length≤140737488351232):
 Ca 114 #[v] w fun e w'=>∃u,e=.returned u∧w'.ownsRow w.heap.size 5 1 u 256 (bvs (Fs l))∧Below w.heap.size w w':=by
 obtain⟨ba,bc,rfl⟩:=hv.at_.form;obtain⟨N,hN⟩:=Xq (l.length);have hba:Below w.heap.size w (w.alloc (.cells #[] 5)):=Rq.alloc Lr _;have hbv:=hv.below hba;have ho:=Dy (w:=w) Lr 5;have hbs:w.heap.size≤(w.alloc (.cells #[] 5)).heap.size:=hba.size;rw[hN]at hlen hbv⊢;obtain⟨HBA,HBV,HO,HBS,HN⟩:=Hd5 hba hbv ho hbs hN;clear hv hba hbv ho hbs hN;go_enter Tryz.func114,Tryz.ntmps114;go_wp2_with (at_builtin;refine Hy (xs:=[]) rfl (.tmp 5) (.tmp 6) rfl rfl HO.out rfl HBV.out.at_ HBV.out.nil ?hn HBS.out ?_)
 case hn=>have:=HN.out;omega
 intro a' cap' w3 hO3 hg3
 try rw[HN.out]at hO3
 try rw[HN.out]
 have hB3:Below w.heap.size w w3:=HBA.out.grown hg3 HBS.out (fun j hj=>by cases hj;exact Nat.le_refl _);have HO3:=Hd hO3;have HB3:=Hd hB3;clear hO3 hg3 hB3;go_wp2_with fail;go_loopw [3] (fun pv wr=>∃j:Nat,(0<j→N+j≤240)∧wr.ownsRow w.heap.size 5 1 pv (N+j) (bvs (l++List.replicate j 0))∧Below w.heap.size w wr)
  (fun pv _=>match pv with|.slice _ n _=>240-n|_=>0)
 case atStart=>exact⟨0,by omega,by rw[List.replicate_zero,List.append_nil];exact HO3.out,HB3.out⟩
 case round=>
  obtain⟨j,hj,hO,hB⟩:=hrel;obtain⟨pa,pc,rfl⟩:=Ag hO;by_cases hlt:N+j<240
  ·have hgn:=heap_alloc_new wr (.cells #[.int .u8 0] 5);have hba:Below wr.heap.size wr (wr.alloc (.cells #[.int .u8 0] 5)):=Rq.alloc Lr _;have hgn2:(wr.alloc (.cells #[.int .u8 0] 5)).heap[wr.heap.size]?=some (.cells #[bv 0] 5 (0,0)):=by rw[hgn];rfl
   have hO4:=An hO hba;have hbs:w.heap.size≤(wr.alloc (.cells #[.int .u8 0] 5)).heap.size:=by have:=hB.size;simp;omega
   have hB4:=Tq hB hba;obtain⟨HGN,HO4,HB4,HBS⟩:=Hd4 hgn2 hO4 hB4 hbs;clear hgn hba hgn2 hO4 hB4 hbs hO hB;go_wp2_with (at_builtin;refine B9 rfl (.tmp 11) (.tmp 12) rfl rfl HO4.out wr.heap.size rfl HGN.out (by omega) HBS.out ?_)
   intro g' cap' w5 hlt5 hown5 hgr5 hat5;have hB5:Below w.heap.size w w5:=HB4.out.grown hgr5 HBS.out (fun j hj=>(Ab HO4.out j hj).1);have HO5:=Hd hown5;have HB5:=Hd hB5;clear hown5 hgr5 hat5 hB5 HGN HO4 HB4 HBS;go_wp2_with fail;go_roundw
   case rel=>exact⟨j+1,by omega,by rw[List.replicate_succ'];exact HO5.out,HB5.out⟩
   case measure=>simp;omega
  ·have hge:240≤N+j:=by omega
   have hcapI:(240:Int)≤(pc:Int):=by have h1:=(Dh hO).len;omega
   have hc0:¬pc=0:=by omega
   have hpad:(l++List.replicate j 0).take 240=Dk l:=by
    unfold Dk;rw[HN.out];by_cases h0:j=0
    ·subst h0;rw[List.replicate_zero,List.append_nil,Nat.sub_eq_zero_of_le (by omega),List.replicate_zero,List.append_nil]
    ·have:=hj (by omega);have e:240-N=j:=by omega
     rw[e]
   obtain⟨pg,rfl,_,hpg,hpl⟩:=Ed hO (by omega);have hlen2:(l++List.replicate j 0).length=N+j:=by simp[HN.out]
   have hbp0:=Dh hO;rw[←hlen2]at hbp0;have hbp:=hbp0.part 0 240 pc (by omega) (by omega);rw[List.drop_zero,Nat.add_zero,hpad]at hbp;have hsum:=L6 (Dk l) _ hbp.n (by rw[EO];omega);obtain⟨HSUM,HBP,HB⟩:=Hd3 hsum hbp hB;clear hj hO hB hpad hlen2 hbp0 hbp hsum HO3 HB3 HBV HO HBS HBA;go_wp2_with fail;refine HSUM.out.mono ?_;rintro e w6 ⟨rfl,hb6⟩;obtain⟨w7,hw7⟩:=Xq (w6.alloc (.cells (bvs (BI (Dk l))).toArray 171));have hb7:=Lq hw7;have hq7:w7.heap.size=w6.heap.size+1:=by rw[←hw7];simp
   have hm7:=Nq hw7 rfl;have hbd7:=(Tq HB.out hb6).trans (hb7.mono (Nt HB.out.size hb6.size));have hsz:=NE (Dk l);have hzs:=NF (Dk l);have hnw:=heap_alloc_new w6 (.cells Z32 171);have hsl:=fun w=>On w6.heap.size w
   obtain⟨w8,hw8⟩:=Xq (w7.alloc (.cells #[] 5));have hb8:=Lq hw8;have ho8:=hw8▸Dy (w:=w7) hbd7.size 5;have hbs8:=Dt ((hb8.block _ (by omega)).trans hm7) 0 16 32 (by simp) (by omega);have eh:((BI (Dk l)).drop 0).take 16=A3 (Dk l):=rfl;rw[eh]at hbs8;have hbd8:=Tq hbd7 hb8;have hbp8:=((HBP.out.here.below hb6).below hb7).below hb8;have hq6:wr.heap.size≤w6.heap.size:=hb6.size;obtain⟨HQ6,HSZ,HZS,HNW,HW7,HW8,HO8,HBS8,HBD8,HBP8⟩:=Hd10 hq6 hsz hzs hnw hw7 hw8 ho8 hbs8 hbd8 hbp8;clear hq6 hb6 hw7 hb7 hq7 hm7 hbd7 hsz hzs hnw hw8 hb8 ho8 hbs8 eh hbd8 hbp8;go_wp2_with (first| (with_reducible refine wpList_store_row rfl 171 _ _ rfl w6.heap.size (bvs (BI (Dk l))).toArray rfl rfl 171 _ HNW.out HSZ.out HZS.out (Bb _) ?_;rw[World.setRow_alloc_new,HW7.out])| (at_builtin;rw[HW8.out];refine BR (xs:=[]) rfl (.tmp 18) (.tmp 19) rfl rfl HO8.out rfl HBS8.out (fun k c e=>by cases e) (by simp) HBD8.out.size ?_))
   intro a9 cap9 w9 hO9 hg9;have hB9:Below w.heap.size w w9:=HBD8.out.grown hg9 HBD8.out.size (fun j hj=>(Ab HO8.out j hj).1);have hq8:w6.heap.size<w7.heap.size:=by rw[←HW7.out];simp
   have hq6:=HQ6.out;have hbp9:BytesAt w9 (fun k=>k<w7.heap.size) (.slice (some ⟨pg,0,none⟩) 240 pc) (Dk l):=by refine(HBP8.out.mono (G:=fun k=>k<w7.heap.size) (fun k (hk:k<wr.heap.size)=>by omega)).kept (G:=fun k=>k=w7.heap.size) (Chg.grown hg9 (fun k hk=>.inl (by cases hk;rfl))) (fun k hk h=>by have:k<w7.heap.size:=hk;have:k=w7.heap.size:=h;omega)
   have hO9':w9.ownsRow w.heap.size 5 1 (.slice a9 16 cap9) 16 (bvs (A3 (Dk l))):=by simpa using hO9
   obtain⟨HO9,HB9,HBP9⟩:=Hd3 (Am hO9' Lr) hB9 hbp9;clear hO9 hO9' hg9 hB9 hbp9;go_wp2_with (at_builtin;refine BR rfl (.tmp 20) (.tmp 21) rfl rfl HO9.out rfl HBP9.out (fun k c e=>by cases e) (by rw[EO];omega) HB9.out.size ?_)
   intro a10 cap10 w10 hO10 hg10;have hB10:Below w.heap.size w w10:=HB9.out.grown hg10 HB9.out.size (fun j hj=>(Ab HO9.out j hj).1);rw[EO]at hO10⊢;have HO10:=Hd hO10;have HB10:=Hd hB10;clear hO10 hg10 hB10;go_wp2_with fail;go_ret;exact⟨_,rfl,HO10.out,HB10.out⟩
end Go.Proofs.YtplclpileejemaaGreatDoor
