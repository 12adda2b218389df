/- Short form (wip/zpack.py) of the texts Disk6 Disk7 Disk10 U32 Sha1 Region6 Sha2 Sha3 Sha4. -/
import Derived.Test.YtplclpileejemaaGreatDoorP1
import Derived.Laws.BitsAllLaws
import Derived.Laws.Shifts
import Derived.Deep.Quiet
set_option linter.all false
set_option maxRecDepth 100000
set_option maxHeartbeats 8000000
namespace Go.Proofs.YtplclpileejemaaGreatDoor
open Go.RowKit
def FK (before after:List UInt8) (c:Nat):List UInt8:=
 if c%3=0 then before else if c%3=1 then after else after.take (c/3%17*16)++before.drop (c/3%17*16)
theorem IJ {a b:List UInt8} (ha:a.length=256) (hb:b.length=256) (c:Nat):(FK a b c).length=256:=by
 unfold FK;have h17:c/3%17<17:=Nat.mod_lt _ (by decide);by_cases h0:c%3=0
 ·simp[h0,ha]
 ·by_cases h1:c%3=1
  ·simp[h1,hb]
  ·rw[In h0,In h1];simp[ha,hb];omega
theorem LK (w:World) (A B C:Obj):Below w.heap.size w (((w.alloc A).alloc B).alloc C):=
 (((Below.refl _ w).alloc Lr _).alloc (by simp) _).alloc (by simp;omega) _
theorem Sl (a b:List UInt8) (ha:a.length=256) (c:Int) (w:World):
 Ca 60 #[BF a,BF b,.int .i64 c] w fun e w'=>e=.returned (BF a)∧Below w.heap.size w w':=by
 have h3:=It w (.cells (bvs a).toArray 74) (.cells (bvs b).toArray 74) (.cells Tryz.zeroCells74 74);have hb3:=LK w (.cells (bvs a).toArray 74) (.cells (bvs b).toArray 74) (.cells Tryz.zeroCells74 74);have hsz:=Bh ha;obtain⟨H3,HS,HB,HA⟩:=Hd4 h3 hsz hb3 ha;clear h3 hsz hb3 ha;unfold BF;go_enter Tryz.func60,Tryz.ntmps60;go_wp2_with (first| (with_reducible refine wpList_load_row rfl 74 _ rfl w.heap.size rfl 74 (bvs a).toArray (0,0) _ H3.out.1 Tryz.underlying74 rfl HS.out ?_)| (with_reducible refine wpList_store_row rfl 74 _ _ rfl (w.heap.size+2) (bvs a).toArray rfl rfl 74 Tryz.zeroCells74 H3.out.2.2 HS.out (by rw[I2];simp[HA.out,AW]) (Bb _) ?_))
 exact Br (v:=.agg (bvs a).toArray) (results_cell_row (g:=w.heap.size+2) rfl _ _ _ _ _ _ rfl (setRow_heap _ _ _ _ _ _ H3.out.2.2) Tryz.underlying74 rfl HS.out) rfl ⟨rfl,below_setRow HB.out (by omega) _⟩
theorem Sm (a b:List UInt8) (ha:b.length=256) (c:Int) (w:World):
 Ca 61 #[BF a,BF b,.int .i64 c] w fun e w'=>e=.returned (BF b)∧Below w.heap.size w w':=by
 have h3:=It w (.cells (bvs a).toArray 74) (.cells (bvs b).toArray 74) (.cells Tryz.zeroCells74 74);have hb3:=LK w (.cells (bvs a).toArray 74) (.cells (bvs b).toArray 74) (.cells Tryz.zeroCells74 74);have hsz:=Bh ha;obtain⟨H3,HS,HB,HA⟩:=Hd4 h3 hsz hb3 ha;clear h3 hsz hb3 ha;unfold BF;go_enter Tryz.func61,Tryz.ntmps61;go_wp2_with (first| (with_reducible refine wpList_load_row rfl 74 _ rfl (w.heap.size+1) rfl 74 (bvs b).toArray (0,0) _ H3.out.2.1 Tryz.underlying74 rfl HS.out ?_)| (with_reducible refine wpList_store_row rfl 74 _ _ rfl (w.heap.size+2) (bvs b).toArray rfl rfl 74 Tryz.zeroCells74 H3.out.2.2 HS.out (by rw[I2];simp[HA.out,AW]) (Bb _) ?_))
 exact Br (v:=.agg (bvs b).toArray) (results_cell_row (g:=w.heap.size+2) rfl _ _ _ _ _ _ rfl (setRow_heap _ _ _ _ _ _ H3.out.2.2) Tryz.underlying74 rfl HS.out) rfl ⟨rfl,below_setRow HB.out (by omega) _⟩
theorem LL (w:World) (g n:Nat) (hn:n≤256):
 (Instr.sliceAt 74 (.pointer (some ⟨g,0,none⟩)) none (some (.int .i64 n)) none).run Tryz.prog w=.ok (.slice (some ⟨g,0,none⟩) n 256) w:=by
 have h1:(n:Int)≤256:=by omega
 have hs:(sizeOf 5).run Tryz.prog w=.ok 1 w:=by kernel_rfl
 simp[Instr.sliceAt,run_underlying Tryz.underlying74,Instr.sureAddr,Instr.sliceBounds,Instr.sliceBound,asIntOf,h1,hs,hn];rfl
theorem Sn (a b:List UInt8) (ha:a.length=256) (hb:b.length=256) (c:Nat) (hc:c≤255) (w:World):
 Ca 62 #[BF a,BF b,.int .i64 c] w fun e w'=>e=.returned (BF (b.take (c/3%17*16)++a.drop (c/3%17*16)))∧Below w.heap.size w w':=by
 have h3:=It w (.cells (bvs a).toArray 74) (.cells (bvs b).toArray 74) (.cells Tryz.zeroCells74 74);have hb3:=LK w (.cells (bvs a).toArray 74) (.cells (bvs b).toArray 74) (.cells Tryz.zeroCells74 74);have hsz:=Bh ha;obtain⟨H3,HS,HB,HA,HBl⟩:=Hd5 h3 hsz hb3 ha hb;clear h3 hsz hb3 ha hb;unfold BF;go_enter Tryz.func62,Tryz.ntmps62;go_wp2;obtain⟨W,hW⟩:=Xq (((w.alloc (.cells (bvs a).toArray 74)).alloc (.cells (bvs b).toArray 74)).alloc (.cells Tryz.zeroCells74 74));rw[hW]at H3 HB⊢;clear hW;obtain⟨n,hn⟩:∃n,n=c/3%17*16:=⟨_,rfl⟩;have hn256:n≤256:=by have:c/3%17<17:=Nat.mod_lt _ (by decide);omega
 have e:(c:Int)/3%17*16=(n:Int):=by omega
 rw[e];have HN:=Hd hn;clear e hn;have hs1:=LL W.drew w.heap.size n hn256;have hs2:=LL W.drew (w.heap.size+1) n hn256;have hBs:w.heap.size+2<W.heap.size:=(Ax H3.out.2.2).1;have hsu:(Tryz.prog.info? 5).map (·.size)=some 1:=by kernel_rfl
 have HU:=Hd hsu;clear hsu;go_still_tail 4,(by kernel_rfl);obtain⟨W1,hW1⟩:∃W1:World,{W with drawn:=W.drawn+1}=W1:=⟨_,rfl⟩;have g0:W1.heap[w.heap.size]?=some (.cells (bvs a).toArray 74 (0,0)):=by rw[←hW1];exact H3.out.1
 have g1:W1.heap[w.heap.size+1]?=some (.cells (bvs b).toArray 74 (0,0)):=by rw[←hW1];exact H3.out.2.1
 have g2:W1.heap[w.heap.size+2]?=some (.cells Tryz.zeroCells74 74 (0,0)):=by rw[←hW1];exact H3.out.2.2
 have hB1:Below w.heap.size w W1:=by rw[←hW1];exact HB.out.drew
 rw[hW1];clear hW1 hs1 hs2;have hlen:(bvs (b.take n)).length=n:=by rw[Ap,List.length_take,HBl.out];omega
 refine wpList_copy_own rfl (.tmp 13) (.tmp 15) 30 30 rfl 5 Tryz.underlying30 HU.out w.heap.size 0 n 256 ⟨w.heap.size+1,0,none⟩ n 256 rfl rfl (bvs a).toArray 74 g0 (bvs (b.take n)) (by rw[hlen];simp) ?_ (by rw[hlen,List.size_toArray,Ap,HA.out];omega) Bc ?_
 ·intro j v hv;have hadd:(⟨w.heap.size+1,0,none⟩:Addr).add j=⟨w.heap.size+1,j,none⟩:=by unfold Addr.add;split <;>simp_all
  rw[hadd,cell_of_row W1 _ _ _ _ _ g1];rw[AE,List.getElem?_take]at hv;split at hv
  ·simp[AE,hv]
  ·cases hv
 ·obtain⟨W2,hW2⟩:=Xq (W1.setRow w.heap.size (List.take 0 (bvs a).toArray.toList++(bvs (b.take n)++List.drop (0+(bvs (b.take n)).length) (bvs a).toArray.toList)).toArray);have ea:(List.take 0 (bvs a).toArray.toList++(bvs (b.take n)++List.drop (0+(bvs (b.take n)).length) (bvs a).toArray.toList)).toArray=(bvs (b.take n++a.drop n)).toArray:=by rw[hlen];simp[bvs,List.map_drop]
  have k0:W2.heap[w.heap.size]?=some (.cells (bvs (b.take n++a.drop n)).toArray 74 (0,0)):=by rw[←hW2,ea];exact setRow_heap _ _ _ _ _ _ g0
  have k2:W2.heap[w.heap.size+2]?=some (.cells Tryz.zeroCells74 74 (0,0)):=by rw[←hW2,setRow_other _ _ _ _ (by omega)];exact g2
  have hB2:Below w.heap.size w W2:=by rw[←hW2];exact below_setRow hB1 Lr _
  have hrl:(b.take n++a.drop n).length=256:=by rw[List.length_append,List.length_take,List.length_drop,HA.out,HBl.out];omega
  have hsz:=Bh hrl;obtain⟨R,hR⟩:∃R,R=b.take n++a.drop n:=⟨_,rfl⟩;rw[←hR]at k0 hsz hrl;rw[hW2];obtain⟨HSz,HRl,HR⟩:=Hd3 hsz hrl hR;clear hW2 ea hsz hrl hlen g0 g1 g2 hR;go_wp2_with (first| (with_reducible refine wpList_load_row rfl 74 _ rfl w.heap.size rfl 74 (bvs R).toArray (0,0) _ k0 Tryz.underlying74 rfl HSz.out ?_)| (with_reducible refine wpList_store_row rfl 74 _ _ rfl (w.heap.size+2) (bvs R).toArray rfl rfl 74 Tryz.zeroCells74 k2 HSz.out (by rw[I2];simp[HRl.out,AW]) (Bb _) ?_))
  refine Br (v:=.agg (bvs R).toArray) (results_cell_row (g:=w.heap.size+2) rfl _ _ _ _ _ _ rfl (setRow_heap _ _ _ _ _ _ k2) Tryz.underlying74 rfl HSz.out) rfl ⟨?_,below_setRow hB2 (by omega) _⟩;rw[HR.out,HN.out]
variable {S:DS}{P:Program}{w:World}{o:Oper}{v:Value}{F G:Nat→Prop}{b:Nat}
def rdur (S:DS) (cs:List UInt8):Nat→List (List UInt8)
 |0=>S.dur
 |k+1=>match S.pend[k]? with
  |some x=>(rdur S cs k).set x.1 (FK ((rdur S cs k).getD x.1 zeros) x.2 (cs.getD k 0).toNat)
  |none=>rdur S cs k
def DS.restart (S:DS) (cs:List UInt8):DS×Int:=
 if S.down then({dur:=rdur S cs S.pend.length,pend:=[],ops:=S.ops,limit:=none,down:=false},0)else(S,10)
theorem AV (S:DS) (cs:List UInt8):∀k,(rdur S cs k).length=S.dur.length
 |0=>rfl
 |k+1=>by
  have:=AV S cs k;unfold rdur;cases S.pend[k]? with
  |none=>exact this
  |some x=>simpa using this
theorem Ec (h:S.ok) (cs:List UInt8):∀k,∀x∈rdur S cs k,x.length=256
 |0=>h.dur
 |k+1=>by
  have ih:=Ec h cs k;unfold rdur;cases hp:S.pend[k]? with
  |none=>exact ih
  |some y=>
   intro x hx;have hy:=h.pend y (List.mem_of_getElem? hp);rcases List.mem_or_eq_of_mem_set hx with h1|h1
   ·exact ih x h1
   ·rw[h1];refine IJ ?_ hy.2 _;have hl:=AV S cs k;have hlt:y.1<(rdur S cs k).length:=by omega
    have:(rdur S cs k).getD y.1 zeros=(rdur S cs k)[y.1]:=by simp[hlt]
    rw[this];exact ih _ (List.getElem_mem _)
theorem He {ρ:Operand→Value}{m k:Value} (t:TypeId) (x y:Operand) (ho:o.op=.lookup t x y false) (hx:ρ x=m) (hy:ρ y=k)
 (hr:(Instr.lookup t m k false).run P w=.ok v w):(execOp ρ o).run P w=.ok (.value v) w:=by
 unfold execOp;simp only[ho,hx,hy,Sem.run_bind,hr,Result.andThen_ok];rfl
theorem LM (v:Value) (cs:List UInt8) (h:DiskAt w F b S) (hv:BytesAt w G v cs) (hFG:∀k,F k→¬G k) (hd:S.down=true)
 (hlen:S.pend.length<100000000000) (hcl:cs.length≤9223372036854775807):
 Ca 25 #[.pointer (some ⟨b,0,none⟩),v] w fun e w'=>e=.returned (.int .i64 0)∧
  DiskAt w' F b (S.restart cs).1∧Chg F w w':=by
 obtain⟨hok,m,pv,hx⟩:=h;obtain⟨c0,c1,c2,c3,c4,c5,c6,f⟩:=hx.cells;rw[hd]at c6;have hl:∀x∈S.pend,x.2.length=256:=fun x h=>(hok.pend x h).2
 have hP:=DA hl hx.hp;obtain⟨a,cap,rfl,hcap,hr⟩:=hv;obtain⟨pa,pcap,hpv⟩:∃a cap,pv=.slice a S.pend.length cap:=by
  rcases hP with⟨rfl,e⟩| ⟨g,cap,rfl,_⟩
  ·exact⟨none,0,by rw[e];rfl⟩
  ·exact⟨_,_,rfl⟩
 subst hpv;obtain⟨HX,HOK,HL,HP,HR,HD⟩:=Hd6 hx hok hl hP hr hd;clear hx hok hl hP hr hd;go_enter Tryz.func25,Tryz.ntmps25;have hmk:=heap_alloc_new w (.cells #[.nilFunc,.nilFunc,.nilFunc] 118);have hs87:(Tryz.prog.info? 118).map (·.size)=some 3:=by kernel_rfl
 have hsz:(#[Value.nilFunc,Value.nilFunc,Value.nilFunc]:Array Value).size=(#[Value.func (.func 60) #[] #[],.func (.func 61) #[] #[],.func (.func 62) #[] #[]]:Array Value).size:=rfl;have hone:(#[Value.func (.func 60) #[] #[],.func (.func 61) #[] #[],.func (.func 62) #[] #[]]:Array Value).all (·.oneCell')=true:=by simp[Value.oneCell']
 have hs3:(Tryz.prog.info? 118).map (·.size)=some (#[Value.func (.func 60) #[] #[],.func (.func 61) #[] #[],.func (.func 62) #[] #[]]:Array Value).size:=hs87;obtain⟨H87,HMK,HSZ3,HONE⟩:=Hd4 hs3 hmk hsz hone;clear hs87 hmk hsz hone hs3;obtain⟨w1,hw1⟩:=Xq (w.alloc (.cells #[.func (.func 60) #[] #[],.func (.func 61) #[] #[],.func (.func 62) #[] #[]] 118));have hC1:Chg F w w1:=hw1▸Chg.alloc w _;have hsz1:w1.heap.size=w.heap.size+1:=by rw[←hw1,Sz]
 have hfs:=Nq hw1 rfl;have hx1:DiskX w1 F b m (.slice pa S.pend.length pcap) S:=HX.out.chg (G:=fun _=>False) (hw1▸Chg.alloc w _) (fun _ _ h=>h);have d2:=hx1.cells.2.2.1;obtain⟨HFS,HX1,HC1,HS1,HW1⟩:=Hd5 hfs hx1 hC1 hsz1 hw1;clear hfs hx1 hC1 hsz1 hw1;go_wp2_with (first| (with_reducible refine wpList_store_row rfl 118 _ _ rfl w.heap.size #[.func (.func 60) #[] #[],.func (.func 61) #[] #[],.func (.func 62) #[] #[]] rfl rfl 118 #[.nilFunc,.nilFunc,.nilFunc] HMK.out H87.out HSZ3.out HONE.out ?_;rw[World.setRow_alloc_new,HW1.out]))
 clear HMK H87 HSZ3 HONE c0 c1 c2 c3 c4 c5 c6 f d2;go_loopw [22] (fun i wr=>∃k:Nat,k≤S.pend.length∧i=.int .i64 k∧MapIs wr m S.dur.length zeros (fun i=>(rdur S cs k).getD i zeros)∧Chg (fun i=>i=m) w1 wr)
  (fun i _=>S.pend.length-(intOf i).toNat)
 case atStart=>exact⟨0,Nat.zero_le _,rfl,HX1.out.hm,Chg.refl _ _⟩
 case round=>
  obtain⟨k,hk,rfl,hM,hC⟩:=hrel;by_cases hlt:k<S.pend.length
  ·have hP1:=DA HL.out HX1.out.hp;rcases hP1 with⟨_,e2⟩| ⟨g,cap',e1,hg,hr⟩
   ·rw[e2]at hlt;simp at hlt
   simp only[Value.slice.injEq]at e1;obtain⟨rfl,_,rfl⟩:=e1;have hgm:g≠m:=fun e=>HX1.out.pm (by rw[e];rfl)
   obtain⟨x1,x2,hx⟩:∃x1 x2,S.pend[k]=(x1,x2):=⟨_,_,rfl⟩;have hxm:(x1,x2)∈S.pend:=hx▸List.getElem_mem hlt;have hx1:x1<S.dur.length:=(HOK.out.pend _ hxm).1;have hx2:x2.length=256:=(HOK.out.pend _ hxm).2;have hrq:wr.rangeAt g (k*257) (AC (x1,x2)):=fun j u hu=>(World.cell?_of_block (hC.block g hg hgm)).trans (hr k hlt j u (by rw[hx];exact hu))
   have hwl:(AC (x1,x2)).length=257:=Bf hx2;have hsw:(Tryz.prog.info? 80).map (·.size)=some (AC (x1,x2)).length:=by rw[hwl];exact E6
   have hsw2:(Tryz.prog.info? 80).map (·.size)=some (AC (x1,x2)).toArray.size:=by rw[List.size_toArray];exact hsw
   have hsw3:(Tryz.zeroCells80).size=(AC (x1,x2)).toArray.size:=by rw[LF,List.size_toArray,List.size_toArray,hwl];exact Bf AW
   have hnw:=heap_alloc_new wr (.cells Tryz.zeroCells80 80);obtain⟨W1,hW1⟩:=Xq (wr.alloc (.cells (AC (x1,x2)).toArray 80));have hbr:b<wr.heap.size:=Nl HX1.out.lt hC.size;have hmr:m<wr.heap.size:=hM.lt;have hwr:w.heap.size<wr.heap.size:=by have:=HS1.out;have:=hC.size;omega
   have hbk:∀i,i<wr.heap.size→W1.heap[i]?=wr.heap[i]?:=fun i hi=>by rw[←hW1];exact Below.heap_alloc wr _ i hi
   have hW1s:W1.heap.size=wr.heap.size+1:=by rw[←hW1,Sz]
   have hW1n:=Nq hW1 rfl;obtain⟨p2,p4⟩:=GM (c:=.int .i64 x1) (l:=bvs x2) hW1n;have hb1:W1.heap[b]?=w1.heap[b]?:=(hbk b hbr).trans (hC.block b HX1.out.lt (fun e=>HX1.out.mb e.symm));obtain⟨d0,p1,d2,d3,d4,d5,d6,df⟩:=I1 (hb1.trans HX1.out.hb);have p5:MapIs W1 m S.dur.length zeros (fun i=>(rdur S cs k).getD i zeros):=hM.kept (hbk m hmr);have hfs1:W1.heap[w.heap.size]?=_:=((hbk _ hwr).trans (hC.block _ (by have:=HS1.out;omega) (fun e=>by have:=HX.out.hm.lt;omega))).trans HFS.out;have hwlt:w.heap.size<W1.heap.size:=by omega
   obtain⟨c,hc⟩:∃c,c=(cs.getD k 0).toNat:=⟨_,rfl⟩;have hc255:c≤255:=by rw[hc];have:=(cs.getD k 0).toNat_lt;omega
   obtain⟨B0,hB0⟩:∃B0,B0=(rdur S cs k).getD x1 zeros:=⟨_,rfl⟩;have hB0l:B0.length=256:=by
    have hl:=AV S cs k;have hlt':x1<(rdur S cs k).length:=by omega
    have e3:(rdur S cs k).getD x1 zeros=(rdur S cs k)[x1]:=by simp[hlt']
    rw[hB0,e3];exact Ec HOK.out cs k _ (List.getElem_mem _)
   obtain⟨V,hV⟩:∃V,V=FK B0 x2 c:=⟨_,rfl⟩;have hVl:V.length=zeros.length:=by rw[hV,AW];exact IJ hB0l hx2 c
   have hch:∃r fr:Nat,r<3∧(c:Int).tmod 3=(r:Int)∧W1.cell? ⟨w.heap.size,r,none⟩=some (.func (.func fr) #[] #[])∧(∀args w,(callFunc fr args).run Tryz.prog w=.ok (.enter fr args) w)∧
    ∀w:World,Ca fr #[BF B0,BF x2,.int .i64 c] w fun e w'=>e=.returned (BF V)∧Below w.heap.size w w':=by
    have hf3:c%3=0∨c%3=1∨c%3=2:=by omega
    rcases hf3 with h|h|h
    ·exact⟨0,60,by omega,by rw[Int.tmod_eq_emod_of_nonneg (by omega)];omega,by rw[cell_of_row W1 _ _ _ _ _ hfs1];rfl,EB Tryz.func60 (by kernel_rfl) rfl,fun w=>by
      have e4:V=B0:=by rw[hV];simp[FK,h]
      rw[e4];exact Sl B0 x2 hB0l _ w⟩
    ·exact⟨1,61,by omega,by rw[Int.tmod_eq_emod_of_nonneg (by omega)];omega,by rw[cell_of_row W1 _ _ _ _ _ hfs1];rfl,EB Tryz.func61 (by kernel_rfl) rfl,fun w=>by
      have e4:V=x2:=by rw[hV];simp[FK,h]
      rw[e4];exact Sm B0 x2 hx2 _ w⟩
    ·exact⟨2,62,by omega,by rw[Int.tmod_eq_emod_of_nonneg (by omega)];omega,by rw[cell_of_row W1 _ _ _ _ _ hfs1];rfl,EB Tryz.func62 (by kernel_rfl) rfl,fun w=>by
      have e4:V=x2.take (c/3%17*16)++B0.drop (c/3%17*16):=by rw[hV];unfold FK;rw[In (by omega),In (by omega)]
      rw[e4];exact Sn B0 x2 hB0l hx2 c hc255 w⟩
   obtain⟨r,fr,hr3,hcr,p3,hcall,hfate⟩:=hch;have hext:∀i,i<S.dur.length→(fun i=>if i=x1 then V else(rdur S cs k).getD i zeros) i=(fun i=>(rdur S cs (k+1)).getD i zeros) i:=by
    intro i hi;have hl:=AV S cs k;have e5:rdur S cs (k+1)=(rdur S cs k).set x1 V:=by
     have e6:S.pend[k]?=some (x1,x2):=by rw[List.getElem?_eq_getElem hlt,hx]
     rw[hV,hB0,hc]
     conv=>lhs;unfold rdur
     simp only[e6]
    show(if i=x1 then V else(rdur S cs k).getD i zeros)=(rdur S cs (k+1)).getD i zeros;rw[e5];simp only[List.getD_eq_getElem?_getD,List.getElem?_set];by_cases hix:i=x1
    ·subst hix;simp[show i<(rdur S cs k).length by omega]
    ·simp[hix,Ne.symm hix]
   have hcr2:∀w2 w3,Below W1.drew.heap.size W1.drew w2→w2.grownBy w3 (some m)→Chg (fun i=>i=m) w1 w3:=fun w2 w3 hb2 hg3=>((hC.trans (hW1▸Chg.alloc (F:=fun i=>i=m) wr _) (fun _ h=>.inl h)).trans ((Chg.refl (fun i=>i=m) W1).drew.trans (Cb hb2) (fun _ h=>.inl h)) (fun _ h=>.inl h)).trans (Chg.grown (F:=fun i=>i=m) hg3 (fun k e=>.inl (Option.some.inj e).symm)) (fun _ h=>.inl h)
   have hbl:b<W1.drew.heap.size∧wr.heap.size<W1.drew.heap.size∧w.heap.size<W1.drew.heap.size∧m<W1.drew.heap.size:=⟨by show b<W1.heap.size;omega,by show _<W1.heap.size;omega,hwlt,by show m<W1.heap.size;omega⟩;have hsz80:(Tryz.prog.info? 74).map (·.size)=some (bvs x2).length:=by have:=Bh hx2;rw[List.size_toArray]at this;exact this
   obtain⟨HRQ,HSW,HSW2,HSW3,HNW,HW2,HXK,HBe,HSZ,HFate,HEXT,HCR,HBL,HV⟩:=Hd14 hrq hsw hsw2 hsw3 hnw hW1 hx1 hB0 hsz80 hfate hext hcr2 hbl hVl;obtain⟨HP2,HP3,HM,HC,HCC⟩:=Hd5 p2 p3 hM hC hc;clear hc hrq hsw hsw2 hsw3 hnw hW1 hx1 hB0 hsz80 hfate hext hcr2 hbl hVl hM hC d0 d2 d3 d4 d5 d6 df hr hx hxm hbk hW1s hW1n hb1 hfs1 hV hB0l hgm hg hwl hx2 hwlt hwr hbr hmr;by_cases hkc:k<cs.length
   ·obtain⟨gb,ob,rfl,hGb,hgb,hrb⟩:=HR.out (by intro e;rw[e]at hkc;simp at hkc);have hby:W1.cell? ⟨gb,ob+k,none⟩=some (.int .u8 c):=by
     have h1:w.cell? ⟨gb,ob+k,none⟩=some (.int .u8 c):=hrb k _ (by
      have e7:cs.getD k 0=cs[k]:=by simp[hkc]
      rw[AE,List.getElem?_eq_getElem hkc,HCC.out,e7];rfl)
     have h2:w1.cell? ⟨gb,ob+k,none⟩=_:=HC1.out.cell (p:=⟨gb,ob+k,none⟩) (fun hf=>hFG gb hf hGb) h1;have h3:wr.cell? ⟨gb,ob+k,none⟩=_:=HC.out.cell (p:=⟨gb,ob+k,none⟩) (fun e=>hFG gb (by have e':gb=m:=e;rw[e'];exact HX.out.fm) hGb) h2;rw[←HW2.out];exact(World.cell?_of_block (Below.heap_alloc wr _ gb (World.block_lt_of_cell? wr ⟨gb,ob+k,none⟩ h3))).trans h3
    clear hrb;go_wp2_with (first| (with_reducible refine wpList_load_mid rfl 80 _ rfl g (k*257) rfl (AC (x1,x2)) _ HRQ.out Tryz.underlying80 rfl HSW.out ?_)| (with_reducible refine wpList_store_row rfl 80 _ _ rfl wr.heap.size (AC (x1,x2)).toArray rfl rfl 80 Tryz.zeroCells80 HNW.out HSW2.out HSW3.out (CK _) ?_;rw[World.setRow_alloc_new,HW2.out]))
    refine Np ?_;refine AY 21 (fun w'=>w'.cell? ⟨b,1,none⟩=some (.map (some m))∧w'.cell? ⟨wr.heap.size,0,none⟩=some (.int .i64 x1)∧w'.cell? ⟨w.heap.size,r,none⟩=some (.func (.func fr) #[] #[])∧w'.rangeAt wr.heap.size 1 (bvs x2)∧MapIs w' m S.dur.length zeros (fun i=>(rdur S cs k).getD i zeros)) (by kernel_rfl) ?_;have hS0:(fun w'=>w'.cell? ⟨b,1,none⟩=some (.map (some m))∧w'.cell? ⟨wr.heap.size,0,none⟩=some (.int .i64 x1)∧w'.cell? ⟨w.heap.size,r,none⟩=some (.func (.func fr) #[] #[])∧w'.rangeAt wr.heap.size 1 (bvs x2)∧MapIs w' m S.dur.length zeros (fun i=>(rdur S cs k).getD i zeros)) W1.drew:=⟨p1,p2,p3,p4,p5.kept rfl⟩;refine tkF 0 hS0 ?_ (v:=.pointer (some ⟨b,0,none⟩)) (hy:=fun w' hw'=>by rfl);refine tkF 1 hS0 ?_ (v:=.pointer (some ⟨b,0,none⟩)) (hy:=fun w' hw'=>by go_simp);refine tkF 2 hS0 ?_ (v:=.pointer (some ⟨b,1,none⟩)) (hy:=fun w' hw'=>by go_simp);refine tkF 3 hS0 ?_ (v:=.map (some m)) (hy:=fun w' hw'=>by(have h4:=hw'.1;clear hw';go_simp));refine tkF 4 hS0 ?_ (v:=.pointer (some ⟨wr.heap.size,0,none⟩)) (hy:=fun w' hw'=>by go_simp);refine tkF 5 hS0 ?_ (v:=.int .i64 x1) (hy:=fun w' hw'=>by(have h4:=hw'.2.1;clear hw';go_simp));refine tkF 6 hS0 ?_ (v:=.int .i64 c) (hy:=fun w' hw'=>by rfl);refine tkF 7 hS0 ?_ (v:=.int .i64 r) (hy:=fun w' hw'=>by go_simp);refine tkF 8 hS0 ?_ (v:=.pointer (some ⟨w.heap.size,r,none⟩)) (hy:=fun w' hw'=>by(have h3:¬(3:Int)≤(r:Int):=(by omega);go_simp));refine tkF 9 hS0 ?_ (v:=.func (.func fr) #[] #[]) (hy:=fun w' hw'=>by(have h4:=hw'.2.2.1;clear hw';go_simp));refine tkF 10 hS0 ?_ (v:=.pointer (some ⟨b,0,none⟩)) (hy:=fun w' hw'=>by rfl);refine tkF 11 hS0 ?_ (v:=.pointer (some ⟨b,0,none⟩)) (hy:=fun w' hw'=>by go_simp);refine tkF 12 hS0 ?_ (v:=.pointer (some ⟨b,1,none⟩)) (hy:=fun w' hw'=>by go_simp);refine tkF 13 hS0 ?_ (v:=.map (some m)) (hy:=fun w' hw'=>by(have h4:=hw'.1;clear hw';go_simp));refine tkF 14 hS0 ?_ (v:=.pointer (some ⟨wr.heap.size,0,none⟩)) (hy:=fun w' hw'=>by go_simp);refine tkF 15 hS0 ?_ (v:=.int .i64 x1) (hy:=fun w' hw'=>by(have h4:=hw'.2.1;clear hw';go_simp));refine tkF 16 hS0 ?_ (v:=BF B0) (hy:=fun w' hw'=>by exact He 75 (.tmp 49) (.tmp 51) rfl rfl rfl (by have:=hw'.2.2.2.2.lookup Tryz.underlying75 Tryz.underlying3 Fp HXK.out;rw[←HBe.out]at this;exact this));refine tkF 17 hS0 ?_ (v:=.pointer (some ⟨wr.heap.size,1,none⟩)) (hy:=fun w' hw'=>by go_simp);refine tkF 18 hS0 ?_ (v:=.agg (bvs x2).toArray) (hy:=fun w' hw'=>by exact Cm 74 (.tmp 53) wr.heap.size 1 (bvs x2) _ rfl rfl hw'.2.2.2.1 Tryz.underlying74 rfl HSZ.out);refine tkF 19 hS0 ?_ (v:=.int .i64 c) (hy:=fun w' hw'=>by rfl);refine dF 20 fun K hK=>?_
    go_simp;refine(HFate.out W1.drew).mono ?_;rintro e w2 ⟨rfl,hb2⟩;have q1:w2.cell? ⟨b,1,none⟩=some (.map (some m)):=hb2.cell (p:=⟨b,1,none⟩) HBL.out.1|>.trans p1;have q2:w2.cell? ⟨wr.heap.size,0,none⟩=some (.int .i64 x1):=hb2.cell (p:=⟨wr.heap.size,0,none⟩) HBL.out.2.1|>.trans p2;have q3:w2.cell? ⟨w.heap.size,r,none⟩=some (.func (.func fr) #[] #[]):=hb2.cell (p:=⟨w.heap.size,r,none⟩) HBL.out.2.2.1|>.trans p3;have q4:w2.rangeAt wr.heap.size 1 (bvs x2):=fun j u hu=>(hb2.cell (p:=⟨wr.heap.size,1+j,none⟩) HBL.out.2.1).trans (p4 j u hu)
    have q5:MapIs w2 m S.dur.length zeros (fun i=>(rdur S cs k).getD i zeros):=p5.kept (hb2.block m HBL.out.2.2.2);refine hK _ _ (fun _=>⟨q1,q2,q3,q4,q5⟩) ?_;obtain⟨w3,hrun3,hM3,hg3⟩:=q5.update Tryz.underlying75 Tryz.underlying3 HXK.out V HV.out;refine dF 21 fun K hK=>?_
    go_simp;refine hK _ _ (fun h=>absurd rfl h) ?_;refine eF ?_;go_wp2;go_roundw
    case rel=>exact⟨k+1,by omega,by go_num,hM3.ext HEXT.out,HCR.out w2 w3 hb2 hg3⟩
    case measure=>simp[intOf];omega
   ·have hc0:c=0:=by rw[HCC.out];simp[List.getElem?_eq_none (Nat.le_of_not_lt hkc)]
    subst hc0;obtain rfl :r=0:=by simp at hcr;omega
    go_wp2_with (first| (with_reducible refine wpList_load_mid rfl 80 _ rfl g (k*257) rfl (AC (x1,x2)) _ HRQ.out Tryz.underlying80 rfl HSW.out ?_)| (with_reducible refine wpList_store_row rfl 80 _ _ rfl wr.heap.size (AC (x1,x2)).toArray rfl rfl 80 Tryz.zeroCells80 HNW.out HSW2.out HSW3.out (CK _) ?_;rw[World.setRow_alloc_new,HW2.out]))
    refine Np ?_;refine AY 21 (fun w'=>w'.cell? ⟨b,1,none⟩=some (.map (some m))∧w'.cell? ⟨wr.heap.size,0,none⟩=some (.int .i64 x1)∧w'.cell? ⟨w.heap.size,0,none⟩=some (.func (.func fr) #[] #[])∧w'.rangeAt wr.heap.size 1 (bvs x2)∧MapIs w' m S.dur.length zeros (fun i=>(rdur S cs k).getD i zeros)) (by kernel_rfl) ?_;have hS0:(fun w'=>w'.cell? ⟨b,1,none⟩=some (.map (some m))∧w'.cell? ⟨wr.heap.size,0,none⟩=some (.int .i64 x1)∧w'.cell? ⟨w.heap.size,0,none⟩=some (.func (.func fr) #[] #[])∧w'.rangeAt wr.heap.size 1 (bvs x2)∧MapIs w' m S.dur.length zeros (fun i=>(rdur S cs k).getD i zeros)) W1.drew:=⟨p1,p2,p3,p4,p5.kept rfl⟩;refine tkF 0 hS0 ?_ (v:=.pointer (some ⟨b,0,none⟩)) (hy:=fun w' hw'=>by rfl);refine tkF 1 hS0 ?_ (v:=.pointer (some ⟨b,0,none⟩)) (hy:=fun w' hw'=>by go_simp);refine tkF 2 hS0 ?_ (v:=.pointer (some ⟨b,1,none⟩)) (hy:=fun w' hw'=>by go_simp);refine tkF 3 hS0 ?_ (v:=.map (some m)) (hy:=fun w' hw'=>by(have h4:=hw'.1;clear hw';go_simp));refine tkF 4 hS0 ?_ (v:=.pointer (some ⟨wr.heap.size,0,none⟩)) (hy:=fun w' hw'=>by go_simp);refine tkF 5 hS0 ?_ (v:=.int .i64 x1) (hy:=fun w' hw'=>by(have h4:=hw'.2.1;clear hw';go_simp));refine tkF 6 hS0 ?_ (v:=.int .i64 0) (hy:=fun w' hw'=>by rfl);refine tkF 7 hS0 ?_ (v:=.int .i64 0) (hy:=fun w' hw'=>by go_simp);refine tkF 8 hS0 ?_ (v:=.pointer (some ⟨w.heap.size,0,none⟩)) (hy:=fun w' hw'=>by go_simp);refine tkF 9 hS0 ?_ (v:=.func (.func fr) #[] #[]) (hy:=fun w' hw'=>by(have h4:=hw'.2.2.1;clear hw';go_simp));refine tkF 10 hS0 ?_ (v:=.pointer (some ⟨b,0,none⟩)) (hy:=fun w' hw'=>by rfl);refine tkF 11 hS0 ?_ (v:=.pointer (some ⟨b,0,none⟩)) (hy:=fun w' hw'=>by go_simp);refine tkF 12 hS0 ?_ (v:=.pointer (some ⟨b,1,none⟩)) (hy:=fun w' hw'=>by go_simp);refine tkF 13 hS0 ?_ (v:=.map (some m)) (hy:=fun w' hw'=>by(have h4:=hw'.1;clear hw';go_simp));refine tkF 14 hS0 ?_ (v:=.pointer (some ⟨wr.heap.size,0,none⟩)) (hy:=fun w' hw'=>by go_simp);refine tkF 15 hS0 ?_ (v:=.int .i64 x1) (hy:=fun w' hw'=>by(have h4:=hw'.2.1;clear hw';go_simp));refine tkF 16 hS0 ?_ (v:=BF B0) (hy:=fun w' hw'=>by exact He 75 (.tmp 49) (.tmp 51) rfl rfl rfl (by have:=hw'.2.2.2.2.lookup Tryz.underlying75 Tryz.underlying3 Fp HXK.out;rw[←HBe.out]at this;exact this));refine tkF 17 hS0 ?_ (v:=.pointer (some ⟨wr.heap.size,1,none⟩)) (hy:=fun w' hw'=>by go_simp);refine tkF 18 hS0 ?_ (v:=.agg (bvs x2).toArray) (hy:=fun w' hw'=>by exact Cm 74 (.tmp 53) wr.heap.size 1 (bvs x2) _ rfl rfl hw'.2.2.2.1 Tryz.underlying74 rfl HSZ.out);refine tkF 19 hS0 ?_ (v:=.int .i64 0) (hy:=fun w' hw'=>by rfl);refine dF 20 fun K hK=>?_
    go_simp;refine(HFate.out W1.drew).mono ?_;rintro e w2 ⟨rfl,hb2⟩;have q1:w2.cell? ⟨b,1,none⟩=some (.map (some m)):=hb2.cell (p:=⟨b,1,none⟩) HBL.out.1|>.trans p1;have q2:w2.cell? ⟨wr.heap.size,0,none⟩=some (.int .i64 x1):=hb2.cell (p:=⟨wr.heap.size,0,none⟩) HBL.out.2.1|>.trans p2;have q3:w2.cell? ⟨w.heap.size,0,none⟩=some (.func (.func fr) #[] #[]):=hb2.cell (p:=⟨w.heap.size,0,none⟩) HBL.out.2.2.1|>.trans p3;have q4:w2.rangeAt wr.heap.size 1 (bvs x2):=fun j u hu=>(hb2.cell (p:=⟨wr.heap.size,1+j,none⟩) HBL.out.2.1).trans (p4 j u hu)
    have q5:MapIs w2 m S.dur.length zeros (fun i=>(rdur S cs k).getD i zeros):=p5.kept (hb2.block m HBL.out.2.2.2);refine hK _ _ (fun _=>⟨q1,q2,q3,q4,q5⟩) ?_;obtain⟨w3,hrun3,hM3,hg3⟩:=q5.update Tryz.underlying75 Tryz.underlying3 HXK.out V HV.out;refine dF 21 fun K hK=>?_
    go_simp;refine hK _ _ (fun h=>absurd rfl h) ?_;refine eF ?_;go_wp2;go_roundw
    case rel=>exact⟨k+1,by omega,by go_num,hM3.ext HEXT.out,HCR.out w2 w3 hb2 hg3⟩
    case measure=>simp[intOf];omega
  ·obtain rfl :k=S.pend.length:=by omega
   have hx2:DiskX wr F b m (.slice pa S.pend.length pcap) {S with dur:=rdur S cs S.pend.length}:=by
    have hx1:=HX1.out;have hbm:b≠m:=fun e=>hx1.mb e.symm
    refine⟨hx1.fb,hx1.fm,hx1.fp,(hC.block b hx1.lt hbm).trans ?_,by rw[show({S with dur:=rdur S cs S.pend.length}:DS).dur.length=S.dur.length from AV S cs _];exact hM,?_⟩
    ·rw[hx1.hb];simp[Cr,AV]
    ·refine⟨hx1.hp.1,?_⟩;rcases hx1.hp.2 with hn| ⟨g,cap,cur,e,hbg,hg,rest⟩
     ·exact .inl hn
     ·refine .inr ⟨g,cap,cur,e,hbg,(hC.block g (Ax hg).1 (fun e2=>hx1.pm (by rw[e,←e2];rfl))).trans hg,rest⟩
   obtain⟨d0,d1,d2,d3,d4,d5,d6,df⟩:=hx2.cells;obtain⟨HX2,HM,HC⟩:=Hd3 hx2 hM hC;clear hx2 hM hC;go_wp2;go_ret;have hx1:=HX1.out;have hx2:=HX2.out;have hok:=HOK.out;have hgr:wr.grownBy ((((wr.setCell ⟨b,2,none⟩ (.slice none 0 0)).setCell ⟨b,4,none⟩ (.bool false)).setCell ⟨b,5,none⟩ (.int .i64 0)).setCell ⟨b,6,none⟩ (.bool false)) (some b):=
    Bm (Bm (Bm (AS wr b 2 _) (AS _ b 4 _)) (AS _ b 5 _)) (AS _ b 6 _)
   have hre:(S.restart cs).1={dur:=rdur S cs S.pend.length,pend:=[],ops:=S.ops,limit:=none,down:=false}:=by simp[DS.restart,HD.out]
   refine⟨rfl,?_,?_⟩
   ·rw[hre];refine⟨⟨Ec hok cs _,by simp,by rw[AV];exact hok.most⟩,m,.slice none 0 0,hx1.fb,hx1.fm,by simp[Value.ownBlock],?_,?_,World.ownsRow_nil _ _ _ _⟩
    ·rw[Sc _ b 6 _ _ _ (Sc _ b 5 _ _ _ (Sc _ b 4 _ _ _ (CR 2 _ hx2.hb)))];simp[Cr]
    ·exact hx2.hm.kept (hgr.block m hx2.hm.lt (by simp[hx1.mb]))
   ·exact(HC1.out.trans (HC.out.mono (G:=F) (fun k e=>by rw[e];exact hx1.fm)) (fun _ h=>.inl h)).trans (Chg.grown (F:=F) hgr (fun k e=>.inl (by rw[←Option.some.inj e];exact hx1.fb))) (fun _ h=>.inl h)
theorem MR (v:Value) (cs:List UInt8) (h:DiskAt w F b S) (hv:BytesAt w G v cs) (hFG:∀k,F k→¬G k)
 (hlen:S.pend.length<100000000000) (hcl:cs.length≤9223372036854775807):
 Ca 25 #[.pointer (some ⟨b,0,none⟩),v] w fun e w'=>e=.returned (.int .i64 (S.restart cs).2)∧
  DiskAt w' F b (S.restart cs).1∧Chg F w w':=by
 cases hd:S.down with
 |true=>
  refine(LM v cs h hv hFG hd hlen hcl).mono ?_;rintro e w' ⟨rfl,h1,h2⟩;exact⟨by simp[DS.restart,hd],h1,h2⟩
 |false=>
  have e1:S.restart cs=(S,10):=by simp[DS.restart,hd]
  rw[e1];have HH:=Hd h;obtain⟨hok,m,pv,hx⟩:=h;obtain⟨c0,c1,c2,c3,c4,c5,c6,f⟩:=hx.cells;rw[hd]at c6;clear hx hok e1 hd hv;go_enter Tryz.func25,Tryz.ntmps25;go_wp2;go_ret;exact⟨rfl,HH.out,Chg.refl _ _⟩
def B7 (S:DS) (k:Nat):List (List UInt8):=rdur S (List.replicate S.pend.length 1) k
def DS.flush (S:DS):DS×Int:=
 if S.down then(S,28)else if S.operate.2 then({S.operate.1 with dur:=B7 S S.pend.length,pend:=[]},0)else(S.operate.1,28)
theorem Kw (S:DS) (k:Nat) (hk:k<S.pend.length):B7 S (k+1)=(B7 S k).set S.pend[k].1 S.pend[k].2:=by
 unfold B7
 conv=>lhs;unfold rdur
 rw[List.getElem?_eq_getElem hk];simp[hk,FK]
theorem NZ (h:DiskAt w F b S) (hd:S.down=false) (hop:S.operate.2=true)
 (hlen:S.pend.length<100000000000) (hops:S.ops<1000000000000) (hlim:S.limit.getD 0≤9223372036854775807):
 Ca 65 #[.pointer (some ⟨b,0,none⟩)] w fun e w'=>e=.returned (.int .i64 0)∧
  DiskAt w' F b {S.operate.1 with dur:=B7 S S.pend.length,pend:=[]}∧Chg F w w':=by
 have HH:=Hd h;have HOK:=Hd h.ok;obtain⟨hok,m0,pv0,hx0⟩:=h;obtain⟨c0,c1,c2,c3,c4,c5,c6,f⟩:=hx0.cells;rw[hd]at c6;clear hx0 hok hd;go_enter Tryz.func65,Tryz.ntmps65;go_wp2_with fail;refine(EM HH.out hops hlim).mono ?_;rintro e w1 ⟨rfl,hD1,hC1⟩;rw[hop];obtain⟨hok1,m,pv,hx1⟩:=hD1;have hpend:=(AN S).1;have hdur:=(AN S).2;have hP1:=DA (fun x h=>(hok1.pend x h).2) hx1.hp;rw[hpend]at hP1;obtain⟨pa,pcap,hpv⟩:∃a cap,pv=.slice a S.pend.length cap:=by
  rcases hP1 with⟨rfl,e⟩| ⟨g,cap,rfl,_⟩
  ·exact⟨none,0,by rw[e];rfl⟩
  ·exact⟨_,_,rfl⟩
 subst hpv;clear c0 c1 c2 c3 c4 c5 c6 f;have hM1:MapIs w1 m S.dur.length zeros (fun i=>(B7 S 0).getD i zeros):=by have:=hx1.hm;rw[hdur]at this;exact this
 obtain⟨d0,d1,d2,d3,d4,d5,d6,df⟩:=hx1.cells;obtain⟨HX1,HOK1,HC1,HP1,HM1,HPE,HDU⟩:=Hd7 hx1 hok1 hC1 hP1 hM1 hpend hdur;clear hx1 hok1 hC1 hP1 hM1 hpend hdur;go_wp2;clear d0 d1 d2 d3 d4 d5 d6 df;go_loopw [21] (fun i wr=>∃k:Nat,k≤S.pend.length∧i=.int .i64 k∧MapIs wr m S.dur.length zeros (fun i=>(B7 S k).getD i zeros)∧Chg (fun i=>i=m) w1 wr)
  (fun i _=>S.pend.length-(intOf i).toNat)
 case atStart=>exact⟨0,Nat.zero_le _,rfl,HM1.out,Chg.refl _ _⟩
 case round=>
  obtain⟨k,hk,rfl,hM,hC⟩:=hrel;by_cases hlt:k<S.pend.length
  ·have hP1:=HP1.out;rcases hP1 with⟨_,e2⟩| ⟨g,cap',e1,hg,hr⟩
   ·rw[e2]at hlt;simp at hlt
   simp only[Value.slice.injEq]at e1;obtain⟨rfl,_,rfl⟩:=e1;have hgm:g≠m:=fun e=>HX1.out.pm (by rw[e];rfl)
   obtain⟨x1,x2,hx⟩:∃x1 x2,S.pend[k]=(x1,x2):=⟨_,_,rfl⟩;have hxm:(x1,x2)∈S.pend:=hx▸List.getElem_mem hlt;have hx1:x1<S.dur.length:=(HOK.out.pend _ hxm).1;have hx2:x2.length=256:=(HOK.out.pend _ hxm).2;have hrq:wr.rangeAt g (k*257) (AC (x1,x2)):=fun j u hu=>(World.cell?_of_block (hC.block g hg hgm)).trans (hr k hlt j u (by rw[hx];exact hu))
   have hwl:(AC (x1,x2)).length=257:=Bf hx2;have hsw:(Tryz.prog.info? 80).map (·.size)=some (AC (x1,x2)).length:=by rw[hwl];exact E6
   have hsw2:(Tryz.prog.info? 80).map (·.size)=some (AC (x1,x2)).toArray.size:=by rw[List.size_toArray];exact hsw
   have hsw3:(Tryz.zeroCells80).size=(AC (x1,x2)).toArray.size:=by rw[LF,List.size_toArray,List.size_toArray,hwl];exact Bf AW
   have hnw:=heap_alloc_new wr (.cells Tryz.zeroCells80 80);obtain⟨W1,hW1⟩:=Xq (wr.alloc (.cells (AC (x1,x2)).toArray 80));have hbr:b<wr.heap.size:=Nl HX1.out.lt hC.size;have hmr:m<wr.heap.size:=hM.lt;have hbk:∀i,i<wr.heap.size→W1.heap[i]?=wr.heap[i]?:=fun i hi=>by rw[←hW1];exact Below.heap_alloc wr _ i hi
   have hW1n:=Nq hW1 rfl;obtain⟨p2,p4⟩:=GM (c:=.int .i64 x1) (l:=bvs x2) hW1n;have hb1:W1.heap[b]?=w1.heap[b]?:=(hbk b hbr).trans (hC.block b HX1.out.lt (fun e=>HX1.out.mb e.symm));obtain⟨d0,p1,d2,d3,d4,d5,d6,df⟩:=I1 (hb1.trans HX1.out.hb);have p5:MapIs W1 m S.dur.length zeros (fun i=>(B7 S k).getD i zeros):=hM.kept (hbk m hmr);have hVl:x2.length=zeros.length:=by rw[hx2,AW]
   have hext:∀i,i<S.dur.length→(fun i=>if i=x1 then x2 else(B7 S k).getD i zeros) i=(fun i=>(B7 S (k+1)).getD i zeros) i:=by
    intro i hi;have hl:(B7 S k).length=S.dur.length:=AV S _ k;have e5:B7 S (k+1)=(B7 S k).set x1 x2:=by rw[Kw S k hlt,hx]
    show(if i=x1 then x2 else(B7 S k).getD i zeros)=(B7 S (k+1)).getD i zeros;rw[e5];simp only[List.getD_eq_getElem?_getD,List.getElem?_set];by_cases hix:i=x1
    ·subst hix;simp[show i<(B7 S k).length by omega]
    ·simp[hix,Ne.symm hix]
   have hcr2:∀w3,W1.drew.grownBy w3 (some m)→Chg (fun i=>i=m) w1 w3:=fun w3 hg3=>((hC.trans (hW1▸Chg.alloc (F:=fun i=>i=m) wr _) (fun _ h=>.inl h)).trans ((Chg.refl (fun i=>i=m) W1).drew) (fun _ h=>.inl h)).trans (Chg.grown (F:=fun i=>i=m) hg3 (fun k e=>.inl (Option.some.inj e).symm)) (fun _ h=>.inl h)
   have hsz80:(Tryz.prog.info? 74).map (·.size)=some (bvs x2).length:=by have:=Bh hx2;rw[List.size_toArray]at this;exact this
   obtain⟨HRQ,HSW,HSW2,HSW3,HNW,HW2,HXK,HSZ,HEXT,HCR,HV,HP5⟩:=Hd12 hrq hsw hsw2 hsw3 hnw hW1 hx1 hsz80 hext hcr2 hVl p5;clear hrq hsw hsw2 hsw3 hnw hW1 hx1 hsz80 hext hcr2 hVl hM hC d0 d2 d3 d4 d5 d6 df hr hx hxm hbk hW1n hb1 hgm hg hwl hx2 p5 hbr hmr;go_wp2_with (first| (with_reducible refine wpList_load_mid rfl 80 _ rfl g (k*257) rfl (AC (x1,x2)) _ HRQ.out Tryz.underlying80 rfl HSW.out ?_)| (with_reducible refine wpList_store_row rfl 80 _ _ rfl wr.heap.size (AC (x1,x2)).toArray rfl rfl 80 Tryz.zeroCells80 HNW.out HSW2.out HSW3.out (CK _) ?_;rw[World.setRow_alloc_new,HW2.out]))
   refine Np ?_;refine AY 8 (fun w'=>w'.cell? ⟨b,1,none⟩=some (.map (some m))∧w'.cell? ⟨wr.heap.size,0,none⟩=some (.int .i64 x1)∧w'.rangeAt wr.heap.size 1 (bvs x2)) (by kernel_rfl) ?_;have hS0:(fun w'=>w'.cell? ⟨b,1,none⟩=some (.map (some m))∧w'.cell? ⟨wr.heap.size,0,none⟩=some (.int .i64 x1)∧w'.rangeAt wr.heap.size 1 (bvs x2)) W1.drew:=⟨p1,p2,p4⟩;refine tkF 0 hS0 ?_ (v:=.pointer (some ⟨b,0,none⟩)) (hy:=fun w' hw'=>by rfl);refine tkF 1 hS0 ?_ (v:=.pointer (some ⟨b,0,none⟩)) (hy:=fun w' hw'=>by go_simp);refine tkF 2 hS0 ?_ (v:=.pointer (some ⟨b,1,none⟩)) (hy:=fun w' hw'=>by go_simp);refine tkF 3 hS0 ?_ (v:=.map (some m)) (hy:=fun w' hw'=>by(have h4:=hw'.1;clear hw';go_simp));refine tkF 4 hS0 ?_ (v:=.pointer (some ⟨wr.heap.size,0,none⟩)) (hy:=fun w' hw'=>by go_simp);refine tkF 5 hS0 ?_ (v:=.int .i64 x1) (hy:=fun w' hw'=>by(have h4:=hw'.2.1;clear hw';go_simp));refine tkF 6 hS0 ?_ (v:=.pointer (some ⟨wr.heap.size,1,none⟩)) (hy:=fun w' hw'=>by go_simp);refine tkF 7 hS0 ?_ (v:=.agg (bvs x2).toArray) (hy:=fun w' hw'=>by exact Cm 74 (.tmp 31) wr.heap.size 1 (bvs x2) _ rfl rfl hw'.2.2 Tryz.underlying74 rfl HSZ.out);obtain⟨w3,hrun3,hM3,hg3⟩:=(HP5.out.kept (w':=W1.drew) rfl).update Tryz.underlying75 Tryz.underlying3 HXK.out x2 HV.out;unfold BF at hrun3;refine dF 8 fun K hK=>?_
   go_simp;refine hK _ _ (fun h=>absurd rfl h) ?_;refine eF ?_;go_wp2;go_roundw
   case rel=>exact⟨k+1,by omega,by go_num,hM3.ext HEXT.out,HCR.out w3 hg3⟩
   case measure=>simp[intOf];omega
  ·obtain rfl :k=S.pend.length:=by omega
   have hx2:DiskX wr F b m (.slice pa S.pend.length pcap) {S.operate.1 with dur:=B7 S S.pend.length}:=by
    have hx1:=HX1.out;have hbm:b≠m:=fun e=>hx1.mb e.symm
    have hlE:(B7 S S.pend.length).length=S.dur.length:=AV S _ _;refine⟨hx1.fb,hx1.fm,hx1.fp,(hC.block b hx1.lt hbm).trans ?_,by rw[hlE];exact hM,?_⟩
    ·rw[hx1.hb];simp[Cr,hlE,HDU.out]
    ·refine⟨hx1.hp.1,?_⟩;rcases hx1.hp.2 with hn| ⟨g,cap,cur,e,hbg,hg,rest⟩
     ·exact .inl hn
     ·refine .inr ⟨g,cap,cur,e,hbg,(hC.block g (Ax hg).1 (fun e2=>hx1.pm (by rw[e,←e2];rfl))).trans hg,rest⟩
   obtain⟨d0,d1,d2,d3,d4,d5,d6,df⟩:=hx2.cells;obtain⟨HX2,HM,HC⟩:=Hd3 hx2 hM hC;clear hx2 hM hC;go_wp2;go_ret;have hx1:=HX1.out;have hx2:=HX2.out;have hok:=HOK.out;have hgr:wr.grownBy (wr.setCell ⟨b,2,none⟩ (.slice none 0 0)) (some b):=AS wr b 2 _;have hlE:(B7 S S.pend.length).length=S.dur.length:=AV S _ _;refine⟨rfl,?_,?_⟩
   ·refine⟨⟨Ec hok _ _,by simp,by rw[hlE];exact hok.most⟩,m,.slice none 0 0,hx1.fb,hx1.fm,by simp[Value.ownBlock],?_,?_,World.ownsRow_nil _ _ _ _⟩
    ·rw[CR 2 _ hx2.hb];simp[Cr]
    ·exact hx2.hm.kept (hgr.block m hx2.hm.lt (by simp[hx1.mb]))
   ·exact(HC1.out.trans (HC.out.mono (G:=F) (fun k e=>by rw[e];exact hx1.fm)) (fun _ h=>.inl h)).trans (Chg.grown (F:=F) hgr (fun k e=>.inl (by rw[←Option.some.inj e];exact hx1.fb))) (fun _ h=>.inl h)
theorem Kx (h:DiskAt w F b S)
 (hlen:S.pend.length<100000000000) (hops:S.ops<1000000000000) (hlim:S.limit.getD 0≤9223372036854775807):
 Ca 65 #[.pointer (some ⟨b,0,none⟩)] w fun e w'=>e=.returned (.int .i64 S.flush.2)∧DiskAt w' F b S.flush.1∧Chg F w w':=by
 cases hd:S.down with
 |true=>
  have e1:S.flush=(S,28):=by simp[DS.flush,hd]
  rw[e1];have HH:=Hd h;obtain⟨hok,m,pv,hx⟩:=h;obtain⟨c0,c1,c2,c3,c4,c5,c6,f⟩:=hx.cells;rw[hd]at c6;clear hx hok e1 hd;go_enter Tryz.func65,Tryz.ntmps65;go_wp2;go_ret;exact⟨rfl,HH.out,Chg.refl _ _⟩
 |false=>
  cases hop:S.operate.2 with
  |true=>
   refine(NZ h hd hop hlen hops hlim).mono ?_;rintro e w' ⟨rfl,h1,h2⟩;have e1:S.flush=({S.operate.1 with dur:=B7 S S.pend.length,pend:=[]},0):=by simp[DS.flush,hd,hop]
   rw[e1];exact⟨rfl,h1,h2⟩
  |false=>
   have e1:S.flush=(S.operate.1,28):=by simp[DS.flush,hd,hop]
   rw[e1];have HH:=Hd h;obtain⟨hok,m,pv,hx⟩:=h;obtain⟨c0,c1,c2,c3,c4,c5,c6,f⟩:=hx.cells;rw[hd]at c6;clear hx hok e1 hd;go_enter Tryz.func65,Tryz.ntmps65;go_wp2_with fail;refine(EM HH.out hops hlim).mono ?_;rintro e w1 ⟨rfl,hD1,hC1⟩;rw[hop];go_wp2;go_ret;exact⟨rfl,hD1,hC1⟩
variable {n B:Nat}{w':World}
theorem FL (a:UInt32):a.toNat<4294967296:=a.toNat_lt
theorem So (a b:UInt32):IntKind.u32.wrap ((a.toNat:Int)+(b.toNat:Int))=((a+b).toNat:Int):=by rw[IntKind.wrap_u32',UInt32.toNat_add];omega
theorem Sp (a:UInt32) (n:Nat) (h:n<32):((a.toNat:Int)*2^n)%4294967296=((a<<<(UInt32.ofNat n)).toNat:Int):=by rw[UInt32.toNat_shiftLeft,UInt32.toNat_ofNat',Nat.mod_eq_of_lt (show n<2^32 by omega),Nat.mod_eq_of_lt h,Nat.shiftLeft_eq];have e:(2:Int)^n=((2^n:Nat):Int):=(Int.natCast_pow 2 n).symm;rw[e,←Int.natCast_mul];generalize a.toNat*2^n=k;omega
theorem Ri (a b:UInt32):bits .xor .u32 (a.toNat:Int) (b.toNat:Int)=((a^^^b).toNat:Int):=by rw[u32_xor_nat _ _ (FL a) (FL b),UInt32.toNat_xor]
theorem Sq (a b:UInt32):bits .and .u32 (a.toNat:Int) (b.toNat:Int)=((a&&&b).toNat:Int):=by rw[u32_and_nat _ _ (FL a) (FL b),UInt32.toNat_and]
theorem Ql (a b:UInt32):bits .or .u32 (a.toNat:Int) (b.toNat:Int)=((a|||b).toNat:Int):=by rw[u32_or_nat _ _ (FL a) (FL b),UInt32.toNat_or]
theorem Sr (a:UInt32):bits .xor .u32 4294967295 (a.toNat:Int)=((~~~a).toNat:Int):=by
 have h:=Ri 4294967295 a;have e:((4294967295:UInt32).toNat:Int)=4294967295:=by decide
 rw[e]at h;rw[h];have e2:(4294967295:UInt32)^^^a= ~~~a:=by
  have:(4294967295:UInt32)=-1:=by decide
  rw[this,UInt32.neg_one_xor]
 rw[e2]
theorem Rj (a:UInt32) (n:Nat) (h:n<32):IntKind.u32.wrap ((a.toNat:Int)*2^n)=((a<<<(UInt32.ofNat n)).toNat:Int):=by rw[IntKind.wrap_u32',UInt32.toNat_shiftLeft,UInt32.toNat_ofNat',Nat.mod_eq_of_lt (show n<2^32 by omega),Nat.mod_eq_of_lt h,Nat.shiftLeft_eq];have e:(2:Int)^n=((2^n:Nat):Int):=(Int.natCast_pow 2 n).symm;rw[e,←Int.natCast_mul];generalize a.toNat*2^n=k;omega
theorem N0 (a:UInt32) (n:Nat) (h:n<32):(a.toNat:Int)/2^n=((a>>>(UInt32.ofNat n)).toNat:Int):=by rw[UInt32.toNat_shiftRight,UInt32.toNat_ofNat',Nat.mod_eq_of_lt (show n<2^32 by omega),Nat.mod_eq_of_lt h,Nat.shiftRight_eq_div_pow];push_cast;rfl
theorem Kd {f:FuncId}{args:Array Value}{a:Nat} 
 (h:Calls P f args (w.drewN (a+n)) fun e w'=>e=.returned v∧w'=w.drewN (a+n)):
 Calls P f args (w.drewN (a+n)) fun e w''=>e=.returned v∧∃m,w''=w.drewN (a+m):=
 h.mono fun _ _ ⟨he,hm⟩=>⟨he,n,hm⟩
def wN (x:UInt32):Int:=(x.toNat:Int)
theorem Pa (x:UInt32):0≤wN x:=by unfold wN;omega
theorem Ss (x:UInt32):wN x<4294967296:=by have:=FL x;unfold wN;omega
theorem Iu (a b:UInt32):IntKind.u32.wrap (wN a+wN b)=wN (a+b):=So a b
theorem Ls (a b:UInt32):bits .xor .u32 (wN a) (wN b)=wN (a^^^b):=Ri a b
theorem Rk (a b:UInt32):bits .and .u32 (wN a) (wN b)=wN (a&&&b):=Sq a b
theorem N3 (a b:UInt32):bits .or .u32 (wN a) (wN b)=wN (a|||b):=Ql a b
theorem St (a:UInt32):bits .xor .u32 IntKind.u32.max (wN a)=wN (~~~a):=Sr a
theorem Pb (a:UInt32):Op.unary .xor (.int .u32 (wN a))=(pure (.int .u32 (wN (~~~a))):Sem Value):=by rw[←St];rfl
theorem Cn (h:Below B w w') (n:Nat):Below B w (w'.drewN n):=⟨h.os,h.tape,h.output,h.size,h.block⟩
theorem N4 (a:UInt32) (n:Nat) (h:n<32):wN a/2^n=wN (a>>>(UInt32.ofNat n)):=N0 a n h
theorem Lt (a:UInt32) (n:Nat) (h:n<32):(wN a*2^n)%4294967296=wN (a<<<(UInt32.ofNat n)):=Sp a n h
theorem Iv (a:UInt32) (yk:IntKind) (n:Nat) (h:n<32):Op.shift .shr .u32 (wN a) yk (n:Int)=(pure (.int .u32 (wN (a>>>(UInt32.ofNat n)))):Sem Value):=by
 rw[shift_shr_any _ _ _ _ (by omega),←N4 a n h];have e:min (n:Int).toNat IntKind.u32.bits=n:=by simp[IntKind.bits];omega
 rw[e]
def wv (x:UInt32):Value:=.int .u32 (wN x)
def wvs (l:List UInt32):List Value:=l.map wv
@[simp] theorem Ep (l:List UInt32):(wvs l).length=l.length:=by simp[wvs]
def BS (x:UInt32) (n:Nat):UInt32:=(x<<<(UInt32.ofNat (32-n)))|||(x>>>(UInt32.ofNat n))
theorem Qm (x:UInt32) (n:Nat) (h1:0<n) (h2:n<32):bits .or .u32 (wN x*2^(32-n)%4294967296) (wN x/2^n)=wN (BS x n):=by unfold wN;rw[←IntKind.wrap_u32',Rj x (32-n) (by omega),N0 x n h2,Ql];rfl
theorem Pc (x:UInt32) (n:Nat) (h1:0<n) (h2:n<32):bits .or .u32 (wN x/2^n) (wN x*2^(32-n)%4294967296)=wN (BS x n):=by unfold wN;rw[←IntKind.wrap_u32',Rj x (32-n) (by omega),N0 x n h2,Ql,UInt32.or_comm];rfl
structure W8 where
 a:UInt32
 b:UInt32
 c:UInt32
 d:UInt32
 e:UInt32
 f:UInt32
 g:UInt32
 i:UInt32
def W8.cells (v:W8):List Value:=[wv v.a,wv v.b,wv v.c,wv v.d,wv v.e,wv v.f,wv v.g,wv v.i]
def W8.val (v:W8):Value:=.agg v.cells.toArray
def W8.plus (x y:W8):W8:=⟨x.a+y.a,x.b+y.b,x.c+y.c,x.d+y.d,x.e+y.e,x.f+y.f,x.g+y.g,x.i+y.i⟩
def bs0 (x:UInt32):UInt32:=BS x 2^^^BS x 13^^^BS x 22
def bs1 (x:UInt32):UInt32:=BS x 6^^^BS x 11^^^BS x 25
def ss0 (x:UInt32):UInt32:=BS x 7^^^BS x 18^^^(x>>>3)
def ss1 (x:UInt32):UInt32:=BS x 17^^^BS x 19^^^(x>>>10)
def W8.t (v:W8) (k w:UInt32):UInt32:=v.i+bs1 v.e+((v.e&&&v.f)^^^(~~~v.e&&&v.g))+k+w
def W8.u (v:W8):UInt32:=bs0 v.a+((v.a&&&v.b)^^^(v.a&&&v.c)^^^(v.b&&&v.c))
def W8.round (v:W8) (k w:UInt32):W8:=⟨v.t k w+v.u,v.a,v.b,v.c,v.d+v.t k w,v.e,v.f,v.g⟩
theorem N5 (n:Nat) (h1:0<n) (h2:n<32):bits .and .u64 (IntKind.u64.wrap (-(n:Int))) 31=((32-n:Nat):Int):=by
 have:∀n:Nat,n<32→0<n→bits .and .u64 (IntKind.u64.wrap (-(n:Int))) 31=((32-n:Nat):Int):=by decide
 exact this n h2 h1
theorem I3 (x:UInt32) (n:Nat) (h1:0<n) (h2:n<32) (w:World):
 Ca 125 #[wv x,.int .i64 (-(n:Int))] w fun e w'=>e=.returned (wv (BS x n))∧w=w':=by
 have hr:=N5 n h1 h2;unfold wv;go_enter Tryz.func125,Tryz.ntmps125;go_wp2;go_ret;refine⟨?_,rfl⟩;have e:32-(32-n)=n:=by omega
 rw[e];show Ending.returned (.int .u32 _)=_;rw[Qm x n h1 h2]
theorem N6 (x:UInt32) (n:Nat) (h1:0<n) (h2:n<32) (w:World):
 Ca 122 #[wv x,.int .i64 n] w fun e w'=>e=.returned (wv (BS x n))∧w=w':=by
 unfold wv;go_enter Tryz.func122,Tryz.ntmps122;go_wp2_with fail;refine(I3 x n h1 h2 w).mono ?_;rintro e w' ⟨rfl,rfl⟩;unfold wv;go_wp2_with fail;go_ret;exact⟨rfl,rfl⟩
theorem N7 (x:UInt32) (k:Int) (h1:0<k) (h2:k<32) (w:World):
 Ca 122 #[.int .u32 (wN x),.int .i64 k] w fun e w'=>e=.returned (.int .u32 (wN (BS x k.toNat)))∧w'=w:=by
 obtain⟨n,rfl⟩:=Int.eq_ofNat_of_zero_le (show 0≤k by omega);exact(N6 x n (by omega) (by omega) w).mono fun _ _ h=>⟨h.1,h.2.symm⟩
theorem Qn (x y:W8) (w:World):Ca 124 #[x.val,y.val] w fun e w'=>e=.returned (x.plus y).val∧Below w.heap.size w w':=by
 have hadd:=Iu;unfold W8.val W8.cells wv;go_enter Tryz.func124,Tryz.ntmps124;go_wp2;exact Br (v:=.agg #[.int .u32 (wN (x.a+y.a)),.int .u32 (wN (x.b+y.b)),.int .u32 (wN (x.c+y.c)),.int .u32 (wN (x.d+y.d)),.int .u32 (wN (x.e+y.e)),.int .u32 (wN (x.f+y.f)),.int .u32 (wN (x.g+y.g)),.int .u32 (wN (x.i+y.i))])
  (by simp[results,Tryz.results124,go_sem]) rfl ⟨rfl,(((Below.refl _ w).alloc Lr _).alloc (by simp) _).alloc (by simp;omega) _⟩
theorem FY:(Tryz.prog.info? 200).map (·.size)=some 8:=by kernel_rfl
theorem Ky (v:W8) (k x:UInt32) (w:World):Ca 123 #[v.val,wv k,wv x] w fun e w'=>e=.returned (v.round k x).val∧Below w.heap.size w w':=by
 have hadd:=Iu;have hx:=Ls;have ha:=Rk;have hn:=Pb;unfold W8.val W8.cells wv;go_enter Tryz.func123,Tryz.ntmps123;go_wp2;go_quiet ((go_at_call 122;(with_reducible exact Calls.quiet_of_same (N7 _ _ (by decide) (by decide) _))));go_wp2;go_quiet ((go_at_call 122;(with_reducible exact Kd (N7 _ _ (by decide) (by decide) _))));go_wp2;refine Br (v:=(v.round k x).val) ?h1 rfl ?h2
 case h1=>simp[results,Tryz.results123,go_sem,W8.val,W8.cells,W8.round,W8.t,W8.u,bs0,bs1,wv]
 case h2=>
  refine⟨rfl,?_⟩
  iterate 8 refine Below.setCell ?_ (by simp) _
  exact Cn (((Below.refl _ w).alloc Lr _).alloc (by simp) _) _
end Go.Proofs.YtplclpileejemaaGreatDoor
namespace Go.Proofs.YtplclpileejemaaGreatDoor
open Go
variable {listed:Array Bool}{i fuel:Nat}{a:Act}{w:World}{oi o:Oper}{v:Value}{K:Act→World→Prop}
section
variable {P:Program} {ops:Array Oper} {Q:Exit→Act→World→Prop} {md:Region.Mode} {S:World→Prop} {fin:List Nat}
def CB (fin:List Nat) (listed:Array Bool):Bool:=fin.all fun j=>!listed.getD j true
def A6 (P:Program) (md:Region.Mode) (ops:Array Oper) (Q:Exit→Act→World→Prop) (S:World→Prop) (fin:List Nat):Nat→Array Bool→Act→World→Prop
 |0,listed,a,w=>Region.ready md ops listed=[]∧Q .normal a w
 |fuel+1,listed,a,w=>
  (Region.ready md ops listed=[]→Q .normal a w)∧
  ∀i∈Region.ready md ops listed,wpOp P ops Q i (fun a' w'=>(CB fin (listed.setIfInBounds i true)=true→S w')∧A6 P md ops Q S fin fuel (listed.setIfInBounds i true) a' w') a w
theorem Jp:∀(fuel:Nat) (listed:Array Bool) (a:Act) (w:World),A6 P md ops Q S fin fuel listed a w→wpAny P md ops Q fuel listed a w
 |0,_,_,_,h=>h
 |fuel+1,_,_,_,h=>⟨h.1,fun i hi=>wpOp_mono (fun a' w' h'=>Jp fuel _ a' w' h'.2) (h.2 i hi)⟩
theorem Fq (hi:i∉fin):CB fin (listed.setIfInBounds i true)=CB fin listed:=by
 unfold CB;rw[Bool.eq_iff_iff,List.all_eq_true,List.all_eq_true];constructor
 ·intro h j hj;have:=h j hj;rwa [getD_set_ne true (fun e=>hi (by subst e;exact hj))]at this
 ·intro h j hj;rw[getD_set_ne true (fun e=>hi (by subst e;exact hj))];exact h j hj
theorem IK (hr:Region.ready md ops listed=[i])
 (h:wpOp P ops Q i (fun a' w'=>(CB fin (listed.setIfInBounds i true)=true→S w')∧A6 P md ops Q S fin fuel (listed.setIfInBounds i true) a' w') a w):A6 P md ops Q S fin (fuel+1) listed a w:=
 ⟨fun h0=>absurd (hr▸h0) (by simp),fun j hj=>by rw[hr]at hj;rw[List.mem_singleton.1 hj];exact h⟩
theorem Pd (hr:Region.ready md ops listed=[i]) (hi':ops.toList[i]?=some oi) (hg:oi.guard=none)
 (h:∀K:Act→World→Prop,(∀a' w',S w'→A6 P md ops Q S fin fuel (listed.setIfInBounds i true) a' w'→K a' w')→oi.wp P a w K Q):A6 P md ops Q S fin (fuel+1) listed a w:=by
 have hi:ops[i]?=some oi:=by simpa using hi'
 refine IK hr ?_;unfold wpOp;simp only[hi];rw[Ip (by simp[Region.wanted,hg])];exact .inl (h _ (fun a' w' h1 h2=>⟨fun _=>h1,h2⟩))
theorem N8 (hr:Region.ready md ops listed=[i]) (hi':ops.toList[i]?=some oi) (hg:oi.guard=none) (hn:CB fin (listed.setIfInBounds i true)=false)
 (h:∀K:Act→World→Prop,(∀a' w',A6 P md ops Q S fin fuel (listed.setIfInBounds i true) a' w'→K a' w')→oi.wp P a w K Q):A6 P md ops Q S fin (fuel+1) listed a w:=by
 have hi:ops[i]?=some oi:=by simpa using hi'
 refine IK hr ?_;unfold wpOp;simp only[hi];rw[Ip (by simp[Region.wanted,hg])];exact .inl (h _ (fun a' w' h2=>⟨fun h=>(by rw[hn]at h;cases h),h2⟩))
theorem Hf {S':World→Prop} (hw:Region.wanted o (yielded ops a.tmps)=true) (h:∀w,S' w→(execOp a.eval o).run P w=.ok (.value v) w):YieldsIf P ops S' o v a:=.inl ⟨hw,h⟩
theorem K6 {S':World→Prop} (hw:Region.wanted o (yielded ops a.tmps)=false):YieldsIf P ops S' o undef a:=.inr ⟨hw,rfl⟩
theorem MS (hr:Region.ready md ops listed=[]) (h:Q .normal a w):
 ∀fuel,A6 P md ops Q S fin fuel listed a w
 |0=>⟨hr,h⟩
 |_+1=>⟨fun _=>h,by rw[hr];simp⟩
theorem BB {id:Nat} (fin:List Nat) (S:World→Prop) (hm:P.follows .mixedOrders=true)
 (h:A6 P .any ops Q S fin ops.size (Array.replicate ops.size false) a w.drew):(Code.region id ops true).wp P Q a w:=
 wp_region_any hm (Jp _ _ _ _ h)
end
section
variable {P:Program} {ops:Array Oper} {Q:Exit→Act→World→Prop} {md:Region.Mode} {S:World→Prop} {fin:Nat}
theorem Pe {j:Nat}{oj:Oper} (hj:ops[j]?=some oj) (h:wpOp P ops Q j K a w):
 wpOp P ops Q j (fun a' w'=>(∃u,a'.tmps=(a.put oj.dst u).tmps)∧K a' w') a w:=by
 have hd:∀d u,(Act.put {a with defers:=d::a.defers} oj.dst u).tmps=(a.put oj.dst u).tmps:=fun d u=>by unfold Act.put;cases oj.dst<;>rfl
 unfold wpOp at*;simp only[hj]at*;split
 ·rename_i hw;simp only[hw,if_true]at h;rcases h with h|h
  case inr=>exact .inr h
  refine .inl ?_;unfold Oper.wp at*;generalize (execOp a.eval oj).run P w=r at*;cases r with
  |ok n w'=>
   cases n<;>simp only[Oper.upon]at h⊢
   case value u=>exact⟨⟨u,rfl⟩,h⟩
   case skip=>exact⟨⟨_,rfl⟩,h⟩
   case defer d=>exact⟨⟨_,hd d _⟩,h⟩
   case enter f args=>exact Calls.mono h fun e w'' he=>by cases e<;>first|exact⟨⟨_,rfl⟩,he⟩|exact he
   case row row args=>exact Rows.mono h fun u w'' he=>⟨⟨_,rfl⟩,he⟩
  |halt x w'=>cases x<;>simp only[Oper.upon]at h⊢<;>exact h
 ·rename_i hw;simp only[hw]at h;exact⟨⟨_,rfl⟩,h⟩
def YieldsC (P:Program) (ops:Array Oper) (S:World→Prop) (o:Oper) (v:Value) (a:Act):Prop:=
 Region.wanted o (yielded ops a.tmps)=true∧∀w,S w→o.quietAt P a (fun x=>x=w) w v
theorem YieldsC.wpOp (hi:ops[i]?=some o) (hy:YieldsC P ops S o v a) {K:Act→World→Prop} {w:World} (hS:S w) (h:K (a.put o.dst v) w):wpOp P ops Q i K a w:=by unfold Go.wpOp;simp only[hi];rw[Ip hy.1];exact .inl (Oper.wp_of_quiet (C:=fun x=>x=w) (K:=fun a'=>K a' w) rfl (fun a' w' e hk=>by rw[e];exact hk) ⟨v,fun w' e=>by rw[e];exact hy.2 w hS,h⟩)
theorem Pf {a':Act} (h:a'.tmps=a.tmps):a'.eval=a.eval:=by
 funext x
 cases x<;>simp[Act.eval,h]
theorem K7 (hi:ops[i]?=some oi) (hsel:∀(j:Nat) (o:Oper) cs b,ops[j]?=some o→o.op≠.select cs b)
 (hQ:∀c a w,Q (.panic c) (a.put oi.dst v) w→Q (.panic c) a w) (hfin:FX md ops fin i=true):
 ∀(fuel:Nat) (listed:Array Bool) (a:Act) (w:World),
  (∀j oj,ops[j]?=some oj→j≠i→listed.getD j true=false→(∀e∈oj.after,Region.binds md e=true→e.on≠i)→oi.apart ops oj=true)→
  i∈Region.ready md ops listed→YieldsC P ops S oi v a→S w→
  BD P md ops Q S fin fuel (listed.setIfInBounds i true) (a.put oi.dst v) w→BD P md ops Q S fin (fuel+1) listed a w:=by
 intro fuel
 induction fuel with
 |zero=>
  intro listed a w _ hr hy hS H;refine⟨fun h=>(by rw[h]at hr;cases hr),fun j hj=>?_⟩;by_cases hji:j=i
  ·subst hji;exact hy.wpOp hi hS ⟨fun _=>hS,H⟩
  ·have:=ready_mono hj hji;rw[H.1]at this;cases this
 |succ fuel ih=>
  intro listed a w hfree hr hy hS H;refine⟨fun h=>(by rw[h]at hr;cases hr),fun j hj=>?_⟩;by_cases hji:j=i
  ·subst hji;exact hy.wpOp hi hS ⟨fun _=>hS,H⟩
  ·have h1:=H.2 j (ready_mono hj hji);obtain⟨hjun,oj,hoj,hall⟩:=mem_ready.1 hj;have hnot:∀e∈oj.after,Region.binds md e=true→e.on≠i:=fun e he hb heq=>by
    have h1:=hall e he hb;have h0:=(mem_ready.1 hr).1;rw[heq]at h1;rcases Nat.lt_or_ge i listed.size with h'|h'
    ·simp[h']at h0 h1;rw[h0]at h1;cases h1
    ·simp[Array.getElem?_eq_none h']at h1
   have hjf:j≠fin:=fun e=>by subst e;obtain⟨e',he',hb',hon⟩:=Jj hfin hoj;exact hnot e' he' hb' hon
   have hap:=hfree j oj hoj hji hjun hnot;obtain⟨_,_,h3⟩:=Oper.apart_spec hap;have h2:=Pe hoj (wpOp_putIf (S:=fun _=>False) hoj hap (fun cs b=>hsel i oi cs b hi) (fun cs b=>hsel j oj cs b hoj) hQ (.inl ⟨hy.1,fun _ h=>h.elim⟩) h1);have hfree':∀k ok,ops[k]?=some ok→k≠i→(listed.setIfInBounds j true).getD k true=false→
    (∀e∈ok.after,Region.binds md e=true→e.on≠i)→oi.apart ops ok=true:=fun k ok hk hki hun hno=>by
    refine hfree k ok hk hki ?_ hno;by_cases hjk:j=k
    ·subst hjk;exact hjun
    ·rw[getD_set_ne true hjk]at hun;exact hun
   refine wpOp_mono (fun a' w' h4=>?_) h2;obtain⟨⟨u,hu⟩,_,h5,h6⟩:=h4;have hy':YieldsC P ops S oi v a':=by
    refine⟨?_,fun w hw=>?_⟩
    ·rw[hu,wanted_put oi a oj.dst u h3];exact hy.1
    ·have:=hy.2 w hw;unfold Oper.quietAt at*;rw[Pf hu,execOp_put oi (fun cs b=>hsel i oi cs b hi) a oj.dst u h3];exact this
   refine⟨h5,ih (listed.setIfInBounds j true) a' w' hfree' (ready_mono hr (Ne.symm hji)) hy' (h5 hjf) ?_⟩;rw[Array.setIfInBounds_comm _ _ hji];exact h6
theorem DB (hi':ops.toList[i]?=some oi)
 (hs:Region.noSelect ops=true) (hf:Region.free md ops listed i=true) (hr:(Region.ready md ops listed).contains i=true) (hfin:FX md ops fin i=true)
 (hQ:∀c a w,Q (.panic c) (a.put oi.dst v) w→Q (.panic c) a w) (hy:YieldsC P ops S oi v a) (hS:S w)
 (h:BD P md ops Q S fin fuel (listed.setIfInBounds i true) (a.put oi.dst v) w):BD P md ops Q S fin (fuel+1) listed a w:=
 have hi:ops[i]?=some oi:=by simpa using hi'
 K7 hi (Region.noSelect_spec hs) hQ hfin fuel listed a w (Region.free_spec hi hf) (by simpa using hr) hy hS h
theorem Jq {j:Nat}{oj:Oper} (hr:Region.ready md ops listed=[i,j]) (hi':ops.toList[i]?=some oi) (hj':ops.toList[j]?=some oj) (hg:oi.guard=none) (hg2:oj.guard=none)
 (h1:∀K:Act→World→Prop,(∀a' w',(i≠fin→S w')→BD P md ops Q S fin fuel (listed.setIfInBounds i true) a' w'→K a' w')→oi.wp P a w K Q)
 (h2:∀K:Act→World→Prop,(∀a' w',(j≠fin→S w')→BD P md ops Q S fin fuel (listed.setIfInBounds j true) a' w'→K a' w')→oj.wp P a w K Q):
 BD P md ops Q S fin (fuel+1) listed a w:=by
 have hi:ops[i]?=some oi:=by simpa using hi'
 have hj:ops[j]?=some oj:=by simpa using hj'
 refine⟨fun h0=>absurd (hr▸h0) (by simp),fun k hk=>?_⟩;rw[hr]at hk;rcases List.mem_cons.1 hk with rfl |hk
 ·unfold wpOp;simp only[hi];rw[Ip (by simp[Region.wanted,hg])];exact .inl (h1 _ (fun a' w' h1 h2=>⟨h1,h2⟩))
 ·obtain rfl :=List.mem_singleton.1 hk;unfold wpOp;simp only[hj];rw[Ip (by simp[Region.wanted,hg2])];exact .inl (h2 _ (fun a' w' h1 h2=>⟨h1,h2⟩))
theorem DC (hi':ops.toList[i]?=some oi)
 (hs:Region.noSelect ops=true) (hf:Region.free md ops listed i=true) (hr:(Region.ready md ops listed).contains i=true)
 (hQ:∀c a w,Q (.panic c) (a.put oi.dst v) w→Q (.panic c) a w) (hy:YieldsIf P ops S oi v a) (hS:S w)
 (h:wpAnyH P md ops Q S fuel (listed.setIfInBounds i true) (a.put oi.dst v) w):wpAnyH P md ops Q S (fuel+1) listed a w:=
 wpAnyH_take (by simpa using hi') hs hf hr hQ hy hS h
theorem Pg (hr:Region.ready md ops listed=[i]) (hi':ops.toList[i]?=some oi) (hg:oi.guard=none)
 (h:∀K:Act→World→Prop,(∀a' w',S w'→wpAnyH P md ops Q S fuel (listed.setIfInBounds i true) a' w'→K a' w')→oi.wp P a w K Q):wpAnyH P md ops Q S (fuel+1) listed a w:=by
 have hi:ops[i]?=some oi:=by simpa using hi'
 refine wpAnyH_all hr (by simp) fun j hj=>?_
 obtain rfl :=List.mem_singleton.1 hj;unfold wpOp;simp only[hi];rw[Ip (by simp[Region.wanted,hg])];exact .inl (h _ (fun a' w' h1 h2=>⟨h1,h2⟩))
theorem BM {id:Nat} (S:World→Prop) (hm:P.follows .mixedOrders=true)
 (h:wpAnyH P .any ops Q S ops.size (Array.replicate ops.size false) a w.drew):(Code.region id ops true).wp P Q a w:=
 wp_region_held hm h
end
section
variable {P:Program} {ops:Array Oper} {Q:Exit→Act→World→Prop} {md:Region.Mode} {S:World→Prop}
theorem MT (hr:Region.ready md ops listed=[i]) (hi':ops.toList[i]?=some oi) (hw:Region.wanted oi (yielded ops a.tmps)=true)
 (h:∀K:Act→World→Prop,(∀a' w',S w'→wpAnyH P md ops Q S fuel (listed.setIfInBounds i true) a' w'→K a' w')→oi.wp P a w K Q):wpAnyH P md ops Q S (fuel+1) listed a w:=by
 have hi:ops[i]?=some oi:=by simpa using hi'
 refine wpAnyH_all hr (by simp) fun j hj=>?_
 obtain rfl :=List.mem_singleton.1 hj;unfold wpOp;simp only[hi];rw[Ip hw];exact .inl (h _ (fun a' w' h1 h2=>⟨h1,h2⟩))
end
section
variable {P:Program} {ops:Array Oper} {Q:Exit→Act→World→Prop} {md:Region.Mode} {S:World→Prop} {fin:List Nat}
def Ix (md:Region.Mode) (ops:Array Oper) (fin:List Nat) (i:Nat):Bool:=
 fin.all fun j=>match ops[j]? with|some o=>o.after.any fun e=>Region.binds md e&&(e.on==i||fin.contains e.on)|none=>false
theorem N9 {j:Nat} (h:Ix md ops fin i=true) (hj:j∈fin) {o:Oper} (ho:ops[j]?=some o):∃e∈o.after,Region.binds md e=true∧(e.on=i∨e.on∈fin):=by unfold Ix at h;have h:=List.all_eq_true.1 h j hj;simp only[ho]at h;obtain⟨e,he,hb⟩:=Array.any_eq_true'.1 h;simp only[Bool.and_eq_true,Bool.or_eq_true,beq_iff_eq,List.contains_iff_mem]at hb;exact⟨e,he,hb.1,hb.2⟩
theorem Hg {S':World→Prop} (kb:Bool) {i:Nat} {oi:Oper} {v:Value} (hi:ops[i]?=some oi) (hsel:∀(j:Nat) (o:Oper) cs b,ops[j]?=some o→o.op≠.select cs b)
 (hQ:∀c a w,Q (.panic c) (a.put oi.dst v) w→Q (.panic c) a w) (hifin:i∉fin) (hcase:(kb=true∧Ix md ops fin i=true∧S'=S)∨(kb=false∧S'=fun _=>True)):
 ∀(fuel:Nat) (listed:Array Bool) (a:Act) (w:World),
  (∀j oj,ops[j]?=some oj→j≠i→listed.getD j true=false→(∀e∈oj.after,Region.binds md e=true→e.on≠i)→oi.apart ops oj=true)→
  i∈Region.ready md ops listed→YieldsIf P ops S' oi v a→(kb=true→CB fin listed=true)→(CB fin listed=true→S w)→
  A6 P md ops Q S fin fuel (listed.setIfInBounds i true) (a.put oi.dst v) w→A6 P md ops Q S fin (fuel+1) listed a w:=by
 intro fuel
 induction fuel with
 |zero=>
  intro listed a w _ hr hy hny hS H;have hS':S' w:=by
   rcases hcase with⟨hk,_,e⟩| ⟨_,e⟩
   ·rw[e];exact hS (hny hk)
   ·rw[e];trivial
  refine⟨fun h=>(by rw[h]at hr;cases hr),fun j hj=>?_⟩;by_cases hji:j=i
  ·subst hji;exact hy.wpOp hi hS' ⟨fun h=>hS (by rwa [Fq hifin]at h),H⟩
  ·have:=ready_mono hj hji;rw[H.1]at this;cases this
 |succ fuel ih=>
  intro listed a w hfree hr hy hny hS H;have hS':S' w:=by
   rcases hcase with⟨hk,_,e⟩| ⟨_,e⟩
   ·rw[e];exact hS (hny hk)
   ·rw[e];trivial
  refine⟨fun h=>(by rw[h]at hr;cases hr),fun j hj=>?_⟩;by_cases hji:j=i
  ·subst hji;exact hy.wpOp hi hS' ⟨fun h=>hS (by rwa [Fq hifin]at h),H⟩
  ·have h1:=H.2 j (ready_mono hj hji);obtain⟨hjun,oj,hoj,hall⟩:=mem_ready.1 hj;have hnot:∀e∈oj.after,Region.binds md e=true→e.on≠i:=fun e he hb heq=>by
    have h1:=hall e he hb;have h0:=(mem_ready.1 hr).1;rw[heq]at h1;rcases Nat.lt_or_ge i listed.size with h'|h'
    ·simp[h']at h0 h1;rw[h0]at h1;cases h1
    ·simp[Array.getElem?_eq_none h']at h1
   have h2:=wpOp_putIf hoj (hfree j oj hoj hji hjun hnot) (fun cs b=>hsel i oi cs b hi) (fun cs b=>hsel j oj cs b hoj) hQ hy h1;have hfree':∀k ok,ops[k]?=some ok→k≠i→(listed.setIfInBounds j true).getD k true=false→
    (∀e∈ok.after,Region.binds md e=true→e.on≠i)→oi.apart ops ok=true:=fun k ok hk hki hun hno=>by
    refine hfree k ok hk hki ?_ hno;by_cases hjk:j=k
    ·subst hjk;exact hjun
    ·rw[getD_set_ne true hjk]at hun;exact hun
   have hcm:CB fin ((listed.setIfInBounds i true).setIfInBounds j true)=CB fin (listed.setIfInBounds j true):=by rw[Array.setIfInBounds_comm _ _ (Ne.symm hji),Fq hifin]
   have hny':kb=true→CB fin (listed.setIfInBounds j true)=true:=fun e=>by
    rcases hcase with⟨_,hl,_⟩| ⟨e2,_⟩
    ·have hjf:j∉fin:=fun hm=>by
      obtain⟨e',he',hb',hon⟩:=N9 hl hm hoj;rcases hon with hon|hon
      ·exact hnot e' he' hb' hon
      ·have h1:=hall e' he' hb';have h0:=List.all_eq_true.1 (hny e) _ hon;simp only[Bool.not_eq_true']at h0;rcases Nat.lt_or_ge e'.on listed.size with h'|h'
       ·simp[h']at h0 h1;rw[h0]at h1;cases h1
       ·simp[Array.getElem?_eq_none h']at h1
     rw[Fq hjf];exact hny e
    ·rw[e]at e2;cases e2
   refine wpOp_mono (fun a' w' h3=>⟨fun h=>h3.2.1 (by rw[hcm];exact h),ih (listed.setIfInBounds j true) a' w' hfree' (ready_mono hr (Ne.symm hji)) h3.1 hny' (fun h=>h3.2.1 (by rw[hcm];exact h)) ?_⟩) h2;rw[Array.setIfInBounds_comm _ _ hji];exact h3.2.2
theorem Ht (hi':ops.toList[i]?=some oi)
 (hs:Region.noSelect ops=true) (hf:Region.free md ops listed i=true) (hr:(Region.ready md ops listed).contains i=true) (hfin:(!fin.contains i&&Ix md ops fin i&&CB fin listed)=true)
 (hQ:∀c a w,Q (.panic c) (a.put oi.dst v) w→Q (.panic c) a w) (hy:YieldsIf P ops S oi v a) (hS:S w)
 (h:A6 P md ops Q S fin fuel (listed.setIfInBounds i true) (a.put oi.dst v) w):A6 P md ops Q S fin (fuel+1) listed a w:=by
 have hi:ops[i]?=some oi:=by simpa using hi'
 simp only[Bool.and_eq_true]at hfin;exact Hg true hi (Region.noSelect_spec hs) hQ (by simpa using hfin.1.1) (.inl ⟨rfl,hfin.1.2,rfl⟩) fuel listed a w (Region.free_spec hi hf) (by simpa using hr) hy (fun _=>hfin.2) (fun _=>hS) h
theorem MU (hi':ops.toList[i]?=some oi)
 (hs:Region.noSelect ops=true) (hf:Region.free md ops listed i=true) (hr:(Region.ready md ops listed).contains i=true) (hfin:(!fin.contains i)=true)
 (hQ:∀c a w,Q (.panic c) (a.put oi.dst v) w→Q (.panic c) a w) (hy:YieldsIf P ops (fun _=>True) oi v a) (hS:CB fin listed=true→S w)
 (h:A6 P md ops Q S fin fuel (listed.setIfInBounds i true) (a.put oi.dst v) w):A6 P md ops Q S fin (fuel+1) listed a w:=by
 have hi:ops[i]?=some oi:=by simpa using hi'
 exact Hg false hi (Region.noSelect_spec hs) hQ (by simpa using hfin) (.inr ⟨rfl,rfl⟩) fuel listed a w (Region.free_spec hi hf) (by simpa using hr) hy (fun e=>by cases e) hS h
end
section
variable {P:Program} {ops:Array Oper} {Q:Exit→Act→World→Prop} {md:Region.Mode} {S:World→Prop} {fin:List Nat}
theorem tkH (i:Nat) {oi:Oper} {v:Value} {fuel:Nat} {listed:Array Bool} {a a':Act} {w:World} (hS:S w) (h:wpAnyH P md ops Q S fuel (listed.setIfInBounds i true) a' w) (hi':ops.toList[i]?=some oi:=by rfl) (hg:oi.guard=none:=by rfl) (hy:∀w',S w'→(execOp a.eval oi).run P w'=.ok (.value v) w':=by intro w' hw';first| (go_simp;rfl)| (go_simp;done)|rfl) (ha:a.put oi.dst v=a':=by first| (simp only[P0,P1,P2,P3,P4];rfl)|rfl) (hc:ckR md ops listed i=true:=by kernel_rfl) (hQ:∀c a w,Q (.panic c) (a.put oi.dst v) w→Q (.panic c) a w:=by exact fun _ _ _ h=>h):wpAnyH P md ops Q S (fuel+1) listed a w:=by subst ha;exact DC hi' (ckT hc).1 (ckT hc).2.1 (ckT hc).2.2 hQ (CL hg hy) hS h
theorem Aj (i:Nat) {oi:Oper} {v:Value} {fuel:Nat} {listed:Array Bool} {a a':Act} {w:World} (hS:S w) (h:wpAnyH P md ops Q S fuel (listed.setIfInBounds i true) a' w) (hi':ops.toList[i]?=some oi:=by rfl) (hg:Region.wanted oi (yielded ops a.tmps)=true:=by rfl) (hy:∀w',S w'→(execOp a.eval oi).run P w'=.ok (.value v) w':=by intro w' hw';first| (go_simp;rfl)| (go_simp;done)|rfl) (ha:a.put oi.dst v=a':=by first| (simp only[P0,P1,P2,P3,P4];rfl)|rfl) (hc:ckR md ops listed i=true:=by kernel_rfl) (hQ:∀c a w,Q (.panic c) (a.put oi.dst v) w→Q (.panic c) a w:=by exact fun _ _ _ h=>h):wpAnyH P md ops Q S (fuel+1) listed a w:=by subst ha;exact DC hi' (ckT hc).1 (ckT hc).2.1 (ckT hc).2.2 hQ (Hf hg hy) hS h
theorem AD (i:Nat) {oi:Oper} {v:Value} {fuel:Nat} {listed:Array Bool} {a a':Act} {w:World} {F:World→Prop} (hf:∀w',S w'→F w') (hS:S w) (h:wpAnyH P md ops Q S fuel (listed.setIfInBounds i true) a' w) (hi':ops.toList[i]?=some oi:=by rfl) (hg:oi.guard=none:=by rfl) (hy:∀w',F w'→(execOp a.eval oi).run P w'=.ok (.value v) w':=by intro w' hw';first| (go_simp;rfl)| (go_simp;done)) (ha:a.put oi.dst v=a':=by first| (simp only[P0,P1,P2,P3,P4];rfl)|rfl) (hc:ckR md ops listed i=true:=by kernel_rfl) (hQ:∀c a w,Q (.panic c) (a.put oi.dst v) w→Q (.panic c) a w:=by exact fun _ _ _ h=>h):wpAnyH P md ops Q S (fuel+1) listed a w:=by subst ha;exact DC hi' (ckT hc).1 (ckT hc).2.1 (ckT hc).2.2 hQ (CL hg (fun w' h=>hy w' (hf w' h))) hS h
theorem Bw (i:Nat) {oi:Oper} {v:Value} {fuel:Nat} {listed:Array Bool} {a a':Act} {w:World} {F:World→Prop} (hf:∀w',S w'→F w') (hS:S w) (h:wpAnyH P md ops Q S fuel (listed.setIfInBounds i true) a' w) (hi':ops.toList[i]?=some oi:=by rfl) (hg:Region.wanted oi (yielded ops a.tmps)=true:=by rfl) (hy:∀w',F w'→(execOp a.eval oi).run P w'=.ok (.value v) w':=by intro w' hw';first| (go_simp;rfl)| (go_simp;done)) (ha:a.put oi.dst v=a':=by first| (simp only[P0,P1,P2,P3,P4];rfl)|rfl) (hc:ckR md ops listed i=true:=by kernel_rfl) (hQ:∀c a w,Q (.panic c) (a.put oi.dst v) w→Q (.panic c) a w:=by exact fun _ _ _ h=>h):wpAnyH P md ops Q S (fuel+1) listed a w:=by subst ha;exact DC hi' (ckT hc).1 (ckT hc).2.1 (ckT hc).2.2 hQ (Hf hg (fun w' h=>hy w' (hf w' h))) hS h
theorem AH (i:Nat) {oi:Oper} {fuel:Nat} {listed:Array Bool} {a a':Act} {w:World} (hS:S w) (h:wpAnyH P md ops Q S fuel (listed.setIfInBounds i true) a' w) (hi':ops.toList[i]?=some oi:=by rfl) (hg:Region.wanted oi (yielded ops a.tmps)=false:=by rfl) (ha:a.put oi.dst undef=a':=by first| (simp only[P0,P1,P2,P3,P4];rfl)|rfl) (hc:ckR md ops listed i=true:=by kernel_rfl) (hQ:∀c a w,Q (.panic c) (a.put oi.dst undef) w→Q (.panic c) a w:=by exact fun _ _ _ h=>h):wpAnyH P md ops Q S (fuel+1) listed a w:=by subst ha;exact DC hi' (ckT hc).1 (ckT hc).2.1 (ckT hc).2.2 hQ (K6 hg) hS h
theorem tkZ (i:Nat) {oi:Oper} {v:Value} {fuel:Nat} {listed:Array Bool} {a a':Act} {w:World} (hS:S w) (h:A6 P md ops Q S fin fuel (listed.setIfInBounds i true) a' w) (hi':ops.toList[i]?=some oi:=by rfl) (hg:oi.guard=none:=by rfl) (hy:∀w',S w'→(execOp a.eval oi).run P w'=.ok (.value v) w':=by intro w' hw';first| (go_simp;rfl)| (go_simp;done)|rfl) (ha:a.put oi.dst v=a':=by first| (simp only[P0,P1,P2,P3,P4];rfl)|rfl) (hc:ckR md ops listed i=true:=by kernel_rfl) (hfin:(!fin.contains i&&Ix md ops fin i&&CB fin listed)=true:=by kernel_rfl) (hQ:∀c a w,Q (.panic c) (a.put oi.dst v) w→Q (.panic c) a w:=by exact fun _ _ _ h=>h):A6 P md ops Q S fin (fuel+1) listed a w:=by subst ha;exact Ht hi' (ckT hc).1 (ckT hc).2.1 (ckT hc).2.2 hfin hQ (CL hg hy) hS h
theorem BV (i:Nat) {oi:Oper} {v:Value} {fuel:Nat} {listed:Array Bool} {a a':Act} {w:World} {F:World→Prop} (hf:∀w',S w'→F w') (hS:S w) (h:A6 P md ops Q S fin fuel (listed.setIfInBounds i true) a' w) (hi':ops.toList[i]?=some oi:=by rfl) (hg:oi.guard=none:=by rfl) (hy:∀w',F w'→(execOp a.eval oi).run P w'=.ok (.value v) w':=by intro w' hw';first| (go_simp;rfl)| (go_simp;done)) (ha:a.put oi.dst v=a':=by first| (simp only[P0,P1,P2,P3,P4];rfl)|rfl) (hc:ckR md ops listed i=true:=by kernel_rfl) (hfin:(!fin.contains i&&Ix md ops fin i&&CB fin listed)=true:=by kernel_rfl) (hQ:∀c a w,Q (.panic c) (a.put oi.dst v) w→Q (.panic c) a w:=by exact fun _ _ _ h=>h):A6 P md ops Q S fin (fuel+1) listed a w:=by subst ha;exact Ht hi' (ckT hc).1 (ckT hc).2.1 (ckT hc).2.2 hfin hQ (CL hg (fun w' h=>hy w' (hf w' h))) hS h
theorem tkP (i:Nat) {oi:Oper} {v:Value} {fuel:Nat} {listed:Array Bool} {a a':Act} {w:World} (hS:S w) (h:A6 P md ops Q S fin fuel (listed.setIfInBounds i true) a' w) (hi':ops.toList[i]?=some oi:=by rfl) (hg:oi.guard=none:=by rfl) (hy:∀w',True→(execOp a.eval oi).run P w'=.ok (.value v) w':=by intro w' hw';first| (go_simp;rfl)| (go_simp;done)|rfl) (ha:a.put oi.dst v=a':=by first| (simp only[P0,P1,P2,P3,P4];rfl)|rfl) (hc:ckR md ops listed i=true:=by kernel_rfl) (hfin:(!fin.contains i)=true:=by kernel_rfl) (hQ:∀c a w,Q (.panic c) (a.put oi.dst v) w→Q (.panic c) a w:=by exact fun _ _ _ h=>h):A6 P md ops Q S fin (fuel+1) listed a w:=by subst ha;exact MU hi' (ckT hc).1 (ckT hc).2.1 (ckT hc).2.2 hfin hQ (CL hg hy) (fun _=>hS) h
theorem dH (i:Nat) {oi:Oper} {fuel:Nat} {listed:Array Bool} {a:Act} {w:World} (h:∀K:Act→World→Prop,(∀a' w',S w'→wpAnyH P md ops Q S fuel (listed.setIfInBounds i true) a' w'→K a' w')→oi.wp P a w K Q) (hi':ops.toList[i]?=some oi:=by rfl) (hg:oi.guard=none:=by rfl) (hr:Region.ready md ops listed=[i]:=by kernel_rfl):wpAnyH P md ops Q S (fuel+1) listed a w:=
 Pg hr hi' hg h
theorem dHw (i:Nat) {oi:Oper} {fuel:Nat} {listed:Array Bool} {a:Act} {w:World} (h:∀K:Act→World→Prop,(∀a' w',S w'→wpAnyH P md ops Q S fuel (listed.setIfInBounds i true) a' w'→K a' w')→oi.wp P a w K Q) (hi':ops.toList[i]?=some oi:=by rfl) (hg:Region.wanted oi (yielded ops a.tmps)=true:=by rfl) (hr:Region.ready md ops listed=[i]:=by kernel_rfl):wpAnyH P md ops Q S (fuel+1) listed a w:=
 MT hr hi' hg h
theorem dG (i:Nat) {oi:Oper} {fuel:Nat} {listed:Array Bool} {a:Act} {w:World} (h:∀K:Act→World→Prop,(∀a' w',S w'→A6 P md ops Q S fin fuel (listed.setIfInBounds i true) a' w'→K a' w')→oi.wp P a w K Q) (hi':ops.toList[i]?=some oi:=by rfl) (hg:oi.guard=none:=by rfl) (hr:Region.ready md ops listed=[i]:=by kernel_rfl):A6 P md ops Q S fin (fuel+1) listed a w:=
 Pd hr hi' hg h
theorem dGf (i:Nat) {oi:Oper} {fuel:Nat} {listed:Array Bool} {a:Act} {w:World} (h:∀K:Act→World→Prop,(∀a' w',A6 P md ops Q S fin fuel (listed.setIfInBounds i true) a' w'→K a' w')→oi.wp P a w K Q) (hi':ops.toList[i]?=some oi:=by rfl) (hg:oi.guard=none:=by rfl) (hr:Region.ready md ops listed=[i]:=by kernel_rfl) (hn:CB fin (listed.setIfInBounds i true)=false:=by kernel_rfl):A6 P md ops Q S fin (fuel+1) listed a w:=
 N8 hr hi' hg hn h
theorem eH (h:Q .normal a w) (hr:Region.ready md ops listed=[]:=by kernel_rfl):wpAnyH P md ops (NoPanic Q) S fuel listed a w:=wpAnyH_done hr (NoPanic.normal h) _
theorem eG (h:Q .normal a w) (hr:Region.ready md ops listed=[]:=by kernel_rfl):A6 P md ops (NoPanic Q) S fin fuel listed a w:=MS hr (NoPanic.normal h) _
end
section
variable {P:Program} {ops:Array Oper} {Q:Exit→Act→World→Prop} {a:Act} {w:World}
theorem bH {id:Nat} (F:Nat→Prop) (h:∀wd,RowKit.Below w.heap.size w wd→Chg F w wd→wpAnyH P .any ops (NoPanic Q) (Chg F w) ops.size (Array.replicate ops.size false) a wd) (hm:P.follows .mixedOrders=true:=by kernel_rfl):(Code.region id ops true).wp P Q a w:=
 wp_region_noPanic (BM (Chg F w) hm (h _ (Dd rfl) (Cb Rq.drew)))
theorem bB {id:Nat} (h:∀wd,RowKit.Below w.heap.size w wd→wpAnyH P .any ops (NoPanic Q) (RowKit.Below w.heap.size w) ops.size (Array.replicate ops.size false) a wd) (hm:P.follows .mixedOrders=true:=by kernel_rfl):(Code.region id ops true).wp P Q a w:=
 wp_region_noPanic (BM (RowKit.Below w.heap.size w) hm (h _ (Dd rfl)))
theorem bG {id:Nat} (fin:List Nat) (h:∀wd,RowKit.Below w.heap.size w wd→A6 P .any ops (NoPanic Q) (RowKit.Below w.heap.size w) fin ops.size (Array.replicate ops.size false) a wd) (hm:P.follows .mixedOrders=true:=by kernel_rfl):(Code.region id ops true).wp P Q a w:=
 wp_region_noPanic (BB fin (RowKit.Below w.heap.size w) hm (h _ (Dd rfl)))
end
end Go.Proofs.YtplclpileejemaaGreatDoor
namespace Go.Proofs.YtplclpileejemaaGreatDoor
open Go.RowKit
variable {w:World}{b:Nat}{T:TypeId}
def kTab:List UInt32:=[
 0x428a2f98,0x71374491,0xb5c0fbcf,0xe9b5dba5,0x3956c25b,0x59f111f1,0x923f82a4,0xab1c5ed5,
 0xd807aa98,0x12835b01,0x243185be,0x550c7dc3,0x72be5d74,0x80deb1fe,0x9bdc06a7,0xc19bf174,
 0xe49b69c1,0xefbe4786,0x0fc19dc6,0x240ca1cc,0x2de92c6f,0x4a7484aa,0x5cb0a9dc,0x76f988da,
 0x983e5152,0xa831c66d,0xb00327c8,0xbf597fc7,0xc6e00bf3,0xd5a79147,0x06ca6351,0x14292967,
 0x27b70a85,0x2e1b2138,0x4d2c6dfc,0x53380d13,0x650a7354,0x766a0abb,0x81c2c92e,0x92722c85,
 0xa2bfe8a1,0xa81a664b,0xc24b8b70,0xc76c51a3,0xd192e819,0xd6990624,0xf40e3585,0x106aa070,
 0x19a4c116,0x1e376c08,0x2748774c,0x34b0bcb5,0x391c0cb3,0x4ed8aa4a,0x5b9cca4f,0x682e6ff3,
 0x748f82ee,0x78a5636f,0x84c87814,0x8cc70208,0x90befffa,0xa4506ceb,0xbef9a3f7,0xc67178f2]
structure KAt (w:World):Prop where
 size:0<w.heap.size
 cell:∀j,j<64→w.cell? ⟨0,j,none⟩=some (.int .u32 (wN (kTab.getD j 0)))
def CY (ws:List UInt32) (t:Nat):List UInt32:=
 if t<16 then ws else ws.set (t%16) (ws.getD (t%16) 0+(ss0 (ws.getD ((t-15)%16) 0)+ss1 (ws.getD ((t-2)%16) 0)+ws.getD ((t-7)%16) 0))
def B5 (h:W8) (m:List UInt32):Nat→W8×List UInt32
 |0=>(h,m)
 |t+1=>((B5 h m t).1.round (kTab.getD t 0) ((CY (B5 h m t).2 t).getD (t%16) 0),CY (B5 h m t).2 t)
theorem Jr (ws:List UInt32) (t:Nat):(CY ws t).length=ws.length:=by unfold CY;split <;>simp
theorem Fi (h:W8) (m:List UInt32):∀t,(B5 h m t).2.length=m.length
 |0=>rfl
 |t+1=>by rw[B5,Jr];exact Fi h m t
def Ba (h:W8) (m:List UInt32):W8:=h.plus (B5 h m 64).1
theorem CS (ws:List UInt32) (i:Nat) (h:i<ws.length):(wvs ws).toArray[i]?=some (.int .u32 (wN (ws.getD i 0))):=by simp[wvs,h,wv,List.getD]
theorem Ph {A B C D:Obj} :((((w.alloc A).alloc B).alloc C).alloc D).heap[w.heap.size]?=some A∧((((w.alloc A).alloc B).alloc C).alloc D).heap[w.heap.size+1]?=some B∧
 ((((w.alloc A).alloc B).alloc C).alloc D).heap[w.heap.size+2]?=some C∧((((w.alloc A).alloc B).alloc C).alloc D).heap[w.heap.size+3]?=some D:=by
 have h1:=heap_alloc_new w A;have h2:=heap_alloc_new (w.alloc A) B;have h3:=heap_alloc_new ((w.alloc A).alloc B) C;have h4:=heap_alloc_new (((w.alloc A).alloc B).alloc C) D;simp only[Sz]at h2 h3 h4;refine⟨?_,?_,?_,h4⟩
 ·rw[Below.heap_alloc _ _ _ (by simp;omega),Below.heap_alloc _ _ _ (by simp;omega),Below.heap_alloc _ _ _ (by simp)];exact h1
 ·rw[Below.heap_alloc _ _ _ (by simp),Below.heap_alloc _ _ _ (by simp)];exact h2
 ·rw[Below.heap_alloc _ _ _ (by simp)];exact h3
theorem Fr (v:W8):v.cells.toArray.all (·.oneCell')=true:=by simp[W8.cells,wv,Value.oneCell']
theorem Js {v:W8} (h:w.heap[b]?=some (.cells v.cells.toArray T (0,0))):
 w.cell? ⟨b,0,none⟩=some (.int .u32 (wN v.a))∧w.cell? ⟨b,1,none⟩=some (.int .u32 (wN v.b))∧w.cell? ⟨b,2,none⟩=some (.int .u32 (wN v.c))∧w.cell? ⟨b,3,none⟩=some (.int .u32 (wN v.d))∧
  w.cell? ⟨b,4,none⟩=some (.int .u32 (wN v.e))∧w.cell? ⟨b,5,none⟩=some (.int .u32 (wN v.f))∧w.cell? ⟨b,6,none⟩=some (.int .u32 (wN v.g))∧w.cell? ⟨b,7,none⟩=some (.int .u32 (wN v.i)):=by
 simp[World.cell?,h,W8.cells,wv]
theorem EN (h:W8) (m:List UInt32) (hm:m.length=16) (w:World) (hK:KAt w):
 Ca 119 #[h.val,.agg (wvs m).toArray] w fun e w'=>e=.returned (Ba h m).val∧Below w.heap.size w w':=by
 have h4:=Ph (w:=w) (A:=.cells h.cells.toArray 200) (B:=.cells (wvs m).toArray 206) (C:=.cells #[.int .u32 0,.int .u32 0,.int .u32 0,.int .u32 0,.int .u32 0,.int .u32 0,.int .u32 0,.int .u32 0] 200) (D:=.cells h.cells.toArray 200);have hb4:Below w.heap.size w ((((w.alloc (.cells h.cells.toArray 200)).alloc (.cells (wvs m).toArray 206)).alloc (.cells #[.int .u32 0,.int .u32 0,.int .u32 0,.int .u32 0,.int .u32 0,.int .u32 0,.int .u32 0,.int .u32 0] 200)).alloc (.cells h.cells.toArray 200)):=((((Below.refl _ w).alloc Lr _).alloc (by simp) _).alloc (by simp;omega) _).alloc (by simp;omega) _;have H4:=Hd h4;have HB4:=Hd hb4;clear h4 hb4;unfold W8.val W8.cells wv;go_enter Tryz.func119,Tryz.ntmps119;go_wp2;obtain⟨w1,hw1⟩:∃w1,_=w1:=⟨(((w.alloc (.cells h.cells.toArray 200)).alloc (.cells (wvs m).toArray 206)).alloc (.cells #[.int .u32 0,.int .u32 0,.int .u32 0,.int .u32 0,.int .u32 0,.int .u32 0,.int .u32 0,.int .u32 0] 200)).alloc (.cells h.cells.toArray 200),rfl⟩;rw[hw1]at H4 HB4;unfold W8.cells wv at hw1;rw[hw1];clear hw1;go_loopw [12] (fun i wr=>∃k:Nat,k≤64∧i=.int .i64 k∧wr.heap[w.heap.size+1]?=some (.cells (wvs (B5 h m k).2).toArray 206 (0,0))∧
  wr.heap[w.heap.size+3]?=some (.cells (B5 h m k).1.cells.toArray 200 (0,0))∧Below w.heap.size w wr∧wr.heap[w.heap.size]?=w1.heap[w.heap.size]?∧wr.heap[w.heap.size+2]?=w1.heap[w.heap.size+2]?)
  (fun i _=>64-(intOf i).toNat)
 case atStart=>exact⟨0,Nat.zero_le _,rfl,H4.out.2.1,H4.out.2.2.2,HB4.out,rfl,rfl⟩
 case round=>
  obtain⟨k,hk,rfl,hW,hV,hB,h0,h2⟩:=hrel;obtain⟨v,hv⟩:=Xq ((B5 h m k).1);obtain⟨ws,hws⟩:=Xq ((B5 h m k).2);have hwl:ws.length=16:=by rw[←hws,Fi,hm]
  rw[hws]at hW;rw[hv]at hV;by_cases hlt:k<64
  ·obtain⟨kk,hkk⟩:=Xq (kTab.getD k 0);have hkc:=hK.cell k hlt;rw[hkk]at hkc;have hk1:=(hB.cell (p:=⟨0,k,none⟩) hK.size).trans hkc;by_cases h16:16≤k
   ·obtain⟨i0,hi0⟩:∃i0,i0=k%16:=⟨_,rfl⟩;obtain⟨ia,hia⟩:∃i,i=(k-15)%16:=⟨_,rfl⟩;obtain⟨ib,hib⟩:∃i,i=(k-2)%16:=⟨_,rfl⟩;obtain⟨ic,hic⟩:∃i,i=(k-7)%16:=⟨_,rfl⟩;have hi16:i0<16:=by omega
    obtain⟨xo,hxo⟩:∃x,ws.getD i0 0=x:=⟨_,rfl⟩;obtain⟨xa,hxa⟩:∃x,ws.getD ia 0=x:=⟨_,rfl⟩;obtain⟨xb,hxb⟩:∃x,ws.getD ib 0=x:=⟨_,rfl⟩;obtain⟨xc,hxc⟩:∃x,ws.getD ic 0=x:=⟨_,rfl⟩;have co:wr.cell? ⟨w.heap.size+1,i0,none⟩=some (.int .u32 (wN xo)):=by rw[cell_of_row wr _ _ _ _ _ hW,CS ws i0 (by omega),hxo]
    have ca:wr.cell? ⟨w.heap.size+1,ia,none⟩=some (.int .u32 (wN xa)):=by rw[cell_of_row wr _ _ _ _ _ hW,CS ws ia (by omega),hxa]
    have cb:wr.cell? ⟨w.heap.size+1,ib,none⟩=some (.int .u32 (wN xb)):=by rw[cell_of_row wr _ _ _ _ _ hW,CS ws ib (by omega),hxb]
    have cc:wr.cell? ⟨w.heap.size+1,ic,none⟩=some (.int .u32 (wN xc)):=by rw[cell_of_row wr _ _ _ _ _ hW,CS ws ic (by omega),hxc]
    have fo:=frozen_of_row wr _ i0 _ _ hW;have ea1:=Iw ((k:Int)-15);have eb1:=Iw ((k:Int)-2);have ec1:=Iw ((k:Int)-7);have ea2:((k:Int)-15).tmod 16=(ia:Int):=by rw[Int.tmod_eq_emod_of_nonneg (by omega)];omega
    have eb2:((k:Int)-2).tmod 16=(ib:Int):=by rw[Int.tmod_eq_emod_of_nonneg (by omega)];omega
    have ec2:((k:Int)-7).tmod 16=(ic:Int):=by rw[Int.tmod_eq_emod_of_nonneg (by omega)];omega
    have eo2:((k:Int)).tmod 16=(i0:Int):=by rw[Int.tmod_eq_emod_of_nonneg (by omega)];omega
    have hi3:(i0:Int)<16:=by omega
    have ha3:(ia:Int)<16:=by omega
    have hb3:(ib:Int)<16:=by omega
    have hc3:(ic:Int)<16:=by omega
    have hadd:=Iu;have hx:=Ls;have hsa:∀a:UInt32,Op.shift .shr .u32 (wN a) .u64 3=(pure (.int .u32 (wN (a>>>3))):Sem Value):=fun a=>Iv a .u64 3 (by decide)
    have hsb:∀a:UInt32,Op.shift .shr .u32 (wN a) .u64 10=(pure (.int .u32 (wN (a>>>10))):Sem Value):=fun a=>Iv a .u64 10 (by decide)
    have h16':(16:Int)≤(k:Int):=by omega
    obtain⟨HI0,HIA,HIB,HIC,HXO,HXA,HXB,HXC,HVE,HWE,HWL,HKE,HW,HV⟩:=Hd14 hi0 hia hib hic hxo hxa hxb hxc hv hws hwl hkk hW hV;obtain⟨HB,H0,H2,HK1⟩:=Hd4 hB h0 h2 hk1;clear hi0 hia hib hic hxo hxa hxb hxc hv hws hwl hkk hkc hW hV hB h0 h2 hk1 h16;go_wp2_with fail;go_quiet (fail);go_wp2_with (first| (go_at_call 122;(with_reducible refine(N7 _ _ (by decide) (by decide) _).mono ?_);rintro e w' ⟨rfl,rfl⟩))
    obtain⟨Wq,hWq⟩:=Xq (wr.drewN nq);have hq:∀j:Nat,Wq.heap[j]?=wr.heap[j]?:=fun j=>by rw[←hWq];rfl
    have co1:Wq.drew.cell? ⟨w.heap.size+1,i0,none⟩=some (.int .u32 (wN xo)):=(World.cell?_of_block (hq _)).trans co;have cc1:Wq.drew.cell? ⟨w.heap.size+1,ic,none⟩=some (.int .u32 (wN xc)):=(World.cell?_of_block (hq _)).trans cc;have hWQ:Wq.heap[w.heap.size+1]?=_:=(hq _).trans HW.out;have fo1:Wq.drew.frozen? ⟨w.heap.size+1,i0,none⟩=false:=frozen_of_row Wq.drew _ i0 _ _ hWQ;have hVQ:Wq.heap[w.heap.size+3]?=_:=(hq _).trans HV.out;have h0Q:Wq.heap[w.heap.size]?=_:=(hq _).trans H0.out;have h2Q:Wq.heap[w.heap.size+2]?=_:=(hq _).trans H2.out;have hBQ:Below w.heap.size w Wq:=by rw[←hWq];exact Cn HB.out _
    rw[hWq];obtain⟨HWQ,HVQ,H0Q,H2Q,HBQ⟩:=Hd5 hWQ hVQ h0Q h2Q hBQ;clear hWq hq hWQ hVQ h0Q h2Q hBQ co ca cb cc fo;go_region;obtain⟨W1,hW1e⟩:=Xq ((Wq.setCell ⟨w.heap.size+1,i0,none⟩ (.int .u32 (wN (xo+((BS xa 7^^^BS xa 18^^^xa>>>3)+(BS xb 17^^^BS xb 19^^^xb>>>10)+xc))))).drew);obtain⟨x0,hx0e⟩:=Xq (xo+((BS xa 7^^^BS xa 18^^^xa>>>3)+(BS xb 17^^^BS xb 19^^^xb>>>10)+xc));have hws:=HWE.out;have hwl:=HWL.out;have hv:=HVE.out;have hkk:=HKE.out;have hws2:CY ws k=ws.set i0 x0:=by unfold CY;rw[In (by omega),←HI0.out,←HIA.out,←HIB.out,←HIC.out,HXO.out,HXA.out,HXB.out,HXC.out,←hx0e];rfl
    rw[hx0e]at hW1e;have hW:W1.heap[w.heap.size+1]?=some (.cells (wvs (ws.set i0 x0)).toArray 206 (0,0)):=by rw[←hW1e];have:=Sc Wq (w.heap.size+1) i0 _ _ (.int .u32 (wN x0)) HWQ.out;refine this.trans ?_;simp[wvs,wv]
    have hot:∀j:Nat,j≠w.heap.size+1→W1.heap[j]?=Wq.heap[j]?:=fun j hj=>by rw[←hW1e];exact heap_setCell_other Wq ⟨w.heap.size+1,i0,none⟩ j _ hj
    have hV:W1.heap[w.heap.size+3]?=_:=(hot _ (by omega)).trans HVQ.out;have h0:W1.heap[w.heap.size]?=_:=(hot _ (by omega)).trans H0Q.out;have h2:W1.heap[w.heap.size+2]?=_:=(hot _ (by omega)).trans H2Q.out;have hB:Below w.heap.size w W1:=by rw[←hW1e];exact(HBQ.out.setCell (Nat.le_succ _) _).drew
    have hk1:=(hB.cell (p:=⟨0,k,none⟩) hK.size).trans (hkk▸hK.cell k hlt);have hx0:W1.cell? ⟨w.heap.size+1,i0,none⟩=some (.int .u32 (wN x0)):=by rw[cell_of_row W1 _ _ _ _ _ hW,CS _ i0 (by simp;omega)];simp[show i0<ws.length by omega]
    have hst:B5 h m (k+1)=(v.round kk x0,ws.set i0 x0):=by rw[B5,hv,hws,hws2,hkk,←HI0.out];simp[show i0<ws.length by omega]
    rw[hx0e,hW1e];have hm1:=eo2;have hm2:((k:Int))%16=(i0:Int):=by have:=HI0.out;omega
    have hlt3:(0<W1.heap.size∧w.heap.size+1<W1.heap.size)∧w.heap.size+3<W1.heap.size:=⟨⟨Nl hK.size hB.size,(Ax hW).1⟩,(Ax hV).1⟩;obtain⟨HLT,HKK,HX0,HV1,HW1,HB1,HST,H01,H21⟩:=Hd9 hlt3 hk1 hx0 hV hW hB hst h0 h2;clear hlt3 hk1 hx0 hV hW hst h0 h2 hB hv hws hwl hkk hot hws2 hW1e hx0e co1 cc1 fo1 HWQ HVQ H0Q H2Q HBQ ea1 eb1 ec1 ea2 eb2 ec2 hadd hx hsa hsb eo2;go_wp2_with fail;refine Np ?_;refine BB [8,9] (fun w'=>Below W1.heap.size W1 w') (by kernel_rfl) ?_;have hS0:(fun w'=>Below W1.heap.size W1 w') W1.drew:=Rq.drew;refine tkZ 0 hS0 ?_ (hy:=fun w' hw'=>by(obtain⟨e0,e1,e2,e3,e4,e5,e6,e7⟩:=Js ((hw'.block _ HLT.out.2).trans HV1.out);clear hw';first| (go_simp;rfl)| (go_simp;done)));refine tkP 1 hS0 ?_;refine tkP 2 hS0 ?_;refine tkZ 3 hS0 ?_ (hy:=fun w' hw'=>by(have hk:=(hw'.cell (p:=⟨0,k,none⟩) HLT.out.1.1).trans HKK.out;clear hw';first| (go_simp;rfl)| (go_simp;done)));refine tkP 4 hS0 ?_;refine tkP 5 hS0 ?_;refine tkP 6 hS0 ?_;refine tkZ 7 hS0 ?_ (hy:=fun w' hw'=>by(have hk:=(hw'.cell (p:=⟨w.heap.size+1,i0,none⟩) HLT.out.1.2).trans HX0.out;clear hw';first| (go_simp;rfl)| (go_simp;done)));refine dG 8 fun K hK=>?_
    go_simp;have hrd:Ca 123 #[Value.agg #[.int .u32 (wN v.a),.int .u32 (wN v.b),.int .u32 (wN v.c),.int .u32 (wN v.d),.int .u32 (wN v.e),.int .u32 (wN v.f),.int .u32 (wN v.g),.int .u32 (wN v.i)],.int .u32 (wN kk),.int .u32 (wN x0)] W1.drew _:=Ky v kk x0 W1.drew;refine hrd.mono ?_;rintro e w2 ⟨rfl,hb2⟩;have k2:Below W1.heap.size W1 w2:=(Below.refl _ W1).drew.trans hb2;have hv2:=(k2.block _ HLT.out.2).trans HV1.out;refine Kq hK k2 ?_;refine dGf 9 fun K hK=>?_
    refine wp_store_row 200 _ _ rfl (w.heap.size+3) (v.round kk x0).cells.toArray rfl rfl 200 v.cells.toArray hv2 FY rfl (Fr _) ?_;refine Kr hK ?_;refine eG ?_;have hv3:=setRow_heap w2 (w.heap.size+3) _ (v.round kk x0).cells.toArray _ _ hv2;have ho3:=fun j=>setRow_other w2 (w.heap.size+3) j (v.round kk x0).cells.toArray
    have hb3:Below w.heap.size w (w2.setRow (w.heap.size+3) (v.round kk x0).cells.toArray):=below_setRow (Tq HB1.out k2) (by omega) _;obtain⟨w3,hw3⟩:=Xq (w2.setRow (w.heap.size+3) (v.round kk x0).cells.toArray);rw[hw3]at hv3 hb3⊢;have hn3:∀j,j<W1.heap.size→j≠w.heap.size+3→w3.heap[j]?=W1.heap[j]?:=fun j hj hne=>by rw[←hw3];exact(ho3 j hne).trans (k2.block j hj)
    obtain⟨HN3,HV3,HB3⟩:=Hd3 hn3 hv3 hb3;clear hn3 hv3 hb3 ho3 hw3 hv2 hb2 k2 hS0;go_wp2_with fail;go_roundw
    case rel=>
     have hl:=HLT.out;have hl0:w.heap.size<W1.heap.size:=by omega
     refine⟨k+1,by omega,by go_num,?_,?_,HB3.out,(HN3.out _ hl0 (by omega)).trans H01.out,(HN3.out _ (by omega) (by omega)).trans H21.out⟩
     ·rw[HST.out];exact(HN3.out _ hl.1.2 (by omega)).trans HW1.out
     ·rw[HST.out];exact HV3.out
    case measure=>simp[intOf];omega
   ·obtain⟨W1,rfl⟩:∃W1,W1=wr:=⟨_,rfl⟩;obtain⟨i0,hi0⟩:∃i0,i0=k%16:=⟨_,rfl⟩;have hi16:i0<16:=by omega
    obtain⟨x0,hx0e⟩:=Xq (ws.getD i0 0);have hx0:W1.cell? ⟨w.heap.size+1,i0,none⟩=some (.int .u32 (wN x0)):=by rw[cell_of_row W1 _ _ _ _ _ hW,CS ws i0 (by omega),hx0e]
    have hst:B5 h m (k+1)=(v.round kk x0,ws):=by
     have e1:CY ws k=ws:=by unfold CY;rw[Ip (by omega)]
     rw[B5,hv,hws,e1,hkk,←hi0,hx0e]
    have hlt3:(0<W1.heap.size∧w.heap.size+1<W1.heap.size)∧w.heap.size+3<W1.heap.size:=⟨⟨Nl hK.size hB.size,(Ax hW).1⟩,(Ax hV).1⟩;obtain⟨HLT,HKK,HX0,HV1,HW1,HB1,HST,H01,H21⟩:=Hd9 hlt3 hk1 hx0 hV hW hB hst h0 h2;have hm1:((k:Int)).tmod 16=(i0:Int):=by rw[Int.tmod_eq_emod_of_nonneg (by omega)];omega
    have hm2:((k:Int))%16=(i0:Int):=by omega
    have hi3:(i0:Int)<16:=by omega
    clear hlt3 hk1 hx0 hV hW hst h0 h2 hB hv hws hwl hkk hkc hi0 hx0e;go_wp2_with fail;refine Np ?_;refine BB [8,9] (fun w'=>Below W1.heap.size W1 w') (by kernel_rfl) ?_;have hS0:(fun w'=>Below W1.heap.size W1 w') W1.drew:=Rq.drew;refine tkZ 0 hS0 ?_ (hy:=fun w' hw'=>by(obtain⟨e0,e1,e2,e3,e4,e5,e6,e7⟩:=Js ((hw'.block _ HLT.out.2).trans HV1.out);clear hw';first| (go_simp;rfl)| (go_simp;done)));refine tkP 1 hS0 ?_;refine tkP 2 hS0 ?_;refine tkZ 3 hS0 ?_ (hy:=fun w' hw'=>by(have hk:=(hw'.cell (p:=⟨0,k,none⟩) HLT.out.1.1).trans HKK.out;clear hw';first| (go_simp;rfl)| (go_simp;done)));refine tkP 4 hS0 ?_;refine tkP 5 hS0 ?_;refine tkP 6 hS0 ?_;refine tkZ 7 hS0 ?_ (hy:=fun w' hw'=>by(have hk:=(hw'.cell (p:=⟨w.heap.size+1,i0,none⟩) HLT.out.1.2).trans HX0.out;clear hw';first| (go_simp;rfl)| (go_simp;done)));refine dG 8 fun K hK=>?_
    go_simp;have hrd:Ca 123 #[Value.agg #[.int .u32 (wN v.a),.int .u32 (wN v.b),.int .u32 (wN v.c),.int .u32 (wN v.d),.int .u32 (wN v.e),.int .u32 (wN v.f),.int .u32 (wN v.g),.int .u32 (wN v.i)],.int .u32 (wN kk),.int .u32 (wN x0)] W1.drew _:=Ky v kk x0 W1.drew;refine hrd.mono ?_;rintro e w2 ⟨rfl,hb2⟩;have k2:Below W1.heap.size W1 w2:=(Below.refl _ W1).drew.trans hb2;have hv2:=(k2.block _ HLT.out.2).trans HV1.out;refine Kq hK k2 ?_;refine dGf 9 fun K hK=>?_
    refine wp_store_row 200 _ _ rfl (w.heap.size+3) (v.round kk x0).cells.toArray rfl rfl 200 v.cells.toArray hv2 FY rfl (Fr _) ?_;refine Kr hK ?_;refine eG ?_;have hv3:=setRow_heap w2 (w.heap.size+3) _ (v.round kk x0).cells.toArray _ _ hv2;have ho3:=fun j=>setRow_other w2 (w.heap.size+3) j (v.round kk x0).cells.toArray
    have hb3:Below w.heap.size w (w2.setRow (w.heap.size+3) (v.round kk x0).cells.toArray):=below_setRow (Tq HB1.out k2) (by omega) _;obtain⟨w3,hw3⟩:=Xq (w2.setRow (w.heap.size+3) (v.round kk x0).cells.toArray);rw[hw3]at hv3 hb3⊢;have hn3:∀j,j<W1.heap.size→j≠w.heap.size+3→w3.heap[j]?=W1.heap[j]?:=fun j hj hne=>by rw[←hw3];exact(ho3 j hne).trans (k2.block j hj)
    obtain⟨HN3,HV3,HB3⟩:=Hd3 hn3 hv3 hb3;clear hn3 hv3 hb3 ho3 hw3 hv2 hb2 k2 hS0;go_wp2_with fail;go_roundw
    case rel=>
     have hl:=HLT.out;have hl0:w.heap.size<W1.heap.size:=by omega
     refine⟨k+1,by omega,by go_num,?_,?_,HB3.out,(HN3.out _ hl0 (by omega)).trans H01.out,(HN3.out _ (by omega) (by omega)).trans H21.out⟩
     ·rw[HST.out];exact(HN3.out _ hl.1.2 (by omega)).trans HW1.out
     ·rw[HST.out];exact HV3.out
    case measure=>simp[intOf];omega
  ·obtain rfl :k=64:=by omega
   have n0:=h0.trans H4.out.1;have n2:=h2.trans H4.out.2.2.1;obtain⟨a0,a1,a2,a3,a4,a5,a6,a7⟩:=Js n0;obtain⟨b0,b1,b2,b3,b4,b5,b6,b7⟩:=Js hV;have hl2:=(Ax n2).1;have hpl:Ca 124 #[Value.agg #[.int .u32 (wN h.a),.int .u32 (wN h.b),.int .u32 (wN h.c),.int .u32 (wN h.d),.int .u32 (wN h.e),.int .u32 (wN h.f),.int .u32 (wN h.g),.int .u32 (wN h.i)],Value.agg #[.int .u32 (wN v.a),.int .u32 (wN v.b),.int .u32 (wN v.c),.int .u32 (wN v.d),.int .u32 (wN v.e),.int .u32 (wN v.f),.int .u32 (wN v.g),.int .u32 (wN v.i)]] wr (fun e w'=>e=.returned (.agg (h.plus v).cells.toArray)∧Below wr.heap.size wr w'):=Qn h v wr;obtain⟨HPL,HN2,HB,HVE⟩:=Hd4 hpl n2 hB hv;clear hpl n0 n2 hB hv hws hW hV h0 h2 hwl;go_wp2_with fail;refine HPL.out.mono ?_;rintro e w2 ⟨rfl,hb2⟩;have m2:w2.heap[w.heap.size+1+1]?=_:=(hb2.block _ hl2).trans HN2.out;have hb:=Tq HB.out hb2;have hsz:(Tryz.prog.info? 200).map (·.size)=some (h.plus v).cells.toArray.size:=FY;have hzs:(#[.int .u32 0,.int .u32 0,.int .u32 0,.int .u32 0,.int .u32 0,.int .u32 0,.int .u32 0,.int .u32 0]:Array Value).size=(h.plus v).cells.toArray.size:=rfl;obtain⟨HSZ,HZS,HM2⟩:=Hd3 hsz hzs m2;clear hsz hzs;have HB2:=Hd hb;clear m2 hb hb2 a0 a1 a2 a3 a4 a5 a6 a7 b0 b1 b2 b3 b4 b5 b6 b7;go_wp2_with (with_reducible refine wpList_store_row rfl 200 _ _ rfl (w.heap.size+1+1) (h.plus v).cells.toArray rfl rfl 200 _ HM2.out HSZ.out HZS.out (Fr _) ?_)
   refine Br (v:=.agg (h.plus v).cells.toArray) ?r1 rfl ?r2
   case r1=>exact results_cell_row (g:=w.heap.size+1+1) rfl _ _ _ _ _ _ rfl (setRow_heap _ _ _ _ _ _ HM2.out) Tryz.underlying200 rfl FY
   case r2=>refine⟨?_,below_setRow HB2.out (by omega) _⟩;rw[Ba,HVE.out];rfl
variable {P:Program}{n:Nat}{l:List UInt8}
theorem Hh {E:TypeId} (hT:P.underlying T=some (.array n E)) (hs:∀w,(sizeOf E).run P w=.ok 1 w) (ha:∀w,(isAgg E).run P w=.ok false w) {cs:Array Value} {v:Value} (k:Nat) (hk:k<n) (hv:cs[k]?=some v) (w:World):
 (Instr.index T (.agg cs) (.int .i64 k)).run P w=.ok v w:=by
 have hc:(0:Int)≤(k:Int)∧(k:Int)<(n:Int):=by omega
 simp[Instr.index,asIntOf,run_underlying hT,hs,hc,Sem.run_bind,part,ha,hv];omega
theorem FD (w:World):(sizeOf 5).run Tryz.prog w=.ok 1 w:=by kernel_rfl
theorem R3 (w:World):(isAgg 5).run Tryz.prog w=.ok false w:=by kernel_rfl
theorem Qo (w:World):(sizeOf 189).run Tryz.prog w=.ok 1 w:=by kernel_rfl
theorem Rx (w:World):(isAgg 189).run Tryz.prog w=.ok false w:=by kernel_rfl
theorem DY (l:List UInt32):(wvs l).toArray.all (·.oneCell')=true:=by simp[wvs,wv,Value.oneCell']
theorem Jt (hl:l.length=64) (k:Nat) (hk:k<64) (w:World):
 (Instr.index 201 (.agg (bvs l).toArray) (.int .i64 k)).run Tryz.prog w=.ok (.int .u8 ((l.getD k 0).toNat:Int)) w:=
 Hh Tryz.underlying201 FD R3 k hk (by simp[bvs,bv,hl,hk]) w
def CP (l:List UInt8):Nat→List UInt32
 |0=>List.replicate 16 0
 |k+1=>(CP l k).set (k/4) (((CP l k).getD (k/4) 0<<<8)|||(l.getD k 0).toUInt32)
theorem Cf (l:List UInt8):∀k,(CP l k).length=16
 |0=>by simp[CP]
 |k+1=>by simp[CP,Cf l k]
def AF (l:List UInt8):List UInt32:=CP l 64
theorem NA (b:UInt8):((b.toNat:Nat):Int)=wN b.toUInt32:=by unfold wN;simp
theorem R4 (a:UInt32) (yk:IntKind):Op.shift .shl .u32 (wN a) yk 8=(pure (.int .u32 (wN (a<<<8))):Sem Value):=by rw[shift_shl_any _ _ _ _ (by omega)];have:=Lt a 8 (by decide);rw[←IntKind.wrap_u32']at this;exact congrArg _ (congrArg _ this)
theorem GN (l:List UInt8) (hl:l.length=64) (w:World):
 Ca 120 #[.agg (bvs l).toArray] w fun e w'=>e=.returned (.agg (wvs (AF l)).toArray)∧Below w.heap.size w w':=by
 obtain⟨w1,hw1⟩:=Xq (((w.alloc (.cells (bvs l).toArray 201)).alloc (.cells #[.int .u32 0,.int .u32 0,.int .u32 0,.int .u32 0,.int .u32 0,.int .u32 0,.int .u32 0,.int .u32 0,.int .u32 0,.int .u32 0,.int .u32 0,.int .u32 0,.int .u32 0,.int .u32 0,.int .u32 0,.int .u32 0] 206)).alloc (.cells #[.int .u32 0,.int .u32 0,.int .u32 0,.int .u32 0,.int .u32 0,.int .u32 0,.int .u32 0,.int .u32 0,.int .u32 0,.int .u32 0,.int .u32 0,.int .u32 0,.int .u32 0,.int .u32 0,.int .u32 0,.int .u32 0] 206));have hb1:Below w.heap.size w w1:=hw1▸(((Below.refl _ w).alloc Lr _).alloc (by simp) _).alloc (by simp;omega) _;have hs1:w1.heap.size=w.heap.size+3:=by rw[←hw1];simp
 have h3:=It w (.cells (bvs l).toArray 201) (.cells #[.int .u32 0,.int .u32 0,.int .u32 0,.int .u32 0,.int .u32 0,.int .u32 0,.int .u32 0,.int .u32 0,.int .u32 0,.int .u32 0,.int .u32 0,.int .u32 0,.int .u32 0,.int .u32 0,.int .u32 0,.int .u32 0] 206) (.cells #[.int .u32 0,.int .u32 0,.int .u32 0,.int .u32 0,.int .u32 0,.int .u32 0,.int .u32 0,.int .u32 0,.int .u32 0,.int .u32 0,.int .u32 0,.int .u32 0,.int .u32 0,.int .u32 0,.int .u32 0,.int .u32 0] 206);have hsz:(Tryz.prog.info? 201).map (·.size)=some (bvs l).toArray.size:=by
  have:(Tryz.prog.info? 201).map (·.size)=some 64:=by kernel_rfl
  rw[this,List.size_toArray,Ap,hl]
 obtain⟨H3,HB1,HSZ,HW1,HS1,HL⟩:=Hd6 h3 hb1 hsz hw1 hs1 hl;clear h3 hb1 hsz hw1 hs1 hl;go_enter Tryz.func120,Tryz.ntmps120;go_wp2_with (with_reducible refine wpList_load_row rfl 201 _ rfl w.heap.size rfl 201 (bvs l).toArray (0,0) _ H3.out.1 Tryz.underlying201 rfl HSZ.out ?_)
 rw[HW1.out]at H3⊢;go_loopw [7] (fun i wr=>∃k:Nat,k≤64∧i=.int .i64 k∧wr.heap[w.heap.size+1+1]?=some (.cells (wvs (CP l k)).toArray 206 (0,0))∧
  wr.heap[w.heap.size+1]?=some (.cells #[.int .u32 0,.int .u32 0,.int .u32 0,.int .u32 0,.int .u32 0,.int .u32 0,.int .u32 0,.int .u32 0,.int .u32 0,.int .u32 0,.int .u32 0,.int .u32 0,.int .u32 0,.int .u32 0,.int .u32 0,.int .u32 0] 206 (0,0))∧Below w.heap.size w wr)
  (fun i _=>64-(intOf i).toNat)
 case atStart=>exact⟨0,Nat.zero_le _,rfl,H3.out.2.2,H3.out.2.1,HB1.out⟩
 case round=>
  obtain⟨k,hk,rfl,hW,hR,hB⟩:=hrel;by_cases hlt:k<64
  ·have hix:=fun w=>Jt HL.out k hlt w
   have hwl:=Cf l k;obtain⟨x,hx⟩:=Xq ((CP l k).getD (k/4) 0);obtain⟨c,hc⟩:∃c:Int,((l.getD k 0).toNat:Int)=c:=⟨_,rfl⟩;have hc0:0≤c:=by omega
   have hc1:c<256:=by have:=(l.getD k 0).toNat_lt;omega
   rw[hc]at hix;have hor:∀a,bits .or .u32 (wN a) c=wN (a|||(l.getD k 0).toUInt32):=fun a=>by rw[←hc,NA,N3]
   have hsh:=fun a=>R4 a .u64
   have hcell:wr.cell? ⟨w.heap.size+1+1,k/4,none⟩=some (.int .u32 (wN x)):=by rw[cell_of_row wr _ _ _ _ _ hW,CS _ _ (by omega),hx]
   have hfr:=frozen_of_row wr _ (k/4) _ _ hW;obtain⟨y,hy⟩:=Xq (x<<<8|||(l.getD k 0).toUInt32);have hor2:bits .or .u32 (wN (x<<<8)) c=wN y:=by rw[hor,hy]
   have hst:CP l (k+1)=(CP l k).set (k/4) y:=by rw[CP,hx,hy]
   have hW2:∀w2,w2=wr.setCell ⟨w.heap.size+1+1,k/4,none⟩ (.int .u32 (wN y))→w2.heap[w.heap.size+1+1]?=some (.cells (wvs (CP l (k+1))).toArray 206 (0,0)):=by rintro _ rfl;refine(Sc wr _ _ _ _ _ hW).trans ?_;rw[hst];simp[wvs,wv]
   have hR2:(wr.setCell ⟨w.heap.size+1+1,k/4,none⟩ (.int .u32 (wN y))).heap[w.heap.size+1]?=_:=(heap_setCell_other wr _ _ _ (by show w.heap.size+1≠w.heap.size+1+1;omega)).trans hR;obtain⟨HW2,HR2,HB⟩:=Hd3 hW2 hR2 hB;clear hor hwl hx hc hy hst hW2 hR2 hB hW hR;go_wp2_with fail;go_roundw
   case rel=>exact⟨k+1,by omega,by go_num,HW2.out _ rfl,HR2.out,HB.out.setCell (by show w.heap.size≤w.heap.size+1+1;omega) _⟩
   case measure=>simp[intOf];omega
  ·obtain rfl :k=64:=by omega
   have hsz:(Tryz.prog.info? 206).map (·.size)=some (wvs (AF l)).toArray.size:=by
    have:(Tryz.prog.info? 206).map (·.size)=some 16:=by kernel_rfl
    rw[this,List.size_toArray,Ep];unfold AF;rw[Cf]
   have hzs:(#[.int .u32 0,.int .u32 0,.int .u32 0,.int .u32 0,.int .u32 0,.int .u32 0,.int .u32 0,.int .u32 0,.int .u32 0,.int .u32 0,.int .u32 0,.int .u32 0,.int .u32 0,.int .u32 0,.int .u32 0,.int .u32 0]:Array Value).size=(wvs (AF l)).toArray.size:=by show 16=_;rw[List.size_toArray,Ep];unfold AF;rw[Cf]
   have hWl:wr.heap[w.heap.size+1+1]?=some (.cells (wvs (AF l)).toArray 206 (0,0)):=hW;obtain⟨HSZ,HZS,HWl,HR,HB⟩:=Hd5 hsz hzs hWl hR hB;clear hsz hzs hWl hW hR hB;go_wp2_with (first| (with_reducible refine wpList_load_row rfl 206 _ rfl (w.heap.size+1+1) rfl 206 (wvs (AF l)).toArray (0,0) _ HWl.out Tryz.underlying206 rfl HSZ.out ?_)| (with_reducible refine wpList_store_row rfl 206 _ _ rfl (w.heap.size+1) (wvs (AF l)).toArray rfl rfl 206 _ HR.out HSZ.out HZS.out (DY _) ?_))
   refine Br (v:=.agg (wvs (AF l)).toArray) ?r1 rfl ?r2
   case r1=>exact results_cell_row (g:=w.heap.size+1) rfl _ _ _ _ _ _ rfl (setRow_heap _ _ _ _ _ _ HR.out) Tryz.underlying206 rfl HSZ.out
   case r2=>exact⟨rfl,below_setRow HB.out (by omega) _⟩
def w8init:W8:=⟨0x6a09e667,0xbb67ae85,0x3c6ef372,0xa54ff53a,0x510e527f,0x9b05688c,0x1f83d9ab,0x5be0cd19⟩
theorem MV (w:World):Ca 118 #[] w fun e w'=>e=.returned w8init.val∧Below w.heap.size w w':=by
 go_enter Tryz.func118,Tryz.ntmps118;go_wp2;refine Br (v:=.agg #[.int .u32 1779033703,.int .u32 3144134277,.int .u32 1013904242,.int .u32 2773480762,.int .u32 1359893119,.int .u32 2600822924,.int .u32 528734635,.int .u32 1541459225]) ?r1 rfl ?r2
 case r1=>simp[results,Tryz.results118,go_sem]
 case r2=>exact⟨rfl,(Below.refl _ w).alloc Lr _⟩
def W8.list (v:W8):List UInt32:=[v.a,v.b,v.c,v.d,v.e,v.f,v.g,v.i]
def dgB (v:W8) (j:Nat):UInt8:=(v.list.getD (j/4) 0>>>(UInt32.ofNat (24-8*(j%4)))).toUInt8
def BE (v:W8):List UInt8:=(List.range 32).map (dgB v)
@[simp] theorem C5 (v:W8):(BE v).length=32:=by simp[BE]
def ED (v:W8) (n:Nat):List UInt8:=(List.range 32).map (fun j=>if j<n then dgB v j else 0)
theorem LN (v:W8) (n:Nat) (h:n<32):(ED v n).set n (dgB v n)=ED v (n+1):=by
 apply List.ext_getElem?;intro i;simp only[ED,List.getElem?_set,List.length_map,List.length_range,List.getElem?_map];by_cases hi:n=i
 ·subst hi;simp[h]
 ·by_cases h2:i<32
  ·simp[hi,h2];have e:(i<n+1)↔(i<n):=by omega
   simp[e]
  ·simp[hi,h2]
theorem LO (v:W8):ED v 32=BE v:=by
 unfold ED BE;refine List.map_congr_left fun j hj=>?_
 rw[Ip (List.mem_range.1 hj)]
theorem LP (v:W8) (k:Nat) (hk:k<8) (w:World):
 (Instr.index 190 (.agg #[.int .u32 (wN v.a),.int .u32 (wN v.b),.int .u32 (wN v.c),.int .u32 (wN v.d),.int .u32 (wN v.e),.int .u32 (wN v.f),.int .u32 (wN v.g),.int .u32 (wN v.i)]) (.int .i64 k)).run Tryz.prog w=.ok (.int .u32 (wN (v.list.getD k 0))) w:=
 Hh Tryz.underlying190 Qo Rx k hk (by rcases k with _|_|_|_|_|_|_|_|k<;>first|rfl |omega) w
theorem Oa (v:W8) (w:World):Ca 121 #[v.val] w fun e w'=>e=.returned (BF (BE v))∧Below w.heap.size w w':=by
 obtain⟨w1,hw1⟩:=Xq (((w.alloc (.cells #[.int .u32 (wN v.a),.int .u32 (wN v.b),.int .u32 (wN v.c),.int .u32 (wN v.d),.int .u32 (wN v.e),.int .u32 (wN v.f),.int .u32 (wN v.g),.int .u32 (wN v.i)] 200)).alloc (.cells Zy 179)).alloc (.cells Zy 179));have hb1:Below w.heap.size w w1:=hw1▸(((Below.refl _ w).alloc Lr _).alloc (by simp) _).alloc (by simp;omega) _;have h3:=It w (.cells #[.int .u32 (wN v.a),.int .u32 (wN v.b),.int .u32 (wN v.c),.int .u32 (wN v.d),.int .u32 (wN v.e),.int .u32 (wN v.f),.int .u32 (wN v.g),.int .u32 (wN v.i)] 200) (.cells Zy 179) (.cells Zy 179);rw[hw1]at h3;obtain⟨H3,HB1,HW1⟩:=Hd3 h3 hb1 hw1;clear h3 hb1 hw1;unfold W8.val W8.cells wv;go_enter Tryz.func121,Tryz.ntmps121;go_wp2;rw[HW1.out];clear HW1;go_loopw [24] (fun i wr=>∃k:Nat,k≤8∧i=.int .i64 k∧wr.heap[w.heap.size+1+1]?=some (.cells (bvs (ED v (4*k))).toArray 179 (0,0))∧
  wr.heap[w.heap.size+1]?=some (.cells Zy 179 (0,0))∧Below w.heap.size w wr)
  (fun i _=>8-(intOf i).toNat)
 case atStart=>exact⟨0,Nat.zero_le _,rfl,H3.out.2.2,H3.out.2.1,HB1.out⟩
 case round=>
  obtain⟨k,hk,rfl,hW,hR,hB⟩:=hrel;by_cases hlt:k<8
  ·obtain⟨wo,rfl⟩:∃wo:World,wo=wr:=⟨_,rfl⟩;have hix:=fun w=>LP v k hlt w
   obtain⟨x,hx⟩:=Xq (v.list.getD k 0);rw[hx]at hix;obtain⟨HX,HW,HR,HB⟩:=Hd4 hx hW hR hB;clear hx hW hR hB;go_wp2_with fail;clear hix;go_loopw [28] (fun i wr=>∃j:Nat,j≤4∧i=.int .i64 j∧wr.heap[w.heap.size+1+1]?=some (.cells (bvs (ED v (4*k+j))).toArray 179 (0,0))∧
    wr.heap[w.heap.size+1]?=some (.cells Zy 179 (0,0))∧Below w.heap.size w wr)
    (fun i _=>4-(intOf i).toNat)
   case atStart=>exact⟨0,Nat.zero_le _,rfl,HW.out,HR.out,HB.out⟩
   case round=>
    obtain⟨j,hj,rfl,hW,hR,hB⟩:=hrel;by_cases hj4:j<4
    ·obtain⟨y,hy⟩:=Xq (x>>>(UInt32.ofNat (24-8*j)));obtain⟨c,hc⟩:∃c:Int,((dgB v (4*k+j)).toNat:Int)=c:=⟨_,rfl⟩;have hby:wN x/2^(24-8*j)%256=c:=by rw[N4 x (24-8*j) (by omega),←hc];unfold dgB wN;rw[show(4*k+j)/4=k by omega,show(4*k+j)%4=j by omega,HX.out];simp
     have hcell:wr.cell? ⟨w.heap.size+1+1,4*k+j,none⟩=some (.int .u8 0):=by rw[cell_of_row wr _ _ _ _ _ hW];simp[bvs,bv,ED,show 4*k+j<32 by omega]
     have hfr:=frozen_of_row wr _ (4*k+j) _ _ hW;have hW2:(wr.setCell ⟨w.heap.size+1+1,4*k+j,none⟩ (.int .u8 c)).heap[w.heap.size+1+1]?=some (.cells (bvs (ED v (4*k+(j+1)))).toArray 179 (0,0)):=by refine(Sc wr _ _ _ _ _ hW).trans ?_;rw[show 4*k+(j+1)=4*k+j+1 by omega,←LN v _ (by omega),←hc];simp[bvs,bv]
     have hR2:(wr.setCell ⟨w.heap.size+1+1,4*k+j,none⟩ (.int .u8 c)).heap[w.heap.size+1]?=_:=(heap_setCell_other wr _ _ _ (by show w.heap.size+1≠w.heap.size+1+1;omega)).trans hR;obtain⟨HW2,HR2,HBr,HBY⟩:=Hd4 hW2 hR2 hB hby;clear hW2 hR2 hB hW hR hc hby;go_wp2_with fail;go_roundw
     case rel=>exact⟨j+1,by omega,by go_num,by rw[HBY.out];exact HW2.out,by rw[HBY.out];exact HR2.out,HBr.out.setCell (by show w.heap.size≤w.heap.size+1+1;omega) _⟩
     case measure=>simp[intOf];omega
    ·obtain rfl :j=4:=by omega
     obtain⟨HW2,HR2,HBr⟩:=Hd3 hW hR hB;clear hB hW hR;go_wp2_with fail;go_roundw
     case rel=>exact⟨k+1,by omega,by go_num,HW2.out,HR2.out,HBr.out⟩
     case measure=>simp[intOf];omega
  ·obtain rfl :k=8:=by omega
   have e32:=LO v;have hWl:wr.heap[w.heap.size+1+1]?=some (.cells (bvs (BE v)).toArray 179 (0,0)):=by rw[←e32];exact hW
   have hsz:(Tryz.prog.info? 179).map (·.size)=some (bvs (BE v)).toArray.size:=by
    have:(Tryz.prog.info? 179).map (·.size)=some 32:=by kernel_rfl
    rw[this,List.size_toArray,Ap,C5]
   have hzs:(Zy:Array Value).size=(bvs (BE v)).toArray.size:=by show 32=_;rw[List.size_toArray,Ap,C5]
   obtain⟨HSZ,HZS,HWl,HR,HB⟩:=Hd5 hsz hzs hWl hR hB;clear hsz hzs hWl hW hR hB e32;go_wp2_with (first| (with_reducible refine wpList_load_row rfl 179 _ rfl (w.heap.size+1+1) rfl 179 (bvs (BE v)).toArray (0,0) _ HWl.out Tryz.underlying179 rfl HSZ.out ?_)| (with_reducible refine wpList_store_row rfl 179 _ _ rfl (w.heap.size+1) (bvs (BE v)).toArray rfl rfl 179 _ HR.out HSZ.out HZS.out (Bb _) ?_))
   refine Br (v:=.agg (bvs (BE v)).toArray) ?r1 rfl ?r2
   case r1=>exact results_cell_row (g:=w.heap.size+1) rfl _ _ _ _ _ _ rfl (setRow_heap _ _ _ _ _ _ HR.out) Tryz.underlying179 rfl HSZ.out
   case r2=>exact⟨rfl,below_setRow HB.out (by omega) _⟩
def Gi (v:W8) (ms:List UInt8):Nat→W8
 |0=>v
 |k+1=>Ba (Gi v ms k) (AF ((ms.drop (64*k)).take 64))
theorem Gj (v:W8) (ms l:List UInt8):∀k,64*k≤ms.length→Gi v (ms++l) k=Gi v ms k
 |0,_=>rfl
 |k+1,h=>by
  rw[Gi,Gi,Gj v ms l k (by omega)]
  congr 2
  rw[List.drop_append_of_le_length (by omega),List.take_append_of_le_length (by simp;omega)]
structure HS (v:W8) (buf M:List UInt8):Prop where
 len:buf.length=64
 st:v=Gi w8init M (M.length/64)
 buf:buf.take (M.length%64)=M.drop (64*(M.length/64))
def Di (buf:List UInt8) (r:Nat) (c:List UInt8):List UInt8:=buf.take r++c++buf.drop (r+c.length)
theorem DZ {buf c:List UInt8}{r:Nat} (h:buf.length=64) (hr:r+c.length≤64):(Di buf r c).length=64:=by simp[Di];omega
theorem HS.part {v:W8}{buf M c:List UInt8} (h:HS v buf M) (hc:M.length%64+c.length<64):HS v (Di buf (M.length%64) c) (M++c):=by
 have e1:(M++c).length/64=M.length/64:=by rw[List.length_append];omega
 have e2:(M++c).length%64=M.length%64+c.length:=by rw[List.length_append];omega
 refine⟨DZ h.len (by omega),?_,?_⟩
 ·rw[e1,Gj _ _ _ _ (by omega)];exact h.st
 ·rw[e1,e2,List.drop_append_of_le_length (by omega),←h.buf,Di];have hl:(buf.take (M.length%64)++c).length=M.length%64+c.length:=by simp[h.len];omega
  rw[List.take_append_of_le_length (by omega),←hl,List.take_length]
theorem HS.full {v:W8}{buf M c:List UInt8} (h:HS v buf M) (hc:M.length%64+c.length=64):HS (Ba v (AF (Di buf (M.length%64) c))) (Di buf (M.length%64) c) (M++c):=by
 have e1:(M++c).length/64=M.length/64+1:=by rw[List.length_append];omega
 have e2:(M++c).length%64=0:=by rw[List.length_append];omega
 have hb:Di buf (M.length%64) c=(M++c).drop (64*(M.length/64)):=by rw[List.drop_append_of_le_length (by omega),←h.buf,Di,List.drop_of_length_le (by rw[h.len];omega),List.append_nil]
 refine⟨DZ h.len (by omega),?_,?_⟩
 ·rw[e1,Gi,Gj _ _ _ _ (by omega),←h.st]
  congr 2
  rw[hb,List.take_of_length_le];simp;omega
 ·rw[e1,e2,List.drop_of_length_le (by simp;omega)];rfl
def A7 (v:W8) (buf:List UInt8) (n:Nat):List Value:=v.cells++(bvs buf++[.int .i64 n])
theorem Dq {v:W8}{buf:List UInt8} (h:buf.length=64):(A7 v buf n).length=73:=by simp[A7,W8.cells,h]
structure HashAt (w:World) (b:Nat) (v:W8) (buf:List UInt8) (n:Nat):Prop where
 len:buf.length=64
 hb:w.heap[b]?=some (.cells (A7 v buf n).toArray 203 (0,0))
section
variable {w w':World} {b:Nat} {v v':W8} {buf:List UInt8} {n:Nat}
theorem HashAt.lt (h:HashAt w b v buf n):b<w.heap.size:=(Ax h.hb).1
theorem HashAt.kept (h:HashAt w b v buf n) (hk:w'.heap[b]?=w.heap[b]?):HashAt w' b v buf n:=⟨h.len,hk.trans h.hb⟩
theorem HashAt.frozen (h:HashAt w b v buf n) (i:Nat):w.frozen? ⟨b,i,none⟩=false:=frozen_of_row w b i _ _ h.hb
theorem HashAt.state (h:HashAt w b v buf n):
 w.cell? ⟨b,0,none⟩=some (.int .u32 (wN v.a))∧w.cell? ⟨b,1,none⟩=some (.int .u32 (wN v.b))∧w.cell? ⟨b,2,none⟩=some (.int .u32 (wN v.c))∧w.cell? ⟨b,3,none⟩=some (.int .u32 (wN v.d))∧
  w.cell? ⟨b,4,none⟩=some (.int .u32 (wN v.e))∧w.cell? ⟨b,5,none⟩=some (.int .u32 (wN v.f))∧w.cell? ⟨b,6,none⟩=some (.int .u32 (wN v.g))∧w.cell? ⟨b,7,none⟩=some (.int .u32 (wN v.i)):=by
 have h0:=fun i=>cell_of_row w b i _ _ _ h.hb
 refine⟨?_,?_,?_,?_,?_,?_,?_,?_⟩<;>rw[h0]<;>rfl
theorem HashAt.length (h:HashAt w b v buf n):w.cell? ⟨b,72,none⟩=some (.int .i64 n):=by rw[cell_of_row w b 72 _ _ _ h.hb,List.getElem?_toArray];unfold A7;rw[List.getElem?_append_right (by simp[W8.cells]),List.getElem?_append_right (by simp[W8.cells,h.len])];simp[W8.cells,h.len]
theorem HashAt.range (h:HashAt w b v buf n):w.rangeAt b 8 (bvs buf):=fun j u hu=>by
 rw[cell_of_row w b (8+j) _ _ _ h.hb,List.getElem?_toArray];unfold A7;rw[List.getElem?_append_right (by simp[W8.cells])];have e:8+j-v.cells.length=j:=by simp[W8.cells]
 rw[e,List.getElem?_append_left (List.getElem?_eq_some_iff.1 hu).1];exact hu
theorem HashAt.setState (h:HashAt w b v buf n) (v':W8):
 HashAt ((((((((w.setCell ⟨b,0,none⟩ (.int .u32 (wN v'.a))).setCell ⟨b,1,none⟩ (.int .u32 (wN v'.b))).setCell ⟨b,2,none⟩ (.int .u32 (wN v'.c))).setCell ⟨b,3,none⟩ (.int .u32 (wN v'.d))).setCell ⟨b,4,none⟩ (.int .u32 (wN v'.e))).setCell
  ⟨b,5,none⟩ (.int .u32 (wN v'.f))).setCell ⟨b,6,none⟩ (.int .u32 (wN v'.g))).setCell ⟨b,7,none⟩ (.int .u32 (wN v'.i))) b v' buf n:=by
 refine⟨h.len,?_⟩;have h0:=Sc _ b 0 _ _ (.int .u32 (wN v'.a)) h.hb;have h1:=Sc _ b 1 _ _ (.int .u32 (wN v'.b)) h0;have h2:=Sc _ b 2 _ _ (.int .u32 (wN v'.c)) h1;have h3:=Sc _ b 3 _ _ (.int .u32 (wN v'.d)) h2;have h4:=Sc _ b 4 _ _ (.int .u32 (wN v'.e)) h3;have h5:=Sc _ b 5 _ _ (.int .u32 (wN v'.f)) h4;have h6:=Sc _ b 6 _ _ (.int .u32 (wN v'.g)) h5;have h7:=Sc _ b 7 _ _ (.int .u32 (wN v'.i)) h6;refine h7.trans ?_;simp[A7,W8.cells,wv]
theorem HashAt.setLength (h:HashAt w b v buf n) (m:Nat):HashAt (w.setCell ⟨b,72,none⟩ (.int .i64 m)) b v buf m:=by
 refine⟨h.len,(Sc _ b 72 _ _ _ h.hb).trans ?_⟩;have e:((A7 v buf n).toArray.setIfInBounds 72 (.int .i64 m))=(A7 v buf m).toArray:=by rw[List.setIfInBounds_toArray];unfold A7;rw[List.set_append_right _ _ (by simp[W8.cells]),List.set_append_right _ _ (by simp[W8.cells,h.len])];simp[W8.cells,h.len]
 rw[e]
theorem C6 (w:World) (b:Nat) (x0 x1 x2 x3 x4 x5 x6 x7:Value):w.grownBy ((((((((w.setCell ⟨b,0,none⟩ x0).setCell ⟨b,1,none⟩ x1).setCell ⟨b,2,none⟩ x2).setCell ⟨b,3,none⟩ x3).setCell ⟨b,4,none⟩ x4).setCell ⟨b,5,none⟩ x5).setCell ⟨b,6,none⟩ x6).setCell ⟨b,7,none⟩ x7) (some b):=by have h:=AS;exact Bm (Bm (Bm (Bm (Bm (Bm (Bm (h w b 0 x0) (h _ b 1 x1)) (h _ b 2 x2)) (h _ b 3 x3)) (h _ b 4 x4)) (h _ b 5 x5)) (h _ b 6 x6)) (h _ b 7 x7)
end
end Go.Proofs.YtplclpileejemaaGreatDoor
