/- Short form (wip/zpack.py) of the texts Ref3 Ref4 Ref5 Ref6 Ref7 Ref8 Disk14 Ref9. -/
import Derived.Test.YtplclpileejemaaGreatDoorP9
set_option linter.all false
set_option maxRecDepth 100000
set_option maxHeartbeats 8000000
namespace Go.Proofs.YtplclpileejemaaGreatDoor
open Go.RowKit
variable {K:Act→World→Prop}{w w':World}{B n s:Nat}{T:TypeId}{v:Value}
section
variable {ops:Array Oper} {rest:List Oper} {o:Oper} {a:Act} {Q:Exit→Act→World→Prop}
theorem Im {wr:World} (s x:Operand) (ho:o.op=.call {callee:=.builtin .append,args:=#[s,x],argTypes:=#[30,30]})
 (hs:a.eval s=.slice (some ⟨wr.heap.size,0,none⟩) 0 0) (g off cap:Nat) (l:List UInt8) (hx:a.eval x=.slice (some ⟨g,off,none⟩) 256 cap) (hr:wr.rangeAt g off (bvs l)) (hg:g<wr.heap.size) (hl:l.length=256)
 (h:∀g' cap' w',wr.heap.size≤g'→g'<w'.heap.size→w'.ownsRow wr.heap.size 5 1 (.slice (some ⟨g',0,none⟩) 256 cap') 256 (bvs l)→Below wr.heap.size wr w'→K (a.put o.dst (.slice (some ⟨g',0,none⟩) 256 cap')) w'):
 o.wp Tryz.prog a (wr.alloc (.cells #[] 5)) K Q:=by
 obtain⟨i0,hi,hz0,hz1,hz2⟩:=info_parts CX;refine wp_append_lies _ s x 30 ho wr.heap.size 5 i0 (.int .u8 0) 1 1 Tryz.underlying30 hi hz0 hz1 hz2 rfl (by decide) _ 0 [] hs (World.ownsRow_made wr #[] 0 Lr (Nat.zero_le _) rfl)
  ⟨g,off,none⟩ 256 cap (bvs l) hx (by rw[Ap,hl]) (fun j u hj=>by rw[Dr];exact(World.cell?_of_block (Below.heap_alloc wr _ g hg)).trans (hr j u hj)) Bc (by decide) (by decide) (by decide) (by simp) _ rfl ?_
 intro g' cap' w' hown hgrow hat hlt;have hown':w'.ownsRow wr.heap.size 5 1 (.slice (some ⟨g',0,none⟩) 256 cap') 256 (bvs l):=by simpa using hown
 have hge:wr.heap.size≤g':=(Ab hown' g' rfl).1;have hb:Below wr.heap.size wr w':=((Below.refl _ wr).alloc Lr _).grown hgrow (by simp) (by intro k hk;simp[Value.ownBlock]at hk;omega);have:=h g' cap' w' hge hlt hown' hb;simpa using this
theorem Lf {wr:World} (hgd:o.guard=none) (s x:Operand) (ho:o.op=.call {callee:=.builtin .append,args:=#[s,x],argTypes:=#[30,30]})
 (hs:a.eval s=.slice (some ⟨wr.heap.size,0,none⟩) 0 0) (g off cap:Nat) (l:List UInt8) (hx:a.eval x=.slice (some ⟨g,off,none⟩) 256 cap) (hr:wr.rangeAt g off (bvs l)) (hg:g<wr.heap.size) (hl:l.length=256)
 (h:∀g' cap' w',wr.heap.size≤g'→g'<w'.heap.size→w'.ownsRow wr.heap.size 5 1 (.slice (some ⟨g',0,none⟩) 256 cap') 256 (bvs l)→Below wr.heap.size wr w'→
  wpList Tryz.prog ops Q rest (a.put o.dst (.slice (some ⟨g',0,none⟩) 256 cap')) w'):
 wpList Tryz.prog ops Q (o::rest) a (wr.alloc (.cells #[] 5)):=
 wpList_plain hgd fun _ hK=>Im s x ho hs g off cap l hx hr hg hl fun g' cap' w' h1 h2 h3 h4=>hK _ _ (h g' cap' w' h1 h2 h3 h4)
theorem PX:(Tryz.prog.info? 30).map (fun i=>(i.zero,i.size,i.bytes))=some (some (.slice none 0 0),1,24):=by kernel_rfl
theorem Sy:(Tryz.prog.info? 84).map (fun i=>(i.zero,i.size,i.bytes))=some (some (.agg #[.int .i64 0,.slice none 0 0]),2,32):=by kernel_rfl
theorem KY (s x:Operand) (ho:o.op=.call {callee:=.builtin .append,args:=#[s,x],argTypes:=#[36,36]})
 {B n:Nat} {v u:Value} {xs:List Value} (hs:a.eval s=v) (hown:w.ownsRow B 30 1 v n xs) (g:Nat) (hx:a.eval x=.slice (some ⟨g,0,none⟩) 1 1) (hg:w.heap[g]?=some (.cells #[u] 30 (0,0))) (hu:u.oneCell'=true)
 (hn:n<1000000000) (hB:B≤w.heap.size)
 (h:∀g' cap' w',g'<w'.heap.size→w'.ownsRow B 30 1 (.slice (some ⟨g',0,none⟩) (n+1) cap') (n+1) (xs++[u])→w.grownBy w' v.ownBlock→(v.ownBlock=some g'∨g'=w.heap.size)→K (a.put o.dst (.slice (some ⟨g',0,none⟩) (n+1) cap')) w'):
 o.wp Tryz.prog a w K Q:=by
 obtain⟨i0,hi,hz0,hz1,hz2⟩:=info_parts PX;refine wp_append_lies _ s x 36 ho B 30 i0 _ 1 24 Tryz.underlying36 hi hz0 hz1 hz2 rfl (by decide) v n xs hs hown
  ⟨g,0,none⟩ 1 1 [u] hx rfl (World.news_of_block (cs:=#[u]) (t:=30) (fr:=(0,0)) hg) (fun y hy=>by obtain rfl :=List.mem_singleton.1 hy;exact hu) (by decide) (by unfold maxLen;omega) (by omega) hB _ rfl ?_
 intro g' cap' w' hown hgrow hat hlt;exact h g' cap' w' hlt hown hgrow hat
theorem Lg (hgd:o.guard=none) (s x:Operand) (ho:o.op=.call {callee:=.builtin .append,args:=#[s,x],argTypes:=#[36,36]})
 {B n:Nat} {v u:Value} {xs:List Value} (hs:a.eval s=v) (hown:w.ownsRow B 30 1 v n xs) (g:Nat) (hx:a.eval x=.slice (some ⟨g,0,none⟩) 1 1) (hg:w.heap[g]?=some (.cells #[u] 30 (0,0))) (hu:u.oneCell'=true)
 (hn:n<1000000000) (hB:B≤w.heap.size)
 (h:∀g' cap' w',g'<w'.heap.size→w'.ownsRow B 30 1 (.slice (some ⟨g',0,none⟩) (n+1) cap') (n+1) (xs++[u])→w.grownBy w' v.ownBlock→(v.ownBlock=some g'∨g'=w.heap.size)→wpList Tryz.prog ops Q rest (a.put o.dst (.slice (some ⟨g',0,none⟩) (n+1) cap')) w'):
 wpList Tryz.prog ops Q (o::rest) a w:=
 wpList_plain hgd fun _ hK=>KY s x ho hs hown g hx hg hu hn hB fun g' cap' w' h1 h2 h3 h4=>hK _ _ (h g' cap' w' h1 h2 h3 h4)
theorem NQ (s x:Operand) (ho:o.op=.call {callee:=.builtin .append,args:=#[s,x],argTypes:=#[37,37]})
 {B n:Nat} {v u0 u:Value} {xs:List Value} (hs:a.eval s=v) (hown:w.ownsRow B 84 2 v n xs) (g:Nat) (hx:a.eval x=.slice (some ⟨g,0,none⟩) 1 1) (hg:w.heap[g]?=some (.cells #[u0,u] 84 (0,0))) (hu0:u0.oneCell'=true) (hu:u.oneCell'=true)
 (hn:n<1000000000) (hB:B≤w.heap.size)
 (h:∀g' cap' w',g'<w'.heap.size→w'.ownsRow B 84 2 (.slice (some ⟨g',0,none⟩) (n+1) cap') (n+1) (xs++[u0,u])→w.grownBy w' v.ownBlock→(v.ownBlock=some g'∨g'=w.heap.size)→K (a.put o.dst (.slice (some ⟨g',0,none⟩) (n+1) cap')) w'):
 o.wp Tryz.prog a w K Q:=by
 obtain⟨i0,hi,hz0,hz1,hz2⟩:=info_parts Sy;refine wp_append_lies _ s x 37 ho B 84 i0 _ 2 32 Tryz.underlying37 hi hz0 hz1 hz2 rfl (by decide) v n xs hs hown
  ⟨g,0,none⟩ 1 1 [u0,u] hx rfl (World.news_of_block (cs:=#[u0,u]) (t:=84) (fr:=(0,0)) hg) (fun y hy=>by rcases List.mem_cons.1 hy with rfl |hy;exact hu0;obtain rfl :=List.mem_singleton.1 hy;exact hu) (by decide) (by unfold maxLen;omega) (by omega) hB _ rfl ?_
 intro g' cap' w' hown hgrow hat hlt;exact h g' cap' w' hlt hown hgrow hat
end
structure Rows (w:World) (B:Nat) (D:List (List UInt8×Value)):Prop where
 row:∀x∈D,x.1.length=256∧∃g cap,x.2=.slice (some ⟨g,0,none⟩) 256 cap∧w.ownsRow B 5 1 x.2 256 (bvs x.1)
 nodup:(D.map (fun x=>x.2.ownBlock)).Nodup
theorem Rows.kept {D:List (List UInt8×Value)} (h:Rows w B D) {F:Nat→Prop} (hc:Chg F w w') (hd:∀x∈D,∀g,x.2.ownBlock=some g→¬F g):Rows w' B D:=by
 refine⟨fun x hx=>?_,h.nodup⟩;obtain⟨hl,g,cap,e,hr⟩:=h.row x hx;refine⟨hl,g,cap,e,hr.1,?_⟩;rcases hr.2 with hn| ⟨g',cap',cur,e',hbg,hg,rest⟩
 ·exact .inl hn
 ·exact .inr ⟨g',cap',cur,e',hbg,(hc.block g' (Ax hg).1 (hd x hx g' (by rw[e'];rfl))).trans hg,rest⟩
theorem BG {B' n' s':Nat}{T':TypeId}{v':Value}{xs xs':List Value} (h:w.ownsRow B T s v n xs) (h':w.ownsRow B' T' s' v' n' xs') (hT:T≠T') (g:Nat) (hg:v.ownBlock=some g):v'.ownBlock≠some g:=by
 intro hg';rcases h.2 with⟨rfl,_⟩| ⟨g1,cap,cur,rfl,_,hh,_⟩
 ·cases hg
 ·rcases h'.2 with⟨rfl,_⟩| ⟨g2,cap',cur',rfl,_,hh',_⟩
  ·cases hg'
  ·obtain rfl :g1=g:=by simpa[Value.ownBlock]using hg
   obtain rfl :g2=g1:=by simpa[Value.ownBlock]using hg'
   rw[hh]at hh';simp at hh';exact hT hh'.2
theorem Rows.push {D:List (List UInt8×Value)} (h:Rows w B D) {l:List UInt8} {g cap:Nat} (hl:l.length=256) (hr:w.ownsRow B 5 1 (.slice (some ⟨g,0,none⟩) 256 cap) 256 (bvs l))
 (hn:∀x∈D,x.2.ownBlock≠some g):Rows w B (D++[(l,.slice (some ⟨g,0,none⟩) 256 cap)]):=by
 refine⟨fun x hx=>?_,?_⟩
 ·rcases List.mem_append.1 hx with hx|hx
  ·exact h.row x hx
  ·obtain rfl :=List.mem_singleton.1 hx;exact⟨hl,g,cap,rfl,hr⟩
 ·rw[List.map_append,List.nodup_append];refine⟨h.nodup,by simp,?_⟩;intro a ha b hb e;obtain⟨x,hx,rfl⟩:=List.mem_map.1 ha;simp only[List.map_cons,List.map_nil,List.mem_singleton]at hb;exact hn x hx (e.trans hb)
end Go.Proofs.YtplclpileejemaaGreatDoor
namespace Go.Proofs.YtplclpileejemaaGreatDoor
open Go.RowKit Go.Shelf
variable {w w':World}{B n s:Nat}{S:DS}{dv v:Value}{T:TypeId}{G:Nat→Prop}
structure RefOwnX (w:World) (B:Nat) (S:DS) (dv wv:Value) (D:List (List UInt8×Value)) (L:List (Nat×List UInt8×Value)):Prop where
 dur:D.map (·.1)=S.dur
 pend:L.map (fun x=>(x.1,x.2.1))=S.pend
 rd:w.ownsRow B 30 1 dv S.dur.length (D.map (·.2))
 rw:w.ownsRow B 84 2 wv S.pend.length (DU L)
 rows:Rows w B (D++L.map (·.2))
def RefOwn (w:World) (B:Nat) (S:DS) (v:Value):Prop:=∃dv wv D L,v=A9 S dv wv∧RefOwnX w B S dv wv D L
theorem Rows.base {B':Nat}{D:List (List UInt8×Value)} (h:Rows w B D) (hB:B'≤B):Rows w B' D:=by refine⟨fun x hx=>?_,h.nodup⟩;obtain⟨hl,g,cap,e,hr⟩:=h.row x hx;exact⟨hl,g,cap,e,Am hr hB⟩
theorem RefOwnX.chg {wv:Value}{D:List (List UInt8×Value)}{L:List (Nat×List UInt8×Value)} (h:RefOwnX w B S dv wv D L) {G:Nat→Prop} (hc:Chg G w w') (hd:∀k,B≤k→¬G k):RefOwnX w' B S dv wv D L:=
 ⟨h.dur,h.pend,AT h.rd hc (fun k hk _=>hd k hk),AT h.rw hc (fun k hk _=>hd k hk),h.rows.kept hc (fun x hx g e=>by obtain⟨_,g',cap,e',hr⟩:=h.rows.row x hx;exact hd g (Ab hr g e).1)⟩
theorem RefOwnX.base {B':Nat}{wv:Value}{D:List (List UInt8×Value)}{L:List (Nat×List UInt8×Value)} (h:RefOwnX w B S dv wv D L) (hB:B'≤B):RefOwnX w B' S dv wv D L:=
 ⟨h.dur,h.pend,Am h.rd hB,Am h.rw hB,h.rows.base hB⟩
theorem Io {xs:List Value} (h:w.ownsRow B T s v n xs):w.ownsRow 0 T s v n xs:=by
 refine⟨h.1,?_⟩;rcases h.2 with h| ⟨g,cap,cur,e,_,rest⟩
 ·exact .inl h
 ·exact .inr ⟨g,cap,cur,e,Nat.zero_le _,rest⟩
theorem Rows.bytes {D:List (List UInt8×Value)} (h:Rows w B D) {x:List UInt8×Value} (hx:x∈D):BytesAt w (fun k=>B≤k) x.2 x.1:=by obtain⟨hl,g,cap,e,hr⟩:=h.row x hx;exact Cy hr hl
theorem RefOwn.at (h:RefOwn w B S v):RefAt w (fun k=>B≤k) S v:=by
 obtain⟨dv,wv,D,L,rfl,hx⟩:=h;exact⟨dv,wv,rfl,⟨D,hx.dur,Io hx.rd,fun g e=>(Ab hx.rd g e).1,fun x hm=>hx.rows.bytes (List.mem_append.2 (.inl hm))⟩,
  ⟨L,hx.pend,Io hx.rw,fun g e=>(Ab hx.rw g e).1,fun x hm=>hx.rows.bytes (x:=x.2) (List.mem_append.2 (.inr (List.mem_map.2 ⟨x,hm,rfl⟩)))⟩⟩
theorem EL (h:RefAt w G S v) (hok:S.ok) (hlen:S.pend.length<100000000):
 Ca 35 #[v] w fun e w'=>∃v',e=.returned v'∧RefOwn w' w.heap.size S v'∧Below w.heap.size w w':=by
 obtain⟨dv,wv,rfl,hd,hw⟩:=h;obtain⟨ad,capd,rfl⟩:=hd.len;obtain⟨aw,capw,rfl⟩:=hw.len;unfold A9;obtain⟨w1,hw1⟩:=Xq ((w.alloc (.cells #[.slice ad S.dur.length capd,.slice aw S.pend.length capw,.int .i64 (Au S),.bool S.down,.int .i64 (S.ops:Int)] 39)).alloc (.cells #[.slice none 0 0,.slice none 0 0,.int .i64 0,.bool false,.int .i64 0] 39));have hb1:Below w.heap.size w w1:=hw1▸(Rq.alloc Lr _).alloc (by simp) _;have hs1:w1.heap.size=w.heap.size+2:=by rw[←hw1,Sz,Sz]
 have hn1:w1.heap[w.heap.size]?=some (.cells #[.slice ad S.dur.length capd,.slice aw S.pend.length capw,.int .i64 (Au S),.bool S.down,.int .i64 (S.ops:Int)] 39 (0,0)):=by rw[←hw1];exact(Below.heap_alloc _ _ _ (by rw[Sz];omega)).trans (Hn)
 have hn2:w1.heap[w.heap.size+1]?=some (.cells #[.slice none 0 0,.slice none 0 0,.int .i64 0,.bool false,.int .i64 0] 39 (0,0)):=by rw[←hw1];exact heap_alloc2_new _ _ _
 have hcell:∀wx,Below w1.heap.size w1 wx→wx.cell? ⟨w.heap.size,0,none⟩=some (.slice ad S.dur.length capd)∧wx.cell? ⟨w.heap.size,1,none⟩=some (.slice aw S.pend.length capw):=fun wx hb=>by have h1:wx.heap[w.heap.size]?=_:=(hb.block _ (by omega)).trans hn1;simp[World.cell?,h1]
 have hkeep:∀wx,Below w1.heap.size w1 wx→∀g o,g<w.heap.size→wx.cell? ⟨g,o,none⟩=w.cell? ⟨g,o,none⟩:=fun wx hb g o hg=>(hb.cell (p:=⟨g,o,none⟩) (by show g<_;omega)).trans (hb1.cell (p:=⟨g,o,none⟩) hg)
 obtain⟨HB1,HS1,HN1,HN2,HCELL,HKEEP,HD,HW,HOK⟩:=Hd9 hb1 hs1 hn1 hn2 hcell hkeep hd hw hok;clear hb1 hs1 hn1 hn2 hcell hkeep hd hw hok;go_enter Tryz.func35,Tryz.ntmps35;go_wp2_with fail;clear hw1;go_loopw [3,4] (fun sv i wr=>∃(k:Nat) (D:List (List UInt8×Value)),k≤S.dur.length∧i=.int .i64 k∧D.map (·.1)=S.dur.take k∧wr.ownsRow w1.heap.size 30 1 sv k (D.map (·.2))∧Rows wr w1.heap.size D∧Below w1.heap.size w1 wr)
  (fun _ i _=>S.dur.length-(intOf i).toNat)
 case atStart=>exact⟨0,[],Nat.zero_le _,rfl,rfl,World.ownsRow_nil _ _ _ _,⟨by simp,by simp⟩,Rq⟩
 case round=>
  obtain⟨k,D,hk,rfl,hD,hown,hrows,hB⟩:=hrel;obtain⟨q0,q1⟩:=HCELL.out wr hB;obtain⟨HDm,HOWN,HROWS,HB⟩:=Hd4 hD hown hrows hB;clear hD hown hrows hB;by_cases hlt:k<S.dur.length
  ·obtain⟨gd,cpd,vs,e,hgd,_,hcs,hbs⟩:=HD.out.at k hlt;obtain⟨rfl,rfl⟩:ad=some ⟨gd,0,none⟩∧capd=cpd:=by simpa using e
   obtain⟨D0,hD0⟩:=Xq (S.dur[k]);have hD0l:D0.length=256:=by rw[←hD0];exact HOK.out.dur _ (List.getElem_mem _)
   rw[hD0]at hbs;obtain⟨gs,os,caps,rfl,_,hgs,hrs⟩:=hbs.some' hD0l;have hb5:Below wr.heap.size wr (wr.alloc (.cells #[] 5)):=Rq.alloc Lr _;have hb6:Below w1.heap.size w1 (wr.alloc (.cells #[] 5)):=Tq HB.out hb5;obtain⟨r0,r1⟩:=HCELL.out _ hb6;have r2:=(HKEEP.out _ hb6 gd k hgd).trans hcs;have hrs':wr.rangeAt gs os (bvs D0):=fun j u hu=>(HKEEP.out wr HB.out gs (os+j) hgs).trans (hrs j u hu)
   have hgs':gs<wr.heap.size:=by have:=HS1.out;have:=HB.out.size;omega
   obtain⟨HRS,HGS,HDL,HD0⟩:=Hd4 hrs' hgs' hD0l hD0;clear hrs hrs' hgs' hD0l hD0 hbs hcs e hb5 hb6;go_wp2_with (at_builtin;refine Lf (wr:=wr) rfl (.tmp 15) (.tmp 20) rfl rfl gs os caps D0 rfl HRS.out HGS.out HDL.out ?_)
   intro g' cap' w2 hg1 hg2 ho2 hb2;have hb3:Below w2.heap.size w2 (w2.alloc (.cells #[.slice (some ⟨g',0,none⟩) 256 cap'] 30)):=Rq.alloc Lr _;have hbr3:Below wr.heap.size wr (w2.alloc (.cells #[.slice (some ⟨g',0,none⟩) 256 cap'] 30)):=Tq hb2 hb3;have hown3:=AT (G:=fun _=>False) HOWN.out (Cb hbr3) (fun _ _ _ h=>h);have hn3:=heap_alloc_new w2 (.cells #[.slice (some ⟨g',0,none⟩) 256 cap'] 30);have hB3:w1.heap.size≤(w2.alloc (.cells #[.slice (some ⟨g',0,none⟩) 256 cap'] 30)).heap.size:=Nt HB.out.size hbr3.size;have ho3:=AT (G:=fun _=>False) ho2 (Cb hb3) (fun _ _ _ h=>h);obtain⟨HOWN3,HN3,HB3,HO3,HBR3,HG1⟩:=Hd6 hown3 hn3 hB3 ho3 hbr3 hg1;have hkk:k<1000000000:=by have:=HOK.out.most;omega
   clear hown3 hn3 hB3 ho3 hbr3 hb3 hb2 ho2 hg1 hg2 r0 r1 r2 q0 q1;go_wp2_with (at_builtin;refine Lg rfl (.tmp 14) (.tmp 22) rfl rfl HOWN3.out w2.heap.size rfl HN3.out rfl hkk HB3.out ?_)
   intro gg capg w4 hlt4 hown4 hgrow4 hat4;have hb4:Below w1.heap.size w1 w4:=(Tq HB.out HBR3.out).grown hgrow4 HB3.out (fun i e=>(Ab HOWN.out i e).1);have hc4:Chg (fun i=>u3.ownBlock=some i) wr w4:=(Cb HBR3.out).trans (Chg.grown (F:=fun i=>u3.ownBlock=some i) hgrow4 (fun i e=>.inl e)) (fun i h=>.inl h);have ho4:w4.ownsRow w1.heap.size 5 1 (.slice (some ⟨g',0,none⟩) 256 cap') 256 (bvs D0):=by
    have h1:=HO3.out.kept hgrow4 (.inr (fun e=>by have h3:=(Ab HOWN.out g' e.symm).2;have:=HG1.out;omega));refine⟨h1.1,?_⟩;rcases h1.2 with h| ⟨g,cap,cur,e,hb,rest⟩
    ·exact .inl h
    ·exact .inr ⟨g,cap,cur,e,Nt HB.out.size hb,rest⟩
   have hrows4:Rows w4 w1.heap.size (D++[(D0,.slice (some ⟨g',0,none⟩) 256 cap')]):=by
    refine(HROWS.out.kept hc4 (fun x hx i e e2=>?_)).push HDL.out ho4 (fun x hx e=>?_)
    ·obtain⟨_,g,cap,e3,hr⟩:=HROWS.out.row x hx;exact BG HOWN.out hr (by decide) i e2 e
    ·obtain⟨_,g,cap,e3,hr⟩:=HROWS.out.row x hx;have h3:=(Ab hr g' e).2;have:=HG1.out;omega
   obtain⟨HB4,HOWN4,HROWS4⟩:=Hd3 hb4 hown4 hrows4;clear hb4 hown4 hrows4 ho4 hc4 hgrow4 hat4 hlt4;go_wp2_with fail;go_roundw
   case rel=>
    have htk:S.dur.take (k+1)=S.dur.take k++[D0]:=by rw[List.take_add_one,List.getElem?_eq_getElem hlt,HD0.out];rfl
    refine⟨k+1,D++[(D0,.slice (some ⟨g',0,none⟩) 256 cap')],by omega,by go_num,by rw[List.map_append,HDm.out,htk];rfl,by simpa using HOWN4.out,HROWS4.out,HB4.out⟩
   case measure=>simp[intOf];omega
  ·obtain rfl :k=S.dur.length:=by omega
   have hDm:D.map (·.1)=S.dur:=by rw[HDm.out,List.take_length]
   have HDe:=Hd hDm;clear hDm HDm q1;go_wp2_with fail;clear q0;obtain⟨sv,hsv⟩:∃sv,sv=u3:=⟨_,rfl⟩;rw[←hsv]at HOWN⊢;clear hsv;go_loopw [5,6] (fun lv i ws=>∃(j:Nat) (L:List (Nat×List UInt8×Value)),j≤S.pend.length∧i=.int .i64 j∧L.map (fun x=>(x.1,x.2.1))=S.pend.take j∧ws.ownsRow w1.heap.size 84 2 lv j (DU L)∧
    ws.ownsRow w1.heap.size 30 1 sv S.dur.length (D.map (·.2))∧Rows ws w1.heap.size (D++L.map (·.2))∧Below w1.heap.size w1 ws)
    (fun _ i _=>S.pend.length-(intOf i).toNat)
   case atStart=>exact⟨0,[],Nat.zero_le _,rfl,rfl,World.ownsRow_nil _ _ _ _,HOWN.out,by simpa using HROWS.out,HB.out⟩
   case round=>
    clear HOWN HROWS HB;obtain⟨j,L,hj,rfl,hLm,hown2,hsv,hrows,hB⟩:=hrel;obtain⟨q0,q1⟩:=HCELL.out wr hB;obtain⟨HLm,HOWN2,HOWN,HROWS2,HB⟩:=Hd5 hLm hown2 hsv hrows hB;clear hLm hown2 hsv hrows hB;by_cases hltj:j<S.pend.length
    ·obtain⟨gw,cpw,vw,e,hgw,_,hc0,hc1,hbw⟩:=HW.out.at j hltj;obtain⟨rfl,rfl⟩:aw=some ⟨gw,0,none⟩∧capw=cpw:=by simpa using e
     obtain⟨x1,x2,hx⟩:∃x1 x2,S.pend[j]=(x1,x2):=⟨_,_,rfl⟩;have hx2:x2.length=256:=(HOK.out.pend (x1,x2) (hx▸List.getElem_mem hltj)).2;rw[hx]at hc0 hbw;obtain⟨gb,ob,capb,rfl,_,hgb,hrb⟩:=hbw.some' hx2;have hrb':wr.rangeAt gb ob (bvs x2):=fun i u hu=>(HKEEP.out wr HB.out gb (ob+i) hgb).trans (hrb i u hu)
     have hgb':gb<wr.heap.size:=by have:=HS1.out;have:=HB.out.size;omega
     obtain⟨HX,HX2,HRB,HGB,HGW,HC0,HC1⟩:=Hd7 hx hx2 hrb' hgb' hgw hc0 hc1;clear hx hx2 hrb hrb' hgb' hgw hc0 hc1 hbw e q0;go_wp2_with fail;refine Np ?_;refine AY 18 (Below w1.heap.size w1) (by kernel_rfl) ?_;have hS0:Below w1.heap.size w1 wr.drew:=HB.out.drew;refine tkF 0 hS0 ?_ (v:=u5) (hy:=fun w' hw'=>by rfl);refine tkF 1 hS0 ?_ (v:=.pointer (some ⟨w.heap.size,1,none⟩)) (hy:=fun w' hw'=>by go_simp);refine tkF 2 hS0 ?_ (v:=.slice (some ⟨gw,0,none⟩) S.pend.length capw) (hy:=fun w' hw'=>by(have h4:=(HCELL.out w' hw').2;clear hw';go_simp));refine tkF 3 hS0 ?_ (v:=.int .i64 j) (hy:=fun w' hw'=>by rfl);refine tkF 4 hS0 ?_ (v:=.pointer (some ⟨gw,j*2,none⟩)) (hy:=fun w' hw'=>by go_simp);refine tkF 5 hS0 ?_ (v:=.pointer (some ⟨gw,j*2,none⟩)) (hy:=fun w' hw'=>by go_simp);refine tkF 6 hS0 ?_ (v:=.int .i64 x1) (hy:=fun w' hw'=>by(have h4:=(HKEEP.out w' hw' gw (j*2) HGW.out).trans HC0.out;clear hw';go_simp));refine tkF 8 hS0 ?_ (v:=.pointer (some ⟨w.heap.size,1,none⟩)) (hy:=fun w' hw'=>by go_simp);refine tkF 9 hS0 ?_ (v:=.slice (some ⟨gw,0,none⟩) S.pend.length capw) (hy:=fun w' hw'=>by(have h4:=(HCELL.out w' hw').2;clear hw';go_simp));refine tkF 10 hS0 ?_ (v:=.int .i64 j) (hy:=fun w' hw'=>by rfl);refine tkF 11 hS0 ?_ (v:=.pointer (some ⟨gw,j*2,none⟩)) (hy:=fun w' hw'=>by go_simp);refine tkF 12 hS0 ?_ (v:=.pointer (some ⟨gw,j*2+1,none⟩)) (hy:=fun w' hw'=>by go_simp);refine tkF 13 hS0 ?_ (v:=.slice (some ⟨gb,ob,none⟩) 256 capb) (hy:=fun w' hw'=>by(have h4:=(HKEEP.out w' hw' gw (j*2+1) HGW.out).trans HC1.out;clear hw';go_simp));refine dF 7 fun K hK=>?_
     go_simp;have hS1:Below w1.heap.size w1 (wr.drew.alloc (.cells #[] 5)):=hS0.alloc hS0.size _;refine Kq hK (fun _=>hS1) ?_;refine dF 14 fun K hK=>?_
     refine Im (wr:=wr.drew) (.tmp 38) (.tmp 44) rfl rfl gb ob capb x2 rfl HRB.out HGB.out HX2.out ?_;intro g' cap' w2 hg1 hg2 ho2 hb2;have hS2:Below w1.heap.size w1 w2:=Tq hS0 hb2;refine Kq hK (fun _=>hS2) ?_;refine dF 15 fun K hK=>?_
     go_simp;refine hK _ _ (fun _=>hS2) ?_;refine dF 16 fun K hK=>?_
     go_simp;obtain⟨w3,hw3⟩:=Xq (w2.alloc (.cells #[.int .i64 x1,.slice (some ⟨g',0,none⟩) 256 cap'] 84));have hb3:=Lq hw3;have hn3:=Nq hw3 rfl;have hS3:Below w1.heap.size w1 w3:=Tq hS2 hb3;have hbs3:Below wr.heap.size wr w3:=((Below.refl _ wr).drew.trans hb2).trans (hb3.mono hb2.size);have ho3:w3.ownsRow wr.drew.heap.size 5 1 (.slice (some ⟨g',0,none⟩) 256 cap') 256 (bvs x2):=AT (G:=fun _=>False) ho2 (Cb hb3) (fun _ _ _ h=>h);have hown3:w3.ownsRow w1.heap.size 84 2 u5 j (DU L):=AT (G:=fun _=>False) HOWN2.out (Cb hbs3) (fun _ _ _ h=>h);rw[hw3];refine Kq hK (fun _=>hS3) ?_;refine dF 17 fun K hK=>?_
     refine NQ (.tmp 31) (.tmp 47) rfl rfl hown3 w2.heap.size rfl hn3 rfl rfl (by omega) hS3.size ?_;intro gg capg w4 hlt4 hown4 hgrow4 hat4;have hb4:Below w1.heap.size w1 w4:=hS3.grown hgrow4 hS3.size (fun i e=>(Ab HOWN2.out i e).1);refine Kq hK (fun _=>hb4) ?_;refine dF 18 fun K hK=>?_
     go_simp;refine hK _ _ (fun h=>absurd rfl h) ?_;refine eF ?_;have hc4:Chg (fun i=>u5.ownBlock=some i) wr w4:=(Cb hbs3).trans (Chg.grown (F:=fun i=>u5.ownBlock=some i) hgrow4 (fun i e=>.inl e)) (fun i h=>.inl h);have ho4:w4.ownsRow w1.heap.size 5 1 (.slice (some ⟨g',0,none⟩) 256 cap') 256 (bvs x2):=by
      have h1:=ho3.kept hgrow4 (.inr (fun e=>by have h3:=(Ab HOWN2.out g' e.symm).2;have h2:wr.heap.size≤g':=hg1;omega));refine⟨h1.1,?_⟩;rcases h1.2 with h| ⟨g,cap,cur,e,hb,rest⟩
      ·exact .inl h
      ·exact .inr ⟨g,cap,cur,e,Nt HB.out.size hb,rest⟩
     have hsv4:w4.ownsRow w1.heap.size 30 1 sv S.dur.length (D.map (·.2)):=AJ HOWN.out hc4 (fun i e e2=>BG HOWN2.out HOWN.out (by decide) i e2 e);have hrows4:Rows w4 w1.heap.size ((D++L.map (·.2))++[(x2,.slice (some ⟨g',0,none⟩) 256 cap')]):=by
      refine(HROWS2.out.kept hc4 (fun x hx i e e2=>?_)).push HX2.out ho4 (fun x hx e=>?_)
      ·obtain⟨_,g,cap,e3,hr⟩:=HROWS2.out.row x hx;exact BG HOWN2.out hr (by decide) i e2 e
      ·obtain⟨_,g,cap,e3,hr⟩:=HROWS2.out.row x hx;have h3:=(Ab hr g' e).2;have h2:wr.heap.size≤g':=hg1;omega
     obtain⟨HB4,HOWN4,HSV4,HROWS4⟩:=Hd4 hb4 hown4 hsv4 hrows4;clear hb4 hown4 hsv4 hrows4 ho4 hc4 hgrow4 hat4 hlt4 hown3 ho3 hbs3 hS3 hn3 hb3 hw3 hS2 hg1 hg2 ho2 hb2 hS1 hS0;go_wp2_with fail;go_roundw
     case rel=>
      have htk:S.pend.take (j+1)=S.pend.take j++[(x1,x2)]:=by rw[List.take_add_one,List.getElem?_eq_getElem hltj,HX.out];rfl
      refine⟨j+1,L++[(x1,x2,.slice (some ⟨g',0,none⟩) 256 cap')],by omega,by go_num,by rw[List.map_append,HLm.out,htk];rfl,by simpa[DU]using HOWN4.out,HSV4.out,by simpa using HROWS4.out,HB4.out⟩
     case measure=>simp[intOf];omega
    ·obtain rfl :j=S.pend.length:=by omega
     have hLm:L.map (fun x=>(x.1,x.2.1))=S.pend:=by rw[HLm.out,List.take_length]
     have n1:wr.heap[w.heap.size]?=_:=(HB.out.block _ (by have:=HS1.out;omega)).trans HN1.out;have n2:wr.heap[w.heap.size+1]?=_:=(HB.out.block _ (by have:=HS1.out;omega)).trans HN2.out;have hsv:∃a cap,sv=.slice a S.dur.length cap:=by
      rcases HOWN.out.2 with⟨rfl,h0⟩| ⟨g,cap,cur,rfl,_⟩
      ·exact⟨none,0,by rw[h0]⟩
      ·exact⟨_,_,rfl⟩
     have hlv:∃a cap,u5=.slice a S.pend.length cap:=by
      rcases HOWN2.out.2 with⟨rfl,h0⟩| ⟨g,cap,cur,rfl,_⟩
      ·exact⟨none,0,by rw[h0]⟩
      ·exact⟨_,_,rfl⟩
     obtain⟨sa,sc,rfl⟩:=hsv;obtain⟨la,lc,rfl⟩:=hlv;have hne:w.heap.size≠w.heap.size+1:=by omega
     have f1:∀i,wr.frozen? ⟨w.heap.size,i,none⟩=false:=fun i=>frozen_of_row wr _ _ _ _ n1
     have f2:∀i,wr.frozen? ⟨w.heap.size+1,i,none⟩=false:=fun i=>frozen_of_row wr _ _ _ _ n2
     have c10:wr.cell? ⟨w.heap.size,0,none⟩=some (.slice ad S.dur.length capd):=by simp[World.cell?,n1]
     have c12:wr.cell? ⟨w.heap.size,2,none⟩=some (.int .i64 (Au S)):=by simp[World.cell?,n1]
     have c13:wr.cell? ⟨w.heap.size,3,none⟩=some (.bool S.down):=by simp[World.cell?,n1]
     have c14:wr.cell? ⟨w.heap.size,4,none⟩=some (.int .i64 (S.ops:Int)):=by simp[World.cell?,n1]
     have c20:wr.cell? ⟨w.heap.size+1,0,none⟩=some (.slice none 0 0):=by simp[World.cell?,n2]
     have c21:wr.cell? ⟨w.heap.size+1,1,none⟩=some (.slice none 0 0):=by simp[World.cell?,n2]
     have c22:wr.cell? ⟨w.heap.size+1,2,none⟩=some (.int .i64 0):=by simp[World.cell?,n2]
     have c23:wr.cell? ⟨w.heap.size+1,3,none⟩=some (.bool false):=by simp[World.cell?,n2]
     have c24:wr.cell? ⟨w.heap.size+1,4,none⟩=some (.int .i64 0):=by simp[World.cell?,n2]
     obtain⟨N1,N2,HLM⟩:=Hd3 n1 n2 hLm;clear n1 n2 hLm q0;go_wp2_with fail;obtain⟨wf,hwf⟩:∃wf,((((((wr.setCell ⟨w.heap.size,0,none⟩ (.slice sa S.dur.length sc)).setCell ⟨w.heap.size,1,none⟩ (.slice la S.pend.length lc)).setCell ⟨w.heap.size+1,0,none⟩ (.slice sa S.dur.length sc)).setCell ⟨w.heap.size+1,1,none⟩ (.slice la S.pend.length lc)).setCell
      ⟨w.heap.size+1,2,none⟩ (.int .i64 (Au S))).setCell ⟨w.heap.size+1,3,none⟩ (.bool S.down)).setCell ⟨w.heap.size+1,4,none⟩ (.int .i64 (S.ops:Int))=wf:=⟨_,rfl⟩
     have hh:wf.heap[w.heap.size+1]?=some (.cells #[.slice sa S.dur.length sc,.slice la S.pend.length lc,.int .i64 (Au S),.bool S.down,.int .i64 (S.ops:Int)] 39 (0,0)):=by
      rw[←hwf,Sc _ _ _ _ _ _ (Sc _ _ _ _ _ _ (Sc _ _ _ _ _ _ (Sc _ _ _ _ _ _ (Sc _ _ _ _ _ _
       (((heap_setCell_other _ ⟨w.heap.size,1,none⟩ _ _ (by show w.heap.size+1≠w.heap.size;omega)).trans (heap_setCell_other _ ⟨w.heap.size,0,none⟩ _ _ (by show w.heap.size+1≠w.heap.size;omega))).trans N2.out)))))]
      rfl
     have hcf:Chg (fun i=>i=w.heap.size∨i=w.heap.size+1) wr wf:=by
      have s:=fun(x:World) (i k:Nat) (v:Value) (h:i=w.heap.size∨i=w.heap.size+1)=>Chg.setCell (F:=fun i=>i=w.heap.size∨i=w.heap.size+1) x (a:=⟨i,k,none⟩) v h
      rw[←hwf];exact((((((s wr _ _ _ (.inl rfl)).trans (s _ _ _ _ (.inl rfl)) (fun _ h=>.inl h)).trans (s _ _ _ _ (.inr rfl)) (fun _ h=>.inl h)).trans (s _ _ _ _ (.inr rfl)) (fun _ h=>.inl h)).trans (s _ _ _ _ (.inr rfl)) (fun _ h=>.inl h)).trans (s _ _ _ _ (.inr rfl)) (fun _ h=>.inl h)).trans (s _ _ _ _ (.inr rfl)) (fun _ h=>.inl h)
     have hX:RefOwnX wr w1.heap.size S (.slice sa S.dur.length sc) (.slice la S.pend.length lc) D L:=⟨HDe.out,HLM.out,HOWN.out,HOWN2.out,HROWS2.out⟩;have hX2:=(hX.chg hcf (fun k hk h=>by have:=HS1.out;omega)).base (B':=w.heap.size) (by have:=HS1.out;omega);have hbf:Below w.heap.size w wf:=(HB1.out.trans (HB.out.mono (by have:=HS1.out;omega))).trans (hcf.below (fun k h=>by omega) (by have:=HS1.out;have:=HB.out.size;omega));rw[hwf];exact Br (v:=A9 S (.slice sa S.dur.length sc) (.slice la S.pend.length lc)) (results_cell_row (g:=w.heap.size+1) rfl _ _ _ _ _ _ rfl hh Tryz.underlying39 rfl CE) rfl ⟨_,rfl,⟨_,_,D,L,rfl,hX2⟩,hbf⟩
variable {b:Nat}
abbrev put5 (w:World) (b:Nat) (v0 v1 v2 v3 v4:Value):World:=
 ((((w.setCell ⟨b,0,none⟩ v0).setCell ⟨b,1,none⟩ v1).setCell ⟨b,2,none⟩ v2).setCell ⟨b,3,none⟩ v3).setCell ⟨b,4,none⟩ v4
theorem Bp {a0 a1 a2 a3 a4:Value} (h:w.heap[b]?=some (.cells #[a0,a1,a2,a3,a4] T (0,0))) (v0 v1 v2 v3 v4:Value):
 (put5 w b v0 v1 v2 v3 v4).heap[b]?=some (.cells #[v0,v1,v2,v3,v4] T (0,0)):=by
 rw[Sc _ _ _ _ _ _ (Sc _ _ _ _ _ _ (Sc _ _ _ _ _ _ (Sc _ _ _ _ _ _ (Sc _ _ _ _ _ _ h))))];rfl
theorem BH (w:World) (b:Nat) (v0 v1 v2 v3 v4:Value):Chg (fun i=>i=b) w (put5 w b v0 v1 v2 v3 v4):=by
 have s:=fun(x:World) (k:Nat) (v:Value)=>Chg.setCell (F:=fun i=>i=b) x (a:=⟨b,k,none⟩) v rfl
 exact((((s w _ _).trans (s _ _ _) (fun _ h=>.inl h)).trans (s _ _ _) (fun _ h=>.inl h)).trans (s _ _ _) (fun _ h=>.inl h)).trans (s _ _ _) (fun _ h=>.inl h)
theorem Ao {a0 a1 a2 a3 a4:Value} (h:w.heap[b]?=some (.cells #[a0,a1,a2,a3,a4] T (0,0))):
 w.cell? ⟨b,0,none⟩=some a0∧w.cell? ⟨b,1,none⟩=some a1∧w.cell? ⟨b,2,none⟩=some a2∧w.cell? ⟨b,3,none⟩=some a3∧w.cell? ⟨b,4,none⟩=some a4∧∀i,w.frozen? ⟨b,i,none⟩=false:=by
 simp[World.cell?,World.frozen?,h]
structure Front (w w1:World) (S:DS) (dv wv:Value):Prop where
 b1:Below w.heap.size w w1
 s1:w1.heap.size=w.heap.size+2
 n1:w1.heap[w.heap.size]?=some (.cells #[dv,wv,.int .i64 (Au S),.bool S.down,.int .i64 (S.ops:Int)] 39 (0,0))
 n2:w1.heap[w.heap.size+1]?=some (.cells #[.slice none 0 0,.slice none 0 0,.int .i64 0,.bool false,.int .i64 0] 39 (0,0))
theorem Ea (w:World) (S:DS) (dv wv:Value):
 Front w ((w.alloc (.cells #[dv,wv,.int .i64 (Au S),.bool S.down,.int .i64 (S.ops:Int)] 39)).alloc (.cells #[.slice none 0 0,.slice none 0 0,.int .i64 0,.bool false,.int .i64 0] 39)) S dv wv:=
 ⟨(Rq.alloc Lr _).alloc (by simp) _,by rw[Sz,Sz],(Below.heap_alloc _ _ _ (by rw[Sz];omega)).trans (Hn),heap_alloc2_new _ _ _⟩
theorem Front.below {w1 w2:World}{wv:Value} (h:Front w w1 S dv wv) (hb:Below w1.heap.size w1 w2):
 w2.heap[w.heap.size]?=some (.cells #[dv,wv,.int .i64 (Au S),.bool S.down,.int .i64 (S.ops:Int)] 39 (0,0))∧
 w2.heap[w.heap.size+1]?=some (.cells #[.slice none 0 0,.slice none 0 0,.int .i64 0,.bool false,.int .i64 0] 39 (0,0))∧Below w.heap.size w w2:=by
 have:=h.s1;exact⟨(hb.block _ (by omega)).trans h.n1,(hb.block _ (by omega)).trans h.n2,h.b1.trans (hb.mono (by omega))⟩
def DS.badE (S:DS) (s:Int):Int:=if S.down then 28 else if S.has s then 2 else 8
theorem Lh (s:Int) (ba:Option Addr) (bl bc:Nat) (h:RefAt w G S v) (hbad:S.down=true∨(S.down=false∧S.has s=false)∨(S.down=false∧S.has s=true∧bl≠256)):
 Ca 82 #[v,.int .i64 s,.slice ba bl bc] w fun e w'=>e=.returned (.tuple #[v,.int .i64 (S.badE s)])∧Below w.heap.size w w':=by
 have HH:=Hd h;obtain⟨dv,wv,rfl,hd,hw⟩:=h;obtain⟨ad,capd,rfl⟩:=hd.len;obtain⟨aw,capw,rfl⟩:=hw.len;clear hd hw;unfold A9 at HH⊢;have hf:=Ea w S (.slice ad S.dur.length capd) (.slice aw S.pend.length capw);obtain⟨w1,hw1⟩:=Xq ((w.alloc (.cells #[.slice ad S.dur.length capd,.slice aw S.pend.length capw,.int .i64 (Au S),.bool S.down,.int .i64 (S.ops:Int)] 39)).alloc (.cells #[.slice none 0 0,.slice none 0 0,.int .i64 0,.bool false,.int .i64 0] 39));rw[hw1]at hf;obtain⟨n1,n2,hb⟩:=hf.below Rq;obtain⟨c0,c1,c2,c3,c4,cf⟩:=Ao n1;obtain⟨d0,d1,d2,d3,d4,df⟩:=Ao n2;have HF:=Hd hf;have N2:=Hd n2;have hfin:∀wx,Below w1.heap.size w1 wx→(put5 wx (w.heap.size+1) (.slice ad S.dur.length capd) (.slice aw S.pend.length capw) (.int .i64 (Au S)) (.bool S.down) (.int .i64 (S.ops:Int))).heap[w.heap.size+1]?=
  some (.cells #[.slice ad S.dur.length capd,.slice aw S.pend.length capw,.int .i64 (Au S),.bool S.down,.int .i64 (S.ops:Int)] 39 (0,0))∧
  Below w.heap.size w (put5 wx (w.heap.size+1) (.slice ad S.dur.length capd) (.slice aw S.pend.length capw) (.int .i64 (Au S)) (.bool S.down) (.int .i64 (S.ops:Int))):=fun wx hbx=>
  ⟨Bp (hf.below hbx).2.1 _ _ _ _ _,(hf.below hbx).2.2.trans ((BH wx (w.heap.size+1) _ _ _ _ _).below (fun k h=>by omega) (hf.below hbx).2.2.size)⟩
 have HFIN:=Hd hfin;clear hf n1 n2 hfin hb;have HBAD:=Hd hbad;clear hbad;cases hdn:S.down with
 |true=>
  have he:S.badE s=28:=by simp[DS.badE,hdn]
  rw[he];clear he;rw[hdn]at hw1 c3;have hfin:=HFIN.out w1 Rq;rw[hdn]at hfin;clear HH HFIN;go_enter Tryz.func82,Tryz.ntmps82;go_wp2_with fail;exact Br (Ay (g:=w.heap.size+1) rfl _ _ _ _ _ _ rfl hfin.1 Tryz.underlying39 rfl CE) rfl ⟨rfl,hfin.2⟩
 |false=>
  rw[hdn]at hw1 c3 HH;have HDN:=Hd hdn;clear hdn;cases hh:S.has s with
  |false=>
   have he:S.badE s=8:=by simp[DS.badE,HDN.out,hh]
   rw[he];clear he;go_enter Tryz.func82,Tryz.ntmps82;go_wp2_with fail;have hcc:=fun wx (hb:Below w1.heap.size w1 wx)=>Ao (HF.out.below hb).1
   have hdd:=fun wx (hb:Below w1.heap.size w1 wx)=>Ao (HF.out.below hb).2.1
   have HCC:=Hd hcc;have HDD:=Hd hdd;clear hcc hdd c0 c1 c2 c3 c4 cf d0 d1 d2 d3 d4 df;refine(Fc s (HH.out.below HF.out.b1)).mono ?_;rw[hh];rintro e w2 ⟨rfl,hb2⟩;obtain⟨c0,c1,c2,c3,c4,cf⟩:=HCC.out w2 hb2;obtain⟨d0,d1,d2,d3,d4,df⟩:=HDD.out w2 hb2;rw[HDN.out]at c3;have hfin:=HFIN.out w2 hb2;rw[HDN.out]at hfin;clear hh HFIN hb2 HCC HDD HH;go_wp2_with fail;exact Br (Ay (g:=w.heap.size+1) rfl _ _ _ _ _ _ rfl hfin.1 Tryz.underlying39 rfl CE) rfl ⟨rfl,hfin.2⟩
  |true=>
   have hbl:bl≠256:=by
    rcases HBAD.out with h|h|h
    ·rw[HDN.out]at h;cases h
    ·rw[hh]at h;cases h.2
    ·exact h.2.2
   have hbl':¬((bl:Int)=256):=by omega
   have he:S.badE s=2:=by simp[DS.badE,HDN.out,hh]
   rw[he];clear he hbl;go_enter Tryz.func82,Tryz.ntmps82;go_wp2_with fail;have hcc:=fun wx (hb:Below w1.heap.size w1 wx)=>Ao (HF.out.below hb).1
   have hdd:=fun wx (hb:Below w1.heap.size w1 wx)=>Ao (HF.out.below hb).2.1
   have HCC:=Hd hcc;have HDD:=Hd hdd;clear hcc hdd c0 c1 c2 c3 c4 cf d0 d1 d2 d3 d4 df;refine(Fc s (HH.out.below HF.out.b1)).mono ?_;rw[hh];rintro e w2 ⟨rfl,hb2⟩;obtain⟨c0,c1,c2,c3,c4,cf⟩:=HCC.out w2 hb2;obtain⟨d0,d1,d2,d3,d4,df⟩:=HDD.out w2 hb2;rw[HDN.out]at c3;have hfin:=HFIN.out w2 hb2;rw[HDN.out]at hfin;clear hh HFIN hb2 HCC HDD HH;go_wp2_with fail;exact Br (Ay (g:=w.heap.size+1) rfl _ _ _ _ _ _ rfl hfin.1 Tryz.underlying39 rfl CE) rfl ⟨rfl,hfin.2⟩
theorem RefOwnX.slices {wv:Value}{D:List (List UInt8×Value)}{L:List (Nat×List UInt8×Value)} (h:RefOwnX w B S dv wv D L):
 (∃a c,dv=.slice a S.dur.length c)∧∃a c,wv=.slice a S.pend.length c:=by
 constructor
 ·rcases h.rd.2 with⟨rfl,h0⟩| ⟨g,cap,cur,rfl,_⟩
  ·exact⟨none,0,by rw[h0]⟩
  ·exact⟨_,_,rfl⟩
 ·rcases h.rw.2 with⟨rfl,h0⟩| ⟨g,cap,cur,rfl,_⟩
  ·exact⟨none,0,by rw[h0]⟩
  ·exact⟨_,_,rfl⟩
theorem RefOwnX.operate {wv:Value}{D:List (List UInt8×Value)}{L:List (Nat×List UInt8×Value)} (h:RefOwnX w B S dv wv D L):RefOwnX w B S.operate.1 dv wv D L:=by have e1:=(AN S).1;have e2:=(AN S).2;exact⟨h.dur.trans e2.symm,h.pend.trans e1.symm,by rw[e2];exact h.rd,by rw[e1];exact h.rw,h.rows⟩
theorem Li {Gb:Nat→Prop} (s:Nat) (bv':Value) (l:List UInt8) (h:RefAt w G S v) (hbv:BytesAt w Gb bv' l) (hl:l.length=256) (hok:S.ok) (hd:S.down=false) (hs:s<S.dur.length)
 (hop:S.operate.2=false) (hlen:S.pend.length<100000000) (hops:S.ops<1000000000000) (hlim:S.limit.getD 0≤9223372036854775807):
 Ca 82 #[v,.int .i64 s,bv'] w fun e w'=>∃v',e=.returned (.tuple #[v',.int .i64 (S.write s l).2])∧RefOwn w' w.heap.size (S.write s l).1 v'∧Below w.heap.size w w':=by
 have HH:=Hd h;have HOK:=Hd hok;obtain⟨gb,ob,capb,rfl,_,hgb,hrb⟩:=hbv.some' hl;have hh:S.has s=true:=by simp[DS.has];omega
 have hwr:S.write s l=(S.operate.1,28):=by simp[DS.write,hd,hh,hl,hop]
 rw[hwr];have HOP:=Hd hop;clear hop;obtain⟨dv,wv,rfl,hdu,hw⟩:=h;obtain⟨ad,capd,rfl⟩:=hdu.len;obtain⟨aw,capw,rfl⟩:=hw.len;clear hdu hw hwr hok;unfold A9 at HH⊢;rw[hd]at HH⊢;have hf:=Ea w S (.slice ad S.dur.length capd) (.slice aw S.pend.length capw);rw[hd]at hf;obtain⟨w1,hw1⟩:=Xq ((w.alloc (.cells #[.slice ad S.dur.length capd,.slice aw S.pend.length capw,.int .i64 (Au S),.bool false,.int .i64 (S.ops:Int)] 39)).alloc (.cells #[.slice none 0 0,.slice none 0 0,.int .i64 0,.bool false,.int .i64 0] 39));rw[hw1]at hf;obtain⟨n1,n2,hb⟩:=hf.below Rq;rw[hd]at n1;obtain⟨c0,c1,c2,c3,c4,cf⟩:=Ao n1;obtain⟨HF,HRB,HGB,HLL,HD,HHAS⟩:=Hd6 hf hrb hgb hl hd hh;clear hf n1 n2 hb hrb hgb hl hd hh hbv;go_enter Tryz.func82,Tryz.ntmps82;go_wp2_with fail;clear hw1 c0 c1 c2 c3 c4 cf;refine(Fc (s:Int) (HH.out.below HF.out.b1)).mono ?_;rw[HHAS.out];rintro e w2 ⟨rfl,hb2⟩;have n1:=(HF.out.below hb2).1;rw[HD.out]at n1;obtain⟨c0,c1,c2,c3,c4,cf⟩:=Ao n1;have hbw2:=(HF.out.below hb2).2.2;have HB2:=Hd hb2;have HBW2:=Hd hbw2;clear hb2 hbw2 n1;go_wp2_with fail;have hR2:RefAt w2 G S (A9 S (.slice ad S.dur.length capd) (.slice aw S.pend.length capw)):=by unfold A9;rw[HD.out];exact HH.out.below HBW2.out
 unfold A9 at hR2;rw[HD.out]at hR2;refine(EL hR2 HOK.out hlen).mono ?_;rintro e w3 ⟨v3,rfl,⟨dv',wv',D,L,rfl,hX3⟩,hb3⟩;obtain⟨⟨ad',cd',rfl⟩,⟨aw',cw',rfl⟩⟩:=hX3.slices;have HX3:=Hd hX3;have HB3:=Hd hb3;clear hX3 hb3 hR2 c0 c1 c2 c3 c4 cf;go_wp2_with fail;refine(EZ ad' aw' _ _ cd' cw' hops hlim).mono ?_;rw[HOP.out];rintro e w4 ⟨rfl,hb4⟩;unfold A9;have hb14:Below w1.heap.size w1 w4:=(Tq HB2.out HB3.out).trans (hb4.mono (Nt HB2.out.size HB3.out.size));have n1:=(HF.out.below hb14).1;have n2:=(HF.out.below hb14).2.1;have hbw4:=(HF.out.below hb14).2.2;obtain⟨c0,c1,c2,c3,c4,cf⟩:=Ao n1;have hs1:=HF.out.s1;have hn5:=Bp n1 (.slice ad' S.dur.length cd') (.slice aw' S.pend.length cw') (.int .i64 (Au S.operate.1)) (.bool S.operate.1.down) (.int .i64 (S.operate.1.ops:Int));have hc5:=BH w4 w.heap.size (.slice ad' S.dur.length cd') (.slice aw' S.pend.length cw') (.int .i64 (Au S.operate.1)) (.bool S.operate.1.down) (.int .i64 (S.operate.1.ops:Int));have hw2s:w.heap.size+2≤w2.heap.size:=by have:=HB2.out.size;omega
 obtain⟨w5,hw5⟩:=Xq (put5 w4 w.heap.size (.slice ad' S.dur.length cd') (.slice aw' S.pend.length cw') (.int .i64 (Au S.operate.1)) (.bool S.operate.1.down) (.int .i64 (S.operate.1.ops:Int)));rw[hw5]at hn5 hc5;have hn52:w5.heap[w.heap.size+1]?=_:=(hc5.block _ (by have:=HB3.out.size;have:=hb4.size;omega) (by omega)).trans n2;have hbw5:Below w.heap.size w w5:=hbw4.trans (hc5.below (fun i e=>by omega) hbw4.size);have hX5:RefOwnX w5 w2.heap.size S (.slice ad' S.dur.length cd') (.slice aw' S.pend.length cw') D L:=
  (HX3.out.chg (G:=fun _=>False) (Cb hb4) (fun _ _ h=>h)).chg hc5 (fun i h e=>by omega)
 have hw25:w2.heap.size≤w5.heap.size:=by have:=HB3.out.size;have:=hb4.size;have:=hc5.size;omega
 obtain⟨HN1,HN2,HB5,HX5,HW2,HW25,HW5⟩:=Hd7 hn5 hn52 hbw5 hX5 hw2s hw25 hw5;unfold put5 at hw5;clear hb4 hb14 n1 n2 hbw4 hn5 hn52 hbw5 hX5 hw2s hw25 hs1;have hbx:w.heap.size<w5.heap.size∧(Value.slice aw' S.pend.length cw').ownBlock≠some w.heap.size∧w.heap.size+1<w5.heap.size∧(Value.slice aw' S.pend.length cw').ownBlock≠some (w.heap.size+1):=by
  have h1:=HW2.out;have h2:=HW25.out;refine⟨by omega,fun e=>?_,by omega,fun e=>?_⟩
  ·have:=(Ab HX5.out.rw _ e).1;omega
  ·have:=(Ab HX5.out.rw _ e).1;omega
 have hbox:∀wx,Chg (fun i=>(Value.slice aw' S.pend.length cw').ownBlock=some i) w5 wx→wx.cell? ⟨w.heap.size,1,none⟩=some (.slice aw' S.pend.length cw'):=fun wx hc=>by have h1:=(hc.block _ hbx.1 hbx.2.1).trans HN1.out;exact(Ao h1).2.1
 have hgb5:gb<w5.heap.size:=Nl HGB.out HB5.out.size;have hrb5:w5.rangeAt gb ob (bvs l):=fun j u hu=>(HB5.out.cell (p:=⟨gb,ob+j,none⟩) HGB.out).trans (HRB.out j u hu)
 clear HRB HGB;obtain⟨HRB,HGB,HBX,HBOX⟩:=Hd4 hrb5 hgb5 hbx hbox;clear hbx hbox hgb5 hrb5;obtain⟨x0,x1,x2,x3,x4,xf⟩:=Ao HN1.out;obtain⟨y0,y1,y2,y3,y4,yf⟩:=Ao HN2.out;simp only[Bool.not_false,Bool.not_true];have hfin:=Bp HN2.out (.slice ad' S.dur.length cd') (.slice aw' S.pend.length cw') (.int .i64 (Au S.operate.1)) (.bool S.operate.1.down) (.int .i64 (S.operate.1.ops:Int));have hcf:=BH w5 (w.heap.size+1) (.slice ad' S.dur.length cd') (.slice aw' S.pend.length cw') (.int .i64 (Au S.operate.1)) (.bool S.operate.1.down) (.int .i64 (S.operate.1.ops:Int));have hXf:=HX5.out.operate.chg hcf (fun i h e=>by have:=HW2.out;omega);have hbf:=HB5.out.trans (hcf.below (fun i e=>by omega) HB5.out.size);obtain⟨HXF,HBF,HFIN⟩:=Hd3 hXf hbf hfin;clear hfin hcf hXf hbf;go_wp2_with fail;exact Br (Ay (g:=w.heap.size+1) rfl _ _ _ _ _ _ rfl HFIN.out Tryz.underlying39 rfl CE) rfl ⟨_,rfl,⟨_,_,D,_,rfl,HXF.out.base (by have:=HW2.out;omega)⟩,HBF.out⟩
theorem Mt {Gb:Nat→Prop} (s:Nat) (bv':Value) (l:List UInt8) (h:RefAt w G S v) (hbv:BytesAt w Gb bv' l) (hl:l.length=256) (hok:S.ok) (hd:S.down=false) (hs:s<S.dur.length)
 (hop:S.operate.2=true) (hlen:S.pend.length<100000000) (hops:S.ops<1000000000000) (hlim:S.limit.getD 0≤9223372036854775807):
 Ca 82 #[v,.int .i64 s,bv'] w fun e w'=>∃v',e=.returned (.tuple #[v',.int .i64 (S.write s l).2])∧RefOwn w' w.heap.size (S.write s l).1 v'∧Below w.heap.size w w':=by
 have HH:=Hd h;have HOK:=Hd hok;obtain⟨gb,ob,capb,rfl,_,hgb,hrb⟩:=hbv.some' hl;have hh:S.has s=true:=by simp[DS.has];omega
 have hwr:S.write s l=({S.operate.1 with pend:=S.operate.1.pend++[(s,l)]},0):=by simp[DS.write,hd,hh,hl,hop]
 rw[hwr];have HOP:=Hd hop;clear hop;obtain⟨dv,wv,rfl,hdu,hw⟩:=h;obtain⟨ad,capd,rfl⟩:=hdu.len;obtain⟨aw,capw,rfl⟩:=hw.len;clear hdu hw hwr hok;unfold A9 at HH⊢;rw[hd]at HH⊢;have hf:=Ea w S (.slice ad S.dur.length capd) (.slice aw S.pend.length capw);rw[hd]at hf;obtain⟨w1,hw1⟩:=Xq ((w.alloc (.cells #[.slice ad S.dur.length capd,.slice aw S.pend.length capw,.int .i64 (Au S),.bool false,.int .i64 (S.ops:Int)] 39)).alloc (.cells #[.slice none 0 0,.slice none 0 0,.int .i64 0,.bool false,.int .i64 0] 39));rw[hw1]at hf;obtain⟨n1,n2,hb⟩:=hf.below Rq;rw[hd]at n1;obtain⟨c0,c1,c2,c3,c4,cf⟩:=Ao n1;obtain⟨HF,HRB,HGB,HLL,HD,HHAS⟩:=Hd6 hf hrb hgb hl hd hh;clear hf n1 n2 hb hrb hgb hl hd hh hbv;go_enter Tryz.func82,Tryz.ntmps82;go_wp2_with fail;clear hw1 c0 c1 c2 c3 c4 cf;refine(Fc (s:Int) (HH.out.below HF.out.b1)).mono ?_;rw[HHAS.out];rintro e w2 ⟨rfl,hb2⟩;have n1:=(HF.out.below hb2).1;rw[HD.out]at n1;obtain⟨c0,c1,c2,c3,c4,cf⟩:=Ao n1;have hbw2:=(HF.out.below hb2).2.2;have HB2:=Hd hb2;have HBW2:=Hd hbw2;clear hb2 hbw2 n1;go_wp2_with fail;have hR2:RefAt w2 G S (A9 S (.slice ad S.dur.length capd) (.slice aw S.pend.length capw)):=by unfold A9;rw[HD.out];exact HH.out.below HBW2.out
 unfold A9 at hR2;rw[HD.out]at hR2;refine(EL hR2 HOK.out hlen).mono ?_;rintro e w3 ⟨v3,rfl,⟨dv',wv',D,L,rfl,hX3⟩,hb3⟩;obtain⟨⟨ad',cd',rfl⟩,⟨aw',cw',rfl⟩⟩:=hX3.slices;have HX3:=Hd hX3;have HB3:=Hd hb3;clear hX3 hb3 hR2 c0 c1 c2 c3 c4 cf;go_wp2_with fail;refine(EZ ad' aw' _ _ cd' cw' hops hlim).mono ?_;rw[HOP.out];rintro e w4 ⟨rfl,hb4⟩;unfold A9;have hb14:Below w1.heap.size w1 w4:=(Tq HB2.out HB3.out).trans (hb4.mono (Nt HB2.out.size HB3.out.size));have n1:=(HF.out.below hb14).1;have n2:=(HF.out.below hb14).2.1;have hbw4:=(HF.out.below hb14).2.2;obtain⟨c0,c1,c2,c3,c4,cf⟩:=Ao n1;have hs1:=HF.out.s1;have hn5:=Bp n1 (.slice ad' S.dur.length cd') (.slice aw' S.pend.length cw') (.int .i64 (Au S.operate.1)) (.bool S.operate.1.down) (.int .i64 (S.operate.1.ops:Int));have hc5:=BH w4 w.heap.size (.slice ad' S.dur.length cd') (.slice aw' S.pend.length cw') (.int .i64 (Au S.operate.1)) (.bool S.operate.1.down) (.int .i64 (S.operate.1.ops:Int));have hw2s:w.heap.size+2≤w2.heap.size:=by have:=HB2.out.size;omega
 obtain⟨w5,hw5⟩:=Xq (put5 w4 w.heap.size (.slice ad' S.dur.length cd') (.slice aw' S.pend.length cw') (.int .i64 (Au S.operate.1)) (.bool S.operate.1.down) (.int .i64 (S.operate.1.ops:Int)));rw[hw5]at hn5 hc5;have hn52:w5.heap[w.heap.size+1]?=_:=(hc5.block _ (by have:=HB3.out.size;have:=hb4.size;omega) (by omega)).trans n2;have hbw5:Below w.heap.size w w5:=hbw4.trans (hc5.below (fun i e=>by omega) hbw4.size);have hX5:RefOwnX w5 w2.heap.size S (.slice ad' S.dur.length cd') (.slice aw' S.pend.length cw') D L:=
  (HX3.out.chg (G:=fun _=>False) (Cb hb4) (fun _ _ h=>h)).chg hc5 (fun i h e=>by omega)
 have hw25:w2.heap.size≤w5.heap.size:=by have:=HB3.out.size;have:=hb4.size;have:=hc5.size;omega
 obtain⟨HN1,HN2,HB5,HX5,HW2,HW25,HW5⟩:=Hd7 hn5 hn52 hbw5 hX5 hw2s hw25 hw5;unfold put5 at hw5;clear hb4 hb14 n1 n2 hbw4 hn5 hn52 hbw5 hX5 hw2s hw25 hs1;have hbx:w.heap.size<w5.heap.size∧(Value.slice aw' S.pend.length cw').ownBlock≠some w.heap.size∧w.heap.size+1<w5.heap.size∧(Value.slice aw' S.pend.length cw').ownBlock≠some (w.heap.size+1):=by
  have h1:=HW2.out;have h2:=HW25.out;refine⟨by omega,fun e=>?_,by omega,fun e=>?_⟩
  ·have:=(Ab HX5.out.rw _ e).1;omega
  ·have:=(Ab HX5.out.rw _ e).1;omega
 have hbox:∀wx,Chg (fun i=>(Value.slice aw' S.pend.length cw').ownBlock=some i) w5 wx→wx.cell? ⟨w.heap.size,1,none⟩=some (.slice aw' S.pend.length cw'):=fun wx hc=>by have h1:=(hc.block _ hbx.1 hbx.2.1).trans HN1.out;exact(Ao h1).2.1
 have hgb5:gb<w5.heap.size:=Nl HGB.out HB5.out.size;have hrb5:w5.rangeAt gb ob (bvs l):=fun j u hu=>(HB5.out.cell (p:=⟨gb,ob+j,none⟩) HGB.out).trans (HRB.out j u hu)
 clear HRB HGB;obtain⟨HRB,HGB,HBX,HBOX⟩:=Hd4 hrb5 hgb5 hbx hbox;clear hbx hbox hgb5 hrb5;obtain⟨x0,x1,x2,x3,x4,xf⟩:=Ao HN1.out;obtain⟨y0,y1,y2,y3,y4,yf⟩:=Ao HN2.out;simp only[Bool.not_false,Bool.not_true];go_wp2_with fail;clear x0 x1 x2 x3 x4 xf y0 y1 y2 y3 y4 yf;refine Np ?_;refine AY 10 (Chg (fun i=>(Value.slice aw' S.pend.length cw').ownBlock=some i) w5) (by kernel_rfl) ?_;have hS0:(Chg (fun i=>(Value.slice aw' S.pend.length cw').ownBlock=some i) w5) w5.drew:=(Chg.refl _ w5).drew;refine tkF 0 hS0 ?_ (v:=.pointer (some ⟨w.heap.size,1,none⟩)) (hy:=fun w' hw'=>by go_simp);refine tkF 1 hS0 ?_ (v:=.slice aw' S.pend.length cw') (hy:=fun w' hw'=>by(have h4:=HBOX.out w' hw';clear hw';go_simp));refine tkF 2 hS0 ?_ (v:=.int .i64 s) (hy:=fun w' hw'=>by rfl);refine tkF 4 hS0 ?_ (v:=.slice (some ⟨gb,ob,none⟩) 256 capb) (hy:=fun w' hw'=>by rfl);refine dF 3 fun K hK=>?_
 go_simp;have hS1:(Chg (fun i=>(Value.slice aw' S.pend.length cw').ownBlock=some i) w5) (w5.drew.alloc (.cells #[] 5)):=hS0.trans (Chg.alloc _ _) (fun _ h=>.inl h);refine Kq hK (fun _=>hS1) ?_;refine dF 5 fun K hK=>?_
 refine Im (wr:=w5.drew) (.tmp 32) (.tmp 33) rfl rfl gb ob capb l rfl HRB.out HGB.out HLL.out ?_;intro g' cap' w6 hg1 hg2 ho2 hb6;have hS2:(Chg (fun i=>(Value.slice aw' S.pend.length cw').ownBlock=some i) w5) w6:=hS0.trans (Cb hb6) (fun _ h=>.inl h);refine Kq hK (fun _=>hS2) ?_;refine dF 6 fun K hK=>?_
 go_simp;refine hK _ _ (fun _=>hS2) ?_;refine dF 7 fun K hK=>?_
 go_simp;obtain⟨w7,hw7⟩:=Xq (w6.alloc (.cells #[.int .i64 s,.slice (some ⟨g',0,none⟩) 256 cap'] 84));have hb7:=Lq hw7;have hn7:=Nq hw7 rfl;have hb57:Below w5.heap.size w5 w7:=((Below.refl _ w5).drew.trans hb6).trans (hb7.mono hb6.size);have ho3:w7.ownsRow w5.drew.heap.size 5 1 (.slice (some ⟨g',0,none⟩) 256 cap') 256 (bvs l):=AT (G:=fun _=>False) ho2 (Cb hb7) (fun _ _ _ h=>h);have hX7:RefOwnX w7 w2.heap.size S (.slice ad' S.dur.length cd') (.slice aw' S.pend.length cw') D L:=HX5.out.chg (G:=fun _=>False) (Cb hb57) (fun _ _ h=>h);rw[hw7];refine Kq hK (fun _=>Cb hb57) ?_;refine dF 8 fun K hK=>?_
 refine NQ (.tmp 30) (.tmp 36) rfl rfl hX7.rw w6.heap.size rfl hn7 rfl rfl (by omega) (Nt HW25.out hb57.size) ?_;intro gg capg w8 hlt8 hown8 hgrow8 hat8;have hc8:(Chg (fun i=>(Value.slice aw' S.pend.length cw').ownBlock=some i) w5) w8:=(Cb hb57).trans (Chg.grown (F:=fun i=>(Value.slice aw' S.pend.length cw').ownBlock=some i) hgrow8 (fun i e=>.inl e)) (fun _ h=>.inl h);refine Kq hK (fun _=>hc8) ?_;have hc78:Chg (fun i=>(Value.slice aw' S.pend.length cw').ownBlock=some i) w7 w8:=Chg.grown hgrow8 (fun i e=>.inl e);have ho8:w8.ownsRow w2.heap.size 5 1 (.slice (some ⟨g',0,none⟩) 256 cap') 256 (bvs l):=
  Am (AJ ho3 hc78 (fun i e e2=>BG hX7.rw ho3 (by decide) i e2 e)) HW25.out
 have hX8:RefOwnX w8 w2.heap.size {S.operate.1 with pend:=S.operate.1.pend++[(s,l)]} (.slice ad' S.dur.length cd') (.slice (some ⟨gg,0,none⟩) (S.pend.length+1) capg) D (L++[(s,l,.slice (some ⟨g',0,none⟩) 256 cap')]):=by
  have e1:=(AN S).1;have e2:=(AN S).2;refine⟨by rw[hX7.dur];exact e2.symm,by rw[List.map_append,hX7.pend,←e1];rfl,?_,?_,?_⟩
  ·show w8.ownsRow _ _ _ _ S.operate.1.dur.length _;rw[e2];exact AJ hX7.rd hc78 (fun i e e3=>BG hX7.rw hX7.rd (by decide) i e3 e)
  ·show w8.ownsRow _ _ _ _ (S.operate.1.pend++[(s,l)]).length _;rw[e1,List.length_append];simpa[DU]using hown8
  ·have hr:Rows w8 w2.heap.size (D++L.map (·.2)):=hX7.rows.kept hc78 (fun x hx i e e3=>by obtain⟨_,g,cap,_,hr⟩:=hX7.rows.row x hx;exact BG hX7.rw hr (by decide) i e3 e)
   have hp:=hr.push (l:=l) HLL.out ho8 (fun x hx e=>by obtain⟨_,g,cap,_,hr5⟩:=HX5.out.rows.row x hx;have h3:=(Ab hr5 g' e).2;have h2:w5.heap.size≤g':=hg1;omega)
   simpa using hp
 have hbox8:w8.heap[w.heap.size]?=w5.heap[w.heap.size]?:=hc8.block _ HBX.out.1 HBX.out.2.1;have hres8:w8.heap[w.heap.size+1]?=w5.heap[w.heap.size+1]?:=hc8.block _ HBX.out.2.2.1 HBX.out.2.2.2;have hn81:=hbox8.trans HN1.out;have hn82:=hres8.trans HN2.out;have hsz8:w5.heap.size≤w8.heap.size:=hc8.size;have hb28:Below w.heap.size w w8:=HB5.out.trans (hc8.below (fun i e=>by have:=(Ab HX5.out.rw i e).1;have:=HW2.out;omega) HB5.out.size);obtain⟨x0,x1,x2,x3,x4,xf⟩:=Ao hn81;refine dF 9 fun K hK=>?_
 go_simp;refine Kq hK (fun _=>hc8) ?_;refine dF 10 fun K hK=>?_
 go_simp;refine hK _ _ (fun h=>absurd rfl h) ?_;refine eF ?_;obtain⟨w9,hw9⟩:=Xq (w8.setCell ⟨w.heap.size,1,none⟩ (.slice (some ⟨gg,0,none⟩) (S.pend.length+1) capg));have hc9:Chg (fun i=>i=w.heap.size) w8 w9:=hw9▸Chg.setCell (F:=fun i=>i=w.heap.size) w8 _ rfl;have hn91:w9.heap[w.heap.size]?=some (.cells #[.slice ad' S.dur.length cd',.slice (some ⟨gg,0,none⟩) (S.pend.length+1) capg,.int .i64 (Au S.operate.1),.bool S.operate.1.down,.int .i64 (S.operate.1.ops:Int)] 39 (0,0)):=by rw[←hw9,Sc _ _ _ _ _ _ hn81];rfl
 have hn92:w9.heap[w.heap.size+1]?=_:=(hc9.block _ (by have:=HBX.out.2.2.1;omega) (by omega)).trans hn82;have hb29:Below w.heap.size w w9:=hb28.trans (hc9.below (fun i e=>by omega) hb28.size);have hX9:=hX8.chg hc9 (fun i h e=>by have:=HW2.out;omega);rw[hw9];clear hw9 hn81 hn82 hbox8 hres8 x0 x1 x2 x3 x4 xf hX8 hX7 ho8 ho3 hc78 hown8 hgrow8 hat8 hlt8 hn7 hb7 hw7 hS1 hS2 hb57 ho2 hb6 hg1 hg2 hc8 hS0 hc9 hb28;obtain⟨x0,x1,x2,x3,x4,xf⟩:=Ao hn91;obtain⟨y0,y1,y2,y3,y4,yf⟩:=Ao hn92;have hfin:=Bp hn92 (.slice ad' S.dur.length cd') (.slice (some ⟨gg,0,none⟩) (S.pend.length+1) capg) (.int .i64 (Au S.operate.1)) (.bool S.operate.1.down) (.int .i64 (S.operate.1.ops:Int));have hcf:=BH w9 (w.heap.size+1) (.slice ad' S.dur.length cd') (.slice (some ⟨gg,0,none⟩) (S.pend.length+1) capg) (.int .i64 (Au S.operate.1)) (.bool S.operate.1.down) (.int .i64 (S.operate.1.ops:Int));have hXf:=hX9.chg hcf (fun i h e=>by have:=HW2.out;omega);have hbf:=hb29.trans (hcf.below (fun i e=>by omega) hb29.size);obtain⟨HXF,HBF,HFIN⟩:=Hd3 hXf hbf hfin;clear hfin hcf hXf hbf hX9 hb29 hn91 hn92;go_wp2_with fail;exact Br (Ay (g:=w.heap.size+1) rfl _ _ _ _ _ _ rfl HFIN.out Tryz.underlying39 rfl CE) rfl ⟨_,rfl,⟨_,_,D,_,rfl,HXF.out.base (by have:=HW2.out;omega)⟩,HBF.out⟩
variable {g:Nat}{l:List UInt8}
theorem Lj (hg:w.heap[g]?=some (.cells (bvs l).toArray T (0,0))) (hl:l.length=n) (hB:B≤g) (hn:n≤maxLen):
 w.ownsRow B T 1 (.slice (some ⟨g,0,none⟩) n n) n (bvs l):=
 ⟨by simp[hl],.inr ⟨g,n,_,rfl,hB,hg,Nat.le_refl _,hn,by simp[hl],by rw[List.take_of_length_le (by simp[hl])]⟩⟩
theorem RefOwnX.pushDur {wv:Value}{D:List (List UInt8×Value)} (h:RefOwnX w B (A2 n) dv wv D []) {gg capg g:Nat}
 (hown:w'.ownsRow B 30 1 (.slice (some ⟨gg,0,none⟩) ((A2 n).dur.length+1) capg) ((A2 n).dur.length+1) (D.map (·.2)++[.slice (some ⟨g,0,none⟩) 256 256])) (hgrow:w.grownBy w' dv.ownBlock) (hB:B≤g)
 (hg:w.heap[g]?=some (.cells (bvs zeros).toArray 5 (0,0))) (hn:∀x∈D++([]:List (Nat×List UInt8×Value)).map (·.2),x.2.ownBlock≠some g):
 RefOwnX w' B (A2 (n+1)) (.slice (some ⟨gg,0,none⟩) (n+1) capg) wv (D++[(zeros,.slice (some ⟨g,0,none⟩) 256 256)]) []:=by
 have hc:Chg (fun i=>dv.ownBlock=some i) w w':=Chg.grown hgrow (fun i e=>.inl e);have e1:(A2 (n+1)).dur.length=(A2 n).dur.length+1:=by simp[A2]
 have e2:(A2 n).dur.length=n:=by simp[A2]
 have hgr:w.ownsRow B 5 1 (.slice (some ⟨g,0,none⟩) 256 256) 256 (bvs zeros):=Lj hg AW hB (by decide);have hgn:dv.ownBlock≠some g:=fun e=>BG h.rd hgr (by decide) g e rfl
 refine⟨?_,h.pend,?_,?_,?_⟩
 ·rw[List.map_append,h.dur];simp[A2,List.replicate_succ']
 ·rw[e1];rw[e2]at hown⊢;simpa using hown
 ·exact AJ h.rw hc (fun i e e3=>BG h.rd h.rw (by decide) i e3 e)
 ·have hr:Rows w' B (D++([]:List (Nat×List UInt8×Value)).map (·.2)):=h.rows.kept hc (fun x hx i e e3=>by obtain⟨_,g,cap,_,hr⟩:=h.rows.row x hx;exact BG h.rd hr (by decide) i e3 e)
  have hp:=hr.push (l:=zeros) AW (AJ hgr hc (fun i e e3=>hgn (by rw[e3,←e];rfl))) hn;simpa using hp
theorem OP (n:Nat) (w:World) (h1:1≤n) (h2:n≤4096):
 Ca 22 #[.int .i64 n] w fun e w'=>∃v,e=.returned (.tuple #[v,.int .i64 0])∧RefOwn w' w.heap.size (A2 n) v∧Below w.heap.size w w':=by
 have h1':¬(n:Int)<1:=by omega
 have h2':¬4096<(n:Int):=by omega
 have hmk:=Rv;go_enter Tryz.func22,Tryz.ntmps22;go_wp2_with fail;go_loopw [5] (fun i wr=>∃(k:Nat) (dv:Value) (D:List (List UInt8×Value)),k≤n∧i=.int .i64 k∧wr.heap[w.heap.size+1]?=some (.cells #[dv,.slice none 0 0,.int .i64 (-1),.bool false,.int .i64 0] 39 (0,0))∧
  wr.heap[w.heap.size]?=some (.cells #[.slice none 0 0,.slice none 0 0,.int .i64 0,.bool false,.int .i64 0] 39 (0,0))∧RefOwnX wr (w.heap.size+2) (A2 k) dv (.slice none 0 0) D []∧Below w.heap.size w wr)
  (fun i _=>n-(intOf i).toNat)
 case atStart=>
  have hs2:=Sz w (.cells #[.slice none 0 0,.slice none 0 0,.int .i64 0,.bool false,.int .i64 0] 39);refine⟨0,.slice none 0 0,[],Nat.zero_le _,rfl,?_,?_,⟨by simp[A2],rfl,World.ownsRow_nil _ _ _ _,World.ownsRow_nil _ _ _ _,⟨by simp,by simp⟩⟩,?_⟩
  ·exact heap_alloc2_new _ _ _
  ·exact heap_alloc2_old _ _ _
  ·exact(Rq.alloc Lr _).alloc (by simp) _
 case round=>
  obtain⟨k,dv,D,hk,rfl,hn,hr,hX,hB⟩:=hrel;obtain⟨x0,x1,x2,x3,x4,xf⟩:=Ao hn;have hlt0:w.heap.size+1<wr.heap.size:=(Ax hn).1;obtain⟨HN,HR,HX,HB,HLT⟩:=Hd5 hn hr hX hB hlt0;clear hn hr hX hB hlt0;by_cases hlt:k<n
  ·go_wp2_with fail;clear x1 x2 x3 x4;refine Np ?_;refine AY 6 (fun w'=>w'.cell? ⟨w.heap.size+1,0,none⟩=some dv) (by kernel_rfl) ?_;have hS0:(fun w'=>w'.cell? ⟨w.heap.size+1,0,none⟩=some dv) wr.drew:=x0;refine tkF 0 hS0 ?_;refine tkF 1 hS0 ?_ (v:=dv) (hy:=fun w' hw'=>by(have h4:=hw';clear hw';first| (go_simp;rfl)| (go_simp;done)));refine dF 2 fun K hK=>?_
   go_simp;obtain⟨w2,hw2⟩:=Xq ((wr.alloc (.cells (bvs zeros).toArray 5)).drew);have hb2:Below wr.heap.size wr w2:=hw2▸((Below.refl _ wr).alloc Lr _).drew;have hg2:w2.heap[wr.heap.size]?=some (.cells (bvs zeros).toArray 5 (0,0)):=by rw[←hw2];exact heap_alloc_new wr _
   have hl2:w2.heap.size=wr.heap.size+1:=by rw[←hw2];exact Sz _ _
   have HL2:=Hd hl2;clear hl2;have q2:w2.cell? ⟨w.heap.size+1,0,none⟩=some dv:=(hb2.cell (p:=⟨w.heap.size+1,0,none⟩) HLT.out).trans x0;rw[hw2];refine Kq hK (fun _=>q2) ?_;refine dF 3 fun K hK=>?_
   go_simp;obtain⟨w3,hw3⟩:=Xq (w2.alloc (.cells #[.slice (some ⟨wr.heap.size,0,none⟩) 256 256] 30));have hb3:Below w2.heap.size w2 w3:=hw3▸(Below.refl _ w2).alloc Lr _;have hn3:w3.heap[w2.heap.size]?=some (.cells #[.slice (some ⟨wr.heap.size,0,none⟩) 256 256] 30 (0,0)):=by rw[←hw3];exact heap_alloc_new w2 _
   have hbr3:Below wr.heap.size wr w3:=Tq hb2 hb3;have q3:w3.cell? ⟨w.heap.size+1,0,none⟩=some dv:=(hbr3.cell (p:=⟨w.heap.size+1,0,none⟩) HLT.out).trans x0;have hg3:w3.heap[wr.heap.size]?=_:=(hb3.block _ (by have:=HL2.out;omega)).trans hg2;have hX3:RefOwnX w3 (w.heap.size+2) (A2 k) dv (.slice none 0 0) D []:=HX.out.chg (G:=fun _=>False) (Cb hbr3) (fun _ _ h=>h);rw[hw3];refine Kq hK (fun _=>q3) ?_;refine dF 4 fun K hK=>?_
   refine KY (.tmp 20) (.tmp 22) rfl rfl hX3.rd w2.heap.size rfl hn3 rfl (by have h9:(A2 k).dur.length=k:=List.length_replicate;omega) (by have:=hbr3.size;have:=HLT.out;omega) ?_;intro gg capg w4 hlt4 hown4 hgrow4 hat4;have hX4:=hX3.pushDur hown4 hgrow4 (by have:=HLT.out;omega) hg3 (fun x hx e=>by obtain⟨_,g,cap,_,hr⟩:=HX.out.rows.row x hx;have:=(Ab hr _ e).2;omega)
   have hne4:dv.ownBlock≠some (w.heap.size+1):=fun e=>by have:=(Ab HX.out.rd _ e).1;omega
   have hne4':dv.ownBlock≠some w.heap.size:=fun e=>by have:=(Ab HX.out.rd _ e).1;omega
   have hbd4:w4.heap[w.heap.size+1]?=_:=(hgrow4.block _ (by have:=HLT.out;have:=hbr3.size;omega) (Ne.symm hne4)).trans ((hbr3.block _ HLT.out).trans HN.out);have hbr4:w4.heap[w.heap.size]?=_:=(hgrow4.block _ (by have:=HLT.out;have:=hbr3.size;omega) (Ne.symm hne4')).trans ((hbr3.block _ (by have:=HLT.out;omega)).trans HR.out);have q4:w4.cell? ⟨w.heap.size+1,0,none⟩=some dv:=(Ao hbd4).1;have f4:w4.frozen? ⟨w.heap.size+1,0,none⟩=false:=(Ao hbd4).2.2.2.2.2 0;have hb4:Below w.heap.size w w4:=(Tq HB.out hbr3).grown hgrow4 (Nt HB.out.size hbr3.size) (fun i e=>by have:=(Ab HX.out.rd _ e).1;omega);refine Kq hK (fun _=>q4) ?_;refine dF 5 fun K hK=>?_
   go_simp;refine Kq hK (fun _=>q4) ?_;refine dF 6 fun K hK=>?_
   go_simp;refine hK _ _ (fun h=>absurd rfl h) ?_;refine eF ?_;obtain⟨w5,hw5⟩:=Xq (w4.setCell ⟨w.heap.size+1,0,none⟩ (.slice (some ⟨gg,0,none⟩) ((A2 k).dur.length+1) capg));have hc5:Chg (fun i=>i=w.heap.size+1) w4 w5:=hw5▸Chg.setCell (F:=fun i=>i=w.heap.size+1) w4 _ rfl;have e2:(A2 k).dur.length=k:=List.length_replicate;have hn5:w5.heap[w.heap.size+1]?=some (.cells #[.slice (some ⟨gg,0,none⟩) (k+1) capg,.slice none 0 0,.int .i64 (-1),.bool false,.int .i64 0] 39 (0,0)):=by rw[←hw5,Sc _ _ _ _ _ _ hbd4,e2];rfl
   have hr5:w5.heap[w.heap.size]?=_:=(hc5.block _ (by have:=hb4.size;have:=HLT.out;have:=hgrow4.size;have:=hbr3.size;omega) (by omega)).trans hbr4;have hb5:Below w.heap.size w w5:=hb4.trans (hc5.below (fun i e=>by omega) hb4.size);have hX5:=hX4.chg hc5 (fun i h e=>by omega);rw[hw5];obtain⟨HN5,HR5,HB5,HX5⟩:=Hd4 hn5 hr5 hb5 hX5;clear hw5 hc5 hn5 hr5 hb5 hX5 e2 hX4 hX3 hown4 hgrow4 hat4 hlt4 hb4 q4 f4 hbd4 hbr4 hne4 hne4' hbr3 hn3 hb3 hw3 hg3 q3 q2 hg2 hb2 hw2 hS0 x0 xf hmk;go_wp2_with fail;go_roundw
   case rel=>exact⟨k+1,_,_,by omega,by go_num,HN5.out,HR5.out,HX5.out,HB5.out⟩
   case measure=>simp[intOf];omega
  ·obtain rfl :k=n:=by omega
   obtain⟨y0,y1,y2,y3,y4,yf⟩:=Ao HR.out;have hfin:=Bp HR.out dv (.slice none 0 0) (.int .i64 (-1)) (.bool false) (.int .i64 0);have hcf:=BH wr w.heap.size dv (.slice none 0 0) (.int .i64 (-1)) (.bool false) (.int .i64 0);have hXf:=(HX.out.chg hcf (fun i h e=>by omega)).base (B':=w.heap.size) (by omega);have hbf:=HB.out.trans (hcf.below (fun i e=>by omega) HB.out.size);obtain⟨HXF,HBF,HFIN⟩:=Hd3 hXf hbf hfin;have hdv:∃a c,dv=.slice a k c:=by have:=HX.out.slices.1;simpa[A2]using this
   obtain⟨da,dc,rfl⟩:=hdv;clear hfin hcf hXf hbf hmk;go_wp2_with fail;exact Br (Ay (g:=w.heap.size) rfl _ _ _ _ _ _ rfl HFIN.out Tryz.underlying39 rfl CE) rfl ⟨_,rfl,⟨_,_,D,_,rfl,HXF.out⟩,HBF.out⟩
def DS.flushAt (S:DS) (k:Nat):DS:={S.operate.1 with dur:=((List.range S.dur.length).map S.visible).take k++S.dur.drop k}
theorem C1 (S:DS) (k:Nat):(S.flushAt k).dur.length=S.dur.length:=by simp only[DS.flushAt,List.length_append,List.length_take,List.length_map,List.length_range,List.length_drop];omega
theorem Db (S:DS) (k:Nat):(S.flushAt k).pend=S.pend:=(AN S).1
theorem OQ (S:DS) (k:Nat) (hk:k<S.dur.length):(S.flushAt k).dur.getD k zeros=S.dur.getD k zeros:=by
 have hl:(((List.range S.dur.length).map S.visible).take k).length=k:=by simp;omega
 simp only[DS.flushAt,List.getD_eq_getElem?_getD];rw[List.getElem?_append_right (by omega),hl,Nat.sub_self,List.getElem?_drop,Nat.add_zero]
theorem Ng (S:DS) (k:Nat) (hk:k<S.dur.length):(S.flushAt k).visible k=S.visible k:=by unfold DS.visible;rw[Db,OQ S k hk]
theorem G6 (h:S.ok) (k:Nat):(S.flushAt k).ok:=by
 refine⟨fun x hx=>?_,fun x hx=>?_,by rw[C1];exact h.most⟩
 ·rcases List.mem_append.1 hx with hx|hx
  ·obtain⟨i,hi,rfl⟩:=List.mem_map.1 (List.mem_of_mem_take hx);exact BL h (List.mem_range.1 hi)
  ·exact h.dur _ (List.mem_of_mem_drop hx)
 ·rw[Db]at hx;rw[C1];exact h.pend x hx
theorem RefOwnX.flush0 {wv:Value}{D:List (List UInt8×Value)}{L:List (Nat×List UInt8×Value)} (h:RefOwnX w B S dv wv D L):RefOwnX w B (S.flushAt 0) dv wv D L:=by
 have e:(S.flushAt 0).dur=S.dur:=by simp[DS.flushAt]
 exact⟨h.dur.trans e.symm,h.pend.trans (Db S 0).symm,by rw[e];exact h.rd,by rw[Db];exact h.rw,h.rows⟩
theorem Mu (S:DS) (k:Nat) (hk:k<S.dur.length):(S.flushAt k).dur.set k (S.visible k)=(S.flushAt (k+1)).dur:=by
 simp only[DS.flushAt];apply List.ext_getElem?;intro i;rw[List.getElem?_set];simp only[List.length_append,List.length_take,List.length_map,List.length_range,List.length_drop,List.getElem?_append,List.getElem?_take,List.getElem?_map,List.getElem?_drop];by_cases h1:k=i
 ·subst h1;rw[Ip rfl,Ip (by omega),Ip (by omega),Ip (by omega)];simp[hk]
 ·rw[In h1];by_cases h2:i<k
  ·rw[Ip (by omega),Ip h2,Ip (by omega),Ip (by omega)]
  ·rw[In (by omega),In (by omega)]
   congr 1
   omega
theorem Mv (S:DS):∀k,k≤S.pend.length→(∀x∈S.pend,x.1<S.dur.length)→B7 S k=(List.range S.dur.length).map (fun s=>(CO (S.pend.take k) s).getD (S.dur.getD s zeros))
 |0,_,_=>by
  apply List.ext_getElem?;intro i;simp only[B7,rdur,List.take_zero,List.getElem?_map];by_cases hi:i<S.dur.length
  ·simp[hi,CO]
  ·simp[hi]
 |k+1,hk,hp=>by
  rw[Kw S k (by omega),Mv S k (by omega) hp];apply List.ext_getElem?;intro i;have hpk:=hp S.pend[k] (List.getElem_mem _);rw[List.getElem?_set];simp only[List.length_map,List.length_range,List.getElem?_map];by_cases hi:i<S.dur.length
  ·rw[List.getElem?_range hi];simp only[Option.map_some];rw[KX _ _ _ (by omega)];by_cases h1:S.pend[k].1=i
   ·subst h1;simp[hi]
   ·simp[h1]
  ·have h1:S.pend[k].1≠i:=by omega
   simp[hi,h1]
theorem Nh (h:S.ok):(S.flushAt S.dur.length).dur=B7 S S.pend.length:=by rw[Mv S _ Lr (fun x hx=>(h.pend x hx).1)];simp only[DS.flushAt,List.drop_length,List.append_nil,List.take_length];rw[List.take_of_length_le (by simp)];rfl
theorem IX {cap:Nat}{xs:List Value} (h:w.ownsRow B T 1 (.slice (some ⟨g,0,none⟩) n cap) n xs) {i:Nat} (u:Value):
 (w.setCell ⟨g,i,none⟩ u).ownsRow B T 1 (.slice (some ⟨g,0,none⟩) n cap) n (xs.set i u):=by
 refine⟨by rw[List.length_set];exact h.1,.inr ?_⟩;rcases h.2 with⟨e,_⟩| ⟨g',cap',cur,e,hb,hg,h1,h2,h3,h4⟩
 ·cases e
 ·simp only[Value.slice.injEq,Option.some.injEq,Addr.mk.injEq]at e;obtain⟨⟨rfl,_⟩,_,rfl⟩:=e;exact⟨g,cap,_,rfl,hb,Sc _ _ _ _ _ _ hg,h1,h2,by simpa using h3,by rw[Array.toList_setIfInBounds,List.take_set,h4]⟩
theorem KZ {α:Type}{a:α} :∀{l:List α} {i:Nat},l.Nodup→a∉l→(l.set i a).Nodup
 | [],_,_,_=>by simp
 |b::l,0,h,ha=>by
  simp only[List.set_cons_zero,List.nodup_cons]at h⊢;exact⟨fun hm=>ha (List.mem_cons_of_mem _ hm),h.2⟩
 |b::l,i+1,h,ha=>by
  simp only[List.set_cons_succ,List.nodup_cons]at h⊢;refine⟨fun hm=>?_,KZ h.2 (fun hm=>ha (List.mem_cons_of_mem _ hm))⟩;rcases List.mem_or_eq_of_mem_set hm with h1|h1
  ·exact h.1 h1
  ·exact ha (by rw[h1];simp)
theorem RT {D:List (List UInt8×Value)} (h:Rows w B D) {x:List UInt8×Value} (hx:x∈D) (g:Nat) (e:x.2.ownBlock=some g):g<w.heap.size:=by obtain⟨_,g',cap,_,hr⟩:=h.row x hx;exact(Ab hr g e).2
theorem Rows.setL {D L:List (List UInt8×Value)} (h:Rows w B (D++L)) {k:Nat} {l:List UInt8} {u:Value} (hl:l.length=256) (hu:∃g cap,u=.slice (some ⟨g,0,none⟩) 256 cap) (hr:w.ownsRow B 5 1 u 256 (bvs l))
 (hn:∀x∈D++L,x.2.ownBlock≠u.ownBlock):Rows w B (D.set k (l,u)++L):=by
 refine⟨fun x hx=>?_,?_⟩
 ·rcases List.mem_append.1 hx with hx|hx
  ·rcases List.mem_or_eq_of_mem_set hx with h1|h1
   ·exact h.row x (List.mem_append.2 (.inl h1))
   ·subst h1;obtain⟨g,cap,e⟩:=hu;exact⟨hl,g,cap,e,hr⟩
  ·exact h.row x (List.mem_append.2 (.inr hx))
 ·have h1:=h.nodup;rw[List.map_append]at h1⊢;by_cases hk:k<D.length
  ·have e:(D.set k (l,u)).map (fun x=>x.2.ownBlock)++L.map (fun x=>x.2.ownBlock)=(D.map (fun x=>x.2.ownBlock)++L.map (fun x=>x.2.ownBlock)).set k u.ownBlock:=by rw[List.map_set,List.set_append_left _ _ (by simpa using hk)]
   rw[e];refine KZ h1 (fun hm=>?_);rw[←List.map_append]at hm;obtain⟨x,hx,e⟩:=List.mem_map.1 hm;exact hn x hx e
  ·rw[List.set_eq_of_length_le (by omega)];exact h1
theorem RefOwnX.setDur {B':Nat}{gd cd:Nat}{wv:Value}{D:List (List UInt8×Value)}{L:List (Nat×List UInt8×Value)} (h:RefOwnX w B S (.slice (some ⟨gd,0,none⟩) n cd) wv D L) {k:Nat} {l l':List UInt8} {u:Value} (hk:k<S.dur.length)
 (hu:w.ownsRow B' 5 1 u 256 (bvs l')) (hll:l'=l) (hl:l.length=256) (hB:B≤B') (hn:∀x∈D++L.map (·.2),x.2.ownBlock≠u.ownBlock):
 RefOwnX (w.setCell ⟨gd,k,none⟩ u) B {S with dur:=S.dur.set k l} (.slice (some ⟨gd,0,none⟩) n cd) wv (D.set k (l,u)) L∧(∃c,w.cell? ⟨gd,k,none⟩=some c)∧w.frozen? ⟨gd,k,none⟩=false:=by
 subst hll;have hne:n=S.dur.length:=by
  rcases h.rd.2 with⟨e,_⟩| ⟨g',cap',cur,e,_⟩
  ·cases e
  ·simp only[Value.slice.injEq]at e;exact e.2.1
 subst hne;have hu1:∃g cap,u=.slice (some ⟨g,0,none⟩) 256 cap:=by
  rcases hu.2 with⟨_,e⟩| ⟨g',cap',cur,e,_⟩
  ·cases e
  ·exact⟨g',cap',e⟩
 have hc:Chg (fun i=>i=gd) w (w.setCell ⟨gd,k,none⟩ u):=Chg.setCell (F:=fun i=>i=gd) w _ rfl;have hgd:(Value.slice (some ⟨gd,0,none⟩) S.dur.length cd).ownBlock=some gd:=rfl;refine⟨⟨?_,h.pend,?_,?_,?_⟩,?_,?_⟩
 ·rw[List.map_set,h.dur]
 ·have:=IX h.rd (i:=k) u;rw[List.map_set];show World.ownsRow _ _ _ _ _ (S.dur.set k l').length _;rw[List.length_set];exact this
 ·exact AJ h.rw hc (fun i e e3=>BG h.rd h.rw (by decide) i (by rw[e3];rfl) e)
 ·refine(h.rows.kept hc (fun x hx i e e3=>?_)).setL hl hu1 (Am (AJ hu hc (fun i e e3=>?_)) hB) hn
  ·obtain⟨_,g,cap,_,hr⟩:=h.rows.row x hx;exact BG h.rd hr (by decide) i (by rw[e3];rfl) e
  ·exact BG h.rd hu (by decide) i (by rw[e3];rfl) e
 ·have hlD:D.length=S.dur.length:=by rw[←h.dur,List.length_map]
  obtain⟨g,cap,e,_,_,hcc⟩:=AZ h.rd (by omega);simp only[Value.slice.injEq,Option.some.injEq,Addr.mk.injEq]at e;obtain⟨⟨rfl,_⟩,_,rfl⟩:=e;exact⟨_,hcc k _ (by rw[List.getElem?_map,List.getElem?_eq_getElem (by omega)];rfl)⟩
 ·rcases h.rd.2 with⟨e,_⟩| ⟨g',cap',cur,e,_,hg,_⟩
  ·cases e
  ·simp only[Value.slice.injEq,Option.some.injEq,Addr.mk.injEq]at e;obtain⟨⟨rfl,_⟩,_,rfl⟩:=e;exact frozen_of_row w _ _ _ _ hg
theorem RefOwnX.noPend {wv:Value}{D:List (List UInt8×Value)}{L:List (Nat×List UInt8×Value)} (h:RefOwnX w B S dv wv D L):RefOwnX w B {S with pend:=[]} dv (.slice none 0 0) D []:=by refine⟨h.dur,rfl,h.rd,World.ownsRow_nil _ _ _ _,⟨fun x hx=>h.rows.row x (List.mem_append.2 (.inl (by simpa using hx))),?_⟩⟩;have:=h.rows.nodup;rw[List.map_append]at this;simpa using(List.nodup_append.1 this).1
theorem Lk (h:RefAt w G S v) (hok:S.ok) (hd:S.down=false) (hop:S.operate.2=false)
 (hlen:S.pend.length<100000000) (hops:S.ops<1000000000000) (hlim:S.limit.getD 0≤9223372036854775807):
 Ca 66 #[v] w fun e w'=>∃v',e=.returned (.tuple #[v',.int .i64 S.flush.2])∧RefOwn w' w.heap.size S.flush.1 v'∧Below w.heap.size w w':=by
 have HH:=Hd h;have HOK:=Hd hok;have hwr:S.flush=(S.operate.1,28):=by simp[DS.flush,hd,hop]
 rw[hwr];have HOP:=Hd hop;clear hop;obtain⟨dv,wv,rfl,hdu,hw⟩:=h;obtain⟨ad,capd,rfl⟩:=hdu.len;obtain⟨aw,capw,rfl⟩:=hw.len;clear hdu hw hwr hok;unfold A9 at HH⊢;rw[hd]at HH⊢;have hf:=Ea w S (.slice ad S.dur.length capd) (.slice aw S.pend.length capw);rw[hd]at hf;obtain⟨w1,hw1⟩:=Xq ((w.alloc (.cells #[.slice ad S.dur.length capd,.slice aw S.pend.length capw,.int .i64 (Au S),.bool false,.int .i64 (S.ops:Int)] 39)).alloc (.cells #[.slice none 0 0,.slice none 0 0,.int .i64 0,.bool false,.int .i64 0] 39));rw[hw1]at hf;obtain⟨n1,n2,hb⟩:=hf.below Rq;rw[hd]at n1;obtain⟨c0,c1,c2,c3,c4,cf⟩:=Ao n1;have HF:=Hd hf;have HD:=Hd hd;clear hf n1 n2 hb hd;go_enter Tryz.func66,Tryz.ntmps66;go_wp2_with fail;clear hw1;have hR2:RefAt w1 G S (A9 S (.slice ad S.dur.length capd) (.slice aw S.pend.length capw)):=by unfold A9;rw[HD.out];exact HH.out.below HF.out.b1
 unfold A9 at hR2;rw[HD.out]at hR2;refine(EL hR2 HOK.out hlen).mono ?_;rintro e w3 ⟨v3,rfl,⟨dv',wv',D,L,rfl,hX3⟩,hb3⟩;obtain⟨⟨ad',cd',rfl⟩,⟨aw',cw',rfl⟩⟩:=hX3.slices;have HX3:=Hd hX3;have HB3:=Hd hb3;clear hX3 hb3 hR2 c0 c1 c2 c3 c4 cf;go_wp2_with fail;refine(EZ ad' aw' _ _ cd' cw' hops hlim).mono ?_;rw[HOP.out];rintro e w4 ⟨rfl,hb4⟩;unfold A9;have hb14:Below w1.heap.size w1 w4:=Tq HB3.out hb4;have n1:=(HF.out.below hb14).1;have n2:=(HF.out.below hb14).2.1;have hbw4:=(HF.out.below hb14).2.2;obtain⟨c0,c1,c2,c3,c4,cf⟩:=Ao n1;have hs1:=HF.out.s1;have hn5:=Bp n1 (.slice ad' S.dur.length cd') (.slice aw' S.pend.length cw') (.int .i64 (Au S.operate.1)) (.bool S.operate.1.down) (.int .i64 (S.operate.1.ops:Int));have hc5:=BH w4 w.heap.size (.slice ad' S.dur.length cd') (.slice aw' S.pend.length cw') (.int .i64 (Au S.operate.1)) (.bool S.operate.1.down) (.int .i64 (S.operate.1.ops:Int));have hw2s:w.heap.size+2≤w1.heap.size:=by omega
 obtain⟨w5,hw5⟩:=Xq (put5 w4 w.heap.size (.slice ad' S.dur.length cd') (.slice aw' S.pend.length cw') (.int .i64 (Au S.operate.1)) (.bool S.operate.1.down) (.int .i64 (S.operate.1.ops:Int)));rw[hw5]at hn5 hc5;have hn52:w5.heap[w.heap.size+1]?=_:=(hc5.block _ (by have:=HB3.out.size;have:=hb4.size;omega) (by omega)).trans n2;have hbw5:Below w.heap.size w w5:=hbw4.trans (hc5.below (fun i e=>by omega) hbw4.size);have hX5:RefOwnX w5 w1.heap.size S (.slice ad' S.dur.length cd') (.slice aw' S.pend.length cw') D L:=
  (HX3.out.chg (G:=fun _=>False) (Cb hb4) (fun _ _ h=>h)).chg hc5 (fun i h e=>by omega)
 have hw25:w1.heap.size≤w5.heap.size:=by have:=HB3.out.size;have:=hb4.size;have:=hc5.size;omega
 obtain⟨HN1,HN2,HB5,HX5,HW2,HW25,HW5⟩:=Hd7 hn5 hn52 hbw5 hX5 hw2s hw25 hw5;unfold put5 at hw5;clear hb4 hb14 n1 n2 hbw4 hn5 hn52 hbw5 hX5 hw2s hw25 hs1;have hbx:w.heap.size<w5.heap.size∧(Value.slice aw' S.pend.length cw').ownBlock≠some w.heap.size∧w.heap.size+1<w5.heap.size∧(Value.slice aw' S.pend.length cw').ownBlock≠some (w.heap.size+1):=by
  have h1:=HW2.out;have h2:=HW25.out;refine⟨by omega,fun e=>?_,by omega,fun e=>?_⟩
  ·have:=(Ab HX5.out.rw _ e).1;omega
  ·have:=(Ab HX5.out.rw _ e).1;omega
 have hbox:∀wx,Chg (fun i=>(Value.slice aw' S.pend.length cw').ownBlock=some i) w5 wx→wx.cell? ⟨w.heap.size,1,none⟩=some (.slice aw' S.pend.length cw'):=fun wx hc=>by have h1:=(hc.block _ hbx.1 hbx.2.1).trans HN1.out;exact(Ao h1).2.1
 have HBX:=Hd hbx;have HBOX:=Hd hbox;clear hbx hbox;obtain⟨x0,x1,x2,x3,x4,xf⟩:=Ao HN1.out;obtain⟨y0,y1,y2,y3,y4,yf⟩:=Ao HN2.out;simp only[Bool.not_false,Bool.not_true];have hfin:=Bp HN2.out (.slice ad' S.dur.length cd') (.slice aw' S.pend.length cw') (.int .i64 (Au S.operate.1)) (.bool S.operate.1.down) (.int .i64 (S.operate.1.ops:Int));have hcf:=BH w5 (w.heap.size+1) (.slice ad' S.dur.length cd') (.slice aw' S.pend.length cw') (.int .i64 (Au S.operate.1)) (.bool S.operate.1.down) (.int .i64 (S.operate.1.ops:Int));have hXf:=HX5.out.operate.chg hcf (fun i h e=>by have:=HW2.out;omega);have hbf:=HB5.out.trans (hcf.below (fun i e=>by omega) HB5.out.size);obtain⟨HXF,HBF,HFIN⟩:=Hd3 hXf hbf hfin;clear hfin hcf hXf hbf;go_wp2_with fail;exact Br (Ay (g:=w.heap.size+1) rfl _ _ _ _ _ _ rfl HFIN.out Tryz.underlying39 rfl CE) rfl ⟨_,rfl,⟨_,_,D,_,rfl,HXF.out.base (by have:=HW2.out;omega)⟩,HBF.out⟩
theorem Mw (h:RefAt w G S v) (hok:S.ok) (hd:S.down=false) (hop:S.operate.2=true)
 (hlen:S.pend.length<100000000) (hops:S.ops<1000000000000) (hlim:S.limit.getD 0≤9223372036854775807):
 Ca 66 #[v] w fun e w'=>∃v',e=.returned (.tuple #[v',.int .i64 S.flush.2])∧RefOwn w' w.heap.size S.flush.1 v'∧Below w.heap.size w w':=by
 have HH:=Hd h;have HOK:=Hd hok;have hwr:S.flush=({S.operate.1 with dur:=B7 S S.pend.length,pend:=[]},0):=by simp[DS.flush,hd,hop]
 rw[hwr];have HOP:=Hd hop;clear hop;obtain⟨dv,wv,rfl,hdu,hw⟩:=h;obtain⟨ad,capd,rfl⟩:=hdu.len;obtain⟨aw,capw,rfl⟩:=hw.len;clear hdu hw hwr hok;unfold A9 at HH⊢;rw[hd]at HH⊢;have hf:=Ea w S (.slice ad S.dur.length capd) (.slice aw S.pend.length capw);rw[hd]at hf;obtain⟨w1,hw1⟩:=Xq ((w.alloc (.cells #[.slice ad S.dur.length capd,.slice aw S.pend.length capw,.int .i64 (Au S),.bool false,.int .i64 (S.ops:Int)] 39)).alloc (.cells #[.slice none 0 0,.slice none 0 0,.int .i64 0,.bool false,.int .i64 0] 39));rw[hw1]at hf;obtain⟨n1,n2,hb⟩:=hf.below Rq;rw[hd]at n1;obtain⟨c0,c1,c2,c3,c4,cf⟩:=Ao n1;have HF:=Hd hf;have HD:=Hd hd;clear hf n1 n2 hb hd;go_enter Tryz.func66,Tryz.ntmps66;go_wp2_with fail;clear hw1;have hR2:RefAt w1 G S (A9 S (.slice ad S.dur.length capd) (.slice aw S.pend.length capw)):=by unfold A9;rw[HD.out];exact HH.out.below HF.out.b1
 unfold A9 at hR2;rw[HD.out]at hR2;refine(EL hR2 HOK.out hlen).mono ?_;rintro e w3 ⟨v3,rfl,⟨dv',wv',D,L,rfl,hX3⟩,hb3⟩;obtain⟨⟨ad',cd',rfl⟩,⟨aw',cw',rfl⟩⟩:=hX3.slices;have HX3:=Hd hX3;have HB3:=Hd hb3;clear hX3 hb3 hR2 c0 c1 c2 c3 c4 cf;go_wp2_with fail;refine(EZ ad' aw' _ _ cd' cw' hops hlim).mono ?_;rw[HOP.out];rintro e w4 ⟨rfl,hb4⟩;unfold A9;have hb14:Below w1.heap.size w1 w4:=Tq HB3.out hb4;have n1:=(HF.out.below hb14).1;have n2:=(HF.out.below hb14).2.1;have hbw4:=(HF.out.below hb14).2.2;obtain⟨c0,c1,c2,c3,c4,cf⟩:=Ao n1;have hs1:=HF.out.s1;have hn5:=Bp n1 (.slice ad' S.dur.length cd') (.slice aw' S.pend.length cw') (.int .i64 (Au S.operate.1)) (.bool S.operate.1.down) (.int .i64 (S.operate.1.ops:Int));have hc5:=BH w4 w.heap.size (.slice ad' S.dur.length cd') (.slice aw' S.pend.length cw') (.int .i64 (Au S.operate.1)) (.bool S.operate.1.down) (.int .i64 (S.operate.1.ops:Int));have hw2s:w.heap.size+2≤w1.heap.size:=by omega
 obtain⟨w5,hw5⟩:=Xq (put5 w4 w.heap.size (.slice ad' S.dur.length cd') (.slice aw' S.pend.length cw') (.int .i64 (Au S.operate.1)) (.bool S.operate.1.down) (.int .i64 (S.operate.1.ops:Int)));rw[hw5]at hn5 hc5;have hn52:w5.heap[w.heap.size+1]?=_:=(hc5.block _ (by have:=HB3.out.size;have:=hb4.size;omega) (by omega)).trans n2;have hbw5:Below w.heap.size w w5:=hbw4.trans (hc5.below (fun i e=>by omega) hbw4.size);have hX5:RefOwnX w5 w1.heap.size S (.slice ad' S.dur.length cd') (.slice aw' S.pend.length cw') D L:=
  (HX3.out.chg (G:=fun _=>False) (Cb hb4) (fun _ _ h=>h)).chg hc5 (fun i h e=>by omega)
 have hw25:w1.heap.size≤w5.heap.size:=by have:=HB3.out.size;have:=hb4.size;have:=hc5.size;omega
 obtain⟨HN1,HN2,HB5,HX5,HW2,HW25,HW5⟩:=Hd7 hn5 hn52 hbw5 hX5 hw2s hw25 hw5;unfold put5 at hw5;clear hb4 hb14 n1 n2 hbw4 hn5 hn52 hbw5 hX5 hw2s hw25 hs1;have hbx:w.heap.size<w5.heap.size∧(Value.slice aw' S.pend.length cw').ownBlock≠some w.heap.size∧w.heap.size+1<w5.heap.size∧(Value.slice aw' S.pend.length cw').ownBlock≠some (w.heap.size+1):=by
  have h1:=HW2.out;have h2:=HW25.out;refine⟨by omega,fun e=>?_,by omega,fun e=>?_⟩
  ·have:=(Ab HX5.out.rw _ e).1;omega
  ·have:=(Ab HX5.out.rw _ e).1;omega
 have hbox:∀wx,Chg (fun i=>(Value.slice aw' S.pend.length cw').ownBlock=some i) w5 wx→wx.cell? ⟨w.heap.size,1,none⟩=some (.slice aw' S.pend.length cw'):=fun wx hc=>by have h1:=(hc.block _ hbx.1 hbx.2.1).trans HN1.out;exact(Ao h1).2.1
 have HBX:=Hd hbx;have HBOX:=Hd hbox;clear hbx hbox;obtain⟨x0,x1,x2,x3,x4,xf⟩:=Ao HN1.out;obtain⟨y0,y1,y2,y3,y4,yf⟩:=Ao HN2.out;simp only[Bool.not_false,Bool.not_true];clear HBOX HBX;have hlenk:(S.flushAt 0).pend.length<100000000:=by rw[Db];exact hlen
 have hX0:RefOwnX w5 w1.heap.size (S.flushAt 0) (.slice ad' S.dur.length cd') (.slice aw' S.pend.length cw') D L:=HX5.out.flush0;have HX0:=Hd hX0;clear hX0 hlenk;go_wp2_with fail;clear hw5 x0 x1 x2 x3 x4 xf y0 y1 y2 y3 y4 yf;go_loopw [5] (fun i wr=>∃(k:Nat) (D:List (List UInt8×Value)),k≤S.dur.length∧i=.int .i64 k∧wr.heap[w.heap.size]?=some (.cells #[.slice ad' S.dur.length cd',.slice aw' S.pend.length cw',.int .i64 (Au S.operate.1),.bool S.operate.1.down,.int .i64 (S.operate.1.ops:Int)] 39 (0,0))∧
  wr.heap[w.heap.size+1]?=some (.cells #[.slice none 0 0,.slice none 0 0,.int .i64 0,.bool false,.int .i64 0] 39 (0,0))∧RefOwnX wr w1.heap.size (S.flushAt k) (.slice ad' S.dur.length cd') (.slice aw' S.pend.length cw') D L∧Below w.heap.size w wr)
  (fun i _=>S.dur.length-(intOf i).toNat)
 case atStart=>exact⟨0,D,Nat.zero_le _,rfl,HN1.out,HN2.out,HX0.out,HB5.out⟩
 case round=>
  clear HN1 HN2 HX0 HB5 HX5 HW25 HW5;obtain⟨k,D,hk,rfl,hn,hn2,hX,hB⟩:=hrel;obtain⟨x0,x1,x2,x3,x4,xf⟩:=Ao hn;have hlt1:w.heap.size<wr.heap.size:=(Ax hn).1;have hlt2:w.heap.size+1<wr.heap.size:=(Ax hn2).1;have hbl:w1.heap.size≤wr.heap.size:=by have:=HF.out.s1;omega
  obtain⟨HN,HN2,HX,HB,HLT,HLT2,HBL⟩:=Hd7 hn hn2 hX hB hlt1 hlt2 hbl;clear hn hn2 hX hB hlt1 hlt2 hbl;by_cases hltn:k<S.dur.length
  ·obtain⟨gd,rfl⟩:∃gd,ad'=some ⟨gd,0,none⟩:=by
    have:=HX.out.rd;rw[C1]at this;rcases this.2 with⟨_,h0⟩| ⟨g,cap,cur,e,_⟩
    ·omega
    ·simp only[Value.slice.injEq]at e;exact⟨g,e.1⟩
   have hlenk:(S.flushAt k).pend.length<100000000:=by rw[Db];exact hlen
   have hRd:RefAt wr.drew (fun j=>w1.heap.size≤j) (S.flushAt k) (.agg #[.slice (some ⟨gd,0,none⟩) S.dur.length cd',.slice aw' S.pend.length cw',.int .i64 (Au S.operate.1),.bool S.operate.1.down,.int .i64 (S.operate.1.ops:Int)]):=by have h1:RefAt wr (fun j=>w1.heap.size≤j) (S.flushAt k) (A9 (S.flushAt k) (.slice (some ⟨gd,0,none⟩) S.dur.length cd') (.slice aw' S.pend.length cw')):=RefOwn.at ⟨_,_,D,L,rfl,HX.out⟩;exact h1.kept ((Chg.refl (fun _=>False) wr).drew) (fun _ _ h=>h)
   have HRD:=Hd hRd;have hkb:k<4096:=by have:=HOK.out.most;omega
   clear hRd;go_wp2_with fail;clear x0 x1 x2 x3 x4 xf;have hRd:=HRD.out;refine Np ?_;refine AY 7 (fun w'=>w'.heap[w.heap.size]?=some (.cells #[.slice (some ⟨gd,0,none⟩) S.dur.length cd',.slice aw' S.pend.length cw',.int .i64 (Au S.operate.1),.bool S.operate.1.down,.int .i64 (S.operate.1.ops:Int)] 39 (0,0))) (by kernel_rfl) ?_;have hS0:(fun w'=>w'.heap[w.heap.size]?=some (.cells #[.slice (some ⟨gd,0,none⟩) S.dur.length cd',.slice aw' S.pend.length cw',.int .i64 (Au S.operate.1),.bool S.operate.1.down,.int .i64 (S.operate.1.ops:Int)] 39 (0,0))) wr.drew:=HN.out;refine tkF 0 hS0 ?_;refine tkF 1 hS0 ?_ (hy:=fun w' hw'=>by(obtain⟨h0,h1,h2,h3,h4,_⟩:=Ao hw';clear hw';first| (go_simp;rfl)| (go_simp;done)));refine tkF 2 hS0 ?_;refine tkF 3 hS0 ?_ (hy:=fun w' hw'=>by(obtain⟨h0,h1,h2,h3,h4,_⟩:=Ao hw';clear hw';first| (go_simp;rfl)| (go_simp;done)));refine tkF 4 hS0 ?_;refine dF 5 fun K hK=>?_
   go_simp;refine(Gv k (by rw[C1];exact hltn) hRd (G6 HOK.out k) hlenk).mono ?_;rintro e w2 ⟨v',rfl,hown2,hb2⟩;have hv2:=Cy hown2 (BL (G6 HOK.out k) (by rw[C1];exact hltn));obtain⟨g',o',c',rfl,hg'B,hg'l,_⟩:=hv2.some' (BL (G6 HOK.out k) (by rw[C1];exact hltn));have hbr2:Below wr.heap.size wr w2:=(Below.refl _ wr).drew.trans hb2;have q2:w2.heap[w.heap.size]?=_:=(hbr2.block _ HLT.out).trans HN.out;have hX2:=HX.out.chg (G:=fun _=>False) (Cb hbr2) (fun _ _ h=>h);have hB2:=Tq HB.out hbr2;have n22:w2.heap[w.heap.size+1]?=_:=(hbr2.block _ HLT2.out).trans HN2.out;have hst:=hX2.setDur (k:=k) (l:=S.visible k) (by rw[C1];exact hltn) (u:=.slice (some ⟨g',o',none⟩) 256 c') (B':=wr.heap.size) hown2 (by rw[Ng S k hltn]) (BL HOK.out hltn) HBL.out
    (fun x hx e=>by have h3:g'<wr.heap.size:=RT HX.out.rows hx g' e;have h4:wr.heap.size≤g':=hg'B;omega)
   obtain⟨hX3,⟨c9,hcl⟩,hfz⟩:=hst;obtain⟨HX3,HB2,HN22,Q2⟩:=Hd4 hX3 hB2 n22 q2;clear hX3 hB2 n22 hX2 hbr2 hv2 hown2 hb2 hg'l;refine Kq hK (fun _=>Q2.out) ?_;refine dF 6 fun K hK=>?_
   go_simp;refine Kq hK (fun _=>Q2.out) ?_;refine dF 7 fun K hK=>?_
   go_simp;refine hK _ _ (fun h=>absurd rfl h) ?_;refine eF ?_;obtain⟨w5,hw5⟩:=Xq (w2.setCell ⟨gd,k,none⟩ (.slice (some ⟨g',o',none⟩) 256 c'));have hgd:w1.heap.size≤gd:=(Ab HX.out.rd gd rfl).1;have hc5:Chg (fun i=>i=gd) w2 w5:=hw5▸Chg.setCell (F:=fun i=>i=gd) w2 _ rfl;have hs1:=HF.out.s1;have hlt2:=HB2.out.size;have hn5:w5.heap[w.heap.size]?=_:=Ck hc5 Q2.out;have hn52:w5.heap[w.heap.size+1]?=_:=Ck hc5 HN22.out;have hb5:=HB2.out.trans (hc5.below (fun i e=>by omega) HB2.out.size);have hX5:RefOwnX w5 w1.heap.size (S.flushAt (k+1)) (.slice (some ⟨gd,0,none⟩) S.dur.length cd') (.slice aw' S.pend.length cw') (D.set k (S.visible k,.slice (some ⟨g',o',none⟩) 256 c')) L:=by have:=HX3.out;rw[Mu S k hltn,hw5]at this;exact this
   rw[hw5];obtain⟨HN5,HN52,HB5,HX5⟩:=Hd4 hn5 hn52 hb5 hX5;clear hw5 hgd hc5 hs1 hlt2 hn5 hn52 hb5 hX5 hcl hfz hS0 hRd;go_wp2_with fail;go_roundw
   case rel=>exact⟨k+1,_,by omega,by go_num,HN5.out,HN52.out,HX5.out,HB5.out⟩
   case measure=>simp[intOf];omega
  ·obtain rfl :k=S.dur.length:=by omega
   have hs1:=HF.out.s1;have hX6:RefOwnX wr w1.heap.size {S.operate.1 with dur:=B7 S S.pend.length,pend:=[]} (.slice ad' S.dur.length cd') (.slice none 0 0) D []:=by have:=HX.out.noPend;simpa[DS.flushAt,←Nh HOK.out]using this
   obtain⟨wf,hwf⟩:∃wf,(((((wr.setCell ⟨w.heap.size,1,none⟩ (.slice none 0 0)).setCell ⟨w.heap.size+1,0,none⟩ (.slice ad' S.dur.length cd')).setCell ⟨w.heap.size+1,1,none⟩ (.slice none 0 0)).setCell ⟨w.heap.size+1,2,none⟩ (.int .i64 (Au S.operate.1))).setCell
    ⟨w.heap.size+1,3,none⟩ (.bool S.operate.1.down)).setCell ⟨w.heap.size+1,4,none⟩ (.int .i64 (S.operate.1.ops:Int))=wf:=⟨_,rfl⟩
   have hcf:Chg (fun i=>i=w.heap.size∨i=w.heap.size+1) wr wf:=by rw[←hwf];exact(Chg.setCell (F:=fun i=>i=w.heap.size∨i=w.heap.size+1) wr _ (.inl rfl)).trans (BH _ (w.heap.size+1) _ _ _ _ _) (fun _ h=>.inl (.inr h))
   have hn2':(wr.setCell ⟨w.heap.size,1,none⟩ (.slice none 0 0)).heap[w.heap.size+1]?=_:=(heap_setCell_other wr ⟨w.heap.size,1,none⟩ _ _ (by show w.heap.size+1≠w.heap.size;omega)).trans HN2.out;have hn1':(wr.setCell ⟨w.heap.size,1,none⟩ (.slice none 0 0)).heap[w.heap.size]?=some (.cells #[.slice ad' S.dur.length cd',.slice none 0 0,.int .i64 (Au S.operate.1),.bool S.operate.1.down,.int .i64 (S.operate.1.ops:Int)] 39 (0,0)):=by rw[Sc _ _ _ _ _ _ HN.out];rfl
   have hfin:wf.heap[w.heap.size+1]?=some (.cells #[.slice ad' S.dur.length cd',.slice none 0 0,.int .i64 (Au S.operate.1),.bool S.operate.1.down,.int .i64 (S.operate.1.ops:Int)] 39 (0,0)):=by rw[←hwf];exact Bp hn2' _ _ _ _ _
   have hXf:=(hX6.chg hcf (fun i h e=>by omega)).base (B':=w.heap.size) (by omega);have hbf:=HB.out.trans (hcf.below (fun i e=>by omega) HB.out.size);obtain⟨z0,z1,z2,z3,z4,zf⟩:=Ao hn1';obtain⟨y0,y1,y2,y3,y4,yf⟩:=Ao hn2';obtain⟨HXF,HBF,HFIN⟩:=Hd3 hXf hbf hfin;obtain⟨w6,hw6⟩:=Xq (wr.setCell ⟨w.heap.size,1,none⟩ (.slice none 0 0));rw[hw6]at z0 z1 z2 z3 z4 zf y0 y1 y2 y3 y4 yf hwf;clear hcf hn2' hn1' hfin hXf hbf hs1 hX6 x2 x3 x4;go_wp2_with fail;exact Br (Ay (g:=w.heap.size+1) rfl _ _ _ _ _ _ rfl HFIN.out Tryz.underlying39 rfl CE) rfl ⟨_,rfl,⟨_,_,D,_,rfl,HXF.out⟩,HBF.out⟩
end Go.Proofs.YtplclpileejemaaGreatDoor
namespace Go.Proofs.YtplclpileejemaaGreatDoor
open Go.RowKit
variable {w:World}{F:Nat→Prop}{b m g n:Nat}{S:DS}
def E1 (l:List UInt8) (i:Nat) (y:UInt8):List UInt8:=l.set i (l.getD i 0^^^y)
def dmg (s p:Nat) (y:UInt8) (x:Nat×List UInt8):Nat×List UInt8:=if x.1=s then(x.1,E1 x.2 p y)else x
def DS.damage (S:DS) (s a:Int) (y:UInt8):DS×Int:=
 if S.has s then(if 0≤a∧a<256 then({S with dur:=S.dur.set s.toNat (E1 (S.dur.getD s.toNat zeros) a.toNat y),pend:=S.pend.map (dmg s.toNat a.toNat y)},0)else(S,2))else(S,8)
theorem FQ (l:List UInt8) (i:Nat) (y:UInt8):(E1 l i y).length=l.length:=by simp[E1]
theorem JU {x:Nat×List UInt8} (s p:Nat) (y:UInt8):(dmg s p y x).2.length=x.2.length∧(dmg s p y x).1=x.1:=by unfold dmg;split <;>simp[FQ]
theorem E3 (z y:UInt8):bits .xor .u8 (z.toNat:Int) (y.toNat:Int)=((z^^^y).toNat:Int):=by rw[u8_xor_nat _ _ z.toNat_lt y.toNat_lt,UInt8.toNat_xor]
theorem JV (z y:UInt8):bv (z^^^y)=.int .u8 ((z.toNat^^^y.toNat:Nat):Int):=by unfold bv;rw[UInt8.toNat_xor]
theorem Q6 {l:List (Nat×List UInt8)} (hl:∀x∈l,x.2.length=256) {k p x1:Nat} {x2:List UInt8} (hk:l[k]?=some (x1,x2)) (hp:p<256) (y:UInt8):
 (Dv l).set (k*257+1+p) (bv y)=Dv (l.set k (x1,x2.set p y)):=by
 induction l generalizing k with
 |nil=>simp at hk
 |cons x l ih=>
  have hx:=Bf (hl x (by simp));have hl':∀x∈l,x.2.length=256:=fun z hz=>hl z (by simp[hz])
  cases k with
  |zero=>
   simp only[List.getElem?_cons_zero,Option.some.injEq]at hk;subst hk;simp only[Dv,List.flatMap_cons,List.set_cons_zero];rw[List.set_append_left _ _ (by rw[hx];omega)]
   congr 1
   simp only[AC,bvs,List.map_set];rw[show 0*257+1+p=p+1 by omega];rfl
  |succ k=>
   simp only[List.getElem?_cons_succ]at hk;simp only[Dv,List.flatMap_cons,List.set_cons_succ];rw[List.set_append_right _ _ (by rw[hx];omega),hx,show(k+1)*257+1+p-257=k*257+1+p by omega]
   congr 1
   exact ih hl' hk
theorem DiskX.setByte {cap:Nat} (h:DiskX w F b m (.slice (some ⟨g,0,none⟩) n cap) S) (hl:∀x∈S.pend,x.2.length=256) {k p x1:Nat} {x2:List UInt8} (hk:S.pend[k]?=some (x1,x2)) (hp:p<256) (y:UInt8):
 DiskX (w.setCell ⟨g,k*257+1+p,none⟩ (bv y)) F b m (.slice (some ⟨g,0,none⟩) n cap) {S with pend:=S.pend.set k (x1,x2.set p y)}:=by
 have hgb:g≠b:=fun e=>h.pb (by rw[←e];rfl)
 have hgm:g≠m:=fun e=>h.pm (by rw[←e];rfl)
 refine⟨h.fb,h.fm,h.fp,(heap_setCell_other _ _ _ _ (Ne.symm hgb)).trans h.hb,h.hm.kept (heap_setCell_other _ _ _ _ (Ne.symm hgm)),?_⟩;have hps:=Q6 hl hk hp y;have hlen:(S.pend.set k (x1,x2.set p y)).length=S.pend.length:=List.length_set;refine⟨by show(Dv _).length=_;rw[←hps,List.length_set,h.hp.1,hlen],?_⟩;rcases h.hp.2 with⟨e,_⟩| ⟨g',cap',cur,e,hbg,hg,hc,hm,hs,ht⟩
 ·cases e
 ·obtain⟨hg',hn',hcap'⟩:g=g'∧n=S.pend.length∧cap=cap':=by simpa using e
  subst hg' hn' hcap';refine .inr ⟨g,cap,cur.setIfInBounds (k*257+1+p) (bv y),by rw[hlen],hbg,Sc _ _ _ _ _ _ hg,by rw[hlen];exact hc,hm,by rw[Array.size_setIfInBounds];exact hs,?_⟩;show List.take _ _=Dv _;rw[hlen,←hps,←ht,Array.toList_setIfInBounds,List.take_set]
theorem Rm {α:Type} (f:α→α) (l:List α) (k:Nat) (hk:k<l.length):((l.take k).map f++l.drop k).set k (f l[k])=(l.take (k+1)).map f++l.drop (k+1):=by
 have h1:((l.take k).map f).length=k:=by simp;omega
 rw[List.set_append_right _ _ (by omega),h1,Nat.sub_self,List.drop_eq_getElem_cons hk,List.set_cons_zero,List.take_add_one,List.getElem?_eq_getElem hk,List.map_append,List.append_assoc];rfl
theorem Mx {α:Type} (f:α→α) (l:List α) (k:Nat) (hk:k<l.length):((l.take k).map f++l.drop k)[k]?=some l[k]:=by
 have h1:((l.take k).map f).length=k:=by simp;omega
 rw[List.getElem?_append_right (by omega),h1,Nat.sub_self,List.drop_eq_getElem_cons hk];rfl
theorem FR {α:Type} (f:α→α) (l:List α) (k:Nat) (hk:k≤l.length):((l.take k).map f++l.drop k).length=l.length:=by simp;omega
def DS.dmgAt (S:DS) (s p:Nat) (y:UInt8) (k:Nat):DS:=
 {S with dur:=S.dur.set s (E1 (S.dur.getD s zeros) p y),pend:=(S.pend.take k).map (dmg s p y)++S.pend.drop k}
theorem Jf (h:S.ok) (s p:Nat) (hs:s<S.dur.length) (y:UInt8) (k:Nat):(S.dmgAt s p y k).ok:=by
 refine⟨?_,?_,by simpa[DS.dmgAt]using h.most⟩
 ·intro x hx;rcases List.mem_or_eq_of_mem_set hx with hx|rfl
  ·exact h.dur x hx
  ·rw[FQ];have:S.dur.getD s zeros=S.dur[s]:=by simp[hs]
   rw[this];exact h.dur _ (List.getElem_mem _)
 ·intro x hx;have hd:(S.dmgAt s p y k).dur.length=S.dur.length:=by simp[DS.dmgAt]
  rw[hd];rcases List.mem_append.1 hx with hx|hx
  ·obtain⟨z,hz,rfl⟩:=List.mem_map.1 hx;have:=h.pend z (List.mem_of_mem_take hz);rw[(JU s p y).1,(JU s p y).2];exact this
  ·exact h.pend x (List.mem_of_mem_drop hx)
theorem Ni (s p:Nat) (y:UInt8) (h:DiskAt w F b S) (hs:s<S.dur.length) (hp:p<256) (hlen:S.pend.length<100000000):
 Ca 10 #[.pointer (some ⟨b,0,none⟩),.int .i64 s,.int .i64 p,.int .u8 (y.toNat:Int)] w fun e w'=>e=.returned (.int .i64 0)∧
  DiskAt w' F b (S.dmgAt s p y S.pend.length)∧Chg F w w':=by
 have HH:=Hd h;obtain⟨hok,m,pv,hx⟩:=h;obtain⟨c0,c1,c2,c3,c4,c5,c6,f⟩:=hx.cells;have hhas:S.has (s:Int)=true:=by simp[DS.has];omega
 obtain⟨B0,hB0⟩:∃B0,B0=S.dur.getD s zeros:=⟨_,rfl⟩;have hlook:=hx.hm.lookup (P:=Tryz.prog) Tryz.underlying75 Tryz.underlying3 Fp hs;rw[←hB0]at hlook;unfold BF at hlook;have hB0l:B0.length=256:=by
  have:S.dur.getD s zeros=S.dur[s]:=by simp[hs]
  rw[hB0,this];exact hok.dur _ (List.getElem_mem _)
 obtain⟨z0,hz0⟩:∃z0,z0=B0.getD p 0:=⟨_,rfl⟩;have hz0':B0[p]?=some z0:=by rw[hz0];simp[List.getD,List.getElem?_eq_getElem (show p<B0.length by omega)]
 have hsz:=Bh hB0l;have hnw:=heap_alloc_new w (.cells Tryz.zeroCells74 74);have hzs:Tryz.zeroCells74.size=(bvs B0).toArray.size:=by rw[I2];simp[hB0l,AW]
 obtain⟨W1,hW1⟩:=Xq (w.alloc (.cells (bvs B0).toArray 74));have hW1n:=Nq hW1 rfl;have k1:W1.cell? ⟨w.heap.size,p,none⟩=some (.int .u8 (z0.toNat:Int)):=by rw[cell_of_row W1 _ _ _ _ _ hW1n,List.getElem?_toArray,AE,hz0'];rfl
 have k2:W1.frozen? ⟨w.heap.size,p,none⟩=false:=frozen_of_row W1 _ _ _ _ hW1n;have kx:=E3 z0 y;have hp1:¬((p:Int)<0):=by omega
 have hp2:¬(256≤(p:Int)):=by omega
 obtain⟨HX,HOK,HSZ0,HNW,HZS,HW1,HW1N,HB0,HZ0,HB0L⟩:=Hd10 hx hok hsz hnw hzs hW1 hW1n hB0 hz0 hB0l;clear hx hok hsz hnw hzs hW1 hW1n hB0 hz0 hz0' hB0l;go_enter Tryz.func10,Tryz.ntmps10;go_wp2_with (first
  | (go_at_call 33;refine(DL (s:Int) HH.out).mono ?_;rw[hhas];rintro e w' ⟨rfl,rfl⟩)
  | (with_reducible refine wpList_store_row rfl 74 _ _ rfl w.heap.size (bvs B0).toArray rfl rfl 74 Tryz.zeroCells74 HNW.out HSZ0.out HZS.out (Bb _) ?_;rw[World.setRow_alloc_new,HW1.out]))
 obtain⟨W2,hW2⟩:=Xq (W1.setCell ⟨w.heap.size,p,none⟩ (.int .u8 ((z0.toNat^^^y.toNat:Nat):Int)));obtain⟨B1,hB1⟩:∃B1,B1=E1 B0 p y:=⟨_,rfl⟩;have hB1l:B1.length=256:=by rw[hB1,FQ,HB0L.out]
 have hW2n:W2.heap[w.heap.size]?=some (.cells (bvs B1).toArray 74 (0,0)):=by
  rw[←hW2,Sc _ _ _ _ _ _ HW1N.out,hB1]
  congr 2
  apply Array.ext';rw[Array.toList_setIfInBounds];simp only[E1,bvs,List.map_set,←HZ0.out,JV]
 have hbw:Below w.heap.size w W2:=by rw[←hW2,←HW1.out];exact((Below.refl _ w).alloc Lr _).setCell Lr _
 have hx2:DiskX W2 F b m pv S:=HX.out.chg (G:=fun _=>False) (Cb hbw) (fun _ _ h=>h);obtain⟨d0,p1,d2,d3,d4,d5,d6,df⟩:=hx2.cells;have p4:W2.rangeAt w.heap.size 0 (bvs B1):=fun j u hj=>by rw[cell_of_row W2 _ _ _ _ _ hW2n,Nat.zero_add];simpa using hj
 have hsz80:(Tryz.prog.info? 74).map (·.size)=some (bvs B1).length:=by have:=Bh hB1l;rw[List.size_toArray]at this;exact this
 rw[hW2];obtain⟨HSZ,HX2,HB1L,HB1,HBW⟩:=Hd5 hsz80 hx2 hB1l hB1 hbw;clear hW2 hW2n hbw hx2 d0 d2 d3 d4 d5 d6 df hsz80 hB1l hB1 k1 k2 kx hlook c0 c1 c2 c3 c4 c5 c6 f;refine Np ?_;refine AY 6 (fun w'=>w'.cell? ⟨b,1,none⟩=some (.map (some m))∧w'.rangeAt w.heap.size 0 (bvs B1)) (by kernel_rfl) ?_;have hS0:(fun w'=>w'.cell? ⟨b,1,none⟩=some (.map (some m))∧w'.rangeAt w.heap.size 0 (bvs B1)) W2.drew:=⟨p1,p4⟩;refine tkF 0 hS0 ?_ (v:=.pointer (some ⟨b,0,none⟩)) (hy:=fun w' hw'=>by rfl);refine tkF 1 hS0 ?_ (v:=.pointer (some ⟨b,0,none⟩)) (hy:=fun w' hw'=>by go_simp);refine tkF 2 hS0 ?_ (v:=.pointer (some ⟨b,1,none⟩)) (hy:=fun w' hw'=>by go_simp);refine tkF 3 hS0 ?_ (v:=.map (some m)) (hy:=fun w' hw'=>by(have h4:=hw'.1;clear hw';go_simp));refine tkF 4 hS0 ?_ (v:=.int .i64 s) (hy:=fun w' hw'=>by rfl);refine tkF 5 hS0 ?_ (v:=.agg (bvs B1).toArray) (hy:=fun w' hw'=>by exact Cm 74 (.tmp 9) w.heap.size 0 (bvs B1) _ rfl rfl hw'.2 Tryz.underlying74 rfl HSZ.out);obtain⟨w3,hrun3,hM3,hg3⟩:=(HX2.out.hm.kept (w':=W2.drew) rfl).update Tryz.underlying75 Tryz.underlying3 hs B1 (by rw[HB1L.out,AW]);unfold BF at hrun3;refine dF 6 fun K hK=>?_
 go_simp;refine hK _ _ (fun h=>absurd rfl h) ?_;refine eF ?_;have hx3:DiskX w3 F b m pv (S.dmgAt s p y 0):=by
  have hx2:=HX2.out;have hdl:(S.dmgAt s p y 0).dur.length=S.dur.length:=by simp[DS.dmgAt]
  have hkept:∀j,j<W2.heap.size→j≠m→w3.heap[j]?=W2.heap[j]?:=fun j hj hne=>hg3.block j hj (fun e=>hne (Option.some.inj e))
  refine⟨hx2.fb,hx2.fm,hx2.fp,(hkept b hx2.lt (Ne.symm hx2.mb)).trans ?_,?_,?_⟩
  ·rw[hx2.hb];simp[Cr,DS.dmgAt]
  ·rw[hdl];refine hM3.ext (fun i hi=>?_);show(if i=s then B1 else S.dur.getD i zeros)=(S.dmgAt s p y 0).dur.getD i zeros;simp only[DS.dmgAt,List.getD_eq_getElem?_getD,List.getElem?_set];by_cases his:i=s
   ·subst his;rw[HB1.out,HB0.out];simp[hi]
   ·simp[his,Ne.symm his]
  ·have e1:(S.dmgAt s p y 0).pend=S.pend:=by simp[DS.dmgAt]
   rw[e1];refine⟨hx2.hp.1,?_⟩;rcases hx2.hp.2 with hn| ⟨g,cap,cur,e,hbg,hg,rest⟩
   ·exact .inl hn
   ·exact .inr ⟨g,cap,cur,e,hbg,(hkept g (Ax hg).1 (fun e2=>hx2.pm (by rw[e,←e2];rfl))).trans hg,rest⟩
 have hC3:Chg F w w3:=(Cb HBW.out).trans (((Chg.refl F W2).drew).trans (Chg.grown (F:=F) hg3 (fun k e=>.inl (by rw[←Option.some.inj e];exact HX2.out.fm))) (fun _ h=>.inl h)) (fun _ h=>.inl h);have hpe:(S.dmgAt s p y 0).pend.length=S.pend.length:=by simp[DS.dmgAt]
 have hP3:=DA (fun x hx=>((Jf HOK.out s p hs y 0).pend x hx).2) hx3.hp;obtain⟨pa,pcap,hpv⟩:∃a cap,pv=.slice a S.pend.length cap:=by
  rcases hP3 with⟨rfl,e⟩| ⟨g,cap,rfl,_⟩
  ·refine⟨none,0,?_⟩;rw[←hpe,e];rfl
  ·exact⟨_,_,by rw[hpe]⟩
 subst hpv;obtain⟨d0,d1,d2,d3,d4,d5,d6,df⟩:=hx3.cells;have HX3:=Hd hx3;have HC3:=Hd hC3;clear hx3 hC3 hP3 hrun3 hM3 hg3 hpe;go_wp2;clear d0 d1 d2 d3 d4 d5 d6 df;go_loopw [49] (fun i wr=>∃k:Nat,k≤S.pend.length∧i=.int .i64 k∧DiskX wr F b m (.slice pa S.pend.length pcap) (S.dmgAt s p y k)∧Chg F w wr)
  (fun i _=>S.pend.length-(intOf i).toNat)
 case atStart=>exact⟨0,Nat.zero_le _,rfl,HX3.out,HC3.out⟩
 case round=>
  obtain⟨k,hk,rfl,hX,hC⟩:=hrel;have hlk:∀x∈(S.dmgAt s p y k).pend,x.2.length=256:=fun x hx=>((Jf HOK.out s p hs y k).pend x hx).2
  obtain⟨d0,d1,d2,d3,d4,d5,d6,df⟩:=hX.cells;by_cases hlt:k<S.pend.length
  ·have hpl:(S.dmgAt s p y k).pend.length=S.pend.length:=FR _ _ _ hk;have hat:(S.dmgAt s p y k).pend[k]?=some S.pend[k]:=Mx _ _ _ hlt;obtain⟨x1,x2,hx⟩:∃x1 x2,S.pend[k]=(x1,x2):=⟨_,_,rfl⟩;rw[hx]at hat;have hx2:x2.length=256:=hlk (x1,x2) (List.mem_of_getElem? hat);have hP1:=DA hlk hX.hp;rcases hP1 with⟨_,e2⟩| ⟨g,cap',e1,hg,hr⟩
   ·rw[e2]at hpl;simp at hpl;omega
   rw[hpl]at e1;simp only[Value.slice.injEq]at e1;obtain⟨rfl,_,rfl⟩:=e1;have hrq:wr.rangeAt g (k*257) (AC (x1,x2)):=by have:=hr k (by omega);rw[(List.getElem?_eq_some_iff.1 hat).2]at this;exact this
   have hc0:wr.cell? ⟨g,k*257,none⟩=some (.int .i64 x1):=by have:=hrq 0 (.int .i64 x1) rfl;rwa [Nat.add_zero]at this
   obtain⟨z,hz⟩:∃z,z=x2.getD p 0:=⟨_,rfl⟩;have hcz:wr.cell? ⟨g,k*257+1+p,none⟩=some (.int .u8 (z.toNat:Int)):=by
    have:=hrq (1+p) (bv z) (by rw[Nat.add_comm 1 p];show(bvs x2)[p]?=_;rw[AE,List.getElem?_eq_getElem (show p<x2.length by omega),hz];simp[List.getD,List.getElem?_eq_getElem (show p<x2.length by omega)])
    rwa [←Nat.add_assoc]at this
   have hfz:wr.frozen? ⟨g,k*257+1+p,none⟩=false:=by
    rcases hX.hp.2 with⟨e,_⟩| ⟨g',cap',cur,e,_,hh,_⟩
    ·cases e
    ·obtain⟨rfl,_,_⟩:g=g'∧_∧_:=by simpa using e
     exact frozen_of_row wr _ _ _ _ hh
   have hnext:S.dmgAt s p y (k+1)=if x1=s then{S.dmgAt s p y k with pend:=(S.dmgAt s p y k).pend.set k (x1,x2.set p (z^^^y))}else S.dmgAt s p y k:=by
    have h1:=Rm (dmg s p y) S.pend k hlt;rw[hx]at h1;have h2:dmg s p y (x1,x2)=if x1=s then(x1,x2.set p (z^^^y))else(x1,x2):=by unfold dmg E1;rw[hz]
    rw[h2]at h1;by_cases hxs:x1=s
    ·rw[Ip hxs]at h1⊢;unfold DS.dmgAt;simp only[←h1]
    ·rw[In hxs]at h1⊢;unfold DS.dmgAt;rw[←h1];have h3:((S.pend.take k).map (dmg s p y)++S.pend.drop k).set k (x1,x2)=(S.pend.take k).map (dmg s p y)++S.pend.drop k:=by
      have h4:k<((S.pend.take k).map (dmg s p y)++S.pend.drop k).length:=by rw[FR _ _ _ hk];exact hlt
      have h5:((S.pend.take k).map (dmg s p y)++S.pend.drop k)[k]=(x1,x2):=(List.getElem?_eq_some_iff.1 hat).2
      conv=>lhs;rw[←h5]
      exact List.set_getElem_self h4
     rw[h3]
   have hbx:=E3 z y;obtain⟨HXK,HC,HLK,HAT,HNX⟩:=Hd5 hX hC hlk hat hnext;clear hX hC hlk hpl hat hx hx2 hg hr hrq hz hnext d0 d1 d3 d4 d5 d6;by_cases hxs:x1=s
   ·subst hxs;have h3:¬(256:Int)≤(p:Int):=(by omega);go_wp2_with fail;go_region;have hX5:DiskX (wr.drew.setCell ⟨g,k*257+1+p,none⟩ (bv (z^^^y))) F b m (.slice (some ⟨g,0,none⟩) S.pend.length pcap) (S.dmgAt x1 p y (k+1)):=by rw[HNX.out];simp only[if_true];exact(HXK.out.chg (G:=fun _=>False) (Chg.refl _ wr).drew (fun _ _ h=>h)).setByte HLK.out HAT.out hp _
    have hC5:Chg F w (wr.drew.setCell ⟨g,k*257+1+p,none⟩ (bv (z^^^y))):=HC.out.drew.trans (Chg.setCell (F:=F) _ _ (HXK.out.fp g rfl)) (fun _ h=>.inl h);rw[JV]at hX5 hC5;have HX5:=Hd hX5;have HC5:=Hd hC5;clear hX5 hC5;go_wp2;go_roundw
    case rel=>exact⟨k+1,by omega,by go_num,HX5.out,HC5.out⟩
    case measure=>simp[intOf];omega
   ·have hxs':¬(x1:Int)=(s:Int):=by omega
    go_wp2;go_roundw
    case rel=>exact⟨k+1,by omega,by go_num,by rw[HNX.out,In hxs];exact HXK.out,HC.out⟩
    case measure=>simp[intOf];omega
  ·obtain rfl :k=S.pend.length:=by omega
   have HXK:=Hd hX;clear hX d0 d1 d2 d3 d4 d5 d6 df hlk;go_wp2;go_ret;exact⟨rfl,⟨Jf HOK.out s p hs y _,m,_,HXK.out⟩,hC⟩
theorem OR (s p:Int) (y:UInt8) (h:DiskAt w F b S) (hlen:S.pend.length<100000000):
 Ca 10 #[.pointer (some ⟨b,0,none⟩),.int .i64 s,.int .i64 p,.int .u8 (y.toNat:Int)] w fun e w'=>e=.returned (.int .i64 (S.damage s p y).2)∧
  DiskAt w' F b (S.damage s p y).1∧Chg F w w':=by
 have HH:=Hd h;cases hh:S.has s with
 |false=>
  have e1:S.damage s p y=(S,8):=by simp[DS.damage,hh]
  rw[e1];clear h e1;go_enter Tryz.func10,Tryz.ntmps10;go_wp2_with (go_at_call 33;refine(DL s HH.out).mono ?_;rw[hh];rintro e w' ⟨rfl,rfl⟩)
  go_ret;exact⟨rfl,HH.out,Chg.refl _ _⟩
 |true=>
  by_cases hp:0≤p∧p<256
  ·have hs:0≤s∧s<(S.dur.length:Int):=by simpa[DS.has]using hh
   obtain⟨s',rfl⟩:=Int.eq_ofNat_of_zero_le hs.1;obtain⟨p',rfl⟩:=Int.eq_ofNat_of_zero_le hp.1;refine(Ni s' p' y h (by omega) (by omega) hlen).mono ?_;have e1:S.damage s' p' y=(S.dmgAt s' p' y S.pend.length,0):=by simp[DS.damage,hh,hp,DS.dmgAt]
   rw[e1];exact fun e w' h=>h
  ·have e1:S.damage s p y=(S,2):=by simp[DS.damage,hh];omega
   rw[e1];clear h e1;have hp':p<0∨(¬p<0∧256≤p):=by omega
   rcases hp' with h1| ⟨h1,h2⟩
   all_goals
    go_enter Tryz.func10,Tryz.ntmps10;go_wp2_with (go_at_call 33;refine(DL s HH.out).mono ?_;rw[hh];rintro e w' ⟨rfl,rfl⟩)
    go_ret;exact⟨rfl,HH.out,Chg.refl _ _⟩
end Go.Proofs.YtplclpileejemaaGreatDoor
namespace Go.Proofs.YtplclpileejemaaGreatDoor
open Go.RowKit Go.Shelf
variable {w:World}{B:Nat}
theorem Q7 {α:Type}{l:List α} (h:l.Nodup) {i j:Nat} (hi:i<l.length) (hj:j<l.length) (hij:i≠j):l[i]≠l[j]:=by
 have hp:=List.pairwise_iff_getElem.1 h;rcases Nat.lt_or_gt_of_ne hij with h1|h1
 ·exact hp i j hi hj h1
 ·exact fun e=>hp j i hj hi h1 e.symm
theorem Rows.setByte {R:List (List UInt8×Value)} (h:Rows w B R) {i g cap p:Nat} {l:List UInt8} (hi:R[i]?=some (l,.slice (some ⟨g,0,none⟩) 256 cap)) (z:UInt8):
 Rows (w.setCell ⟨g,p,none⟩ (bv z)) B (R.set i (l.set p z,.slice (some ⟨g,0,none⟩) 256 cap)):=by
 obtain⟨hil,hie⟩:=List.getElem?_eq_some_iff.1 hi;have hrow:=h.row _ (List.mem_of_getElem? hi);obtain⟨hl,_,_,_,hr⟩:=hrow;have hmap:(R.set i (l.set p z,.slice (some ⟨g,0,none⟩) 256 cap)).map (fun x=>x.2.ownBlock)=R.map (fun x=>x.2.ownBlock):=by
  rw[List.map_set];have e:(R.map (fun x=>x.2.ownBlock))[i]'(by simpa using hil)=(Value.slice (some ⟨g,0,none⟩) 256 cap).ownBlock:=by simp[hie]
  rw[←e];exact List.set_getElem_self _
 refine⟨fun x hx=>?_,by rw[hmap];exact h.nodup⟩;obtain⟨j,hj⟩:=List.mem_iff_getElem?.1 hx;rw[List.getElem?_set]at hj;by_cases hij:i=j
 ·subst hij;rw[Ip rfl,Ip hil]at hj;obtain rfl :_=x:=Option.some.inj hj;refine⟨by simpa using hl,g,cap,rfl,?_⟩;have:=IX hr (i:=p) (bv z);rwa [show(bvs l).set p (bv z)=bvs (l.set p z) by simp[bvs,List.map_set]]at this
 ·rw[In hij]at hj;obtain⟨hjl,hje⟩:=List.getElem?_eq_some_iff.1 hj;obtain⟨hl2,g2,cap2,e2,hr2⟩:=h.row x (List.mem_of_getElem? hj);refine⟨hl2,g2,cap2,e2,?_⟩;refine AJ hr2 (Chg.setCell (F:=fun i=>i=g) w (a:=⟨g,p,none⟩) (bv z) rfl) (fun k hk e=>?_);have:=Q7 h.nodup (i:=i) (j:=j) (by simpa using hil) (by simpa using hjl) hij;simp only[List.getElem_map,hie,hje]at this;rw[hk,e]at this;exact this rfl
section
variable {w:World} {B:Nat} {S:DS} {dv wv:Value} {D:List (List UInt8×Value)} {L:List (Nat×List UInt8×Value)}
theorem RefOwnX.drew (h:RefOwnX w B S dv wv D L):RefOwnX w.drew B S dv wv D L:=h.chg (G:=fun _=>False) (Chg.refl _ w).drew (fun _ _ h=>h)
theorem RefOwnX.lenD (h:RefOwnX w B S dv wv D L):D.length=S.dur.length:=by rw[←h.dur,List.length_map]
theorem RefOwnX.lenL (h:RefOwnX w B S dv wv D L):L.length=S.pend.length:=by rw[←h.pend,List.length_map]
theorem RefOwnX.byteRow (h:RefOwnX w B S dv wv D L) {i g cap p:Nat} {l:List UInt8} (hi:(D++L.map (·.2))[i]?=some (l,.slice (some ⟨g,0,none⟩) 256 cap)) (z:UInt8):
 (w.setCell ⟨g,p,none⟩ (bv z)).ownsRow B 30 1 dv S.dur.length (D.map (·.2))∧(w.setCell ⟨g,p,none⟩ (bv z)).ownsRow B 84 2 wv S.pend.length (DU L):=by
 obtain⟨_,_,_,_,hr⟩:=h.rows.row _ (List.mem_of_getElem? hi);have hc:=Chg.setCell (F:=fun i=>i=g) w (a:=⟨g,p,none⟩) (bv z) rfl;exact⟨AJ h.rd hc (fun k hk e=>BG hr h.rd (by decide) g rfl (by rw[hk,e])),AJ h.rw hc (fun k hk e=>BG hr h.rw (by decide) g rfl (by rw[hk,e]))⟩
theorem RefOwnX.atD (h:RefOwnX w B S dv wv D L) (k:Nat) (hk:k<S.dur.length):
 ∃gd cd g cap,dv=.slice (some ⟨gd,0,none⟩) S.dur.length cd∧B≤gd∧B≤g∧g<w.heap.size∧w.cell? ⟨gd,k,none⟩=some (.slice (some ⟨g,0,none⟩) 256 cap)∧
  (∀p,p<256→w.cell? ⟨g,p,none⟩=some (bv (S.dur[k].getD p 0)))∧(∀p,w.frozen? ⟨g,p,none⟩=false)∧(∃cur,w.heap[g]?=some (.cells cur 5 (0,0)))∧
  ∀p z,∃D',RefOwnX (w.setCell ⟨g,p,none⟩ (bv z)) B {S with dur:=S.dur.set k (S.dur[k].set p z)} dv wv D' L:=by
 have hkD:k<D.length:=by rw[h.lenD];exact hk
 obtain⟨gd,cd,e,hgd,hob,hcc⟩:=AZ h.rd (by omega);obtain⟨l,u,hDk⟩:∃l u,D[k]=(l,u):=⟨_,_,rfl⟩;have hm:(l,u)∈D++L.map (·.2):=List.mem_append.2 (.inl (hDk▸List.getElem_mem hkD));obtain⟨hl,g,cap,eu,hr⟩:=h.rows.row _ hm;simp only at hl eu hr;subst eu;have hdk:S.dur[k]=l:=by simp[←h.dur,hDk]
 have hat:(D++L.map (·.2))[k]?=some (l,.slice (some ⟨g,0,none⟩) 256 cap):=by rw[List.getElem?_append_left hkD,List.getElem?_eq_getElem hkD,hDk]
 obtain⟨g',cap',e2,hgl,_,hb⟩:=AZ hr (by decide);simp only[Value.slice.injEq,Option.some.injEq,Addr.mk.injEq]at e2;obtain⟨⟨rfl,_⟩,_,rfl⟩:=e2;refine⟨gd,cd,g,cap,e,(Ab h.rd gd hob).1,(Ab hr g rfl).1,hgl,hcc k _ (by rw[List.getElem?_map,List.getElem?_eq_getElem hkD,hDk];rfl),fun p hp=>?_,fun p=>?_,?_,fun p z=>⟨D.set k (l.set p z,.slice (some ⟨g,0,none⟩) 256 cap),?_⟩⟩
 ·rw[hdk];refine hb p _ ?_;rw[AE,List.getElem?_eq_getElem (by omega)];simp[List.getD,List.getElem?_eq_getElem (show p<l.length by omega)]
 ·rcases hr.2 with⟨e,_⟩| ⟨g',cap',cur,e,_,hh,_⟩
  ·cases e
  ·simp only[Value.slice.injEq,Option.some.injEq,Addr.mk.injEq]at e;obtain⟨⟨rfl,_⟩,_,rfl⟩:=e;exact frozen_of_row w _ _ _ _ hh
 ·rcases hr.2 with⟨e,_⟩| ⟨g',cap',cur,e,_,hh,_⟩
  ·cases e
  ·simp only[Value.slice.injEq,Option.some.injEq,Addr.mk.injEq]at e;obtain⟨⟨rfl,_⟩,_,rfl⟩:=e;exact⟨_,hh⟩
 ·have hb2:=h.byteRow hat z (p:=p);rw[hdk];refine⟨by rw[List.map_set,h.dur],h.pend,?_,hb2.2,?_⟩
  ·show World.ownsRow _ _ _ _ _ (S.dur.set k (l.set p z)).length _;rw[List.length_set,List.map_set];have e3:(D.map (·.2))[k]'(by simpa using hkD)=Value.slice (some ⟨g,0,none⟩) 256 cap:=by simp[hDk]
   have e4:(D.map (·.2)).set k (Value.slice (some ⟨g,0,none⟩) 256 cap)=D.map (·.2):=by rw[←e3];exact List.set_getElem_self _
   rw[e4];exact hb2.1
  ·have:=h.rows.setByte hat z (p:=p);rwa [List.set_append_left _ _ hkD]at this
theorem Q8 (L:List (Nat×List UInt8×Value)) {j x1:Nat} {l l':List UInt8} {u:Value} (hj:L[j]?=some (x1,l,u)):DU (L.set j (x1,l',u))=DU L:=by
 induction L generalizing j with
 |nil=>rfl
 |cons x L ih=>
  cases j with
  |zero=>
   simp only[List.getElem?_cons_zero,Option.some.injEq]at hj;subst hj;rfl
  |succ j=>
   simp only[List.getElem?_cons_succ]at hj;simp only[List.set_cons_succ,DU,List.flatMap_cons];rw[show(L.set j (x1,l',u)).flatMap (fun x=>[Value.int .i64 (x.1:Int),x.2.2])=L.flatMap (fun x=>[Value.int .i64 (x.1:Int),x.2.2])from ih hj]
theorem RefOwnX.atL (h:RefOwnX w B S dv wv D L) (j:Nat) (hj:j<S.pend.length):
 ∃gw cw g cap,wv=.slice (some ⟨gw,0,none⟩) S.pend.length cw∧B≤gw∧B≤g∧g<w.heap.size∧gw≠g∧w.cell? ⟨gw,j*2,none⟩=some (.int .i64 (S.pend[j].1:Int))∧w.cell? ⟨gw,j*2+1,none⟩=some (.slice (some ⟨g,0,none⟩) 256 cap)∧
  (∀p,p<256→w.cell? ⟨g,p,none⟩=some (bv (S.pend[j].2.getD p 0)))∧(∀p,w.frozen? ⟨g,p,none⟩=false)∧
  ∀p z,∃L',RefOwnX (w.setCell ⟨g,p,none⟩ (bv z)) B {S with pend:=S.pend.set j (S.pend[j].1,S.pend[j].2.set p z)} dv wv D L':=by
 have hjL:j<L.length:=by rw[h.lenL];exact hj
 obtain⟨gw,cw,e,hgw,hob,hcc⟩:=AZ h.rw (by omega);obtain⟨x1,l,u,hLj⟩:∃x1 l u,L[j]=(x1,l,u):=⟨_,_,_,rfl⟩;have hm:(l,u)∈D++L.map (·.2):=List.mem_append.2 (.inr (List.mem_map.2 ⟨(x1,l,u),hLj▸List.getElem_mem hjL,rfl⟩));obtain⟨hl,g,cap,eu,hr⟩:=h.rows.row _ hm;simp only at hl eu hr;subst eu;have hpj:S.pend[j]=(x1,l):=by simp[←h.pend,hLj]
 have hat:(D++L.map (·.2))[D.length+j]?=some (l,.slice (some ⟨g,0,none⟩) 256 cap):=by rw[List.getElem?_append_right (by omega),Nat.add_sub_cancel_left,List.getElem?_map,List.getElem?_eq_getElem hjL,hLj];rfl
 obtain⟨g',cap',e2,hgl,_,hb⟩:=AZ hr (by decide);simp only[Value.slice.injEq,Option.some.injEq,Addr.mk.injEq]at e2;obtain⟨⟨rfl,_⟩,_,rfl⟩:=e2;have hlr:=ID L j hjL;rw[hLj]at hlr;refine⟨gw,cw,g,cap,e,(Ab h.rw gw hob).1,(Ab hr g rfl).1,hgl,fun e5=>BG h.rw hr (by decide) gw hob (by rw[e5];rfl),?_,hcc _ _ hlr.2,fun p hp=>?_,fun p=>?_,fun p z=>⟨L.set j (x1,l.set p z,.slice (some ⟨g,0,none⟩) 256 cap),?_⟩⟩
 ·rw[hpj];exact hcc _ _ hlr.1
 ·rw[hpj];refine hb p _ ?_;rw[AE,List.getElem?_eq_getElem (by omega)];simp[List.getD,List.getElem?_eq_getElem (show p<l.length by omega)]
 ·rcases hr.2 with⟨e,_⟩| ⟨g',cap',cur,e,_,hh,_⟩
  ·cases e
  ·simp only[Value.slice.injEq,Option.some.injEq,Addr.mk.injEq]at e;obtain⟨⟨rfl,_⟩,_,rfl⟩:=e;exact frozen_of_row w _ _ _ _ hh
 ·have hb2:=h.byteRow hat z (p:=p);rw[hpj];refine⟨h.dur,by rw[List.map_set,h.pend],hb2.1,?_,?_⟩
  ·show World.ownsRow _ _ _ _ _ (S.pend.set j (x1,l.set p z)).length _;rw[List.length_set,Q8 L (j:=j) (l:=l) (by rw[List.getElem?_eq_getElem hjL,hLj])];exact hb2.2
  ·have:=h.rows.setByte hat z (p:=p);rw[List.set_append_right _ _ (by omega),Nat.add_sub_cancel_left]at this;rwa [List.map_set]
theorem RefOwnX.formL (h:RefOwnX w B S dv wv D L) (k:Nat) (hk:k<S.pend.length):
 ∃gw cw g cap,wv=.slice (some ⟨gw,0,none⟩) S.pend.length cw∧L[k]?=some (S.pend[k].1,S.pend[k].2,.slice (some ⟨g,0,none⟩) 256 cap)∧w.cell? ⟨gw,k*2,none⟩=some (.int .i64 (S.pend[k].1:Int))∧w.cell? ⟨gw,k*2+1,none⟩=some (.slice (some ⟨g,0,none⟩) 256 cap):=by
 have hjL:k<L.length:=by rw[h.lenL];exact hk
 obtain⟨gw,cw,e,hgw,hob,hcc⟩:=AZ h.rw (by omega);obtain⟨x1,l,u,hLj⟩:∃x1 l u,L[k]=(x1,l,u):=⟨_,_,_,rfl⟩;have hm:(l,u)∈D++L.map (·.2):=List.mem_append.2 (.inr (List.mem_map.2 ⟨(x1,l,u),hLj▸List.getElem_mem hjL,rfl⟩));obtain⟨hl,g,cap,eu,hr⟩:=h.rows.row _ hm;simp only at hl eu hr;subst eu;have hpj:S.pend[k]=(x1,l):=by simp[←h.pend,hLj]
 have hlr:=ID L k hjL;rw[hLj]at hlr;refine⟨gw,cw,g,cap,e,by rw[hpj,List.getElem?_eq_getElem hjL,hLj],?_,hcc _ _ hlr.2⟩;rw[hpj];exact hcc _ _ hlr.1
theorem RefOwnX.bytesL (h:RefOwnX w B S dv wv D L) {k x1 g cap:Nat} {l:List UInt8} (hk:L[k]?=some (x1,l,.slice (some ⟨g,0,none⟩) 256 cap)):∀p,p<256→w.cell? ⟨g,p,none⟩=some (bv (l.getD p 0)):=by have hm:(l,Value.slice (some ⟨g,0,none⟩) 256 cap)∈D++L.map (·.2):=List.mem_append.2 (.inr (List.mem_map.2 ⟨_,List.mem_of_getElem? hk,rfl⟩));obtain⟨hl,_,_,_,hr⟩:=h.rows.row _ hm;obtain⟨g',cap',e2,hgl,_,hb⟩:=AZ hr (by decide);simp only[Value.slice.injEq,Option.some.injEq,Addr.mk.injEq]at e2;obtain⟨⟨rfl,_⟩,_,rfl⟩:=e2;have hl':l.length=256:=hl;clear hl;intro p hp;refine hb p _ (show(bvs l)[p]?=_ from ?_);rw[AE,List.getElem?_eq_getElem (by omega)];simp[List.getD,List.getElem?_eq_getElem (show p<l.length by omega)]
end
end Go.Proofs.YtplclpileejemaaGreatDoor
