/- JournalOperations: for every argument the law returns true, and the arguments read as they did; the card. -/
import Derived.Test.YtplclpileejemaaGreatDoorP14
import Derived.Test.YtplclpileejemaaGreatDoorTie
import Derived.Test.YtplclpileejemaaGreatDoorCards
import Derived.SevenTiedAt
set_option linter.all false
set_option maxRecDepth 100000
set_option maxHeartbeats 8000000
namespace Go.Proofs.YtplclpileejemaaGreatDoor
open Go.RowKit Go.Shelf
variable {w W:World}{F G:Nat→Prop}{b B n:Nat}{S:DS}{T:TypeId}{v dv jv:Value}{R:JR}
theorem Chg.drewN (F:Nat→Prop) (w:World) (n:Nat):Chg F w (w.drewN n):=⟨rfl,rfl,rfl,Nat.le_refl _,fun _ _ _=>rfl⟩
theorem Below.drewN' (w:World) (n B:Nat):Below B w (w.drewN n):=⟨rfl,rfl,rfl,Nat.le_refl _,fun _ _=>rfl⟩
theorem DiskAt.drewN (h:DiskAt w F b S) (n:Nat):DiskAt (w.drewN n) F b S:=h.chg (G:=fun _=>False) (Chg.drewN _ w n) (fun _ _ h=>h)
theorem WritesAt.at {l:List (Nat×List UInt8)} (h:WritesAt T w B G v l) (i:Nat) (hi:i<l.length):
 ∃g cap u,v=.slice (some ⟨g,0,none⟩) l.length cap∧g<w.heap.size∧w.cell? ⟨g,i*2,none⟩=some (.int .i64 (l[i].1:Int))∧w.cell? ⟨g,i*2+1,none⟩=some u∧BytesAt w G u l[i].2:=by
 obtain⟨L,hL,hr,hb⟩:=h;obtain⟨g,cap,e,hg,hob,hc⟩:=AZ hr (by omega);have hl:L.length=l.length:=by rw[←hL,List.length_map]
 have hiL:i<L.length:=by omega
 have hx:=ID L i hiL;have e2:l[i]=(L[i].1,L[i].2.1):=by simp[←hL]
 refine⟨g,cap,L[i].2.2,e,hg,?_,hc _ _ hx.2,?_⟩
 ·rw[e2];exact hc _ _ hx.1
 ·rw[e2];exact(hb L[i] (List.getElem_mem hiL)).mono (fun k h=>h.1)
theorem Rg (s:Nat) (h:DiskAt w F b S) (hlen:S.pend.length<1000000000000) (hd:S.down=false) (hs:s<S.dur.length):
 Ca 41 #[.pointer (some ⟨b,0,none⟩),.int .i64 s] w fun e w'=>∃v,e=.returned (.tuple #[v,.int .i64 0])∧BytesAt w' (fun k=>w.heap.size≤k) v (S.visible s)∧Below w.heap.size w w':=by
 have hh:S.has (s:Int)=true:=by simp[DS.has];omega
 refine(LI (s:Int) h hlen).mono ?_;rintro e w' ⟨v,rfl,hv,hb⟩;have e1:S.readB (s:Int)=S.visible s:=by simp[DS.readB,hd,hh]
 have e2:S.readE (s:Int)=0:=by simp[DS.readE,hd,hh]
 rw[e1]at hv;rw[e2];have h0:=BL h.ok hs;rw[In (fun e=>by rw[e]at h0;simp at h0)]at hv;exact⟨v,rfl,hv.bytes,hb⟩
theorem WX.lit2 {x:Nat}{P Q:Nat→Prop}{jp:Value} (h:WX w W x b S P Q n jp dv jv):∃(ad:Option Addr) (capd:Nat) (aw:Option Addr) (capw:Nat) (j0 j1 j2 j3 j4 j5 j6 j7:Value),
 jv=.agg #[j0,j1,j2,j3,j4,j5,j6,j7]∧RefAt W Q S (A9 S (.slice ad S.dur.length capd) (.slice aw S.pend.length capw))∧WrAt W Q (.slice aw S.pend.length capw) S.pend∧W.heap[x]?=some (.cells #[.pointer (some ⟨b,0,none⟩),jp,.slice ad S.dur.length capd,.slice aw S.pend.length capw,.int .i64 (Au S),.bool S.down,.int .i64 (S.ops:Int),j0,j1,j2,j3,j4,j5,j6,j7,.int .i64 n] 43 (0,0)):=by
 obtain⟨v0,v1,v2,v3,v4,j0,j1,j2,j3,j4,j5,j6,j7,rfl,rfl,hx⟩:=h.blk;have hR:=h.ref.at_;obtain⟨dv,wv,e,hd,hw⟩:=hR;obtain⟨ad,capd,rfl⟩:=hd.len;obtain⟨aw,capw,rfl⟩:=hw.len;unfold A9 at e;cases e;exact⟨ad,capd,aw,capw,j0,j1,j2,j3,j4,j5,j6,j7,rfl,h.ref.at_,hw,hx⟩
theorem Rh {x:Nat}{j:Option (Nat×JD)} (h:WS w W x b S R j) (hlen:S.dur.length=48) (hpl:S.pend.length<100000000) (hJ:∀g J,j=some (g,J)→J.first+J.ents.length≤4294967296∧J.used≤R.half∧R.cnt≤48):
 Ca 13 #[.pointer (some ⟨x,0,none⟩)] W fun e W'=>e=.returned (.bool true)∧Below W.heap.size W W':=by
 obtain⟨P,Q,jp,dv,jv,hx,hj⟩:=h.get;obtain⟨F,hF,hFP⟩:=hx.dev;obtain⟨ad,capd,aw,capw,j0,j1,j2,j3,j4,j5,j6,j7,rfl,hR,hw,hcell⟩:=hx.lit2;have HC:=Hd (fun w' (hw':Below W.heap.size W w')=>by have h1:=(Bq hw' hcell);exact Dq15 (Cq h1 0) (Cq h1 1) (Cq h1 2) (Cq h1 3) (Cq h1 4) (Cq h1 5) (Cq h1 6) (Cq h1 7) (Cq h1 8) (Cq h1 9) (Cq h1 10) (Cq h1 11) (Cq h1 12) (Cq h1 13) (Cq h1 14));have HCa:=Hd (show∀w',Below W.heap.size W w'→w'.cell? ⟨x,0,none⟩=some (.pointer (some ⟨b,0,none⟩))∧w'.cell? ⟨x,3,none⟩=some (.slice aw S.pend.length capw)∧w'.cell? ⟨x,5,none⟩=some (.bool S.down)∧w'.cell? ⟨x,6,none⟩=some (.int .i64 (S.ops:Int))from fun w' hw'=>by obtain⟨c0,c1,c2,c3,c4,c5,c6,c7,c8,c9,c10,c11,c12,c13,c14⟩:=HC.out w' hw';exact⟨c0,c3,c5,c6⟩)
 obtain⟨HJ,HJN,HD,HR,HW,HOK,HL⟩:=Hd7 hj hJ hF hR hw hF.ok hlen;obtain⟨c0,c3,c5,c6⟩:=HCa.out W Rq;clear hcell hj hJ hF hFP hR hw hx h hlen;go_enter Tryz.func13,Tryz.ntmps13;go_wp2_with fail;go_quiet (first
  | (go_at_call 38;exact Calls.quiet_of_same ((LC (HD.out.drewN _)).mono fun _ _ h=>⟨h.1,h.2.symm⟩))
  | (go_at_call 39;exact Calls.quiet_of_same ((Kb (HD.out.drewN _)).mono fun _ _ h=>⟨h.1,h.2.symm⟩)))
 obtain⟨w2,hw2⟩:=Xq (W.drewN nq);have HB2:=Hd (show Below W.heap.size W w2 from hw2▸Below.drewN' W nq _);rw[hw2];clear c0 c3 c5 c6 hw2;obtain⟨c0,c3,c5,c6⟩:=HCa.out w2 HB2.out;go_wp2_with fail;clear c0 c3 c5 c6;refine(Nf (HD.out.below HB2.out) (by omega)).mono ?_;rintro e w3 ⟨pv,rfl,hP,hb3⟩;have HW3:=Hd (Tq HB2.out hb3);obtain⟨c0,c3,c5,c6⟩:=HCa.out w3 HW3.out;have HP:=Hd hP;obtain⟨pa,pc,rfl⟩:=hP.len;clear hP hb3;go_wp2_with fail;clear c0 c3 c5 c6;go_loopw [4] (fun i wx=>∃j:Nat,j≤S.pend.length∧i=.int .i64 j∧Below w3.heap.size w3 wx) (fun i _=>S.pend.length-(intOf i).toNat)
 case atStart=>exact⟨0,Nat.zero_le _,rfl,Rq⟩
 case round=>
  obtain⟨j,hj,rfl,hB⟩:=hrel;obtain⟨c0,c3,c5,c6⟩:=HCa.out wr (Tq HW3.out hB);have HB:=Hd hB;clear hB;by_cases hltj:j<S.pend.length
  ·obtain⟨gp,cp,up,e,hgp,hp0,hp1,hpb⟩:=HP.out.at j hltj;simp only[Value.slice.injEq]at e;obtain⟨rfl,_,rfl⟩:=e;obtain⟨gw,cw,uw,e,hgw,_,hw0,hw1,hwb⟩:=(HW.out.kept (F:=fun _=>False) (Cb HW3.out) (fun _ _ h=>h)).at j hltj;simp only[Value.slice.injEq]at e;obtain⟨rfl,_,rfl⟩:=e;obtain⟨x1,x2,hx⟩:∃x1 x2,S.pend[j]=(x1,x2):=⟨_,_,rfl⟩;rw[hx]at hp0 hpb hw0 hwb;simp only at hp0 hpb hw0 hwb;have p0:=(HB.out.cell (p:=⟨gp,j*2,none⟩) hgp).trans hp0;have p1:=(HB.out.cell (p:=⟨gp,j*2+1,none⟩) hgp).trans hp1;have q0:=(HB.out.cell (p:=⟨gw,j*2,none⟩) hgw).trans hw0;have q1:=(HB.out.cell (p:=⟨gw,j*2+1,none⟩) hgw).trans hw1;have hpb':=hpb.kept (G:=fun _=>False) (Cb HB.out) (fun _ _ h=>h);have hwb':=hwb.kept (G:=fun _=>False) (Cb HB.out) (fun _ _ h=>h);have s1:=fun n=>(hpb'.drewN n).str
   have s2:=fun n=>(hwb'.drewN n).str
   clear hp0 hp1 hw0 hw1 hpb hwb hpb' hwb' hx hgp hgw;go_wp2_with fail;go_quiet (fail);obtain⟨w5,hw5⟩:=Xq (wr.drewN nq);have HB5:=Hd (show Below w3.heap.size w3 w5 from hw5▸HB.out.trans ((Below.drewN' wr nq _).mono HB.out.size));rw[hw5];clear hw5 s1 s2 p0 p1 q0 q1 c0 c3 c5 c6;go_wp2_with fail;go_roundw
   case rel=>exact⟨j+1,by omega,by go_num,HB5.out⟩
   case measure=>simp[intOf];omega
  ·obtain rfl :j=S.pend.length:=by omega
   go_wp2_with fail;have HW4:=Hd (Tq HW3.out HB.out);clear c0 c3 c5 c6 HB HW3 HP;go_loopw [5] (fun i wx=>∃k:Nat,k≤48∧i=.int .i64 k∧Below W.heap.size W wx) (fun i _=>48-(intOf i).toNat)
   case atStart=>exact⟨0,Nat.zero_le _,rfl,HW4.out⟩
   case round=>
    clear HW4;obtain⟨k,hk,rfl,hB⟩:=hrel;obtain⟨V0,rfl⟩:∃V0,V0=wr:=⟨_,rfl⟩;obtain⟨c0,c3,c5,c6⟩:=HCa.out V0 hB;have HB0:=Hd hB;clear hB;go_upto_region 12 with(fail)
    refine CC (fun a0_ a' w'=>∃(vb v86 v87 v88 v89 v90 v91 v92 v93 v94:Value),vb=.bool (decide (k<48∧S.down=false))∧a'=((((((((((a0_.put (some 86) v86).put (some 87) v87).put (some 88) v88).put (some 89) v89).put (some 90) v90).put (some 91) v91).put (some 92) v92).put (some 93) v93).put (some 94) v94).put (some 95) vb)∧V0=w') ?_ ?_
    ·by_cases hlt:k<48
     ·have hlI:(k:Int)<48:=by omega
      cases hdn:S.down with
      |false=>
       rw[hdn]at c5;go_wp2_with fail
       all_goals exact⟨rfl,.bool (decide (k<48∧false=false)),_,_,_,_,_,_,_,_,_,by simp[hlt],rfl,rfl⟩
      |true=>
       rw[hdn]at c5;go_wp2_with fail
       all_goals exact⟨rfl,_,_,_,_,_,_,_,_,_,_,by simp,rfl,rfl⟩
     ·obtain rfl :k=48:=by omega
      go_wp2_with fail
      all_goals exact⟨rfl,_,_,_,_,_,_,_,_,_,_,by simp,rfl,rfl⟩
    rintro a' V9 ⟨vb,v86,v87,v88,v89,v90,v91,v92,v93,v94,hvb,rfl,rfl⟩
    try simp only[P0,P1,P2,P3,P4]
    by_cases hgo:k<48∧S.down=false
    ·obtain⟨hlt,hdn⟩:=hgo;have hvt:vb=.bool true:=by rw[hvb];simp[hlt,hdn]
     have HDN:=Hd hdn;subst hvt;clear hvb hdn;go_wp2_with fail;clear c0 c3 c5 c6;refine(Rg k (HD.out.below HB0.out) (by omega) HDN.out (by rw[HL.out];omega)).mono ?_;rintro e w5 ⟨rv,rfl,hrv,hb5⟩;have HB5:=Hd (Tq HB0.out hb5);have HV:=Hd (fun(V:World) (hV:Below W.heap.size W V)=>show Ca 42 #[.agg #[.slice ad S.dur.length capd,.slice aw S.pend.length capw,.int .i64 (Au S),.bool S.down,.int .i64 (S.ops:Int)],.int .i64 k] V fun e w'=>∃v',e=.returned v'∧w'.ownsRow V.heap.size 5 1 v' 256 (bvs (S.visible k))∧Below V.heap.size V w' from by have h:=Gv k (by rw[HL.out];omega) (HR.out.below hV) HOK.out (by omega);unfold A9 at h;exact h)
     have hvl:=BL HOK.out (s:=k) (by rw[HL.out];omega);obtain⟨ra,rc,rfl⟩:∃a cap,rv=.slice a 256 cap:=by obtain⟨a,cap,e,_⟩:=hrv;exact⟨a,cap,by rw[e,hvl]⟩
     have HC5:=Hd (show∀w',Below w5.heap.size w5 w'→w'.cell? ⟨x,2,none⟩=some (.slice ad S.dur.length capd)∧w'.cell? ⟨x,3,none⟩=some (.slice aw S.pend.length capw)∧w'.cell? ⟨x,4,none⟩=some (.int .i64 (Au S))∧w'.cell? ⟨x,5,none⟩=some (.bool S.down)∧w'.cell? ⟨x,6,none⟩=some (.int .i64 (S.ops:Int))∧(convert 30 9 (.slice ra 256 rc)).run Tryz.prog w'=.ok (.string ⟨(S.visible k).toArray⟩) w' from fun w' hw'=>by obtain⟨c0,c1,c2,c3,c4,c5,c6,c7,c8,c9,c10,c11,c12,c13,c14⟩:=HC.out w' (Tq HB5.out hw');exact⟨c2,c3,c4,c5,c6,(hrv.kept (G:=fun _=>False) (Cb hw') (fun _ _ h=>h)).str⟩)
     clear hrv hb5;go_wp2_with fail;refine bB ?_;intro wd hd0;have hS0:=hd0;refine tkH 0 hS0 ?_;refine tkH 1 hS0 ?_ (v:=.bool false);refine tkH 2 hS0 ?_ (v:=.bool false);refine Aj 3 hS0 ?_;refine Bw 4 HC5.out hS0 ?_;refine Aj 5 hS0 ?_;refine Aj 6 hS0 ?_;refine Aj 7 hS0 ?_;refine Bw 8 HC5.out hS0 ?_;refine Aj 9 hS0 ?_;refine dHw 10 fun K hK=>?_
     go_simp;go_at_call 42;refine(HV.out wd (Tq HB5.out hS0)).mono ?_;rintro e w6 ⟨v6,rfl,hown,hb6⟩;have hv6:=Cy hown hvl;have hcv:=hv6.str;obtain⟨ra6,rc6,rfl⟩:∃a cap,v6=.slice a 256 cap:=by obtain⟨a,cap,e,_⟩:=hv6;exact⟨a,cap,by rw[e,hvl]⟩
     have hS6:=Tq hS0 hb6;refine Kq hK (hS6) ?_;refine dHw 11 fun K hK=>?_
     go_simp;refine Kq hK (hS6) ?_;refine Aj 12 hS6 ?_ (v:=.bool false);refine tkH 13 hS6 ?_ (v:=.bool false);refine eH ?_;have HB7:=Hd (Tq HB5.out hS6);clear hS6 hS0 hd0 hb6 hown hv6 hcv;go_wp2_with fail;go_roundw
     case rel=>exact⟨k+1,by omega,by go_num,HB7.out⟩
     case measure=>simp[intOf];omega
    ·have hvt:vb=.bool false:=by rw[hvb];simp only[hgo,decide_false]
     subst hvt;clear hvb c0 c3 c5 c6;obtain⟨c0,c1,c2,c3,c4,c5,c6,c7,c8,c9,c10,c11,c12,c13,c14⟩:=HC.out V0 HB0.out;rcases HJ.out with⟨hjn,hjp⟩| ⟨g,J,hjs,hjp,hja,hrj⟩
     ·subst hjp;go_wp2_with fail;exact Bv (.bool true) ⟨rfl,HB0.out⟩
     ·subst hjp;obtain⟨n1,n2,n3⟩:=HJN.out g J hjs;obtain⟨ea,ec,e,_⟩:=hrj.ex;unfold Do at e;cases e;obtain⟨va,vc,hblk⟩:=hja.blk;have HJB:=Hd (fun V (hV:Below W.heap.size W V)=>hblk.below hV);have hhf:R.half=R.cnt/2:=rfl;have n4:J.used≤24:=by omega
      have hwr1:=Iw ((J.first:Int)+(J.ents.length:Int));have hwr2:=Iw ((R.half:Int)-(J.used:Int));clear hja hrj hblk;have HC1:=Hd (show∀w',Below V0.heap.size V0 w'→w'.cell? ⟨x,1,none⟩=some (.pointer (some ⟨g,0,none⟩))∧w'.cell? ⟨x,8,none⟩=some (.int .i64 (R.half:Int))∧w'.cell? ⟨x,9,none⟩=some (.int .i64 (J.gen:Int))∧w'.cell? ⟨x,10,none⟩=some (.int .i64 (J.used:Int))∧w'.cell? ⟨x,11,none⟩=some (.int .i64 (J.first:Int))∧w'.cell? ⟨x,12,none⟩=some (.slice ea J.ents.length ec)∧w'.cell? ⟨x,13,none⟩=some (.int .i64 (J.synced:Int))∧w'.cell? ⟨x,14,none⟩=some (.int .i64 J.failed)from fun w' hw'=>by obtain⟨c0,c1,c2,c3,c4,c5,c6,c7,c8,c9,c10,c11,c12,c13,c14⟩:=HC.out w' (Tq HB0.out hw');exact⟨c1,c8,c9,c10,c11,c12,c13,c14⟩)
      go_wp2_with fail;clear c0 c1 c2 c3 c4 c5 c6 c7 c8 c9 c10 c11 c12 c13 c14 HJ HC HCa hhf;refine bB ?_;intro wd hd0;have hS0:=hd0;refine tkH 0 hS0 ?_ (hc:=by decide+kernel);refine tkH 1 hS0 ?_ (hc:=by decide+kernel);refine tkH 2 hS0 ?_ (hc:=by decide+kernel);refine AD 3 HC1.out hS0 ?_ (hc:=by decide+kernel);refine tkH 5 hS0 ?_ (hc:=by decide+kernel);refine tkH 6 hS0 ?_ (hc:=by decide+kernel);refine tkH 7 hS0 ?_ (hc:=by decide+kernel);refine tkH 8 hS0 ?_ (hc:=by decide+kernel);refine AD 9 HC1.out hS0 ?_ (hc:=by decide+kernel);refine dH 4 (hr:=by decide+kernel) fun K hK=>?_
      go_simp;go_at_call 21;refine(Ew (HJB.out _ (Tq HB0.out hS0))).mono ?_;rintro e J0 ⟨rfl,hbJ0⟩;have hSJ0:=Tq hS0 hbJ0;refine Kq hK (hSJ0) ?_;refine tkH 10 hSJ0 ?_ (v:=.bool true) (hc:=by decide+kernel);refine tkH 11 hSJ0 ?_ (v:=.bool true) (hc:=by decide+kernel);refine Aj 12 hSJ0 ?_ (hc:=by decide+kernel);refine Aj 13 hSJ0 ?_ (hc:=by decide+kernel);refine Aj 14 hSJ0 ?_ (hc:=by decide+kernel);refine Bw 15 HC1.out hSJ0 ?_ (hc:=by decide+kernel);refine Aj 17 hSJ0 ?_ (hc:=by decide+kernel);refine Aj 18 hSJ0 ?_ (hc:=by decide+kernel);refine Aj 19 hSJ0 ?_ (hc:=by decide+kernel);refine Aj 20 hSJ0 ?_ (hc:=by decide+kernel);refine Bw 21 HC1.out hSJ0 ?_ (hc:=by decide+kernel);refine Aj 22 hSJ0 ?_ (hc:=by decide+kernel);refine Aj 23 hSJ0 ?_ (hc:=by decide+kernel);refine Aj 24 hSJ0 ?_ (hc:=by decide+kernel);refine Aj 25 hSJ0 ?_ (hc:=by decide+kernel);refine Bw 26 HC1.out hSJ0 ?_ (hc:=by decide+kernel);refine Aj 27 hSJ0 ?_ (hc:=by decide+kernel);refine Aj 28 hSJ0 ?_ (hc:=by decide+kernel);refine dHw 16 (hr:=by decide+kernel) fun K hK=>?_
      go_simp;go_at_call 43;refine(Fb (HJB.out _ (Tq HB0.out hSJ0)) (by omega)).mono ?_;rintro e J1 ⟨rfl,hbJ1⟩;rw[Int.natCast_add];have hSJ1:=Tq hSJ0 hbJ1;refine Kq hK (hSJ1) ?_;refine Aj 29 hSJ1 ?_ (v:=.bool true) (hc:=by decide+kernel);refine tkH 30 hSJ1 ?_ (v:=.bool true) (hc:=by decide+kernel);refine tkH 31 hSJ1 ?_ (v:=.bool true) (hc:=by decide+kernel);refine Aj 32 hSJ1 ?_ (hc:=by decide+kernel);refine Aj 33 hSJ1 ?_ (hc:=by decide+kernel);refine Aj 34 hSJ1 ?_ (hc:=by decide+kernel);refine Bw 35 HC1.out hSJ1 ?_ (hc:=by decide+kernel);refine Aj 37 hSJ1 ?_ (hc:=by decide+kernel);refine Aj 38 hSJ1 ?_ (hc:=by decide+kernel);refine Aj 39 hSJ1 ?_ (hc:=by decide+kernel);refine Aj 40 hSJ1 ?_ (hc:=by decide+kernel);refine Bw 41 HC1.out hSJ1 ?_ (hc:=by decide+kernel);refine dHw 36 (hr:=by decide+kernel) fun K hK=>?_
      go_simp;go_at_call 44;refine(M6 (HJB.out _ (Tq HB0.out hSJ1))).mono ?_;rintro e J2 ⟨rfl,hbJ2⟩;have hSJ2:=Tq hSJ1 hbJ2;refine Kq hK (hSJ2) ?_;refine Aj 42 hSJ2 ?_ (v:=.bool true) (hc:=by decide+kernel);refine tkH 43 hSJ2 ?_ (v:=.bool true) (hc:=by decide+kernel);refine tkH 44 hSJ2 ?_ (v:=.bool true) (hc:=by decide+kernel);refine Aj 45 hSJ2 ?_ (hc:=by decide+kernel);refine Aj 46 hSJ2 ?_ (hc:=by decide+kernel);refine Aj 47 hSJ2 ?_ (hc:=by decide+kernel);refine Bw 48 HC1.out hSJ2 ?_ (hc:=by decide+kernel);refine Aj 50 hSJ2 ?_ (hc:=by decide+kernel);refine Aj 51 hSJ2 ?_ (hc:=by decide+kernel);refine Aj 52 hSJ2 ?_ (hc:=by decide+kernel);refine Aj 53 hSJ2 ?_ (hc:=by decide+kernel);refine Bw 54 HC1.out hSJ2 ?_ (hc:=by decide+kernel);refine Aj 55 hSJ2 ?_ (hc:=by decide+kernel);refine Aj 56 hSJ2 ?_ (hc:=by decide+kernel);refine Aj 57 hSJ2 ?_ (hc:=by decide+kernel);refine Aj 58 hSJ2 ?_ (hc:=by decide+kernel);refine Bw 59 HC1.out hSJ2 ?_ (hc:=by decide+kernel);refine Aj 60 hSJ2 ?_ (hc:=by decide+kernel);refine dHw 49 (hr:=by decide+kernel) fun K hK=>?_
      go_simp;go_at_call 18;refine(Ij (HJB.out _ (Tq HB0.out hSJ2)) (by omega) (by omega)).mono ?_;rintro e J3 ⟨rfl,hbJ3⟩;have hSJ3:=Tq hSJ2 hbJ3;refine Kq hK (hSJ3) ?_;refine Aj 61 hSJ3 ?_ (v:=.bool true) (hc:=by decide+kernel);refine tkH 62 hSJ3 ?_ (v:=.bool true) (hc:=by decide+kernel);refine tkH 63 hSJ3 ?_ (v:=.bool true) (hc:=by decide+kernel);refine Aj 64 hSJ3 ?_ (hc:=by decide+kernel);refine Aj 65 hSJ3 ?_ (hc:=by decide+kernel);refine Aj 66 hSJ3 ?_ (hc:=by decide+kernel);refine Bw 67 HC1.out hSJ3 ?_ (hc:=by decide+kernel);refine Aj 69 hSJ3 ?_ (hc:=by decide+kernel);refine Aj 70 hSJ3 ?_ (hc:=by decide+kernel);refine Aj 71 hSJ3 ?_ (hc:=by decide+kernel);refine Aj 72 hSJ3 ?_ (hc:=by decide+kernel);refine Bw 73 HC1.out hSJ3 ?_ (hc:=by decide+kernel);refine dHw 68 (hr:=by decide+kernel) fun K hK=>?_
      go_simp;go_at_call 17;refine(F8 (HJB.out _ (Tq HB0.out hSJ3))).mono ?_;rintro e J4 ⟨rfl,hbJ4⟩;have hSJ4:=Tq hSJ3 hbJ4;refine Kq hK (hSJ4) ?_;refine Aj 74 hSJ4 ?_ (v:=.bool true) (hc:=by decide+kernel);refine tkH 75 hSJ4 ?_ (v:=.bool true) (hc:=by decide+kernel);refine tkH 76 hSJ4 ?_ (v:=.bool true) (hc:=by decide+kernel);refine Aj 77 hSJ4 ?_ (hc:=by decide+kernel);refine Aj 78 hSJ4 ?_ (hc:=by decide+kernel);refine Aj 79 hSJ4 ?_ (hc:=by decide+kernel);refine Bw 80 HC1.out hSJ4 ?_ (hc:=by decide+kernel);refine Aj 82 hSJ4 ?_ (hc:=by decide+kernel);refine Aj 83 hSJ4 ?_ (hc:=by decide+kernel);refine Aj 84 hSJ4 ?_ (hc:=by decide+kernel);refine Aj 85 hSJ4 ?_ (hc:=by decide+kernel);refine Bw 86 HC1.out hSJ4 ?_ (hc:=by decide+kernel);refine dHw 81 (hr:=by decide+kernel) fun K hK=>?_
      go_simp;go_at_call 45;refine(EW (HJB.out _ (Tq HB0.out hSJ4))).mono ?_;rintro e J5 ⟨rfl,hbJ5⟩;have hSJ5:=Tq hSJ4 hbJ5;refine Kq hK (hSJ5) ?_;refine Aj 87 hSJ5 ?_ (v:=.bool true) (hc:=by decide+kernel);refine tkH 88 hSJ5 ?_ (v:=.bool true) (hc:=by decide+kernel);refine tkH 89 hSJ5 ?_ (v:=.bool true) (hc:=by decide+kernel);refine eH (hr:=by decide+kernel) ?_;have HB6:=Hd (Tq HB0.out hSJ5);go_wp2_with fail;exact Bv (.bool true) ⟨rfl,HB6.out⟩
end Go.Proofs.YtplclpileejemaaGreatDoor
namespace Go.Proofs.YtplclpileejemaaGreatDoor
open Go.RowKit
variable {w W:World}{b:Nat}{S:DS}{R:JR}
theorem Qe {x t:Nat}{j:Option (Nat×JD)} (h:WS w W x b S R j) (hi:WInv S R j t) (ht:t≤1000):
 Ca 13 #[.pointer (some ⟨x,0,none⟩)] W fun e W'=>e=.returned (.bool true)∧WS w W' x b S R j:=by
 refine(Rh h hi.dev.len (by have:=hi.room.pend;have:=hi.room.ops;omega) (fun g J e=>?_)).mono ?_
 ·have k:=hi.st g J e;have h1:=k.nx;have h2:=k.used;have h3:=k.fit;have h4:=hi.c45;exact⟨by omega,by omega,by omega⟩
 ·rintro e W' ⟨rfl,hb⟩;exact⟨rfl,h.step hb⟩
theorem GL (hK:KAt w) (sd:Nat) (hs:sd<256) {va:Option Addr} {vc:Nat} {L:List JOp} (hv:JOpsAt w (.slice va L.length vc) L):Ca 4 #[.int .u8 sd,.slice va L.length vc] w fun e w'=>e=.returned (.bool true)∧Below w.heap.size w w':=by
 have HKN:=Hd (fun(V:World) (hV:Below w.heap.size w V)=>KW (KAt.below hK hV hK.size));have HK:=Hd hK;obtain⟨R,hR3,hRc⟩:∃R:JR,R.at_=3∧R.cnt=8+sd%36:=⟨⟨3,8+sd%36⟩,rfl,rfl⟩;have HSZ:=Hd (fun w1:World=>MC (w:=w1) sd hs);rw[←hRc]at HSZ;obtain⟨HBG,HV,HFI⟩:=Hd3 (fun(V:World) (hV:Below w.heap.size w V)=>K2 (KAt.below hK hV hK.size) R hR3 (by omega) (by omega)) hv (fun(V:World) (hV:Below w.heap.size w V)=>MG (hv.below hV));obtain⟨n,hn⟩:=Xq (L.length);have HN:=Hd hn;have hnm:n≤9223372036854775807:=by obtain⟨a',c',e,h1,h2,_⟩:=hv;unfold maxLen at h2;omega
 rw[hn]at HV HFI⊢;obtain⟨fb,hfb⟩:=Xq (Gf L);rw[hfb]at HFI;have HFB:=Hd hfb;clear hv hn hfb hK hR3 hRc;go_enter Tryz.func4,Tryz.ntmps4;go_wp2_with fail;refine(HKN.out w Rq).mono ?_;rintro e V0 ⟨rfl,hb0⟩;have HBV0:=Hd hb0;clear hb0;go_wp2_with fail;refine(HFI.out V0 HBV0.out).mono ?_;rintro e W0 ⟨rfl,hb0⟩;have HBW0:=Hd (Tq HBV0.out hb0);clear hb0;cases fb with
 |false=>
  go_wp2_with fail;refine(HKN.out W0 HBW0.out).mono ?_;rintro e W9 ⟨rfl,hb9⟩;have HB9:=Hd (Tq HBW0.out hb9);go_wp2_with fail;exact Bv (.bool true) ⟨rfl,HB9.out⟩
 |true=>
 have hn30:n≤30:=by have h1:=HFB.out;unfold Gf at h1;rw[Bool.and_eq_true]at h1;have h2:=of_decide_eq_true h1.2;rw[HN.out]at h2;exact h2
 go_wp2_with fail;refine(HSZ.out W0).mono ?_;rintro e W1 ⟨rfl,hb1⟩;have HB1:=Hd (Tq HBW0.out hb1);clear hb1;go_wp2_with fail;refine(HBG.out W1 HB1.out).mono ?_;rintro e W2 ⟨x,b,S0,j0,rfl,hws,hwi,hnl⟩;have HWS:=Hd hws;have HWI:=Hd hwi;clear hws hwi hnl;go_wp2_with fail;refine(Qe HWS.out HWI.out (by omega)).mono ?_;rintro e W3 ⟨rfl,hws3⟩;have HWS3:=Hd hws3;clear hws3;go_wp2_with fail;go_loopw [7] (fun iv wr=>∃(i:Nat) (S:DS) (j:Option (Nat×JD)),i≤n∧iv=.int .i64 i∧Hid (WS W1 wr x b S R j)∧Hid (WInv S R j (i+1))) (fun iv _=>n-(intOf iv).toNat)
 case atStart=>exact⟨0,S0,j0,Nat.zero_le _,rfl,HWS3,HWI⟩
 case round=>
  obtain⟨i,S,j,hi,rfl,HS,HI⟩:=hrel;obtain⟨V0,rfl⟩:∃V0,V0=wr:=⟨_,rfl⟩;clear HWS HWS3 HWI;have HBS:=Hd (Tq HB1.out HS.out.below);by_cases hlt:i<n
  case neg=>
   obtain rfl :n=i:=by omega
   go_wp2_with fail;exact Bv (.bool true) ⟨rfl,HBS.out⟩
  obtain⟨go,oo,eo,hgo,k0,k1,k2,k3,hao⟩:=HV.out.get (i:=i) (by rw[HN.out];exact hlt);subst eo;obtain⟨o,hoE⟩:=Xq (L[i]'(by rw[HN.out];exact hlt));rw[hoE]at k0 k1 k2 k3 hao;have k0:=(HBS.out.cell (p:=⟨go,oo+i*4,none⟩) hgo).trans k0;have k1:=(HBS.out.cell (p:=⟨go,oo+i*4+1,none⟩) hgo).trans k1;have k2:=(HBS.out.cell (p:=⟨go,oo+i*4+2,none⟩) hgo).trans k2;have k3:=(HBS.out.cell (p:=⟨go,oo+i*4+3,none⟩) hgo).trans k3;go_wp2_with fail;clear k0 k1 k2 k3;refine(MF (KAt.below HK.out HB1.out HK.out.size) HS.out HI.out (by omega) (hao.below HB1.out)).mono ?_;rintro e V1 ⟨rfl,S',j',hws',hwi',_⟩;have HS':=Hd hws';have HI':=Hd hwi';clear hws' hwi' hao hoE hgo;go_wp2_with fail;refine(Qe HS'.out HI'.out (by omega)).mono ?_;rintro e V2 ⟨rfl,hws2⟩;have HS2:=Hd hws2;clear hws2;go_wp2_with fail;go_roundw
  case rel=>exact⟨i+1,S',j',by omega,by go_num,HS2,HI'⟩
  case measure=>simp[intOf]<;>omega
end Go.Proofs.YtplclpileejemaaGreatDoor
namespace Go.Proofs.YtplclpileejemaaGreatDoor.journalOperations
open Go.ChangeShapes Go.WideShapes Go.ChangeAt Go.RowKit
theorem lifted (os:Os) (started:os.Started) (H:Type) (enc:TypeId×Value→H):
 ReturnsInHanded {} Tryz.checked os 4 .any (fun w args=>(Rows.journalOperationsSpec.pre enc Tryz.prog Tryz.f4 [] false w args∧laidMetH Tryz.prog Dn w)∧sizedMet enc Tryz.prog Tryz.f4 (OpenSpec.ofChange Rows.journalOperationsSpec) false w args)
  (Rows.journalOperationsSpec.post enc Tryz.prog Tryz.f4 false true false false):=by
 refine returnsInHanded_of_change_and (C:=Tryz.checked) (X:=fun w _=>laidMetH Tryz.prog Dn w) (fun _ _ _ hh h=>h.of_heap hh) own started (by kernel_rfl) Tryz.func4
  (ChangeSpec.witness_shaped (enc:=enc) (C:=Tryz.checked) (os:=os) (X:=fun w _=>laidMetH Tryz.prog Dn w) false (World.doorLaid Tryz.prog 400 os) #[.int .u8 0,.slice none 0 0] 8 rfl (World.shaped_of_RefB (by kernel_rfl) (by kernel_rfl)) (by kernel_rfl) (by kernel_rfl) (by kernel_rfl) (Ms os _)) ?_
 intro W base args ds gs before hval0 hW _ hsz hL _;have hK:KAt W:=IW hL;have hval:∀(j:Nat) t v,Tryz.f4.params[j]?=some t→args[j]?=some v→Value.okWide Tryz.prog W .any base t v:=hval0;have hW':=hW;obtain⟨p,q,hA0,hV,rfl,hfz,hnd⟩:=hW;have hA:DataW.TrodAll enc Tryz.prog W 0 (fun _=>true) true Tryz.f4.params.toList args.toList ds p:=hA0;rw[Tryz.params4]at hA hval;obtain⟨v0,vs0,d0,ds0,p0,q0,hargs,rfl,rfl,h0,r0⟩:=trodAll_cons hA;obtain⟨v1,vs1,d1,ds1,p1,q1,rfl,rfl,rfl,h1,r1⟩:=trodAll_cons r0;obtain⟨rfl,rfl,rfl⟩:=trodAll_nil r1;obtain rfl :args=#[v0,v1]:=by cases args;simp_all
 obtain⟨rfl,rfl⟩:=trodVars_none hV;obtain⟨a0,rfl,rfl,rfl,w0⟩:=open_int Tryz.underlying5 (hval 0 5 v0 rfl rfl) h0;have hb0:0≤a0∧a0≤255:=bounds_u8 w0;obtain⟨b0,rfl⟩:∃b:UInt8,a0=(b.toNat:Int):=⟨UInt8.ofNat a0.toNat,by rw[UInt8.toNat_ofNat'];omega⟩;obtain⟨sa1,sl1,sc1,rfl⟩:=okWide_slice Tryz.underlying22 (hval 1 22 v1 rfl rfl);obtain⟨L1,hb1⟩:=(show∃L:List JOp,JOpsAt W (.slice sa1 sl1 sc1) L by obtain⟨fu,hf⟩:=h1;exact MH hf (Il hsz (j:=1) (by rw[Tryz.params4];rfl) rfl));clear hA0 hval0;simp only[List.append_nil]at hW';refine((show Ca 4 #[.int .u8 (b0.toNat:Int),.slice sa1 sl1 sc1] W (fun e w2=>e=.returned (.bool true)∧Below W.heap.size W w2)from by obtain⟨a',c',e'⟩:=hb1.form;cases e';exact GL hK b0.toNat b0.toNat_lt hb1)).mono fun e W' ⟨he,hg⟩=>?_
 subst he;exact⟨_,rfl,Lw (by kernel_rfl) rfl rfl hW' rfl hg⟩
theorem over:Rows.journalOperationsRow.holds Tryz.pinned (OpenSpec.ofChange Rows.journalOperationsSpec):=
 OpenClaim.holds_of_wide 4 Tryz.f4 rfl rfl rfl rfl rfl rfl rfl ⟨rfl,rfl,rfl,rfl,rfl⟩ rfl rfl rfl rfl rfl (by kernel_rfl) Tryz.func4 (by kernel_rfl)
  (of_decide_eq_true (by kernel_rfl)) (by unfold Func.isWrapper;first| (rw[Ip (by decide+kernel)];kernel_rfl)| (rw[In (by decide+kernel)];exact⟨rfl,rfl⟩))
  (fun os started H enc _=>lifted os started H enc)
theorem proved:Rows.JournalOperationsCardSaid:=
 Claim7.holds_tied_plain_at .later [] [.data] true (true,"31688857ec77b0220dcece87ea0af98612b7ac676d4d4d3268559f44f3ca485d") false
  over (fun _ h=>by cases h) (by kernel_rfl) (fun _ h=>by cases h) journalOperations_row_tie rfl ⟨rfl,rfl⟩ (by kernel_rfl) rfl
  (fun f fn hf hfn=>by
   obtain rfl :f=4:=Option.some.inj ((show Tryz.prog.funcNamed "bulletin/bulletinlaw24.JournalOperations"=some 4 by kernel_rfl).symm.trans hf)|>.symm;obtain rfl :fn=Tryz.f4:=(Option.some.inj (Tryz.func4.symm.trans hfn)).symm;exact⟨by kernel_rfl,fun j t ht=>by
    rw[Tryz.params4]at ht;have hm:t∈[5,22]:=by simpa using Array.mem_of_getElem? ht
    have hall:([5,22].all fun u=>!Tryz.prog.wantsStandIn u)=true:=by kernel_rfl
    exact(show Tryz.prog.wantsStandIn t=false by simpa using List.all_eq_true.1 hall t hm)⟩)
  (by kernel_rfl)
#print axioms proved
end Go.Proofs.YtplclpileejemaaGreatDoor.journalOperations
