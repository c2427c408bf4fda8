/- More room changes nothing: the law's walk. -/
import Derived.Test.YtcohlmdnahdnaaaGreatDoorZTl4
namespace Go.Proofs.YtcohlmdnahdnaaaGreatDoor
open Go.RowKit
set_option linter.unusedVariables false
set_option linter.unusedSimpArgs false
set_option maxHeartbeats 16000000
set_option maxRecDepth 100000
section
open Top Opp
namespace Top
theorem nM{q:Prob}{l1 l2 m1 m2:Int}{r r':Res}(hl:1<=l1/\1<=l2)(h1:l1<=m1)(h2:l2<=m2)(h31:r≠.err 31)(h32:r≠.err 32)(h:Top.Ends (Prob.pb q) l1.toNat l2.toNat .next St.start 0 r)(h':Top.Ends (Prob.pb q) m1.toNat m2.toNat .next St.start 0 r'):r=r':=
 (Ends.more (by omega) (by omega) h h31 h32 (by omega) (by show 1<=l2.toNat;omega)).one _ h'
end Top
theorem top_room(q:Prob)(mo:Int×Int×Int×Int)(w:World)(h:ProbAt w w.heap.size 1048576 q)(hpw:VL.bS w):
 Calls Tryz.prog 5 #[q.val,.agg #[.int .i64 mo.1,.int .i64 mo.2.1,.int .i64 mo.2.2.1,.int .i64 mo.2.2.2]] w fun e w'=>e=.returned (.bool true)/\Below w.heap.size w w':=by
 obtain⟨m1,m2,m3,m4⟩:=mo;dsimp only;obtain⟨l,m,pins,dev,vl,v1,v2,v3,v4,vp,l1,l2,l3,l4⟩:=q;obtain⟨wb,hwb⟩:∃y,y=(w.alloc (.cells #[vl,v1,v2,v3,v4,.bool dev,vp,.int .i64 l1,.int .i64 l2,.int .i64 l3,.int .i64 l4] 30)).alloc (.cells #[.int .i64 m1,.int .i64 m2,.int .i64 m3,.int .i64 m4] 28):=⟨_,rfl⟩;have hbb:Below w.heap.size w wb:=by rw[hwb];exact((bR _ _).alloc nL _).alloc (by simp) _
 have hk0:wb.heap[w.heap.size]? =some (.cells #[vl,v1,v2,v3,v4,.bool dev,vp,.int .i64 l1,.int .i64 l2,.int .i64 l3,.int .i64 l4] 30 (0,0)):=by
  rw[hwb];exact(heap_alloc_old _ _ (by simp)).trans (heap_alloc_new w _)
 have hszb:w.heap.size<wb.heap.size:=by rw[hwb];simp<;>omega
 have HPC:Hid (∀W,Below wb.heap.size wb W->W.cell? ⟨w.heap.size,0,none⟩=some (vl)/\W.cell? ⟨w.heap.size,1,none⟩=some (v1)/\W.cell? ⟨w.heap.size,2,none⟩=some (v2)/\W.cell? ⟨w.heap.size,3,none⟩=some (v3)/\W.cell? ⟨w.heap.size,4,none⟩=some (v4)/\W.cell? ⟨w.heap.size,5,none⟩=some (.bool dev)/\W.cell? ⟨w.heap.size,6,none⟩=some (vp)/\W.cell? ⟨w.heap.size,7,none⟩=some (.int .i64 l1)/\W.cell? ⟨w.heap.size,8,none⟩=some (.int .i64 l2)/\W.cell? ⟨w.heap.size,9,none⟩=some (.int .i64 l3)/\W.cell? ⟨w.heap.size,10,none⟩=some (.int .i64 l4)):=Hd (fun W hW=>by
  have h1:=(hW.block w.heap.size hszb).trans hk0;refine⟨?_,?_,?_,?_,?_,?_,?_,?_,?_,?_,?_⟩<;>(unfold World.cell?;rw[h1];rfl))
 have HUP:Hid (∀W,Below wb.heap.size wb W->Below w.heap.size w W):=Hd (fun W hW=>hbb.trans (hW.mono hbb.size));have HPW:Hid (∀W,Below wb.heap.size wb W->VL.bS W):=Hd (fun W hW=>hpw.below (hbb.trans (hW.mono hbb.size)) nL);obtain⟨q,hq⟩:∃q:Prob,q=⟨l,m,pins,dev,vl,v1,v2,v3,v4,vp,l1,l2,l3,l4⟩:=⟨_,rfl⟩;have HPR:Hid (∀W,Below wb.heap.size wb W->ProbAt W W.heap.size 1048576 q):=Hd (fun W hW=>by rw[hq];exact qD h (hbb.trans (hW.mono hbb.size)));have HCT:Hid (∀W,Below wb.heap.size wb W->Calls Tryz.prog 6 #[.agg #[vl,v1,v2,v3,v4,.bool dev,vp,.int .i64 l1,.int .i64 l2,.int .i64 l3,.int .i64 l4]] W fun e w'=>∃s b,e=.returned (.pointer (some ⟨s,0,none⟩))/\CatN w' w'.heap.size s b (aY q.l)/\Below W.heap.size W w'):=Hd (fun W hW=>by
  have:=jT W q (HPW.out W hW) (HPR.out W hW);rw[hq]at this |-;exact this)
 have HRN:Hid (∀W s b (m1 m2 m3 m4:Int),Below wb.heap.size wb W->CatN W W.heap.size s b (aY q.l)->Calls Tryz.prog 7 #[.pointer (some ⟨s,0,none⟩),.agg #[v1,v2,v3,v4],.bool dev,vp,.agg #[.int .i64 m1,.int .i64 m2,.int .i64 m3,.int .i64 m4]] W fun e w'=>Below W.heap.size W w'/\wJ q m1 m2 e w'):=Hd (fun W s b m1 m2 m3 m4 hW hc=>by
  have:=Fa W q s b (HPR.out W hW) hc (HPW.out W hW) m1 m2 m3 m4;rw[hq]at this |-;exact this)
 have HCK:Hid (∀W s b v g,Below wb.heap.size wb W->CatN W W.heap.size s b (aY q.l)->NdsAt W W.heap.size v g->g.length<=1000000000->(∀x∈g,NdFit x)->Calls Tryz.prog 9 #[.agg #[v],.pointer (some ⟨s,0,none⟩),.agg #[v1,v2,v3,v4],.bool dev] W fun e w'=>dU e (gH q.m=true/\Checks (Prob.pb q) (bA (aY q.l)) g)/\Below W.heap.size W w'):=Hd (fun W s b v g hW hc hg hn hz=>by
  have:=uG W q s b (HPR.out W hW) hc (HPW.out W hW) v g hg hn hz;rw[hq]at this |-;exact this)
 have HSV:Hid (∀W,Below wb.heap.size wb W->Calls Tryz.prog 8 #[] W fun e w'=>e=.returned (.bool true)/\Below W.heap.size W w'):=Hd (fun W hW=>oM W (HPW.out W hW));have HWB:=Hd hwb;have HX0:Hid (Below wb.heap.size wb wb):=Hd (bR _ _);have HRC:Hid (∀W,Below wb.heap.size wb W->W.cell? ⟨w.heap.size+1,0,none⟩=some (.int .i64 m1)/\W.cell? ⟨w.heap.size+1,1,none⟩=some (.int .i64 m2)/\W.cell? ⟨w.heap.size+1,2,none⟩=some (.int .i64 m3)/\W.cell? ⟨w.heap.size+1,3,none⟩=some (.int .i64 m4)):=Hd (fun W hW=>by
  have h1:W.heap[w.heap.size+1]? =some (.cells #[.int .i64 m1,.int .i64 m2,.int .i64 m3,.int .i64 m4] 28 (0,0)):=by
   rw[hW.block _ (by rw[hwb];simp),hwb];have:=heap_alloc_new (w.alloc (.cells #[vl,v1,v2,v3,v4,.bool dev,vp,.int .i64 l1,.int .i64 l2,.int .i64 l3,.int .i64 l4] 30)) (.cells #[.int .i64 m1,.int .i64 m2,.int .i64 m3,.int .i64 m4] 28);rw[sA]at this;exact this
  refine⟨?_,?_,?_,?_⟩<;>(unfold World.cell?;rw[h1];rfl))
 clear h hpw hwb hbb hk0 hszb hq;show Calls Tryz.prog 5 #[.agg #[vl,v1,v2,v3,v4,.bool dev,vp,.int .i64 l1,.int .i64 l2,.int .i64 l3,.int .i64 l4],.agg #[.int .i64 m1,.int .i64 m2,.int .i64 m3,.int .i64 m4]] w _;go_enter Tryz.func5,Tryz.ntmps5;go_upto_region 1 with fail;rw[<-HWB.out];obtain⟨p0,p1,p2,p3,p4,p5,p6,p7,p8,p9,p10⟩:=HPC.out wb HX0.out;go_wp2_with fail;refine(HCT.out wb HX0.out).mono ?_;rintro e wc ⟨s,b,rfl,hc,hbc⟩;have HC:=Hd hc;have HXwc:Hid (Below wb.heap.size wb wc):=Hd (HX0.out.trans hbc);clear hc hbc;clear p0 p1 p2 p3 p4 p5 p6 p7 p8 p9 p10;obtain⟨p0,p1,p2,p3,p4,p5,p6,p7,p8,p9,p10⟩:=HPC.out wc HXwc.out;go_wp2_with fail;refine(HRN.out wc s b l1 l2 l3 l4 HXwc.out HC.out).mono ?_;rintro e wr ⟨hbr,hrun⟩;have HXwr:Hid (Below wb.heap.size wb wr):=Hd (HXwc.out.trans (hbr.mono HXwc.out.size));have HCg0:=Hd (HC.out.up hbr);have hcs:(aY q.l).length<=128:=HC.out.size
 have HCS:=Hd hcs;clear hbr hcs;obtain⟨g,ra,rN,rC,rn,rc,rfl,hRN,hnd,hcode⟩:∃(g:List Nd) (ra:Option Addr) (rN rC:Nat) (rn rc:Int),e=.returned (.tuple #[.agg #[.slice ra rN rC],.int .i64 rn,.int .i64 rc])/\rN=g.length/\NdsAt wr wr.heap.size (.slice ra rN rC) g/\((rc=1\/rc=31\/rc=32)\/(¬(rc=1\/rc=31\/rc=32)/\(gH q.m=true/\1<=l1/\l1<=4096/\1<=l2/\l2<=128)/\((rc=30/\rn=0/\g=[]/\Top.Ends (Prob.pb q) l1.toNat l2.toNat .next St.start 0 (.err 30))\/(rc=0/\∃n:Nat,rn=n/\Top.Ends (Prob.pb q) l1.toNat l2.toNat .next St.start 0 (.ok g n))))):=by
  rcases jO hrun with⟨g',n,a,c,rfl,hnd,hh,he⟩ | ⟨c,rfl,hcode⟩
  ·exact⟨g',a,_,c,_,_,rfl,rfl,hnd,.inr ⟨by decide,hh,.inr ⟨rfl,n,rfl,he⟩⟩⟩
  ·refine⟨[],none,0,0,_,_,rfl,rfl,⟨[],rfl,RowZ.nil _ _ _,fun i x c hx=>by simp at hx⟩,?_⟩;rcases hcode with⟨rfl,_⟩ | ⟨rfl | rfl | rfl,hh,he⟩
   ·exact .inl (.inl rfl)
   ·exact .inr ⟨by decide,hh,.inl ⟨rfl,rfl,rfl,he⟩⟩
   ·exact .inl (.inr (.inl rfl))
   ·exact .inl (.inr (.inr rfl))
 obtain⟨wg,hwg⟩:∃y,y=wr.alloc (.cells #[.slice ra rN rC] 35):=⟨_,rfl⟩;have hbg:Below wr.heap.size wr wg:=by rw[hwg];exact(bR _ _).alloc nL _
 have HXwg:Hid (Below wb.heap.size wb wg):=Hd (HXwr.out.trans (hbg.mono HXwr.out.size));have HCg:Hid (CatN wg wg.heap.size s b (aY q.l)):=Hd (HCg0.out.up hbg);have HGg:Hid (∀W,Below wg.heap.size wg W->W.cell? ⟨wr.heap.size,0,none⟩=some (.slice ra rN rC)):=Hd (fun W hW=>(hW.cell (p:=⟨wr.heap.size,0,none⟩) (by rw[hwg];simp)).trans (by rw[hwg];exact World.cell?_alloc_at _ _ _ _ rfl));have HWg:=Hd hwg;have HND:Hid (NdsAt wg wg.heap.size (.slice ra rN rC) g):=Hd ((hnd.below hbg nL).mono hbg.size);have HRNE:=Hd hRN;clear hwg hbg hrun hnd hRN;clear p0 p1 p2 p3 p4 p5 p6 p7 p8 p9 p10;obtain⟨p0,p1,p2,p3,p4,p5,p6,p7,p8,p9,p10⟩:=HPC.out wg HXwg.out;obtain⟨r1,r2,r3,r4⟩:=HRC.out wg HXwg.out;go_upto_region 5 with fail;rw[<-HWg.out];rcases hcode with hcode | ⟨hno,hh,hcode⟩
 ·rcases hcode with rfl | rfl | rfl
  ·go_wp2_with fail;refine(HSV.out wg HXwg.out).mono ?_;rintro e w6 ⟨rfl,hb6⟩;go_wp2;go_returns;exact⟨rfl,HUP.out _ (HXwg.out.trans (hb6.mono HXwg.out.size))⟩
  ·go_wp2_with fail;refine(HSV.out wg HXwg.out).mono ?_;rintro e w6 ⟨rfl,hb6⟩;go_wp2;go_returns;exact⟨rfl,HUP.out _ (HXwg.out.trans (hb6.mono HXwg.out.size))⟩
  ·go_wp2_with fail;refine(HSV.out wg HXwg.out).mono ?_;rintro e w6 ⟨rfl,hb6⟩;go_wp2;go_returns;exact⟨rfl,HUP.out _ (HXwg.out.trans (hb6.mono HXwg.out.size))⟩
 ·have c1:¬rc=1:=fun e=>hno (.inl e);have c31:¬rc=31:=fun e=>hno (.inr (.inl e));have c32:¬rc=32:=fun e=>hno (.inr (.inr e));have c1b:(rc==1)=false:=beq_eq_false_iff_ne.2 c1;have c31b:(rc==31)=false:=beq_eq_false_iff_ne.2 c31;have c32b:(rc==32)=false:=beq_eq_false_iff_ne.2 c32;have HH:=Hd hh;have HCO:=Hd hcode;clear hno hh hcode;by_cases hm1:m1<l1
  ·go_wp2_with fail;refine(HSV.out wg HXwg.out).mono ?_;rintro e w6 ⟨rfl,hb6⟩;go_wp2;go_returns;exact⟨rfl,HUP.out _ (HXwg.out.trans (hb6.mono HXwg.out.size))⟩
  by_cases hm2:m2<l2
  ·go_wp2_with fail;refine(HSV.out wg HXwg.out).mono ?_;rintro e w6 ⟨rfl,hb6⟩;go_wp2;go_returns;exact⟨rfl,HUP.out _ (HXwg.out.trans (hb6.mono HXwg.out.size))⟩
  go_wp2_with fail;refine(HRN.out wg s b m1 m2 m3 m4 HXwg.out HCg.out).mono ?_;rintro e wr2 ⟨hbr,hrun⟩;have HXwr2:Hid (Below wb.heap.size wb wr2):=Hd (HXwg.out.trans (hbr.mono HXwg.out.size));have HCh0:=Hd (HCg.out.up hbr);have HNDr:Hid (NdsAt wr2 wr2.heap.size (.slice ra rN rC) g):=Hd ((HND.out.below hbr nL).mono hbr.size);have HGr:Hid (∀W,Below wr2.heap.size wr2 W->W.cell? ⟨wr.heap.size,0,none⟩=some (.slice ra rN rC)):=Hd (fun W hW=>HGg.out W (hbr.trans (hW.mono hbr.size)));clear hbr;obtain⟨g2,sa,sN,sC,sn,sc,rfl,hSN,hnd2,hcode2⟩:∃(g2:List Nd) (sa:Option Addr) (sN sC:Nat) (sn sc:Int),e=.returned (.tuple #[.agg #[.slice sa sN sC],.int .i64 sn,.int .i64 sc])/\sN=g2.length/\NdsAt wr2 wr2.heap.size (.slice sa sN sC) g2/\(sc=1\/(¬sc=1/\sc=rc/\sn=rn/\g2=g/\g.length<=128/\∀x∈g,wV x)):=by
   have hcs:=HCS.out;obtain⟨hm,o1,o2,o3,o4⟩:=HH.out;rcases jO hrun with⟨g',n,a,c,rfl,hnd2,hh2,he2⟩ | ⟨c,rfl,hcode2⟩
   ·rcases HCO.out with⟨rfl,rfl,rfl,he⟩ | ⟨rfl,n',rfl,he⟩
    ·exact absurd (nM ⟨o1,o3⟩ (by omega) (by omega) (by intro e;injection e with e;exact absurd e (by decide)) (by intro e;injection e with e;exact absurd e (by decide)) he he2) (by intro e;cases e)
    ·have:=nM ⟨o1,o3⟩ (by omega) (by omega) (by intro e;cases e) (by intro e;cases e) he he2;cases this;obtain⟨_,_,_,k4,k5⟩:=Ra hcs hh2 he2;exact⟨_,a,_,c,_,_,rfl,rfl,hnd2,.inr ⟨by decide,rfl,rfl,rfl,k5,fun x hx=>(k4 x hx).sz⟩⟩
   ·refine⟨[],none,0,0,_,_,rfl,rfl,⟨[],rfl,RowZ.nil _ _ _,fun i x c hx=>by simp at hx⟩,?_⟩;rcases hcode2 with⟨rfl,_⟩ | ⟨hc3,hh2,he2⟩
    ·exact .inl rfl
    ·rcases HCO.out with⟨rfl,rfl,rfl,he⟩ | ⟨rfl,n',rfl,he⟩
     ·have:=nM ⟨o1,o3⟩ (by omega) (by omega) (by intro e;injection e with e;exact absurd e (by decide)) (by intro e;injection e with e;exact absurd e (by decide)) he he2;cases this;exact .inr ⟨by decide,rfl,rfl,rfl,by simp,fun x hx=>by simp at hx⟩
     ·exact absurd (nM ⟨o1,o3⟩ (by omega) (by omega) (by intro e;cases e) (by intro e;cases e) he he2) (by intro e;cases e)
  obtain⟨wh,hwg⟩:∃y,y=wr2.alloc (.cells #[.slice sa sN sC] 35):=⟨_,rfl⟩;have hbg:Below wr2.heap.size wr2 wh:=by rw[hwg];exact(bR _ _).alloc nL _
  have HXwh:Hid (Below wb.heap.size wb wh):=Hd (HXwr2.out.trans (hbg.mono HXwr2.out.size));have HCh:Hid (CatN wh wh.heap.size s b (aY q.l)):=Hd (HCh0.out.up hbg);have HGh:Hid (∀W,Below wh.heap.size wh W->W.cell? ⟨wr2.heap.size,0,none⟩=some (.slice sa sN sC)):=Hd (fun W hW=>(hW.cell (p:=⟨wr2.heap.size,0,none⟩) (by rw[hwg];simp)).trans (by rw[hwg];exact World.cell?_alloc_at _ _ _ _ rfl));have HWh:=Hd hwg;have HND2:Hid (NdsAt wh wh.heap.size (.slice sa sN sC) g2):=Hd ((hnd2.below hbg nL).mono hbg.size);have HND1:Hid (NdsAt wh wh.heap.size (.slice ra rN rC) g):=Hd ((HNDr.out.below hbg nL).mono hbg.size);have hgr:=HGr.out wh hbg;have HGH:=Hd hgr;clear hwg hbg hrun hnd2 hSN hgr;clear p0 p1 p2 p3 p4 p5 p6 p7 p8 p9 p10 r1 r2 r3 r4;go_upto_region 8 with fail;rw[<-HWh.out];rcases hcode2 with rfl | ⟨sc1,rfl,rfl,rfl,k5,ksz⟩
  ·go_wp2_with fail;refine(HSV.out wh HXwh.out).mono ?_;rintro e w6 ⟨rfl,hb6⟩;go_wp2;go_returns;exact⟨rfl,HUP.out _ (HXwh.out.trans (hb6.mono HXwh.out.size))⟩
  ·have sc1b:(sc==1)=false:=beq_eq_false_iff_ne.2 sc1;have HSM:Hid (Calls Tryz.prog 10 #[.agg #[.slice ra rN rC],.agg #[.slice sa sN sC]] wh fun e w'=>e=.returned (.bool true)/\Below wh.heap.size wh w'):=Hd (by
    have:=wO wh _ _ g2 g2 HND1.out HND2.out (by omega) (by omega) ksz ksz;simp only[decide_true]at this;exact this)
   clear k5 ksz;have g1:=HGH.out;have g2c:=HGh.out wh (bR _ _);go_wp2_with fail;refine HSM.out.mono ?_;rintro e w5 ⟨rfl,hb5⟩;have HXw5:Hid (Below wb.heap.size wb w5):=Hd (HXwh.out.trans (hb5.mono HXwh.out.size));clear hb5 g1 g2c;go_wp2_with fail;refine(HSV.out w5 HXw5.out).mono ?_;rintro e w6 ⟨rfl,hb6⟩;go_wp2;go_returns;exact⟨rfl,HUP.out _ (HXw5.out.trans (hb6.mono HXw5.out.size))⟩
end
end Go.Proofs.YtcohlmdnahdnaaaGreatDoor
