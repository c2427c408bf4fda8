/- A solution is found: the law's walk. -/
import Derived.Test.YtcohlmdnahdnaaaGreatDoorZTl3
namespace Go.Proofs.YtcohlmdnahdnaaaGreatDoor
open Go.RowKit
set_option linter.unusedVariables false
set_option linter.unusedSimpArgs false
set_option maxHeartbeats 16000000
set_option maxRecDepth 100000
section
open Top Opp
theorem wO(w:World)(v1 v2:Value)(g h:List Nd)(h1:NdsAt w w.heap.size v1 g)(h2:NdsAt w w.heap.size v2 h)(hn1:g.length<=1000000000)(hn2:h.length<=1000000000)(hz1:∀x∈g,wV x)(hz2:∀x∈h,wV x):
 Calls Tryz.prog 10 #[.agg #[v1],.agg #[v2]] w fun e w'=>e=.returned (.bool (decide (g=h)))/\Below w.heap.size w w':=by
 obtain⟨a1,c1,e1⟩:=h1.form;obtain⟨a2,c2,e2⟩:=h2.form;obtain⟨n1,hn1'⟩:∃n,n=g.length:=⟨_,rfl⟩;obtain⟨n2,hn2'⟩:∃n,n=h.length:=⟨_,rfl⟩;rw[<-hn1']at e1;rw[<-hn2']at e2;subst e1 e2;obtain⟨wa,hwa⟩:∃y,y=(w.alloc (.cells #[.slice a1 n1 c1] 35)).alloc (.cells #[.slice a2 n2 c2] 35):=⟨_,rfl⟩;have hba:Below w.heap.size w wa:=by rw[hwa];exact((bR _ _).alloc nL _).alloc (by simp) _
 have e0:wa.cell? ⟨w.heap.size,0,none⟩=some (.slice a1 n1 c1):=by
  rw[hwa];exact(World.cell?_alloc_old _ _ _ (by simp)).trans (World.cell?_alloc_at _ _ _ _ rfl)
 have e1:wa.cell? ⟨w.heap.size+1,0,none⟩=some (.slice a2 n2 c2):=by
  rw[hwa];exact World.cell?_alloc_at _ _ _ _ (by simp)
 have HS:Hid (Calls Tryz.prog 25 #[.slice a1 n1 c1,.slice a2 n2 c2,.func (.func 26) #[] #[]] wa fun e w'=>e=.returned (.bool (decide (g=h)))/\Below wa.heap.size wa w'):=Hd (Cm wa _ _ g h ((h1.below hba nL).mono hba.size) ((h2.below hba nL).mono hba.size) hn1 hn2 hz1 hz2);have HWA:=Hd hwa;have HBA:=Hd hba;clear h1 h2 hn1 hn2 hz1 hz2 hn1' hn2' hwa hba;go_enter Tryz.func10,Tryz.ntmps10;go_upto_region 1 with fail;rw[<-HWA.out];go_wp2_with fail;refine HS.out.mono ?_;rintro e w1 ⟨rfl,hb1⟩;go_wp2;go_returns;exact⟨rfl,HBA.out.trans (hb1.mono HBA.out.size)⟩
namespace Top
theorem jO{q:Prob}{l1 l2:Int}{e:Ending}{w':World}(h:wJ q l1 l2 e w'):
 (∃(g:List Nd) (n:Nat) (a:Option Addr) (c:Nat),e=.returned (.tuple #[.agg #[.slice a g.length c],.int .i64 n,.int .i64 0])/\NdsAt w' w'.heap.size (.slice a g.length c) g/\(gH q.m=true/\1<=l1/\l1<=4096/\1<=l2/\l2<=128)/\Top.Ends (Prob.pb q) l1.toNat l2.toNat .next St.start 0 (.ok g n))\/
 (∃c:Int,e=.returned (.tuple #[.agg #[.slice none 0 0],.int .i64 0,.int .i64 c])/\((c=1/\¬(gH q.m=true/\1<=l1/\l1<=4096/\1<=l2/\l2<=128))\/((c=30\/c=31\/c=32)/\(gH q.m=true/\1<=l1/\l1<=4096/\1<=l2/\l2<=128)/\Top.Ends (Prob.pb q) l1.toNat l2.toNat .next St.start 0 (.err c)))):=by
 unfold wJ at h;by_cases hh:gH q.m=true/\1<=l1/\l1<=4096/\1<=l2/\l2<=128
 ·rw[if_pos hh]at h;obtain⟨r,he,hs⟩:=h;cases r with
  | ok g n=>
   obtain⟨a,c,h1,h2⟩:=hs;exact .inl ⟨g,n,a,c,h1,h2,hh,he⟩
  | err c=>exact .inr ⟨c,hs,.inr ⟨he.codes c rfl,hh,he⟩⟩
 ·rw[if_neg hh]at h;exact .inr ⟨1,h,.inl ⟨rfl,hh⟩⟩
theorem prob_mono{w:World}{B n n':Nat}{q:Prob}(h:ProbAt w B n q)(hn:n<=n'):ProbAt w B n' q:=
 ⟨h.pks,h.mf,h.pn,by have:=h.ll;omega,fun p hp=>(h.pi p hp).mono hn,h.mi.mono hn,by have:=h.pl;omega⟩
theorem Lf(q:Prob):∀i j (x y:Nd),0<i->0<j->x.name=y.name->x.v=y.v->(Prob.pb q).own i x=(Prob.pb q).own j y:=Si _ _ _ _
theorem Ra{q:Prob}{l1 l2:Int}{g:List Nd}{n:Nat}(hcs:(aY q.l).length<=128)(hh:gH q.m=true/\1<=l1/\l1<=4096/\1<=l2/\l2<=128)(h:Top.Ends (Prob.pb q) l1.toNat l2.toNat .next St.start 0 (.ok g n)):
 Checks (Prob.pb q) (bA (aY q.l)) g/\(g.length:Int)<=l2/\(n:Int)<=l1/\(∀x∈g,NdFit x)/\g.length<=128:=by
 obtain⟨hm,h1,h2,h3,h4⟩:=hh;have F:=Cy q hm;have hI:=Inv.start (Prob.pb q) (bA (aY q.l)) (most:=l2.toNat) (by omega);have hA:=nE.start (Prob.pb q);obtain⟨c1,c2⟩:=Ends.solved F (by omega) h hI hA g n rfl;obtain⟨s',i1,i2,i3⟩:=Ends.last F (by omega) h hI hA g n rfl;have c3:=Ends.few h (by omega) g n rfl;refine⟨c1,by omega,by omega,?_,by omega⟩;rw[i3];exact Mk (gF q.l) hcs i1 i2
end Top
theorem top_solved(q:Prob)(w:World)(h:ProbAt w w.heap.size 1048576 q)(hpw:VL.bS w):
 Calls Tryz.prog 3 #[q.val] w fun e w'=>e=.returned (.bool true)/\Below w.heap.size w w':=by
 obtain⟨l,m,pins,dev,vl,v1,v2,v3,v4,vp,l1,l2,l3,l4⟩:=q;obtain⟨wb,hwb⟩:∃y,y=w.alloc (.cells #[vl,v1,v2,v3,v4,.bool dev,vp,.int .i64 l1,.int .i64 l2,.int .i64 l3,.int .i64 l4] 30):=⟨_,rfl⟩;have hbb:Below w.heap.size w wb:=by rw[hwb];exact(bR _ _).alloc nL _
 have hk0:wb.heap[w.heap.size]? =some (.cells #[vl,v1,v2,v3,v4,.bool dev,vp,.int .i64 l1,.int .i64 l2,.int .i64 l3,.int .i64 l4] 30 (0,0)):=by
  rw[hwb];exact heap_alloc_new w _
 have hszb:w.heap.size<wb.heap.size:=by rw[hwb];simp<;>omega
 have HPC:Hid (∀W,Below wb.heap.size wb W->W.cell? ⟨w.heap.size,0,none⟩=some (vl)/\W.cell? ⟨w.heap.size,1,none⟩=some (v1)/\W.cell? ⟨w.heap.size,2,none⟩=some (v2)/\W.cell? ⟨w.heap.size,3,none⟩=some (v3)/\W.cell? ⟨w.heap.size,4,none⟩=some (v4)/\W.cell? ⟨w.heap.size,5,none⟩=some (.bool dev)/\W.cell? ⟨w.heap.size,6,none⟩=some (vp)/\W.cell? ⟨w.heap.size,7,none⟩=some (.int .i64 l1)/\W.cell? ⟨w.heap.size,8,none⟩=some (.int .i64 l2)/\W.cell? ⟨w.heap.size,9,none⟩=some (.int .i64 l3)/\W.cell? ⟨w.heap.size,10,none⟩=some (.int .i64 l4)):=Hd (fun W hW=>by
  have h1:=(hW.block w.heap.size hszb).trans hk0;refine⟨?_,?_,?_,?_,?_,?_,?_,?_,?_,?_,?_⟩<;>(unfold World.cell?;rw[h1];rfl))
 have HUP:Hid (∀W,Below wb.heap.size wb W->Below w.heap.size w W):=Hd (fun W hW=>hbb.trans (hW.mono hbb.size));have HPW:Hid (∀W,Below wb.heap.size wb W->VL.bS W):=Hd (fun W hW=>hpw.below (hbb.trans (hW.mono hbb.size)) nL);obtain⟨q,hq⟩:∃q:Prob,q=⟨l,m,pins,dev,vl,v1,v2,v3,v4,vp,l1,l2,l3,l4⟩:=⟨_,rfl⟩;have HPR:Hid (∀W,Below wb.heap.size wb W->ProbAt W W.heap.size 1048576 q):=Hd (fun W hW=>by rw[hq];exact qD h (hbb.trans (hW.mono hbb.size)));have HCT:Hid (∀W,Below wb.heap.size wb W->Calls Tryz.prog 6 #[.agg #[vl,v1,v2,v3,v4,.bool dev,vp,.int .i64 l1,.int .i64 l2,.int .i64 l3,.int .i64 l4]] W fun e w'=>∃s b,e=.returned (.pointer (some ⟨s,0,none⟩))/\CatN w' w'.heap.size s b (aY q.l)/\Below W.heap.size W w'):=Hd (fun W hW=>by
  have:=jT W q (HPW.out W hW) (HPR.out W hW);rw[hq]at this |-;exact this)
 have HRN:Hid (∀W s b (m1 m2 m3 m4:Int),Below wb.heap.size wb W->CatN W W.heap.size s b (aY q.l)->Calls Tryz.prog 7 #[.pointer (some ⟨s,0,none⟩),.agg #[v1,v2,v3,v4],.bool dev,vp,.agg #[.int .i64 m1,.int .i64 m2,.int .i64 m3,.int .i64 m4]] W fun e w'=>Below W.heap.size W w'/\wJ q m1 m2 e w'):=Hd (fun W s b m1 m2 m3 m4 hW hc=>by
  have:=Fa W q s b (HPR.out W hW) hc (HPW.out W hW) m1 m2 m3 m4;rw[hq]at this |-;exact this)
 have HCK:Hid (∀W s b v g,Below wb.heap.size wb W->CatN W W.heap.size s b (aY q.l)->NdsAt W W.heap.size v g->g.length<=1000000000->(∀x∈g,NdFit x)->Calls Tryz.prog 9 #[.agg #[v],.pointer (some ⟨s,0,none⟩),.agg #[v1,v2,v3,v4],.bool dev] W fun e w'=>dU e (gH q.m=true/\Checks (Prob.pb q) (bA (aY q.l)) g)/\Below W.heap.size W w'):=Hd (fun W s b v g hW hc hg hn hz=>by
  have:=uG W q s b (HPR.out W hW) hc (HPW.out W hW) v g hg hn hz;rw[hq]at this |-;exact this)
 have HSV:Hid (∀W,Below wb.heap.size wb W->Calls Tryz.prog 8 #[] W fun e w'=>e=.returned (.bool true)/\Below W.heap.size W w'):=Hd (fun W hW=>oM W (HPW.out W hW));have HWB:=Hd hwb;have HX0:Hid (Below wb.heap.size wb wb):=Hd (bR _ _);clear h hpw hwb hbb hk0 hszb hq;show Calls Tryz.prog 3 #[.agg #[vl,v1,v2,v3,v4,.bool dev,vp,.int .i64 l1,.int .i64 l2,.int .i64 l3,.int .i64 l4]] w _;have HL:Hid (Prob.pb q=Prob.pb q):=Hd rfl;go_enter Tryz.func3,Tryz.ntmps3;go_upto_region 1 with fail;rw[<-HWB.out];obtain⟨p0,p1,p2,p3,p4,p5,p6,p7,p8,p9,p10⟩:=HPC.out wb HX0.out;go_wp2_with fail;refine(HCT.out wb HX0.out).mono ?_;rintro e wc ⟨s,b,rfl,hc,hbc⟩;have HC:=Hd hc;have HXwc:Hid (Below wb.heap.size wb wc):=Hd (HX0.out.trans hbc);clear hc hbc;clear p0 p1 p2 p3 p4 p5 p6 p7 p8 p9 p10;obtain⟨p0,p1,p2,p3,p4,p5,p6,p7,p8,p9,p10⟩:=HPC.out wc HXwc.out
 go_wp2_with fail;refine(HRN.out wc s b l1 l2 l3 l4 HXwc.out HC.out).mono ?_;rintro e wr ⟨hbr,hrun⟩;have HXwr:Hid (Below wb.heap.size wb wr):=Hd (HXwc.out.trans (hbr.mono HXwc.out.size));have HCg0:=Hd (HC.out.up hbr);have hcs:(aY q.l).length<=128:=HC.out.size;clear hbr;rcases jO hrun with⟨g,n,a,c,rfl,hnd,hh,he⟩ | ⟨c,rfl,hcode⟩
 ·obtain⟨k1,k2,k3,k4,k5⟩:=Ra hcs hh he;obtain⟨N,hN⟩:∃N,N=g.length:=⟨_,rfl⟩;rw[<-hN]at hnd k2 k5 |-;obtain⟨wg,hwg⟩:∃y,y=wr.alloc (.cells #[.slice a N c] 35):=⟨_,rfl⟩;have hbg:Below wr.heap.size wr wg:=by rw[hwg];exact(bR _ _).alloc nL _
  have HXwg:Hid (Below wb.heap.size wb wg):=Hd (HXwr.out.trans (hbg.mono HXwr.out.size));have HCg:Hid (CatN wg wg.heap.size s b (aY q.l)):=Hd (HCg0.out.up hbg);have HGg:Hid (∀W,Below wg.heap.size wg W->W.cell? ⟨wr.heap.size,0,none⟩=some (.slice a N c)):=Hd (fun W hW=>(hW.cell (p:=⟨wr.heap.size,0,none⟩) (by rw[hwg];simp)).trans (by rw[hwg];exact World.cell?_alloc_at _ _ _ _ rfl));have HWg:=Hd hwg;have HND:Hid (NdsAt wg wg.heap.size (.slice a N c) g):=Hd ((hnd.below hbg nL).mono hbg.size);have HK:=Hd (And.intro hh.1 (And.intro k1 k4));have HN:=Hd hN;clear hwg hbg hnd hh he hrun hcs k1 k4 hN;clear p0 p1 p2 p3 p4 p5 p6 p7 p8 p9 p10;obtain⟨p0,p1,p2,p3,p4,p5,p6,p7,p8,p9,p10⟩:=HPC.out wg HXwg.out;go_upto_region 5 with fail;rw[<-HWg.out];have g0:=HGg.out wg (bR _ _);go_wp2_with fail;refine(HCK.out wg s b (.slice a N c) g HXwg.out HCg.out HND.out (by have:=HN.out;omega) HK.out.2.2).mono ?_
  rintro e w5 ⟨⟨z,rfl,hz⟩,hb5⟩;have hz0:z=0:=hz.2 ⟨HK.out.1,HK.out.2.1⟩;subst hz0;have HXw5:Hid (Below wb.heap.size wb w5):=Hd (HXwg.out.trans (hb5.mono HXwg.out.size));have g5:=HGg.out w5 hb5;clear hz hb5 g0;clear p0 p1 p2 p3 p4 p5 p6 p7 p8 p9 p10;obtain⟨p0,p1,p2,p3,p4,p5,p6,p7,p8,p9,p10⟩:=HPC.out w5 HXw5.out;go_wp2_with fail;refine(HSV.out w5 HXw5.out).mono ?_;rintro e w6 ⟨rfl,hb6⟩;go_wp2;go_returns;exact⟨rfl,HUP.out _ (HXw5.out.trans (hb6.mono HXw5.out.size))⟩
 ·have hc0:¬c=0:=by
   rcases hcode with⟨rfl,_⟩ | ⟨rfl | rfl | rfl,_⟩<;>decide
  have hcb:(c==0)=false:=beq_eq_false_iff_ne.2 hc0;obtain⟨wg,hwg⟩:∃y,y=wr.alloc (.cells #[.slice none 0 0] 35):=⟨_,rfl⟩;have hbg:Below wr.heap.size wr wg:=by rw[hwg];exact(bR _ _).alloc nL _
  have HXwg:Hid (Below wb.heap.size wb wg):=Hd (HXwr.out.trans (hbg.mono HXwr.out.size));have HCg:Hid (CatN wg wg.heap.size s b (aY q.l)):=Hd (HCg0.out.up hbg);have HGg:Hid (∀W,Below wg.heap.size wg W->W.cell? ⟨wr.heap.size,0,none⟩=some (.slice none 0 0)):=Hd (fun W hW=>(hW.cell (p:=⟨wr.heap.size,0,none⟩) (by rw[hwg];simp)).trans (by rw[hwg];exact World.cell?_alloc_at _ _ _ _ rfl));have HWg:=Hd hwg;clear hwg hbg hcode hrun hcs;clear p0 p1 p2 p3 p4 p5 p6 p7 p8 p9 p10;obtain⟨p0,p1,p2,p3,p4,p5,p6,p7,p8,p9,p10⟩:=HPC.out wg HXwg.out;go_upto_region 5 with fail;rw[<-HWg.out];have g0:=HGg.out wg (bR _ _);go_wp2_with fail;refine(HSV.out wg HXwg.out).mono ?_;rintro e w6 ⟨rfl,hb6⟩;go_wp2;go_returns;exact⟨rfl,HUP.out _ (HXwg.out.trans (hb6.mono HXwg.out.size))⟩
end
end Go.Proofs.YtcohlmdnahdnaaaGreatDoor
