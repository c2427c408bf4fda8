/- A search is run: the program's walk. -/
import Derived.Test.YtcohlmdnahdnaaaGreatDoorZPk5
import Derived.Test.YtcohlmdnahdnaaaGreatDoorZRs10
namespace Go.Proofs.YtcohlmdnahdnaaaGreatDoor
open Go.RowKit
set_option linter.unusedVariables false
set_option linter.unusedSimpArgs false
set_option maxHeartbeats 16000000
set_option maxRecDepth 100000
section
open Top
namespace Top
theorem Jd(u:Nat->Value):Array.ofFn (n:=165) (fun i=>u i)=List.toArray (u 0::u 1::u 2::u 3::u 4::u 5::u 6::u 7::u 8::u 9::u 10::u 11::u 12::u 13::u 14::u 15::u 16::u 17::u 18::u 19::u 20::u 21::u 22::u 23::u 24::u 25::u 26::u 27::u 28::u 29::u 30::u 31::u 32::u 33::u 34::u 35::u 36::u 37::u 38::u 39::u 40::u 41::u 42::u 43::u 44::u 45::u 46::u 47::u 48::u 49::u 50::u 51::u 52::u 53::u 54::u 55::u 56::u 57::u 58::u 59::u 60::u 61::u 62::u 63::u 64::u 65::u 66::u 67::u 68::u 69::u 70::u 71::u 72::u 73::u 74::u 75::u 76::u 77::u 78::u 79::u 80::u 81::u 82::u 83::u 84::u 85::u 86::u 87::u 88::u 89::u 90::u 91::u 92::u 93::u 94::u 95::u 96::u 97::u 98::u 99::u 100::u 101::u 102::u 103::u 104::u 105::u 106::u 107::u 108::u 109::u 110::u 111::u 112::u 113::u 114::u 115::u 116::u 117::u 118::u 119::u 120::u 121::u 122::u 123::u 124::u 125::u 126::u 127::u 128::u 129::u 130::u 131::u 132::u 133::u 134::u 135::u 136::u 137::u 138::u 139::u 140::u 141::u 142::u 143::u 144::u 145::u 146::u 147::u 148::u 149::u 150::u 151::u 152::u 153::u 154::u 155::u 156::u 157::u 158::u 159::u 160::u 161::u 162::u 163::u 164::[]):=by kernel_rfl
theorem vG{a:Act}(hs:a.tmps.size=165)(hd:a.defers=[]){v9 v10 v13 v14:Value}(h9:a.tmps[9]? =some v9)(h10:a.tmps[10]? =some v10)(h13:a.tmps[13]? =some v13)(h14:a.tmps[14]? =some v14):∃u:Nat->Value,a= {tmps:=List.toArray (u 0::u 1::u 2::u 3::u 4::u 5::u 6::u 7::u 8::v9::v10::u 11::u 12::v13::v14::u 15::u 16::u 17::u 18::u 19::u 20::u 21::u 22::u 23::u 24::u 25::u 26::u 27::u 28::u 29::u 30::u 31::u 32::u 33::u 34::u 35::u 36::u 37::u 38::u 39::u 40::u 41::u 42::u 43::u 44::u 45::u 46::u 47::u 48::u 49::u 50::u 51::u 52::u 53::u 54::u 55::u 56::u 57::u 58::u 59::u 60::u 61::u 62::u 63::u 64::u 65::u 66::u 67::u 68::u 69::u 70::u 71::u 72::u 73::u 74::u 75::u 76::u 77::u 78::u 79::u 80::u 81::u 82::u 83::u 84::u 85::u 86::u 87::u 88::u 89::u 90::u 91::u 92::u 93::u 94::u 95::u 96::u 97::u 98::u 99::u 100::u 101::u 102::u 103::u 104::u 105::u 106::u 107::u 108::u 109::u 110::u 111::u 112::u 113::u 114::u 115::u 116::u 117::u 118::u 119::u 120::u 121::u 122::u 123::u 124::u 125::u 126::u 127::u 128::u 129::u 130::u 131::u 132::u 133::u 134::u 135::u 136::u 137::u 138::u 139::u 140::u 141::u 142::u 143::u 144::u 145::u 146::u 147::u 148::u 149::u 150::u 151::u 152::u 153::u 154::u 155::u 156::u 157::u 158::u 159::u 160::u 161::u 162::u 163::u 164::[]),defers:=[]}:=by
 obtain⟨tmps,defers⟩:=a;dsimp only at hs hd h9 h10 h13 h14;subst hd;have get:∀ {i v},tmps[i]? =some v->v=tmps.getD i undef:=fun {i v} h=>by
  rw[Array.getD_eq_getD_getElem?,h];rfl
 rw[get h9,get h10,get h13,get h14];refine⟨fun n=>tmps.getD n undef,?_⟩;have e:tmps=Array.ofFn (n:=165) (fun i=>tmps.getD i undef):=by
  refine Array.ext (by simp[hs]) fun i h1 h2=>?_;rw[Array.getElem_ofFn,Array.getD_eq_getD_getElem?,Array.getElem?_eq_getElem h1];rfl
 have:=e.trans (Jd fun n=>tmps.getD n undef);exact congrArg (fun t=>(⟨t,[]⟩:Act)) this
def Sb:Pt->Nat
 | .next=>0
 | _=>1
def Ug:Nat->Pt
 | 1=> .next
 | 0=> .try'
 | _=> .back
def kV(r:Res)(e:Ending)(w':World):Prop:=match r with
 | .ok g n=>∃a c,e=.returned (.tuple #[.agg #[.slice a g.length c],.int .i64 n,.int .i64 0])/\NdsAt w' w'.heap.size (.slice a g.length c) g
 | .err c=>e=.returned (.tuple #[.agg #[.slice none 0 0],.int .i64 0,.int .i64 c])
structure At(f:Fx)(lim most B sb:Nat)(wB:World)(pt:Pt)(s:St)(d:Nat)(w':World):Prop where
 fit:Fit f.pb (bA f.C) most pt s
 goes:∀r,Top.Ends f.pb lim most pt s d r->Top.Ends f.pb lim most .next St.start 0 r
 dl:d<=lim
 len:s.stack.length<=d+Sb pt
 ne:pt=.try'->s.stack≠[]
 bel:Below B wB w'
 mem:∃vs vn va vw vf cs ce,Held w' B sb f s vs vn va vw vf cs ce/\(pt≠.back->vf=.int .i64 s.first/\(∃a c,vw=.slice a (s.wants f.pb).length c)/\WtsO w' (kY sb vs vn va) vw (s.wants f.pb))
def behind:Code->Nat->Code
 | .seq (.label l') b,l=>if l'==l then b else behind b l
 | .seq _ b,l=>behind b l
 | c,_=>c
noncomputable def fT:Code:=match Tryz.f7.body with
 | some (.seq _ (.scope c))=>c
 | _=> .skip
theorem Gx:∀l,l=0\/l=1\/l=2->findLabel fT l=some (.seq .skip (behind fT l)):=fun l hl=>by
 have h0:findLabel fT 0=some (.seq .skip (behind fT 0)):=by kernel_rfl
 have h1:findLabel fT 1=some (.seq .skip (behind fT 1)):=by kernel_rfl
 have h2:findLabel fT 2=some (.seq .skip (behind fT 2)):=by kernel_rfl
 rcases hl with rfl | rfl | rfl
 ·exact h0
 ·exact h1
 ·exact h2
structure RunJ(w:World)(f:Fx)(lD lN:Int)(l:Nat)(g:St×Nat×World)(a:Act)(w':World):Prop where
 lab:l=0\/l=1\/l=2
 hs:a.tmps.size=165
 hd:a.defers=[]
 t9:a.tmps[9]? =some (.pointer (some ⟨w.heap.size+1,0,none⟩))
 t10:a.tmps[10]? =some (.pointer (some ⟨w.heap.size+1+1,0,none⟩))
 t13:a.tmps[13]? =some (.pointer (some ⟨g.2.2.heap.size+1,0,none⟩))
 t14:a.tmps[14]? =some (.int .i64 g.2.1)
 bw:Below w.heap.size w g.2.2
 c0:g.2.2.cell? ⟨w.heap.size+1,0,none⟩=some (.int .i64 lD)
 c1:g.2.2.cell? ⟨w.heap.size+1,1,none⟩=some (.int .i64 lN)
 r0:g.2.2.heap[w.heap.size+1+1]? =some (.cells #[.slice none 0 0] 35 (0,0))
 at':At f lD.toNat lN.toNat g.2.2.heap.size (g.2.2.heap.size+1) g.2.2 (Ug l) g.1 g.2.1 w'
def mu(lD:Int)(l:Nat)(g:St×Nat×World):Nat:=left lD.toNat (Ug l) g.1 g.2.1
def wH(w:World)(f:Fx)(lD lN:Int)(n:Nat)(l':Nat)(a':Act)(w':World):Prop:=∃g',RunJ w f lD lN l' g' a' w'/\mu lD l' g'<n
abbrev RQ(Po:Ending->World->Prop):Exit->Act->World->Prop:=bodyPost Tryz.prog Tryz.f7 Po
def wI(w:World)(f:Fx)(lD lN:Int)(Q:Exit->Act->World->Prop):Prop:=∀(a:Act) (w':World) (v:Value) (n c:Int) (r:Res),a.defers=[]->a.tmps[10]? =some (.pointer (some ⟨w.heap.size+1+1,0,none⟩))->a.tmps[11]? =some (.int .i64 n)->a.tmps[12]? =some (.int .i64 c)->w'.cell? ⟨w.heap.size+1+1,0,none⟩=some v->Below w.heap.size w w'->Top.Ends f.pb lD.toNat lN.toNat .next St.start 0 r->kV r (.returned (.tuple #[.agg #[v],.int .i64 n,.int .i64 c])) w'->Q .ret a w'
structure RunOk(f:Fx)(lD lN:Int):Prop where
 fit:f.pb.Fits (bA f.C)
 wl:∀k nd,(f.pb.own k nd).length<=1000
 wr:∀k nd,∀x∈f.pb.own k nd,x.rg.length<=1000000
 cl:f.C.length<=128
 d1:1<=lD
 d2:lD<=4096
 n1:1<=lN
 n2:lN<=128
end Top
theorem rJ(w:World)(f:Fx)(lD lN:Int)(hR:RunOk f lD lN)(Po:Ending->World->Prop)(hQ:wI w f lD lN (RQ Po))(g:St×Nat×World)(a:Act)(w':World)(hJ:RunJ w f lD lN 2 g a w'):
 (behind fT 2).wp Tryz.prog (jumps (wH w f lD lN (mu lD 2 g)) (RQ Po)) a w':=by
 obtain⟨s,d,wB⟩:=g;obtain⟨hlab,hs,hd,t9,t10,t13,t14,bw,c0,c1,r0,hat⟩:=hJ;clear hlab;dsimp only at t13 t14 bw c0 c1 r0 hat;obtain⟨u,rfl⟩:=vG hs hd t9 t10 t13 t14;obtain⟨hfit,hgo,hdl,hlen,hne,hbel,vs,vn,va,vw,vf,cs,ce,hh,hw9⟩:=hat;clear hw9 hne;obtain⟨sa,sc,hvs⟩:=aC hh.r.st;obtain⟨SN,hSN⟩:=ex (s.stack.length);rw[<-hSN]at hvs;subst hvs;have c7:w'.cell? ⟨wB.heap.size+1,7,none⟩=some (.slice sa SN sc):=hh.k.cell 7;have hrb:w.heap.size+1+1<wB.heap.size:=by
  refine Decidable.byContradiction fun hx=>?_;rw[Array.getElem?_eq_none (by omega)]at r0;exact absurd r0 (by simp)
 have hrw:=(hbel.block (w.heap.size+1+1) hrb).trans r0;have e0:w'.cell? ⟨w.heap.size+1+1,0,none⟩=some (.slice none 0 0):=Go.Lib.cell_of_heap hrw 0;have ef:=Go.Lib.frozen_of_heap hrw 0;have HQ:=Hd hQ;have HGO:=Hd hgo;have HFIT:=Hd hfit;have HH:=Hd hh;have HBEL:=Hd hbel;have HR:=Hd hR;have HBW:=Hd bw;have HLEN:=Hd hlen;have HDL:=Hd hdl;have HSN:=Hd hSN;have HC0:=Hd c0;have HC1:=Hd c1;have HR0:=Hd r0;clear hs hd t9 t10 t13 t14 hgo hfit hh hbel hR bw hlen hdl c0 c1 r0 hrw hQ
 conv=>arg 2;whnf
 by_cases hst:s.stack=[]
 ·have hS0:SN=0:=by rw[hSN,hst];rfl
  subst hS0;clear hSN;go_wp2;refine HQ.out _ _ (.slice none 0 0) 0 30 (.err 30) rfl rfl rfl rfl (World.cell?_setCell_same _ _ _ e0) ?_ (HGO.out _ (.unsat s d hst)) rfl;exact HBW.out.trans ((HBEL.out.mono HBW.out.size).setCell (by show w.heap.size<=w.heap.size+1+1;omega) _)
 ·obtain⟨pre,x,hpx⟩:=Ey hst;have hS1:SN=pre.length+1:=by rw[hSN,hpx];simp
  have hfb:=HFIT.out.back hpx;have hk:=qY HFIT.out.inv hpx;obtain⟨nd,hnd⟩:=ex ((s.again pre x).cur);have hcur:(s.again pre x).nodes[x.node]? =some nd:=by rw[hnd,<-hk];exact hfb.cur
  have hwant:f.pb.own x.node nd=(s.again pre x).wants f.pb:=by unfold St.wants;rw[hk,hnd]
  have hmost:lN.toNat<=128:=by have:=HR.out.n2;omega
  have hsd:s.stack.length<=d+1:=HLEN.out;have hd4:d<=4096:=by have:=HR.out.d2;have:=HDL.out;omega
  have hback:=Og w' wB.heap.size (wB.heap.size+1) f s (.slice sa SN sc) vn va vw vf cs ce HH.out pre x hpx (fun h0=>by
   have hax:x.node<s.ahead.length:=h0;have:=HFIT.out.inv.ah x.node _ (gE hax);exact⟨_,gE hax,this.1,this.2⟩) nd hcur (fun h0=>HH.out.ok.key (hfb.inv.ok x.node nd h0 hcur).2.2.1) (by have:=HFIT.out.inv.nm;omega) (by omega) (by
   have h1:=HFIT.out.pt.2.2 x (by rw[hpx];simp);have h2:=Pw x;have h3:=HFIT.out.inv.stack_vs (x:=x) (by rw[hpx];simp);have h4:=HR.out.cl;omega)
  rw[hwant,<-Br HFIT.out.inv hpx]at hback;have HBK:=Hd hback;have HFB:=Hd hfb;have HPX:=Hd hpx;have hz:¬(SN:Int)=0:=by omega
  have hzb:((SN:Int)==0)=false:=beq_eq_false_iff_ne.2 hz;have hsd2:pre.length+1<=d+1:=by omega
  clear hback hfb hk hnd hcur hwant hpx hst hSN hS1 hsd;go_wp2_with fail;refine HBK.out.mono ?_;rintro e w2 ⟨rfl,hb2,vs2,vn2,va2,ta,tc,cs2,ce2,hh2,hwo2⟩;have HM:=Hd hh2;have HWO:=Hd hwo2;have HB2:=Hd hb2;clear hh2 hwo2 hb2;go_wp2_with fail;refine wp_goto ?_;have hlen2:(s.again pre x).stack.length=pre.length+1:=by rw[eO];simp
  refine⟨(s.again pre x,d,wB),⟨.inl rfl,rfl,rfl,rfl,rfl,rfl,rfl,HBW.out,HC0.out,HC1.out,HR0.out,⟨HFB.out,fun r hr=>HGO.out r (.back s d r pre x HPX.out hr),HDL.out,by rw[hlen2];exact hsd2,fun _ e=>by rw[e]at hlen2;simp at hlen2,HBEL.out.trans HB2.out,_,_,_,_,_,_,_,HM.out,fun _=>⟨rfl,⟨_,_,rfl⟩,HWO.out⟩⟩⟩,?_⟩;have h1:=HPX.out;have h2:s.stack.length=pre.length+1:=by rw[h1];simp
  show(lD.toNat-d)*20000+2*(s.again pre x).stack.length<(lD.toNat-d)*20000+(2*s.stack.length+1);rw[hlen2,h2];omega
theorem Lp(w:World)(f:Fx)(lD lN:Int)(hR:RunOk f lD lN)(Po:Ending->World->Prop)(hQ:wI w f lD lN (RQ Po))(g:St×Nat×World)(a:Act)(w':World)(hJ:RunJ w f lD lN 0 g a w'):
 (behind fT 0).wp Tryz.prog (jumps (wH w f lD lN (mu lD 0 g)) (RQ Po)) a w':=by
 obtain⟨s,d,wB⟩:=g;obtain⟨hlab,hs,hd,t9,t10,t13,t14,bw,c0,c1,r0,hat⟩:=hJ;clear hlab;dsimp only at t13 t14 bw c0 c1 r0 hat;obtain⟨u,rfl⟩:=vG hs hd t9 t10 t13 t14;obtain⟨hfit,hgo,hdl,hlen,hne,hbel,vs,vn,va,vw,vf,cs,ce,hh,hw9⟩:=hat;have HW9:=Hd hw9;clear hw9;have HQ:=Hd hQ;have hst:s.stack≠[]:=hne rfl;clear hne;obtain⟨pre,x,hpx⟩:=Ey hst;obtain⟨PN,hPN⟩:=ex (pre.length);have hSN:s.stack.length=PN+1:=by rw[hpx,hPN];simp
 have hx:s.stack[PN]? =some x:=by rw[hpx,hPN];simp
 obtain⟨g,cap,cv,hvs,hg1,hg2,hcs,hvr,q0,q1,q2,q3,q4⟩:=hh.r.ch hx;rw[hSN]at hvs;subst hvs;obtain⟨xa,xc,hcv⟩:=hvr.form;rw[lM]at hcv;obtain⟨XN,hXN⟩:=ex (x.vs.length);rw[<-hXN]at hcv;subst hcv;have hXN1:XN<=129:=by
  have h3:=hfit.inv.stack_vs (x:=x) (by rw[hpx];simp);have h4:=hR.cl;omega
 have c7:w'.cell? ⟨wB.heap.size+1,7,none⟩=some (.slice (some ⟨g,0,none⟩) (PN+1) cap):=hh.k.cell 7;have hrb:w.heap.size+1+1<wB.heap.size:=by
  refine Decidable.byContradiction fun hx=>?_;rw[Array.getElem?_eq_none (by omega)]at r0;exact absurd r0 (by simp)
 have hd4:d<=4096:=by have:=hR.d2;omega
 have hsd:s.stack.length<=d+1:=hlen;have hwr:IntKind.i64.wrap (PN:Int)=PN:=by rw[IntKind.wrap_i64];omega
 have hp1:(0:Int)<=(PN:Int):=by omega
 have hp2:(PN:Int)<(PN:Int)+1:=by omega
 obtain⟨w1,hw1⟩:=ex ((w'.alloc (.cells #[.int .i64 x.node,.string (bs x.name),.slice xa XN xc,.bool x.none,.int .i64 x.pos] 65)).drew);have hb1:Below w'.heap.size w' w1:=by rw[hw1];exact((bR _ w').alloc nL _).drew
 have kb:w1.cell? ⟨w'.heap.size,0,none⟩=some (.int .i64 x.node)/\w1.cell? ⟨w'.heap.size,1,none⟩=some (.string (bs x.name))/\w1.cell? ⟨w'.heap.size,2,none⟩=some (.slice xa XN xc)/\w1.cell? ⟨w'.heap.size,3,none⟩=some (.bool x.none)/\w1.cell? ⟨w'.heap.size,4,none⟩=some (.int .i64 x.pos):=by rw[hw1];exact⟨aB rfl rfl,aB rfl rfl,aB rfl rfl,aB rfl rfl,aB rfl rfl⟩
 have k16:w'.cell? ⟨wB.heap.size+1,7,none⟩=some (.slice (some ⟨g,0,none⟩) (PN+1) cap)/\w'.cell? ⟨g,PN*5,none⟩=some (.int .i64 x.node)/\w'.cell? ⟨g,PN*5+1,none⟩=some (.string (bs x.name))/\w'.cell? ⟨g,PN*5+2,none⟩=some (.slice xa XN xc)/\w'.cell? ⟨g,PN*5+3,none⟩=some (.bool x.none)/\w'.cell? ⟨g,PN*5+4,none⟩=some (.int .i64 x.pos):=⟨c7,q0,q1,q2,q3,q4⟩;have hgs:g<w'.heap.size:=hg2;have hsbs:=hh.k.lt;have k16z:(w'.alloc (.cells #[.int .i64 0,.string ⟨#[]⟩,.slice none 0 0,.bool false,.int .i64 0] 65)).drew.cell? ⟨wB.heap.size+1,7,none⟩=some (.slice (some ⟨g,0,none⟩) (PN+1) cap)/\(w'.alloc (.cells #[.int .i64 0,.string ⟨#[]⟩,.slice none 0 0,.bool false,.int .i64 0] 65)).drew.cell? ⟨g,PN*5,none⟩=some (.int .i64 x.node)/\(w'.alloc (.cells #[.int .i64 0,.string ⟨#[]⟩,.slice none 0 0,.bool false,.int .i64 0] 65)).drew.cell? ⟨g,PN*5+1,none⟩=some (.string (bs x.name))/\(w'.alloc (.cells #[.int .i64 0,.string ⟨#[]⟩,.slice none 0 0,.bool false,.int .i64 0] 65)).drew.cell? ⟨g,PN*5+2,none⟩=some (.slice xa XN xc)/\(w'.alloc (.cells #[.int .i64 0,.string ⟨#[]⟩,.slice none 0 0,.bool false,.int .i64 0] 65)).drew.cell? ⟨g,PN*5+3,none⟩=some (.bool x.none)/\(w'.alloc (.cells #[.int .i64 0,.string ⟨#[]⟩,.slice none 0 0,.bool false,.int .i64 0] 65)).drew.cell? ⟨g,PN*5+4,none⟩=some (.int .i64 x.pos):=⟨(aD (by show wB.heap.size+1<_;omega)).trans k16.1,(aD (by show g<_;omega)).trans k16.2.1,(aD (by show g<_;omega)).trans k16.2.2.1,(aD (by show g<_;omega)).trans k16.2.2.2.1,(aD (by show g<_;omega)).trans k16.2.2.2.2.1,(aD (by show g<_;omega)).trans k16.2.2.2.2.2⟩
 have k16b:w1.cell? ⟨wB.heap.size+1,7,none⟩=some (.slice (some ⟨g,0,none⟩) (PN+1) cap)/\w1.cell? ⟨g,PN*5,none⟩=some (.int .i64 x.node)/\w1.cell? ⟨g,PN*5+1,none⟩=some (.string (bs x.name))/\w1.cell? ⟨g,PN*5+2,none⟩=some (.slice xa XN xc)/\w1.cell? ⟨g,PN*5+3,none⟩=some (.bool x.none)/\w1.cell? ⟨g,PN*5+4,none⟩=some (.int .i64 x.pos):=⟨(hb1.cell (p:=⟨wB.heap.size+1,7,none⟩) (by show wB.heap.size+1<_;omega)).trans k16.1,(hb1.cell (p:=⟨g,PN*5,none⟩) (by show g<_;omega)).trans k16.2.1,(hb1.cell (p:=⟨g,PN*5+1,none⟩) (by show g<_;omega)).trans k16.2.2.1,(hb1.cell (p:=⟨g,PN*5+2,none⟩) (by show g<_;omega)).trans k16.2.2.2.1,(hb1.cell (p:=⟨g,PN*5+3,none⟩) (by show g<_;omega)).trans k16.2.2.2.2.1,(hb1.cell (p:=⟨g,PN*5+4,none⟩) (by show g<_;omega)).trans k16.2.2.2.2.2⟩;have hM:=Hd (Mj w1.drew x.node x.name xa XN xc x.none x.pos (by omega))
 have HMANY:Hid (((XN:Int)+if x.none then 1 else 0)=(x.many:Int)):=Hd (by rw[Px,<-hXN]);rw[HMANY.out]at hM;have HGO:=Hd hgo;have HFIT:=Hd hfit;have HH:=Hd hh;have HBEL:=Hd hbel;have HR:=Hd hR;have HBW:=Hd bw;have HLEN:=Hd hlen;have HDL:=Hd hdl;have HC0:=Hd c0;have HC1:=Hd c1;have HR0:=Hd r0;have HPX:=Hd hpx;have HPN:=Hd hPN;have HSN:=Hd hSN;have HW1:=Hd hw1;have HB1:=Hd hb1;clear hs hd t9 t10 t13 t14 hgo hfit hh hbel hR bw hlen hdl c0 c1 r0 hQ hst hpx hPN hSN hx hXN hcs hvr q0 q1 q2 q3 q4 hw1 hb1
 conv=>arg 2;whnf
 go_upto_region 16 with fail;refine rG (fun w'=>w'.cell? ⟨wB.heap.size+1,7,none⟩=some (.slice (some ⟨g,0,none⟩) (PN+1) cap)/\w'.cell? ⟨g,PN*5,none⟩=some (.int .i64 x.node)/\w'.cell? ⟨g,PN*5+1,none⟩=some (.string (bs x.name))/\w'.cell? ⟨g,PN*5+2,none⟩=some (.slice xa XN xc)/\w'.cell? ⟨g,PN*5+3,none⟩=some (.bool x.none)/\w'.cell? ⟨g,PN*5+4,none⟩=some (.int .i64 x.pos)) k16 fun hU=>?_;refine aM [0,1,2,3,4,5,6,7,8,9,10,11] ?_;refine rd 12 fun K hK=>?_;go_simp;refine hK.out _ _ (k16z) fun hU=>?_;clear hK K;try simp only[lay]
 refine rd 13 fun K hK=>?_;go_simp;rw[<-HW1.out];refine hK.out _ _ (k16b) fun hU=>?_;clear hK K;try simp only[lay]
 refine dN ?_;go_upto_region 17 with fail;refine rG (fun w2=>w2.cell? ⟨w'.heap.size,0,none⟩=some (.int .i64 x.node)/\w2.cell? ⟨w'.heap.size,1,none⟩=some (.string (bs x.name))/\w2.cell? ⟨w'.heap.size,2,none⟩=some (.slice xa XN xc)/\w2.cell? ⟨w'.heap.size,3,none⟩=some (.bool x.none)/\w2.cell? ⟨w'.heap.size,4,none⟩=some (.int .i64 x.pos)) kb fun hU=>?_;refine aM [0,1,2] ?_;refine rd 3 fun K hK=>?_;go_simp;go_at_call 18;refine hM.out.mono ?_;rintro e w2 ⟨rfl,hb2⟩;have HB2:Hid (Below w1.heap.size w1 w2):=Hd ((bR _ w1).drew.trans hb2);have hzb:w'.heap.size<w1.heap.size:=by have:=lt_of_cell kb.1;exact this
 have kC:w2.cell? ⟨w'.heap.size,0,none⟩=some (.int .i64 x.node)/\w2.cell? ⟨w'.heap.size,1,none⟩=some (.string (bs x.name))/\w2.cell? ⟨w'.heap.size,2,none⟩=some (.slice xa XN xc)/\w2.cell? ⟨w'.heap.size,3,none⟩=some (.bool x.none)/\w2.cell? ⟨w'.heap.size,4,none⟩=some (.int .i64 x.pos):=⟨(HB2.out.cell (p:=⟨w'.heap.size,0,none⟩) hzb).trans kb.1,(HB2.out.cell (p:=⟨w'.heap.size,1,none⟩) hzb).trans kb.2.1,(HB2.out.cell (p:=⟨w'.heap.size,2,none⟩) hzb).trans kb.2.2.1,(HB2.out.cell (p:=⟨w'.heap.size,3,none⟩) hzb).trans kb.2.2.2.1,(HB2.out.cell (p:=⟨w'.heap.size,4,none⟩) hzb).trans kb.2.2.2.2⟩;clear hb2;refine hK.out _ _ (kC) fun hU=>?_;clear hK K;refine aM [4] ?_;refine dN ?_;have hzz:wB.heap.size<=w'.heap.size:=HBEL.out.size;have HB12:Hid (Below w'.heap.size w' w2):=Hd (HB1.out.trans (HB2.out.mono HB1.out.size));have HBX:Hid (Below wB.heap.size wB w2):=Hd (HBEL.out.trans (HB12.out.mono hzz))
 have d0:=(HBX.out.cell (p:=⟨w.heap.size+1,0,none⟩) (by show w.heap.size+1<_;omega)).trans HC0.out;have hrw:=(HBX.out.block (w.heap.size+1+1) hrb).trans HR0.out;have e0:w2.cell? ⟨w.heap.size+1+1,0,none⟩=some (.slice none 0 0):=Go.Lib.cell_of_heap hrw 0;have ef:=Go.Lib.frozen_of_heap hrw 0;have HH2:=Hd (HH.out.grow HB12.out);have d7:w2.cell? ⟨wB.heap.size+1,7,none⟩=some (.slice (some ⟨g,0,none⟩) (PN+1) cap):=HH2.out.k.cell 7;have f7:=HH2.out.k.soft 7;have hcap:PN+1<=cap:=by
  rcases HH.out.r.st.2 with⟨e1,e2⟩ | ⟨g1,c1,cur,e1,_,_,h4,_⟩
  ·cases e1
  ·injection e1 with _ e2 e3;subst e3;rw[<-HSN.out];exact h4
 have hcz:(PN:Int)<=(cap:Int):=by omega
 have hbw:w.heap.size<=wB.heap.size:=HBW.out.size;clear hrw kb kC hU k16 k16z k16b c7;by_cases hpm:x.pos<x.many
 ·have hpz:(x.pos:Int)<(x.many:Int):=by omega
  have HPM:=Hd hpm;by_cases hdd:d=lD.toNat
  ·have hdz:(d:Int)=lD:=by have:=HR.out.d1;omega
   have hdb:((d:Int)==lD)=true:=beq_iff_eq.2 hdz;have HDD:=Hd hdd;clear hdd hdz hpm;go_wp2;refine HQ.out _ _ (.slice none 0 0) 0 31 (.err 31) rfl rfl rfl rfl (World.cell?_setCell_same _ _ _ e0) ?_ (HGO.out _ ?_) rfl
   ·exact HBW.out.trans ((HBX.out.mono hbw).setCell (by show w.heap.size<=w.heap.size+1+1;omega) _)
   ·have:=Top.Ends.budget (P:=f.pb) (lim:=lD.toNat) (most:=lN.toNat) s pre x HPX.out HPM.out;rw[<-HDD.out]at this;rw[<-HDD.out];exact this
  ·have hdz:¬(d:Int)=lD:=fun e=>hdd (by omega);have hdb:((d:Int)==lD)=false:=beq_eq_false_iff_ne.2 hdz;have HDD:=Hd hdd;clear hdd hpm;go_wp2_with fail;refine wp_goto ?_;have hd1:d+1<=lD.toNat:=by have:=HDL.out;have:=HDD.out;omega
   refine⟨(s,d+1,wB),⟨.inr (.inl rfl),rfl,rfl,rfl,rfl,rfl,rfl,HBW.out,HC0.out,HC1.out,HR0.out,⟨HFIT.out.take HPX.out HPM.out,fun r hr=>HGO.out r (.take s d r pre x HPX.out HPM.out HDD.out hr),hd1,HLEN.out,(fun e=>by cases e),HBX.out,_,_,_,_,_,_,_,HH2.out,fun _=>?_⟩⟩,?_⟩
   ·obtain⟨h1,h2,h3⟩:=HW9.out (fun e=>by cases e);exact⟨h1,h2,h3.keep HB12.out.size (fun j hj _=>HB12.out.block j hj) fun j hj=> .inl hj⟩
   ·show(lD.toNat-(d+1))*20000+(10000+(200-s.k))<(lD.toNat-d)*20000+2*s.stack.length;omega
 ·have hpz:¬(x.pos:Int)<(x.many:Int):=by omega
  have HPM:Hid (x.many<=x.pos):=Hd (by omega);clear hpm;have k21:True:=trivial;obtain⟨w3,hw3⟩:=ex ((w2.setCell ⟨wB.heap.size+1,7,none⟩ (.slice (some ⟨g,0,none⟩) PN cap)).drew);have h3:Held w3 wB.heap.size (wB.heap.size+1) f {s with stack:=pre} (.slice (some ⟨g,0,none⟩) PN cap) vn va vw vf (cs.take pre.length) ce:=by
   have hp:=HH2.out.r.pop HPX.out;rw[<-HPN.out]at hp;have hr3:=(hp.set 7 (.slice (some ⟨g,0,none⟩) PN cap) HH2.out.k).grow (bR _ _).drew;have ho3:=HH2.out.ok.below ((bR wB.heap.size w2).setCell (p:=⟨wB.heap.size+1,7,none⟩) HH2.out.sb (.slice (some ⟨g,0,none⟩) PN cap)).drew nL;rw[<-hw3]at hr3 ho3;refine⟨?_,by rw[<-HPN.out];exact hr3,ho3,HH2.out.sb⟩;rw[hw3];exact HH2.out.k.set7 _
  have HB3:Hid (Below wB.heap.size wB w3):=Hd (by rw[hw3];exact(HBX.out.setCell (p:=⟨wB.heap.size+1,7,none⟩) HH2.out.sb _).drew);have H3:=Hd h3;have HW3:=Hd hw3;clear h3 hw3;go_upto_region 21 with fail;refine rG (fun _=>True) k21 fun hU=>?_;refine aM [0,1,2,3,5,6,7] ?_;refine wpAnyH_ready (rs:=[4,8]) (by kernel_rfl) (by simp) ?_;refine AllReadyH.cons rfl (fun K hK=>?_) (AllReadyH.cons rfl (fun K hK=>?_) AllReadyH.nil)
  ·go_simp;refine hK.out _ _ (trivial) fun hU=>?_;clear hK K;(try simp only[lay]);refine rd 8 fun K hK=>?_;go_simp;refine hK.out _ _ (trivial) fun hU=>?_;clear hK K;refine aM [9,10,11,12,13] ?_;refine rd 14 fun K hK=>?_;go_simp;rw[<-HW3.out];refine hK.out _ _ (trivial) fun hU=>?_;clear hK K;(try simp only[lay]);refine dN ?_;go_wp2_with fail;refine wp_label ?_
   rename_i hKK
   refine hKK _ _ ?_;refine Code.wp_mono (Q:=jumps (wH w f lD lN (mu lD 2 (({s with stack:=pre}:St),d,wB))) (RQ Po)) (kR (fun l a w h=>?lt1)) ?pb1;case pb1=>
    refine rJ w f lD lN HR.out Po HQ.out (({s with stack:=pre}:St),d,wB) _ _ ?_;refine⟨.inr (.inr rfl),rfl,rfl,rfl,rfl,rfl,rfl,HBW.out,HC0.out,HC1.out,HR0.out,⟨HFIT.out.pop HPX.out,fun r hr=>HGO.out r (.pop s d r pre x HPX.out HPM.out hr),HDL.out,?_,(fun e=>by cases e),HB3.out,_,_,_,_,_,_,_,H3.out,fun e=>absurd rfl e⟩⟩;have h1:=HLEN.out;have h2:=HSN.out;have h3:s.stack.length<=d+1:=h1;show pre.length<=d+1;have:=HPN.out;omega
   case lt1=>
    obtain⟨g',h1,h2⟩:=h;have h3:=HSN.out;have h4:=HPN.out;have h5:mu lD 2 ({s with stack:=pre},d,wB)<mu lD 0 (s,d,wB):=by
     show(lD.toNat-d)*20000+(2*pre.length+1)<(lD.toNat-d)*20000+2*s.stack.length;omega
    exact⟨g',h1,Nat.lt_trans h2 h5⟩
  ·go_simp;refine hK.out _ _ (trivial) fun hU=>?_;clear hK K;refine aM [9,10] ?_;refine rd 4 fun K hK=>?_;go_simp;refine hK.out _ _ (trivial) fun hU=>?_;clear hK K;refine aM [11,12,13] ?_;refine rd 14 fun K hK=>?_;go_simp;rw[<-HW3.out];refine hK.out _ _ (trivial) fun hU=>?_;clear hK K;(try simp only[lay]);refine dN ?_;go_wp2_with fail;refine wp_label ?_
   rename_i hKK
   refine hKK _ _ ?_;refine Code.wp_mono (Q:=jumps (wH w f lD lN (mu lD 2 (({s with stack:=pre}:St),d,wB))) (RQ Po)) (kR (fun l a w h=>?lt2)) ?pb2;case pb2=>
    refine rJ w f lD lN HR.out Po HQ.out (({s with stack:=pre}:St),d,wB) _ _ ?_;refine⟨.inr (.inr rfl),rfl,rfl,rfl,rfl,rfl,rfl,HBW.out,HC0.out,HC1.out,HR0.out,⟨HFIT.out.pop HPX.out,fun r hr=>HGO.out r (.pop s d r pre x HPX.out HPM.out hr),HDL.out,?_,(fun e=>by cases e),HB3.out,_,_,_,_,_,_,_,H3.out,fun e=>absurd rfl e⟩⟩;have h1:=HLEN.out;have h2:=HSN.out;have h3:s.stack.length<=d+1:=h1;show pre.length<=d+1;have:=HPN.out;omega
   case lt2=>
    obtain⟨g',h1,h2⟩:=h;have h3:=HSN.out;have h4:=HPN.out;have h5:mu lD 2 ({s with stack:=pre},d,wB)<mu lD 0 (s,d,wB):=by
     show(lD.toNat-d)*20000+(2*pre.length+1)<(lD.toNat-d)*20000+2*s.stack.length;omega
    exact⟨g',h1,Nat.lt_trans h2 h5⟩
end
end Go.Proofs.YtcohlmdnahdnaaaGreatDoor
