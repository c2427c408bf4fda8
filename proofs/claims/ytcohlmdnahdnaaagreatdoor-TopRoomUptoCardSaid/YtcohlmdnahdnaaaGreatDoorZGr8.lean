/- Is a graph a solution? The program's walk. -/
import Derived.Test.YtcohlmdnahdnaaaGreatDoorZGr4
import Derived.Test.YtcohlmdnahdnaaaGreatDoorZGr7
import Derived.Test.YtcohlmdnahdnaaaGreatDoorZPk5
import Derived.Test.YtcohlmdnahdnaaaGreatDoorZRs11
namespace Go.Proofs.YtcohlmdnahdnaaaGreatDoor
open Go.RowKit
set_option linter.unusedVariables false
set_option linter.unusedSimpArgs false
set_option maxHeartbeats 16000000
set_option maxRecDepth 100000
section
open Top
namespace Top
structure NdFit(x:Nd):Prop where
 sz:wV x
 k:nC (x.name,x.v)
 kc:∀p∈x.ctx,nC (p.name,p.v)
 len:x.ctx.length+x.edges.length<=1000000
 cn:∀p∈x.ctx,p.name.length<=maxLen
 en:∀e∈x.edges,e.label.length<=maxLen
def dU(e:Ending)(p:Prop):Prop:=∃c:Int,e=.returned (.int .i64 c)/\(c=0↔p)
theorem dU.no{p:Prop}(h:¬p){c:Int}(hc:c≠0){e:Ending}(he:e=.returned (.int .i64 c)):dU e p:=⟨c,he,⟨fun h0=>absurd h0 hc,fun h0=>absurd h0 h⟩⟩
theorem dU.yes{p:Prop}(h:p){e:Ending}(he:e=.returned (.int .i64 0)):dU e p:=⟨0,he,⟨fun _=>h,fun _=>rfl⟩⟩
end Top
theorem Ju(w:World)(v:Value)(g:List Nd)(h:NdsAt w w.heap.size v g)(hn:g.length<=1000000000)(hz:∀x∈g,NdFit x)(f:Fx)(hok:FxOk w w.heap.size f)(ok:Bool)(hfit:ok=true->f.pb.Fits (bA f.C))(hwl:ok=true->∀k nd,(f.pb.own k nd).length<=1000/\∀y∈f.pb.own k nd,y.rg.length<=1000000/\y.name.length<=maxLen)
 (hmay:∀W,Below w.heap.size w W->Calls Tryz.prog 14 #[tX f.v1 f.v2 f.v3 f.v4] W fun e w'=>e=.returned (.bool ok)/\Below W.heap.size W w'):
 Calls Tryz.prog 9 #[.agg #[v],.pointer (some ⟨f.s,0,none⟩),tX f.v1 f.v2 f.v3 f.v4,.bool f.dev] w fun e w'=>dU e (ok=true/\Checks f.pb (bA f.C) g)/\Below w.heap.size w w':=by
 obtain⟨a1,m1,hv1⟩:=hok.mf.deps.form;obtain⟨a2,m2,hv2⟩:=hok.mf.dev.form;obtain⟨a3,m3,hv3⟩:=hok.mf.opts.form;obtain⟨a4,m4,hv4⟩:=hok.mf.over.form;obtain⟨d1,hd1⟩:∃n,n=f.m.deps.length:=⟨_,rfl⟩;obtain⟨d2,hd2⟩:∃n,n=f.m.dev.length:=⟨_,rfl⟩;obtain⟨d3,hd3⟩:∃n,n=f.m.opts.length:=⟨_,rfl⟩;obtain⟨d4,hd4⟩:∃n,n=f.m.over.length:=⟨_,rfl⟩;rw[<-hd1]at hv1;rw[<-hd2]at hv2;rw[<-hd3]at hv3;rw[<-hd4]at hv4;obtain⟨ga,gc,hvg⟩:=h.form;obtain⟨N,hN⟩:∃n,n=g.length:=⟨_,rfl⟩;rw[<-hN]at hvg hn;subst hvg;have hup0:∀W,Below w.heap.size w W->FxOk W W.heap.size f/\NdsAt W W.heap.size (.slice ga N gc) g:=fun W hW=>⟨(hok.below hW nL).mono hW.size,(h.below hW nL).mono hW.size⟩;have HUP:=Hd hup0;have HFORM:Hid (∀W,Below w.heap.size w W->Calls Tryz.prog 20 #[.agg #[.slice ga N gc]] W fun e w'=>Says e (Formed g)/\Below W.heap.size W w'):=Hd (fun W hW=>Du W _ g (hup0 W hW).2 (by rw[<-hN];exact hn) (fun x hx=>(hz x hx).sz))
 have hroot:∀W,Below w.heap.size w W->Calls Tryz.prog 21 #[.agg #[.slice a1 d1 m1,.slice a2 d2 m2,.slice a3 d3 m3,.slice a4 d4 m4],.bool f.dev] W fun e w'=>iQ W (dV f.m f.dev) e w':=fun W hW=>by
  have:=vB W f.m f.v1 f.v2 f.v3 f.v4 (hup0 W hW).1.mf hok.mz f.dev;rw[hv1,hv2,hv3,hv4]at this;exact this
 have hof:∀W p u1 u2 u3,Below w.heap.size w W->PkAt W W.heap.size p u1 u2 u3->tV p->Calls Tryz.prog 23 #[iU p u1 u2 u3,.agg #[.slice a1 d1 m1,.slice a2 d2 m2,.slice a3 d3 m3,.slice a4 d4 m4]] W fun e w'=>iQ W (iI f.m p) e w':=fun W p u1 u2 u3 hW hp hpz=>by
  have:=Ma W p u1 u2 u3 hp hpz f.m f.v1 f.v2 f.v3 f.v4 (hup0 W hW).1.mf hok.mz;rw[hv1,hv2,hv3,hv4]at this;exact this
 have hget:∀W n u,Below w.heap.size w W->nC (n,u)->Calls Tryz.prog 22 #[.pointer (some ⟨f.s,0,none⟩),.string (bs n),wM u] W fun e w'=>∃u1 u2 u3,e=.returned (.tuple #[iU ((bY f.C (n,u)).getD wP) u1 u2 u3,.bool (bY f.C (n,u)).isSome])/\PkOwn w' W.heap.size ((bY f.C (n,u)).getD wP) u1 u2 u3/\Below W.heap.size W w':=fun W n u hW hk=>zJ W W.heap.size f.s f.b f.C (hup0 W hW).1.cat nL n u hk;have hsnd:ok=true->∀W i x vw,Below w.heap.size w W->Formed g->g[i]? =some x->WtsAt W W.heap.size vw (f.pb.own i x)->Calls Tryz.prog 24 #[.agg #[.slice ga N gc],.int .i64 i,vw,.pointer (some ⟨f.s,0,none⟩),.agg #[.slice a1 d1 m1,.slice a2 d2 m2,.slice a3 d3 m3,.slice a4 d4 m4]] W fun e w'=>Says e (Sound f.pb g i x)/\Below W.heap.size W w':=fun hk W i x vw hW hF hx hvw=>by
  have hzx:=hz x (mG hx);have:=Gv W (.slice ga N gc) g (hup0 W hW).2 hF.few hF i x hx hzx.sz (f.pb.own i x) vw hvw (by have:=(hwl hk i x).1;omega) (fun y hy=>⟨((hwl hk i x).2 y hy).1,((hwl hk i x).2 y hy).2,((hfit hk).own_name i x y hy).2⟩) hzx.cn hzx.en f (hup0 W hW).1 (fun y hy=>(hz y hy).k) hzx.kc (fun y hy=>by have:=(hz y hy).len;omega) rfl hzx.len;rw[hv1,hv2,hv3,hv4]at this;exact this
 have hmay2:∀W,Below w.heap.size w W->Calls Tryz.prog 14 #[.agg #[.slice a1 d1 m1,.slice a2 d2 m2,.slice a3 d3 m3,.slice a4 d4 m4]] W fun e w'=>e=.returned (.bool ok)/\Below W.heap.size W w':=fun W hW=>by
  have:=hmay W hW;rw[hv1,hv2,hv3,hv4]at this;exact this
 obtain⟨wb,hwb⟩:∃y,y=(w.alloc (.cells #[.slice ga N gc] 35)).alloc (.cells #[.slice a1 d1 m1,.slice a2 d2 m2,.slice a3 d3 m3,.slice a4 d4 m4] 25):=⟨_,rfl⟩;have hbb:Below w.heap.size w wb:=by rw[hwb];exact((bR _ w).alloc nL _).alloc (by simp) _
 have hsb:wb.heap.size=w.heap.size+2:=by rw[hwb];simp
 have hbox:∀W,Below wb.heap.size wb W->W.cell? ⟨w.heap.size,0,none⟩=some (.slice ga N gc)/\W.cell? ⟨w.heap.size+1,0,none⟩=some (.slice a1 d1 m1)/\W.cell? ⟨w.heap.size+1,1,none⟩=some (.slice a2 d2 m2)/\W.cell? ⟨w.heap.size+1,2,none⟩=some (.slice a3 d3 m3)/\W.cell? ⟨w.heap.size+1,3,none⟩=some (.slice a4 d4 m4):=fun W hW=>by
  have c1:∀i u,(#[.slice a1 d1 m1,.slice a2 d2 m2,.slice a3 d3 m3,.slice a4 d4 m4]:Array Value)[i]? =some u->W.cell? ⟨w.heap.size+1,i,none⟩=some u:=fun i u hu=>
   (hW.cell (p:=⟨w.heap.size+1,i,none⟩) (by show w.heap.size+1<_;omega)).trans (by rw[hwb];exact aB (by simp) hu)
  exact⟨(hW.cell (p:=⟨w.heap.size,0,none⟩) (by show w.heap.size<_;omega)).trans (by rw[hwb];exact(aD (by simp)).trans (aB rfl rfl)),c1 0 _ rfl,c1 1 _ rfl,c1 2 _ rfl,c1 3 _ rfl⟩
 have hupw:∀W,Below wb.heap.size wb W->Below w.heap.size w W:=fun W hW=>hbb.trans (hW.mono hbb.size);have HBOX:=Hd hbox;have HUW:=Hd hupw;have HWB:=Hd hwb;have HSB:=Hd hsb;have HROOT:=Hd hroot;have HOF:=Hd hof;have HGET:=Hd hget;have HSND:=Hd hsnd;have HMAY:=Hd hmay2;have HN:=Hd hN;have HZ:=Hd hz;have HNDS:=Hd h;have HOK:=Hd hok;rw[hv1,hv2,hv3,hv4];unfold tX;clear hup0 hroot hof hget hsnd hmay2 hmay hbox hupw hwb hbb hN hz h hok hfit hwl hv1 hv2 hv3 hv4 hd1 hd2 hd3 hd4 hsb;go_enter Tryz.func9,Tryz.ntmps9;go_upto_region 1 with fail;rw[<-HWB.out];obtain⟨b0,b1,b2,b3,b4⟩:=HBOX.out wb (bR _ _);go_wp2_with fail;refine(HMAY.out wb (HUW.out wb (bR _ _))).mono ?_;rintro e w1 ⟨rfl,hb1⟩;obtain⟨b0',_⟩:=HBOX.out w1 hb1;have HB1:=Hd hb1;clear b0 b1 b2 b3 b4 hb1;cases ok
 ·go_wp2;go_returns;exact⟨dU.no (by simp) (by decide) rfl,HUW.out _ HB1.out⟩
 go_wp2_with fail;refine(HFORM.out w1 (HUW.out _ HB1.out)).mono ?_;rintro e w2 ⟨⟨bf,rfl,hbf⟩,hb2⟩;have hs1:=HB1.out.size;have HB2:Hid (Below wb.heap.size wb w2):=Hd (HB1.out.trans (hb2.mono hs1));obtain⟨b0'',_⟩:=HBOX.out w2 HB2.out;clear hb2;cases bf
 ·have HF:Hid (¬Formed g):=Hd (fun h=>by have:=hbf.2 h;cases this);clear hbf;go_wp2;go_returns;exact⟨dU.no (fun hc=>HF.out (by first | exact hc.2.formed | exact hc.formed)) (by decide) rfl,HUW.out _ HB2.out⟩
 have HF:Hid (Formed g):=Hd (hbf.1 rfl);clear hbf;go_wp2_with fail;go_loopw [27] (fun p wr=>∃k:Nat,p=.int .i64 k/\k<=N/\(∀(j:Nat) y,j<k->g[j]? =some y->(0<j->bA f.C y.name y.v=true)/\Sound f.pb g j y)/\Below wb.heap.size wb wr) (fun p _=>N-(intOf p).toNat);case atStart=>exact⟨0,rfl,Nat.zero_le _,fun j y h=>absurd h (by omega),HB2.out⟩
 case round=>
  obtain⟨wo,rfl⟩:∃y,y=wr:=⟨wr,rfl⟩;obtain⟨k,rfl,hk,hall,hb⟩:=hrel;have HALL:=Hd hall;have HB:=Hd hb;have hbs:w.heap.size+2<=wo.heap.size:=by have:=hb.size;have:=HSB.out;omega
  clear hall;by_cases hkN:k<N
  ·have hkz:(k:Int)<(N:Int):=by omega
   obtain⟨x,hx⟩:∃x,g[k]? =some x:=⟨_,gE (by rw[<-HN.out];exact hkN)⟩;obtain⟨gb,go,gcap,hve,_,hgb,hat⟩:=HNDS.out.at (by rw[<-HN.out];omega);have hga:ga=some ⟨gb,go,none⟩:=by injection hve
   subst hga;obtain⟨xa,xc,xa2,xc2,_,_,x0,x1,x2,x3,x4,x5⟩:=hat k x hx;obtain⟨XN,hXN⟩:∃n,n=x.ctx.length:=⟨_,rfl⟩;obtain⟨EN,hEN⟩:∃n,n=x.edges.length:=⟨_,rfl⟩;rw[<-hXN]at x4;rw[<-hEN]at x5;have hbw:=HUW.out wo hb;have x0:=(hbw.cell (p:=⟨gb,go+k*6,none⟩) hgb).trans x0;have x1:=(hbw.cell (p:=⟨gb,go+k*6+1,none⟩) hgb).trans x1;have x2:=(hbw.cell (p:=⟨gb,go+k*6+2,none⟩) hgb).trans x2;have x3:=(hbw.cell (p:=⟨gb,go+k*6+3,none⟩) hgb).trans x3;have x4:=(hbw.cell (p:=⟨gb,go+k*6+4,none⟩) hgb).trans x4;have x5:=(hbw.cell (p:=⟨gb,go+k*6+5,none⟩) hgb).trans x5;unfold sv at x0;obtain⟨w3,hw3⟩:∃z,z=wo.alloc (.cells #[.string (bs x.name),.int .i64 x.v.a,.int .i64 x.v.b,.int .i64 x.v.c,.slice xa XN xc,.slice xa2 EN xc2] 57):=⟨_,rfl⟩;have hb3:Below wo.heap.size wo w3:=by rw[hw3];exact(bR _ wo).alloc nL _
   have hz3:w3.heap.size=wo.heap.size+1:=by rw[hw3];exact sA _ _
   have n0:w3.cell? ⟨wo.heap.size,0,none⟩=some (.string (bs x.name)):=by rw[hw3];exact aB rfl rfl
   have n1:w3.cell? ⟨wo.heap.size,1,none⟩=some (.int .i64 x.v.a):=by rw[hw3];exact aB rfl rfl
   have n2:w3.cell? ⟨wo.heap.size,2,none⟩=some (.int .i64 x.v.b):=by rw[hw3];exact aB rfl rfl
   have n3:w3.cell? ⟨wo.heap.size,3,none⟩=some (.int .i64 x.v.c):=by rw[hw3];exact aB rfl rfl
   have HB3:Hid (Below wb.heap.size wb w3):=Hd (HB.out.trans (hb3.mono HB.out.size));obtain⟨_,c1,c2,c3,c4⟩:=HBOX.out w3 HB3.out;have hrt:=HROOT.out w3 (HUW.out w3 HB3.out);have HRT:=Hd hrt;have HX:=Hd hx;have HW3:=Hd hw3;have hz3a:wo.heap.size<w3.heap.size:=by omega
   have HN0:=Hd n0;have HN1:=Hd n1;have HN2:=Hd n2;have HN3:=Hd n3;obtain⟨RN,hRN⟩:∃n,n=(dV f.m f.dev).length:=⟨_,rfl⟩;have HRN:=Hd hRN;clear hrt hx hve hat hXN hEN hbw hw3 hb3 hz3 n0 n1 n2 n3 hRN;go_upto_region 8 with fail;rw[<-HW3.out];go_wp2_with fail;refine HRT.out.mono ?_;rintro e w4 ⟨ta,tc,rfl,hwt,hb4⟩;rw[<-HRN.out]at hwt |-;have HB4:Hid (Below wb.heap.size wb w4):=Hd (HB3.out.trans (hb4.mono HB3.out.size));have hz4:wo.heap.size<w4.heap.size:=by have:=hb4.size;omega
   have n0:=(hb4.cell (p:=⟨wo.heap.size,0,none⟩) hz3a).trans HN0.out;have n1:=(hb4.cell (p:=⟨wo.heap.size,1,none⟩) hz3a).trans HN1.out;have n2:=(hb4.cell (p:=⟨wo.heap.size,2,none⟩) hz3a).trans HN2.out;have n3:=(hb4.cell (p:=⟨wo.heap.size,3,none⟩) hz3a).trans HN3.out;have HWT:=Hd hwt.at;clear hwt hb4 x0 x1 x2 x3 x4 x5 c1 c2 c3 c4;by_cases hk0:k=0
   ·have hk0z:¬(0:Int)<(k:Int):=by omega
    have HK0:=Hd hk0;have hown:WtsAt w4 w4.heap.size (.slice ta RN tc) (f.pb.own k x):=by
     have e:f.pb.own k x=dV f.m f.dev:=by rw[hk0];rfl
     rw[e];exact HWT.out
    have HOW:=Hd hown;clear hown n0 n1 n2 n3 hk0;have hsn:=HSND.out (by trivial) w4 k x (.slice ta RN tc) (HUW.out _ HB4.out) HF.out HX.out HOW.out;obtain⟨m0,m1',m2',m3',m4'⟩:=HBOX.out w4 HB4.out;have HSN:=Hd hsn;clear hsn;go_wp2_with fail;refine HSN.out.mono ?_;rintro e w9 ⟨⟨sb,rfl,hsb⟩,hb9⟩;have HB9:Hid (Below wb.heap.size wb w9):=Hd (HB4.out.trans (hb9.mono HB4.out.size));have HSS:=Hd hsb;clear hsb hb9;cases sb
    ·have HNS:Hid (¬Checks f.pb (bA f.C) g):=Hd (fun hc=>by have:=HSS.out.2 (hc.sound k x HX.out);cases this);go_wp2;go_returns;exact⟨dU.no (fun hc=>HNS.out (by first | exact hc.2 | exact hc)) (by decide) rfl,HUW.out _ HB9.out⟩
    ·have HNX:Hid (∀(j:Nat) y,j<k+1->g[j]? =some y->(0<j->bA f.C y.name y.v=true)/\Sound f.pb g j y):=Hd (fun j y hj hy=>by
      rcases Nat.lt_or_ge j k with h1 | h1
      ·exact HALL.out j y h1 hy
      ·have:j=k:=by omega
       subst this;rw[HX.out]at hy;cases hy;exact⟨fun h=>absurd h (by have:=HK0.out;omega),HSS.out.1 rfl⟩)
     go_wp2;go_roundw;case rel=>exact⟨k+1,by go_num,by omega,HNX.out,HB9.out⟩
     case measure=>simp[intOf];omega
   ·have hk0z:(0:Int)<(k:Int):=by omega
    have HK0:=Hd hk0;obtain⟨pp,hpp⟩:∃pp,pp=(bY f.C (x.name,x.v)).getD wP:=⟨_,rfl⟩;obtain⟨fd,hfd⟩:∃fd,fd=(bY f.C (x.name,x.v)).isSome:=⟨_,rfl⟩;have hgt:=HGET.out w4 x.name x.v (HUW.out w4 HB4.out) (HZ.out x (mG HX.out)).k;rw[<-hpp,<-hfd]at hgt;unfold wM at hgt;have HGT:=Hd hgt;have HPP:=Hd hpp;have HFD:=Hd hfd;clear hgt hpp hfd hk0;go_wp2_with fail;refine HGT.out.mono ?_;rintro e w5 ⟨u1,u2,u3,rfl,ho5,hb5⟩;obtain⟨cs1,o1⟩:=ho5.deps;obtain⟨cs2,o2⟩:=ho5.peers;obtain⟨cs3,o3⟩:=ho5.opts;obtain⟨y1,q1,rfl⟩:=aC o1.row;obtain⟨y2,q2,rfl⟩:=aC o2.row;obtain⟨y3,q3,rfl⟩:=aC o3.row;obtain⟨E1,hE1⟩:∃x,x=pp.deps.length:=⟨_,rfl⟩;obtain⟨E2,hE2⟩:∃x,x=pp.peers.length:=⟨_,rfl⟩;obtain⟨E3,hE3⟩:∃x,x=pp.opts.length:=⟨_,rfl⟩;rw[<-hE1,<-hE2,<-hE3]at ho5 |-;unfold iU sv;obtain⟨w6,hw6⟩:∃z,z=w5.alloc (.cells #[.string (bs pp.name),.int .i64 pp.v.a,.int .i64 pp.v.b,.int .i64 pp.v.c,.slice y1 E1 q1,.slice y2 E2 q2,.slice y3 E3 q3] 52):=⟨_,rfl⟩
    have hb56:Below w5.heap.size w5 w6:=by rw[hw6];exact(bR _ w5).alloc nL _
    have HB6:Hid (Below wb.heap.size wb w6):=Hd (HB4.out.trans ((hb5.trans (hb56.mono hb5.size)).mono HB4.out.size));have HPA:=Hd ((ho5.at.below hb56 nL).mono hb56.size);have HW6:=Hd hw6;have p0:w6.cell? ⟨w5.heap.size,0,none⟩=some (.string (bs pp.name)):=by rw[hw6];exact aB rfl rfl
    have p1:w6.cell? ⟨w5.heap.size,1,none⟩=some (.int .i64 pp.v.a):=by rw[hw6];exact aB rfl rfl
    have p2:w6.cell? ⟨w5.heap.size,2,none⟩=some (.int .i64 pp.v.b):=by rw[hw6];exact aB rfl rfl
    have p3:w6.cell? ⟨w5.heap.size,3,none⟩=some (.int .i64 pp.v.c):=by rw[hw6];exact aB rfl rfl
    have p4:w6.cell? ⟨w5.heap.size,4,none⟩=some (.slice y1 E1 q1):=by rw[hw6];exact aB rfl rfl
    have p5:w6.cell? ⟨w5.heap.size,5,none⟩=some (.slice y2 E2 q2):=by rw[hw6];exact aB rfl rfl
    have p6:w6.cell? ⟨w5.heap.size,6,none⟩=some (.slice y3 E3 q3):=by rw[hw6];exact aB rfl rfl
    obtain⟨_,c1,c2,c3,c4⟩:=HBOX.out w6 HB6.out;clear o1 o2 o3 hE1 hE2 hE3 ho5 hb5 hb56 hw6 n0 n1 n2 n3;go_upto_region 11 with fail;rw[<-HW6.out];cases fd
    ·have HNS:Hid (¬Checks f.pb (bA f.C) g):=Hd (fun hc=>by
      have h1:=hc.has k x HX.out (by have:=HK0.out;omega);have h2:=HFD.out;unfold bA at h1;rw[h1]at h2;cases h2)
     go_wp2;go_returns;exact⟨dU.no (fun hc=>HNS.out (by first | exact hc.2 | exact hc)) (by decide) rfl,HUW.out _ HB6.out⟩
    ·have hppm:pp∈f.C:=by
      have h1:=HFD.out;have h2:=HPP.out;cases hg:bY f.C (x.name,x.v)with
      | none=>rw[hg]at h1;cases h1
      | some p=>rw[hg]at h2;rw[h2];exact(dH hg).1
     have hofp:=HOF.out w6 pp _ _ _ (HUW.out w6 HB6.out) HPA.out (HOK.out.pz pp hppm);unfold iU sv at hofp;have HOFP:=Hd hofp;obtain⟨ON,hON⟩:∃n,n=(iI f.m pp).length:=⟨_,rfl⟩;have HON:=Hd hON;clear hofp hppm hON;go_wp2_with fail;refine HOFP.out.mono ?_;rintro e w7 ⟨tb,td,rfl,hwt7,hb7⟩;rw[<-HON.out]at hwt7 |-;have HB7:Hid (Below wb.heap.size wb w7):=Hd (HB6.out.trans (hb7.mono HB6.out.size));have hown:WtsAt w7 w7.heap.size (.slice tb ON td) (f.pb.own k x):=by
      have e:f.pb.own k x=iI f.m pp:=by
       show(if k=0 then _ else _)=_;rw[if_neg HK0.out,HPP.out]
      rw[e];exact hwt7.at
     have HOW:=Hd hown;have HHAS:Hid (bA f.C x.name x.v=true):=Hd HFD.out.symm;clear hown hwt7 hb7 p0 p1 p2 p3 p4 p5 p6 c1 c2 c3 c4;have hsn:=HSND.out (by trivial) w7 k x (.slice tb ON td) (HUW.out _ HB7.out) HF.out HX.out HOW.out;obtain⟨m0,m1',m2',m3',m4'⟩:=HBOX.out w7 HB7.out;have HSN:=Hd hsn;clear hsn;go_wp2_with fail;refine HSN.out.mono ?_;rintro e w9 ⟨⟨sb,rfl,hsb⟩,hb9⟩;have HB9:Hid (Below wb.heap.size wb w9):=Hd (HB7.out.trans (hb9.mono HB7.out.size));have HSS:=Hd hsb;clear hsb hb9;cases sb
     ·have HNS:Hid (¬Checks f.pb (bA f.C) g):=Hd (fun hc=>by have:=HSS.out.2 (hc.sound k x HX.out);cases this);go_wp2;go_returns;exact⟨dU.no (fun hc=>HNS.out (by first | exact hc.2 | exact hc)) (by decide) rfl,HUW.out _ HB9.out⟩
     ·have HNX:Hid (∀(j:Nat) y,j<k+1->g[j]? =some y->(0<j->bA f.C y.name y.v=true)/\Sound f.pb g j y):=Hd (fun j y hj hy=>by
       rcases Nat.lt_or_ge j k with h1 | h1
       ·exact HALL.out j y h1 hy
       ·have:j=k:=by omega
        subst this;rw[HX.out]at hy;cases hy;exact⟨fun _=>HHAS.out,HSS.out.1 rfl⟩)
      go_wp2;go_roundw;case rel=>exact⟨k+1,by go_num,by omega,HNX.out,HB9.out⟩
      case measure=>simp[intOf];omega
  ·have hkz:¬(k:Int)<(N:Int):=by omega
   have HC:Hid (Checks f.pb (bA f.C) g):=Hd ⟨HF.out,fun i x hx h0=>(HALL.out i x (by have:=(gS hx).1;have:=HN.out;omega) hx).1 h0,fun i x hx=>(HALL.out i x (by have:=(gS hx).1;have:=HN.out;omega) hx).2⟩;clear hb;go_wp2;go_returns;exact⟨dU.yes (by first | exact⟨rfl,HC.out⟩ | exact HC.out) rfl,HUW.out _ HB.out⟩
end
section
open Top
theorem Cq(w:World)(p:Pk)(d1 d2 d3:Value)(h:PkAt w w.heap.size p d1 d2 d3)(hz:qZ 1048576 p):
 Calls Tryz.prog 29 #[iU p d1 d2 d3] w fun e w'=>e=.returned (.bool (bJ p))/\Below w.heap.size w w':=by
 have HI:=Hd hz;obtain⟨hin,hi1,hi2,hi3⟩:=hz;obtain⟨a1,c1,e1⟩:=h.deps.form;obtain⟨a2,c2,e2⟩:=h.peers.form;obtain⟨a3,c3,e3⟩:=h.opts.form;obtain⟨n1,hn1⟩:∃n,n=p.deps.length:=⟨_,rfl⟩;obtain⟨n2,hn2⟩:∃n,n=p.peers.length:=⟨_,rfl⟩;obtain⟨n3,hn3⟩:∃n,n=p.opts.length:=⟨_,rfl⟩;rw[<-hn1]at e1;rw[<-hn2]at e2;rw[<-hn3]at e3;subst e1 e2 e3;obtain⟨nm,hnm⟩:∃t,t=p.name:=⟨_,rfl⟩;obtain⟨va,hva⟩:∃t,t=p.v.a:=⟨_,rfl⟩;obtain⟨vb,hvb⟩:∃t,t=p.v.b:=⟨_,rfl⟩;obtain⟨vc,hvc⟩:∃t,t=p.v.c:=⟨_,rfl⟩;obtain⟨b0,hb0⟩:∃b,b=Scan.dG p.name:=⟨_,rfl⟩;obtain⟨b1,hb1⟩:∃b,b=p.v.may:=⟨_,rfl⟩;obtain⟨b2,hb2⟩:∃b,b=bU p.deps:=⟨_,rfl⟩;obtain⟨b3,hb3⟩:∃b,b=bU p.peers:=⟨_,rfl⟩;obtain⟨b4,hb4⟩:∃b,b=bU p.opts:=⟨_,rfl⟩;have hns:(bs nm).size<=9223372036854775807:=by rw[eT,hnm];omega
 have HH:=Hd h;have HLS1:Hid (b2=true->LsOk p.deps):=Hd (fun e=>eH (by rw[<-hb2];exact e));have HLS2:Hid (b3=true->LsOk p.peers):=Hd (fun e=>eH (by rw[<-hb3];exact e));have HLS3:Hid (b4=true->LsOk p.opts):=Hd (fun e=>eH (by rw[<-hb4];exact e));have HNL:Hid (b0=true->p.name.length<=16):=Hd (fun e=>(jH (by rw[<-hb0];exact e)).2);obtain⟨T,hT⟩:∃t,t=sM p:=⟨_,rfl⟩;have HN:Hid (∀W,Calls Tryz.prog 61 #[.string (bs nm)] W fun e w'=>e=.returned (.bool b0)/\Below W.heap.size W w'):=Hd (fun W=>by
  rw[hb0,<-hnm];exact(xE (bs nm) hns W).mono fun e w2 h=>⟨h.1,by rw[h.2];exact bR _ _⟩)
 have HV:Hid (∀W,Calls Tryz.prog 62 #[.agg #[.int .i64 va,.int .i64 vb,.int .i64 vc]] W fun e w'=>e=.returned (.bool b1)/\Below W.heap.size W w'):=Hd (fun W=>by
  rw[hb1,hva,hvb,hvc];exact VL.jE p.v.a p.v.b p.v.c W)
 have HL1:Hid (∀W,Below w.heap.size w W->Calls Tryz.prog 63 #[.slice a1 n1 c1] W fun e w'=>e=.returned (.bool b2)/\Below W.heap.size W w'):=Hd (fun W hW=>by
  rw[hb2];exact oP W _ p.deps ((h.deps.below hW nL).mono hW.size) (fun d hd=>⟨by have:=(hi1.2 d hd).1;omega,by have:=(hi1.2 d hd).2;omega⟩) (by have:=hi1.1;omega))
 have HL2:Hid (∀W,Below w.heap.size w W->Calls Tryz.prog 63 #[.slice a2 n2 c2] W fun e w'=>e=.returned (.bool b3)/\Below W.heap.size W w'):=Hd (fun W hW=>by
  rw[hb3];exact oP W _ p.peers ((h.peers.below hW nL).mono hW.size) (fun d hd=>⟨by have:=(hi2.2 d hd).1;omega,by have:=(hi2.2 d hd).2;omega⟩) (by have:=hi2.1;omega))
 have HL3:Hid (∀W,Below w.heap.size w W->Calls Tryz.prog 63 #[.slice a3 n3 c3] W fun e w'=>e=.returned (.bool b4)/\Below W.heap.size W w'):=Hd (fun W hW=>by
  rw[hb4];exact oP W _ p.opts ((h.opts.below hW nL).mono hW.size) (fun d hd=>⟨by have:=(hi3.2 d hd).1;omega,by have:=(hi3.2 d hd).2;omega⟩) (by have:=hi3.1;omega))
 unfold iU sv;rw[<-hnm,<-hva,<-hvb,<-hvc];obtain⟨wb,hwb⟩:∃y,y=w.alloc (.cells #[.string (bs nm),.int .i64 va,.int .i64 vb,.int .i64 vc,.slice a1 n1 c1,.slice a2 n2 c2,.slice a3 n3 c3] 52):=⟨_,rfl⟩;have hbb:Below w.heap.size w wb:=by rw[hwb];exact(bR _ _).alloc nL _
 have hzb:wb.heap.size=w.heap.size+1:=by rw[hwb];exact Array.size_push ..
 have HCELL:Hid (∀W,Below wb.heap.size wb W->W.cell? ⟨w.heap.size,0,none⟩=some (.string (bs nm))/\W.cell? ⟨w.heap.size,1,none⟩=some (.int .i64 va)/\W.cell? ⟨w.heap.size,2,none⟩=some (.int .i64 vb)/\W.cell? ⟨w.heap.size,3,none⟩=some (.int .i64 vc)/\W.cell? ⟨w.heap.size,4,none⟩=some (.slice a1 n1 c1)/\W.cell? ⟨w.heap.size,5,none⟩=some (.slice a2 n2 c2)/\W.cell? ⟨w.heap.size,6,none⟩=some (.slice a3 n3 c3)):=Hd (fun W hW=>by
  have h1:W.heap[w.heap.size]? =some (.cells #[.string (bs nm),.int .i64 va,.int .i64 vb,.int .i64 vc,.slice a1 n1 c1,.slice a2 n2 c2,.slice a3 n3 c3] 52 (0,0)):=by rw[hW.block _ (by omega),hwb];exact heap_alloc_new w _
  refine⟨?_,?_,?_,?_,?_,?_,?_⟩<;>(unfold World.cell?;rw[h1];rfl))
 have HWB:=Hd hwb;have HBB:=Hd hbb;have K0:=Hd (HCELL.out wb (bR _ _));clear hwb;have HX0:Hid (Below wb.heap.size wb wb):=Hd (bR _ _);obtain⟨q0,q1,q2,q3,q4,q5,q6⟩:=K0.out;have HB0:=Hd hb0;have HB1:=Hd hb1;have HB2:=Hd hb2;have HB3:=Hd hb3;have HB4:=Hd hb4;have HT:=Hd hT;have HNMV:=Hd (And.intro hnm (And.intro hva (And.intro hvb hvc)));clear h hzb hbb hi1 hi2 hi3 hin hb0 hb1 hb2 hb3 hb4 hT hn1 hn2 hn3 hnm hva hvb hvc;go_enter Tryz.func29,Tryz.ntmps29;go_upto_region 1 with fail;rw[<-HWB.out];go_wp2_with fail;refine(HN.out _).mono ?_;rintro e w1 ⟨rfl,hb9⟩;have HXw1:Hid (Below wb.heap.size wb w1):=Hd ((HX0.out).trans (hb9.mono (HX0.out).size));clear hb9 q0 q1 q2 q3 q4 q5 q6;obtain⟨q0,q1,q2,q3,q4,q5,q6⟩:=HCELL.out w1 HXw1.out;cases b0
 ·have HOK:Hid (bJ p=false):=Hd (by unfold bJ;rw[<-HB0.out];(try simp only[Bool.true_and,Bool.false_and,Bool.and_true,Bool.and_false]));go_wp2;go_returns;exact⟨by rw[HOK.out];rfl,HBB.out.trans ((HXw1.out).mono HBB.out.size)⟩
 go_wp2_with fail;refine(HV.out _).mono ?_;rintro e w2 ⟨rfl,hb9⟩;have HXw2:Hid (Below wb.heap.size wb w2):=Hd ((HXw1.out).trans (hb9.mono (HXw1.out).size));clear hb9 q0 q1 q2 q3 q4 q5 q6;obtain⟨q0,q1,q2,q3,q4,q5,q6⟩:=HCELL.out w2 HXw2.out;cases b1
 ·have HOK:Hid (bJ p=false):=Hd (by unfold bJ;rw[<-HB0.out,<-HB1.out];(try simp only[Bool.true_and,Bool.false_and,Bool.and_true,Bool.and_false]));go_wp2;go_returns;exact⟨by rw[HOK.out];rfl,HBB.out.trans ((HXw2.out).mono HBB.out.size)⟩
 go_wp2_with fail;refine(HL1.out _ (HBB.out.trans ((HXw2.out).mono HBB.out.size))).mono ?_;rintro e w3 ⟨rfl,hb9⟩;have HXw3:Hid (Below wb.heap.size wb w3):=Hd ((HXw2.out).trans (hb9.mono (HXw2.out).size));clear hb9 q0 q1 q2 q3 q4 q5 q6;obtain⟨q0,q1,q2,q3,q4,q5,q6⟩:=HCELL.out w3 HXw3.out;cases b2
 ·have HOK:Hid (bJ p=false):=Hd (by unfold bJ;rw[<-HB0.out,<-HB1.out,<-HB2.out];(try simp only[Bool.true_and,Bool.false_and,Bool.and_true,Bool.and_false]));go_wp2;go_returns;exact⟨by rw[HOK.out];rfl,HBB.out.trans ((HXw3.out).mono HBB.out.size)⟩
 go_wp2_with fail;refine(HL2.out _ (HBB.out.trans ((HXw3.out).mono HBB.out.size))).mono ?_;rintro e w4 ⟨rfl,hb9⟩;have HXw4:Hid (Below wb.heap.size wb w4):=Hd ((HXw3.out).trans (hb9.mono (HXw3.out).size));clear hb9 q0 q1 q2 q3 q4 q5 q6;obtain⟨q0,q1,q2,q3,q4,q5,q6⟩:=HCELL.out w4 HXw4.out;cases b3
 ·have HOK:Hid (bJ p=false):=Hd (by unfold bJ;rw[<-HB0.out,<-HB1.out,<-HB2.out,<-HB3.out];(try simp only[Bool.true_and,Bool.false_and,Bool.and_true,Bool.and_false]));go_wp2;go_returns;exact⟨by rw[HOK.out];rfl,HBB.out.trans ((HXw4.out).mono HBB.out.size)⟩
 go_wp2_with fail;refine(HL3.out _ (HBB.out.trans ((HXw4.out).mono HBB.out.size))).mono ?_;rintro e w5 ⟨rfl,hb9⟩;have HXw5:Hid (Below wb.heap.size wb w5):=Hd ((HXw4.out).trans (hb9.mono (HXw4.out).size));clear hb9 q0 q1 q2 q3 q4 q5 q6;obtain⟨q0,q1,q2,q3,q4,q5,q6⟩:=HCELL.out w5 HXw5.out;cases b4
 ·have HOK:Hid (bJ p=false):=Hd (by unfold bJ;rw[<-HB0.out,<-HB1.out,<-HB2.out,<-HB3.out,<-HB4.out];(try simp only[Bool.true_and,Bool.false_and,Bool.and_true,Bool.and_false]));go_wp2;go_returns;exact⟨by rw[HOK.out];rfl,HBB.out.trans ((HXw5.out).mono HBB.out.size)⟩
 have hs1:=HLS1.out (by simp);have hs2:=HLS2.out (by simp);have hs3:=HLS3.out (by simp);obtain⟨b5,hb5⟩:∃b,b=pF p.deps p.peers:=⟨_,rfl⟩;obtain⟨b6,hb6⟩:∃b,b=pF p.deps p.opts:=⟨_,rfl⟩;obtain⟨b7,hb7⟩:∃b,b=pF p.peers p.opts:=⟨_,rfl⟩;have HAD:Hid (jJ [p.deps,p.peers,p.opts]=(b5&&(b6&&b7))):=Hd (by rw[hb5,hb6,hb7];exact Er HB2.out.symm HB3.out.symm HB4.out.symm);have HB5:=Hd hb5;have HB6:=Hd hb6;have HB7:=Hd hb7;clear hb5 hb6 hb7;have HA1:Hid (∀W,Below w.heap.size w W->Calls Tryz.prog 64 #[.slice a1 n1 c1,.slice a2 n2 c2] W fun e w'=>e=.returned (.bool b5)/\Below W.heap.size W w'):=Hd (fun W hW=>by
  rw[HB5.out];refine(oQ W _ _ p.deps p.peers ((HH.out.deps.below hW nL).mono hW.size) ((HH.out.peers.below hW nL).mono hW.size) (by have:=HI.out.2.1.1;omega) (by have:=HI.out.2.2.1.1;omega)).mono ?_;rintro e w' ⟨h1,m,rfl⟩;exact⟨h1,VL.below_drewN (bR _ _) m⟩)
 have HA2:Hid (∀W,Below w.heap.size w W->Calls Tryz.prog 64 #[.slice a1 n1 c1,.slice a3 n3 c3] W fun e w'=>e=.returned (.bool b6)/\Below W.heap.size W w'):=Hd (fun W hW=>by
  rw[HB6.out];refine(oQ W _ _ p.deps p.opts ((HH.out.deps.below hW nL).mono hW.size) ((HH.out.opts.below hW nL).mono hW.size) (by have:=HI.out.2.1.1;omega) (by have:=HI.out.2.2.2.1;omega)).mono ?_;rintro e w' ⟨h1,m,rfl⟩;exact⟨h1,VL.below_drewN (bR _ _) m⟩)
 have HA3:Hid (∀W,Below w.heap.size w W->Calls Tryz.prog 64 #[.slice a2 n2 c2,.slice a3 n3 c3] W fun e w'=>e=.returned (.bool b7)/\Below W.heap.size W w'):=Hd (fun W hW=>by
  rw[HB7.out];refine(oQ W _ _ p.peers p.opts ((HH.out.peers.below hW nL).mono hW.size) ((HH.out.opts.below hW nL).mono hW.size) (by have:=HI.out.2.2.1.1;omega) (by have:=HI.out.2.2.2.1;omega)).mono ?_;rintro e w' ⟨h1,m,rfl⟩;exact⟨h1,VL.below_drewN (bR _ _) m⟩)
 have HTX:Hid (∀W,Below w.heap.size w W->Calls Tryz.prog 65 #[.agg #[.string (bs nm),.int .i64 va,.int .i64 vb,.int .i64 vc,.slice a1 n1 c1,.slice a2 n2 c2,.slice a3 n3 c3]] W fun e w'=>e=.returned (.string (bs T))/\Below W.heap.size W w'):=Hd (fun W hW=>by
  rw[HT.out];have:=Gy W p _ _ _ ((HH.out.below hW nL).mono hW.size) (HNL.out (by simp)) ⟨hs1,hs2,hs3⟩;unfold iU sv at this;rw[<-HNMV.out.1,<-HNMV.out.2.1,<-HNMV.out.2.2.1,<-HNMV.out.2.2.2]at this;exact this)
 clear hs1 hs2 hs3;go_wp2_with fail;refine(HA1.out _ (HBB.out.trans ((HXw5.out).mono HBB.out.size))).mono ?_;rintro e w6 ⟨rfl,hb9⟩;have HXw6:Hid (Below wb.heap.size wb w6):=Hd ((HXw5.out).trans (hb9.mono (HXw5.out).size));clear hb9 q0 q1 q2 q3 q4 q5 q6;obtain⟨q0,q1,q2,q3,q4,q5,q6⟩:=HCELL.out w6 HXw6.out;cases b5
 ·have HOK:Hid (bJ p=false):=Hd (by unfold bJ;rw[<-HB0.out,<-HB1.out,<-HB2.out,<-HB3.out,<-HB4.out,HAD.out];(try simp only[Bool.true_and,Bool.false_and,Bool.and_true,Bool.and_false]));go_wp2;go_returns;exact⟨by rw[HOK.out];rfl,HBB.out.trans ((HXw6.out).mono HBB.out.size)⟩
 go_wp2_with fail;refine(HA2.out _ (HBB.out.trans ((HXw6.out).mono HBB.out.size))).mono ?_;rintro e w7 ⟨rfl,hb9⟩;have HXw7:Hid (Below wb.heap.size wb w7):=Hd ((HXw6.out).trans (hb9.mono (HXw6.out).size));clear hb9 q0 q1 q2 q3 q4 q5 q6;obtain⟨q0,q1,q2,q3,q4,q5,q6⟩:=HCELL.out w7 HXw7.out;cases b6
 ·have HOK:Hid (bJ p=false):=Hd (by unfold bJ;rw[<-HB0.out,<-HB1.out,<-HB2.out,<-HB3.out,<-HB4.out,HAD.out];(try simp only[Bool.true_and,Bool.false_and,Bool.and_true,Bool.and_false]));go_wp2;go_returns;exact⟨by rw[HOK.out];rfl,HBB.out.trans ((HXw7.out).mono HBB.out.size)⟩
 go_wp2_with fail;refine(HA3.out _ (HBB.out.trans ((HXw7.out).mono HBB.out.size))).mono ?_;rintro e w8 ⟨rfl,hb9⟩;have HXw8:Hid (Below wb.heap.size wb w8):=Hd ((HXw7.out).trans (hb9.mono (HXw7.out).size));clear hb9 q0 q1 q2 q3 q4 q5 q6;obtain⟨q0,q1,q2,q3,q4,q5,q6⟩:=HCELL.out w8 HXw8.out;cases b7
 ·have HOK:Hid (bJ p=false):=Hd (by unfold bJ;rw[<-HB0.out,<-HB1.out,<-HB2.out,<-HB3.out,<-HB4.out,HAD.out];(try simp only[Bool.true_and,Bool.false_and,Bool.and_true,Bool.and_false]));go_wp2;go_returns;exact⟨by rw[HOK.out];rfl,HBB.out.trans ((HXw8.out).mono HBB.out.size)⟩
 go_wp2_with fail;refine(HTX.out _ (HBB.out.trans ((HXw8.out).mono HBB.out.size))).mono ?_;rintro e w9 ⟨rfl,hb9⟩;have HXw9:Hid (Below wb.heap.size wb w9):=Hd ((HXw8.out).trans (hb9.mono (HXw8.out).size));clear hb9 q0 q1 q2 q3 q4 q5 q6;obtain⟨q0,q1,q2,q3,q4,q5,q6⟩:=HCELL.out w9 HXw9.out;have HOK:Hid (bJ p=decide (T.length<=4096)):=Hd (by unfold bJ;rw[<-HB0.out,<-HB1.out,<-HB2.out,<-HB3.out,<-HB4.out,HAD.out,<-HT.out];(try simp only[Bool.true_and,Bool.false_and,Bool.and_true,Bool.and_false]));go_wp2;go_returns;exact⟨by rw[HOK.out,eT];(try simp only[Nat.cast_le]);(try congr 2);(try simp);(try omega),HBB.out.trans ((HXw9.out).mono HBB.out.size)⟩
end
section
open Go.RowKit Go.Maps Go.WideMaps
open Top
namespace Top
theorem iN{a:Int}(h:0<=a/\a<=999):(Lit.int .i64 a).wf=true:=by
 have h1:IntKind.i64.min<=a:=Int.le_trans (by decide:IntKind.i64.min<=0) h.1;have h2:a<=IntKind.i64.max:=Int.le_trans h.2 (by decide:(999:Int)<=IntKind.i64.max);show(decide (IntKind.i64.min<=a)&&decide (a<=IntKind.i64.max))=true;rw[decide_eq_true h1,decide_eq_true h2];rfl
theorem uY{p:Pk}(h:bJ p=true):nC p.key:=by
 have h16:=(gQ h).2.2.2;unfold bJ at h;simp only[Bool.and_eq_true]at h;have hv:=h.2.1;unfold Ve.may VL.V.may at hv;simp only[Bool.and_eq_true,decide_eq_true_eq]at hv;have h1:p.key.1.length<=maxLen:=by
  show p.name.length<=maxLen;have:16<=maxLen:=by decide
  omega
 exact mK h1 (iN (a:=p.v.a) (by omega)) (iN (a:=p.v.b) (by omega)) (iN (a:=p.v.c) (by omega))
theorem LsOk.lz{l:List Dp}(h:LsOk l):Qy l:=⟨by have:=h.len;omega,fun d hd=>by have:=(h.at_ d hd).2.2.2;omega⟩
theorem Ff{p:Pk}(h:bJ p=true):Om p:=⟨(gQ h).1.lz,(gQ h).2.1.lz,(gQ h).2.2.1.lz⟩
theorem Mr{C:List Pk}{n:List UInt8}{v:Ve}:bA C n v=(bY C (n,v)).isSome:=rfl
end Top
theorem Oy(w:World)(s b:Nat)(C:List Pk)(h:CatN w w.heap.size s b C)(p:Pk)(d1 d2 d3:Value)(hpw:VL.bS w)(hp:PkAt w w.heap.size p d1 d2 d3)(hz:qZ 1048576 p):
 Calls Tryz.prog 12 #[.pointer (some ⟨s,0,none⟩),iU p d1 d2 d3] w fun e w'=>e=.returned (.int .i64 (dX C p:Nat))/\CatN w' w'.heap.size s b (eQ C p)/\Below b w w'/\∀k,k<w.heap.size->k≠b->w'.heap[k]? =w.heap[k]?:=by
 obtain⟨a1,c1,e1⟩:=hp.deps.form;obtain⟨a2,c2,e2⟩:=hp.peers.form;obtain⟨a3,c3,e3⟩:=hp.opts.form;obtain⟨n1,hn1⟩:=ex (p.deps.length);obtain⟨n2,hn2⟩:=ex (p.peers.length);obtain⟨n3,hn3⟩:=ex (p.opts.length);rw[<-hn1]at e1;rw[<-hn2]at e2;rw[<-hn3]at e3;subst e1 e2 e3;obtain⟨nm,hnm⟩:=ex (p.name);obtain⟨va,hva⟩:=ex (p.v.a);obtain⟨vb,hvb⟩:=ex (p.v.b);obtain⟨vc,hvc⟩:=ex (p.v.c);have hkey:p.key=(nm,⟨va,vb,vc⟩):=by rw[hnm,hva,hvb,hvc];rfl
 have HKEY:=Hd hkey;obtain⟨ok,hok⟩:=ex (bJ p);have HOK:=Hd hok;have HH:=Hd hp;have HC:=Hd h;have HN1:=Hd hn1;have HN2:=Hd hn2;have HN3:=Hd hn3;have HNM:=Hd hnm.symm;have HVA:=Hd hva.symm;have HVB:=Hd hvb.symm;have HVC:=Hd hvc.symm;have HMAY:Hid (∀W,Below w.heap.size w W->Calls Tryz.prog 27 #[.agg #[.string (bs nm),.int .i64 va,.int .i64 vb,.int .i64 vc,.slice a1 n1 c1,.slice a2 n2 c2,.slice a3 n3 c3]] W fun e w'=>e=.returned (.bool ok)/\Below W.heap.size W w'):=Hd (fun W hW=>by
  rw[hok];have:=Hu W p _ _ _ (hpw.below hW nL) ((hp.below hW nL).mono hW.size) hz;unfold iU sv at this;rw[<-hnm,<-hva,<-hvb,<-hvc]at this;exact this)
 have HCPY:Hid (ok=true->∀W,Below w.heap.size w W->Calls Tryz.prog 28 #[.agg #[.string (bs nm),.int .i64 va,.int .i64 vb,.int .i64 vc,.slice a1 n1 c1,.slice a2 n2 c2,.slice a3 n3 c3]] W fun e w'=>∃u1 u2 u3,e=.returned (iU p u1 u2 u3)/\PkOwn w' W.heap.size p u1 u2 u3/\Below W.heap.size W w'):=Hd (fun he W hW=>by
  have:=vR W p _ _ _ ((hp.below hW nL).mono hW.size) (Ff (by rw[<-hok];exact he));rw[show iU p (.slice a1 n1 c1) (.slice a2 n2 c2) (.slice a3 n3 c3)=.agg #[.string (bs nm),.int .i64 va,.int .i64 vb,.int .i64 vc,.slice a1 n1 c1,.slice a2 n2 c2,.slice a3 n3 c3] by unfold iU sv;rw[hnm,hva,hvb,hvc]]at this;exact this)
 obtain⟨L,hm,he⟩:=h.ents;obtain⟨n,hn⟩:=ex (C.length);rw[<-hn]at hm;have hn128:n<=128:=by rw[hn];exact h.size
 have hLn:L.length=n:=by rw[hn];exact he.len
 have hsw:=h.sB;have hbw:=h.bB;have hcell:=h.cell;obtain⟨es,clk,hmap⟩:=hm.isMap;have hsb:s≠b:=fun e=>by
  subst e;unfold World.cell? at hcell;rw[hmap]at hcell;simp at hcell
 have HM:=Hd hm;have HE:=Hd he;have HSB:=Hd hsb;have HNC:=Hd hn;have HSWS:=Hd hsw;have HBWS:=Hd hbw;have HMAP:=Hd hmap;have HKOK:Hid (ok=true->nC (nm,⟨va,vb,vc⟩)):=Hd (fun e=>by rw[<-hkey];exact uY (by rw[<-hok];exact e));unfold iU sv;rw[<-hnm,<-hva,<-hvb,<-hvc];obtain⟨wb,hwb⟩:=ex (w.alloc (.cells #[.string (bs nm),.int .i64 va,.int .i64 vb,.int .i64 vc,.slice a1 n1 c1,.slice a2 n2 c2,.slice a3 n3 c3] 52));have hbb:Below w.heap.size w wb:=by rw[hwb];exact(bR _ _).alloc nL _
 have hzb:wb.heap.size=w.heap.size+1:=by rw[hwb];exact Array.size_push ..
 have HCELL:Hid (∀W,Below wb.heap.size wb W->W.cell? ⟨w.heap.size,0,none⟩=some (.string (bs nm))/\W.cell? ⟨w.heap.size,1,none⟩=some (.int .i64 va)/\W.cell? ⟨w.heap.size,2,none⟩=some (.int .i64 vb)/\W.cell? ⟨w.heap.size,3,none⟩=some (.int .i64 vc)/\W.cell? ⟨w.heap.size,4,none⟩=some (.slice a1 n1 c1)/\W.cell? ⟨w.heap.size,5,none⟩=some (.slice a2 n2 c2)/\W.cell? ⟨w.heap.size,6,none⟩=some (.slice a3 n3 c3)):=Hd (fun W hW=>by
  have h1:W.heap[w.heap.size]? =some (.cells #[.string (bs nm),.int .i64 va,.int .i64 vb,.int .i64 vc,.slice a1 n1 c1,.slice a2 n2 c2,.slice a3 n3 c3] 52 (0,0)):=by rw[hW.block _ (by omega),hwb];exact heap_alloc_new w _
  refine⟨?_,?_,?_,?_,?_,?_,?_⟩<;>(unfold World.cell?;rw[h1];rfl))
 have HWB:=Hd hwb;have HBB:=Hd hbb;have K0:=Hd (HCELL.out wb (bR _ _));clear hwb;have HUP:Hid (∀W,Below wb.heap.size wb W->Below w.heap.size w W):=Hd (fun W hW=>HBB.out.trans (hW.mono HBB.out.size));have HSK:Hid (∀W,Below w.heap.size w W->W.cell? ⟨s,0,none⟩=some (.map (some b))/\CMap W b n L):=Hd (fun W hW=>⟨(hW.cell (p:=⟨s,0,none⟩) hsw).trans hcell,hm.below hW hbw⟩);have HEND:Hid (∀W,Below w.heap.size w W->eQ C p=C->CatN W W.heap.size s b (eQ C p)/\Below b w W/\∀k,k<w.heap.size->k≠b->W.heap[k]? =w.heap[k]?):=Hd (fun W hW e=>⟨by rw[e];exact HC.out.up hW,hW.mono (Nat.le_of_lt hbw),fun k hk _=>hW.block k hk⟩);have HX0:Hid (Below wb.heap.size wb wb):=Hd (bR _ _);obtain⟨q0,q1,q2,q3,q4,q5,q6⟩:=K0.out;clear h hp hz hpw hm he hn hsw hbw hcell hmap hsb hkey hok hn1 hn2 hn3 hnm hva hvb hvc hbb hzb;go_enter Tryz.func12,Tryz.ntmps12
 go_upto_region 1 with fail;rw[<-HWB.out];go_wp2_with fail;refine(HMAY.out _ HBB.out).mono ?_;rintro e w1 ⟨rfl,hb9⟩;have HX1:Hid (Below wb.heap.size wb w1):=Hd (HX0.out.trans hb9);clear hb9 q0 q1 q2 q3 q4 q5 q6;obtain⟨q0,q1,q2,q3,q4,q5,q6⟩:=HCELL.out w1 HX1.out;cases ok
 ·have hE:dX C p=24:=by unfold dX;rw[<-HOK.out];rfl
  have HR:Hid ((dX C p=24)/\eQ C p=C):=Hd ⟨hE,by unfold eQ;rw[hE];rfl⟩;clear hE;go_wp2;go_returns;exact⟨by rw[HR.out.1];rfl,HEND.out _ (HUP.out _ HX1.out) HR.out.2⟩
 have hko:=HKOK.out (by simp);obtain⟨pv,hpv⟩:=ex ((Top.look L (nm,⟨va,vb,vc⟩)).getD (.agg #[.string ByteArray.empty,.int .i64 0,.int .i64 0,.int .i64 0,.slice none 0 0,.slice none 0 0,.slice none 0 0]));obtain⟨fd,hfd⟩:=ex ((Top.look L (nm,⟨va,vb,vc⟩)).isSome);have hEX:∃(qn:List UInt8) (qa qb qc:Int) (x1:Option Addr) (D1 k1:Nat) (x2:Option Addr) (D2 k2:Nat) (x3:Option Addr) (D3 k3:Nat),pv=.agg #[.string (bs qn),.int .i64 qa,.int .i64 qb,.int .i64 qc,.slice x1 D1 k1,.slice x2 D2 k2,.slice x3 D3 k3]/\(bY C (nm,⟨va,vb,vc⟩)).isSome=fd:=by
  rcases HE.out.look (nm,⟨va,vb,vc⟩)with⟨q,d1,d2,d3,h1,h2,h3⟩ | ⟨h1,h2⟩
  ·obtain⟨x1,k1,q1⟩:=h3.deps.form;obtain⟨x2,k2,q2⟩:=h3.peers.form;obtain⟨x3,k3,q3⟩:=h3.opts.form;exact⟨q.name,q.v.a,q.v.b,q.v.c,x1,_,k1,x2,_,k2,x3,_,k3,by rw[hpv,h2,q1,q2,q3];rfl,by rw[hfd,h1,h2];rfl⟩
  ·exact⟨[],0,0,0,none,0,0,none,0,0,none,0,0,by rw[hpv,h2];rfl,by rw[hfd,h1,h2];rfl⟩
 obtain⟨qn,qa,qb,qc,x1,D1,k1,x2,D2,k2,x3,D3,k3,hpv',hfd'⟩:=hEX;have HLOOK:Hid (∀w',CMap w' b n L->(Instr.lookup 84 (.map (some b)) (.agg #[.string (bs nm),.int .i64 va,.int .i64 vb,.int .i64 vc]) true).run Tryz.prog w'=.ok (.tuple #[.agg #[.string (bs qn),.int .i64 qa,.int .i64 qb,.int .i64 qc,.slice x1 D1 k1,.slice x2 D2 k2,.slice x3 D3 k3],.bool fd]) w'):=Hd (fun w' hw'=>by
  have:=hw'.run_ok (t:=84) (e:=52) Tryz.underlying84 (.agg #[.string ByteArray.empty,.int .i64 0,.int .i64 0,.int .i64 0,.slice none 0 0,.slice none 0 0,.slice none 0 0]) (by kernel_rfl) (nm,⟨va,vb,vc⟩) hko;rw[<-hpv,<-hfd,hpv']at this;exact this)
 have HFD:Hid (bA C p.name p.v=fd):=Hd (by
  rw[<-hfd'];have hk:=HKEY.out;unfold Pk.key at hk;rw[Mr,hk])
 have HLN0:Hid (fd=false->Top.look L (nm,⟨va,vb,vc⟩)=none):=Hd (fun e=>by
  rw[hfd]at e;cases hl:Top.look L (nm,⟨va,vb,vc⟩)with
  | none=>rfl
  | some z=>rw[hl]at e;simp at e)
 have HKO:=Hd hko;clear hko hpv hfd hpv' hfd';obtain⟨w2,hw2⟩:=ex (w1.alloc (.cells #[.string (bs nm),.int .i64 va,.int .i64 vb,.int .i64 vc] 89));obtain⟨kb,hkb⟩:=ex (w1.heap.size);have hb2:Below w1.heap.size w1 w2:=by rw[hw2];exact(bR _ _).alloc nL _
 have HX2:Hid (Below wb.heap.size wb w2):=Hd (HX1.out.trans (hb2.mono HX1.out.size));have HKC:Hid (∀W,Below w2.heap.size w2 W->W.cell? ⟨kb,0,none⟩=some (.string (bs nm))/\W.cell? ⟨kb,1,none⟩=some (.int .i64 va)/\W.cell? ⟨kb,2,none⟩=some (.int .i64 vb)/\W.cell? ⟨kb,3,none⟩=some (.int .i64 vc)):=Hd (fun W hW=>by
  have h1:W.heap[kb]? =some (.cells #[.string (bs nm),.int .i64 va,.int .i64 vb,.int .i64 vc] 89 (0,0)):=by rw[hW.block _ (by rw[hw2,hkb];simp),hw2,hkb];exact heap_alloc_new w1 _
  refine⟨?_,?_,?_,?_⟩<;>(unfold World.cell?;rw[h1];rfl))
 have HW2:=Hd hw2;have HKB:=Hd hkb;have HS4:Hid (∀W,Below w2.heap.size w2 W->W.cell? ⟨s,0,none⟩=some (.map (some b))/\W.cell? ⟨kb,0,none⟩=some (.string (bs nm))/\W.cell? ⟨kb,1,none⟩=some (.int .i64 va)/\W.cell? ⟨kb,2,none⟩=some (.int .i64 vb)/\W.cell? ⟨kb,3,none⟩=some (.int .i64 vc)/\CMap W b n L):=Hd (fun W hW=>by
  obtain⟨r1,r2⟩:=HSK.out W (HUP.out _ (HX2.out.trans (hW.mono HX2.out.size)));obtain⟨t0,t1,t2,t3⟩:=HKC.out W hW;exact⟨r1,t0,t1,t2,t3,r2⟩)
 have K4:=Hd (HS4.out w2.drew (bR _ w2).drew);have KD:Hid (∀ob,(w2.drew.alloc ob).cell? ⟨s,0,none⟩=some (.map (some b))/\(w2.drew.alloc ob).cell? ⟨kb,0,none⟩=some (.string (bs nm))/\(w2.drew.alloc ob).cell? ⟨kb,1,none⟩=some (.int .i64 va)/\(w2.drew.alloc ob).cell? ⟨kb,2,none⟩=some (.int .i64 vb)/\(w2.drew.alloc ob).cell? ⟨kb,3,none⟩=some (.int .i64 vc)/\CMap (w2.drew.alloc ob) b n L):=Hd (fun ob=>HS4.out _ ((bR _ w2).drew.alloc nL ob));clear hw2 hkb hb2;go_upto_region 4 with fail;rw[<-HW2.out,<-HKB.out];clear q0 q1 q2 q3 q4 q5 q6;refine rG (fun w'=>w'.cell? ⟨s,0,none⟩=some (.map (some b))/\w'.cell? ⟨kb,0,none⟩=some (.string (bs nm))/\w'.cell? ⟨kb,1,none⟩=some (.int .i64 va)/\w'.cell? ⟨kb,2,none⟩=some (.int .i64 vb)/\w'.cell? ⟨kb,3,none⟩=some (.int .i64 vc)/\CMap w' b n L) K4.out fun hU=>?_;refine aM [0,1,2,3,4] ?_;refine wpAnyH_take (i:=5) (v:=?va62) rfl (by kernel_rfl) (by kernel_rfl) (by kernel_rfl) (fun _ _ _ h=>h) (Or.inl ⟨by kernel_rfl,?hya62⟩) (by assumption) ?resta62
 case hya62=>intro w hSw;(try dsimp only at hSw);have hl:=HLOOK.out w hSw.2.2.2.2.2;clear hSw;go_simp;(try rw[hl]);(try with_reducible rfl)
 refine aM [6,7,8] ?_;refine rd 9 fun K hK=>?_;go_simp;refine hK.out _ _ (KD.out _) fun hU=>?_;clear hK K;try simp only[lay]
 refine rd 10 fun K hK=>?_;go_simp;refine hK.out _ _ (KD.out _) fun hU=>?_;clear hK K;refine aM [11] ?_;refine dN ?_;obtain⟨w3,hw3⟩:=ex ((w2.alloc (.cells #[.string (bs qn),.int .i64 qa,.int .i64 qb,.int .i64 qc,.slice x1 D1 k1,.slice x2 D2 k2,.slice x3 D3 k3] 52)).drew);rw[<-hw3];have HB3:Hid (Below w2.heap.size w2 w3):=Hd (by rw[hw3];exact((bR _ _).alloc nL _).drew);have HX3:Hid (Below wb.heap.size wb w3):=Hd (HX2.out.trans (HB3.out.mono HX2.out.size));clear hw3;cases fd
 ·obtain⟨r1,r2⟩:=HSK.out w3 (HUP.out _ HX3.out);have HM3:=Hd r2;have hlen:∀ty,(Builtin.len_ #[84] ty #[.map (some b)]).run Tryz.prog w3=.ok (.int .i64 n) w3:=fun ty=>by
   have:=HM3.out.run_len (t:=84) (e:=52) Tryz.underlying84 ty;rw[hLn]at this;exact this
  clear r2;by_cases hfull:128<=n
  ·have hE:dX C p=26:=by unfold dX;rw[<-HOK.out,HFD.out,<-HNC.out,if_neg (by decide),if_neg (by decide),if_pos hfull]
   have HR:Hid ((dX C p=26)/\eQ C p=C):=Hd ⟨hE,by unfold eQ;rw[hE];rfl⟩;have hg:(128:Int)<=(n:Int):=by omega
   clear hE;go_wp2;go_returns;exact⟨by rw[HR.out.1];rfl,HEND.out _ (HUP.out _ HX3.out) HR.out.2⟩
  ·have hE:dX C p=0:=by unfold dX;rw[<-HOK.out,HFD.out,<-HNC.out,if_neg (by decide),if_neg (by decide),if_neg hfull]
   have HR:Hid ((dX C p=0)/\eQ C p=p::C):=Hd ⟨hE,by unfold eQ;rw[hE];rfl⟩;have hg:¬(128:Int)<=(n:Int):=by omega
   have HLN:=Hd (HLN0.out (by simp));have HNL:Hid (n<maxLen):=Hd (by have:128<maxLen:=(by decide);omega);have HBW3:Hid (b<w3.heap.size):=Hd (by have:=(HUP.out _ HX3.out).size;have:=HBWS.out;omega);have HKC3:Hid (∀W,Below w3.heap.size w3 W->W.cell? ⟨s,0,none⟩=some (.map (some b))/\(W.cell? ⟨kb,0,none⟩=some (.string (bs nm))/\W.cell? ⟨kb,1,none⟩=some (.int .i64 va)/\W.cell? ⟨kb,2,none⟩=some (.int .i64 vb)/\W.cell? ⟨kb,3,none⟩=some (.int .i64 vc))/\(W.cell? ⟨w.heap.size,0,none⟩=some (.string (bs nm))/\W.cell? ⟨w.heap.size,1,none⟩=some (.int .i64 va)/\W.cell? ⟨w.heap.size,2,none⟩=some (.int .i64 vb)/\W.cell? ⟨w.heap.size,3,none⟩=some (.int .i64 vc)/\W.cell? ⟨w.heap.size,4,none⟩=some (.slice a1 n1 c1)/\W.cell? ⟨w.heap.size,5,none⟩=some (.slice a2 n2 c2)/\W.cell? ⟨w.heap.size,6,none⟩=some (.slice a3 n3 c3))):=Hd (fun W hW=>by
    have hW2:Below w2.heap.size w2 W:=HB3.out.trans (hW.mono HB3.out.size);have hWb:Below wb.heap.size wb W:=HX3.out.trans (hW.mono HX3.out.size);exact⟨(HSK.out W (HUP.out _ hWb)).1,HKC.out W hW2,HCELL.out W hWb⟩)
   have HS9:Hid (∀W,Below w3.heap.size w3 W->W.cell? ⟨s,0,none⟩=some (.map (some b))/\(W.cell? ⟨kb,0,none⟩=some (.string (bs nm))/\W.cell? ⟨kb,1,none⟩=some (.int .i64 va)/\W.cell? ⟨kb,2,none⟩=some (.int .i64 vb)/\W.cell? ⟨kb,3,none⟩=some (.int .i64 vc))/\(W.cell? ⟨w.heap.size,0,none⟩=some (.string (bs nm))/\W.cell? ⟨w.heap.size,1,none⟩=some (.int .i64 va)/\W.cell? ⟨w.heap.size,2,none⟩=some (.int .i64 vb)/\W.cell? ⟨w.heap.size,3,none⟩=some (.int .i64 vc)/\W.cell? ⟨w.heap.size,4,none⟩=some (.slice a1 n1 c1)/\W.cell? ⟨w.heap.size,5,none⟩=some (.slice a2 n2 c2)/\W.cell? ⟨w.heap.size,6,none⟩=some (.slice a3 n3 c3))):=HKC3;have HKB3:Hid (kb<w3.heap.size/\w.heap.size<w3.heap.size/\s<w.heap.size/\b<w.heap.size/\w.heap.size<=kb):=Hd (by
    have h1:=lt_of_cell (HS9.out w3 (bR _ _)).2.1.1;have h2:=lt_of_cell (HS9.out w3 (bR _ _)).2.2.1;have h3:=(HUP.out _ HX1.out).size;refine⟨h1,h2,HSWS.out,HBWS.out,by rw[HKB.out];exact h3⟩)
   have HS9G:Hid (∀W W',Below w3.heap.size w3 W->W.grownBy W' (some b)->W'.cell? ⟨s,0,none⟩=some (.map (some b))/\(W'.cell? ⟨kb,0,none⟩=some (.string (bs nm))/\W'.cell? ⟨kb,1,none⟩=some (.int .i64 va)/\W'.cell? ⟨kb,2,none⟩=some (.int .i64 vb)/\W'.cell? ⟨kb,3,none⟩=some (.int .i64 vc))/\(W'.cell? ⟨w.heap.size,0,none⟩=some (.string (bs nm))/\W'.cell? ⟨w.heap.size,1,none⟩=some (.int .i64 va)/\W'.cell? ⟨w.heap.size,2,none⟩=some (.int .i64 vb)/\W'.cell? ⟨w.heap.size,3,none⟩=some (.int .i64 vc)/\W'.cell? ⟨w.heap.size,4,none⟩=some (.slice a1 n1 c1)/\W'.cell? ⟨w.heap.size,5,none⟩=some (.slice a2 n2 c2)/\W'.cell? ⟨w.heap.size,6,none⟩=some (.slice a3 n3 c3))):=Hd (fun W W' hW hG=>by
    obtain⟨t0,⟨t1,t2,t3,t4⟩,t5,t6,t7,t8,t9,t10,t11⟩:=HS9.out W hW;obtain⟨l1,l2,l3,l4,l5⟩:=HKB3.out;have hsz:=hW.size;have up:∀k j v,k<W.heap.size->k≠b->W.cell? ⟨k,j,none⟩=some v->W'.cell? ⟨k,j,none⟩=some v:=fun k j v h1 h2 h3=>(World.cell?_of_block (a:=⟨k,j,none⟩) (hG.block k h1 fun e=>h2 (Option.some.inj e))).trans h3
    exact⟨up _ _ _ (by omega) HSB.out t0,⟨up _ _ _ (by omega) (by omega) t1,up _ _ _ (by omega) (by omega) t2,up _ _ _ (by omega) (by omega) t3,up _ _ _ (by omega) (by omega) t4⟩,
     up _ _ _ (by omega) (by omega) t5,up _ _ _ (by omega) (by omega) t6,up _ _ _ (by omega) (by omega) t7,up _ _ _ (by omega) (by omega) t8,up _ _ _ (by omega) (by omega) t9,up _ _ _ (by omega) (by omega) t10,up _ _ _ (by omega) (by omega) t11⟩)
   have K9:=Hd (HS9.out w3 (bR _ _));have HCP:Hid (∀W,Below w3.heap.size w3 W->Calls Tryz.prog 28 #[.agg #[.string (bs nm),.int .i64 va,.int .i64 vb,.int .i64 vc,.slice a1 n1 c1,.slice a2 n2 c2,.slice a3 n3 c3]] W fun e w'=>∃u1 u2 u3,e=.returned (iU p u1 u2 u3)/\PkOwn w' W.heap.size p u1 u2 u3/\Below W.heap.size W w'):=Hd (fun W hW=>HCPY.out (by simp) W (HUP.out _ (HX3.out.trans (hW.mono HX3.out.size))));clear hE;go_upto_region 9 with fail;refine rG (fun w'=>w'.cell? ⟨s,0,none⟩=some (.map (some b))/\(w'.cell? ⟨kb,0,none⟩=some (.string (bs nm))/\w'.cell? ⟨kb,1,none⟩=some (.int .i64 va)/\w'.cell? ⟨kb,2,none⟩=some (.int .i64 vb)/\w'.cell? ⟨kb,3,none⟩=some (.int .i64 vc))/\(w'.cell? ⟨w.heap.size,0,none⟩=some (.string (bs nm))/\w'.cell? ⟨w.heap.size,1,none⟩=some (.int .i64 va)/\w'.cell? ⟨w.heap.size,2,none⟩=some (.int .i64 vb)/\w'.cell? ⟨w.heap.size,3,none⟩=some (.int .i64 vc)/\w'.cell? ⟨w.heap.size,4,none⟩=some (.slice a1 n1 c1)/\w'.cell? ⟨w.heap.size,5,none⟩=some (.slice a2 n2 c2)/\w'.cell? ⟨w.heap.size,6,none⟩=some (.slice a3 n3 c3))) K9.out fun hU=>?_
   refine aM [0,1,2,3,4,5] ?_;refine rd 6 fun K hK=>?_;go_simp;go_at_call 28;refine(HCP.out _ (bR _ w3).drew).mono ?_;rintro e w4 ⟨u1,u2,u3,rfl,ho,hb4⟩;obtain⟨y1,m1,rfl⟩:∃a c,u1=.slice a n1 c:=by
    rw[HN1.out];exact aC ho.deps.choose_spec.row
   obtain⟨y2,m2,rfl⟩:∃a c,u2=.slice a n2 c:=by
    rw[HN2.out];exact aC ho.peers.choose_spec.row
   obtain⟨y3,m3,rfl⟩:∃a c,u3=.slice a n3 c:=by
    rw[HN3.out];exact aC ho.opts.choose_spec.row
   have HB4:Hid (Below w3.heap.size w3 w4):=Hd ((bR _ w3).drew.trans hb4);have HO:=Hd ho;have k9:=HS9.out w4 HB4.out;clear hb4 ho;unfold iU sv;rw[HNM.out,HVA.out,HVB.out,HVC.out];refine hK.out _ _ k9 fun hU=>?_;clear hK K;(try simp only[lay]);obtain⟨w5,hru,hm5,hg5⟩:=(HM3.out.below HB4.out HBW3.out).run_put (t:=84) (e:=52) Tryz.underlying84 HNL.out (nm,⟨va,vb,vc⟩) HKO.out HLN.out (.agg #[.string (bs nm),.int .i64 va,.int .i64 vb,.int .i64 vc,.slice y1 n1 m1,.slice y2 n2 m2,.slice y3 n3 m3]);have hru':(Instr.mapUpdate 84 (.map (some b)) (.agg #[.string (bs nm),.int .i64 va,.int .i64 vb,.int .i64 vc]) (.agg #[.string (bs nm),.int .i64 va,.int .i64 vb,.int .i64 vc,.slice y1 n1 m1,.slice y2 n2 m2,.slice y3 n3 m3])).run Tryz.prog w4=.ok () w5:=hru;have HM5:=Hd hm5;have HG5:=Hd hg5;have k9':=HS9G.out w4 w5 HB4.out hg5;clear hm5 hg5 hru;refine rd 7 fun K hK=>?_
   go_simp;refine hK.out _ _ k9' fun hU=>?_;clear hK K;(try simp only[lay]);refine dN ?_;clear k9 k9' hU;go_wp2;go_returns;have hb4:=HUP.out _ (HX3.out.trans (HB4.out.mono HX3.out.size));have hg5:=HG5.out;have hm4:=HM3.out.below HB4.out HBW3.out;obtain⟨es4,clk4,hmap4⟩:=hm4.isMap;have hsz4:=hb4.size;have hsz5:=hg5.size;have hlB:=HBWS.out;have hlS:=HSWS.out;refine⟨by rw[HR.out.1];rfl,?_,?_,fun k hk hne=>?_⟩
   ·rw[HR.out.2];have hpok:bJ p=true:=HOK.out.symm;have hkk:=HKEY.out;have hents:Ents w5 w5.heap.size (((nm,⟨va,vb,vc⟩),.agg #[.string (bs nm),.int .i64 va,.int .i64 vb,.int .i64 vc,.slice y1 n1 m1,.slice y2 n2 m2,.slice y3 n3 m3])::L) (p::C):=by
     have h1:PkAt w5 w5.heap.size p (.slice y1 n1 m1) (.slice y2 n2 m2) (.slice y3 n3 m3):=((HO.out.at).grown hg5 hmap4).mono hsz5;have h2:Ents w5 w5.heap.size L C:=(((HE.out.under hb4 nL).mono hsz4).grown hg5 hmap4).mono hsz5;have h3:=Ents.cons h1 h2;unfold iU sv at h3;rw[hkk,HNM.out,HVA.out,HVB.out,HVC.out]at h3;exact h3
    refine⟨?_,⟨_,?_,hents⟩,by omega,by omega,?_,fun q hq=>?_⟩
    ·exact(World.cell?_of_block (a:=⟨s,0,none⟩) (hg5.block s (by omega) fun e=>HSB.out (Option.some.inj e))).trans (HSK.out _ hb4).1
    ·rw[lC,<-HNC.out];exact HM5.out
    ·rw[lC,<-HNC.out];omega
    ·rcases List.mem_cons.1 hq with rfl | hq
     ·exact⟨Ff hpok,uY hpok⟩
     ·exact HC.out.pks q hq
   ·exact(hb4.mono (Nat.le_of_lt hlB)).grown hg5 (by omega) (fun k hk=>by cases hk;exact nL)
   ·rw[hg5.block k (by omega) fun e=>hne (Option.some.inj e)];exact hb4.block k hk
 ·have hE:dX C p=11:=by unfold dX;rw[<-HOK.out,HFD.out];rfl
  have HR:Hid ((dX C p=11)/\eQ C p=C):=Hd ⟨hE,by unfold eQ;rw[hE];rfl⟩;clear hE;go_wp2;go_returns;exact⟨by rw[HR.out.1];rfl,HEND.out _ (HUP.out _ HX3.out) HR.out.2⟩
end
section
open VL
namespace Top
theorem Ends.last{P:Pb}{has:List UInt8->Ve->Bool}(F:P.Fits has){lim most:Nat}(hm:most<=128){pt:Pt}{s:St}{d:Nat}{r:Res}(h:Ends P lim most pt s d r):Inv P has most s->nE P pt s->∀g n,r=.ok g n->∃s',Inv P has most s'/\s'.k=s'.nodes.length/\g=s'.graph:=by
 induction h with
 | push s d r w hw h ih=>
  intro hI ⟨hk,hf,hp⟩;have hlt:=(gS hw).1;refine ih (hI.push hk hw) ⟨hk,fun i hi nd hnd=>?_,fun pre x hx=>?_⟩
  ·have hik:i<s.k:=hi;show(kS (s.stack++[aK P s.k s.cur.ctx w]) i).length=_;rw[dM,(bV P s.k s.cur.ctx w).1,if_neg (by omega),List.append_nil];exact hf i hik nd hnd
  ·obtain⟨rfl,rfl⟩:=cK hx;exact⟨(bV P s.k s.cur.ctx w).1,hp⟩
 | bad s d r hl hb h ih=>
  intro hI ⟨hk,hf,hp⟩;exact ih hI ⟨hk,fun y hy i hi=>hf i (by have:=hI.sk y hy;omega),hp⟩
 | many s d hl hb=>intro _ _ g n e;cases e
 | done s d nodes es hl hb hkn=>
  intro hI ⟨hk,hf,hp⟩ g n e;cases e;obtain⟨hI',_,_⟩:=hI.bind F hk hl hp hb;have hk':(s.bind nodes es).k=(s.bind nodes es).nodes.length:=by
   show(s.ahead++[s.nodes.length]).length=nodes.length;rw[lA,List.length_singleton];exact hkn
  exact⟨_,hI',hk',rfl⟩
 | on s d r nodes es hl hb hkn h ih=>
  intro hI ⟨hk,hf,hp⟩;obtain⟨hI',hfull,hold⟩:=hI.bind F hk hl hp hb;have hlen:=(mY hb).1;have hk1:(s.bind nodes es).k=s.k+1:=by
   show(s.ahead++[s.nodes.length]).length=_;rw[lA,List.length_singleton];rfl
  refine ih hI' ⟨?_,fun i hi nd hnd=>?_,hp⟩
  ·rw[hk1];show s.k+1<nodes.length;omega
  ·rw[hk1]at hi;have hin:i<s.nodes.length:=by omega
   have hnd':nodes[i]? =some nd:=hnd;rw[hold i _ (gE hin)]at hnd';by_cases hik:i<s.k
   ·exact hf i hik nd (by rw[gE hin];exact hnd')
   ·have:i=s.k:=by omega
    subst this;exact hfull nd (by rw[gE hin];exact hnd')
 | budget s pre x hs hx=>intro _ _ g n e;cases e
 | take s d r pre x hs hx hd h ih=>
  intro hI ⟨hk,hf,hp⟩;refine ih hI ⟨hk,hf,fun y hy=>?_⟩;rw[hs]at hy;rcases List.mem_append.1 hy with hy | hy
  ·exact(hp pre x hs).2 y hy
  ·simp only[mI]at hy;subst hy;exact hx
 | pop s d r pre x hs hx h ih=>
  intro hI ⟨hk,hf,hp⟩;obtain⟨p1,p2⟩:=hp pre x hs;refine ih (hI.pop hs) ⟨hk,fun y hy i hi nd hnd=>?_,p2⟩;have hyk:=hI.sk y (by rw[hs];exact List.mem_append_left _ hy);have:=hf i (by omega) nd hnd;rw[hs,dM,if_neg (by omega),List.append_nil]at this;exact this
 | unsat s d hs=>intro _ _ g n e;cases e
 | back s d r pre x hs h ih=>
  intro hI ha;exact ih (hI.again hs) (nE.again hI ha hs)
theorem Ends.codes{P:Pb}{lim most:Nat}{pt:Pt}{s:St}{d:Nat}{r:Res}(h:Ends P lim most pt s d r):∀c,r=.err c->c=30\/c=31\/c=32:=by
 induction h with
 | push s d r w hw h ih=>exact ih
 | bad s d r hl hb h ih=>exact ih
 | many s d hl hb=>intro c e;cases e;exact .inr (.inr rfl)
 | done s d nodes es hl hb hkn=>intro c e;cases e
 | on s d r nodes es hl hb hkn h ih=>exact ih
 | budget s pre x hs hx=>intro c e;cases e;exact .inr (.inl rfl)
 | take s d r pre x hs hx hd h ih=>exact ih
 | pop s d r pre x hs hx h ih=>exact ih
 | unsat s d hs=>intro c e;cases e;exact .inl rfl
 | back s d r pre x hs h ih=>exact ih
theorem Va.start{P:Pb}{has:List UInt8->Ve->Bool}{g:List Nd}(C:Checks P has g):Va g St.start:=by
 refine⟨fun y hy=>by simp[St.start]at hy,fun nd hnd=>?_⟩;simp only[St.start,mI]at hnd;subst hnd;have h1:=C.formed.some';have hX:g[0]? =some (g[0]'(by omega)):=gE (by omega);obtain⟨a,b,c⟩:=C.formed.root _ hX;exact⟨0,_,hX,same_iff.2 ⟨a.symm,b.symm,c.symm⟩⟩
theorem uC{C:List Pk}(hC:∀p∈C,bJ p=true){n:List UInt8}{v:Ve}(h:bA C n v=true):nC (n,v)/\n.length<=16:=by
 obtain⟨p,hp,e⟩:=mO.1 h;have h1:=uY (hC p hp);have h2:=(gQ (hC p hp)).2.2.2;rw[e]at h1;unfold Pk.key at e;injection e with e1 e2
 rw[<-e1];exact⟨by rw[e1];exact h1,h2⟩
theorem zX:nC ([],v0):=mK (by simp) (iN (by decide)) (iN (by decide)) (iN (by decide))
theorem Mk{C:List Pk}{m:Mf}{dev:Bool}{pins:List Pn}{most:Nat}{s:St}(hC:∀p∈C,bJ p=true)(hl:C.length<=128)(h:Inv (gY C m dev pins) (bA C) most s)(hk:s.k=s.nodes.length):∀x∈s.graph,NdFit x:=fun x hx=>by
 have hm16:16<=maxLen:=by decide
 obtain⟨i,hi,rfl⟩:=eI.1 hx;obtain⟨nd,es,h1,h2,e⟩:=fK (by rw[h.bd,hk]) (gE hi);rw[e];obtain⟨c1,c2⟩:=h.ctx_has h1;obtain⟨env,hb⟩:=h.bnd i es nd h2 h1;have key:∀q∈env,bA C q.name q.v=true:=fun q hq=>by
  obtain⟨t,ht,rfl⟩:=eI.1 hq;obtain⟨j',y,g1,g2,g3,g4,g5,g6,g7⟩:=hb.edge t _ (gE ht);obtain⟨_,_,g8,_⟩:=h.ok j' y g2 g4;rw[g5,g6]at g8;exact g8
 have hcl:=uB c1 c2;have hel:=uB (aX _ hb.rises) key;have hlen:=hb.len;refine⟨⟨by show nd.ctx.length<=_;omega,by show es.length<=_;omega⟩,?_,fun p hp=>(uC hC (c2 p hp)).1,by show nd.ctx.length+es.length<=_;omega,fun p hp=>by have:=(uC hC (c2 p hp)).2;omega,fun e he=>?_⟩
 ·rcases Nat.eq_zero_or_pos i with h0 | h0
  ·subst h0;rw[h.n0]at h1;cases h1;exact zX
  ·obtain⟨_,_,g8,_⟩:=h.ok i nd h0 h1;exact(uC hC g8).1
 ·obtain⟨t,ht,rfl⟩:=eI.1 he;have hte:t<env.length:=by rw[<-hlen];exact ht
  obtain⟨j',y,g1,_⟩:=hb.edge t _ (gE hte);rw[gE ht]at g1;injection g1 with g1
  rw[g1];have:=(uC hC (key _ (List.getElem_mem hte))).2;show(env[t]).name.length<=maxLen;omega
theorem Sz{n:Nat}(hn:n<=1048576){x:Nd}(h:Opp.zO n x):NdFit x:=by
 obtain⟨h1,h2,h3,h4,h5,h6⟩:=h;have hm:1048576<=maxLen:=by decide
 refine⟨⟨by omega,by omega⟩,mK (n:=x.name) (v:=x.v) (by omega) h6.1 h6.2.1 h6.2.2,fun p hp=>?_,by omega,fun p hp=>by have:=(h4 p hp).1;omega,fun e he=>by have:=h5 e he;omega⟩;obtain⟨a,b1,b2,b3⟩:=h4 p hp;exact mK (n:=p.name) (v:=p.v) (by omega) b1 b2 b3
namespace Lives
theorem okM:gH M=true:=by kernel_rfl
theorem cat:aY [pA,pB]=C:=by kernel_rfl
end Lives
end Top
end
end Go.Proofs.YtcohlmdnahdnaaaGreatDoor
