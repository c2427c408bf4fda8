/- A search is run, from its start to its end: the program's walk. -/
import Derived.Test.YtcohlmdnahdnaaaGreatDoorZRs14
import Derived.Test.YtcohlmdnahdnaaaGreatDoorZTl1
namespace Go.Proofs.YtcohlmdnahdnaaaGreatDoor
open Go.RowKit
set_option linter.unusedVariables false
set_option linter.unusedSimpArgs false
set_option maxHeartbeats 16000000
set_option maxRecDepth 100000
section
open Top
theorem Ou(w:World)(f:Fx)(hok:FxOk w w.heap.size f)(lD lN l3 l4:Int)(ok:Bool)(hfine:ok=true->Fine f.C f.m)(hwl:ok=true->∀k nd,(f.pb.own k nd).length<=1000)(hwr:ok=true->∀k nd,∀x∈f.pb.own k nd,x.rg.length<=1000000)
 (hmay:∀W,Below w.heap.size w W->Calls Tryz.prog 14 #[tX f.v1 f.v2 f.v3 f.v4] W fun e w'=>e=.returned (.bool ok)/\Below W.heap.size W w'):
 Calls Tryz.prog 7 #[.pointer (some ⟨f.s,0,none⟩),tX f.v1 f.v2 f.v3 f.v4,.bool f.dev,f.vp,.agg #[.int .i64 lD,.int .i64 lN,.int .i64 l3,.int .i64 l4]] w fun e w'=>Below w.heap.size w w'/\if ok=true/\1<=lD/\lD<=4096/\1<=lN/\lN<=128 then∃r,Top.Ends f.pb lD.toNat lN.toNat .next St.start 0 r/\kV r e w' else kV (.err 1) e w':=by
 obtain⟨a1,m1,hv1⟩:=hok.mf.deps.form;obtain⟨a2,m2,hv2⟩:=hok.mf.dev.form;obtain⟨a3,m3,hv3⟩:=hok.mf.opts.form;obtain⟨a4,m4,hv4⟩:=hok.mf.over.form;obtain⟨ap,cp,hvp⟩:=RowZ.form hok.pn;obtain⟨d1,hd1⟩:∃n,n=f.m.deps.length:=⟨_,rfl⟩;obtain⟨d2,hd2⟩:∃n,n=f.m.dev.length:=⟨_,rfl⟩;obtain⟨d3,hd3⟩:∃n,n=f.m.opts.length:=⟨_,rfl⟩;obtain⟨d4,hd4⟩:∃n,n=f.m.over.length:=⟨_,rfl⟩;obtain⟨dp,hdp⟩:∃n,n=(f.pins.map aG).length:=⟨_,rfl⟩;rw[<-hd1]at hv1;rw[<-hd2]at hv2;rw[<-hd3]at hv3;rw[<-hd4]at hv4;rw[<-hdp]at hvp;obtain⟨fs,fb,fv1,fv2,fv3,fv4,fvp,fC,fm,fdev,fpins⟩:=f;dsimp only at hv1 hv2 hv3 hv4 hvp;subst hv1 hv2 hv3 hv4 hvp;obtain⟨f,hf⟩:∃f,f=(⟨fs,fb,.slice a1 d1 m1,.slice a2 d2 m2,.slice a3 d3 m3,.slice a4 d4 m4,.slice ap dp cp,fC,fm,fdev,fpins⟩:Fx):=⟨_,rfl⟩;rw[<-hf]at hok hfine hwl hwr hmay |-
 have HOK:=Hd hok;have HFINE:=Hd hfine;have HWL:=Hd hwl;have HWR:=Hd hwr;have hmay2:∀W,Below w.heap.size w W->Calls Tryz.prog 14 #[.agg #[.slice a1 d1 m1,.slice a2 d2 m2,.slice a3 d3 m3,.slice a4 d4 m4]] W fun e w'=>e=.returned (.bool ok)/\Below W.heap.size W w':=fun W hW=>by
  have:=hmay W hW;rw[hf]at this;exact this
 have HMAY:=Hd hmay2;have HF:=Hd hf;have hg:∀x:Value,True:=fun _=>trivial;show Calls Tryz.prog 7 _ w fun e w'=>_;have hargs:(#[.pointer (some ⟨f.s,0,none⟩),tX f.v1 f.v2 f.v3 f.v4,.bool f.dev,f.vp,.agg #[.int .i64 lD,.int .i64 lN,.int .i64 l3,.int .i64 l4]]:Array Value)=#[.pointer (some ⟨fs,0,none⟩),.agg #[.slice a1 d1 m1,.slice a2 d2 m2,.slice a3 d3 m3,.slice a4 d4 m4],.bool fdev,.slice ap dp cp,.agg #[.int .i64 lD,.int .i64 lN,.int .i64 l3,.int .i64 l4]]:=by rw[hf];rfl
 rw[hargs];clear hok hfine hwl hwr hmay hmay2 hd1 hd2 hd3 hd4 hdp hargs hg hf;obtain⟨Po,hPo⟩:∃Po:Ending->World->Prop,Po=fun e w'=>Below w.heap.size w w'/\if ok=true/\1<=lD/\lD<=4096/\1<=lN/\lN<=128 then∃r,Top.Ends f.pb lD.toNat lN.toNat .next St.start 0 r/\kV r e w' else kV (.err 1) e w':=⟨_,rfl⟩
 rw[<-hPo];have hret:∀(a:Act) (w':World) (v:Value) (n c:Int),a.defers=[]->a.tmps[10]? =some (.pointer (some ⟨w.heap.size+1+1,0,none⟩))->a.tmps[11]? =some (.int .i64 n)->a.tmps[12]? =some (.int .i64 c)->w'.cell? ⟨w.heap.size+1+1,0,none⟩=some v->Po (.returned (.tuple #[.agg #[v],.int .i64 n,.int .i64 c])) w'->RQ Po .ret a w':=fun a w' v n c h0 h10 h11 h12 hv hp=>by
  have get:∀ {i v},a.tmps[i]? =some v->a.tmps.getD i undef=v:=fun {i v} h=>by
   rw[Array.getD_eq_getD_getElem?,h];rfl
  have g10:=get h10;have g11:=get h11;have g12:=get h12;refine bodyPost_ret (by simp[results,Tryz.results7,go_sem,h10,h11,h12,hv];try rfl) h0 ?_;exact hp
 have HRET:=Hd hret;have HPO:=Hd hPo;clear hret hPo;go_enter Tryz.func7,Tryz.ntmps7;go_wp2_with fail;refine uJ (G:=St×Nat×World) (fun l g a w'=>RunJ w f lD lN l g a w'/\RunOk f lD lN/\ok=true) (mu lD) ?pass ?first;case pass=>
  rintro l g a w' ⟨hJ,hR,hok⟩;refine⟨_,Gx l hJ.lab,?_⟩;have hQ:wI w f lD lN (RQ Po):=fun a w' v n c r h0 h10 h11 h12 hv hb he hs=>HRET.out a w' v n c h0 h10 h11 h12 hv (by
   rw[HPO.out];refine⟨hb,?_⟩;rw[if_pos ⟨hok,hR.d1,hR.d2,hR.n1,hR.n2⟩];exact⟨r,he,hs⟩)
  have hmono:∀e a w'',jumps (wH w f lD lN (mu lD l g)) (RQ Po) e a w''->jumps (fun l' a' w''=>∃g',(RunJ w f lD lN l' g' a' w''/\RunOk f lD lN/\ok=true)/\mu lD l' g'<mu lD l g) (RQ Po) e a w'':=kR fun l' a' w'' h=>by
   obtain⟨g',h1,h2⟩:=h;exact⟨g',⟨h1,hR,hok⟩,h2⟩
  refine wp_seq (wp_skip ?_);refine Code.wp_mono hmono ?_;rcases hJ.lab with rfl | rfl | rfl
  ·exact Lp w f lD lN hR Po hQ g a w' hJ
  ·exact xI w f lD lN hR Po hQ g a w' hJ
  ·exact rJ w f lD lN hR Po hQ g a w' hJ
 case first=>
  obtain⟨wa,hwa⟩:∃y,y=((w.alloc (.cells #[.slice a1 d1 m1,.slice a2 d2 m2,.slice a3 d3 m3,.slice a4 d4 m4] 25)).alloc (.cells #[.int .i64 lD,.int .i64 lN,.int .i64 l3,.int .i64 l4] 28)).alloc (.cells #[.slice none 0 0] 35):=⟨_,rfl⟩;have hba:Below w.heap.size w wa:=by rw[hwa];exact(((bR _ w).alloc nL _).alloc (by simp) _).alloc (by simp;omega) _
  have hsa:wa.heap.size=w.heap.size+3:=by rw[hwa];simp
  have hbx:∀W,Below wa.heap.size wa W->(W.cell? ⟨w.heap.size,0,none⟩=some (.slice a1 d1 m1)/\W.cell? ⟨w.heap.size,1,none⟩=some (.slice a2 d2 m2)/\W.cell? ⟨w.heap.size,2,none⟩=some (.slice a3 d3 m3)/\W.cell? ⟨w.heap.size,3,none⟩=some (.slice a4 d4 m4))/\(W.cell? ⟨w.heap.size+1,0,none⟩=some (.int .i64 lD)/\W.cell? ⟨w.heap.size+1,1,none⟩=some (.int .i64 lN))/\W.heap[w.heap.size+1+1]? =some (.cells #[.slice none 0 0] 35 (0,0)):=fun W hW=>by
   have g0:W.heap[w.heap.size]? =some (.cells #[.slice a1 d1 m1,.slice a2 d2 m2,.slice a3 d3 m3,.slice a4 d4 m4] 25 (0,0)):=by
    refine(hW.block _ (by omega)).trans ?_;rw[hwa];refine(heap_alloc_old _ _ (by rw[sA,sA];omega)).trans ((heap_alloc_old _ _ (by rw[sA];omega)).trans ?_);exact heap_alloc_new w _
   have g1:W.heap[w.heap.size+1]? =some (.cells #[.int .i64 lD,.int .i64 lN,.int .i64 l3,.int .i64 l4] 28 (0,0)):=by
    refine(hW.block _ (by omega)).trans ?_;rw[hwa];refine(heap_alloc_old _ _ (by rw[sA,sA];omega)).trans ?_;have:=heap_alloc_new (w.alloc (.cells #[.slice a1 d1 m1,.slice a2 d2 m2,.slice a3 d3 m3,.slice a4 d4 m4] 25)) (.cells #[.int .i64 lD,.int .i64 lN,.int .i64 l3,.int .i64 l4] 28);rw[sA]at this;exact this
   have g2:W.heap[w.heap.size+1+1]? =some (.cells #[.slice none 0 0] 35 (0,0)):=by
    refine(hW.block _ (by omega)).trans ?_;rw[hwa];have:=heap_alloc_new ((w.alloc (.cells #[.slice a1 d1 m1,.slice a2 d2 m2,.slice a3 d3 m3,.slice a4 d4 m4] 25)).alloc (.cells #[.int .i64 lD,.int .i64 lN,.int .i64 l3,.int .i64 l4] 28)) (.cells #[.slice none 0 0] 35);rw[sA,sA]at this;exact this
   have e0:=Go.Lib.cell_of_heap g0;have e1:=Go.Lib.cell_of_heap g1;exact⟨⟨e0 0,e0 1,e0 2,e0 3⟩,⟨e1 0,e1 1⟩,g2⟩
  rw[<-hwa];obtain⟨⟨b0,b1,b2,b3⟩,_,_⟩:=hbx wa (bR _ wa);have hmw:=HMAY.out wa hba;have HMW:=Hd hmw;have HBX:=Hd hbx;have HBA:=Hd hba;have HSA:=Hd hsa;clear hmw hbx hba hwa hsa HMAY;go_wp2_with fail;refine HMW.out.mono ?_;rintro e wB ⟨rfl,hbB⟩;obtain⟨⟨x0,x1,x2,x3⟩,⟨c0,c1⟩,r0⟩:=HBX.out wB hbB;have HBW:Hid (Below w.heap.size w wB):=Hd (HBA.out.trans (hbB.mono HBA.out.size));have e0:wB.cell? ⟨w.heap.size+1+1,0,none⟩=some (.slice none 0 0):=Go.Lib.cell_of_heap r0 0;have ef:=Go.Lib.frozen_of_heap r0 0;have hsz:w.heap.size+3<=wB.heap.size:=by have:=hbB.size;have:=HSA.out;omega
  have HR0:=Hd r0;clear hbB b0 b1 b2 b3 r0;cases ok
  ·skip
   go_wp2;refine HRET.out _ _ (.slice none 0 0) 0 1 rfl rfl rfl rfl (World.cell?_setCell_same _ _ _ e0) ?_;rw[HPO.out];refine⟨HBW.out.setCell (by show w.heap.size<=w.heap.size+1+1;omega) _,?_⟩;rw[if_neg (by first | (rintro⟨_,_,_,_,_⟩;omega) | (rintro⟨h,_⟩;exact absurd h (by simp)))];rfl
  by_cases h1:lD<1
  ·skip
   go_wp2;refine HRET.out _ _ (.slice none 0 0) 0 1 rfl rfl rfl rfl (World.cell?_setCell_same _ _ _ e0) ?_;rw[HPO.out];refine⟨HBW.out.setCell (by show w.heap.size<=w.heap.size+1+1;omega) _,?_⟩;rw[if_neg (by first | (rintro⟨_,_,_,_,_⟩;omega) | (rintro⟨h,_⟩;exact absurd h (by simp)))];rfl
  by_cases h2:4096<lD
  ·skip
   go_wp2;refine HRET.out _ _ (.slice none 0 0) 0 1 rfl rfl rfl rfl (World.cell?_setCell_same _ _ _ e0) ?_;rw[HPO.out];refine⟨HBW.out.setCell (by show w.heap.size<=w.heap.size+1+1;omega) _,?_⟩;rw[if_neg (by first | (rintro⟨_,_,_,_,_⟩;omega) | (rintro⟨h,_⟩;exact absurd h (by simp)))];rfl
  by_cases h3:lN<1
  ·skip
   go_wp2;refine HRET.out _ _ (.slice none 0 0) 0 1 rfl rfl rfl rfl (World.cell?_setCell_same _ _ _ e0) ?_;rw[HPO.out];refine⟨HBW.out.setCell (by show w.heap.size<=w.heap.size+1+1;omega) _,?_⟩;rw[if_neg (by first | (rintro⟨_,_,_,_,_⟩;omega) | (rintro⟨h,_⟩;exact absurd h (by simp)))];rfl
  by_cases h4:128<lN
  ·skip
   go_wp2;refine HRET.out _ _ (.slice none 0 0) 0 1 rfl rfl rfl rfl (World.cell?_setCell_same _ _ _ e0) ?_;rw[HPO.out];refine⟨HBW.out.setCell (by show w.heap.size<=w.heap.size+1+1;omega) _,?_⟩;rw[if_neg (by first | (rintro⟨_,_,_,_,_⟩;omega) | (rintro⟨h,_⟩;exact absurd h (by simp)))];rfl
  have hfine:=HFINE.out rfl;have hR:RunOk f lD lN:=⟨yX hfine f.dev f.pins,HWL.out rfl,HWR.out rfl,HOK.out.cat.size,by omega,by omega,by omega,by omega⟩;have HR:=Hd hR;have hQ:wI w f lD lN (RQ Po):=fun a w' v n c r h0 h10 h11 h12 hv hb he hs=>HRET.out a w' v n c h0 h10 h11 h12 hv (by
   rw[HPO.out];refine⟨hb,?_⟩;rw[if_pos ⟨rfl,hR.d1,hR.d2,hR.n1,hR.n2⟩];exact⟨r,he,hs⟩)
  have HQ:=Hd hQ;obtain⟨wn,hwn⟩:∃y,y=wB.alloc (.cells #[.string ⟨#[]⟩,.int .i64 0,.int .i64 0,.int .i64 0,.slice none 0 0,.slice none 0 0] 57):=⟨_,rfl⟩;obtain⟨wC,hwC⟩:∃y,y=wn.alloc (.cells #[.pointer (some ⟨fs,0,none⟩),.slice a1 d1 m1,.slice a2 d2 m2,.slice a3 d3 m3,.slice a4 d4 m4,.bool fdev,.slice ap dp cp,.slice none 0 0,.slice (some ⟨wB.heap.size,0,none⟩) 1 1,.slice none 0 0,.slice none 0 0,.int .i64 0] 62):=⟨_,rfl⟩;have hsn:wn.heap.size=wB.heap.size+1:=by rw[hwn];exact sA _ _
  have hbC:Below wB.heap.size wB wC:=by rw[hwC,hwn];exact((bR _ wB).alloc nL _).alloc (by simp) _
  have hh:Held wC wB.heap.size (wB.heap.size+1) f St.start (.slice none 0 0) (.slice (some ⟨wB.heap.size,0,none⟩) 1 1) (.slice none 0 0) (.slice none 0 0) (.int .i64 0) [] [(.slice none 0 0,.slice none 0 0)]:=by
   refine⟨?_,⟨rfl,rfl,by decide,World.ownsRow_nil _ _ _ _,?_,World.ownsRow_nil _ _ _ _,fun i x c h=>by simp[St.start]at h,fun i x c hx hc=>?_,fun i es c h=>by simp[St.start]at h⟩,?_,by omega⟩
   ·have:=heap_alloc_new wn (.cells #[.pointer (some ⟨fs,0,none⟩),.slice a1 d1 m1,.slice a2 d2 m2,.slice a3 d3 m3,.slice a4 d4 m4,.bool fdev,.slice ap dp cp,.slice none 0 0,.slice (some ⟨wB.heap.size,0,none⟩) 1 1,.slice none 0 0,.slice none 0 0,.int .i64 0] 62);rw[hsn,<-hwC]at this;rw[HF.out];exact this
   ·have h1:=World.ownsRow_lit (base:=wB.heap.size) (e:=57) (size:=6) wB #[.string ⟨#[]⟩,.int .i64 0,.int .i64 0,.int .i64 0,.slice none 0 0,.slice none 0 0] 1 nL (by decide) (by rfl);rw[<-hwn]at h1;rw[hwC];exact h1.alloc _
   ·match i,hx,hc with
    | 0,hx,hc=>
     have h1:x=nd0:=by simpa[St.start]using hx.symm
     have h2:c=(.slice none 0 0,.slice none 0 0):=by simpa using hc.symm
     subst h1;subst h2;exact RowO.nil _ _ _ _
   ·exact(HOK.out.below (HBW.out.trans (hbC.mono HBW.out.size)) nL).mono HBW.out.size
  have hbg:=yC wC wB.heap.size (wB.heap.size+1) f St.start _ _ _ _ _ _ _ hh nd0 rfl (fun h=>absurd h (by decide)) (by decide) (by decide);have HBG:=Hd hbg;have HWN:=Hd hwn;have HWC:=Hd hwC;have HBC:=Hd hbC;have HC0:=Hd c0;have HC1:=Hd c1;have HSN:=Hd hsn;clear hbg hh hR hQ hfine hbC hwn hwC hsn;go_upto_region 5 with fail;rw[<-HWN.out,<-HWC.out];go_wp2_with fail;refine HBG.out.mono ?_;rintro e wD ⟨rfl,hbD,ta,tc,hhD,hwoD⟩;have HBD:=Hd hbD;have HHD:=Hd hhD;have HWD:=Hd hwoD;clear hbD hhD hwoD;go_wp2_with fail;refine wp_label ?_
  rename_i hKK
  refine hKK _ _ ?_;refine Code.wp_mono (Q:=jumps (wH w f lD lN (mu lD 1 (St.start,0,wB))) (RQ Po)) (kR fun l a w h=>?lt) ?pn;case pn=>
   refine xI w f lD lN HR.out Po HQ.out (St.start,0,wB) _ _ ?_;have hm:1<=lN.toNat:=by omega
   exact⟨.inr (.inl rfl),rfl,rfl,rfl,rfl,rfl,rfl,HBW.out,HC0.out,HC1.out,HR0.out,⟨⟨Inv.start _ _ hm,nE.start _⟩,fun r hr=>hr,Nat.zero_le _,nL,(fun e=>by cases e),HBC.out.trans HBD.out,_,_,_,_,_,_,_,HHD.out,fun _=>⟨rfl,⟨_,_,rfl⟩,HWD.out⟩⟩⟩
  case lt=>
   obtain⟨g',h1,_⟩:=h;exact⟨g',h1,HR.out,rfl⟩
end
section
open Top Opp
namespace Top
theorem kK.sz1{l:List Dp}(h:kK 1048576 l):jK l:=⟨by have:=h.1;omega,fun d hd=>by have:=(h.2 d hd).2;omega⟩
theorem zP.sz{m:Mf}(h:zP 1048576 m):Bt m:=⟨h.1.sz1,h.2.1.sz1,h.2.2.1.sz1,h.2.2.2.sz1⟩
theorem Ll{p:Pk}(h:bJ p=true):tV p:=⟨(gQ h).1.sz,(gQ h).2.1.sz,(gQ h).2.2.1.sz⟩
def Ta(q:Prob)(s b:Nat):Fx:=⟨s,b,q.v1,q.v2,q.v3,q.v4,q.vp,aY q.l,q.m,q.dev,q.pins⟩
def Prob.pb(q:Prob):Pb:=gY (aY q.l) q.m q.dev q.pins
theorem qD{w w':World}{n:Nat}{q:Prob}(h:ProbAt w w.heap.size n q)(hb:Below w.heap.size w w'):ProbAt w' w'.heap.size n q:=
 ⟨(h.pks.below hb nL).mono hb.size,(h.mf.below hb nL).mono hb.size,(RowZ.below h.pn hb nL).mono hb.size,h.ll,h.pi,h.mi,h.pl⟩
theorem Rk{w:World}{q:Prob}{s b:Nat}(h:ProbAt w w.heap.size 1048576 q)(hc:CatN w w.heap.size s b (aY q.l)):FxOk w w.heap.size (Ta q s b):=
 ⟨hc.at,fun p hp=>Ll (gF q.l p hp),h.mf,h.mi.sz,h.pn,by have:=h.pl;show q.pins.length<=_;omega⟩
theorem Cy(q:Prob)(hm:gH q.m=true):(Prob.pb q).Fits (bA (aY q.l)):=yX (Fq (gF q.l) hm) q.dev q.pins
def wJ(q:Prob)(l1 l2:Int)(e:Ending)(w':World):Prop:=if gH q.m=true/\1<=l1/\l1<=4096/\1<=l2/\l2<=128 then∃r,Top.Ends (Prob.pb q) l1.toNat l2.toNat .next St.start 0 r/\kV r e w' else kV (.err 1) e w'
end Top
theorem Fa(w:World)(q:Prob)(s b:Nat)(h:ProbAt w w.heap.size 1048576 q)(hc:CatN w w.heap.size s b (aY q.l))(hpw:VL.bS w)(l1 l2 l3 l4:Int):
 Calls Tryz.prog 7 #[.pointer (some ⟨s,0,none⟩),.agg #[q.v1,q.v2,q.v3,q.v4],.bool q.dev,q.vp,.agg #[.int .i64 l1,.int .i64 l2,.int .i64 l3,.int .i64 l4]] w fun e w'=>Below w.heap.size w w'/\wJ q l1 l2 e w':=by
 have:=Ou w (Ta q s b) (Rk h hc) l1 l2 l3 l4 (gH q.m) (fun hm=>Fq (gF q.l) hm) (fun hm k nd=>(nP (gF q.l) hm q.dev q.pins k nd).1) (fun hm k nd x hx=>by have:=((nP (gF q.l) hm q.dev q.pins k nd).2 x hx).1;omega)
  (fun W hW=>xN W q.m _ _ _ _ (hpw.below hW nL) ((h.mf.below hW nL).mono hW.size) h.mi)
 exact this
theorem uG(w:World)(q:Prob)(s b:Nat)(h:ProbAt w w.heap.size 1048576 q)(hc:CatN w w.heap.size s b (aY q.l))(hpw:VL.bS w)(v:Value)(g:List Nd)(hg:NdsAt w w.heap.size v g)(hn:g.length<=1000000000)(hz:∀x∈g,NdFit x):
 Calls Tryz.prog 9 #[.agg #[v],.pointer (some ⟨s,0,none⟩),.agg #[q.v1,q.v2,q.v3,q.v4],.bool q.dev] w fun e w'=>dU e (gH q.m=true/\Checks (Prob.pb q) (bA (aY q.l)) g)/\Below w.heap.size w w':=by
 have hm16:64<=maxLen:=by decide
 have:=Ju w v g hg hn hz (Ta q s b) (Rk h hc) (gH q.m) (fun hm=>Cy q hm) (fun hm k nd=>⟨(nP (gF q.l) hm q.dev q.pins k nd).1,fun y hy=>by have:=(nP (gF q.l) hm q.dev q.pins k nd).2 y hy;exact⟨by omega,by omega⟩⟩)
  (fun W hW=>xN W q.m _ _ _ _ (hpw.below hW nL) ((h.mf.below hW nL).mono hW.size) h.mi)
 exact this
namespace Top
theorem row_one{z:Nat}{w:World}{B b:Nat}{x:List Value}{t:TypeId}{fr:Nat×Nat}(h:w.heap[b]? =some (.cells x.toArray t fr))(hb:b<B):RowZ z w B (.slice (some ⟨b,0,none⟩) 1 1) [x]:=
 ⟨_,1,rfl,nL,fun i y hy=>by
  match i,hy with
  | 0,hy=>
   simp only[gZ,iS]at hy;subst hy;exact⟨b,0,rfl,hb,fun j u hj=>by rw[Go.Lib.cell_of_heap h];simpa using hj⟩⟩
theorem Ov{z:Nat}{w:World}{B b:Nat}{x y:List Value}{t:TypeId}{fr:Nat×Nat}(hx:x.length=z)(h:w.heap[b]? =some (.cells (x++y).toArray t fr))(hb:b<B):RowZ z w B (.slice (some ⟨b,0,none⟩) 2 2) [x,y]:=
 ⟨_,2,rfl,nL,fun i u hu=>by
  match i,hu with
  | 0,hu=>
   simp only[gZ,iS]at hu;subst hu;refine⟨b,0,rfl,hb,fun j q hj=>?_⟩;rw[Go.Lib.cell_of_heap h,List.getElem?_toArray,show 0+0*z+j=j by omega,gL (gS hj).1];exact hj
  | 1,hu=>
   simp only[List.getElem?_cons_succ,gZ,iS]at hu;subst hu;refine⟨b,0,rfl,hb,fun j q hj=>?_⟩;rw[Go.Lib.cell_of_heap h,List.getElem?_toArray,show 0+1*z+j=x.length+j by omega,List.getElem?_append_right (by omega),Nat.add_sub_cancel_left];exact hj⟩
namespace Lives
theorem few:qZ 1048576 pA/\qZ 1048576 pB/\zP 1048576 M:=by
 have h1:kK 1048576 []:=⟨by simp,fun d h=>by simp at h⟩;have h2:∀n:List UInt8,n.length<=1->kK 1048576 [⟨n,every⟩]:=fun n hn=>⟨by simp,fun d h=>by
  simp only[mI]at h;subst h;exact⟨by show n.length<=_;omega,by show 3*every.length<=_;decide⟩⟩
 exact⟨⟨by decide,h2 nB (by decide),h1,h1⟩,⟨by decide,h1,h1,h1⟩,⟨h2 nA (by decide),h1,h1,h1⟩⟩
theorem fits:∀x∈gr,NdFit x:=by
 have hk:∀n:List UInt8,n.length<=1->nC (n,one):=fun n hn=>mK (n:=n) (v:=one) (Nat.le_trans hn (by decide:1<=maxLen)) (iN (by decide)) (iN (by decide)) (iN (by decide));have h1:1<=maxLen:=by decide
 intro x hx;simp only[gr,List.mem_cons,List.not_mem_nil,or_false]at hx;rcases hx with rfl | rfl | rfl
 ·exact⟨⟨by simp,by simp⟩,zX,fun p hp=>by simp at hp,by simp,fun p hp=>by simp at hp,fun e he=>by simp only[mI]at he;subst he;exact h1⟩
 ·exact⟨⟨by simp,by simp⟩,hk nA (by decide),fun p hp=>by simp at hp,by simp,fun p hp=>by simp at hp,fun e he=>by simp only[mI]at he;subst he;exact h1⟩
 ·exact⟨⟨by simp,by simp⟩,hk nB (by decide),fun p hp=>by simp at hp,by simp,fun p hp=>by simp at hp,fun e he=>by simp at he⟩
end Lives
end Top
theorem oM(w:World)(hpw:VL.bS w):Calls Tryz.prog 8 #[] w fun e w'=>e=.returned (.bool true)/\Below w.heap.size w w':=by
 obtain⟨B0,hB0⟩:∃n,n=w.heap.size:=⟨_,rfl⟩;obtain⟨w1,hw1⟩:∃y,y=w.alloc (.cells #[.int .i64 1,.int .i64 0,.int .i64 0] 50):=⟨_,rfl⟩;obtain⟨w2,hw2⟩:∃y,y=w1.alloc (.cells #[.int .i64 0,.int .i64 0,.int .i64 0,.int .i64 999,.int .i64 999,.int .i64 999] 73):=⟨_,rfl⟩;obtain⟨w3,hw3⟩:∃y,y=w2.alloc (.cells #[.string ⟨#[98]⟩,.slice (some ⟨B0+1,0,none⟩) 1 1] 75):=⟨_,rfl⟩;obtain⟨w4,hw4⟩:∃y,y=w3.alloc (.cells #[.string ⟨#[97]⟩,.int .i64 1,.int .i64 0,.int .i64 0,.slice (some ⟨B0+2,0,none⟩) 1 1,.slice none 0 0,.slice none 0 0,.string ⟨#[98]⟩,.int .i64 1,.int .i64 0,.int .i64 0,.slice none 0 0,.slice none 0 0,.slice none 0 0] 52):=⟨_,rfl⟩;obtain⟨w5,hw5⟩:∃y,y=w4.alloc (.cells #[.string ⟨#[97]⟩,.slice (some ⟨B0+1,0,none⟩) 1 1] 75):=⟨_,rfl⟩;obtain⟨ws,hws⟩:∃y,y=w5.alloc (.cells #[.slice (some ⟨B0+3,0,none⟩) 2 2,.slice (some ⟨B0+4,0,none⟩) 1 1,.slice none 0 0,.slice none 0 0,.slice none 0 0,.bool false,.slice none 0 0,.int .i64 0,.int .i64 0,.int .i64 0,.int .i64 0] 30):=⟨_,rfl⟩
 have z1:w1.heap.size=B0+1:=by rw[hw1,hB0];simp
 have z2:w2.heap.size=B0+2:=by rw[hw2];simp[z1]
 have z3:w3.heap.size=B0+3:=by rw[hw3];simp[z2]
 have z4:w4.heap.size=B0+4:=by rw[hw4];simp[z3]
 have z5:w5.heap.size=B0+5:=by rw[hw5];simp[z4]
 have zs:ws.heap.size=B0+6:=by rw[hws];simp[z5]
 have b1:Below B0 w w1:=by rw[hw1,hB0];exact(bR _ _).alloc nL _
 have b2:Below w1.heap.size w1 w2:=by rw[hw2];exact(bR _ _).alloc nL _
 have b3:Below w2.heap.size w2 w3:=by rw[hw3];exact(bR _ _).alloc nL _
 have b4:Below w3.heap.size w3 w4:=by rw[hw4];exact(bR _ _).alloc nL _
 have b5:Below w4.heap.size w4 w5:=by rw[hw5];exact(bR _ _).alloc nL _
 have bs':Below w5.heap.size w5 ws:=by rw[hws];exact(bR _ _).alloc nL _
 have hb:Below B0 w ws:=((((b1.trans (b2.mono (by omega))).trans (b3.mono (by omega))).trans (b4.mono (by omega))).trans (b5.mono (by omega))).trans (bs'.mono (by omega));have k1:ws.heap[B0+1]? =some (.cells #[.int .i64 0,.int .i64 0,.int .i64 0,.int .i64 999,.int .i64 999,.int .i64 999] 73 (0,0)):=by
  rw[bs'.block _ (by omega),b5.block _ (by omega),b4.block _ (by omega),b3.block _ (by omega),hw2,<-z1];exact heap_alloc_new w1 _
 have k2:ws.heap[B0+2]? =some (.cells #[.string ⟨#[98]⟩,.slice (some ⟨B0+1,0,none⟩) 1 1] 75 (0,0)):=by
  rw[bs'.block _ (by omega),b5.block _ (by omega),b4.block _ (by omega),hw3,<-z2];exact heap_alloc_new w2 _
 have k3:ws.heap[B0+3]? =some (.cells #[.string ⟨#[97]⟩,.int .i64 1,.int .i64 0,.int .i64 0,.slice (some ⟨B0+2,0,none⟩) 1 1,.slice none 0 0,.slice none 0 0,.string ⟨#[98]⟩,.int .i64 1,.int .i64 0,.int .i64 0,.slice none 0 0,.slice none 0 0,.slice none 0 0] 52 (0,0)):=by
  rw[bs'.block _ (by omega),b5.block _ (by omega),hw4,<-z3];exact heap_alloc_new w3 _
 have k4:ws.heap[B0+4]? =some (.cells #[.string ⟨#[97]⟩,.slice (some ⟨B0+1,0,none⟩) 1 1] 75 (0,0)):=by
  rw[bs'.block _ (by omega),hw5,<-z4];exact heap_alloc_new w4 _
 have k5:ws.heap[B0+5]? =some (.cells #[.slice (some ⟨B0+3,0,none⟩) 2 2,.slice (some ⟨B0+4,0,none⟩) 1 1,.slice none 0 0,.slice none 0 0,.slice none 0 0,.bool false,.slice none 0 0,.int .i64 0,.int .i64 0,.int .i64 0,.int .i64 0] 30 (0,0)):=by
  rw[hws,<-z5];exact heap_alloc_new w5 _
 have rg:iH ws ws.heap.size (.slice (some ⟨B0+1,0,none⟩) 1 1) Lives.every:=row_one (x:=aU ⟨v0,⟨999,999,999⟩⟩) k1 (by omega);have dB:DpsAt ws ws.heap.size (.slice (some ⟨B0+2,0,none⟩) 1 1) [⟨Lives.nB,Lives.every⟩]:=⟨[.slice (some ⟨B0+1,0,none⟩) 1 1],rfl,row_one (x:=dJ ⟨Lives.nB,Lives.every⟩ (.slice (some ⟨B0+1,0,none⟩) 1 1)) k2 (by omega),fun i x c hx hc=>by
  match i,hx,hc with
  | 0,hx,hc=>cases hx;cases hc;exact rg⟩
 have dA:DpsAt ws ws.heap.size (.slice (some ⟨B0+4,0,none⟩) 1 1) [⟨Lives.nA,Lives.every⟩]:=⟨[.slice (some ⟨B0+1,0,none⟩) 1 1],rfl,row_one (x:=dJ ⟨Lives.nA,Lives.every⟩ (.slice (some ⟨B0+1,0,none⟩) 1 1)) k4 (by omega),fun i x c hx hc=>by
  match i,hx,hc with
  | 0,hx,hc=>cases hx;cases hc;exact rg⟩
 have pks:PksAt ws ws.heap.size (.slice (some ⟨B0+3,0,none⟩) 2 2) [Lives.pA,Lives.pB]:=⟨[(.slice (some ⟨B0+2,0,none⟩) 1 1,(.slice none 0 0,.slice none 0 0)),(.slice none 0 0,(.slice none 0 0,.slice none 0 0))],rfl,
  Ov (x:=aL Lives.pA (.slice (some ⟨B0+2,0,none⟩) 1 1,(.slice none 0 0,.slice none 0 0))) (y:=aL Lives.pB (.slice none 0 0,(.slice none 0 0,.slice none 0 0))) rfl k3 (by omega),fun i p d hp hd=>by
  match i,hp,hd with
  | 0,hp,hd=>cases hp;cases hd;exact⟨dB,DpsAt.nil _ _,DpsAt.nil _ _⟩
  | 1,hp,hd=>cases hp;cases hd;exact⟨DpsAt.nil _ _,DpsAt.nil _ _,DpsAt.nil _ _⟩⟩
 obtain⟨f1,f2,f3⟩:=Lives.few;have hq:∀dv,ProbAt ws ws.heap.size 1048576 ⟨[Lives.pA,Lives.pB],Lives.M,[],dv,.slice (some ⟨B0+3,0,none⟩) 2 2,.slice (some ⟨B0+4,0,none⟩) 1 1,.slice none 0 0,.slice none 0 0,.slice none 0 0,.slice none 0 0,0,0,0,0⟩:=fun dv=>
  ⟨pks,⟨dA,DpsAt.nil _ _,DpsAt.nil _ _,DpsAt.nil _ _⟩,RowZ.nil _ _ _,(by decide:2<=1048576),fun p hp=>by
   simp only[List.mem_cons,List.not_mem_nil,or_false]at hp;rcases hp with rfl | rfl
   ·exact f1
   ·exact f2,f3,by simp⟩
 have HQ:=Hd hq;have HPW:Hid (∀W,Below B0 w W->VL.bS W):=Hd (fun W hW=>hpw.below hW (by omega));have HB:=Hd hb;have HPC:Hid (∀W,Below ws.heap.size ws W->W.cell? ⟨B0+5,0,none⟩=some (.slice (some ⟨B0+3,0,none⟩) 2 2)/\W.cell? ⟨B0+5,1,none⟩=some (.slice (some ⟨B0+4,0,none⟩) 1 1)/\W.cell? ⟨B0+5,2,none⟩=some (.slice none 0 0)/\W.cell? ⟨B0+5,3,none⟩=some (.slice none 0 0)/\W.cell? ⟨B0+5,4,none⟩=some (.slice none 0 0)/\W.cell? ⟨B0+5,5,none⟩=some (.bool false)/\W.cell? ⟨B0+5,6,none⟩=some (.slice none 0 0)/\W.cell? ⟨B0+5,7,none⟩=some (.int .i64 0)/\W.cell? ⟨B0+5,8,none⟩=some (.int .i64 0)/\W.cell? ⟨B0+5,9,none⟩=some (.int .i64 0)/\W.cell? ⟨B0+5,10,none⟩=some (.int .i64 0)):=Hd (fun W hW=>by
  have h1:=(hW.block (B0+5) (by omega)).trans k5;refine⟨?_,?_,?_,?_,?_,?_,?_,?_,?_,?_,?_⟩<;>(unfold World.cell?;rw[h1];rfl))
 have HW1:=Hd hw1;have HW2:=Hd hw2;have HW3:=Hd hw3;have HW4:=Hd hw4;have HW5:=Hd hw5;have HWS:=Hd hws;have HBE:=Hd hB0;have HZS:=Hd zs;have hv1:w1.cell? ⟨w.heap.size,0,none⟩=some (.int .i64 1):=by rw[hw1];exact World.cell?_alloc_at _ _ _ _ rfl
 have HCT:Hid (Calls Tryz.prog 6 #[.agg #[.slice (some ⟨B0+3,0,none⟩) 2 2,.slice (some ⟨B0+4,0,none⟩) 1 1,.slice none 0 0,.slice none 0 0,.slice none 0 0,.bool false,.slice none 0 0,.int .i64 0,.int .i64 0,.int .i64 0,.int .i64 0]] ws fun e w'=>∃s b,e=.returned (.pointer (some ⟨s,0,none⟩))/\CatN w' w'.heap.size s b (aY [Lives.pA,Lives.pB])/\Below ws.heap.size ws w'):=Hd (jT ws _ (HPW.out ws hb) (hq false));have HS5:Hid (w.heap.size+1+1+1+1+1=B0+5):=Hd (by omega);have HS4:Hid (w.heap.size+1+1+1+1=B0+4):=Hd (by omega);have HS3:Hid (w.heap.size+1+1+1=B0+3):=Hd (by omega);have HS2:Hid (w.heap.size+1+1=B0+2):=Hd (by omega);have HS1:Hid (w.heap.size+1=B0+1):=Hd (by omega);have HRN:Hid (∀W s b,Below ws.heap.size ws W->CatN W W.heap.size s b (aY [Lives.pA,Lives.pB])->Calls Tryz.prog 7 #[.pointer (some ⟨s,0,none⟩),.agg #[.slice (some ⟨B0+4,0,none⟩) 1 1,.slice none 0 0,.slice none 0 0,.slice none 0 0],.bool true,.slice none 0 0,.agg #[.int .i64 9,.int .i64 9,.int .i64 9,.int .i64 99]] W fun e w'=>∃a c,e=.returned (.tuple #[.agg #[.slice a 3 c],.int .i64 2,.int .i64 0])/\NdsAt w' w'.heap.size (.slice a 3 c) Lives.gr/\Below W.heap.size W w'):=Hd (fun W s b hW hc=>by
  refine(Fa W _ s b (qD (hq true) hW) hc (HPW.out W (hb.trans (hW.mono (by omega)))) 9 9 9 99).mono ?_;rintro e w' ⟨hbw,hr⟩;unfold wJ at hr;rw[if_pos ⟨Lives.okM,by decide,by decide,by decide,by decide⟩]at hr;obtain⟨r,he,hs⟩:=hr;have hpb:Prob.pb ⟨[Lives.pA,Lives.pB],Lives.M,[],true,.slice (some ⟨B0+3,0,none⟩) 2 2,.slice (some ⟨B0+4,0,none⟩) 1 1,.slice none 0 0,.slice none 0 0,.slice none 0 0,.slice none 0 0,0,0,0,0⟩=Lives.P:=by
   unfold Prob.pb Lives.P;dsimp only;rw[Lives.cat]
  rw[hpb]at he;have:=Lives.only he;subst this;obtain⟨a,c,h1,h2⟩:=hs;exact⟨a,c,h1,h2,hbw⟩)
 have HCK:Hid (∀W s b a c,Below ws.heap.size ws W->CatN W W.heap.size s b (aY [Lives.pA,Lives.pB])->NdsAt W W.heap.size (.slice a 3 c) Lives.gr->Calls Tryz.prog 9 #[.agg #[.slice a 3 c],.pointer (some ⟨s,0,none⟩),.agg #[.slice (some ⟨B0+4,0,none⟩) 1 1,.slice none 0 0,.slice none 0 0,.slice none 0 0],.bool true] W fun e w'=>e=.returned (.int .i64 0)/\Below W.heap.size W w'):=Hd (fun W s b a c hW hc hg=>by
  refine(uG W _ s b (qD (hq true) hW) hc (HPW.out W (hb.trans (hW.mono (by omega)))) _ Lives.gr hg (by decide) Lives.fits).mono ?_;rintro e w' ⟨⟨z,rfl,hz⟩,hbw⟩;have hpb:Prob.pb ⟨[Lives.pA,Lives.pB],Lives.M,[],true,.slice (some ⟨B0+3,0,none⟩) 2 2,.slice (some ⟨B0+4,0,none⟩) 1 1,.slice none 0 0,.slice none 0 0,.slice none 0 0,.slice none 0 0,0,0,0,0⟩=Lives.P:=by
   unfold Prob.pb Lives.P;dsimp only;rw[Lives.cat]
  rw[hpb]at hz;have hcat:aY [Lives.pA,Lives.pB]=Lives.C:=Lives.cat;have:z=0:=hz.2 ⟨Lives.okM,by show Checks Lives.P (bA (aY [Lives.pA,Lives.pB])) Lives.gr;rw[hcat];exact Lives.checks.1⟩;subst this;exact⟨rfl,hbw⟩)
 clear hpw hB0 hw1 hw2 hw3 hw4 hw5 hws z1 z2 z3 z4 z5 zs b1 b2 b3 b4 b5 bs' hb k1 k2 k3 k4 k5 rg dB dA pks f1 f2 f3 hq hv1;go_enter Tryz.func8,Tryz.ntmps8;go_upto_region 4 with fail;rw[HS5.out,HS4.out,HS3.out,HS2.out,HS1.out];rw[<-HW1.out,<-HW2.out,<-HW3.out,<-HW4.out,<-HW5.out,<-HWS.out];obtain⟨p0,p1,p2,p3,p4,p5,p6,p7,p8,p9,p10⟩:=HPC.out ws (bR _ _);go_wp2_with fail;refine HCT.out.mono ?_;rintro e wc ⟨s,b,rfl,hc,hbc⟩;have HC:=Hd hc;have HBC:=Hd hbc;clear hc hbc p0 p1 p2 p3 p4 p5 p6 p7 p8 p9 p10;obtain⟨p0,p1,p2,p3,p4,p5,p6,p7,p8,p9,p10⟩:=HPC.out wc HBC.out;go_wp2_with fail;refine(HRN.out wc s b HBC.out HC.out).mono ?_;rintro e wr ⟨a,c,rfl,hnd,hbr⟩;obtain⟨wg,hwg⟩:∃y,y=wr.alloc (.cells #[.slice a 3 c] 35):=⟨_,rfl⟩;have hbg:Below wr.heap.size wr wg:=by rw[hwg];exact(bR _ _).alloc nL _
 have HBR:Hid (Below ws.heap.size ws wg):=Hd ((HBC.out.trans (hbr.mono HBC.out.size)).trans (hbg.mono (HBC.out.trans (hbr.mono HBC.out.size)).size));have HCG:Hid (CatN wg wg.heap.size s b (aY [Lives.pA,Lives.pB])):=Hd ((HC.out.up hbr).up hbg);have HND:Hid (NdsAt wg wg.heap.size (.slice a 3 c) Lives.gr):=Hd ((hnd.below hbg nL).mono hbg.size);have HG0:Hid (wg.cell? ⟨wr.heap.size,0,none⟩=some (.slice a 3 c)):=Hd (by rw[hwg];exact World.cell?_alloc_at _ _ _ _ rfl);have HWG:=Hd hwg;clear hnd hbr hwg hbg p0 p1 p2 p3 p4 p5 p6 p7 p8 p9 p10;go_upto_region 8 with fail;rw[<-HWG.out];obtain⟨p0,p1,p2,p3,p4,p5,p6,p7,p8,p9,p10⟩:=HPC.out wg HBR.out;have g0:=HG0.out;go_wp2_with fail;refine(HCK.out wg s b a c HBR.out HCG.out HND.out).mono ?_;rintro e w9 ⟨rfl,hb9⟩;go_wp2;go_returns;exact⟨rfl,by have e0:=HBE.out;have h0:=HB.out;rw[e0]at h0;have h1:=h0.trans (HBR.out.mono h0.size);exact h1.trans (hb9.mono h1.size)⟩
end
end Go.Proofs.YtcohlmdnahdnaaaGreatDoor
