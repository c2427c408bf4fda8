/- Has a node what it wants? The program's walk. -/
import Derived.Test.YtcohlmdnahdnaaaGreatDoorZRs7
import Derived.Test.YtcohlmdnahdnaaaGreatDoorZWn7
namespace Go.Proofs.YtcohlmdnahdnaaaGreatDoor
open Go.RowKit
set_option linter.unusedVariables false
set_option linter.unusedSimpArgs false
set_option maxHeartbeats 16000000
set_option maxRecDepth 100000
section
open Go.RowKit Go.Maps Go.WideMaps
open Top
namespace Top
structure NamedOk(L:List (List UInt8×Value))(ns:List (List UInt8)):Prop where
 yes:∀n∈ns,∃v:Int,KM.look L n=some (.int .i64 v)/\v≠0
 no:∀n,n∉ns->KM.look L n=none
theorem NamedOk.nil:NamedOk [] []:=⟨fun n h=>by simp at h,fun n _=>rfl⟩
theorem NamedOk.add{L:List (List UInt8×Value)}{ns:List (List UInt8)}(h:NamedOk L ns)(n:List UInt8){v:Int}(hv:v≠0):NamedOk (KM.uX L n (.int .i64 v)) (ns++[n]):=by
 refine⟨fun k hk=>?_,fun k hk=>?_⟩
 ·rw[KM.rP];by_cases h1:n=k
  ·rw[if_pos h1];exact⟨v,rfl,hv⟩
  ·rw[if_neg h1];refine h.yes k ?_;rcases List.mem_append.1 hk with h2 | h2
   ·exact h2
   ·simp only[mI]at h2;exact absurd h2.symm h1
 ·rw[KM.rP,if_neg (fun e=>hk (by rw[e];simp))];exact h.no k fun e=>hk (List.mem_append_left _ e)
def lL(g:List Nd)(x:Nd)(y:Wt):Prop:=match bE g x.edges y.name with
 | none=>y.kind≠1
 | some t=>gI y.rg t.v=true
theorem Fy{g:List Nd}:∀(es:List Eg) (l0 l:List Pn),es.foldl (cZ g) (some l0)=some l->l.length<=l0.length+es.length
 | [],l0,l,h=>by
  simp only[List.foldl_nil,iS]at h;subst h;simp
 | e::r,l0,l,h=>by
  rw[List.foldl_cons]at h;cases hs:cZ g (some l0) e with
  | none=>
   rw[hs]at h;have:∀es:List Eg,es.foldl (cZ g) none=none:=fun es=>by
    induction es with
    | nil=>rfl
    | cons a r ih=>rw[List.foldl_cons];exact ih
   rw[this]at h;cases h
  | some l1=>
   rw[hs]at h;have h1:=Fy r l1 l h;have h2:l1.length<=l0.length+1:=by
    unfold cZ at hs;simp only[Option.bind_some]at hs;cases hg:g[e.dst.toNat]? with
    | none=>rw[hg]at hs;cases hs
    | some y=>
     rw[hg]at hs;simp only[Option.bind_some]at hs;split at hs
     ·cases hs;simp
     ·split at hs
      ·cases hs;omega
      ·cases hs
   simp only[lC];omega
theorem Nc{W:World}{r:Option (List Pn)}{e:Ending}{w':World}(h:uI W r e w'):∃a n c ok,e=.returned (.tuple #[.slice a n c,.bool ok])/\Below W.heap.size W w'/\((ok=false/\r=none)\/(ok=true/\∃l,r=some l/\n=l.length/\aO w' W.heap.size (.slice a n c) l)):=by
 cases r with
 | none=>exact⟨none,0,0,false,h.1,h.2,.inl ⟨rfl,rfl⟩⟩
 | some l=>
  obtain⟨v,h1,h2,h3⟩:=h;obtain⟨a,c,e⟩:=aC h2;subst e;exact⟨a,l.length,c,true,h1,h3,.inr ⟨rfl,l,rfl,rfl,h2⟩⟩
theorem Jq{W:World}{r:Option (List Pn)}{e:Ending}{w':World}(h:iR W r e w'):∃a n ok,e=.returned (.tuple #[.slice a n n,.bool ok])/\Below W.heap.size W w'/\((ok=false/\r=none)\/(ok=true/\∃l c,r=some l/\n=l.length/\aO w' W.heap.size (.slice a n c) l)):=by
 cases r with
 | none=>exact⟨none,0,false,h.1,h.2,.inl ⟨rfl,rfl⟩⟩
 | some l=>
  obtain⟨a,c,h1,h2,h3⟩:=h;exact⟨a,l.length,true,h1,h3,.inr ⟨rfl,l,c,rfl,rfl,h2⟩⟩
def rA(f:Fx)(g:List Nd)(own:List Wt)(x:Nd)(env:List Pn)(e:Eg):Prop:=∃y,g[e.dst.toNat]? =some y/\((∃w∈own,w.name=e.label)\/∃p∈x.ctx,p.name=e.label)/\f.pb.ctxOf env ⟨y.name,y.v⟩=some y.ctx
def Gf(g:List Nd)(x:Nd)(p:Pn):Prop:=∃y,bE g x.edges p.name=some y/\y.v=p.v
end Top
theorem Gv(w:World)(v:Value)(g:List Nd)(h:NdsAt w w.heap.size v g)(hn:g.length<=128)(hF:Formed g)(i:Nat)(x:Nd)(hx:g[i]? =some x)(hz:wV x)(own:List Wt)(vw:Value)(hw:WtsAt w w.heap.size vw own)(hwn:own.length<=1000000)(hwz:∀y∈own,y.rg.length<=1000000/\y.name.length<=maxLen/\(y.kind=1\/y.kind=2))(hcn:∀p∈x.ctx,p.name.length<=maxLen)(hln:∀e∈x.edges,e.label.length<=maxLen)
 (f:Fx)(hok:FxOk w w.heap.size f)(hko:∀y∈g,nC (y.name,y.v))(hkc:∀p∈x.ctx,nC (p.name,p.v))(hzc:∀y∈g,y.ctx.length<=1000000)(ho:f.pb.own i x=own)(hce:x.ctx.length+x.edges.length<=1000000):
 Calls Tryz.prog 24 #[.agg #[v],.int .i64 i,vw,.pointer (some ⟨f.s,0,none⟩),tX f.v1 f.v2 f.v3 f.v4] w fun e w'=>Says e (Sound f.pb g i x)/\Below w.heap.size w w':=by
 obtain⟨a1,m1,hv1⟩:=hok.mf.deps.form;obtain⟨a2,m2,hv2⟩:=hok.mf.dev.form;obtain⟨a3,m3,hv3⟩:=hok.mf.opts.form;obtain⟨a4,m4,hv4⟩:=hok.mf.over.form;obtain⟨d1,hd1⟩:∃n,n=f.m.deps.length:=⟨_,rfl⟩;obtain⟨d2,hd2⟩:∃n,n=f.m.dev.length:=⟨_,rfl⟩;obtain⟨d3,hd3⟩:∃n,n=f.m.opts.length:=⟨_,rfl⟩;obtain⟨d4,hd4⟩:∃n,n=f.m.over.length:=⟨_,rfl⟩;rw[<-hd1]at hv1;rw[<-hd2]at hv2;rw[<-hd3]at hv3;rw[<-hd4]at hv4;have hi:=(gS hx).1;obtain⟨gb,go,gc,hvg,hgc,hgb,hat⟩:=h.at (by omega);obtain⟨N,hN⟩:∃n,n=g.length:=⟨_,rfl⟩;rw[<-hN]at hvg hgc hi hn;subst hvg;obtain⟨xa,xc,xa2,xc2,hxp,hxe,x0,x1,x2,x3,x4,x5⟩:=hat i x hx;obtain⟨XN,hXN⟩:∃n,n=x.ctx.length:=⟨_,rfl⟩;obtain⟨EN,hEN⟩:∃n,n=x.edges.length:=⟨_,rfl⟩;rw[<-hXN]at hxp x4;rw[<-hEN]at hxe x5;obtain⟨oa,oc,hvw⟩:∃a c,vw=.slice a own.length c:=by
  obtain⟨cs,k1,k2,k3⟩:=hw.is;obtain⟨a,c,e⟩:=k2.form;refine⟨a,c,?_⟩;rw[e,List.length_zipWith,k1,Nat.min_self]
 obtain⟨ON,hON⟩:∃n,n=own.length:=⟨_,rfl⟩;rw[<-hON]at hvw hwn;subst hvw;have hd:∀e∈x.edges,∃(j:Nat) (y:Nd),e.dst=(j:Int)/\g[j]? =some y:=fun e he=>by
  obtain⟨j,y,q1,_,q2,_⟩:=hF.dst i x e hx he;exact⟨j,y,q1,q2⟩
 have hEl:x.edges.length<=1000000000:=hz.2;have HEDGE:Hid (∀W n,Below w.heap.size w W->Calls Tryz.prog 52 #[.agg #[.slice (some ⟨gb,go,none⟩) N gc],.int .i64 i,.string (bs n)] W fun e w'=>mZ e (bE g x.edges n)/\Below W.heap.size W w'):=Hd (fun W n hW=>Jl W _ g ((h.below hW nL).mono hW.size) (by omega) i x hx hEl hd n);obtain⟨wb,hwb⟩:∃y,y=(((w.alloc (.cells #[.slice (some ⟨gb,go,none⟩) N gc] 35)).alloc (.cells #[.slice a1 d1 m1,.slice a2 d2 m2,.slice a3 d3 m3,.slice a4 d4 m4] 25)).alloc (.cells #[.string (bs x.name),.int .i64 x.v.a,.int .i64 x.v.b,.int .i64 x.v.c,.slice xa XN xc,.slice xa2 EN xc2] 57)).alloc (.map #[] 0):=⟨_,rfl⟩;have hbb:Below w.heap.size w wb:=by rw[hwb];exact((((bR _ w).alloc nL _).alloc (by simp) _).alloc (by simp<;>omega) _).alloc (by simp<;>omega) _
 have hsb:wb.heap.size=w.heap.size+4:=by rw[hwb];simp
 have hbox:∀W,Below (w.heap.size+3) wb W->(W.cell? ⟨w.heap.size,0,none⟩=some (.slice (some ⟨gb,go,none⟩) N gc))/\(W.cell? ⟨w.heap.size+1,0,none⟩=some (.slice a1 d1 m1)/\W.cell? ⟨w.heap.size+1,1,none⟩=some (.slice a2 d2 m2)/\W.cell? ⟨w.heap.size+1,2,none⟩=some (.slice a3 d3 m3)/\W.cell? ⟨w.heap.size+1,3,none⟩=some (.slice a4 d4 m4))/\(W.cell? ⟨w.heap.size+1+1,4,none⟩=some (.slice xa XN xc)/\W.cell? ⟨w.heap.size+1+1,5,none⟩=some (.slice xa2 EN xc2)):=fun W hW=>by
  have c0:∀i u,(#[.slice (some ⟨gb,go,none⟩) N gc]:Array Value)[i]? =some u->W.cell? ⟨w.heap.size,i,none⟩=some u:=fun i u hu=>
   (hW.cell (p:=⟨w.heap.size,i,none⟩) (by show w.heap.size<_;omega)).trans (by rw[hwb];exact(aD (by simp<;>omega)).trans ((aD (by simp<;>omega)).trans ((aD (by simp)).trans (aB rfl hu))))
  have c1:∀i u,(#[.slice a1 d1 m1,.slice a2 d2 m2,.slice a3 d3 m3,.slice a4 d4 m4]:Array Value)[i]? =some u->W.cell? ⟨w.heap.size+1,i,none⟩=some u:=fun i u hu=>
   (hW.cell (p:=⟨w.heap.size+1,i,none⟩) (by show w.heap.size+1<_;omega)).trans (by rw[hwb];exact(aD (by simp<;>omega)).trans ((aD (by simp)).trans (aB (by simp) hu)))
  have c2:∀i u,(#[.string (bs x.name),.int .i64 x.v.a,.int .i64 x.v.b,.int .i64 x.v.c,.slice xa XN xc,.slice xa2 EN xc2]:Array Value)[i]? =some u->W.cell? ⟨w.heap.size+1+1,i,none⟩=some u:=fun i u hu=>
   (hW.cell (p:=⟨w.heap.size+1+1,i,none⟩) (by show w.heap.size+1+1<_;omega)).trans (by rw[hwb];exact(aD (by simp)).trans (aB (by simp) hu))
  exact⟨c0 0 _ rfl,⟨c1 0 _ rfl,c1 1 _ rfl,c1 2 _ rfl,c1 3 _ rfl⟩,⟨c2 4 _ rfl,c2 5 _ rfl⟩⟩
 have hup:∀W,Below (w.heap.size+3) wb W->Below w.heap.size w W:=fun W hW=>hbb.trans (hW.mono (by omega));have HM0:Hid (KM.KMap 9 (fun s:List UInt8=> .string (bs s)) wb (w.heap.size+1+1+1) 0 []):=Hd (by
  rw[hwb];have:=KM.KMap.made (kt:=9) (enc:=fun s:List UInt8=> .string (bs s)) (((w.alloc (.cells #[.slice (some ⟨gb,go,none⟩) N gc] 35)).alloc (.cells #[.slice a1 d1 m1,.slice a2 d2 m2,.slice a3 d3 m3,.slice a4 d4 m4] 25)).alloc (.cells #[.string (bs x.name),.int .i64 x.v.a,.int .i64 x.v.b,.int .i64 x.v.c,.slice xa XN xc,.slice xa2 EN xc2] 57));rw[sA,sA,sA]at this;exact this)
 have hmm:= @run_makeMap Tryz.prog;have HBOX:=Hd hbox;have HUP:=Hd hup;have HSB:=Hd hsb;have HWB:=Hd hwb;have HOK:=Hd hok;have HFO:=Hd hF;have HX:=Hd hx;have HZ:=Hd hz;have HNDS:=Hd h;have HAT:=Hd hat;have HWT:=Hd hw;have HWZ:=Hd hwz;have HCN:=Hd hcn;have HLN:=Hd hln;have HKO:=Hd hko;have HKC:=Hd hkc;have HZC:=Hd hzc;have HXP:=Hd hxp;have HXE:=Hd hxe;have HN:=Hd hN;have HXN:=Hd hXN;have HEN:=Hd hEN;have HON:=Hd hON;have HV:Hid (f.v1=.slice a1 d1 m1/\f.v2=.slice a2 d2 m2/\f.v3=.slice a3 d3 m3/\f.v4=.slice a4 d4 m4):=Hd ⟨hv1,hv2,hv3,hv4⟩;have HOWN:=Hd ho;have hxn1:XN<=1000000000:=by rw[hXN];exact hz.1
 have hen1:EN<=1000000000:=by rw[hEN];exact hz.2
 have hiz:(i:Int)<(N:Int):=by omega
 rw[hv1,hv2,hv3,hv4];unfold tX;unfold sv at x0;clear hbox hup hsb hwb hok hF hx hz h hat hw hwz hcn hln hko hkc hzc hxp hxe hN hXN hEN hON hv1 hv2 hv3 hv4 hd1 hd2 hd3 hd4 ho hd hEl hbb;go_enter Tryz.func24,Tryz.ntmps24;go_wp2;clear hmm;rw[<-HWB.out];go_loopw [36] (fun p wr=>∃(k q:Nat) (L:List (List UInt8×Value)),p=.int .i64 k/\k<=ON/\q<=k/\NamedOk L ((own.take k).map (·.name))/\(∀(j:Nat) y,j<k->own[j]? =some y->lL g x y)/\KM.KMap 9 (fun s:List UInt8=> .string (bs s)) wr (w.heap.size+1+1+1) q L/\Below (w.heap.size+3) wb wr) (fun p _=>ON-(intOf p).toNat);case atStart=>exact⟨0,0,[],rfl,Nat.zero_le _,nL,NamedOk.nil,fun j y h=>absurd h (by omega),HM0.out,bR _ _⟩
 case round=>
  obtain⟨wo,rfl⟩:∃y,y=wr:=⟨wr,rfl⟩;obtain⟨k,q,L,rfl,hk,hq,hna,hown,hm,hb⟩:=hrel;have HNA:=Hd hna;have HOW:=Hd hown;have HM:=Hd hm;have HB:=Hd hb;have hbs:w.heap.size+4<=wo.heap.size:=by have:=hb.size;have:=HSB.out;omega
  clear hna hown HM0;by_cases hkO:k<ON
  ·have hkz:(k:Int)<(ON:Int):=by omega
   obtain⟨y,hy⟩:∃y,own[k]? =some y:=⟨_,gE (by rw[<-HON.out];exact hkO)⟩;obtain⟨ob,oo,ocap,hve,_,hob,hoat⟩:=HWT.out.at (by rw[<-HON.out];omega);have hoa:oa=some ⟨ob,oo,none⟩:=by injection hve
   subst hoa;obtain⟨ra,rc,hrg,e0,e1,e2⟩:=hoat k y hy;have hbw:=HUP.out wo hb;have e0:=(hbw.cell (p:=⟨ob,oo+k*3,none⟩) hob).trans e0;have e1:=(hbw.cell (p:=⟨ob,oo+k*3+1,none⟩) hob).trans e1;have e2:=(hbw.cell (p:=⟨ob,oo+k*3+2,none⟩) hob).trans e2;obtain⟨hrl,hnl,hkd⟩:=HWZ.out y (mG hy);have HY:=Hd hy;have HTK:Hid ((own.take (k+1)).map (·.name)=(own.take k).map (·.name)++[y.name]):=Hd (by rw[List.take_add_one,hy,List.map_append];rfl);have hym:=mG hy;obtain⟨nm,kd,rg⟩:=y;dsimp only at e0 e1 e2 hrg hrl hnl hkd HTK;unfold sv at e0;obtain⟨RM,hRM⟩:∃n,n=rg.length:=⟨_,rfl⟩;rw[<-hRM]at e2 hrg;obtain⟨we,hwe⟩:∃z,z=wo.alloc (.cells #[.string (bs nm),.int .i64 kd,.slice ra RM rc] 69):=⟨_,rfl⟩;have hbe:Below wo.heap.size wo we:=by rw[hwe];exact(bR _ wo).alloc nL _
   have hze:we.heap.size=wo.heap.size+1:=by rw[hwe];exact sA _ _
   have hbwe:Below (w.heap.size+3) wb we:=hb.trans (hbe.mono (by omega));have hme:=hm.below hbe hm.lt;have b0:we.cell? ⟨wo.heap.size,0,none⟩=some (.string (bs nm)):=by rw[hwe];exact aB rfl rfl
   have b1:we.cell? ⟨wo.heap.size,1,none⟩=some (.int .i64 kd):=by rw[hwe];exact aB rfl rfl
   have b2:we.cell? ⟨wo.heap.size,2,none⟩=some (.slice ra RM rc):=by rw[hwe];exact aB rfl rfl
   have hkk:=KM.yM hnl;obtain⟨wu,hru,hmu,hgu⟩:=hme.run_put KM.lU (t:=120) (e:=3) Tryz.underlying120 (by unfold maxLen;omega) nm hkk (.int .i64 kd);have hru':(Instr.mapUpdate 120 (.map (some (w.heap.size+1+1+1))) (.string (bs nm)) (.int .i64 kd)).run Tryz.prog we=.ok () wu:=hru;have hbu:Below (w.heap.size+3) wb wu:=hbwe.grown hgu (by omega) (fun g hg=>by cases hg;omega);have hne:some wo.heap.size≠some (w.heap.size+1+1+1):=by have:=hm.lt;simp;omega
   have u0:=(hgu.cell_far ⟨wo.heap.size,0,none⟩ (by show wo.heap.size<_;omega) hne).trans b0;have u1:=(hgu.cell_far ⟨wo.heap.size,1,none⟩ (by show wo.heap.size<_;omega) hne).trans b1;have u2:=(hgu.cell_far ⟨wo.heap.size,2,none⟩ (by show wo.heap.size<_;omega) hne).trans b2;have hzu:wo.heap.size<wu.heap.size:=by have:=hgu.size;omega
   have hedge:=HEDGE.out wu nm (HUP.out wu hbu);obtain⟨hg0,_,_⟩:=HBOX.out wu hbu;have HED:=Hd hedge;have HMU:=Hd hmu;have HBU:=Hd hbu;have HU0:=Hd u0;have HU1:=Hd u1;have HU2:=Hd u2;have HRG:=Hd hrg;have HKD:=Hd hkd;have HRL:Hid (rg.length<=1000000):=Hd hrl;have HWE:=Hd hwe;rw[hwe]at hru' b0 b1 b2;clear hoat hve hy hym hrg hkd hRM hwe hbe hbwe hme hru hgu hmu hedge hbu hne hkk hnl hm hb hrl hbw u1 u2;go_upto_region 7 with fail;go_wp2_with fail;refine HED.out.mono ?_;rintro e wf ⟨⟨t,ta,tn,tc,ta',tn',tc',b,rfl,hr⟩,hbf⟩;unfold ndV sv;obtain⟨wg,hwg⟩:∃z,z=wf.alloc (.cells #[.string (bs t.name),.int .i64 t.v.a,.int .i64 t.v.b,.int .i64 t.v.c,.slice ta tn tc,.slice ta' tn' tc'] 57):=⟨_,rfl⟩;have hbg:Below wu.heap.size wu wg:=by rw[hwg];exact hbf.alloc hbf.size _
   have g0:=(hbg.cell (p:=⟨wo.heap.size,0,none⟩) hzu).trans HU0.out;have g1:=(hbg.cell (p:=⟨wo.heap.size,1,none⟩) hzu).trans HU1.out;have g2:=(hbg.cell (p:=⟨wo.heap.size,2,none⟩) hzu).trans HU2.out;have t1:wg.cell? ⟨wf.heap.size,1,none⟩=some (.int .i64 t.v.a):=by rw[hwg];exact aB rfl rfl
   have t2:wg.cell? ⟨wf.heap.size,2,none⟩=some (.int .i64 t.v.b):=by rw[hwg];exact aB rfl rfl
   have t3:wg.cell? ⟨wf.heap.size,3,none⟩=some (.int .i64 t.v.c):=by rw[hwg];exact aB rfl rfl
   have HBG:Hid (Below (w.heap.size+3) wb wg):=Hd (HBU.out.trans (hbg.mono (by omega)));have HMG:=Hd (HMU.out.below hbg HMU.out.lt);have HREL:=Hd hr;have HWG:=Hd hwg;have HIN:=Hd (qO wg (.slice ra RM rc) rg t.v ((RowZ.below HRG.out (HUP.out wg HBG.out) nL).mono (HUP.out wg HBG.out).size) (by have:=HRL.out;omega));unfold wM at HIN;clear hr hbf hbg hwg b0 b1 b2 hru' e0 e1 e2 hg0 u0;go_upto_region 8 with fail;rw[<-HWG.out];have hnx:lL g x ⟨nm,kd,rg⟩->(∀(j:Nat) y,j<k+1->own[j]? =some y->lL g x y):=fun h0 j y hj hy=>by
    rcases Nat.lt_or_ge j k with h1 | h1
    ·exact HOW.out j y h1 hy
    ·have:j=k:=by omega
     subst this;rw[HY.out]at hy;cases hy;exact h0
   have hno:¬lL g x ⟨nm,kd,rg⟩->¬Sound f.pb g i x:=fun h0 hs=>h0 (hs.own _ (by rw[HOWN.out];exact mG HY.out));have HNX:=Hd hnx;have HNO:=Hd hno;have HNA2:Hid (NamedOk (KM.uX L nm (.int .i64 kd)) ((own.take (k+1)).map (·.name))):=Hd (by rw[HTK.out];exact HNA.out.add nm (by rcases HKD.out with h | h<;>omega));clear hnx hno;cases b
   ·have HNE:Hid (bE g x.edges nm=none):=Hd (by have:=HREL.out;simpa using this);by_cases hk1:kd=1
    ·have HF:Hid (¬Sound f.pb g i x):=Hd (HNO.out (by
      unfold lL;dsimp only;rw[HNE.out];exact fun h=>h hk1))
     have hk1b:(kd==1)=true:=beq_iff_eq.2 hk1;subst hk1;go_wp2;go_returns;exact⟨Says.no HF.out rfl,HUP.out _ HBG.out⟩
    ·have HY1:Hid (lL g x ⟨nm,kd,rg⟩):=Hd (by
      unfold lL;dsimp only;rw[HNE.out];exact hk1)
     have hk1b:(kd==1)=false:=beq_eq_false_iff_ne.2 hk1;go_wp2;go_roundw;case rel=>exact⟨k+1,q+1,KM.uX L nm (.int .i64 kd),by go_num,by omega,by omega,HNA2.out,HNX.out HY1.out,HMG.out,HBG.out⟩
     case measure=>simp[intOf];omega
   ·have HNE:Hid (bE g x.edges nm=some t):=Hd (by have:=HREL.out;simpa using this);go_wp2_with fail;refine HIN.out.mono ?_;rintro e wi ⟨rfl,hbi⟩;have HBI:Hid (Below (w.heap.size+3) wb wi):=Hd (HBG.out.trans (hbi.mono (by have:=HBG.out.size;have:=HSB.out;omega)));have HMI:=Hd (HMG.out.below hbi HMG.out.lt);clear hbi;cases hin:gI rg t.v
    ·have HF:Hid (¬Sound f.pb g i x):=Hd (HNO.out (by
      unfold lL;dsimp only;rw[HNE.out];dsimp only;rw[hin];simp))
     clear hin;go_wp2;go_returns;exact⟨Says.no HF.out rfl,HUP.out _ HBI.out⟩
    ·have HY1:Hid (lL g x ⟨nm,kd,rg⟩):=Hd (by
      unfold lL;dsimp only;rw[HNE.out];exact hin)
     clear hin;go_wp2;go_roundw;case rel=>exact⟨k+1,q+1,KM.uX L nm (.int .i64 kd),by go_num,by omega,by omega,HNA2.out,HNX.out HY1.out,HMI.out,HBI.out⟩
     case measure=>simp[intOf];omega
  ·have hkz:¬(k:Int)<(ON:Int):=by omega
   have hko:k=ON:=by omega
   subst hko;have HNA0:Hid (NamedOk L (own.map (·.name)++(x.ctx.take 0).map (·.name))):=Hd (by
    have h1:=HNA.out;rw[HON.out,List.take_of_length_le nL]at h1;simpa using h1)
   have HALL:Hid (∀y∈own,lL g x y):=Hd (fun y hy=>by
    obtain⟨t,ht,rfl⟩:=eI.1 hy;exact HOW.out t _ (by rw[HON.out];exact ht) (gE ht))
   obtain⟨_,_,hn4,_⟩:=HBOX.out wo hb;clear hm hb;go_wp2_with fail;go_loopw [75] (fun p wr=>∃(j q:Nat) (L:List (List UInt8×Value)),p=.int .i64 j/\j<=XN/\q<=k+j/\NamedOk L (own.map (·.name)++(x.ctx.take j).map (·.name))/\(∀(t:Nat) y,t<j->x.ctx[t]? =some y->Gf g x y)/\KM.KMap 9 (fun s:List UInt8=> .string (bs s)) wr (w.heap.size+1+1+1) q L/\Below (w.heap.size+3) wb wr) (fun p _=>XN-(intOf p).toNat);case atStart=>exact⟨0,q,L,rfl,Nat.zero_le _,by omega,HNA0.out,fun j y h=>absurd h (by omega),HM.out,HB.out⟩
   case round=>
    clear HNA HOW HM HB HNA0 hbs hn4 hq;obtain⟨wo,rfl⟩:∃y,y=wr:=⟨wr,rfl⟩;obtain⟨j,q,L,rfl,hj,hq,hna,hown,hm,hb⟩:=hrel;have HNA:=Hd hna;have HOW:=Hd hown;have HM:=Hd hm;have HB:=Hd hb;have hbs:w.heap.size+4<=wo.heap.size:=by have:=hb.size;have:=HSB.out;omega
    clear hna hown;by_cases hjX:j<XN
    ·have hjz:(j:Int)<(XN:Int):=by omega
     obtain⟨p,hp⟩:∃p,x.ctx[j]? =some p:=⟨_,gE (by rw[<-HXN.out];exact hjX)⟩;obtain⟨pb,po,pcap,hve,_,hpb,hpu⟩:=RowZ.some HXP.out (by rw[lM,<-HXN.out];omega);have hxa:xa=some ⟨pb,po,none⟩:=by injection hve
     subst hxa;have hpq:(x.ctx.map aG)[j]? =some (aG p):=by rw[gM,hp];rfl
     have hbw:=HUP.out wo hb;have e0:=(hbw.cell (p:=⟨pb,po+j*4+0,none⟩) hpb).trans (hpu j _ hpq 0 _ rfl);have e1:=(hbw.cell (p:=⟨pb,po+j*4+1,none⟩) hpb).trans (hpu j _ hpq 1 _ rfl);have e2:=(hbw.cell (p:=⟨pb,po+j*4+2,none⟩) hpb).trans (hpu j _ hpq 2 _ rfl);have e3:=(hbw.cell (p:=⟨pb,po+j*4+3,none⟩) hpb).trans (hpu j _ hpq 3 _ rfl);rw[Nat.add_zero]at e0;have hnl:=HCN.out p (mG hp);have HY:=Hd hp;have HTK:Hid (own.map (·.name)++(x.ctx.take (j+1)).map (·.name)=(own.map (·.name)++(x.ctx.take j).map (·.name))++[p.name]):=Hd (by rw[List.take_add_one,hp,List.map_append,List.append_assoc];rfl);obtain⟨nm,⟨va,vb,vc⟩⟩:=p;dsimp only at e0 e1 e2 e3 hnl HTK;unfold sv at e0;obtain⟨we,hwe⟩:∃z,z=wo.alloc (.cells #[.string (bs nm),.int .i64 va,.int .i64 vb,.int .i64 vc] 101):=⟨_,rfl⟩;have hbe:Below wo.heap.size wo we:=by rw[hwe];exact(bR _ wo).alloc nL _
     have hze:we.heap.size=wo.heap.size+1:=by rw[hwe];exact sA _ _
     have hbwe:Below (w.heap.size+3) wb we:=hb.trans (hbe.mono (by omega));have hme:=hm.below hbe hm.lt;have b0:we.cell? ⟨wo.heap.size,0,none⟩=some (.string (bs nm)):=by rw[hwe];exact aB rfl rfl
     have b1:we.cell? ⟨wo.heap.size,1,none⟩=some (.int .i64 va):=by rw[hwe];exact aB rfl rfl
     have b2:we.cell? ⟨wo.heap.size,2,none⟩=some (.int .i64 vb):=by rw[hwe];exact aB rfl rfl
     have b3:we.cell? ⟨wo.heap.size,3,none⟩=some (.int .i64 vc):=by rw[hwe];exact aB rfl rfl
     have hkk:=KM.yM hnl;obtain⟨wu,hru,hmu,hgu⟩:=hme.run_put KM.lU (t:=120) (e:=3) Tryz.underlying120 (by unfold maxLen;omega) nm hkk (.int .i64 1);have hru':(Instr.mapUpdate 120 (.map (some (w.heap.size+1+1+1))) (.string (bs nm)) (.int .i64 1)).run Tryz.prog we=.ok () wu:=hru;have hbu:Below (w.heap.size+3) wb wu:=hbwe.grown hgu (by omega) (fun g hg=>by cases hg;omega);have hne:some wo.heap.size≠some (w.heap.size+1+1+1):=by have:=hm.lt;simp;omega
     have u0:=(hgu.cell_far ⟨wo.heap.size,0,none⟩ (by show wo.heap.size<_;omega) hne).trans b0;have u1:=(hgu.cell_far ⟨wo.heap.size,1,none⟩ (by show wo.heap.size<_;omega) hne).trans b1;have u2:=(hgu.cell_far ⟨wo.heap.size,2,none⟩ (by show wo.heap.size<_;omega) hne).trans b2;have u3:=(hgu.cell_far ⟨wo.heap.size,3,none⟩ (by show wo.heap.size<_;omega) hne).trans b3;have hzu:wo.heap.size<wu.heap.size:=by have:=hgu.size;omega
     have hedge:=HEDGE.out wu nm (HUP.out wu hbu);obtain⟨hg0,_,_⟩:=HBOX.out wu hbu;have HED:=Hd hedge;have HMU:=Hd hmu;have HBU:=Hd hbu;have HU1:=Hd u1;have HU2:=Hd u2;have HU3:=Hd u3;rw[hwe]at hru' b0 b1 b2 b3;clear hve hpu hp hpq hwe hbe hbwe hme hru hgu hmu hedge hbu hne hkk hnl hm hb hbw u1 u2 u3;go_upto_region 15 with fail;go_wp2_with fail;refine HED.out.mono ?_;rintro e wf ⟨⟨t,ta,tn,tc,ta',tn',tc',b,rfl,hr⟩,hbf⟩;unfold ndV sv;obtain⟨wg,hwg⟩:∃z,z=wf.alloc (.cells #[.string (bs t.name),.int .i64 t.v.a,.int .i64 t.v.b,.int .i64 t.v.c,.slice ta tn tc,.slice ta' tn' tc'] 57):=⟨_,rfl⟩;have hbg:Below wu.heap.size wu wg:=by rw[hwg];exact hbf.alloc hbf.size _
     have g1:=(hbg.cell (p:=⟨wo.heap.size,1,none⟩) hzu).trans HU1.out;have g2:=(hbg.cell (p:=⟨wo.heap.size,2,none⟩) hzu).trans HU2.out;have g3:=(hbg.cell (p:=⟨wo.heap.size,3,none⟩) hzu).trans HU3.out;have t1:wg.cell? ⟨wf.heap.size,1,none⟩=some (.int .i64 t.v.a):=by rw[hwg];exact aB rfl rfl
     have t2:wg.cell? ⟨wf.heap.size,2,none⟩=some (.int .i64 t.v.b):=by rw[hwg];exact aB rfl rfl
     have t3:wg.cell? ⟨wf.heap.size,3,none⟩=some (.int .i64 t.v.c):=by rw[hwg];exact aB rfl rfl
     have HBG:Hid (Below (w.heap.size+3) wb wg):=Hd (HBU.out.trans (hbg.mono (by omega)));have HMG:=Hd (HMU.out.below hbg HMU.out.lt);have HREL:=Hd hr;have HWG:=Hd hwg;clear hr hbf hbg hwg b0 b1 b2 b3 hru' e0 e1 e2 e3 hg0 u0;go_upto_region 16 with fail;rw[<-HWG.out];have HNO:Hid (¬Gf g x ⟨nm,⟨va,vb,vc⟩⟩->¬Sound f.pb g i x):=Hd (fun h0 hs=>h0 (hs.ctx _ (mG HY.out)));have HNA2:Hid (NamedOk (KM.uX L nm (.int .i64 1)) (own.map (·.name)++(x.ctx.take (j+1)).map (·.name))):=Hd (by rw[HTK.out];exact HNA.out.add nm (by decide));cases b
     ·have HNE:Hid (bE g x.edges nm=none):=Hd (by have:=HREL.out;simpa using this);have HF:Hid (¬Sound f.pb g i x):=Hd (HNO.out (by
       rintro⟨y,h1,_⟩;dsimp only at h1;rw[HNE.out]at h1;cases h1))
      go_wp2;go_returns;exact⟨Says.no HF.out rfl,HUP.out _ HBG.out⟩
     ·have HNE:Hid (bE g x.edges nm=some t):=Hd (by have:=HREL.out;simpa using this);cases hv:VL.V.same t.v.a t.v.b t.v.c va vb vc
      ·have HF:Hid (¬Sound f.pb g i x):=Hd (HNO.out (by
        rintro⟨y,h1,h2⟩;dsimp only at h1 h2;rw[HNE.out]at h1;cases h1;rw[h2]at hv;simp[VL.V.same]at hv))
       go_wp2;go_returns;exact⟨Says.no HF.out rfl,HUP.out _ HBG.out⟩
      ·have HNX:Hid (∀(s:Nat) y,s<j+1->x.ctx[s]? =some y->Gf g x y):=Hd (fun s y hs hy=>by
        rcases Nat.lt_or_ge s j with h1 | h1
        ·exact HOW.out s y h1 hy
        ·have:s=j:=by omega
         subst this;rw[HY.out]at hy;cases hy;refine⟨t,HNE.out,?_⟩;obtain⟨_,⟨ta1,ta2,ta3⟩,_,_⟩:=t;simp only[VL.V.same,Bool.and_eq_true,beq_iff_eq]at hv;simp only[decide_eq_true_eq]at hv;dsimp only;simp[hv])
       go_wp2;go_roundw;case rel=>exact⟨j+1,q+1,KM.uX L nm (.int .i64 1),by go_num,by omega,by omega,HNA2.out,HNX.out,HMG.out,HBG.out⟩
       case measure=>simp[intOf];omega
    ·have hjz:¬(j:Int)<(XN:Int):=by omega
     have hjx:j=XN:=by omega
     subst hjx;have HNAM:Hid (NamedOk L (own.map (·.name)++x.ctx.map (·.name))):=Hd (by
      have h1:=HNA.out;rw[HXN.out,List.take_of_length_le nL]at h1;exact h1)
     have HALC:Hid (∀p∈x.ctx,Gf g x p):=Hd (fun p hp=>by
      obtain⟨t,ht,rfl⟩:=eI.1 hp;exact HOW.out t _ (by rw[HXN.out];exact ht) (gE ht))
     have hbw:=HUP.out wo hb;obtain⟨hg0,_,_⟩:=HBOX.out wo hb;have henv:=tY wo (.slice (some ⟨gb,go,none⟩) N gc) g ((HNDS.out.below hbw nL).mono hbw.size) (by rw[<-HN.out];exact hn) i x HX.out HZ.out (aX _ (HFO.out.ctx i x HX.out)) (fun e he=>by
      obtain⟨j,y,q1,_,q2,_⟩:=HFO.out.dst i x e HX.out he;exact⟨j,y,q1,q2⟩)
     have HENV:=Hd henv;clear henv hm hb hbw;go_wp2_with fail;refine HENV.out.mono ?_;intro e w5 hsaid;obtain⟨va5,vn5,vc5,ok,rfl,hb5,hrel5⟩:=Nc hsaid;have HB5:Hid (Below (w.heap.size+3) wb w5):=Hd (HB.out.trans (hb5.mono (by omega)));have HM5:=Hd (HM.out.below hb5 HM.out.lt);have hz5:w.heap.size+4<=w5.heap.size:=by have:=hb5.size;omega
     obtain⟨hh0,⟨hm0,hm1,hm2,hm3⟩,_,hn5⟩:=HBOX.out w5 HB5.out;rcases hrel5 with⟨rfl,hr5⟩ | ⟨rfl,env,hr5,hvn5,hpe⟩
     ·have HF:Hid (¬Sound f.pb g i x):=Hd (fun hs=>by
       obtain⟨env,h1,_⟩:=hs.env;rw[hr5]at h1;cases h1)
      clear hr5 hsaid hb5;go_wp2;go_returns;exact⟨Says.no HF.out rfl,HUP.out _ HB5.out⟩
     ·have HENVR:=Hd hr5;have HPE:Hid (aO w5 w.heap.size (.slice va5 vn5 vc5) env):=Hd (dI hpe (by have:=HB.out;omega));have hfold:∃l,x.edges.foldl (cZ g) (some x.ctx)=some l/\env=fQ l:=by
       unfold environment at hr5;cases hl:x.edges.foldl (cZ g) (some x.ctx)with
       | none=>rw[hl]at hr5;cases hr5
       | some l=>rw[hl]at hr5;simp only[Option.map_some,iS]at hr5;exact⟨l,rfl,hr5.symm⟩
      have HEK:Hid (∀q∈env,nC (q.name,q.v)):=Hd (fun q hq=>by
       obtain⟨l,h1,h2⟩:=hfold;rw[h2]at hq;have hq2:=(bW (·.name) l).mem_iff.1 hq;rcases(uD _ _ _ h1).2.1 q hq2 with h3 | ⟨e,he,y,hy,rfl⟩
       ·exact HKC.out q h3
       ·obtain⟨jj,yy,q1,_,q2,q3⟩:=HFO.out.dst i x e HX.out he;rw[q1]at hy;simp only[Int.toNat_natCast]at hy;rw[q2]at hy;cases hy;rw[<-q3];exact HKO.out _ (mG q2))
      have HELN:Hid (env.length<=1000000):=Hd (by
       obtain⟨l,h1,h2⟩:=hfold;have:=Fy _ _ _ h1;rw[h2];have h3:=(bW (·.name) l).length_eq;show(yR _ l).length<=_;rw[h3];omega)
      have HVN:=Hd hvn5;have HCTX:Hid (∀W (y:Nd),Below w5.heap.size w5 W->nC (y.name,y.v)->Calls Tryz.prog 42 #[.pointer (some ⟨f.s,0,none⟩),.agg #[.slice a1 d1 m1,.slice a2 d2 m2,.slice a3 d3 m3,.slice a4 d4 m4],.slice va5 vn5 vc5,.agg #[.string (bs y.name),.int .i64 y.v.a,.int .i64 y.v.b,.int .i64 y.v.c]] W fun e w'=>iR W (ctxOf f.C f.m env ⟨y.name,y.v⟩) e w'):=Hd (fun W y hW hyk=>by
       have hbW:Below w.heap.size w W:=(HUP.out w5 HB5.out).trans (hW.mono (by omega));have hsz:w.heap.size<=W.heap.size:=hbW.size;have:=tK W f.s f.b f.C ((HOK.out.cat.below hbW nL).mono hsz) HOK.out.pz f.m f.v1 f.v2 f.v3 f.v4 ((HOK.out.mf.below hbW nL).mono hsz) HOK.out.mz env (.slice va5 vn5 vc5) (HPE.out.under hW).at HELN.out HEK.out ⟨y.name,y.v⟩ hyk;rw[HV.out.1,HV.out.2.1,HV.out.2.2.1,HV.out.2.2.2]at this;exact this)
      clear hr5 hsaid hb5 hpe hfold hvn5;go_wp2_with fail;go_loopw [111] (fun p wr=>∃(k:Nat),p=.int .i64 k/\k<=EN/\(∀(t:Nat) e,t<k->x.edges[t]? =some e->rA f g own x env e)/\Below w5.heap.size w5 wr) (fun p _=>EN-(intOf p).toNat);case atStart=>exact⟨0,rfl,Nat.zero_le _,fun t e h=>absurd h (by omega),bR _ _⟩
      case round=>
       obtain⟨wo,rfl⟩:∃y,y=wr:=⟨wr,rfl⟩;obtain⟨k,rfl,hk,hfi,hb⟩:=hrel;have HFI:=Hd hfi;have HB6:=Hd hb;have hbs6:=hb.size;clear hfi;by_cases hkE:k<EN
       ·have hkz6:(k:Int)<(EN:Int):=by omega
        obtain⟨e,he⟩:∃e,x.edges[k]? =some e:=⟨_,gE (by rw[<-HEN.out];exact hkE)⟩;obtain⟨eb,eo,ecap,hve,_,heb,heu⟩:=RowZ.some HXE.out (by rw[lM,<-HEN.out];omega);have hxa2:xa2=some ⟨eb,eo,none⟩:=by injection hve
        subst hxa2;have heq:(x.edges.map bT)[k]? =some (bT e):=by rw[gM,he];rfl
        have hbw:Below w.heap.size w wo:=(HUP.out w5 HB5.out).trans (hb.mono (by omega));have e0:=(hbw.cell (p:=⟨eb,eo+k*2+0,none⟩) heb).trans (heu k _ heq 0 _ rfl);have e1:=(hbw.cell (p:=⟨eb,eo+k*2+1,none⟩) heb).trans (heu k _ heq 1 _ rfl);rw[Nat.add_zero]at e0;obtain⟨jn,y,q1,_,q2,q3⟩:=HFO.out.dst i x e HX.out (mG he);have hjn:jn<N:=by rw[HN.out];exact(gS q2).1
        obtain⟨ya,yc,ya2,yc2,hyp,hye,y0,y1,y2,y3,y4,y5⟩:=HAT.out jn y q2;obtain⟨YN,hYN⟩:∃n,n=y.ctx.length:=⟨_,rfl⟩;obtain⟨YE,hYE⟩:∃n,n=y.edges.length:=⟨_,rfl⟩;rw[<-hYN]at hyp y4;rw[<-hYE]at y5;have hlab:=HLN.out e (mG he);have HE:=Hd he;have HQ1:=Hd q1;have HQ2:=Hd q2;have HYP:=Hd hyp;have HYN:=Hd hYN;have hym:=mG q2;have hyk:=HKO.out y hym;have hyl:=HZC.out y hym;obtain⟨lab,dst⟩:=e;dsimp only at e0 e1 q1 q3 hlab;unfold sv at e0 y0;rw[q1]at e1;obtain⟨w1,hw1⟩:∃z,z=wo.alloc (.cells #[.string (bs lab),.int .i64 jn] 111):=⟨_,rfl⟩;obtain⟨w2,hw2⟩:∃z,z=w1.alloc (.cells #[.string (bs y.name),.int .i64 y.v.a,.int .i64 y.v.b,.int .i64 y.v.c,.slice ya YN yc,.slice ya2 YE yc2] 57):=⟨_,rfl⟩;have hb1:Below wo.heap.size wo w1:=by rw[hw1];exact(bR _ wo).alloc nL _
        have hz1:w1.heap.size=wo.heap.size+1:=by rw[hw1];exact sA _ _
        have hb2:Below w1.heap.size w1 w2:=by rw[hw2];exact(bR _ w1).alloc nL _
        have hz2:w2.heap.size=w1.heap.size+1:=by rw[hw2];exact sA _ _
        have hw51:Below w5.heap.size w5 w1:=hb.trans (hb1.mono hbs6);have hw52:Below w5.heap.size w5 w2:=hw51.trans (hb2.mono (by omega));have hbw1:Below w.heap.size w w1:=hbw.trans (hb1.mono (by omega));have g0:w1.cell? ⟨w.heap.size,0,none⟩=some (.slice (some ⟨gb,go,none⟩) N gc):=(hw51.cell (p:=⟨w.heap.size,0,none⟩) (by show w.heap.size<_;omega)).trans hh0;have x1e:w1.cell? ⟨wo.heap.size,1,none⟩=some (.int .i64 jn):=by rw[hw1];exact aB rfl rfl
        have y0:=(hbw1.cell (p:=⟨gb,go+jn*6,none⟩) hgb).trans y0;have y1:=(hbw1.cell (p:=⟨gb,go+jn*6+1,none⟩) hgb).trans y1;have y2:=(hbw1.cell (p:=⟨gb,go+jn*6+2,none⟩) hgb).trans y2;have y3:=(hbw1.cell (p:=⟨gb,go+jn*6+3,none⟩) hgb).trans y3;have y4:=(hbw1.cell (p:=⟨gb,go+jn*6+4,none⟩) hgb).trans y4;have y5:=(hbw1.cell (p:=⟨gb,go+jn*6+5,none⟩) hgb).trans y5;have k0:=(hw52.cell (p:=⟨w.heap.size+1,0,none⟩) (by show w.heap.size+1<_;omega)).trans hm0;have k1:=(hw52.cell (p:=⟨w.heap.size+1,1,none⟩) (by show w.heap.size+1<_;omega)).trans hm1;have k2:=(hw52.cell (p:=⟨w.heap.size+1,2,none⟩) (by show w.heap.size+1<_;omega)).trans hm2;have k3:=(hw52.cell (p:=⟨w.heap.size+1,3,none⟩) (by show w.heap.size+1<_;omega)).trans hm3;have n0:w2.cell? ⟨w1.heap.size,0,none⟩=some (.string (bs y.name)):=by rw[hw2];exact aB rfl rfl
        have n1:w2.cell? ⟨w1.heap.size,1,none⟩=some (.int .i64 y.v.a):=by rw[hw2];exact aB rfl rfl
        have n2:w2.cell? ⟨w1.heap.size,2,none⟩=some (.int .i64 y.v.b):=by rw[hw2];exact aB rfl rfl
        have n3:w2.cell? ⟨w1.heap.size,3,none⟩=some (.int .i64 y.v.c):=by rw[hw2];exact aB rfl rfl
        have n4:w2.cell? ⟨w1.heap.size,4,none⟩=some (.slice ya YN yc):=by rw[hw2];exact aB rfl rfl
        have l0:w2.cell? ⟨wo.heap.size,0,none⟩=some (.string (bs lab)):=(hb2.cell (p:=⟨wo.heap.size,0,none⟩) (by show wo.heap.size<_;omega)).trans (by rw[hw1];exact aB rfl rfl);have hjz7:(jn:Int)<(N:Int):=by omega
        have hctx:=HCTX.out w2 y hw52 hyk;have HCX:=Hd hctx;have HW51:=Hd hw51;have HW52:=Hd hw52;have HW1:=Hd hw1;have HW2:=Hd hw2;have HN4:=Hd n4;have HL0:=Hd l0;have hkk:=KM.yM hlab;have HKK:=Hd hkk;have HYL:Hid (y.ctx.length<=1000000):=Hd hyl;have hz1a:wo.heap.size+1<=w1.heap.size:=by omega
        have hz2a:w1.heap.size+1<=w2.heap.size:=by omega
        clear hz1 hz2 hctx hw51 hw52 hw1 hw2 hb1 hb2 hbw hbw1 hb he heq hve heu q1 q2 q3 hyp hye hYN hYE hlab hym hyk hyl hkk n4 l0 hn5;go_upto_region 25 with fail;rw[<-HW1.out];go_upto_region 26 with fail;rw[<-HW2.out];go_wp2_with fail;refine HCX.out.mono ?_;intro ee wf hs;obtain⟨ca,cn,ok2,rfl,hbf,hok2⟩:=Jq hs;have HW5F:Hid (Below w5.heap.size w5 wf):=Hd (HW52.out.trans (hbf.mono (by omega)));have hbF:Below w.heap.size w wf:=(HUP.out w5 HB5.out).trans (HW5F.out.mono (by omega));have HBF:=Hd hbF;have hmf:=HM5.out.below HW5F.out HM5.out.lt;have hlk:=KM.KMap.run_get KM.lU hmf (t:=120) (e:=3) Tryz.underlying120 (.int .i64 0) (by kernel_rfl) lab HKK.out;have l0:=(hbf.cell (p:=⟨wo.heap.size,0,none⟩) (by show wo.heap.size<_;omega)).trans HL0.out;have n4:=(hbf.cell (p:=⟨w1.heap.size,4,none⟩) (by show w1.heap.size<_;omega)).trans HN4.out
        have HNOT:Hid (¬rA f g own x env ⟨lab,dst⟩->¬Sound f.pb g i x):=Hd (fun h0 hs=>h0 (by
         obtain⟨env',h1,h2⟩:=hs.env;rw[HENVR.out]at h1;cases h1;have h3:=h2 _ (mG HE.out);rw[HOWN.out]at h3;exact h3))
        have HYU:Hid (∀y',g[(⟨lab,dst⟩:Eg).dst.toNat]? =some y'->y'=y):=Hd (fun y' hy'=>by
         have h1:=HQ1.out;dsimp only at h1 hy';rw[h1]at hy';simp only[Int.toNat_natCast]at hy';rw[HQ2.out]at hy';cases hy';rfl)
        have HOK2:=Hd hok2;clear hs hbf hbF hmf hok2 n0 n1 n2 n3 k0 k1 k2 k3;by_cases hin:lab∈own.map (·.name)++x.ctx.map (·.name)
        ·obtain⟨vv,hvv,hv0⟩:=HNAM.out.yes lab hin;rw[hvv]at hlk;have hlk':(Instr.lookup 120 (.map (some (w.heap.size+1+1+1))) (.string (bs lab)) false).run Tryz.prog wf=.ok (.int .i64 vv) wf:=hlk;have hvb:(vv==0)=false:=beq_eq_false_iff_ne.2 hv0;have HNM:Hid ((∃w∈own,w.name=lab)\/∃p∈x.ctx,p.name=lab):=Hd (by
          rcases List.mem_append.1 hin with h1 | h1
          ·obtain⟨q,hq,rfl⟩:=List.mem_map.1 h1;exact .inl ⟨q,hq,rfl⟩
          ·obtain⟨q,hq,rfl⟩:=List.mem_map.1 h1;exact .inr ⟨q,hq,rfl⟩)
         clear hlk hvv hin;rcases HOK2.out with⟨rfl,hr⟩ | ⟨rfl,cc,ccap,hr,hcn,hpr⟩
         ·have HF:Hid (¬Sound f.pb g i x):=Hd (HNOT.out (by
           rintro⟨y',h1,_,h2⟩;rw[HYU.out y' h1]at h2;have h3:ctxOf f.C f.m env ⟨y.name,y.v⟩=some y.ctx:=h2;rw[hr]at h3;cases h3))
          clear hr;go_wp2;go_returns;exact⟨Says.no HF.out rfl,HBF.out⟩
         ·have HRR:=Hd hr;have hpins:bN wf wf.heap.size (.slice ca cn cn) cc:=RowZ.clip hpr.at;have heqc:=jR wf (.slice ca cn cn) (.slice ya YN yc) cc y.ctx hpins ((RowZ.below HYP.out HBF.out nL).mono HBF.out.size) (by
           have h1:=(iY hr);have:=gG cc env (aX _ h1.1) h1.2.1;have:=HELN.out;omega) (by have:=HYL.out;omega)
          have HEQ:=Hd heqc;clear hr hcn hpr hpins heqc;go_wp2_with fail;refine HEQ.out.mono ?_;rintro e w9 ⟨rfl,mm,rfl⟩;cases hd:decide (cc=y.ctx)
          ·have HF:Hid (¬Sound f.pb g i x):=Hd (HNOT.out (by
            rintro⟨y',h1,_,h2⟩;rw[HYU.out y' h1]at h2;have h3:ctxOf f.C f.m env ⟨y.name,y.v⟩=some y.ctx:=h2;rw[HRR.out]at h3;simp only[iS]at h3;exact of_decide_eq_false hd h3))
           clear hd;go_wp2;go_returns;exact⟨Says.no HF.out rfl,VL.below_drewN HBF.out mm⟩
          ·have HNX:Hid (∀(t:Nat) e,t<k+1->x.edges[t]? =some e->rA f g own x env e):=Hd (fun t e ht he=>by
            rcases Nat.lt_or_ge t k with h1 | h1
            ·exact HFI.out t e h1 he
            ·have:t=k:=by omega
             subst this;rw[HE.out]at he;cases he;refine⟨y,?_,HNM.out,?_⟩
             ·have h1:=HQ1.out;dsimp only at h1 |-;rw[h1];simp only[Int.toNat_natCast];exact HQ2.out
             ·show ctxOf f.C f.m env ⟨y.name,y.v⟩=some y.ctx;rw[HRR.out,of_decide_eq_true hd])
           clear hd;go_wp2;go_roundw;case rel=>exact⟨k+1,by go_num,by omega,HNX.out,VL.below_drewN HW5F.out mm⟩
           case measure=>simp[intOf];omega
        ·have hvv:=HNAM.out.no lab hin;rw[hvv]at hlk;have hlk':(Instr.lookup 120 (.map (some (w.heap.size+1+1+1))) (.string (bs lab)) false).run Tryz.prog wf=.ok (.int .i64 0) wf:=hlk;have HF:Hid (¬Sound f.pb g i x):=Hd (HNOT.out (by
          rintro⟨y',_,h1,_⟩;refine hin ?_;rcases h1 with⟨q,hq,h2⟩ | ⟨q,hq,h2⟩
          ·exact List.mem_append_left _ (List.mem_map.2 ⟨q,hq,h2⟩)
          ·exact List.mem_append_right _ (List.mem_map.2 ⟨q,hq,h2⟩)))
         clear hlk hvv hin;go_wp2;go_returns;exact⟨Says.no HF.out rfl,HBF.out⟩
       ·have HS:Hid (Sound f.pb g i x):=Hd ⟨fun y hy=>by
         have h1:=HALL.out y (by rw[<-HOWN.out];exact hy);unfold lL at h1;exact h1,HALC.out,env,HENVR.out,fun e he=>by
         obtain⟨t,ht,rfl⟩:=eI.1 he;have h1:=HFI.out t _ (by rw[HEN.out]at hkE;omega) (gE ht);unfold rA at h1;rw[<-HOWN.out]at h1;exact h1⟩
        have hkz6:¬(k:Int)<(EN:Int):=by omega
        have HBE6:Hid (Below w.heap.size w wo):=Hd ((HUP.out w5 HB5.out).trans (hb.mono (by omega)));clear hb;go_wp2;go_returns;exact⟨Says.yes HS.out rfl,HBE6.out⟩
end
end Go.Proofs.YtcohlmdnahdnaaaGreatDoor
