/- Whether a graph's nodes and edges are such: the program's walk. -/
import Derived.Test.YtcohlmdnahdnaaaGreatDoorZTopU
namespace Go.Proofs.YtcohlmdnahdnaaaGreatDoor
open Go.RowKit
set_option linter.unusedVariables false
set_option linter.unusedSimpArgs false
set_option maxHeartbeats 16000000
set_option maxRecDepth 100000
section
open Top
namespace Top
def Ev(g:List Nd)(x:Nd)(k:Nat)(e:Eg):Prop:=(∀p,0<k->x.edges[k-1]? =some p->bytesBefore p.label e.label=true)/\∃(j:Nat) (y:Nd),e.dst=(j:Int)/\1<=j/\g[j]? =some y/\y.name=e.label
structure NodeOk(g:List Nd)(i:Nat)(x:Nd):Prop where
 ctx:bM (·.name) x.ctx
 first:0<i->∀(j:Nat) y,j<i->g[j]? =some y->bO y x=false
 edge:∀(k:Nat) e,x.edges[k]? =some e->Ev g x k e
theorem xC(x y:Nd):bO x y=bO y x:=by
 rw[Bool.eq_iff_iff,same_iff,same_iff];constructor<;>(rintro⟨a,b,c⟩;exact⟨a.symm,b.symm,c.symm⟩)
theorem qF{g:List Nd}(F:Formed g){i:Nat}{x:Nd}(hx:g[i]? =some x):NodeOk g i x where
 ctx:=F.ctx i x hx
 first _ j y hj hy:=by rw[xC];exact F.diff i j x y hj hx hy
 edge k e he:=by
  refine⟨fun p hk hp=>?_,?_⟩
  ·have:=zY (F.lab i x hx) hp (by rw[show k-1+1=k by omega];exact he);exact this
  ·exact F.dst i x e hx (mG he)
theorem Je{g:List Nd}(h1:1<=g.length)(h2:g.length<=128)(h3:∀x,g[0]? =some x->x.name=[]/\x.v=v0/\x.ctx=[])(h4:∀(i:Nat) x,g[i]? =some x->NodeOk g i x)(h5:∀j,j<g.length->Reached g j):Formed g where
 some':=h1
 few:=h2
 root:=h3
 ctx i x hx:=(h4 i x hx).ctx
 diff i j x y hj hx hy:=by rw[xC];exact(h4 i x hx).first (by omega) j y hj hy
 lab i x hx:=mD fun j a b ha hb=>((h4 i x hx).edge (j+1) b hb).1 a (by omega) (by rw[Nat.add_sub_cancel];exact ha)
 dst i x e hx he:=by
  obtain⟨k,hk,rfl⟩:=eI.1 he;exact((h4 i x hx).edge k _ (gE hk)).2
 reach:=h5
theorem Fh{g:List Nd}(h:g.length<1\/128<g.length):¬Formed g:=fun F=>by
 have:=F.some';have:=F.few;omega
end Top
theorem Du(w:World)(v:Value)(g:List Nd)(h:NdsAt w w.heap.size v g)(hn:g.length<=1000000000)(hz:∀x∈g,wV x):
 Calls Tryz.prog 20 #[.agg #[v]] w fun e w'=>Says e (Formed g)/\Below w.heap.size w w':=by
 by_cases hsm:g.length<1
 ·obtain⟨a,c,rfl⟩:=h.form;have HF:Hid (¬Formed g):=Hd (Fh (Or.inl hsm));obtain⟨N,hN⟩:=ex (g.length);rw[<-hN]at hsm |-;have q1:(N:Int)<1:=by omega
  clear h hz hN hn;go_enter Tryz.func20,Tryz.ntmps20;go_wp2;go_returns;exact⟨Says.no HF.out rfl,(bR _ w).alloc nL _⟩
 by_cases hbg:128<g.length
 ·obtain⟨a,c,rfl⟩:=h.form;have HF:Hid (¬Formed g):=Hd (Fh (Or.inr hbg));obtain⟨N,hN⟩:=ex (g.length);rw[<-hN]at hsm hbg |-;have q1:¬(N:Int)<1:=by omega
  have q2:(128:Int)<(N:Int):=by omega
  clear h hz hN hn;go_enter Tryz.func20,Tryz.ntmps20;go_wp2;go_returns;exact⟨Says.no HF.out rfl,(bR _ w).alloc nL _⟩
 have HG:=Hd h;obtain⟨bk,o,cap,hve,hcap,hbk,hat⟩:=h.at (by omega);subst hve;have HAT:=Hd hat;have HZ:=Hd hz;obtain⟨r,hr⟩:∃r,g[0]? =some r:=⟨_,gE (by omega)⟩;obtain⟨ra,rc,ra',rc',hrp,hre,r0,r1,r2,r3,r4,r5⟩:=hat 0 r hr;have HR:=Hd hr;obtain⟨N,hN⟩:=ex (g.length);rw[<-hN]at hsm hbg hcap |-;have HN:=Hd hN;have q1:¬(N:Int)<1:=by omega
 have q2:¬(128:Int)<(N:Int):=by omega
 have q3:(0:Int)<(N:Int):=by omega
 have HPR:=Hd hrp;clear h hz hat hr hN hrp hre hn;obtain⟨nr,hnr⟩:=ex (r.name);obtain⟨va,hva⟩:=ex (r.v.a);obtain⟨vb,hvb⟩:=ex (r.v.b);obtain⟨vc,hvc⟩:=ex (r.v.c);obtain⟨cl,hcl⟩:=ex (r.ctx.length);obtain⟨el,hel⟩:=ex (r.edges.length);have HVE:Hid (r.v=⟨va,vb,vc⟩):=Hd (by rw[hva,hvb,hvc]);unfold sv at r0;rw[<-hnr]at r0;rw[<-hva]at r1;rw[<-hvb]at r2;rw[<-hvc]at r3;rw[<-hcl]at r4;rw[<-hel]at r5;have HNR:=Hd hnr;have HCL:=Hd hcl;clear hnr hva hvb hvc hcl hel;have hba:=(bR w.heap.size w).alloc nL (.cells #[.slice (some ⟨bk,o,none⟩) N cap] 35);have r0:=(hba.cell (p:=⟨bk,o+0*6,none⟩) hbk).trans r0;have r1:=(hba.cell (p:=⟨bk,o+0*6+1,none⟩) hbk).trans r1;have r2:=(hba.cell (p:=⟨bk,o+0*6+2,none⟩) hbk).trans r2;have r3:=(hba.cell (p:=⟨bk,o+0*6+3,none⟩) hbk).trans r3;have r4:=(hba.cell (p:=⟨bk,o+0*6+4,none⟩) hbk).trans r4
 have r5:=(hba.cell (p:=⟨bk,o+0*6+5,none⟩) hbk).trans r5;rw[Nat.zero_mul,Nat.add_zero]at r0 r1 r2 r3 r4 r5;have hbw:=hba.alloc hba.size (.cells #[.string (bs nr),.int .i64 va,.int .i64 vb,.int .i64 vc,.slice ra cl rc,.slice ra' el rc'] 57);have hcw:∀W,Below (w.heap.size+2) ((w.alloc (.cells #[.slice (some ⟨bk,o,none⟩) N cap] 35)).alloc (.cells #[.string (bs nr),.int .i64 va,.int .i64 vb,.int .i64 vc,.slice ra cl rc,.slice ra' el rc'] 57)) W->W.cell? ⟨w.heap.size,0,none⟩=some (.slice (some ⟨bk,o,none⟩) N cap):=fun W hW=>(hW.cell (p:=⟨w.heap.size,0,none⟩) (by show w.heap.size<_;omega)).trans ((aD (by simp)).trans (aB rfl rfl));have hsw:((w.alloc (.cells #[.slice (some ⟨bk,o,none⟩) N cap] 35)).alloc (.cells #[.string (bs nr),.int .i64 va,.int .i64 vb,.int .i64 vc,.slice ra cl rc,.slice ra' el rc'] 57)).heap.size=w.heap.size+2:=by simp
 have HBW:=Hd hbw;have HCW:=Hd hcw;have HSW:=Hd hsw;clear hba hbw hcw hsw;by_cases hq0:nr=[];case neg=>
  have HF:Hid (¬Formed g):=Hd (fun F=>hq0 (by rw[HNR.out];exact(F.root r HR.out).1));have hq:((bs nr).toList==([]:List UInt8))=false:=by rw[aA];simpa using hq0
  have hq2:¬(bs nr).toList=([]:List UInt8):=by rw[aA];exact hq0
  go_enter Tryz.func20,Tryz.ntmps20;go_wp2;go_returns;exact⟨Says.no HF.out rfl,HBW.out⟩
 have hq:((bs nr).toList==([]:List UInt8))=true:=by rw[aA];simpa using hq0
 have hq2:(bs nr).toList.isEmpty=true:=by rw[aA,hq0];rfl
 have HQ0:=Hd hq0;clear hq0;cases hvs:VL.V.same va vb vc 0 0 0;case false=>
  have HF:Hid (¬Formed g):=Hd (fun F=>by
   have:=(F.root r HR.out).2.1;rw[HVE.out]at this;unfold v0 at this;injection this with e1 e2 e3
   rw[e1,e2,e3]at hvs;exact absurd hvs (by decide))
  go_enter Tryz.func20,Tryz.ntmps20;go_wp2;go_returns;exact⟨Says.no HF.out rfl,HBW.out⟩
 by_cases hc0:cl=0;case neg=>
  have HF:Hid (¬Formed g):=Hd (fun F=>by
   have:=(F.root r HR.out).2.2;exact hc0 (by rw[HCL.out,this];rfl))
  have q5:(0:Int)<(cl:Int):=by omega
  go_enter Tryz.func20,Tryz.ntmps20;go_wp2;go_returns;exact⟨Says.no HF.out rfl,HBW.out⟩
 have q5:¬(0:Int)<(cl:Int):=by omega
 have HROOT:Hid (∀x,g[0]? =some x->x.name=[]/\x.v=v0/\x.ctx=[]):=Hd (fun x hx=>by
  rw[HR.out]at hx;cases hx;refine⟨by rw[<-HNR.out];exact HQ0.out,?_,List.length_eq_zero_iff.1 (by rw[<-HCL.out];exact hc0)⟩;obtain⟨e1,e2,e3⟩:=nK.1 hvs;rw[HVE.out,e1,e2,e3];rfl)
 subst hc0;have mixed:Tryz.prog.follows Departure.mixedOrders=true:=by kernel_rfl
 have HRI:Hid (∀W,Below w.heap.size w W->∀(i:Nat) x a c,g[i]? =some x->bN w w.heap.size (.slice a x.ctx.length c) x.ctx->Calls Tryz.prog 48 #[.slice a x.ctx.length c] W fun e w'=>Says e (bM (·.name) x.ctx)/\∃m,w'=W.drewN m):=Hd (fun W hW i x a c hx hp=>
  Hf W _ x.ctx ((RowZ.below hp hW nL).mono hW.size) (by have:=(HZ.out x (mG hx)).1;omega))
 have HFI:Hid (∀W,Below w.heap.size w W->∀(i:Nat) x a c,g[i]? =some x->bN w w.heap.size (.slice a x.ctx.length c) x.ctx->Calls Tryz.prog 49 #[.agg #[.slice (some ⟨bk,o,none⟩) N cap],.string (bs x.name),wM x.v,.slice a x.ctx.length c] W fun e w'=>e=.returned (.int .i64 (nW g x))/\Below W.heap.size W w'):=Hd (fun W hW i x a c hx hp=>by
  refine Mx W _ g ?_ (by have:=HN.out;omega) (fun y hy=>(HZ.out y hy).1) x a c ((RowZ.below hp hW nL).mono hW.size) (HZ.out x (mG hx)).1;have hh:=(HG.out.below hW nL).mono hW.size;rw[<-HN.out]at hh;exact hh)
 have HRE:Hid (∀W,Below w.heap.size w W->(∀x∈g,∀e∈x.edges,∃j:Nat,e.dst=(j:Int)/\j<g.length)->Calls Tryz.prog 50 #[.agg #[.slice (some ⟨bk,o,none⟩) N cap]] W fun e w'=>∃a n c,e=.returned (.slice a n c)/\(n=N↔∀j,j<g.length->Reached g j)/\n<=128/\Below W.heap.size W w'):=Hd (fun W hW hd=>by
  have:=Hg W _ g ((HG.out.below hW nL).mono hW.size) (by have:=HN.out;omega) (by have:=HN.out;omega) HZ.out hd;rw[<-HN.out]at this;rw[<-HN.out];exact this)
 go_enter Tryz.func20,Tryz.ntmps20;go_wp2;go_loopw [40] (fun p wr=>∃i:Nat,p=.int .i64 i/\i<=N/\(∀(j:Nat) y,j<i->g[j]? =some y->NodeOk g j y)/\Below (w.heap.size+2) ((w.alloc (.cells #[.slice (some ⟨bk,o,none⟩) N cap] 35)).alloc (.cells #[.string (bs nr),.int .i64 va,.int .i64 vb,.int .i64 vc,.slice ra 0 rc,.slice ra' el rc'] 57)) wr) (fun p _=>N-(intOf p).toNat);case atStart=>exact⟨0,rfl,by omega,fun j y h=>absurd h (by omega),bR _ _⟩
 case round=>
  clear r0 r1 r2 r3 r4 r5 hq hq2 hvs q1 q2 q3 q5;obtain⟨wo,rfl⟩:∃x,x=wr:=⟨wr,rfl⟩;obtain⟨i,rfl,hi,hall,hbo⟩:=hrel;have HALL:=Hd hall;have hc:=HCW.out _ hbo;have hb:=HBW.out.trans (hbo.mono (by omega));have HBO:=Hd hbo;have hz0:=hbo.size;rw[HSW.out]at hz0;clear hall hbo;by_cases hiN:i<N
  ·obtain⟨x,hx⟩:∃x,g[i]? =some x:=⟨_,gE (by have:=HN.out;omega)⟩;obtain⟨xa,xc,xa2,xc2,hxp,hxe,x0,x1,x2,x3,x4,x5⟩:=HAT.out i x hx;have x0:=(hb.cell (p:=⟨bk,o+i*6,none⟩) hbk).trans x0;have x1:=(hb.cell (p:=⟨bk,o+i*6+1,none⟩) hbk).trans x1;have x2:=(hb.cell (p:=⟨bk,o+i*6+2,none⟩) hbk).trans x2;have x3:=(hb.cell (p:=⟨bk,o+i*6+3,none⟩) hbk).trans x3;have x4:=(hb.cell (p:=⟨bk,o+i*6+4,none⟩) hbk).trans x4;have x5:=(hb.cell (p:=⟨bk,o+i*6+5,none⟩) hbk).trans x5;have HX:=Hd hx;have hri:=fun W hW=>HRI.out W hW i x xa xc hx hxp;have hfi:=fun W hW=>HFI.out W hW i x xa xc hx hxp;obtain⟨p0,hp0⟩:=ex (bs x.name);obtain⟨p1,hp1⟩:=ex (x.v.a);obtain⟨p2,hp2⟩:=ex (x.v.b);obtain⟨p3,hp3⟩:=ex (x.v.c);obtain⟨p4,hp4⟩:=ex (x.ctx.length);obtain⟨M,hM⟩:=ex (x.edges.length);have hM1:M<=1000000000:=by rw[hM];exact(HZ.out x (mG hx)).2
   unfold sv at x0;unfold wM at hfi;rw[<-hp0]at x0;rw[<-hp1]at x1;rw[<-hp2]at x2;rw[<-hp3]at x3;rw[<-hp4]at x4;rw[<-hM]at x5;rw[<-hp0,<-hp1,<-hp2,<-hp3,<-hp4]at hfi;rw[<-hp4]at hri;have HMM:=Hd hM;have HEG:=Hd hxe;have HRX:=Hd hri;have HFX:=Hd hfi;have hba:=hb.alloc hb.size (.cells #[.string p0,.int .i64 p1,.int .i64 p2,.int .i64 p3,.slice xa p4 xc,.slice xa2 M xc2] 57);obtain⟨wa,hwa⟩:=ex (wo.alloc (.cells #[.string p0,.int .i64 p1,.int .i64 p2,.int .i64 p3,.slice xa p4 xc,.slice xa2 M xc2] 57));rw[<-hwa]at hba;have hboa:Below (w.heap.size+2) ((w.alloc (.cells #[.slice (some ⟨bk,o,none⟩) N cap] 35)).alloc (.cells #[.string (bs nr),.int .i64 va,.int .i64 vb,.int .i64 vc,.slice ra 0 rc,.slice ra' el rc'] 57)) wa:=by rw[hwa];exact HBO.out.alloc (by omega) _
   have hcell:∀W,Below wa.heap.size wa W->W.cell? ⟨wo.heap.size,0,none⟩=some (.string p0)/\W.cell? ⟨wo.heap.size,1,none⟩=some (.int .i64 p1)/\W.cell? ⟨wo.heap.size,2,none⟩=some (.int .i64 p2)/\W.cell? ⟨wo.heap.size,3,none⟩=some (.int .i64 p3)/\W.cell? ⟨wo.heap.size,4,none⟩=some (.slice xa p4 xc)/\W.cell? ⟨wo.heap.size,5,none⟩=some (.slice xa2 M xc2)/\W.cell? ⟨w.heap.size,0,none⟩=some (.slice (some ⟨bk,o,none⟩) N cap):=fun W hW=>by
    have hl:wo.heap.size<wa.heap.size:=by rw[hwa];simp
    refine⟨(hW.cell (p:=⟨wo.heap.size,0,none⟩) hl).trans ?_,(hW.cell (p:=⟨wo.heap.size,1,none⟩) hl).trans ?_,(hW.cell (p:=⟨wo.heap.size,2,none⟩) hl).trans ?_,(hW.cell (p:=⟨wo.heap.size,3,none⟩) hl).trans ?_,(hW.cell (p:=⟨wo.heap.size,4,none⟩) hl).trans ?_,(hW.cell (p:=⟨wo.heap.size,5,none⟩) hl).trans ?_,?_⟩;all_goals first | (rw[hwa];exact aB rfl rfl) | exact HCW.out _ (hboa.trans (hW.mono (by omega)))
   have HCELL:=Hd hcell;have HBA:=Hd hba;have HBOA:=Hd hboa;have HWZ:Hid (wa.heap.size=wo.heap.size+1):=Hd (by rw[hwa];simp);have HWA:=Hd hwa;clear hx hxp hxe hp0 hp1 hp2 hp3 hp4 hM hri hfi hba hboa hcell hwa hb hc;have hiz:(i:Int)<(N:Int):=by omega
   go_wp2_with fail;rw[<-HWA.out];refine(HRX.out _ HBA.out).mono ?_;rintro e w1 ⟨⟨b1,rfl,hb1⟩,m1,rfl⟩;clear x0 x1 x2 x3 x4 x5;obtain⟨c0,c1,c2,c3,c4,c5,c6⟩:=HCELL.out _ (VL.below_drewN (bR _ wa) m1);cases b1;case false=>
    have HF:Hid (¬Formed g):=Hd (fun F=>by
     have:=hb1.2 (F.ctx i x HX.out);exact absurd this (by simp))
    clear hb1;go_wp2;go_returns;exact⟨Says.no HF.out rfl,VL.below_drewN HBA.out m1⟩
   have HRISE:=Hd (hb1.1 rfl);clear hb1;rcases Nat.eq_zero_or_pos i with hi0 | hi0
   have q7:¬(0:Int)<(i:Int):=by omega
   have HFST:Hid (0<i->∀(j:Nat) y,j<i->g[j]? =some y->bO y x=false):=Hd (fun h=>absurd h (by omega));have HB2:Hid (Below wa.heap.size wa (wa.drewN m1)):=Hd (VL.below_drewN (bR _ wa) m1);obtain⟨w2,hw2⟩:=ex (wa.drewN m1);rw[<-hw2]at c0 c1 c2 c3 c4 c5 c6 HB2;have HW2:=Hd hw2;rw[<-hw2];clear hw2;go_wp2_with fail
   rotate_left
   have q7:(0:Int)<(i:Int):=by omega
   go_wp2_with fail;refine(HFX.out _ (VL.below_drewN HBA.out m1)).mono ?_;rintro e w2 ⟨rfl,hb2⟩;have HB2:Hid (Below wa.heap.size wa w2):=Hd ((VL.below_drewN (bR _ wa) m1).trans hb2);obtain⟨c0,c1,c2,c3,c4,c5,c6⟩:=HCELL.out _ HB2.out;clear hb2;have HFI2:Hid (nW g x=(i:Int)↔∀(j:Nat) y,j<i->g[j]? =some y->bO y x=false):=Hd (Jf (fun k y hy=>by rw[hy]) HX.out (by rw[same_iff];exact⟨rfl,rfl,rfl⟩));obtain⟨fx,hfx⟩:=ex (nW g x);rw[<-hfx]at HFI2;rw[<-hfx];clear hfx;by_cases hfe:fx=(i:Int);case neg=>
    have HF:Hid (¬Formed g):=Hd (fun F=>hfe (HFI2.out.2 ((qF F HX.out).first hi0)));have q8:(fx==(i:Int))=false:=by simpa using hfe
    go_wp2;go_returns;exact⟨Says.no HF.out rfl,HBA.out.trans (HB2.out.mono HBA.out.size)⟩
   have HFST:Hid (0<i->∀(j:Nat) y,j<i->g[j]? =some y->bO y x=false):=Hd (fun _=>HFI2.out.1 hfe);subst hfe;have q8:((i:Int)==(i:Int))=true:=by simp
   go_wp2
   rotate_left
   all_goals
    clear c0 c1 c2 c3 c4 c5 c6;go_loopw [68] (fun p wr=>∃k:Nat,p=.int .i64 k/\k<=M/\(∀(t:Nat) e,t<k->x.edges[t]? =some e->Ev g x t e)/\Below wa.heap.size wa wr) (fun p _=>M-(intOf p).toNat);case atStart=>exact⟨0,rfl,by omega,fun t e h=>absurd h (by omega),HB2.out⟩
    case round=>
     obtain⟨wq,rfl⟩:∃x,x=wr:=⟨wr,rfl⟩;obtain⟨k,rfl,hk,hok,hbq⟩:=hrel;have HOK:=Hd hok;clear hok;have hb:=HBA.out.trans (hbq.mono HBA.out.size);by_cases hkM:k<M
     ·obtain⟨ed,hed⟩:∃y,x.edges[k]? =some y:=⟨_,gE (by have:=HMM.out;omega)⟩;obtain⟨bk2,o2,cap2,hve2,hcap2,hbk2,hat2⟩:=HEG.out.at (by have:=HMM.out;omega);have hve3:(Value.slice xa2 M xc2)=.slice (some ⟨bk2,o2,none⟩) M cap2:=by rw[HMM.out];exact hve2
      cases hve3;obtain⟨f0,f1⟩:=hat2 k ed hed;have f0:=(hb.cell (p:=⟨bk2,o2+k*2,none⟩) hbk2).trans f0;have f1:=(hb.cell (p:=⟨bk2,o2+k*2+1,none⟩) hbk2).trans f1;obtain⟨nl,hnl⟩:=ex (ed.label);obtain⟨ds,hds⟩:=ex (ed.dst);unfold sv at f0;rw[<-hnl]at f0;rw[<-hds]at f1;have HNL:=Hd hnl;have HED:=Hd hed;have hbe:=hb.alloc hb.size (.cells #[.string (bs nl),.int .i64 ds] 111);have hbqe:=hbq.alloc hbq.size (.cells #[.string (bs nl),.int .i64 ds] 111);obtain⟨c0,c1,c2,c3,c4,c5,c6⟩:=HCELL.out _ hbqe.drew;have e0:(wq.alloc (.cells #[.string (bs nl),.int .i64 ds] 111)).drew.cell? ⟨wq.heap.size,0,none⟩=some (.string (bs nl)):=aB rfl rfl;have e1:(wq.alloc (.cells #[.string (bs nl),.int .i64 ds] 111)).drew.cell? ⟨wq.heap.size,1,none⟩=some (.int .i64 ds):=aB rfl rfl;have HBE:=Hd hbe;have HBQ:=Hd hbqe;clear hnl hed hbe hbqe hve2 hcap2 hb hbq c0 c1 c2 c3 c4
      rcases Nat.eq_zero_or_pos k with hk0 | hk0
      have HLAB:Hid (∀p,0<k->x.edges[k-1]? =some p->bytesBefore p.label ed.label=true):=Hd (fun p h=>absurd h (by omega));have q1:¬0<k:=by omega
      clear hk0
      rotate_left
      obtain⟨pe,hpe⟩:∃y,x.edges[k-1]? =some y:=⟨_,gE (by have:=HMM.out;omega)⟩;obtain⟨p0,_⟩:=hat2 (k-1) pe hpe;have p0:=(HBE.out.drew.cell (p:=⟨bk2,o2+(k-1)*2,none⟩) hbk2).trans p0;obtain⟨np,hnp⟩:=ex (pe.label);unfold sv at p0;rw[<-hnp]at p0;have HPE:=Hd hpe;have HNP:=Hd hnp;have q1:(0:Int)<(k:Int):=by omega
      have q2:(0:Int)<=(k:Int)-1:=by omega
      have q3:(k:Int)-1<(M:Int):=by omega
      have q4:((k:Int)-1).toNat=k-1:=by omega
      clear hpe hnp;cases hbf:bytesBefore np nl
      ·have HF:Hid (¬Formed g):=Hd (fun F=>by
        have:=((qF F HX.out).edge k ed HED.out).1 pe hk0 HPE.out;rw[<-HNP.out,<-HNL.out,hbf]at this;exact absurd this (by simp))
       have hb1:Op.bytesLess (bs np).toList (bs nl).toList=false:=by rw[aA,aA,Lock.vZ];exact hbf
       clear hbf hds;go_wp2;go_big_region_o;go_wp2;go_returns;exact⟨Says.no HF.out rfl,HBE.out.drew⟩
      have HLAB:Hid (∀p,0<k->x.edges[k-1]? =some p->bytesBefore p.label ed.label=true):=Hd (fun p _ hp=>by
       rw[HPE.out]at hp;cases hp;rw[<-HNP.out,<-HNL.out,hbf])
      have hb1:Op.bytesLess (bs np).toList (bs nl).toList=true:=by rw[aA,aA,Lock.vZ];exact hbf
      clear hbf
      rotate_left
      all_goals
       by_cases h1:ed.dst<1
       ·have HF:Hid (¬Formed g):=Hd (fun F=>by
         have:=(qF F HX.out).edge k ed HED.out;obtain⟨j,y,h2,h3,_⟩:=this.2;omega)
        rw[<-hds]at h1;have h1':ds<=0:=by omega
        clear hds;go_wp2;go_big_region_o;go_wp2;go_returns;exact⟨Says.no HF.out rfl,HBE.out.drew⟩
       ·by_cases h2:(N:Int)<=ed.dst
        ·have HF:Hid (¬Formed g):=Hd (fun F=>by
          have:=(qF F HX.out).edge k ed HED.out;obtain⟨j,y,h3,h4,h5,_⟩:=this.2;have:=(gS h5).1;have:=HN.out;omega)
         rw[<-hds]at h1 h2;have h1':¬ds<=0:=by omega
         have d1:decide (ds<1)=false:=decide_eq_false h1;have d2:decide (ds<=0)=false:=decide_eq_false h1';have d3:decide ((N:Int)<=ds)=true:=decide_eq_true h2;clear hds;go_wp2;go_big_region_o;go_wp2;go_returns;exact⟨Says.no HF.out rfl,HBE.out.drew⟩
        ·obtain⟨j,hj⟩:∃j:Nat,ed.dst=(j:Int):=⟨ed.dst.toNat,by omega⟩;have hjN:j<N:=by omega
         obtain⟨y,hy⟩:∃y,g[j]? =some y:=⟨_,gE (by have:=HN.out;omega)⟩;obtain⟨_,_,_,_,_,_,y0,_⟩:=HAT.out j y hy;have y0:=(HBE.out.drew.cell (p:=⟨bk,o+j*6,none⟩) hbk).trans y0;obtain⟨ny,hny⟩:=ex (y.name);unfold sv at y0;rw[<-hny]at y0;have HNY:=Hd hny;have HY:=Hd hy;have HJ:=Hd hj;rw[<-hds]at h1 h2 hj;have h1n:1<=j:=by omega
         have h1':¬ds<=0:=by omega
         have d1:decide (ds<1)=false:=decide_eq_false h1;have d2:decide (ds<=0)=false:=decide_eq_false h1';have d3:decide ((N:Int)<=ds)=false:=decide_eq_false h2;have g3:(0:Int)<=ds:=by omega
         have g4:ds<(N:Int):=by omega
         have g5:ds.toNat=j:=by omega
         clear hny hy hds hj;by_cases hnm:ny=nl
         ·have HNX:Hid (∀(t:Nat) e,t<k+1->x.edges[t]? =some e->Ev g x t e):=Hd (fun t e ht he=>by
           rcases Nat.lt_or_ge t k with h | h
           ·exact HOK.out t e h he
           ·have:t=k:=by omega
            subst this;rw[HED.out]at he;cases he;exact⟨HLAB.out,j,y,HJ.out,h1n,HY.out,by rw[<-HNY.out,hnm,HNL.out]⟩)
          have hq:((bs ny).toList==(bs nl).toList)=true:=by rw[aA,aA];simpa using hnm
          have hq2:(bs ny).toList=(bs nl).toList:=by rw[aA,aA];exact hnm
          clear hnm;go_wp2;go_big_region_o;go_wp2;go_roundw;case rel=>exact⟨k+1,by go_num,by omega,HNX.out,HBQ.out.drew⟩
          case measure=>simp[intOf];omega
         ·have HF:Hid (¬Formed g):=Hd (fun F=>by
           have:=(qF F HX.out).edge k ed HED.out;obtain⟨j',y',h3,h4,h5,h6⟩:=this.2;rw[HJ.out]at h3;have:j=j':=by omega
           subst this;rw[HY.out]at h5;cases h5;exact hnm (by rw[HNY.out,h6,HNL.out]))
          have hq:((bs ny).toList==(bs nl).toList)=false:=by rw[aA,aA];simpa using hnm
          have hq2:¬(bs ny).toList=(bs nl).toList:=by rw[aA,aA];exact hnm
          clear hnm;go_wp2;go_big_region_o;go_wp2;go_returns;exact⟨Says.no HF.out rfl,HBE.out.drew⟩
     ·have HOKN:Hid (NodeOk g i x):=Hd ⟨HRISE.out,HFST.out,fun t e he=>HOK.out t e (by have:=(gS he).1;have:=HMM.out;omega) he⟩;have HNX:Hid (∀(j:Nat) y,j<i+1->g[j]? =some y->NodeOk g j y):=Hd (fun j y hj hy=>by
       rcases Nat.lt_or_ge j i with h | h
       ·exact HALL.out j y h hy
       ·have:j=i:=by omega
        subst this;rw[HX.out]at hy;cases hy;exact HOKN.out)
      have hbn:=HBOA.out.trans (hbq.mono (by have:=HWZ.out;omega));go_wp2;go_roundw;case rel=>exact⟨i+1,by go_num,by omega,HNX.out,hbn⟩
      case measure=>simp[intOf];omega
  ·have HREX:=HRE;have HFE:Hid ((∀j,j<g.length->Reached g j)↔Formed g):=Hd ⟨fun hr=>Je (by have:=HN.out;omega) (by have:=HN.out;omega) HROOT.out (fun j y hy=>HALL.out j y (by have:=(gS hy).1;have:=HN.out;omega) hy) hr,fun F=>F.reach⟩;have HDST:Hid (∀x∈g,∀e∈x.edges,∃j:Nat,e.dst=(j:Int)/\j<g.length):=Hd (fun x hx e he=>by
    obtain⟨j,hj,rfl⟩:=eI.1 hx;obtain⟨k,hk,rfl⟩:=eI.1 he;obtain⟨u,y,h1,_,h2,_⟩:=((HALL.out j _ (by have:=HN.out;omega) (gE hj)).edge k _ (gE hk)).2;exact⟨u,h1,(gS h2).1⟩)
   have HBB:=Hd hb;have HCC:Hid (∀W,Below wo.heap.size wo W->W.cell? ⟨w.heap.size,0,none⟩=some (.slice (some ⟨bk,o,none⟩) N cap)):=Hd (fun W hW=>HCW.out _ (HBO.out.trans (hW.mono (by omega))));clear hb;go_wp2;refine rG (fun w'=>w'.cell? ⟨w.heap.size,0,none⟩=some (.slice (some ⟨bk,o,none⟩) N cap)) (HCC.out _ (bR _ wo).drew) fun hU=>?_;refine aM [0,3,4,5] ?_;refine rd 1 fun K hK=>?_;go_simp;go_at_call 50;refine(HREX.out _ HBB.out.drew HDST.out).mono ?_;rintro e w5 ⟨a5,n5,c5,rfl,hiff,hn5,hb5⟩;have HIFF:=Hd hiff;have HB5:=Hd hb5;clear hiff hb5;by_cases hnN:n5=N
   ·subst hnN;have hq:((n5:Int)==(n5:Int))=true:=by simp
    refine hK.out _ _ (HCC.out _ ((bR _ wo).drew.trans HB5.out)) fun hU=>?_;clear hK K;refine aM [2,6,7] ?_;refine dN ?_;go_wp2;go_returns;exact⟨Says.yes (HFE.out.1 (by first | exact HIFF.out.1 rfl | exact HIFF.out.1 trivial)) rfl,HBB.out.drew.trans (HB5.out.mono HBB.out.drew.size)⟩
   ·have HNE:=Hd hnN;have hq:((n5:Int)==(N:Int))=false:=by rw[beq_eq_false_iff_ne];omega
    have hq2:¬(n5:Int)=(N:Int):=by omega
    refine hK.out _ _ (HCC.out _ ((bR _ wo).drew.trans HB5.out)) fun hU=>?_;clear hK K;refine aM [2,6,7] ?_;refine dN ?_;go_wp2;go_returns;exact⟨Says.no (fun F=>HNE.out (HIFF.out.2 (HFE.out.2 F))) rfl,HBB.out.drew.trans (HB5.out.mono HBB.out.drew.size)⟩
end
end Go.Proofs.YtcohlmdnahdnaaaGreatDoor
