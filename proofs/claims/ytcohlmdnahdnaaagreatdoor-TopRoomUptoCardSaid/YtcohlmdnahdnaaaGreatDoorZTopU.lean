/- What a graph's root reaches: the program's walk. -/
import Derived.Test.YtcohlmdnahdnaaaGreatDoorZCat3
import Derived.Test.YtcohlmdnahdnaaaGreatDoorZSortInts
import Derived.Test.YtcohlmdnahdnaaaGreatDoorZWn5
namespace Go.Proofs.YtcohlmdnahdnaaaGreatDoor
open Go.RowKit
set_option linter.unusedVariables false
set_option linter.unusedSimpArgs false
set_option maxHeartbeats 16000000
set_option maxRecDepth 100000
section
open Go.RowKit Go.Maps Go.Sort
open Top
namespace Top
theorem rM:∀(n:Nat) (l:List Nat),l.Nodup->(∀x∈l,x<n)->l.length<=n
 | 0,l,_,h=>by
  match l,h with
  | [],_=>exact nL
  | x::r,h=>exact absurd (h x List.mem_cons_self) (by omega)
 | n+1,l,hd,h=>by
  have h1:(l.erase n).length<=n:=rM n _ (hd.erase n) fun x hx=>by
   have h2:=h x (List.mem_of_mem_erase hx);have:x≠n:=fun e=>by
    subst e;exact(List.Nodup.not_mem_erase hd) hx
   omega
  have:=List.length_erase (a:=n) (l:=l);split at this<;>omega
theorem xL:∀(l m:List Nat),l.Nodup->(∀x∈l,x∈m)->l.length<=m.length
 | [],m,_,_=>Nat.zero_le _
 | x::r,m,hd,h=>by
  obtain⟨h1,h2⟩:=List.nodup_cons.1 hd;have hx:=h x List.mem_cons_self;have:=xL r (m.erase x) h2 fun y hy=>(List.mem_erase_of_ne fun e=>h1 (by rw[<-e];exact hy)).2 (h y (mC _ hy));rw[List.length_erase_of_mem hx]at this;have:=List.length_pos_of_mem hx;simp only[lC];omega
theorem Dc{n:Nat}{l:List Nat}(hd:l.Nodup)(h:∀x∈l,x<n)(hl:l.length=n){j:Nat}(hj:j<n):j∈l:=by
 refine Decidable.byContradiction fun hn=>?_;have:=rM n (j::l) (List.nodup_cons.2 ⟨hn,hd⟩) fun x hx=>by
  rcases List.mem_cons.1 hx with rfl | hx
  ·exact hj
  ·exact h x hx
 simp at this;omega
structure Seen(g:List Nd)(out:List Nat)(i k:Nat):Prop where
 nodup:out.Nodup
 here:∀x∈out,x<g.length/\Reached g x
 zero:0∈out
 done:∀(j x:Nat),j<i->out[j]? =some x->∀nd,g[x]? =some nd->∀e∈nd.edges,∀y:Nat,e.dst=(y:Int)->y<g.length->y∈out
 now:∀x,out[i]? =some x->∀nd,g[x]? =some nd->∀(t:Nat) (e:Eg),t<k->nd.edges[t]? =some e->∀y:Nat,e.dst=(y:Int)->y<g.length->y∈out
theorem Seen.start{g:List Nd}(h:0<g.length):Seen g [0] 0 0 where
 nodup:=by simp
 here x hx:=by
  simp only[mI]at hx;subst hx;exact⟨h,.root⟩
 zero:=by simp
 done j x hj:=absurd hj (by omega)
 now x hx nd hnd t e ht:=absurd ht (by omega)
theorem Seen.skip{g:List Nd}{out:List Nat}{i k x:Nat}{nd:Nd}{e:Eg}(h:Seen g out i k)(hx:out[i]? =some x)(hnd:g[x]? =some nd)(he:nd.edges[k]? =some e)(hs:∀y:Nat,e.dst=(y:Int)->y<g.length->y∈out):Seen g out i (k+1) where
 nodup:=h.nodup
 here:=h.here
 zero:=h.zero
 done:=h.done
 now x' hx' nd' hnd' t e' ht he' y hy hyl:=by
  rcases Nat.lt_or_ge t k with h1 | h1
  ·exact h.now x' hx' nd' hnd' t e' h1 he' y hy hyl
  ·have:t=k:=by omega
   subst this;rw[hx]at hx';cases hx';rw[hnd]at hnd';cases hnd';rw[he]at he';cases he';exact hs y hy hyl
theorem Seen.add{g:List Nd}{out:List Nat}{i k x:Nat}{nd:Nd}{e:Eg}(h:Seen g out i k)(hx:out[i]? =some x)(hnd:g[x]? =some nd)(he:nd.edges[k]? =some e){y:Nat}(hy:e.dst=(y:Int))(hyl:y<g.length)(hn:y∉out):Seen g (out++[y]) i (k+1):=by
 have hi:=(gS hx).1;have base:Seen g (out++[y]) i k:=by
  refine⟨?_,?_,List.mem_append_left _ h.zero,?_,?_⟩
  ·rw[List.nodup_append];exact⟨h.nodup,by simp,fun a ha b hb e=>hn (by simp only[mI]at hb;subst hb;rw[<-e];exact ha)⟩
  ·intro z hz;rcases List.mem_append.1 hz with hz | hz
   ·exact h.here z hz
   ·simp only[mI]at hz;subst hz;exact⟨hyl,.on x z nd e (h.here x (mG hx)).2 hnd (mG he) hy hyl⟩
  ·intro j z hj hz nd' hnd' e' he' u hu hul;rw[gL (by omega)]at hz;exact List.mem_append_left _ (h.done j z hj hz nd' hnd' e' he' u hu hul)
  ·intro z hz nd' hnd' t e' ht he' u hu hul;rw[gL hi]at hz;exact List.mem_append_left _ (h.now z hz nd' hnd' t e' ht he' u hu hul)
 refine base.skip (x:=x) (by rw[gL hi];exact hx) hnd he fun z hz _=>?_;have:z=y:=by omega
 subst this;exact List.mem_append_right _ (by simp)
theorem Seen.next{g:List Nd}{out:List Nat}{i k x:Nat}{nd:Nd}(h:Seen g out i k)(hx:out[i]? =some x)(hnd:g[x]? =some nd)(hk:nd.edges.length<=k):Seen g out (i+1) 0 where
 nodup:=h.nodup
 here:=h.here
 zero:=h.zero
 done j z hj hz nd' hnd' e he y hy hyl:=by
  rcases Nat.lt_or_ge j i with h1 | h1
  ·exact h.done j z h1 hz nd' hnd' e he y hy hyl
  ·have:j=i:=by omega
   subst this;rw[hx]at hz;cases hz;rw[hnd]at hnd';cases hnd';obtain⟨t,ht,rfl⟩:=eI.1 he;exact h.now x hx nd hnd t _ (by omega) (gE ht) y hy hyl
 now z hz nd' hnd' t e ht:=absurd ht (by omega)
theorem Seen.len{g:List Nd}{out:List Nat}{i k:Nat}(h:Seen g out i k):out.length<=g.length:=rM _ _ h.nodup fun x hx=>(h.here x hx).1
theorem Seen.all{g:List Nd}{out:List Nat}{i k:Nat}(h:Seen g out i k)(hi:out.length<=i):out.length=g.length↔∀j,j<g.length->Reached g j:=by
 constructor
 ·intro hl j hj;exact(h.here j (Dc h.nodup (fun x hx=>(h.here x hx).1) hl hj)).2
 ·intro hr;have key:∀j,Reached g j->j∈out:=by
   intro j hj;induction hj with
   | root=>exact h.zero
   | on a b nd e _ hnd he hd hb ih=>
    obtain⟨t,ht,e2⟩:=eI.1 ih;exact h.done t a (by omega) (by rw[<-e2];exact gE ht) nd hnd e he b hd hb
  have h1:(List.range g.length).length<=out.length:=by
   have:(List.range g.length).Nodup:=List.nodup_range;refine Decidable.byContradiction fun hn=>?_;have hlt:out.length<g.length:=by simpa using hn
   have:∀j∈List.range g.length,j∈out:=fun j hj=>key j (hr j (List.mem_range.1 hj));have:=xL _ _ List.nodup_range this;simp at this;omega
  have:=h.len;simp at h1;omega
end Top
def Top.intCells(l:List Nat):List Value:=l.map fun x:Nat=>Value.int .i64 (x:Int)
theorem Top.grown_ints{w:World}{g n:Nat}{os:Array Obj}(F:Array Int):w.grownBy (grow (putRow (Value.int .i64) (Sort.ahead w n) g 0 F) os) (some g):=by
 refine⟨rfl,rfl,rfl,by simp,fun k hk hne=>?_⟩;rw[heap_grow_old _ _ (by simpa using hk)];have:g≠k:=fun e=>hne (by rw[e]);simp[putRow,mapBlock,Sort.ahead,Array.getElem?_modify,this]
theorem Qa:(Tryz.prog.info? 3).map (fun i=>(i.zero,i.size,i.bytes))=some (some (.int .i64 0),1,8):=by kernel_rfl
theorem Hg(w:World)(v:Value)(g:List Nd)(h:NdsAt w w.heap.size v g)(hn:g.length<=128)(h0:0<g.length)(hz:∀x∈g,wV x)(hd:∀x∈g,∀e∈x.edges,∃j:Nat,e.dst=(j:Int)/\j<g.length):
 Calls Tryz.prog 50 #[.agg #[v]] w fun e w'=>∃a n c,e=.returned (.slice a n c)/\(n=g.length↔∀j,j<g.length->Reached g j)/\n<=128/\Below w.heap.size w w':=by
 obtain⟨i0,hi,ha0,ha1,ha2⟩:=info_parts Qa;obtain⟨bk,o,cap,hve,hcap,hbk,hat⟩:=h.at h0;subst hve;have HAT:=Hd hat;have HD:=Hd hd;have HZ:=Hd hz;have HN0:=Hd h0;obtain⟨N,hN⟩:∃N,N=g.length:=⟨_,rfl⟩;rw[<-hN]at hn h0 hcap |-;have HN:=Hd hN;have hne:¬(N:Int)=0:=by omega
 have hne2:((N:Int)==0)=false:=by simpa using hne
 clear hat h hd hz hN;have hmm:= @run_makeMap Tryz.prog;have hm0:=KM.KMap.made (kt:=3) (enc:=fun n:Int=> .int .i64 n) (w.alloc (.cells #[.slice (some ⟨bk,o,none⟩) N cap] 35));obtain⟨w2,hrun,hm2,hg2⟩:=hm0.run_put KM.Dn (t:=170) (e:=3) Tryz.underlying170 (by decide) 0 (KM.Dm rfl) (.int .i64 0);rw[sA]at hrun hm2 hg2;have hb2:Below w.heap.size w w2:=(((bR _ w).alloc nL _).alloc (by simp) _).grown hg2 (by simp;omega) (fun g hg=>by have:=Option.some.inj hg;omega);have hc2:w2.cell? ⟨w.heap.size,0,none⟩=some (.slice (some ⟨bk,o,none⟩) N cap):=(hg2.cell_far ⟨w.heap.size,0,none⟩ (by show w.heap.size<_;simp;omega) (by simp)).trans ((aD (by simp)).trans (aB rfl rfl));have hz2:w.heap.size+2<=w2.heap.size:=by have:=hg2.size;simp at this;omega
 have hsd2:Seen g [0] 0 0:=Seen.start HN0.out;have hrow2:(w2.alloc (.cells #[.int .i64 0] 3)).ownsRow (w.heap.size+2) 3 1 (.slice (some ⟨w2.heap.size,0,none⟩) 1 1) 1 (intCells [0]):=World.ownsRow_lit w2 #[.int .i64 0] 1 hz2 (by decide) (by decide);have hm3:KM.KMap 3 (fun n:Int=> .int .i64 n) (w2.alloc (.cells #[.int .i64 0] 3)) (w.heap.size+1) 1 [(0,.int .i64 0)]:=hm2.below ((bR w2.heap.size w2).alloc nL _) (by omega);have hb3:Below w.heap.size w (w2.alloc (.cells #[.int .i64 0] 3)):=hb2.alloc hb2.size _;have hc3:(w2.alloc (.cells #[.int .i64 0] 3)).cell? ⟨w.heap.size,0,none⟩=some (.slice (some ⟨bk,o,none⟩) N cap):=(aD (by show w.heap.size<_;omega)).trans hc2;have HST:Hid (∃L,KM.KMap 3 (fun n:Int=> .int .i64 n) (w2.alloc (.cells #[.int .i64 0] 3)) (w.heap.size+1) 1 L/\(∀y:Int,(KM.look L y).isSome=true↔∃x∈[0],y=((x:Nat):Int))):=Hd ⟨_,hm3,fun y=>by
  rw[KM.fG];simp⟩
 have HSD:=Hd hsd2;have HROW2:=Hd hrow2;have HB3:=Hd hb3;have HC3:=Hd hc3;have HZ2:=Hd hz2;clear hm0 hm2 hg2 hb2 hrow2 hm3 hb3 hc3 hz2 hsd2;go_enter Tryz.func50,Tryz.ntmps50;go_wp2
 go_loopw [5,4] (fun p q wr=>∃(i k:Nat) (out:List Nat) (ao:Option Addr) (co:Nat),p=.int .i64 i/\q=.slice ao k co/\k=out.length/\Seen g out i 0/\wr.ownsRow (w.heap.size+2) 3 1 (.slice ao k co) k (intCells out)/\
  (∃L,KM.KMap 3 (fun n:Int=> .int .i64 n) wr (w.heap.size+1) k L/\(∀y:Int,(KM.look L y).isSome=true↔∃x∈out,y=((x:Nat):Int)))/\wr.cell? ⟨w.heap.size,0,none⟩=some (.slice (some ⟨bk,o,none⟩) N cap)/\w.heap.size+2<=wr.heap.size/\Below w.heap.size w wr) (fun p _ _=>N-(intOf p).toNat)
 case atStart=>exact⟨0,1,[0],some ⟨w2.heap.size,0,none⟩,1,rfl,rfl,rfl,HSD.out,HROW2.out,HST.out,HC3.out,by have:=HZ2.out;rw[sA];omega,HB3.out⟩
 case round=>
  clear hc2 hrun;obtain⟨i,k,out,ao,co,rfl,rfl,hk,hsd,hrow,hst,hc,hzr,hb⟩:=hrel;have HK:=Hd hk;have HSD2:=Hd hsd;have HROW:=Hd hrow;have HSTR:=Hd hst;have hklen:k<=N:=by have:=hsd.len;have:=HN.out;omega
  clear hk hsd hrow hst;by_cases hik:i<k
  ·obtain⟨x,hx⟩:∃x,out[i]? =some x:=⟨_,gE (by have:=HK.out;omega)⟩;have hxN:=(HSD2.out.here x (mG hx)).1;obtain⟨nd,hnd⟩:∃y,g[x]? =some y:=⟨_,gE hxN⟩;rw[<-HN.out]at hxN;obtain⟨_,_,ea,ec,_,hE,_,_,_,_,_,e5⟩:=HAT.out x nd hnd;have e5:=(hb.cell (p:=⟨bk,o+x*6+5,none⟩) hbk).trans e5;obtain⟨ga,co',hao,hga1,hga2⟩:=eU HROW.out (by omega);cases hao;have cO:wr.cell? ⟨ga,i,none⟩=some (.int .i64 (x:Int)):=by
    rw[HROW.out.cellAt i (by omega)];unfold intCells;rw[gM,hx];rfl
   obtain⟨M,hM⟩:∃N,N=nd.edges.length:=⟨_,rfl⟩;rw[<-hM]at e5;have HMM:=Hd hM;have hM1:M<=1000000000:=by rw[hM];exact(HZ.out nd (mG hnd)).2
   have HX:=Hd hx;have HND:=Hd hnd;have HE:=Hd hE;have hikz:(i:Int)<(k:Int):=by omega
   have hxz:(x:Int)<(N:Int):=by omega
   have hbD:Below w.heap.size w wr.drew:=hb.drew;have HB:=Hd hb;clear hx hnd hE hM hga1;go_wp2;go_quiet (fail);go_wp2
   go_loopw [33,4] (fun p q wq=>∃(t k':Nat) (out':List Nat) (a':Option Addr) (c':Nat),p=.int .i64 t/\q=.slice a' k' c'/\t<=M/\k'=out'.length/\Seen g out' i t/\out'[i]? =some x/\wq.ownsRow (w.heap.size+2) 3 1 (.slice a' k' c') k' (intCells out')/\
    (∃L,KM.KMap 3 (fun n:Int=> .int .i64 n) wq (w.heap.size+1) k' L/\(∀y:Int,(KM.look L y).isSome=true↔∃x∈out',y=((x:Nat):Int)))/\wq.cell? ⟨w.heap.size,0,none⟩=some (.slice (some ⟨bk,o,none⟩) N cap)/\w.heap.size+2<=wq.heap.size/\Below w.heap.size w wq) (fun p _ _=>M-(intOf p).toNat)
   case atStart=>
    obtain⟨L,hL1,hL2⟩:=HSTR.out;exact⟨0,k,out,_,_,rfl,rfl,by omega,HK.out,HSD2.out,HX.out,HROW.out,⟨L,hL1.heap rfl,hL2⟩,hc,hzr,by first | exact HB.out.drew | exact VL.below_drewN HB.out _⟩
   case round=>
    clear e5 cO hc hzr hb hbD hga2 hklen hik hikz;obtain⟨wq,rfl⟩:∃x,x=wr:=⟨wr,rfl⟩;obtain⟨t,k',out',a',c',rfl,rfl,ht,hk',hsd,hx',hrow,hst,hc,hzr,hb⟩:=hrel;have HK2:=Hd hk';have HSD3:=Hd hsd;have HX2:=Hd hx';have HROWQ:=Hd hrow;have hklen:k'<=N:=by have:=hsd.len;have:=HN.out;omega
    clear hk' hsd hrow hx';by_cases htM:t<M
    ·obtain⟨ed,hed⟩:∃y,nd.edges[t]? =some y:=⟨_,gE (by have:=HMM.out;omega)⟩;obtain⟨j,hj,hjN⟩:=HD.out nd (mG HND.out) ed (mG hed);rw[<-HN.out]at hjN;obtain⟨bk2,o2,cap2,hve2,hcap2,hbk2,hat2⟩:=HE.out.at (by have:=HMM.out;omega);have hve3:(Value.slice ea M ec)=.slice (some ⟨bk2,o2,none⟩) M cap2:=by rw[HMM.out];exact hve2
     cases hve3;obtain⟨f0,f1⟩:=hat2 t ed hed;have f0:=(hb.cell (p:=⟨bk2,o2+t*2,none⟩) hbk2).trans f0;have f1:=(hb.cell (p:=⟨bk2,o2+t*2+1,none⟩) hbk2).trans f1;rw[hj]at f1;obtain⟨lb,hlb⟩:∃n,n=bs ed.label:=⟨_,rfl⟩;unfold sv at f0;rw[<-hlb]at f0;clear hlb;have HED:=Hd hed;have HJ:=Hd hj;obtain⟨L,hL1,hL2⟩:=hst;have hba:=hb.alloc hb.size (.cells #[.string lb,.int .i64 j] 111);have hLa:KM.KMap 3 (fun n:Int=> .int .i64 n) (wq.alloc (.cells #[.string lb,.int .i64 j] 111)) (w.heap.size+1) k' L:=hL1.below ((bR wq.heap.size wq).alloc nL _) (by omega);have hjw:(Lit.int .i64 (j:Int)).wf=true:=KM.Km (by omega) (by omega);have hlk:=hLa.run_ok KM.Dn (t:=170) (e:=3) Tryz.underlying170 (.int .i64 0) (by kernel_rfl) (j:Int) (KM.Dm hjw);have hLj:=hL2 (j:Int);have hca:(wq.alloc (.cells #[.string lb,.int .i64 j] 111)).cell? ⟨w.heap.size,0,none⟩=some (.slice (some ⟨bk,o,none⟩) N cap):=(aD (by show w.heap.size<_;omega)).trans hc
     obtain⟨vv,hvv⟩:∃v,v=(KM.look L (j:Int)).getD (.int .i64 0):=⟨_,rfl⟩;rw[<-hvv]at hlk;have HROWA:=Hd (HROWQ.out.alloc (.cells #[.string lb,.int .i64 j] 111));have HBA:=Hd hba;have hq1:(0:Int)<=(j:Int):=by omega
     have hq2:(j:Int)<(N:Int):=by omega
     cases his:(KM.look L (j:Int)).isSome
     ·rw[his]at hlk hLj;have hnot:j∉out':=fun hm=>by
       have:=hLj.2 ⟨j,hm,rfl⟩;exact absurd this (by simp)
      obtain⟨wu,hru,hmu,hgu⟩:=hLa.run_put KM.Dn (t:=170) (e:=3) Tryz.underlying170 (by unfold maxLen;omega) (j:Int) (KM.Dm hjw) (.int .i64 i);have HROW3:Hid (wu.ownsRow (w.heap.size+2) 3 1 (.slice a' k' c') k' (intCells out')):=Hd (HROWA.out.kept hgu (by
       by_cases e:(Value.slice a' k' c').ownBlock=some (w.heap.size+1)
       ·exact absurd ((HROWA.out.lt _ e).1) (by omega)
       ·exact Or.inr e))
      have HZU:Hid (wq.heap.size+1<=wu.heap.size):=Hd (by have:=hgu.size;rw[sA]at this;exact this);have hcu:wu.cell? ⟨w.heap.size,0,none⟩=some (.slice (some ⟨bk,o,none⟩) N cap):=(hgu.cell_far ⟨w.heap.size,0,none⟩ (by show w.heap.size<_;simp;omega) (by simp)).trans hca;have cE:wu.cell? ⟨wq.heap.size,0,none⟩=some (.string lb)/\wu.cell? ⟨wq.heap.size,1,none⟩=some (.int .i64 j):=⟨(hgu.cell_far ⟨wq.heap.size,0,none⟩ (by show wq.heap.size<_;simp) (by simp;omega)).trans (aB rfl rfl),(hgu.cell_far ⟨wq.heap.size,1,none⟩ (by show wq.heap.size<_;simp) (by simp;omega)).trans (aB rfl rfl)⟩;obtain⟨cE0,cE1⟩:=cE;have HBU:Hid (Below w.heap.size w wu):=Hd (HBA.out.grown hgu (by simp;omega) (fun g hg=>by have:=Option.some.inj hg;omega));have HMU:Hid (KM.KMap 3 (fun n:Int=> .int .i64 n) wu (w.heap.size+1) (k'+1) (((j:Int),.int .i64 i)::L.filter fun y=>y.1 !=(j:Int))):=Hd hmu
      have HLK:Hid (∀y:Int,(KM.look (((j:Int),Value.int .i64 i)::L.filter fun y=>y.1 !=(j:Int)) y).isSome=true↔∃x∈out'++[j],y=((x:Nat):Int)):=Hd (fun y=>by
       rw[KM.bX];by_cases hy:(j:Int)=y
       ·rw[if_pos hy];simp only[Option.isSome_some,true_iff];exact⟨j,by simp,hy.symm⟩
       ·rw[if_neg hy,KM.mJ hy,hL2 y];constructor
        ·rintro⟨z,hz,e⟩;exact⟨z,List.mem_append_left _ hz,e⟩
        ·rintro⟨z,hz,e⟩;rcases List.mem_append.1 hz with hz | hz
         ·exact⟨z,hz,e⟩
         ·simp only[mI]at hz;subst hz;exact absurd e.symm hy)
      have HNOT:=Hd hnot;have HCU:=Hd hcu;clear hLa hL1 hL2 hLj hmu hgu hvv hat2 hve2 hcap2 hed hj hba his hnot;go_wp2_with (at_builtin;refine wpList_append_own _ rfl _ _ 59 rfl (w.heap.size+2) 3 i0 (.int .i64 0) 1 8 Tryz.underlying59 hi ha0 ha1 ha2 rfl (by decide) _ _ _ rfl (HROW3.out.alloc _) ⟨wu.heap.size,0,none⟩ 1 1 [.int .i64 j] rfl rfl (cell_one_new _ _ _) (fun x hx=>by simp at hx;subst hx;rfl) (by unfold maxLen;omega) (by omega) (by simp;have:=HZU.out;omega) ?_;intro v4 w4 hown4 hgrow4 hnil4);go_wp2;have hs4:=hgrow4.size;have hzu:=HZU.out;have hbu:Below w.heap.size w w4:=Below.grown (HBU.out.alloc HBU.out.size _) hgrow4 (by have:=HBU.out.size;simp;omega) (fun g hg=>by have:=(HROW3.out.lt g hg).1;omega);have hkeep:KM.KMap 3 (fun n:Int=> .int .i64 n) w4 (w.heap.size+1) (k'+1) (((j:Int),.int .i64 i)::L.filter fun y=>y.1 !=(j:Int)):=HMU.out.heap ((hgrow4.block _ (by simp;omega) (fun e=>by have:=(HROW3.out.lt _ e.symm).1;omega)).trans (((bR wu.heap.size wu).alloc nL _).block _ (by omega)))
      have hc4:w4.cell? ⟨w.heap.size,0,none⟩=some (.slice (some ⟨bk,o,none⟩) N cap):=(hgrow4.cell_far ⟨w.heap.size,0,none⟩ (by show w.heap.size<_;simp;omega) (fun e=>by have:=(HROW3.out.lt _ e.symm).1;have:w.heap.size+2<=w.heap.size:=this;omega)).trans ((aD (by show w.heap.size<_;omega)).trans HCU.out);obtain⟨g4,cap4,rfl,_,_⟩:=eU hown4 (by omega);go_roundw;case rel=>exact⟨t+1,k'+1,out'++[j],_,_,by go_num,rfl,by omega,by have:=HK2.out;simp;omega,HSD3.out.add HX2.out HND.out HED.out HJ.out (by have:=HN.out;omega) HNOT.out,by rw[gL (gS HX2.out).1];exact HX2.out,by have:=hown4;unfold intCells at this |-;rw[List.map_append];exact this,⟨_,hkeep,HLK.out⟩,hc4,by simp at hs4;omega,hbu⟩
      case measure=>simp[intOf];omega
     ·rw[his]at hlk hLj;have hin:=hLj.1 rfl;have HIN:Hid (∀y:Nat,ed.dst=(y:Int)->y<g.length->y∈out'):=Hd (fun y hy _=>by
       obtain⟨z,hz,e⟩:=hin;have:z=y:=by omega
       rw[<-this];exact hz)
      have HST4:Hid (∃L,KM.KMap 3 (fun n:Int=> .int .i64 n) (wq.alloc (.cells #[.string lb,.int .i64 j] 111)) (w.heap.size+1) k' L/\(∀y:Int,(KM.look L y).isSome=true↔∃x∈out',y=((x:Nat):Int))):=Hd ⟨L,hLa,hL2⟩;clear hLa hL1 hL2 hLj hvv hat2 hve2 hcap2 hed hj hba his hin;go_wp2;go_roundw;case rel=>exact⟨t+1,k',out',_,_,by go_num,rfl,by omega,HK2.out,HSD3.out.skip HX2.out HND.out HED.out HIN.out,HX2.out,HROWA.out,HST4.out,hca,by rw[sA];omega,HBA.out⟩
      case measure=>simp[intOf];omega
    ·have HNX:=Hd (HSD3.out.next HX2.out HND.out (by have:=HMM.out;omega));have hi2:i<k':=by have:=(gS HX2.out).1;have:=HK2.out;omega
     go_wp2;go_roundw;case rel=>exact⟨i+1,k',out',_,_,by go_num,rfl,HK2.out,HNX.out,HROWQ.out,hst,hc,hzr,hb⟩
     case measure=>simp[intOf];omega
  ·have hk1:0<k:=by
    have:=List.length_pos_of_mem HSD2.out.zero;have:=HK.out;omega
   obtain⟨ga,co',hao,hga1,hga2⟩:=eU HROW.out hk1;cases hao;have HF:Hid (k=N↔∀j,j<N->Reached g j):=Hd (by
    have:=HSD2.out.all (by have:=HK.out;omega);rw[<-HK.out,<-HN.out]at this;exact this)
   have hH:Holds (Value.int .i64) wr ga 0 (out.map fun x:Nat=>(x:Int)).toArray:=by
    intro j hj;have hj':j<k:=by have:=HK.out;simpa[<-this]using hj
    refine⟨?_,HROW.out.frozenAt _⟩;rw[Nat.zero_add,HROW.out.cellAt j (by omega)];unfold intCells;have hjl:j<out.length:=by have:=HK.out;omega
    rw[gM,gE hjl,getElem!_pos _ j hj];simp
   have hsort:=Tryz.slices_Sort_int ga 0 co (out.map fun x:Nat=>(x:Int)) wr hH hga2 (by rw[lM];have:=HK.out;omega);rw[lM,<-HK.out]at hsort;have HSO:=Hd hsort;have HBB:=Hd hb;clear hH hsort hc hzr hb hga2;go_wp2_with fail;refine HSO.out.mono ?_;rintro e w5 ⟨rfl,n5,os5,rfl⟩;go_wp2;go_returns;exact⟨_,_,_,rfl,HF.out,by omega,HBB.out.grown (grown_ints (g:=ga) _) HBB.out.size (fun g hg=>by have:=Option.some.inj hg;omega)⟩
end
section
open Top
theorem Bj(w:World)(n:List UInt8):Calls Tryz.prog 90 #[.string (bs n)] w fun e w'=>e=.returned (.func (.func 91) #[] #[.pointer (some ⟨w.heap.size,0,none⟩)])/\w'=w.alloc (.cells #[.string (bs n)] 9):=by
 go_enter Tryz.func90,Tryz.ntmps90;go_wp2;go_returns;exact⟨rfl,rfl⟩
theorem tC:∀args w,(callFunc 91 args).run Tryz.prog w=.ok (.enter 91 args) w:=fun _ _=>by kernel_rfl
theorem xZ(w:World)(b:Nat)(n:List UInt8)(p:Pn)(hb:b<w.heap.size)(hc:w.cell? ⟨b,0,none⟩=some (.string (bs n))):
 Calls Tryz.prog 91 #[.agg ⟨aG p⟩,.pointer (some ⟨b,0,none⟩)] w fun e w'=>e=.returned (.bool (decide (p.name=n)))/\Below w.heap.size w w':=by
 show Calls Tryz.prog 91 #[.agg #[.string (bs p.name),.int .i64 p.v.a,.int .i64 p.v.b,.int .i64 p.v.c],.pointer (some ⟨b,0,none⟩)] w _;obtain⟨nm,⟨va,vb,vc⟩⟩:=p;dsimp only;have hbw:Below w.heap.size w (w.alloc (.cells #[.string (bs nm),.int .i64 va,.int .i64 vb,.int .i64 vc] 101)):=(bR _ w).alloc nL _;have hc:=(hbw.cell (p:=⟨b,0,none⟩) hb).trans hc;have HBW:=Hd hbw;clear hbw;by_cases h1:nm=n
 ·have HR:Hid (decide (nm=n)=true):=Hd (decide_eq_true h1);have hq:((bs nm).toList==(bs n).toList)=true:=by rw[aA,aA];simpa using h1
  have hq2:(bs nm).toList=(bs n).toList:=by rw[aA,aA];exact h1
  clear h1;go_enter Tryz.func91,Tryz.ntmps91;go_wp2;go_returns;exact⟨by rw[HR.out];rfl,HBW.out⟩
 ·have HR:Hid (decide (nm=n)=false):=Hd (decide_eq_false h1);have hq:((bs nm).toList==(bs n).toList)=false:=by rw[aA,aA];simpa using h1
  have hq2:¬(bs nm).toList=(bs n).toList:=by rw[aA,aA];exact h1
  clear h1;go_enter Tryz.func91,Tryz.ntmps91;go_wp2;go_returns;exact⟨by rw[HR.out];rfl,HBW.out⟩
theorem Cx(w:World)(v:Value)(l:List Pn)(h:bN w w.heap.size v l)(hn:l.length<=4611686018427387904)(b:Nat)(n:List UInt8)(hb:b<w.heap.size)(hc:w.cell? ⟨b,0,none⟩=some (.string (bs n))):
 Calls Tryz.prog 93 #[v,.func (.func 91) #[] #[.pointer (some ⟨b,0,none⟩)]] w fun e w'=>e=.returned (.int .i64 (sP l n))/\Below w.heap.size w w':=by
 have hcon:=mM w v (l.map aG) (fun i=>match l[i]? with | some p=>decide (p.name=n) | none=>false) 91 #[.pointer (some ⟨b,0,none⟩)] tC h (fun x hx=>by
  obtain⟨y,_,rfl⟩:=List.mem_map.1 hx;rfl) (by rw[lM];omega) (fun i x hx W hW=>by
  rw[gM]at hx;cases hl:l[i]? with
  | none=>rw[hl]at hx;simp at hx
  | some y=>
   rw[hl]at hx;simp only[Option.map_some,iS]at hx;subst hx;exact xZ W b n y (by have:=hW.size;omega) ((hW.cell (p:=⟨b,0,none⟩) hb).trans hc))
 rw[lM]at hcon;exact hcon
theorem Dr(w:World)(v:Value)(l:List Pn)(h:bN w w.heap.size v l)(hn:l.length<=4611686018427387904)(b:Nat)(n:List UInt8)(hb:b<w.heap.size)(hc:w.cell? ⟨b,0,none⟩=some (.string (bs n))):
 Calls Tryz.prog 94 #[v,.func (.func 91) #[] #[.pointer (some ⟨b,0,none⟩)]] w fun e w'=>e=.returned (.bool (l.any fun x=>x.name==n))/\Below w.heap.size w w':=by
 have hcon:=vU w v (l.map aG) (fun i=>match l[i]? with | some p=>decide (p.name=n) | none=>false) 91 #[.pointer (some ⟨b,0,none⟩)] tC h (fun x hx=>by
  obtain⟨y,_,rfl⟩:=List.mem_map.1 hx;rfl) (by rw[lM];omega) (fun i x hx W hW=>by
  rw[gM]at hx;cases hl:l[i]? with
  | none=>rw[hl]at hx;simp at hx
  | some y=>
   rw[hl]at hx;simp only[Option.map_some,iS]at hx;subst hx;exact xZ W b n y (by have:=hW.size;omega) ((hW.cell (p:=⟨b,0,none⟩) hb).trans hc))
 rw[lM,yD l (fun x=>x.name==n) _ (fun i x hx=>by
  rw[hx];show decide (x.name=n)=(x.name==n);by_cases h:x.name=n
  ·rw[decide_eq_true h,beq_iff_eq.2 h]
  ·rw[decide_eq_false h,beq_eq_false_iff_ne.2 h])]at hcon
 exact hcon
namespace Top
structure Two(w:World)(B:Nat)(v1:Value)(l1:List Pn)(v2:Value)(l2:List Pn):Prop where
 one:aO w B v1 l1
 two:aO w B v2 l2
 far:∀g,v1.ownBlock=some g->v2.ownBlock≠some g
theorem Two.swap{w:World}{B:Nat}{v1 v2:Value}{l1 l2:List Pn}(h:Two w B v1 l1 v2 l2):Two w B v2 l2 v1 l1:=⟨h.two,h.one,fun g h1 h2=>h.far g h2 h1⟩
theorem aO.under{w w':World}{B:Nat}{v:Value}{l:List Pn}(h:aO w B v l)(hb:Below w.heap.size w w'):aO w' B v l:=by
 refine World.ownsRow.kept (row:=none) h ⟨hb.os,hb.tape,hb.output,hb.size,fun q hq _=>hb.block q hq⟩ ?_;cases v.ownBlock<;>simp
theorem Two.under{w w':World}{B:Nat}{v1 v2:Value}{l1 l2:List Pn}(h:Two w B v1 l1 v2 l2)(hb:Below w.heap.size w w'):Two w' B v1 l1 v2 l2:=⟨h.one.under hb,h.two.under hb,h.far⟩
theorem Two.add{w w':World}{B:Nat}{v1 v2:Value}{l1 l2 l3:List Pn}{g n c:Nat}(h:Two w B v1 l1 v2 l2)(hg:w.grownBy w' v2.ownBlock)(ho:aO w' B (.slice (some ⟨g,0,none⟩) n c) l3)(hat:v2.ownBlock=some g\/g=w.heap.size):Two w' B v1 l1 (.slice (some ⟨g,0,none⟩) n c) l3:=by
 refine⟨World.ownsRow.kept h.one hg ?_,ho,fun k hk e=>?_⟩
 ·cases hv:v1.ownBlock with
  | none=>exact Or.inl rfl
  | some k=>exact Or.inr fun e=>h.far k hv e.symm
 ·have:g=k:=Option.some.inj e;subst this;rcases hat with h2 | h2
  ·exact h.far g hk h2
  ·have:=(World.ownsRow.lt h.one g hk).2;omega
theorem aO.blk{w:World}{B:Nat}{v:Value}{l:List Pn}(h:aO w B v l):∀k,v.ownBlock=some k->∃cur t fr,w.heap[k]? =some (.cells cur t fr)/\t≠75/\t≠73:=fun k hk=>by
 unfold aO at h;rcases h.2 with⟨rfl,_⟩ | ⟨g,cap,cur,rfl,_,hg,_⟩
 ·simp[Value.ownBlock]at hk
 ·have:g=k:=Option.some.inj hk;subst this;exact⟨_,_,_,hg,by decide,by decide⟩
theorem gG:∀(c env:List Pn),(c.map (·.name)).Nodup->(∀q∈c,q∈env)->c.length<=env.length
 | [],env,_,_=>Nat.zero_le _
 | x::c,env,hn,he=>by
  rw[List.map_cons,List.nodup_cons]at hn;have hx:=he x List.mem_cons_self;have h1:=gG c (env.erase x) hn.2 (fun q hq=>by
   have hne:q≠x:=fun e=>hn.1 (List.mem_map.2 ⟨q,hq,by rw[e]⟩);exact(List.mem_erase_of_ne hne).2 (he q (mC _ hq)))
  rw[List.length_erase_of_mem hx]at h1;have:0<env.length:=List.length_pos_of_mem hx;rw[lC];omega
theorem Sg{env:List Pn}{d:Dp}{r:List Dp}{c:List Pn}(h:env.find? (fun q=>q.name==d.name)=none):aZ env (d::r) c=none:=by rw[aZ,h]
theorem Pg{env:List Pn}{d:Dp}{r:List Dp}{c:List Pn}{q:Pn}(h:env.find? (fun q=>q.name==d.name)=some q)(hr:gI d.rg q.v=false):aZ env (d::r) c=none:=by
 rw[aZ,h];show(if gI d.rg q.v=true then _ else _)=_;rw[hr,if_neg (by simp)]
theorem Lm{env:List Pn}{d:Dp}{r:List Dp}{c:List Pn}{q:Pn}(h:env.find? (fun q=>q.name==d.name)=some q)(hr:gI d.rg q.v=true)(ha:(c.any fun x=>x.name==d.name)=true):aZ env (d::r) c=aZ env r c:=by
 rw[aZ,h];show(if gI d.rg q.v=true then _ else _)=_;rw[if_pos hr,if_pos ha]
theorem Ph{env:List Pn}{d:Dp}{r:List Dp}{c:List Pn}{q:Pn}(h:env.find? (fun q=>q.name==d.name)=some q)(hr:gI d.rg q.v=true)(ha:(c.any fun x=>x.name==d.name)=false):aZ env (d::r) c=aZ env r (c++[q]):=by
 rw[aZ,h];show(if gI d.rg q.v=true then _ else _)=_;rw[if_pos hr,ha,if_neg (by simp)]
theorem Ih{env c:List Pn}{n:List UInt8}{q:Pn}(h:env.find? (fun q=>q.name==n)=some q)(ha:(c.any fun x=>x.name==n)=false)(hn:(c.map (·.name)).Nodup)(he:∀q∈c,q∈env):((c++[q]).map (·.name)).Nodup/\∀x∈c++[q],x∈env:=by
 have hqm:=List.mem_of_find?_eq_some h;have hqn:q.name=n:=by simpa using List.find?_some h
 refine⟨?_,fun x hx=>?_⟩
 ·rw[List.map_append,List.nodup_append];refine⟨hn,by simp,fun a ha' b hb e=>?_⟩;obtain⟨x,hx,rfl⟩:=List.mem_map.1 ha';simp only[List.map_cons,List.map_nil,mI]at hb;rw[List.any_eq_false]at ha;exact ha x hx (by rw[beq_iff_eq,e,hb,hqn])
 ·rcases List.mem_append.1 hx with hx | hx
  ·exact he x hx
  ·simp only[mI]at hx;subst hx;exact hqm
theorem Qq{C:List Pk}{m:Mf}{env:List Pn}{p:Pn}{f i:Nat}{c:List Pn}(h:(p::c)[i]? =none):iB C m env p (f+1) i c=some (fQ c):=by rw[iB,h]
theorem Tm{C:List Pk}{m:Mf}{env:List Pn}{p q:Pn}{f i:Nat}{c:List Pn}(h:(p::c)[i]? =some q)(hg:bY C (q.name,q.v)=none):iB C m env p (f+1) i c=none:=by
 rw[iB,h];show(match bY C (q.name,q.v)with | none=>none | some x=>_)=none;rw[hg]
theorem Fz{C:List Pk}{m:Mf}{env:List Pn}{p q:Pn}{f i:Nat}{c:List Pn}{x:Pk}(h:(p::c)[i]? =some q)(hg:bY C (q.name,q.v)=some x)(hp:aZ env (eZ m x) c=none):iB C m env p (f+1) i c=none:=by
 rw[iB,h];show(match bY C (q.name,q.v)with | none=>none | some x=>_)=none;rw[hg];show(match aZ env (eZ m x) c with | none=>none | some c'=>_)=none;rw[hp]
theorem Ns{C:List Pk}{m:Mf}{env:List Pn}{p q:Pn}{f i:Nat}{c c':List Pn}{x:Pk}(h:(p::c)[i]? =some q)(hg:bY C (q.name,q.v)=some x)(hp:aZ env (eZ m x) c=some c'):iB C m env p (f+1) i c=iB C m env p f (i+1) c':=by
 rw[iB,h];show(match bY C (q.name,q.v)with | none=>none | some x=>_)=_;rw[hg];show(match aZ env (eZ m x) c with | none=>none | some c'=>_)=_;rw[hp]
theorem drop_at{α:Type}{l:List α}{j:Nat}{x:α}(h:l[j]? =some x):l.drop j=x::l.drop (j+1):=by
 obtain⟨hj,rfl⟩:=gS h;exact List.drop_eq_getElem_cons hj
end Top
end
section
open Top
namespace Top
def Ku(o:Option Ve):Value:=match o with
 | some v=> .tuple #[.agg #[.int .i64 v.a,.int .i64 v.b,.int .i64 v.c],.bool true]
 | none=> .tuple #[.agg #[.int .i64 0,.int .i64 0,.int .i64 0],.bool false]
end Top
theorem Mj(w:World)(i:Int)(nm:List UInt8)(a:Option Addr)(n c:Nat)(may:Bool)(nx:Int)(hn:n<=1000000):
 Calls Tryz.prog 18 #[.agg #[.int .i64 i,.string (bs nm),.slice a n c,.bool may,.int .i64 nx]] w fun e w'=>e=.returned (.int .i64 ((n:Int)+if may then 1 else 0))/\Below w.heap.size w w':=by
 have HB:Hid (Below w.heap.size w (w.alloc (.cells #[.int .i64 i,.string (bs nm),.slice a n c,.bool may,.int .i64 nx] 65))):=Hd ((bR _ w).alloc nL _);cases may
 all_goals
  go_enter Tryz.func18,Tryz.ntmps18;go_wp2;go_returns;exact⟨by first | go_num | (simp;done) | rfl,HB.out⟩
theorem zT(w:World)(v:Value)(l:List Pn)(h:bN w w.heap.size v l)(hn:l.length<=1000000000)(nm:List UInt8):
 Calls Tryz.prog 35 #[v,.string (bs nm)] w fun e w'=>e=.returned (Ku (told l nm))/\Below w.heap.size w w':=by
 obtain⟨a0,c0,hv⟩:=h.form;obtain⟨N,hN⟩:∃N,N=l.length:=⟨_,rfl⟩;rw[<-hN]at hv hn;have HN:=Hd hN;have HA:=Hd h;subst hv;obtain⟨wb,hwb⟩:∃y,y=w.alloc (.cells #[.int .i64 0,.int .i64 0,.int .i64 0] 50):=⟨_,rfl⟩;have hbb:Below w.heap.size w wb:=by rw[hwb];exact(bR _ w).alloc nL _
 have hsb:wb.heap.size=w.heap.size+1:=by rw[hwb];exact sA _ _
 have hnb:wb.heap[w.heap.size]? =some (.cells #[.int .i64 0,.int .i64 0,.int .i64 0] 50 (0,0)):=by rw[hwb];exact heap_alloc_new w _
 have HRES:Hid (∀x,Below wb.heap.size wb x->(x.cell? ⟨w.heap.size,0,none⟩=some (.int .i64 0)/\x.cell? ⟨w.heap.size,1,none⟩=some (.int .i64 0)/\x.cell? ⟨w.heap.size,2,none⟩=some (.int .i64 0))/\∀i,x.frozen? ⟨w.heap.size,i,none⟩=false):=Hd (fun x hx=>by
  have h0:=(hx.block w.heap.size (by omega)).trans hnb;exact⟨⟨by rw[Go.Lib.cell_of_heap h0];rfl,by rw[Go.Lib.cell_of_heap h0];rfl,by rw[Go.Lib.cell_of_heap h0];rfl⟩,fun i=>Go.Lib.frozen_of_heap h0 i⟩)
 have HBB:=Hd hbb;have HSB:=Hd hsb;have HWB:=Hd hwb;clear h hN hwb hbb hsb hnb;go_enter Tryz.func35,Tryz.ntmps35;go_wp2;go_loopw [10] (fun p wr=>∃k:Nat,p=.int .i64 k/\k<=N/\(∀(j:Nat) y,j<k->l[j]? =some y->y.name≠nm)/\Below wb.heap.size wb wr) (fun p _=>N-(intOf p).toNat);case atStart=>exact⟨0,rfl,by omega,fun j y h=>absurd h (by omega),by rw[<-HWB.out];exact bR _ _⟩
 case round=>
  obtain⟨wo,rfl⟩:∃y,y=wr:=⟨wr,rfl⟩;obtain⟨k,rfl,hk,hno,hb⟩:=hrel;have HNO:=Hd hno;have hbw:=HBB.out.trans (hb.mono HBB.out.size);have hbs:=hb.size;have hsb:=HSB.out;have HB:=Hd hb;clear hno;by_cases hkN:k<N
  ·obtain⟨x,hx⟩:∃y,l[k]? =some y:=⟨_,gE (by have:=HN.out;omega)⟩;obtain⟨bk,o,cap,hve,hcap,hbk,hu1⟩:=RowZ.some HA.out (by rw[lM];have:=HN.out;omega);rw[lM,<-HN.out]at hve;cases hve;have hq1:(l.map aG)[k]? =some (aG x):=by rw[gM,hx];rfl
   have HX:=Hd hx;obtain⟨xn,⟨xa,xb,xc⟩⟩:=x;have e0:=(hbw.cell (p:=⟨bk,o+k*4+0,none⟩) hbk).trans (hu1 k _ hq1 0 _ rfl);have e1:=(hbw.cell (p:=⟨bk,o+k*4+1,none⟩) hbk).trans (hu1 k _ hq1 1 _ rfl);have e2:=(hbw.cell (p:=⟨bk,o+k*4+2,none⟩) hbk).trans (hu1 k _ hq1 2 _ rfl);have e3:=(hbw.cell (p:=⟨bk,o+k*4+3,none⟩) hbk).trans (hu1 k _ hq1 3 _ rfl);rw[Nat.add_zero]at e0;unfold sv at e0;have hba:=hb.alloc hbs (.cells #[.string (bs xn),.int .i64 xa,.int .i64 xb,.int .i64 xc] 101);have HBA:=Hd hba;obtain⟨⟨r0,r1,r2⟩,fr⟩:=HRES.out _ hba;have f0:=fr 0;have f1:=fr 1;have f2:=fr 2;clear hu1 hq1 hx hcap hba fr hb hbw;by_cases he:xn=nm
   ·have hq:((bs xn).toList==(bs nm).toList)=true:=by rw[aA,aA];simpa using he
    have hq2:(bs xn).toList=(bs nm).toList:=by rw[aA,aA];exact he
    have HF:Hid (told l nm=some ⟨xa,xb,xc⟩):=Hd (by
     unfold told;rw[vI (f:=fun q:Pn=>q.name) HX.out he HNO.out];rfl)
    clear he;go_wp2;have hwy:=aV w.heap.size [.int .i64 xa,.int .i64 xb,.int .i64 xc] (wo.alloc (.cells #[.string (bs xn),.int .i64 xa,.int .i64 xb,.int .i64 xc] 101)) 0;have hy:=bK w.heap.size [.int .i64 xa,.int .i64 xb,.int .i64 xc] (wo.alloc (.cells #[.string (bs xn),.int .i64 xa,.int .i64 xb,.int .i64 xc] 101)) 0 (fun i hi=>by
     match i,hi with
     | 0,_=>exact⟨_,r0⟩
     | 1,_=>exact⟨_,r1⟩
     | 2,_=>exact⟨_,r2⟩)
    have s0:=hy 0 _ rfl;have s1:=hy 1 _ rfl;have s2:=hy 2 _ rfl;simp only[bI,Nat.zero_add,Nat.reduceAdd]at s0 s1 s2 hwy;refine bodyPost_ret (by simp[results,Tryz.results35,go_sem,s0,s1,s2];try rfl) rfl ?_;refine⟨by rw[HF.out];rfl,(HBB.out.trans (HBA.out.mono HBB.out.size)).trans hwy⟩
   ·have hq:((bs xn).toList==(bs nm).toList)=false:=by rw[aA,aA];simpa using he
    have hq2:¬(bs xn).toList=(bs nm).toList:=by rw[aA,aA];exact he
    have HNX:Hid (∀(j:Nat) y,j<k+1->l[j]? =some y->y.name≠nm):=Hd (fun j y hj hy=>by
     rcases Nat.lt_or_ge j k with h | h
     ·exact HNO.out j y h hy
     ·have:j=k:=by omega
      subst this;rw[HX.out]at hy;cases hy;exact he)
    clear he;go_wp2;go_roundw;case rel=>exact⟨k+1,by go_num,by omega,HNX.out,HBA.out⟩
    case measure=>simp[intOf];omega
  ·have HF:Hid (told l nm=none):=Hd (by
    unfold told;rw[Fw (f:=fun q:Pn=>q.name) (fun j y hy=>HNO.out j y (by have:=(gS hy).1;have:=HN.out;omega) hy)];rfl)
   obtain⟨⟨r0,r1,r2⟩,fr⟩:=HRES.out _ hb;have f0:=fr 0;have f1:=fr 1;have f2:=fr 2;clear fr hb hbw;go_wp2;have hwy:=aV w.heap.size [.int .i64 0,.int .i64 0,.int .i64 0] wo 0;have hy:=bK w.heap.size [.int .i64 0,.int .i64 0,.int .i64 0] wo 0 (fun i hi=>by
    match i,hi with
    | 0,_=>exact⟨_,r0⟩
    | 1,_=>exact⟨_,r1⟩
    | 2,_=>exact⟨_,r2⟩)
   have s0:=hy 0 _ rfl;have s1:=hy 1 _ rfl;have s2:=hy 2 _ rfl;simp only[bI,Nat.zero_add,Nat.reduceAdd]at s0 s1 s2 hwy;refine bodyPost_ret (by simp[results,Tryz.results35,go_sem,s0,s1,s2];try rfl) rfl ?_;exact⟨by rw[HF.out];rfl,(HBB.out.trans (HB.out.mono HBB.out.size)).trans hwy⟩
end
section
namespace Top
theorem uZ{w:World}{base:Nat}{e:TypeId}{z:Nat}{a:Option Addr}{n c:Nat}{xs:List Value}(h:w.ownsRow base e z (.slice a n c) n xs){m:Nat}(hm:m<=n):w.ownsRow base e z (.slice a m c) m (xs.take (m*z)):=by
 refine⟨by rw[List.length_take,h.1];exact Nat.min_eq_left (Nat.mul_le_mul_right z hm),?_⟩;rcases h.2 with⟨e1,e2⟩ | ⟨g,cap,cur,e1,h1,h2,h3,h4,h5,h6⟩
 ·cases e1;have:m=0:=by omega
  subst this;exact .inl ⟨rfl,rfl⟩
 ·cases e1;refine .inr ⟨g,c,cur,rfl,h1,h2,by omega,h4,h5,?_⟩;rw[<-h6,List.take_take,Nat.min_eq_left (Nat.mul_le_mul_right z hm)]
theorem nV{z:Nat}:∀(rows:List (List Value)),(∀r∈rows,r.length=z)->∀m,rows.flatten.take (m*z)=(rows.take m).flatten
 | [],_,m=>by simp
 | r::t,h,0=>by simp
 | r::t,h,m+1=>by
  have hr:=h r List.mem_cons_self;rw[List.flatten_cons,List.take_succ_cons,List.flatten_cons,<-nV t (fun x hx=>h x (mC _ hx)) m,Nat.add_mul,Nat.one_mul,List.take_append,hr,List.take_of_length_le (by omega),show m*z+z-z=m*z by omega]
theorem vH{z:Nat}:∀(rows:List (List Value)),(∀r∈rows,r.length=z)->∀(i j:Nat) (r:List Value) (u:Value),rows[i]? =some r->j<z->rows.flatten.set (i*z+j) u=(rows.set i (r.set j u)).flatten
 | [],_,i,j,r,u,hi,hj=>by simp at hi
 | r0::t,h,0,j,r,u,hi,hj=>by
  simp only[gZ,iS]at hi;subst hi;have hr:=h r0 List.mem_cons_self;rw[List.flatten_cons,List.set_cons_zero,List.flatten_cons,Nat.zero_mul,Nat.zero_add,List.set_append_left _ _ (by omega)]
 | r0::t,h,i+1,j,r,u,hi,hj=>by
  have hr:=h r0 List.mem_cons_self;rw[List.flatten_cons,List.set_cons_succ,List.flatten_cons,<-vH t (fun x hx=>h x (mC _ hx)) i j r u (by simpa using hi) hj,Nat.add_mul,Nat.one_mul,List.set_append_right _ _ (by omega),hr,show i*z+z+j-z=i*z+j by omega]
theorem yG{α β γ:Type}(f:α->β->γ):∀(l:List α) (c:List β) (i:Nat) (x:α) (y:β),List.zipWith f (l.set i x) (c.set i y)=(List.zipWith f l c).set i (f x y)
 | [],c,i,x,y=>by simp
 | a::l,[],i,x,y=>by simp
 | a::l,b::c,0,x,y=>rfl
 | a::l,b::c,i+1,x,y=>by
  rw[List.set_cons_succ,List.set_cons_succ,List.zipWith_cons_cons,List.zipWith_cons_cons,List.set_cons_succ,yG f l c i x y]
theorem set_self{α:Type}{l:List α}{i:Nat}{x:α}(h:l[i]? =some x):l.set i x=l:=by
 obtain⟨hi,rfl⟩:=gS h;exact List.set_getElem_self hi
theorem bQ{w:World}{base:Nat}{e:TypeId}{z:Nat}{v:Value}{n:Nat}{xs:List Value}(h:w.ownsRow base e z v n xs){b:Nat}{arr:Array Value}{t:TypeId}{fr:Nat×Nat}(hb:w.heap[b]? =some (.cells arr t fr))(ht:t≠e):v.ownBlock≠some b:=by
 rcases h.2 with⟨rfl,_⟩ | ⟨g,cap,cur,rfl,_,hg,_⟩
 ·intro h;cases h
 ·intro h;have:g=b:=Option.some.inj h;subst this;rw[hb]at hg;simp only[iS,Obj.cells.injEq]at hg;exact ht hg.2.1
theorem RowO.own{z:Nat}{w:World}{base:Nat}{e:TypeId}{v:Value}{n:Nat}{xs:List (List Value)}{M:Nat->Prop}(hz:∀x∈xs,x.length=z)(hl:xs.length=n)(h:w.ownsRow base e z v n xs.flatten)(hM:∀k,v.ownBlock=some k->¬M k):RowO z w M v xs:=by
 obtain⟨a,cap,e1,hlc,hc⟩:=(RowZ.of_own hz hl h).is;refine⟨a,cap,e1,hlc,fun i x hx=>?_⟩;obtain⟨bk,o,h1,h2,h3⟩:=hc i x hx;exact⟨bk,o,h1,hM bk (by rw[e1,h1];rfl),h2,h3⟩
theorem RowO.nil(z:Nat)(w:World)(M:Nat->Prop)(c:Nat):RowO z w M (.slice none 0 c) []:=⟨_,_,rfl,Nat.zero_le _,fun i u h=>by simp at h⟩
theorem RowO.sub{z:Nat}{w:World}{M M':Nat->Prop}{v:Value}{xs:List (List Value)}(h:RowO z w M v xs)(hM:∀k,M' k->M k):RowO z w M' v xs:=h.keep nL (fun _ _ _=>rfl) fun k hk=> .inl (hM k hk)
theorem RowO.grow{z:Nat}{w w':World}{M:Nat->Prop}{v:Value}{xs:List (List Value)}(h:RowO z w M v xs)(hb:Below w.heap.size w w'):RowO z w' M v xs:=h.keep hb.size (fun k hk _=>hb.block k hk) fun k hk=> .inl hk
def gD(x:Ch)(c:Value):List Value:=[.int .i64 x.node,sv x.name,c,.bool x.none,.int .i64 x.pos]
def kY(sb:Nat)(vs vn va:Value)(k:Nat):Prop:=k=sb\/vs.ownBlock=some k\/vn.ownBlock=some k\/va.ownBlock=some k
def pM(w:World)(sb:Nat)(cc v1 v2 v3 v4:Value)(dev:Bool)(vp vs vn va vw vf:Value):Prop:=w.heap[sb]? =some (.cells #[cc,v1,v2,v3,v4,.bool dev,vp,vs,vn,va,vw,vf] 62 (0,0))
structure SrR(w:World)(base sb:Nat)(s:St)(vs vn va:Value)(cs:List Value)(ce:List (Value×Value)):Prop where
 cl:cs.length=s.stack.length
 nl:ce.length=s.nodes.length
 bl:s.bound.length<=s.nodes.length
 st:w.ownsRow base 65 5 vs s.stack.length (List.zipWith gD s.stack cs).flatten
 nd:w.ownsRow base 57 6 vn s.nodes.length (List.zipWith aP s.nodes ce).flatten
 ah:w.ownsRow base 3 1 va s.ahead.length (s.ahead.map fun n:Nat=>[Value.int .i64 n]).flatten
 vr:∀(i:Nat) x c,s.stack[i]? =some x->cs[i]? =some c->RowO 3 w (kY sb vs vn va) c (x.vs.map aI)
 cr:∀(i:Nat) x c,s.nodes[i]? =some x->ce[i]? =some c->RowO 4 w (kY sb vs vn va) c.1 (x.ctx.map aG)
 er:∀(i:Nat) es c,s.bound[i]? =some es->ce[i]? =some c->RowO 2 w (kY sb vs vn va) c.2 (es.map bT)
theorem pM.grow{w w':World}{sb:Nat}{cc v1 v2 v3 v4:Value}{dev:Bool}{vp vs vn va vw vf:Value}(h:pM w sb cc v1 v2 v3 v4 dev vp vs vn va vw vf)(hb:w'.heap[sb]? =w.heap[sb]?):pM w' sb cc v1 v2 v3 v4 dev vp vs vn va vw vf:=hb.trans h
theorem pM.lt{w:World}{sb:Nat}{cc v1 v2 v3 v4:Value}{dev:Bool}{vp vs vn va vw vf:Value}(h:pM w sb cc v1 v2 v3 v4 dev vp vs vn va vw vf):sb<w.heap.size:=by
 refine Decidable.byContradiction fun hh=>?_;unfold pM at h;rw[Array.getElem?_eq_none (by omega)]at h;exact absurd h (by simp)
section
variable{w w':World}{base sb:Nat}{s:St}{vs vn va:Value}{cs:List Value}{ce:List (Value×Value)}
theorem SrR.grow(h:SrR w base sb s vs vn va cs ce)(hb:Below w.heap.size w w'):SrR w' base sb s vs vn va cs ce:=
 have hg:w.grownBy w' none:=⟨hb.os,hb.tape,hb.output,hb.size,fun k hk _=>hb.block k hk⟩;have hne:∀v:Value,v.ownBlock=none\/v.ownBlock≠none:=fun v=>by cases v.ownBlock<;>simp
 ⟨h.cl,h.nl,h.bl,h.st.kept hg (hne _),h.nd.kept hg (hne _),h.ah.kept hg (hne _),fun i x c hx hc=>(h.vr i x c hx hc).grow hb,fun i x c hx hc=>(h.cr i x c hx hc).grow hb,fun i x c hx hc=>(h.er i x c hx hc).grow hb⟩
theorem SrR.off(h:SrR w base sb s vs vn va cs ce)(hg:w.grownBy w' (some sb)){arr:Array Value}{fr:Nat×Nat}(hb:w.heap[sb]? =some (.cells arr 62 fr)):SrR w' base sb s vs vn va cs ce:=by
 have key:∀ {z:Nat} {v:Value} {xs:List (List Value)},RowO z w (kY sb vs vn va) v xs->RowO z w' (kY sb vs vn va) v xs:=fun hr=>hr.keep hg.size (fun k hk hm=>hg.block k hk fun e=>hm (.inl (Option.some.inj e))) fun k hk=> .inl hk;exact⟨h.cl,h.nl,h.bl,h.st.kept hg (.inr (bQ h.st hb (by decide))),h.nd.kept hg (.inr (bQ h.nd hb (by decide))),h.ah.kept hg (.inr (bQ h.ah hb (by decide))),fun i x c hx hc=>key (h.vr i x c hx hc),fun i x c hx hc=>key (h.cr i x c hx hc),fun i x c hx hc=>key (h.er i x c hx hc)⟩
theorem SrR.set(h:SrR w base sb s vs vn va cs ce)(i:Nat)(v:Value){arr:Array Value}{fr:Nat×Nat}(hb:w.heap[sb]? =some (.cells arr 62 fr)):SrR (w.setCell ⟨sb,i,none⟩ v) base sb s vs vn va cs ce:=
 h.off ⟨rfl,rfl,rfl,by simp,fun k hk hne=>Below.heap_setCell _ _ _ _ fun e=>hne (by rw[e])⟩ hb
theorem nG{α β γ:Type}{f:α->β->γ}{l:List α}{c:List β}{i:Nat}{x:α}{y:β}(h1:l[i]? =some x)(h2:c[i]? =some y):(List.zipWith f l c)[i]? =some (f x y):=by rw[List.getElem?_zipWith,h1,h2]
theorem yT{rows:List (List Value)}{z:Nat}(hz:∀r∈rows,r.length=z){i j:Nat}{r:List Value}{u:Value}(h1:rows[i]? =some r)(h2:r[j]? =some u):rows.flatten[i*z+j]? =some u:=by
 induction rows generalizing i with
 | nil=>simp at h1
 | cons r0 t ih=>
  have hr:=hz r0 List.mem_cons_self;rw[List.flatten_cons];cases i with
  | zero=>
   simp only[gZ,iS]at h1;subst h1;rw[Nat.zero_mul,Nat.zero_add,gL (gS h2).1];exact h2
  | succ i=>
   rw[List.getElem?_append_right (by rw[Nat.add_mul];omega),show(i+1)*z+j-r0.length=i*z+j by rw[Nat.add_mul];omega];exact ih (fun x hx=>hz x (mC _ hx)) (by simpa using h1)
theorem vW{l:List Ch}{c:List Value}:∀r∈List.zipWith gD l c,r.length=5:=fun r hr=>by
 obtain⟨i,hi,rfl⟩:=eI.1 hr;rw[List.getElem_zipWith];rfl
theorem oV{l:List Nd}{c:List (Value×Value)}:∀r∈List.zipWith aP l c,r.length=6:=fun r hr=>by
 obtain⟨i,hi,rfl⟩:=eI.1 hr;rw[List.getElem_zipWith];rfl
theorem Oj{l:List Nat}:∀r∈l.map (fun n:Nat=>[Value.int .i64 n]),r.length=1:=fun r hr=>by
 obtain⟨n,_,rfl⟩:=List.mem_map.1 hr;rfl
theorem SrR.ch(h:SrR w base sb s vs vn va cs ce){i:Nat}{x:Ch}(hx:s.stack[i]? =some x):∃g cap c,vs=.slice (some ⟨g,0,none⟩) s.stack.length cap/\base<=g/\g<w.heap.size/\cs[i]? =some c/\RowO 3 w (kY sb vs vn va) c (x.vs.map aI)/\
 w.cell? ⟨g,i*5,none⟩=some (.int .i64 x.node)/\w.cell? ⟨g,i*5+1,none⟩=some (sv x.name)/\w.cell? ⟨g,i*5+2,none⟩=some c/\w.cell? ⟨g,i*5+3,none⟩=some (.bool x.none)/\w.cell? ⟨g,i*5+4,none⟩=some (.int .i64 x.pos):=by
 have hi:=(gS hx).1;obtain⟨g,cap,e1,h1,h2⟩:=h.st.form (by omega);have hc:cs[i]? =some (cs[i]'(by rw[h.cl];exact hi)):=gE _;have hst:=h.st;rw[e1]at hst;have key:∀(j:Nat) u,(gD x (cs[i]'(by rw[h.cl];exact hi)))[j]? =some u->w.cell? ⟨g,i*5+j,none⟩=some u:=fun j u hu=>by
  have hj:j<5:=(gS hu).1;rw[hst.cellAt (i*5+j) (by omega)];exact yT vW (nG hx hc) hu
 exact⟨g,cap,_,e1,h1,h2,hc,h.vr i x _ hx hc,key 0 _ rfl,key 1 _ rfl,key 2 _ rfl,key 3 _ rfl,key 4 _ rfl⟩
theorem SrR.node(h:SrR w base sb s vs vn va cs ce){i:Nat}{x:Nd}(hx:s.nodes[i]? =some x):∃g cap c e,vn=.slice (some ⟨g,0,none⟩) s.nodes.length cap/\base<=g/\g<w.heap.size/\ce[i]? =some (c,e)/\RowO 4 w (kY sb vs vn va) c (x.ctx.map aG)/\
 w.cell? ⟨g,i*6,none⟩=some (sv x.name)/\w.cell? ⟨g,i*6+1,none⟩=some (.int .i64 x.v.a)/\w.cell? ⟨g,i*6+2,none⟩=some (.int .i64 x.v.b)/\w.cell? ⟨g,i*6+3,none⟩=some (.int .i64 x.v.c)/\w.cell? ⟨g,i*6+4,none⟩=some c/\w.cell? ⟨g,i*6+5,none⟩=some e:=by
 have hi:=(gS hx).1;obtain⟨g,cap,e1,h1,h2⟩:=h.nd.form (by omega);have hc:ce[i]? =some (ce[i]'(by rw[h.nl];exact hi)):=gE _;have hst:=h.nd;rw[e1]at hst;have key:∀(j:Nat) u,(aP x (ce[i]'(by rw[h.nl];exact hi)))[j]? =some u->w.cell? ⟨g,i*6+j,none⟩=some u:=fun j u hu=>by
  have hj:j<6:=(gS hu).1;rw[hst.cellAt (i*6+j) (by omega)];exact yT oV (nG hx hc) hu
 exact⟨g,cap,_,_,e1,h1,h2,hc,h.cr i x _ hx hc,key 0 _ rfl,key 1 _ rfl,key 2 _ rfl,key 3 _ rfl,key 4 _ rfl,key 5 _ rfl⟩
theorem SrR.ahd(h:SrR w base sb s vs vn va cs ce){i n:Nat}(hx:s.ahead[i]? =some n):∃g cap,va=.slice (some ⟨g,0,none⟩) s.ahead.length cap/\base<=g/\g<w.heap.size/\w.cell? ⟨g,i,none⟩=some (.int .i64 n):=by
 have hi:=(gS hx).1;obtain⟨g,cap,e1,h1,h2⟩:=h.ah.form (by omega);have hst:=h.ah;rw[e1]at hst;refine⟨g,cap,e1,h1,h2,?_⟩;rw[hst.cellAt i (by omega)];have:=yT (i:=i) (j:=0) Oj (by rw[gM,hx];rfl) (rfl:([Value.int .i64 n])[0]? =some _);rw[Nat.mul_one,Nat.add_zero]at this;exact this
theorem SrR.push(h:SrR w base sb s vs vn va cs ce){x:Ch}{c vs':Value}(hg:w.grownBy w' vs.ownBlock)(ho:w'.ownsRow base 65 5 vs' (s.stack.length+1) ((List.zipWith gD s.stack cs).flatten++gD x c))(hat:∀k,vs'.ownBlock=some k->vs.ownBlock=some k\/w.heap.size<=k)(hx:RowO 3 w (kY sb vs vn va) c (x.vs.map aI)):
 SrR w' base sb {s with stack:=s.stack++[x]} vs' vn va (cs++[c]) ce:=by
 have key:∀ {z:Nat} {v:Value} {xs:List (List Value)},RowO z w (kY sb vs vn va) v xs->RowO z w' (kY sb vs' vn va) v xs:=fun hr=>hr.keep hg.size (fun k hk hm=>hg.block k hk fun e=>hm (.inr (.inl e.symm))) fun k hk=>by
  rcases hk with hk | hk | hk | hk
  ·exact .inl (.inl hk)
  ·rcases hat k hk with hk | hk
   ·exact .inl (.inr (.inl hk))
   ·exact .inr hk
  ·exact .inl (.inr (.inr (.inl hk)))
  ·exact .inl (.inr (.inr (.inr hk)))
 refine⟨by simp[h.cl],h.nl,h.bl,?_,h.nd.kept hg (aJ h.nd h.st (by decide)),h.ah.kept hg (aJ h.ah h.st (by decide)),fun i y d hy hd=>?_,fun i y d hy hd=>key (h.cr i y d hy hd),fun i y d hy hd=>key (h.er i y d hy hd)⟩
 ·rw[lA,List.length_singleton,List.zipWith_append h.cl.symm,List.flatten_append];simpa using ho
 ·by_cases hi:i<s.stack.length
  ·rw[gL hi]at hy;rw[gL (by rw[h.cl];exact hi)]at hd;exact key (h.vr i y d hy hd)
  ·rw[List.getElem?_append_right (by omega)]at hy;rw[List.getElem?_append_right (by have:=h.cl;omega)]at hd;have e0:i-s.stack.length=0:=by
    have:=(gS hy).1;simp at this;omega
   rw[e0]at hy;rw[show i-cs.length=0 by have:=h.cl;omega]at hd;simp only[gZ,iS]at hy hd;subst hy;subst hd;exact key hx
theorem SrR.pop{a:Option Addr}{n c:Nat}(h:SrR w base sb s (.slice a n c) vn va cs ce){pre:List Ch}{x:Ch}(hs:s.stack=pre++[x]):SrR w base sb {s with stack:=pre} (.slice a pre.length c) vn va (cs.take pre.length) ce:=by
 obtain⟨stack,nodes,ahead,bound⟩:=s;dsimp only at hs;subst hs;obtain⟨h1,h2,h3,h4,h5,h6,h7,h8,h9⟩:=h;dsimp only at h1 h2 h3 h4 h5 h6 h7 h8 h9;have hn:n=(pre++[x]).length:=by
  obtain⟨a',c',e⟩:=aC h4;injection e
 subst hn;have key:∀ {z:Nat} {v:Value} {xs:List (List Value)},RowO z w (kY sb (.slice a (pre++[x]).length c) vn va) v xs->RowO z w (kY sb (.slice a pre.length c) vn va) v xs:=fun hr=>hr.sub fun k hk=>by
  rcases hk with hk | hk | hk | hk
  ·exact .inl hk
  ·refine .inr (.inl ?_);cases a with
   | none=>cases hk
   | some a=>exact hk
  ·exact .inr (.inr (.inl hk))
  ·exact .inr (.inr (.inr hk))
 refine⟨by rw[List.length_take,h1];simp,h2,h3,?_,h5,h6,fun i y d hy hd=>?_,fun i y d hy hd=>key (h8 i y d hy hd),fun i y d hy hd=>key (h9 i y d hy hd)⟩
 ·have:=uZ h4 (m:=pre.length) (by simp);rw[nV _ vW,List.take_zipWith,List.take_append_of_le_length nL,List.take_length]at this;exact this
 ·have hi:=(gS hy).1;dsimp only at hi;refine key (h7 i y d (by rw[gL hi];exact hy) ?_);rw[List.getElem?_take_of_lt hi]at hd;exact hd
theorem SrR.tick{g c:Nat}{n:Nat}(h:SrR w base sb s (.slice (some ⟨g,0,none⟩) n c) vn va cs ce){pre:List Ch}{x:Ch}(hs:s.stack=pre++[x])(p:Nat):SrR (w.setCell ⟨g,pre.length*5+4,none⟩ (.int .i64 p)) base sb {s with stack:=pre++[{x with pos:=p}]} (.slice (some ⟨g,0,none⟩) n c) vn va cs ce:=by
 obtain⟨stack,nodes,ahead,bound⟩:=s;dsimp only at hs;subst hs;obtain⟨h1,h2,h3,h4,h5,h6,h7,h8,h9⟩:=h;dsimp only at h1 h2 h3 h4 h5 h6 h7 h8 h9;have hn:n=(pre++[x]).length:=by
  obtain⟨a',c',e⟩:=aC h4;injection e
 subst hn;have hg:w.grownBy (w.setCell ⟨g,pre.length*5+4,none⟩ (.int .i64 p)) (some g):=⟨rfl,rfl,rfl,by simp,fun k hk hne=>Below.heap_setCell _ _ _ _ fun e=>hne (by rw[e])⟩;have key:∀ {z:Nat} {v:Value} {xs:List (List Value)},RowO z w (kY sb (.slice (some ⟨g,0,none⟩) (pre++[x]).length c) vn va) v xs->RowO z (w.setCell ⟨g,pre.length*5+4,none⟩ (.int .i64 p)) (kY sb (.slice (some ⟨g,0,none⟩) (pre++[x]).length c) vn va) v xs:=fun hr=>hr.keep hg.size (fun k hk hm=>hg.block k hk fun e=>hm (.inr (.inl e.symm))) fun k hk=> .inl hk;have hx:(pre++[x])[pre.length]? =some x:=by simp
 have hset:pre++[{x with pos:=p}]=(pre++[x]).set pre.length {x with pos:=p}:=by rw[List.set_append_right _ _ nL,Nat.sub_self];rfl
 obtain⟨d0,hd0⟩:∃d,cs[pre.length]? =some d:=⟨_,gE (by rw[h1];simp)⟩;have hst:=h4.stored (pre.length*5+4) (.int .i64 p);rw[vH _ vW pre.length 4 _ _ (nG hx hd0) (by omega)]at hst;have e1:(gD x d0).set 4 (.int .i64 p)=gD {x with pos:=p} d0:=rfl;rw[e1,<-yG gD,<-hset,set_self hd0]at hst;refine⟨by rw[h1];simp,h2,h3,by simpa using hst.1,h5.kept hg (aJ h5 h4 (by decide)),h6.kept hg (aJ h6 h4 (by decide)),fun i y d hy hd=>?_,fun i y d hy hd=>key (h8 i y d hy hd),fun i y d hy hd=>key (h9 i y d hy hd)⟩;by_cases hi:i<pre.length
 ·rw[gL hi]at hy;exact key (h7 i y d (by rw[gL hi];exact hy) hd)
 ·rw[List.getElem?_append_right (by omega)]at hy;have e0:i-pre.length=0:=by
   have:=(gS hy).1;simp at this;omega
  rw[e0]at hy;simp only[gZ,iS]at hy;subst hy;exact key (h7 i x d (by rw[show i=pre.length by omega];exact hx) hd)
theorem SrR.cut{a a':Option Addr}{n n' c c':Nat}(h:SrR w base sb s vs (.slice a n c) (.slice a' n' c') cs ce){m j:Nat}(hm:m<=s.nodes.length)(hj:j<=s.ahead.length)(hjm:j<=m):SrR w base sb {s with nodes:=s.nodes.take m,ahead:=s.ahead.take j,bound:=s.bound.take j} vs (.slice a m c) (.slice a' j c') cs (ce.take m):=by
 obtain⟨stack,nodes,ahead,bound⟩:=s;obtain⟨h1,h2,h3,h4,h5,h6,h7,h8,h9⟩:=h;dsimp only at hm hj h1 h2 h3 h4 h5 h6 h7 h8 h9 |-;have hn:n=nodes.length:=by
  obtain⟨a',c',e⟩:=aC h5;injection e
 have hn':n'=ahead.length:=by
  obtain⟨a',c',e⟩:=aC h6;injection e
 subst hn;subst hn';have key:∀ {z:Nat} {v:Value} {xs:List (List Value)},RowO z w (kY sb vs (.slice a nodes.length c) (.slice a' ahead.length c')) v xs->RowO z w (kY sb vs (.slice a m c) (.slice a' j c')) v xs:=fun hr=>hr.sub fun k hk=>by
  rcases hk with hk | hk | hk | hk
  ·exact .inl hk
  ·exact .inr (.inl hk)
  ·refine .inr (.inr (.inl ?_));cases a with
   | none=>cases hk
   | some a=>exact hk
  ·refine .inr (.inr (.inr ?_));cases a' with
   | none=>cases hk
   | some a=>exact hk
 have t1:(nodes.take m).length=m:=by rw[List.length_take];omega
 have t2:(ahead.take j).length=j:=by rw[List.length_take];omega
 refine⟨h1,by rw[List.length_take,h2,t1];omega,by rw[List.length_take,t1];omega,h4,?_,?_,fun i y d hy hd=>key (h7 i y d hy hd),fun i y d hy hd=>?_,fun i y d hy hd=>?_⟩
 ·dsimp only;rw[t1,<-List.take_zipWith,<-nV _ oV];exact uZ h5 hm
 ·dsimp only;rw[t2,List.map_take,<-nV _ Oj];exact uZ h6 hj
 ·obtain⟨g1,g2⟩:=getElem?_take_some hy;rw[List.getElem?_take_of_lt g1]at hd;exact key (h8 i y d g2 hd)
 ·obtain⟨g1,g2⟩:=getElem?_take_some hy;rw[List.getElem?_take_of_lt (by omega)]at hd;exact key (h9 i y d g2 hd)
theorem SrR.more(h:SrR w base sb s vs vn va cs ce){x:Nd}{c e vn':Value}(hg:w.grownBy w' vn.ownBlock)(ho:w'.ownsRow base 57 6 vn' (s.nodes.length+1) ((List.zipWith aP s.nodes ce).flatten++aP x (c,e)))(hat:∀k,vn'.ownBlock=some k->vn.ownBlock=some k\/w.heap.size<=k)(hx:RowO 4 w (kY sb vs vn va) c (x.ctx.map aG)):
 SrR w' base sb {s with nodes:=s.nodes++[x]} vs vn' va cs (ce++[(c,e)]):=by
 have key:∀ {z:Nat} {v:Value} {xs:List (List Value)},RowO z w (kY sb vs vn va) v xs->RowO z w' (kY sb vs vn' va) v xs:=fun hr=>hr.keep hg.size (fun k hk hm=>hg.block k hk fun e=>hm (.inr (.inr (.inl e.symm)))) fun k hk=>by
  rcases hk with hk | hk | hk | hk
  ·exact .inl (.inl hk)
  ·exact .inl (.inr (.inl hk))
  ·rcases hat k hk with hk | hk
   ·exact .inl (.inr (.inr (.inl hk)))
   ·exact .inr hk
  ·exact .inl (.inr (.inr (.inr hk)))
 refine⟨h.cl,by simp[h.nl],by have:=h.bl;simp;omega,h.st.kept hg (aJ h.st h.nd (by decide)),?_,h.ah.kept hg (aJ h.ah h.nd (by decide)),fun i y d hy hd=>key (h.vr i y d hy hd),fun i y d hy hd=>?_,fun i y d hy hd=>?_⟩
 ·dsimp only;rw[lA,List.length_singleton,List.zipWith_append h.nl.symm,List.flatten_append];simpa using ho
 ·dsimp only at hy;by_cases hi:i<s.nodes.length
  ·rw[gL hi]at hy;rw[gL (by rw[h.nl];exact hi)]at hd;exact key (h.cr i y d hy hd)
  ·rw[List.getElem?_append_right (by omega)]at hy;rw[List.getElem?_append_right (by have:=h.nl;omega)]at hd;have e0:i-s.nodes.length=0:=by
    have:=(gS hy).1;simp at this;omega
   rw[e0]at hy;rw[show i-ce.length=0 by have:=h.nl;omega]at hd;simp only[gZ,iS]at hy hd;subst hy;subst hd;exact key hx
 ·have hi:=(gS hy).1;dsimp only at hi;rw[gL (by have:=h.bl;have:=h.nl;omega)]at hd;exact key (h.er i y d hy hd)
theorem SrR.edges{g n cap:Nat}(h:SrR w base sb s vs (.slice (some ⟨g,0,none⟩) n cap) va cs ce){k:Nat}{x:Nd}(hk:s.bound.length=k)(hx:s.nodes[k]? =some x){es:List Eg}{e':Value}(he:RowO 2 w (kY sb vs (.slice (some ⟨g,0,none⟩) n cap) va) e' (es.map bT)):
 ∃ce',SrR (w.setCell ⟨g,k*6+5,none⟩ e') base sb {s with bound:=s.bound++[es]} vs (.slice (some ⟨g,0,none⟩) n cap) va cs ce':=by
 obtain⟨stack,nodes,ahead,bound⟩:=s;obtain⟨h1,h2,h3,h4,h5,h6,h7,h8,h9⟩:=h;dsimp only at hk hx h1 h2 h3 h4 h5 h6 h7 h8 h9 |-;subst hk;have hkn:=(gS hx).1;have hn:n=nodes.length:=by
  obtain⟨a',c',e⟩:=aC h5;injection e
 subst hn;have hg:w.grownBy (w.setCell ⟨g,bound.length*6+5,none⟩ e') (some g):=⟨rfl,rfl,rfl,by simp,fun k hk hne=>Below.heap_setCell _ _ _ _ fun e=>hne (by rw[e])⟩;have key:∀ {z:Nat} {v:Value} {xs:List (List Value)},RowO z w (kY sb vs (.slice (some ⟨g,0,none⟩) nodes.length cap) va) v xs->RowO z (w.setCell ⟨g,bound.length*6+5,none⟩ e') (kY sb vs (.slice (some ⟨g,0,none⟩) nodes.length cap) va) v xs:=fun hr=>hr.keep hg.size (fun k hk hm=>hg.block k hk fun e=>hm (.inr (.inr (.inl e.symm)))) fun k hk=> .inl hk;obtain⟨d0,hd0⟩:∃d,ce[bound.length]? =some d:=⟨_,gE (by rw[h2];exact hkn)⟩;have hst:=h5.stored (bound.length*6+5) e';rw[vH _ oV bound.length 5 _ _ (nG hx hd0) (by omega)]at hst;have e1:(aP x d0).set 5 e'=aP x (d0.1,e'):=rfl;rw[e1,<-yG aP,set_self hx]at hst;refine⟨ce.set bound.length (d0.1,e'),h1,by rw[List.length_set];exact h2,by simp;omega,h4.kept hg (aJ h4 h5 (by decide)),hst.1,h6.kept hg (aJ h6 h5 (by decide)),fun i y d hy hd=>key (h7 i y d hy hd),fun i y d hy hd=>?_,fun i y d hy hd=>?_⟩
 ·by_cases hi:bound.length=i
  ·subst hi;rw[List.getElem?_set_self (by omega)]at hd;cases hd;exact key (h8 _ y d0 hy hd0)
  ·rw[List.getElem?_set_ne hi]at hd;exact key (h8 i y d hy hd)
 ·by_cases hi:i<bound.length
  ·rw[gL hi]at hy;rw[List.getElem?_set_ne (by omega)]at hd;exact key (h9 i y d hy hd)
  ·rw[List.getElem?_append_right (by omega)]at hy;have e0:i-bound.length=0:=by
    have:=(gS hy).1;simp at this;omega
   rw[e0]at hy;have ei:i=bound.length:=by omega
   subst ei;rw[List.getElem?_set_self (by omega)]at hd;simp only[gZ,iS]at hy hd;subst hy;subst hd;exact key he
theorem SrR.ahead(h:SrR w base sb s vs vn va cs ce){n:Nat}{va':Value}(hg:w.grownBy w' va.ownBlock)(ho:w'.ownsRow base 3 1 va' (s.ahead.length+1) ((s.ahead.map fun n:Nat=>[Value.int .i64 n]).flatten++[.int .i64 n]))(hat:∀k,va'.ownBlock=some k->va.ownBlock=some k\/w.heap.size<=k):
 SrR w' base sb {s with ahead:=s.ahead++[n]} vs vn va' cs ce:=by
 have key:∀ {z:Nat} {v:Value} {xs:List (List Value)},RowO z w (kY sb vs vn va) v xs->RowO z w' (kY sb vs vn va') v xs:=fun hr=>hr.keep hg.size (fun k hk hm=>hg.block k hk fun e=>hm (.inr (.inr (.inr e.symm)))) fun k hk=>by
  rcases hk with hk | hk | hk | hk
  ·exact .inl (.inl hk)
  ·exact .inl (.inr (.inl hk))
  ·exact .inl (.inr (.inr (.inl hk)))
  ·rcases hat k hk with hk | hk
   ·exact .inl (.inr (.inr (.inr hk)))
   ·exact .inr hk
 refine⟨h.cl,h.nl,h.bl,h.st.kept hg (aJ h.st h.ah (by decide)),h.nd.kept hg (aJ h.nd h.ah (by decide)),?_,fun i y d hy hd=>key (h.vr i y d hy hd),fun i y d hy hd=>key (h.cr i y d hy hd),fun i y d hy hd=>key (h.er i y d hy hd)⟩;dsimp only;rw[lA,List.length_singleton,List.map_append,List.flatten_append];exact ho
end
end Top
end
section
open VL
namespace Top
theorem nO{l:List Sp}(h:l.length<=64):(jF l).length<=1990:=by
 have h1:=uU l;unfold jF;split
 ·simp
 ·omega
theorem jH{n:List UInt8}(h:Scan.dG n=true):n≠[]/\n.length<=16:=by
 rw[Scan.sS]at h;simp only[Bool.and_eq_true,decide_eq_true_eq]at h;refine⟨fun e=>?_,h.2.1⟩;rw[e]at h;simp at h
structure LsOk(l:List Dp):Prop where
 len:l.length<=16
 at_:∀d∈l,d.name≠[]/\d.name.length<=16/\dE d.rg=true/\d.rg.length<=64
theorem xW{l:List Dp}:bU l=true↔l.length<=16/\∀j,j<l.length->iG l j=true:=by
 unfold bU;rw[Bool.and_eq_true,List.all_eq_true,decide_eq_true_eq];exact⟨fun h=>⟨h.2,fun j hj=>h.1 j (List.mem_range.2 hj)⟩,fun h=>⟨fun j hj=>h.2 j (List.mem_range.1 hj),h.1⟩⟩
theorem xB{l:List Sp}(h:dE l=true):l.length<=64:=by
 refine Decidable.byContradiction fun hh=>?_;rw[oL (by omega)]at h;exact absurd h (by simp)
theorem eH{l:List Dp}(h:bU l=true):LsOk l:=by
 obtain⟨h1,h2⟩:=xW.1 h;refine⟨h1,fun d hd=>?_⟩;obtain⟨j,hj,rfl⟩:=eI.1 hd;have hg:=h2 j hj;rw[nY (gE hj)]at hg;simp only[Bool.and_eq_true]at hg;obtain⟨a,b⟩:=jH hg.1;exact⟨a,b,hg.2.1,xB hg.2.1⟩
theorem mR{l:List Dp}(h:bU l=true):(l.map (·.name)).Nodup:=by
 obtain⟨h1,h2⟩:=xW.1 h;have hr:bM (fun d:Dp=>d.name) l:=mD fun j x y hx hy=>by
  have hj:=(gS hy).1;have hg:=h2 (j+1) hj;rw[nY hy]at hg;simp only[Bool.and_eq_true,Bool.or_eq_true,decide_eq_true_eq]at hg;have hgg:=hg.2.2.2;rw[show j+1-1=j from rfl,hx]at hgg;rcases hgg with hgg | hgg
  ·omega
  ·exact hgg
 exact aX _ hr
def gK(wd:List UInt8)(d:Dp):List UInt8:=wd++[32]++d.name++[32]++jF d.rg++[10]
def aH(wd:List UInt8)(l:List Dp):List UInt8:=l.flatMap (gK wd)
theorem kT{wd:List UInt8}{l:List Dp}{k:Nat}{d:Dp}(h:l[k]? =some d):aH wd (l.take (k+1))=aH wd (l.take k)++gK wd d:=by
 unfold aH;rw[List.take_add_one,h,List.flatMap_append];simp
theorem tH{wd:List UInt8}(hw:wd.length<=20):∀ {l:List Dp},(∀d∈l,d.name.length<=16/\d.rg.length<=64)->(aH wd l).length<=2100*l.length
 | [],_=>by simp[aH]
 | d::r,h=>by
  have ih:=tH hw (l:=r) (fun x hx=>h x (mC _ hx));have h1:=h d List.mem_cons_self;have h2:=nO h1.2;unfold aH at ih |-;rw[List.flatMap_cons,lA,lC];have:(gK wd d).length<=2100:=by
   unfold gK;simp;omega
  omega
theorem LsOk.lines{wd:List UInt8}(hw:wd.length<=20){l:List Dp}(h:LsOk l)(k:Nat):(aH wd (l.take k)).length<=33600:=by
 have h1:=tH hw (l:=l.take k) (fun d hd=>by have:=h.at_ d (List.mem_of_mem_take hd);exact⟨this.2.1,this.2.2.2⟩);rw[List.length_take]at h1;have:=h.len;omega
def sD:List UInt8:=[112,97,99,107,97,103,101,32]
def fO:List UInt8:=[110,101,101,100,115]
def jM:List UInt8:=[98,101,115,105,100,101]
def jV:List UInt8:=[108,105,107,101,115]
def Oq:List UInt8:=[100,101,118]
def Ew:List UInt8:=[112,105,110,115]
def uK:List UInt8:=[112,114,111,106,101,99,116,10]
def fU(p:Pk):List UInt8:=sD++p.name++[32]++p.v.txt++[10]
def sM(p:Pk):List UInt8:=fU p++aH fO p.deps++aH jM p.peers++aH jV p.opts
def bJ(p:Pk):Bool:=Scan.dG p.name&&(p.v.may&&(bU p.deps&&(bU p.peers&&(bU p.opts&&(jJ [p.deps,p.peers,p.opts]&&decide ((sM p).length<=4096))))))
theorem oU{p:Pk}(h:p.name.length<=16):(fU p).length<=40:=by
 have:=iK p.v;unfold fU sD;simp;omega
theorem vO{a b:List Dp}:pF a b=true↔∀x∈a,∀y∈b,x.name≠y.name:=by
 unfold pF;simp only[List.all_eq_true,decide_eq_true_eq]
theorem Er{a b c:List Dp}(ha:bU a=true)(hb:bU b=true)(hc:bU c=true):jJ [a,b,c]=(pF a b&&(pF a c&&pF b c)):=by
 have ha':=mR ha;have hb':=mR hb;have hc':=mR hc;refine Bool.eq_iff_iff.2 ?_;unfold jJ;rw[Bool.and_eq_true,Bool.and_eq_true,vO,vO,vO,decide_eq_true_eq];simp only[List.flatten_cons,List.flatten_nil,List.append_nil,List.map_append,List.nodup_append,List.mem_append,List.mem_map];constructor
 ·rintro⟨_,⟨_,_,h2⟩,h1⟩;refine⟨fun x hx y hy=>h1 _ ⟨x,hx,rfl⟩ _ (Or.inl ⟨y,hy,rfl⟩),fun x hx y hy=>h1 _ ⟨x,hx,rfl⟩ _ (Or.inr ⟨y,hy,rfl⟩),fun x hx y hy=>h2 _ ⟨x,hx,rfl⟩ _ ⟨y,hy,rfl⟩⟩
 ·rintro⟨h1,h2,h3⟩;refine⟨ha',⟨hb',hc',?_⟩,?_⟩
  ·rintro _ ⟨x,hx,rfl⟩ _ ⟨y,hy,rfl⟩;exact h3 x hx y hy
  ·rintro _ ⟨x,hx,rfl⟩ _ (⟨y,hy,rfl⟩ | ⟨y,hy,rfl⟩)
   ·exact h1 x hx y hy
   ·exact h2 x hx y hy
theorem Ht{p:Pk}(h:bJ p=true):Names (p.deps++p.opts):=by
 unfold bJ at h;simp only[Bool.and_eq_true]at h;obtain⟨_,_,h1,h2,h3,h4,_⟩:=h;have hd:=(eH h1).at_;have ho:=(eH h3).at_;unfold jJ at h4;rw[decide_eq_true_eq]at h4;refine⟨List.Nodup.sublist ?_ h4,fun d hd'=>?_⟩
 ·simp
 ·rcases List.mem_append.1 hd' with hd' | hd'
  ·exact(hd d hd').1
  ·exact(ho d hd').1
end Top
end
end Go.Proofs.YtcohlmdnahdnaaaGreatDoor
