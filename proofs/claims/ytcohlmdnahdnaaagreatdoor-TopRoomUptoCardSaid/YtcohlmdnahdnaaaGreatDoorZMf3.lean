/- May three lists be a manifest's? The walk. -/
import Derived.Deep.Slices
import Derived.Deep.Upon
import Derived.Test.YtcohlmdnahdnaaaGreatDoorZMf1
namespace Go.Proofs.YtcohlmdnahdnaaaGreatDoor
open Go.RowKit
set_option linter.unusedVariables false
set_option linter.unusedSimpArgs false
set_option maxHeartbeats 16000000
set_option maxRecDepth 100000
section
open Go.RowKit Go.Deep
open Top
theorem fA{P:Program}{w:World}{ops:Array Oper}{rest:List Oper}{o:Oper}{a:Act}{Q:Exit->Act->World->Prop}(hgd:o.guard=none)(s x:Operand)(t:TypeId)
 (ho:o.op=.call {callee:=.builtin .append,args:=#[s,x],argTypes:=#[t,t]})(e:TypeId)(i:TypeInfo)(ht:P.underlying t=some (.slice e))(hi:P.info? e=some i)
 (ao:Option Addr)(q co c:Nat)(hs:a.eval s=.slice ao q co)(hx:a.eval x=.slice none 0 c)(hq:q<=co)(h:wpList P ops Q rest (a.put o.dst (.slice ao q co)) w):wpList P ops Q (o::rest) a w:=
 wpList_plain hgd fun _ hK=>by
  have hr:=run_append_nothing (P:=P) w t t o.type e i ht hi ao q co hq (.slice none 0 c) (Src.ofNil w ht c);unfold Oper.wp execOp;simp only[ho,resolve,invoke,builtin,Sem.run_bind,Sem.run_pure,Result.andThen_ok,List.map_toArray,List.map_cons,List.map_nil,hs,hx,hr];exact hK _ _ h
namespace Top
theorem Mh{x y z l:List Dp}(h:l∈[x,y,z])(hl:dL l=false):fF x y z=false:=by
 simp only[List.mem_cons,List.not_mem_nil,or_false]at h;unfold fF;rcases h with rfl | rfl | rfl<;>simp[hl]
theorem Ij{x y z:List Dp}(h:∀l∈[x,y,z],dL l=true):fF x y z=decide (((x++y++z).map (·.name)).Nodup):=by
 unfold fF;rw[h x (by simp),h y (by simp),h z (by simp)];rfl
theorem Ap{l:List Dp}(h:¬l.length<=16):dL l=false:=by
 unfold dL;rw[decide_eq_false h];rfl
theorem Ik{l:List Dp}(h:eX l=false):dL l=false:=by
 unfold dL;rw[h];simp
theorem Di{l:List Dp}{k:Nat}{x:Dp}(hx:l[k]? =some x)(h:iF x=false):dL l=false:=by
 unfold dL;have:l.all iF=false:=List.all_eq_false.2 ⟨x,mG hx,by rw[h];decide⟩;rw[this];simp
theorem Aq{l:List Dp}(h1:l.length<=16)(h2:eX l=true)(h3:∀(k:Nat) x,l[k]? =some x->iF x=true):dL l=true:=by
 unfold dL;rw[decide_eq_true h1,h2];have:l.all iF=true:=List.all_eq_true.2 fun x hx=>by
  obtain⟨k,hk,rfl⟩:=eI.1 hx;exact h3 k _ (gE hk)
 rw[this];rfl
theorem Tk{w:World}{B:Nat}{ad:Addr}{n c:Nat}{l:List Dp}(h:DpsAt w B (.slice (some ad) n c) l):∃K:List Dv,K.length=l.length/\K.map (·.name)=l.map (·.name)/\(K.flatMap bF).length=n*2/\(∀u∈K.flatMap bF,u.oneCell'=true)/\∀j u,(K.flatMap bF)[j]? =some u->w.cell? (ad.add j)=some u:=by
 obtain⟨cs,h1,h2,h3⟩:=h.is;have hfm:∃f:List (Option Addr×Nat×Nat),f.length=l.length/\∀(i:Nat) (c:Value),cs[i]? =some c->∃t:Option Addr×Nat×Nat,f[i]? =some t/\c=Value.slice t.1 t.2.1 t.2.2:=by
  obtain⟨F,hF⟩:=choose_lt (α:=Option Addr×Nat×Nat) (n:=l.length) (p:=fun i t=>∀c,cs[i]? =some c->c=Value.slice t.1 t.2.1 t.2.2) fun i hi=>by
   have hc:cs[i]? =some (cs[i]'(by omega)):=gE (by omega);obtain⟨a,cap,e⟩:=RowZ.form (h3 i _ _ (gE hi) hc);exact⟨(a,_,cap),fun c hc'=>by rw[hc]at hc';cases hc';exact e⟩
  refine⟨(List.range l.length).map F,by simp,fun i c hc=>?_⟩;have hi:i<l.length:=by rw[<-h1];exact(gS hc).1
  exact⟨F i,by rw[gM,List.getElem?_range hi];rfl,hF i hi c hc⟩
 obtain⟨f,hf1,hf2⟩:=hfm;obtain⟨K,hK⟩:∃K:List Dv,K=List.zipWith (fun d t=>⟨d.name,t.1,t.2.1,t.2.2⟩) l f:=⟨_,rfl⟩;have hKl:K.length=l.length:=by rw[hK,List.length_zipWith,hf1,Nat.min_self]
 have hcell:List.zipWith dJ l cs=K.map bF:=by
  refine List.ext_getElem? fun i=>?_;rw[List.getElem?_zipWith,gM,hK,List.getElem?_zipWith];by_cases hi:i<l.length
  ·have hc:cs[i]? =some (cs[i]'(by omega)):=gE (by omega);obtain⟨t,ht,e⟩:=hf2 i _ hc;rw[gE hi,hc,ht,e];rfl
  ·rw[List.getElem?_eq_none (by omega:l.length<=i)];rfl
 rw[hcell]at h2;have hn:n=l.length:=by
  obtain⟨a,cap,e⟩:=RowZ.form h2;injection e with _ e2 _
  rw[e2,lM,hKl]
 refine⟨K,hKl,?_,by rw[dZ Ed,hKl,hn],fun u hu=>?_,?_⟩
 ·refine List.ext_getElem? fun i=>?_;rw[gM,hK,List.getElem?_zipWith,gM];by_cases hi:i<l.length
  ·have hfi:f[i]? =some (f[i]'(by omega)):=gE (by omega);rw[gE hi,hfi];rfl
  ·rw[List.getElem?_eq_none (by omega:l.length<=i)];rfl
 ·obtain⟨x,_,hx⟩:=List.mem_flatMap.1 hu;exact Ni x u hx
 ·by_cases h0:K.length=0
  ·rw[List.length_eq_zero_iff.1 h0];exact fun j u hu=>by simp at hu
  ·obtain⟨bk,o,cap,e,_,_,hu⟩:=h2.some (by rw[lM];omega);injection e with e1 _ _
   injection e1 with e1
   subst e1;have hf:=jD (B:=0) (n:=0) (cap:=0) (fun x hx=>by
    obtain⟨y,_,rfl⟩:=List.mem_map.1 hx;rfl) hu
   rw[<-List.flatMap_def]at hf;exact hf.2
end Top
theorem xM(w:World)(v1 v2 v3:Value)(x y z:List Dp)(h1:DpsAt w w.heap.size v1 x)(h2:DpsAt w w.heap.size v2 y)(h3:DpsAt w w.heap.size v3 z)(z1:kK 1048576 x)(z2:kK 1048576 y)(z3:kK 1048576 z):
 Calls Tryz.prog 32 #[v1,v2,v3] w fun e w'=>e=.returned (.bool (fF x y z))/\Below w.heap.size w w':=by
 obtain⟨i0,hi,ha0,ha1,ha2⟩:=info_parts Mo;have hen:=zC;obtain⟨a1,c1,e1⟩:=h1.form;obtain⟨a2,c2,e2⟩:=h2.form;obtain⟨a3,c3,e3⟩:=h3.form;obtain⟨n1,hn1⟩:=ex (x.length);obtain⟨n2,hn2⟩:=ex (y.length);obtain⟨n3,hn3⟩:=ex (z.length);rw[<-hn1]at e1;rw[<-hn2]at e2;rw[<-hn3]at e3;subst e1 e2 e3;obtain⟨wb,hwb⟩:=ex (w.alloc (.cells #[.slice a1 n1 c1,.slice a2 n2 c2,.slice a3 n3 c3] 23));have hbb:Below w.heap.size w wb:=by rw[hwb];exact(bR _ _).alloc nL _
 have hgb:wb.heap[w.heap.size]? =some (.cells #[.slice a1 n1 c1,.slice a2 n2 c2,.slice a3 n3 c3] 23 (0,0)):=by rw[hwb];exact heap_alloc_new w _
 have HAT:Hid (∀i,i<3->∃(l:List Dp) (a:Option Addr) (N c:Nat),[x,y,z][i]? =some l/\N=l.length/\DpsAt w w.heap.size (.slice a N c) l/\kK 1048576 l/\∀W,Below wb.heap.size wb W->W.cell? ⟨w.heap.size,i,none⟩=some (.slice a N c)):=Hd (fun i hi=>by
  have hcell:∀W,Below wb.heap.size wb W->∀j,W.cell? ⟨w.heap.size,j,none⟩=(#[Value.slice a1 n1 c1,.slice a2 n2 c2,.slice a3 n3 c3]:Array Value)[j]?:=fun W hW j=>Go.Lib.cell_of_heap (by rw[hW.block _ (by rw[hwb];simp)];exact hgb) j
  match i,hi with
  | 0,_=>exact⟨x,a1,n1,c1,rfl,hn1,h1,z1,fun W hW=>hcell W hW 0⟩
  | 1,_=>exact⟨y,a2,n2,c2,rfl,hn2,h2,z2,fun W hW=>hcell W hW 1⟩
  | 2,_=>exact⟨z,a3,n3,c3,rfl,hn3,h3,z3,fun W hW=>hcell W hW 2⟩)
 have HFL:Hid ([x,y,z].flatten=x++y++z):=Hd (by simp);obtain⟨ls,hls⟩:=ex ([x,y,z]);have hl3:ls.length=3:=by rw[hls];rfl
 have HNO:Hid (∀l∈ls,dL l=false->fF x y z=false):=Hd (fun l hl h=>Mh (by rw[<-hls];exact hl) h);have HYES:Hid ((∀l∈ls,dL l=true)->fF x y z=decide (((x++y++z).map (·.name)).Nodup)):=Hd (fun h=>Ij (by rw[<-hls];exact h));rw[<-hls]at HAT HFL;have HL3:=Hd hl3;have HWB:=Hd hwb;have HBB:=Hd hbb;have HUP:Hid (∀W,Below wb.heap.size wb W->Below w.heap.size w W):=Hd (fun W hW=>hbb.trans (hW.mono hbb.size));clear h1 h2 h3 z1 z2 z3 hn1 hn2 hn3 hwb hbb hgb hls hl3;go_enter Tryz.func32,Tryz.ntmps32;go_upto_region 4 with fail;rw[<-HWB.out];go_loopw [19,8] (fun p s wr=>∃(i q:Nat) (ao:Option Addr) (co:Nat) (L:List Dv),p=.int .i64 i/\s=.slice ao q co/\i<=3/\q=L.length/\(q:Int)<=(i:Int)*16/\L.map (·.name)=((ls.take i).flatten).map (·.name)/\(∀(j:Nat) l,j<i->ls[j]? =some l->dL l=true)/\wr.ownsRow wb.heap.size 75 2 (.slice ao q co) q (L.flatMap bF)/\Below wb.heap.size wb wr) (fun p _ _=>3-(intOf p).toNat)
 case atStart=>exact⟨0,0,none,0,[],rfl,rfl,Nat.zero_le _,rfl,by simp,by simp,fun j l hj=>absurd hj (by omega),World.ownsRow_nil _ _ _ _,bR _ _⟩
 case round=>
  obtain⟨wu,rfl⟩:∃x,x=wr:=⟨wr,rfl⟩;obtain⟨i,q,ao,co,L,rfl,rfl,hi3,hq,hq2,hL,hall,hown,hb⟩:=hrel;have HQL:=Hd hq;have HLL:=Hd hL;have HOW:=Hd hown;have HB:=Hd hb;have HALL:=Hd hall;clear hq hL hall hown;by_cases hi2:i<3
  ·obtain⟨l,a,N,c,hl,hN,hda,hz,hcm⟩:=HAT.out i hi2;have f0:=hcm wu hb;have HN:=Hd hN;have HR:=Hd hda;have HZ:=Hd hz;have HLI:=Hd hl;have HLM:Hid (l∈ls):=Hd (mG hl);have hNs:N<=1048576:=by rw[hN];have:=hz.1;omega
   obtain⟨so,hso⟩:=ex (eX l);have HSO:Hid (∀W,Below w.heap.size w W->Calls Tryz.prog 69 #[.slice a N c,.func (.func 68) #[] #[]] W fun e w'=>e=.returned (.bool so)/\Below W.heap.size W w'):=Hd (fun W hW=>by
    rw[hso];exact zF W _ l ((hda.below hW nL).mono hW.size) (by rw[<-hN];omega))
   have HSE:=Hd hso;clear hl hN hda hz hcm hso;by_cases hN16:N<=16
   ·have hg16:¬(16:Int)<(N:Int):=by omega
    go_wp2_with fail;refine(HSO.out _ (HUP.out _ hb)).mono ?_;rintro e w3 ⟨rfl,hb3⟩;have hb3':Below wb.heap.size wb w3:=hb.trans (hb3.mono hb.size);cases so
    ·have HF:Hid (fF x y z=false):=Hd (HNO.out l HLM.out (Ik HSE.out.symm));go_wp2;go_returns;exact⟨by rw[HF.out];rfl,HUP.out _ hb3'⟩
    ·have HOW3:Hid (w3.ownsRow wb.heap.size 75 2 (.slice ao q co) q (L.flatMap bF)):=Hd (bL HOW.out (fun k _ hk=>hb3.block k hk) nL);have HB3:=Hd hb3';clear hb3 hb3' hb f0;go_wp2;go_loopw [34] (fun p wr2=>∃k:Nat,p=.int .i64 k/\k<=N/\(∀(j:Nat) d,j<k->l[j]? =some d->iF d=true)/\Below w3.heap.size w3 wr2) (fun p _=>N-(intOf p).toNat);case atStart=>exact⟨0,rfl,by omega,fun j d hj=>absurd hj (by omega),bR _ _⟩
     case round=>
      obtain⟨wo,rfl⟩:∃x,x=wr:=⟨wr,rfl⟩;obtain⟨k,rfl,hk,hitem,hbo⟩:=hrel;have HIT:=Hd hitem;have HBO:=Hd hbo;have HBW:Hid (Below wb.heap.size wb wo):=Hd (HB3.out.trans (hbo.mono HB3.out.size));have hbw:=HUP.out _ HBW.out;clear hitem;by_cases hkN:k<N
      ·obtain⟨d,hd⟩:∃d,l[k]? =some d:=⟨_,gE (by have:=HN.out;omega)⟩;obtain⟨bk,o,cap,hve,hcap,hbk,hat⟩:=HR.out.at (by have:=HN.out;omega);rw[<-HN.out]at hve;cases hve;obtain⟨ra,rc,hrg,e0,e1⟩:=hat k d hd;have e0:=(hbw.cell (p:=⟨bk,o+k*2,none⟩) hbk).trans e0;have e1:=(hbw.cell (p:=⟨bk,o+k*2+1,none⟩) hbk).trans e1;have hzd:=HZ.out.2 d (mG hd);have HD:=Hd hd;obtain⟨nm,rg⟩:=d;dsimp only at hrg e0 e1 hzd;unfold sv at e0;obtain⟨M,hM⟩:=ex (rg.length);rw[<-hM]at hrg e1 hzd;have hns:(bs nm).size<=9223372036854775807:=by rw[eT];omega
       obtain⟨nok,hnok⟩:=ex (Scan.dG nm);obtain⟨mok,hmok⟩:=ex (dE rg);have HNM:Hid (∀W,Calls Tryz.prog 55 #[.string (bs nm)] W fun e w'=>e=.returned (.bool nok)/\Below W.heap.size W w'):=Hd (fun W=>by
        rw[hnok];exact vD (bs nm) hns W)
       have HSM:Hid (∀W,Below w.heap.size w W->Calls Tryz.prog 70 #[.slice ra M rc] W fun e w'=>e=.returned (.bool mok)/\Below W.heap.size W w'):=Hd (fun W hW=>by
        rw[hmok];exact nJ W _ rg ((RowZ.below hrg hW nL).mono hW.size) (by omega))
       have HIE:Hid (iF ⟨nm,rg⟩=(nok&&(mok&&decide (M≠0)))):=Hd (by
        unfold iF;rw[hnok,hmok,hM];cases rg<;>simp)
       have HBAD:Hid (iF ⟨nm,rg⟩=false->fF x y z=false):=Hd (fun h=>HNO.out l HLM.out (Di HD.out h));have HGOOD:Hid (iF ⟨nm,rg⟩=true->∀(j:Nat) d,j<k+1->l[j]? =some d->iF d=true):=Hd (fun h j d2 hj hd2=>by
        rcases Nat.lt_or_ge j k with h' | h'
        ·exact HIT.out j d2 h' hd2
        ·have ej:j=k:=by omega
         rw[ej]at hd2;have ee:=HD.out.symm.trans hd2;injection ee with ee
         rw[<-ee];exact h)
       obtain⟨wa,hwa⟩:=ex (wo.alloc (.cells #[.string (bs nm),.slice ra M rc] 75));have hba:Below wo.heap.size wo wa:=by rw[hwa];exact(bR _ _).alloc nL _
       have hza:wo.heap.size<wa.heap.size:=by rw[hwa];simp
       have hblk:wa.heap[wo.heap.size]? =some (.cells #[.string (bs nm),.slice ra M rc] 75 (0,0)):=by rw[hwa];exact heap_alloc_new wo _
       have HCA:Hid (∀W,Below wa.heap.size wa W->W.cell? ⟨wo.heap.size,0,none⟩=some (.string (bs nm))/\W.cell? ⟨wo.heap.size,1,none⟩=some (.slice ra M rc)):=Hd (fun W hW=>by
        have h1:W.heap[wo.heap.size]? =some (.cells #[.string (bs nm),.slice ra M rc] 75 (0,0)):=by rw[hW.block _ hza];exact hblk
        exact⟨by unfold World.cell?;rw[h1];rfl,by unfold World.cell?;rw[h1];rfl⟩)
       have HBA:=Hd hba;have HWA:=Hd hwa;have HBX:Hid (∀W,Below wa.heap.size wa W->Below w.heap.size w W/\Below w3.heap.size w3 W):=Hd (fun W hW=>⟨HUP.out _ (HBW.out.trans ((hba.trans (hW.mono hba.size)).mono HBW.out.size)),HBO.out.trans ((hba.trans (hW.mono hba.size)).mono HBO.out.size)⟩);clear hd hat hcap hrg hzd hnok hmok hM hwa hba hza hblk hbw hbo;go_upto_region 11 with fail;rw[<-HWA.out];clear e0 e1;obtain⟨e0,e1⟩:=HCA.out wa (bR _ _);go_wp2_with fail;refine(HNM.out _).mono ?_;rintro e w4 ⟨rfl,hb4⟩;have HB4:=Hd hb4;clear e0 e1 hb4;obtain⟨e0,e1⟩:=HCA.out w4 HB4.out;cases nok
       ·have HF:=Hd (HBAD.out (by rw[HIE.out];rfl));go_wp2;go_returns;exact⟨by rw[HF.out];rfl,(HBX.out _ HB4.out).1⟩
       ·go_wp2_with fail;refine(HSM.out _ (HBX.out _ HB4.out).1).mono ?_;rintro e w5 ⟨rfl,hb5⟩;have HB5:Hid (Below wa.heap.size wa w5):=Hd (HB4.out.trans (hb5.mono HB4.out.size));clear e0 e1 hb5;obtain⟨e0,e1⟩:=HCA.out w5 HB5.out;cases mok
        ·have HF:=Hd (HBAD.out (by rw[HIE.out];rfl));go_wp2;go_returns;exact⟨by rw[HF.out];rfl,(HBX.out _ HB5.out).1⟩
        ·by_cases hm0:M=0
         ·have HF:=Hd (HBAD.out (by rw[HIE.out,decide_eq_false (by simp[hm0])];rfl));subst hm0;go_wp2;go_returns;exact⟨by rw[HF.out];rfl,(HBX.out _ HB5.out).1⟩
         ·have hmz:(((M:Nat):Int)==0)=false:=by rw[beq_eq_false_iff_ne];omega
          have HG:=Hd (HGOOD.out (by rw[HIE.out,decide_eq_true hm0];rfl));have hmz2:¬((M:Nat):Int)=0:=by omega
          clear hm0;go_wp2;go_roundw;case rel=>exact⟨k+1,by go_num,by omega,HG.out,(HBX.out _ HB5.out).2⟩
          case measure=>simp[intOf];omega
      ·have HF:Hid (dL l=true):=Hd (Aq (by have:=HN.out;omega) HSE.out.symm (fun j d hd=>HIT.out j d (by have:=(gS hd).1;have:=HN.out;omega) hd));have HALL2:Hid (∀(j:Nat) l',j<i+1->ls[j]? =some l'->dL l'=true):=Hd (fun j l' hj hl'=>by
        rcases Nat.lt_or_ge j i with h' | h'
        ·exact HALL.out j l' h' hl'
        ·have:j=i:=by omega
         subst this;rw[HLI.out]at hl';cases hl';exact HF.out)
       have HTK:Hid (ls.take (i+1)=ls.take i++[l]):=Hd (by rw[List.take_add_one,HLI.out];rfl);have HOW:Hid (wo.ownsRow wb.heap.size 75 2 (.slice ao q co) q (L.flatMap bF)):=Hd (bL HOW3.out (fun k _ hk=>HBO.out.block k hk) nL);have hqs:q<=48:=by omega
       cases a with
       | none=>
        have hN0:N=0:=by
         refine Decidable.byContradiction fun hh=>?_;obtain⟨bk,o,cap,e,_⟩:=HR.out.at (by have:=HN.out;omega);injection e with e1
         exact absurd e1 (by simp)
        subst hN0;have hl0:l=[]:=List.length_eq_zero_iff.1 HN.out.symm;have hqc:q<=co:=by
         rcases HOW.out.2 with⟨hv,h0⟩ | ⟨g,cap,cur,hv,_,_,h5,_⟩
         ·omega
         ·cases hv;exact h5
        go_wp2_with (at_builtin;refine fA rfl _ _ 23 rfl 75 i0 Tryz.underlying23 hi ao q co c rfl rfl hqc ?_);go_roundw;case rel=>exact⟨i+1,q,ao,co,L,by go_num,rfl,by omega,HQL.out,by omega,by rw[HTK.out,HLL.out,hl0];simp,HALL2.out,HOW.out,HBW.out⟩
        case measure=>simp[intOf];omega
       | some ad=>
        obtain⟨K,hK1,hK2,hK3,hK4,hK5⟩:=Tk HR.out;have HSRC:Hid ((K.flatMap bF).length=N*2/\∀j u,(K.flatMap bF)[j]? =some u->wo.cell? (ad.add j)=some u):=Hd ⟨hK3,fun j u hu=>by
         have h0:=hK5 j u hu;rw[<-h0];exact hbw.cell (lt_of_cell h0)⟩
        have HONE:=Hd hK4;have HKN:Hid ((L++K).length=q+N/\(L++K).map (·.name)=((ls.take (i+1)).flatten).map (·.name)):=Hd ⟨by rw[lA,hK1,<-HQL.out,<-HN.out],by rw[List.map_append,HTK.out,HLL.out,hK2];simp⟩;clear hK1 hK2 hK3 hK4 hK5;go_wp2_with (at_builtin;refine wpList_append_own _ rfl _ _ 23 rfl wb.heap.size 75 i0 (.agg #[.string ByteArray.empty,.slice none 0 0]) 2 40 Tryz.underlying23 hi ha0 ha1 ha2 rfl (by decide) _ q (L.flatMap bF) rfl HOW.out ad N c (K.flatMap bF) rfl HSRC.out.1 HSRC.out.2 HONE.out (by unfold maxLen;omega) (by omega) (by have:=HBW.out.size;omega) ?_;intro v' w2 hown2 hgrow2 hnil2);obtain⟨a',c',rfl⟩:∃a' c',v'=.slice a' (q+N) c':=aC hown2;have hbx:Below wb.heap.size wb w2:=HBW.out.grown hgrow2 HBW.out.size (fun k hk=>(HOW.out.lt k hk).1);have HOW2:Hid (w2.ownsRow wb.heap.size 75 2 (.slice a' (q+N) c') (q+N) ((L++K).flatMap bF)):=Hd (by rw[List.flatMap_append];exact hown2)
        clear hown2 hgrow2 hnil2;go_wp2;go_roundw;case rel=>exact⟨i+1,q+N,a',c',L++K,by go_num,rfl,by omega,HKN.out.1.symm,by omega,HKN.out.2,HALL2.out,HOW2.out,hbx⟩
        case measure=>simp[intOf];omega
   ·have HF:Hid (fF x y z=false):=Hd (HNO.out l HLM.out (Ap (by rw[<-HN.out];exact hN16)));have hg16:(16:Int)<(N:Int):=by omega
    go_wp2;go_returns;exact⟨by rw[HF.out];rfl,HUP.out _ hb⟩
  ·have hi0:i=3:=by omega
   subst hi0;have HDE:Hid (fF x y z=decide ((L.map (·.name)).Nodup)):=Hd (by
    rw[HYES.out fun l hl=>by
     obtain⟨j,hj,rfl⟩:=eI.1 hl;exact HALL.out j _ (by have:=HL3.out;omega) (gE hj),HLL.out,List.take_of_length_le (by have:=HL3.out;omega),HFL.out])
   have hqL:=HQL.out;subst hqL;have hq48:L.length<=48:=by omega
   go_wp2_with fail;refine(Il HOW.out (by omega)).mono ?_;rintro e ws ⟨rfl,S,hperm,hst,hown,hgr⟩;have hSl:S.length=L.length:=hperm.length_eq;obtain⟨SN,hSN⟩:=ex (S.length);have hsl:L.length=SN:=by omega
   have hs48:SN<=48:=by omega
   have HBS:Hid (Below wb.heap.size wb ws):=Hd (HB.out.grown hgr HB.out.size (fun k hk=>(HOW.out.lt k hk).1));have HSR:Hid (RowZ 2 ws ws.heap.size (.slice ao SN co) (S.map bF)):=Hd (by
    rw[<-hsl];refine RowZ.of_own (n:=S.length) (base:=wb.heap.size) (e:=75) (fun x hx=>?_) (by rw[lM]) (by rw[<-List.flatMap_def];exact hown);obtain⟨y,_,rfl⟩:=List.mem_map.1 hx;rfl)
   have HDE2:Hid (fF x y z=decide ((S.map (·.name)).Nodup)):=Hd (by
    rw[HDE.out];exact decide_eq_decide.2 ((hperm.map _).nodup_iff).symm)
   have HAL:=Hd (zU hst);have HSN:=Hd hSN;rw[hsl];clear hperm hst hown hgr hSl hSN hsl hb hq2;go_wp2;go_loopw [13] (fun p wr=>∃k:Nat,p=.int .i64 ((k:Int)+1)/\(k+1<=SN\/k=0)/\(∀(j:Nat) x y,j<k->S[j]? =some x->S[j+1]? =some y->y.name≠x.name)/\Below ws.heap.size ws wr) (fun p _=>SN-(intOf p).toNat);case atStart=>exact⟨0,by go_num,Or.inr rfl,fun j x y hj=>absurd hj (by omega),bR _ _⟩
   case round=>
    obtain⟨wo,rfl⟩:∃x,x=wr:=⟨wr,rfl⟩;obtain⟨k,rfl,hk,hne,hbo⟩:=hrel;have HNE:=Hd hne;have HBO:=Hd hbo;clear hne;by_cases hkN:k+1<SN
    ·obtain⟨sx,hx⟩:∃d,S[k]? =some d:=⟨_,gE (by have:=HSN.out;omega)⟩;obtain⟨sy,hy⟩:∃d,S[k+1]? =some d:=⟨_,gE (by have:=HSN.out;omega)⟩;obtain⟨bk,o,cap,hve,_,hbk,hat⟩:=HSR.out.some (by rw[lM];have:=HSN.out;omega);rw[lM,<-HSN.out]at hve;cases hve;have e0:=(hbo.cell (p:=⟨bk,o+k*2+0,none⟩) hbk).trans (hat k (bF sx) (by rw[gM,hx];rfl) 0 _ rfl);have e1:=(hbo.cell (p:=⟨bk,o+(k+1)*2+0,none⟩) hbk).trans (hat (k+1) (bF sy) (by rw[gM,hy];rfl) 0 _ rfl);rw[Nat.add_zero]at e0 e1;unfold sv at e0 e1;have HX:=Hd hx;have HY:=Hd hy;have hw1:IntKind.i64.wrap (((k:Int)+1)-1)=(k:Int):=by rw[IntWalk.i64_in _ (by omega)];omega
     have hlt1:(k:Int)+1<(SN:Int):=by omega
     have hge1:(0:Int)<=(k:Int)+1:=by omega
     have hw1b:IntKind.i64.wrap (k:Int)=(k:Int):=IntWalk.i64_in _ (by omega);have hlt0:(k:Int)<(SN:Int):=by omega
     have hbd:Below ws.heap.size ws wo.drew:=hbo.drew;clear hx hy hat;by_cases hnm:sy.name=sx.name
     ·have HF:Hid (fF x y z=false):=Hd (by
       rw[HDE2.out];exact decide_eq_false fun h=>(HAL.out.1 h) k sx sy HX.out HY.out hnm)
      have hbe:((bs sy.name).toList==(bs sx.name).toList)=true:=by rw[aA,aA,hnm];simp
      have hbe2:(bs sy.name).toList=(bs sx.name).toList:=by rw[hnm]
      clear hnm;go_upto_region 20 with fail;refine rG (fun w'=>w'.cell? ⟨bk,o+(k+1)*2,none⟩=some (.string (bs sy.name))/\w'.cell? ⟨bk,o+k*2,none⟩=some (.string (bs sx.name))) ⟨e1,e0⟩ fun hU=>?_;refine aM [0,1,2,3,4,5,6,7,8,9,10,11] ?_;refine dN ?_;go_wp2;go_returns;exact⟨by rw[HF.out];rfl,HUP.out _ (HBS.out.trans (hbd.mono HBS.out.size))⟩
     ·have HNE2:Hid (∀(j:Nat) x y,j<k+1->S[j]? =some x->S[j+1]? =some y->y.name≠x.name):=Hd (fun j u v hj hu hv=>by
       rcases Nat.lt_or_ge j k with h' | h'
       ·exact HNE.out j u v h' hu hv
       ·have:j=k:=by omega
        subst this;rw[HX.out]at hu;rw[HY.out]at hv;cases hu;cases hv;exact hnm)
      have hbe:((bs sy.name).toList==(bs sx.name).toList)=false:=by rw[aA,aA];simpa using hnm
      have hbe2:¬(bs sy.name).toList=(bs sx.name).toList:=by rw[aA,aA];exact hnm
      clear hnm;go_upto_region 20 with fail;refine rG (fun w'=>w'.cell? ⟨bk,o+(k+1)*2,none⟩=some (.string (bs sy.name))/\w'.cell? ⟨bk,o+k*2,none⟩=some (.string (bs sx.name))) ⟨e1,e0⟩ fun hU=>?_;refine aM [0,1,2,3,4,5,6,7,8,9,10,11] ?_;refine dN ?_;go_wp2;go_roundw;case rel=>exact⟨k+1,by go_num,by omega,HNE2.out,hbd⟩
      case measure=>simp[intOf];omega
    ·have HF:Hid (fF x y z=true):=Hd (by
      rw[HDE2.out];exact decide_eq_true (HAL.out.2 fun j x y hx hy=>HNE.out j x y (by have:=(gS hy).1;have:=HSN.out;omega) hx hy))
     go_wp2;go_returns;exact⟨by rw[HF.out];rfl,HUP.out _ (HBS.out.trans (hbo.mono HBS.out.size))⟩
end
end Go.Proofs.YtcohlmdnahdnaaaGreatDoor
