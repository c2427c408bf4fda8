/- A manifest's text: the walk. -/
import Derived.Test.YtcohlmdnahdnaaaGreatDoorZMf1
namespace Go.Proofs.YtcohlmdnahdnaaaGreatDoor
open Go.RowKit
set_option linter.unusedVariables false
set_option linter.unusedSimpArgs false
set_option maxHeartbeats 16000000
set_option maxRecDepth 100000
section
open Top
namespace Top
def gT(m:Mf):List (List UInt8×List Dp):=[(fO,m.deps),(Oq,m.dev),(jV,m.opts),(Ew,m.over)]
def mH(m:Mf)(i:Nat):List UInt8:=uK++((gT m).take i).flatMap fun x=>aH x.1 x.2
theorem Ii{m:Mf}{i:Nat}{wd:List UInt8}{l:List Dp}(h:(gT m)[i]? =some (wd,l)):mH m (i+1)=mH m i++aH wd l:=by
 unfold mH;rw[List.take_add_one,h,List.flatMap_append];simp
theorem Mg(m:Mf):mH m 4=Am m:=by
 unfold mH Am gT;simp
structure MfLs(m:Mf):Prop where
 deps:LsOk m.deps
 dev:LsOk m.dev
 opts:LsOk m.opts
 over:LsOk m.over
theorem Me{m:Mf}(h:MfLs m)(i:Nat):(mH m i).length<=200000:=by
 have key:∀(wd:List UInt8) (l:List Dp),wd.length<=20->LsOk l->(aH wd l).length<=33600:=fun wd l hw hl=>by
  have:=hl.lines hw l.length;rwa[List.take_length]at this
 have k1:=key fO m.deps (by decide) h.deps;have k2:=key Oq m.dev (by decide) h.dev;have k3:=key jV m.opts (by decide) h.opts;have k4:=key Ew m.over (by decide) h.over;have kp:uK.length=8:=rfl
 match i with
 | 0=>simp only[mH,gT,List.take_zero,List.flatMap_nil,List.append_nil];omega
 | 1=>simp only[mH,gT,List.take_succ_cons,List.take_zero,List.flatMap_cons,List.flatMap_nil,lA,lN];omega
 | 2=>simp only[mH,gT,List.take_succ_cons,List.take_zero,List.flatMap_cons,List.flatMap_nil,lA,lN];omega
 | 3=>simp only[mH,gT,List.take_succ_cons,List.take_zero,List.flatMap_cons,List.flatMap_nil,lA,lN];omega
 | j+4=>
  simp only[mH,gT,List.take_succ_cons,List.take_nil,List.flatMap_cons,List.flatMap_nil,lA,lN];omega
def PartsAt(W:World)(g mb:Nat):Prop:=W.heap[g]? =some (.cells #[.string ⟨#[110,101,101,100,115]⟩,.pointer (some ⟨mb,0,none⟩),.string ⟨#[100,101,118]⟩,.pointer (some ⟨mb,1,none⟩),.string ⟨#[108,105,107,101,115]⟩,.pointer (some ⟨mb,2,none⟩),.string ⟨#[112,105,110,115]⟩,.pointer (some ⟨mb,3,none⟩)] 151 (0,0))
theorem Lr{w:World}{m:Mf}{v1 v2 v3 v4:Value}(hm:MfAt w w.heap.size m v1 v2 v3 v4)(hl:MfLs m){i:Nat}(hi:i<4)(g mb:Nat):∃(wd:List UInt8) (l:List Dp) (v:Value),(gT m)[i]? =some (wd,l)/\wd.length<=20/\LsOk l/\DpsAt w w.heap.size v l/\
 (∀W:World,PartsAt W g mb->W.cell? ⟨g,i*2,none⟩=some (.string (bs wd))/\W.cell? ⟨g,i*2+1,none⟩=some (.pointer (some ⟨mb,i,none⟩)))/\
 ∀(W:World) (fr:Nat×Nat),W.heap[mb]? =some (.cells #[v1,v2,v3,v4] 25 fr)->W.cell? ⟨mb,i,none⟩=some v:=by
 match i,hi with
 | 0,_=>exact⟨fO,m.deps,v1,rfl,by decide,hl.deps,hm.deps,fun W hW=>by constructor<;>(rw[Go.Lib.cell_of_heap hW];rfl),fun W fr hW=>by rw[Go.Lib.cell_of_heap hW];rfl⟩
 | 1,_=>exact⟨Oq,m.dev,v2,rfl,by decide,hl.dev,hm.dev,fun W hW=>by constructor<;>(rw[Go.Lib.cell_of_heap hW];rfl),fun W fr hW=>by rw[Go.Lib.cell_of_heap hW];rfl⟩
 | 2,_=>exact⟨jV,m.opts,v3,rfl,by decide,hl.opts,hm.opts,fun W hW=>by constructor<;>(rw[Go.Lib.cell_of_heap hW];rfl),fun W fr hW=>by rw[Go.Lib.cell_of_heap hW];rfl⟩
 | 3,_=>exact⟨Ew,m.over,v4,rfl,by decide,hl.over,hm.over,fun W hW=>by constructor<;>(rw[Go.Lib.cell_of_heap hW];rfl),fun W fr hW=>by rw[Go.Lib.cell_of_heap hW];rfl⟩
end Top
theorem Ib(w:World)(mb:Nat):Calls Tryz.prog 73 #[.pointer (some ⟨mb,0,none⟩)] w fun e w'=>e=.returned (.slice (some ⟨w.heap.size,0,none⟩) 4 4)/\PartsAt w' w.heap.size mb/\Below w.heap.size w w':=by
 go_enter Tryz.func73,Tryz.ntmps73;go_upto_region 1 with fail;refine rG (fun w'=>True) trivial fun hU=>?_;refine aM [0,1,2,3,4,5,6,7,8,9,10,11,12,13,14,15] ?_;refine rd 16 fun K hK=>?_;go_simp;refine hK.out _ _ trivial fun hU=>?_;clear hK K;refine aM [17] ?_;refine dN ?_;go_wp2;go_returns;exact⟨rfl,heap_alloc_new _ _,(bR _ w).drew.alloc nL _⟩
theorem Dh(w:World)(m:Mf)(v1 v2 v3 v4:Value)(hpw:VL.bS w)(h:MfAt w w.heap.size m v1 v2 v3 v4)(hl:MfLs m):
 Calls Tryz.prog 33 #[tX v1 v2 v3 v4] w fun e w'=>e=.returned (.string (bs (Am m)))/\Below w.heap.size w w':=by
 obtain⟨mb,hmb⟩:=ex (w.heap.size);obtain⟨w1,hw1⟩:=ex (w.alloc (.cells #[v1,v2,v3,v4] 25));have hb1:Below w.heap.size w w1:=by rw[hw1];exact(bR _ _).alloc nL _
 obtain⟨bb,hbb⟩:=ex (w1.heap.size);have hmbb:mb+1=bb:=by rw[hmb,hbb,hw1];exact(Array.size_push ..).symm
 obtain⟨w2,hw2⟩:=ex (w1.alloc (.cells #[.pointer none,.slice none 0 0] 141));have hb2:Below bb w1 w2:=by rw[hw2,hbb];exact(bR _ _).alloc nL _
 have hsz2:bb<w2.heap.size:=by rw[hw2,hbb];simp
 have HSZ2:=Hd hsz2;have HMBB:=Hd hmbb;have HW12:Hid (Below w.heap.size w w2):=Hd (hb1.trans (hb2.mono (by omega)));have HBU:Hid (Build bb bb [] w2):=Hd (by rw[hw2,hbb];exact Go.Lib.fresh_isBuilder 141 5 w1);have HMB:Hid (∀W,Below bb w2 W->W.heap[mb]? =some (.cells #[v1,v2,v3,v4] 25 (0,0))):=Hd (fun W hW=>by
  rw[hW.block mb (by omega),hb2.block mb (by omega),hw1,hmb];exact heap_alloc_new w _)
 have HPW:Hid (∀W,Below bb w2 W->VL.bS W):=Hd (fun W hW=>hpw.below (HW12.out.trans (hW.mono (by omega))) nL);have HUP:Hid (∀W,Below bb w2 W->Below w.heap.size w W):=Hd (fun W hW=>HW12.out.trans (hW.mono (by omega)))
 have HPAT:Hid (∀(i g:Nat),i<4->∃(wd:List UInt8) (l:List Dp) (v:Value),(gT m)[i]? =some (wd,l)/\wd.length<=20/\LsOk l/\DpsAt w w.heap.size v l/\
  (∀W:World,PartsAt W g mb->W.cell? ⟨g,i*2,none⟩=some (.string (bs wd))/\W.cell? ⟨g,i*2+1,none⟩=some (.pointer (some ⟨mb,i,none⟩)))/\
  ∀(W:World) (fr:Nat×Nat),W.heap[mb]? =some (.cells #[v1,v2,v3,v4] 25 fr)->W.cell? ⟨mb,i,none⟩=some v):=Hd (fun i g hi=>Lr h hl hi g mb)
 have HMFL:Hid (∀i,(mH m i).length<=200000):=Hd (Me hl);have HW1:=Hd hw1;have HW2:=Hd hw2;have HMBE:=Hd hmb;have HBB2:Hid (w.heap.size+1=bb):=Hd (by rw[<-hmb];exact hmbb);unfold tX;clear h hl hpw hb1 hb2 hw1 hw2 hmb hbb hmbb hsz2;go_enter Tryz.func33,Tryz.ntmps33;go_upto_region 2 with fail;rw[<-HW1.out,<-HW2.out,HBB2.out,<-HMBE.out];go_wp2_with fail;refine(lJ bb bb [] ⟨#[112,114,111,106,101,99,116,10]⟩ w2 HBU.out (by decide) (Nat.le_of_lt HSZ2.out)).mono ?_;rintro e w3 ⟨rfl,hbu3,hb3⟩;have HBU3:Hid (Build bb bb (Go.Lib.byteCells (mH m 0)) w3):=Hd hbu3;have HB3:=Hd hb3;clear hbu3 hb3;go_wp2_with fail;refine(Ib w3 mb).mono ?_;rintro e w4 ⟨rfl,hpa4,hb4⟩;obtain⟨g,hg⟩:=ex (w3.heap.size);rw[<-hg]at hpa4 |-;have HBU4:=Hd (iC HBU3.out hb4);have HB4:Hid (Below bb w2 w4):=Hd (HB3.out.trans (hb4.mono (by have:=HB3.out.size;have:=HSZ2.out;omega)))
 have HPA4:=Hd hpa4;have HGB:Hid (bb<g):=Hd (by rw[hg];have:=HB3.out.size;have:=HSZ2.out;omega);clear hpa4 hb4 hg;go_wp2;go_loopw [11] (fun p wr=>∃i:Nat,p=.int .i64 i/\i<=4/\Build bb bb (Go.Lib.byteCells (mH m i)) wr/\Below bb w2 wr/\PartsAt wr g mb) (fun p _=>4-(intOf p).toNat);case atStart=>exact⟨0,rfl,by omega,HBU4.out,HB4.out,HPA4.out⟩
 case round=>
  obtain⟨wu,rfl⟩:∃x,x=wr:=⟨wr,rfl⟩;obtain⟨i,rfl,hi,hbui,hbi,hpai⟩:=hrel;have HBUI:=Hd hbui;have HBI:=Hd hbi;have HPAI:=Hd hpai;clear hbui hbi hpai;by_cases hi4:i<4
  ·obtain⟨wd,l,v,hpt,hw,hls,hda,hcg,hcm⟩:=HPAT.out i g hi4;obtain⟨a0,c0,hv⟩:=hda.form;obtain⟨N,hN⟩:=ex (l.length);rw[<-hN]at hv;have hn:=hls.len;rw[<-hN]at hn;subst hv;have HN:=Hd hN;have HR:=Hd hda;have HL:=Hd hls;have HPT:=Hd hpt;obtain⟨e0,e1⟩:=hcg wu HPAI.out;obtain⟨wq,hwq⟩:=ex (wu.alloc (.cells #[.string (bs wd),.pointer (some ⟨mb,i,none⟩)] 151));obtain⟨pb,hpb⟩:=ex (wu.heap.size);have hbq:Below wu.heap.size wu wq:=by rw[hwq];exact(bR _ _).alloc nL _
   have hqb:wq.heap[pb]? =some (.cells #[.string (bs wd),.pointer (some ⟨mb,i,none⟩)] 151 (0,0)):=by rw[hwq,hpb];exact heap_alloc_new wu _
   have hbb:bb<=wu.heap.size:=by have:=HBI.out.size;have:=HSZ2.out;omega
   have HBUQ:=Hd (iC HBUI.out hbq);have HBQ:Hid (Below bb w2 wq):=Hd (HBI.out.trans (hbq.mono hbb));have HPAQ:Hid (PartsAt wq g mb):=Hd (by
    have h0:=HPAI.out;unfold PartsAt at h0 |-;rw[hbq.block g (Array.getElem?_eq_some_iff.1 h0).1];exact h0)
   have HQB:=Hd hqb;have hpbb:bb<pb:=by rw[hpb];have:=HBI.out.size;have:=HSZ2.out;omega
   have HPBB:=Hd hpbb;have f0:wq.cell? ⟨pb,0,none⟩=some (.string (bs wd)):=by unfold World.cell?;rw[hqb];rfl
   have f1:wq.cell? ⟨pb,1,none⟩=some (.pointer (some ⟨mb,i,none⟩)):=by unfold World.cell?;rw[hqb];rfl
   have f2:wq.cell? ⟨mb,i,none⟩=some (.slice a0 N c0):=hcm wq _ (HMB.out wq HBQ.out);have HWQ:=Hd hwq;have HPB:=Hd hpb;obtain⟨T,hT⟩:=ex (mH m i);have HT:Hid (T.length<=200000):=Hd (by rw[hT];exact HMFL.out i);have HTN:Hid (mH m (i+1)=T++aH wd l):=Hd (by rw[hT];exact Ii hpt);have HE:Hid (Build bb bb (Go.Lib.byteCells (T++aH wd (l.take 0))) wq):=Hd (by
    have:aH wd (l.take 0)=[]:=rfl;rw[this,List.append_nil,hT];exact HBUQ.out)
   clear hpt hls hda hcg hcm hN hwq hpb hbq hqb hbb hpbb hT;go_upto_region 6 with fail;rw[<-HWQ.out,<-HPB.out];clear e0 e1;have hid:decide ((i:Int)<4)=true:=decide_eq_true (by omega);go_wp2;(try simp only[hid]);clear hid;go_loopw [20] (fun p wr2=>∃k:Nat,p=.int .i64 k/\k<=N/\Build bb bb (Go.Lib.byteCells (T++aH wd (l.take k))) wr2/\Below bb w2 wr2/\wr2.heap[pb]? =some (.cells #[.string (bs wd),.pointer (some ⟨mb,i,none⟩)] 151 (0,0))/\PartsAt wr2 g mb) (fun p _=>N-(intOf p).toNat);case atStart=>exact⟨0,rfl,by omega,HE.out,HBQ.out,HQB.out,HPAQ.out⟩
   case round=>
    obtain⟨wo,rfl⟩:∃x,x=wr:=⟨wr,rfl⟩;obtain⟨k,rfl,hk,hbld,hb,hqb,hpa⟩:=hrel;have HB:=Hd hb;have HBLD:=Hd hbld;have HQO:=Hd hqb;have HPO:=Hd hpa;have HBW:Hid (bb<=wo.heap.size):=Hd (by have:=hb.size;have:=HSZ2.out;omega);clear hbld hqb hpa f0 f1 f2;by_cases hkN:k<N
    ·obtain⟨x,hx⟩:∃x,l[k]? =some x:=⟨_,gE (by have:=HN.out;omega)⟩;obtain⟨bk,o,cap,hve,hcap,hbk,hat⟩:=HR.out.at (by have:=HN.out;omega);rw[<-HN.out]at hve;cases hve;obtain⟨ra,rc,hrg,e0,e1⟩:=hat k x hx;rw[<-(HUP.out _ hb).cell (p:=⟨bk,o+k*2,none⟩) hbk]at e0;rw[<-(HUP.out _ hb).cell (p:=⟨bk,o+k*2+1,none⟩) hbk]at e1;have hol:=HL.out.lines hw k;have HTL:Hid ((T++aH wd (l.take k)).length<=1033600):=Hd (by rw[lA];have:=HT.out;omega);have hnx:aH wd (l.take (k+1))=aH wd (l.take k)++gK wd x:=kT hx;clear hol;have hxn:=HL.out.at_ x (mG hx);obtain⟨_,hnl,hsm,hrl⟩:=hxn;have hrg1:=nO hrl;obtain⟨tx,htx⟩:=ex (jF x.rg);rw[<-htx]at hrg1;obtain⟨nm,hnm⟩:=ex (x.name);rw[<-hnm]at hnl e0;unfold sv at e0;obtain⟨M,hM⟩:=ex (x.rg.length);rw[<-hM]at e1;obtain⟨wa,hwa⟩:=ex (wo.alloc (.cells #[.string (bs nm),.slice ra M rc] 75))
     have hba:Below wo.heap.size wo wa:=by rw[hwa];exact(bR _ _).alloc nL _
     have hza:wo.heap.size<wa.heap.size:=by rw[hwa];simp
     have hblk:wa.heap[wo.heap.size]? =some (.cells #[.string (bs nm),.slice ra M rc] 75 (0,0)):=by rw[hwa];exact heap_alloc_new wo _
     have hpbl:pb<wo.heap.size:=(Array.getElem?_eq_some_iff.1 HQO.out).1;have hgl:g<wo.heap.size:=(Array.getElem?_eq_some_iff.1 HPO.out).1;have HCA:Hid (∀W,Below wa.heap.size wa W->W.heap[wo.heap.size]? =some (.cells #[.string (bs nm),.slice ra M rc] 75 (0,0))/\W.cell? ⟨wo.heap.size,0,none⟩=some (.string (bs nm))/\W.cell? ⟨wo.heap.size,1,none⟩=some (.slice ra M rc)/\W.heap[pb]? =some (.cells #[.string (bs wd),.pointer (some ⟨mb,i,none⟩)] 151 (0,0))/\W.cell? ⟨pb,0,none⟩=some (.string (bs wd))/\PartsAt W g mb):=Hd (fun W hW=>by
      have h1:W.heap[wo.heap.size]? =some (.cells #[.string (bs nm),.slice ra M rc] 75 (0,0)):=by rw[hW.block _ hza];exact hblk
      have h2:W.heap[pb]? =some (.cells #[.string (bs wd),.pointer (some ⟨mb,i,none⟩)] 151 (0,0)):=by rw[hW.block _ (by omega),hba.block _ hpbl];exact HQO.out
      have h3:PartsAt W g mb:=by
       unfold PartsAt;rw[hW.block _ (by omega),hba.block _ hgl];exact HPO.out
      exact⟨h1,by unfold World.cell?;rw[h1];rfl,by unfold World.cell?;rw[h1];rfl,h2,by unfold World.cell?;rw[h2];rfl,h3⟩)
     have HPR:Hid (∀W,Below wo.heap.size wo W->Calls Tryz.prog 74 #[.slice ra M rc] W fun e w'=>e=.returned (.string (bs tx))/\Below W.heap.size W w'):=Hd (fun W hW=>by
      have hW2:Below bb w2 W:=HB.out.trans (hW.mono HBW.out);rw[htx];exact Ad W _ x.rg (HPW.out W hW2) (by rw[hM];exact(RowZ.below hrg (HUP.out _ hW2) nL).mono (HUP.out _ hW2).size) hsm hrl)
     obtain⟨s2,hs2⟩:=ex (wd++[32]);have ls2:s2.length<=21:=by rw[hs2,lA];(try simp only[lC,lN]);omega
     have es2:∀w,(Op.stringOp .add (bs wd) ⟨#[32]⟩).run Tryz.prog w=.ok (.string (bs s2)) w:=by rw[hs2];exact aT (A:=wd) (B:=[32]) (by(try simp only[lC,lN]);omega)
     obtain⟨s3,hs3⟩:=ex (s2++nm);have ls3:s3.length<=37:=by rw[hs3,lA];(try simp only[lC,lN]);omega
     have es3:∀w,(Op.stringOp .add (bs s2) (bs nm)).run Tryz.prog w=.ok (.string (bs s3)) w:=by rw[hs3];exact aT (A:=s2) (B:=nm) (by(try simp only[lC,lN]);omega)
     obtain⟨s4,hs4⟩:=ex (s3++[32]);have ls4:s4.length<=38:=by rw[hs4,lA];(try simp only[lC,lN]);omega
     have es4:∀w,(Op.stringOp .add (bs s3) ⟨#[32]⟩).run Tryz.prog w=.ok (.string (bs s4)) w:=by rw[hs4];exact aT (A:=s3) (B:=[32]) (by(try simp only[lC,lN]);omega)
     obtain⟨s5,hs5⟩:=ex (s4++tx);have ls5:s5.length<=2028:=by rw[hs5,lA];(try simp only[lC,lN]);omega
     have es5:∀w,(Op.stringOp .add (bs s4) (bs tx)).run Tryz.prog w=.ok (.string (bs s5)) w:=by rw[hs5];exact aT (A:=s4) (B:=tx) (by(try simp only[lC,lN]);omega)
     obtain⟨s6,hs6⟩:=ex (s5++[10]);have ls6:s6.length<=2029:=by rw[hs6,lA];(try simp only[lC,lN]);omega
     have es6:∀w,(Op.stringOp .add (bs s5) ⟨#[10]⟩).run Tryz.prog w=.ok (.string (bs s6)) w:=by rw[hs6];exact aT (A:=s5) (B:=[10]) (by(try simp only[lC,lN]);omega)
     have HF:Hid (gK wd x=s6):=Hd (by unfold gK;rw[hs6,hs5,hs4,hs3,hs2,htx,hnm]);have HNX:Hid (aH wd (l.take (k+1))=aH wd (l.take k)++s6):=Hd (by rw[hnx,HF.out]);have HBO:=Hd hba;have HBA:Hid (Below wo.heap.size wo wa):=Hd hba;have KA:=Hd (HCA.out wa (bR _ _));have HNEB:Hid (wo.heap.size≠bb):=Hd (by have:=hb.size;have:=HSZ2.out;omega);have HNPB:Hid (pb≠bb):=Hd (by have:=HPBB.out;omega);have HNGB:Hid (g≠bb):=Hd (by have:=HGB.out;omega);have HWA:=Hd hwa;clear hat hx hcap hrg hsm hs2 hs3 hs4 hs5 hs6 htx hnm hM hwa hba hza hblk hnx hpbl hgl;go_upto_region 9 with fail;rw[<-HWA.out];clear e0 e1;refine rG (fun w'=>w'.heap[wo.heap.size]? =some (.cells #[.string (bs nm),.slice ra M rc] 75 (0,0))/\w'.cell? ⟨wo.heap.size,0,none⟩=some (.string (bs nm))/\w'.cell? ⟨wo.heap.size,1,none⟩=some (.slice ra M rc)/\w'.heap[pb]? =some (.cells #[.string (bs wd),.pointer (some ⟨mb,i,none⟩)] 151 (0,0))/\w'.cell? ⟨pb,0,none⟩=some (.string (bs wd))/\PartsAt w' g mb) KA.out fun hU=>?_
     refine aM [0,1,2,3,4,5,6,7,8] ?_;refine rd 9 fun K hK=>?_;go_simp;go_at_call 74;refine(HPR.out _ HBA.out.drew).mono ?_;rintro e w5 ⟨rfl,hb5⟩;have HB5:Hid (Below wa.heap.size wa w5):=Hd ((bR _ wa).drew.trans hb5);have kA:w5.heap[wo.heap.size]? =some (.cells #[.string (bs nm),.slice ra M rc] 75 (0,0))/\w5.cell? ⟨wo.heap.size,0,none⟩=some (.string (bs nm))/\w5.cell? ⟨wo.heap.size,1,none⟩=some (.slice ra M rc)/\w5.heap[pb]? =some (.cells #[.string (bs wd),.pointer (some ⟨mb,i,none⟩)] 151 (0,0))/\w5.cell? ⟨pb,0,none⟩=some (.string (bs wd))/\PartsAt w5 g mb:=HCA.out w5 HB5.out;clear hb5;refine hK.out _ _ kA fun hU=>?_;clear hK K;refine aM [10,11] ?_;refine rd 12 fun K hK=>?_;have HBW5:Hid (Below wo.heap.size wo w5):=Hd (HBO.out.trans (HB5.out.mono HBO.out.size));have HBU5:=Hd (iC HBLD.out HBW5.out);have HZ5:=Hd HBW5.out.size
     go_simp;go_at_call 72;refine(kJ bb bb _ (bs s6) w5 HBU5.out (by rw[Go.Lib.byteCells_length,eT];have:=HTL.out;omega) (by have:=HZ5.out;have:=HBW.out;omega)).mono ?_;rintro e w6 ⟨rfl,⟨hbu6,hb6⟩,hot6⟩;have kB:w6.heap[wo.heap.size]? =some (.cells #[.string (bs nm),.slice ra M rc] 75 (0,0))/\w6.cell? ⟨wo.heap.size,0,none⟩=some (.string (bs nm))/\w6.cell? ⟨wo.heap.size,1,none⟩=some (.slice ra M rc)/\w6.heap[pb]? =some (.cells #[.string (bs wd),.pointer (some ⟨mb,i,none⟩)] 151 (0,0))/\w6.cell? ⟨pb,0,none⟩=some (.string (bs wd))/\PartsAt w6 g mb:=by
      have hblk:w6.heap[wo.heap.size]? =some (.cells #[.string (bs nm),.slice ra M rc] 75 (0,0)):=by
       rw[hot6 _ _ _ _ HNEB.out kA.1 (by decide)];exact kA.1
      have hblk2:w6.heap[pb]? =some (.cells #[.string (bs wd),.pointer (some ⟨mb,i,none⟩)] 151 (0,0)):=by
       rw[hot6 _ _ _ _ HNPB.out kA.2.2.2.1 (by decide)];exact kA.2.2.2.1
      have hblk3:PartsAt w6 g mb:=by
       unfold PartsAt;rw[hot6 _ _ _ _ HNGB.out kA.2.2.2.2.2 (by decide)];exact kA.2.2.2.2.2
      exact⟨hblk,by unfold World.cell?;rw[hblk];rfl,by unfold World.cell?;rw[hblk];rfl,hblk2,by unfold World.cell?;rw[hblk2];rfl,hblk3⟩
     have HBU6:Hid (Build bb bb (Go.Lib.byteCells (T++aH wd (l.take (k+1)))) w6):=Hd (by
      have e:Go.Lib.byteCells (T++aH wd (l.take (k+1)))=Go.Lib.byteCells (T++aH wd (l.take k))++Go.Lib.strCells (bs s6):=by
       rw[HNX.out];simp[Go.Lib.byteCells,Go.Lib.strCells,bs]
      rw[e];exact hbu6)
     have HB6:Hid (Below bb w2 w6):=Hd ((HB.out.trans (HBW5.out.mono (by have:=HBW.out;omega))).trans hb6);clear hbu6 hb6 hot6;refine hK.out _ _ kB fun hU=>?_;have KP6:=Hd kB.2.2.2.1;have KG6:=Hd kB.2.2.2.2.2;clear hK K;(try simp only[lay]);refine dN ?_;clear kA kB hU;go_wp2;go_roundw;case rel=>exact⟨k+1,by go_num,by omega,HBU6.out,HB6.out,KP6.out,KG6.out⟩
     case measure=>simp[intOf];omega
    ·have HF:Hid (l.take k=l):=Hd (List.take_of_length_le (by have:=HN.out;omega));go_wp2;go_roundw;case rel=>exact⟨i+1,by go_num,by omega,by have h:=HBLD.out;rw[HF.out]at h;rw[HTN.out];exact h,hb,HPO.out⟩
     case measure=>simp[intOf];omega
  ·have hi0:i=4:=by omega
   subst hi0;go_wp2_with fail;refine(Tryz.Builder_String_any bb bb (mH m 4) _ HBUI.out (by have:=HBI.out.size;have:=HSZ2.out;omega)).mono ?_;rintro e w10 ⟨rfl,hb10⟩;go_wp2;go_returns;exact⟨by rw[Mg];rfl,HUP.out _ (HBI.out.trans (hb10.mono (by have:=HBI.out.size;have:=HSZ2.out;omega)))⟩
end
end Go.Proofs.YtcohlmdnahdnaaaGreatDoor
