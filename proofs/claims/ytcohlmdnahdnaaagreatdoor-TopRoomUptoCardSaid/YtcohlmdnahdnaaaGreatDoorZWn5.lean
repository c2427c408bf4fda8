/- Names that stand once: the program's walk. -/
import Derived.Test.YtcohlmdnahdnaaaGreatDoorZBld
import Derived.Test.YtcohlmdnahdnaaaGreatDoorZTopW5
namespace Go.Proofs.YtcohlmdnahdnaaaGreatDoor
open Go.RowKit
set_option linter.unusedVariables false
set_option linter.unusedSimpArgs false
set_option maxHeartbeats 16000000
set_option maxRecDepth 100000
section
open Go.RowKit Go.Maps Go.WideMaps
open Top
namespace Top
namespace KM
theorem KMap.run_get{κ:Type}[DecidableEq κ]{kt:TypeId}{enc:κ->Value}{w:World}{b n:Nat}{L:List (κ×Value)}(K:KT kt enc)(h:KMap kt enc w b n L){t e:TypeId}(ht:Tryz.prog.underlying t=some (.map kt e))(z:Value)(hz:(zeroValue e).run Tryz.prog w=.ok z w)(k:κ)(hk:nC kt enc k):
 (Instr.lookup t (.map (some b)) (enc k) false).run Tryz.prog w=.ok ((look L k).getD z) w:=by
 obtain⟨⟨D,h1,h2,h3,h4⟩,h5,h6⟩:=h;obtain⟨kl,hkl⟩:=hk;obtain⟨u,ps,hrun,hu⟩:=h1.lookup K.keyed ht hz (zd:=.held z) (zp:=[]) rfl hkl;obtain⟨e1,e2⟩:=h4 k kl hkl;rw[hrun];rw[e2]at hu;unfold RV at hu;simp only[iS,Prod.mk.injEq]at hu;have:u=(look L k).getD z:=by
  cases hl:look L k with
  | none=>rw[hl]at hu;simpa using hu.1
  | some x=>rw[hl]at hu;simpa using hu.1
 rw[this]
def uX{κ:Type}[DecidableEq κ](L:List (κ×Value))(k:κ)(x:Value):List (κ×Value):=(k,x)::L.filter fun y=>y.1 !=k
theorem rP{κ:Type}[DecidableEq κ](L:List (κ×Value))(k k':κ)(x:Value):look (uX L k x) k'=if k=k' then some x else look L k':=by
 unfold uX;rw[bX];by_cases h:k=k'
 ·rw[if_pos h,if_pos h]
 ·rw[if_neg h,if_neg h,mJ h]
theorem yM{s:List UInt8}(h:s.length<=maxLen):nC 9 (fun s:List UInt8=> .string (bs s)) s:=by
 have hnl:(bs s).size<=maxLen:=by show s.toArray.size<=maxLen;rw[List.size_toArray];exact h
 unfold nC keyOf;rw[Tryz.underlying9];simp[mapKey,hnl]
end KM
def jY(L:List (List UInt8×Value))(done:List (List UInt8)):Prop:=∀n,KM.look L n=if n∈done then some (.int .i64 1)else none
theorem jY.nil:jY [] []:=fun n=>rfl
theorem jY.add{L:List (List UInt8×Value)}{done:List (List UInt8)}(h:jY L done){n:List UInt8}(hn:n∉done):jY (KM.uX L n (.int .i64 1)) (done++[n]):=fun k=>by
 rw[KM.rP];by_cases hk:n=k
 ·subst hk;rw[if_pos rfl,if_pos (by simp)]
 ·rw[if_neg hk,h k];by_cases hm:k∈done
  ·rw[if_pos hm,if_pos (by simp[hm])]
  ·rw[if_neg hm,if_neg (by simp[hm];exact fun e=>hk e.symm)]
def jJ(ls:List (List Dp)):Bool:=decide ((ls.flatten.map (·.name)).Nodup)
theorem Ig{a:List (List UInt8)}{x:List UInt8}{b:List (List UInt8)}(h:x∈a):¬(a++x::b).Nodup:=fun hn=>by
 rw[List.nodup_append]at hn;exact hn.2.2 x h x List.mem_cons_self rfl
theorem De{ls:List (List Dp)}{i:Nat}{l:List Dp}{j:Nat}{d:Dp}(hl:ls[i]? =some l)(hd:l[j]? =some d):∃r,ls.flatten.map (·.name)=(((ls.take i).flatten++l.take j).map (·.name))++d.name::r:=by
 have h1:ls.flatten=(ls.take i).flatten++l++(ls.drop (i+1)).flatten:=by
  rw[<-rV hl,<-List.flatten_append,List.take_append_drop]
 have h2:l=l.take j++d::l.drop (j+1):=by
  obtain⟨hj,rfl⟩:=gS hd;rw[<-List.drop_eq_getElem_cons hj,List.take_append_drop]
 refine⟨((l.drop (j+1))++(ls.drop (i+1)).flatten).map (·.name),?_⟩;rw[h1]
 conv=>lhs;rw[h2]
 simp
end Top
theorem Ke(w:World)(v:Value)(ls:List (List Dp))(h:MustAt w w.heap.size v ls)(hls:ls.length<=3)(hlz:∀l∈ls,jK l)(hns:∀l∈ls,∀d∈l,d.name.length<=maxLen):
 Calls Tryz.prog 58 #[v] w fun e w'=>e=.returned (.bool (jJ ls))/\Below w.heap.size w w':=by
 obtain⟨am,cm,hv⟩:=h.form;obtain⟨Z,hZ⟩:∃Z,Z=ls.length:=⟨_,rfl⟩;rw[<-hZ]at hv hls;have HMU:=Hd h;have HZN:=Hd hZ;have HLZ:=Hd hlz;have HNS:=Hd hns;subst hv;have hmm:= @run_makeMap Tryz.prog;have HM0:Hid (KM.KMap 9 (fun s:List UInt8=> .string (bs s)) (w.alloc (.map #[] 0)) w.heap.size 0 []):=Hd (KM.KMap.made w);have HB0:Hid (Below w.heap.size w (w.alloc (.map #[] 0))):=Hd ((bR _ w).alloc nL _);clear h hZ hlz hns;go_enter Tryz.func58,Tryz.ntmps58;go_wp2;clear hmm;go_loopw [11] (fun x wr=>∃(i q:Nat) (L:List (List UInt8×Value)),x=.int .i64 i/\i<=Z/\(q:Int)<=(i:Int)*1000000/\(((ls.take i).flatten).map (·.name)).Nodup/\jY L (((ls.take i).flatten).map (·.name))/\KM.KMap 9 (fun s:List UInt8=> .string (bs s)) wr w.heap.size q L/\Below w.heap.size w wr) (fun x _=>Z-(intOf x).toNat);case atStart=>exact⟨0,0,[],rfl,Nat.zero_le _,by simp,List.nodup_nil,jY.nil,HM0.out,HB0.out⟩
 case round=>
  obtain⟨i,q,L,rfl,hiZ,hq,hnd,hse,hm,hb⟩:=hrel;have HND:=Hd hnd;have HSE:=Hd hse;have HM:=Hd hm;have HB:=Hd hb;clear hnd hse hm HM0 HB0;by_cases hi2:i<Z
  ·obtain⟨l,hl⟩:∃x,ls[i]? =some x:=⟨_,gE (by have:=HZN.out;omega)⟩;obtain⟨bkm,om,capm,hvem,hbkm,hatm⟩:=HMU.out.at (by have:=HZN.out;omega);rw[<-HZN.out]at hvem;cases hvem;obtain⟨la,lc,hdl,el⟩:=hatm i l hl;have el:=(hb.cell (p:=⟨bkm,om+i,none⟩) hbkm).trans el;obtain⟨N,hN⟩:∃N,N=l.length:=⟨_,rfl⟩;rw[<-hN]at hdl el;have HRW:=Hd hdl;have HRWN:=Hd hN;have hNs:N<=1000000:=by rw[hN];exact(HLZ.out l (mG hl)).1
   have HLI:=Hd hl;have HNL:=Hd (HNS.out l (mG hl));clear hatm hl hdl hN;go_wp2;go_loopw [17] (fun x wr=>∃(j q:Nat) (L:List (List UInt8×Value)),x=.int .i64 j/\j<=N/\(q:Int)<=(i:Int)*1000000+j/\(((ls.take i).flatten++l.take j).map (·.name)).Nodup/\jY L (((ls.take i).flatten++l.take j).map (·.name))/\KM.KMap 9 (fun s:List UInt8=> .string (bs s)) wr w.heap.size q L/\Below w.heap.size w wr) (fun x _=>N-(intOf x).toNat);case atStart=>exact⟨0,q,L,rfl,Nat.zero_le _,by omega,by simpa using HND.out,by simpa using HSE.out,HM.out,HB.out⟩
   case round=>
    clear HND HSE HM HB hq el hb;obtain⟨wo,rfl⟩:∃x,x=wr:=⟨wr,rfl⟩;obtain⟨j,q,L,rfl,hjN,hq,hnd,hse,hm,hb⟩:=hrel;have HND:=Hd hnd;have HSE:=Hd hse;have HB:=Hd hb;by_cases hj2:j<N
    ·obtain⟨x,hx⟩:∃x,l[j]? =some x:=⟨_,gE (by have:=HRWN.out;omega)⟩;obtain⟨bk,o,cap,hve,hcap,hbk,hat⟩:=HRW.out.at (by have:=HRWN.out;omega);rw[<-HRWN.out]at hve;cases hve;obtain⟨ra,rc,hrg,e0,e1⟩:=hat j x hx;have e0:=(hb.cell (p:=⟨bk,o+j*2,none⟩) hbk).trans e0;have e1:=(hb.cell (p:=⟨bk,o+j*2+1,none⟩) hbk).trans e1;have hnl:=HNL.out x (mG hx);obtain⟨r,hflat⟩:=De HLI.out hx;have HFL:=Hd hflat;have HTK:Hid ((l.take (j+1)).map (·.name)=(l.take j).map (·.name)++[x.name]):=Hd (by rw[List.take_add_one,hx,List.map_append];rfl);obtain⟨nm,rg⟩:=x;dsimp only at e0 e1 hnl HFL HTK;unfold sv at e0;obtain⟨M,hM⟩:∃M,M=rg.length:=⟨_,rfl⟩;rw[<-hM]at e1;obtain⟨wd,hwd⟩:∃y,y=wo.alloc (.cells #[.string (bs nm),.slice ra M rc] 75):=⟨_,rfl⟩;have hsd:wd.heap.size=wo.heap.size+1:=by rw[hwd];exact sA _ _
     have hbd:Below wo.heap.size wo wd:=by rw[hwd];exact(bR _ wo).alloc nL _
     have hlt:=hm.lt;have hmd:=hm.below hbd hlt;have d0:wd.cell? ⟨wo.heap.size,0,none⟩=some (.string (bs nm)):=by rw[hwd];exact aB rfl rfl
     have hk:=KM.yM hnl;have g1:=KM.KMap.run_get KM.lU hmd (t:=120) (e:=3) Tryz.underlying120 (.int .i64 0) (by kernel_rfl) nm hk;have hlook:=hse nm;have HWD:=Hd hwd;by_cases hin:nm∈((ls.take i).flatten++l.take j).map (·.name)
     ·rw[if_pos hin]at hlook;rw[hlook]at g1;have g1':(Instr.lookup 120 (.map (some w.heap.size)) (.string (bs nm)) false).run Tryz.prog wd=.ok (.int .i64 1) wd:=g1;obtain⟨wu,hru,hmu,hgu⟩:=hmd.run_put KM.lU (t:=120) (e:=3) Tryz.underlying120 (by unfold maxLen;omega) nm hk (.int .i64 2);have g2:=KM.KMap.run_get KM.lU hmu (t:=120) (e:=3) Tryz.underlying120 (.int .i64 0) (by kernel_rfl) nm hk;rw[KM.bX,if_pos rfl]at g2;have g2':(Instr.lookup 120 (.map (some w.heap.size)) (.string (bs nm)) false).run Tryz.prog wu=.ok (.int .i64 2) wu:=g2;have hru':(Instr.mapUpdate 120 (.map (some w.heap.size)) (.string (bs nm)) (.int .i64 2)).run Tryz.prog wd=.ok () wu:=hru;have d1:=(hgu.cell_far ⟨wo.heap.size,0,none⟩ (by show wo.heap.size<_;omega) (by simp;omega)).trans d0;have HF:Hid (jJ ls=false):=Hd (by
       unfold jJ;rw[HFL.out];exact decide_eq_false (Ig hin))
      have HBU:Hid (Below w.heap.size w wu):=Hd ((hb.trans (hbd.mono hb.size)).grown hgu (by have:=hb.size;omega) (fun g hg=>by cases hg;exact nL));rw[hwd]at g1' hru' d0;clear hx hat hcap hrg hM hflat hnd hse hm hmd hk g1 g2 hru hmu hgu hlook hin hsd hbd hwd hb hnl;go_wp2;go_returns;exact⟨by rw[HF.out];rfl,HBU.out⟩
     ·rw[if_neg hin]at hlook;rw[hlook]at g1;have g1':(Instr.lookup 120 (.map (some w.heap.size)) (.string (bs nm)) false).run Tryz.prog wd=.ok (.int .i64 0) wd:=g1;obtain⟨wu,hru,hmu,hgu⟩:=hmd.run_put KM.lU (t:=120) (e:=3) Tryz.underlying120 (by unfold maxLen;omega) nm hk (.int .i64 1);have g2:=KM.KMap.run_get KM.lU hmu (t:=120) (e:=3) Tryz.underlying120 (.int .i64 0) (by kernel_rfl) nm hk;rw[KM.bX,if_pos rfl]at g2;have g2':(Instr.lookup 120 (.map (some w.heap.size)) (.string (bs nm)) false).run Tryz.prog wu=.ok (.int .i64 1) wu:=g2;have hru':(Instr.mapUpdate 120 (.map (some w.heap.size)) (.string (bs nm)) (.int .i64 1)).run Tryz.prog wd=.ok () wu:=hru;have d1:=(hgu.cell_far ⟨wo.heap.size,0,none⟩ (by show wo.heap.size<_;omega) (by simp;omega)).trans d0;have HBU:Hid (Below w.heap.size w wu):=Hd ((hb.trans (hbd.mono hb.size)).grown hgu (by have:=hb.size;omega) (fun g hg=>by cases hg;exact nL))
      have HSU:Hid (jY (KM.uX L nm (.int .i64 1)) (((ls.take i).flatten++l.take (j+1)).map (·.name))):=Hd (by
       have:=jY.add hse hin;rw[List.map_append,HTK.out,<-List.append_assoc,<-List.map_append];exact this)
      have HNU:Hid ((((ls.take i).flatten++l.take (j+1)).map (·.name)).Nodup):=Hd (by
       rw[List.map_append,HTK.out,<-List.append_assoc,<-List.map_append,List.nodup_append];exact⟨hnd,by simp,fun a ha c hc e=>by
        simp only[mI]at hc;rw[hc]at e;rw[e]at ha;exact hin ha⟩)
      have HMU2:Hid (KM.KMap 9 (fun s:List UInt8=> .string (bs s)) wu w.heap.size (q+1) (KM.uX L nm (.int .i64 1))):=Hd hmu;rw[hwd]at g1' hru' d0;clear hx hat hcap hrg hM hflat hnd hse hm hmd hk g1 g2 hru hmu hgu hlook hin hsd hbd hwd hb hnl;go_wp2;go_roundw;case rel=>exact⟨j+1,q+1,_,by go_num,by omega,by omega,HNU.out,HSU.out,HMU2.out,HBU.out⟩
      case measure=>simp[intOf];omega
    ·have HTK:Hid ((ls.take (i+1)).flatten=(ls.take i).flatten++l.take j):=Hd (by rw[rV HLI.out,List.take_of_length_le (l:=l) (by have:=HRWN.out;omega)]);have HM:=Hd hm;clear hnd hse hm hb;go_wp2;go_roundw;case rel=>exact⟨i+1,q,L,by go_num,by omega,by omega,by rw[HTK.out];exact HND.out,by rw[HTK.out];exact HSE.out,HM.out,HB.out⟩
     case measure=>simp[intOf];omega
  ·have HF:Hid (jJ ls=true):=Hd (by
    unfold jJ;have:=HND.out;rw[List.take_of_length_le (by have:=HZN.out;omega)]at this;exact decide_eq_true this)
   go_wp2;go_returns;exact⟨by rw[HF.out];rfl,HB.out⟩
end
section
open Top
namespace Top
def tV(p:Pk):Prop:=jK p.deps/\jK p.peers/\jK p.opts
theorem Al{w:World}{B b:Nat}{a:Option Addr}{n c:Nat}{l:List Dp}(h:DpsAt w B (.slice a n c) l)(hb:b<B)(hc:w.cell? ⟨b,0,none⟩=some (.slice a n c)):MustAt w B (.slice (some ⟨b,0,none⟩) 1 1) [l]:=by
 refine⟨[.slice a n c],rfl,⟨_,1,rfl,nL,fun i x hx=>?_⟩,fun i l' u hl hu=>?_⟩
 ·match i,hx with
  | 0,hx=>
   simp only[List.map_cons,List.map_nil,gZ,iS]at hx;subst hx;refine⟨b,0,rfl,hb,fun j u hj=>?_⟩
   match j,hj with
   | 0,hj=>
    simp only[gZ,iS]at hj;subst hj;exact hc
 ·match i,hl,hu with
  | 0,hl,hu=>
   simp only[gZ,iS]at hl hu;subst hl hu;exact h
end Top
theorem Ma(w:World)(p:Pk)(d1 d2 d3:Value)(hp:PkAt w w.heap.size p d1 d2 d3)(hpz:tV p)(m:Mf)(v1 v2 v3 v4:Value)(hm:MfAt w w.heap.size m v1 v2 v3 v4)(hz:Bt m):
 Calls Tryz.prog 23 #[iU p d1 d2 d3,tX v1 v2 v3 v4] w fun e w'=>iQ w (iI m p) e w':=by
 obtain⟨nm,v,deps,peers,opts⟩:=p;obtain⟨h1,h2,h3⟩:=hp;obtain⟨z1,z2,z3⟩:=hpz;dsimp only at h1 h2 h3 z1 z2 z3;obtain⟨a1,c1,e1⟩:=h1.form;obtain⟨a2,c2,e2⟩:=h2.form;obtain⟨a3,c3,e3⟩:=h3.form;obtain⟨b1,k1,e4⟩:=hm.deps.form;obtain⟨b2,k2,e5⟩:=hm.dev.form;obtain⟨b3,k3,e6⟩:=hm.opts.form;obtain⟨b4,k4,e7⟩:=hm.over.form;obtain⟨N1,hN1⟩:∃x,x=deps.length:=⟨_,rfl⟩;obtain⟨N2,hN2⟩:∃x,x=peers.length:=⟨_,rfl⟩;obtain⟨N3,hN3⟩:∃x,x=opts.length:=⟨_,rfl⟩;obtain⟨M1,hM1⟩:∃x,x=m.deps.length:=⟨_,rfl⟩;obtain⟨M2,hM2⟩:∃x,x=m.dev.length:=⟨_,rfl⟩;obtain⟨M3,hM3⟩:∃x,x=m.opts.length:=⟨_,rfl⟩;obtain⟨M4,hM4⟩:∃x,x=m.over.length:=⟨_,rfl⟩;rw[<-hN1]at e1;rw[<-hN2]at e2;rw[<-hN3]at e3;rw[<-hM1]at e4;rw[<-hM2]at e5;rw[<-hM3]at e6;rw[<-hM4]at e7;subst e1 e2 e3 e4 e5 e6 e7;obtain⟨wx,hwx⟩:∃y,y=((w.alloc (.cells #[.string (bs nm),.int .i64 v.a,.int .i64 v.b,.int .i64 v.c,.slice a1 N1 c1,.slice a2 N2 c2,.slice a3 N3 c3] 52)).alloc (.cells #[.slice b1 M1 k1,.slice b2 M2 k2,.slice b3 M3 k3,.slice b4 M4 k4] 25)).alloc (.cells #[.slice a1 N1 c1] 23):=⟨_,rfl⟩
 have hb:Below w.heap.size w wx:=by rw[hwx];exact(((bR _ w).alloc nL _).alloc (by simp) _).alloc (by simp;omega) _
 have hs:wx.heap.size=w.heap.size+3:=by rw[hwx];simp
 have hcon:=Ga wx m (.slice b1 M1 k1) (.slice b2 M2 k2) (.slice b3 M3 k3) (.slice b4 M4 k4) (hm.up hb) hz [deps] (.slice (some ⟨w.heap.size+2,0,none⟩) 1 1) (Al (b:=w.heap.size+2) ((h1.below hb nL).mono hb.size) (by omega) (by rw[hwx];exact aB (by simp) rfl)) (by simp) (fun l hl=>by simp only[mI]at hl;subst hl;exact z1) opts (.slice a3 N3 c3) ((h3.below hb nL).mono hb.size) z3;have HC:=Hd hcon;have HB:=Hd hb;have HWX:=Hd hwx;have HS:=Hd hs;unfold iU sv;dsimp only;unfold tX at HC |-;have HR:Hid (iI m ⟨nm,v,deps,peers,opts⟩=iP m [deps] opts):=Hd rfl;clear hcon hb hwx hs h1 h2 h3 z1 z2 z3 hm hz hN1 hN2 hN3 hM1 hM2 hM3 hM4;go_enter Tryz.func23,Tryz.ntmps23;go_wp2_with fail;rw[<-HWX.out];refine HC.out.mono ?_;rintro e w2 ⟨a,c,rfl,hi,hb2⟩;have HI:=Hd hi;have HB2:=Hd hb2;obtain⟨n,hn⟩:∃n,n=(iP m [deps] opts).length:=⟨_,rfl⟩
 have HNN:=Hd hn;rw[<-hn];clear hi hb2 hn;go_wp2;go_returns;rw[HR.out];exact⟨a,c,by rw[HNN.out];rfl,HI.out.mono (by have:=HS.out;omega) nL,HB.out.trans (HB2.out.mono HB.out.size)⟩
namespace Top
theorem Qb:(Tryz.prog.info? 23).map (fun i=>(i.zero,i.size,i.bytes))=some (some (.slice none 0 0),1,24):=by kernel_rfl
theorem Md{w:World}{B:Nat}{base:Nat}{v:Value}{a a':Option Addr}{n c n' c':Nat}{l l':List Dp}(h:DpsAt w B (.slice a n c) l)(h':DpsAt w B (.slice a' n' c') l')(hr:w.ownsRow base 23 1 v 2 [.slice a n c,.slice a' n' c'])(hB:w.heap.size<=B):MustAt w B v [l,l']:=by
 have hz:=RowZ.of_own (z:=1) (n:=2) (e:=23) (xs:=[[.slice a n c],[.slice a' n' c']]) (fun x hx=>by
  simp only[List.mem_cons,List.not_mem_nil,or_false]at hx;rcases hx with rfl | rfl<;>rfl) rfl hr
 refine⟨[.slice a n c,.slice a' n' c'],rfl,hz.mono hB,fun i u x hl hu=>?_⟩
 match i,hl,hu with
 | 0,hl,hu=>
  simp only[gZ,iS]at hl hu;subst hl hu;exact h
 | 1,hl,hu=>
  simp only[List.getElem?_cons_succ,gZ,iS]at hl hu;subst hl hu;exact h'
end Top
theorem vB(w:World)(m:Mf)(v1 v2 v3 v4:Value)(hm:MfAt w w.heap.size m v1 v2 v3 v4)(hz:Bt m)(dev:Bool):
 Calls Tryz.prog 21 #[tX v1 v2 v3 v4,.bool dev] w fun e w'=>iQ w (dV m dev) e w':=by
 obtain⟨i0,hi,ha0,ha1,ha2⟩:=info_parts Qb;obtain⟨b1,k1,e4⟩:=hm.deps.form;obtain⟨b2,k2,e5⟩:=hm.dev.form;obtain⟨b3,k3,e6⟩:=hm.opts.form;obtain⟨b4,k4,e7⟩:=hm.over.form;obtain⟨M1,hM1⟩:∃x,x=m.deps.length:=⟨_,rfl⟩;obtain⟨M2,hM2⟩:∃x,x=m.dev.length:=⟨_,rfl⟩;obtain⟨M3,hM3⟩:∃x,x=m.opts.length:=⟨_,rfl⟩;obtain⟨M4,hM4⟩:∃x,x=m.over.length:=⟨_,rfl⟩;rw[<-hM1]at e4;rw[<-hM2]at e5;rw[<-hM3]at e6;rw[<-hM4]at e7;subst e4 e5 e6 e7;have HM:=Hd hm;have HZ:=Hd hz;obtain⟨wx,hwx⟩:∃y,y=(w.alloc (.cells #[.slice b1 M1 k1,.slice b2 M2 k2,.slice b3 M3 k3,.slice b4 M4 k4] 25)).alloc (.cells #[.slice b1 M1 k1] 23):=⟨_,rfl⟩;have hb:Below w.heap.size w wx:=by rw[hwx];exact((bR _ w).alloc nL _).alloc (by simp) _
 have hs:wx.heap.size=w.heap.size+2:=by rw[hwx];simp
 have HCON:Hid (∀W vm ls,Below w.heap.size w W->MustAt W W.heap.size vm ls->ls.length<=2->(∀l∈ls,jK l)->Calls Tryz.prog 51 #[.agg #[.slice b1 M1 k1,.slice b2 M2 k2,.slice b3 M3 k3,.slice b4 M4 k4],vm,.slice b3 M3 k3] W fun e w'=>iQ W (iP m ls m.opts) e w'):=Hd (fun W vm ls hW hmu hl hlz=>
  Ga W m (.slice b1 M1 k1) (.slice b2 M2 k2) (.slice b3 M3 k3) (.slice b4 M4 k4) (hm.up hW) hz ls vm hmu hl hlz m.opts (.slice b3 M3 k3) ((hm.opts.below hW nL).mono hW.size) hz.2.2.1)
 have HB:=Hd hb;have HWX:=Hd hwx;have HS:=Hd hs;unfold tX;cases dev
 ·have HR:Hid (dV m false=iP m [m.deps] m.opts):=Hd rfl;have HC:=Hd (HCON.out wx (.slice (some ⟨w.heap.size+1,0,none⟩) 1 1) [m.deps] hb (Al (b:=w.heap.size+1) ((hm.deps.below hb nL).mono hb.size) (by omega) (by rw[hwx];exact aB (by simp) rfl)) (by simp) (fun l hl=>by simp only[mI]at hl;subst hl;exact hz.1));clear hb hwx hs hm hz hM1 hM2 hM3 hM4;go_enter Tryz.func21,Tryz.ntmps21;go_wp2_with fail;rw[<-HWX.out];refine HC.out.mono ?_;rintro e w2 ⟨a,c,rfl,hi2,hb2⟩;have HI:=Hd hi2;have HB2:=Hd hb2;obtain⟨n,hn⟩:∃n,n=(iP m [m.deps] m.opts).length:=⟨_,rfl⟩;have HNN:=Hd hn;rw[<-hn];clear hi2 hb2 hn;go_wp2;go_returns;rw[HR.out];exact⟨a,c,by rw[HNN.out];rfl,HI.out.mono (by have:=HS.out;omega) nL,HB.out.trans (HB2.out.mono HB.out.size)⟩
 ·have HR:Hid (dV m true=iP m [m.deps,m.dev] m.opts):=Hd rfl;have hrow:wx.ownsRow w.heap.size 23 1 (.slice (some ⟨w.heap.size+1,0,none⟩) 1 1) 1 [.slice b1 M1 k1]:=by
   have:=World.ownsRow_lit (base:=w.heap.size) (e:=23) (size:=1) (w.alloc (.cells #[.slice b1 M1 k1,.slice b2 M2 k2,.slice b3 M3 k3,.slice b4 M4 k4] 25)) #[.slice b1 M1 k1] 1 (by simp) (by decide) (by rfl);rw[hwx];rw[sA]at this;exact this
  rw[hwx]at hrow;have HROW:=Hd hrow;have HNB:Hid ((((w.alloc (.cells #[.slice b1 M1 k1,.slice b2 M2 k2,.slice b3 M3 k3,.slice b4 M4 k4] 25)).alloc (.cells #[.slice b1 M1 k1] 23)).alloc (.cells #[.slice b2 M2 k2] 23)).heap[w.heap.size+2]? =some (.cells #[.slice b2 M2 k2] 23 (0,0))):=Hd (by
   have:=heap_alloc_new ((w.alloc (.cells #[.slice b1 M1 k1,.slice b2 M2 k2,.slice b3 M3 k3,.slice b4 M4 k4] 25)).alloc (.cells #[.slice b1 M1 k1] 23)) (.cells #[.slice b2 M2 k2] 23);rw[sA,sA]at this;exact this)
  have HCELL:Hid (∀W,Below wx.heap.size wx W->W.cell? ⟨w.heap.size,0,none⟩=some (.slice b1 M1 k1)/\W.cell? ⟨w.heap.size,1,none⟩=some (.slice b2 M2 k2)/\W.cell? ⟨w.heap.size,2,none⟩=some (.slice b3 M3 k3)/\W.cell? ⟨w.heap.size,3,none⟩=some (.slice b4 M4 k4)):=Hd (fun W hW=>by
   refine⟨(hW.cell (p:=⟨w.heap.size,0,none⟩) (by show w.heap.size<_;omega)).trans ?_,(hW.cell (p:=⟨w.heap.size,1,none⟩) (by show w.heap.size<_;omega)).trans ?_,(hW.cell (p:=⟨w.heap.size,2,none⟩) (by show w.heap.size<_;omega)).trans ?_,(hW.cell (p:=⟨w.heap.size,3,none⟩) (by show w.heap.size<_;omega)).trans ?_⟩<;>
    (rw[hwx];exact(aD (by simp)).trans (aB rfl rfl)))
  clear hb hs hm hz hM1 hM2 hM3 hM4 hrow hwx;go_enter Tryz.func21,Tryz.ntmps21;go_upto_region 4 with(at_builtin;refine wpList_append_own _ rfl _ _ 118 rfl w.heap.size 23 i0 (.slice none 0 0) 1 24 Tryz.underlying118 hi ha0 ha1 ha2 rfl (by decide) _ _ _ rfl (HROW.out.alloc _) ⟨w.heap.size+2,0,none⟩ 1 1 [.slice b2 M2 k2] rfl rfl (World.news_of_block (cs:=#[.slice b2 M2 k2]) (t:=23) (fr:=(0,0)) HNB.out) (fun x hx=>by simp at hx;subst hx;rfl) (by unfold maxLen;omega) (by omega) (by simp;omega) ?_;intro v4 w4 hown4 hgrow4 hnil4);have hbd:Below wx.heap.size wx (wx.alloc (.cells #[.slice b2 M2 k2] 23)):=(bR _ wx).alloc nL _;have hx4:∀k,k<w.heap.size+1->w4.heap[k]? =wx.heap[k]?:=fun k hk=>by
   have h1:=hgrow4.block k (by rw[sA,sA,sA];omega) (fun e=>by have:k=w.heap.size+1:=Option.some.inj (show some k=some (w.heap.size+1)from e);omega);rw[h1];have:=hbd.block k (by have:=HS.out;omega);rw[HWX.out]at this |-;exact this
  have hb4:Below w.heap.size w w4:=by
   have h1:Below w.heap.size w (wx.alloc (.cells #[.slice b2 M2 k2] 23)):=HB.out.alloc HB.out.size _;rw[HWX.out]at h1;exact h1.grown hgrow4 (by rw[sA,sA,sA];omega) (fun g hg=>by have:w.heap.size+1=g:=Option.some.inj (show some (w.heap.size+1)=some g from hg);omega)
  have hcell4:w4.cell? ⟨w.heap.size,0,none⟩=some (.slice b1 M1 k1)/\w4.cell? ⟨w.heap.size,1,none⟩=some (.slice b2 M2 k2)/\w4.cell? ⟨w.heap.size,2,none⟩=some (.slice b3 M3 k3)/\w4.cell? ⟨w.heap.size,3,none⟩=some (.slice b4 M4 k4):=by
   obtain⟨h0,h1,h2,h3⟩:=HCELL.out wx (bR _ _);have e:∀i,w4.cell? ⟨w.heap.size,i,none⟩=wx.cell? ⟨w.heap.size,i,none⟩:=fun i=>World.cell?_of_block (hx4 w.heap.size (by omega));exact⟨(e 0).trans h0,(e 1).trans h1,(e 2).trans h2,(e 3).trans h3⟩
  obtain⟨g4,cap4,rfl,_,_⟩:=eU hown4 (by omega);have HC:=Hd (HCON.out w4 (.slice (some ⟨g4,0,none⟩) 2 cap4) [m.deps,m.dev] hb4 (Md ((HM.out.deps.below hb4 nL).mono hb4.size) ((HM.out.dev.below hb4 nL).mono hb4.size) hown4 nL) (by simp) (fun l hl=>by
   simp only[List.mem_cons,List.not_mem_nil,or_false]at hl;rcases hl with rfl | rfl
   ·exact HZ.out.1
   ·exact HZ.out.2.1))
  have HB4:=Hd hb4;obtain⟨c0,c1,c2,c3⟩:=hcell4;clear hbd hx4 hb4 hown4 hgrow4 hnil4;go_wp2_with fail;refine HC.out.mono ?_;rintro e w2 ⟨a,c,rfl,hi2,hb2⟩;have HI:=Hd hi2;have HB2:=Hd hb2;obtain⟨n,hn⟩:∃n,n=(iP m [m.deps,m.dev] m.opts).length:=⟨_,rfl⟩;have HNN:=Hd hn;rw[<-hn];clear hi2 hb2 hn;go_wp2;go_returns;rw[HR.out];exact⟨a,c,by rw[HNN.out];rfl,HI.out.mono HB4.out.size nL,HB4.out.trans (HB2.out.mono HB4.out.size)⟩
end
section
open Top
namespace Top
def Vj(m:Mf)(d:Dp):Dp:=⟨d.name,aQ m d⟩
theorem RowZ.clip{z:Nat}{w:World}{B:Nat}{a:Option Addr}{n c:Nat}{xs:List (List Value)}(h:RowZ z w B (.slice a n c) xs):RowZ z w B (.slice a n n) xs:=by
 obtain⟨a',cap,e,hl,hc⟩:=h.is;cases e;exact⟨a,xs.length,rfl,nL,hc⟩
theorem DpsAt.clip{w:World}{B:Nat}{a:Option Addr}{n c:Nat}{l:List Dp}(h:DpsAt w B (.slice a n c) l):DpsAt w B (.slice a n n) l:=by
 obtain⟨cs,h1,h2,h3⟩:=h;exact⟨cs,h1,RowZ.clip h2,h3⟩
theorem Qc:(Tryz.prog.info? 75).map (fun i=>(i.zero,i.size,i.bytes))=some (some (.agg #[.string ByteArray.empty,.slice none 0 0]),2,40):=by kernel_rfl
end Top
def Gd(w0:World)(l:List Dp)(e:Ending)(w':World):Prop:=∃a c cs,e=.returned (.slice a l.length l.length)/\DpsOwn w' w0.heap.size (.slice a l.length c) l cs/\Below w0.heap.size w0 w'
theorem Ia(w:World)(p:Pk)(v1 v2 v3:Value)(hp:PkAt w w.heap.size p v1 v2 v3)(hpz:tV p)(m:Mf)(u1 u2 u3 u4:Value)(hm:MfAt w w.heap.size m u1 u2 u3 u4)(hz:Bt m):
 Calls Tryz.prog 92 #[iU p v1 v2 v3,tX u1 u2 u3 u4] w fun e w'=>Gd w (eZ m p) e w':=by
 obtain⟨i0,hi,ha0,ha1,ha2⟩:=info_parts Qc;obtain⟨pn,v,deps,peers,opts⟩:=p;obtain⟨va,vb,vc⟩:=v;obtain⟨h1,h2,h3⟩:=hp;obtain⟨z1,z2,z3⟩:=hpz;dsimp only at h1 h2 h3 z1 z2 z3;obtain⟨d1,e1,q1⟩:=h1.form;obtain⟨d2,e2,q2⟩:=h2.form;obtain⟨d3,e3,q3⟩:=h3.form;obtain⟨a1,c1,hv1⟩:=hm.deps.form;obtain⟨a2,c2,hv2⟩:=hm.dev.form;obtain⟨a3,c3,hv3⟩:=hm.opts.form;obtain⟨a4,c4,hv4⟩:=hm.over.form;obtain⟨D1,hD1⟩:=ex (deps.length);obtain⟨D2,hD2⟩:=ex (peers.length);obtain⟨D3,hD3⟩:=ex (opts.length);obtain⟨n1,hn1⟩:=ex (m.deps.length);obtain⟨n2,hn2⟩:=ex (m.dev.length);obtain⟨n3,hn3⟩:=ex (m.opts.length);obtain⟨n4,hn4⟩:=ex (m.over.length);rw[<-hD1]at q1;rw[<-hD2]at q2;rw[<-hD3]at q3;rw[<-hn1]at hv1;rw[<-hn2]at hv2;rw[<-hn3]at hv3;rw[<-hn4]at hv4;have hover:=hm.over;subst q1 q2 q3 hv1 hv2 hv3 hv4;have HOV:=Hd hover
 have HZM:=Hd hz;have HP:=Hd h2;have HPN:=Hd hD2;have HPZ:=Hd z2;have hNs:D2<=1000000:=by rw[hD2];exact z2.1
 obtain⟨wb,hwb⟩:=ex ((w.alloc (.cells #[.string (bs pn),.int .i64 va,.int .i64 vb,.int .i64 vc,.slice d1 D1 e1,.slice d2 D2 e2,.slice d3 D3 e3] 52)).alloc (.cells #[.slice a1 n1 c1,.slice a2 n2 c2,.slice a3 n3 c3,.slice a4 n4 c4] 25));have hsb:wb.heap.size=w.heap.size+2:=by rw[hwb];simp
 have hmb:∀W,Below (w.heap.size+2) wb W->W.cell? ⟨w.heap.size+1,0,none⟩=some (.slice a1 n1 c1)/\W.cell? ⟨w.heap.size+1,1,none⟩=some (.slice a2 n2 c2)/\W.cell? ⟨w.heap.size+1,2,none⟩=some (.slice a3 n3 c3)/\W.cell? ⟨w.heap.size+1,3,none⟩=some (.slice a4 n4 c4):=fun W hW=>
  ⟨(hW.cell (p:=⟨w.heap.size+1,0,none⟩) (by show w.heap.size+1<_;omega)).trans (by rw[hwb];exact aB (by simp) rfl),(hW.cell (p:=⟨w.heap.size+1,1,none⟩) (by show w.heap.size+1<_;omega)).trans (by rw[hwb];exact aB (by simp) rfl),(hW.cell (p:=⟨w.heap.size+1,2,none⟩) (by show w.heap.size+1<_;omega)).trans (by rw[hwb];exact aB (by simp) rfl),(hW.cell (p:=⟨w.heap.size+1,3,none⟩) (by show w.heap.size+1<_;omega)).trans (by rw[hwb];exact aB (by simp) rfl)⟩
 have hbb:∀W,Below (w.heap.size+2) wb W->Below w.heap.size w W:=fun W hW=>by
  have h0:Below w.heap.size w wb:=by rw[hwb];exact((bR _ w).alloc nL _).alloc (by simp) _
  exact h0.trans (hW.mono (by omega))
 have hwz:∀W,Below (w.heap.size+2) wb W->w.heap.size+2<=W.heap.size:=fun W hW=>by have:=hW.size;omega
 have HMB:=Hd hmb;have HBB:=Hd hbb;have HWZ:=Hd hwz;have HSB:=Hd hsb;have HWB:=Hd hwb;have HLP:Hid (∀k,peers.length<=k->(peers.take k).map (Vj m)=eZ m ⟨pn,⟨va,vb,vc⟩,deps,peers,opts⟩):=Hd (fun k hk=>by rw[List.take_of_length_le hk];rfl);clear hm hz h1 h2 h3 z1 z2 z3 hD1 hD2 hD3 hn1 hn2 hn3 hn4 hover hwb hmb hbb hwz hsb;unfold tX iU sv;dsimp only;go_enter Tryz.func92,Tryz.ntmps92;go_wp2;go_loopw [11,5] (fun p s wr=>∃(k q:Nat) (ao:Option Addr) (co:Nat) (L:List Dp) (cs:List Value),p=.int .i64 k/\s=.slice ao q co/\k<=D2/\q=L.length/\q<=k/\L=(peers.take k).map (Vj m)/\DpsOwn wr (w.heap.size+2) (.slice ao q co) L cs/\Below (w.heap.size+2) wb wr) (fun p _ _=>D2-(intOf p).toNat);case atStart=>exact⟨0,0,none,0,[],[],rfl,rfl,Nat.zero_le _,rfl,by omega,by simp,DpsOwn.nil _ _,by rw[<-HWB.out];exact bR _ _⟩
 case round=>
  obtain⟨wo,rfl⟩:∃y,y=wr:=⟨wr,rfl⟩;obtain⟨k,q,ao,co,L,cs,rfl,rfl,hkN,hq,hq2,hL,hown,hbo⟩:=hrel;have HQL:=Hd hq;have HLL:=Hd hL;have HOWN:=Hd hown;have HBO:=Hd hbo;have hb:=HBB.out _ hbo;clear hq hL hown;by_cases hk2:k<D2
  ·obtain⟨x,hx⟩:∃x,peers[k]? =some x:=⟨_,gE (by have:=HPN.out;omega)⟩;obtain⟨bk,o,cap,hve,hcap,hbk,hat⟩:=HP.out.at (by have:=HPN.out;omega);rw[<-HPN.out]at hve;cases hve;obtain⟨ra,rc,hrg,e0,e1⟩:=hat k x hx;have hzx:=HPZ.out.2 x (mG hx);have e0:=(hb.cell (p:=⟨bk,o+k*2,none⟩) hbk).trans e0;have e1:=(hb.cell (p:=⟨bk,o+k*2+1,none⟩) hbk).trans e1;have hbsz:=hb.size;obtain⟨nm,rg⟩:=x;dsimp only at hrg e0 e1 hzx;unfold sv at e0;obtain⟨M,hM⟩:=ex (rg.length);rw[<-hM]at hrg e1 hzx;have HMM:=Hd hM;have HX:=Hd hx;obtain⟨M',hM'⟩:∃M',M'=(aQ m ⟨nm,rg⟩).length:=⟨_,rfl⟩;have HM':=Hd hM';have hM1:M'<=1000000:=by rw[hM'];exact jP HZM.out.2.2.2 (by rw[<-hM];exact hzx)
   have hz1:=HWZ.out _ hbo;have hwz:(wo.alloc (.cells #[.string (bs nm),.slice ra M rc] 75)).drew.heap.size=wo.heap.size+1:=Array.size_push ..;have hbA:Below wo.heap.size wo (wo.alloc (.cells #[.string (bs nm),.slice ra M rc] 75)).drew:=((bR _ wo).alloc nL _).drew;have hmb:=HMB.out _ hbo;have kA:(wo.alloc (.cells #[.string (bs nm),.slice ra M rc] 75)).drew.cell? ⟨wo.heap.size,0,none⟩=some (.string (bs nm))/\(wo.alloc (.cells #[.string (bs nm),.slice ra M rc] 75)).drew.cell? ⟨wo.heap.size,1,none⟩=some (.slice ra M rc)/\(wo.alloc (.cells #[.string (bs nm),.slice ra M rc] 75)).drew.cell? ⟨w.heap.size+1,0,none⟩=some (.slice a1 n1 c1)/\(wo.alloc (.cells #[.string (bs nm),.slice ra M rc] 75)).drew.cell? ⟨w.heap.size+1,1,none⟩=some (.slice a2 n2 c2)/\(wo.alloc (.cells #[.string (bs nm),.slice ra M rc] 75)).drew.cell? ⟨w.heap.size+1,2,none⟩=some (.slice a3 n3 c3)/\(wo.alloc (.cells #[.string (bs nm),.slice ra M rc] 75)).drew.cell? ⟨w.heap.size+1,3,none⟩=some (.slice a4 n4 c4):=
    ⟨aB rfl rfl,aB rfl rfl,(aD (by show w.heap.size+1<_;omega)).trans hmb.1,(aD (by show w.heap.size+1<_;omega)).trans hmb.2.1,(aD (by show w.heap.size+1<_;omega)).trans hmb.2.2.1,(aD (by show w.heap.size+1<_;omega)).trans hmb.2.2.2⟩
   have HCL:Hid (Calls Tryz.prog 99 #[.agg #[.slice a1 n1 c1,.slice a2 n2 c2,.slice a3 n3 c3,.slice a4 n4 c4],.agg #[.string (bs nm),.slice ra M rc]] (wo.alloc (.cells #[.string (bs nm),.slice ra M rc] 75)).drew fun e w'=>∃a' c',e=.returned (.slice a' M' c')/\w'.ownsRow (w.heap.size+2) 73 6 (.slice a' M' c') M' ((aQ m ⟨nm,rg⟩).map aU).flatten/\Below (wo.alloc (.cells #[.string (bs nm),.slice ra M rc] 75)).drew.heap.size (wo.alloc (.cells #[.string (bs nm),.slice ra M rc] 75)).drew w'):=Hd (by
    have hw:=hb.trans (hbA.mono hbsz);have:=rF (wo.alloc (.cells #[.string (bs nm),.slice ra M rc] 75)).drew m (.slice a1 n1 c1) (.slice a2 n2 c2) (.slice a3 n3 c3) (.slice a4 n4 c4) ((HOV.out.below hw nL).mono hw.size) HZM.out.2.2.2 ⟨nm,rg⟩ ra rc (by rw[<-hM];exact(RowZ.below hrg hw nL).mono hw.size) (by rw[<-hM];exact hzx) rfl rfl rfl;rw[<-hM]at this;refine this.mono fun e w' h=>?_;obtain⟨a',c',h1,h2,h3⟩:=h;rw[<-hM']at h1 h2;exact⟨a',c',h1,dI h2 (by omega),h3⟩)
   have HBA:=Hd hbA;have HWZ1:=Hd hwz;clear hx hat hM hM' hcap hrg hbA hmb hwz;go_wp2;refine rG (fun w'=>w'.cell? ⟨wo.heap.size,0,none⟩=some (.string (bs nm))/\w'.cell? ⟨wo.heap.size,1,none⟩=some (.slice ra M rc)/\w'.cell? ⟨w.heap.size+1,0,none⟩=some (.slice a1 n1 c1)/\w'.cell? ⟨w.heap.size+1,1,none⟩=some (.slice a2 n2 c2)/\w'.cell? ⟨w.heap.size+1,2,none⟩=some (.slice a3 n3 c3)/\w'.cell? ⟨w.heap.size+1,3,none⟩=some (.slice a4 n4 c4)) kA fun hU=>?_;refine aM [0,1,2,3,4] ?_;refine rd 5 fun K hK=>?_;go_simp;go_at_call 99;refine HCL.out.mono ?_;rintro e wc ⟨a',c',rfl,hownc,hbc⟩;have hzc:=hbc.size;have hwz:=HWZ1.out;have hz1:=HWZ.out _ hbo;have kC:wc.cell? ⟨wo.heap.size,0,none⟩=some (.string (bs nm))/\wc.cell? ⟨wo.heap.size,1,none⟩=some (.slice ra M rc)/\wc.cell? ⟨w.heap.size+1,0,none⟩=some (.slice a1 n1 c1)/\wc.cell? ⟨w.heap.size+1,1,none⟩=some (.slice a2 n2 c2)/\wc.cell? ⟨w.heap.size+1,2,none⟩=some (.slice a3 n3 c3)/\wc.cell? ⟨w.heap.size+1,3,none⟩=some (.slice a4 n4 c4):=⟨(hbc.cell (p:=⟨wo.heap.size,0,none⟩) (by show wo.heap.size<_;omega)).trans kA.1,(hbc.cell (p:=⟨wo.heap.size,1,none⟩) (by show wo.heap.size<_;omega)).trans kA.2.1,(hbc.cell (p:=⟨w.heap.size+1,0,none⟩) (by show w.heap.size+1<_;omega)).trans kA.2.2.1,(hbc.cell (p:=⟨w.heap.size+1,1,none⟩) (by show w.heap.size+1<_;omega)).trans kA.2.2.2.1,(hbc.cell (p:=⟨w.heap.size+1,2,none⟩) (by show w.heap.size+1<_;omega)).trans kA.2.2.2.2.1,(hbc.cell (p:=⟨w.heap.size+1,3,none⟩) (by show w.heap.size+1<_;omega)).trans kA.2.2.2.2.2⟩
   have HOC:=Hd hownc;have HBC:Hid (Below wo.heap.size wo wc):=Hd (HBA.out.trans (hbc.mono (by omega)));have HDO:=Hd (HOWN.out.below HBC.out);have HZC:Hid (wo.heap.size+1<=wc.heap.size):=Hd (by omega);clear hownc hbc hzc hwz;have kD:∀ob,(wc.alloc ob).cell? ⟨wo.heap.size,0,none⟩=some (.string (bs nm))/\(wc.alloc ob).cell? ⟨wo.heap.size,1,none⟩=some (.slice ra M rc)/\(wc.alloc ob).cell? ⟨w.heap.size+1,0,none⟩=some (.slice a1 n1 c1)/\(wc.alloc ob).cell? ⟨w.heap.size+1,1,none⟩=some (.slice a2 n2 c2)/\(wc.alloc ob).cell? ⟨w.heap.size+1,2,none⟩=some (.slice a3 n3 c3)/\(wc.alloc ob).cell? ⟨w.heap.size+1,3,none⟩=some (.slice a4 n4 c4):=fun ob=>by
    have:=HZC.out;exact⟨(aD (by show wo.heap.size<_;omega)).trans kC.1,(aD (by show wo.heap.size<_;omega)).trans kC.2.1,(aD (by show w.heap.size+1<_;omega)).trans kC.2.2.1,(aD (by show w.heap.size+1<_;omega)).trans kC.2.2.2.1,(aD (by show w.heap.size+1<_;omega)).trans kC.2.2.2.2.1,(aD (by show w.heap.size+1<_;omega)).trans kC.2.2.2.2.2⟩
   refine hK.out _ _ (kC) fun hU=>?_;clear hK K;refine aM [6] ?_;refine rd 7 fun K hK=>?_;go_simp;refine hK.out _ _ (kD _) fun hU=>?_;clear hK K;(try simp only[lay]);refine rd 8 fun K hK=>?_;obtain⟨wd,hwd⟩:=ex (wc.alloc (.cells #[.string (bs nm),.slice a' M' c'] 75));have HDD:Hid (DpsOwn wd (w.heap.size+2) (.slice ao q co) L cs):=Hd (by rw[hwd];exact HDO.out.below ((bR _ wc).alloc nL _));have HOD:Hid (wd.ownsRow (w.heap.size+2) 73 6 (.slice a' M' c') M' ((aQ m ⟨nm,rg⟩).map aU).flatten):=Hd (by rw[hwd];exact HOC.out.alloc _);have HNB:Hid (wd.heap[wc.heap.size]? =some (.cells #[.string (bs nm),.slice a' M' c'] 75 (0,0))):=Hd (by rw[hwd];exact heap_alloc_new wc _);have HSD:Hid (wd.heap.size=wc.heap.size+1):=Hd (by rw[hwd];exact sA _ _);have HBD:Hid (Below wo.heap.size wo wd):=Hd (by rw[hwd];exact HBC.out.alloc HBC.out.size _)
   have kW:wd.cell? ⟨wo.heap.size,0,none⟩=some (.string (bs nm))/\wd.cell? ⟨wo.heap.size,1,none⟩=some (.slice ra M rc)/\wd.cell? ⟨w.heap.size+1,0,none⟩=some (.slice a1 n1 c1)/\wd.cell? ⟨w.heap.size+1,1,none⟩=some (.slice a2 n2 c2)/\wd.cell? ⟨w.heap.size+1,2,none⟩=some (.slice a3 n3 c3)/\wd.cell? ⟨w.heap.size+1,3,none⟩=some (.slice a4 n4 c4):=by rw[hwd];exact kD _
   have hrow:=HDD.out.row;rw[<-HQL.out]at hrow;have HROW:=Hd hrow;have HWD:=Hd hwd;clear hwd hrow;rw[<-HWD.out];refine step_append_lies wd (by rfl) _ _ _ (by rfl) (w.heap.size+2) 75 i0 (.agg #[.string ByteArray.empty,.slice none 0 0]) 2 40 Tryz.underlying23 hi ha0 ha1 ha2 rfl (by decide) (.slice ao q co) q _ (by rfl) HROW.out ⟨wc.heap.size,0,none⟩ 1 1 [.string (bs nm),.slice a' M' c'] (by rfl) (by rfl) (World.news_of_block (cs:=#[.string (bs nm),.slice a' M' c']) (t:=75) (fr:=(0,0)) HNB.out) (by simp[Value.oneCell']) (by omega) (by unfold maxLen;omega) (by omega) (by have:=HSD.out;have:=HZC.out;omega) (wc.heap.size+1) HSD.out ?_;intro gn cn w4 hown4 hgrow4 hat4 hlt4;have hne:some wo.heap.size≠(Value.slice ao q co).ownBlock:=fun e=>by have:=(HOWN.out.row.lt wo.heap.size e.symm).2;omega
   have hne2:some (w.heap.size+1)≠(Value.slice ao q co).ownBlock:=fun e=>by have:=(HOWN.out.row.lt (w.heap.size+1) e.symm).1;omega
   have kE:w4.cell? ⟨wo.heap.size,0,none⟩=some (.string (bs nm))/\w4.cell? ⟨wo.heap.size,1,none⟩=some (.slice ra M rc)/\w4.cell? ⟨w.heap.size+1,0,none⟩=some (.slice a1 n1 c1)/\w4.cell? ⟨w.heap.size+1,1,none⟩=some (.slice a2 n2 c2)/\w4.cell? ⟨w.heap.size+1,2,none⟩=some (.slice a3 n3 c3)/\w4.cell? ⟨w.heap.size+1,3,none⟩=some (.slice a4 n4 c4):=by
    have:=HSD.out;have:=HZC.out;exact⟨(hgrow4.cell_far ⟨wo.heap.size,0,none⟩ (by show wo.heap.size<_;omega) hne).trans kW.1,(hgrow4.cell_far ⟨wo.heap.size,1,none⟩ (by show wo.heap.size<_;omega) hne).trans kW.2.1,(hgrow4.cell_far ⟨w.heap.size+1,0,none⟩ (by show w.heap.size+1<_;omega) hne2).trans kW.2.2.1,(hgrow4.cell_far ⟨w.heap.size+1,1,none⟩ (by show w.heap.size+1<_;omega) hne2).trans kW.2.2.2.1,(hgrow4.cell_far ⟨w.heap.size+1,2,none⟩ (by show w.heap.size+1<_;omega) hne2).trans kW.2.2.2.2.1,(hgrow4.cell_far ⟨w.heap.size+1,3,none⟩ (by show w.heap.size+1<_;omega) hne2).trans kW.2.2.2.2.2⟩
   have HO4:=Hd hown4;have HGR4:=Hd hgrow4;clear hown4 hgrow4 hat4;refine hK.out _ _ (kE) fun hU=>?_;clear hK K;refine aM [9] ?_;refine dN ?_;have HNXT:Hid (DpsOwn w4 (w.heap.size+2) (.slice (some ⟨gn,0,none⟩) (q+1) cn) (L++[⟨nm,aQ m ⟨nm,rg⟩⟩]) (cs++[.slice a' M' c'])):=Hd (by
    refine HDD.out.add (d:=⟨nm,aQ m ⟨nm,rg⟩⟩) HGR4.out ?_ ?_
    ·rw[<-HQL.out];exact HO4.out
    ·dsimp only;rw[<-HM'.out];exact HOD.out.kept HGR4.out (aJ HOD.out HDD.out.row (by decide)))
   have HB4:Hid (Below (w.heap.size+2) wb w4):=Hd ((HBO.out.trans (HBD.out.mono (by omega))).grown HGR4.out (by have:=HSD.out;have:=HZC.out;have:=HSB.out;omega) (fun g hg=>(HROW.out.lt g hg).1));have HL4:Hid (L++[⟨nm,aQ m ⟨nm,rg⟩⟩]=(peers.take (k+1)).map (Vj m)):=Hd (by rw[HLL.out,List.take_add_one,HX.out,List.map_append];rfl);clear kA kC kD kE kW;go_wp2;go_roundw;case rel=>exact⟨k+1,q+1,some ⟨gn,0,none⟩,cn,_,_,by go_num,rfl,by omega,by have:=HQL.out;simp;omega,by omega,HL4.out,HNXT.out,HB4.out⟩
   case measure=>simp[intOf];omega
  ·have HF:Hid (L=eZ m ⟨pn,⟨va,vb,vc⟩,deps,peers,opts⟩):=Hd (by rw[HLL.out];exact HLP.out k (by have:=HPN.out;omega));have hcap:=HOWN.out.row;rw[<-HQL.out]at hcap;have hqc:q<=co/\co<=9223372036854775807:=by
    rcases hcap.2 with⟨h1,h2⟩ | ⟨g,cap,cur,h1,_,_,h3,h4,_⟩
    ·cases h1;exact⟨by omega,by omega⟩
    ·cases h1;unfold maxLen at h4;exact⟨h3,by omega⟩
   have HCP:=Hd (fun W=>Ej W ao q co hqc.1 hqc.2);have HBW:=Hd hb;clear hcap hqc hb hbo;go_wp2_with fail;refine(HCP.out _).mono ?_;rintro e w6 ⟨rfl,rfl⟩;go_wp2;go_returns;unfold Gd;rw[<-HF.out,<-HQL.out];have:=HOWN.out;exact⟨ao,co,cs,rfl,⟨this.len,dI this.row (by omega),fun i x c hx hc=>dI (this.rgs i x c hx hc) (by omega)⟩,HBW.out⟩
end
section
open Top
namespace Top
theorem qX{v:Ve}(h:v.may=true):VL.V.atOk v.rank=true/\VL.V.atA v.rank=v.a/\VL.V.atB v.rank=v.b/\VL.V.atC v.rank=v.c:=by
 have hb:=VL.V.gU.1 h;have hr:=kF v;have hok:VL.V.atOk v.rank=true:=VL.V.atOk_iff.2 hr;have hy:=VL.V.at_yes hok;have e:v.rank=(v.a*1000+v.b)*1000+v.c:=VL.V.rank_yes h;refine⟨hok,?_,?_,?_⟩
 ·rw[hy.1,e];omega
 ·rw[hy.2.1,e];omega
 ·rw[hy.2.2,e];omega
theorem Ow{u v:Ve}(hu:u.may=true)(hv:v.may=true)(h:u.rank=v.rank):u=v:=by
 obtain⟨_,h1,h2,h3⟩:=qX hu;obtain⟨_,k1,k2,k3⟩:=qX hv;rw[h]at h1 h2 h3;obtain⟨a,b,c⟩:=u;obtain⟨a',b',c'⟩:=v;simp only[Ve.mk.injEq];exact⟨h1.symm.trans k1,h2.symm.trans k2,h3.symm.trans k3⟩
theorem uQ:∀ {l:List Sp} {n:Int},fP n l=true->∀x∈l,x.lo.may=true/\x.hi.may=true
 | [],_,_,x,hx=>by simp at hx
 | y::r,n,h,x,hx=>by
  unfold fP at h;simp only[Bool.and_eq_true,decide_eq_true_eq]at h;rcases List.mem_cons.1 hx with rfl | hx
  ·exact⟨h.1,h.2.1⟩
  ·exact uQ h.2.2.2.2 x hx
theorem Gu{l:List Sp}(h:dE l=true):∀x∈l,x.lo.may=true/\x.hi.may=true:=by
 unfold dE at h;simp only[Bool.and_eq_true]at h;exact uQ h.2
end Top
theorem Mm:(Tryz.prog.info? 9).map (fun i=>(i.zero,i.size,i.bytes))=some (some (.string ByteArray.empty),1,16):=by kernel_rfl
theorem Ad(w:World)(v:Value)(l:List Sp)(hpw:VL.bS w)(h:iH w w.heap.size v l)(hm:dE l=true)(hn:l.length<=64):
 Calls Tryz.prog 74 #[v] w fun e w'=>e=.returned (.string (bs (jF l)))/\Below w.heap.size w w':=by
 obtain⟨i0,hi,ha0,ha1,ha2⟩:=info_parts Mm;have hmay:=nJ w v l h (by omega);rw[hm]at hmay;have HMAY:=Hd hmay;have HMM:=Hd (Gu hm);have HH:=Hd h;have HPW:Hid (∀W,Below w.heap.size w W->VL.bS W):=Hd (fun W hW=>hpw.below hW nL);obtain⟨a0,cap0,hv0⟩:=iH.form h;obtain⟨N,hN⟩:=ex (l.length);rw[<-hN]at hv0 hn;have HN:=Hd hN;subst hv0;clear h hm hmay hpw hN;go_enter Tryz.func74,Tryz.ntmps74;go_wp2_with fail;refine HMAY.out.mono ?_;rintro e w0 ⟨rfl,hb0⟩;have HB0:=Hd hb0;clear hb0;have HNUM:=Hd (Aj w0 _ l ((RowZ.below HH.out HB0.out nL).mono HB0.out.size) (by rw[<-HN.out];exact hn));go_wp2_with fail;refine HNUM.out.mono ?_;rintro e w1 ⟨v1,rfl,hown1,hb1⟩;have HB1:Hid (Below w.heap.size w w1):=Hd (HB0.out.trans (hb1.mono HB0.out.size));obtain⟨aR,capR,hvR⟩:=aC hown1;have hrz:RowZ 2 w1 w1.heap.size v1 (l.map kN):=RowZ.of_own (by
  intro x hx;obtain⟨y,_,rfl⟩:=List.mem_map.1 hx;rfl) (by rw[lM]) (by rw[<-List.flatMap_def];exact hown1)
 rw[<-HN.out]at hvR;subst hvR;have HRZ:=Hd hrz;clear hown1 hrz hb1;go_wp2;go_loopw [16,3] (fun p q wr=>∃(k:Nat),p=.int .i64 k/\k<=N/\wr.ownsRow w1.heap.size 9 1 q k ((l.take k).map (fun x=>Value.string (bs x.txt)))/\Below w1.heap.size w1 wr) (fun p _ _=>N-(intOf p).toNat);case atStart=>exact⟨0,rfl,by omega,World.ownsRow_nil _ _ _ _,bR _ _⟩
 case round=>
  obtain⟨k,rfl,hk,hown,hb⟩:=hrel;obtain⟨wo,rfl⟩:∃x,x=wr:=⟨wr,rfl⟩;have HOWN:=Hd hown;have HB:=Hd hb;obtain⟨ao,co,hq⟩:=aC hown;subst hq;clear hown;by_cases hkN:k<N
  ·obtain⟨x,hx⟩:∃x,l[k]? =some x:=⟨_,gE (by have:=HN.out;omega)⟩;obtain⟨bk,o,cap,hve,hcap,hbk,hat⟩:=RowZ.some HRZ.out (by rw[lM,<-HN.out];omega);rw[lM,<-HN.out]at hve;cases hve;have hxm:=mG hx;obtain⟨hm1,hm2⟩:=HMM.out x hxm;have hh:=hat k (kN x) (by rw[gM,hx];rfl);have e0:wo.cell? ⟨bk,o+k*2,none⟩=some (.int .i64 x.lo.rank):=(hb.cell (p:=⟨bk,o+k*2,none⟩) hbk).trans (hh 0 _ rfl);have e1:wo.cell? ⟨bk,o+k*2+1,none⟩=some (.int .i64 x.hi.rank):=(hb.cell (p:=⟨bk,o+k*2+1,none⟩) hbk).trans (hh 1 _ rfl);have hbsz:=hb.size;have HNX:Hid ((l.take (k+1)).map (fun x=>Value.string (bs x.txt))=(l.take k).map (fun x=>Value.string (bs x.txt))++[.string (bs x.txt)]):=Hd (by
    rw[List.take_add_one,hx,List.map_append];rfl)
   have HINJ:Hid (x.lo.rank=x.hi.rank->x.lo=x.hi):=Hd (Ow hm1 hm2);obtain⟨r1,hr1⟩:=ex (x.lo.rank);obtain⟨r2,hr2⟩:=ex (x.hi.rank);obtain⟨a,b,c,hxlo⟩:∃a b c,x.lo=⟨a,b,c⟩:=⟨_,_,_,rfl⟩;obtain⟨a',b',c',hxhi⟩:∃a b c,x.hi=⟨a,b,c⟩:=⟨_,_,_,rfl⟩;have HAT1:Hid (∀W,Calls Tryz.prog 119 #[.int .i64 r1] W fun e w'=>e=.returned (.tuple #[.agg #[.int .i64 a,.int .i64 b,.int .i64 c],.bool true])/\Below W.heap.size W w'):=Hd (fun W=>by
    obtain⟨q0,q1,q2,q3⟩:=qX hm1;have:=VL.Oh r1 W;rw[hr1,q0,q1,q2,q3,hxlo]at this;rw[hr1,hxlo];exact this)
   have HAT2:Hid (∀W,Calls Tryz.prog 119 #[.int .i64 r2] W fun e w'=>e=.returned (.tuple #[.agg #[.int .i64 a',.int .i64 b',.int .i64 c'],.bool true])/\Below W.heap.size W w'):=Hd (fun W=>by
    obtain⟨q0,q1,q2,q3⟩:=qX hm2;have:=VL.Oh r2 W;rw[hr2,q0,q1,q2,q3,hxhi]at this;rw[hr2,hxhi];exact this)
   rw[<-hr1]at e0;rw[<-hr2]at e1;have HR1:=Hd hr1;have HR2:=Hd hr2;have HOLT:Hid (∀g,(Value.slice ao k co).ownBlock=some g->g<wo.heap.size):=Hd (fun g hg=>(World.ownsRow.lt HOWN.out g hg).2);clear hat hh hr1 hr2 hx hxm hm1 hm2 hcap;have hl1:=iK x.lo;have hl2:=iK x.hi;obtain⟨lt,hlt⟩:=ex (x.lo.txt);obtain⟨ht,hht⟩:=ex (x.hi.txt);rw[<-hlt]at hl1;rw[<-hht]at hl2;have HLT:=Hd hlt;have HHT:=Hd hht;obtain⟨lo',hlo'⟩:=ex ([62,61]++lt);obtain⟨hi',hhi'⟩:=ex ([60,61]++ht);obtain⟨mi',hmi'⟩:=ex (lo'++[32,60,61]);obtain⟨al',hal'⟩:=ex (mi'++ht);have eLo:∀w,(Op.stringOp .add ⟨#[62,61]⟩ (bs lt)).run Tryz.prog w=.ok (.string (bs lo')) w:=by rw[hlo'];exact aT (A:=[62,61]) (B:=lt) (by simp;omega)
   have eHi:∀w,(Op.stringOp .add ⟨#[60,61]⟩ (bs ht)).run Tryz.prog w=.ok (.string (bs hi')) w:=by rw[hhi'];exact aT (A:=[60,61]) (B:=ht) (by simp;omega)
   have eMi:∀w,(Op.stringOp .add (bs lo') ⟨#[32,60,61]⟩).run Tryz.prog w=.ok (.string (bs mi')) w:=by rw[hmi'];exact aT (A:=lo') (B:=[32,60,61]) (by rw[hlo'];simp;omega)
   have eAl:∀w,(Op.stringOp .add (bs mi') (bs ht)).run Tryz.prog w=.ok (.string (bs al')) w:=by rw[hal'];exact aT (A:=mi') (B:=ht) (by rw[hmi',hlo'];simp;omega)
   have HLO:=Hd hlo';have HHI:=Hd hhi';have HMI':=Hd hmi';have HAL':=Hd hal';have HPL:Hid (∀W,Below w.heap.size w W->Calls Tryz.prog 107 #[.agg #[.int .i64 a,.int .i64 b,.int .i64 c]] W fun e w'=>e=.returned (.string (bs lt))/\Below W.heap.size W w'):=Hd (fun W hW=>by rw[hlt,hxlo,rX];exact VL.rH a b c W (HPW.out W hW));have HPH:Hid (∀W,Below w.heap.size w W->Calls Tryz.prog 107 #[.agg #[.int .i64 a',.int .i64 b',.int .i64 c']] W fun e w'=>e=.returned (.string (bs ht))/\Below W.heap.size W w'):=Hd (fun W hW=>by rw[hht,hxhi,rX];exact VL.rH a' b' c' W (HPW.out W hW));clear hlt hht hlo' hhi' hmi' hal';obtain⟨wa,hwa⟩:=ex (wo.alloc (.cells #[.int .i64 r1,.int .i64 r2] 190));have hba:Below wo.heap.size wo wa:=by rw[hwa];exact(bR _ _).alloc nL _
   have hza:wa.heap.size=wo.heap.size+1:=by rw[hwa];exact Array.size_push ..
   have HCA:Hid (∀W,Below wa.heap.size wa W->W.cell? ⟨wo.heap.size,0,none⟩=some (.int .i64 r1)/\W.cell? ⟨wo.heap.size,1,none⟩=some (.int .i64 r2)):=Hd (fun W hW=>by
    refine⟨?_,?_⟩
    ·rw[hW.cell (p:=⟨wo.heap.size,0,none⟩) (by show wo.heap.size<_;omega),hwa];exact World.cell?_alloc_at _ _ _ _ rfl
    ·rw[hW.cell (p:=⟨wo.heap.size,1,none⟩) (by show wo.heap.size<_;omega),hwa];exact World.cell?_alloc_at _ _ _ _ rfl)
   have HWA:=Hd hwa;clear hwa;go_wp2_with fail;rw[<-HWA.out];refine(HAT1.out _).mono ?_;rintro e w2 ⟨rfl,hb2⟩;have hbw2:=hba.trans (hb2.mono hba.size);have hz2:=hbw2.size;have hz2':=hb2.size;obtain⟨wb,hwb⟩:=ex (w2.alloc (.cells #[.int .i64 a,.int .i64 b,.int .i64 c] 50));have hbb:Below w2.heap.size w2 wb:=by rw[hwb];exact(bR _ _).alloc nL _
   have hzb:wb.heap.size=w2.heap.size+1:=by rw[hwb];exact Array.size_push ..
   have HCB:Hid (∀W,Below wb.heap.size wb W->W.cell? ⟨w2.heap.size,0,none⟩=some (.int .i64 a)/\W.cell? ⟨w2.heap.size,1,none⟩=some (.int .i64 b)/\W.cell? ⟨w2.heap.size,2,none⟩=some (.int .i64 c)):=Hd (fun W hW=>by
    refine⟨?_,?_,?_⟩
    ·rw[hW.cell (p:=⟨w2.heap.size,0,none⟩) (by show w2.heap.size<_;omega),hwb];exact World.cell?_alloc_at _ _ _ _ rfl
    ·rw[hW.cell (p:=⟨w2.heap.size,1,none⟩) (by show w2.heap.size<_;omega),hwb];exact World.cell?_alloc_at _ _ _ _ rfl
    ·rw[hW.cell (p:=⟨w2.heap.size,2,none⟩) (by show w2.heap.size<_;omega),hwb];exact World.cell?_alloc_at _ _ _ _ rfl)
   have hab:=hb2.trans (hbb.mono hb2.size);obtain⟨_,d1⟩:=HCA.out wb hab;rw[hwb]at d1;have HWB:=Hd hwb;have HAB:=Hd hab;have HBB:=Hd hbb;clear hwb e0 e1 hab;go_wp2_with fail;rw[<-HWB.out];refine(HAT2.out _).mono ?_;rintro e w3 ⟨rfl,hb3⟩;have hz3:=hb3.size;obtain⟨wc,hwc⟩:=ex (w3.alloc (.cells #[.int .i64 a',.int .i64 b',.int .i64 c'] 50));have hbc:Below w3.heap.size w3 wc:=by rw[hwc];exact(bR _ _).alloc nL _
   have hzc:wc.heap.size=w3.heap.size+1:=by rw[hwc];exact Array.size_push ..
   have hbbc:Below wb.heap.size wb wc:=hb3.trans (hbc.mono hb3.size);have HCELL:Hid (∀W,Below wc.heap.size wc W->W.cell? ⟨wo.heap.size,0,none⟩=some (.int .i64 r1)/\W.cell? ⟨wo.heap.size,1,none⟩=some (.int .i64 r2)/\W.cell? ⟨w2.heap.size,0,none⟩=some (.int .i64 a)/\W.cell? ⟨w2.heap.size,1,none⟩=some (.int .i64 b)/\W.cell? ⟨w2.heap.size,2,none⟩=some (.int .i64 c)/\W.cell? ⟨w3.heap.size,0,none⟩=some (.int .i64 a')/\W.cell? ⟨w3.heap.size,1,none⟩=some (.int .i64 b')/\W.cell? ⟨w3.heap.size,2,none⟩=some (.int .i64 c')):=Hd (fun W hW=>by
    have h2:Below wb.heap.size wb W:=hbbc.trans (hW.mono hbbc.size);have h1:Below wa.heap.size wa W:=HAB.out.trans (h2.mono HAB.out.size);obtain⟨q0,q1⟩:=HCA.out W h1;obtain⟨q2,q3,q4⟩:=HCB.out W h2;refine⟨q0,q1,q2,q3,q4,?_,?_,?_⟩
    ·rw[hW.cell (p:=⟨w3.heap.size,0,none⟩) (by show w3.heap.size<_;omega),hwc];exact World.cell?_alloc_at _ _ _ _ rfl
    ·rw[hW.cell (p:=⟨w3.heap.size,1,none⟩) (by show w3.heap.size<_;omega),hwc];exact World.cell?_alloc_at _ _ _ _ rfl
    ·rw[hW.cell (p:=⟨w3.heap.size,2,none⟩) (by show w3.heap.size<_;omega),hwc];exact World.cell?_alloc_at _ _ _ _ rfl)
   have hbo:Below wo.heap.size wo wc:=hba.trans ((HAB.out.trans (hbbc.mono HAB.out.size)).mono hba.size);have HBC1:Hid (Below w1.heap.size w1 wc):=Hd (HB.out.trans (hbo.mono HB.out.size));have HBC:Hid (Below w.heap.size w wc):=Hd (HB1.out.trans (HBC1.out.mono HB1.out.size));have HRC:Hid (wc.ownsRow w1.heap.size 9 1 (.slice ao k co) k ((l.take k).map (fun x=>Value.string (bs x.txt)))):=Hd (bL HOWN.out (fun j _ hj=>hbo.block j hj) nL);have HS2:Hid (w2.heap.size<wc.heap.size):=Hd (by omega);have HS3:Hid (w3.heap.size<wc.heap.size):=Hd (by omega);have hol:=HOLT.out;have HF2:Hid ((Value.slice ao k co).ownBlock≠some w2.heap.size):=Hd (fun e=>by have:=hol _ e;omega);have HF3:Hid ((Value.slice ao k co).ownBlock≠some w3.heap.size):=Hd (fun e=>by have:=hol _ e;omega);obtain⟨c0,c1,c2,c3,c4,c5,c6,c7⟩:=HCELL.out wc (bR _ _);have k9:wc.cell? ⟨w2.heap.size,0,none⟩=some (.int .i64 a)/\wc.cell? ⟨w2.heap.size,1,none⟩=some (.int .i64 b)/\wc.cell? ⟨w2.heap.size,2,none⟩=some (.int .i64 c)/\wc.cell? ⟨w3.heap.size,0,none⟩=some (.int .i64 a')/\wc.cell? ⟨w3.heap.size,1,none⟩=some (.int .i64 b')/\wc.cell? ⟨w3.heap.size,2,none⟩=some (.int .i64 c'):=⟨c2,c3,c4,c5,c6,c7⟩
   have K9:=Hd k9;clear k9;rw[hwc]at c0 c1 c2 c3 c4 c5 c6 c7;have HWC:=Hd hwc;have hz1:=HBC1.out.size;clear hwc d1 hb2 hb3 hbw2 hba hza hzb hzc hbb hbc hbbc hbo hz2 hz2' hz3 hol;by_cases p0:r1=r2
   ·have p0b:(r1==r2)=true:=beq_iff_eq.2 p0;have HEQ:Hid (x.lo=x.hi):=Hd (HINJ.out (by rw[<-HR1.out,<-HR2.out];exact p0));clear p0;go_wp2_with fail;rw[<-HWC.out];go_wp2_with fail;refine(HPL.out _ (HBC.out)).mono ?_;rintro e w6 ⟨rfl,hb6⟩;have HBK:Hid (Below w1.heap.size w1 w6):=Hd (HBC1.out.trans (hb6.mono HBC1.out.size));have HRK:Hid (w6.ownsRow w1.heap.size 9 1 (.slice ao k co) k ((l.take k).map (fun x=>Value.string (bs x.txt)))):=Hd (bL HRC.out (fun j _ hj=>hb6.block j hj) nL);have hz6:=HBK.out.size;clear c0 c1 c2 c3 c4 c5 c6 c7 hb6;go_wp2_with (at_builtin;refine wpList_append_own _ rfl _ _ 186 rfl w1.heap.size 9 i0 (.string ByteArray.empty) 1 16 Tryz.underlying186 hi ha0 ha1 ha2 rfl (by decide) _ _ _ rfl (World.ownsRow.alloc HRK.out _) ⟨w6.heap.size,0,none⟩ 1 1 [.string (bs lt)] rfl rfl (World.news_of_block (cs:=#[.string (bs lt)]) (heap_alloc_new _ _)) (fun x hx=>by simp at hx;subst hx;rfl) (by unfold maxLen;omega) (by omega) (by simp;omega) ?_;intro v7 w7 hown7 hgrow7 hnil7)
    go_wp2;have HB7:Hid (Below w1.heap.size w1 w7):=Hd (Below.grown (HBK.out.alloc HBK.out.size _) hgrow7 (by simp;omega) (fun g hg=>(World.ownsRow.lt HRK.out g hg).1));have HO7:Hid (w7.ownsRow w1.heap.size 9 1 v7 (k+1) ((l.take (k+1)).map (fun x=>Value.string (bs x.txt)))):=Hd (by
     have e:x.txt=lt:=by unfold Sp.txt;rw[if_pos HEQ.out,HLT.out]
     rw[HNX.out,e];exact hown7)
    clear hown7 hgrow7 hnil7;go_roundw;case rel=>exact⟨k+1,by go_num,by omega,HO7.out,HB7.out⟩
    case measure=>simp[intOf];omega
   ·have p0b:(r1==r2)=false:=beq_eq_false_iff_ne.2 p0;have HNE:Hid (¬x.lo=x.hi):=Hd (fun e=>p0 (by rw[HR1.out,HR2.out,e]));by_cases p3:r1=0/\r2=999999999
    ·obtain⟨p1,p2⟩:=p3;have HP:Hid (x.lo.rank=0/\x.hi.rank=999999999):=Hd ⟨by rw[<-HR1.out];exact p1,by rw[<-HR2.out];exact p2⟩;have HBK:=HBC1;have HRK:=HRC;clear p0;go_upto_region 13 with fail;rw[<-HWC.out];clear c0 c1 c2 c3 c4 c5 c6 c7 p1 p2;go_wp2_with (at_builtin;refine wpList_append_own _ rfl _ _ 186 rfl w1.heap.size 9 i0 (.string ByteArray.empty) 1 16 Tryz.underlying186 hi ha0 ha1 ha2 rfl (by decide) _ _ _ rfl (World.ownsRow.alloc HRK.out _) ⟨wc.heap.size,0,none⟩ 1 1 [.string (bs [42])] rfl rfl (World.news_of_block (cs:=#[.string (bs [42])]) (heap_alloc_new _ _)) (fun x hx=>by simp at hx;subst hx;rfl) (by unfold maxLen;omega) (by omega) (by simp;omega) ?_;intro v7 w7 hown7 hgrow7 hnil7);go_wp2;have HB7:Hid (Below w1.heap.size w1 w7):=Hd (Below.grown (HBK.out.alloc HBK.out.size _) hgrow7 (by simp;omega) (fun g hg=>(World.ownsRow.lt HRK.out g hg).1))
     have HO7:Hid (w7.ownsRow w1.heap.size 9 1 v7 (k+1) ((l.take (k+1)).map (fun x=>Value.string (bs x.txt)))):=Hd (by
      have e:x.txt=[42]:=by unfold Sp.txt;rw[if_neg HNE.out,if_pos HP.out]
      rw[HNX.out,e];exact hown7)
     clear hown7 hgrow7 hnil7;go_roundw;case rel=>exact⟨k+1,by go_num,by omega,HO7.out,HB7.out⟩
     case measure=>simp[intOf];omega
    ·have HP:Hid (¬(x.lo.rank=0/\x.hi.rank=999999999)):=Hd (by rw[<-HR1.out,<-HR2.out];exact p3);by_cases p1:r1=0
     ·have p1b:(r1==0)=true:=beq_iff_eq.2 p1;have P1:Hid (x.lo.rank=0):=Hd (by rw[<-HR1.out];exact p1);have p2:¬r2=999999999:=fun e=>p3 ⟨p1,e⟩;have p2b:(r2==999999999)=false:=beq_eq_false_iff_ne.2 p2;clear p3;go_wp2_with fail;rw[<-HWC.out];go_wp2_with fail;refine(HPH.out _ (HBC.out)).mono ?_;rintro e w6 ⟨rfl,hb6⟩;have HBK:Hid (Below w1.heap.size w1 w6):=Hd (HBC1.out.trans (hb6.mono HBC1.out.size));have HRK:Hid (w6.ownsRow w1.heap.size 9 1 (.slice ao k co) k ((l.take k).map (fun x=>Value.string (bs x.txt)))):=Hd (bL HRC.out (fun j _ hj=>hb6.block j hj) nL);have hz6:=HBK.out.size;clear c0 c1 c2 c3 c4 c5 c6 c7 hb6;go_wp2_with (at_builtin;refine wpList_append_own _ rfl _ _ 186 rfl w1.heap.size 9 i0 (.string ByteArray.empty) 1 16 Tryz.underlying186 hi ha0 ha1 ha2 rfl (by decide) _ _ _ rfl (World.ownsRow.alloc HRK.out _) ⟨w6.heap.size,0,none⟩ 1 1 [.string (bs hi')] rfl rfl (World.news_of_block (cs:=#[.string (bs hi')]) (heap_alloc_new _ _)) (fun x hx=>by simp at hx;subst hx;rfl) (by unfold maxLen;omega) (by omega) (by simp;omega) ?_;intro v7 w7 hown7 hgrow7 hnil7)
      go_wp2;have HB7:Hid (Below w1.heap.size w1 w7):=Hd (Below.grown (HBK.out.alloc HBK.out.size _) hgrow7 (by simp;omega) (fun g hg=>(World.ownsRow.lt HRK.out g hg).1));have HO7:Hid (w7.ownsRow w1.heap.size 9 1 v7 (k+1) ((l.take (k+1)).map (fun x=>Value.string (bs x.txt)))):=Hd (by
       have e:x.txt=hi':=by unfold Sp.txt;rw[if_neg HNE.out,if_neg HP.out,if_pos P1.out,HHI.out,HHT.out]
       rw[HNX.out,e];exact hown7)
      clear hown7 hgrow7 hnil7;go_roundw;case rel=>exact⟨k+1,by go_num,by omega,HO7.out,HB7.out⟩
      case measure=>simp[intOf];omega
     ·have p1b:(r1==0)=false:=beq_eq_false_iff_ne.2 p1;have P1:Hid (¬x.lo.rank=0):=Hd (by rw[<-HR1.out];exact p1);by_cases p2:r2=999999999
      ·have p2b:(r2==999999999)=true:=beq_iff_eq.2 p2;have P2:Hid (x.hi.rank=999999999):=Hd (by rw[<-HR2.out];exact p2);clear p2 p3;go_wp2_with fail;rw[<-HWC.out];go_wp2_with fail;refine(HPL.out _ (HBC.out)).mono ?_;rintro e w6 ⟨rfl,hb6⟩;have HBK:Hid (Below w1.heap.size w1 w6):=Hd (HBC1.out.trans (hb6.mono HBC1.out.size));have HRK:Hid (w6.ownsRow w1.heap.size 9 1 (.slice ao k co) k ((l.take k).map (fun x=>Value.string (bs x.txt)))):=Hd (bL HRC.out (fun j _ hj=>hb6.block j hj) nL);have hz6:=HBK.out.size;clear c0 c1 c2 c3 c4 c5 c6 c7 hb6;go_wp2_with (at_builtin;refine wpList_append_own _ rfl _ _ 186 rfl w1.heap.size 9 i0 (.string ByteArray.empty) 1 16 Tryz.underlying186 hi ha0 ha1 ha2 rfl (by decide) _ _ _ rfl (World.ownsRow.alloc HRK.out _) ⟨w6.heap.size,0,none⟩ 1 1 [.string (bs lo')] rfl rfl (World.news_of_block (cs:=#[.string (bs lo')]) (heap_alloc_new _ _)) (fun x hx=>by simp at hx;subst hx;rfl) (by unfold maxLen;omega) (by omega) (by simp;omega) ?_;intro v7 w7 hown7 hgrow7 hnil7)
       go_wp2;have HB7:Hid (Below w1.heap.size w1 w7):=Hd (Below.grown (HBK.out.alloc HBK.out.size _) hgrow7 (by simp;omega) (fun g hg=>(World.ownsRow.lt HRK.out g hg).1));have HO7:Hid (w7.ownsRow w1.heap.size 9 1 v7 (k+1) ((l.take (k+1)).map (fun x=>Value.string (bs x.txt)))):=Hd (by
        have e:x.txt=lo':=by unfold Sp.txt;rw[if_neg HNE.out,if_neg HP.out,if_neg P1.out,if_pos P2.out,HLO.out,HLT.out]
        rw[HNX.out,e];exact hown7)
       clear hown7 hgrow7 hnil7;go_roundw;case rel=>exact⟨k+1,by go_num,by omega,HO7.out,HB7.out⟩
       case measure=>simp[intOf];omega
      ·have p2b:(r2==999999999)=false:=beq_eq_false_iff_ne.2 p2;have P2:Hid (¬x.hi.rank=999999999):=Hd (by rw[<-HR2.out];exact p2);clear p3;go_upto_region 9 with fail;rw[<-HWC.out];clear c0 c1 c2 c3 c4 c5 c6 c7;refine rG (fun w'=>w'.cell? ⟨w2.heap.size,0,none⟩=some (.int .i64 a)/\w'.cell? ⟨w2.heap.size,1,none⟩=some (.int .i64 b)/\w'.cell? ⟨w2.heap.size,2,none⟩=some (.int .i64 c)/\w'.cell? ⟨w3.heap.size,0,none⟩=some (.int .i64 a')/\w'.cell? ⟨w3.heap.size,1,none⟩=some (.int .i64 b')/\w'.cell? ⟨w3.heap.size,2,none⟩=some (.int .i64 c')) K9.out fun hU=>?_;refine aM [0,1,5] ?_;refine rd 2 fun K hK=>?_;go_simp;go_at_call 107;refine(HPL.out _ HBC.out.drew).mono ?_;rintro e w5 ⟨rfl,hb5⟩;have HB5:Hid (Below wc.heap.size wc w5):=Hd ((bR _ wc).drew.trans hb5);have kA:w5.cell? ⟨w2.heap.size,0,none⟩=some (.int .i64 a)/\w5.cell? ⟨w2.heap.size,1,none⟩=some (.int .i64 b)/\w5.cell? ⟨w2.heap.size,2,none⟩=some (.int .i64 c)/\w5.cell? ⟨w3.heap.size,0,none⟩=some (.int .i64 a')/\w5.cell? ⟨w3.heap.size,1,none⟩=some (.int .i64 b')/\w5.cell? ⟨w3.heap.size,2,none⟩=some (.int .i64 c'):=by
        obtain⟨_,_,h⟩:=HCELL.out w5 HB5.out;exact h
       clear hb5;refine hK.out _ _ kA fun hU=>?_;clear hK K;refine aM [3,4] ?_;refine rd 6 fun K hK=>?_;go_simp;go_at_call 107;refine(HPH.out _ (HBC.out.trans (HB5.out.mono HBC.out.size))).mono ?_;rintro e w6 ⟨rfl,hb6⟩;have HB6:Hid (Below wc.heap.size wc w6):=Hd (HB5.out.trans (hb6.mono HB5.out.size));have kB:w6.cell? ⟨w2.heap.size,0,none⟩=some (.int .i64 a)/\w6.cell? ⟨w2.heap.size,1,none⟩=some (.int .i64 b)/\w6.cell? ⟨w2.heap.size,2,none⟩=some (.int .i64 c)/\w6.cell? ⟨w3.heap.size,0,none⟩=some (.int .i64 a')/\w6.cell? ⟨w3.heap.size,1,none⟩=some (.int .i64 b')/\w6.cell? ⟨w3.heap.size,2,none⟩=some (.int .i64 c'):=by
        obtain⟨_,_,h⟩:=HCELL.out w6 HB6.out;exact h
       clear hb6;refine hK.out _ _ kB fun hU=>?_;clear hK K;refine aM [7] ?_;refine rd 8 fun K hK=>?_;go_simp;have kC:∀ob,(w6.alloc ob).cell? ⟨w2.heap.size,0,none⟩=some (.int .i64 a)/\(w6.alloc ob).cell? ⟨w2.heap.size,1,none⟩=some (.int .i64 b)/\(w6.alloc ob).cell? ⟨w2.heap.size,2,none⟩=some (.int .i64 c)/\(w6.alloc ob).cell? ⟨w3.heap.size,0,none⟩=some (.int .i64 a')/\(w6.alloc ob).cell? ⟨w3.heap.size,1,none⟩=some (.int .i64 b')/\(w6.alloc ob).cell? ⟨w3.heap.size,2,none⟩=some (.int .i64 c'):=fun ob=>by
        obtain⟨_,_,h⟩:=HCELL.out (w6.alloc ob) (HB6.out.alloc HB6.out.size _);exact h
       refine hK.out _ _ (kC _) fun hU=>?_;clear hK K;(try simp only[lay]);refine rd 9 fun K hK=>?_;obtain⟨wd,hwd⟩:=ex (w6.alloc (.cells #[.string (bs al')] 9));have HBD:Hid (Below wc.heap.size wc wd):=Hd (by rw[hwd];exact HB6.out.alloc HB6.out.size _);have HRD:Hid (wd.ownsRow w1.heap.size 9 1 (.slice ao k co) k ((l.take k).map (fun x=>Value.string (bs x.txt)))):=Hd (bL HRC.out (fun j _ hj=>HBD.out.block j hj) nL);have HNB:Hid (wd.heap[w6.heap.size]? =some (.cells #[.string (bs al')] 9 (0,0))):=Hd (by rw[hwd];exact heap_alloc_new w6 _);have HSD:Hid (wd.heap.size=w6.heap.size+1):=Hd (by rw[hwd];exact sA _ _);have HZ6:=Hd HB6.out.size;have hzz:=HBC1.out.size;have HWD:=Hd hwd;clear hwd;rw[<-HWD.out];refine step_append_lies wd (by rfl) _ _ _ (by rfl) w1.heap.size 9 i0 (.string ByteArray.empty) 1 16 Tryz.underlying186 hi ha0 ha1 ha2 rfl (by decide) (.slice ao k co) k _ (by rfl) HRD.out ⟨w6.heap.size,0,none⟩ 1 1 [.string (bs al')] (by rfl) (by rfl) (World.news_of_block (cs:=#[.string (bs al')]) (t:=9) (fr:=(0,0)) HNB.out) (by simp[Value.oneCell']) (by omega) (by unfold maxLen;omega) (by omega) (by have:=HSD.out;have:=HZ6.out;omega) (w6.heap.size+1) HSD.out ?_
       intro gn cn w7 hown7 hgrow7 hat7 hlt7;have hrl:∀g,(Value.slice ao k co).ownBlock=some g->w1.heap.size<=g/\g<wc.heap.size:=fun g hg=>World.ownsRow.lt HRC.out g hg;have HB7:Hid (Below w1.heap.size w1 w7):=Hd (Below.grown (HBC1.out.trans (HBD.out.mono HBC1.out.size)) hgrow7 (by have:=HSD.out;have:=HZ6.out;omega) (fun g hg=>by have:=hrl g hg;omega));have kE:w7.cell? ⟨w2.heap.size,0,none⟩=some (.int .i64 a)/\w7.cell? ⟨w2.heap.size,1,none⟩=some (.int .i64 b)/\w7.cell? ⟨w2.heap.size,2,none⟩=some (.int .i64 c)/\w7.cell? ⟨w3.heap.size,0,none⟩=some (.int .i64 a')/\w7.cell? ⟨w3.heap.size,1,none⟩=some (.int .i64 b')/\w7.cell? ⟨w3.heap.size,2,none⟩=some (.int .i64 c'):=by
        obtain⟨_,_,h0,h1,h2,h3,h4,h5⟩:=HCELL.out wd HBD.out;have hs2:=HS2.out;have hs3:=HS3.out;have hsd:=HSD.out;have hz:=HZ6.out;have hn2:some w2.heap.size≠(Value.slice ao k co).ownBlock:=fun e=>HF2.out e.symm;have hn3:some w3.heap.size≠(Value.slice ao k co).ownBlock:=fun e=>HF3.out e.symm;exact⟨(hgrow7.cell_far ⟨w2.heap.size,0,none⟩ (by show w2.heap.size<_;omega) hn2).trans h0,(hgrow7.cell_far ⟨w2.heap.size,1,none⟩ (by show w2.heap.size<_;omega) hn2).trans h1,(hgrow7.cell_far ⟨w2.heap.size,2,none⟩ (by show w2.heap.size<_;omega) hn2).trans h2,(hgrow7.cell_far ⟨w3.heap.size,0,none⟩ (by show w3.heap.size<_;omega) hn3).trans h3,(hgrow7.cell_far ⟨w3.heap.size,1,none⟩ (by show w3.heap.size<_;omega) hn3).trans h4,(hgrow7.cell_far ⟨w3.heap.size,2,none⟩ (by show w3.heap.size<_;omega) hn3).trans h5⟩
       have HO7:Hid (w7.ownsRow w1.heap.size 9 1 (.slice (some ⟨gn,0,none⟩) (k+1) cn) (k+1) ((l.take (k+1)).map (fun x=>Value.string (bs x.txt)))):=Hd (by
        have e:x.txt=al':=by unfold Sp.txt;rw[if_neg HNE.out,if_neg HP.out,if_neg P1.out,if_neg P2.out,HAL'.out,HMI'.out,HLO.out,HLT.out,HHT.out];simp
        rw[HNX.out,e];exact hown7)
       clear hown7 hgrow7 hat7 kA kB kC;refine hK.out _ _ kE fun hU=>?_;clear hK K;refine aM [10] ?_;refine dN ?_;clear kE hU;go_wp2;go_roundw;case rel=>exact⟨k+1,by go_num,by omega,HO7.out,HB7.out⟩
       case measure=>simp[intOf];omega
  ·have HF:Hid (l.take k=l):=Hd (List.take_of_length_le (by have:=HN.out;omega));have HKN:Hid (k=N):=Hd (by omega);by_cases h0:N=0
   ·have HT:Hid (jF l=[60,48,46,48,46,48]):=Hd (by
     have:l=[]:=List.length_eq_zero_iff.1 (by rw[<-HN.out];exact h0);rw[this];rfl)
    have hk0:k=0:=by omega
    subst hk0;go_wp2;go_returns;exact⟨by rw[HT.out];rfl,HB1.out.trans (hb.mono HB1.out.size)⟩
   ·have hk1:¬(k:Int)=0:=by omega
    have hk1b:((k:Int)==0)=false:=beq_eq_false_iff_ne.2 hk1;obtain⟨g,cap,hv,hg1,hg2⟩:=eU HOWN.out (by omega);cases hv;have hJ:=Tryz.strings_Join g 0 co (l.map fun x=>bs x.txt) ⟨#[32,124,124,32]⟩ wo (by
     intro j x hx;have hjl:j<l.length:=by have:=(gS hx).1;rw[lM]at this;exact this
     have hc:=HOWN.out.cells (g:=g) rfl j (.string x) (by
      rw[HF.out,gM];rw[gM]at hx;obtain⟨y,hy,rfl⟩:=Option.map_eq_some_iff.1 hx;rw[hy];rfl)
     have ea:(⟨g,0,none⟩:Addr).add j=⟨g,0+j,none⟩:=by unfold Addr.add;split<;>simp_all
     rw[ea]at hc;exact hc) hg2 (by rw[lM,<-HN.out];omega) (by
      rw[lM,<-HN.out];have h2:=HOWN.out.2;rcases h2 with⟨h,_⟩ | ⟨g',cap',cur,h,_,_,hnc,_⟩
      ·cases h
      ·cases h;omega) (by
      have h1:=uU l;have h2:kP l=Go.Lib.join ((l.map fun x=>bs x.txt).map (·.data.toList)) (⟨#[32,124,124,32]⟩:ByteArray).data.toList:=by
       unfold kP;rw[List.map_map];congr 1
      rw[<-h2];have:=HN.out;omega)
    have hJ2:Calls Tryz.prog 120 #[.slice (some ⟨g,0,none⟩) k co,.string ⟨#[32,124,124,32]⟩] wo fun e w'=>e=.returned (.string (bs (jF l)))/\Below wo.heap.size wo w':=by
     have h2:kP l=Go.Lib.join ((l.map fun x=>bs x.txt).map (·.data.toList)) (⟨#[32,124,124,32]⟩:ByteArray).data.toList:=by
      unfold kP;rw[List.map_map];congr 1
     rw[<-h2,lM,<-HN.out,<-HKN.out]at hJ;have h3:jF l=kP l:=by
      unfold jF;rw[if_neg (fun e=>h0 (by rw[HN.out,e];rfl))]
     rw[h3];exact hJ
    have HJ:=Hd hJ2;clear hJ hJ2;go_wp2_with fail;refine HJ.out.mono ?_;rintro e w9 ⟨rfl,hb9⟩;go_wp2;go_returns;exact⟨rfl,(HB1.out.trans (hb.mono HB1.out.size)).trans (hb9.mono (by have:=HB1.out.size;have:=hb.size;omega))⟩
end
end Go.Proofs.YtcohlmdnahdnaaaGreatDoor
